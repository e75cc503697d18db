/- The walk through the program's functions: each one's pure reading, and that a call does what it says. No conditions. -/
import Derived.Test.YtpmcbahahjelnaaM2
set_option linter.unusedVariables false
set_option linter.unusedSimpArgs false
namespace Go.Proofs.Ytpmcbahahjelnaa
open Go Go.Proofs

/-! ### (*fettle/check.looker).fits -/
abbrev check_looker_fits.R (r : Bool) (v : Value) (A : List FP) : Prop := .bool r = v ∧ A = []
def check_looker_fits.jn56 (a2 : PLooker) (a11 : PInstr) (x10830 : Bool) : Option Bool :=
  if x10830 = true then
    (check_looker_are a2 1 a11.args).bind fun x10831 =>
    some x10831
  else
    if a11.op = 17 then
      (check_looker_call a2 a11).bind fun x10832 =>
      some x10832
    else
      (check_looker_are a2 1 a11.args).bind fun x10833 =>
      (if x10833 = true then (check_looker_are a2 1 ([a11.dst])).bind fun x10838 =>
      some x10838 else some false).bind fun t10834 =>
      some t10834
def check_looker_fits.jn31 (a2 : PLooker) (a11 : PInstr) (x6822 : Bool) : Option Bool :=
  if x6822 = true then
    (check_looker_are a2 1 a11.args).bind fun x6823 =>
    (if x6823 = true then (check_looker_are a2 2 ([a11.dst])).bind fun x6828 =>
    some x6828 else some false).bind fun t6824 =>
    some t6824
  else
    if a11.op = 14 then
      (idx a11.args 0).bind fun x8030 =>
      (check_looker_are a2 2 ([x8030, a11.dst])).bind fun x10032 =>
      some x10032
    else
      if a11.op = 18 then
        check_looker_fits.jn56 a2 a11 (decide (a11.op = 18))
      else
        check_looker_fits.jn56 a2 a11 (decide (a11.op = 16))
def check_looker_fits (a2 : PLooker) (a11 : PInstr) : Option Bool :=
  if a11.op = 1 then
    (idx a2.f.regs a11.dst).bind fun x15 =>
    some (decide ((x15 = 1 ∨ a11.imm = 0) ∨ a11.imm = 1))
  else
    if a11.op = 2 then
      (idx a11.args 0).bind fun x3222 =>
      (idx a2.f.regs x3222).bind fun x4022 =>
      (check_looker_are a2 x4022 ([a11.dst])).bind fun x6024 =>
      some x6024
    else
      if a11.op = 12 then
        check_looker_fits.jn31 a2 a11 (decide (a11.op = 12))
      else
        check_looker_fits.jn31 a2 a11 (decide (a11.op = 13))
set_option maxHeartbeats 4000000 in
theorem check_looker_fits_ok {E : World} {H : FP} {w : World} {a2 : PLooker} {a11 : PInstr} {b1 : Nat} {o3 : Nat} {v5 : Value} {v7 : Value} {v9 : Value} {v12 : Value} {r : Bool} (h4 : CellsIn H b1 o3 [v5, .int .i64 a2.f.params, .int .i64 a2.f.result, v7, v9]) (h6 : SlI kFunc H a2.m.funcs v5) (h8 : SlI (kInt .i64) H a2.f.regs v7) (h10 : SlI kBlock H a2.f.blocks v9) (h13 : SlI (kInt .i64) H a11.args v12) (hp : check_looker_fits a2 a11 = some r) (hst : St E H [] w) :
    Fn Try.prog 104 #[.pointer (some ⟨b1, o3, none⟩), .agg #[.int .i64 a11.op, .int .i64 a11.dst, v12, .int .i64 a11.imm, .int .i64 a11.fn]] w fun v w' => ∃ A, check_looker_fits.R r v A ∧ St E H A w' := by
 refine fb 95 [.tmp 4] Try.func104 rfl rfl rfl rfl rfl hst <| sr <| tb [.int .i64 a11.op, .int .i64 a11.dst, v12, .int .i64 a11.imm, .int .i64 a11.fn] rfl rfl fun b14 => ta rfl <| nz <| TC.seq fun K1 k2 => sr <| tv (fa f52_0 rfl) rfl <| tv (lb s3 0 rfl rfl rfl) rfl <| nz <| TC.block <| sr <| tv (beq rfl rfl) rfl <| ta rfl <| nz <| cD rfl hp (fun hc3 hp => ?_) fun hc3 hp => ?_
 · refine TC.seq fun K4 k5 => cq mix (by kernel_rfl) <| qv mv rfl <| qv (rv_nilCheck rfl) rfl <| qv (fa f145_1 rfl) rfl <| qv (fa f41_2 rfl) rfl <| qv (lr s25 sH h4 3 rfl rfl) rfl <| qv (fa f52_1 rfl) rfl <| qv (lb s3 0 rfl rfl rfl) rfl <| qi u25 i3 h8 hp rfl rfl rfl rfl ?_
   rintro x15 b16 o17 _ hp rfl h20
   refine qv (lr s3 sH h20 0 rfl rfl) rfl <| qv (beq rfl rfl) rfl <| qv mv rfl <| QL.cut 4 fun K7 k8 => ?_
   have J9 {e11} : K7 (ovr e11 [(23, .bool (decide (x15 = 1 ∨ a11.imm = 0))), (3, .pointer (some ⟨b14, 0, none⟩))]) := by
    refine k8 _ <| qv mv rfl <| QL.cut 4 fun K12 k13 => ?_
    have J14 {e16} : K12 (ovr e16 [(28, .bool (decide ((x15 = 1 ∨ a11.imm = 0) ∨ a11.imm = 1)))]) := by
     exact k13 _ <| qv sg rfl <| QL.nil <| tg k5 <| TC.ret <| rt hp [] ⟨rfl, rfl⟩
    by_cases hc15 : x15 = 1 ∨ a11.imm = 0
    · exact qgn rfl (bT hc15) rfl rfl <| qgn rfl (bT hc15) rfl rfl <| qgn rfl (bT hc15) rfl rfl <| qv (pT (bT hc15)) rfl <| qj J14 (bOt hc15)
    · exact qgy rfl (bF hc15) <| qv (fa f52_3 rfl) rfl <| qgy rfl (bF hc15) <| qv (lb s2 0 rfl rfl rfl) rfl <| qgy rfl (bF hc15) <| qv (beq rfl rfl) rfl <| qv (pF (bF hc15)) rfl <| qj J14 (bOf hc15)
   by_cases hc10 : x15 = 1
   · exact qgn rfl (bT hc10) rfl rfl <| qgn rfl (bT hc10) rfl rfl <| qgn rfl (bT hc10) rfl rfl <| qv (pT (bT hc10)) rfl <| qj J9 (bOt hc10)
   · exact qgy rfl (bF hc10) <| qv (fa f52_3 rfl) rfl <| qgy rfl (bF hc10) <| qv (lb s2 0 rfl rfl rfl) rfl <| qgy rfl (bF hc10) <| qv (beq rfl rfl) rfl <| qv (pF (bF hc10)) rfl <| qj J9 (bOf hc10)
 · refine sr <| tv (beq rfl rfl) rfl <| ta rfl <| nz <| cD rfl hp (fun hc17 hp => ?_) fun hc17 hp => ?_
   · refine TC.seq fun K18 k19 => ch mix [bx b14 52 [.int .i64 a11.op, .int .i64 a11.dst, v12, .int .i64 a11.imm, .int .i64 a11.fn]] (srcG 0 rfl srcG0) <| hv 0 rfl mv (by kernel_rfl) rfl <| hv 1 rfl mv (by kernel_rfl) rfl <| hv 2 rfl (rv_nilCheck rfl) (by kernel_rfl) rfl <| hv 3 rfl (fa f145_1 rfl) (by kernel_rfl) rfl <| hv 4 rfl (fa f41_2 rfl) (by kernel_rfl) rfl <| hv 5 rfl (lr s25 srcInH h4 3 rfl rfl) (by kernel_rfl) rfl <| hv 6 rfl (fa f52_2 rfl) (by kernel_rfl) rfl <| hv 7 rfl (lbG s25 0 rfl rfl rfl) (by kernel_rfl) rfl <| hi 8 rfl u25 i3 h13 hp rfl rfl rfl (by kernel_rfl) rfl ?_
     rintro x3222 b3223 o3224 _ hp rfl h3227
     refine hv 9 rfl (lr s3 srcInH h3227 0 rfl rfl) (by kernel_rfl) rfl <| hi 10 rfl u25 i3 h8 hp rfl rfl rfl (by kernel_rfl) rfl ?_
     rintro x4022 b4023 o4024 _ hp rfl h4027
     refine hv 11 rfl (lr s3 srcInH h4027 0 rfl rfl) (by kernel_rfl) rfl <| hv 12 rfl (fa f52_1 rfl) (by kernel_rfl) rfl <| hv 13 rfl (lbG s3 0 rfl rfl rfl) (by kernel_rfl) rfl <| ho 14 rfl (by kernel_rfl) fun K22 k23 => tbs [(0, .int .i64 a11.dst)] [.int .i64 a11.dst] u25 i3 (by kernel_rfl) rfl rfl rfl rfl fun b5622 => hk k23 (srcG 1 rfl srcG0) <| ho 15 rfl (by kernel_rfl) fun K24 k25 => tf 1 0 [_,_,_] rfl <| TL.litOwn (n := 1) (xs := [a11.dst]) (RepL.to (RepL.cons (k := (kInt .i64)) (x := a11.dst) ⟨rfl, rfl⟩ RepL.nil) rfl) rfl rfl (ltb rfl) fun F6022 h6023 => bE hp fun x6024 hy26 hp => tc 0 [_,_] rfl c102 (fun _ => check_looker_are_ok (a2 := a2) (a11 := x4022) (a12 := [a11.dst]) (h4.mono subH) (h6.mono subH) (h8.mono subH) (h10.mono subH) (h6023.ro.mono (subB 0 rfl)) hy26) rfl ?_
     rintro _ _ ⟨rfl, rfl⟩
     exact hk k25 (srcG 1 rfl srcG0) <| hv 16 rfl sg (by kernel_rfl) rfl <| hz (by kernel_rfl) <| tg k19 <| TC.ret <| rt hp [] ⟨rfl, rfl⟩
   · refine TC.seq fun K28 k29 => ?_
     have J31 {x6822 e30} (hp : check_looker_fits.jn31 a2 a11 x6822 = some r) : ∀ w, St E H [bx b14 52 [.int .i64 a11.op, .int .i64 a11.dst, v12, .int .i64 a11.imm, .int .i64 a11.fn]] w → K28 (ovr e30 [(0, .pointer (some ⟨b1, o3, none⟩)), (3, .pointer (some ⟨b14, 0, none⟩)), (6, .int .i64 a11.op), (47, .bool x6822)]) w := by
      refine tg k29 <| cB rfl hp (fun hc32 hp => ?_) fun hc32 hp => ?_
      · refine sr <| tm rfl <| tv (fa f52_2 rfl) rfl <| tv (lb s25 0 rfl rfl rfl) rfl <| bE hp fun x6823 hy33 hp => tc 0 [_] rfl c102 (fun _ => check_looker_are_ok (a2 := a2) (a11 := 1) (a12 := a11.args) (h4.mono subH) (h6.mono subH) (h8.mono subH) (h10.mono subH) (h13.mono subH) hy33) rfl ?_
        rintro _ _ ⟨rfl, rfl⟩
        refine tm rfl <| bE hp fun t6824 ht40 hp => TL.cut 6 fun K35 k36 => ?_
        have J37 {e39} : ∀ w, St E H [bx b14 52 [.int .i64 a11.op, .int .i64 a11.dst, v12, .int .i64 a11.imm, .int .i64 a11.fn]] w → K35 (ovr e39 [(60, .bool t6824)]) w := by
         exact tlg k36 <| ta rfl <| nz <| TC.ret <| rt hp [] ⟨rfl, rfl⟩
        refine ifE ht40 (fun hc38 hp => ?_) fun hc38 hp => ?_
        · refine gy rfl (bbT hc38) <| tm rfl <| gy rfl (bbT hc38) <| tv (fa f52_1 rfl) rfl <| gy rfl (bbT hc38) <| tv (lb s3 0 rfl rfl rfl) rfl <| gy rfl (bbT hc38) <| tbs [(0, .int .i64 a11.dst)] [.int .i64 a11.dst] u25 i3 (by kernel_rfl) rfl rfl rfl rfl fun b6825 => gy rfl (bbT hc38) <| tf 1 0 [_,_,_] rfl <| TL.litOwn (n := 1) (xs := [a11.dst]) (RepL.to (RepL.cons (k := (kInt .i64)) (x := a11.dst) ⟨rfl, rfl⟩ RepL.nil) rfl) rfl rfl (ltb rfl) fun F6826 h6827 => bE hp fun x6828 hy41 hp => tc 0 [_,_] rfl c102 (fun _ => check_looker_are_ok (a2 := a2) (a11 := 2) (a12 := [a11.dst]) (h4.mono subH) (h6.mono subH) (h8.mono subH) (h10.mono subH) (h6827.ro.mono (subB 0 rfl)) hy41) rfl ?_
          rintro _ _ ⟨rfl, rfl⟩
          refine tv (pT (bbT hc38)) rfl <| tp [1] [_] rfl rfl ?_
          obtain rfl := Option.some.inj hp
          exact nj J37 rfl
        · refine gn rfl (bbF hc38) rfl rfl <| gn rfl (bbF hc38) rfl rfl <| gn rfl (bbF hc38) rfl rfl <| gn rfl (bbF hc38) rfl rfl <| gn rfl (bbF hc38) rfl rfl <| tv (pF (bbF hc38)) rfl ?_
          obtain rfl := Option.some.inj hp
          exact nj J37 rfl
      · refine sr <| tv (beq rfl rfl) rfl <| ta rfl <| nz <| cD rfl hp (fun hc43 hp => ?_) fun hc43 hp => ?_
        · refine TC.seq fun K44 k45 => ch mix [bx b14 52 [.int .i64 a11.op, .int .i64 a11.dst, v12, .int .i64 a11.imm, .int .i64 a11.fn]] (srcG 0 rfl srcG0) <| hv 0 rfl mv (by kernel_rfl) rfl <| hv 1 rfl (fa f52_2 rfl) (by kernel_rfl) rfl <| hv 2 rfl (lbG s25 0 rfl rfl rfl) (by kernel_rfl) rfl <| hi 3 rfl u25 i3 h13 hp rfl rfl rfl (by kernel_rfl) rfl ?_
          rintro x8030 b8031 o8032 _ hp rfl h8035
          refine hv 4 rfl (lr s3 srcInH h8035 0 rfl rfl) (by kernel_rfl) rfl <| hv 5 rfl (fa f52_1 rfl) (by kernel_rfl) rfl <| hv 6 rfl (lbG s3 0 rfl rfl rfl) (by kernel_rfl) rfl <| ho 7 rfl (by kernel_rfl) fun K47 k48 => tbs [(0, .int .i64 x8030), (1, .int .i64 a11.dst)] [.int .i64 x8030, .int .i64 a11.dst] u25 i3 (by kernel_rfl) rfl rfl rfl rfl fun b9630 => hk k48 (srcG 1 rfl srcG0) <| ho 8 rfl (by kernel_rfl) fun K49 k50 => tf 1 0 [_,_,_] rfl <| TL.litOwn (n := 2) (xs := [x8030, a11.dst]) (RepL.to (RepL.cons (k := (kInt .i64)) (x := x8030) ⟨rfl, rfl⟩ (RepL.cons (k := (kInt .i64)) (x := a11.dst) ⟨rfl, rfl⟩ RepL.nil)) rfl) rfl rfl (ltb rfl) fun F10030 h10031 => bE hp fun x10032 hy51 hp => tc 0 [_,_] rfl c102 (fun _ => check_looker_are_ok (a2 := a2) (a11 := 2) (a12 := [x8030, a11.dst]) (h4.mono subH) (h6.mono subH) (h8.mono subH) (h10.mono subH) (h10031.ro.mono (subB 0 rfl)) hy51) rfl ?_
          rintro _ _ ⟨rfl, rfl⟩
          exact hk k50 (srcG 1 rfl srcG0) <| hv 9 rfl sg (by kernel_rfl) rfl <| hz (by kernel_rfl) <| tg k45 <| TC.ret <| rt hp [] ⟨rfl, rfl⟩
        · refine TC.seq fun K53 k54 => ?_
          have J56 {x10830 e55} (hp : check_looker_fits.jn56 a2 a11 x10830 = some r) : ∀ w, St E H [bx b14 52 [.int .i64 a11.op, .int .i64 a11.dst, v12, .int .i64 a11.imm, .int .i64 a11.fn]] w → K53 (ovr e55 [(0, .pointer (some ⟨b1, o3, none⟩)), (3, .pointer (some ⟨b14, 0, none⟩)), (6, .int .i64 a11.op), (72, .bool x10830)]) w := by
           refine tg k54 <| cB rfl hp (fun hc57 hp => ?_) fun hc57 hp => ?_
           · refine sr <| tm rfl <| tv (fa f52_2 rfl) rfl <| tv (lb s25 0 rfl rfl rfl) rfl <| bE hp fun x10831 hy58 hp => tc 0 [_] rfl c102 (fun _ => check_looker_are_ok (a2 := a2) (a11 := 1) (a12 := a11.args) (h4.mono subH) (h6.mono subH) (h8.mono subH) (h10.mono subH) (h13.mono subH) hy58) rfl ?_
             rintro _ _ ⟨rfl, rfl⟩
             exact ta rfl <| nz <| TC.ret <| rt hp [] ⟨rfl, rfl⟩
           · refine sr <| tv (beq rfl rfl) rfl <| ta rfl <| nz <| cD rfl hp (fun hc60 hp => ?_) fun hc60 hp => ?_
             · refine sr <| tm rfl <| tv (lA (ds := [.int .i64 a11.op, .int .i64 a11.dst, v12, .int .i64 a11.imm, .int .i64 a11.fn]) ag_52 0 rfl rfl rfl rfl) rfl <| bE hp fun x10832 hy61 hp => tc 0 [_] rfl c107 (fun _ => check_looker_call_ok (a2 := a2) (a11 := a11) (h4.mono subH) (h6.mono subH) (h8.mono subH) (h10.mono subH) (h13.mono subH) hy61) rfl ?_
               rintro _ _ ⟨rfl, rfl⟩
               exact ta rfl <| nz <| TC.ret <| rt hp [] ⟨rfl, rfl⟩
             · refine sk k2 rfl <| sr <| tm rfl <| tv (fa f52_2 rfl) rfl <| tv (lb s25 0 rfl rfl rfl) rfl <| bE hp fun x10833 hy63 hp => tc 0 [_] rfl c102 (fun _ => check_looker_are_ok (a2 := a2) (a11 := 1) (a12 := a11.args) (h4.mono subH) (h6.mono subH) (h8.mono subH) (h10.mono subH) (h13.mono subH) hy63) rfl ?_
               rintro _ _ ⟨rfl, rfl⟩
               refine tm rfl <| bE hp fun t10834 ht70 hp => TL.cut 6 fun K65 k66 => ?_
               have J67 {e69} : ∀ w, St E H [bx b14 52 [.int .i64 a11.op, .int .i64 a11.dst, v12, .int .i64 a11.imm, .int .i64 a11.fn]] w → K65 (ovr e69 [(94, .bool t10834)]) w := by
                exact tlg k66 <| ta rfl <| nz <| TC.ret <| rt hp [] ⟨rfl, rfl⟩
               refine ifE ht70 (fun hc68 hp => ?_) fun hc68 hp => ?_
               · refine gy rfl (bbT hc68) <| tm rfl <| gy rfl (bbT hc68) <| tv (fa f52_1 rfl) rfl <| gy rfl (bbT hc68) <| tv (lb s3 0 rfl rfl rfl) rfl <| gy rfl (bbT hc68) <| tbs [(0, .int .i64 a11.dst)] [.int .i64 a11.dst] u25 i3 (by kernel_rfl) rfl rfl rfl rfl fun b10835 => gy rfl (bbT hc68) <| tf 1 0 [_,_,_] rfl <| TL.litOwn (n := 1) (xs := [a11.dst]) (RepL.to (RepL.cons (k := (kInt .i64)) (x := a11.dst) ⟨rfl, rfl⟩ RepL.nil) rfl) rfl rfl (ltb rfl) fun F10836 h10837 => bE hp fun x10838 hy71 hp => tc 0 [_,_] rfl c102 (fun _ => check_looker_are_ok (a2 := a2) (a11 := 1) (a12 := [a11.dst]) (h4.mono subH) (h6.mono subH) (h8.mono subH) (h10.mono subH) (h10837.ro.mono (subB 0 rfl)) hy71) rfl ?_
                 rintro _ _ ⟨rfl, rfl⟩
                 refine tv (pT (bbT hc68)) rfl <| tp [1] [_] rfl rfl ?_
                 obtain rfl := Option.some.inj hp
                 exact nj J67 rfl
               · refine gn rfl (bbF hc68) rfl rfl <| gn rfl (bbF hc68) rfl rfl <| gn rfl (bbF hc68) rfl rfl <| gn rfl (bbF hc68) rfl rfl <| gn rfl (bbF hc68) rfl rfl <| tv (pF (bbF hc68)) rfl ?_
                 obtain rfl := Option.some.inj hp
                 exact nj J67 rfl
          refine sr <| tv (beq rfl rfl) rfl <| ta rfl <| nz <| cD rfl hp (fun hc73 hp => ?_) fun hc73 hp => ?_
          · exact TC.skip <| jn [0] (J56 hp)
          · exact TC.region <| tv (beq rfl rfl) rfl <| ta rfl <| nl <| jn [0] (J56 hp)
     refine sr <| tv (beq rfl rfl) rfl <| ta rfl <| nz <| cD rfl hp (fun hc74 hp => ?_) fun hc74 hp => ?_
     · exact TC.skip <| jn [0] (J31 hp)
     · exact TC.region <| tv (beq rfl rfl) rfl <| ta rfl <| nl <| jn [0] (J31 hp)

/-! ### (*fettle/check.looker).instr -/
abbrev check_looker_instr.R (r : GErr) (v : Value) (A : List FP) : Prop := ∃ (w1 : Value) (G1 : FP), w1 = v ∧ A = [G1] ∧ ErO 63 106 108 r w1 G1
def check_looker_instr (a2 : PLooker) (a11 : PInstr) : Option GErr :=
  (check_looker_arity a2 a11).bind fun x15 =>
  if ¬ x15.2.2 = GErr.no then
    some x15.2.2
  else
    if ¬ (len a11.args) = x15.1 then
      some (GErr.code 6)
    else
      (check_looker_has a2 a11.args).bind fun x20 =>
      (if (!x20) = true then some true else (if ¬ (x15.2.1 = 0) then (check_looker_has a2 ([a11.dst])).bind fun x31 =>
      some (!x31) else some false).bind fun t27 =>
      some t27).bind fun t21 =>
      if t21 = true then
        some (GErr.code 4)
      else
        (if ((x15.2.1 = 0 ∧ (¬ a11.dst = -1)) ∨ ((¬ a11.op = 1) ∧ (¬ a11.imm = 0))) ∨ ((¬ a11.op = 17) ∧ (¬ a11.fn = 0)) then some true else (check_looker_fits a2 a11).bind fun x26 =>
        some (!x26)).bind fun t23 =>
        if t23 = true then
          some (GErr.code 3)
        else
          some GErr.no
set_option maxHeartbeats 4000000 in
theorem check_looker_instr_ok {E : World} {H : FP} {w : World} {a2 : PLooker} {a11 : PInstr} {b1 : Nat} {o3 : Nat} {v5 : Value} {v7 : Value} {v9 : Value} {v12 : Value} {r : GErr} (h4 : CellsIn H b1 o3 [v5, .int .i64 a2.f.params, .int .i64 a2.f.result, v7, v9]) (h6 : SlI kFunc H a2.m.funcs v5) (h8 : SlI (kInt .i64) H a2.f.regs v7) (h10 : SlI kBlock H a2.f.blocks v9) (h13 : SlI (kInt .i64) H a11.args v12) (hp : check_looker_instr a2 a11 = some r) (hst : St E H [] w) :
    Fn Try.prog 97 #[.pointer (some ⟨b1, o3, none⟩), .agg #[.int .i64 a11.op, .int .i64 a11.dst, v12, .int .i64 a11.imm, .int .i64 a11.fn]] w fun v w' => ∃ A, check_looker_instr.R r v A ∧ St E H A w' := by
 refine fb 82 [.tmp 4] Try.func97 rfl rfl rfl rfl rfl hst <| sr <| tb [.int .i64 a11.op, .int .i64 a11.dst, v12, .int .i64 a11.imm, .int .i64 a11.fn] rfl rfl fun b14 => ta rfl <| nz <| sr <| tm rfl <| tv (lA (ds := [.int .i64 a11.op, .int .i64 a11.dst, v12, .int .i64 a11.imm, .int .i64 a11.fn]) ag_52 0 rfl rfl rfl rfl) rfl <| bE hp fun x15 hy1 hp => tc 0 [_] rfl c103 (fun _ => check_looker_arity_ok (a2 := a2) (a11 := a11) (h4.mono subH) (h6.mono subH) (h8.mono subH) (h10.mono subH) (h13.mono subH) hy1) rfl ?_
 rintro _ _ ⟨v16, F17, rfl, rfl, h18⟩
 refine tm rfl <| tv (xt rfl rfl) rfl <| tv (xt rfl rfl) rfl <| tv (xt rfl rfl) rfl <| ta rfl <| ta rfl <| ta rfl <| nz <| sr <| tm rfl <| tv (beq rfl rfl) rfl <| ta rfl <| nz <| TC.seq fun K3 k4 => TC.block <| sr <| tm rfl <| tv (rv_neqEN ifc_27 h18 rfl) rfl <| ta rfl <| nz <| cD rfl hp (fun hc5 hp => ?_) fun hc5 hp => ?_
 · exact sr <| tm rfl <| ta rfl <| nz <| TC.ret <| rt hp [0] ⟨v16, F17, rfl, rfl, h18⟩
 · refine sr <| tv (fa f52_2 rfl) rfl <| tv (lb s25 1 rfl rfl rfl) rfl <| tv (ln u25 h13 rfl) rfl <| tm rfl <| tv (bne rfl rfl) rfl <| ta rfl <| nz <| cD rfl hp (fun hc6 hp => ?_) fun hc6 hp => ?_
   · exact sr <| tv (mI u63 rfl) rfl <| ta rfl <| nz <| TC.ret <| W.new0 <| rt hp [0] ⟨(.iface 63 (.int .i64 6)), ([] : FP), rfl, rfl, (ErO.mk _ : ErO 63 106 108 (GErr.code 6) (.iface 63 (.int .i64 6)) [])⟩
   · refine sr <| tm rfl <| tv (fa f52_2 rfl) rfl <| tv (lb s25 1 rfl rfl rfl) rfl <| bE hp fun x20 hy7 hp => tc 0 [_,_] rfl c101 (fun _ => check_looker_has_ok (a2 := a2) (a11 := a11.args) (h4.mono subH) (h6.mono subH) (h8.mono subH) (h10.mono subH) (h13.mono subH) hy7) rfl ?_
     rintro _ _ ⟨rfl, rfl⟩
     refine tv (rv_not rfl) rfl <| tm rfl <| bE hp fun t21 ht49 hp => TL.cut 11 fun K9 k10 => ?_
     have J11 {e13} : ∀ w, St E H [F17, bx b14 52 [.int .i64 a11.op, .int .i64 a11.dst, v12, .int .i64 a11.imm, .int .i64 a11.fn]] w → K9 (ovr e13 [(46, .bool t21), (0, .pointer (some ⟨b1, o3, none⟩)), (3, .pointer (some ⟨b14, 0, none⟩)), (8, .bool (decide (x15.2.1 = 0)))]) w := by
      refine tlg k10 <| ta rfl <| nz <| cB rfl hp (fun hc14 hp => ?_) fun hc14 hp => ?_
      · exact sr <| tv (mI u63 rfl) rfl <| ta rfl <| nz <| TC.ret <| W.new0 <| rt hp [0] ⟨(.iface 63 (.int .i64 4)), ([] : FP), rfl, rfl, (ErO.mk _ : ErO 63 106 108 (GErr.code 4) (.iface 63 (.int .i64 4)) [])⟩
      · refine sr <| tm rfl <| tm rfl <| TL.cut 4 fun K15 k16 => ?_
        have J17 {e19} : ∀ w, St E H [F17, bx b14 52 [.int .i64 a11.op, .int .i64 a11.dst, v12, .int .i64 a11.imm, .int .i64 a11.fn]] w → K15 (ovr e19 [(54, .bool (decide (x15.2.1 = 0 ∧ (¬ a11.dst = -1)))), (0, .pointer (some ⟨b1, o3, none⟩)), (3, .pointer (some ⟨b14, 0, none⟩))]) w := by
         refine tlg k16 <| tm rfl <| TL.cut 9 fun K20 k21 => ?_
         have J22 {e24} : ∀ w, St E H [F17, bx b14 52 [.int .i64 a11.op, .int .i64 a11.dst, v12, .int .i64 a11.imm, .int .i64 a11.fn]] w → K20 (ovr e24 [(64, .bool (decide ((x15.2.1 = 0 ∧ (¬ a11.dst = -1)) ∨ ((¬ a11.op = 1) ∧ (¬ a11.imm = 0))))), (0, .pointer (some ⟨b1, o3, none⟩)), (3, .pointer (some ⟨b14, 0, none⟩))]) w := by
          refine tlg k21 <| tm rfl <| TL.cut 9 fun K25 k26 => ?_
          have J27 {e29} : ∀ w, St E H [F17, bx b14 52 [.int .i64 a11.op, .int .i64 a11.dst, v12, .int .i64 a11.imm, .int .i64 a11.fn]] w → K25 (ovr e29 [(74, .bool (decide (((x15.2.1 = 0 ∧ (¬ a11.dst = -1)) ∨ ((¬ a11.op = 1) ∧ (¬ a11.imm = 0))) ∨ ((¬ a11.op = 17) ∧ (¬ a11.fn = 0))))), (0, .pointer (some ⟨b1, o3, none⟩)), (3, .pointer (some ⟨b14, 0, none⟩))]) w := by
           refine tlg k26 <| tm rfl <| bE hp fun t23 ht36 hp => TL.cut 5 fun K30 k31 => ?_
           have J32 {e34} : ∀ w, St E H [F17, bx b14 52 [.int .i64 a11.op, .int .i64 a11.dst, v12, .int .i64 a11.imm, .int .i64 a11.fn]] w → K30 (ovr e34 [(80, .bool t23)]) w := by
            refine tlg k31 <| ta rfl <| nz <| cB rfl hp (fun hc35 hp => ?_) fun hc35 hp => ?_
            · exact sr <| tv (mI u63 rfl) rfl <| ta rfl <| nz <| TC.ret <| W.new0 <| rt hp [0] ⟨(.iface 63 (.int .i64 3)), ([] : FP), rfl, rfl, (ErO.mk _ : ErO 63 106 108 (GErr.code 3) (.iface 63 (.int .i64 3)) [])⟩
            · exact sk k4 rfl <| sr <| ta rfl <| nz <| TC.ret <| W.new0 <| rt hp [0] ⟨.nilIface, ([] : FP), rfl, rfl, (ErO.nil : ErO 63 106 108 GErr.no .nilIface [])⟩
           refine ifE ht36 (fun hc33 hp => ?_) fun hc33 hp => ?_
           · refine gn rfl (bT hc33) rfl rfl <| gn rfl (bT hc33) rfl rfl <| gn rfl (bT hc33) rfl rfl <| gn rfl (bT hc33) rfl rfl <| tv (pT (bT hc33)) rfl ?_
             obtain rfl := Option.some.inj hp
             exact nj J32 rfl
           · refine gy rfl (bF hc33) <| tm rfl <| gy rfl (bF hc33) <| tv (lA (ds := [.int .i64 a11.op, .int .i64 a11.dst, v12, .int .i64 a11.imm, .int .i64 a11.fn]) ag_52 1 rfl rfl rfl rfl) rfl <| gy rfl (bF hc33) <| bE hp fun x26 hy37 hp => tc 0 [_,_] rfl c104 (fun _ => check_looker_fits_ok (a2 := a2) (a11 := a11) (h4.mono subH) (h6.mono subH) (h8.mono subH) (h10.mono subH) (h13.mono subH) hy37) rfl ?_
             rintro _ _ ⟨rfl, rfl⟩
             refine gy rfl (bF hc33) <| tv (rv_not rfl) rfl <| tv (pF (bF hc33)) rfl ?_
             obtain rfl := Option.some.inj hp
             exact nj J32 rfl
          by_cases hc28 : (x15.2.1 = 0 ∧ (¬ a11.dst = -1)) ∨ ((¬ a11.op = 1) ∧ (¬ a11.imm = 0))
          · exact gn rfl (bT hc28) rfl rfl <| gn rfl (bT hc28) rfl rfl <| gn rfl (bT hc28) rfl rfl <| gn rfl (bT hc28) rfl rfl <| gu rfl rfl rfl <| gu rfl rfl rfl <| gu rfl rfl rfl <| gn rfl (bT hc28) rfl rfl <| tv (pT (bT hc28)) rfl <| nj J27 (bOt hc28)
          · refine gy rfl (bF hc28) <| tv (fa f52_0 rfl) rfl <| gy rfl (bF hc28) <| tv (lb s3 1 rfl rfl rfl) rfl <| gy rfl (bF hc28) <| tv (bne rfl rfl) rfl <| gy rfl (bF hc28) <| tm rfl <| TL.cut 4 fun K39 k40 => ?_
            have J41 {e43} : ∀ w, St E H [F17, bx b14 52 [.int .i64 a11.op, .int .i64 a11.dst, v12, .int .i64 a11.imm, .int .i64 a11.fn]] w → K39 (ovr e43 [(73, .bool (decide ((¬ a11.op = 17) ∧ (¬ a11.fn = 0)))), (0, .pointer (some ⟨b1, o3, none⟩)), (3, .pointer (some ⟨b14, 0, none⟩)), (65, .bool (decide ((x15.2.1 = 0 ∧ (¬ a11.dst = -1)) ∨ ((¬ a11.op = 1) ∧ (¬ a11.imm = 0)))))]) w := by
             exact tlg k40 <| tv (pF (bF hc28)) rfl <| nj J27 (bOf hc28)
            by_cases hc42 : ¬ a11.op = 17
            · exact gy rfl (bT hc42) <| tv (fa f52_4 rfl) rfl <| gy rfl (bT hc42) <| tv (lb s3 1 rfl rfl rfl) rfl <| gy rfl (bT hc42) <| tv (bne rfl rfl) rfl <| gy rfl (bF hc28) <| tv (pT (bT hc42)) rfl <| nj J41 (bAt hc42)
            · exact gn rfl (bF hc42) rfl rfl <| gn rfl (bF hc42) rfl rfl <| gn rfl (bF hc42) rfl rfl <| gy rfl (bF hc28) <| tv (pF (bF hc42)) rfl <| nj J41 (bAf hc42)
         by_cases hc23 : x15.2.1 = 0 ∧ (¬ a11.dst = -1)
         · exact gn rfl (bT hc23) rfl rfl <| gn rfl (bT hc23) rfl rfl <| gn rfl (bT hc23) rfl rfl <| gn rfl (bT hc23) rfl rfl <| gu rfl rfl rfl <| gu rfl rfl rfl <| gu rfl rfl rfl <| gn rfl (bT hc23) rfl rfl <| tv (pT (bT hc23)) rfl <| nj J22 (bOt hc23)
         · refine gy rfl (bF hc23) <| tv (fa f52_0 rfl) rfl <| gy rfl (bF hc23) <| tv (lb s3 1 rfl rfl rfl) rfl <| gy rfl (bF hc23) <| tv (bne rfl rfl) rfl <| gy rfl (bF hc23) <| tm rfl <| TL.cut 4 fun K44 k45 => ?_
           have J46 {e48} : ∀ w, St E H [F17, bx b14 52 [.int .i64 a11.op, .int .i64 a11.dst, v12, .int .i64 a11.imm, .int .i64 a11.fn]] w → K44 (ovr e48 [(63, .bool (decide ((¬ a11.op = 1) ∧ (¬ a11.imm = 0)))), (0, .pointer (some ⟨b1, o3, none⟩)), (3, .pointer (some ⟨b14, 0, none⟩)), (55, .bool (decide (x15.2.1 = 0 ∧ (¬ a11.dst = -1))))]) w := by
            exact tlg k45 <| tv (pF (bF hc23)) rfl <| nj J22 (bOf hc23)
           by_cases hc47 : ¬ a11.op = 1
           · exact gy rfl (bT hc47) <| tv (fa f52_3 rfl) rfl <| gy rfl (bT hc47) <| tv (lb s2 1 rfl rfl rfl) rfl <| gy rfl (bT hc47) <| tv (bne rfl rfl) rfl <| gy rfl (bF hc23) <| tv (pT (bT hc47)) rfl <| nj J46 (bAt hc47)
           · exact gn rfl (bF hc47) rfl rfl <| gn rfl (bF hc47) rfl rfl <| gn rfl (bF hc47) rfl rfl <| gy rfl (bF hc23) <| tv (pF (bF hc47)) rfl <| nj J46 (bAf hc47)
        by_cases hc18 : x15.2.1 = 0
        · exact gy rfl (bT hc18) <| tv (fa f52_1 rfl) rfl <| gy rfl (bT hc18) <| tv (lb s3 1 rfl rfl rfl) rfl <| gy rfl (bT hc18) <| tv (bne rfl rfl) rfl <| tv (pT (bT hc18)) rfl <| nj J17 (bAt hc18)
        · exact gn rfl (bF hc18) rfl rfl <| gn rfl (bF hc18) rfl rfl <| gn rfl (bF hc18) rfl rfl <| tv (pF (bF hc18)) rfl <| nj J17 (bAf hc18)
     refine ifE ht49 (fun hc12 hp => ?_) fun hc12 hp => ?_
     · refine gn rfl (bbT hc12) rfl rfl <| gn rfl (bbT hc12) rfl rfl <| gn rfl (bbT hc12) rfl rfl <| gu rfl rfl rfl <| gu rfl rfl rfl <| gu rfl rfl rfl <| gu rfl rfl rfl <| gu rfl rfl rfl <| gu rfl rfl rfl <| gn rfl (bbT hc12) rfl rfl <| tv (pT (bbT hc12)) rfl ?_
       obtain rfl := Option.some.inj hp
       exact nj J11 rfl
     · refine gy rfl (bbF hc12) <| tm rfl <| gy rfl (bbF hc12) <| tv (rv_notD (p := x15.2.1 = 0) rfl) rfl <| gy rfl (bbF hc12) <| tm rfl <| bE hp fun t27 ht55 hp => TL.cut 7 fun K50 k51 => ?_
       have J52 {e54} : ∀ w, St E H [F17, bx b14 52 [.int .i64 a11.op, .int .i64 a11.dst, v12, .int .i64 a11.imm, .int .i64 a11.fn]] w → K50 (ovr e54 [(45, .bool t27), (0, .pointer (some ⟨b1, o3, none⟩)), (3, .pointer (some ⟨b14, 0, none⟩)), (8, .bool (decide (x15.2.1 = 0))), (35, .bool (!x20))]) w := by
        refine tlg k51 <| tv (pF (bbF hc12)) rfl ?_
        obtain rfl := Option.some.inj hp
        exact nj J11 rfl
       refine ifE ht55 (fun hc53 hp => ?_) fun hc53 hp => ?_
       · refine gy rfl (bT hc53) <| tm rfl <| gy rfl (bT hc53) <| tv (fa f52_1 rfl) rfl <| gy rfl (bT hc53) <| tv (lb s3 1 rfl rfl rfl) rfl <| gy rfl (bT hc53) <| tbs [(0, .int .i64 a11.dst)] [.int .i64 a11.dst] u25 i3 (by kernel_rfl) rfl rfl rfl rfl fun b28 => gy rfl (bT hc53) <| tf 1 0 [_,_,_,_] rfl <| TL.litOwn (n := 1) (xs := [a11.dst]) (RepL.to (RepL.cons (k := (kInt .i64)) (x := a11.dst) ⟨rfl, rfl⟩ RepL.nil) rfl) rfl rfl (ltb rfl) fun F29 h30 => bE hp fun x31 hy56 hp => tc 0 [_,_,_] rfl c101 (fun _ => check_looker_has_ok (a2 := a2) (a11 := [a11.dst]) (h4.mono subH) (h6.mono subH) (h8.mono subH) (h10.mono subH) (h30.ro.mono (subB 0 rfl)) hy56) rfl ?_
         rintro _ _ ⟨rfl, rfl⟩
         refine gy rfl (bT hc53) <| tv (rv_not rfl) rfl <| gy rfl (bbF hc12) <| tv (pT (bT hc53)) rfl <| tp [1, 2] [_,_] rfl rfl ?_
         obtain rfl := Option.some.inj hp
         exact nj J52 rfl
       · refine gn rfl (bF hc53) rfl rfl <| gn rfl (bF hc53) rfl rfl <| gn rfl (bF hc53) rfl rfl <| gn rfl (bF hc53) rfl rfl <| gn rfl (bF hc53) rfl rfl <| gn rfl (bF hc53) rfl rfl <| gy rfl (bbF hc12) <| tv (pF (bF hc53)) rfl ?_
         obtain rfl := Option.some.inj hp
         exact nj J52 rfl

/-! ### (*fettle/check.looker).end -/
abbrev check_looker_end.R (r : GErr) (v : Value) (A : List FP) : Prop := ∃ (w1 : Value) (G1 : FP), w1 = v ∧ A = [G1] ∧ ErO 63 106 108 r w1 G1
def check_looker_end.jn15 (a2 : PLooker) (a11 : PTerm) (x17 : Int) : Option GErr :=
  (check_looker_has a2 ([a11.arg])).bind fun x21 =>
  if (!x21) = true then
    some (GErr.code 4)
  else
    (check_looker_are a2 x17 ([a11.arg])).bind fun x26 =>
    if (!x26) = true then
      some (GErr.code 3)
    else
      some GErr.no
def check_looker_end (a2 : PLooker) (a11 : PTerm) : Option GErr :=
  if a11.kind = 1 ∨ (a11.kind = 3 ∧ a2.f.result = 0) then
    if ¬ a11.arg = -1 then
      some (GErr.code 3)
    else
      some GErr.no
  else
    if a11.kind = 3 then
      check_looker_end.jn15 a2 a11 a2.f.result
    else
      check_looker_end.jn15 a2 a11 2
set_option maxHeartbeats 4000000 in
theorem check_looker_end_ok {E : World} {H : FP} {w : World} {a2 : PLooker} {a11 : PTerm} {b1 : Nat} {o3 : Nat} {v5 : Value} {v7 : Value} {v9 : Value} {v12 : Value} {r : GErr} (h4 : CellsIn H b1 o3 [v5, .int .i64 a2.f.params, .int .i64 a2.f.result, v7, v9]) (h6 : SlI kFunc H a2.m.funcs v5) (h8 : SlI (kInt .i64) H a2.f.regs v7) (h10 : SlI kBlock H a2.f.blocks v9) (h13 : SlI (kInt .i64) H a11.to v12) (hp : check_looker_end a2 a11 = some r) (hst : St E H [] w) :
    Fn Try.prog 98 #[.pointer (some ⟨b1, o3, none⟩), .agg #[.int .i64 a11.kind, .int .i64 a11.arg, v12]] w fun v w' => ∃ A, check_looker_end.R r v A ∧ St E H A w' := by
 refine fb 51 [.tmp 4] Try.func98 rfl rfl rfl rfl rfl hst <| sr <| tb [.int .i64 a11.kind, .int .i64 a11.arg, v12] rfl rfl fun b14 => ta rfl <| nz <| TC.seq fun K1 k2 => sr <| tv (fa f46_0 rfl) rfl <| tv (lb s3 0 rfl rfl rfl) rfl <| tv (beq rfl rfl) rfl <| tm rfl <| TL.cut 12 fun K3 k4 => ?_
 have J5 {e7} : ∀ w, St E H [bx b14 46 [.int .i64 a11.kind, .int .i64 a11.arg, v12]] w → K3 (ovr e7 [(21, .bool (decide (a11.kind = 1 ∨ (a11.kind = 3 ∧ a2.f.result = 0)))), (0, .pointer (some ⟨b1, o3, none⟩)), (3, .pointer (some ⟨b14, 0, none⟩))]) w := by
  refine tlg k4 <| nz <| cD rfl hp (fun hc8 hp => ?_) fun hc8 hp => ?_
  · refine TC.seq fun K9 k10 => sr <| tv (fa f46_1 rfl) rfl <| tv (lb s3 0 rfl rfl rfl) rfl <| tv (bne rfl rfl) rfl <| nz <| cD rfl hp (fun hc11 hp => ?_) fun hc11 hp => ?_
    · exact sr <| tv (mI u63 rfl) rfl <| ta rfl <| nz <| TC.ret <| W.new0 <| rt hp [0] ⟨(.iface 63 (.int .i64 3)), ([] : FP), rfl, rfl, (ErO.mk _ : ErO 63 106 108 (GErr.code 3) (.iface 63 (.int .i64 3)) [])⟩
    · exact sk k10 rfl <| sr <| ta rfl <| nz <| TC.ret <| W.new0 <| rt hp [0] ⟨.nilIface, ([] : FP), rfl, rfl, (ErO.nil : ErO 63 106 108 GErr.no .nilIface [])⟩
  · refine sk k2 rfl <| sr <| ta rfl <| nz <| TC.seq fun K12 k13 => ?_
    have J15 {x17 e14} (hp : check_looker_end.jn15 a2 a11 x17 = some r) : ∀ w, St E H [bx b14 46 [.int .i64 a11.kind, .int .i64 a11.arg, v12]] w → K12 (ovr e14 [(0, .pointer (some ⟨b1, o3, none⟩)), (3, .pointer (some ⟨b14, 0, none⟩)), (5, .int .i64 x17)]) w := by
     refine tg k13 <| TC.seq fun K16 k17 => TC.block <| sr <| tm rfl <| tv (fa f46_1 rfl) rfl <| tv (lb s3 0 rfl rfl rfl) rfl <| tbs [(0, .int .i64 a11.arg)] [.int .i64 a11.arg] u25 i3 (by kernel_rfl) rfl rfl rfl rfl fun b18 => tf 1 0 [_,_,_] rfl <| TL.litOwn (n := 1) (xs := [a11.arg]) (RepL.to (RepL.cons (k := (kInt .i64)) (x := a11.arg) ⟨rfl, rfl⟩ RepL.nil) rfl) rfl rfl (ltb rfl) fun F19 h20 => bE hp fun x21 hy18 hp => tc 0 [_,_] rfl c101 (fun _ => check_looker_has_ok (a2 := a2) (a11 := [a11.arg]) (h4.mono subH) (h6.mono subH) (h8.mono subH) (h10.mono subH) (h20.ro.mono (subB 0 rfl)) hy18) rfl ?_
     rintro _ _ ⟨rfl, rfl⟩
     refine tv (rv_not rfl) rfl <| ta rfl <| nz <| cB rfl hp (fun hc20 hp => ?_) fun hc20 hp => ?_
     · exact sr <| tv (mI u63 rfl) rfl <| ta rfl <| nz <| TC.ret <| W.new0 <| rt hp [0] ⟨(.iface 63 (.int .i64 4)), ([] : FP), rfl, rfl, (ErO.mk _ : ErO 63 106 108 (GErr.code 4) (.iface 63 (.int .i64 4)) [])⟩
     · refine sr <| tm rfl <| tm rfl <| tv (fa f46_1 rfl) rfl <| tv (lb s3 1 rfl rfl rfl) rfl <| tbs [(0, .int .i64 a11.arg)] [.int .i64 a11.arg] u25 i3 (by kernel_rfl) rfl rfl rfl rfl fun b23 => tf 1 0 [_,_,_,_] rfl <| TL.litOwn (n := 1) (xs := [a11.arg]) (RepL.to (RepL.cons (k := (kInt .i64)) (x := a11.arg) ⟨rfl, rfl⟩ RepL.nil) rfl) rfl rfl (ltb rfl) fun F24 h25 => bE hp fun x26 hy21 hp => tc 0 [_,_,_] rfl c102 (fun _ => check_looker_are_ok (a2 := a2) (a11 := x17) (a12 := [a11.arg]) (h4.mono subH) (h6.mono subH) (h8.mono subH) (h10.mono subH) (h25.ro.mono (subB 0 rfl)) hy21) rfl ?_
       rintro _ _ ⟨rfl, rfl⟩
       refine tv (rv_not rfl) rfl <| ta rfl <| nz <| cB rfl hp (fun hc23 hp => ?_) fun hc23 hp => ?_
       · exact sr <| tv (mI u63 rfl) rfl <| ta rfl <| nz <| TC.ret <| W.new0 <| rt hp [0] ⟨(.iface 63 (.int .i64 3)), ([] : FP), rfl, rfl, (ErO.mk _ : ErO 63 106 108 (GErr.code 3) (.iface 63 (.int .i64 3)) [])⟩
       · exact sk k17 rfl <| sr <| ta rfl <| nz <| TC.ret <| W.new0 <| rt hp [0] ⟨.nilIface, ([] : FP), rfl, rfl, (ErO.nil : ErO 63 106 108 GErr.no .nilIface [])⟩
    refine sr <| tv (fa f46_0 rfl) rfl <| tv (lb s3 0 rfl rfl rfl) rfl <| tv (beq rfl rfl) rfl <| nz <| cD rfl hp (fun hc24 hp => ?_) fun hc24 hp => ?_
    · exact TC.region <| tm rfl <| tv (rv_nilCheck rfl) rfl <| tv (fa f145_1 rfl) rfl <| tv (fa f41_1 rfl) rfl <| tv (lr s3 sH h4 2 rfl rfl) rfl <| ta rfl <| nl <| jn [0] (J15 hp)
    · exact TC.skip <| jn [0] (J15 hp)
 by_cases hc6 : a11.kind = 1
 · exact gn rfl (bT hc6) rfl rfl <| gn rfl (bT hc6) rfl rfl <| gn rfl (bT hc6) rfl rfl <| gn rfl (bT hc6) rfl rfl <| gu rfl rfl rfl <| gu rfl rfl rfl <| gu rfl rfl rfl <| gu rfl rfl rfl <| gu rfl rfl rfl <| gu rfl rfl rfl <| gn rfl (bT hc6) rfl rfl <| tv (pT (bT hc6)) rfl <| nj J5 (bOt hc6)
 · refine gy rfl (bF hc6) <| tv (fa f46_0 rfl) rfl <| gy rfl (bF hc6) <| tv (lb s3 0 rfl rfl rfl) rfl <| gy rfl (bF hc6) <| tv (beq rfl rfl) rfl <| gy rfl (bF hc6) <| tm rfl <| TL.cut 7 fun K25 k26 => ?_
   have J27 {e29} : ∀ w, St E H [bx b14 46 [.int .i64 a11.kind, .int .i64 a11.arg, v12]] w → K25 (ovr e29 [(20, .bool (decide (a11.kind = 3 ∧ a2.f.result = 0))), (0, .pointer (some ⟨b1, o3, none⟩)), (3, .pointer (some ⟨b14, 0, none⟩)), (9, .bool (decide (a11.kind = 1)))]) w := by
    exact tlg k26 <| tv (pF (bF hc6)) rfl <| nj J5 (bOf hc6)
   by_cases hc28 : a11.kind = 3
   · exact gy rfl (bT hc28) <| tm rfl <| gy rfl (bT hc28) <| tv (rv_nilCheck rfl) rfl <| gy rfl (bT hc28) <| tv (fa f145_1 rfl) rfl <| gy rfl (bT hc28) <| tv (fa f41_1 rfl) rfl <| gy rfl (bT hc28) <| tv (lr s3 sH h4 2 rfl rfl) rfl <| gy rfl (bT hc28) <| tv (beq rfl rfl) rfl <| gy rfl (bF hc6) <| tv (pT (bT hc28)) rfl <| nj J27 (bAt hc28)
   · exact gn rfl (bF hc28) rfl rfl <| gn rfl (bF hc28) rfl rfl <| gn rfl (bF hc28) rfl rfl <| gn rfl (bF hc28) rfl rfl <| gn rfl (bF hc28) rfl rfl <| gn rfl (bF hc28) rfl rfl <| gy rfl (bF hc6) <| tv (pF (bF hc28)) rfl <| nj J27 (bAf hc28)

/-! ### (*fettle/check.looker).block -/
abbrev check_looker_block.R (r : GErr) (v : Value) (A : List FP) : Prop := ∃ (w1 : Value) (G1 : FP), w1 = v ∧ A = [G1] ∧ ErO 63 106 108 r w1 G1
def check_looker_block.nx17 (a2 : PLooker) (a11 : PBlock) : Option GErr :=
  (check_looker_end a2 a11.term).bind fun x21 =>
  some x21
def check_looker_block.bd17 (a2 : PLooker) (a11 : PBlock) (x20 : Int) : Option (Ex (Ex GErr Unit) Int) :=
  if x20 < (len a11.ins) then
    (idx a11.ins x20).bind fun x25 =>
    (check_looker_instr a2 x25).bind fun x34 =>
    if ¬ x34 = GErr.no then
      some (.ret (.ret x34))
    else
      some (.go (w64 (x20 + 1)))
  else
    some (.ret (.go ()))
def check_looker_block.nx8 (a2 : PLooker) (a11 : PBlock) : Option GErr :=
  (whl (fun (s : Int) => check_looker_block.bd17 a2 a11 s) FUEL 0).bind fun z =>
  match z with
    | .ret r => some r
    | .go p => check_looker_block.nx17 a2 a11
def check_looker_block.bd8 (a2 : PLooker) (a11 : PBlock) (x19 : Int) : Option (Ex (Ex GErr Unit) Int) :=
  if x19 < (len a11.phis) then
    (idx a11.phis x19).bind fun x38 =>
    (check_looker_phi a2 x38).bind fun x47 =>
    if ¬ x47 = GErr.no then
      some (.ret (.ret x47))
    else
      some (.go (w64 (x19 + 1)))
  else
    some (.ret (.go ()))
def check_looker_block (a2 : PLooker) (a11 : PBlock) : Option GErr :=
  (whl (fun (s : Int) => check_looker_block.bd8 a2 a11 s) FUEL 0).bind fun z =>
  match z with
    | .ret r => some r
    | .go p => check_looker_block.nx8 a2 a11
set_option maxHeartbeats 4000000 in
theorem check_looker_block_ok {E : World} {H : FP} {w : World} {a2 : PLooker} {a11 : PBlock} {b1 : Nat} {o3 : Nat} {v5 : Value} {v7 : Value} {v9 : Value} {v12 : Value} {v14 : Value} {v16 : Value} {r : GErr} (h4 : CellsIn H b1 o3 [v5, .int .i64 a2.f.params, .int .i64 a2.f.result, v7, v9]) (h6 : SlI kFunc H a2.m.funcs v5) (h8 : SlI (kInt .i64) H a2.f.regs v7) (h10 : SlI kBlock H a2.f.blocks v9) (h13 : SlI kPhi H a11.phis v12) (h15 : SlI kInstr H a11.ins v14) (h17 : SlI (kInt .i64) H a11.term.to v16) (hp : check_looker_block a2 a11 = some r) (hst : St E H [] w) :
    Fn Try.prog 87 #[.pointer (some ⟨b1, o3, none⟩), .agg #[v12, v14, .int .i64 a11.term.kind, .int .i64 a11.term.arg, v16]] w fun v w' => ∃ A, check_looker_block.R r v A ∧ St E H A w' := by
 refine fb 43 [.tmp 4] Try.func87 rfl rfl rfl rfl rfl hst <| sr <| tb [v12, v14, .int .i64 a11.term.kind, .int .i64 a11.term.arg, v16] rfl rfl fun b18 => ta rfl <| nz <| TC.seq fun K1 k2 => sr <| tv (fa f50_0 rfl) rfl <| tv (lb s47 0 rfl rfl rfl) rfl <| tv (ln u47 h13 rfl) rfl <| tm rfl <| nz <| TC.block <| bE hp fun z_4 hz5 hr6 => ?_
 have J34 {e9} (hq35 : .go () = z_4) : ∀ w, St E H [bx b18 50 [v12, v14, .int .i64 a11.term.kind, .int .i64 a11.term.arg, v16]] w → K1 (ovr e9 [(0, .pointer (some ⟨b1, o3, none⟩)), (3, .pointer (some ⟨b18, 0, none⟩))]) w := by
  subst hq35
  replace hp : check_looker_block.nx8 a2 a11 = some r := hr6
  refine tg k2 <| TC.seq fun K10 k11 => sr <| tv (fa f50_1 rfl) rfl <| tv (lb s48 0 rfl rfl rfl) rfl <| tv (ln u48 h15 rfl) rfl <| tm rfl <| nz <| TC.block <| bE hp fun z_13 hz14 hr15 => ?_
  have J21 {e18} (hq22 : .go () = z_13) : ∀ w, St E H [bx b18 50 [v12, v14, .int .i64 a11.term.kind, .int .i64 a11.term.arg, v16]] w → K10 (ovr e18 [(0, .pointer (some ⟨b1, o3, none⟩)), (3, .pointer (some ⟨b18, 0, none⟩))]) w := by
   subst hq22
   replace hp : check_looker_block.nx17 a2 a11 = some r := hr15
   refine tg k11 <| sr <| tm rfl <| tv (fa f50_2 rfl) rfl <| tv (lA (ds := [.int .i64 a11.term.kind, .int .i64 a11.term.arg, v16]) ag_46 0 rfl rfl rfl rfl) rfl <| bE hp fun x21 hy19 hp => tc 0 [_] rfl c98 (fun _ => check_looker_end_ok (a2 := a2) (a11 := a11.term) (h4.mono subH) (h6.mono subH) (h8.mono subH) (h10.mono subH) (h17.mono subH) hy19) rfl ?_
   rintro _ _ ⟨v22, F23, rfl, rfl, h24⟩
   exact ta rfl <| nz <| TC.ret <| rt hp [0] ⟨v22, F23, rfl, rfl, h24⟩
  refine lp hz14 [0] rfl (fun s e L => ∃ e12, e = ovr e12 [(0, .pointer (some ⟨b1, o3, none⟩)), (3, .pointer (some ⟨b18, 0, none⟩)), (26, v14), (27, .int .i64 (len a11.ins)), (28, .int .i64 s)] ∧ L = [bx b18 50 [v12, v14, .int .i64 a11.term.kind, .int .i64 a11.term.arg, v16]]) ⟨_, ovr_eq _ _ rfl, rfl⟩ ?_
  rintro x20 _ _ ⟨e12, rfl, rfl⟩ X16 hp hx17
  replace hp : check_looker_block.bd17 a2 a11 x20 = some X16 := hp
  refine sr <| tv (blt rfl rfl) rfl <| nz <| TC.seq fun K23 k24 => cD rfl hp (fun hc25 hp => ?_) fun hc25 hp => ?_
  · refine sk k24 rfl <| TC.seq fun K26 k27 => TC.block <| sr <| ti u48 i52 h15 hp rfl rfl rfl rfl ?_
    rintro x25 b26 o27 _ hp ⟨v31, rfl, h32⟩ h30
    refine tv (lR (ds := [.int .i64 x25.op, .int .i64 x25.dst, v31, .int .i64 x25.imm, .int .i64 x25.fn]) ag_52 sH h30 0 rfl rfl rfl) rfl <| tl i52 rfl fun b33 => tS 0 m52 rfl rfl [.int .i64 x25.op, .int .i64 x25.dst, v31, .int .i64 x25.imm, .int .i64 x25.fn] rfl (oc rfl (oc rfl (oc (h32).one (oc rfl (oc rfl oc0))))) rfl rfl <| nz <| sr <| tm rfl <| tv (lA (ds := [.int .i64 x25.op, .int .i64 x25.dst, v31, .int .i64 x25.imm, .int .i64 x25.fn]) ag_52 0 rfl rfl rfl rfl) rfl <| bE hp fun x34 hy29 hp => tc 0 [_,_] rfl c97 (fun _ => check_looker_instr_ok (a2 := a2) (a11 := x25) (h4.mono subH) (h6.mono subH) (h8.mono subH) (h10.mono subH) (h32.mono subH) hy29) rfl ?_
    rintro _ _ ⟨v35, F36, rfl, rfl, h37⟩
    refine ta rfl <| nz <| sr <| tm rfl <| tv (rv_neqEN ifc_27 h37 rfl) rfl <| nz <| cD rfl hp (fun hc31 hp => ?_) fun hc31 hp => ?_
    · refine sr <| tm rfl <| ta rfl <| nz <| TC.ret ?_
      obtain rfl := ex_ret hp hx17
      exact rt hr15 [0] ⟨v35, F36, rfl, rfl, h37⟩
    · exact sk k27 rfl <| TC.region <| tv (bad rfl rfl) rfl <| tm rfl <| nl <| gk hp [2] ⟨_, ovr_eq _ _ rfl, rfl⟩
  · exact TC.exit <| jn [0] (J21 (ex_ret hp hx17))
 refine lp hz5 [0] rfl (fun s e L => ∃ e3, e = ovr e3 [(0, .pointer (some ⟨b1, o3, none⟩)), (3, .pointer (some ⟨b18, 0, none⟩)), (12, v12), (13, .int .i64 (len a11.phis)), (14, .int .i64 s)] ∧ L = [bx b18 50 [v12, v14, .int .i64 a11.term.kind, .int .i64 a11.term.arg, v16]]) ⟨_, ovr_eq _ _ rfl, rfl⟩ ?_
 rintro x19 _ _ ⟨e3, rfl, rfl⟩ X7 hp hx8
 replace hp : check_looker_block.bd8 a2 a11 x19 = some X7 := hp
 refine sr <| tv (blt rfl rfl) rfl <| nz <| TC.seq fun K36 k37 => cD rfl hp (fun hc38 hp => ?_) fun hc38 hp => ?_
 · refine sk k37 rfl <| TC.seq fun K39 k40 => TC.block <| sr <| ti u47 i70 h13 hp rfl rfl rfl rfl ?_
   rintro x38 b39 o40 _ hp ⟨v44, rfl, h45⟩ h43
   refine tv (lR (ds := [.int .i64 x38.dst, v44]) ag_70 sH h43 0 rfl rfl rfl) rfl <| tl i70 rfl fun b46 => tS 0 m70 rfl rfl [.int .i64 x38.dst, v44] rfl (oc rfl (oc (h45).one oc0)) rfl rfl <| nz <| sr <| tm rfl <| tv (lA (ds := [.int .i64 x38.dst, v44]) ag_70 0 rfl rfl rfl rfl) rfl <| bE hp fun x47 hy42 hp => tc 0 [_,_] rfl c96 (fun _ => check_looker_phi_ok (a2 := a2) (a11 := x38) (h4.mono subH) (h6.mono subH) (h8.mono subH) (h10.mono subH) (h45.mono subH) hy42) rfl ?_
   rintro _ _ ⟨v48, F49, rfl, rfl, h50⟩
   refine ta rfl <| nz <| sr <| tm rfl <| tv (rv_neqEN ifc_27 h50 rfl) rfl <| nz <| cD rfl hp (fun hc44 hp => ?_) fun hc44 hp => ?_
   · refine sr <| tm rfl <| ta rfl <| nz <| TC.ret ?_
     obtain rfl := ex_ret hp hx8
     exact rt hr6 [0] ⟨v48, F49, rfl, rfl, h50⟩
   · exact sk k40 rfl <| TC.region <| tv (bad rfl rfl) rfl <| tm rfl <| nl <| gk hp [2] ⟨_, ovr_eq _ _ rfl, rfl⟩
 · exact TC.exit <| jn [0] (J34 (ex_ret hp hx8))

/-! ### fettle/check.Func -/
abbrev check_Func.R (r : GErr) (v : Value) (A : List FP) : Prop := ∃ (w1 : Value) (G1 : FP), w1 = v ∧ A = [G1] ∧ ErO 63 106 108 r w1 G1
def check_Func.nx49  : Option GErr :=
  some GErr.no
def check_Func.bd49 (a1 : PModule) (x1608 : PFunc) (x3618 : Int) : Option (Ex (Ex GErr Unit) Int) :=
  if x3618 < (len x1608.blocks) then
    (idx x1608.blocks x3618).bind fun x3620 =>
    (check_looker_block (⟨(⟨a1.funcs⟩ : PModule), (⟨x1608.params, x1608.result, x1608.regs, x1608.blocks⟩ : PFunc)⟩ : PLooker) x3620).bind fun x3633 =>
    if ¬ x3633 = GErr.no then
      some (.ret (.ret x3633))
    else
      some (.go (w64 (x3618 + 1)))
  else
    some (.ret (.go ()))
def check_Func.nx40 (a1 : PModule) (x1608 : PFunc) : Option GErr :=
  (whl (fun (s : Int) => check_Func.bd49 a1 x1608 s) FUEL 0).bind fun z =>
  match z with
    | .ret r => some r
    | .go p => check_Func.nx49
def check_Func.nx78 (x3617 : Int) : Option (Ex (Ex GErr Unit) Int) :=
  some (.go (w64 (x3617 + 1)))
def check_Func.bd78 (x3637 : List Int) (x3645 : PBlock) (x3657 : Int) : Option (Ex (Ex GErr Unit) Int) :=
  if x3657 < (len x3645.phis) then
    (idx x3645.phis x3657).bind fun x3658 =>
    if ¬ (len x3658.args) = (len x3637) then
      some (.ret (.ret (GErr.code 6)))
    else
      some (.go (w64 (x3657 + 1)))
  else
    some (.ret (.go ()))
def check_Func.bd40 (x1608 : PFunc) (x3613 : List (List Int)) (x3617 : Int) : Option (Ex (Ex GErr Unit) Int) :=
  if x3617 < (len x3613) then
    (idx x3613 x3617).bind fun x3637 =>
    (idx x1608.blocks x3617).bind fun x3645 =>
    (whl (fun (s : Int) => check_Func.bd78 x3637 x3645 s) FUEL 0).bind fun z =>
    match z with
      | .ret r => some (.ret (.ret r))
      | .go p => check_Func.nx78 x3617
  else
    some (.ret (.go ()))
def check_Func.nx29 (a1 : PModule) (x1608 : PFunc) : Option GErr :=
  (check_Ahead x1608).bind fun x3613 =>
  (whl (fun (s : Int) => check_Func.bd40 x1608 x3613 s) FUEL 0).bind fun z =>
  match z with
    | .ret r => some r
    | .go p => check_Func.nx40 a1 x1608
def check_Func.bd29 (x1608 : PFunc) (x3612 : Int) : Option (Ex (Ex GErr Unit) Int) :=
  if x3612 < (len x1608.blocks) then
    (idx x1608.blocks x3612).bind fun x3668 =>
    (check_ends x1608 x3668.term).bind fun x3681 =>
    if (!x3681) = true then
      some (.ret (.ret (GErr.code 6)))
    else
      some (.go (w64 (x3612 + 1)))
  else
    some (.ret (.go ()))
def check_Func (a1 : PModule) (a4 : Int) : Option GErr :=
  if a4 < 0 ∨ a4 ≥ (len a1.funcs) then
    some (GErr.code 1)
  else
    (idx a1.funcs a4).bind fun x1608 =>
    (check_small x1608).bind fun x3608 =>
    if (!x3608) = true then
      some (GErr.code 5)
    else
      (check_typed x1608).bind fun x3610 =>
      if (!x3610) = true then
        some (GErr.code 3)
      else
        (whl (fun (s : Int) => check_Func.bd29 x1608 s) FUEL 0).bind fun z =>
        match z with
          | .ret r => some r
          | .go p => check_Func.nx29 a1 x1608
set_option maxHeartbeats 4000000 in
theorem check_Func_ok {E : World} {H : FP} {w : World} {a1 : PModule} {a4 : Int} {v2 : Value} {r : GErr} (h3 : SlI kFunc H a1.funcs v2) (hp : check_Func a1 a4 = some r) (hst : St E H [] w) :
    Fn Try.prog 72 #[.agg #[v2], .int .i64 a4] w fun v w' => ∃ A, check_Func.R r v A ∧ St E H A w' := by
 refine fb 120 [.tmp 4] Try.func72 rfl rfl rfl rfl rfl hst <| sr <| tb [v2] rfl rfl fun b5 => ta rfl <| nz <| TC.seq fun K1 k2 => sr <| tm rfl <| tv (blt rfl rfl) rfl <| tm rfl <| TL.cut 6 fun K3 k4 => ?_
 have J5 {e7} : ∀ w, St E H [bx b5 35 [v2]] w → K3 (ovr e7 [(23, .bool (decide (a4 < 0 ∨ a4 ≥ (len a1.funcs)))), (1, .int .i64 a4), (2, .pointer (some ⟨b5, 0, none⟩))]) w := by
  refine tlg k4 <| nz <| cD rfl hp (fun hc8 hp => ?_) fun hc8 hp => ?_
  · exact sr <| tv (mI u63 rfl) rfl <| ta rfl <| nz <| TC.ret <| W.new0 <| rt hp [0] ⟨(.iface 63 (.int .i64 1)), ([] : FP), rfl, rfl, (ErO.mk _ : ErO 63 106 108 (GErr.code 1) (.iface 63 (.int .i64 1)) [])⟩
  · refine sk k2 rfl <| TC.seq fun K9 k10 => ch mix [bx b5 35 [v2]] (srcG 0 rfl srcG0) <| hv 0 rfl (lAG (ds := [v2]) ag_35 0 rfl rfl rfl rfl) (by kernel_rfl) rfl <| hv 1 rfl (fa f35_0 rfl) (by kernel_rfl) rfl <| hv 2 rfl (lbG s33 0 rfl rfl rfl) (by kernel_rfl) rfl <| hv 3 rfl mv (by kernel_rfl) rfl <| hi 4 rfl u33 i41 h3 hp rfl rfl rfl (by kernel_rfl) rfl ?_
    rintro x1608 b1609 o1610 _ hp ⟨v1614, v1616, rfl, h1615, h1617⟩ h1613
    refine hv 5 rfl (lR (ds := [.int .i64 x1608.params, .int .i64 x1608.result, v1614, v1616]) ag_41 srcInH h1613 0 rfl rfl rfl) (by kernel_rfl) rfl <| hv 6 rfl (rv_bv (vs := [(0, .agg #[v2]), (1, .agg #[.int .i64 x1608.params, .int .i64 x1608.result, v1614, v1616])]) (ds := [v2, .int .i64 x1608.params, .int .i64 x1608.result, v1614, v1616]) rfl (fun w => by kernel_rfl)) (by kernel_rfl) rfl <| ho 7 rfl (by kernel_rfl) fun K12 k13 => tb [v2, .int .i64 x1608.params, .int .i64 x1608.result, v1614, v1616] rfl rfl fun b2808 => hk k13 (srcG 1 rfl srcG0) <| hv 8 rfl sg (by kernel_rfl) rfl <| hz (by kernel_rfl) <| tg k10 <| TC.seq fun K14 k15 => TC.block <| sr <| tm rfl <| tv (rv_nilCheck rfl) rfl <| tv (fa f145_1 rfl) rfl <| tv (lA (ds := [.int .i64 x1608.params, .int .i64 x1608.result, v1614, v1616]) ag_41 0 rfl rfl rfl rfl) rfl <| bE hp fun x3608 hy16 hp => tc 0 [_,_] rfl c84 (fun _ => check_small_ok (a1 := x1608) (h1615.mono subH) (h1617.mono subH) hy16) rfl ?_
    rintro _ _ ⟨rfl, rfl⟩
    refine tv (rv_not rfl) rfl <| ta rfl <| nz <| cB rfl hp (fun hc18 hp => ?_) fun hc18 hp => ?_
    · exact sr <| tv (mI u63 rfl) rfl <| ta rfl <| nz <| TC.ret <| W.new0 <| rt hp [0] ⟨(.iface 63 (.int .i64 5)), ([] : FP), rfl, rfl, (ErO.mk _ : ErO 63 106 108 (GErr.code 5) (.iface 63 (.int .i64 5)) [])⟩
    · refine sr <| tm rfl <| tv (rv_nilCheck rfl) rfl <| tv (fa f145_1 rfl) rfl <| tv (lA (ds := [.int .i64 x1608.params, .int .i64 x1608.result, v1614, v1616]) ag_41 0 rfl rfl rfl rfl) rfl <| bE hp fun x3610 hy19 hp => tc 0 [_,_] rfl c85 (fun _ => check_typed_ok (a1 := x1608) (h1615.mono subH) (h1617.mono subH) hy19) rfl ?_
      rintro _ _ ⟨rfl, rfl⟩
      refine tv (rv_not rfl) rfl <| ta rfl <| nz <| cB rfl hp (fun hc21 hp => ?_) fun hc21 hp => ?_
      · exact sr <| tv (mI u63 rfl) rfl <| ta rfl <| nz <| TC.ret <| W.new0 <| rt hp [0] ⟨(.iface 63 (.int .i64 3)), ([] : FP), rfl, rfl, (ErO.mk _ : ErO 63 106 108 (GErr.code 3) (.iface 63 (.int .i64 3)) [])⟩
      · refine sk k15 rfl <| TC.seq fun K22 k23 => sr <| tm rfl <| tv (rv_nilCheck rfl) rfl <| tv (fa f145_1 rfl) rfl <| tv (fa f41_3 rfl) rfl <| tv (lb s39 0 rfl rfl rfl) rfl <| tv (ln u39 h1617 rfl) rfl <| tm rfl <| nz <| TC.block <| bE hp fun z_25 hz26 hr27 => ?_
        have J93 {e30} (hq94 : .go () = z_25) : ∀ w, St E H [bx b2808 145 [v2, .int .i64 x1608.params, .int .i64 x1608.result, v1614, v1616]] w → K22 (ovr e30 [(5, .pointer (some ⟨b2808, 0, none⟩))]) w := by
         subst hq94
         replace hp : check_Func.nx29 a1 x1608 = some r := hr27
         refine tg k23 <| TC.seq fun K31 k32 => sr <| tm rfl <| tv (rv_nilCheck rfl) rfl <| tv (fa f145_1 rfl) rfl <| tv (lA (ds := [.int .i64 x1608.params, .int .i64 x1608.result, v1614, v1616]) ag_41 0 rfl rfl rfl rfl) rfl <| bE hp fun x3613 hy33 hp => tc 0 [_] rfl c27 (fun _ => check_Ahead_ok (a1 := x1608) (h1615.mono subH) (h1617.mono subH) hy33) rfl ?_
         rintro _ _ ⟨v3614, F3615, rfl, rfl, h3616⟩
         refine tv (ln u73 h3616.ro rfl) rfl <| tm rfl <| nz <| TC.block <| bE hp fun z_36 hz37 hr38 => ?_
         have J64 {e41} (hq65 : .go () = z_36) : ∀ w, St E H [bx b2808 145 [v2, .int .i64 x1608.params, .int .i64 x1608.result, v1614, v1616]] w → K31 (ovr e41 [(5, .pointer (some ⟨b2808, 0, none⟩))]) w := by
          subst hq65
          replace hp : check_Func.nx40 a1 x1608 = some r := hr38
          refine tg k32 <| TC.seq fun K42 k43 => sr <| tm rfl <| tv (rv_nilCheck rfl) rfl <| tv (fa f145_1 rfl) rfl <| tv (fa f41_3 rfl) rfl <| tv (lb s39 0 rfl rfl rfl) rfl <| tv (ln u39 h1617 rfl) rfl <| tm rfl <| nz <| TC.block <| bE hp fun z_45 hz46 hr47 => ?_
          have J51 {e50} (hq52 : .go () = z_45) : ∀ w, St E H [] w → K42 (ovr e50 []) w := by
           subst hq52
           replace hp : check_Func.nx49 = some r := hr47
           exact tg k43 <| sr <| ta rfl <| nz <| TC.ret <| W.new0 <| rt hp [0] ⟨.nilIface, ([] : FP), rfl, rfl, (ErO.nil : ErO 63 106 108 GErr.no .nilIface [])⟩
          refine lp hz46 [0] rfl (fun s e L => ∃ e44, e = ovr e44 [(5, .pointer (some ⟨b2808, 0, none⟩)), (107, v1616), (108, .int .i64 (len x1608.blocks)), (109, .int .i64 s)] ∧ L = [bx b2808 145 [v2, .int .i64 x1608.params, .int .i64 x1608.result, v1614, v1616]]) ⟨_, ovr_eq _ _ rfl, rfl⟩ ?_
          rintro x3618 _ _ ⟨e44, rfl, rfl⟩ X48 hp hx49
          replace hp : check_Func.bd49 a1 x1608 x3618 = some X48 := hp
          refine sr <| tv (blt rfl rfl) rfl <| nz <| TC.seq fun K53 k54 => cD rfl hp (fun hc55 hp => ?_) fun hc55 hp => ?_
          · refine sk k54 rfl <| TC.seq fun K56 k57 => TC.block <| sr <| ti u39 i50 h1617 hp rfl rfl rfl rfl ?_
            rintro x3620 b3621 o3622 _ hp ⟨v3626, v3628, v3630, rfl, h3627, h3629, h3631⟩ h3625
            refine tv (lR (ds := [v3626, v3628, .int .i64 x3620.term.kind, .int .i64 x3620.term.arg, v3630]) ag_50 sH h3625 0 rfl rfl rfl) rfl <| tl i50 rfl fun b3632 => tS 0 m50 rfl rfl [v3626, v3628, .int .i64 x3620.term.kind, .int .i64 x3620.term.arg, v3630] rfl (oc (h3627).one (oc (h3629).one (oc rfl (oc rfl (oc (h3631).one oc0))))) rfl rfl <| nz <| sr <| tm rfl <| tv (lA (ds := [v3626, v3628, .int .i64 x3620.term.kind, .int .i64 x3620.term.arg, v3630]) ag_50 0 rfl rfl rfl rfl) rfl <| bE hp fun x3633 hy59 hp => tc 0 [_,_] rfl c87 (fun _ => check_looker_block_ok (a2 := (⟨(⟨a1.funcs⟩ : PModule), (⟨x1608.params, x1608.result, x1608.regs, x1608.blocks⟩ : PFunc)⟩ : PLooker)) (a11 := x3620) ((bx_cells b2808 145 _).mono (subB 1 rfl)) (h3.mono subH) (h1615.mono subH) (h1617.mono subH) (h3627.mono subH) (h3629.mono subH) (h3631.mono subH) hy59) rfl ?_
            rintro _ _ ⟨v3634, F3635, rfl, rfl, h3636⟩
            refine ta rfl <| nz <| sr <| tm rfl <| tv (rv_neqEN ifc_27 h3636 rfl) rfl <| nz <| cD rfl hp (fun hc61 hp => ?_) fun hc61 hp => ?_
            · refine sr <| tm rfl <| ta rfl <| nz <| TC.ret ?_
              obtain rfl := ex_ret hp hx49
              exact rt hr47 [0] ⟨v3634, F3635, rfl, rfl, h3636⟩
            · exact sk k57 rfl <| TC.region <| tv (bad rfl rfl) rfl <| tm rfl <| nl <| gk hp [2] ⟨_, ovr_eq _ _ rfl, rfl⟩
          · exact TC.exit <| jn [] (J51 (ex_ret hp hx49))
         refine lp hz37 [1, 0] rfl (fun s e L => ∃ e35, e = ovr e35 [(5, .pointer (some ⟨b2808, 0, none⟩)), (73, v3614), (74, .int .i64 (len x3613)), (75, .int .i64 s)] ∧ L = [bx b2808 145 [v2, .int .i64 x1608.params, .int .i64 x1608.result, v1614, v1616], F3615]) ⟨_, ovr_eq _ _ rfl, rfl⟩ ?_
         rintro x3617 _ _ ⟨e35, rfl, rfl⟩ X39 hp hx40
         replace hp : check_Func.bd40 x1608 x3613 x3617 = some X39 := hp
         refine sr <| tv (blt rfl rfl) rfl <| nz <| TC.seq fun K66 k67 => cD rfl hp (fun hc68 hp => ?_) fun hc68 hp => ?_
         · refine sk k67 rfl <| TC.seq fun K69 k70 => TC.block <| sr <| tm rfl <| ti u73 i25 (h3616).ro hp rfl rfl rfl rfl ?_
           rintro x3637 b3638 o3639 _ hp ⟨v3643, rfl, h3644⟩ h3642
           refine tv (lr s25 (Src.at_ 1 rfl) h3642 0 rfl rfl) rfl <| ta rfl <| ta rfl <| nz <| sr <| tm rfl <| tv (rv_nilCheck rfl) rfl <| tv (fa f145_1 rfl) rfl <| tv (fa f41_3 rfl) rfl <| tv (lb s39 0 rfl rfl rfl) rfl <| tm rfl <| ti u39 i50 h1617 hp rfl rfl rfl rfl ?_
           rintro x3645 b3646 o3647 _ hp ⟨v3651, v3653, v3655, rfl, h3652, h3654, h3656⟩ h3650
           refine tv (fa f50_0 rfl) rfl <| tv (lr s47 sH h3650 0 rfl rfl) rfl <| tv (ln u47 h3652 rfl) rfl <| tm rfl <| nz <| TC.block <| bE hp fun z_74 hz75 hr76 => ?_
           have J80 {e79} (hq81 : .go () = z_74) : ∀ w, St E H [bx b2808 145 [v2, .int .i64 x1608.params, .int .i64 x1608.result, v1614, v1616], F3615] w → K69 (ovr e79 [(5, .pointer (some ⟨b2808, 0, none⟩)), (73, v3614), (74, .int .i64 (len x3613)), (75, .int .i64 x3617)]) w := by
            subst hq81
            replace hp : check_Func.nx78 x3617 = some X39 := hr76
            exact tg k70 <| TC.region <| tv (bad rfl rfl) rfl <| tm rfl <| nl <| gk hp [0, 1] ⟨_, ovr_eq _ _ rfl, rfl⟩
           refine lp hz75 [0, 1] rfl (fun s e L => ∃ e73, e = ovr e73 [(5, .pointer (some ⟨b2808, 0, none⟩)), (9, v3643), (73, v3614), (74, .int .i64 (len x3613)), (75, .int .i64 x3617), (88, v3651), (89, .int .i64 (len x3645.phis)), (90, .int .i64 s)] ∧ L = [bx b2808 145 [v2, .int .i64 x1608.params, .int .i64 x1608.result, v1614, v1616], F3615]) ⟨_, ovr_eq _ _ rfl, rfl⟩ ?_
           rintro x3657 _ _ ⟨e73, rfl, rfl⟩ X77 hp hx78
           replace hp : check_Func.bd78 x3637 x3645 x3657 = some X77 := hp
           refine sr <| tv (blt rfl rfl) rfl <| nz <| TC.seq fun K82 k83 => cD rfl hp (fun hc84 hp => ?_) fun hc84 hp => ?_
           · refine sk k83 rfl <| TC.seq fun K85 k86 => TC.block <| sr <| ti u47 i70 h3652 hp rfl rfl rfl rfl ?_
             rintro x3658 b3659 o3660 _ hp ⟨v3664, rfl, h3665⟩ h3663
             refine tv (lR (ds := [.int .i64 x3658.dst, v3664]) ag_70 sH h3663 0 rfl rfl rfl) rfl <| tl i70 rfl fun b3666 => tS 0 m70 rfl rfl [.int .i64 x3658.dst, v3664] rfl (oc rfl (oc (h3665).one oc0)) rfl rfl <| nz <| sr <| tv (fa f70_1 rfl) rfl <| tv (lb s25 0 rfl rfl rfl) rfl <| tv (ln u25 h3665 rfl) rfl <| tm rfl <| tv (ln u25 h3644 rfl) rfl <| tv (bne rfl rfl) rfl <| nz <| cD rfl hp (fun hc88 hp => ?_) fun hc88 hp => ?_
             · refine sr <| tv (mI u63 rfl) rfl <| ta rfl <| nz <| TC.ret <| W.new0 ?_
               obtain rfl := ex_ret hp hx78
               obtain rfl := ex_ret hr76 hx40
               exact rt hr38 [0] ⟨(.iface 63 (.int .i64 6)), ([] : FP), rfl, rfl, (ErO.mk _ : ErO 63 106 108 (GErr.code 6) (.iface 63 (.int .i64 6)) [])⟩
             · exact sk k86 rfl <| TC.region <| tv (bad rfl rfl) rfl <| tm rfl <| nl <| gk hp [1, 2] ⟨_, ovr_eq _ _ rfl, rfl⟩
           · exact TC.exit <| jn [0, 1] (J80 (ex_ret hp hx78))
         · exact TC.exit <| jn [0] (J64 (ex_ret hp hx40))
        refine lp hz26 [0] rfl (fun s e L => ∃ e24, e = ovr e24 [(5, .pointer (some ⟨b2808, 0, none⟩)), (53, v1616), (54, .int .i64 (len x1608.blocks)), (55, .int .i64 s)] ∧ L = [bx b2808 145 [v2, .int .i64 x1608.params, .int .i64 x1608.result, v1614, v1616]]) ⟨_, ovr_eq _ _ rfl, rfl⟩ ?_
        rintro x3612 _ _ ⟨e24, rfl, rfl⟩ X28 hp hx29
        replace hp : check_Func.bd29 x1608 x3612 = some X28 := hp
        refine sr <| tv (blt rfl rfl) rfl <| nz <| TC.seq fun K95 k96 => cD rfl hp (fun hc97 hp => ?_) fun hc97 hp => ?_
        · refine sk k96 rfl <| TC.seq fun K98 k99 => TC.block <| sr <| ti u39 i50 h1617 hp rfl rfl rfl rfl ?_
          rintro x3668 b3669 o3670 _ hp ⟨v3674, v3676, v3678, rfl, h3675, h3677, h3679⟩ h3673
          refine tv (lR (ds := [v3674, v3676, .int .i64 x3668.term.kind, .int .i64 x3668.term.arg, v3678]) ag_50 sH h3673 0 rfl rfl rfl) rfl <| tl i50 rfl fun b3680 => tS 0 m50 rfl rfl [v3674, v3676, .int .i64 x3668.term.kind, .int .i64 x3668.term.arg, v3678] rfl (oc (h3675).one (oc (h3677).one (oc rfl (oc rfl (oc (h3679).one oc0))))) rfl rfl <| nz <| TC.seq fun K101 k102 => cq mix (by kernel_rfl) <| qv mv rfl <| qv (rv_nilCheck rfl) rfl <| qv (fa f145_1 rfl) rfl <| qv (lA (ds := [.int .i64 x1608.params, .int .i64 x1608.result, v1614, v1616]) ag_41 1 rfl rfl rfl rfl) rfl <| qv (fa f50_2 rfl) rfl <| qv (lA (ds := [.int .i64 x3668.term.kind, .int .i64 x3668.term.arg, v3678]) ag_46 0 rfl rfl rfl rfl) rfl <| bE hp fun x3681 hy103 hp => qc (.bool x3681) c86 (fun _ => check_ends_ok (a1 := x1608) (a6 := x3668.term) (h1615.mono subH) (h1617.mono subH) (h3679.mono subH) hy103) (fun _ _ h => ⟨h.1.symm, h.2⟩) rfl <| qv (rv_not rfl) rfl <| QL.nil <| tg k102 <| cB rfl hp (fun hc104 hp => ?_) fun hc104 hp => ?_
          · refine sr <| tv (mI u63 rfl) rfl <| ta rfl <| nz <| TC.ret <| W.new0 ?_
            obtain rfl := ex_ret hp hx29
            exact rt hr27 [0] ⟨(.iface 63 (.int .i64 6)), ([] : FP), rfl, rfl, (ErO.mk _ : ErO 63 106 108 (GErr.code 6) (.iface 63 (.int .i64 6)) [])⟩
          · exact sk k99 rfl <| TC.region <| tv (bad rfl rfl) rfl <| tm rfl <| nl <| gk hp [1] ⟨_, ovr_eq _ _ rfl, rfl⟩
        · exact TC.exit <| jn [0] (J93 (ex_ret hp hx29))
 by_cases hc6 : a4 < 0
 · exact gn rfl (bT hc6) rfl rfl <| gn rfl (bT hc6) rfl rfl <| gn rfl (bT hc6) rfl rfl <| gn rfl (bT hc6) rfl rfl <| gn rfl (bT hc6) rfl rfl <| tv (pT (bT hc6)) rfl <| nj J5 (bOt hc6)
 · exact gy rfl (bF hc6) <| tm rfl <| gy rfl (bF hc6) <| tv (fa f35_0 rfl) rfl <| gy rfl (bF hc6) <| tv (lb s33 0 rfl rfl rfl) rfl <| gy rfl (bF hc6) <| tv (ln u33 h3 rfl) rfl <| gy rfl (bF hc6) <| tv (bge rfl rfl) rfl <| tv (pF (bF hc6)) rfl <| nj J5 (bOf hc6)
end Go.Proofs.Ytpmcbahahjelnaa
