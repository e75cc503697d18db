/- The walk through the program's functions: each one's pure reading, and that a call does what it says. No conditions. -/
import Derived.Test.YteaknconpkklhaaW4
set_option linter.unusedVariables false
set_option linter.unusedSimpArgs false
namespace Go.Proofs.Yteaknconpkklhaa
open Go Go.Proofs

/-! ### fettle/live.begin -/
abbrev live_begin.R (r : List Bool) (v : Value) (A : List FP) : Prop := ∃ (w1 : Value) (G1 : FP), w1 = v ∧ A = [G1] ∧ SlO 4 kBool r w1 G1
def live_begin.nx22  (x32 : List Bool) : Option (List Bool) :=
  some x32
def live_begin.bd22 (a1 : PBlock) (x28 : List Bool) (x31 : Int) : Option (Ex (List Bool) (List Bool × Int)) :=
  if x31 < (len a1.phis) then
    (idx a1.phis x31).bind fun x35 =>
    (idx x28 x35.dst).bind fun x44 =>
    some (.go ((x28.set (x35.dst).toNat false), (w64 (x31 + 1))))
  else
    some (.ret x28)
def live_begin.nx13 (a1 : PBlock) (x25 : List Bool) : Option (List Bool) :=
  (whl (fun (s : (List Bool × Int)) => live_begin.bd22 a1 s.1 s.2) FUEL (x25, 0)).bind fun z =>
  live_begin.nx22 z
def live_begin.nx52 (x24 : Int) (x66 : List Bool) : Option (Ex (List Bool) (List Bool × Int)) :=
  some (.go (x66, (w64 (x24 - 1))))
def live_begin.bd52 (x50 : PInstr) (x62 : List Bool) (x65 : Int) : Option (Ex (List Bool) (List Bool × Int)) :=
  if x65 < (len x50.args) then
    (idx x50.args x65).bind fun x69 =>
    (idx x62 x69).bind fun x75 =>
    some (.go ((x62.set (x69).toNat true), (w64 (x65 + 1))))
  else
    some (.ret x62)
def live_begin.jn46 (x24 : Int) (x50 : PInstr) (x59 : List Bool) : Option (Ex (List Bool) (List Bool × Int)) :=
  (whl (fun (s : (List Bool × Int)) => live_begin.bd52 x50 s.1 s.2) FUEL (x59, 0)).bind fun z =>
  live_begin.nx52 x24 z
def live_begin.bd13 (a1 : PBlock) (x21 : List Bool) (x24 : Int) : Option (Ex (List Bool) (List Bool × Int)) :=
  if x24 ≥ 0 then
    (idx a1.ins x24).bind fun x50 =>
    if x50.dst ≥ 0 then
      (idx x21 x50.dst).bind fun x81 =>
      live_begin.jn46 x24 x50 (x21.set (x50.dst).toNat false)
    else
      live_begin.jn46 x24 x50 x21
  else
    some (.ret x21)
def live_begin.jn5 (a1 : PBlock) (x18 : List Bool) : Option (List Bool) :=
  (whl (fun (s : (List Bool × Int)) => live_begin.bd13 a1 s.1 s.2) FUEL (x18, (w64 ((len a1.ins) - 1)))).bind fun z =>
  live_begin.nx13 a1 z
def live_begin (a1 : PBlock) (a8 : List Bool) : Option (List Bool) :=
  (mkl (len a8) false).bind fun x12 =>
  if a1.term.arg ≥ 0 then
    (idx (cpy x12 a8) a1.term.arg).bind fun x87 =>
    live_begin.jn5 a1 ((cpy x12 a8).set (a1.term.arg).toNat true)
  else
    live_begin.jn5 a1 (cpy x12 a8)
set_option maxHeartbeats 4000000 in
theorem live_begin_ok {E : World} {H : FP} {w : World} {a1 : PBlock} {a8 : List Bool} {v2 : Value} {v4 : Value} {v6 : Value} {v9 : Value} {r : List Bool} (h3 : SlI kPhi H a1.phis v2) (h5 : SlI kInstr H a1.ins v4) (h7 : SlI (kInt .i64) H a1.term.to v6) (h10 : SlI kBool H a8 v9) (hp : live_begin a1 a8 = some r) (hst : St E H [] w) :
    Fn Try.prog 75 #[.agg #[v2, v4, .int .i64 a1.term.kind, .int .i64 a1.term.arg, v6], v9] w fun v w' => ∃ A, live_begin.R r v A ∧ St E H A w' := by
 refine fb 71 [.tmp 4] Try.func75 rfl rfl rfl rfl rfl hst <| sr <| tb [v2, v4, .int .i64 a1.term.kind, .int .i64 a1.term.arg, v6] rfl rfl fun b11 => ta rfl <| nz <| sr <| tm rfl <| tv (ln u88 h10 rfl) rfl <| tk (k := kBool) u88 i4 hp ⟨rfl, rfl⟩ rfl rfl rfl rfl rfl rfl fun x12 v13 F14 h15 hp => ta rfl <| nz <| sr <| tm rfl <| tm rfl <| TL.copy fBool u88 i4 (ltb rfl) rfl rfl rfl rfl h15 h10 sH fun F16 h17 => nz <| TC.seq fun K2 k3 => ?_
 have J5 {x18 F19 e4} (h20 : SlO 4 kBool x18 v13 F19) (hp : live_begin.jn5 a1 x18 = some r) : ∀ w, St E H [bx b11 50 [v2, v4, .int .i64 a1.term.kind, .int .i64 a1.term.arg, v6], F19] w → K2 (ovr e4 [(2, .pointer (some ⟨b11, 0, none⟩)), (5, v13)]) w := by
  refine tg k3 <| TC.seq fun K6 k7 => sr <| tv (fa f50_1 rfl) rfl <| tv (lb s48 0 rfl rfl rfl) rfl <| tv (ln u48 h5 rfl) rfl <| tv (bsu rfl rfl) rfl <| ta rfl <| nz <| TC.block <| bE hp fun z_9 hz10 hr11 => ?_
  have J35 {x25 F26 e14} (h27 : SlO 4 kBool x25 v13 F26) (hq36 : x25 = z_9) : ∀ w, St E H [bx b11 50 [v2, v4, .int .i64 a1.term.kind, .int .i64 a1.term.arg, v6], F26] w → K6 (ovr e14 [(2, .pointer (some ⟨b11, 0, none⟩)), (5, v13)]) w := by
   subst hq36
   replace hp : live_begin.nx13 a1 x25 = some r := hr11
   refine tg k7 <| TC.seq fun K15 k16 => sr <| tv (fa f50_0 rfl) rfl <| tv (lb s47 0 rfl rfl rfl) rfl <| tv (ln u47 h3 rfl) rfl <| tm rfl <| nz <| TC.block <| bE hp fun z_18 hz19 hr20 => ?_
   have J24 {x32 F33 e23} (h34 : SlO 4 kBool x32 v13 F33) (hq25 : x32 = z_18) : ∀ w, St E H [F33] w → K15 (ovr e23 [(5, v13)]) w := by
    subst hq25
    replace hp : live_begin.nx22 x32 = some r := hr20
    exact tg k16 <| sr <| tm rfl <| ta rfl <| nz <| TC.ret <| rt hp [0] ⟨v13, F33, rfl, rfl, h34⟩
   refine lp hz19 [1] rfl (fun s e L => ∃ x28 x31 F29 e17, s = (x28, x31) ∧ SlO 4 kBool x28 v13 F29 ∧ e = ovr e17 [(5, v13), (59, v2), (60, .int .i64 (len a1.phis)), (61, .int .i64 x31)] ∧ L = [F29]) ⟨_, _, F26, _, rfl, h27, ovr_eq _ _ rfl, rfl⟩ ?_
   rintro _ _ _ ⟨x28, x31, F29, e17, rfl, h30, rfl, rfl⟩ X21 hp hx22
   replace hp : live_begin.bd22 a1 x28 x31 = some X21 := hp
   refine sr <| tv (blt rfl rfl) rfl <| nz <| TC.seq fun K26 k27 => cD rfl hp (fun hc28 hp => ?_) fun hc28 hp => ?_
   · refine sk k27 rfl <| TC.seq fun K29 k30 => TC.block <| sr <| ti u47 i76 h3 hp rfl rfl rfl rfl ?_
     rintro x35 b36 o37 _ hp ⟨v41, rfl, h42⟩ h40
     exact tv (lR (ds := [.int .i64 x35.dst, v41]) ag_76 sH h40 0 rfl rfl rfl) rfl <| tl i76 rfl fun b43 => tS 0 m76 rfl rfl [.int .i64 x35.dst, v41] rfl (oc rfl (oc (h42).one oc0)) rfl rfl <| nz <| TC.region <| tm rfl <| tv (fa f76_0 rfl) rfl <| tv (lb s3 0 rfl rfl rfl) rfl <| tO u88 i4 h30 hp rfl rfl rfl rfl fun x44 b45 o46 h47 hp => tp [1, 0] [_,_] rfl rfl <| tE h30 h47 m4 rfl ⟨rfl, rfl⟩ w1 fun F48 h49 => nl <| tg k30 <| TC.region <| tv (bad rfl rfl) rfl <| tm rfl <| nl <| gk hp [0] ⟨_, _, F48, _, rfl, h49, ovr_eq _ _ rfl, rfl⟩
   · exact TC.exit <| jn [0] (J24 h30 (ex_ret hp hx22))
  refine lp hz10 [0, 1] rfl (fun s e L => ∃ x21 x24 F22 e8, s = (x21, x24) ∧ SlO 4 kBool x21 v13 F22 ∧ e = ovr e8 [(2, .pointer (some ⟨b11, 0, none⟩)), (5, v13), (6, .int .i64 x24)] ∧ L = [bx b11 50 [v2, v4, .int .i64 a1.term.kind, .int .i64 a1.term.arg, v6], F22]) ⟨_, _, F19, _, rfl, h20, ovr_eq _ _ rfl, rfl⟩ ?_
  rintro _ _ _ ⟨x21, x24, F22, e8, rfl, h23, rfl, rfl⟩ X12 hp hx13
  replace hp : live_begin.bd13 a1 x21 x24 = some X12 := hp
  refine TC.seq fun K37 k38 => sr <| tm rfl <| tv (bge rfl rfl) rfl <| nz <| cD rfl hp (fun hc39 hp => ?_) fun hc39 hp => ?_
  · refine sk k38 rfl <| TC.seq fun K40 k41 => TC.block <| sr <| tv (fa f50_1 rfl) rfl <| tv (lb s48 0 rfl rfl rfl) rfl <| tm rfl <| ti u48 i52 h5 hp rfl rfl rfl rfl ?_
    rintro x50 b51 o52 _ hp ⟨v56, rfl, h57⟩ h55
    refine tv (lR (ds := [.int .i64 x50.op, .int .i64 x50.dst, v56, .int .i64 x50.imm, .int .i64 x50.fn]) ag_52 sH h55 0 rfl rfl rfl) rfl <| tl i52 rfl fun b58 => tS 0 m52 rfl rfl [.int .i64 x50.op, .int .i64 x50.dst, v56, .int .i64 x50.imm, .int .i64 x50.fn] rfl (oc rfl (oc rfl (oc (h57).one (oc rfl (oc rfl oc0))))) rfl rfl <| nz <| TC.seq fun K43 k44 => ?_
    have J46 {x59 F60 e45} (h61 : SlO 4 kBool x59 v13 F60) (hp : live_begin.jn46 x24 x50 x59 = some X12) : ∀ w, St E H [bx b11 50 [v2, v4, .int .i64 a1.term.kind, .int .i64 a1.term.arg, v6], F60, bx b58 52 [.int .i64 x50.op, .int .i64 x50.dst, v56, .int .i64 x50.imm, .int .i64 x50.fn]] w → K43 (ovr e45 [(2, .pointer (some ⟨b11, 0, none⟩)), (5, v13), (6, .int .i64 x24), (7, .pointer (some ⟨b58, 0, none⟩))]) w := by
     refine tg k44 <| sr <| tv (fa f52_2 rfl) rfl <| tv (lb s25 2 rfl rfl rfl) rfl <| tv (ln u25 h57 rfl) rfl <| tm rfl <| nz <| TC.block <| bE hp fun z_48 hz49 hr50 => ?_
     have J54 {x66 F67 e53} (h68 : SlO 4 kBool x66 v13 F67) (hq55 : x66 = z_48) : ∀ w, St E H [bx b11 50 [v2, v4, .int .i64 a1.term.kind, .int .i64 a1.term.arg, v6], F67] w → K40 (ovr e53 [(2, .pointer (some ⟨b11, 0, none⟩)), (5, v13), (6, .int .i64 x24)]) w := by
      subst hq55
      replace hp : live_begin.nx52 x24 x66 = some X12 := hr50
      exact tg k41 <| TC.region <| tm rfl <| tv (bsu rfl rfl) rfl <| ta rfl <| nl <| gk hp [0, 1] ⟨_, _, F67, _, rfl, h68, ovr_eq _ _ rfl, rfl⟩
     refine lp hz49 [0, 1] rfl (fun s e L => ∃ x62 x65 F63 e47, s = (x62, x65) ∧ SlO 4 kBool x62 v13 F63 ∧ e = ovr e47 [(2, .pointer (some ⟨b11, 0, none⟩)), (5, v13), (6, .int .i64 x24), (48, v56), (49, .int .i64 (len x50.args)), (50, .int .i64 x65)] ∧ L = [bx b11 50 [v2, v4, .int .i64 a1.term.kind, .int .i64 a1.term.arg, v6], F63]) ⟨_, _, F60, _, rfl, h61, ovr_eq _ _ rfl, rfl⟩ ?_
     rintro _ _ _ ⟨x62, x65, F63, e47, rfl, h64, rfl, rfl⟩ X51 hp hx52
     replace hp : live_begin.bd52 x50 x62 x65 = some X51 := hp
     refine sr <| tv (blt rfl rfl) rfl <| nz <| TC.seq fun K56 k57 => cD rfl hp (fun hc58 hp => ?_) fun hc58 hp => ?_
     · refine sk k57 rfl <| TC.seq fun K59 k60 => TC.block <| sr <| ti u25 i3 h57 hp rfl rfl rfl rfl ?_
       rintro x69 b70 o71 _ hp rfl h74
       exact tv (lr s3 sH h74 0 rfl rfl) rfl <| ta rfl <| nz <| TC.region <| tm rfl <| tm rfl <| tO u88 i4 h64 hp rfl rfl rfl rfl fun x75 b76 o77 h78 hp => tp [1, 0] [_,_] rfl rfl <| tE h64 h78 m4 rfl ⟨rfl, rfl⟩ w1 fun F79 h80 => nl <| tg k60 <| TC.region <| tv (bad rfl rfl) rfl <| tm rfl <| nl <| gk hp [1, 0] ⟨_, _, F79, _, rfl, h80, ovr_eq _ _ rfl, rfl⟩
     · exact TC.exit <| jn [0, 1] (J54 h64 (ex_ret hp hx52))
    refine sr <| tv (fa f52_1 rfl) rfl <| tv (lb s3 0 rfl rfl rfl) rfl <| tv (bge rfl rfl) rfl <| nz <| cD rfl hp (fun hc65 hp => ?_) fun hc65 hp => ?_
    · exact TC.region <| tm rfl <| tv (fa f52_1 rfl) rfl <| tv (lb s3 0 rfl rfl rfl) rfl <| tO u88 i4 h23 hp rfl rfl rfl rfl fun x81 b82 o83 h84 hp => tp [2, 0, 1] [_,_,_] rfl rfl <| tE h23 h84 m4 rfl ⟨rfl, rfl⟩ w1 fun F85 h86 => nl <| jn [2, 0, 1] (J46 h86 hp)
    · exact TC.skip <| jn [1, 2, 0] (J46 h23 hp)
  · exact TC.exit <| jn [0, 1] (J35 h23 (ex_ret hp hx13))
 refine sr <| tv (fa f50_2 rfl) rfl <| tv (fa f46_1 rfl) rfl <| tv (lb s3 1 rfl rfl rfl) rfl <| tv (bge rfl rfl) rfl <| nz <| cD rfl hp (fun hc69 hp => ?_) fun hc69 hp => ?_
 · exact TC.region <| tm rfl <| tv (fa f50_2 rfl) rfl <| tv (fa f46_1 rfl) rfl <| tv (lb s3 1 rfl rfl rfl) rfl <| tO u88 i4 h17 hp rfl rfl rfl rfl fun x87 b88 o89 h90 hp => tE h17 h90 m4 rfl ⟨rfl, rfl⟩ w1 fun F91 h92 => nl <| jn [1, 0] (J5 h92 hp)
 · exact TC.skip <| jn [1, 0] (J5 h17 hp)

/-! ### fettle/live.Live -/
abbrev live_Live.R (r : List (List Bool) × List (List Bool) × GErr) (v : Value) (A : List FP) : Prop := ∃ (w1 : Value) (G1 : FP) (w2 : Value) (G2 : FP) (w3 : Value) (G3 : FP), .tuple #[w1, w2, w3] = v ∧ A = [G1, G2, G3] ∧ SlO 88 (kSl 4 kBool) r.1 w1 G1 ∧ SlO 88 (kSl 4 kBool) r.2.1 w2 G2 ∧ ErO 70 96 98 r.2.2 w3 G3
def live_Live.nx43  (x4839 : List (List Bool)) (x4842 : List (List Bool)) : Option (List (List Bool) × List (List Bool) × GErr) :=
  some (x4839, x4842, GErr.no)
def live_Live.nx57  (x4854 : List (List Bool)) (x4857 : List (List Bool)) (x4860 : Bool) : Option (Ex (List (List Bool) × List (List Bool)) (List (List Bool) × List (List Bool) × Bool)) :=
  some (.go (x4854, x4857, x4860))
def live_Live.nx89 (x4853 : Int) (x4874 : List (List Bool)) (x9684 : List (List Bool)) (x9687 : Bool) : Option (Ex (List (List Bool) × List (List Bool) × Bool) (List (List Bool) × List (List Bool) × Bool × Int)) :=
  some (.go (x9684, x4874, x9687, (w64 (x4853 - 1))))
def live_Live.jn99 (x9683 : Int) (x9688 : List (List Bool)) (x9691 : Bool) : Option (Ex (List (List Bool) × Bool) (List (List Bool) × Bool × Int)) :=
  some (.go (x9688, x9691, (w64 (x9683 + 1))))
def live_Live.bd89 (x4853 : Int) (x8479 : List Bool) (x9679 : List (List Bool)) (x9682 : Bool) (x9683 : Int) : Option (Ex (List (List Bool) × Bool) (List (List Bool) × Bool × Int)) :=
  if x9683 < (len x8479) then
    (idx x8479 x9683).bind fun x9692 =>
    (idx x9679 x4853).bind fun x9698 =>
    (idx x9698 x9683).bind fun x9706 =>
    if (!(x9692 == x9706)) = true then
      (idx x9679 x4853).bind fun x9712 =>
      (idx x9712 x9683).bind fun x9721 =>
      live_Live.jn99 x9683 (x9679.set (x4853).toNat (x9712.set (x9683).toNat x9692)) true
    else
      live_Live.jn99 x9683 x9679 x9682
  else
    some (.ret (x9679, x9682))
def live_Live.nx74 (x12 : PFunc) (x4846 : List (List Bool)) (x4853 : Int) (x4874 : List (List Bool)) (x4877 : Bool) : Option (Ex (List (List Bool) × List (List Bool) × Bool) (List (List Bool) × List (List Bool) × Bool × Int)) :=
  (idx x12.blocks x4853).bind fun x6079 =>
  (idx x4874 x4853).bind fun x7679 =>
  (live_begin x6079 x7679).bind fun x8479 =>
  (whl (fun (s : (List (List Bool) × Bool × Int)) => live_Live.bd89 x4853 x8479 s.1 s.2.1 s.2.2) FUEL (x4846, x4877, 0)).bind fun z =>
  live_Live.nx89 x4853 x4874 z.1 z.2
def live_Live.nx122 (x4873 : Int) (x9748 : List (List Bool)) (x9751 : Bool) : Option (Ex (List (List Bool) × Bool) (List (List Bool) × Bool × Int)) :=
  some (.go (x9748, x9751, (w64 (x4873 + 1))))
def live_Live.jn132 (x9747 : Int) (x9752 : List (List Bool)) (x9755 : Bool) : Option (Ex (List (List Bool) × Bool) (List (List Bool) × Bool × Int)) :=
  some (.go (x9752, x9755, (w64 (x9747 + 1))))
def live_Live.bd122 (x4853 : Int) (x9735 : List Bool) (x9743 : List (List Bool)) (x9746 : Bool) (x9747 : Int) : Option (Ex (List (List Bool) × Bool) (List (List Bool) × Bool × Int)) :=
  if x9747 < (len x9735) then
    (idx x9735 x9747).bind fun x9756 =>
    (if x9756 = true then (idx x9743 x4853).bind fun x9780 =>
    (idx x9780 x9747).bind fun x9788 =>
    some (!x9788) else some false).bind fun t9762 =>
    if t9762 = true then
      (idx x9743 x4853).bind fun x9763 =>
      (idx x9763 x9747).bind fun x9772 =>
      live_Live.jn132 x9747 (x9743.set (x4853).toNat (x9763.set (x9747).toNat true)) true
    else
      live_Live.jn132 x9747 x9743 x9746
  else
    some (.ret (x9743, x9746))
def live_Live.bd74 (x4846 : List (List Bool)) (x4853 : Int) (x4861 : List Int) (x4869 : List (List Bool)) (x4872 : Bool) (x4873 : Int) : Option (Ex (List (List Bool) × Bool) (List (List Bool) × Bool × Int)) :=
  if x4873 < (len x4861) then
    (idx x4861 x4873).bind fun x9729 =>
    (idx x4846 x9729).bind fun x9735 =>
    (whl (fun (s : (List (List Bool) × Bool × Int)) => live_Live.bd122 x4853 x9735 s.1 s.2.1 s.2.2) FUEL (x4869, x4872, 0)).bind fun z =>
    live_Live.nx122 x4873 z.1 z.2
  else
    some (.ret (x4869, x4872))
def live_Live.bd57 (x12 : PFunc) (x424 : List (List Int)) (x4846 : List (List Bool)) (x4849 : List (List Bool)) (x4852 : Bool) (x4853 : Int) : Option (Ex (List (List Bool) × List (List Bool) × Bool) (List (List Bool) × List (List Bool) × Bool × Int)) :=
  if x4853 ≥ 0 then
    (idx x424 x4853).bind fun x4861 =>
    (whl (fun (s : (List (List Bool) × Bool × Int)) => live_Live.bd74 x4846 x4853 x4861 s.1 s.2.1 s.2.2) FUEL (x4849, x4852, 0)).bind fun z =>
    live_Live.nx74 x12 x4846 x4853 z.1 z.2
  else
    some (.ret (x4846, x4849, x4852))
def live_Live.bd43 (x12 : PFunc) (x424 : List (List Int)) (x4832 : List (List Bool)) (x4835 : List (List Bool)) (x4838 : Bool) : Option (Ex (List (List Bool) × List (List Bool)) (List (List Bool) × List (List Bool) × Bool)) :=
  if x4838 = true then
    (whl (fun (s : (List (List Bool) × List (List Bool) × Bool × Int)) => live_Live.bd57 x12 x424 s.1 s.2.1 s.2.2.1 s.2.2.2) FUEL (x4832, x4835, false, (w64 ((len x12.blocks) - 1)))).bind fun z =>
    live_Live.nx57 z.1 z.2.1 z.2.2
  else
    some (.ret (x4832, x4835))
def live_Live.nx34 (x12 : PFunc) (x424 : List (List Int)) (x2825 : List (List Bool)) (x4829 : List (List Bool)) : Option (List (List Bool) × List (List Bool) × GErr) :=
  (whl (fun (s : (List (List Bool) × List (List Bool) × Bool)) => live_Live.bd43 x12 x424 s.1 s.2.1 s.2.2) FUEL (x2825, x4829, true)).bind fun z =>
  live_Live.nx43 z.1 z.2
def live_Live.nx166 (x4828 : Int) (x9811 : List (List Bool)) : Option (Ex (List (List Bool)) (List (List Bool) × Int)) :=
  some (.go (x9811, (w64 (x4828 + 1))))
def live_Live.nx181 (x9810 : Int) (x9827 : List (List Bool)) : Option (Ex (List (List Bool)) (List (List Bool) × Int)) :=
  some (.go (x9827, (w64 (x9810 + 1))))
def live_Live.bd181 (x1224 : List (List Int)) (x4828 : Int) (x9814 : PPhi) (x9823 : List (List Bool)) (x9826 : Int) : Option (Ex (List (List Bool)) (List (List Bool) × Int)) :=
  if x9826 < (len x9814.args) then
    (idx x9814.args x9826).bind fun x9830 =>
    (idx x1224 x4828).bind fun x9836 =>
    (idx x9836 x9826).bind fun x9844 =>
    (idx x9823 x9844).bind fun x9850 =>
    (idx x9850 x9830).bind fun x9859 =>
    some (.go ((x9823.set (x9844).toNat (x9850.set (x9830).toNat true)), (w64 (x9826 + 1))))
  else
    some (.ret x9823)
def live_Live.bd166 (x1224 : List (List Int)) (x4828 : Int) (x9794 : PBlock) (x9807 : List (List Bool)) (x9810 : Int) : Option (Ex (List (List Bool)) (List (List Bool) × Int)) :=
  if x9810 < (len x9794.phis) then
    (idx x9794.phis x9810).bind fun x9814 =>
    (whl (fun (s : (List (List Bool) × Int)) => live_Live.bd181 x1224 x4828 x9814 s.1 s.2) FUEL (x9807, 0)).bind fun z =>
    live_Live.nx181 x9810 z
  else
    some (.ret x9807)
def live_Live.bd34 (x12 : PFunc) (x1224 : List (List Int)) (x4825 : List (List Bool)) (x4828 : Int) : Option (Ex (List (List Bool)) (List (List Bool) × Int)) :=
  if x4828 < (len x12.blocks) then
    (idx x12.blocks x4828).bind fun x9794 =>
    (whl (fun (s : (List (List Bool) × Int)) => live_Live.bd166 x1224 x4828 x9794 s.1 s.2) FUEL (x4825, 0)).bind fun z =>
    live_Live.nx166 x4828 z
  else
    some (.ret x4825)
def live_Live (a1 : PModule) (a4 : Int) : Option (List (List Bool) × List (List Bool) × GErr) :=
  (live_has a1 a4).bind fun x6 =>
  if ¬ x6 = GErr.no then
    some (([] : List (List Bool)), ([] : List (List Bool)), x6)
  else
    (idx a1.funcs a4).bind fun x12 =>
    (graph_Next x12).bind fun x424 =>
    (check_Ahead x12).bind fun x1224 =>
    (live_table x12).bind fun x2825 =>
    (live_table x12).bind fun x3625 =>
    (whl (fun (s : (List (List Bool) × Int)) => live_Live.bd34 x12 x1224 s.1 s.2) FUEL (x3625, 0)).bind fun z =>
    live_Live.nx34 x12 x424 x2825 z
set_option maxHeartbeats 4000000 in
theorem live_Live_ok {E : World} {H : FP} {w : World} {a1 : PModule} {a4 : Int} {v2 : Value} {r : List (List Bool) × List (List Bool) × GErr} (h3 : SlI kFunc H a1.funcs v2) (hp : live_Live a1 a4 = some r) (hst : St E H [] w) :
    Fn Try.prog 41 #[.agg #[v2], .int .i64 a4] w fun v w' => ∃ A, live_Live.R r v A ∧ St E H A w' := by
 refine fb 166 [.tmp 4, .tmp 5, .tmp 6] Try.func41 rfl rfl rfl rfl rfl hst <| sr <| tb [v2] rfl rfl fun b5 => ta rfl <| ta rfl <| ta rfl <| nz <| TC.seq fun K1 k2 => sr <| tv (lA (ds := [v2]) ag_35 0 rfl rfl rfl rfl) rfl <| tm rfl <| bE hp fun x6 hy3 hp => tc 0 [_] rfl c73 (fun _ => live_has_ok (a1 := a1) (a4 := a4) (h3.mono subH) hy3) rfl ?_
 rintro _ _ ⟨v7, F8, rfl, rfl, h9⟩
 refine ta rfl <| nz <| sr <| tm rfl <| tv (rv_neqEN ifc_27 h9 rfl) rfl <| nz <| cD rfl hp (fun hc5 hp => ?_) fun hc5 hp => ?_
 · exact sr <| tm rfl <| ta rfl <| ta rfl <| ta rfl <| nz <| TC.ret <| W.new0 <| W.new0 <| rt hp [1, 0, 2] ⟨(.slice none 0 0), ([] : FP), (.slice none 0 0), ([] : FP), v7, F8, rfl, rfl, (SlO.nil 88), (SlO.nil 88), h9⟩
 · refine sk k2 rfl <| sr <| tv (fa f35_0 rfl) rfl <| tv (lb s33 1 rfl rfl rfl) rfl <| tm rfl <| ti u33 i40 h3 hp rfl rfl rfl rfl ?_
   rintro x12 b13 o14 _ hp ⟨v18, v20, rfl, h19, h21⟩ h17
   refine tv (lR (ds := [.int .i64 x12.params, .int .i64 x12.result, v18, v20]) ag_40 sH h17 0 rfl rfl rfl) rfl <| tl i40 rfl fun b22 => tS 0 m40 rfl rfl [.int .i64 x12.params, .int .i64 x12.result, v18, v20] rfl (oc rfl (oc rfl (oc (h19).one (oc (h21).one oc0)))) rfl rfl <| nz <| TC.seq fun K7 k8 => ch mix [bx b22 40 [.int .i64 x12.params, .int .i64 x12.result, v18, v20], F8, bx b5 35 [v2]] (srcG 0 rfl (srcG 1 rfl (srcG 2 rfl srcG0))) <| hv 0 rfl (lAG (ds := [.int .i64 x12.params, .int .i64 x12.result, v18, v20]) ag_40 0 rfl rfl rfl rfl) (by kernel_rfl) rfl <| hv 2 rfl (lAG (ds := [.int .i64 x12.params, .int .i64 x12.result, v18, v20]) ag_40 0 rfl rfl rfl rfl) (by kernel_rfl) rfl <| ho 1 rfl (by kernel_rfl) fun K9 k10 => bE hp fun x424 hy11 hp => tc 0 [_,_,_] rfl c51 (fun _ => graph_Next_ok (a1 := x12) (h19.mono subH) (h21.mono subH) hy11) rfl ?_
   rintro _ _ ⟨v425, F426, rfl, rfl, h427⟩
   refine hk k10 (srcG 1 rfl (srcG 2 rfl (srcG 3 rfl srcG0))) <| ho 3 rfl (by kernel_rfl) fun K13 k14 => bE hp fun x1224 hy15 hp => tc 0 [_,_,_,_] rfl c47 (fun _ => check_Ahead_ok (a1 := x12) (h19.mono subH) (h21.mono subH) hy15) rfl ?_
   rintro _ _ ⟨v1225, F1226, rfl, rfl, h1227⟩
   refine hk k14 (srcG 2 rfl (srcG 3 rfl (srcG 4 rfl srcG0))) <| hv 4 rfl sg (by kernel_rfl) rfl <| hv 5 rfl sg (by kernel_rfl) rfl <| hz (by kernel_rfl) <| tg k8 <| TC.seq fun K17 k18 => ch mix [F1226, F426, bx b22 40 [.int .i64 x12.params, .int .i64 x12.result, v18, v20], F8, bx b5 35 [v2]] (srcG 0 rfl (srcG 1 rfl (srcG 2 rfl (srcG 3 rfl (srcG 4 rfl srcG0))))) <| hv 0 rfl (lAG (ds := [.int .i64 x12.params, .int .i64 x12.result, v18, v20]) ag_40 2 rfl rfl rfl rfl) (by kernel_rfl) rfl <| hv 2 rfl (lAG (ds := [.int .i64 x12.params, .int .i64 x12.result, v18, v20]) ag_40 2 rfl rfl rfl rfl) (by kernel_rfl) rfl <| ho 1 rfl (by kernel_rfl) fun K19 k20 => bE hp fun x2825 hy21 hp => tc 0 [_,_,_,_,_] rfl c74 (fun _ => live_table_ok (a1 := x12) (h19.mono subH) (h21.mono subH) hy21) rfl ?_
   rintro _ _ ⟨v2826, F2827, rfl, rfl, h2828⟩
   refine hk k20 (srcG 1 rfl (srcG 2 rfl (srcG 3 rfl (srcG 4 rfl (srcG 5 rfl srcG0))))) <| ho 3 rfl (by kernel_rfl) fun K23 k24 => bE hp fun x3625 hy25 hp => tc 0 [_,_,_,_,_,_] rfl c74 (fun _ => live_table_ok (a1 := x12) (h19.mono subH) (h21.mono subH) hy25) rfl ?_
   rintro _ _ ⟨v3626, F3627, rfl, rfl, h3628⟩
   refine hk k24 (srcG 2 rfl (srcG 3 rfl (srcG 4 rfl (srcG 5 rfl (srcG 6 rfl srcG0))))) <| hv 4 rfl sg (by kernel_rfl) rfl <| hv 5 rfl sg (by kernel_rfl) rfl <| hz (by kernel_rfl) <| tg k18 <| TC.seq fun K27 k28 => sr <| tv (fa f40_3 rfl) rfl <| tv (lb s38 4 rfl rfl rfl) rfl <| tv (ln u38 h21 rfl) rfl <| tm rfl <| nz <| TC.block <| bE hp fun z_30 hz31 hr32 => ?_
   have J153 {x4829 F4830 e35} (h4831 : SlO 88 (kSl 4 kBool) x4829 v3626 F4830) (hq154 : x4829 = z_30) : ∀ w, St E H [bx b22 40 [.int .i64 x12.params, .int .i64 x12.result, v18, v20], F426, F2827, F4830] w → K27 (ovr e35 [(8, .pointer (some ⟨b22, 0, none⟩)), (9, v425), (11, v2826), (12, v3626)]) w := by
    subst hq154
    replace hp : live_Live.nx34 x12 x424 x2825 x4829 = some r := hr32
    refine tg k28 <| TC.seq fun K36 k37 => sr <| ta rfl <| nz <| TC.block <| bE hp fun z_39 hz40 hr41 => ?_
    have J45 {x4839 x4842 F4840 F4843 e44} (h4841 : SlO 88 (kSl 4 kBool) x4839 v2826 F4840) (h4844 : SlO 88 (kSl 4 kBool) x4842 v3626 F4843) (hq46 : (x4839, x4842) = z_39) : ∀ w, St E H [F4840, F4843] w → K36 (ovr e44 [(11, v2826), (12, v3626)]) w := by
     subst hq46
     replace hp : live_Live.nx43 x4839 x4842 = some r := hr41
     exact tg k37 <| sr <| tm rfl <| tm rfl <| ta rfl <| ta rfl <| ta rfl <| nz <| TC.ret <| W.new0 <| rt hp [1, 2, 0] ⟨v2826, F4840, v3626, F4843, .nilIface, ([] : FP), rfl, rfl, h4841, h4844, (ErO.nil : ErO 70 96 98 GErr.no .nilIface [])⟩
    refine lp hz40 [0, 1, 2, 3] rfl (fun s e L => ∃ x4832 x4835 x4838 F4833 F4836 e38, s = (x4832, x4835, x4838) ∧ SlO 88 (kSl 4 kBool) x4832 v2826 F4833 ∧ SlO 88 (kSl 4 kBool) x4835 v3626 F4836 ∧ e = ovr e38 [(8, .pointer (some ⟨b22, 0, none⟩)), (9, v425), (11, v2826), (12, v3626), (19, .bool x4838)] ∧ L = [bx b22 40 [.int .i64 x12.params, .int .i64 x12.result, v18, v20], F426, F4833, F4836]) ⟨_, _, _, F2827, F4830, _, rfl, h2828, h4831, ovr_eq _ _ rfl, rfl⟩ ?_
    rintro _ _ _ ⟨x4832, x4835, x4838, F4833, F4836, e38, rfl, h4834, h4837, rfl, rfl⟩ X42 hp hx43
    replace hp : live_Live.bd43 x12 x424 x4832 x4835 x4838 = some X42 := hp
    refine TC.seq fun K47 k48 => sr <| tm rfl <| nz <| cB rfl hp (fun hc49 hp => ?_) fun hc49 hp => ?_
    · refine sk k48 rfl <| TC.named fun K50 k51 => TC.block <| sr <| ta rfl <| nz <| sr <| tv (fa f40_3 rfl) rfl <| tv (lb s38 0 rfl rfl rfl) rfl <| tv (ln u38 h21 rfl) rfl <| tv (bsu rfl rfl) rfl <| ta rfl <| nz <| TC.block <| bE hp fun z_53 hz54 hr55 => ?_
      have J59 {x4854 x4857 x4860 F4855 F4858 e58} (h4856 : SlO 88 (kSl 4 kBool) x4854 v2826 F4855) (h4859 : SlO 88 (kSl 4 kBool) x4857 v3626 F4858) (hq60 : (x4854, x4857, x4860) = z_53) : ∀ w, St E H [bx b22 40 [.int .i64 x12.params, .int .i64 x12.result, v18, v20], F426, F4855, F4858] w → K50 (ovr e58 [(8, .pointer (some ⟨b22, 0, none⟩)), (9, v425), (11, v2826), (12, v3626), (19, .bool x4860)]) w := by
       subst hq60
       replace hp : live_Live.nx57 x4854 x4857 x4860 = some X42 := hr55
       exact viaK k51 <| gk hp [0, 1, 2, 3] ⟨_, _, _, F4855, F4858, _, rfl, h4856, h4859, ovr_eq _ _ rfl, rfl⟩
      refine lp hz54 [0, 1, 2, 3] rfl (fun s e L => ∃ x4846 x4849 x4852 x4853 F4847 F4850 e52, s = (x4846, x4849, x4852, x4853) ∧ SlO 88 (kSl 4 kBool) x4846 v2826 F4847 ∧ SlO 88 (kSl 4 kBool) x4849 v3626 F4850 ∧ e = ovr e52 [(8, .pointer (some ⟨b22, 0, none⟩)), (9, v425), (11, v2826), (12, v3626), (19, .bool x4852), (20, .int .i64 x4853)] ∧ L = [bx b22 40 [.int .i64 x12.params, .int .i64 x12.result, v18, v20], F426, F4847, F4850]) ⟨_, _, _, _, F4833, F4836, _, rfl, h4834, h4837, ovr_eq _ _ rfl, rfl⟩ ?_
      rintro _ _ _ ⟨x4846, x4849, x4852, x4853, F4847, F4850, e52, rfl, h4848, h4851, rfl, rfl⟩ X56 hp hx57
      replace hp : live_Live.bd57 x12 x424 x4846 x4849 x4852 x4853 = some X56 := hp
      refine TC.seq fun K61 k62 => sr <| tm rfl <| tv (bge rfl rfl) rfl <| nz <| cD rfl hp (fun hc63 hp => ?_) fun hc63 hp => ?_
      · refine sk k62 rfl <| TC.seq fun K64 k65 => TC.block <| TC.seq fun K66 k67 => sr <| tm rfl <| tm rfl <| ti u60 i25 (h427).ro hp rfl rfl rfl rfl ?_
        rintro x4861 b4862 o4863 _ hp ⟨v4867, rfl, h4868⟩ h4866
        refine tv (lr s25 (Src.at_ 1 rfl) h4866 0 rfl rfl) rfl <| tv (ln u25 h4868 rfl) rfl <| tm rfl <| nz <| TC.block <| bE hp fun z_70 hz71 hr72 => ?_
        have J108 {x4874 x4877 F4875 e75} (h4876 : SlO 88 (kSl 4 kBool) x4874 v3626 F4875) (hq109 : (x4874, x4877) = z_70) : ∀ w, St E H [bx b22 40 [.int .i64 x12.params, .int .i64 x12.result, v18, v20], F426, F4847, F4875] w → K66 (ovr e75 [(8, .pointer (some ⟨b22, 0, none⟩)), (9, v425), (11, v2826), (12, v3626), (19, .bool x4877), (20, .int .i64 x4853)]) w := by
         subst hq109
         replace hp : live_Live.nx74 x12 x4846 x4853 x4874 x4877 = some X56 := hr72
         refine tg k67 <| TC.seq fun K76 k77 => ch mix [bx b22 40 [.int .i64 x12.params, .int .i64 x12.result, v18, v20], F426, F4847, F4875] (srcG 0 rfl (srcG 1 rfl (srcG 2 rfl (srcG 3 rfl srcG0)))) <| hv 0 rfl (fa f40_3 rfl) (by kernel_rfl) rfl <| hv 1 rfl (lbG s38 0 rfl rfl rfl) (by kernel_rfl) rfl <| hv 2 rfl mv (by kernel_rfl) rfl <| hi 3 rfl u38 i50 h21 hp rfl rfl rfl (by kernel_rfl) rfl ?_
         rintro x6079 b6080 o6081 _ hp ⟨v6085, v6087, v6089, rfl, h6086, h6088, h6090⟩ h6084
         refine hv 4 rfl (lR (ds := [v6085, v6087, .int .i64 x6079.term.kind, .int .i64 x6079.term.arg, v6089]) ag_50 srcInH h6084 0 rfl rfl rfl) (by kernel_rfl) rfl <| hv 5 rfl mv (by kernel_rfl) rfl <| hv 6 rfl mv (by kernel_rfl) rfl <| hi 7 rfl u62 i88 (h4876).ro hp rfl rfl rfl (by kernel_rfl) rfl ?_
         rintro x7679 b7680 o7681 _ hp ⟨v7685, rfl, h7686⟩ h7684
         refine hv 8 rfl (lr s88 (srcInG 3 rfl) h7684 0 rfl rfl) (by kernel_rfl) rfl <| hv 11 rfl mv (by kernel_rfl) rfl <| ho 9 rfl (by kernel_rfl) fun K80 k81 => bE hp fun x8479 hy82 hp => tc 0 [_,_,_,_] rfl c75 (fun _ => live_begin_ok (a1 := x6079) (a8 := x7679) (h6086.mono subH) (h6088.mono subH) (h6090.mono subH) (h7686.mono (subB 3 rfl)) hy82) rfl ?_
         rintro _ _ ⟨v8480, F8481, rfl, rfl, h8482⟩
         refine hk k81 (srcG 1 rfl (srcG 2 rfl (srcG 3 rfl (srcG 4 rfl srcG0)))) <| hv 10 rfl (ln u88 h8482.ro rfl) (by kernel_rfl) rfl <| hz (by kernel_rfl) <| tg k77 <| TC.block <| bE hp fun z_85 hz86 hr87 => ?_
         have J91 {x9684 x9687 F9685 e90} (h9686 : SlO 88 (kSl 4 kBool) x9684 v2826 F9685) (hq92 : (x9684, x9687) = z_85) : ∀ w, St E H [bx b22 40 [.int .i64 x12.params, .int .i64 x12.result, v18, v20], F426, F9685, F4875] w → K64 (ovr e90 [(8, .pointer (some ⟨b22, 0, none⟩)), (9, v425), (11, v2826), (12, v3626), (19, .bool x9687), (20, .int .i64 x4853)]) w := by
          subst hq92
          replace hp : live_Live.nx89 x4853 x4874 x9684 x9687 = some X56 := hr87
          exact tg k65 <| TC.region <| tm rfl <| tv (bsu rfl rfl) rfl <| ta rfl <| nl <| gk hp [0, 1, 2, 3] ⟨_, _, _, _, F9685, F4875, _, rfl, h9686, h4876, ovr_eq _ _ rfl, rfl⟩
         refine lp hz86 [1, 2, 3, 4, 0] rfl (fun s e L => ∃ x9679 x9682 x9683 F9680 e84, s = (x9679, x9682, x9683) ∧ SlO 88 (kSl 4 kBool) x9679 v2826 F9680 ∧ e = ovr e84 [(8, .pointer (some ⟨b22, 0, none⟩)), (9, v425), (11, v2826), (12, v3626), (19, .bool x9682), (20, .int .i64 x4853), (140, v8480), (141, .int .i64 (len x8479)), (142, .int .i64 x9683)] ∧ L = [bx b22 40 [.int .i64 x12.params, .int .i64 x12.result, v18, v20], F426, F9680, F4875, F8481]) ⟨_, _, _, F4847, _, rfl, h4848, ovr_eq _ _ rfl, rfl⟩ ?_
         rintro _ _ _ ⟨x9679, x9682, x9683, F9680, e84, rfl, h9681, rfl, rfl⟩ X88 hp hx89
         replace hp : live_Live.bd89 x4853 x8479 x9679 x9682 x9683 = some X88 := hp
         refine sr <| tv (blt rfl rfl) rfl <| nz <| TC.seq fun K93 k94 => cD rfl hp (fun hc95 hp => ?_) fun hc95 hp => ?_
         · refine sk k94 rfl <| TC.seq fun K96 k97 => ?_
           have J99 {x9688 x9691 F9689 e98} (h9690 : SlO 88 (kSl 4 kBool) x9688 v2826 F9689) (hp : live_Live.jn99 x9683 x9688 x9691 = some X88) : ∀ w, St E H [bx b22 40 [.int .i64 x12.params, .int .i64 x12.result, v18, v20], F426, F9689, F4875, F8481] w → K96 (ovr e98 [(8, .pointer (some ⟨b22, 0, none⟩)), (9, v425), (11, v2826), (12, v3626), (19, .bool x9691), (20, .int .i64 x4853), (140, v8480), (141, .int .i64 (len x8479)), (142, .int .i64 x9683)]) w := by
            exact tg k97 <| TC.region <| tv (bad rfl rfl) rfl <| tm rfl <| nl <| gk hp [0, 1, 2, 3, 4] ⟨_, _, _, F9689, _, rfl, h9690, ovr_eq _ _ rfl, rfl⟩
           refine TC.block <| sr <| tm rfl <| ti u88 i4 (h8482).ro hp rfl rfl rfl rfl ?_
           rintro x9692 b9693 o9694 _ hp rfl h9697
           refine tv (lr s4 (Src.at_ 4 rfl) h9697 0 rfl rfl) rfl <| ta rfl <| ta rfl <| nz <| sr <| tm rfl <| tm rfl <| tm rfl <| ti u62 i88 (h9681).ro hp rfl rfl rfl rfl ?_
           rintro x9698 b9699 o9700 _ hp ⟨v9704, rfl, h9705⟩ h9703
           refine tv (lr s88 (Src.at_ 2 rfl) h9703 0 rfl rfl) rfl <| tm rfl <| ti u88 i4 h9705 hp rfl rfl rfl rfl ?_
           rintro x9706 b9707 o9708 _ hp rfl h9711
           refine tv (lr s4 (Src.at_ 2 rfl) h9711 0 rfl rfl) rfl <| tv (rv_neqB (b := x9692) (c := x9706) Try.underlying4 rfl rfl) rfl <| nz <| cB rfl hp (fun hc103 hp => ?_) fun hc103 hp => ?_
           · refine TC.region <| tm rfl <| tm rfl <| tp [2, 0, 1, 3, 4] [_,_,_,_,_] rfl rfl <| bE hp fun x9712 hx104 hp => TL.open_ h9681 hx104 ?_
             rintro b9713 _ F9715 F9716 h9717 ⟨v9719, rfl, h9720⟩
             exact tv (rv_ixH u62 i88 rfl rfl (idx_some hx104).1 h9717) rfl <| tv (lr s88 (Src.at_ 0 rfl) (Hole.cells h9717) 0 rfl rfl) rfl <| tm rfl <| tm rfl <| tO u88 i4 h9720 hp rfl rfl rfl rfl fun x9721 b9722 o9723 h9724 hp => tp [1, 0, 2, 3, 4, 5] [_,_,_,_,_,_] rfl rfl <| tE h9720 h9724 m4 rfl ⟨rfl, rfl⟩ w1 fun F9725 h9726 => ta rfl <| nl <| wp [1, 0, 2, 3, 4, 5] [_,_,_,_,_,_] rfl rfl <| W.shut (a := (x9712.set (x9683).toNat x9692)) h9717 ⟨_, rfl, h9726⟩ fun F9727 h9728 => jn [1, 2, 0, 3, 4] (J99 h9728 hp)
           · exact TC.skip <| jn [0, 1, 2, 3, 4] (J99 h9681 hp)
         · exact TC.exit <| jn [0, 1, 2, 3] (J91 h9681 (ex_ret hp hx89))
        refine lp hz71 [0, 1, 2, 3] rfl (fun s e L => ∃ x4869 x4872 x4873 F4870 e69, s = (x4869, x4872, x4873) ∧ SlO 88 (kSl 4 kBool) x4869 v3626 F4870 ∧ e = ovr e69 [(8, .pointer (some ⟨b22, 0, none⟩)), (9, v425), (11, v2826), (12, v3626), (19, .bool x4872), (20, .int .i64 x4853), (96, v4867), (97, .int .i64 (len x4861)), (98, .int .i64 x4873)] ∧ L = [bx b22 40 [.int .i64 x12.params, .int .i64 x12.result, v18, v20], F426, F4847, F4870]) ⟨_, _, _, F4850, _, rfl, h4851, ovr_eq _ _ rfl, rfl⟩ ?_
        rintro _ _ _ ⟨x4869, x4872, x4873, F4870, e69, rfl, h4871, rfl, rfl⟩ X73 hp hx74
        replace hp : live_Live.bd74 x4846 x4853 x4861 x4869 x4872 x4873 = some X73 := hp
        refine sr <| tv (blt rfl rfl) rfl <| nz <| TC.seq fun K110 k111 => cD rfl hp (fun hc112 hp => ?_) fun hc112 hp => ?_
        · refine sk k111 rfl <| TC.seq fun K113 k114 => TC.block <| sr <| ti u25 i3 h4868 hp rfl rfl rfl rfl ?_
          rintro x9729 b9730 o9731 _ hp rfl h9734
          refine tv (lr s3 (Src.at_ 1 rfl) h9734 0 rfl rfl) rfl <| ta rfl <| nz <| sr <| tm rfl <| tm rfl <| ti u62 i88 (h4848).ro hp rfl rfl rfl rfl ?_
          rintro x9735 b9736 o9737 _ hp ⟨v9741, rfl, h9742⟩ h9740
          refine tv (lr s88 (Src.at_ 2 rfl) h9740 0 rfl rfl) rfl <| tv (ln u88 h9742 rfl) rfl <| tm rfl <| nz <| TC.block <| bE hp fun z_118 hz119 hr120 => ?_
          have J124 {x9748 x9751 F9749 e123} (h9750 : SlO 88 (kSl 4 kBool) x9748 v3626 F9749) (hq125 : (x9748, x9751) = z_118) : ∀ w, St E H [bx b22 40 [.int .i64 x12.params, .int .i64 x12.result, v18, v20], F426, F4847, F9749] w → K113 (ovr e123 [(8, .pointer (some ⟨b22, 0, none⟩)), (9, v425), (11, v2826), (12, v3626), (19, .bool x9751), (20, .int .i64 x4853), (96, v4867), (97, .int .i64 (len x4861)), (98, .int .i64 x4873)]) w := by
           subst hq125
           replace hp : live_Live.nx122 x4873 x9748 x9751 = some X73 := hr120
           exact tg k114 <| TC.region <| tv (bad rfl rfl) rfl <| tm rfl <| nl <| gk hp [0, 1, 2, 3] ⟨_, _, _, F9749, _, rfl, h9750, ovr_eq _ _ rfl, rfl⟩
          refine lp hz119 [0, 1, 2, 3] rfl (fun s e L => ∃ x9743 x9746 x9747 F9744 e117, s = (x9743, x9746, x9747) ∧ SlO 88 (kSl 4 kBool) x9743 v3626 F9744 ∧ e = ovr e117 [(8, .pointer (some ⟨b22, 0, none⟩)), (9, v425), (11, v2826), (12, v3626), (19, .bool x9746), (20, .int .i64 x4853), (96, v4867), (97, .int .i64 (len x4861)), (98, .int .i64 x4873), (105, v9741), (106, .int .i64 (len x9735)), (107, .int .i64 x9747)] ∧ L = [bx b22 40 [.int .i64 x12.params, .int .i64 x12.result, v18, v20], F426, F4847, F9744]) ⟨_, _, _, F4870, _, rfl, h4871, ovr_eq _ _ rfl, rfl⟩ ?_
          rintro _ _ _ ⟨x9743, x9746, x9747, F9744, e117, rfl, h9745, rfl, rfl⟩ X121 hp hx122
          replace hp : live_Live.bd122 x4853 x9735 x9743 x9746 x9747 = some X121 := hp
          refine sr <| tv (blt rfl rfl) rfl <| nz <| TC.seq fun K126 k127 => cD rfl hp (fun hc128 hp => ?_) fun hc128 hp => ?_
          · refine sk k127 rfl <| TC.seq fun K129 k130 => ?_
            have J132 {x9752 x9755 F9753 e131} (h9754 : SlO 88 (kSl 4 kBool) x9752 v3626 F9753) (hp : live_Live.jn132 x9747 x9752 x9755 = some X121) : ∀ w, St E H [bx b22 40 [.int .i64 x12.params, .int .i64 x12.result, v18, v20], F426, F4847, F9753] w → K129 (ovr e131 [(8, .pointer (some ⟨b22, 0, none⟩)), (9, v425), (11, v2826), (12, v3626), (19, .bool x9755), (20, .int .i64 x4853), (96, v4867), (97, .int .i64 (len x4861)), (98, .int .i64 x4873), (105, v9741), (106, .int .i64 (len x9735)), (107, .int .i64 x9747)]) w := by
             exact tg k130 <| TC.region <| tv (bad rfl rfl) rfl <| tm rfl <| nl <| gk hp [0, 1, 2, 3] ⟨_, _, _, F9753, _, rfl, h9754, ovr_eq _ _ rfl, rfl⟩
            refine TC.block <| sr <| tm rfl <| ti u88 i4 h9742 hp rfl rfl rfl rfl ?_
            rintro x9756 b9757 o9758 _ hp rfl h9761
            refine tv (lr s4 (Src.at_ 2 rfl) h9761 0 rfl rfl) rfl <| ta rfl <| ta rfl <| nz <| sr <| tm rfl <| tm rfl <| bE hp fun t9762 ht142 hp => TL.cut 9 fun K134 k135 => ?_
            have J136 {e138} : ∀ w, St E H [bx b22 40 [.int .i64 x12.params, .int .i64 x12.result, v18, v20], F426, F4847, F9744] w → K134 (ovr e138 [(122, .bool t9762), (8, .pointer (some ⟨b22, 0, none⟩)), (9, v425), (11, v2826), (12, v3626), (19, .bool x9746), (20, .int .i64 x4853), (23, .int .i64 x9747), (96, v4867), (97, .int .i64 (len x4861)), (98, .int .i64 x4873), (105, v9741), (106, .int .i64 (len x9735)), (107, .int .i64 x9747)]) w := by
             refine tlg k135 <| nz <| cB rfl hp (fun hc139 hp => ?_) fun hc139 hp => ?_
             · refine TC.region <| tm rfl <| tm rfl <| tp [3, 0, 1, 2] [_,_,_,_] rfl rfl <| bE hp fun x9763 hx140 hp => TL.open_ h9745 hx140 ?_
               rintro b9764 _ F9766 F9767 h9768 ⟨v9770, rfl, h9771⟩
               exact tv (rv_ixH u62 i88 rfl rfl (idx_some hx140).1 h9768) rfl <| tv (lr s88 (Src.at_ 0 rfl) (Hole.cells h9768) 0 rfl rfl) rfl <| tm rfl <| tO u88 i4 h9771 hp rfl rfl rfl rfl fun x9772 b9773 o9774 h9775 hp => tp [1, 0, 2, 3, 4] [_,_,_,_,_] rfl rfl <| tE h9771 h9775 m4 rfl ⟨rfl, rfl⟩ w1 fun F9776 h9777 => ta rfl <| nl <| wp [1, 0, 2, 3, 4] [_,_,_,_,_] rfl rfl <| W.shut (a := (x9763.set (x9747).toNat true)) h9768 ⟨_, rfl, h9777⟩ fun F9778 h9779 => jn [1, 2, 3, 0] (J132 h9779 hp)
             · exact TC.skip <| jn [0, 1, 2, 3] (J132 h9745 hp)
            refine ifE ht142 (fun hc137 hp => ?_) fun hc137 hp => ?_
            · refine gy rfl (bbT hc137) <| tm rfl <| gy rfl (bbT hc137) <| tm rfl <| gy rfl (bbT hc137) <| ti u62 i88 (h9745).ro hp rfl rfl rfl rfl ?_
              rintro x9780 b9781 o9782 _ hp ⟨v9786, rfl, h9787⟩ h9785
              refine gy rfl (bbT hc137) <| tv (lr s88 (Src.at_ 3 rfl) h9785 0 rfl rfl) rfl <| gy rfl (bbT hc137) <| tm rfl <| gy rfl (bbT hc137) <| ti u88 i4 h9787 hp rfl rfl rfl rfl ?_
              rintro x9788 b9789 o9790 _ hp rfl h9793
              refine gy rfl (bbT hc137) <| tv (lr s4 (Src.at_ 3 rfl) h9793 0 rfl rfl) rfl <| gy rfl (bbT hc137) <| tv (rv_not rfl) rfl <| tv (pT (bbT hc137)) rfl ?_
              obtain rfl := Option.some.inj hp
              exact nj J136 rfl
            · refine gn rfl (bbF hc137) rfl rfl <| gn rfl (bbF hc137) rfl rfl <| gn rfl (bbF hc137) rfl rfl <| gn rfl (bbF hc137) rfl rfl <| gn rfl (bbF hc137) rfl rfl <| gn rfl (bbF hc137) rfl rfl <| gn rfl (bbF hc137) rfl rfl <| gn rfl (bbF hc137) rfl rfl <| tv (pF (bbF hc137)) rfl ?_
              obtain rfl := Option.some.inj hp
              exact nj J136 rfl
          · exact TC.exit <| jn [0, 1, 2, 3] (J124 h9745 (ex_ret hp hx122))
        · exact TC.exit <| jn [0, 1, 2, 3] (J108 h4871 (ex_ret hp hx74))
      · exact TC.exit <| jn [0, 1, 2, 3] (J59 h4848 h4851 (ex_ret hp hx57))
    · exact TC.exit <| jn [2, 3] (J45 h4834 h4837 (ex_ret hp hx43))
   refine lp hz31 [4, 3, 2, 1, 0] rfl (fun s e L => ∃ x4825 x4828 F4826 e29, s = (x4825, x4828) ∧ SlO 88 (kSl 4 kBool) x4825 v3626 F4826 ∧ e = ovr e29 [(8, .pointer (some ⟨b22, 0, none⟩)), (9, v425), (10, v1225), (11, v2826), (12, v3626), (47, v20), (48, .int .i64 (len x12.blocks)), (49, .int .i64 x4828)] ∧ L = [bx b22 40 [.int .i64 x12.params, .int .i64 x12.result, v18, v20], F426, F1226, F2827, F4826]) ⟨_, _, F3627, _, rfl, h3628, ovr_eq _ _ rfl, rfl⟩ ?_
   rintro _ _ _ ⟨x4825, x4828, F4826, e29, rfl, h4827, rfl, rfl⟩ X33 hp hx34
   replace hp : live_Live.bd34 x12 x1224 x4825 x4828 = some X33 := hp
   refine sr <| tv (blt rfl rfl) rfl <| nz <| TC.seq fun K155 k156 => cD rfl hp (fun hc157 hp => ?_) fun hc157 hp => ?_
   · refine sk k156 rfl <| TC.seq fun K158 k159 => TC.block <| sr <| tm rfl <| ti u38 i50 h21 hp rfl rfl rfl rfl ?_
     rintro x9794 b9795 o9796 _ hp ⟨v9800, v9802, v9804, rfl, h9801, h9803, h9805⟩ h9799
     refine tv (lR (ds := [v9800, v9802, .int .i64 x9794.term.kind, .int .i64 x9794.term.arg, v9804]) ag_50 sH h9799 0 rfl rfl rfl) rfl <| tl i50 rfl fun b9806 => ta rfl <| tS 0 m50 rfl rfl [v9800, v9802, .int .i64 x9794.term.kind, .int .i64 x9794.term.arg, v9804] rfl (oc (h9801).one (oc (h9803).one (oc rfl (oc rfl (oc (h9805).one oc0))))) rfl rfl <| nz <| sr <| tv (fa f50_0 rfl) rfl <| tv (lb s47 0 rfl rfl rfl) rfl <| tv (ln u47 h9801 rfl) rfl <| tm rfl <| nz <| TC.block <| bE hp fun z_162 hz163 hr164 => ?_
     have J168 {x9811 F9812 e167} (h9813 : SlO 88 (kSl 4 kBool) x9811 v3626 F9812) (hq169 : x9811 = z_162) : ∀ w, St E H [bx b22 40 [.int .i64 x12.params, .int .i64 x12.result, v18, v20], F426, F1226, F2827, F9812] w → K158 (ovr e167 [(8, .pointer (some ⟨b22, 0, none⟩)), (9, v425), (10, v1225), (11, v2826), (12, v3626), (47, v20), (48, .int .i64 (len x12.blocks)), (49, .int .i64 x4828)]) w := by
      subst hq169
      replace hp : live_Live.nx166 x4828 x9811 = some X33 := hr164
      exact tg k159 <| TC.region <| tv (bad rfl rfl) rfl <| tm rfl <| nl <| gk hp [0, 1, 2, 3, 4] ⟨_, _, F9812, _, rfl, h9813, ovr_eq _ _ rfl, rfl⟩
     refine lp hz163 [1, 2, 3, 4, 5] rfl (fun s e L => ∃ x9807 x9810 F9808 e161, s = (x9807, x9810) ∧ SlO 88 (kSl 4 kBool) x9807 v3626 F9808 ∧ e = ovr e161 [(8, .pointer (some ⟨b22, 0, none⟩)), (9, v425), (10, v1225), (11, v2826), (12, v3626), (13, .int .i64 x4828), (47, v20), (48, .int .i64 (len x12.blocks)), (49, .int .i64 x4828), (55, v9800), (56, .int .i64 (len x9794.phis)), (57, .int .i64 x9810)] ∧ L = [bx b22 40 [.int .i64 x12.params, .int .i64 x12.result, v18, v20], F426, F1226, F2827, F9808]) ⟨_, _, F4826, _, rfl, h4827, ovr_eq _ _ rfl, rfl⟩ ?_
     rintro _ _ _ ⟨x9807, x9810, F9808, e161, rfl, h9809, rfl, rfl⟩ X165 hp hx166
     replace hp : live_Live.bd166 x1224 x4828 x9794 x9807 x9810 = some X165 := hp
     refine sr <| tv (blt rfl rfl) rfl <| nz <| TC.seq fun K170 k171 => cD rfl hp (fun hc172 hp => ?_) fun hc172 hp => ?_
     · refine sk k171 rfl <| TC.seq fun K173 k174 => TC.block <| sr <| ti u47 i76 h9801 hp rfl rfl rfl rfl ?_
       rintro x9814 b9815 o9816 _ hp ⟨v9820, rfl, h9821⟩ h9819
       refine tv (lR (ds := [.int .i64 x9814.dst, v9820]) ag_76 sH h9819 0 rfl rfl rfl) rfl <| tl i76 rfl fun b9822 => tS 0 m76 rfl rfl [.int .i64 x9814.dst, v9820] rfl (oc rfl (oc (h9821).one oc0)) rfl rfl <| nz <| sr <| tv (fa f76_1 rfl) rfl <| tv (lb s25 0 rfl rfl rfl) rfl <| tv (ln u25 h9821 rfl) rfl <| tm rfl <| nz <| TC.block <| bE hp fun z_177 hz178 hr179 => ?_
       have J183 {x9827 F9828 e182} (h9829 : SlO 88 (kSl 4 kBool) x9827 v3626 F9828) (hq184 : x9827 = z_177) : ∀ w, St E H [bx b22 40 [.int .i64 x12.params, .int .i64 x12.result, v18, v20], F426, F1226, F2827, F9828] w → K173 (ovr e182 [(8, .pointer (some ⟨b22, 0, none⟩)), (9, v425), (10, v1225), (11, v2826), (12, v3626), (13, .int .i64 x4828), (47, v20), (48, .int .i64 (len x12.blocks)), (49, .int .i64 x4828), (55, v9800), (56, .int .i64 (len x9794.phis)), (57, .int .i64 x9810)]) w := by
        subst hq184
        replace hp : live_Live.nx181 x9810 x9827 = some X165 := hr179
        exact tg k174 <| TC.region <| tv (bad rfl rfl) rfl <| tm rfl <| nl <| gk hp [0, 1, 2, 3, 4] ⟨_, _, F9828, _, rfl, h9829, ovr_eq _ _ rfl, rfl⟩
       refine lp hz178 [1, 2, 3, 4, 5] rfl (fun s e L => ∃ x9823 x9826 F9824 e176, s = (x9823, x9826) ∧ SlO 88 (kSl 4 kBool) x9823 v3626 F9824 ∧ e = ovr e176 [(8, .pointer (some ⟨b22, 0, none⟩)), (9, v425), (10, v1225), (11, v2826), (12, v3626), (13, .int .i64 x4828), (47, v20), (48, .int .i64 (len x12.blocks)), (49, .int .i64 x4828), (55, v9800), (56, .int .i64 (len x9794.phis)), (57, .int .i64 x9810), (62, v9820), (63, .int .i64 (len x9814.args)), (64, .int .i64 x9826)] ∧ L = [bx b22 40 [.int .i64 x12.params, .int .i64 x12.result, v18, v20], F426, F1226, F2827, F9824]) ⟨_, _, F9808, _, rfl, h9809, ovr_eq _ _ rfl, rfl⟩ ?_
       rintro _ _ _ ⟨x9823, x9826, F9824, e176, rfl, h9825, rfl, rfl⟩ X180 hp hx181
       replace hp : live_Live.bd181 x1224 x4828 x9814 x9823 x9826 = some X180 := hp
       refine sr <| tv (blt rfl rfl) rfl <| nz <| TC.seq fun K185 k186 => cD rfl hp (fun hc187 hp => ?_) fun hc187 hp => ?_
       · refine sk k186 rfl <| TC.seq fun K188 k189 => TC.block <| sr <| tm rfl <| ti u25 i3 h9821 hp rfl rfl rfl rfl ?_
         rintro x9830 b9831 o9832 _ hp rfl h9835
         refine tv (lr s3 sH h9835 0 rfl rfl) rfl <| ta rfl <| ta rfl <| nz <| TC.region <| tm rfl <| tm rfl <| tm rfl <| ti u60 i25 (h1227).ro hp rfl rfl rfl rfl ?_
         rintro x9836 b9837 o9838 _ hp ⟨v9842, rfl, h9843⟩ h9841
         refine tv (lr s25 (Src.at_ 2 rfl) h9841 0 rfl rfl) rfl <| tm rfl <| ti u25 i3 h9843 hp rfl rfl rfl rfl ?_
         rintro x9844 b9845 o9846 _ hp rfl h9849
         refine tv (lr s3 (Src.at_ 2 rfl) h9849 0 rfl rfl) rfl <| tp [4, 0, 1, 2, 3] [_,_,_,_,_] rfl rfl <| bE hp fun x9850 hx193 hp => TL.open_ h9825 hx193 ?_
         rintro b9851 _ F9853 F9854 h9855 ⟨v9857, rfl, h9858⟩
         exact tv (rv_ixH u62 i88 rfl rfl (idx_some hx193).1 h9855) rfl <| tv (lr s88 (Src.at_ 0 rfl) (Hole.cells h9855) 0 rfl rfl) rfl <| tm rfl <| tO u88 i4 h9858 hp rfl rfl rfl rfl fun x9859 b9860 o9861 h9862 hp => tp [1, 0, 2, 3, 4, 5] [_,_,_,_,_,_] rfl rfl <| tE h9858 h9862 m4 rfl ⟨rfl, rfl⟩ w1 fun F9863 h9864 => nl <| tg k189 <| TC.region <| tv (bad rfl rfl) rfl <| tm rfl <| nl <| wp [1, 0, 2, 3, 4, 5] [_,_,_,_,_,_] rfl rfl <| W.shut (a := (x9850.set (x9830).toNat true)) h9855 ⟨_, rfl, h9864⟩ fun F9865 h9866 => gk hp [1, 2, 3, 4, 0] ⟨_, _, F9865, _, rfl, h9866, ovr_eq _ _ rfl, rfl⟩
       · exact TC.exit <| jn [0, 1, 2, 3, 4] (J183 h9825 (ex_ret hp hx181))
     · exact TC.exit <| jn [0, 1, 2, 3, 4] (J168 h9809 (ex_ret hp hx166))
   · exact TC.exit <| jn [0, 1, 3, 4] (J153 h4827 (ex_ret hp hx34))

/-! ### fettle/graph.Order -/
abbrev graph_Order.R (r : List Int) (v : Value) (A : List FP) : Prop := ∃ (w1 : Value) (G1 : FP), w1 = v ∧ A = [G1] ∧ SlO 3 (kInt .i64) r w1 G1
def graph_Order (a1 : PFunc) : Option (List Int) :=
  (graph_order a1).bind fun x7 =>
  some x7.1
theorem graph_Order_ok {E : World} {H : FP} {w : World} {a1 : PFunc} {v2 : Value} {v4 : Value} {r : List Int} (h3 : SlI (kInt .i64) H a1.regs v2) (h5 : SlI kBlock H a1.blocks v4) (hp : graph_Order a1 = some r) (hst : St E H [] w) :
    Fn Try.prog 76 #[.agg #[.int .i64 a1.params, .int .i64 a1.result, v2, v4]] w fun v w' => ∃ A, graph_Order.R r v A ∧ St E H A w' := by
 refine fb 11 [.tmp 2] Try.func76 rfl rfl rfl rfl rfl hst <| sr <| tb [.int .i64 a1.params, .int .i64 a1.result, v2, v4] rfl rfl fun b6 => ta rfl <| nz <| sr <| tv (lA (ds := [.int .i64 a1.params, .int .i64 a1.result, v2, v4]) ag_40 0 rfl rfl rfl rfl) rfl <| bE hp fun x7 hy1 hp => tc 0 [_] rfl c82 (fun _ => graph_order_ok (a1 := a1) (h3.mono subH) (h5.mono subH) hy1) rfl ?_
 rintro _ _ ⟨v8, F9, v11, F12, rfl, rfl, h10, h13⟩
 exact tm rfl <| tv (xt rfl rfl) rfl <| tv (xt rfl rfl) rfl <| ta rfl <| ta rfl <| nz <| sr <| tm rfl <| ta rfl <| nz <| TC.ret <| rt hp [0] ⟨v8, F9, rfl, rfl, h10⟩

/-! ### fettle/dom.ahead -/
abbrev dom_ahead.R (r : List (List Int)) (v : Value) (A : List FP) : Prop := ∃ (w1 : Value) (G1 : FP), w1 = v ∧ A = [G1] ∧ SlO 25 (kSl 3 (kInt .i64)) r w1 G1
def dom_ahead.nx9  (x12 : List (List Int)) : Option (List (List Int)) :=
  some x12
def dom_ahead.nx24 (x11 : Int) (x27 : List (List Int)) : Option (Ex (List (List Int)) (List (List Int) × Int)) :=
  some (.go (x27, (w64 (x11 + 1))))
def dom_ahead.bd24 (x11 : Int) (x15 : List Int) (x23 : List (List Int)) (x26 : Int) : Option (Ex (List (List Int)) (List (List Int) × Int)) :=
  if x26 < (len x15) then
    (idx x15 x26).bind fun x30 =>
    (idx x23 x30).bind fun x36 =>
    (cat x36 [x11]).bind fun x46 =>
    some (.go ((x23.set (x30).toNat x46), (w64 (x26 + 1))))
  else
    some (.ret x23)
def dom_ahead.bd9 (a1 : List (List Int)) (x8 : List (List Int)) (x11 : Int) : Option (Ex (List (List Int)) (List (List Int) × Int)) :=
  if x11 < (len a1) then
    (idx a1 x11).bind fun x15 =>
    (whl (fun (s : (List (List Int) × Int)) => dom_ahead.bd24 x11 x15 s.1 s.2) FUEL (x8, 0)).bind fun z =>
    dom_ahead.nx24 x11 z
  else
    some (.ret x8)
def dom_ahead (a1 : List (List Int)) : Option (List (List Int)) :=
  (mkl (len a1) ([] : List Int)).bind fun x4 =>
  (whl (fun (s : (List (List Int) × Int)) => dom_ahead.bd9 a1 s.1 s.2) FUEL (x4, 0)).bind fun z =>
  dom_ahead.nx9 z
set_option maxHeartbeats 4000000 in
theorem dom_ahead_ok {E : World} {H : FP} {w : World} {a1 : List (List Int)} {v2 : Value} {r : List (List Int)} (h3 : SlI (kSl 3 (kInt .i64)) H a1 v2) (hp : dom_ahead a1 = some r) (hst : St E H [] w) :
    Fn Try.prog 77 #[v2] w fun v w' => ∃ A, dom_ahead.R r v A ∧ St E H A w' := by
 refine fb 37 [.tmp 2] Try.func77 rfl rfl rfl rfl rfl hst <| sr <| ta rfl <| nz <| sr <| tm rfl <| tv (ln u60 h3 rfl) rfl <| tk (k := (kSl 3 (kInt .i64))) u60 i25 hp ⟨_, rfl, SlO.nil 3⟩ rfl rfl rfl rfl rfl rfl fun x4 v5 F6 h7 hp => ta rfl <| nz <| TC.seq fun K2 k3 => sr <| tm rfl <| tv (ln u60 h3 rfl) rfl <| tm rfl <| nz <| TC.block <| bE hp fun z_5 hz6 hr7 => ?_
 have J11 {x12 F13 e10} (h14 : SlO 25 (kSl 3 (kInt .i64)) x12 v5 F13) (hq12 : x12 = z_5) : ∀ w, St E H [F13] w → K2 (ovr e10 [(3, v5)]) w := by
  subst hq12
  replace hp : dom_ahead.nx9 x12 = some r := hr7
  exact tg k3 <| sr <| tm rfl <| ta rfl <| nz <| TC.ret <| rt hp [0] ⟨v5, F13, rfl, rfl, h14⟩
 refine lp hz6 [0] rfl (fun s e L => ∃ x8 x11 F9 e4, s = (x8, x11) ∧ SlO 25 (kSl 3 (kInt .i64)) x8 v5 F9 ∧ e = ovr e4 [(3, v5), (11, v2), (12, .int .i64 (len a1)), (13, .int .i64 x11)] ∧ L = [F9]) ⟨_, _, F6, _, rfl, h7, ovr_eq _ _ rfl, rfl⟩ ?_
 rintro _ _ _ ⟨x8, x11, F9, e4, rfl, h10, rfl, rfl⟩ X8 hp hx9
 replace hp : dom_ahead.bd9 a1 x8 x11 = some X8 := hp
 refine sr <| tv (blt rfl rfl) rfl <| nz <| TC.seq fun K13 k14 => cD rfl hp (fun hc15 hp => ?_) fun hc15 hp => ?_
 · refine sk k14 rfl <| TC.seq fun K16 k17 => TC.block <| sr <| tm rfl <| ti u60 i25 h3 hp rfl rfl rfl rfl ?_
   rintro x15 b16 o17 _ hp ⟨v21, rfl, h22⟩ h20
   refine tv (lr s25 sH h20 0 rfl rfl) rfl <| ta rfl <| ta rfl <| nz <| sr <| tm rfl <| tv (ln u25 h22 rfl) rfl <| tm rfl <| nz <| TC.block <| bE hp fun z_20 hz21 hr22 => ?_
   have J26 {x27 F28 e25} (h29 : SlO 25 (kSl 3 (kInt .i64)) x27 v5 F28) (hq27 : x27 = z_20) : ∀ w, St E H [F28] w → K16 (ovr e25 [(3, v5), (11, v2), (12, .int .i64 (len a1)), (13, .int .i64 x11)]) w := by
    subst hq27
    replace hp : dom_ahead.nx24 x11 x27 = some X8 := hr22
    exact tg k17 <| TC.region <| tv (bad rfl rfl) rfl <| tm rfl <| nl <| gk hp [0] ⟨_, _, F28, _, rfl, h29, ovr_eq _ _ rfl, rfl⟩
   refine lp hz21 [0] rfl (fun s e L => ∃ x23 x26 F24 e19, s = (x23, x26) ∧ SlO 25 (kSl 3 (kInt .i64)) x23 v5 F24 ∧ e = ovr e19 [(3, v5), (4, .int .i64 x11), (11, v2), (12, .int .i64 (len a1)), (13, .int .i64 x11), (18, v21), (19, .int .i64 (len x15)), (20, .int .i64 x26)] ∧ L = [F24]) ⟨_, _, F9, _, rfl, h10, ovr_eq _ _ rfl, rfl⟩ ?_
   rintro _ _ _ ⟨x23, x26, F24, e19, rfl, h25, rfl, rfl⟩ X23 hp hx24
   replace hp : dom_ahead.bd24 x11 x15 x23 x26 = some X23 := hp
   refine sr <| tv (blt rfl rfl) rfl <| nz <| TC.seq fun K28 k29 => cD rfl hp (fun hc30 hp => ?_) fun hc30 hp => ?_
   · refine sk k29 rfl <| TC.seq fun K31 k32 => TC.block <| sr <| ti u25 i3 h22 hp rfl rfl rfl rfl ?_
     rintro x30 b31 o32 _ hp rfl h35
     refine tv (lr s3 sH h35 0 rfl rfl) rfl <| ta rfl <| nz <| TC.region <| tm rfl <| tm rfl <| tm rfl <| tm rfl <| bE hp fun x36 hx34 hp => TL.open_ h25 hx34 ?_
     rintro b37 _ F39 F40 h41 ⟨v43, rfl, h44⟩
     exact tv (rv_ixH u60 i25 rfl rfl (idx_some hx34).1 h41) rfl <| tv (lr s25 (Src.at_ 0 rfl) (Hole.cells h41) 0 rfl rfl) rfl <| tm rfl <| tbs [(0, .int .i64 x11)] [.int .i64 x11] u25 i3 (by kernel_rfl) rfl rfl rfl rfl fun b45 => tp [2, 0, 1] [_,_,_] rfl rfl <| tf 2 0 [_,_,_,_] rfl <| tp2 u25 i3 h44 hp (RepL.to (RepL.cons (k := (kInt .i64)) (x := x11) ⟨rfl, rfl⟩ RepL.nil) rfl) rfl rfl rfl rfl rfl rfl rfl rfl rfl fun x46 v47 F48 h49 hp => tv (rv_ixH u60 i25 rfl rfl (idx_some hx34).1 h41) rfl <| tp [1, 0] [_,_] rfl rfl <| tsH h41 m25 0 rfl h49.o1 rfl fun F51 h52 => nl <| tg k32 <| TC.region <| tv (bad rfl rfl) rfl <| tm rfl <| nl <| W.shut (a := x46) h52 ⟨_, rfl, h49⟩ fun F53 h54 => gk hp [0] ⟨_, _, F53, _, rfl, h54, ovr_eq _ _ rfl, rfl⟩
   · exact TC.exit <| jn [0] (J26 h25 (ex_ret hp hx24))
 · exact TC.exit <| jn [0] (J11 h10 (ex_ret hp hx9))

/-! ### fettle/dom.meet -/
abbrev dom_meet.R (r : Int) (v : Value) (A : List FP) : Prop := .int .i64 r = v ∧ A = []
def dom_meet.nx8  (x11 : Int) : Option Int :=
  some x11
def dom_meet.nx31 (x13 : Int) (x15 : Int) : Option (Ex Int (Int × Int)) :=
  some (.go (x13, x15))
def dom_meet.bd31 (a1 : List Int) (a4 : List Int) (x13 : Int) (x14 : Int) : Option (Ex Int Int) :=
  (idx a4 x14).bind fun x16 =>
  (idx a4 x13).bind fun x22 =>
  if x16 > x22 then
    (idx a1 x14).bind fun x28 =>
    some (.go x28)
  else
    some (.ret x14)
def dom_meet.nx24 (a1 : List Int) (a4 : List Int) (x10 : Int) (x13 : Int) : Option (Ex Int (Int × Int)) :=
  (whl (fun (s : Int) => dom_meet.bd31 a1 a4 x13 s) FUEL x10).bind fun z =>
  dom_meet.nx31 x13 z
def dom_meet.bd24 (a1 : List Int) (a4 : List Int) (x10 : Int) (x12 : Int) : Option (Ex Int Int) :=
  (idx a4 x12).bind fun x34 =>
  (idx a4 x10).bind fun x40 =>
  if x34 > x40 then
    (idx a1 x12).bind fun x46 =>
    some (.go x46)
  else
    some (.ret x12)
def dom_meet.bd8 (a1 : List Int) (a4 : List Int) (x9 : Int) (x10 : Int) : Option (Ex Int (Int × Int)) :=
  if ¬ x9 = x10 then
    (whl (fun (s : Int) => dom_meet.bd24 a1 a4 x10 s) FUEL x9).bind fun z =>
    dom_meet.nx24 a1 a4 x10 z
  else
    some (.ret x9)
def dom_meet (a1 : List Int) (a4 : List Int) (a7 : Int) (a8 : Int) : Option Int :=
  (whl (fun (s : (Int × Int)) => dom_meet.bd8 a1 a4 s.1 s.2) FUEL (a7, a8)).bind fun z =>
  dom_meet.nx8 z
set_option maxHeartbeats 4000000 in
theorem dom_meet_ok {E : World} {H : FP} {w : World} {a1 : List Int} {a4 : List Int} {a7 : Int} {a8 : Int} {v2 : Value} {v5 : Value} {r : Int} (h3 : SlI (kInt .i64) H a1 v2) (h6 : SlI (kInt .i64) H a4 v5) (hp : dom_meet a1 a4 a7 a8 = some r) (hst : St E H [] w) :
    Fn Try.prog 78 #[v2, v5, .int .i64 a7, .int .i64 a8] w fun v w' => ∃ A, dom_meet.R r v A ∧ St E H A w' := by
 refine fb 39 [.tmp 8] Try.func78 rfl rfl rfl rfl rfl hst <| sr <| ta rfl <| nz <| TC.seq fun K1 k2 => TC.block <| bE hp fun z_4 hz5 hr6 => ?_
 have J10 {x11 e9} (hq11 : x11 = z_4) : ∀ w, St E H [] w → K1 (ovr e9 [(2, .int .i64 x11)]) w := by
  subst hq11
  replace hp : dom_meet.nx8 x11 = some r := hr6
  exact tg k2 <| sr <| tm rfl <| ta rfl <| nz <| TC.ret <| rt hp [] ⟨rfl, rfl⟩
 refine lp hz5 [] rfl (fun s e L => ∃ x9 x10 e3, s = (x9, x10) ∧ e = ovr e3 [(0, v2), (1, v5), (2, .int .i64 x9), (3, .int .i64 x10)] ∧ L = []) ⟨_, _, _, rfl, ovr_eq _ _ rfl, rfl⟩ ?_
 rintro _ _ _ ⟨x9, x10, e3, rfl, rfl, rfl⟩ X7 hp hx8
 replace hp : dom_meet.bd8 a1 a4 x9 x10 = some X7 := hp
 refine TC.seq fun K12 k13 => sr <| tm rfl <| tm rfl <| tv (bne rfl rfl) rfl <| nz <| cD rfl hp (fun hc14 hp => ?_) fun hc14 hp => ?_
 · refine sk k13 rfl <| TC.named fun K15 k16 => TC.block <| TC.seq fun K17 k18 => TC.block <| bE hp fun z_20 hz21 hr22 => ?_
   have J45 {x13 e25} (hq46 : x13 = z_20) : ∀ w, St E H [] w → K17 (ovr e25 [(0, v2), (1, v5), (2, .int .i64 x13), (3, .int .i64 x10)]) w := by
    subst hq46
    replace hp : dom_meet.nx24 a1 a4 x10 x13 = some X7 := hr22
    refine tg k18 <| TC.block <| bE hp fun z_27 hz28 hr29 => ?_
    have J33 {x15 e32} (hq34 : x15 = z_27) : ∀ w, St E H [] w → K15 (ovr e32 [(0, v2), (1, v5), (2, .int .i64 x13), (3, .int .i64 x15)]) w := by
     subst hq34
     replace hp : dom_meet.nx31 x13 x15 = some X7 := hr29
     exact viaK k16 <| gk hp [] ⟨_, _, _, rfl, ovr_eq _ _ rfl, rfl⟩
    refine lp hz28 [] rfl (fun s e L => ∃ e26, e = ovr e26 [(0, v2), (1, v5), (2, .int .i64 x13), (3, .int .i64 s)] ∧ L = []) ⟨_, ovr_eq _ _ rfl, rfl⟩ ?_
    rintro x14 _ _ ⟨e26, rfl, rfl⟩ X30 hp hx31
    replace hp : dom_meet.bd31 a1 a4 x13 x14 = some X30 := hp
    refine TC.seq fun K35 k36 => TC.seq fun K37 k38 => cq mix (by kernel_rfl) <| qv mv rfl <| qv mv rfl <| qi u25 i3 h6 hp rfl rfl rfl rfl ?_
    rintro x16 b17 o18 _ hp rfl h21
    refine qv (lr s3 sH h21 0 rfl rfl) rfl <| qv mv rfl <| qv mv rfl <| qi u25 i3 h6 hp rfl rfl rfl rfl ?_
    rintro x22 b23 o24 _ hp rfl h27
    refine qv (lr s3 sH h27 0 rfl rfl) rfl <| qv (bgt rfl rfl) rfl <| QL.nil <| tg k38 <| cD rfl hp (fun hc41 hp => ?_) fun hc41 hp => ?_
    · refine sk k36 rfl <| TC.block <| TC.region <| tm rfl <| tm rfl <| ti u25 i3 h3 hp rfl rfl rfl rfl ?_
      rintro x28 b29 o30 _ hp rfl h33
      exact tv (lr s3 sH h33 0 rfl rfl) rfl <| ta rfl <| nl <| gk hp [] ⟨_, ovr_eq _ _ rfl, rfl⟩
    · exact TC.exit <| jn [] (J33 (ex_ret hp hx31))
   refine lp hz21 [] rfl (fun s e L => ∃ e19, e = ovr e19 [(0, v2), (1, v5), (2, .int .i64 s), (3, .int .i64 x10)] ∧ L = []) ⟨_, ovr_eq _ _ rfl, rfl⟩ ?_
   rintro x12 _ _ ⟨e19, rfl, rfl⟩ X23 hp hx24
   replace hp : dom_meet.bd24 a1 a4 x10 x12 = some X23 := hp
   refine TC.seq fun K47 k48 => TC.seq fun K49 k50 => cq mix (by kernel_rfl) <| qv mv rfl <| qv mv rfl <| qi u25 i3 h6 hp rfl rfl rfl rfl ?_
   rintro x34 b35 o36 _ hp rfl h39
   refine qv (lr s3 sH h39 0 rfl rfl) rfl <| qv mv rfl <| qv mv rfl <| qi u25 i3 h6 hp rfl rfl rfl rfl ?_
   rintro x40 b41 o42 _ hp rfl h45
   refine qv (lr s3 sH h45 0 rfl rfl) rfl <| qv (bgt rfl rfl) rfl <| QL.nil <| tg k50 <| cD rfl hp (fun hc53 hp => ?_) fun hc53 hp => ?_
   · refine sk k48 rfl <| TC.block <| TC.region <| tm rfl <| tm rfl <| ti u25 i3 h3 hp rfl rfl rfl rfl ?_
     rintro x46 b47 o48 _ hp rfl h51
     exact tv (lr s3 sH h51 0 rfl rfl) rfl <| ta rfl <| nl <| gk hp [] ⟨_, ovr_eq _ _ rfl, rfl⟩
   · exact TC.exit <| jn [] (J45 (ex_ret hp hx24))
 · exact TC.exit <| jn [] (J10 (ex_ret hp hx8))
end Go.Proofs.Yteaknconpkklhaa
