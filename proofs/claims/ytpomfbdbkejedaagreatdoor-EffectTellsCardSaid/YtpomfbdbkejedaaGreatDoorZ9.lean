/- The walk through the program's functions: each one's pure reading, and that a call does what it says. No conditions. -/
import Derived.Test.YtpomfbdbkejedaaGreatDoorZ8
set_option linter.unusedVariables false
set_option linter.unusedSimpArgs false
namespace Go.Proofs.YtpomfbdbkejedaaGreatDoor
open Go Go.Proofs

/-! ### fettle/fettleref02.Instr -/
abbrev fettleref02_Instr.R (r : Int) (v : Value) (A : List FP) : Prop := .int .i64 r = v ∧ A = []
def fettleref02_Instr.jn35  (x31 : Int) : Option Int :=
  some x31
def fettleref02_Instr.jn31 (a4 : PFunc) (a9 : PInstr) (x30 : Int) : Option Int :=
  (if a9.op = 1 ∧ x30 = 0 then (idx a4.regs a9.dst).bind fun x33 =>
  some (decide (x33 = 2)) else some false).bind fun t32 =>
  if (t32 = true ∧ (¬ a9.imm = 0)) ∧ (¬ a9.imm = 1) then
    fettleref02_Instr.jn35 3
  else
    fettleref02_Instr.jn35 x30
def fettleref02_Instr.jn27 (a4 : PFunc) (a9 : PInstr) (x25 : Bool) (x29 : Int) : Option Int :=
  if (((¬ a9.op = 1) ∧ (¬ a9.imm = 0)) ∨ ((¬ a9.op = 17) ∧ (¬ a9.fn = 0))) ∨ x25 = true then
    (fettleref02_worst x29 3).bind fun x39 =>
    fettleref02_Instr.jn31 a4 a9 x39
  else
    fettleref02_Instr.jn31 a4 a9 x29
def fettleref02_Instr.nx22 (a4 : PFunc) (a9 : PInstr) (x23 : Int) (x25 : Bool) (x28 : Int) : Option Int :=
  if x23 = 0 then
    if ¬ a9.dst = -1 then
      (fettleref02_worst x28 3).bind fun x40 =>
      fettleref02_Instr.jn27 a4 a9 x25 x40
    else
      fettleref02_Instr.jn27 a4 a9 x25 x28
  else
    if x23 < 0 then
      (fettleref02_is a4 a9.dst (-1)).bind fun x41 =>
      (fettleref02_worst x41 3).bind fun x42 =>
      (fettleref02_worst x28 x42).bind fun x43 =>
      fettleref02_Instr.jn27 a4 a9 x25 x43
    else
      (fettleref02_is a4 a9.dst x23).bind fun x44 =>
      (fettleref02_worst x28 x44).bind fun x45 =>
      fettleref02_Instr.jn27 a4 a9 x25 x45
def fettleref02_Instr.bd22 (a4 : PFunc) (a9 : PInstr) (x19 : List Int) (x26 : Int) (x27 : Int) : Option (Ex Int (Int × Int)) :=
  if x27 < (len x19) then
    (idx a9.args x27).bind fun x46 =>
    (idx x19 x27).bind fun x52 =>
    (fettleref02_is a4 x46 x52).bind fun x58 =>
    (fettleref02_worst x26 x58).bind fun x59 =>
    some (.go (x59, (w64 (x27 + 1))))
  else
    some (.ret x26)
def fettleref02_Instr.jn6 (a4 : PFunc) (a9 : PInstr) (x19 : List Int) (x23 : Int) (x24 : Bool) (x25 : Bool) : Option Int :=
  if (!x24) = true ∨ (¬ (len a9.args) = (len x19)) then
    some 6
  else
    (whl (fun (s : (Int × Int)) => fettleref02_Instr.bd22 a4 a9 x19 s.1 s.2) FUEL (0, 0)).bind fun z =>
    fettleref02_Instr.nx22 a4 a9 x23 x25 z
def fettleref02_Instr.nx135 (a4 : PFunc) (a9 : PInstr) (x60 : PFunc) (x77 : List Int) (x81 : Bool) : Option Int :=
  fettleref02_Instr.jn6 a4 a9 x77 x60.result true x81
def fettleref02_Instr.jn147 (x71 : List Int) (x75 : Bool) (x76 : Int) (x82 : Int) : Option (Ex (List Int × Bool) (List Int × Bool × Int)) :=
  (cat x71 [x82]).bind fun x84 =>
  some (.go (x84, (decide (x75 = true ∨ x82 < 0)), (w64 (x76 + 1))))
def fettleref02_Instr.bd135 (x60 : PFunc) (x71 : List Int) (x75 : Bool) (x76 : Int) : Option (Ex (List Int × Bool) (List Int × Bool × Int)) :=
  if x76 < x60.params then
    if (!x75) = true then
      (idx x60.regs x76).bind fun x88 =>
      fettleref02_Instr.jn147 x71 x75 x76 x88
    else
      fettleref02_Instr.jn147 x71 x75 x76 (-1)
  else
    some (.ret (x71, x75))
def fettleref02_Instr (a1 : PModule) (a4 : PFunc) (a9 : PInstr) : Option Int :=
  (fettleref02_kinds a1 a4 a9).bind fun x15 =>
  if a9.op = 17 then
    if a9.fn < 0 ∨ a9.fn ≥ (len a1.funcs) then
      some 4
    else
      (idx a1.funcs a9.fn).bind fun x60 =>
      if ¬ (len a9.args) = x60.params then
        some 6
      else
        (whl (fun (s : (List Int × Bool × Int)) => fettleref02_Instr.bd135 x60 s.1 s.2.1 s.2.2) FUEL (x15.1, (decide (x60.params < 0 ∨ x60.params > (len x60.regs))), 0)).bind fun z =>
        fettleref02_Instr.nx135 a4 a9 x60 z.1 z.2
  else
    fettleref02_Instr.jn6 a4 a9 x15.1 x15.2.1 x15.2.2 false
set_option maxHeartbeats 4000000 in
theorem fettleref02_Instr_ok {E : World} {H : FP} {w : World} {a1 : PModule} {a4 : PFunc} {a9 : PInstr} {v2 : Value} {v5 : Value} {v7 : Value} {v10 : Value} {r : Int} (h3 : SlI kFunc H a1.funcs v2) (h6 : SlI (kInt .i64) H a4.regs v5) (h8 : SlI kBlock H a4.blocks v7) (h11 : SlI (kInt .i64) H a9.args v10) (hp : fettleref02_Instr a1 a4 a9 = some r) (hst : St E H [] w) :
    Fn Tryz.prog 42 #[.agg #[v2], .agg #[.int .i64 a4.params, .int .i64 a4.result, v5, v7], .agg #[.int .i64 a9.op, .int .i64 a9.dst, v10, .int .i64 a9.imm, .int .i64 a9.fn]] w fun v w' => ∃ A, fettleref02_Instr.R r v A ∧ St E H A w' := by
 refine fb 187 [.tmp 6] Tryz.func42 rfl rfl rfl rfl rfl hst <| sr <| tb [v2] rfl rfl fun b12 => tb [.int .i64 a4.params, .int .i64 a4.result, v5, v7] rfl rfl fun b13 => tb [.int .i64 a9.op, .int .i64 a9.dst, v10, .int .i64 a9.imm, .int .i64 a9.fn] rfl rfl fun b14 => ta rfl <| nz <| sr <| tv (lA (ds := [v2]) ag_24 2 rfl rfl rfl rfl) rfl <| tv (lA (ds := [.int .i64 a4.params, .int .i64 a4.result, v5, v7]) ag_47 1 rfl rfl rfl rfl) rfl <| tv (lA (ds := [.int .i64 a9.op, .int .i64 a9.dst, v10, .int .i64 a9.imm, .int .i64 a9.fn]) ag_50 0 rfl rfl rfl rfl) rfl <| bE hp fun x15 hy1 hp => tc 0 [_,_,_] rfl c67 (fun _ => fettleref02_kinds_ok (a1 := a1) (a4 := a4) (a9 := a9) (h3.mono subH) (h6.mono subH) (h8.mono subH) (h11.mono subH) hy1) rfl ?_
 rintro _ _ ⟨v16, F17, rfl, rfl, h18⟩
 refine tm rfl <| tv (xt rfl rfl) rfl <| tv (xt rfl rfl) rfl <| tv (xt rfl rfl) rfl <| ta rfl <| ta rfl <| ta rfl <| nz <| sr <| ta rfl <| nz <| TC.seq fun K3 k4 => ?_
 have J6 {x19 x23 x24 x25 v20 F21 e5} (h22 : SlO 3 (kInt .i64) x19 v20 F21) (hp : fettleref02_Instr.jn6 a4 a9 x19 x23 x24 x25 = some r) : ∀ w, St E H [bx b13 47 [.int .i64 a4.params, .int .i64 a4.result, v5, v7], bx b14 50 [.int .i64 a9.op, .int .i64 a9.dst, v10, .int .i64 a9.imm, .int .i64 a9.fn], F21] w → K3 (ovr e5 [(4, .pointer (some ⟨b13, 0, none⟩)), (5, .pointer (some ⟨b14, 0, none⟩)), (7, v20), (8, .int .i64 x23), (9, .bool x24), (10, .bool x25)]) w := by
  refine tg k4 <| TC.seq fun K7 k8 => sr <| tm rfl <| tv (rv_not rfl) rfl <| tm rfl <| TL.cut 7 fun K9 k10 => ?_
  have J11 {e13} : ∀ w, St E H [bx b13 47 [.int .i64 a4.params, .int .i64 a4.result, v5, v7], bx b14 50 [.int .i64 a9.op, .int .i64 a9.dst, v10, .int .i64 a9.imm, .int .i64 a9.fn], F21] w → K9 (ovr e13 [(94, .bool (decide ((!x24) = true ∨ (¬ (len a9.args) = (len x19))))), (4, .pointer (some ⟨b13, 0, none⟩)), (5, .pointer (some ⟨b14, 0, none⟩)), (7, v20), (8, .int .i64 x23), (10, .bool x25)]) w := by
   refine tlg k10 <| nz <| cD rfl hp (fun hc14 hp => ?_) fun hc14 hp => ?_
   · exact sr <| ta rfl <| nz <| TC.ret <| rt hp [] ⟨rfl, rfl⟩
   · refine sk k8 rfl <| sr <| ta rfl <| nz <| TC.seq fun K15 k16 => sr <| ta rfl <| nz <| TC.block <| bE hp fun z_18 hz19 hr20 => ?_
     have J97 {x28 e23} (hq98 : x28 = z_18) : ∀ w, St E H [bx b13 47 [.int .i64 a4.params, .int .i64 a4.result, v5, v7], bx b14 50 [.int .i64 a9.op, .int .i64 a9.dst, v10, .int .i64 a9.imm, .int .i64 a9.fn]] w → K15 (ovr e23 [(4, .pointer (some ⟨b13, 0, none⟩)), (5, .pointer (some ⟨b14, 0, none⟩)), (8, .int .i64 x23), (10, .bool x25), (14, .int .i64 x28)]) w := by
      subst hq98
      replace hp : fettleref02_Instr.nx22 a4 a9 x23 x25 x28 = some r := hr20
      refine tg k16 <| TC.seq fun K24 k25 => ?_
      have J27 {x29 e26} (hp : fettleref02_Instr.jn27 a4 a9 x25 x29 = some r) : ∀ w, St E H [bx b13 47 [.int .i64 a4.params, .int .i64 a4.result, v5, v7], bx b14 50 [.int .i64 a9.op, .int .i64 a9.dst, v10, .int .i64 a9.imm, .int .i64 a9.fn]] w → K24 (ovr e26 [(4, .pointer (some ⟨b13, 0, none⟩)), (5, .pointer (some ⟨b14, 0, none⟩)), (10, .bool x25), (14, .int .i64 x29)]) w := by
       refine tg k25 <| TC.seq fun K28 k29 => ?_
       have J31 {x30 e30} (hp : fettleref02_Instr.jn31 a4 a9 x30 = some r) : ∀ w, St E H [bx b13 47 [.int .i64 a4.params, .int .i64 a4.result, v5, v7], bx b14 50 [.int .i64 a9.op, .int .i64 a9.dst, v10, .int .i64 a9.imm, .int .i64 a9.fn]] w → K28 (ovr e30 [(4, .pointer (some ⟨b13, 0, none⟩)), (5, .pointer (some ⟨b14, 0, none⟩)), (14, .int .i64 x30)]) w := by
        refine tg k29 <| TC.seq fun K32 k33 => ?_
        have J35 {x31 e34} (hp : fettleref02_Instr.jn35 x31 = some r) : ∀ w, St E H [] w → K32 (ovr e34 [(14, .int .i64 x31)]) w := by
         exact tg k33 <| sr <| tm rfl <| ta rfl <| nz <| TC.ret <| rt hp [] ⟨rfl, rfl⟩
        refine sr <| tv (fa f50_0 rfl) rfl <| tv (lb s3 1 rfl rfl rfl) rfl <| tv (beq rfl rfl) rfl <| tm rfl <| TL.cut 3 fun K36 k37 => ?_
        have J38 {e40} : ∀ w, St E H [bx b13 47 [.int .i64 a4.params, .int .i64 a4.result, v5, v7], bx b14 50 [.int .i64 a9.op, .int .i64 a9.dst, v10, .int .i64 a9.imm, .int .i64 a9.fn]] w → K36 (ovr e40 [(166, .bool (decide (a9.op = 1 ∧ x30 = 0))), (4, .pointer (some ⟨b13, 0, none⟩)), (5, .pointer (some ⟨b14, 0, none⟩)), (14, .int .i64 x30)]) w := by
         refine tlg k37 <| tm rfl <| bE hp fun t32 ht57 hp => TL.cut 8 fun K41 k42 => ?_
         have J43 {e45} : ∀ w, St E H [bx b13 47 [.int .i64 a4.params, .int .i64 a4.result, v5, v7], bx b14 50 [.int .i64 a9.op, .int .i64 a9.dst, v10, .int .i64 a9.imm, .int .i64 a9.fn]] w → K41 (ovr e45 [(175, .bool t32), (5, .pointer (some ⟨b14, 0, none⟩)), (14, .int .i64 x30)]) w := by
          refine tlg k42 <| tm rfl <| TL.cut 4 fun K46 k47 => ?_
          have J48 {e50} : ∀ w, St E H [bx b13 47 [.int .i64 a4.params, .int .i64 a4.result, v5, v7], bx b14 50 [.int .i64 a9.op, .int .i64 a9.dst, v10, .int .i64 a9.imm, .int .i64 a9.fn]] w → K46 (ovr e50 [(180, .bool (decide (t32 = true ∧ (¬ a9.imm = 0)))), (5, .pointer (some ⟨b14, 0, none⟩)), (14, .int .i64 x30)]) w := by
           refine tlg k47 <| tm rfl <| TL.cut 4 fun K51 k52 => ?_
           have J53 {e55} : ∀ w, St E H [bx b13 47 [.int .i64 a4.params, .int .i64 a4.result, v5, v7], bx b14 50 [.int .i64 a9.op, .int .i64 a9.dst, v10, .int .i64 a9.imm, .int .i64 a9.fn]] w → K51 (ovr e55 [(185, .bool (decide ((t32 = true ∧ (¬ a9.imm = 0)) ∧ (¬ a9.imm = 1)))), (14, .int .i64 x30)]) w := by
            refine tlg k52 <| nz <| cD rfl hp (fun hc56 hp => ?_) fun hc56 hp => ?_
            · exact TC.region <| ta rfl <| nl <| jn [] (J35 hp)
            · exact TC.skip <| jn [] (J35 hp)
           by_cases hc54 : t32 = true ∧ (¬ a9.imm = 0)
           · exact gy rfl (bT hc54) <| tv (fa f50_3 rfl) rfl <| gy rfl (bT hc54) <| tv (lb s2 1 rfl rfl rfl) rfl <| gy rfl (bT hc54) <| tv (bne rfl rfl) rfl <| tv (pT (bT hc54)) rfl <| nj J53 (bAt hc54)
           · exact gn rfl (bF hc54) rfl rfl <| gn rfl (bF hc54) rfl rfl <| gn rfl (bF hc54) rfl rfl <| tv (pF (bF hc54)) rfl <| nj J53 (bAf hc54)
          by_cases hc49 : t32 = true
          · exact gy rfl (bbT hc49) <| tv (fa f50_3 rfl) rfl <| gy rfl (bbT hc49) <| tv (lb s2 1 rfl rfl rfl) rfl <| gy rfl (bbT hc49) <| tv (bne rfl rfl) rfl <| tv (pT (bbT hc49)) rfl <| nj J48 (bAt hc49)
          · exact gn rfl (bbF hc49) rfl rfl <| gn rfl (bbF hc49) rfl rfl <| gn rfl (bbF hc49) rfl rfl <| tv (pF (bbF hc49)) rfl <| nj J48 (bAf hc49)
         refine ifE ht57 (fun hc44 hp => ?_) fun hc44 hp => ?_
         · refine gy rfl (bT hc44) <| tv (fa f47_2 rfl) rfl <| gy rfl (bT hc44) <| tv (lb s38 0 rfl rfl rfl) rfl <| gy rfl (bT hc44) <| tv (fa f50_1 rfl) rfl <| gy rfl (bT hc44) <| tv (lb s3 1 rfl rfl rfl) rfl <| gy rfl (bT hc44) <| ti u38 i3 h6 hp rfl rfl rfl rfl ?_
           rintro x33 b34 o35 _ hp rfl h38
           refine gy rfl (bT hc44) <| tv (lr s3 sH h38 0 rfl rfl) rfl <| gy rfl (bT hc44) <| tv (beq rfl rfl) rfl <| tv (pT (bT hc44)) rfl ?_
           obtain rfl := Option.some.inj hp
           exact nj J43 rfl
         · refine gn rfl (bF hc44) rfl rfl <| gn rfl (bF hc44) rfl rfl <| gn rfl (bF hc44) rfl rfl <| gn rfl (bF hc44) rfl rfl <| gn rfl (bF hc44) rfl rfl <| gn rfl (bF hc44) rfl rfl <| gn rfl (bF hc44) rfl rfl <| tv (pF (bF hc44)) rfl ?_
           obtain rfl := Option.some.inj hp
           exact nj J43 rfl
        by_cases hc39 : a9.op = 1
        · exact gy rfl (bT hc39) <| tm rfl <| gy rfl (bT hc39) <| tv (beq rfl rfl) rfl <| tv (pT (bT hc39)) rfl <| nj J38 (bAt hc39)
        · exact gn rfl (bF hc39) rfl rfl <| gn rfl (bF hc39) rfl rfl <| tv (pF (bF hc39)) rfl <| nj J38 (bAf hc39)
       refine sr <| tv (fa f50_0 rfl) rfl <| tv (lb s3 1 rfl rfl rfl) rfl <| tv (bne rfl rfl) rfl <| tm rfl <| TL.cut 4 fun K59 k60 => ?_
       have J61 {e63} : ∀ w, St E H [bx b13 47 [.int .i64 a4.params, .int .i64 a4.result, v5, v7], bx b14 50 [.int .i64 a9.op, .int .i64 a9.dst, v10, .int .i64 a9.imm, .int .i64 a9.fn]] w → K59 (ovr e63 [(144, .bool (decide ((¬ a9.op = 1) ∧ (¬ a9.imm = 0)))), (4, .pointer (some ⟨b13, 0, none⟩)), (5, .pointer (some ⟨b14, 0, none⟩)), (10, .bool x25), (14, .int .i64 x29)]) w := by
        refine tlg k60 <| tm rfl <| TL.cut 9 fun K64 k65 => ?_
        have J66 {e68} : ∀ w, St E H [bx b13 47 [.int .i64 a4.params, .int .i64 a4.result, v5, v7], bx b14 50 [.int .i64 a9.op, .int .i64 a9.dst, v10, .int .i64 a9.imm, .int .i64 a9.fn]] w → K64 (ovr e68 [(154, .bool (decide (((¬ a9.op = 1) ∧ (¬ a9.imm = 0)) ∨ ((¬ a9.op = 17) ∧ (¬ a9.fn = 0))))), (4, .pointer (some ⟨b13, 0, none⟩)), (5, .pointer (some ⟨b14, 0, none⟩)), (10, .bool x25), (14, .int .i64 x29)]) w := by
         refine tlg k65 <| tm rfl <| TL.cut 2 fun K69 k70 => ?_
         have J71 {e73} : ∀ w, St E H [bx b13 47 [.int .i64 a4.params, .int .i64 a4.result, v5, v7], bx b14 50 [.int .i64 a9.op, .int .i64 a9.dst, v10, .int .i64 a9.imm, .int .i64 a9.fn]] w → K69 (ovr e73 [(157, .bool (decide ((((¬ a9.op = 1) ∧ (¬ a9.imm = 0)) ∨ ((¬ a9.op = 17) ∧ (¬ a9.fn = 0))) ∨ x25 = true))), (4, .pointer (some ⟨b13, 0, none⟩)), (5, .pointer (some ⟨b14, 0, none⟩)), (14, .int .i64 x29)]) w := by
          refine tlg k70 <| nz <| cD rfl hp (fun hc74 hp => ?_) fun hc74 hp => ?_
          · refine TC.region <| tm rfl <| bE hp fun x39 hy75 hp => tc 0 [_,_] rfl c41 (fun _ => fettleref02_worst_ok (a1 := x29) (a2 := 3) hy75) rfl ?_
            rintro _ _ ⟨rfl, rfl⟩
            exact ta rfl <| nl <| jn [0, 1] (J31 hp)
          · exact TC.skip <| jn [0, 1] (J31 hp)
         by_cases hc72 : ((¬ a9.op = 1) ∧ (¬ a9.imm = 0)) ∨ ((¬ a9.op = 17) ∧ (¬ a9.fn = 0))
         · exact gn rfl (bT hc72) rfl rfl <| tv (pT (bT hc72)) rfl <| nj J71 (bOt hc72)
         · exact gy rfl (bF hc72) <| tm rfl <| tv (pF (bF hc72)) rfl <| nj J71 (bOf' hc72)
        by_cases hc67 : (¬ a9.op = 1) ∧ (¬ a9.imm = 0)
        · exact gn rfl (bT hc67) rfl rfl <| gn rfl (bT hc67) rfl rfl <| gn rfl (bT hc67) rfl rfl <| gn rfl (bT hc67) rfl rfl <| gu rfl rfl rfl <| gu rfl rfl rfl <| gu rfl rfl rfl <| gn rfl (bT hc67) rfl rfl <| tv (pT (bT hc67)) rfl <| nj J66 (bOt hc67)
        · refine gy rfl (bF hc67) <| tv (fa f50_0 rfl) rfl <| gy rfl (bF hc67) <| tv (lb s3 1 rfl rfl rfl) rfl <| gy rfl (bF hc67) <| tv (bne rfl rfl) rfl <| gy rfl (bF hc67) <| tm rfl <| TL.cut 4 fun K77 k78 => ?_
          have J79 {e81} : ∀ w, St E H [bx b13 47 [.int .i64 a4.params, .int .i64 a4.result, v5, v7], bx b14 50 [.int .i64 a9.op, .int .i64 a9.dst, v10, .int .i64 a9.imm, .int .i64 a9.fn]] w → K77 (ovr e81 [(153, .bool (decide ((¬ a9.op = 17) ∧ (¬ a9.fn = 0)))), (4, .pointer (some ⟨b13, 0, none⟩)), (5, .pointer (some ⟨b14, 0, none⟩)), (10, .bool x25), (14, .int .i64 x29), (145, .bool (decide ((¬ a9.op = 1) ∧ (¬ a9.imm = 0))))]) w := by
           exact tlg k78 <| tv (pF (bF hc67)) rfl <| nj J66 (bOf hc67)
          by_cases hc80 : ¬ a9.op = 17
          · exact gy rfl (bT hc80) <| tv (fa f50_4 rfl) rfl <| gy rfl (bT hc80) <| tv (lb s3 1 rfl rfl rfl) rfl <| gy rfl (bT hc80) <| tv (bne rfl rfl) rfl <| gy rfl (bF hc67) <| tv (pT (bT hc80)) rfl <| nj J79 (bAt hc80)
          · exact gn rfl (bF hc80) rfl rfl <| gn rfl (bF hc80) rfl rfl <| gn rfl (bF hc80) rfl rfl <| gy rfl (bF hc67) <| tv (pF (bF hc80)) rfl <| nj J79 (bAf hc80)
       by_cases hc62 : ¬ a9.op = 1
       · exact gy rfl (bT hc62) <| tv (fa f50_3 rfl) rfl <| gy rfl (bT hc62) <| tv (lb s2 1 rfl rfl rfl) rfl <| gy rfl (bT hc62) <| tv (bne rfl rfl) rfl <| tv (pT (bT hc62)) rfl <| nj J61 (bAt hc62)
       · exact gn rfl (bF hc62) rfl rfl <| gn rfl (bF hc62) rfl rfl <| gn rfl (bF hc62) rfl rfl <| tv (pF (bF hc62)) rfl <| nj J61 (bAf hc62)
      refine sr <| tm rfl <| tv (beq rfl rfl) rfl <| nz <| cD rfl hp (fun hc82 hp => ?_) fun hc82 hp => ?_
      · refine sr <| tv (fa f50_1 rfl) rfl <| tv (lb s3 1 rfl rfl rfl) rfl <| tv (bne rfl rfl) rfl <| nz <| cD rfl hp (fun hc83 hp => ?_) fun hc83 hp => ?_
        · refine TC.region <| tm rfl <| bE hp fun x40 hy84 hp => tc 0 [_,_] rfl c41 (fun _ => fettleref02_worst_ok (a1 := x28) (a2 := 3) hy84) rfl ?_
          rintro _ _ ⟨rfl, rfl⟩
          exact ta rfl <| nl <| jn [0, 1] (J27 hp)
        · exact TC.skip <| jn [0, 1] (J27 hp)
      · refine sr <| tm rfl <| tv (blt rfl rfl) rfl <| nz <| cD rfl hp (fun hc86 hp => ?_) fun hc86 hp => ?_
        · refine TC.region <| tm rfl <| tv (lA (ds := [.int .i64 a4.params, .int .i64 a4.result, v5, v7]) ag_47 0 rfl rfl rfl rfl) rfl <| tv (fa f50_1 rfl) rfl <| tv (lb s3 1 rfl rfl rfl) rfl <| bE hp fun x41 hy87 hp => tc 0 [_,_] rfl c40 (fun _ => fettleref02_is_ok (a1 := a4) (a6 := a9.dst) (a7 := -1) (h6.mono subH) (h8.mono subH) hy87) rfl ?_
          rintro _ _ ⟨rfl, rfl⟩
          refine bE hp fun x42 hy89 hp => tc 0 [_,_] rfl c41 (fun _ => fettleref02_worst_ok (a1 := x41) (a2 := 3) hy89) rfl ?_
          rintro _ _ ⟨rfl, rfl⟩
          refine bE hp fun x43 hy91 hp => tc 0 [_,_] rfl c41 (fun _ => fettleref02_worst_ok (a1 := x28) (a2 := x42) hy91) rfl ?_
          rintro _ _ ⟨rfl, rfl⟩
          exact ta rfl <| nl <| jn [0, 1] (J27 hp)
        · refine TC.region <| tm rfl <| tv (lA (ds := [.int .i64 a4.params, .int .i64 a4.result, v5, v7]) ag_47 0 rfl rfl rfl rfl) rfl <| tv (fa f50_1 rfl) rfl <| tv (lb s3 1 rfl rfl rfl) rfl <| tm rfl <| bE hp fun x44 hy93 hp => tc 0 [_,_] rfl c40 (fun _ => fettleref02_is_ok (a1 := a4) (a6 := a9.dst) (a7 := x23) (h6.mono subH) (h8.mono subH) hy93) rfl ?_
          rintro _ _ ⟨rfl, rfl⟩
          refine bE hp fun x45 hy95 hp => tc 0 [_,_] rfl c41 (fun _ => fettleref02_worst_ok (a1 := x28) (a2 := x44) hy95) rfl ?_
          rintro _ _ ⟨rfl, rfl⟩
          exact ta rfl <| nl <| jn [0, 1] (J27 hp)
     refine lp hz19 [0, 1, 2] rfl (fun s e L => ∃ x26 x27 e17, s = (x26, x27) ∧ e = ovr e17 [(4, .pointer (some ⟨b13, 0, none⟩)), (5, .pointer (some ⟨b14, 0, none⟩)), (7, v20), (8, .int .i64 x23), (10, .bool x25), (14, .int .i64 x26), (15, .int .i64 x27)] ∧ L = [bx b13 47 [.int .i64 a4.params, .int .i64 a4.result, v5, v7], bx b14 50 [.int .i64 a9.op, .int .i64 a9.dst, v10, .int .i64 a9.imm, .int .i64 a9.fn], F21]) ⟨_, _, _, rfl, ovr_eq _ _ rfl, rfl⟩ ?_
     rintro _ _ _ ⟨x26, x27, e17, rfl, rfl, rfl⟩ X21 hp hx22
     replace hp : fettleref02_Instr.bd22 a4 a9 x19 x26 x27 = some X21 := hp
     refine TC.seq fun K99 k100 => sr <| tm rfl <| tm rfl <| tv (ln u38 h22.ro rfl) rfl <| tv (blt rfl rfl) rfl <| nz <| cD rfl hp (fun hc101 hp => ?_) fun hc101 hp => ?_
     · refine sk k100 rfl <| TC.seq fun K102 k103 => TC.block <| cq mix (by kernel_rfl) <| qv mv rfl <| qv (lA (ds := [.int .i64 a4.params, .int .i64 a4.result, v5, v7]) ag_47 0 rfl rfl rfl rfl) rfl <| qv (fa f50_2 rfl) rfl <| qv (lb s38 1 rfl rfl rfl) rfl <| qv mv rfl <| qi u38 i3 h11 hp rfl rfl rfl rfl ?_
       rintro x46 b47 o48 _ hp rfl h51
       refine qv (lr s3 sH h51 0 rfl rfl) rfl <| qv mv rfl <| qv mv rfl <| qi u38 i3 (h22).ro hp rfl rfl rfl rfl ?_
       rintro x52 b53 o54 _ hp rfl h57
       exact qv (lr s3 (Src.at_ 2 rfl) h57 0 rfl rfl) rfl <| bE hp fun x58 hy106 hp => qc (.int .i64 x58) c40 (fun _ => fettleref02_is_ok (a1 := a4) (a6 := x46) (a7 := x52) (h6.mono subH) (h8.mono subH) hy106) (fun _ _ h => ⟨h.1.symm, h.2⟩) rfl <| bE hp fun x59 hy107 hp => qc (.int .i64 x59) c41 (fun _ => fettleref02_worst_ok (a1 := x26) (a2 := x58) hy107) (fun _ _ h => ⟨h.1.symm, h.2⟩) rfl <| qv sg rfl <| QL.nil <| tg k103 <| TC.region <| tm rfl <| tv (bad rfl rfl) rfl <| ta rfl <| nl <| gk hp [0, 1, 2] ⟨_, _, _, rfl, ovr_eq _ _ rfl, rfl⟩
     · exact TC.exit <| jn [0, 1] (J97 (ex_ret hp hx22))
  by_cases hc12 : (!x24) = true
  · exact gn rfl (bbT hc12) rfl rfl <| gn rfl (bbT hc12) rfl rfl <| gn rfl (bbT hc12) rfl rfl <| gn rfl (bbT hc12) rfl rfl <| gn rfl (bbT hc12) rfl rfl <| gn rfl (bbT hc12) rfl rfl <| tv (pT (bbT hc12)) rfl <| nj J11 (bOt hc12)
  · exact gy rfl (bbF hc12) <| tv (fa f50_2 rfl) rfl <| gy rfl (bbF hc12) <| tv (lb s38 1 rfl rfl rfl) rfl <| gy rfl (bbF hc12) <| tv (ln u38 h11 rfl) rfl <| gy rfl (bbF hc12) <| tm rfl <| gy rfl (bbF hc12) <| tv (ln u38 h22.ro rfl) rfl <| gy rfl (bbF hc12) <| tv (bne rfl rfl) rfl <| tv (pF (bbF hc12)) rfl <| nj J11 (bOf hc12)
 refine sr <| tv (fa f50_0 rfl) rfl <| tv (lb s3 1 rfl rfl rfl) rfl <| tv (beq rfl rfl) rfl <| nz <| cD rfl hp (fun hc110 hp => ?_) fun hc110 hp => ?_
 · refine TC.seq fun K111 k112 => sr <| tv (fa f50_4 rfl) rfl <| tv (lb s3 1 rfl rfl rfl) rfl <| tv (blt rfl rfl) rfl <| tm rfl <| TL.cut 7 fun K113 k114 => ?_
   have J115 {e117} : ∀ w, St E H [F17, bx b14 50 [.int .i64 a9.op, .int .i64 a9.dst, v10, .int .i64 a9.imm, .int .i64 a9.fn], bx b13 47 [.int .i64 a4.params, .int .i64 a4.result, v5, v7], bx b12 24 [v2]] w → K113 (ovr e117 [(37, .bool (decide (a9.fn < 0 ∨ a9.fn ≥ (len a1.funcs)))), (3, .pointer (some ⟨b12, 0, none⟩)), (4, .pointer (some ⟨b13, 0, none⟩)), (5, .pointer (some ⟨b14, 0, none⟩)), (7, v16)]) w := by
    refine tlg k114 <| nz <| cD rfl hp (fun hc118 hp => ?_) fun hc118 hp => ?_
    · exact sr <| ta rfl <| nz <| TC.ret <| rt hp [] ⟨rfl, rfl⟩
    · refine sk k112 rfl <| sr <| tv (fa f24_0 rfl) rfl <| tv (lb s22 3 rfl rfl rfl) rfl <| tv (fa f50_4 rfl) rfl <| tv (lb s3 1 rfl rfl rfl) rfl <| ti u22 i47 h3 hp rfl rfl rfl rfl ?_
      rintro x60 b61 o62 _ hp ⟨v66, v68, rfl, h67, h69⟩ h65
      refine tv (lR (ds := [.int .i64 x60.params, .int .i64 x60.result, v66, v68]) ag_47 sH h65 0 rfl rfl rfl) rfl <| tl i47 rfl fun b70 => tS 0 m47 rfl rfl [.int .i64 x60.params, .int .i64 x60.result, v66, v68] rfl (oc rfl (oc rfl (oc (h67).one (oc (h69).one oc0)))) rfl rfl <| nz <| TC.seq fun K120 k121 => sr <| tv (fa f50_2 rfl) rfl <| tv (lb s38 2 rfl rfl rfl) rfl <| tv (ln u38 h11 rfl) rfl <| tv (fa f47_0 rfl) rfl <| tv (lb s3 0 rfl rfl rfl) rfl <| tv (bne rfl rfl) rfl <| nz <| cD rfl hp (fun hc122 hp => ?_) fun hc122 hp => ?_
      · exact sr <| ta rfl <| nz <| TC.ret <| rt hp [] ⟨rfl, rfl⟩
      · refine sk k121 rfl <| sr <| tv (fa f47_0 rfl) rfl <| tv (lb s3 0 rfl rfl rfl) rfl <| tv (blt rfl rfl) rfl <| tm rfl <| TL.cut 7 fun K123 k124 => ?_
        have J125 {e127} : ∀ w, St E H [bx b70 47 [.int .i64 x60.params, .int .i64 x60.result, v66, v68], F17, bx b14 50 [.int .i64 a9.op, .int .i64 a9.dst, v10, .int .i64 a9.imm, .int .i64 a9.fn], bx b13 47 [.int .i64 a4.params, .int .i64 a4.result, v5, v7], bx b12 24 [v2]] w → K123 (ovr e127 [(60, .bool (decide (x60.params < 0 ∨ x60.params > (len x60.regs)))), (4, .pointer (some ⟨b13, 0, none⟩)), (5, .pointer (some ⟨b14, 0, none⟩)), (7, v16), (11, .pointer (some ⟨b70, 0, none⟩))]) w := by
         refine tlg k124 <| ta rfl <| nz <| TC.seq fun K128 k129 => sr <| ta rfl <| nz <| TC.block <| bE hp fun z_131 hz132 hr133 => ?_
         have J137 {x77 x81 v78 F79 e136} (h80 : SlO 3 (kInt .i64) x77 v78 F79) (hq138 : (x77, x81) = z_131) : ∀ w, St E H [bx b13 47 [.int .i64 a4.params, .int .i64 a4.result, v5, v7], bx b14 50 [.int .i64 a9.op, .int .i64 a9.dst, v10, .int .i64 a9.imm, .int .i64 a9.fn], F79, bx b70 47 [.int .i64 x60.params, .int .i64 x60.result, v66, v68]] w → K128 (ovr e136 [(4, .pointer (some ⟨b13, 0, none⟩)), (5, .pointer (some ⟨b14, 0, none⟩)), (7, v78), (10, .bool x81), (11, .pointer (some ⟨b70, 0, none⟩))]) w := by
          subst hq138
          replace hp : fettleref02_Instr.nx135 a4 a9 x60 x77 x81 = some r := hr133
          exact tg k129 <| sr <| tv (fa f47_1 rfl) rfl <| tv (lb s3 3 rfl rfl rfl) rfl <| ta rfl <| nz <| TC.region <| ta rfl <| nl <| jn [0, 1, 2] (J6 h80 hp)
         refine lp hz132 [3, 2, 1, 0] rfl (fun s e L => ∃ x71 x75 x76 v72 F73 e130, s = (x71, x75, x76) ∧ SlO 3 (kInt .i64) x71 v72 F73 ∧ e = ovr e130 [(4, .pointer (some ⟨b13, 0, none⟩)), (5, .pointer (some ⟨b14, 0, none⟩)), (7, v72), (10, .bool x75), (11, .pointer (some ⟨b70, 0, none⟩)), (12, .int .i64 x76)] ∧ L = [bx b13 47 [.int .i64 a4.params, .int .i64 a4.result, v5, v7], bx b14 50 [.int .i64 a9.op, .int .i64 a9.dst, v10, .int .i64 a9.imm, .int .i64 a9.fn], F73, bx b70 47 [.int .i64 x60.params, .int .i64 x60.result, v66, v68]]) ⟨_, _, _, v16, F17, _, rfl, h18, ovr_eq _ _ rfl, rfl⟩ ?_
         rintro _ _ _ ⟨x71, x75, x76, v72, F73, e130, rfl, h74, rfl, rfl⟩ X134 hp hx135
         replace hp : fettleref02_Instr.bd135 x60 x71 x75 x76 = some X134 := hp
         refine TC.seq fun K139 k140 => sr <| tm rfl <| tv (fa f47_0 rfl) rfl <| tv (lb s3 3 rfl rfl rfl) rfl <| tv (blt rfl rfl) rfl <| nz <| cD rfl hp (fun hc141 hp => ?_) fun hc141 hp => ?_
         · refine sk k140 rfl <| TC.seq fun K142 k143 => TC.block <| sr <| ta rfl <| nz <| TC.seq fun K144 k145 => ?_
           have J147 {x82 e146} (hp : fettleref02_Instr.jn147 x71 x75 x76 x82 = some X134) : ∀ w, St E H [bx b13 47 [.int .i64 a4.params, .int .i64 a4.result, v5, v7], bx b14 50 [.int .i64 a9.op, .int .i64 a9.dst, v10, .int .i64 a9.imm, .int .i64 a9.fn], F73, bx b70 47 [.int .i64 x60.params, .int .i64 x60.result, v66, v68]] w → K144 (ovr e146 [(4, .pointer (some ⟨b13, 0, none⟩)), (5, .pointer (some ⟨b14, 0, none⟩)), (7, v72), (10, .bool x75), (11, .pointer (some ⟨b70, 0, none⟩)), (12, .int .i64 x76), (13, .int .i64 x82)]) w := by
            refine tg k145 <| sr <| tm rfl <| tm rfl <| TL.cut 3 fun K148 k149 => ?_
            have J150 {e152} : ∀ w, St E H [bx b13 47 [.int .i64 a4.params, .int .i64 a4.result, v5, v7], bx b14 50 [.int .i64 a9.op, .int .i64 a9.dst, v10, .int .i64 a9.imm, .int .i64 a9.fn], F73, bx b70 47 [.int .i64 x60.params, .int .i64 x60.result, v66, v68]] w → K148 (ovr e152 [(78, .bool (decide (x75 = true ∨ x82 < 0))), (4, .pointer (some ⟨b13, 0, none⟩)), (5, .pointer (some ⟨b14, 0, none⟩)), (7, v72), (11, .pointer (some ⟨b70, 0, none⟩)), (12, .int .i64 x76), (13, .int .i64 x82)]) w := by
             exact tlg k149 <| ta rfl <| nz <| TC.region <| tm rfl <| tm rfl <| tbs [(0, .int .i64 x82)] [.int .i64 x82] u38 i3 (by kernel_rfl) rfl rfl rfl rfl fun b83 => tp [3, 0, 1, 2, 4] [_,_,_,_,_] rfl rfl <| tf 2 0 [_,_,_,_,_,_] rfl <| tp2 u38 i3 h74 hp (RepL.to (RepL.cons (k := (kInt .i64)) (x := x82) ⟨rfl, rfl⟩ RepL.nil) rfl) rfl rfl rfl rfl rfl rfl rfl rfl rfl fun x84 v85 F86 h87 hp => ta rfl <| nl <| tg k143 <| TC.region <| tm rfl <| tv (bad rfl rfl) rfl <| ta rfl <| nl <| gk hp [1, 2, 0, 3] ⟨_, _, _, v85, F86, _, rfl, h87, ovr_eq _ _ rfl, rfl⟩
            by_cases hc151 : x75 = true
            · exact gn rfl (bbT hc151) rfl rfl <| gn rfl (bbT hc151) rfl rfl <| tv (pT (bbT hc151)) rfl <| nj J150 (bOt hc151)
            · exact gy rfl (bbF hc151) <| tm rfl <| gy rfl (bbF hc151) <| tv (blt rfl rfl) rfl <| tv (pF (bbF hc151)) rfl <| nj J150 (bOf hc151)
           refine sr <| tm rfl <| tv (rv_not rfl) rfl <| nz <| cB rfl hp (fun hc154 hp => ?_) fun hc154 hp => ?_
           · refine TC.region <| tv (fa f47_2 rfl) rfl <| tv (lb s38 3 rfl rfl rfl) rfl <| tm rfl <| ti u38 i3 h67 hp rfl rfl rfl rfl ?_
             rintro x88 b89 o90 _ hp rfl h93
             exact tv (lr s3 sH h93 0 rfl rfl) rfl <| ta rfl <| nl <| jn [0, 1, 2, 3] (J147 hp)
           · exact TC.skip <| jn [0, 1, 2, 3] (J147 hp)
         · exact TC.exit <| jn [0, 1, 2, 3] (J137 h74 (ex_ret hp hx135))
        by_cases hc126 : x60.params < 0
        · exact gn rfl (bT hc126) rfl rfl <| gn rfl (bT hc126) rfl rfl <| gn rfl (bT hc126) rfl rfl <| gn rfl (bT hc126) rfl rfl <| gn rfl (bT hc126) rfl rfl <| gn rfl (bT hc126) rfl rfl <| tv (pT (bT hc126)) rfl <| nj J125 (bOt hc126)
        · exact gy rfl (bF hc126) <| tv (fa f47_0 rfl) rfl <| gy rfl (bF hc126) <| tv (lb s3 0 rfl rfl rfl) rfl <| gy rfl (bF hc126) <| tv (fa f47_2 rfl) rfl <| gy rfl (bF hc126) <| tv (lb s38 0 rfl rfl rfl) rfl <| gy rfl (bF hc126) <| tv (ln u38 h67 rfl) rfl <| gy rfl (bF hc126) <| tv (bgt rfl rfl) rfl <| tv (pF (bF hc126)) rfl <| nj J125 (bOf hc126)
   by_cases hc116 : a9.fn < 0
   · exact gn rfl (bT hc116) rfl rfl <| gn rfl (bT hc116) rfl rfl <| gn rfl (bT hc116) rfl rfl <| gn rfl (bT hc116) rfl rfl <| gn rfl (bT hc116) rfl rfl <| gn rfl (bT hc116) rfl rfl <| tv (pT (bT hc116)) rfl <| nj J115 (bOt hc116)
   · exact gy rfl (bF hc116) <| tv (fa f50_4 rfl) rfl <| gy rfl (bF hc116) <| tv (lb s3 1 rfl rfl rfl) rfl <| gy rfl (bF hc116) <| tv (fa f24_0 rfl) rfl <| gy rfl (bF hc116) <| tv (lb s22 3 rfl rfl rfl) rfl <| gy rfl (bF hc116) <| tv (ln u22 h3 rfl) rfl <| gy rfl (bF hc116) <| tv (bge rfl rfl) rfl <| tv (pF (bF hc116)) rfl <| nj J115 (bOf hc116)
 · exact TC.skip <| jn [2, 1, 0] (J6 h18 hp)

/-! ### fettle/fettleref02.end -/
abbrev fettleref02_end.R (r : Int) (v : Value) (A : List FP) : Prop := .int .i64 r = v ∧ A = []
def fettleref02_end (a1 : PFunc) (a6 : PTerm) : Option Int :=
  if a6.kind = 2 then
    (fettleref02_is a1 a6.arg 2).bind fun x11 =>
    some x11
  else
    if a6.kind = 3 ∧ (¬ a1.result = 0) then
      (fettleref02_is a1 a6.arg a1.result).bind fun x12 =>
      some x12
    else
      if ¬ a6.arg = -1 then
        some 3
      else
        some 0
theorem fettleref02_end_ok {E : World} {H : FP} {w : World} {a1 : PFunc} {a6 : PTerm} {v2 : Value} {v4 : Value} {v7 : Value} {r : Int} (h3 : SlI (kInt .i64) H a1.regs v2) (h5 : SlI kBlock H a1.blocks v4) (h8 : SlI (kInt .i64) H a6.to v7) (hp : fettleref02_end a1 a6 = some r) (hst : St E H [] w) :
    Fn Tryz.prog 43 #[.agg #[.int .i64 a1.params, .int .i64 a1.result, v2, v4], .agg #[.int .i64 a6.kind, .int .i64 a6.arg, v7]] w fun v w' => ∃ A, fettleref02_end.R r v A ∧ St E H A w' := by
 refine fb 29 [.tmp 4] Tryz.func43 rfl rfl rfl rfl rfl hst <| sr <| tb [.int .i64 a1.params, .int .i64 a1.result, v2, v4] rfl rfl fun b9 => tb [.int .i64 a6.kind, .int .i64 a6.arg, v7] rfl rfl fun b10 => ta rfl <| nz <| TC.seq fun K1 k2 => sr <| tv (fa f40_0 rfl) rfl <| tv (lb s3 0 rfl rfl rfl) rfl <| tv (beq rfl rfl) rfl <| nz <| cD rfl hp (fun hc3 hp => ?_) fun hc3 hp => ?_
 · refine sr <| tv (lA (ds := [.int .i64 a1.params, .int .i64 a1.result, v2, v4]) ag_47 1 rfl rfl rfl rfl) rfl <| tv (fa f40_1 rfl) rfl <| tv (lb s3 0 rfl rfl rfl) rfl <| bE hp fun x11 hy4 hp => tc 0 [_,_] rfl c40 (fun _ => fettleref02_is_ok (a1 := a1) (a6 := a6.arg) (a7 := 2) (h3.mono subH) (h5.mono subH) hy4) rfl ?_
   rintro _ _ ⟨rfl, rfl⟩
   exact ta rfl <| nz <| TC.ret <| rt hp [] ⟨rfl, rfl⟩
 · refine sk k2 rfl <| TC.seq fun K6 k7 => sr <| tv (fa f40_0 rfl) rfl <| tv (lb s3 0 rfl rfl rfl) rfl <| tv (beq rfl rfl) rfl <| tm rfl <| TL.cut 4 fun K8 k9 => ?_
   have J10 {e12} : ∀ w, St E H [bx b10 40 [.int .i64 a6.kind, .int .i64 a6.arg, v7], bx b9 47 [.int .i64 a1.params, .int .i64 a1.result, v2, v4]] w → K8 (ovr e12 [(19, .bool (decide (a6.kind = 3 ∧ (¬ a1.result = 0)))), (2, .pointer (some ⟨b9, 0, none⟩)), (3, .pointer (some ⟨b10, 0, none⟩))]) w := by
    refine tlg k9 <| nz <| cD rfl hp (fun hc13 hp => ?_) fun hc13 hp => ?_
    · refine sr <| tv (lA (ds := [.int .i64 a1.params, .int .i64 a1.result, v2, v4]) ag_47 1 rfl rfl rfl rfl) rfl <| tv (fa f40_1 rfl) rfl <| tv (lb s3 0 rfl rfl rfl) rfl <| tv (fa f47_1 rfl) rfl <| tv (lb s3 1 rfl rfl rfl) rfl <| bE hp fun x12 hy14 hp => tc 0 [_,_] rfl c40 (fun _ => fettleref02_is_ok (a1 := a1) (a6 := a6.arg) (a7 := a1.result) (h3.mono subH) (h5.mono subH) hy14) rfl ?_
      rintro _ _ ⟨rfl, rfl⟩
      exact ta rfl <| nz <| TC.ret <| rt hp [] ⟨rfl, rfl⟩
    · refine sk k7 rfl <| TC.seq fun K16 k17 => sr <| tv (fa f40_1 rfl) rfl <| tv (lb s3 0 rfl rfl rfl) rfl <| tv (bne rfl rfl) rfl <| nz <| cD rfl hp (fun hc18 hp => ?_) fun hc18 hp => ?_
      · exact sr <| ta rfl <| nz <| TC.ret <| rt hp [] ⟨rfl, rfl⟩
      · exact sk k17 rfl <| sr <| ta rfl <| nz <| TC.ret <| rt hp [] ⟨rfl, rfl⟩
   by_cases hc11 : a6.kind = 3
   · exact gy rfl (bT hc11) <| tv (fa f47_1 rfl) rfl <| gy rfl (bT hc11) <| tv (lb s3 1 rfl rfl rfl) rfl <| gy rfl (bT hc11) <| tv (bne rfl rfl) rfl <| tv (pT (bT hc11)) rfl <| nj J10 (bAt hc11)
   · exact gn rfl (bF hc11) rfl rfl <| gn rfl (bF hc11) rfl rfl <| gn rfl (bF hc11) rfl rfl <| tv (pF (bF hc11)) rfl <| nj J10 (bAf hc11)

/-! ### fettle/fettleref02.Func -/
abbrev fettleref02_Func.R (r : Int) (v : Value) (A : List FP) : Prop := .int .i64 r = v ∧ A = []
def fettleref02_Func.nx14  : Option Int :=
  some 0
def fettleref02_Func.nx40 (x6 : PFunc) (x18 : Int) (x19 : PBlock) : Option (Ex (Ex Int Unit) Int) :=
  (fettleref02_end x6 x19.term).bind fun x34 =>
  if ¬ x34 = 0 then
    some (.ret (.ret x34))
  else
    some (.go (w64 (x18 + 1)))
def fettleref02_Func.bd40 (a1 : PModule) (x6 : PFunc) (x19 : PBlock) (x33 : Int) : Option (Ex (Ex Int Unit) Int) :=
  if x33 < (len x19.ins) then
    (idx x19.ins x33).bind fun x35 =>
    (fettleref02_Instr a1 x6 x35).bind fun x43 =>
    if ¬ x43 = 0 then
      some (.ret (.ret x43))
    else
      some (.go (w64 (x33 + 1)))
  else
    some (.ret (.go ()))
def fettleref02_Func.nx31 (a1 : PModule) (x6 : PFunc) (x18 : Int) (x19 : PBlock) : Option (Ex (Ex Int Unit) Int) :=
  (whl (fun (s : Int) => fettleref02_Func.bd40 a1 x6 x19 s) FUEL 0).bind fun z =>
  match z with
    | .ret r => some (.ret (.ret r))
    | .go p => fettleref02_Func.nx40 x6 x18 x19
def fettleref02_Func.nx85 (x32 : Int) (x59 : Int) : Option (Ex (Ex Int Unit) Int) :=
  if ¬ x59 = 0 then
    some (.ret (.ret x59))
  else
    some (.go (w64 (x32 + 1)))
def fettleref02_Func.bd85 (x6 : PFunc) (x44 : PPhi) (x57 : Int) (x58 : Int) : Option (Ex Int (Int × Int)) :=
  if x58 < (len x44.args) ∧ x57 = 0 then
    (idx x44.args x58).bind fun x60 =>
    (idx x6.regs x44.dst).bind fun x66 =>
    (fettleref02_is x6 x60 x66).bind fun x72 =>
    some (.go (x72, (w64 (x58 + 1))))
  else
    some (.ret x57)
def fettleref02_Func.nx76 (x6 : PFunc) (x32 : Int) (x44 : PPhi) (x56 : Int) : Option (Ex (Ex Int Unit) Int) :=
  (whl (fun (s : (Int × Int)) => fettleref02_Func.bd85 x6 x44 s.1 s.2) FUEL (x56, 0)).bind fun z =>
  fettleref02_Func.nx85 x32 z
def fettleref02_Func.bd76 (x6 : PFunc) (x44 : PPhi) (x54 : Int) (x55 : Int) : Option (Ex Int (Int × Int)) :=
  if x55 < (len x44.args) then
    (idx x44.args x55).bind fun x73 =>
    (fettleref02_is x6 x73 (-1)).bind fun x79 =>
    (fettleref02_worst x54 x79).bind fun x80 =>
    some (.go (x80, (w64 (x55 + 1))))
  else
    some (.ret x54)
def fettleref02_Func.bd31 (x6 : PFunc) (x19 : PBlock) (x32 : Int) : Option (Ex (Ex Int Unit) Int) :=
  if x32 < (len x19.phis) then
    (idx x19.phis x32).bind fun x44 =>
    (fettleref02_is x6 x44.dst (-1)).bind fun x53 =>
    (whl (fun (s : (Int × Int)) => fettleref02_Func.bd76 x6 x44 s.1 s.2) FUEL (x53, 0)).bind fun z =>
    fettleref02_Func.nx76 x6 x32 x44 z
  else
    some (.ret (.go ()))
def fettleref02_Func.bd14 (a1 : PModule) (x6 : PFunc) (x18 : Int) : Option (Ex (Ex Int Unit) Int) :=
  if x18 < (len x6.blocks) then
    (idx x6.blocks x18).bind fun x19 =>
    (whl (fun (s : Int) => fettleref02_Func.bd31 x6 x19 s) FUEL 0).bind fun z =>
    match z with
      | .ret r => some (.ret (.ret r))
      | .go p => fettleref02_Func.nx31 a1 x6 x18 x19
  else
    some (.ret (.go ()))
def fettleref02_Func (a1 : PModule) (a4 : Int) : Option Int :=
  (idx a1.funcs a4).bind fun x6 =>
  (fettleref02_outer x6).bind fun x17 =>
  if ¬ x17 = 0 then
    some x17
  else
    (whl (fun (s : Int) => fettleref02_Func.bd14 a1 x6 s) FUEL 0).bind fun z =>
    match z with
      | .ret r => some r
      | .go p => fettleref02_Func.nx14
set_option maxHeartbeats 4000000 in
theorem fettleref02_Func_ok {E : World} {H : FP} {w : World} {a1 : PModule} {a4 : Int} {v2 : Value} {r : Int} (h3 : SlI kFunc H a1.funcs v2) (hp : fettleref02_Func a1 a4 = some r) (hst : St E H [] w) :
    Fn Tryz.prog 20 #[.agg #[v2], .int .i64 a4] w fun v w' => ∃ A, fettleref02_Func.R r v A ∧ St E H A w' := by
 refine fb 120 [.tmp 4] Tryz.func20 rfl rfl rfl rfl rfl hst <| sr <| tb [v2] rfl rfl fun b5 => ta rfl <| nz <| sr <| tv (fa f24_0 rfl) rfl <| tv (lb s22 0 rfl rfl rfl) rfl <| tm rfl <| ti u22 i47 h3 hp rfl rfl rfl rfl ?_
 rintro x6 b7 o8 _ hp ⟨v12, v14, rfl, h13, h15⟩ h11
 refine tv (lR (ds := [.int .i64 x6.params, .int .i64 x6.result, v12, v14]) ag_47 sH h11 0 rfl rfl rfl) rfl <| tl i47 rfl fun b16 => tS 0 m47 rfl rfl [.int .i64 x6.params, .int .i64 x6.result, v12, v14] rfl (oc rfl (oc rfl (oc (h13).one (oc (h15).one oc0)))) rfl rfl <| nz <| sr <| tv (lA (ds := [.int .i64 x6.params, .int .i64 x6.result, v12, v14]) ag_47 0 rfl rfl rfl rfl) rfl <| bE hp fun x17 hy2 hp => tc 0 [_,_] rfl c39 (fun _ => fettleref02_outer_ok (a1 := x6) (h13.mono subH) (h15.mono subH) hy2) rfl ?_
 rintro _ _ ⟨rfl, rfl⟩
 refine ta rfl <| nz <| TC.seq fun K4 k5 => sr <| tm rfl <| tv (bne rfl rfl) rfl <| nz <| cD rfl hp (fun hc6 hp => ?_) fun hc6 hp => ?_
 · exact sr <| tm rfl <| ta rfl <| nz <| TC.ret <| rt hp [] ⟨rfl, rfl⟩
 · refine sk k5 rfl <| TC.seq fun K7 k8 => sr <| ta rfl <| nz <| TC.block <| bE hp fun z_10 hz11 hr12 => ?_
   have J16 {e15} (hq17 : .go () = z_10) : ∀ w, St E H [] w → K7 (ovr e15 []) w := by
    subst hq17
    replace hp : fettleref02_Func.nx14 = some r := hr12
    exact tg k8 <| sr <| ta rfl <| nz <| TC.ret <| rt hp [] ⟨rfl, rfl⟩
   refine lp hz11 [1, 0] rfl (fun s e L => ∃ e9, e = ovr e9 [(2, .pointer (some ⟨b5, 0, none⟩)), (5, .pointer (some ⟨b16, 0, none⟩)), (7, .int .i64 s)] ∧ L = [bx b5 24 [v2], bx b16 47 [.int .i64 x6.params, .int .i64 x6.result, v12, v14]]) ⟨_, ovr_eq _ _ rfl, rfl⟩ ?_
   rintro x18 _ _ ⟨e9, rfl, rfl⟩ X13 hp hx14
   replace hp : fettleref02_Func.bd14 a1 x6 x18 = some X13 := hp
   refine TC.seq fun K18 k19 => sr <| tm rfl <| tv (fa f47_3 rfl) rfl <| tv (lb s45 1 rfl rfl rfl) rfl <| tv (ln u45 h15 rfl) rfl <| tv (blt rfl rfl) rfl <| nz <| cD rfl hp (fun hc20 hp => ?_) fun hc20 hp => ?_
   · refine sk k19 rfl <| TC.seq fun K21 k22 => TC.block <| sr <| tv (fa f47_3 rfl) rfl <| tv (lb s45 1 rfl rfl rfl) rfl <| tm rfl <| ti u45 i44 h15 hp rfl rfl rfl rfl ?_
     rintro x19 b20 o21 _ hp ⟨v25, v27, v29, rfl, h26, h28, h30⟩ h24
     refine tv (lR (ds := [v25, v27, .int .i64 x19.term.kind, .int .i64 x19.term.arg, v29]) ag_44 sH h24 0 rfl rfl rfl) rfl <| tl i44 rfl fun b31 => tS 0 m44 rfl rfl [v25, v27, .int .i64 x19.term.kind, .int .i64 x19.term.arg, v29] rfl (oc (h26).one (oc (h28).one (oc rfl (oc rfl (oc (h30).one oc0))))) rfl rfl <| nz <| TC.seq fun K24 k25 => sr <| ta rfl <| nz <| TC.block <| bE hp fun z_27 hz28 hr29 => ?_
     have J59 {e32} (hq60 : .go () = z_27) : ∀ w, St E H [bx b5 24 [v2], bx b16 47 [.int .i64 x6.params, .int .i64 x6.result, v12, v14], bx b31 44 [v25, v27, .int .i64 x19.term.kind, .int .i64 x19.term.arg, v29]] w → K24 (ovr e32 [(2, .pointer (some ⟨b5, 0, none⟩)), (5, .pointer (some ⟨b16, 0, none⟩)), (7, .int .i64 x18), (8, .pointer (some ⟨b31, 0, none⟩))]) w := by
      subst hq60
      replace hp : fettleref02_Func.nx31 a1 x6 x18 x19 = some X13 := hr29
      refine tg k25 <| TC.seq fun K33 k34 => sr <| ta rfl <| nz <| TC.block <| bE hp fun z_36 hz37 hr38 => ?_
      have J45 {e41} (hq46 : .go () = z_36) : ∀ w, St E H [bx b5 24 [v2], bx b16 47 [.int .i64 x6.params, .int .i64 x6.result, v12, v14], bx b31 44 [v25, v27, .int .i64 x19.term.kind, .int .i64 x19.term.arg, v29]] w → K33 (ovr e41 [(2, .pointer (some ⟨b5, 0, none⟩)), (5, .pointer (some ⟨b16, 0, none⟩)), (7, .int .i64 x18), (8, .pointer (some ⟨b31, 0, none⟩))]) w := by
       subst hq46
       replace hp : fettleref02_Func.nx40 x6 x18 x19 = some X13 := hr38
       refine tg k34 <| sr <| tv (lA (ds := [.int .i64 x6.params, .int .i64 x6.result, v12, v14]) ag_47 1 rfl rfl rfl rfl) rfl <| tv (fa f44_2 rfl) rfl <| tv (lA (ds := [.int .i64 x19.term.kind, .int .i64 x19.term.arg, v29]) ag_40 2 rfl rfl rfl rfl) rfl <| bE hp fun x34 hy42 hp => tc 0 [_,_,_] rfl c43 (fun _ => fettleref02_end_ok (a1 := x6) (a6 := x19.term) (h13.mono subH) (h15.mono subH) (h30.mono subH) hy42) rfl ?_
       rintro _ _ ⟨rfl, rfl⟩
       refine ta rfl <| nz <| sr <| tm rfl <| tv (bne rfl rfl) rfl <| nz <| cD rfl hp (fun hc44 hp => ?_) fun hc44 hp => ?_
       · refine sr <| tm rfl <| ta rfl <| nz <| TC.ret ?_
         obtain rfl := ex_ret hp hx14
         exact rt hr12 [] ⟨rfl, rfl⟩
       · exact sk k22 rfl <| TC.region <| tm rfl <| tv (bad rfl rfl) rfl <| ta rfl <| nl <| gk hp [0, 1] ⟨_, ovr_eq _ _ rfl, rfl⟩
      refine lp hz37 [0, 1, 2] rfl (fun s e L => ∃ e35, e = ovr e35 [(2, .pointer (some ⟨b5, 0, none⟩)), (5, .pointer (some ⟨b16, 0, none⟩)), (7, .int .i64 x18), (8, .pointer (some ⟨b31, 0, none⟩)), (13, .int .i64 s)] ∧ L = [bx b5 24 [v2], bx b16 47 [.int .i64 x6.params, .int .i64 x6.result, v12, v14], bx b31 44 [v25, v27, .int .i64 x19.term.kind, .int .i64 x19.term.arg, v29]]) ⟨_, ovr_eq _ _ rfl, rfl⟩ ?_
      rintro x33 _ _ ⟨e35, rfl, rfl⟩ X39 hp hx40
      replace hp : fettleref02_Func.bd40 a1 x6 x19 x33 = some X39 := hp
      refine TC.seq fun K47 k48 => sr <| tm rfl <| tv (fa f44_1 rfl) rfl <| tv (lb s42 2 rfl rfl rfl) rfl <| tv (ln u42 h28 rfl) rfl <| tv (blt rfl rfl) rfl <| nz <| cD rfl hp (fun hc49 hp => ?_) fun hc49 hp => ?_
      · refine sk k48 rfl <| TC.seq fun K50 k51 => TC.block <| TC.seq fun K52 k53 => cq mix (by kernel_rfl) <| qv (lA (ds := [v2]) ag_24 0 rfl rfl rfl rfl) rfl <| qv (lA (ds := [.int .i64 x6.params, .int .i64 x6.result, v12, v14]) ag_47 1 rfl rfl rfl rfl) rfl <| qv (fa f44_1 rfl) rfl <| qv (lb s42 2 rfl rfl rfl) rfl <| qv mv rfl <| qi u42 i50 h28 hp rfl rfl rfl rfl ?_
        rintro x35 b36 o37 _ hp ⟨v41, rfl, h42⟩ h40
        refine qv (lR (ds := [.int .i64 x35.op, .int .i64 x35.dst, v41, .int .i64 x35.imm, .int .i64 x35.fn]) ag_50 sH h40 0 rfl rfl rfl) rfl <| bE hp fun x43 hy55 hp => qc (.int .i64 x43) c42 (fun _ => fettleref02_Instr_ok (a1 := a1) (a4 := x6) (a9 := x35) (h3.mono subH) (h13.mono subH) (h15.mono subH) (h42.mono subH) hy55) (fun _ _ h => ⟨h.1.symm, h.2⟩) rfl <| qv sg rfl <| QL.nil <| tg k53 <| sr <| tm rfl <| tv (bne rfl rfl) rfl <| nz <| cD rfl hp (fun hc56 hp => ?_) fun hc56 hp => ?_
        · refine sr <| tm rfl <| ta rfl <| nz <| TC.ret ?_
          obtain rfl := ex_ret hp hx40
          obtain rfl := ex_ret hr38 hx14
          exact rt hr12 [] ⟨rfl, rfl⟩
        · exact sk k51 rfl <| TC.region <| tm rfl <| tv (bad rfl rfl) rfl <| ta rfl <| nl <| gk hp [0, 1, 2] ⟨_, ovr_eq _ _ rfl, rfl⟩
      · exact TC.exit <| jn [0, 1, 2] (J45 (ex_ret hp hx40))
     refine lp hz28 [1, 2, 0] rfl (fun s e L => ∃ e26, e = ovr e26 [(2, .pointer (some ⟨b5, 0, none⟩)), (5, .pointer (some ⟨b16, 0, none⟩)), (7, .int .i64 x18), (8, .pointer (some ⟨b31, 0, none⟩)), (9, .int .i64 s)] ∧ L = [bx b5 24 [v2], bx b16 47 [.int .i64 x6.params, .int .i64 x6.result, v12, v14], bx b31 44 [v25, v27, .int .i64 x19.term.kind, .int .i64 x19.term.arg, v29]]) ⟨_, ovr_eq _ _ rfl, rfl⟩ ?_
     rintro x32 _ _ ⟨e26, rfl, rfl⟩ X30 hp hx31
     replace hp : fettleref02_Func.bd31 x6 x19 x32 = some X30 := hp
     refine TC.seq fun K61 k62 => sr <| tm rfl <| tv (fa f44_0 rfl) rfl <| tv (lb s41 2 rfl rfl rfl) rfl <| tv (ln u41 h26 rfl) rfl <| tv (blt rfl rfl) rfl <| nz <| cD rfl hp (fun hc63 hp => ?_) fun hc63 hp => ?_
     · refine sk k62 rfl <| TC.seq fun K64 k65 => TC.block <| sr <| tv (fa f44_0 rfl) rfl <| tv (lb s41 2 rfl rfl rfl) rfl <| tm rfl <| ti u41 i52 h26 hp rfl rfl rfl rfl ?_
       rintro x44 b45 o46 _ hp ⟨v50, rfl, h51⟩ h49
       refine tv (lR (ds := [.int .i64 x44.dst, v50]) ag_52 sH h49 0 rfl rfl rfl) rfl <| tl i52 rfl fun b52 => tS 0 m52 rfl rfl [.int .i64 x44.dst, v50] rfl (oc rfl (oc (h51).one oc0)) rfl rfl <| nz <| sr <| tv (lA (ds := [.int .i64 x6.params, .int .i64 x6.result, v12, v14]) ag_47 2 rfl rfl rfl rfl) rfl <| tv (fa f52_0 rfl) rfl <| tv (lb s3 0 rfl rfl rfl) rfl <| bE hp fun x53 hy67 hp => tc 0 [_,_,_,_] rfl c40 (fun _ => fettleref02_is_ok (a1 := x6) (a6 := x44.dst) (a7 := -1) (h13.mono subH) (h15.mono subH) hy67) rfl ?_
       rintro _ _ ⟨rfl, rfl⟩
       refine ta rfl <| nz <| TC.seq fun K69 k70 => sr <| ta rfl <| nz <| TC.block <| bE hp fun z_72 hz73 hr74 => ?_
       have J105 {x56 e77} (hq106 : x56 = z_72) : ∀ w, St E H [bx b5 24 [v2], bx b16 47 [.int .i64 x6.params, .int .i64 x6.result, v12, v14], bx b31 44 [v25, v27, .int .i64 x19.term.kind, .int .i64 x19.term.arg, v29], bx b52 52 [.int .i64 x44.dst, v50]] w → K69 (ovr e77 [(2, .pointer (some ⟨b5, 0, none⟩)), (5, .pointer (some ⟨b16, 0, none⟩)), (6, .int .i64 x56), (7, .int .i64 x18), (8, .pointer (some ⟨b31, 0, none⟩)), (9, .int .i64 x32), (10, .pointer (some ⟨b52, 0, none⟩))]) w := by
        subst hq106
        replace hp : fettleref02_Func.nx76 x6 x32 x44 x56 = some X30 := hr74
        refine tg k70 <| TC.seq fun K78 k79 => sr <| ta rfl <| nz <| TC.block <| bE hp fun z_81 hz82 hr83 => ?_
        have J88 {x59 e86} (hq89 : x59 = z_81) : ∀ w, St E H [bx b5 24 [v2], bx b16 47 [.int .i64 x6.params, .int .i64 x6.result, v12, v14], bx b31 44 [v25, v27, .int .i64 x19.term.kind, .int .i64 x19.term.arg, v29]] w → K78 (ovr e86 [(2, .pointer (some ⟨b5, 0, none⟩)), (5, .pointer (some ⟨b16, 0, none⟩)), (6, .int .i64 x59), (7, .int .i64 x18), (8, .pointer (some ⟨b31, 0, none⟩)), (9, .int .i64 x32)]) w := by
         subst hq89
         replace hp : fettleref02_Func.nx85 x32 x59 = some X30 := hr83
         refine tg k79 <| sr <| tm rfl <| tv (bne rfl rfl) rfl <| nz <| cD rfl hp (fun hc87 hp => ?_) fun hc87 hp => ?_
         · refine sr <| tm rfl <| ta rfl <| nz <| TC.ret ?_
           obtain rfl := ex_ret hp hx31
           obtain rfl := ex_ret hr29 hx14
           exact rt hr12 [] ⟨rfl, rfl⟩
         · exact sk k65 rfl <| TC.region <| tm rfl <| tv (bad rfl rfl) rfl <| ta rfl <| nl <| gk hp [0, 1, 2] ⟨_, ovr_eq _ _ rfl, rfl⟩
        refine lp hz82 [0, 1, 2, 3] rfl (fun s e L => ∃ x57 x58 e80, s = (x57, x58) ∧ e = ovr e80 [(2, .pointer (some ⟨b5, 0, none⟩)), (5, .pointer (some ⟨b16, 0, none⟩)), (6, .int .i64 x57), (7, .int .i64 x18), (8, .pointer (some ⟨b31, 0, none⟩)), (9, .int .i64 x32), (10, .pointer (some ⟨b52, 0, none⟩)), (12, .int .i64 x58)] ∧ L = [bx b5 24 [v2], bx b16 47 [.int .i64 x6.params, .int .i64 x6.result, v12, v14], bx b31 44 [v25, v27, .int .i64 x19.term.kind, .int .i64 x19.term.arg, v29], bx b52 52 [.int .i64 x44.dst, v50]]) ⟨_, _, _, rfl, ovr_eq _ _ rfl, rfl⟩ ?_
        rintro _ _ _ ⟨x57, x58, e80, rfl, rfl, rfl⟩ X84 hp hx85
        replace hp : fettleref02_Func.bd85 x6 x44 x57 x58 = some X84 := hp
        refine TC.seq fun K90 k91 => sr <| tm rfl <| tv (fa f52_1 rfl) rfl <| tv (lb s38 3 rfl rfl rfl) rfl <| tv (ln u38 h51 rfl) rfl <| tv (blt rfl rfl) rfl <| tm rfl <| TL.cut 3 fun K92 k93 => ?_
        have J94 {e96} : ∀ w, St E H [bx b5 24 [v2], bx b16 47 [.int .i64 x6.params, .int .i64 x6.result, v12, v14], bx b31 44 [v25, v27, .int .i64 x19.term.kind, .int .i64 x19.term.arg, v29], bx b52 52 [.int .i64 x44.dst, v50]] w → K92 (ovr e96 [(76, .bool (decide (x58 < (len x44.args) ∧ x57 = 0))), (2, .pointer (some ⟨b5, 0, none⟩)), (5, .pointer (some ⟨b16, 0, none⟩)), (6, .int .i64 x57), (7, .int .i64 x18), (8, .pointer (some ⟨b31, 0, none⟩)), (9, .int .i64 x32), (10, .pointer (some ⟨b52, 0, none⟩)), (12, .int .i64 x58)]) w := by
         refine tlg k93 <| nz <| cD rfl hp (fun hc97 hp => ?_) fun hc97 hp => ?_
         · refine sk k91 rfl <| TC.seq fun K98 k99 => TC.block <| cq mix (by kernel_rfl) <| qv (lA (ds := [.int .i64 x6.params, .int .i64 x6.result, v12, v14]) ag_47 1 rfl rfl rfl rfl) rfl <| qv (fa f52_1 rfl) rfl <| qv (lb s38 3 rfl rfl rfl) rfl <| qv mv rfl <| qi u38 i3 h51 hp rfl rfl rfl rfl ?_
           rintro x60 b61 o62 _ hp rfl h65
           refine qv (lr s3 sH h65 0 rfl rfl) rfl <| qv (fa f47_2 rfl) rfl <| qv (lb s38 1 rfl rfl rfl) rfl <| qv (fa f52_0 rfl) rfl <| qv (lb s3 3 rfl rfl rfl) rfl <| qi u38 i3 h13 hp rfl rfl rfl rfl ?_
           rintro x66 b67 o68 _ hp rfl h71
           exact qv (lr s3 sH h71 0 rfl rfl) rfl <| bE hp fun x72 hy102 hp => qc (.int .i64 x72) c40 (fun _ => fettleref02_is_ok (a1 := x6) (a6 := x60) (a7 := x66) (h13.mono subH) (h15.mono subH) hy102) (fun _ _ h => ⟨h.1.symm, h.2⟩) rfl <| qv sg rfl <| QL.nil <| tg k99 <| TC.region <| tm rfl <| tv (bad rfl rfl) rfl <| ta rfl <| nl <| gk hp [0, 1, 2, 3] ⟨_, _, _, rfl, ovr_eq _ _ rfl, rfl⟩
         · exact TC.exit <| jn [0, 1, 2] (J88 (ex_ret hp hx85))
        by_cases hc95 : x58 < (len x44.args)
        · exact gy rfl (bT hc95) <| tm rfl <| gy rfl (bT hc95) <| tv (beq rfl rfl) rfl <| tv (pT (bT hc95)) rfl <| nj J94 (bAt hc95)
        · exact gn rfl (bF hc95) rfl rfl <| gn rfl (bF hc95) rfl rfl <| tv (pF (bF hc95)) rfl <| nj J94 (bAf hc95)
       refine lp hz73 [1, 2, 3, 0] rfl (fun s e L => ∃ x54 x55 e71, s = (x54, x55) ∧ e = ovr e71 [(2, .pointer (some ⟨b5, 0, none⟩)), (5, .pointer (some ⟨b16, 0, none⟩)), (6, .int .i64 x54), (7, .int .i64 x18), (8, .pointer (some ⟨b31, 0, none⟩)), (9, .int .i64 x32), (10, .pointer (some ⟨b52, 0, none⟩)), (11, .int .i64 x55)] ∧ L = [bx b5 24 [v2], bx b16 47 [.int .i64 x6.params, .int .i64 x6.result, v12, v14], bx b31 44 [v25, v27, .int .i64 x19.term.kind, .int .i64 x19.term.arg, v29], bx b52 52 [.int .i64 x44.dst, v50]]) ⟨_, _, _, rfl, ovr_eq _ _ rfl, rfl⟩ ?_
       rintro _ _ _ ⟨x54, x55, e71, rfl, rfl, rfl⟩ X75 hp hx76
       replace hp : fettleref02_Func.bd76 x6 x44 x54 x55 = some X75 := hp
       refine TC.seq fun K107 k108 => sr <| tm rfl <| tv (fa f52_1 rfl) rfl <| tv (lb s38 3 rfl rfl rfl) rfl <| tv (ln u38 h51 rfl) rfl <| tv (blt rfl rfl) rfl <| nz <| cD rfl hp (fun hc109 hp => ?_) fun hc109 hp => ?_
       · refine sk k108 rfl <| TC.seq fun K110 k111 => TC.block <| cq mix (by kernel_rfl) <| qv mv rfl <| qv (lA (ds := [.int .i64 x6.params, .int .i64 x6.result, v12, v14]) ag_47 1 rfl rfl rfl rfl) rfl <| qv (fa f52_1 rfl) rfl <| qv (lb s38 3 rfl rfl rfl) rfl <| qv mv rfl <| qi u38 i3 h51 hp rfl rfl rfl rfl ?_
         rintro x73 b74 o75 _ hp rfl h78
         exact qv (lr s3 sH h78 0 rfl rfl) rfl <| bE hp fun x79 hy113 hp => qc (.int .i64 x79) c40 (fun _ => fettleref02_is_ok (a1 := x6) (a6 := x73) (a7 := -1) (h13.mono subH) (h15.mono subH) hy113) (fun _ _ h => ⟨h.1.symm, h.2⟩) rfl <| bE hp fun x80 hy114 hp => qc (.int .i64 x80) c41 (fun _ => fettleref02_worst_ok (a1 := x54) (a2 := x79) hy114) (fun _ _ h => ⟨h.1.symm, h.2⟩) rfl <| qv sg rfl <| QL.nil <| tg k111 <| TC.region <| tm rfl <| tv (bad rfl rfl) rfl <| ta rfl <| nl <| gk hp [0, 1, 2, 3] ⟨_, _, _, rfl, ovr_eq _ _ rfl, rfl⟩
       · exact TC.exit <| jn [0, 1, 2, 3] (J105 (ex_ret hp hx76))
     · exact TC.exit <| jn [0, 1, 2] (J59 (ex_ret hp hx31))
   · exact TC.exit <| jn [] (J16 (ex_ret hp hx14))

/-! ### fettle/fettleref02.Module -/
abbrev fettleref02_Module.R (r : Int × Int) (v : Value) (A : List FP) : Prop := .tuple #[.int .i64 r.1, .int .i64 r.2] = v ∧ A = []
def fettleref02_Module.nx11  : Option (Int × Int) :=
  some (0, -1)
def fettleref02_Module.bd11 (a1 : PModule) (x5 : Int) : Option (Ex (Ex (Int × Int) Unit) Int) :=
  if x5 < (len a1.funcs) then
    (fettleref02_Func a1 x5).bind fun x6 =>
    if ¬ x6 = 0 then
      some (.ret (.ret (x6, x5)))
    else
      some (.go (w64 (x5 + 1)))
  else
    some (.ret (.go ()))
def fettleref02_Module (a1 : PModule) : Option (Int × Int) :=
  if (len a1.funcs) > 32 then
    some (5, -1)
  else
    (whl (fun (s : Int) => fettleref02_Module.bd11 a1 s) FUEL 0).bind fun z =>
    match z with
      | .ret r => some r
      | .go p => fettleref02_Module.nx11
theorem fettleref02_Module_ok {E : World} {H : FP} {w : World} {a1 : PModule} {v2 : Value} {r : Int × Int} (h3 : SlI kFunc H a1.funcs v2) (hp : fettleref02_Module a1 = some r) (hst : St E H [] w) :
    Fn Tryz.prog 8 #[.agg #[v2]] w fun v w' => ∃ A, fettleref02_Module.R r v A ∧ St E H A w' := by
 refine fb 24 [.tmp 2, .tmp 3] Tryz.func8 rfl rfl rfl rfl rfl hst <| sr <| tb [v2] rfl rfl fun b4 => ta rfl <| ta rfl <| nz <| TC.seq fun K1 k2 => sr <| tv (fa f24_0 rfl) rfl <| tv (lb s22 0 rfl rfl rfl) rfl <| tv (ln u22 h3 rfl) rfl <| tv (bgt rfl rfl) rfl <| nz <| cD rfl hp (fun hc3 hp => ?_) fun hc3 hp => ?_
 · exact sr <| ta rfl <| ta rfl <| nz <| TC.ret <| rt hp [] ⟨rfl, rfl⟩
 · refine sk k2 rfl <| TC.seq fun K4 k5 => sr <| ta rfl <| nz <| TC.block <| bE hp fun z_7 hz8 hr9 => ?_
   have J13 {e12} (hq14 : .go () = z_7) : ∀ w, St E H [] w → K4 (ovr e12 []) w := by
    subst hq14
    replace hp : fettleref02_Module.nx11 = some r := hr9
    exact tg k5 <| sr <| ta rfl <| ta rfl <| nz <| TC.ret <| rt hp [] ⟨rfl, rfl⟩
   refine lp hz8 [0] rfl (fun s e L => ∃ e6, e = ovr e6 [(1, .pointer (some ⟨b4, 0, none⟩)), (4, .int .i64 s)] ∧ L = [bx b4 24 [v2]]) ⟨_, ovr_eq _ _ rfl, rfl⟩ ?_
   rintro x5 _ _ ⟨e6, rfl, rfl⟩ X10 hp hx11
   replace hp : fettleref02_Module.bd11 a1 x5 = some X10 := hp
   refine TC.seq fun K15 k16 => sr <| tm rfl <| tv (fa f24_0 rfl) rfl <| tv (lb s22 0 rfl rfl rfl) rfl <| tv (ln u22 h3 rfl) rfl <| tv (blt rfl rfl) rfl <| nz <| cD rfl hp (fun hc17 hp => ?_) fun hc17 hp => ?_
   · refine sk k16 rfl <| TC.seq fun K18 k19 => TC.block <| sr <| tv (lA (ds := [v2]) ag_24 0 rfl rfl rfl rfl) rfl <| tm rfl <| bE hp fun x6 hy20 hp => tc 0 [_] rfl c20 (fun _ => fettleref02_Func_ok (a1 := a1) (a4 := x5) (h3.mono subH) hy20) rfl ?_
     rintro _ _ ⟨rfl, rfl⟩
     refine ta rfl <| nz <| sr <| tm rfl <| tv (bne rfl rfl) rfl <| nz <| cD rfl hp (fun hc22 hp => ?_) fun hc22 hp => ?_
     · refine sr <| tm rfl <| tm rfl <| ta rfl <| ta rfl <| nz <| TC.ret ?_
       obtain rfl := ex_ret hp hx11
       exact rt hr9 [] ⟨rfl, rfl⟩
     · exact sk k19 rfl <| TC.region <| tm rfl <| tv (bad rfl rfl) rfl <| ta rfl <| nl <| gk hp [0] ⟨_, ovr_eq _ _ rfl, rfl⟩
   · exact TC.exit <| jn [] (J13 (ex_ret hp hx11))
end Go.Proofs.YtpomfbdbkejedaaGreatDoor
