/- The walk through the program's functions: each one's pure reading, and that a call does what it says. No conditions. -/
import Derived.Test.YteaknconpkklhaaDoorV13
set_option linter.unusedVariables false
set_option linter.unusedSimpArgs false
namespace Go.Proofs.YteaknconpkklhaaDoor
open Go Go.Proofs
/-! ### fettle/fettlelaw13.ProperForms -/
abbrev fettlelaw13_ProperForms.R (r : Bool) (v : Value) (A : List FP) : Prop := .bool r = v ∧ A = []
def fettlelaw13_ProperForms (a1 : PModule) (a4 : Int) : Option Bool :=
  (fettlelaw13_up).bind fun x6 =>
  (fettleref02_Small a1).bind fun x7 =>
  if (!x7) = true then
    some x6
  else
    (proper_Form a1 a4).bind fun x8 =>
    (fettlelaw00_Of x8).bind fun x12 =>
    (fettleref02_Module a1).bind fun x13 =>
    if ¬ x13.1 = 0 then
      some (decide ((x6 = true ∧ x12.1 = x13.1) ∧ x12.2 = x13.2))
    else
      if a4 < 0 ∨ a4 ≥ (len a1.funcs) then
        some (decide (x6 = true ∧ x8 = (GErr.code 1)))
      else
        (idx a1.funcs a4).bind fun x14 =>
        (fettleref13_Form x14).bind fun x24 =>
        some (decide ((x6 = true ∧ x12.1 = x24.1) ∧ x12.2 = x24.2))
set_option maxHeartbeats 4000000 in
theorem fettlelaw13_ProperForms_ok {E : World} {H : FP} {w : World} {a1 : PModule} {a4 : Int} {v2 : Value} {r : Bool} (hG : GV H) (h3 : SlI kFunc H a1.funcs v2) (hp : fettlelaw13_ProperForms a1 a4 = some r) (hst : St E H [] w) :
    Fn Tryd.prog 4 #[.agg #[v2], .int .i64 a4] w fun v w' => ∃ A, fettlelaw13_ProperForms.R r v A ∧ St E H A w' := by
 refine fb 79 [.tmp 4] Tryd.func4 rfl rfl rfl rfl rfl hst <| sr <| tb [v2] rfl rfl fun b5 => ta rfl <| nz <| sr <| bE hp fun x6 hy1 hp => tc 0 [_] rfl c14 (fun _ => fettlelaw13_up_ok hy1) rfl ?_
 rintro _ _ ⟨rfl, rfl⟩
 refine ta rfl <| nz <| sr <| tv (lA (ds := [v2]) ag_24 0 rfl rfl rfl rfl) rfl <| bE hp fun x7 hy3 hp => tc 0 [_] rfl c7 (fun _ => fettleref02_Small_ok (a1 := a1) (h3.mono subH) hy3) rfl ?_
 rintro _ _ ⟨rfl, rfl⟩
 refine ta rfl <| nz <| TC.seq fun K5 k6 => sr <| tm rfl <| tv (rv_not rfl) rfl <| nz <| cB rfl hp (fun hc7 hp => ?_) fun hc7 hp => ?_
 · exact sr <| tm rfl <| ta rfl <| nz <| TC.ret <| rt hp [] ⟨rfl, rfl⟩
 · refine sk k6 rfl <| sr <| tv (lA (ds := [v2]) ag_24 0 rfl rfl rfl rfl) rfl <| tm rfl <| bE hp fun x8 hy8 hp => tc 0 [_] rfl c15 (fun _ => proper_Form_ok (a1 := a1) (a4 := a4) (h3.mono subH) hy8) rfl ?_
   rintro _ _ ⟨v9, F10, rfl, rfl, h11⟩
   refine ta rfl <| nz <| sr <| tm rfl <| bE hp fun x12 hy10 hp => tc 0 [_,_] rfl c10 (fun _ => fettlelaw00_Of_ok (x := x8) (hG.more _) (subB 0 rfl) h11 hy10) rfl ?_
   rintro _ _ ⟨rfl, rfl⟩
   refine tm rfl <| tv (xt rfl rfl) rfl <| tv (xt rfl rfl) rfl <| ta rfl <| ta rfl <| nz <| sr <| tv (lA (ds := [v2]) ag_24 1 rfl rfl rfl rfl) rfl <| bE hp fun x13 hy12 hp => tc 0 [_,_] rfl c11 (fun _ => fettleref02_Module_ok (a1 := a1) (h3.mono subH) hy12) rfl ?_
   rintro _ _ ⟨rfl, rfl⟩
   refine tm rfl <| tv (xt rfl rfl) rfl <| tv (xt rfl rfl) rfl <| ta rfl <| ta rfl <| nz <| TC.seq fun K14 k15 => sr <| tm rfl <| tv (bne rfl rfl) rfl <| nz <| cD rfl hp (fun hc16 hp => ?_) fun hc16 hp => ?_
   · refine sr <| tm rfl <| tm rfl <| TL.cut 4 fun K17 k18 => ?_
     have J19 {e21} : ∀ w, St E H [F10, bx b5 24 [v2]] w → K17 (ovr e21 [(38, .bool (decide (x6 = true ∧ x12.1 = x13.1))), (9, .int .i64 x12.2), (11, .int .i64 x13.2)]) w := by
      refine tlg k18 <| tm rfl <| TL.cut 4 fun K22 k23 => ?_
      have J24 {e26} : ∀ w, St E H [F10, bx b5 24 [v2]] w → K22 (ovr e26 [(43, .bool (decide ((x6 = true ∧ x12.1 = x13.1) ∧ x12.2 = x13.2)))]) w := by
       exact tlg k23 <| ta rfl <| nz <| TC.ret <| rt hp [] ⟨rfl, rfl⟩
      by_cases hc25 : x6 = true ∧ x12.1 = x13.1
      · exact gy rfl (bT hc25) <| tm rfl <| gy rfl (bT hc25) <| tm rfl <| gy rfl (bT hc25) <| tv (beq rfl rfl) rfl <| tv (pT (bT hc25)) rfl <| nj J24 (bAt hc25)
      · exact gn rfl (bF hc25) rfl rfl <| gn rfl (bF hc25) rfl rfl <| gn rfl (bF hc25) rfl rfl <| tv (pF (bF hc25)) rfl <| nj J24 (bAf hc25)
     by_cases hc20 : x6 = true
     · exact gy rfl (bbT hc20) <| tm rfl <| gy rfl (bbT hc20) <| tm rfl <| gy rfl (bbT hc20) <| tv (beq rfl rfl) rfl <| tv (pT (bbT hc20)) rfl <| nj J19 (bAt hc20)
     · exact gn rfl (bbF hc20) rfl rfl <| gn rfl (bbF hc20) rfl rfl <| gn rfl (bbF hc20) rfl rfl <| tv (pF (bbF hc20)) rfl <| nj J19 (bAf hc20)
   · refine sk k15 rfl <| TC.seq fun K27 k28 => sr <| tm rfl <| tv (blt rfl rfl) rfl <| tm rfl <| TL.cut 6 fun K29 k30 => ?_
     have J31 {e33} : ∀ w, St E H [F10, bx b5 24 [v2]] w → K29 (ovr e33 [(52, .bool (decide (a4 < 0 ∨ a4 ≥ (len a1.funcs)))), (1, .int .i64 a4), (2, .pointer (some ⟨b5, 0, none⟩)), (5, .bool x6), (7, v9), (8, .int .i64 x12.1), (9, .int .i64 x12.2)]) w := by
      refine tlg k30 <| nz <| cD rfl hp (fun hc34 hp => ?_) fun hc34 hp => ?_
      · refine sr <| tm rfl <| tm rfl <| TL.cut 4 fun K35 k36 => ?_
        have J37 {e39} : ∀ w, St E H [F10, bx b5 24 [v2]] w → K35 (ovr e39 [(58, .bool (decide (x6 = true ∧ x8 = (GErr.code 1))))]) w := by
         exact tlg k36 <| ta rfl <| nz <| TC.ret <| rt hp [] ⟨rfl, rfl⟩
        by_cases hc38 : x6 = true
        · exact gy rfl (bbT hc38) <| tm rfl <| gy rfl (bbT hc38) <| tv (mI u38 rfl) rfl <| gy rfl (bbT hc38) <| tv (rv_eqlEC ifc_29 cmp_38 Tryd.underlying38 Tryd.underlying69 (by decide) h11 rfl rfl) rfl <| tv (pT (bbT hc38)) rfl <| nj J37 (bAt hc38)
        · exact gn rfl (bbF hc38) rfl rfl <| gn rfl (bbF hc38) rfl rfl <| gn rfl (bbF hc38) rfl rfl <| tv (pF (bbF hc38)) rfl <| nj J37 (bAf hc38)
      · refine sk k28 rfl <| sr <| tv (fa f24_0 rfl) rfl <| tv (lb s22 1 rfl rfl rfl) rfl <| tm rfl <| ti u22 i41 h3 hp rfl rfl rfl rfl ?_
        rintro x14 b15 o16 _ hp ⟨v20, v22, rfl, h21, h23⟩ h19
        refine tv (lR (ds := [.int .i64 x14.params, .int .i64 x14.result, v20, v22]) ag_41 sH h19 0 rfl rfl rfl) rfl <| bE hp fun x24 hy41 hp => tc 0 [_,_] rfl c16 (fun _ => fettleref13_Form_ok (a1 := x14) (h21.mono subH) (h23.mono subH) hy41) rfl ?_
        rintro _ _ ⟨rfl, rfl⟩
        refine tm rfl <| tv (xt rfl rfl) rfl <| tv (xt rfl rfl) rfl <| ta rfl <| ta rfl <| nz <| sr <| tm rfl <| tm rfl <| TL.cut 4 fun K43 k44 => ?_
        have J45 {e47} : ∀ w, St E H [F10, bx b5 24 [v2]] w → K43 (ovr e47 [(73, .bool (decide (x6 = true ∧ x12.1 = x24.1))), (9, .int .i64 x12.2), (11, .int .i64 x24.2)]) w := by
         refine tlg k44 <| tm rfl <| TL.cut 4 fun K48 k49 => ?_
         have J50 {e52} : ∀ w, St E H [F10, bx b5 24 [v2]] w → K48 (ovr e52 [(78, .bool (decide ((x6 = true ∧ x12.1 = x24.1) ∧ x12.2 = x24.2)))]) w := by
          exact tlg k49 <| ta rfl <| nz <| TC.ret <| rt hp [] ⟨rfl, rfl⟩
         by_cases hc51 : x6 = true ∧ x12.1 = x24.1
         · exact gy rfl (bT hc51) <| tm rfl <| gy rfl (bT hc51) <| tm rfl <| gy rfl (bT hc51) <| tv (beq rfl rfl) rfl <| tv (pT (bT hc51)) rfl <| nj J50 (bAt hc51)
         · exact gn rfl (bF hc51) rfl rfl <| gn rfl (bF hc51) rfl rfl <| gn rfl (bF hc51) rfl rfl <| tv (pF (bF hc51)) rfl <| nj J50 (bAf hc51)
        by_cases hc46 : x6 = true
        · exact gy rfl (bbT hc46) <| tm rfl <| gy rfl (bbT hc46) <| tm rfl <| gy rfl (bbT hc46) <| tv (beq rfl rfl) rfl <| tv (pT (bbT hc46)) rfl <| nj J45 (bAt hc46)
        · exact gn rfl (bbF hc46) rfl rfl <| gn rfl (bbF hc46) rfl rfl <| gn rfl (bbF hc46) rfl rfl <| tv (pF (bbF hc46)) rfl <| nj J45 (bAf hc46)
     by_cases hc32 : a4 < 0
     · exact gn rfl (bT hc32) rfl rfl <| gn rfl (bT hc32) rfl rfl <| gn rfl (bT hc32) rfl rfl <| gn rfl (bT hc32) rfl rfl <| gn rfl (bT hc32) rfl rfl <| tv (pT (bT hc32)) rfl <| nj J31 (bOt hc32)
     · exact gy rfl (bF hc32) <| tm rfl <| gy rfl (bF hc32) <| tv (fa f24_0 rfl) rfl <| gy rfl (bF hc32) <| tv (lb s22 1 rfl rfl rfl) rfl <| gy rfl (bF hc32) <| tv (ln u22 h3 rfl) rfl <| gy rfl (bF hc32) <| tv (bge rfl rfl) rfl <| tv (pF (bF hc32)) rfl <| nj J31 (bOf hc32)
/-! ### fettle/fettleref02.CopyFunc -/
abbrev fettleref02_CopyFunc.R (r : PFunc) (v : Value) (A : List FP) : Prop := ∃ (w1 : Value) (G1 : FP) (w2 : Value) (G2 : FP), .agg #[.int .i64 r.params, .int .i64 r.result, w1, w2] = v ∧ A = [G1, G2] ∧ SlO 3 (kInt .i64) r.regs w1 G1 ∧ SlO 60 kBlock r.blocks w2 G2
def fettleref02_CopyFunc.nx12 (a1 : PFunc) (x9 : List Int) (x18 : List PBlock) : Option PFunc :=
  some (⟨a1.params, a1.result, x9, x18⟩ : PFunc)
def fettleref02_CopyFunc.nx42 (x13 : List PBlock) (x17 : Int) (x22 : PBlock) (x36 : List Int) (x45 : List PPhi) (x54 : List PInstr) : Option (Ex (List PBlock) (List PBlock × Int)) :=
  (cat x13 [(⟨x45, x54, (⟨x22.term.kind, x22.term.arg, x36⟩ : PTerm)⟩ : PBlock)]).bind fun x59 =>
  some (.go (x59, (w64 (x17 + 1))))
def fettleref02_CopyFunc.bd42 (x22 : PBlock) (x49 : List PInstr) (x53 : Int) : Option (Ex (List PInstr) (List PInstr × Int)) :=
  if x53 < (len x22.ins) then
    (idx x22.ins x53).bind fun x63 =>
    (cat ([] : List Int) x63.args).bind fun x73 =>
    (cat x49 [(⟨x63.op, x63.dst, x73, x63.imm, x63.fn⟩ : PInstr)]).bind fun x78 =>
    some (.go (x78, (w64 (x53 + 1))))
  else
    some (.ret x49)
def fettleref02_CopyFunc.nx33 (x13 : List PBlock) (x17 : Int) (x22 : PBlock) (x36 : List Int) (x45 : List PPhi) : Option (Ex (List PBlock) (List PBlock × Int)) :=
  (whl (fun (s : (List PInstr × Int)) => fettleref02_CopyFunc.bd42 x22 s.1 s.2) FUEL (([] : List PInstr), 0)).bind fun z =>
  fettleref02_CopyFunc.nx42 x13 x17 x22 x36 x45 z
def fettleref02_CopyFunc.jn65 (x44 : Int) (x83 : List PPhi) : Option (Ex (List PPhi) (List PPhi × Int)) :=
  some (.go (x83, (w64 (x44 + 1))))
def fettleref02_CopyFunc.bd33 (x22 : PBlock) (x40 : List PPhi) (x44 : Int) : Option (Ex (List PPhi) (List PPhi × Int)) :=
  if x44 < (len x22.phis) then
    (idx x22.phis x44).bind fun x2088 =>
    (idx x22.phis x44).bind fun x4888 =>
    (cat ([] : List Int) x4888.args).bind fun x6088 =>
    (cat x40 [(⟨x2088.dst, x6088⟩ : PPhi)]).bind fun x7288 =>
    fettleref02_CopyFunc.jn65 x44 x7288
  else
    some (.ret x40)
def fettleref02_CopyFunc.jn25 (x13 : List PBlock) (x17 : Int) (x22 : PBlock) (x36 : List Int) : Option (Ex (List PBlock) (List PBlock × Int)) :=
  (whl (fun (s : (List PPhi × Int)) => fettleref02_CopyFunc.bd33 x22 s.1 s.2) FUEL (([] : List PPhi), 0)).bind fun z =>
  fettleref02_CopyFunc.nx33 x13 x17 x22 x36 z
def fettleref02_CopyFunc.bd12 (a1 : PFunc) (x13 : List PBlock) (x17 : Int) : Option (Ex (List PBlock) (List PBlock × Int)) :=
  if x17 < (len a1.blocks) then
    (idx a1.blocks x17).bind fun x22 =>
    (cat ([] : List Int) x22.term.to).bind fun x12490 =>
    fettleref02_CopyFunc.jn25 x13 x17 x22 x12490
  else
    some (.ret x13)
def fettleref02_CopyFunc.jn4 (a1 : PFunc) (x9 : List Int) : Option PFunc :=
  (whl (fun (s : (List PBlock × Int)) => fettleref02_CopyFunc.bd12 a1 s.1 s.2) FUEL (([] : List PBlock), 0)).bind fun z =>
  fettleref02_CopyFunc.nx12 a1 x9 z
def fettleref02_CopyFunc (a1 : PFunc) : Option PFunc :=
  (cat ([] : List Int) a1.regs).bind fun x17292 =>
  fettleref02_CopyFunc.jn4 a1 x17292
/-! ### fettle/fettleref02.Copy -/
abbrev fettleref02_Copy.R (r : PModule) (v : Value) (A : List FP) : Prop := ∃ (w1 : Value) (G1 : FP), .agg #[w1] = v ∧ A = [G1] ∧ SlO 41 kFunc r.funcs w1 G1
def fettleref02_Copy.nx8  (x12 : List PFunc) : Option PModule :=
  some (⟨x12⟩ : PModule)
def fettleref02_Copy.jn18 (x11 : Int) (x16 : List PFunc) : Option (Ex (List PFunc) (List PFunc × Int)) :=
  some (.go (x16, (w64 (x11 + 1))))
def fettleref02_Copy.bd8 (a1 : PModule) (x7 : List PFunc) (x11 : Int) : Option (Ex (List PFunc) (List PFunc × Int)) :=
  if x11 < (len a1.funcs) then
    (idx a1.funcs x11).bind fun x2021 =>
    (fettleref02_CopyFunc x2021).bind fun x2821 =>
    (cat x7 [x2821]).bind fun x3621 =>
    fettleref02_Copy.jn18 x11 x3621
  else
    some (.ret x7)
def fettleref02_Copy (a1 : PModule) : Option PModule :=
  (whl (fun (s : (List PFunc × Int)) => fettleref02_Copy.bd8 a1 s.1 s.2) FUEL (([] : List PFunc), 0)).bind fun z =>
  fettleref02_Copy.nx8 z
/-! ### fettle/fettleref02.ints -/
abbrev fettleref02_ints.R (r : Bool) (v : Value) (A : List FP) : Prop := .bool r = v ∧ A = []
def fettleref02_ints.nx11  : Option Bool :=
  some true
def fettleref02_ints.bd11 (a1 : List Int) (a4 : List Int) (x7 : Int) : Option (Ex (Ex Bool Unit) Int) :=
  if x7 < (len a1) then
    (idx a1 x7).bind fun x8 =>
    (idx a4 x7).bind fun x14 =>
    if ¬ x8 = x14 then
      some (.ret (.ret false))
    else
      some (.go (w64 (x7 + 1)))
  else
    some (.ret (.go ()))
def fettleref02_ints (a1 : List Int) (a4 : List Int) : Option Bool :=
  if ¬ (len a1) = (len a4) then
    some false
  else
    (whl (fun (s : Int) => fettleref02_ints.bd11 a1 a4 s) FUEL 0).bind fun z =>
    match z with
      | .ret r => some r
      | .go p => fettleref02_ints.nx11
end Go.Proofs.YteaknconpkklhaaDoor
