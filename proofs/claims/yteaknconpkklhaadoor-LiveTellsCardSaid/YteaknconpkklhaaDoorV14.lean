/- The walk through the program's functions: each one's pure reading, and that a call does what it says. No conditions. -/
import Derived.Test.YteaknconpkklhaaDoorV13
set_option linter.unusedVariables false
set_option linter.unusedSimpArgs false
namespace Go.Proofs.YteaknconpkklhaaDoor
open Go Go.Proofs
/-! ### fettle/fettlelaw13.ProperForms -/
abbrev fettlelaw13_ProperForms.R (r : Bool) (v : Value) (A : List FP) : Prop := .bool r = v ∧ A = []
def fettlelaw13_ProperForms (a1 : PModule) (a4 : Int) : Option Bool :=
  (fettlelaw13_up).bind fun x6 =>
  (fettleref02_Small a1).bind fun x7 =>
  if (!x7) = true then
    some x6
  else
    (proper_Form a1 a4).bind fun x8 =>
    (fettlelaw00_Of x8).bind fun x12 =>
    (fettleref02_Module a1).bind fun x13 =>
    if ¬ x13.1 = 0 then
      some (decide ((x6 = true ∧ x12.1 = x13.1) ∧ x12.2 = x13.2))
    else
      if a4 < 0 ∨ a4 ≥ (len a1.funcs) then
        some (decide (x6 = true ∧ x8 = (GErr.code 1)))
      else
        (idx a1.funcs a4).bind fun x14 =>
        (fettleref13_Form x14).bind fun x24 =>
        some (decide ((x6 = true ∧ x12.1 = x24.1) ∧ x12.2 = x24.2))
/-! ### fettle/fettleref02.CopyFunc -/
abbrev fettleref02_CopyFunc.R (r : PFunc) (v : Value) (A : List FP) : Prop := ∃ (w1 : Value) (G1 : FP) (w2 : Value) (G2 : FP), .agg #[.int .i64 r.params, .int .i64 r.result, w1, w2] = v ∧ A = [G1, G2] ∧ SlO 3 (kInt .i64) r.regs w1 G1 ∧ SlO 60 kBlock r.blocks w2 G2
def fettleref02_CopyFunc.nx12 (a1 : PFunc) (x9 : List Int) (x18 : List PBlock) : Option PFunc :=
  some (⟨a1.params, a1.result, x9, x18⟩ : PFunc)
def fettleref02_CopyFunc.nx42 (x13 : List PBlock) (x17 : Int) (x22 : PBlock) (x36 : List Int) (x45 : List PPhi) (x54 : List PInstr) : Option (Ex (List PBlock) (List PBlock × Int)) :=
  (cat x13 [(⟨x45, x54, (⟨x22.term.kind, x22.term.arg, x36⟩ : PTerm)⟩ : PBlock)]).bind fun x59 =>
  some (.go (x59, (w64 (x17 + 1))))
def fettleref02_CopyFunc.bd42 (x22 : PBlock) (x49 : List PInstr) (x53 : Int) : Option (Ex (List PInstr) (List PInstr × Int)) :=
  if x53 < (len x22.ins) then
    (idx x22.ins x53).bind fun x63 =>
    (cat ([] : List Int) x63.args).bind fun x73 =>
    (cat x49 [(⟨x63.op, x63.dst, x73, x63.imm, x63.fn⟩ : PInstr)]).bind fun x78 =>
    some (.go (x78, (w64 (x53 + 1))))
  else
    some (.ret x49)
def fettleref02_CopyFunc.nx33 (x13 : List PBlock) (x17 : Int) (x22 : PBlock) (x36 : List Int) (x45 : List PPhi) : Option (Ex (List PBlock) (List PBlock × Int)) :=
  (whl (fun (s : (List PInstr × Int)) => fettleref02_CopyFunc.bd42 x22 s.1 s.2) FUEL (([] : List PInstr), 0)).bind fun z =>
  fettleref02_CopyFunc.nx42 x13 x17 x22 x36 x45 z
def fettleref02_CopyFunc.jn65 (x44 : Int) (x83 : List PPhi) : Option (Ex (List PPhi) (List PPhi × Int)) :=
  some (.go (x83, (w64 (x44 + 1))))
def fettleref02_CopyFunc.bd33 (x22 : PBlock) (x40 : List PPhi) (x44 : Int) : Option (Ex (List PPhi) (List PPhi × Int)) :=
  if x44 < (len x22.phis) then
    (idx x22.phis x44).bind fun x2088 =>
    (idx x22.phis x44).bind fun x4888 =>
    (cat ([] : List Int) x4888.args).bind fun x6088 =>
    (cat x40 [(⟨x2088.dst, x6088⟩ : PPhi)]).bind fun x7288 =>
    fettleref02_CopyFunc.jn65 x44 x7288
  else
    some (.ret x40)
def fettleref02_CopyFunc.jn25 (x13 : List PBlock) (x17 : Int) (x22 : PBlock) (x36 : List Int) : Option (Ex (List PBlock) (List PBlock × Int)) :=
  (whl (fun (s : (List PPhi × Int)) => fettleref02_CopyFunc.bd33 x22 s.1 s.2) FUEL (([] : List PPhi), 0)).bind fun z =>
  fettleref02_CopyFunc.nx33 x13 x17 x22 x36 z
def fettleref02_CopyFunc.bd12 (a1 : PFunc) (x13 : List PBlock) (x17 : Int) : Option (Ex (List PBlock) (List PBlock × Int)) :=
  if x17 < (len a1.blocks) then
    (idx a1.blocks x17).bind fun x22 =>
    (cat ([] : List Int) x22.term.to).bind fun x12490 =>
    fettleref02_CopyFunc.jn25 x13 x17 x22 x12490
  else
    some (.ret x13)
def fettleref02_CopyFunc.jn4 (a1 : PFunc) (x9 : List Int) : Option PFunc :=
  (whl (fun (s : (List PBlock × Int)) => fettleref02_CopyFunc.bd12 a1 s.1 s.2) FUEL (([] : List PBlock), 0)).bind fun z =>
  fettleref02_CopyFunc.nx12 a1 x9 z
def fettleref02_CopyFunc (a1 : PFunc) : Option PFunc :=
  (cat ([] : List Int) a1.regs).bind fun x17292 =>
  fettleref02_CopyFunc.jn4 a1 x17292
/-! ### fettle/fettleref02.Copy -/
abbrev fettleref02_Copy.R (r : PModule) (v : Value) (A : List FP) : Prop := ∃ (w1 : Value) (G1 : FP), .agg #[w1] = v ∧ A = [G1] ∧ SlO 41 kFunc r.funcs w1 G1
def fettleref02_Copy.nx8  (x12 : List PFunc) : Option PModule :=
  some (⟨x12⟩ : PModule)
def fettleref02_Copy.jn18 (x11 : Int) (x16 : List PFunc) : Option (Ex (List PFunc) (List PFunc × Int)) :=
  some (.go (x16, (w64 (x11 + 1))))
def fettleref02_Copy.bd8 (a1 : PModule) (x7 : List PFunc) (x11 : Int) : Option (Ex (List PFunc) (List PFunc × Int)) :=
  if x11 < (len a1.funcs) then
    (idx a1.funcs x11).bind fun x2021 =>
    (fettleref02_CopyFunc x2021).bind fun x2821 =>
    (cat x7 [x2821]).bind fun x3621 =>
    fettleref02_Copy.jn18 x11 x3621
  else
    some (.ret x7)
def fettleref02_Copy (a1 : PModule) : Option PModule :=
  (whl (fun (s : (List PFunc × Int)) => fettleref02_Copy.bd8 a1 s.1 s.2) FUEL (([] : List PFunc), 0)).bind fun z =>
  fettleref02_Copy.nx8 z
/-! ### fettle/fettleref02.ints -/
abbrev fettleref02_ints.R (r : Bool) (v : Value) (A : List FP) : Prop := .bool r = v ∧ A = []
def fettleref02_ints.nx11  : Option Bool :=
  some true
def fettleref02_ints.bd11 (a1 : List Int) (a4 : List Int) (x7 : Int) : Option (Ex (Ex Bool Unit) Int) :=
  if x7 < (len a1) then
    (idx a1 x7).bind fun x8 =>
    (idx a4 x7).bind fun x14 =>
    if ¬ x8 = x14 then
      some (.ret (.ret false))
    else
      some (.go (w64 (x7 + 1)))
  else
    some (.ret (.go ()))
def fettleref02_ints (a1 : List Int) (a4 : List Int) : Option Bool :=
  if ¬ (len a1) = (len a4) then
    some false
  else
    (whl (fun (s : Int) => fettleref02_ints.bd11 a1 a4 s) FUEL 0).bind fun z =>
    match z with
      | .ret r => some r
      | .go p => fettleref02_ints.nx11
end Go.Proofs.YteaknconpkklhaaDoor
