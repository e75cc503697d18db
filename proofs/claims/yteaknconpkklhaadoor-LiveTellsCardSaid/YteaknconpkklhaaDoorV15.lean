/- The walk through the program's functions: each one's pure reading, and that a call does what it says. No conditions. -/
import Derived.Test.YteaknconpkklhaaDoorV14
set_option linter.unusedVariables false
set_option linter.unusedSimpArgs false
namespace Go.Proofs.YteaknconpkklhaaDoor
open Go Go.Proofs
/-! ### fettle/fettleref02.sameBlock -/
abbrev fettleref02_sameBlock.R (r : Bool) (v : Value) (A : List FP) : Prop := .bool r = v ∧ A = []
def fettleref02_sameBlock.nx40  : Option Bool :=
  some true
def fettleref02_sameBlock.bd40 (a1 : PBlock) (a8 : PBlock) (x19 : Int) : Option (Ex (Ex Bool Unit) Int) :=
  if x19 < (len a1.ins) then
    (idx a1.ins x19).bind fun x20 =>
    (idx a8.ins x19).bind fun x29 =>
    (if (¬ x20.op = x29.op) ∨ (¬ x20.dst = x29.dst) then some true else (fettleref02_ints x20.args x29.args).bind fun x39 =>
    some (!x39)).bind fun t38 =>
    if (t38 = true ∨ (¬ x20.imm = x29.imm)) ∨ (¬ x20.fn = x29.fn) then
      some (.ret (.ret false))
    else
      some (.go (w64 (x19 + 1)))
  else
    some (.ret (.go ()))
def fettleref02_sameBlock.nx31 (a1 : PBlock) (a8 : PBlock) : Option Bool :=
  (whl (fun (s : Int) => fettleref02_sameBlock.bd40 a1 a8 s) FUEL 0).bind fun z =>
  match z with
    | .ret r => some r
    | .go p => fettleref02_sameBlock.nx40
def fettleref02_sameBlock.bd31 (a1 : PBlock) (a8 : PBlock) (x18 : Int) : Option (Ex (Ex Bool Unit) Int) :=
  if x18 < (len a1.phis) then
    (idx a1.phis x18).bind fun x40 =>
    (idx a8.phis x18).bind fun x48 =>
    (if ¬ x40.dst = x48.dst then some true else (idx a1.phis x18).bind fun x57 =>
    (idx a8.phis x18).bind fun x65 =>
    (fettleref02_ints x57.args x65.args).bind fun x73 =>
    some (!x73)).bind fun t56 =>
    if t56 = true then
      some (.ret (.ret false))
    else
      some (.go (w64 (x18 + 1)))
  else
    some (.ret (.go ()))
def fettleref02_sameBlock (a1 : PBlock) (a8 : PBlock) : Option Bool :=
  (if (((¬ (len a1.phis) = (len a8.phis)) ∨ (¬ (len a1.ins) = (len a8.ins))) ∨ (¬ a1.term.kind = a8.term.kind)) ∨ (¬ a1.term.arg = a8.term.arg) then some true else (fettleref02_ints a1.term.to a8.term.to).bind fun x74 =>
  some (!x74)).bind fun t17 =>
  if t17 = true then
    some false
  else
    (whl (fun (s : Int) => fettleref02_sameBlock.bd31 a1 a8 s) FUEL 0).bind fun z =>
    match z with
      | .ret r => some r
      | .go p => fettleref02_sameBlock.nx31 a1 a8
/-! ### fettle/fettleref02.SameFunc -/
abbrev fettleref02_SameFunc.R (r : Bool) (v : Value) (A : List FP) : Prop := .bool r = v ∧ A = []
def fettleref02_SameFunc.nx26  : Option Bool :=
  some true
def fettleref02_SameFunc.bd26 (a1 : PFunc) (a6 : PFunc) (x14 : Int) : Option (Ex (Ex Bool Unit) Int) :=
  if x14 < (len a1.blocks) then
    (idx a1.blocks x14).bind fun x15 =>
    (idx a6.blocks x14).bind fun x27 =>
    (fettleref02_sameBlock x15 x27).bind fun x39 =>
    if (!x39) = true then
      some (.ret (.ret false))
    else
      some (.go (w64 (x14 + 1)))
  else
    some (.ret (.go ()))
def fettleref02_SameFunc (a1 : PFunc) (a6 : PFunc) : Option Bool :=
  (if (¬ a1.params = a6.params) ∨ (¬ a1.result = a6.result) then some true else (fettleref02_ints a1.regs a6.regs).bind fun x40 =>
  some (!x40)).bind fun t13 =>
  if t13 = true ∨ (¬ (len a1.blocks) = (len a6.blocks)) then
    some false
  else
    (whl (fun (s : Int) => fettleref02_SameFunc.bd26 a1 a6 s) FUEL 0).bind fun z =>
    match z with
      | .ret r => some r
      | .go p => fettleref02_SameFunc.nx26
/-! ### fettle/fettleref02.Same -/
abbrev fettleref02_Same.R (r : Bool) (v : Value) (A : List FP) : Prop := .bool r = v ∧ A = []
def fettleref02_Same.nx11  : Option Bool :=
  some true
def fettleref02_Same.bd11 (a1 : PModule) (a4 : PModule) (x9 : Int) : Option (Ex (Ex Bool Unit) Int) :=
  if x9 < (len a1.funcs) then
    (idx a1.funcs x9).bind fun x10 =>
    (idx a4.funcs x9).bind fun x20 =>
    (fettleref02_SameFunc x10 x20).bind fun x30 =>
    if (!x30) = true then
      some (.ret (.ret false))
    else
      some (.go (w64 (x9 + 1)))
  else
    some (.ret (.go ()))
def fettleref02_Same (a1 : PModule) (a4 : PModule) : Option Bool :=
  if ¬ (len a1.funcs) = (len a4.funcs) then
    some false
  else
    (whl (fun (s : Int) => fettleref02_Same.bd11 a1 a4 s) FUEL 0).bind fun z =>
    match z with
      | .ret r => some r
      | .go p => fettleref02_Same.nx11
/-! ### fettle/proper.Makers -/
abbrev proper_Makers.R (r : List PMaker) (v : Value) (A : List FP) : Prop := ∃ (w1 : Value) (G1 : FP), w1 = v ∧ A = [G1] ∧ SlO 54 kMaker r w1 G1
def proper_Makers (a1 : PFunc) : Option (List PMaker) :=
  (proper_made a1).bind fun x7 =>
  some x7.1
/-! ### fettle/fettlelaw13.ProperStays -/
abbrev fettlelaw13_ProperStays.R (r : Bool) (v : Value) (A : List FP) : Prop := .bool r = v ∧ A = []
def fettlelaw13_ProperStays.nx66 (a1 : PModule) (x6 : Bool) (x8 : PModule) (x21 : Int × Int) (x22 : Int × Int) (x35 : List PMaker) (x53 : List PMaker) : Option Bool :=
  (if ((x6 = true ∧ x21.1 = x22.1) ∧ x21.2 = x22.2) ∧ (len x53) = (len x35) then (fettleref02_Same x8 a1).bind fun x59 =>
  some x59 else some false).bind fun t58 =>
  some t58
def fettlelaw13_ProperStays.bd66 (x53 : List PMaker) (x57 : Int) : Option (Ex (Ex Bool Unit) Int) :=
  if x57 < (len x53) then
    (idx x53 x57).bind fun x60 =>
    if x60.block = 99 then
      some (.ret (.ret false))
    else
      some (.go (w64 (x57 + 1)))
  else
    some (.ret (.go ()))
def fettlelaw13_ProperStays.nx54 (a1 : PModule) (a4 : Int) (x6 : Bool) (x8 : PModule) (x21 : Int × Int) (x22 : Int × Int) (x35 : List PMaker) : Option Bool :=
  (idx x8.funcs a4).bind fun x43 =>
  (proper_Makers x43).bind fun x53 =>
  (whl (fun (s : Int) => fettlelaw13_ProperStays.bd66 x53 s) FUEL 0).bind fun z =>
  match z with
    | .ret r => some r
    | .go p => fettlelaw13_ProperStays.nx66 a1 x6 x8 x21 x22 x35 x53
def fettlelaw13_ProperStays.bd54  (x39 : List PMaker) (x42 : Int) : Option (Ex Unit (List PMaker × Int)) :=
  if x42 < (len x39) then
    (idx x39 x42).bind fun x66 =>
    some (.go ((x39.set (x42).toNat (⟨99, 99⟩ : PMaker)), (w64 (x42 + 1))))
  else
    some (.ret ())
def fettlelaw13_ProperStays (a1 : PModule) (a4 : Int) : Option Bool :=
  (fettlelaw13_up).bind fun x6 =>
  (fettleref02_Small a1).bind fun x7 =>
  if (!x7) = true then
    some x6
  else
    (fettleref02_Copy a1).bind fun x8 =>
    (proper_Form x8 a4).bind fun x13 =>
    (proper_Form a1 a4).bind fun x17 =>
    (fettlelaw00_Of x13).bind fun x21 =>
    (fettlelaw00_Of x17).bind fun x22 =>
    if a4 < 0 ∨ a4 ≥ (len a1.funcs) then
      (if (x6 = true ∧ x21.1 = x22.1) ∧ x21.2 = x22.2 then (fettleref02_Same x8 a1).bind fun x24 =>
      some x24 else some false).bind fun t23 =>
      some t23
    else
      (idx x8.funcs a4).bind fun x25 =>
      (proper_Makers x25).bind fun x35 =>
      (whl (fun (s : (List PMaker × Int)) => fettlelaw13_ProperStays.bd54 s.1 s.2) FUEL (x35, 0)).bind fun z =>
      fettlelaw13_ProperStays.nx54 a1 a4 x6 x8 x21 x22 x35
end Go.Proofs.YteaknconpkklhaaDoor
