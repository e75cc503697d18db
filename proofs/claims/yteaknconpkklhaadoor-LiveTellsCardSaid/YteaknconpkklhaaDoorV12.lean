/- The walk through the program's functions: each one's pure reading, and that a call does what it says. No conditions. -/
import Derived.Test.YteaknconpkklhaaDoorV11
set_option linter.unusedVariables false
set_option linter.unusedSimpArgs false
namespace Go.Proofs.YteaknconpkklhaaDoor
open Go Go.Proofs
/-! ### (*fettle/proper.looker).all -/
abbrev proper_looker_all.R (b1 : Nat) (a2 : PProperLooker) (v3 : Value) (v5 : Value) (v7 : Value) (v9 : Value) (r : Int) (v : Value) (A : List FP) : Prop := .tuple #[] = v ∧ A = [bx b1 85 [.int .i64 a2.f.params, .int .i64 a2.f.result, v3, v5, v7, v9, .int .i64 r]]
def proper_looker_all.nx10  (x18 : Int) : Option Int :=
  some x18
def proper_looker_all.jn20 (x17 : Int) (x19 : Int) : Option (Ex Int (Int × Int)) :=
  some (.go (x19, (w64 (x17 + 1))))
def proper_looker_all.nx38 (a2 : PProperLooker) (x17 : Int) (x20 : PBlock) (x38 : Int) : Option (Ex Int (Int × Int)) :=
  if x20.term.arg ≥ 0 then
    (proper_looker_use (⟨(⟨a2.f.params, a2.f.result, a2.f.regs, a2.f.blocks⟩ : PFunc), a2.makers, a2.over, x38⟩ : PProperLooker) x20.term.arg x17 (len x20.ins)).bind fun x39 =>
    proper_looker_all.jn20 x17 x39
  else
    proper_looker_all.jn20 x17 x38
def proper_looker_all.nx56 (x37 : Int) (x51 : Int) : Option (Ex Int (Int × Int)) :=
  some (.go (x51, (w64 (x37 + 1))))
def proper_looker_all.bd56 (a2 : PProperLooker) (x17 : Int) (x37 : Int) (x40 : PInstr) (x49 : Int) (x50 : Int) : Option (Ex Int (Int × Int)) :=
  if x50 < (len x40.args) then
    (idx x40.args x50).bind fun x52 =>
    (proper_looker_use (⟨(⟨a2.f.params, a2.f.result, a2.f.regs, a2.f.blocks⟩ : PFunc), a2.makers, a2.over, x49⟩ : PProperLooker) x52 x17 x37).bind fun x58 =>
    some (.go (x58, (w64 (x50 + 1))))
  else
    some (.ret x49)
def proper_looker_all.bd38 (a2 : PProperLooker) (x17 : Int) (x20 : PBlock) (x36 : Int) (x37 : Int) : Option (Ex Int (Int × Int)) :=
  if x37 < (len x20.ins) then
    (idx x20.ins x37).bind fun x40 =>
    (whl (fun (s : (Int × Int)) => proper_looker_all.bd56 a2 x17 x37 x40 s.1 s.2) FUEL (x36, 0)).bind fun z =>
    proper_looker_all.nx56 x37 z
  else
    some (.ret x36)
def proper_looker_all.nx29 (a2 : PProperLooker) (x17 : Int) (x20 : PBlock) (x35 : Int) : Option (Ex Int (Int × Int)) :=
  (whl (fun (s : (Int × Int)) => proper_looker_all.bd38 a2 x17 x20 s.1 s.2) FUEL (x35, 0)).bind fun z =>
  proper_looker_all.nx38 a2 x17 x20 z
def proper_looker_all.nx85 (x34 : Int) (x70 : Int) : Option (Ex Int (Int × Int)) :=
  some (.go (x70, (w64 (x34 + 1))))
def proper_looker_all.bd85 (a2 : PProperLooker) (x12 : List (List Int)) (x17 : Int) (x59 : PPhi) (x68 : Int) (x69 : Int) : Option (Ex Int (Int × Int)) :=
  if x69 < (len x59.args) then
    (idx x59.args x69).bind fun x71 =>
    (idx x12 x17).bind fun x77 =>
    (idx x77 x69).bind fun x85 =>
    (idx a2.f.blocks x85).bind fun x91 =>
    (proper_looker_use (⟨(⟨a2.f.params, a2.f.result, a2.f.regs, a2.f.blocks⟩ : PFunc), a2.makers, a2.over, x68⟩ : PProperLooker) x71 x85 (len x91.ins)).bind fun x103 =>
    some (.go (x103, (w64 (x69 + 1))))
  else
    some (.ret x68)
def proper_looker_all.bd29 (a2 : PProperLooker) (x12 : List (List Int)) (x17 : Int) (x20 : PBlock) (x33 : Int) (x34 : Int) : Option (Ex Int (Int × Int)) :=
  if x34 < (len x20.phis) then
    (idx x20.phis x34).bind fun x59 =>
    (whl (fun (s : (Int × Int)) => proper_looker_all.bd85 a2 x12 x17 x59 s.1 s.2) FUEL (x33, 0)).bind fun z =>
    proper_looker_all.nx85 x34 z
  else
    some (.ret x33)
def proper_looker_all.bd10 (a2 : PProperLooker) (x12 : List (List Int)) (x16 : Int) (x17 : Int) : Option (Ex Int (Int × Int)) :=
  if x17 < (len a2.f.blocks) then
    (idx a2.f.blocks x17).bind fun x20 =>
    (whl (fun (s : (Int × Int)) => proper_looker_all.bd29 a2 x12 x17 x20 s.1 s.2) FUEL (x16, 0)).bind fun z =>
    proper_looker_all.nx29 a2 x17 x20 z
  else
    some (.ret x16)
def proper_looker_all (a2 : PProperLooker) : Option Int :=
  (check_Ahead a2.f).bind fun x12 =>
  (whl (fun (s : (Int × Int)) => proper_looker_all.bd10 a2 x12 s.1 s.2) FUEL (a2.lowest, 0)).bind fun z =>
  proper_looker_all.nx10 z
/-! ### fettle/proper.Form -/
abbrev proper_Form.R (r : GErr) (v : Value) (A : List FP) : Prop := ∃ (w1 : Value) (G1 : FP), w1 = v ∧ A = [G1] ∧ ErO 38 69 74 r w1 G1
def proper_Form.nx35 (x11 : PFunc) (x27 : List PMaker × List Int) : Option GErr :=
  (dom_Dominates x11).bind fun x1236 =>
  (proper_looker_all (⟨(⟨x11.params, x11.result, x11.regs, x11.blocks⟩ : PFunc), x27.1, x1236, -1⟩ : PProperLooker)).bind fun x2836 =>
  if x2836 ≥ 0 then
    some (GErr.spot x2836 (GErr.code 4))
  else
    some GErr.no
def proper_Form.bd35 (x11 : PFunc) (x27 : List PMaker × List Int) (x34 : Int) : Option (Ex (Ex GErr Unit) Int) :=
  if x34 < (len x27.2) then
    (idx x27.2 x34).bind fun x2841 =>
    if x2841 > 1 ∨ (x2841 > 0 ∧ x34 < x11.params) then
      some (.ret (.ret (GErr.spot x34 (GErr.code 7))))
    else
      some (.go (w64 (x34 + 1)))
  else
    some (.ret (.go ()))
def proper_Form.nx24 (x11 : PFunc) : Option GErr :=
  (proper_made x11).bind fun x27 =>
  (whl (fun (s : Int) => proper_Form.bd35 x11 x27 s) FUEL 0).bind fun z =>
  match z with
    | .ret r => some r
    | .go p => proper_Form.nx35 x11 x27
def proper_Form.bd24 (x22 : List Bool) (x26 : Int) : Option (Ex (Ex GErr Unit) Int) :=
  if x26 < (len x22) then
    (idx x22 x26).bind fun x2850 =>
    if (!x2850) = true then
      some (.ret (.ret (GErr.code 6)))
    else
      some (.go (w64 (x26 + 1)))
  else
    some (.ret (.go ()))
def proper_Form (a1 : PModule) (a4 : Int) : Option GErr :=
  (check_Module a1).bind fun x6 =>
  if ¬ x6 = GErr.no then
    some x6
  else
    if a4 < 0 ∨ a4 ≥ (len a1.funcs) then
      some (GErr.code 1)
    else
      (idx a1.funcs a4).bind fun x11 =>
      (graph_Reached x11).bind fun x22 =>
      (whl (fun (s : Int) => proper_Form.bd24 x22 s) FUEL 0).bind fun z =>
      match z with
        | .ret r => some r
        | .go p => proper_Form.nx24 x11
/-! ### fettle/fettlelaw13.up -/
abbrev fettlelaw13_up.R (r : Bool) (v : Value) (A : List FP) : Prop := .bool r = v ∧ A = []
def fettlelaw13_up  : Option Bool :=
  (proper_Form (⟨[(⟨1, 1, [1], [(⟨([] : List PPhi), ([] : List PInstr), (⟨3, 0, ([] : List Int)⟩ : PTerm)⟩ : PBlock)]⟩ : PFunc)]⟩ : PModule) 0).bind fun x14 =>
  (proper_Form (⟨[]⟩ : PModule) 0).bind fun x18 =>
  some (decide (x14 = GErr.no ∧ x18 = (GErr.code 1)))
/-! ### fettle/fettleref05.From -/
abbrev fettleref05_From.R (r : List Bool) (v : Value) (A : List FP) : Prop := ∃ (w1 : Value) (G1 : FP), w1 = v ∧ A = [G1] ∧ SlO 4 kBool r w1 G1
def fettleref05_From.nx23  (x23 : List Bool) : Option (List Bool) :=
  some x23
def fettleref05_From.nx37 (x22 : Int) (x30 : List Bool) : Option (Ex (List Bool) (List Bool × Int)) :=
  some (.go (x30, (w64 (x22 + 1))))
def fettleref05_From.jn47 (x29 : Int) (x33 : List Bool) : Option (Ex (List Bool) (List Bool × Int)) :=
  some (.go (x33, (w64 (x29 + 1))))
def fettleref05_From.nx59 (x29 : Int) (x50 : List Bool) : Option (Ex (List Bool) (List Bool × Int)) :=
  fettleref05_From.jn47 x29 x50
def fettleref05_From.jn69 (x49 : Int) (x53 : List Bool) : Option (Ex (List Bool) (List Bool × Int)) :=
  some (.go (x53, (w64 (x49 + 1))))
def fettleref05_From.bd59 (a7 : Int) (x42 : List Int) (x46 : List Bool) (x49 : Int) : Option (Ex (List Bool) (List Bool × Int)) :=
  if x49 < (len x42) then
    (idx x42 x49).bind fun x56 =>
    if ¬ x56 = a7 then
      (idx x42 x49).bind fun x62 =>
      (idx x46 x62).bind fun x68 =>
      fettleref05_From.jn69 x49 (x46.set (x62).toNat true)
    else
      fettleref05_From.jn69 x49 x46
  else
    some (.ret x46)
def fettleref05_From.bd37 (a1 : PFunc) (a7 : Int) (x26 : List Bool) (x29 : Int) : Option (Ex (List Bool) (List Bool × Int)) :=
  if x29 < (len x26) then
    (idx x26 x29).bind fun x36 =>
    if (!x36) = true then
      fettleref05_From.jn47 x29 x26
    else
      (fettleref05_Next a1 x29).bind fun x42 =>
      (whl (fun (s : (List Bool × Int)) => fettleref05_From.bd59 a7 x42 s.1 s.2) FUEL (x26, 0)).bind fun z =>
      fettleref05_From.nx59 x29 z
  else
    some (.ret x26)
def fettleref05_From.bd23 (a1 : PFunc) (a7 : Int) (x19 : List Bool) (x22 : Int) : Option (Ex (List Bool) (List Bool × Int)) :=
  if x22 < (len x19) then
    (whl (fun (s : (List Bool × Int)) => fettleref05_From.bd37 a1 a7 s.1 s.2) FUEL (x19, 0)).bind fun z =>
    fettleref05_From.nx37 x22 z
  else
    some (.ret x19)
def fettleref05_From (a1 : PFunc) (a6 : Int) (a7 : Int) : Option (List Bool) :=
  (mkl (len a1.blocks) false).bind fun x9 =>
  if (a6 < 0 ∨ a6 ≥ (len x9)) ∨ a6 = a7 then
    some x9
  else
    (idx x9 a6).bind fun x13 =>
    (whl (fun (s : (List Bool × Int)) => fettleref05_From.bd23 a1 a7 s.1 s.2) FUEL ((x9.set (a6).toNat true), 0)).bind fun z =>
    fettleref05_From.nx23 z
end Go.Proofs.YteaknconpkklhaaDoor
