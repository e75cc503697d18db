/- The walk through the program's functions: each one's pure reading, and that a call does what it says. No conditions. -/
import Derived.Test.YteaknconpkklhaaDoorV12
set_option linter.unusedVariables false
set_option linter.unusedSimpArgs false
namespace Go.Proofs.YteaknconpkklhaaDoor
open Go Go.Proofs
/-! ### fettle/fettleref13.Maker -/
abbrev fettleref13_Maker.R (r : PMaker × Int) (v : Value) (A : List FP) : Prop := .tuple #[.agg #[.int .i64 r.1.block, .int .i64 r.1.at_], .int .i64 r.2] = v ∧ A = []
def fettleref13_Maker.nx8  (x14 : Int) (x15 : Int) (x16 : Int) : Option (PMaker × Int) :=
  some ((⟨x14, x15⟩ : PMaker), x16)
def fettleref13_Maker.nx31 (x13 : Int) (x28 : Int) (x29 : Int) (x30 : Int) : Option (Ex (Int × Int × Int) (Int × Int × Int × Int)) :=
  some (.go (x28, x29, x30, (w64 (x13 + 1))))
def fettleref13_Maker.jn42 (x27 : Int) (x43 : Int) (x44 : Int) (x45 : Int) : Option (Ex (Int × Int × Int) (Int × Int × Int × Int)) :=
  some (.go (x43, x44, x45, (w64 (x27 + 1))))
def fettleref13_Maker.jn49 (x26 : Int) (x27 : Int) (x66 : Int) (x67 : Int) : Option (Ex (Int × Int × Int) (Int × Int × Int × Int)) :=
  fettleref13_Maker.jn42 x27 x66 x67 (w64 (x26 + 1))
def fettleref13_Maker.bd31 (a1 : PFunc) (a6 : Int) (x13 : Int) (x24 : Int) (x25 : Int) (x26 : Int) (x27 : Int) : Option (Ex (Int × Int × Int) (Int × Int × Int × Int)) :=
  (idx a1.blocks x13).bind fun x31 =>
  if x27 < (len x31.ins) then
    (idx a1.blocks x13).bind fun x46 =>
    (idx x46.ins x27).bind fun x58 =>
    if x58.dst = a6 then
      if x26 = 0 then
        fettleref13_Maker.jn49 x26 x27 x13 x27
      else
        fettleref13_Maker.jn49 x26 x27 x24 x25
    else
      fettleref13_Maker.jn42 x27 x24 x25 x26
  else
    some (.ret (x24, x25, x26))
def fettleref13_Maker.nx24 (a1 : PFunc) (a6 : Int) (x13 : Int) (x21 : Int) (x22 : Int) (x23 : Int) : Option (Ex (Int × Int × Int) (Int × Int × Int × Int)) :=
  (whl (fun (s : (Int × Int × Int × Int)) => fettleref13_Maker.bd31 a1 a6 x13 s.1 s.2.1 s.2.2.1 s.2.2.2) FUEL (x21, x22, x23, 0)).bind fun z =>
  fettleref13_Maker.nx31 x13 z.1 z.2.1 z.2.2
def fettleref13_Maker.jn62 (x20 : Int) (x80 : Int) (x81 : Int) (x82 : Int) : Option (Ex (Int × Int × Int) (Int × Int × Int × Int)) :=
  some (.go (x80, x81, x82, (w64 (x20 + 1))))
def fettleref13_Maker.jn69 (x19 : Int) (x20 : Int) (x103 : Int) (x104 : Int) : Option (Ex (Int × Int × Int) (Int × Int × Int × Int)) :=
  fettleref13_Maker.jn62 x20 x103 x104 (w64 (x19 + 1))
def fettleref13_Maker.bd24 (a1 : PFunc) (a6 : Int) (x13 : Int) (x17 : Int) (x18 : Int) (x19 : Int) (x20 : Int) : Option (Ex (Int × Int × Int) (Int × Int × Int × Int)) :=
  (idx a1.blocks x13).bind fun x68 =>
  if x20 < (len x68.phis) then
    (idx a1.blocks x13).bind fun x83 =>
    (idx x83.phis x20).bind fun x95 =>
    if x95.dst = a6 then
      if x19 = 0 then
        fettleref13_Maker.jn69 x19 x20 x13 (-1)
      else
        fettleref13_Maker.jn69 x19 x20 x17 x18
    else
      fettleref13_Maker.jn62 x20 x17 x18 x19
  else
    some (.ret (x17, x18, x19))
def fettleref13_Maker.bd8 (a1 : PFunc) (a6 : Int) (x10 : Int) (x11 : Int) (x12 : Int) (x13 : Int) : Option (Ex (Int × Int × Int) (Int × Int × Int × Int)) :=
  if x13 < (len a1.blocks) then
    (whl (fun (s : (Int × Int × Int × Int)) => fettleref13_Maker.bd24 a1 a6 x13 s.1 s.2.1 s.2.2.1 s.2.2.2) FUEL (x10, x11, x12, 0)).bind fun z =>
    fettleref13_Maker.nx24 a1 a6 x13 z.1 z.2.1 z.2.2
  else
    some (.ret (x10, x11, x12))
def fettleref13_Maker (a1 : PFunc) (a6 : Int) : Option (PMaker × Int) :=
  (whl (fun (s : (Int × Int × Int × Int)) => fettleref13_Maker.bd8 a1 a6 s.1 s.2.1 s.2.2.1 s.2.2.2) FUEL (-1, -2, 0, 0)).bind fun z =>
  fettleref13_Maker.nx8 z.1 z.2.1 z.2.2
/-! ### fettle/fettleref06.Dominates -/
abbrev fettleref06_Dominates.R (r : List (List Bool)) (v : Value) (A : List FP) : Prop := ∃ (w1 : Value) (G1 : FP), w1 = v ∧ A = [G1] ∧ SlO 42 (kSl 4 kBool) r w1 G1
def fettleref06_Dominates.nx10  (x16 : List (List Bool)) : Option (List (List Bool)) :=
  some x16
def fettleref06_Dominates.nx29 (x11 : List (List Bool)) (x15 : Int) (x32 : List Bool) : Option (Ex (List (List Bool)) (List (List Bool) × Int)) :=
  (cat x11 [x32]).bind fun x36 =>
  some (.go (x36, (w64 (x15 + 1))))
def fettleref06_Dominates.bd29 (x7 : List Bool) (x15 : Int) (x20 : List Bool) (x28 : List Bool) (x31 : Int) : Option (Ex (List Bool) (List Bool × Int)) :=
  if x31 < (len x7) then
    (idx x7 x31).bind fun x40 =>
    (if x40 = true then (if x15 = x31 then some true else (idx x20 x31).bind fun x54 =>
    some (!x54)).bind fun t53 =>
    some t53 else some false).bind fun t46 =>
    (idx x28 x31).bind fun x47 =>
    some (.go ((x28.set (x31).toNat t46), (w64 (x31 + 1))))
  else
    some (.ret x28)
def fettleref06_Dominates.bd10 (a1 : PFunc) (x7 : List Bool) (x11 : List (List Bool)) (x15 : Int) : Option (Ex (List (List Bool)) (List (List Bool) × Int)) :=
  if x15 < (len x7) then
    (fettleref05_From a1 0 x15).bind fun x20 =>
    (mkl (len x7) false).bind fun x24 =>
    (whl (fun (s : (List Bool × Int)) => fettleref06_Dominates.bd29 x7 x15 x20 s.1 s.2) FUEL (x24, 0)).bind fun z =>
    fettleref06_Dominates.nx29 x11 x15 z
  else
    some (.ret x11)
def fettleref06_Dominates (a1 : PFunc) : Option (List (List Bool)) :=
  (fettleref05_From a1 0 (-1)).bind fun x7 =>
  (whl (fun (s : (List (List Bool) × Int)) => fettleref06_Dominates.bd10 a1 x7 s.1 s.2) FUEL (([] : List (List Bool)), 0)).bind fun z =>
  fettleref06_Dominates.nx10 z
/-! ### fettle/fettleref13.ahead -/
abbrev fettleref13_ahead.R (r : Bool) (v : Value) (A : List FP) : Prop := .bool r = v ∧ A = []
def fettleref13_ahead (a1 : PFunc) (a6 : List (List Bool)) (a9 : Int) (a10 : Int) (a11 : Int) : Option Bool :=
  if a9 < a1.params then
    some true
  else
    (fettleref13_Maker a1 a9).bind fun x13 =>
    if x13.2 = 0 then
      some false
    else
      if x13.1.block = a10 then
        some (decide (x13.1.at_ < a11))
      else
        (idx a6 x13.1.block).bind fun x15 =>
        (idx x15 a10).bind fun x23 =>
        some x23
/-! ### fettle/fettleref13.amiss -/
abbrev fettleref13_amiss.R (r : Bool) (v : Value) (A : List FP) : Prop := .bool r = v ∧ A = []
def fettleref13_amiss.nx8  : Option Bool :=
  some false
def fettleref13_amiss.nx36 (a1 : PFunc) (a6 : List (List Bool)) (a9 : Int) (x11 : Int) (x12 : PBlock) : Option (Ex (Ex Bool Unit) Int) :=
  (if x12.term.arg = a9 then (fettleref13_ahead a1 a6 a9 x11 (len x12.ins)).bind fun x32 =>
  some (!x32) else some false).bind fun t31 =>
  if t31 = true then
    some (.ret (.ret true))
  else
    some (.go (w64 (x11 + 1)))
def fettleref13_amiss.nx59 (x30 : Int) : Option (Ex (Ex Bool Unit) Int) :=
  some (.go (w64 (x30 + 1)))
def fettleref13_amiss.bd59 (a1 : PFunc) (a6 : List (List Bool)) (a9 : Int) (x11 : Int) (x12 : PBlock) (x30 : Int) (x33 : Int) : Option (Ex (Ex Bool Unit) Int) :=
  (idx x12.ins x30).bind fun x34 =>
  if x33 < (len x34.args) then
    (idx x12.ins x30).bind fun x42 =>
    (idx x42.args x33).bind fun x50 =>
    (if x50 = a9 then (fettleref13_ahead a1 a6 a9 x11 x30).bind fun x57 =>
    some (!x57) else some false).bind fun t56 =>
    if t56 = true then
      some (.ret (.ret true))
    else
      some (.go (w64 (x33 + 1)))
  else
    some (.ret (.go ()))
def fettleref13_amiss.bd36 (a1 : PFunc) (a6 : List (List Bool)) (a9 : Int) (x11 : Int) (x12 : PBlock) (x30 : Int) : Option (Ex (Ex Bool Unit) Int) :=
  if x30 < (len x12.ins) then
    (whl (fun (s : Int) => fettleref13_amiss.bd59 a1 a6 a9 x11 x12 x30 s) FUEL 0).bind fun z =>
    match z with
      | .ret r => some (.ret (.ret r))
      | .go p => fettleref13_amiss.nx59 x30
  else
    some (.ret (.go ()))
def fettleref13_amiss.nx27 (a1 : PFunc) (a6 : List (List Bool)) (a9 : Int) (x11 : Int) (x12 : PBlock) : Option (Ex (Ex Bool Unit) Int) :=
  (whl (fun (s : Int) => fettleref13_amiss.bd36 a1 a6 a9 x11 x12 s) FUEL 0).bind fun z =>
  match z with
    | .ret r => some (.ret (.ret r))
    | .go p => fettleref13_amiss.nx36 a1 a6 a9 x11 x12
def fettleref13_amiss.nx96 (x29 : Int) : Option (Ex (Ex Bool Unit) Int) :=
  some (.go (w64 (x29 + 1)))
def fettleref13_amiss.bd96 (a1 : PFunc) (a6 : List (List Bool)) (a9 : Int) (x12 : PBlock) (x25 : List Int) (x29 : Int) (x58 : Int) : Option (Ex (Ex Bool Unit) Int) :=
  if x58 < (len x25) then
    (idx x12.phis x29).bind fun x59 =>
    (idx x59.args x58).bind fun x67 =>
    (if x67 = a9 then (idx x25 x58).bind fun x74 =>
    (idx x25 x58).bind fun x80 =>
    (idx a1.blocks x80).bind fun x86 =>
    (fettleref13_ahead a1 a6 a9 x74 (len x86.ins)).bind fun x98 =>
    some (!x98) else some false).bind fun t73 =>
    if t73 = true then
      some (.ret (.ret true))
    else
      some (.go (w64 (x58 + 1)))
  else
    some (.ret (.go ()))
def fettleref13_amiss.bd27 (a1 : PFunc) (a6 : List (List Bool)) (a9 : Int) (x12 : PBlock) (x25 : List Int) (x29 : Int) : Option (Ex (Ex Bool Unit) Int) :=
  if x29 < (len x12.phis) then
    (whl (fun (s : Int) => fettleref13_amiss.bd96 a1 a6 a9 x12 x25 x29 s) FUEL 0).bind fun z =>
    match z with
      | .ret r => some (.ret (.ret r))
      | .go p => fettleref13_amiss.nx96 x29
  else
    some (.ret (.go ()))
def fettleref13_amiss.bd8 (a1 : PFunc) (a6 : List (List Bool)) (a9 : Int) (x11 : Int) : Option (Ex (Ex Bool Unit) Int) :=
  if x11 < (len a1.blocks) then
    (idx a1.blocks x11).bind fun x12 =>
    (fettleref02_Ahead a1 x11).bind fun x25 =>
    (whl (fun (s : Int) => fettleref13_amiss.bd27 a1 a6 a9 x12 x25 s) FUEL 0).bind fun z =>
    match z with
      | .ret r => some (.ret (.ret r))
      | .go p => fettleref13_amiss.nx27 a1 a6 a9 x11 x12
  else
    some (.ret (.go ()))
def fettleref13_amiss (a1 : PFunc) (a6 : List (List Bool)) (a9 : Int) : Option Bool :=
  (whl (fun (s : Int) => fettleref13_amiss.bd8 a1 a6 a9 s) FUEL 0).bind fun z =>
  match z with
    | .ret r => some r
    | .go p => fettleref13_amiss.nx8
/-! ### fettle/fettleref13.Form -/
abbrev fettleref13_Form.R (r : Int × Int) (v : Value) (A : List FP) : Prop := .tuple #[.int .i64 r.1, .int .i64 r.2] = v ∧ A = []
def fettleref13_Form.nx30  : Option (Int × Int) :=
  some (0, -1)
def fettleref13_Form.bd30 (a1 : PFunc) (x13 : List (List Bool)) (x17 : Int) : Option (Ex (Ex (Int × Int) Unit) Int) :=
  if x17 < (len a1.regs) then
    (fettleref13_amiss a1 x13 x17).bind fun x18 =>
    if x18 = true then
      some (.ret (.ret (4, x17)))
    else
      some (.go (w64 (x17 + 1)))
  else
    some (.ret (.go ()))
def fettleref13_Form.nx19 (a1 : PFunc) : Option (Int × Int) :=
  (fettleref06_Dominates a1).bind fun x13 =>
  (whl (fun (s : Int) => fettleref13_Form.bd30 a1 x13 s) FUEL 0).bind fun z =>
  match z with
    | .ret r => some r
    | .go p => fettleref13_Form.nx30
def fettleref13_Form.bd19 (a1 : PFunc) (x12 : Int) : Option (Ex (Ex (Int × Int) Unit) Int) :=
  if x12 < (len a1.regs) then
    (fettleref13_Maker a1 x12).bind fun x19 =>
    if x19.2 > 1 ∨ (x19.2 > 0 ∧ x12 < a1.params) then
      some (.ret (.ret (7, x12)))
    else
      some (.go (w64 (x12 + 1)))
  else
    some (.ret (.go ()))
def fettleref13_Form.nx10 (a1 : PFunc) : Option (Int × Int) :=
  (whl (fun (s : Int) => fettleref13_Form.bd19 a1 s) FUEL 0).bind fun z =>
  match z with
    | .ret r => some r
    | .go p => fettleref13_Form.nx19 a1
def fettleref13_Form.bd10 (x7 : List Bool) (x11 : Int) : Option (Ex (Ex (Int × Int) Unit) Int) :=
  if x11 < (len x7) then
    (idx x7 x11).bind fun x21 =>
    if (!x21) = true then
      some (.ret (.ret (6, -1)))
    else
      some (.go (w64 (x11 + 1)))
  else
    some (.ret (.go ()))
def fettleref13_Form (a1 : PFunc) : Option (Int × Int) :=
  (fettleref05_From a1 0 (-1)).bind fun x7 =>
  (whl (fun (s : Int) => fettleref13_Form.bd10 x7 s) FUEL 0).bind fun z =>
  match z with
    | .ret r => some r
    | .go p => fettleref13_Form.nx10 a1
end Go.Proofs.YteaknconpkklhaaDoor
