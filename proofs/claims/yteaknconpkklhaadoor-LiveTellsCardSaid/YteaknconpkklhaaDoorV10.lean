/- The walk through the program's functions: each one's pure reading, and that a call does what it says. No conditions. -/
import Derived.Test.YteaknconpkklhaaDoorV9
set_option linter.unusedVariables false
set_option linter.unusedSimpArgs false
namespace Go.Proofs.YteaknconpkklhaaDoor
open Go Go.Proofs
/-! ### slices.Reverse[[]int,int] -/
abbrev slices_Reverse.R (v2 : Value) (r : List Int) (v : Value) (A : List FP) : Prop := ∃ (G1 : FP), .tuple #[] = v ∧ A = [G1] ∧ SlO 3 (kInt .i64) r v2 G1
def slices_Reverse.nx8  (x10 : List Int) : Option (List Int) :=
  some x10
def slices_Reverse.jn18 (x8 : Int) (x9 : Int) (x13 : List Int) : Option (Ex (List Int) (List Int × Int × Int)) :=
  some (.go (x13, (w64 (x8 + 1)), (w64 (x9 - 1))))
def slices_Reverse.bd8  (x5 : List Int) (x8 : Int) (x9 : Int) : Option (Ex (List Int) (List Int × Int × Int)) :=
  if x8 < x9 then
    (idx x5 x9).bind fun x2417 =>
    (idx x5 x8).bind fun x4017 =>
    (idx x5 x8).bind fun x4817 =>
    (idx (x5.set (x8).toNat x2417) x9).bind fun x5617 =>
    slices_Reverse.jn18 x8 x9 ((x5.set (x8).toNat x2417).set (x9).toNat x4017)
  else
    some (.ret x5)
def slices_Reverse (a1 : List Int) : Option (List Int) :=
  (whl (fun (s : (List Int × Int × Int)) => slices_Reverse.bd8 s.1 s.2.1 s.2.2) FUEL (a1, 0, (w64 ((len a1) - 1)))).bind fun z =>
  slices_Reverse.nx8 z
/-! ### fettle/graph.order -/
abbrev graph_order.R (r : List Int × List Bool) (v : Value) (A : List FP) : Prop := ∃ (w1 : Value) (G1 : FP) (w2 : Value) (G2 : FP), .tuple #[w1, w2] = v ∧ A = [G1, G2] ∧ SlO 3 (kInt .i64) r.1 w1 G1 ∧ SlO 4 kBool r.2 w2 G2
def graph_order.jn7  (x19 : List Bool) (x23 : List Int) : Option (List Int × List Bool) :=
  (slices_Reverse x23).bind fun x27 =>
  some (x27, x19)
def graph_order (a1 : PFunc) : Option (List Int × List Bool) :=
  (graph_Next a1).bind fun x7 =>
  (mkl (len x7) false).bind fun x12 =>
  if (len x7) > 0 then
    (graph_order_1 0 x12 x7 ([] : List Int)).bind fun x31 =>
    graph_order.jn7 x31.1 x31.2
  else
    graph_order.jn7 x12 ([] : List Int)
/-! ### fettle/graph.Reached -/
abbrev graph_Reached.R (r : List Bool) (v : Value) (A : List FP) : Prop := ∃ (w1 : Value) (G1 : FP), w1 = v ∧ A = [G1] ∧ SlO 4 kBool r w1 G1
def graph_Reached (a1 : PFunc) : Option (List Bool) :=
  (graph_order a1).bind fun x7 =>
  some x7.2
/-! ### fettle/proper.made$1 -/
abbrev proper_made_1.R (b4 : Nat) (b10 : Nat) (r : List PMaker × List Int) (v : Value) (A : List FP) : Prop := ∃ (w1 : Value) (G1 : FP) (w2 : Value) (G2 : FP), .tuple #[] = v ∧ A = [bx b4 51 [w1], G1, bx b10 32 [w2], G2] ∧ SlO 54 kMaker r.1 w1 G1 ∧ SlO 3 (kInt .i64) r.2 w2 G2
def proper_made_1.jn12 (a1 : Int) (a11 : List Int) (x16 : List PMaker) : Option (List PMaker × List Int) :=
  (idx a11 a1).bind fun x19 =>
  (idx a11 a1).bind fun x25 =>
  some (x16, (a11.set (a1).toNat (w64 (x19 + 1))))
def proper_made_1 (a1 : Int) (a2 : Int) (a3 : Int) (a5 : List PMaker) (a11 : List Int) : Option (List PMaker × List Int) :=
  if a1 < 0 ∨ a1 ≥ (len a5) then
    some (a5, a11)
  else
    (idx a11 a1).bind fun x31 =>
    if x31 = 0 then
      (idx a5 a1).bind fun x37 =>
      proper_made_1.jn12 a1 a11 (a5.set (a1).toNat (⟨a2, a3⟩ : PMaker))
    else
      proper_made_1.jn12 a1 a11 a5
/-! ### fettle/proper.made -/
abbrev proper_made.R (r : List PMaker × List Int) (v : Value) (A : List FP) : Prop := ∃ (w1 : Value) (G1 : FP) (w2 : Value) (G2 : FP), .tuple #[w1, w2] = v ∧ A = [G1, G2] ∧ SlO 54 kMaker r.1 w1 G1 ∧ SlO 3 (kInt .i64) r.2 w2 G2
def proper_made.nx21  (x33 : List PMaker) (x37 : List Int) : Option (List PMaker × List Int) :=
  some (x33, x37)
def proper_made.nx47 (x32 : Int) (x80 : List PMaker) (x84 : List Int) : Option (Ex (List PMaker × List Int) (List PMaker × List Int × Int)) :=
  some (.go (x80, x84, (w64 (x32 + 1))))
def proper_made.bd47 (x32 : Int) (x41 : PBlock) (x71 : List PMaker) (x75 : List Int) (x79 : Int) : Option (Ex (List PMaker × List Int) (List PMaker × List Int × Int)) :=
  if x79 < (len x41.ins) then
    (idx x41.ins x79).bind fun x88 =>
    (proper_made_1 x88.dst x32 x79 x71 x75).bind fun x97 =>
    some (.go (x97.1, x97.2, (w64 (x79 + 1))))
  else
    some (.ret (x71, x75))
def proper_made.nx40 (x32 : Int) (x41 : PBlock) (x63 : List PMaker) (x67 : List Int) : Option (Ex (List PMaker × List Int) (List PMaker × List Int × Int)) :=
  (whl (fun (s : (List PMaker × List Int × Int)) => proper_made.bd47 x32 x41 s.1 s.2.1 s.2.2) FUEL (x63, x67, 0)).bind fun z =>
  proper_made.nx47 x32 z.1 z.2
def proper_made.bd40 (x32 : Int) (x41 : PBlock) (x54 : List PMaker) (x58 : List Int) (x62 : Int) : Option (Ex (List PMaker × List Int) (List PMaker × List Int × Int)) :=
  if x62 < (len x41.phis) then
    (idx x41.phis x62).bind fun x104 =>
    (proper_made_1 x104.dst x32 (-1) x54 x58).bind fun x113 =>
    some (.go (x113.1, x113.2, (w64 (x62 + 1))))
  else
    some (.ret (x54, x58))
def proper_made.bd21 (a1 : PFunc) (x24 : List PMaker) (x28 : List Int) (x32 : Int) : Option (Ex (List PMaker × List Int) (List PMaker × List Int × Int)) :=
  if x32 < (len a1.blocks) then
    (idx a1.blocks x32).bind fun x41 =>
    (whl (fun (s : (List PMaker × List Int × Int)) => proper_made.bd40 x32 x41 s.1 s.2.1 s.2.2) FUEL (x24, x28, 0)).bind fun z =>
    proper_made.nx40 x32 x41 z.1 z.2
  else
    some (.ret (x24, x28))
def proper_made.nx12 (a1 : PFunc) (x13 : List Int) (x21 : List PMaker) : Option (List PMaker × List Int) :=
  (whl (fun (s : (List PMaker × List Int × Int)) => proper_made.bd21 a1 s.1 s.2.1 s.2.2) FUEL (x21, x13, 0)).bind fun z =>
  proper_made.nx21 z.1 z.2
def proper_made.bd12 (x8 : List PMaker) (x17 : List PMaker) (x20 : Int) : Option (Ex (List PMaker) (List PMaker × Int)) :=
  if x20 < (len x8) then
    (idx x17 x20).bind fun x120 =>
    some (.go ((x17.set (x20).toNat (⟨-1, -2⟩ : PMaker)), (w64 (x20 + 1))))
  else
    some (.ret x17)
def proper_made.jn4 (a1 : PFunc) (x8 : List PMaker) (x13 : List Int) : Option (List PMaker × List Int) :=
  (whl (fun (s : (List PMaker × Int)) => proper_made.bd12 x8 s.1 s.2) FUEL (x8, 0)).bind fun z =>
  proper_made.nx12 a1 x13 z
def proper_made (a1 : PFunc) : Option (List PMaker × List Int) :=
  (mkl (len a1.regs) PMaker.zero).bind fun x1327 =>
  (mkl (len a1.regs) (0 : Int)).bind fun x2927 =>
  proper_made.jn4 a1 x1327 x2927
/-! ### fettle/graph.Order -/
abbrev graph_Order.R (r : List Int) (v : Value) (A : List FP) : Prop := ∃ (w1 : Value) (G1 : FP), w1 = v ∧ A = [G1] ∧ SlO 3 (kInt .i64) r w1 G1
def graph_Order (a1 : PFunc) : Option (List Int) :=
  (graph_order a1).bind fun x7 =>
  some x7.1
/-! ### fettle/dom.ahead -/
abbrev dom_ahead.R (r : List (List Int)) (v : Value) (A : List FP) : Prop := ∃ (w1 : Value) (G1 : FP), w1 = v ∧ A = [G1] ∧ SlO 32 (kSl 3 (kInt .i64)) r w1 G1
def dom_ahead.nx9  (x12 : List (List Int)) : Option (List (List Int)) :=
  some x12
def dom_ahead.nx24 (x11 : Int) (x27 : List (List Int)) : Option (Ex (List (List Int)) (List (List Int) × Int)) :=
  some (.go (x27, (w64 (x11 + 1))))
def dom_ahead.bd24 (x11 : Int) (x15 : List Int) (x23 : List (List Int)) (x26 : Int) : Option (Ex (List (List Int)) (List (List Int) × Int)) :=
  if x26 < (len x15) then
    (idx x15 x26).bind fun x30 =>
    (idx x23 x30).bind fun x36 =>
    (cat x36 [x11]).bind fun x46 =>
    some (.go ((x23.set (x30).toNat x46), (w64 (x26 + 1))))
  else
    some (.ret x23)
def dom_ahead.bd9 (a1 : List (List Int)) (x8 : List (List Int)) (x11 : Int) : Option (Ex (List (List Int)) (List (List Int) × Int)) :=
  if x11 < (len a1) then
    (idx a1 x11).bind fun x15 =>
    (whl (fun (s : (List (List Int) × Int)) => dom_ahead.bd24 x11 x15 s.1 s.2) FUEL (x8, 0)).bind fun z =>
    dom_ahead.nx24 x11 z
  else
    some (.ret x8)
def dom_ahead (a1 : List (List Int)) : Option (List (List Int)) :=
  (mkl (len a1) ([] : List Int)).bind fun x4 =>
  (whl (fun (s : (List (List Int) × Int)) => dom_ahead.bd9 a1 s.1 s.2) FUEL (x4, 0)).bind fun z =>
  dom_ahead.nx9 z
end Go.Proofs.YteaknconpkklhaaDoor
