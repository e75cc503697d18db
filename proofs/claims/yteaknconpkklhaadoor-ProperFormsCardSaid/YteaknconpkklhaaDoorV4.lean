/- The walk through the program's functions: each one's pure reading, and that a call does what it says. No conditions. -/
import Derived.Test.YteaknconpkklhaaDoorV3
set_option linter.unusedVariables false
set_option linter.unusedSimpArgs false
namespace Go.Proofs.YteaknconpkklhaaDoor
open Go Go.Proofs
/-! ### fettle/live.Live -/
abbrev live_Live.R (r : List (List Bool) × List (List Bool) × GErr) (v : Value) (A : List FP) : Prop := ∃ (w1 : Value) (G1 : FP) (w2 : Value) (G2 : FP) (w3 : Value) (G3 : FP), .tuple #[w1, w2, w3] = v ∧ A = [G1, G2, G3] ∧ SlO 42 (kSl 4 kBool) r.1 w1 G1 ∧ SlO 42 (kSl 4 kBool) r.2.1 w2 G2 ∧ ErO 38 69 74 r.2.2 w3 G3
def live_Live.nx43  (x4839 : List (List Bool)) (x4842 : List (List Bool)) : Option (List (List Bool) × List (List Bool) × GErr) :=
  some (x4839, x4842, GErr.no)
def live_Live.nx57  (x4854 : List (List Bool)) (x4857 : List (List Bool)) (x4860 : Bool) : Option (Ex (List (List Bool) × List (List Bool)) (List (List Bool) × List (List Bool) × Bool)) :=
  some (.go (x4854, x4857, x4860))
def live_Live.nx89 (x4853 : Int) (x4874 : List (List Bool)) (x9684 : List (List Bool)) (x9687 : Bool) : Option (Ex (List (List Bool) × List (List Bool) × Bool) (List (List Bool) × List (List Bool) × Bool × Int)) :=
  some (.go (x9684, x4874, x9687, (w64 (x4853 - 1))))
def live_Live.jn99 (x9683 : Int) (x9688 : List (List Bool)) (x9691 : Bool) : Option (Ex (List (List Bool) × Bool) (List (List Bool) × Bool × Int)) :=
  some (.go (x9688, x9691, (w64 (x9683 + 1))))
def live_Live.bd89 (x4853 : Int) (x8479 : List Bool) (x9679 : List (List Bool)) (x9682 : Bool) (x9683 : Int) : Option (Ex (List (List Bool) × Bool) (List (List Bool) × Bool × Int)) :=
  if x9683 < (len x8479) then
    (idx x8479 x9683).bind fun x9692 =>
    (idx x9679 x4853).bind fun x9698 =>
    (idx x9698 x9683).bind fun x9706 =>
    if (!(x9692 == x9706)) = true then
      (idx x9679 x4853).bind fun x9712 =>
      (idx x9712 x9683).bind fun x9721 =>
      live_Live.jn99 x9683 (x9679.set (x4853).toNat (x9712.set (x9683).toNat x9692)) true
    else
      live_Live.jn99 x9683 x9679 x9682
  else
    some (.ret (x9679, x9682))
def live_Live.nx74 (x12 : PFunc) (x4846 : List (List Bool)) (x4853 : Int) (x4874 : List (List Bool)) (x4877 : Bool) : Option (Ex (List (List Bool) × List (List Bool) × Bool) (List (List Bool) × List (List Bool) × Bool × Int)) :=
  (idx x12.blocks x4853).bind fun x6079 =>
  (idx x4874 x4853).bind fun x7679 =>
  (live_begin x6079 x7679).bind fun x8479 =>
  (whl (fun (s : (List (List Bool) × Bool × Int)) => live_Live.bd89 x4853 x8479 s.1 s.2.1 s.2.2) FUEL (x4846, x4877, 0)).bind fun z =>
  live_Live.nx89 x4853 x4874 z.1 z.2
def live_Live.nx122 (x4873 : Int) (x9748 : List (List Bool)) (x9751 : Bool) : Option (Ex (List (List Bool) × Bool) (List (List Bool) × Bool × Int)) :=
  some (.go (x9748, x9751, (w64 (x4873 + 1))))
def live_Live.jn132 (x9747 : Int) (x9752 : List (List Bool)) (x9755 : Bool) : Option (Ex (List (List Bool) × Bool) (List (List Bool) × Bool × Int)) :=
  some (.go (x9752, x9755, (w64 (x9747 + 1))))
def live_Live.bd122 (x4853 : Int) (x9735 : List Bool) (x9743 : List (List Bool)) (x9746 : Bool) (x9747 : Int) : Option (Ex (List (List Bool) × Bool) (List (List Bool) × Bool × Int)) :=
  if x9747 < (len x9735) then
    (idx x9735 x9747).bind fun x9756 =>
    (if x9756 = true then (idx x9743 x4853).bind fun x9780 =>
    (idx x9780 x9747).bind fun x9788 =>
    some (!x9788) else some false).bind fun t9762 =>
    if t9762 = true then
      (idx x9743 x4853).bind fun x9763 =>
      (idx x9763 x9747).bind fun x9772 =>
      live_Live.jn132 x9747 (x9743.set (x4853).toNat (x9763.set (x9747).toNat true)) true
    else
      live_Live.jn132 x9747 x9743 x9746
  else
    some (.ret (x9743, x9746))
def live_Live.bd74 (x4846 : List (List Bool)) (x4853 : Int) (x4861 : List Int) (x4869 : List (List Bool)) (x4872 : Bool) (x4873 : Int) : Option (Ex (List (List Bool) × Bool) (List (List Bool) × Bool × Int)) :=
  if x4873 < (len x4861) then
    (idx x4861 x4873).bind fun x9729 =>
    (idx x4846 x9729).bind fun x9735 =>
    (whl (fun (s : (List (List Bool) × Bool × Int)) => live_Live.bd122 x4853 x9735 s.1 s.2.1 s.2.2) FUEL (x4869, x4872, 0)).bind fun z =>
    live_Live.nx122 x4873 z.1 z.2
  else
    some (.ret (x4869, x4872))
def live_Live.bd57 (x12 : PFunc) (x424 : List (List Int)) (x4846 : List (List Bool)) (x4849 : List (List Bool)) (x4852 : Bool) (x4853 : Int) : Option (Ex (List (List Bool) × List (List Bool) × Bool) (List (List Bool) × List (List Bool) × Bool × Int)) :=
  if x4853 ≥ 0 then
    (idx x424 x4853).bind fun x4861 =>
    (whl (fun (s : (List (List Bool) × Bool × Int)) => live_Live.bd74 x4846 x4853 x4861 s.1 s.2.1 s.2.2) FUEL (x4849, x4852, 0)).bind fun z =>
    live_Live.nx74 x12 x4846 x4853 z.1 z.2
  else
    some (.ret (x4846, x4849, x4852))
def live_Live.bd43 (x12 : PFunc) (x424 : List (List Int)) (x4832 : List (List Bool)) (x4835 : List (List Bool)) (x4838 : Bool) : Option (Ex (List (List Bool) × List (List Bool)) (List (List Bool) × List (List Bool) × Bool)) :=
  if x4838 = true then
    (whl (fun (s : (List (List Bool) × List (List Bool) × Bool × Int)) => live_Live.bd57 x12 x424 s.1 s.2.1 s.2.2.1 s.2.2.2) FUEL (x4832, x4835, false, (w64 ((len x12.blocks) - 1)))).bind fun z =>
    live_Live.nx57 z.1 z.2.1 z.2.2
  else
    some (.ret (x4832, x4835))
def live_Live.nx34 (x12 : PFunc) (x424 : List (List Int)) (x2825 : List (List Bool)) (x4829 : List (List Bool)) : Option (List (List Bool) × List (List Bool) × GErr) :=
  (whl (fun (s : (List (List Bool) × List (List Bool) × Bool)) => live_Live.bd43 x12 x424 s.1 s.2.1 s.2.2) FUEL (x2825, x4829, true)).bind fun z =>
  live_Live.nx43 z.1 z.2
def live_Live.nx166 (x4828 : Int) (x9811 : List (List Bool)) : Option (Ex (List (List Bool)) (List (List Bool) × Int)) :=
  some (.go (x9811, (w64 (x4828 + 1))))
def live_Live.nx181 (x9810 : Int) (x9827 : List (List Bool)) : Option (Ex (List (List Bool)) (List (List Bool) × Int)) :=
  some (.go (x9827, (w64 (x9810 + 1))))
def live_Live.bd181 (x1224 : List (List Int)) (x4828 : Int) (x9814 : PPhi) (x9823 : List (List Bool)) (x9826 : Int) : Option (Ex (List (List Bool)) (List (List Bool) × Int)) :=
  if x9826 < (len x9814.args) then
    (idx x9814.args x9826).bind fun x9830 =>
    (idx x1224 x4828).bind fun x9836 =>
    (idx x9836 x9826).bind fun x9844 =>
    (idx x9823 x9844).bind fun x9850 =>
    (idx x9850 x9830).bind fun x9859 =>
    some (.go ((x9823.set (x9844).toNat (x9850.set (x9830).toNat true)), (w64 (x9826 + 1))))
  else
    some (.ret x9823)
def live_Live.bd166 (x1224 : List (List Int)) (x4828 : Int) (x9794 : PBlock) (x9807 : List (List Bool)) (x9810 : Int) : Option (Ex (List (List Bool)) (List (List Bool) × Int)) :=
  if x9810 < (len x9794.phis) then
    (idx x9794.phis x9810).bind fun x9814 =>
    (whl (fun (s : (List (List Bool) × Int)) => live_Live.bd181 x1224 x4828 x9814 s.1 s.2) FUEL (x9807, 0)).bind fun z =>
    live_Live.nx181 x9810 z
  else
    some (.ret x9807)
def live_Live.bd34 (x12 : PFunc) (x1224 : List (List Int)) (x4825 : List (List Bool)) (x4828 : Int) : Option (Ex (List (List Bool)) (List (List Bool) × Int)) :=
  if x4828 < (len x12.blocks) then
    (idx x12.blocks x4828).bind fun x9794 =>
    (whl (fun (s : (List (List Bool) × Int)) => live_Live.bd166 x1224 x4828 x9794 s.1 s.2) FUEL (x4825, 0)).bind fun z =>
    live_Live.nx166 x4828 z
  else
    some (.ret x4825)
def live_Live (a1 : PModule) (a4 : Int) : Option (List (List Bool) × List (List Bool) × GErr) :=
  (live_has a1 a4).bind fun x6 =>
  if ¬ x6 = GErr.no then
    some (([] : List (List Bool)), ([] : List (List Bool)), x6)
  else
    (idx a1.funcs a4).bind fun x12 =>
    (graph_Next x12).bind fun x424 =>
    (check_Ahead x12).bind fun x1224 =>
    (live_table x12).bind fun x2825 =>
    (live_table x12).bind fun x3625 =>
    (whl (fun (s : (List (List Bool) × Int)) => live_Live.bd34 x12 x1224 s.1 s.2) FUEL (x3625, 0)).bind fun z =>
    live_Live.nx34 x12 x424 x2825 z
/-! ### fettle/fettlelaw08.up -/
abbrev fettlelaw08_up.R (r : Bool) (v : Value) (A : List FP) : Prop := .bool r = v ∧ A = []
def fettlelaw08_up  : Option Bool :=
  (live_Live (⟨[(⟨1, 1, [1], [(⟨([] : List PPhi), ([] : List PInstr), (⟨3, 0, ([] : List Int)⟩ : PTerm)⟩ : PBlock)]⟩ : PFunc)]⟩ : PModule) 0).bind fun x14 =>
  (if x14.2.2 = GErr.no ∧ (len x14.1) = 1 then (idx x14.1 0).bind fun x64 =>
  some (decide ((len x64) = 1)) else some false).bind fun t24 =>
  (if t24 = true then (idx x14.1 0).bind fun x50 =>
  (idx x50 0).bind fun x58 =>
  some x58 else some false).bind fun t25 =>
  (if t25 = true ∧ (len x14.2.1) = 1 then (idx x14.2.1 0).bind fun x42 =>
  some (decide ((len x42) = 1)) else some false).bind fun t26 =>
  (if t26 = true then (idx x14.2.1 0).bind fun x28 =>
  (idx x28 0).bind fun x36 =>
  some (!x36) else some false).bind fun t27 =>
  some t27
end Go.Proofs.YteaknconpkklhaaDoor
