/- The walk through the program's functions: each one's pure reading, and that a call does what it says. No conditions. -/
import Derived.Test.YteaknconpkklhaaDoorV10
set_option linter.unusedVariables false
set_option linter.unusedSimpArgs false
namespace Go.Proofs.YteaknconpkklhaaDoor
open Go Go.Proofs
/-! ### fettle/dom.meet -/
abbrev dom_meet.R (r : Int) (v : Value) (A : List FP) : Prop := .int .i64 r = v ∧ A = []
def dom_meet.nx8  (x11 : Int) : Option Int :=
  some x11
def dom_meet.nx31 (x13 : Int) (x15 : Int) : Option (Ex Int (Int × Int)) :=
  some (.go (x13, x15))
def dom_meet.bd31 (a1 : List Int) (a4 : List Int) (x13 : Int) (x14 : Int) : Option (Ex Int Int) :=
  (idx a4 x14).bind fun x16 =>
  (idx a4 x13).bind fun x22 =>
  if x16 > x22 then
    (idx a1 x14).bind fun x28 =>
    some (.go x28)
  else
    some (.ret x14)
def dom_meet.nx24 (a1 : List Int) (a4 : List Int) (x10 : Int) (x13 : Int) : Option (Ex Int (Int × Int)) :=
  (whl (fun (s : Int) => dom_meet.bd31 a1 a4 x13 s) FUEL x10).bind fun z =>
  dom_meet.nx31 x13 z
def dom_meet.bd24 (a1 : List Int) (a4 : List Int) (x10 : Int) (x12 : Int) : Option (Ex Int Int) :=
  (idx a4 x12).bind fun x34 =>
  (idx a4 x10).bind fun x40 =>
  if x34 > x40 then
    (idx a1 x12).bind fun x46 =>
    some (.go x46)
  else
    some (.ret x12)
def dom_meet.bd8 (a1 : List Int) (a4 : List Int) (x9 : Int) (x10 : Int) : Option (Ex Int (Int × Int)) :=
  if ¬ x9 = x10 then
    (whl (fun (s : Int) => dom_meet.bd24 a1 a4 x10 s) FUEL x9).bind fun z =>
    dom_meet.nx24 a1 a4 x10 z
  else
    some (.ret x9)
def dom_meet (a1 : List Int) (a4 : List Int) (a7 : Int) (a8 : Int) : Option Int :=
  (whl (fun (s : (Int × Int)) => dom_meet.bd8 a1 a4 s.1 s.2) FUEL (a7, a8)).bind fun z =>
  dom_meet.nx8 z
/-! ### fettle/dom.Nearest -/
abbrev dom_Nearest.R (r : List Int) (v : Value) (A : List FP) : Prop := ∃ (w1 : Value) (G1 : FP), w1 = v ∧ A = [G1] ∧ SlO 3 (kInt .i64) r w1 G1
def dom_Nearest.nx48  (x2840 : List Int) : Option (List Int) :=
  (idx x2840 0).bind fun x2843 =>
  some (x2840.set (0 : Int).toNat (-1))
def dom_Nearest.nx64  (x2857 : List Int) (x2860 : Bool) : Option (Ex (List Int) (List Int × Bool)) :=
  some (.go (x2857, x2860))
def dom_Nearest.jn74 (x2856 : Int) (x2861 : List Int) (x2864 : Bool) : Option (Ex (List Int × Bool) (List Int × Bool × Int)) :=
  some (.go (x2861, x2864, (w64 (x2856 + 1))))
def dom_Nearest.nx84 (x2852 : List Int) (x2855 : Bool) (x2856 : Int) (x2865 : Int) (x2881 : Int) : Option (Ex (List Int × Bool) (List Int × Bool × Int)) :=
  (idx x2852 x2865).bind fun x2882 =>
  if ¬ x2882 = x2881 then
    (idx x2852 x2865).bind fun x2888 =>
    dom_Nearest.jn74 x2856 (x2852.set (x2865).toNat x2881) true
  else
    dom_Nearest.jn74 x2856 x2852 x2855
def dom_Nearest.jn97 (x2880 : Int) (x2894 : Int) : Option (Ex Int (Int × Int)) :=
  some (.go (x2894, (w64 (x2880 + 1))))
def dom_Nearest.bd84 (x2827 : List Int) (x2852 : List Int) (x2871 : List Int) (x2879 : Int) (x2880 : Int) : Option (Ex Int (Int × Int)) :=
  if x2880 < (len x2871) then
    (idx x2871 x2880).bind fun x2895 =>
    (idx x2852 x2895).bind fun x2901 =>
    if x2901 < 0 then
      dom_Nearest.jn97 x2880 x2879
    else
      if x2879 < 0 then
        dom_Nearest.jn97 x2880 x2895
      else
        (dom_meet x2852 x2827 x2895 x2879).bind fun x2907 =>
        dom_Nearest.jn97 x2880 x2907
  else
    some (.ret x2879)
def dom_Nearest.bd64 (x1608 : List (List Int)) (x2827 : List Int) (x2849 : List Int) (x2852 : List Int) (x2855 : Bool) (x2856 : Int) : Option (Ex (List Int × Bool) (List Int × Bool × Int)) :=
  if x2856 < (len x2849) then
    (idx x2849 x2856).bind fun x2865 =>
    (idx x1608 x2865).bind fun x2871 =>
    (whl (fun (s : (Int × Int)) => dom_Nearest.bd84 x2827 x2852 x2871 s.1 s.2) FUEL (-1, 0)).bind fun z =>
    dom_Nearest.nx84 x2852 x2855 x2856 x2865 z
  else
    some (.ret (x2852, x2855))
def dom_Nearest.bd48 (x408 : List Int) (x1608 : List (List Int)) (x2827 : List Int) (x2836 : List Int) (x2839 : Bool) : Option (Ex (List Int) (List Int × Bool)) :=
  if x2839 = true then
    (from_ x408 1).bind fun x2849 =>
    (whl (fun (s : (List Int × Bool × Int)) => dom_Nearest.bd64 x1608 x2827 x2849 s.1 s.2.1 s.2.2) FUEL (x2836, false, 0)).bind fun z =>
    dom_Nearest.nx64 z.1 z.2
  else
    some (.ret x2836)
def dom_Nearest.nx35 (x408 : List Int) (x1608 : List (List Int)) (x2820 : List Int) (x2827 : List Int) : Option (List Int) :=
  if (len x408) = 0 then
    some x2820
  else
    (idx x2820 0).bind fun x2830 =>
    (whl (fun (s : (List Int × Bool)) => dom_Nearest.bd48 x408 x1608 x2827 s.1 s.2) FUEL ((x2820.set (0 : Int).toNat 0), true)).bind fun z =>
    dom_Nearest.nx48 z
def dom_Nearest.bd35 (x408 : List Int) (x2823 : List Int) (x2826 : Int) : Option (Ex (List Int) (List Int × Int)) :=
  if x2826 < (len x408) then
    (idx x408 x2826).bind fun x2908 =>
    (idx x2823 x2908).bind fun x2914 =>
    some (.go ((x2823.set (x2908).toNat x2826), (w64 (x2826 + 1))))
  else
    some (.ret x2823)
def dom_Nearest.nx26 (x408 : List Int) (x1608 : List (List Int)) (x2812 : List Int) (x2820 : List Int) : Option (List Int) :=
  (whl (fun (s : (List Int × Int)) => dom_Nearest.bd35 x408 s.1 s.2) FUEL (x2812, 0)).bind fun z =>
  dom_Nearest.nx35 x408 x1608 x2820 z
def dom_Nearest.bd26 (x2808 : List Int) (x2816 : List Int) (x2819 : Int) : Option (Ex (List Int) (List Int × Int)) :=
  if x2819 < (len x2808) then
    (idx x2816 x2819).bind fun x2920 =>
    some (.go ((x2816.set (x2819).toNat (-1)), (w64 (x2819 + 1))))
  else
    some (.ret x2816)
def dom_Nearest.jn18 (x408 : List Int) (x1608 : List (List Int)) (x2808 : List Int) (x2812 : List Int) : Option (List Int) :=
  (whl (fun (s : (List Int × Int)) => dom_Nearest.bd26 x2808 s.1 s.2) FUEL (x2808, 0)).bind fun z =>
  dom_Nearest.nx26 x408 x1608 x2812 z
def dom_Nearest (a1 : PFunc) : Option (List Int) :=
  (graph_Order a1).bind fun x408 =>
  (graph_Next a1).bind fun x1208 =>
  (dom_ahead x1208).bind fun x1608 =>
  (mkl (len x1608) (0 : Int)).bind fun x3727 =>
  (mkl (len x1608) (0 : Int)).bind fun x4927 =>
  dom_Nearest.jn18 x408 x1608 x3727 x4927
/-! ### fettle/dom.Dominates -/
abbrev dom_Dominates.R (r : List (List Bool)) (v : Value) (A : List FP) : Prop := ∃ (w1 : Value) (G1 : FP), w1 = v ∧ A = [G1] ∧ SlO 42 (kSl 4 kBool) r w1 G1
def dom_Dominates.nx28  (x2423 : List (List Bool)) : Option (List (List Bool)) :=
  some x2423
def dom_Dominates.nx42 (x2422 : Int) (x2430 : List (List Bool)) : Option (Ex (List (List Bool)) (List (List Bool) × Int)) :=
  some (.go (x2430, (w64 (x2422 + 1))))
def dom_Dominates.bd42 (x408 : List Int) (x1208 : List Bool) (x2422 : Int) (x2426 : List (List Bool)) (x2429 : Int) : Option (Ex (List (List Bool)) (List (List Bool) × Int)) :=
  (idx x1208 x2422).bind fun x2433 =>
  if x2433 = true ∧ x2429 ≥ 0 then
    (idx x2426 x2429).bind fun x2439 =>
    (idx x2439 x2422).bind fun x2448 =>
    (idx x408 x2429).bind fun x2454 =>
    some (.go ((x2426.set (x2429).toNat (x2439.set (x2422).toNat true)), x2454))
  else
    some (.ret x2426)
def dom_Dominates.bd28 (x408 : List Int) (x1208 : List Bool) (x2416 : List (List Bool)) (x2419 : List (List Bool)) (x2422 : Int) : Option (Ex (List (List Bool)) (List (List Bool) × Int)) :=
  if x2422 < (len x2416) then
    (whl (fun (s : (List (List Bool) × Int)) => dom_Dominates.bd42 x408 x1208 x2422 s.1 s.2) FUEL (x2419, x2422)).bind fun z =>
    dom_Dominates.nx42 x2422 z
  else
    some (.ret x2419)
def dom_Dominates.nx19 (x408 : List Int) (x1208 : List Bool) (x2416 : List (List Bool)) : Option (List (List Bool)) :=
  (whl (fun (s : (List (List Bool) × Int)) => dom_Dominates.bd28 x408 x1208 x2416 s.1 s.2) FUEL (x2416, 0)).bind fun z =>
  dom_Dominates.nx28 z
def dom_Dominates.bd19 (x408 : List Int) (x2408 : List (List Bool)) (x2412 : List (List Bool)) (x2415 : Int) : Option (Ex (List (List Bool)) (List (List Bool) × Int)) :=
  if x2415 < (len x2408) then
    (mkl (len x408) false).bind fun x2462 =>
    (idx x2412 x2415).bind fun x2466 =>
    some (.go ((x2412.set (x2415).toNat x2462), (w64 (x2415 + 1))))
  else
    some (.ret x2412)
def dom_Dominates (a1 : PFunc) : Option (List (List Bool)) :=
  (dom_Nearest a1).bind fun x408 =>
  (graph_Reached a1).bind fun x1208 =>
  (mkl (len x408) ([] : List Bool)).bind fun x2408 =>
  (whl (fun (s : (List (List Bool) × Int)) => dom_Dominates.bd19 x408 x2408 s.1 s.2) FUEL (x2408, 0)).bind fun z =>
  dom_Dominates.nx19 x408 x1208 z
/-! ### (*fettle/proper.looker).use -/
abbrev proper_looker_use.R (b1 : Nat) (a2 : PProperLooker) (v3 : Value) (v5 : Value) (v7 : Value) (v9 : Value) (r : Int) (v : Value) (A : List FP) : Prop := .tuple #[] = v ∧ A = [bx b1 85 [.int .i64 a2.f.params, .int .i64 a2.f.result, v3, v5, v7, v9, .int .i64 r]]
def proper_looker_use (a2 : PProperLooker) (a12 : Int) (a13 : Int) (a14 : Int) : Option Int :=
  (idx a2.makers a12).bind fun x15 =>
  (if a12 < a2.f.params then some true else (if x15.block ≥ 0 then (if ¬ x15.block = a13 then (idx a2.over x15.block).bind fun x25 =>
  (idx x25 a13).bind fun x33 =>
  some x33 else some false).bind fun t24 =>
  some (decide (t24 = true ∨ (x15.block = a13 ∧ x15.at_ < a14))) else some false).bind fun t23 =>
  some t23).bind fun t22 =>
  if (!t22) = true ∧ (a2.lowest < 0 ∨ a12 < a2.lowest) then
    some a12
  else
    some a2.lowest
end Go.Proofs.YteaknconpkklhaaDoor
