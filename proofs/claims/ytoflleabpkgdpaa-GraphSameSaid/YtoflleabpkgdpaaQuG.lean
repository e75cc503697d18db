/- Plain laws, part G: rows turned round. No conditions. -/
import Derived.Test.YtoflleabpkgdpaaQuF
set_option linter.unusedVariables false
set_option linter.unusedSimpArgs false
namespace Go.Proofs.Ytoflleabpkgdpaa
open Go

/-- A row whose first i and last i are exchanged. -/
def swp (a : List Int) (i : Nat) : List Int := (List.range a.length).map fun v => if v < i ∨ a.length - i ≤ v then a.getD (a.length - 1 - v) 0 else a.getD v 0
theorem swp_length (a : List Int) (i : Nat) : (swp a i).length = a.length := by simp [swp]
theorem swp_get (a : List Int) (i v : Nat) (h : v < a.length) : (swp a i)[v]? = some (if v < i ∨ a.length - i ≤ v then a.getD (a.length - 1 - v) 0 else a.getD v 0) := by
  simp [swp, h]
theorem swp_zero (a : List Int) : swp a 0 = a := by
  apply List.ext_getElem?
  intro v
  rcases Nat.lt_or_ge v a.length with h | h
  · rw [swp_get _ _ _ h, if_neg (by omega), List.getD_eq_getElem?_getD, List.getElem?_eq_getElem h]; rfl
  · rw [List.getElem?_eq_none (by rw [swp_length]; exact h), List.getElem?_eq_none h]
theorem swp_rev (a : List Int) (i : Nat) (h : a.length ≤ 2 * i + 1) : swp a i = a.reverse := by
  apply List.ext_getElem?
  intro v
  rcases Nat.lt_or_ge v a.length with hv | hv
  · rw [swp_get _ _ _ hv, List.getElem?_reverse hv]
    rw [List.getElem?_eq_getElem (by omega)]
    by_cases hc : v < i ∨ a.length - i ≤ v
    · rw [if_pos hc, List.getD_eq_getElem?_getD, List.getElem?_eq_getElem (by omega)]; rfl
    · rw [if_neg hc]
      have : a.length - 1 - v = v := by omega
      simp only [this, List.getD_eq_getElem?_getD, List.getElem?_eq_getElem hv, Option.getD_some]
  · rw [List.getElem?_eq_none (by rw [swp_length]; exact hv), List.getElem?_eq_none (by simpa using hv)]
theorem swp_step (a : List Int) (i : Nat) (h : i + i + 1 < a.length) : ((swp a i).set i (a.getD (a.length - 1 - i) 0)).set (a.length - 1 - i) (a.getD i 0) = swp a (i + 1) := by
  apply List.ext_getElem?
  intro v
  rcases Nat.lt_or_ge v a.length with hv | hv
  · rw [List.getElem?_set, List.getElem?_set, swp_get _ _ _ hv, swp_get _ _ _ hv]
    simp only [List.length_set, swp_length]
    by_cases h1 : a.length - 1 - i = v
    · rw [if_pos h1, if_pos (by omega), if_pos (by omega)]
      congr 2; omega
    · rw [if_neg h1]
      by_cases h2 : i = v
      · rw [if_pos h2, if_pos (by omega), if_pos (by omega), h2]
      · rw [if_neg h2]
        by_cases h3 : v < i ∨ a.length - i ≤ v
        · rw [if_pos h3, if_pos (by omega)]
        · rw [if_neg h3, if_neg (by omega)]
  · rw [List.getElem?_eq_none (by simp [swp_length]; exact hv), List.getElem?_eq_none (by rw [swp_length]; exact hv)]
theorem reverse_eq (a : List Int) (hl : a.length ≤ 70) : slices_Reverse a = some a.reverse := by
  unfold slices_Reverse
  have hrun := whl_run (body := fun (s : List Int × Int × Int) => slices_Reverse.bd13 s.1 s.2.1 s.2.2) (r := a.reverse) (a.length / 2) FUEL
    (fun i => (swp a i, (i : Int), (a.length : Int) - (i + 1 : Nat))) (fun i hi => by
      have h1 : i + i + 1 < a.length := by omega
      have hjj : (a.length : Int) - ((i + 1 : Nat) : Int) = ((a.length - 1 - i : Nat) : Int) := by omega
      have e1 : idx (swp a i) ((a.length - 1 - i : Nat) : Int) = some (a.getD (a.length - 1 - i) 0) := by rw [idx_nat, swp_get _ _ _ (by omega), if_neg (by omega)]
      have e2 : idx (swp a i) (i : Int) = some (a.getD i 0) := by rw [idx_nat, swp_get _ _ _ (by omega), if_neg (by omega)]
      have e3 : ∃ y, idx ((swp a i).set i (a.getD (a.length - 1 - i) 0)) ((a.length - 1 - i : Nat) : Int) = some y := ⟨_, idx_lt (by rw [List.length_set, swp_length]; omega)⟩
      obtain ⟨y, e3⟩ := e3
      have e4 : w64 (((a.length - 1 - i : Nat) : Int) - 1) = (a.length : Int) - ((i + 1 + 1 : Nat) : Int) := by rw [w64_id ⟨by omega, by omega⟩]; omega
      have e5 : w64 ((i : Int) + 1) = ((i + 1 : Nat) : Int) := w64_succ (by omega)
      simp only [slices_Reverse.bd13, hjj]
      rw [if_pos (by omega)]
      simp only [e1, e2, Option.bind_some, Int.toNat_natCast, e3, slices_Reverse.jn28, e4, e5, swp_step a i h1]) (by
      simp only [slices_Reverse.bd13]
      rw [if_neg (by omega), swp_rev a _ (by omega)]) (lt_FUEL (by simp only [maxLen]; omega))
  rw [swp_zero] at hrun
  have h0 : w64 ((a.length : Int) - 1) = (a.length : Int) - ((0 + 1 : Nat) : Int) := by rw [w64_id ⟨by omega, by omega⟩]; omega
  simp only [len]
  rw [h0]
  have e0 : (((0 : Nat) : Int)) = 0 := rfl
  simp only [e0] at hrun
  rw [hrun]
  rfl
end Go.Proofs.Ytoflleabpkgdpaa
