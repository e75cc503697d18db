/- Plain laws, part K: the trimmed function's blocks, their places. No conditions. -/
import Derived.Test.YtoflleabpkgdpaaQuL
set_option linter.unusedVariables false
set_option linter.unusedSimpArgs false
namespace Go.Proofs.Ytoflleabpkgdpaa
open Go Go.Proofs

theorem trimAt_small (f : PFunc) (hf : SmF f) (s : List Bool) (i : Nat) (B : PBlock) (h : trimAt f s i = some B) : SmB B := by
  unfold trimAt at h
  split at h
  · rename_i B0 hB0
    split at h
    · cases h
      obtain ⟨b1, b2, b3, b4, b5⟩ := hf.2.2.2 B0 (List.mem_of_getElem? hB0)
      refine ⟨b1, by simpa [trimB] using b2, by simpa [trimB] using b3, b4, fun p hp => ?_⟩
      simp only [trimB, List.mem_map] at hp
      obtain ⟨q, hq, rfl⟩ := hp
      exact Nat.le_trans (keptF_length _ _ _) (b5 q hq)
    · cases h
  · cases h
theorem trimF_small (f : PFunc) (hf : SmF f) (s : List Bool) : SmF (trimF f s) := by
  refine ⟨?_, hf.2.1, hf.2.2.1, fun B hB => ?_⟩
  · have := List.length_filterMap_le (trimAt f s) (List.range f.blocks.length)
    have h1 := hf.1
    simp only [trimF, List.length_range] at this ⊢; omega
  · simp only [trimF, List.mem_filterMap] at hB
    obtain ⟨i, _, hi⟩ := hB
    exact trimAt_small f hf s i B hi

/-! ### Places among those that are marked -/
def rk (s : List Bool) (i : Nat) : Nat := (s.take i).count true
theorem rk_succ (s : List Bool) (n : Nat) (h : n < s.length) : rk s (n + 1) = rk s n + (if s.getD n false = true then 1 else 0) := by
  unfold rk
  rw [List.take_succ_eq_append_getElem h, List.count_append]
  have : s.getD n false = s[n] := by simp [List.getD_eq_getElem?_getD, h]
  rw [this]
  cases s[n] <;> simp
theorem rk_le (s : List Bool) : ∀ (i : Nat), i ≤ s.length → rk s i ≤ i
  | 0, _ => by simp [rk]
  | i + 1, h => by
    have := rk_le s i (by omega)
    rw [rk_succ s i (by omega)]
    split <;> omega
section
variable {β : Type} {s : List Bool} {t : Nat → Option β} (h : ∀ i, i < s.length → (t i).isSome = s.getD i false)
include h
theorem fm_len : ∀ (n : Nat), n ≤ s.length → ((List.range n).filterMap t).length = rk s n
  | 0, _ => by simp [rk]
  | n + 1, hn => by
    have ih := fm_len n (by omega)
    have hs := h n (by omega)
    rw [List.range_succ, List.filterMap_append, List.length_append, ih, rk_succ s n (by omega), ← hs]
    cases ht : t n <;> simp [ht]
theorem fm_get : ∀ (n i : Nat), n ≤ s.length → i < n → s.getD i false = true → ((List.range n).filterMap t)[rk s i]? = t i
  | 0, i, _, hi, _ => by omega
  | n + 1, i, hn, hi, hs => by
    have hl := fm_len h n (by omega)
    rw [List.range_succ, List.filterMap_append]
    rcases Nat.lt_or_ge i n with hlt | hge
    · have ih := fm_get n i (by omega) hlt hs
      have hsome := h i (by omega)
      rw [hs] at hsome
      obtain ⟨x, hx⟩ := Option.isSome_iff_exists.1 hsome
      rw [hx] at ih
      rw [List.getElem?_append_left (List.getElem?_eq_some_iff.1 ih).1, ih, hx]
    · obtain rfl : i = n := by omega
      rw [List.getElem?_append_right (by omega), hl, Nat.sub_self]
      have hsome := h i (by omega)
      rw [hs] at hsome
      obtain ⟨x, hx⟩ := Option.isSome_iff_exists.1 hsome
      simp [hx]
theorem fm_all : ∀ (n k : Nat), n ≤ s.length → k < ((List.range n).filterMap t).length → ∃ i, i < n ∧ s.getD i false = true ∧ k = rk s i
  | 0, k, _, hk => by simp at hk
  | n + 1, k, hn, hk => by
    have hl := fm_len h n (by omega)
    rw [fm_len h (n + 1) hn, rk_succ s n (by omega)] at hk
    rcases Nat.lt_or_ge k (rk s n) with hlt | hge
    · obtain ⟨i, h1, h2, h3⟩ := fm_all n k (by omega) (by omega)
      exact ⟨i, by omega, h2, h3⟩
    · by_cases hs : s.getD n false = true
      · rw [if_pos hs] at hk
        exact ⟨n, by omega, hs, by omega⟩
      · rw [if_neg hs] at hk; omega
end
theorem trimAt_some (f : PFunc) (s : List Bool) (hl : s.length = f.blocks.length) (i : Nat) (hi : i < s.length) : (trimAt f s i).isSome = s.getD i false := by
  have hi' : i < f.blocks.length := by omega
  unfold trimAt
  rw [List.getElem?_eq_getElem hi']
  cases hb : s.getD i false <;> simp
theorem trimF_len (f : PFunc) (s : List Bool) (hl : s.length = f.blocks.length) : (trimF f s).blocks.length = s.count true := by
  have := fm_len (trimAt_some f s hl) s.length (Nat.le_refl _)
  simp only [trimF, ← hl, this, rk, List.take_length]
theorem trimF_get (f : PFunc) (s : List Bool) (hl : s.length = f.blocks.length) (i : Nat) (hi : i < f.blocks.length) (hs : s.getD i false = true) :
    (trimF f s).blocks[rk s i]? = some (trimB s (preds (nexts f) i) f.blocks[i]) := by
  have := fm_get (trimAt_some f s hl) s.length i (Nat.le_refl _) (by omega) hs
  simp only [trimF, ← hl, this]
  simp only [trimAt, List.getElem?_eq_getElem hi, hs, if_true]
theorem trimF_all (f : PFunc) (s : List Bool) (hl : s.length = f.blocks.length) (k : Nat) (hk : k < (trimF f s).blocks.length) : ∃ i, i < f.blocks.length ∧ s.getD i false = true ∧ k = rk s i := by
  have := fm_all (trimAt_some f s hl) s.length k (Nat.le_refl _) (by simp only [trimF, ← hl] at hk; exact hk)
  obtain ⟨i, h1, h2, h3⟩ := this
  exact ⟨i, by omega, h2, h3⟩
theorem sn_iff {s : List Bool} {v : Nat} : sn s v ↔ v < s.length ∧ s.getD v false = true := by
  unfold sn
  rw [List.getD_eq_getElem?_getD]
  constructor
  · intro h; exact ⟨(List.getElem?_eq_some_iff.1 h).1, by rw [h]; rfl⟩
  · rintro ⟨h1, h2⟩; rw [List.getElem?_eq_getElem h1] at h2 ⊢; exact congrArg some h2
theorem renum_num (s : List Bool) (w : Nat) (h : w < s.length) (hs : s.getD w false = true) : renum (numF s) (w : Int) = (rk s w : Int) := by
  unfold renum
  rw [if_pos ⟨by omega, by rw [numF_length]; omega⟩]
  have := numF_get s w h
  have h2 : s[w] = true := by simpa [List.getD_eq_getElem?_getD, h] using hs
  rw [if_pos h2] at this
  simp only [Int.toNat_natCast, List.getD_eq_getElem?_getD, this]; rfl
end Go.Proofs.Ytoflleabpkgdpaa
