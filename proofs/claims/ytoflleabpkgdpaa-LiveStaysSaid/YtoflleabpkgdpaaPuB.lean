/- Plain laws, part B: loops that scan a list and may return early; slices.Contains; equality of lists. No conditions. -/
import Derived.Test.YtoflleabpkgdpaaPuA
import Derived.Test.YtoflleabpkgdpaaGt
set_option linter.unusedVariables false
set_option linter.unusedSimpArgs false
namespace Go.Proofs.Ytoflleabpkgdpaa
open Go

/-- A scan of a list by its index: what comes first is returned, if anything. -/
theorem whl_scan {ρ α : Type} (xs : List α) (f : Nat → α → Option ρ) (body : Int → Option (Ex (Ex ρ Unit) Int))
    (h : ∀ i (hi : i < xs.length), body (i : Int) = some (match f i xs[i] with | some r => .ret (.ret r) | none => .go ((i + 1 : Nat) : Int)))
    (he : body (xs.length : Int) = some (.ret (.go ()))) : ∀ (d m k : Nat), m + d = xs.length → (∀ j (hj : j < xs.length), j < m → f j xs[j] = none) → d < k →
    (∃ i, ∃ hi : i < xs.length, ∃ r, f i xs[i] = some r ∧ (∀ j (hj : j < xs.length), j < i → f j xs[j] = none) ∧ whl body k (m : Int) = some (.ret r)) ∨
    ((∀ i (hi : i < xs.length), f i xs[i] = none) ∧ whl body k (m : Int) = some (.go ()))
  | 0, m, k, hm, hn, hk => by
    obtain ⟨k, rfl⟩ : ∃ q, k = q + 1 := ⟨k - 1, by omega⟩
    have : m = xs.length := by omega
    subst this
    exact .inr ⟨fun i hi => hn i hi hi, by simp [whl, he]⟩
  | d + 1, m, k, hm, hn, hk => by
    obtain ⟨k, rfl⟩ : ∃ q, k = q + 1 := ⟨k - 1, by omega⟩
    have hlt : m < xs.length := by omega
    cases hf : f m xs[m] with
    | some r => exact .inl ⟨m, hlt, r, hf, fun j hj hjm => hn j hj hjm, by simp [whl, h m hlt, hf]⟩
    | none =>
      have hw : whl body (k + 1) (m : Int) = whl body k ((m + 1 : Nat) : Int) := by simp [whl, h m hlt, hf]
      rw [hw]
      refine whl_scan xs f body h he d (m + 1) k (by omega) (fun j hj hjm => ?_) (by omega)
      rcases Nat.lt_succ_iff_lt_or_eq.1 hjm with h1 | h1
      · exact hn j hj h1
      · subst h1; exact hf
theorem scan0 {ρ α : Type} (xs : List α) (f : Nat → α → Option ρ) (body : Int → Option (Ex (Ex ρ Unit) Int)) (hl : xs.length ≤ maxLen)
    (h : ∀ i (hi : i < xs.length), body (i : Int) = some (match f i xs[i] with | some r => .ret (.ret r) | none => .go ((i + 1 : Nat) : Int)))
    (he : body (xs.length : Int) = some (.ret (.go ()))) :
    (∃ i, ∃ hi : i < xs.length, ∃ r, f i xs[i] = some r ∧ (∀ j (hj : j < xs.length), j < i → f j xs[j] = none) ∧ whl body FUEL 0 = some (.ret r)) ∨
    ((∀ i (hi : i < xs.length), f i xs[i] = none) ∧ whl body FUEL 0 = some (.go ())) :=
  whl_scan xs f body h he xs.length 0 FUEL (by omega) (fun j hj h0 => by omega) (lt_FUEL hl)
theorem w64_at {n m : Nat} (h : n < m) (hm : m ≤ maxLen) : w64 ((n : Int) + 1) = ((n + 1 : Nat) : Int) := w64_succ (by simp only [maxLen] at hm; omega)

theorem ints_eq (a b : List Int) (hl : a.length ≤ maxLen) : fettlelaw05_Ints a b = some (decide (a = b)) := by
  unfold fettlelaw05_Ints
  by_cases hne : len a = len b
  · have hne' : a.length = b.length := by simp only [len] at hne; omega
    rw [if_neg (by simpa using hne)]
    have := scan0 a (fun i x => if x = b.getD i 0 then none else some false) (fun s => fettlelaw05_Ints.bd22 a b s) hl (fun i hi => by
      have hib : i < b.length := by omega
      simp only [fettlelaw05_Ints.bd22, len_lt, hi, if_true, idx_lt hi, idx_lt hib, Option.bind_some, List.getD_eq_getElem?_getD, List.getElem?_eq_getElem hib, Option.getD_some, w64_at hi hl]
      split <;> simp_all) (by simp [fettlelaw05_Ints.bd22, len])
    rcases this with ⟨i, hi, r, hf, _, hw⟩ | ⟨hall, hw⟩
    · rw [hw]
      simp only [Option.bind_some]
      have hib : i < b.length := by omega
      have : a ≠ b := by
        intro hab; subst hab
        simp [List.getD_eq_getElem?_getD, List.getElem?_eq_getElem hi] at hf
      split at hf
      · cases hf
      · cases hf; simp [this]
    · rw [hw]
      simp only [Option.bind_some, fettlelaw05_Ints.nx22]
      have : a = b := by
        apply List.ext_getElem hne'
        intro i h1 h2
        have := hall i h1
        simp only [List.getD_eq_getElem?_getD, List.getElem?_eq_getElem h2, Option.getD_some] at this
        split at this
        · assumption
        · cases this
      simp [this]
  · rw [if_pos hne]
    have : a ≠ b := fun h => hne (by rw [h])
    simp [this]
theorem index_ge (a : List Int) (x : Int) (hl : a.length ≤ maxLen) : ∃ i, slices_Index a x = some i ∧ (i ≥ 0 ↔ x ∈ a) := by
  unfold slices_Index
  have := scan0 a (fun i y => if x = y then some (i : Int) else none) (fun s => slices_Index.bd16 a x s) hl (fun i hi => by
    simp only [slices_Index.bd16, len_lt, hi, if_true, idx_lt hi, Option.bind_some, w64_at hi hl]
    split <;> rfl) (by simp [slices_Index.bd16, len])
  rcases this with ⟨i, hi, r, hf, _, hw⟩ | ⟨hall, hw⟩
  · split at hf
    · cases hf
      rename_i hx
      exact ⟨i, by rw [hw]; rfl, fun _ => hx ▸ List.getElem_mem hi, fun _ => by omega⟩
    · cases hf
  · refine ⟨-1, by rw [hw]; rfl, fun h => by omega, fun hx => ?_⟩
    obtain ⟨i, hi, he⟩ := List.getElem_of_mem hx
    have := hall i hi
    simp [he] at this
theorem contains_eq (a : List Int) (x : Int) (hl : a.length ≤ maxLen) : slices_Contains a x = some (decide (x ∈ a)) := by
  obtain ⟨i, h1, h2⟩ := index_ge a x hl
  unfold slices_Contains
  rw [h1]
  simp only [Option.bind_some, h2]
end Go.Proofs.Ytoflleabpkgdpaa
