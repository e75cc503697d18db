/- Plain laws, part A: loops with a bound on their rounds, numbers in range, lists. No conditions. -/
import Derived.Test.YtpmcbahahjelnaaFwU
set_option linter.unusedVariables false
set_option linter.unusedSimpArgs false
namespace Go.Proofs.Ytpmcbahahjelnaa
open Go

theorem lt_FUEL {n : Nat} (h : n ≤ maxLen) : n < FUEL := by
  have : maxLen < FUEL := by unfold FUEL maxLen; decide
  omega
theorem w64_id {x : Int} (h : inI64 x) : w64 x = x := by
  obtain ⟨h1, h2⟩ := h
  simp only [w64, IntKind.wrap, IntKind.signed, IntKind.bits, IntKind.min, Bool.true_and, decide_eq_true_eq, ge_iff_le]
  split <;> omega
theorem w64_nat {n : Nat} (h : n ≤ 9223372036854775807) : w64 (n : Int) = n := w64_id ⟨by omega, by omega⟩
theorem w64_succ {n : Nat} (h : n < 9223372036854775807) : w64 ((n : Int) + 1) = ((n + 1 : Nat) : Int) := by
  rw [show ((n : Int) + 1) = ((n + 1 : Nat) : Int) by omega]; exact w64_nat (by omega)
theorem idx_nat {α : Type} (xs : List α) (i : Nat) : idx xs (i : Int) = xs[i]? := by simp [idx]
theorem idx_lt {α : Type} {xs : List α} {i : Nat} (h : i < xs.length) : idx xs (i : Int) = some xs[i] := by rw [idx_nat, List.getElem?_eq_getElem h]
theorem len_lt {α : Type} (xs : List α) (i : Nat) : (i : Int) < len xs ↔ i < xs.length := by simp [len]

/-- A loop whose states are known one by one. -/
theorem whl_run {ρ σ : Type} {body : σ → Option (Ex ρ σ)} {r : ρ} : ∀ (n k : Nat) (st : Nat → σ), (∀ i, i < n → body (st i) = some (.go (st (i + 1)))) → body (st n) = some (.ret r) → n < k → whl body k (st 0) = some r
  | 0, k, st, _, he, hk => by
    obtain ⟨k, rfl⟩ : ∃ m, k = m + 1 := ⟨k - 1, by omega⟩
    simp [whl, he]
  | n + 1, k, st, hs, he, hk => by
    obtain ⟨k, rfl⟩ : ∃ m, k = m + 1 := ⟨k - 1, by omega⟩
    simp only [whl, hs 0 (by omega), Option.bind_some]
    exact whl_run n k (fun i => st (i + 1)) (fun i hi => hs (i + 1) (by omega)) he (by omega)
/-- A loop by a measure: what holds at each round's head. -/
theorem whl_ex {ρ σ : Type} {body : σ → Option (Ex ρ σ)} (I : σ → Prop) (m : σ → Nat) (R : ρ → Prop) (h : ∀ s, I s → (∃ r, body s = some (.ret r) ∧ R r) ∨ ∃ s', body s = some (.go s') ∧ I s' ∧ m s' < m s) :
    ∀ (k : Nat) (s : σ), I s → m s < k → ∃ r, whl body k s = some r ∧ R r
  | 0, s, _, hk => by omega
  | k + 1, s, hI, hk => by
    rcases h s hI with ⟨r, hb, hr⟩ | ⟨s', hb, hI', hm⟩
    · exact ⟨r, by simp [whl, hb], hr⟩
    · obtain ⟨r, h1, h2⟩ := whl_ex I m R h k s' hI' (by omega)
      exact ⟨r, by simp [whl, hb, h1], h2⟩
/-- Two loops in step. -/
theorem whl_two {ρ σ ρ' σ' : Type} {b : σ → Option (Ex ρ σ)} {b' : σ' → Option (Ex ρ' σ')} (S : σ → σ' → Prop) (R : ρ → ρ' → Prop)
    (h : ∀ s s', S s s' → (b s = none ∧ b' s' = none) ∨ (∃ r r', b s = some (.ret r) ∧ b' s' = some (.ret r') ∧ R r r') ∨ ∃ t t', b s = some (.go t) ∧ b' s' = some (.go t') ∧ S t t') :
    ∀ (k : Nat) (s : σ) (s' : σ'), S s s' → (whl b k s = none ∧ whl b' k s' = none) ∨ ∃ r r', whl b k s = some r ∧ whl b' k s' = some r' ∧ R r r'
  | 0, s, s', _ => .inl ⟨rfl, rfl⟩
  | k + 1, s, s', hS => by
    rcases h s s' hS with ⟨h1, h2⟩ | ⟨r, r', h1, h2, h3⟩ | ⟨t, t', h1, h2, h3⟩
    · exact .inl ⟨by simp [whl, h1], by simp [whl, h2]⟩
    · exact .inr ⟨r, r', by simp [whl, h1], by simp [whl, h2], h3⟩
    · rcases whl_two S R h k t t' h3 with ⟨g1, g2⟩ | ⟨r, r', g1, g2, g3⟩
      · exact .inl ⟨by simp [whl, h1, g1], by simp [whl, h2, g2]⟩
      · exact .inr ⟨r, r', by simp [whl, h1, g1], by simp [whl, h2, g2], g3⟩
theorem foldl_take {α β : Type} (g : β → α → β) (a : β) (xs : List α) {i : Nat} (h : i < xs.length) : (xs.take (i + 1)).foldl g a = g ((xs.take i).foldl g a) xs[i] := by
  rw [List.take_succ_eq_append_getElem h, List.foldl_append]; rfl
end Go.Proofs.Ytpmcbahahjelnaa
