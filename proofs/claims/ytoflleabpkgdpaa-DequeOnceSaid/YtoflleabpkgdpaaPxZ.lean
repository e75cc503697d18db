/- Plain laws, part x-Z: loops and lists. No conditions. -/
import Derived.Test.YtoflleabpkgdpaaPuA
set_option linter.unusedVariables false
set_option linter.unusedSimpArgs false
namespace Go.Proofs.Ytoflleabpkgdpaa
open Go Go.Proofs

/-- A scan of a list by its index: what comes first is returned, if anything. -/
theorem whl_scan {ρ α : Type} (xs : List α) (f : Nat → α → Option ρ) (body : Int → Option (Ex (Ex ρ Unit) Int))
    (h : ∀ i (hi : i < xs.length), body (i : Int) = some (match f i xs[i] with | some r => .ret (.ret r) | none => .go ((i + 1 : Nat) : Int)))
    (he : body (xs.length : Int) = some (.ret (.go ()))) : ∀ (d m k : Nat), m + d = xs.length → (∀ j (hj : j < xs.length), j < m → f j xs[j] = none) → d < k →
    (∃ i, ∃ hi : i < xs.length, ∃ r, f i xs[i] = some r ∧ (∀ j (hj : j < xs.length), j < i → f j xs[j] = none) ∧ whl body k (m : Int) = some (.ret r)) ∨
    ((∀ i (hi : i < xs.length), f i xs[i] = none) ∧ whl body k (m : Int) = some (.go ()))
  | 0, m, k, hm, hn, hk => by
    obtain ⟨k, rfl⟩ : ∃ q, k = q + 1 := ⟨k - 1, by omega⟩
    have : m = xs.length := by omega
    subst this
    exact .inr ⟨fun i hi => hn i hi hi, by simp [whl, he]⟩
  | d + 1, m, k, hm, hn, hk => by
    obtain ⟨k, rfl⟩ : ∃ q, k = q + 1 := ⟨k - 1, by omega⟩
    have hlt : m < xs.length := by omega
    cases hf : f m xs[m] with
    | some r => exact .inl ⟨m, hlt, r, hf, fun j hj hjm => hn j hj hjm, by simp [whl, h m hlt, hf]⟩
    | none =>
      have hw : whl body (k + 1) (m : Int) = whl body k ((m + 1 : Nat) : Int) := by simp [whl, h m hlt, hf]
      rw [hw]
      refine whl_scan xs f body h he d (m + 1) k (by omega) (fun j hj hjm => ?_) (by omega)
      rcases Nat.lt_succ_iff_lt_or_eq.1 hjm with h1 | h1
      · exact hn j hj h1
      · subst h1; exact hf
theorem scan0 {ρ α : Type} (xs : List α) (f : Nat → α → Option ρ) (body : Int → Option (Ex (Ex ρ Unit) Int)) (hl : xs.length ≤ maxLen)
    (h : ∀ i (hi : i < xs.length), body (i : Int) = some (match f i xs[i] with | some r => .ret (.ret r) | none => .go ((i + 1 : Nat) : Int)))
    (he : body (xs.length : Int) = some (.ret (.go ()))) :
    (∃ i, ∃ hi : i < xs.length, ∃ r, f i xs[i] = some r ∧ (∀ j (hj : j < xs.length), j < i → f j xs[j] = none) ∧ whl body FUEL 0 = some (.ret r)) ∨
    ((∀ i (hi : i < xs.length), f i xs[i] = none) ∧ whl body FUEL 0 = some (.go ())) :=
  whl_scan xs f body h he xs.length 0 FUEL (by omega) (fun j hj h0 => by omega) (lt_FUEL hl)
theorem w64_at {n m : Nat} (h : n < m) (hm : m ≤ maxLen) : w64 ((n : Int) + 1) = ((n + 1 : Nat) : Int) := w64_succ (by simp only [maxLen] at hm; omega)
theorem scan_all {α : Type} (xs : List α) (hl : xs.length ≤ maxLen) (Q : α → Prop) (body : Int → Option (Ex (Ex Bool Unit) Int))
    (h : ∀ i (hi : i < xs.length), body (i : Int) = some (.ret (.ret false)) ∨ (body (i : Int) = some (.go ((i + 1 : Nat) : Int)) ∧ Q xs[i])) (he : body (xs.length : Int) = some (.ret (.go ()))) :
    whl body FUEL 0 = some (.ret false) ∨ (whl body FUEL 0 = some (.go ()) ∧ ∀ x ∈ xs, Q x) := by
  have key := whl_ex (body := body) (fun s : Int => ∃ i : Nat, s = i ∧ i ≤ xs.length ∧ ∀ x ∈ xs.take i, Q x) (fun s => xs.length - s.toNat) (fun z : Ex Bool Unit => z = .ret false ∨ (z = .go () ∧ ∀ x ∈ xs, Q x)) (by
    rintro s ⟨i, rfl, hi, hq⟩
    rcases Nat.lt_or_ge i xs.length with hlt | hge
    · rcases h i hlt with hb | ⟨hb, hx⟩
      · exact .inl ⟨_, hb, .inl rfl⟩
      · refine .inr ⟨_, hb, ⟨i + 1, rfl, hlt, fun x hx' => ?_⟩, by simp; omega⟩
        rw [List.take_succ_eq_append_getElem hlt, List.mem_append, List.mem_singleton] at hx'
        rcases hx' with hx' | rfl
        · exact hq x hx'
        · exact hx
    · have : i = xs.length := by omega
      subst this
      exact .inl ⟨_, he, .inr ⟨rfl, fun x hx => hq x (by rw [List.take_length]; exact hx)⟩⟩) FUEL 0 ⟨0, rfl, Nat.zero_le _, by simp⟩ (by simp; exact lt_FUEL hl)
  obtain ⟨r, hr, rfl | ⟨rfl, hq⟩⟩ := key
  · exact .inl hr
  · exact .inr ⟨hr, hq⟩
theorem le_max {n m : Nat} (h : n ≤ m) (hm : m ≤ 1000) : n ≤ maxLen := by simp only [maxLen]; omega
/-- A loop of n rounds at most: what holds at each round's head. -/
theorem whl_for {ρ σ : Type} (n : Nat) (I : Nat → σ → Prop) (R : ρ → Prop) {body : σ → Option (Ex ρ σ)} (hn : n ≤ maxLen)
    (step : ∀ i s, i < n → I i s → (∃ r, body s = some (.ret r) ∧ R r) ∨ ∃ s', body s = some (.go s') ∧ I (i + 1) s')
    (done : ∀ s, I n s → ∃ r, body s = some (.ret r) ∧ R r) {s0 : σ} (h0 : I 0 s0) : ∃ r, whl body FUEL s0 = some r ∧ R r := by
  have key : ∀ (d i k : Nat) (s : σ), i + d = n → I i s → d < k → ∃ r, whl body k s = some r ∧ R r := by
    intro d
    induction d with
    | zero =>
      intro i k s hi hI hk
      obtain ⟨k, rfl⟩ : ∃ q, k = q + 1 := ⟨k - 1, by omega⟩
      obtain rfl : i = n := by omega
      obtain ⟨r, hb, hr⟩ := done s hI
      exact ⟨r, by simp [whl, hb], hr⟩
    | succ d ih =>
      intro i k s hi hI hk
      obtain ⟨k, rfl⟩ : ∃ q, k = q + 1 := ⟨k - 1, by omega⟩
      rcases step i s (by omega) hI with ⟨r, hb, hr⟩ | ⟨s', hb, hI'⟩
      · exact ⟨r, by simp [whl, hb], hr⟩
      · obtain ⟨r, h1, h2⟩ := ih (i + 1) k s' (by omega) hI' (by omega)
        exact ⟨r, by simp [whl, hb, h1], h2⟩
  exact key n 0 FUEL s0 (by omega) h0 (lt_FUEL hn)
/-- A loop that builds a list element by element. -/
theorem whl_map {α β ρ : Type} (xs : List α) (g : α → β) {body : List β × Int → Option (Ex ρ (List β × Int))} {r : ρ} (hl : xs.length ≤ maxLen)
    (h : ∀ i (hi : i < xs.length), body ((xs.take i).map g, (i : Int)) = some (.go ((xs.take i).map g ++ [g xs[i]], ((i + 1 : Nat) : Int)))) (he : body (xs.map g, (xs.length : Int)) = some (.ret r)) :
    whl body FUEL ([], 0) = some r := by
  have := whl_run (body := body) (r := r) xs.length FUEL (fun i => ((xs.take i).map g, (i : Int))) (fun i hi => by
    rw [h i hi, List.take_succ_eq_append_getElem hi, List.map_append]; rfl) (by rw [List.take_length]; exact he) (lt_FUEL hl)
  simpa using this
theorem cat_ok {α : Type} {a b : List α} (h : a.length + b.length < LIM) : cat a b = some (a ++ b) := by simp [cat, h]
theorem cat_nil {α : Type} {b : List α} (h : b.length ≤ 1000) : cat ([] : List α) b = some b := by
  have : b.length < LIM := by simp only [LIM]; omega
  simp [cat, this]
theorem cat_one {α : Type} {a : List α} {x : α} (h : a.length ≤ 1000) : cat a [x] = some (a ++ [x]) := cat_ok (by simp only [LIM, List.length_singleton]; omega)
theorem w64_i {n m : Nat} (h : n < m) (hm : m ≤ 1000) : w64 ((n : Int) + 1) = ((n + 1 : Nat) : Int) := w64_at h (le_max hm (by omega))
theorem scan_ix {ρ : Type} (n : Nat) (hn : n ≤ maxLen) (P : Nat → Prop) (Q : ρ → Prop) (body : Int → Option (Ex (Ex ρ Unit) Int))
    (h : ∀ i, i < n → (∃ e, body (i : Int) = some (.ret (.ret e)) ∧ Q e ∧ ¬ P i) ∨ (body (i : Int) = some (.go ((i + 1 : Nat) : Int)) ∧ P i)) (he : body (n : Int) = some (.ret (.go ()))) :
    (∃ e, whl body FUEL 0 = some (.ret e) ∧ Q e ∧ ¬ ∀ i, i < n → P i) ∨ (whl body FUEL 0 = some (.go ()) ∧ ∀ i, i < n → P i) := by
  obtain ⟨r, hr, hR⟩ := whl_for (body := body) n (fun i s => s = (i : Int) ∧ ∀ j, j < i → P j) (fun r => (∃ e, r = .ret e ∧ Q e ∧ ¬ ∀ i, i < n → P i) ∨ (r = .go () ∧ ∀ i, i < n → P i)) hn
    (fun i s hi hI => by
      obtain ⟨rfl, hp⟩ := hI
      rcases h i hi with ⟨e, hb, hq, hnp⟩ | ⟨hb, hpi⟩
      · exact .inl ⟨_, hb, .inl ⟨e, rfl, hq, fun hall => hnp (hall i hi)⟩⟩
      · refine .inr ⟨_, hb, rfl, fun j hj => ?_⟩
        rcases Nat.lt_succ_iff_lt_or_eq.1 hj with h1 | rfl
        · exact hp j h1
        · exact hpi)
    (fun s hI => by
      obtain ⟨rfl, hp⟩ := hI
      exact ⟨_, he, .inr ⟨rfl, hp⟩⟩) (s0 := 0) ⟨rfl, fun j hj => by omega⟩
  rcases hR with ⟨e, rfl, hq, hn⟩ | ⟨rfl, hall⟩
  · exact .inl ⟨e, hr, hq, hn⟩
  · exact .inr ⟨hr, hall⟩
end Go.Proofs.Ytoflleabpkgdpaa
