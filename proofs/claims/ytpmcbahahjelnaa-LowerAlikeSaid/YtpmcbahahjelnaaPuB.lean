/- Plain laws, part B: loops, lists, what is small; lists and functions held against each other, copied. No conditions. -/
import Derived.Test.YtpmcbahahjelnaaPuA
import Derived.Test.YtpmcbahahjelnaaM10
set_option linter.unusedVariables false
set_option linter.unusedSimpArgs false
namespace Go.Proofs.Ytpmcbahahjelnaa
open Go Go.Proofs

/-- A scan of a list by its index: what comes first is returned, if anything. -/
theorem whl_scan {ρ α : Type} (xs : List α) (f : Nat → α → Option ρ) (body : Int → Option (Ex (Ex ρ Unit) Int))
    (h : ∀ i (hi : i < xs.length), body (i : Int) = some (match f i xs[i] with | some r => .ret (.ret r) | none => .go ((i + 1 : Nat) : Int)))
    (he : body (xs.length : Int) = some (.ret (.go ()))) : ∀ (d m k : Nat), m + d = xs.length → (∀ j (hj : j < xs.length), j < m → f j xs[j] = none) → d < k →
    (∃ i, ∃ hi : i < xs.length, ∃ r, f i xs[i] = some r ∧ (∀ j (hj : j < xs.length), j < i → f j xs[j] = none) ∧ whl body k (m : Int) = some (.ret r)) ∨
    ((∀ i (hi : i < xs.length), f i xs[i] = none) ∧ whl body k (m : Int) = some (.go ()))
  | 0, m, k, hm, hn, hk => by
    obtain ⟨k, rfl⟩ : ∃ q, k = q + 1 := ⟨k - 1, by omega⟩
    have : m = xs.length := by omega
    subst this
    exact .inr ⟨fun i hi => hn i hi hi, by simp [whl, he]⟩
  | d + 1, m, k, hm, hn, hk => by
    obtain ⟨k, rfl⟩ : ∃ q, k = q + 1 := ⟨k - 1, by omega⟩
    have hlt : m < xs.length := by omega
    cases hf : f m xs[m] with
    | some r => exact .inl ⟨m, hlt, r, hf, fun j hj hjm => hn j hj hjm, by simp [whl, h m hlt, hf]⟩
    | none =>
      have hw : whl body (k + 1) (m : Int) = whl body k ((m + 1 : Nat) : Int) := by simp [whl, h m hlt, hf]
      rw [hw]
      refine whl_scan xs f body h he d (m + 1) k (by omega) (fun j hj hjm => ?_) (by omega)
      rcases Nat.lt_succ_iff_lt_or_eq.1 hjm with h1 | h1
      · exact hn j hj h1
      · subst h1; exact hf
theorem scan0 {ρ α : Type} (xs : List α) (f : Nat → α → Option ρ) (body : Int → Option (Ex (Ex ρ Unit) Int)) (hl : xs.length ≤ maxLen)
    (h : ∀ i (hi : i < xs.length), body (i : Int) = some (match f i xs[i] with | some r => .ret (.ret r) | none => .go ((i + 1 : Nat) : Int)))
    (he : body (xs.length : Int) = some (.ret (.go ()))) :
    (∃ i, ∃ hi : i < xs.length, ∃ r, f i xs[i] = some r ∧ (∀ j (hj : j < xs.length), j < i → f j xs[j] = none) ∧ whl body FUEL 0 = some (.ret r)) ∨
    ((∀ i (hi : i < xs.length), f i xs[i] = none) ∧ whl body FUEL 0 = some (.go ())) :=
  whl_scan xs f body h he xs.length 0 FUEL (by omega) (fun j hj h0 => by omega) (lt_FUEL hl)
theorem w64_at {n m : Nat} (h : n < m) (hm : m ≤ maxLen) : w64 ((n : Int) + 1) = ((n + 1 : Nat) : Int) := w64_succ (by simp only [maxLen] at hm; omega)
theorem index_ge (a : List Int) (x : Int) (hl : a.length ≤ maxLen) : ∃ i, slices_Index a x = some i ∧ (i ≥ 0 ↔ x ∈ a) := by
  unfold slices_Index
  have := scan0 a (fun i y => if x = y then some (i : Int) else none) (fun s => slices_Index.bd8 a x s) hl (fun i hi => by
    simp only [slices_Index.bd8, len_lt, hi, if_true, idx_lt hi, Option.bind_some, w64_at hi hl]
    split <;> rfl) (by simp [slices_Index.bd8, len])
  rcases this with ⟨i, hi, r, hf, _, hw⟩ | ⟨hall, hw⟩
  · split at hf
    · cases hf
      rename_i hx
      exact ⟨i, by rw [hw]; rfl, fun _ => hx ▸ List.getElem_mem hi, fun _ => by omega⟩
    · cases hf
  · refine ⟨-1, by rw [hw]; rfl, fun h => by omega, fun hx => ?_⟩
    obtain ⟨i, hi, he⟩ := List.getElem_of_mem hx
    have := hall i hi
    simp [he] at this
theorem contains_eq (a : List Int) (x : Int) (hl : a.length ≤ maxLen) : slices_Contains a x = some (decide (x ∈ a)) := by
  obtain ⟨i, h1, h2⟩ := index_ge a x hl
  unfold slices_Contains
  rw [h1]
  simp only [Option.bind_some, h2]
theorem idx_set {α : Type} (xs : List α) (i : Nat) (x : α) (h : i < xs.length) : idx (xs.set i x) (i : Int) = some x := by
  rw [idx_nat]; simp [h]
theorem mkl_rep {α : Type} {n : Nat} (z : α) (hn : n ≤ 70) : mkl (n : Int) z = some (List.replicate n z) := by
  have h1 : n < LIM := by simp only [LIM]; omega
  simp [mkl, h1]
theorem scan_all {α : Type} (xs : List α) (hl : xs.length ≤ maxLen) (Q : α → Prop) (body : Int → Option (Ex (Ex Bool Unit) Int))
    (h : ∀ i (hi : i < xs.length), body (i : Int) = some (.ret (.ret false)) ∨ (body (i : Int) = some (.go ((i + 1 : Nat) : Int)) ∧ Q xs[i])) (he : body (xs.length : Int) = some (.ret (.go ()))) :
    whl body FUEL 0 = some (.ret false) ∨ (whl body FUEL 0 = some (.go ()) ∧ ∀ x ∈ xs, Q x) := by
  have key := whl_ex (body := body) (fun s : Int => ∃ i : Nat, s = i ∧ i ≤ xs.length ∧ ∀ x ∈ xs.take i, Q x) (fun s => xs.length - s.toNat) (fun z : Ex Bool Unit => z = .ret false ∨ (z = .go () ∧ ∀ x ∈ xs, Q x)) (by
    rintro s ⟨i, rfl, hi, hq⟩
    rcases Nat.lt_or_ge i xs.length with hlt | hge
    · rcases h i hlt with hb | ⟨hb, hx⟩
      · exact .inl ⟨_, hb, .inl rfl⟩
      · refine .inr ⟨_, hb, ⟨i + 1, rfl, hlt, fun x hx' => ?_⟩, by simp; omega⟩
        rw [List.take_succ_eq_append_getElem hlt, List.mem_append, List.mem_singleton] at hx'
        rcases hx' with hx' | rfl
        · exact hq x hx'
        · exact hx
    · have : i = xs.length := by omega
      subst this
      exact .inl ⟨_, he, .inr ⟨rfl, fun x hx => hq x (by rw [List.take_length]; exact hx)⟩⟩) FUEL 0 ⟨0, rfl, Nat.zero_le _, by simp⟩ (by simp; exact lt_FUEL hl)
  obtain ⟨r, hr, rfl | ⟨rfl, hq⟩⟩ := key
  · exact .inl hr
  · exact .inr ⟨hr, hq⟩
def SmB (B : PBlock) : Prop := B.ins.length ≤ 300 ∧ B.phis.length ≤ 300 ∧ B.term.to.length ≤ 70 ∧ (∀ i ∈ B.ins, i.args.length ≤ 300) ∧ ∀ p ∈ B.phis, p.args.length ≤ 300
def SmF (f : PFunc) : Prop := f.blocks.length ≤ 70 ∧ f.regs.length ≤ 300 ∧ f.params ≤ 1000 ∧ ∀ B ∈ f.blocks, SmB B
def SmM (m : PModule) : Prop := m.funcs.length ≤ 40 ∧ ∀ f ∈ m.funcs, SmF f
theorem le_max {n m : Nat} (h : n ≤ m) (hm : m ≤ 1000) : n ≤ maxLen := by simp only [maxLen]; omega
/-- A loop of n rounds at most: what holds at each round's head. -/
theorem whl_for {ρ σ : Type} (n : Nat) (I : Nat → σ → Prop) (R : ρ → Prop) {body : σ → Option (Ex ρ σ)} (hn : n ≤ maxLen)
    (step : ∀ i s, i < n → I i s → (∃ r, body s = some (.ret r) ∧ R r) ∨ ∃ s', body s = some (.go s') ∧ I (i + 1) s')
    (done : ∀ s, I n s → ∃ r, body s = some (.ret r) ∧ R r) {s0 : σ} (h0 : I 0 s0) : ∃ r, whl body FUEL s0 = some r ∧ R r := by
  have key : ∀ (d i k : Nat) (s : σ), i + d = n → I i s → d < k → ∃ r, whl body k s = some r ∧ R r := by
    intro d
    induction d with
    | zero =>
      intro i k s hi hI hk
      obtain ⟨k, rfl⟩ : ∃ q, k = q + 1 := ⟨k - 1, by omega⟩
      obtain rfl : i = n := by omega
      obtain ⟨r, hb, hr⟩ := done s hI
      exact ⟨r, by simp [whl, hb], hr⟩
    | succ d ih =>
      intro i k s hi hI hk
      obtain ⟨k, rfl⟩ : ∃ q, k = q + 1 := ⟨k - 1, by omega⟩
      rcases step i s (by omega) hI with ⟨r, hb, hr⟩ | ⟨s', hb, hI'⟩
      · exact ⟨r, by simp [whl, hb], hr⟩
      · obtain ⟨r, h1, h2⟩ := ih (i + 1) k s' (by omega) hI' (by omega)
        exact ⟨r, by simp [whl, hb, h1], h2⟩
  exact key n 0 FUEL s0 (by omega) h0 (lt_FUEL hn)
/-- A loop that builds a list element by element. -/
theorem whl_map {α β ρ : Type} (xs : List α) (g : α → β) {body : List β × Int → Option (Ex ρ (List β × Int))} {r : ρ} (hl : xs.length ≤ maxLen)
    (h : ∀ i (hi : i < xs.length), body ((xs.take i).map g, (i : Int)) = some (.go ((xs.take i).map g ++ [g xs[i]], ((i + 1 : Nat) : Int)))) (he : body (xs.map g, (xs.length : Int)) = some (.ret r)) :
    whl body FUEL ([], 0) = some r := by
  have := whl_run (body := body) (r := r) xs.length FUEL (fun i => ((xs.take i).map g, (i : Int))) (fun i hi => by
    rw [h i hi, List.take_succ_eq_append_getElem hi, List.map_append]; rfl) (by rw [List.take_length]; exact he) (lt_FUEL hl)
  simpa using this
theorem cat_ok {α : Type} {a b : List α} (h : a.length + b.length < LIM) : cat a b = some (a ++ b) := by simp [cat, h]
theorem cat_nil {α : Type} {b : List α} (h : b.length ≤ 1000) : cat ([] : List α) b = some b := by
  have : b.length < LIM := by simp only [LIM]; omega
  simp [cat, this]
theorem cat_one {α : Type} {a : List α} {x : α} (h : a.length ≤ 1000) : cat a [x] = some (a ++ [x]) := cat_ok (by simp only [LIM, List.length_singleton]; omega)
theorem w64_i {n m : Nat} (h : n < m) (hm : m ≤ 1000) : w64 ((n : Int) + 1) = ((n + 1 : Nat) : Int) := w64_at h (le_max hm (by omega))
theorem scan_dec {α : Type} [DecidableEq α] (xs ys : List α) (hl : xs.length = ys.length) (hm : xs.length ≤ maxLen) (body : Int → Option (Ex (Ex Bool Unit) Int))
    (h : ∀ i (hi : i < xs.length) (hj : i < ys.length), body (i : Int) = some (if xs[i] = ys[i] then .go ((i + 1 : Nat) : Int) else .ret (.ret false)))
    (he : body (xs.length : Int) = some (.ret (.go ()))) : whl body FUEL 0 = some (if xs = ys then .go () else .ret false) := by
  have := scan0 xs (fun i x => if some x = ys[i]? then none else some false) body hm (fun i hi => by
    rw [h i hi (by omega), List.getElem?_eq_getElem (show i < ys.length by omega)]
    by_cases hc : xs[i] = ys[i] <;> simp [hc]) he
  rcases this with ⟨i, hi, r, hf, _, hw⟩ | ⟨hall, hw⟩
  · rw [hw]
    have hne : xs ≠ ys := by
      intro he; subst he
      simp [List.getElem?_eq_getElem hi] at hf
    rw [if_neg hne]
    split at hf
    · cases hf
    · cases hf; rfl
  · rw [hw]
    have : xs = ys := by
      apply List.ext_getElem hl
      intro i h1 h2
      have := hall i h1
      rw [List.getElem?_eq_getElem h2] at this
      split at this
      · rename_i hq; exact Option.some.inj hq
      · cases this
    rw [if_pos this]
/-- A loop that changes a list element by element. -/
theorem whl_over {α ρ : Type} (xs : List α) (g : α → α) {body : List α × Int → Option (Ex ρ (List α × Int))} {r : ρ} (hl : xs.length ≤ maxLen)
    (h : ∀ i (hi : i < xs.length), ∀ L : List α, L = (xs.take i).map g ++ xs.drop i → (hL : i < L.length) → L[i] = xs[i] → L.length = xs.length → body (L, (i : Int)) = some (.go (L.set i (g xs[i]), ((i + 1 : Nat) : Int)))) (he : body (xs.map g, (xs.length : Int)) = some (.ret r)) :
    whl body FUEL (xs, 0) = some r := by
  have := whl_run (body := body) (r := r) xs.length FUEL (fun i => ((xs.take i).map g ++ xs.drop i, (i : Int))) (fun i hi => by
    have hl1 : ((xs.take i).map g).length = i := by simp; omega
    have hll : ((xs.take i).map g ++ xs.drop i).length = xs.length := by rw [List.length_append, hl1]; simp; omega
    rw [h i hi _ rfl (by rw [hll]; exact hi) (by rw [List.getElem_append_right (by omega), List.getElem_drop]; congr 1; omega) hll]
    congr 3
    rw [List.set_append_right _ _ (by omega), hl1, Nat.sub_self, List.drop_eq_getElem_cons hi, List.set_cons_zero, List.take_succ_eq_append_getElem hi, List.map_append, List.append_assoc]
    rfl) (by rw [List.take_length, List.drop_length, List.append_nil]; exact he) (lt_FUEL hl)
  simpa using this
end Go.Proofs.Ytpmcbahahjelnaa
