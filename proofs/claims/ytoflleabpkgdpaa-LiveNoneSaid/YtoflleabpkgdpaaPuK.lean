/- Plain laws, part K: loops that build lists; copies; functions held against each other. No conditions. -/
import Derived.Test.YtoflleabpkgdpaaPuJ
import Derived.Test.YtoflleabpkgdpaaGb
set_option linter.unusedVariables false
set_option linter.unusedSimpArgs false
namespace Go.Proofs.Ytoflleabpkgdpaa
open Go Go.Proofs

/-- A loop of n rounds at most: what holds at each round's head. -/
theorem whl_for {ρ σ : Type} (n : Nat) (I : Nat → σ → Prop) (R : ρ → Prop) {body : σ → Option (Ex ρ σ)} (hn : n ≤ maxLen)
    (step : ∀ i s, i < n → I i s → (∃ r, body s = some (.ret r) ∧ R r) ∨ ∃ s', body s = some (.go s') ∧ I (i + 1) s')
    (done : ∀ s, I n s → ∃ r, body s = some (.ret r) ∧ R r) {s0 : σ} (h0 : I 0 s0) : ∃ r, whl body FUEL s0 = some r ∧ R r := by
  have key : ∀ (d i k : Nat) (s : σ), i + d = n → I i s → d < k → ∃ r, whl body k s = some r ∧ R r := by
    intro d
    induction d with
    | zero =>
      intro i k s hi hI hk
      obtain ⟨k, rfl⟩ : ∃ q, k = q + 1 := ⟨k - 1, by omega⟩
      obtain rfl : i = n := by omega
      obtain ⟨r, hb, hr⟩ := done s hI
      exact ⟨r, by simp [whl, hb], hr⟩
    | succ d ih =>
      intro i k s hi hI hk
      obtain ⟨k, rfl⟩ : ∃ q, k = q + 1 := ⟨k - 1, by omega⟩
      rcases step i s (by omega) hI with ⟨r, hb, hr⟩ | ⟨s', hb, hI'⟩
      · exact ⟨r, by simp [whl, hb], hr⟩
      · obtain ⟨r, h1, h2⟩ := ih (i + 1) k s' (by omega) hI' (by omega)
        exact ⟨r, by simp [whl, hb, h1], h2⟩
  exact key n 0 FUEL s0 (by omega) h0 (lt_FUEL hn)
/-- A loop that builds a list element by element. -/
theorem whl_map {α β ρ : Type} (xs : List α) (g : α → β) {body : List β × Int → Option (Ex ρ (List β × Int))} {r : ρ} (hl : xs.length ≤ maxLen)
    (h : ∀ i (hi : i < xs.length), body ((xs.take i).map g, (i : Int)) = some (.go ((xs.take i).map g ++ [g xs[i]], ((i + 1 : Nat) : Int)))) (he : body (xs.map g, (xs.length : Int)) = some (.ret r)) :
    whl body FUEL ([], 0) = some r := by
  have := whl_run (body := body) (r := r) xs.length FUEL (fun i => ((xs.take i).map g, (i : Int))) (fun i hi => by
    rw [h i hi, List.take_succ_eq_append_getElem hi, List.map_append]; rfl) (by rw [List.take_length]; exact he) (lt_FUEL hl)
  simpa using this
theorem cat_ok {α : Type} {a b : List α} (h : a.length + b.length < LIM) : cat a b = some (a ++ b) := by simp [cat, h]
theorem cat_nil {α : Type} {b : List α} (h : b.length ≤ 1000) : cat ([] : List α) b = some b := by
  have : b.length < LIM := by simp only [LIM]; omega
  simp [cat, this]
theorem cat_one {α : Type} {a : List α} {x : α} (h : a.length ≤ 1000) : cat a [x] = some (a ++ [x]) := cat_ok (by simp only [LIM, List.length_singleton]; omega)
theorem w64_i {n m : Nat} (h : n < m) (hm : m ≤ 1000) : w64 ((n : Int) + 1) = ((n + 1 : Nat) : Int) := w64_at h (le_max hm (by omega))

/-! ### Lists held against each other -/
theorem scan_dec {α : Type} [DecidableEq α] (xs ys : List α) (hl : xs.length = ys.length) (hm : xs.length ≤ maxLen) (body : Int → Option (Ex (Ex Bool Unit) Int))
    (h : ∀ i (hi : i < xs.length) (hj : i < ys.length), body (i : Int) = some (if xs[i] = ys[i] then .go ((i + 1 : Nat) : Int) else .ret (.ret false)))
    (he : body (xs.length : Int) = some (.ret (.go ()))) : whl body FUEL 0 = some (if xs = ys then .go () else .ret false) := by
  have := scan0 xs (fun i x => if some x = ys[i]? then none else some false) body hm (fun i hi => by
    rw [h i hi (by omega), List.getElem?_eq_getElem (show i < ys.length by omega)]
    by_cases hc : xs[i] = ys[i] <;> simp [hc]) he
  rcases this with ⟨i, hi, r, hf, _, hw⟩ | ⟨hall, hw⟩
  · rw [hw]
    have hne : xs ≠ ys := by
      intro he; subst he
      simp [List.getElem?_eq_getElem hi] at hf
    rw [if_neg hne]
    split at hf
    · cases hf
    · cases hf; rfl
  · rw [hw]
    have : xs = ys := by
      apply List.ext_getElem hl
      intro i h1 h2
      have := hall i h1
      rw [List.getElem?_eq_getElem h2] at this
      split at this
      · rename_i hq; exact Option.some.inj hq
      · cases this
    rw [if_pos this]
theorem ints2_eq (a b : List Int) (hl : a.length ≤ maxLen) : fettleref02_ints a b = some (decide (a = b)) := by
  unfold fettleref02_ints
  by_cases hne : len a = len b
  · have hne' : a.length = b.length := by simp only [len] at hne; omega
    rw [if_neg (by simpa using hne), scan_dec a b hne' hl _ (fun i hi hj => by
      simp only [fettleref02_ints.bd22, len_lt, hi, if_true, idx_lt hi, idx_lt hj, Option.bind_some, w64_at hi hl]
      by_cases hc : a[i] = b[i] <;> simp [hc]) (by simp [fettleref02_ints.bd22, len])]
    by_cases hab : a = b
    · subst hab; simp [fettleref02_ints.nx22]
    · simp [hab]
  · rw [if_pos hne]
    have : a ≠ b := fun h => hne (by rw [h])
    simp [this]
theorem sameBlock_eq (a b : PBlock) (h : SmB a) : fettleref02_sameBlock a b = some (decide (a = b)) := by
  obtain ⟨h1, h2, h3, h4, h5⟩ := h
  unfold fettleref02_sameBlock
  by_cases hc : ((¬ (len a.phis) = (len b.phis) ∨ ¬ (len a.ins) = (len b.ins)) ∨ ¬ a.term.kind = b.term.kind) ∨ ¬ a.term.arg = b.term.arg
  · rw [if_pos hc]
    have : a ≠ b := by
      rintro rfl
      simp at hc
    simp [this]
  · rw [if_neg hc]
    simp only [not_or, Classical.not_not, len] at hc
    obtain ⟨⟨⟨c1, c2⟩, c3⟩, c4⟩ := hc
    rw [ints2_eq _ _ (le_max h3 (by omega))]
    simp only [Option.bind_some]
    by_cases c5 : a.term.to = b.term.to
    · have ht : a.term = b.term := by cases ha : a.term; cases hb : b.term; simp_all
      simp only [c5, decide_true, Bool.not_true, Bool.false_eq_true, if_false]
      rw [scan_dec a.phis b.phis (by omega) (le_max h2 (by omega)) _ (fun i hi hj => by
        simp only [fettleref02_sameBlock.bd54, len_lt, hi, if_true, idx_lt hi, idx_lt hj, Option.bind_some, w64_at hi (le_max h2 (by omega)), ints2_eq _ _ (le_max (h5 _ (List.getElem_mem hi)) (by omega))]
        by_cases d1 : a.phis[i].dst = b.phis[i].dst
        · rw [if_neg (by simpa using d1)]
          by_cases d2 : a.phis[i].args = b.phis[i].args
          · have : a.phis[i] = b.phis[i] := by cases ha : a.phis[i]; cases hb : b.phis[i]; simp_all
            simp [this]
          · have : a.phis[i] ≠ b.phis[i] := fun hq => d2 (by rw [hq])
            simp [d2, this]
        · rw [if_pos d1]
          have : a.phis[i] ≠ b.phis[i] := fun hq => d1 (by rw [hq])
          simp [this]) (by simp [fettleref02_sameBlock.bd54, len])]
      simp only [Option.bind_some]
      by_cases c6 : a.phis = b.phis
      · rw [if_pos c6]
        simp only [fettleref02_sameBlock.nx54]
        rw [scan_dec a.ins b.ins (by omega) (le_max h1 (by omega)) _ (fun i hi hj => by
          simp only [fettleref02_sameBlock.bd70, len_lt, hi, if_true, idx_lt hi, idx_lt hj, Option.bind_some, w64_at hi (le_max h1 (by omega)), ints2_eq _ _ (le_max (h4 _ (List.getElem_mem hi)) (by omega))]
          by_cases hq : a.ins[i] = b.ins[i]
          · simp [hq]
          · have hne : ¬ (a.ins[i].op = b.ins[i].op ∧ a.ins[i].dst = b.ins[i].dst ∧ a.ins[i].args = b.ins[i].args ∧ a.ins[i].imm = b.ins[i].imm ∧ a.ins[i].fn = b.ins[i].fn) := by
              rintro ⟨e1, e2, e3, e4, e5⟩
              apply hq
              cases ha : a.ins[i]; cases hb : b.ins[i]; simp_all
            rw [if_neg hq]
            by_cases d1 : (¬ a.ins[i].op = b.ins[i].op) ∨ ¬ a.ins[i].dst = b.ins[i].dst
            · rw [if_pos d1]; simp
            · rw [if_neg d1]
              simp only [Option.bind_some]
              rw [if_pos]
              simp only [not_or, Classical.not_not] at d1
              by_cases d2 : a.ins[i].args = b.ins[i].args
              · by_cases d3 : a.ins[i].imm = b.ins[i].imm
                · right
                  intro d4
                  exact hne ⟨d1.1, d1.2, d2, d3, d4⟩
                · exact .inl (.inr d3)
              · left; left; simp [d2]) (by simp [fettleref02_sameBlock.bd70, len])]
        by_cases c7 : a.ins = b.ins
        · have : a = b := by cases a; cases b; simp_all
          simp [c7, this, fettleref02_sameBlock.nx70]
        · have : a ≠ b := fun hq => c7 (by rw [hq])
          simp [c7, this]
      · have : a ≠ b := fun hq => c6 (by rw [hq])
        simp [c6, this]
    · have : a ≠ b := fun hq => c5 (by rw [hq])
      simp [c5, this]
theorem sameFunc_eq (a b : PFunc) (h : SmF a) : fettleref02_SameFunc a b = some (decide (a = b)) := by
  obtain ⟨h1, h2, h3, h4⟩ := h
  unfold fettleref02_SameFunc
  by_cases hc : ¬ a.params = b.params ∨ ¬ a.result = b.result
  · rw [if_pos hc]
    have : a ≠ b := by rintro rfl; simp at hc
    simp [this]
  · rw [if_neg hc, ints2_eq _ _ (le_max h2 (by omega))]
    simp only [not_or, Classical.not_not] at hc
    simp only [Option.bind_some]
    by_cases c1 : (!decide (a.regs = b.regs)) = true ∨ ¬ (len a.blocks) = (len b.blocks)
    · rw [if_pos c1]
      have : a ≠ b := by rintro rfl; simp at c1
      simp [this]
    · rw [if_neg c1]
      simp only [not_or, Classical.not_not, Bool.not_eq_true', len, decide_eq_false_iff_not] at c1
      rw [scan_dec a.blocks b.blocks (by omega) (le_max h1 (by omega)) _ (fun i hi hj => by
        simp only [fettleref02_SameFunc.bd46, len_lt, hi, if_true, idx_lt hi, idx_lt hj, Option.bind_some, w64_at hi (le_max h1 (by omega)), sameBlock_eq _ _ (h4 _ (List.getElem_mem hi))]
        by_cases hq : a.blocks[i] = b.blocks[i] <;> simp [hq]) (by simp [fettleref02_SameFunc.bd46, len])]
      by_cases c2 : a.blocks = b.blocks
      · have : a = b := by cases a; cases b; simp_all
        simp [c2, this, fettleref02_SameFunc.nx46]
      · have : a ≠ b := fun hq => c2 (by rw [hq])
        simp [c2, this]

/-! ### Copies -/
theorem copyFunc_eq (f : PFunc) (h : SmF f) : fettleref02_CopyFunc f = some f := by
  obtain ⟨h1, h2, h3, h4⟩ := h
  unfold fettleref02_CopyFunc
  rw [cat_nil (by omega)]
  simp only [Option.bind_some, fettleref02_CopyFunc.jn9]
  rw [whl_map f.blocks id (r := f.blocks) (le_max h1 (by omega)) (fun i hi => by
    obtain ⟨b1, b2, b3, b4, b5⟩ := h4 _ (List.getElem_mem hi)
    simp only [fettleref02_CopyFunc.bd23, len_lt, hi, if_true, idx_lt hi, Option.bind_some, List.map_id]
    rw [cat_nil (by omega)]
    simp only [Option.bind_some, fettleref02_CopyFunc.jn50]
    rw [whl_map (f.blocks[i]).phis id (r := (f.blocks[i]).phis) (le_max b2 (by omega)) (fun j hj => by
      simp only [fettleref02_CopyFunc.bd67, len_lt, hj, if_true, idx_lt hj, Option.bind_some, List.map_id]
      rw [cat_nil (by have := b5 _ (List.getElem_mem hj); omega)]
      simp only [Option.bind_some]
      rw [cat_one (by simp; omega)]
      simp only [Option.bind_some, fettleref02_CopyFunc.jn133, w64_i hj (by omega)]; rfl) (by simp [fettleref02_CopyFunc.bd67, len])]
    simp only [Option.bind_some, fettleref02_CopyFunc.nx67]
    rw [whl_map (f.blocks[i]).ins id (r := (f.blocks[i]).ins) (le_max b1 (by omega)) (fun j hj => by
      simp only [fettleref02_CopyFunc.bd91, len_lt, hj, if_true, idx_lt hj, Option.bind_some, List.map_id]
      rw [cat_nil (by have := b4 _ (List.getElem_mem hj); omega)]
      simp only [Option.bind_some]
      rw [cat_one (by simp; omega)]
      simp only [Option.bind_some, w64_i hj (by omega)]; rfl) (by simp [fettleref02_CopyFunc.bd91, len])]
    simp only [Option.bind_some, fettleref02_CopyFunc.nx91]
    rw [cat_one (by simp; omega)]
    simp only [Option.bind_some, w64_i hi (by omega)]; rfl) (by simp [fettleref02_CopyFunc.bd23, len])]
  rfl
end Go.Proofs.Ytoflleabpkgdpaa
