/- Plain laws, part B: loops, lists, what is small; lists and functions held against each other, copied. No conditions. -/
import Derived.Test.YtpomfbdbkejedaaPuA
import Derived.Test.YtpomfbdbkejedaaE10
set_option linter.unusedVariables false
set_option linter.unusedSimpArgs false
namespace Go.Proofs.Ytpomfbdbkejedaa
open Go Go.Proofs

/-- A scan of a list by its index: what comes first is returned, if anything. -/
theorem whl_scan {ρ α : Type} (xs : List α) (f : Nat → α → Option ρ) (body : Int → Option (Ex (Ex ρ Unit) Int))
    (h : ∀ i (hi : i < xs.length), body (i : Int) = some (match f i xs[i] with | some r => .ret (.ret r) | none => .go ((i + 1 : Nat) : Int)))
    (he : body (xs.length : Int) = some (.ret (.go ()))) : ∀ (d m k : Nat), m + d = xs.length → (∀ j (hj : j < xs.length), j < m → f j xs[j] = none) → d < k →
    (∃ i, ∃ hi : i < xs.length, ∃ r, f i xs[i] = some r ∧ (∀ j (hj : j < xs.length), j < i → f j xs[j] = none) ∧ whl body k (m : Int) = some (.ret r)) ∨
    ((∀ i (hi : i < xs.length), f i xs[i] = none) ∧ whl body k (m : Int) = some (.go ()))
  | 0, m, k, hm, hn, hk => by
    obtain ⟨k, rfl⟩ : ∃ q, k = q + 1 := ⟨k - 1, by omega⟩
    have : m = xs.length := by omega
    subst this
    exact .inr ⟨fun i hi => hn i hi hi, by simp [whl, he]⟩
  | d + 1, m, k, hm, hn, hk => by
    obtain ⟨k, rfl⟩ : ∃ q, k = q + 1 := ⟨k - 1, by omega⟩
    have hlt : m < xs.length := by omega
    cases hf : f m xs[m] with
    | some r => exact .inl ⟨m, hlt, r, hf, fun j hj hjm => hn j hj hjm, by simp [whl, h m hlt, hf]⟩
    | none =>
      have hw : whl body (k + 1) (m : Int) = whl body k ((m + 1 : Nat) : Int) := by simp [whl, h m hlt, hf]
      rw [hw]
      refine whl_scan xs f body h he d (m + 1) k (by omega) (fun j hj hjm => ?_) (by omega)
      rcases Nat.lt_succ_iff_lt_or_eq.1 hjm with h1 | h1
      · exact hn j hj h1
      · subst h1; exact hf
theorem scan0 {ρ α : Type} (xs : List α) (f : Nat → α → Option ρ) (body : Int → Option (Ex (Ex ρ Unit) Int)) (hl : xs.length ≤ maxLen)
    (h : ∀ i (hi : i < xs.length), body (i : Int) = some (match f i xs[i] with | some r => .ret (.ret r) | none => .go ((i + 1 : Nat) : Int)))
    (he : body (xs.length : Int) = some (.ret (.go ()))) :
    (∃ i, ∃ hi : i < xs.length, ∃ r, f i xs[i] = some r ∧ (∀ j (hj : j < xs.length), j < i → f j xs[j] = none) ∧ whl body FUEL 0 = some (.ret r)) ∨
    ((∀ i (hi : i < xs.length), f i xs[i] = none) ∧ whl body FUEL 0 = some (.go ())) :=
  whl_scan xs f body h he xs.length 0 FUEL (by omega) (fun j hj h0 => by omega) (lt_FUEL hl)
theorem w64_at {n m : Nat} (h : n < m) (hm : m ≤ maxLen) : w64 ((n : Int) + 1) = ((n + 1 : Nat) : Int) := w64_succ (by simp only [maxLen] at hm; omega)
theorem index_ge (a : List Int) (x : Int) (hl : a.length ≤ maxLen) : ∃ i, slices_Index a x = some i ∧ (i ≥ 0 ↔ x ∈ a) := by
  unfold slices_Index
  have := scan0 a (fun i y => if x = y then some (i : Int) else none) (fun s => slices_Index.bd8 a x s) hl (fun i hi => by
    simp only [slices_Index.bd8, len_lt, hi, if_true, idx_lt hi, Option.bind_some, w64_at hi hl]
    split <;> rfl) (by simp [slices_Index.bd8, len])
  rcases this with ⟨i, hi, r, hf, _, hw⟩ | ⟨hall, hw⟩
  · split at hf
    · cases hf
      rename_i hx
      exact ⟨i, by rw [hw]; rfl, fun _ => hx ▸ List.getElem_mem hi, fun _ => by omega⟩
    · cases hf
  · refine ⟨-1, by rw [hw]; rfl, fun h => by omega, fun hx => ?_⟩
    obtain ⟨i, hi, he⟩ := List.getElem_of_mem hx
    have := hall i hi
    simp [he] at this
theorem contains_eq (a : List Int) (x : Int) (hl : a.length ≤ maxLen) : slices_Contains a x = some (decide (x ∈ a)) := by
  obtain ⟨i, h1, h2⟩ := index_ge a x hl
  unfold slices_Contains
  rw [h1]
  simp only [Option.bind_some, h2]
theorem idx_set {α : Type} (xs : List α) (i : Nat) (x : α) (h : i < xs.length) : idx (xs.set i x) (i : Int) = some x := by
  rw [idx_nat]; simp [h]
theorem mkl_rep {α : Type} {n : Nat} (z : α) (hn : n ≤ 70) : mkl (n : Int) z = some (List.replicate n z) := by
  have h1 : n < LIM := by simp only [LIM]; omega
  simp [mkl, h1]
theorem scan_all {α : Type} (xs : List α) (hl : xs.length ≤ maxLen) (Q : α → Prop) (body : Int → Option (Ex (Ex Bool Unit) Int))
    (h : ∀ i (hi : i < xs.length), body (i : Int) = some (.ret (.ret false)) ∨ (body (i : Int) = some (.go ((i + 1 : Nat) : Int)) ∧ Q xs[i])) (he : body (xs.length : Int) = some (.ret (.go ()))) :
    whl body FUEL 0 = some (.ret false) ∨ (whl body FUEL 0 = some (.go ()) ∧ ∀ x ∈ xs, Q x) := by
  have key := whl_ex (body := body) (fun s : Int => ∃ i : Nat, s = i ∧ i ≤ xs.length ∧ ∀ x ∈ xs.take i, Q x) (fun s => xs.length - s.toNat) (fun z : Ex Bool Unit => z = .ret false ∨ (z = .go () ∧ ∀ x ∈ xs, Q x)) (by
    rintro s ⟨i, rfl, hi, hq⟩
    rcases Nat.lt_or_ge i xs.length with hlt | hge
    · rcases h i hlt with hb | ⟨hb, hx⟩
      · exact .inl ⟨_, hb, .inl rfl⟩
      · refine .inr ⟨_, hb, ⟨i + 1, rfl, hlt, fun x hx' => ?_⟩, by simp; omega⟩
        rw [List.take_succ_eq_append_getElem hlt, List.mem_append, List.mem_singleton] at hx'
        rcases hx' with hx' | rfl
        · exact hq x hx'
        · exact hx
    · have : i = xs.length := by omega
      subst this
      exact .inl ⟨_, he, .inr ⟨rfl, fun x hx => hq x (by rw [List.take_length]; exact hx)⟩⟩) FUEL 0 ⟨0, rfl, Nat.zero_le _, by simp⟩ (by simp; exact lt_FUEL hl)
  obtain ⟨r, hr, rfl | ⟨rfl, hq⟩⟩ := key
  · exact .inl hr
  · exact .inr ⟨hr, hq⟩
def SmB (B : PBlock) : Prop := B.ins.length ≤ 300 ∧ B.phis.length ≤ 300 ∧ B.term.to.length ≤ 70 ∧ (∀ i ∈ B.ins, i.args.length ≤ 300) ∧ ∀ p ∈ B.phis, p.args.length ≤ 300
def SmF (f : PFunc) : Prop := f.blocks.length ≤ 70 ∧ f.regs.length ≤ 300 ∧ f.params ≤ 1000 ∧ ∀ B ∈ f.blocks, SmB B
def SmM (m : PModule) : Prop := m.funcs.length ≤ 40 ∧ ∀ f ∈ m.funcs, SmF f
theorem le_max {n m : Nat} (h : n ≤ m) (hm : m ≤ 1000) : n ≤ maxLen := by simp only [maxLen]; omega
theorem small_phis (B : PBlock) (h : B.phis.length ≤ 300) : whl (fun s => fettleref02_Small.bd76 B s) FUEL 0 = some (.ret false) ∨ (whl (fun s => fettleref02_Small.bd76 B s) FUEL 0 = some (.go ()) ∧ ∀ p ∈ B.phis, p.args.length ≤ 300) :=
  scan_all B.phis (le_max h (by omega)) (fun p => p.args.length ≤ 300) _ (fun i hi => by
    simp only [fettleref02_Small.bd76, len_lt, hi, if_true, idx_lt hi, Option.bind_some, w64_at hi (le_max h (by omega))]
    by_cases hc : len B.phis[i].args > 300
    · exact .inl (by rw [if_pos hc])
    · exact .inr ⟨by rw [if_neg hc], by simp only [len] at hc; omega⟩) (by simp [fettleref02_Small.bd76, len])
theorem small_ins (B : PBlock) (h : B.ins.length ≤ 300) : whl (fun s => fettleref02_Small.bd69 B s) FUEL 0 = some (.ret false) ∨ (whl (fun s => fettleref02_Small.bd69 B s) FUEL 0 = some (.go ()) ∧ ∀ p ∈ B.ins, p.args.length ≤ 300) :=
  scan_all B.ins (le_max h (by omega)) (fun p => p.args.length ≤ 300) _ (fun i hi => by
    simp only [fettleref02_Small.bd69, len_lt, hi, if_true, idx_lt hi, Option.bind_some, w64_at hi (le_max h (by omega))]
    by_cases hc : len B.ins[i].args > 300
    · exact .inl (by rw [if_pos hc])
    · exact .inr ⟨by rw [if_neg hc], by simp only [len] at hc; omega⟩) (by simp [fettleref02_Small.bd69, len])
theorem small_blocks (f : PFunc) (h : f.blocks.length ≤ 70) : whl (fun s => fettleref02_Small.bd39 f s) FUEL 0 = some (.ret false) ∨ (whl (fun s => fettleref02_Small.bd39 f s) FUEL 0 = some (.go ()) ∧ ∀ B ∈ f.blocks, SmB B) :=
  scan_all f.blocks (le_max h (by omega)) SmB _ (fun i hi => by
    simp only [fettleref02_Small.bd39, len_lt, hi, if_true, idx_lt hi, Option.bind_some]
    by_cases hc : (len f.blocks[i].ins > 300 ∨ len f.blocks[i].phis > 300) ∨ len f.blocks[i].term.to > 70
    · exact .inl (by rw [if_pos hc])
    · rw [if_neg hc]
      simp only [len, not_or] at hc
      have h1 : f.blocks[i].ins.length ≤ 300 := by omega
      have h2 : f.blocks[i].phis.length ≤ 300 := by omega
      rcases small_ins f.blocks[i] h1 with hw | ⟨hw, hq⟩
      · rw [hw]; exact .inl rfl
      · rw [hw]
        simp only [Option.bind_some, fettleref02_Small.nx69]
        rcases small_phis f.blocks[i] h2 with hw' | ⟨hw', hq'⟩
        · rw [hw']; exact .inl rfl
        · rw [hw']
          exact .inr ⟨by simp only [Option.bind_some, fettleref02_Small.nx76, w64_at hi (le_max h (by omega))], h1, h2, by omega, hq, hq'⟩) (by simp [fettleref02_Small.bd39, len])
theorem small_ok (m : PModule) : ∃ b, fettleref02_Small m = some b ∧ (b = true → SmM m) := by
  unfold fettleref02_Small
  by_cases hc : len m.funcs > 40
  · exact ⟨false, by rw [if_pos hc], fun h => by cases h⟩
  rw [if_neg hc]
  have hl : m.funcs.length ≤ 40 := by simp only [len] at hc; omega
  have := scan_all m.funcs (le_max hl (by omega)) SmF (fun s => fettleref02_Small.bd11 m s) (fun i hi => by
    simp only [fettleref02_Small.bd11, len_lt, hi, if_true, idx_lt hi, Option.bind_some]
    by_cases hc : (len m.funcs[i].blocks > 70 ∨ len m.funcs[i].regs > 300) ∨ m.funcs[i].params > 1000
    · exact .inl (by rw [if_pos hc])
    · rw [if_neg hc]
      simp only [len, not_or] at hc
      have h1 : m.funcs[i].blocks.length ≤ 70 := by omega
      rcases small_blocks m.funcs[i] h1 with hw | ⟨hw, hq⟩
      · rw [hw]; exact .inl rfl
      · rw [hw]
        exact .inr ⟨by simp only [Option.bind_some, fettleref02_Small.nx39, w64_at hi (le_max hl (by omega))], h1, by omega, by omega, hq⟩) (by simp [fettleref02_Small.bd11, len])
  rcases this with hw | ⟨hw, hq⟩
  · rw [hw]; exact ⟨false, rfl, fun h => by cases h⟩
  · rw [hw]; exact ⟨true, rfl, fun _ => ⟨hl, hq⟩⟩
/-- A loop of n rounds at most: what holds at each round's head. -/
theorem whl_for {ρ σ : Type} (n : Nat) (I : Nat → σ → Prop) (R : ρ → Prop) {body : σ → Option (Ex ρ σ)} (hn : n ≤ maxLen)
    (step : ∀ i s, i < n → I i s → (∃ r, body s = some (.ret r) ∧ R r) ∨ ∃ s', body s = some (.go s') ∧ I (i + 1) s')
    (done : ∀ s, I n s → ∃ r, body s = some (.ret r) ∧ R r) {s0 : σ} (h0 : I 0 s0) : ∃ r, whl body FUEL s0 = some r ∧ R r := by
  have key : ∀ (d i k : Nat) (s : σ), i + d = n → I i s → d < k → ∃ r, whl body k s = some r ∧ R r := by
    intro d
    induction d with
    | zero =>
      intro i k s hi hI hk
      obtain ⟨k, rfl⟩ : ∃ q, k = q + 1 := ⟨k - 1, by omega⟩
      obtain rfl : i = n := by omega
      obtain ⟨r, hb, hr⟩ := done s hI
      exact ⟨r, by simp [whl, hb], hr⟩
    | succ d ih =>
      intro i k s hi hI hk
      obtain ⟨k, rfl⟩ : ∃ q, k = q + 1 := ⟨k - 1, by omega⟩
      rcases step i s (by omega) hI with ⟨r, hb, hr⟩ | ⟨s', hb, hI'⟩
      · exact ⟨r, by simp [whl, hb], hr⟩
      · obtain ⟨r, h1, h2⟩ := ih (i + 1) k s' (by omega) hI' (by omega)
        exact ⟨r, by simp [whl, hb, h1], h2⟩
  exact key n 0 FUEL s0 (by omega) h0 (lt_FUEL hn)
/-- A loop that builds a list element by element. -/
theorem whl_map {α β ρ : Type} (xs : List α) (g : α → β) {body : List β × Int → Option (Ex ρ (List β × Int))} {r : ρ} (hl : xs.length ≤ maxLen)
    (h : ∀ i (hi : i < xs.length), body ((xs.take i).map g, (i : Int)) = some (.go ((xs.take i).map g ++ [g xs[i]], ((i + 1 : Nat) : Int)))) (he : body (xs.map g, (xs.length : Int)) = some (.ret r)) :
    whl body FUEL ([], 0) = some r := by
  have := whl_run (body := body) (r := r) xs.length FUEL (fun i => ((xs.take i).map g, (i : Int))) (fun i hi => by
    rw [h i hi, List.take_succ_eq_append_getElem hi, List.map_append]; rfl) (by rw [List.take_length]; exact he) (lt_FUEL hl)
  simpa using this
theorem cat_ok {α : Type} {a b : List α} (h : a.length + b.length < LIM) : cat a b = some (a ++ b) := by simp [cat, h]
theorem cat_nil {α : Type} {b : List α} (h : b.length ≤ 1000) : cat ([] : List α) b = some b := by
  have : b.length < LIM := by simp only [LIM]; omega
  simp [cat, this]
theorem cat_one {α : Type} {a : List α} {x : α} (h : a.length ≤ 1000) : cat a [x] = some (a ++ [x]) := cat_ok (by simp only [LIM, List.length_singleton]; omega)
theorem w64_i {n m : Nat} (h : n < m) (hm : m ≤ 1000) : w64 ((n : Int) + 1) = ((n + 1 : Nat) : Int) := w64_at h (le_max hm (by omega))
theorem scan_dec {α : Type} [DecidableEq α] (xs ys : List α) (hl : xs.length = ys.length) (hm : xs.length ≤ maxLen) (body : Int → Option (Ex (Ex Bool Unit) Int))
    (h : ∀ i (hi : i < xs.length) (hj : i < ys.length), body (i : Int) = some (if xs[i] = ys[i] then .go ((i + 1 : Nat) : Int) else .ret (.ret false)))
    (he : body (xs.length : Int) = some (.ret (.go ()))) : whl body FUEL 0 = some (if xs = ys then .go () else .ret false) := by
  have := scan0 xs (fun i x => if some x = ys[i]? then none else some false) body hm (fun i hi => by
    rw [h i hi (by omega), List.getElem?_eq_getElem (show i < ys.length by omega)]
    by_cases hc : xs[i] = ys[i] <;> simp [hc]) he
  rcases this with ⟨i, hi, r, hf, _, hw⟩ | ⟨hall, hw⟩
  · rw [hw]
    have hne : xs ≠ ys := by
      intro he; subst he
      simp [List.getElem?_eq_getElem hi] at hf
    rw [if_neg hne]
    split at hf
    · cases hf
    · cases hf; rfl
  · rw [hw]
    have : xs = ys := by
      apply List.ext_getElem hl
      intro i h1 h2
      have := hall i h1
      rw [List.getElem?_eq_getElem h2] at this
      split at this
      · rename_i hq; exact Option.some.inj hq
      · cases this
    rw [if_pos this]
theorem ints2_eq (a b : List Int) (hl : a.length ≤ maxLen) : fettleref02_ints a b = some (decide (a = b)) := by
  unfold fettleref02_ints
  by_cases hne : len a = len b
  · have hne' : a.length = b.length := by simp only [len] at hne; omega
    rw [if_neg (by simpa using hne), scan_dec a b hne' hl _ (fun i hi hj => by
      simp only [fettleref02_ints.bd11, len_lt, hi, if_true, idx_lt hi, idx_lt hj, Option.bind_some, w64_at hi hl]
      by_cases hc : a[i] = b[i] <;> simp [hc]) (by simp [fettleref02_ints.bd11, len])]
    by_cases hab : a = b
    · subst hab; simp [fettleref02_ints.nx11]
    · simp [hab]
  · rw [if_pos hne]
    have : a ≠ b := fun h => hne (by rw [h])
    simp [this]
theorem sameBlock_eq (a b : PBlock) (h : SmB a) : fettleref02_sameBlock a b = some (decide (a = b)) := by
  obtain ⟨h1, h2, h3, h4, h5⟩ := h
  unfold fettleref02_sameBlock
  by_cases hc : ((¬ (len a.phis) = (len b.phis) ∨ ¬ (len a.ins) = (len b.ins)) ∨ ¬ a.term.kind = b.term.kind) ∨ ¬ a.term.arg = b.term.arg
  · rw [if_pos hc]
    have : a ≠ b := by
      rintro rfl
      simp at hc
    simp [this]
  · rw [if_neg hc]
    simp only [not_or, Classical.not_not, len] at hc
    obtain ⟨⟨⟨c1, c2⟩, c3⟩, c4⟩ := hc
    rw [ints2_eq _ _ (le_max h3 (by omega))]
    simp only [Option.bind_some]
    by_cases c5 : a.term.to = b.term.to
    · have ht : a.term = b.term := by cases ha : a.term; cases hb : b.term; simp_all
      simp only [c5, decide_true, Bool.not_true, Bool.false_eq_true, if_false]
      rw [scan_dec a.phis b.phis (by omega) (le_max h2 (by omega)) _ (fun i hi hj => by
        simp only [fettleref02_sameBlock.bd31, len_lt, hi, if_true, idx_lt hi, idx_lt hj, Option.bind_some, w64_at hi (le_max h2 (by omega)), ints2_eq _ _ (le_max (h5 _ (List.getElem_mem hi)) (by omega))]
        by_cases d1 : a.phis[i].dst = b.phis[i].dst
        · rw [if_neg (by simpa using d1)]
          by_cases d2 : a.phis[i].args = b.phis[i].args
          · have : a.phis[i] = b.phis[i] := by cases ha : a.phis[i]; cases hb : b.phis[i]; simp_all
            simp [this]
          · have : a.phis[i] ≠ b.phis[i] := fun hq => d2 (by rw [hq])
            simp [d2, this]
        · rw [if_pos d1]
          have : a.phis[i] ≠ b.phis[i] := fun hq => d1 (by rw [hq])
          simp [this]) (by simp [fettleref02_sameBlock.bd31, len])]
      simp only [Option.bind_some]
      by_cases c6 : a.phis = b.phis
      · rw [if_pos c6]
        simp only [fettleref02_sameBlock.nx31]
        rw [scan_dec a.ins b.ins (by omega) (le_max h1 (by omega)) _ (fun i hi hj => by
          simp only [fettleref02_sameBlock.bd40, len_lt, hi, if_true, idx_lt hi, idx_lt hj, Option.bind_some, w64_at hi (le_max h1 (by omega)), ints2_eq _ _ (le_max (h4 _ (List.getElem_mem hi)) (by omega))]
          by_cases hq : a.ins[i] = b.ins[i]
          · simp [hq]
          · have hne : ¬ (a.ins[i].op = b.ins[i].op ∧ a.ins[i].dst = b.ins[i].dst ∧ a.ins[i].args = b.ins[i].args ∧ a.ins[i].imm = b.ins[i].imm ∧ a.ins[i].fn = b.ins[i].fn) := by
              rintro ⟨e1, e2, e3, e4, e5⟩
              apply hq
              cases ha : a.ins[i]; cases hb : b.ins[i]; simp_all
            rw [if_neg hq]
            by_cases d1 : (¬ a.ins[i].op = b.ins[i].op) ∨ ¬ a.ins[i].dst = b.ins[i].dst
            · rw [if_pos d1]; simp
            · rw [if_neg d1]
              simp only [Option.bind_some]
              rw [if_pos]
              simp only [not_or, Classical.not_not] at d1
              by_cases d2 : a.ins[i].args = b.ins[i].args
              · by_cases d3 : a.ins[i].imm = b.ins[i].imm
                · right
                  intro d4
                  exact hne ⟨d1.1, d1.2, d2, d3, d4⟩
                · exact .inl (.inr d3)
              · left; left; simp [d2]) (by simp [fettleref02_sameBlock.bd40, len])]
        by_cases c7 : a.ins = b.ins
        · have : a = b := by cases a; cases b; simp_all
          simp [c7, this, fettleref02_sameBlock.nx40]
        · have : a ≠ b := fun hq => c7 (by rw [hq])
          simp [c7, this]
      · have : a ≠ b := fun hq => c6 (by rw [hq])
        simp [c6, this]
    · have : a ≠ b := fun hq => c5 (by rw [hq])
      simp [c5, this]
theorem sameFunc_eq (a b : PFunc) (h : SmF a) : fettleref02_SameFunc a b = some (decide (a = b)) := by
  obtain ⟨h1, h2, h3, h4⟩ := h
  unfold fettleref02_SameFunc
  by_cases hc : ¬ a.params = b.params ∨ ¬ a.result = b.result
  · rw [if_pos hc]
    have : a ≠ b := by rintro rfl; simp at hc
    simp [this]
  · rw [if_neg hc, ints2_eq _ _ (le_max h2 (by omega))]
    simp only [not_or, Classical.not_not] at hc
    simp only [Option.bind_some]
    by_cases c1 : (!decide (a.regs = b.regs)) = true ∨ ¬ (len a.blocks) = (len b.blocks)
    · rw [if_pos c1]
      have : a ≠ b := by rintro rfl; simp at c1
      simp [this]
    · rw [if_neg c1]
      simp only [not_or, Classical.not_not, Bool.not_eq_true', len, decide_eq_false_iff_not] at c1
      rw [scan_dec a.blocks b.blocks (by omega) (le_max h1 (by omega)) _ (fun i hi hj => by
        simp only [fettleref02_SameFunc.bd26, len_lt, hi, if_true, idx_lt hi, idx_lt hj, Option.bind_some, w64_at hi (le_max h1 (by omega)), sameBlock_eq _ _ (h4 _ (List.getElem_mem hi))]
        by_cases hq : a.blocks[i] = b.blocks[i] <;> simp [hq]) (by simp [fettleref02_SameFunc.bd26, len])]
      by_cases c2 : a.blocks = b.blocks
      · have : a = b := by cases a; cases b; simp_all
        simp [c2, this, fettleref02_SameFunc.nx26]
      · have : a ≠ b := fun hq => c2 (by rw [hq])
        simp [c2, this]
theorem copyFunc_eq (f : PFunc) (h : SmF f) : fettleref02_CopyFunc f = some f := by
  obtain ⟨h1, h2, h3, h4⟩ := h
  unfold fettleref02_CopyFunc
  rw [cat_nil (by omega)]
  simp only [Option.bind_some, fettleref02_CopyFunc.jn4]
  rw [whl_map f.blocks id (r := f.blocks) (le_max h1 (by omega)) (fun i hi => by
    obtain ⟨b1, b2, b3, b4, b5⟩ := h4 _ (List.getElem_mem hi)
    simp only [fettleref02_CopyFunc.bd12, len_lt, hi, if_true, idx_lt hi, Option.bind_some, List.map_id]
    rw [cat_nil (by omega)]
    simp only [Option.bind_some, fettleref02_CopyFunc.jn25]
    rw [whl_map (f.blocks[i]).phis id (r := (f.blocks[i]).phis) (le_max b2 (by omega)) (fun j hj => by
      simp only [fettleref02_CopyFunc.bd33, len_lt, hj, if_true, idx_lt hj, Option.bind_some, List.map_id]
      rw [cat_nil (by have := b5 _ (List.getElem_mem hj); omega)]
      simp only [Option.bind_some]
      rw [cat_one (by simp; omega)]
      simp only [Option.bind_some, fettleref02_CopyFunc.jn65, w64_i hj (by omega)]; rfl) (by simp [fettleref02_CopyFunc.bd33, len])]
    simp only [Option.bind_some, fettleref02_CopyFunc.nx33]
    rw [whl_map (f.blocks[i]).ins id (r := (f.blocks[i]).ins) (le_max b1 (by omega)) (fun j hj => by
      simp only [fettleref02_CopyFunc.bd42, len_lt, hj, if_true, idx_lt hj, Option.bind_some, List.map_id]
      rw [cat_nil (by have := b4 _ (List.getElem_mem hj); omega)]
      simp only [Option.bind_some]
      rw [cat_one (by simp; omega)]
      simp only [Option.bind_some, w64_i hj (by omega)]; rfl) (by simp [fettleref02_CopyFunc.bd42, len])]
    simp only [Option.bind_some, fettleref02_CopyFunc.nx42]
    rw [cat_one (by simp; omega)]
    simp only [Option.bind_some, w64_i hi (by omega)]; rfl) (by simp [fettleref02_CopyFunc.bd12, len])]
  rfl
theorem copy_eq (m : PModule) (hm : SmM m) : fettleref02_Copy m = some m := by
  obtain ⟨hl, hf⟩ := hm
  unfold fettleref02_Copy
  rw [whl_map m.funcs id (r := m.funcs) (le_max hl (by omega)) (fun i hi => by
    simp only [fettleref02_Copy.bd8, len_lt, hi, if_true, idx_lt hi, Option.bind_some, copyFunc_eq _ (hf _ (List.getElem_mem hi)), List.map_id, cat_one (show (m.funcs.take i).length ≤ 1000 by simp; omega), fettleref02_Copy.jn18, w64_i hi (show m.funcs.length ≤ 1000 by omega)]; rfl) (by simp [fettleref02_Copy.bd8, len])]
  rfl
theorem same_eq (a b : PModule) (h : SmM a) : fettleref02_Same a b = some (decide (a = b)) := by
  obtain ⟨hl, hf⟩ := h
  unfold fettleref02_Same
  by_cases hc : a.funcs.length = b.funcs.length
  · rw [if_neg (by simp only [len]; omega), scan_dec a.funcs b.funcs hc (le_max hl (by omega)) _ (fun i hi hj => by
      simp only [fettleref02_Same.bd11, len_lt, hi, if_true, idx_lt hi, idx_lt hj, Option.bind_some, w64_i hi (show a.funcs.length ≤ 1000 by omega), sameFunc_eq _ _ (hf _ (List.getElem_mem hi))]
      by_cases hq : a.funcs[i] = b.funcs[i] <;> simp [hq]) (by simp [fettleref02_Same.bd11, len])]
    by_cases h2 : a.funcs = b.funcs
    · have : a = b := by cases a; cases b; simp_all
      simp [h2, this, fettleref02_Same.nx11]
    · have : a ≠ b := fun hq => h2 (by rw [hq])
      simp [h2, this]
  · rw [if_pos (by simp only [len]; omega)]
    have : a ≠ b := fun hq => hc (by rw [hq])
    simp [this]
/-- A loop that changes a list element by element. -/
theorem whl_over {α ρ : Type} (xs : List α) (g : α → α) {body : List α × Int → Option (Ex ρ (List α × Int))} {r : ρ} (hl : xs.length ≤ maxLen)
    (h : ∀ i (hi : i < xs.length), ∀ L : List α, L = (xs.take i).map g ++ xs.drop i → (hL : i < L.length) → L[i] = xs[i] → L.length = xs.length → body (L, (i : Int)) = some (.go (L.set i (g xs[i]), ((i + 1 : Nat) : Int)))) (he : body (xs.map g, (xs.length : Int)) = some (.ret r)) :
    whl body FUEL (xs, 0) = some r := by
  have := whl_run (body := body) (r := r) xs.length FUEL (fun i => ((xs.take i).map g ++ xs.drop i, (i : Int))) (fun i hi => by
    have hl1 : ((xs.take i).map g).length = i := by simp; omega
    have hll : ((xs.take i).map g ++ xs.drop i).length = xs.length := by rw [List.length_append, hl1]; simp; omega
    rw [h i hi _ rfl (by rw [hll]; exact hi) (by rw [List.getElem_append_right (by omega), List.getElem_drop]; congr 1; omega) hll]
    congr 3
    rw [List.set_append_right _ _ (by omega), hl1, Nat.sub_self, List.drop_eq_getElem_cons hi, List.set_cons_zero, List.take_succ_eq_append_getElem hi, List.map_append, List.append_assoc]
    rfl) (by rw [List.take_length, List.drop_length, List.append_nil]; exact he) (lt_FUEL hl)
  simpa using this
end Go.Proofs.Ytpomfbdbkejedaa
