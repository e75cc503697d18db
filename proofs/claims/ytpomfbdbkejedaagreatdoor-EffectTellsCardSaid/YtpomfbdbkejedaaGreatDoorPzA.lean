/- Several parts in one text, the first of which: Plain laws, part A: loops with a bound on their rounds, numbers in range, lists. No conditions. -/
import Derived.Test.YtpomfbdbkejedaaGreatDoorFwU
import Derived.Test.YtpomfbdbkejedaaGreatDoorZ12
import Derived.Test.YtpomfbdbkejedaaGreatDoorOp
import Derived.KernelRfl
set_option linter.unusedVariables false
set_option linter.unusedSimpArgs false
namespace Go.Proofs.YtpomfbdbkejedaaGreatDoor
open Go

theorem lt_FUEL {n : Nat} (h : n ≤ maxLen) : n < FUEL := by
  have : maxLen < FUEL := by unfold FUEL maxLen; decide
  omega
theorem w64_id {x : Int} (h : inI64 x) : w64 x = x := by
  obtain ⟨h1, h2⟩ := h
  simp only [w64, IntKind.wrap, IntKind.signed, IntKind.bits, IntKind.min, Bool.true_and, decide_eq_true_eq, ge_iff_le]
  split <;> omega
theorem w64_nat {n : Nat} (h : n ≤ 9223372036854775807) : w64 (n : Int) = n := w64_id ⟨by omega, by omega⟩
theorem w64_succ {n : Nat} (h : n < 9223372036854775807) : w64 ((n : Int) + 1) = ((n + 1 : Nat) : Int) := by
  rw [show ((n : Int) + 1) = ((n + 1 : Nat) : Int) by omega]; exact w64_nat (by omega)
theorem idx_nat {α : Type} (xs : List α) (i : Nat) : idx xs (i : Int) = xs[i]? := by simp [idx]
theorem idx_lt {α : Type} {xs : List α} {i : Nat} (h : i < xs.length) : idx xs (i : Int) = some xs[i] := by rw [idx_nat, List.getElem?_eq_getElem h]
theorem len_lt {α : Type} (xs : List α) (i : Nat) : (i : Int) < len xs ↔ i < xs.length := by simp [len]

/-- A loop whose states are known one by one. -/
theorem whl_run {ρ σ : Type} {body : σ → Option (Ex ρ σ)} {r : ρ} : ∀ (n k : Nat) (st : Nat → σ), (∀ i, i < n → body (st i) = some (.go (st (i + 1)))) → body (st n) = some (.ret r) → n < k → whl body k (st 0) = some r
  | 0, k, st, _, he, hk => by
    obtain ⟨k, rfl⟩ : ∃ m, k = m + 1 := ⟨k - 1, by omega⟩
    simp [whl, he]
  | n + 1, k, st, hs, he, hk => by
    obtain ⟨k, rfl⟩ : ∃ m, k = m + 1 := ⟨k - 1, by omega⟩
    simp only [whl, hs 0 (by omega), Option.bind_some]
    exact whl_run n k (fun i => st (i + 1)) (fun i hi => hs (i + 1) (by omega)) he (by omega)
/-- A loop by a measure: what holds at each round's head. -/
theorem whl_ex {ρ σ : Type} {body : σ → Option (Ex ρ σ)} (I : σ → Prop) (m : σ → Nat) (R : ρ → Prop) (h : ∀ s, I s → (∃ r, body s = some (.ret r) ∧ R r) ∨ ∃ s', body s = some (.go s') ∧ I s' ∧ m s' < m s) :
    ∀ (k : Nat) (s : σ), I s → m s < k → ∃ r, whl body k s = some r ∧ R r
  | 0, s, _, hk => by omega
  | k + 1, s, hI, hk => by
    rcases h s hI with ⟨r, hb, hr⟩ | ⟨s', hb, hI', hm⟩
    · exact ⟨r, by simp [whl, hb], hr⟩
    · obtain ⟨r, h1, h2⟩ := whl_ex I m R h k s' hI' (by omega)
      exact ⟨r, by simp [whl, hb, h1], h2⟩
/-- Two loops in step. -/
theorem whl_two {ρ σ ρ' σ' : Type} {b : σ → Option (Ex ρ σ)} {b' : σ' → Option (Ex ρ' σ')} (S : σ → σ' → Prop) (R : ρ → ρ' → Prop)
    (h : ∀ s s', S s s' → (b s = none ∧ b' s' = none) ∨ (∃ r r', b s = some (.ret r) ∧ b' s' = some (.ret r') ∧ R r r') ∨ ∃ t t', b s = some (.go t) ∧ b' s' = some (.go t') ∧ S t t') :
    ∀ (k : Nat) (s : σ) (s' : σ'), S s s' → (whl b k s = none ∧ whl b' k s' = none) ∨ ∃ r r', whl b k s = some r ∧ whl b' k s' = some r' ∧ R r r'
  | 0, s, s', _ => .inl ⟨rfl, rfl⟩
  | k + 1, s, s', hS => by
    rcases h s s' hS with ⟨h1, h2⟩ | ⟨r, r', h1, h2, h3⟩ | ⟨t, t', h1, h2, h3⟩
    · exact .inl ⟨by simp [whl, h1], by simp [whl, h2]⟩
    · exact .inr ⟨r, r', by simp [whl, h1], by simp [whl, h2], h3⟩
    · rcases whl_two S R h k t t' h3 with ⟨g1, g2⟩ | ⟨r, r', g1, g2, g3⟩
      · exact .inl ⟨by simp [whl, h1, g1], by simp [whl, h2, g2]⟩
      · exact .inr ⟨r, r', by simp [whl, h1, g1], by simp [whl, h2, g2], g3⟩
theorem foldl_take {α β : Type} (g : β → α → β) (a : β) (xs : List α) {i : Nat} (h : i < xs.length) : (xs.take (i + 1)).foldl g a = g ((xs.take i).foldl g a) xs[i] := by
  rw [List.take_succ_eq_append_getElem h, List.foldl_append]; rfl
end Go.Proofs.YtpomfbdbkejedaaGreatDoor
set_option linter.unusedVariables false
set_option linter.unusedSimpArgs false
namespace Go.Proofs.YtpomfbdbkejedaaGreatDoor
open Go Go.Proofs

/-- A scan of a list by its index: what comes first is returned, if anything. -/
theorem whl_scan {ρ α : Type} (xs : List α) (f : Nat → α → Option ρ) (body : Int → Option (Ex (Ex ρ Unit) Int))
    (h : ∀ i (hi : i < xs.length), body (i : Int) = some (match f i xs[i] with | some r => .ret (.ret r) | none => .go ((i + 1 : Nat) : Int)))
    (he : body (xs.length : Int) = some (.ret (.go ()))) : ∀ (d m k : Nat), m + d = xs.length → (∀ j (hj : j < xs.length), j < m → f j xs[j] = none) → d < k →
    (∃ i, ∃ hi : i < xs.length, ∃ r, f i xs[i] = some r ∧ (∀ j (hj : j < xs.length), j < i → f j xs[j] = none) ∧ whl body k (m : Int) = some (.ret r)) ∨
    ((∀ i (hi : i < xs.length), f i xs[i] = none) ∧ whl body k (m : Int) = some (.go ()))
  | 0, m, k, hm, hn, hk => by
    obtain ⟨k, rfl⟩ : ∃ q, k = q + 1 := ⟨k - 1, by omega⟩
    have : m = xs.length := by omega
    subst this
    exact .inr ⟨fun i hi => hn i hi hi, by simp [whl, he]⟩
  | d + 1, m, k, hm, hn, hk => by
    obtain ⟨k, rfl⟩ : ∃ q, k = q + 1 := ⟨k - 1, by omega⟩
    have hlt : m < xs.length := by omega
    cases hf : f m xs[m] with
    | some r => exact .inl ⟨m, hlt, r, hf, fun j hj hjm => hn j hj hjm, by simp [whl, h m hlt, hf]⟩
    | none =>
      have hw : whl body (k + 1) (m : Int) = whl body k ((m + 1 : Nat) : Int) := by simp [whl, h m hlt, hf]
      rw [hw]
      refine whl_scan xs f body h he d (m + 1) k (by omega) (fun j hj hjm => ?_) (by omega)
      rcases Nat.lt_succ_iff_lt_or_eq.1 hjm with h1 | h1
      · exact hn j hj h1
      · subst h1; exact hf
theorem scan0 {ρ α : Type} (xs : List α) (f : Nat → α → Option ρ) (body : Int → Option (Ex (Ex ρ Unit) Int)) (hl : xs.length ≤ maxLen)
    (h : ∀ i (hi : i < xs.length), body (i : Int) = some (match f i xs[i] with | some r => .ret (.ret r) | none => .go ((i + 1 : Nat) : Int)))
    (he : body (xs.length : Int) = some (.ret (.go ()))) :
    (∃ i, ∃ hi : i < xs.length, ∃ r, f i xs[i] = some r ∧ (∀ j (hj : j < xs.length), j < i → f j xs[j] = none) ∧ whl body FUEL 0 = some (.ret r)) ∨
    ((∀ i (hi : i < xs.length), f i xs[i] = none) ∧ whl body FUEL 0 = some (.go ())) :=
  whl_scan xs f body h he xs.length 0 FUEL (by omega) (fun j hj h0 => by omega) (lt_FUEL hl)
theorem w64_at {n m : Nat} (h : n < m) (hm : m ≤ maxLen) : w64 ((n : Int) + 1) = ((n + 1 : Nat) : Int) := w64_succ (by simp only [maxLen] at hm; omega)
theorem index_ge (a : List Int) (x : Int) (hl : a.length ≤ maxLen) : ∃ i, slices_Index a x = some i ∧ (i ≥ 0 ↔ x ∈ a) := by
  unfold slices_Index
  have := scan0 a (fun i y => if x = y then some (i : Int) else none) (fun s => slices_Index.bd8 a x s) hl (fun i hi => by
    simp only [slices_Index.bd8, len_lt, hi, if_true, idx_lt hi, Option.bind_some, w64_at hi hl]
    split <;> rfl) (by simp [slices_Index.bd8, len])
  rcases this with ⟨i, hi, r, hf, _, hw⟩ | ⟨hall, hw⟩
  · split at hf
    · cases hf
      rename_i hx
      exact ⟨i, by rw [hw]; rfl, fun _ => hx ▸ List.getElem_mem hi, fun _ => by omega⟩
    · cases hf
  · refine ⟨-1, by rw [hw]; rfl, fun h => by omega, fun hx => ?_⟩
    obtain ⟨i, hi, he⟩ := List.getElem_of_mem hx
    have := hall i hi
    simp [he] at this
theorem contains_eq (a : List Int) (x : Int) (hl : a.length ≤ maxLen) : slices_Contains a x = some (decide (x ∈ a)) := by
  obtain ⟨i, h1, h2⟩ := index_ge a x hl
  unfold slices_Contains
  rw [h1]
  simp only [Option.bind_some, h2]
theorem idx_set {α : Type} (xs : List α) (i : Nat) (x : α) (h : i < xs.length) : idx (xs.set i x) (i : Int) = some x := by
  rw [idx_nat]; simp [h]
theorem mkl_rep {α : Type} {n : Nat} (z : α) (hn : n ≤ 70) : mkl (n : Int) z = some (List.replicate n z) := by
  have h1 : n < LIM := by simp only [LIM]; omega
  simp [mkl, h1]
theorem scan_all {α : Type} (xs : List α) (hl : xs.length ≤ maxLen) (Q : α → Prop) (body : Int → Option (Ex (Ex Bool Unit) Int))
    (h : ∀ i (hi : i < xs.length), body (i : Int) = some (.ret (.ret false)) ∨ (body (i : Int) = some (.go ((i + 1 : Nat) : Int)) ∧ Q xs[i])) (he : body (xs.length : Int) = some (.ret (.go ()))) :
    whl body FUEL 0 = some (.ret false) ∨ (whl body FUEL 0 = some (.go ()) ∧ ∀ x ∈ xs, Q x) := by
  have key := whl_ex (body := body) (fun s : Int => ∃ i : Nat, s = i ∧ i ≤ xs.length ∧ ∀ x ∈ xs.take i, Q x) (fun s => xs.length - s.toNat) (fun z : Ex Bool Unit => z = .ret false ∨ (z = .go () ∧ ∀ x ∈ xs, Q x)) (by
    rintro s ⟨i, rfl, hi, hq⟩
    rcases Nat.lt_or_ge i xs.length with hlt | hge
    · rcases h i hlt with hb | ⟨hb, hx⟩
      · exact .inl ⟨_, hb, .inl rfl⟩
      · refine .inr ⟨_, hb, ⟨i + 1, rfl, hlt, fun x hx' => ?_⟩, by simp; omega⟩
        rw [List.take_succ_eq_append_getElem hlt, List.mem_append, List.mem_singleton] at hx'
        rcases hx' with hx' | rfl
        · exact hq x hx'
        · exact hx
    · have : i = xs.length := by omega
      subst this
      exact .inl ⟨_, he, .inr ⟨rfl, fun x hx => hq x (by rw [List.take_length]; exact hx)⟩⟩) FUEL 0 ⟨0, rfl, Nat.zero_le _, by simp⟩ (by simp; exact lt_FUEL hl)
  obtain ⟨r, hr, rfl | ⟨rfl, hq⟩⟩ := key
  · exact .inl hr
  · exact .inr ⟨hr, hq⟩
def SmB (B : PBlock) : Prop := B.ins.length ≤ 300 ∧ B.phis.length ≤ 300 ∧ B.term.to.length ≤ 70 ∧ (∀ i ∈ B.ins, i.args.length ≤ 300) ∧ ∀ p ∈ B.phis, p.args.length ≤ 300
def SmF (f : PFunc) : Prop := f.blocks.length ≤ 70 ∧ f.regs.length ≤ 300 ∧ f.params ≤ 1000 ∧ ∀ B ∈ f.blocks, SmB B
def SmM (m : PModule) : Prop := m.funcs.length ≤ 40 ∧ ∀ f ∈ m.funcs, SmF f
theorem le_max {n m : Nat} (h : n ≤ m) (hm : m ≤ 1000) : n ≤ maxLen := by simp only [maxLen]; omega
theorem small_phis (B : PBlock) (h : B.phis.length ≤ 300) : whl (fun s => fettleref02_Small.bd76 B s) FUEL 0 = some (.ret false) ∨ (whl (fun s => fettleref02_Small.bd76 B s) FUEL 0 = some (.go ()) ∧ ∀ p ∈ B.phis, p.args.length ≤ 300) :=
  scan_all B.phis (le_max h (by omega)) (fun p => p.args.length ≤ 300) _ (fun i hi => by
    simp only [fettleref02_Small.bd76, len_lt, hi, if_true, idx_lt hi, Option.bind_some, w64_at hi (le_max h (by omega))]
    by_cases hc : len B.phis[i].args > 300
    · exact .inl (by rw [if_pos hc])
    · exact .inr ⟨by rw [if_neg hc], by simp only [len] at hc; omega⟩) (by simp [fettleref02_Small.bd76, len])
theorem small_ins (B : PBlock) (h : B.ins.length ≤ 300) : whl (fun s => fettleref02_Small.bd69 B s) FUEL 0 = some (.ret false) ∨ (whl (fun s => fettleref02_Small.bd69 B s) FUEL 0 = some (.go ()) ∧ ∀ p ∈ B.ins, p.args.length ≤ 300) :=
  scan_all B.ins (le_max h (by omega)) (fun p => p.args.length ≤ 300) _ (fun i hi => by
    simp only [fettleref02_Small.bd69, len_lt, hi, if_true, idx_lt hi, Option.bind_some, w64_at hi (le_max h (by omega))]
    by_cases hc : len B.ins[i].args > 300
    · exact .inl (by rw [if_pos hc])
    · exact .inr ⟨by rw [if_neg hc], by simp only [len] at hc; omega⟩) (by simp [fettleref02_Small.bd69, len])
theorem small_blocks (f : PFunc) (h : f.blocks.length ≤ 70) : whl (fun s => fettleref02_Small.bd39 f s) FUEL 0 = some (.ret false) ∨ (whl (fun s => fettleref02_Small.bd39 f s) FUEL 0 = some (.go ()) ∧ ∀ B ∈ f.blocks, SmB B) :=
  scan_all f.blocks (le_max h (by omega)) SmB _ (fun i hi => by
    simp only [fettleref02_Small.bd39, len_lt, hi, if_true, idx_lt hi, Option.bind_some]
    by_cases hc : (len f.blocks[i].ins > 300 ∨ len f.blocks[i].phis > 300) ∨ len f.blocks[i].term.to > 70
    · exact .inl (by rw [if_pos hc])
    · rw [if_neg hc]
      simp only [len, not_or] at hc
      have h1 : f.blocks[i].ins.length ≤ 300 := by omega
      have h2 : f.blocks[i].phis.length ≤ 300 := by omega
      rcases small_ins f.blocks[i] h1 with hw | ⟨hw, hq⟩
      · rw [hw]; exact .inl rfl
      · rw [hw]
        simp only [Option.bind_some, fettleref02_Small.nx69]
        rcases small_phis f.blocks[i] h2 with hw' | ⟨hw', hq'⟩
        · rw [hw']; exact .inl rfl
        · rw [hw']
          exact .inr ⟨by simp only [Option.bind_some, fettleref02_Small.nx76, w64_at hi (le_max h (by omega))], h1, h2, by omega, hq, hq'⟩) (by simp [fettleref02_Small.bd39, len])
theorem small_ok (m : PModule) : ∃ b, fettleref02_Small m = some b ∧ (b = true → SmM m) := by
  unfold fettleref02_Small
  by_cases hc : len m.funcs > 40
  · exact ⟨false, by rw [if_pos hc], fun h => by cases h⟩
  rw [if_neg hc]
  have hl : m.funcs.length ≤ 40 := by simp only [len] at hc; omega
  have := scan_all m.funcs (le_max hl (by omega)) SmF (fun s => fettleref02_Small.bd11 m s) (fun i hi => by
    simp only [fettleref02_Small.bd11, len_lt, hi, if_true, idx_lt hi, Option.bind_some]
    by_cases hc : (len m.funcs[i].blocks > 70 ∨ len m.funcs[i].regs > 300) ∨ m.funcs[i].params > 1000
    · exact .inl (by rw [if_pos hc])
    · rw [if_neg hc]
      simp only [len, not_or] at hc
      have h1 : m.funcs[i].blocks.length ≤ 70 := by omega
      rcases small_blocks m.funcs[i] h1 with hw | ⟨hw, hq⟩
      · rw [hw]; exact .inl rfl
      · rw [hw]
        exact .inr ⟨by simp only [Option.bind_some, fettleref02_Small.nx39, w64_at hi (le_max hl (by omega))], h1, by omega, by omega, hq⟩) (by simp [fettleref02_Small.bd11, len])
  rcases this with hw | ⟨hw, hq⟩
  · rw [hw]; exact ⟨false, rfl, fun h => by cases h⟩
  · rw [hw]; exact ⟨true, rfl, fun _ => ⟨hl, hq⟩⟩
/-- A loop of n rounds at most: what holds at each round's head. -/
theorem whl_for {ρ σ : Type} (n : Nat) (I : Nat → σ → Prop) (R : ρ → Prop) {body : σ → Option (Ex ρ σ)} (hn : n ≤ maxLen)
    (step : ∀ i s, i < n → I i s → (∃ r, body s = some (.ret r) ∧ R r) ∨ ∃ s', body s = some (.go s') ∧ I (i + 1) s')
    (done : ∀ s, I n s → ∃ r, body s = some (.ret r) ∧ R r) {s0 : σ} (h0 : I 0 s0) : ∃ r, whl body FUEL s0 = some r ∧ R r := by
  have key : ∀ (d i k : Nat) (s : σ), i + d = n → I i s → d < k → ∃ r, whl body k s = some r ∧ R r := by
    intro d
    induction d with
    | zero =>
      intro i k s hi hI hk
      obtain ⟨k, rfl⟩ : ∃ q, k = q + 1 := ⟨k - 1, by omega⟩
      obtain rfl : i = n := by omega
      obtain ⟨r, hb, hr⟩ := done s hI
      exact ⟨r, by simp [whl, hb], hr⟩
    | succ d ih =>
      intro i k s hi hI hk
      obtain ⟨k, rfl⟩ : ∃ q, k = q + 1 := ⟨k - 1, by omega⟩
      rcases step i s (by omega) hI with ⟨r, hb, hr⟩ | ⟨s', hb, hI'⟩
      · exact ⟨r, by simp [whl, hb], hr⟩
      · obtain ⟨r, h1, h2⟩ := ih (i + 1) k s' (by omega) hI' (by omega)
        exact ⟨r, by simp [whl, hb, h1], h2⟩
  exact key n 0 FUEL s0 (by omega) h0 (lt_FUEL hn)
/-- A loop that builds a list element by element. -/
theorem whl_map {α β ρ : Type} (xs : List α) (g : α → β) {body : List β × Int → Option (Ex ρ (List β × Int))} {r : ρ} (hl : xs.length ≤ maxLen)
    (h : ∀ i (hi : i < xs.length), body ((xs.take i).map g, (i : Int)) = some (.go ((xs.take i).map g ++ [g xs[i]], ((i + 1 : Nat) : Int)))) (he : body (xs.map g, (xs.length : Int)) = some (.ret r)) :
    whl body FUEL ([], 0) = some r := by
  have := whl_run (body := body) (r := r) xs.length FUEL (fun i => ((xs.take i).map g, (i : Int))) (fun i hi => by
    rw [h i hi, List.take_succ_eq_append_getElem hi, List.map_append]; rfl) (by rw [List.take_length]; exact he) (lt_FUEL hl)
  simpa using this
theorem cat_ok {α : Type} {a b : List α} (h : a.length + b.length < LIM) : cat a b = some (a ++ b) := by simp [cat, h]
theorem cat_nil {α : Type} {b : List α} (h : b.length ≤ 1000) : cat ([] : List α) b = some b := by
  have : b.length < LIM := by simp only [LIM]; omega
  simp [cat, this]
theorem cat_one {α : Type} {a : List α} {x : α} (h : a.length ≤ 1000) : cat a [x] = some (a ++ [x]) := cat_ok (by simp only [LIM, List.length_singleton]; omega)
theorem w64_i {n m : Nat} (h : n < m) (hm : m ≤ 1000) : w64 ((n : Int) + 1) = ((n + 1 : Nat) : Int) := w64_at h (le_max hm (by omega))
theorem scan_dec {α : Type} [DecidableEq α] (xs ys : List α) (hl : xs.length = ys.length) (hm : xs.length ≤ maxLen) (body : Int → Option (Ex (Ex Bool Unit) Int))
    (h : ∀ i (hi : i < xs.length) (hj : i < ys.length), body (i : Int) = some (if xs[i] = ys[i] then .go ((i + 1 : Nat) : Int) else .ret (.ret false)))
    (he : body (xs.length : Int) = some (.ret (.go ()))) : whl body FUEL 0 = some (if xs = ys then .go () else .ret false) := by
  have := scan0 xs (fun i x => if some x = ys[i]? then none else some false) body hm (fun i hi => by
    rw [h i hi (by omega), List.getElem?_eq_getElem (show i < ys.length by omega)]
    by_cases hc : xs[i] = ys[i] <;> simp [hc]) he
  rcases this with ⟨i, hi, r, hf, _, hw⟩ | ⟨hall, hw⟩
  · rw [hw]
    have hne : xs ≠ ys := by
      intro he; subst he
      simp [List.getElem?_eq_getElem hi] at hf
    rw [if_neg hne]
    split at hf
    · cases hf
    · cases hf; rfl
  · rw [hw]
    have : xs = ys := by
      apply List.ext_getElem hl
      intro i h1 h2
      have := hall i h1
      rw [List.getElem?_eq_getElem h2] at this
      split at this
      · rename_i hq; exact Option.some.inj hq
      · cases this
    rw [if_pos this]
/-- A loop that changes a list element by element. -/
theorem whl_over {α ρ : Type} (xs : List α) (g : α → α) {body : List α × Int → Option (Ex ρ (List α × Int))} {r : ρ} (hl : xs.length ≤ maxLen)
    (h : ∀ i (hi : i < xs.length), ∀ L : List α, L = (xs.take i).map g ++ xs.drop i → (hL : i < L.length) → L[i] = xs[i] → L.length = xs.length → body (L, (i : Int)) = some (.go (L.set i (g xs[i]), ((i + 1 : Nat) : Int)))) (he : body (xs.map g, (xs.length : Int)) = some (.ret r)) :
    whl body FUEL (xs, 0) = some r := by
  have := whl_run (body := body) (r := r) xs.length FUEL (fun i => ((xs.take i).map g ++ xs.drop i, (i : Int))) (fun i hi => by
    have hl1 : ((xs.take i).map g).length = i := by simp; omega
    have hll : ((xs.take i).map g ++ xs.drop i).length = xs.length := by rw [List.length_append, hl1]; simp; omega
    rw [h i hi _ rfl (by rw [hll]; exact hi) (by rw [List.getElem_append_right (by omega), List.getElem_drop]; congr 1; omega) hll]
    congr 3
    rw [List.set_append_right _ _ (by omega), hl1, Nat.sub_self, List.drop_eq_getElem_cons hi, List.set_cons_zero, List.take_succ_eq_append_getElem hi, List.map_append, List.append_assoc]
    rfl) (by rw [List.take_length, List.drop_length, List.append_nil]; exact he) (lt_FUEL hl)
  simpa using this
end Go.Proofs.YtpomfbdbkejedaaGreatDoor
set_option linter.unusedVariables false
set_option linter.unusedSimpArgs false
namespace Go.Proofs.YtpomfbdbkejedaaGreatDoor
open Go Go.Proofs

/-- One more block that is led to: in range, and once. -/
def addS (n : Nat) (acc : List Int) (t : Int) : List Int := if 0 ≤ t ∧ t < n ∧ t ∉ acc then acc ++ [t] else acc
def succs (n : Nat) (to : List Int) : List Int := to.foldl (addS n) []
theorem addS_length (n : Nat) (acc : List Int) (t : Int) : (addS n acc t).length ≤ acc.length + 1 := by
  unfold addS; split <;> simp
theorem foldl_addS_length (n : Nat) : ∀ (to acc : List Int), (to.foldl (addS n) acc).length ≤ acc.length + to.length
  | [], acc => by simp
  | t :: to, acc => by
    have h1 := foldl_addS_length n to (addS n acc t)
    have h2 := addS_length n acc t
    simp only [List.foldl_cons, List.length_cons]; omega
theorem addS_in (n : Nat) (acc : List Int) (t : Int) (h : ∀ x ∈ acc, 0 ≤ x ∧ x < n) : ∀ x ∈ addS n acc t, 0 ≤ x ∧ x < n := by
  unfold addS
  split
  · rename_i hc
    intro x hx
    rcases List.mem_append.1 hx with hx | hx
    · exact h x hx
    · simp at hx; subst hx; exact ⟨hc.1, hc.2.1⟩
  · exact h
theorem foldl_addS_in (n : Nat) : ∀ (to acc : List Int), (∀ x ∈ acc, 0 ≤ x ∧ x < n) → ∀ x ∈ to.foldl (addS n) acc, 0 ≤ x ∧ x < n
  | [], acc, h => h
  | t :: to, acc, h => foldl_addS_in n to _ (addS_in n acc t h)
theorem succs_in {n : Nat} {to : List Int} : ∀ x ∈ succs n to, 0 ≤ x ∧ x < n := foldl_addS_in n to [] (by simp)
def nexts (f : PFunc) : List (List Int) := f.blocks.map fun (B : PBlock) => succs f.blocks.length B.term.to
theorem nexts_length (f : PFunc) : (nexts f).length = f.blocks.length := by simp [nexts]
theorem nexts_rows (f : PFunc) (ht : ∀ B ∈ f.blocks, B.term.to.length ≤ 70) : ∀ (v : Nat) (row : List Int), (nexts f)[v]? = some row → row.length ≤ 70 ∧ ∀ x ∈ row, 0 ≤ x ∧ x < ((nexts f).length : Int) := by
  intro v row h
  have hlt : v < f.blocks.length := by have := (List.getElem?_eq_some_iff.1 h).1; rwa [nexts_length] at this
  have hr : (nexts f)[v]? = some (succs f.blocks.length (f.blocks[v]).term.to) := by simp [nexts, hlt]
  rw [hr] at h; cases h
  refine ⟨?_, by rw [nexts_length]; exact succs_in⟩
  have h1 := foldl_addS_length f.blocks.length (f.blocks[v]).term.to []
  have h2 := ht _ (List.getElem_mem hlt)
  simp only [List.length_nil, Nat.zero_add] at h1
  exact Nat.le_trans h1 h2
def predsTo (nx : List (List Int)) (i : Nat) (part : List Int) (t : Nat) : List Int :=
  ((List.range i).filter fun j => decide ((t : Int) ∈ nx.getD j [])).map (fun j : Nat => (j : Int)) ++ (if (t : Int) ∈ part then [(i : Int)] else [])
def aheadTo (nx : List (List Int)) (i : Nat) (part : List Int) : List (List Int) := (List.range nx.length).map (predsTo nx i part)
def preds (nx : List (List Int)) (t : Nat) : List Int := ((List.range nx.length).filter fun j => decide ((t : Int) ∈ nx.getD j [])).map (fun j : Nat => (j : Int))
def aheads (nx : List (List Int)) : List (List Int) := (List.range nx.length).map (preds nx)
theorem aheads_length (nx : List (List Int)) : (aheads nx).length = nx.length := by simp [aheads]
theorem aheads_get (nx : List (List Int)) (t : Nat) (h : t < nx.length) : (aheads nx)[t]? = some (preds nx t) := by simp [aheads, h]
theorem predsTo_length (nx : List (List Int)) (i : Nat) (part : List Int) (t : Nat) : (predsTo nx i part t).length ≤ i + 1 := by
  unfold predsTo
  have h1 : ((List.range i).filter fun j => decide ((t : Int) ∈ nx.getD j [])).length ≤ (List.range i).length := List.length_filter_le _ _
  simp only [List.length_range] at h1
  rw [List.length_append, List.length_map]
  split <;> simp only [List.length_singleton, List.length_nil] <;> omega
theorem predsTo_next (nx : List (List Int)) (i t : Nat) (h : i < nx.length) : predsTo nx i (nx.getD i []) t = predsTo nx (i + 1) [] t := by
  unfold predsTo
  rw [List.range_succ, List.filter_append, List.map_append]
  by_cases hc : (t : Int) ∈ nx.getD i []
  · rw [if_pos hc, List.filter_cons_of_pos (by simpa using hc)]; simp
  · rw [if_neg hc, List.filter_cons_of_neg (by simpa using hc)]; simp
theorem predsTo_end (nx : List (List Int)) (t : Nat) : predsTo nx nx.length [] t = preds nx t := by simp [predsTo, preds]
theorem succs_nodup (n : Nat) (to : List Int) : (succs n to).Nodup := by
  have key : ∀ (to acc : List Int), acc.Nodup → (to.foldl (addS n) acc).Nodup := by
    intro to
    induction to with
    | nil => intro acc h; exact h
    | cons t to ih =>
      intro acc h
      refine ih _ ?_
      unfold addS
      split
      · rename_i hc
        rw [List.nodup_append]
        exact ⟨h, by simp, fun x hx y hy => by simp at hy; subst hy; exact fun he => hc.2.2 (he ▸ hx)⟩
      · exact h
  exact key to [] List.nodup_nil
theorem mem_foldl_addS (n : Nat) (x : Int) : ∀ (to acc : List Int), x ∈ to.foldl (addS n) acc ↔ x ∈ acc ∨ (x ∈ to ∧ 0 ≤ x ∧ x < n)
  | [], acc => by simp
  | t :: to, acc => by
    rw [List.foldl_cons, mem_foldl_addS n x to]
    unfold addS
    by_cases hc : 0 ≤ t ∧ t < (n : Int) ∧ t ∉ acc
    · rw [if_pos hc]
      simp only [List.mem_append, List.mem_cons, List.not_mem_nil, or_false]
      constructor
      · rintro ((h | rfl) | h)
        · exact .inl h
        · exact .inr ⟨.inl rfl, hc.1, hc.2.1⟩
        · exact .inr ⟨.inr h.1, h.2⟩
      · rintro (h | ⟨rfl | h, h2⟩)
        · exact .inl (.inl h)
        · exact .inl (.inr rfl)
        · exact .inr ⟨h, h2⟩
    · rw [if_neg hc]
      simp only [List.mem_cons]
      constructor
      · rintro (h | h)
        · exact .inl h
        · exact .inr ⟨.inr h.1, h.2⟩
      · rintro (h | ⟨rfl | h, h2⟩)
        · exact .inl h
        · by_cases hx : x ∈ acc
          · exact .inl hx
          · exact absurd ⟨h2.1, h2.2, hx⟩ hc
        · exact .inr ⟨h, h2⟩
theorem mem_succs {n : Nat} {x : Int} {to : List Int} : x ∈ succs n to ↔ x ∈ to ∧ 0 ≤ x ∧ x < n := by
  rw [succs, mem_foldl_addS]; simp
theorem nexts_get (f : PFunc) (v : Nat) (h : v < f.blocks.length) : (nexts f)[v]? = some (succs f.blocks.length f.blocks[v].term.to) := by simp [nexts, h]
theorem preds_in (nx : List (List Int)) (t : Nat) : ∀ x ∈ preds nx t, 0 ≤ x ∧ x < (nx.length : Int) := by
  intro x hx
  simp only [preds, List.mem_map, List.mem_filter, List.mem_range] at hx
  obtain ⟨j, ⟨hj, _⟩, rfl⟩ := hx
  omega
def cnt (s : List Bool) : Nat := s.count false
theorem cnt_mono : ∀ (s t : List Bool), s.length = t.length → (∀ v : Nat, s[v]? = some true → t[v]? = some true) → cnt t ≤ cnt s
  | [], t, hl, _ => by
    have : t = [] := List.eq_nil_of_length_eq_zero (by simpa using hl.symm)
    subst this; exact Nat.le_refl _
  | a :: s, [], hl, _ => by simp at hl
  | a :: s, b :: t, hl, h => by
    have ih := cnt_mono s t (by simpa using hl) (fun v hv => by simpa using h (v + 1) (by simpa using hv))
    have h0 := h 0
    simp only [cnt, List.count_cons] at ih ⊢
    cases a <;> cases b <;> simp_all <;> omega
theorem cnt_set : ∀ (s : List Bool) (v : Nat), s[v]? = some false → cnt (s.set v true) + 1 = cnt s
  | [], v, h => by simp at h
  | a :: s, 0, h => by simp at h; subst h; simp [cnt]
  | a :: s, v + 1, h => by
    have ih := cnt_set s v (by simpa using h)
    simp only [cnt, List.set_cons_succ, List.count_cons] at ih ⊢
    omega
theorem get_set (s : List Bool) (b v : Nat) (h : b < s.length) : (s.set b true)[v]? = if b = v then some true else s[v]? := by
  rw [List.getElem?_set]
  by_cases hbv : b = v
  · subst hbv; simp [h]
  · simp [hbv]
end Go.Proofs.YtpomfbdbkejedaaGreatDoor
set_option linter.unusedVariables false
set_option linter.unusedSimpArgs false
namespace Go.Proofs.YtpomfbdbkejedaaGreatDoor
open Go Go.Proofs

theorem graphNext_in (B : PBlock) (next : List (List Int)) (i : Nat) (hi : i < next.length) (h0 : next[i] = []) (ht : B.term.to.length ≤ 70) :
    whl (fun (s : List (List Int) × Int) => graph_Next.bd24 i B s.1 s.2) FUEL (next, 0) = some (next.set i (succs next.length B.term.to)) := by
  have hrun := whl_run (body := fun (s : List (List Int) × Int) => graph_Next.bd24 i B s.1 s.2) (r := next.set i (succs next.length B.term.to)) B.term.to.length FUEL
    (fun j => (next.set i ((B.term.to.take j).foldl (addS next.length) []), (j : Int))) (fun j hj => by
      have hal : ((B.term.to.take j).foldl (addS next.length) []).length ≤ 70 := by
        have := foldl_addS_length next.length (B.term.to.take j) []
        simp at this; omega
      simp only [graph_Next.bd24, len_lt, hj, if_true, idx_lt hj, Option.bind_some, foldl_take _ _ _ hj, idx_set _ _ _ hi]
      rw [contains_eq _ _ (by simp only [maxLen]; omega)]
      simp only [Option.bind_some, graph_Next.jn34, w64_at hj (show B.term.to.length ≤ maxLen by simp only [maxLen]; omega)]
      generalize ((B.term.to.take j).foldl (addS next.length) []) = acc at hal
      generalize B.term.to[j] = t
      have h2 : acc.length + 1 < LIM := by simp only [LIM]; omega
      unfold addS
      by_cases h1 : t ≥ 0 ∧ t < len (next.set i acc)
      · rw [if_pos h1]
        simp only [len, List.length_set] at h1
        by_cases h3 : t ∈ acc
        · simp [h3]
        · have hc : 0 ≤ t ∧ t < (next.length : Int) ∧ t ∉ acc := ⟨h1.1, h1.2, h3⟩
          rw [if_pos hc]
          simp [h3, cat, h2, List.set_set]
      · rw [if_neg h1]
        simp only [len, List.length_set] at h1
        have hc : ¬ (0 ≤ t ∧ t < (next.length : Int) ∧ t ∉ acc) := fun hc => h1 ⟨hc.1, hc.2.1⟩
        rw [if_neg hc]
        simp) (by simp [graph_Next.bd24, len, succs]) (lt_FUEL (by simp only [maxLen]; omega))
  simp only [List.take_zero, List.foldl_nil] at hrun
  have hs : next.set i [] = next := by rw [← h0]; exact List.set_getElem_self hi
  rw [hs] at hrun
  exact hrun
theorem graphNext_eq (f : PFunc) (hn : f.blocks.length ≤ 70) (ht : ∀ B ∈ f.blocks, B.term.to.length ≤ 70) : graph_Next f = some (nexts f) := by
  unfold graph_Next
  have hmk : mkl (len f.blocks) ([] : List Int) = some (List.replicate f.blocks.length []) := by
    have h1 : f.blocks.length < LIM := by simp only [LIM]; omega
    simp [mkl, len, h1]
  rw [hmk]
  simp only [Option.bind_some]
  have hrun := whl_run (body := fun (s : List (List Int) × Int) => graph_Next.bd9 f s.1 s.2) (r := nexts f) f.blocks.length FUEL
    (fun i => ((f.blocks.take i).map (fun (B : PBlock) => succs f.blocks.length B.term.to) ++ List.replicate (f.blocks.length - i) [], (i : Int))) (fun i hi => by
      have hlA : ((f.blocks.take i).map (fun (B : PBlock) => succs f.blocks.length B.term.to)).length = i := by simp; omega
      have hl : ((f.blocks.take i).map (fun (B : PBlock) => succs f.blocks.length B.term.to) ++ List.replicate (f.blocks.length - i) []).length = f.blocks.length := by rw [List.length_append, hlA]; simp; omega
      simp only [graph_Next.bd9, len_lt, hi, if_true, idx_lt hi, Option.bind_some]
      rw [graphNext_in _ _ i (by rw [hl]; exact hi) (by rw [List.getElem_append_right (by omega)]; simp) (ht _ (List.getElem_mem hi))]
      simp only [Option.bind_some, graph_Next.nx24, w64_at hi (show f.blocks.length ≤ maxLen by simp only [maxLen]; omega), hl]
      have hs : ((f.blocks.take i).map (fun (B : PBlock) => succs f.blocks.length B.term.to) ++ List.replicate (f.blocks.length - i) []).set i (succs f.blocks.length f.blocks[i].term.to) =
          (f.blocks.take (i + 1)).map (fun (B : PBlock) => succs f.blocks.length B.term.to) ++ List.replicate (f.blocks.length - (i + 1)) [] := by
        rw [List.set_append_right _ _ (by omega), hlA, Nat.sub_self]
        obtain ⟨d, hd⟩ : ∃ d, f.blocks.length - i = d + 1 := ⟨f.blocks.length - i - 1, by omega⟩
        rw [hd, show f.blocks.length - (i + 1) = d by omega, List.take_succ_eq_append_getElem hi]
        simp only [List.replicate_succ, List.map_append, List.map_cons, List.map_nil, List.set_cons_zero, List.append_assoc, List.cons_append, List.nil_append]
      rw [hs]) (by simp [graph_Next.bd9, len, nexts]) (lt_FUEL (by simp only [maxLen]; omega))
  simp only [List.take_zero, List.map_nil, List.nil_append, Nat.sub_zero] at hrun
  have h0 : (List.replicate f.blocks.length ([] : List Int), ((0 : Nat) : Int)) = (List.replicate f.blocks.length ([] : List Int), (0 : Int)) := rfl
  rw [h0] at hrun
  rw [hrun]
  rfl
end Go.Proofs.YtpomfbdbkejedaaGreatDoor
set_option linter.unusedVariables false
set_option linter.unusedSimpArgs false
namespace Go.Proofs.YtpomfbdbkejedaaGreatDoor
open Go Go.Proofs

/-! ### Lists of flags -/
/-! ### What a part of the walk does -/
inductive Reach (nx : List (List Int)) : Nat → Nat → Prop
  | refl (v : Nat) : Reach nx v v
  | step {u v w : Nat} {row : List Int} : Reach nx u v → nx[v]? = some row → (w : Int) ∈ row → Reach nx u w
theorem Reach.trans {nx : List (List Int)} {u v w : Nat} (h : Reach nx u v) (k : Reach nx v w) : Reach nx u w := by
  induction k with
  | refl => exact h
  | step _ g5 g6 ih => exact .step ih g5 g6
structure V (nx : List (List Int)) (roots : Nat → Prop) (s : List Bool) (o : List Int) (s' : List Bool) (o' : List Int) : Prop where
  len : s'.length = s.length
  mono : ∀ v : Nat, s[v]? = some true → s'[v]? = some true
  cnt : o'.length + cnt s' ≤ o.length + cnt s
  app : ∃ new : List Int, o' = o ++ new ∧ new.Nodup ∧ ∀ x, x ∈ new ↔ ∃ v : Nat, x = v ∧ s'[v]? = some true ∧ s[v]? = some false
  clos : ∀ (v w : Nat) (row : List Int), s'[v]? = some true → s[v]? = some false → nx[v]? = some row → (w : Int) ∈ row → s'[w]? = some true
  reach : ∀ v : Nat, s'[v]? = some true → s[v]? = some false → ∃ r, roots r ∧ Reach nx r v
theorem V.refl (nx : List (List Int)) (roots : Nat → Prop) (s : List Bool) (o : List Int) : V nx roots s o s o :=
  ⟨rfl, fun _ h => h, Nat.le_refl _, ⟨[], by simp, List.nodup_nil, fun x => ⟨fun h => by simp at h, fun ⟨v, _, h1, h2⟩ => (by rw [h1] at h2; cases h2)⟩⟩, fun v w row h1 h2 => (by rw [h1] at h2; cases h2), fun v h1 h2 => (by rw [h1] at h2; cases h2)⟩
theorem V.flag {nx : List (List Int)} {roots : Nat → Prop} {s s' : List Bool} {o o' : List Int} (h : V nx roots s o s' o') {v : Nat} (h' : s'[v]? = some true) : s[v]? = some true ∨ s[v]? = some false := by
  have hlt : v < s.length := by rw [← h.len]; exact (List.getElem?_eq_some_iff.1 h').1
  rw [List.getElem?_eq_getElem hlt]
  cases s[v] <;> simp
theorem V.trans {nx : List (List Int)} {roots : Nat → Prop} {s s1 s2 : List Bool} {o o1 o2 : List Int} (h : V nx roots s o s1 o1) (k : V nx roots s1 o1 s2 o2) : V nx roots s o s2 o2 := by
  obtain ⟨n1, rfl, hn1, hm1⟩ := h.app
  obtain ⟨n2, rfl, hn2, hm2⟩ := k.app
  refine ⟨k.len.trans h.len, fun v hv => k.mono v (h.mono v hv), Nat.le_trans k.cnt h.cnt, ⟨n1 ++ n2, by simp, ?_, fun x => ?_⟩, fun v w row h1 h2 h3 h4 => ?_, fun v h1 h2 => ?_⟩
  · rw [List.nodup_append]
    refine ⟨hn1, hn2, fun x hx y hy hxy => ?_⟩
    subst hxy
    obtain ⟨v, rfl, g1, _⟩ := (hm1 x).1 hx
    obtain ⟨w, hw, _, g2⟩ := (hm2 _).1 hy
    have : v = w := by omega
    subst this
    rw [g1] at g2; cases g2
  · rw [List.mem_append]
    constructor
    · rintro (hx | hx)
      · obtain ⟨v, rfl, g1, g2⟩ := (hm1 x).1 hx
        exact ⟨v, rfl, k.mono v g1, g2⟩
      · obtain ⟨v, rfl, g1, g2⟩ := (hm2 x).1 hx
        refine ⟨v, rfl, g1, ?_⟩
        have hlt : v < s.length := by rw [← h.len]; exact (List.getElem?_eq_some_iff.1 g2).1
        cases hs : s[v] with
        | true => have := h.mono v (by rw [List.getElem?_eq_getElem hlt, hs]); rw [this] at g2; cases g2
        | false => rw [List.getElem?_eq_getElem hlt, hs]
    · rintro ⟨v, rfl, g1, g2⟩
      rcases k.flag g1 with g3 | g3
      · exact .inl ((hm1 _).2 ⟨v, rfl, g3, g2⟩)
      · exact .inr ((hm2 _).2 ⟨v, rfl, g1, g3⟩)
  · rcases k.flag h1 with g3 | g3
    · exact k.mono w (h.clos v w row g3 h2 h3 h4)
    · exact k.clos v w row h1 g3 h3 h4
  · rcases k.flag h1 with g3 | g3
    · exact h.reach v g3 h2
    · exact k.reach v h1 g3
/-! ### One call -/
theorem walk_ok (nx : List (List Int)) (hN : nx.length ≤ 70) (hrow : ∀ (v : Nat) (row : List Int), nx[v]? = some row → row.length ≤ 70 ∧ ∀ x ∈ row, 0 ≤ x ∧ x < (nx.length : Int)) :
    ∀ (k b : Nat) (s : List Bool) (o : List Int), s.length = nx.length → s[b]? = some false → cnt s < k → o.length + cnt s ≤ 70 →
      ∃ s' o', graph_order_1.it k b s nx o = some (s', o') ∧ V nx (· = b) s o s' o' ∧ s'[b]? = some true
  | 0, b, s, o, _, _, hk, _ => by omega
  | k + 1, b, s, o, hl, hb, hk, ho => by
    have hbl : b < s.length := (List.getElem?_eq_some_iff.1 hb).1
    have hbn : b < nx.length := by omega
    obtain ⟨hr1, hr2⟩ := hrow b nx[b] (List.getElem?_eq_getElem hbn)
    have hc := cnt_set s b hb
    have hl0 : (s.set b true).length = nx.length := by simp [hl]
    -- the loop over what b leads to
    have hloop : ∃ z : List Bool × List Int, whl (fun (q : List Bool × List Int × Int) => graph_order_1.bd10 nx (graph_order_1.it k) nx[b] q.1 q.2.1 q.2.2) FUEL (s.set b true, o, 0) = some z ∧
        V nx (fun r => (r : Int) ∈ nx[b]) (s.set b true) o z.1 z.2 ∧ ∀ x ∈ nx[b], ∃ v : Nat, x = v ∧ z.1[v]? = some true := by
      refine whl_ex (fun q : List Bool × List Int × Int => ∃ i : Nat, q.2.2 = i ∧ i ≤ nx[b].length ∧ V nx (fun r => (r : Int) ∈ nx[b]) (s.set b true) o q.1 q.2.1 ∧ ∀ x ∈ nx[b].take i, ∃ v : Nat, x = v ∧ q.1[v]? = some true)
        (fun q => nx[b].length - q.2.2.toNat) (fun z : List Bool × List Int => V nx (fun r => (r : Int) ∈ nx[b]) (s.set b true) o z.1 z.2 ∧ ∀ x ∈ nx[b], ∃ v : Nat, x = v ∧ z.1[v]? = some true) ?_ FUEL _ ⟨0, rfl, Nat.zero_le _, V.refl _ _ _ _, by simp⟩ (by simp; exact lt_FUEL (by simp only [maxLen]; omega))
      rintro ⟨s1, o1, j⟩ ⟨i, rfl, hi, hV, hseen⟩
      simp only at hV hseen ⊢
      by_cases hlt : i < nx[b].length
      · right
        have hx := hr2 _ (List.getElem_mem hlt)
        obtain ⟨t, ht⟩ : ∃ t : Nat, nx[b][i] = t := ⟨(nx[b][i]).toNat, by omega⟩
        have htl : t < s1.length := by rw [hV.len, hl0]; omega
        simp only [graph_order_1.bd10, len_lt, hlt, if_true, idx_lt hlt, Option.bind_some, ht, idx_lt htl]
        cases hf : s1[t] with
        | true =>
          refine ⟨(s1, o1, ((i + 1 : Nat) : Int)), by simp [graph_order_1.jn21, w64_at hlt (show nx[b].length ≤ maxLen by simp only [maxLen]; omega)], ⟨i + 1, rfl, hlt, hV, fun x hx' => ?_⟩, by simp; omega⟩
          rw [List.take_succ_eq_append_getElem hlt, List.mem_append] at hx'
          rcases hx' with hx' | hx'
          · exact hseen x hx'
          · simp only [List.mem_singleton] at hx'
            exact ⟨t, hx'.trans ht, by rw [List.getElem?_eq_getElem htl, hf]⟩
        | false =>
          have hcm := cnt_mono (s.set b true) s1 (by rw [hV.len]) hV.mono
          have hvc := hV.cnt
          obtain ⟨s2, o2, h1, h2, h3⟩ := walk_ok nx hN hrow k t s1 o1 (by rw [hV.len]; exact hl0) (by rw [List.getElem?_eq_getElem htl, hf]) (by omega) (by omega)
          have hV2 : V nx (fun r => (r : Int) ∈ nx[b]) s1 o1 s2 o2 := ⟨h2.len, h2.mono, h2.cnt, h2.app, h2.clos, fun v g1 g2 => by
            obtain ⟨r, rfl, g3⟩ := h2.reach v g1 g2
            exact ⟨r, by rw [← ht]; exact List.getElem_mem hlt, g3⟩⟩
          refine ⟨(s2, o2, ((i + 1 : Nat) : Int)), by simp [h1, graph_order_1.jn21, w64_at hlt (show nx[b].length ≤ maxLen by simp only [maxLen]; omega)], ⟨i + 1, rfl, hlt, hV.trans hV2, fun x hx' => ?_⟩, by simp; omega⟩
          rw [List.take_succ_eq_append_getElem hlt, List.mem_append] at hx'
          rcases hx' with hx' | hx'
          · obtain ⟨v, rfl, g⟩ := hseen x hx'
            exact ⟨v, rfl, hV2.mono v g⟩
          · simp only [List.mem_singleton] at hx'
            exact ⟨t, hx'.trans ht, h3⟩
      · left
        have hie : i = nx[b].length := by omega
        refine ⟨(s1, o1), by simp [graph_order_1.bd10, len, hie], hV, fun x hx' => hseen x (by rw [hie, List.take_length]; exact hx')⟩
    obtain ⟨⟨s2, o2⟩, hw, hV, hall⟩ := hloop
    simp only at hV hall
    have hvc := hV.cnt
    have h2 : o2.length + 1 < LIM := by simp only [LIM]; omega
    refine ⟨s2, o2 ++ [(b : Int)], ?_, ?_, hV.mono b (by rw [get_set _ _ _ hbl, if_pos rfl])⟩
    · simp only [graph_order_1.it, graph_order_1.body, idx_lt hbl, idx_lt hbn, Option.bind_some, Int.toNat_natCast]
      rw [hw]
      simp [graph_order_1.nx10, cat, h2]
    · have hs0 : ∀ v : Nat, s[v]? = some true → (s.set b true)[v]? = some true := fun v hv => by rw [get_set _ _ _ hbl]; split <;> simp_all
      obtain ⟨new, rfl, hn, hm⟩ := hV.app
      have hbt : s2[b]? = some true := hV.mono b (by rw [get_set _ _ _ hbl, if_pos rfl])
      refine ⟨hV.len.trans (by simp), fun v hv => hV.mono v (hs0 v hv), by simp only [List.length_append, List.length_singleton] at hvc ⊢; omega, ⟨new ++ [(b : Int)], by simp, ?_, fun x => ?_⟩, fun v w row g1 g2 g3 g4 => ?_, fun v g1 g2 => ?_⟩
      · rw [List.nodup_append]
        refine ⟨hn, by simp, fun x hx y hy hxy => ?_⟩
        simp only [List.mem_singleton] at hy
        subst hxy hy
        obtain ⟨v, hv, _, g⟩ := (hm _).1 hx
        have : v = b := by omega
        subst this
        rw [get_set _ _ _ hbl, if_pos rfl] at g; cases g
      · rw [List.mem_append, List.mem_singleton, hm]
        constructor
        · rintro (⟨v, rfl, g1, g2⟩ | rfl)
          · rw [get_set _ _ _ hbl] at g2
            split at g2
            · cases g2
            · exact ⟨v, rfl, g1, g2⟩
          · exact ⟨b, rfl, hbt, hb⟩
        · rintro ⟨v, rfl, g1, g2⟩
          by_cases hvb : b = v
          · exact .inr (by rw [hvb])
          · exact .inl ⟨v, rfl, g1, by rw [get_set _ _ _ hbl, if_neg hvb]; exact g2⟩
      · by_cases hvb : b = v
        · subst hvb
          rw [List.getElem?_eq_getElem hbn] at g3
          cases g3
          obtain ⟨w', hw', g⟩ := hall _ g4
          have : w = w' := by omega
          subst this; exact g
        · exact hV.clos v w row g1 (by rw [get_set _ _ _ hbl, if_neg hvb]; exact g2) g3 g4
      · by_cases hvb : b = v
        · exact ⟨b, rfl, hvb ▸ .refl b⟩
        · obtain ⟨r, g3, g4⟩ := hV.reach v g1 (by rw [get_set _ _ _ hbl, if_neg hvb]; exact g2)
          refine ⟨b, rfl, ?_⟩
          have h0 : Reach nx b r := .step (.refl b) (List.getElem?_eq_getElem hbn) g3
          exact h0.trans g4
end Go.Proofs.YtpomfbdbkejedaaGreatDoor
set_option linter.unusedVariables false
set_option linter.unusedSimpArgs false
namespace Go.Proofs.YtpomfbdbkejedaaGreatDoor
open Go

theorem whl_congr {ρ σ : Type} {b b' : σ → Option (Ex ρ σ)} (I : σ → Prop) (h : ∀ s, I s → b s = b' s ∧ ∀ s', b s = some (.go s') → I s') : ∀ (k : Nat) (s : σ), I s → whl b k s = whl b' k s
  | 0, s, _ => rfl
  | k + 1, s, hI => by
    obtain ⟨h1, h2⟩ := h s hI
    simp only [whl, ← h1]
    cases hb : b s with
    | none => rfl
    | some x =>
      cases x with
      | ret r => rfl
      | go s' => exact whl_congr I h k s' (h2 s' hb)
theorem whl_inv {ρ σ : Type} {b : σ → Option (Ex ρ σ)} (I : σ → Prop) (R : ρ → Prop) (h1 : ∀ s r, I s → b s = some (.ret r) → R r) (h2 : ∀ s s', I s → b s = some (.go s') → I s') :
    ∀ (k : Nat) (s : σ) (r : ρ), I s → whl b k s = some r → R r
  | 0, s, r, _, h => by simp [whl] at h
  | k + 1, s, r, hI, h => by
    simp only [whl] at h
    cases hb : b s with
    | none => rw [hb] at h; simp at h
    | some x =>
      rw [hb] at h
      cases x with
      | ret r' => simp at h; subst h; exact h1 s _ hI hb
      | go s' => exact whl_inv I R h1 h2 k s' r (h2 s s' hI hb) h

theorem it_len (nx : List (List Int)) : ∀ (k : Nat) (b : Int) (s : List Bool) (o : List Int) (z : List Bool × List Int), graph_order_1.it k b s nx o = some z → z.1.length = s.length
  | 0, b, s, o, z, h => by simp [graph_order_1.it] at h
  | k + 1, b, s, o, z, h => by
    simp only [graph_order_1.it, graph_order_1.body] at h
    obtain ⟨x, _, h⟩ := bind_some' h
    obtain ⟨row, _, h⟩ := bind_some' h
    obtain ⟨q, hq, h⟩ := bind_some' h
    have hl := whl_inv (fun t : List Bool × List Int × Int => t.1.length = s.length) (fun r : List Bool × List Int => r.1.length = s.length) (fun t r hI hb => by
      simp only [graph_order_1.bd10] at hb
      split at hb
      · obtain ⟨u, _, hb⟩ := bind_some' hb
        obtain ⟨v, _, hb⟩ := bind_some' hb
        split at hb
        · obtain ⟨w, _, hb⟩ := bind_some' hb
          simp [graph_order_1.jn21] at hb
        · simp [graph_order_1.jn21] at hb
      · simp at hb; subst hb; exact hI) (fun t t' hI hb => by
      simp only [graph_order_1.bd10] at hb
      split at hb
      · obtain ⟨u, _, hb⟩ := bind_some' hb
        obtain ⟨v, _, hb⟩ := bind_some' hb
        split at hb
        · obtain ⟨w, hw, hb⟩ := bind_some' hb
          simp [graph_order_1.jn21] at hb; subst hb
          exact (it_len nx k _ _ _ _ hw).trans hI
        · simp [graph_order_1.jn21] at hb; subst hb; exact hI
      · simp at hb) FUEL _ _ (by simp) hq
    simp only [graph_order_1.nx10] at h
    obtain ⟨u, _, h⟩ := bind_some' h
    simp at h; subst h
    exact hl
end Go.Proofs.YtpomfbdbkejedaaGreatDoor
set_option linter.unusedVariables false
set_option linter.unusedSimpArgs false
namespace Go.Proofs.YtpomfbdbkejedaaGreatDoor
open Go

/-- A row whose first i and last i are exchanged. -/
def swp (a : List Int) (i : Nat) : List Int := (List.range a.length).map fun v => if v < i ∨ a.length - i ≤ v then a.getD (a.length - 1 - v) 0 else a.getD v 0
theorem swp_length (a : List Int) (i : Nat) : (swp a i).length = a.length := by simp [swp]
theorem swp_get (a : List Int) (i v : Nat) (h : v < a.length) : (swp a i)[v]? = some (if v < i ∨ a.length - i ≤ v then a.getD (a.length - 1 - v) 0 else a.getD v 0) := by
  simp [swp, h]
theorem swp_zero (a : List Int) : swp a 0 = a := by
  apply List.ext_getElem?
  intro v
  rcases Nat.lt_or_ge v a.length with h | h
  · rw [swp_get _ _ _ h, if_neg (by omega), List.getD_eq_getElem?_getD, List.getElem?_eq_getElem h]; rfl
  · rw [List.getElem?_eq_none (by rw [swp_length]; exact h), List.getElem?_eq_none h]
theorem swp_rev (a : List Int) (i : Nat) (h : a.length ≤ 2 * i + 1) : swp a i = a.reverse := by
  apply List.ext_getElem?
  intro v
  rcases Nat.lt_or_ge v a.length with hv | hv
  · rw [swp_get _ _ _ hv, List.getElem?_reverse hv]
    rw [List.getElem?_eq_getElem (by omega)]
    by_cases hc : v < i ∨ a.length - i ≤ v
    · rw [if_pos hc, List.getD_eq_getElem?_getD, List.getElem?_eq_getElem (by omega)]; rfl
    · rw [if_neg hc]
      have : a.length - 1 - v = v := by omega
      simp only [this, List.getD_eq_getElem?_getD, List.getElem?_eq_getElem hv, Option.getD_some]
  · rw [List.getElem?_eq_none (by rw [swp_length]; exact hv), List.getElem?_eq_none (by simpa using hv)]
theorem swp_step (a : List Int) (i : Nat) (h : i + i + 1 < a.length) : ((swp a i).set i (a.getD (a.length - 1 - i) 0)).set (a.length - 1 - i) (a.getD i 0) = swp a (i + 1) := by
  apply List.ext_getElem?
  intro v
  rcases Nat.lt_or_ge v a.length with hv | hv
  · rw [List.getElem?_set, List.getElem?_set, swp_get _ _ _ hv, swp_get _ _ _ hv]
    simp only [List.length_set, swp_length]
    by_cases h1 : a.length - 1 - i = v
    · rw [if_pos h1, if_pos (by omega), if_pos (by omega)]
      congr 2; omega
    · rw [if_neg h1]
      by_cases h2 : i = v
      · rw [if_pos h2, if_pos (by omega), if_pos (by omega), h2]
      · rw [if_neg h2]
        by_cases h3 : v < i ∨ a.length - i ≤ v
        · rw [if_pos h3, if_pos (by omega)]
        · rw [if_neg h3, if_neg (by omega)]
  · rw [List.getElem?_eq_none (by simp [swp_length]; exact hv), List.getElem?_eq_none (by rw [swp_length]; exact hv)]
theorem reverse_eq (a : List Int) (hl : a.length ≤ 70) : slices_Reverse a = some a.reverse := by
  unfold slices_Reverse
  have hrun := whl_run (body := fun (s : List Int × Int × Int) => slices_Reverse.bd8 s.1 s.2.1 s.2.2) (r := a.reverse) (a.length / 2) FUEL
    (fun i => (swp a i, (i : Int), (a.length : Int) - (i + 1 : Nat))) (fun i hi => by
      have h1 : i + i + 1 < a.length := by omega
      have hjj : (a.length : Int) - ((i + 1 : Nat) : Int) = ((a.length - 1 - i : Nat) : Int) := by omega
      have e1 : idx (swp a i) ((a.length - 1 - i : Nat) : Int) = some (a.getD (a.length - 1 - i) 0) := by rw [idx_nat, swp_get _ _ _ (by omega), if_neg (by omega)]
      have e2 : idx (swp a i) (i : Int) = some (a.getD i 0) := by rw [idx_nat, swp_get _ _ _ (by omega), if_neg (by omega)]
      have e3 : ∃ y, idx ((swp a i).set i (a.getD (a.length - 1 - i) 0)) ((a.length - 1 - i : Nat) : Int) = some y := ⟨_, idx_lt (by rw [List.length_set, swp_length]; omega)⟩
      obtain ⟨y, e3⟩ := e3
      have e4 : w64 (((a.length - 1 - i : Nat) : Int) - 1) = (a.length : Int) - ((i + 1 + 1 : Nat) : Int) := by rw [w64_id ⟨by omega, by omega⟩]; omega
      have e5 : w64 ((i : Int) + 1) = ((i + 1 : Nat) : Int) := w64_succ (by omega)
      simp only [slices_Reverse.bd8, hjj]
      rw [if_pos (by omega)]
      simp only [e1, e2, Option.bind_some, Int.toNat_natCast, e3, slices_Reverse.jn18, e4, e5, swp_step a i h1]) (by
      simp only [slices_Reverse.bd8]
      rw [if_neg (by omega), swp_rev a _ (by omega)]) (lt_FUEL (by simp only [maxLen]; omega))
  rw [swp_zero] at hrun
  have h0 : w64 ((a.length : Int) - 1) = (a.length : Int) - ((0 + 1 : Nat) : Int) := by rw [w64_id ⟨by omega, by omega⟩]; omega
  simp only [len]
  rw [h0]
  have e0 : (((0 : Nat) : Int)) = 0 := rfl
  simp only [e0] at hrun
  rw [hrun]
  rfl
end Go.Proofs.YtpomfbdbkejedaaGreatDoor
set_option linter.unusedVariables false
set_option linter.unusedSimpArgs false
namespace Go.Proofs.YtpomfbdbkejedaaGreatDoor
open Go

def Closed (nx : List (List Int)) (C : Nat → Prop) : Prop := ∀ (v w : Nat) (row : List Int), C v → nx[v]? = some row → (w : Int) ∈ row → C w
def sn (s : List Bool) (v : Nat) : Prop := s[v]? = some true
/-- What marking does: nothing is lost; only what is led to is won. -/
structure M (nx : List (List Int)) (s s' : List Bool) : Prop where
  len : s'.length = s.length
  mono : ∀ v, sn s v → sn s' v
  sound : ∀ C : Nat → Prop, Closed nx C → (∀ v, sn s v → C v) → ∀ v, sn s' v → C v
theorem M.refl (nx : List (List Int)) (s : List Bool) : M nx s s := ⟨rfl, fun _ h => h, fun C _ h v hv => h v hv⟩
theorem M.trans {nx : List (List Int)} {s s1 s2 : List Bool} (h : M nx s s1) (k : M nx s1 s2) : M nx s s2 :=
  ⟨k.len.trans h.len, fun v hv => k.mono v (h.mono v hv), fun C hC hs v hv => k.sound C hC (h.sound C hC hs) v hv⟩
theorem cnt_less {s t : List Bool} (hl : s.length = t.length) (hm : ∀ v, sn s v → sn t v) {v : Nat} (h1 : sn t v) (h2 : ¬ sn s v) : cnt t + 1 ≤ cnt s := by
  have hlt : v < s.length := by rw [hl]; exact (List.getElem?_eq_some_iff.1 h1).1
  have hf : s[v]? = some false := by
    unfold sn at h2
    rw [List.getElem?_eq_getElem hlt] at h2 ⊢
    cases hs : s[v] <;> simp_all
  have := cnt_mono (s.set v true) t (by simpa using hl) (fun u hu => by
    rw [get_set _ _ _ hlt] at hu
    split at hu
    · rename_i he; subst he; exact h1
    · exact hm u hu)
  have := cnt_set s v hf
  omega

section
end
end Go.Proofs.YtpomfbdbkejedaaGreatDoor
set_option linter.unusedVariables false
set_option linter.unusedSimpArgs false
namespace Go.Proofs.YtpomfbdbkejedaaGreatDoor
open Go Go.Proofs

theorem walked (f : PFunc) (hn : f.blocks.length ≤ 70) (ht : ∀ B ∈ f.blocks, B.term.to.length ≤ 70) (hpos : 0 < f.blocks.length) :
    ∃ s o, graph_order_1.it FUEL 0 (List.replicate f.blocks.length false) (nexts f) [] = some (s, o) ∧ V (nexts f) (· = 0) (List.replicate f.blocks.length false) [] s o ∧ sn s 0 ∧ o.length ≤ 70 := by
  have hc : cnt (List.replicate f.blocks.length false) = f.blocks.length := by simp [cnt]
  obtain ⟨s, o, h1, h2, h3⟩ := walk_ok (nexts f) (by rw [nexts_length]; exact hn) (nexts_rows f ht) FUEL 0 (List.replicate f.blocks.length false) [] (by simp [nexts_length]) (by simp [hpos])
    (by rw [hc]; exact lt_FUEL (by simp only [maxLen]; omega)) (by rw [hc]; simpa using hn)
  have hcnt := h2.cnt
  rw [hc] at hcnt
  simp only [List.length_nil] at hcnt
  exact ⟨s, o, h1, h2, h3, by omega⟩
theorem order_eq (f : PFunc) (hn : f.blocks.length ≤ 70) (ht : ∀ B ∈ f.blocks, B.term.to.length ≤ 70) (hpos : 0 < f.blocks.length) {s : List Bool} {o : List Int}
    (h : graph_order_1.it FUEL 0 (List.replicate f.blocks.length false) (nexts f) [] = some (s, o)) (ho : o.length ≤ 70) : graph_order f = some (o.reverse, s) := by
  unfold graph_order
  rw [graphNext_eq f hn ht]
  simp only [Option.bind_some, len, nexts_length, mkl_rep false hn]
  rw [if_pos (by omega)]
  unfold graph_order_1
  rw [h]
  simp only [Option.bind_some, graph_order.jn7, reverse_eq o ho]
theorem order_nil (f : PFunc) (h0 : f.blocks.length = 0) : graph_order f = some ([], []) := by
  have hb : f.blocks = [] := List.eq_nil_of_length_eq_zero h0
  unfold graph_order
  rw [graphNext_eq f (by omega) (by rw [hb]; simp)]
  have hx : nexts f = [] := by simp [nexts, hb]
  simp only [Option.bind_some, hx, len, List.length_nil]
  have := mkl_rep false (n := 0) (by omega)
  simp only [List.replicate_zero] at this
  rw [this]
  simp only [Option.bind_some]
  rw [if_neg (by omega)]
  simp only [graph_order.jn7, reverse_eq [] (by simp)]
  rfl
end Go.Proofs.YtpomfbdbkejedaaGreatDoor
set_option linter.unusedVariables false
set_option linter.unusedSimpArgs false
namespace Go.Proofs.YtpomfbdbkejedaaGreatDoor
open Go Go.Proofs

/-! ### Arguments that stay -/
def keptF (args ahead : List Int) (seen : List Bool) : List Int :=
  if args.length = ahead.length then ((args.zip ahead).filter fun p => seen.getD p.2.toNat false).map (·.1) else args
theorem clone_eq (a : List Int) (h : a.length ≤ 1000) : slices_Clone a = some a := by
  unfold slices_Clone; rw [cat_nil h]; rfl
/-! ### The new numbers -/
def numF (s : List Bool) : List Int := (List.range s.length).map fun i => if s.getD i false = true then (((s.take i).count true : Nat) : Int) else -1
theorem numF_length (s : List Bool) : (numF s).length = s.length := by simp [numF]
theorem numF_get (s : List Bool) (i : Nat) (h : i < s.length) : (numF s)[i]? = some (if s[i] = true then (((s.take i).count true : Nat) : Int) else -1) := by
  simp [numF, h]
def renum (nums : List Int) (t : Int) : Int := if 0 ≤ t ∧ t < (nums.length : Int) then nums.getD t.toNat 0 else t
def trimB (seen : List Bool) (ah : List Int) (B : PBlock) : PBlock :=
  ⟨B.phis.map (fun p => ⟨p.dst, keptF p.args ah seen⟩), B.ins, ⟨B.term.kind, B.term.arg, B.term.to.map (renum (numF seen))⟩⟩
def trimAt (f : PFunc) (seen : List Bool) (i : Nat) : Option PBlock :=
  match f.blocks[i]? with
  | some B => if seen.getD i false = true then some (trimB seen (preds (nexts f) i) B) else none
  | none => none
def trimF (f : PFunc) (seen : List Bool) : PFunc := ⟨f.params, f.result, f.regs, (List.range f.blocks.length).filterMap (trimAt f seen)⟩

theorem keptF_length (args ahead : List Int) (seen : List Bool) : (keptF args ahead seen).length ≤ args.length := by
  unfold keptF
  split
  · have := List.length_filter_le (fun p : Int × Int => seen.getD p.2.toNat false) (args.zip ahead)
    simp only [List.length_map, List.length_zip] at this ⊢; omega
  · exact Nat.le_refl _
/-! ### What is reached, and the order -/
structure Walked (f : PFunc) (s : List Bool) (o : List Int) : Prop where
  len : s.length = f.blocks.length
  ord : graph_Order f = some o.reverse
  rea : graph_Reached f = some s
  few : o.length ≤ 70
theorem walked_any (f : PFunc) (hf : SmF f) : ∃ s o, Walked f s o ∧ (f.blocks.length = 0 → s = [] ∧ o = []) ∧ (0 < f.blocks.length → V (nexts f) (· = 0) (List.replicate f.blocks.length false) [] s o ∧ sn s 0 ∧ graph_order_1.it FUEL 0 (List.replicate f.blocks.length false) (nexts f) [] = some (s, o)) := by
  obtain ⟨hn, _, _, hB⟩ := hf
  have ht : ∀ B ∈ f.blocks, B.term.to.length ≤ 70 := fun B hm => (hB B hm).2.2.1
  rcases Nat.eq_zero_or_pos f.blocks.length with h0 | hpos
  · refine ⟨[], [], ⟨h0.symm, ?_, ?_, by simp⟩, fun _ => ⟨rfl, rfl⟩, fun h => by omega⟩ <;> simp [graph_Order, graph_Reached, order_nil f h0]
  · obtain ⟨s, o, hit, hV, hs0, ho⟩ := walked f hn ht hpos
    refine ⟨s, o, ⟨by rw [hV.len]; simp, ?_, ?_, ho⟩, fun h => by omega, fun _ => ⟨hV, hs0, hit⟩⟩ <;> simp [graph_Order, graph_Reached, order_eq f hn ht hpos hit ho]
end Go.Proofs.YtpomfbdbkejedaaGreatDoor
set_option linter.unusedVariables false
set_option linter.unusedSimpArgs false
namespace Go.Proofs.YtpomfbdbkejedaaGreatDoor
open Go Go.Proofs

/-- A scan by index: what is amiss first is told, if anything. -/
theorem scan_ix {ρ : Type} (n : Nat) (hn : n ≤ maxLen) (P : Nat → Prop) (Q : ρ → Prop) (body : Int → Option (Ex (Ex ρ Unit) Int))
    (h : ∀ i, i < n → (∃ e, body (i : Int) = some (.ret (.ret e)) ∧ Q e ∧ ¬ P i) ∨ (body (i : Int) = some (.go ((i + 1 : Nat) : Int)) ∧ P i)) (he : body (n : Int) = some (.ret (.go ()))) :
    (∃ e, whl body FUEL 0 = some (.ret e) ∧ Q e ∧ ¬ ∀ i, i < n → P i) ∨ (whl body FUEL 0 = some (.go ()) ∧ ∀ i, i < n → P i) := by
  obtain ⟨r, hr, hR⟩ := whl_for (body := body) n (fun i s => s = (i : Int) ∧ ∀ j, j < i → P j) (fun r => (∃ e, r = .ret e ∧ Q e ∧ ¬ ∀ i, i < n → P i) ∨ (r = .go () ∧ ∀ i, i < n → P i)) hn
    (fun i s hi hI => by
      obtain ⟨rfl, hp⟩ := hI
      rcases h i hi with ⟨e, hb, hq, hnp⟩ | ⟨hb, hpi⟩
      · exact .inl ⟨_, hb, .inl ⟨e, rfl, hq, fun hall => hnp (hall i hi)⟩⟩
      · refine .inr ⟨_, hb, rfl, fun j hj => ?_⟩
        rcases Nat.lt_succ_iff_lt_or_eq.1 hj with h1 | rfl
        · exact hp j h1
        · exact hpi)
    (fun s hI => by
      obtain ⟨rfl, hp⟩ := hI
      exact ⟨_, he, .inr ⟨rfl, hp⟩⟩) (s0 := 0) ⟨rfl, fun j hj => by omega⟩
  rcases hR with ⟨e, rfl, hq, hn⟩ | ⟨rfl, hall⟩
  · exact .inl ⟨e, hr, hq, hn⟩
  · exact .inr ⟨hr, hall⟩
theorem scan_or {α ρ : Type} (xs : List α) (hl : xs.length ≤ maxLen) (P : α → Prop) (Q : ρ → Prop) (body : Int → Option (Ex (Ex ρ Unit) Int))
    (h : ∀ i (hi : i < xs.length), (∃ e, body (i : Int) = some (.ret (.ret e)) ∧ Q e ∧ ¬ P xs[i]) ∨ (body (i : Int) = some (.go ((i + 1 : Nat) : Int)) ∧ P xs[i])) (he : body (xs.length : Int) = some (.ret (.go ()))) :
    (∃ e, whl body FUEL 0 = some (.ret e) ∧ Q e ∧ ¬ ∀ x ∈ xs, P x) ∨ (whl body FUEL 0 = some (.go ()) ∧ ∀ x ∈ xs, P x) := by
  have := scan_ix xs.length hl (fun i => ∀ x, xs[i]? = some x → P x) Q body (fun i hi => by
    rcases h i hi with ⟨e, hb, hq, hn⟩ | ⟨hb, hp⟩
    · exact .inl ⟨e, hb, hq, fun hx => hn (hx _ (List.getElem?_eq_getElem hi))⟩
    · exact .inr ⟨hb, fun x hx => by rw [List.getElem?_eq_getElem hi] at hx; cases hx; exact hp⟩) he
  rcases this with ⟨e, hw, hq, hn⟩ | ⟨hw, hall⟩
  · refine .inl ⟨e, hw, hq, fun hx => hn fun i hi x hxi => hx x (List.mem_of_getElem? hxi)⟩
  · refine .inr ⟨hw, fun x hx => ?_⟩
    obtain ⟨i, hi, rfl⟩ := List.getElem_of_mem hx
    exact hall i hi _ (List.getElem?_eq_getElem hi)

/-! ### Registers and their types -/
def hasR (f : PFunc) (r : Int) : Prop := 0 ≤ r ∧ r < (f.regs.length : Int)
instance (f : PFunc) (r : Int) : Decidable (hasR f r) := by unfold hasR; infer_instance
def tyR (f : PFunc) (r t : Int) : Prop := idx f.regs r = some t
instance (f : PFunc) (r t : Int) : Decidable (tyR f r t) := by unfold tyR; infer_instance
theorem hasR.get {f : PFunc} {r : Int} (h : hasR f r) : ∃ k : Nat, r = k ∧ ∃ hk : k < f.regs.length, idx f.regs r = some f.regs[k] := by
  obtain ⟨h1, h2⟩ := h
  refine ⟨r.toNat, by omega, by omega, ?_⟩
  simp only [idx, if_pos h1]
  exact List.getElem?_eq_getElem _
theorem tyR.has {f : PFunc} {r t : Int} (h : tyR f r t) : hasR f r := by
  obtain ⟨h1, h2, _⟩ := idx_some h
  exact ⟨h1, by omega⟩
theorem has_eq (l : PLooker) (rs : List Int) (hl : rs.length ≤ maxLen) : check_looker_has l rs = some (decide (∀ r ∈ rs, hasR l.f r)) := by
  unfold check_looker_has slices_ContainsFunc_check_looker_has_1 slices_IndexFunc_check_looker_has_1
  rcases scan_or rs hl (fun r => hasR l.f r) (fun e : Int => 0 ≤ e) (fun s => slices_IndexFunc_check_looker_has_1.bd8 rs l s) (fun i hi => by
    simp only [slices_IndexFunc_check_looker_has_1.bd8, len_lt, hi, if_true, idx_lt hi, Option.bind_some, check_looker_has_1, w64_at hi hl]
    by_cases hc : rs[i] < 0 ∨ rs[i] ≥ len l.f.regs
    · refine .inl ⟨_, by rw [if_pos (by simpa using hc)], by omega, fun hh => ?_⟩
      obtain ⟨g1, g2⟩ := hh
      simp only [len] at hc; omega
    · refine .inr ⟨by rw [if_neg (by simpa using hc)], ?_⟩
      simp only [not_or, len] at hc
      exact ⟨by omega, by omega⟩) (by simp [slices_IndexFunc_check_looker_has_1.bd8, len]) with ⟨e, hw, he, hn⟩ | ⟨hw, hall⟩
  · rw [hw]
    simp only [Option.bind_some]
    rw [decide_eq_false hn]
    simp [he]
  · rw [hw]
    simp only [Option.bind_some, slices_IndexFunc_check_looker_has_1.nx8]
    rw [decide_eq_true hall]
    rfl
theorem are_eq (l : PLooker) (t : Int) (rs : List Int) (hl : rs.length ≤ maxLen) (hh : ∀ r ∈ rs, hasR l.f r) : check_looker_are l t rs = some (decide (∀ r ∈ rs, tyR l.f r t)) := by
  unfold check_looker_are slices_ContainsFunc_check_looker_are_1 slices_IndexFunc_check_looker_are_1
  rcases scan_or rs hl (fun r => tyR l.f r t) (fun e : Int => 0 ≤ e) (fun s => slices_IndexFunc_check_looker_are_1.bd8 rs l t s) (fun i hi => by
    obtain ⟨k, hk, hkl, hg⟩ := (hh _ (List.getElem_mem hi)).get
    simp only [slices_IndexFunc_check_looker_are_1.bd8, len_lt, hi, if_true, idx_lt hi, Option.bind_some, check_looker_are_1, hg, w64_at hi hl]
    by_cases hc : l.f.regs[k] = t
    · exact .inr ⟨by simp [hc], by unfold tyR; rw [hg, hc]⟩
    · refine .inl ⟨_, by simp [hc]; rfl, by omega, fun h => ?_⟩
      unfold tyR at h; rw [hg] at h; exact hc (Option.some.inj h)) (by simp [slices_IndexFunc_check_looker_are_1.bd8, len]) with ⟨e, hw, he, hn⟩ | ⟨hw, hall⟩
  · rw [hw]
    simp only [Option.bind_some]
    rw [decide_eq_false hn]
    simp [he]
  · rw [hw]
    simp only [Option.bind_some, slices_IndexFunc_check_looker_are_1.nx8]
    rw [decide_eq_true hall]
    rfl
theorem one_le : (1 : Nat) ≤ maxLen := by simp only [maxLen]; omega
theorem has1 (l : PLooker) (r : Int) : check_looker_has l [r] = some (decide (hasR l.f r)) := by
  rw [has_eq l [r] one_le]; congr 1; simp
theorem are1 (l : PLooker) (t r : Int) (h : hasR l.f r) : check_looker_are l t [r] = some (decide (tyR l.f r t)) := by
  rw [are_eq l t [r] one_le (by simpa using h)]; congr 1; simp

/-! ### What is told -/
def Says (o : Option GErr) (P : Prop) : Prop := ∃ e, o = some e ∧ (e = GErr.no ↔ P)
theorem Says.no {P : Prop} (h : P) : Says (some GErr.no) P := ⟨_, rfl, by simp [h]⟩
theorem Says.code {P : Prop} {c : Int} (h : ¬ P) : Says (some (GErr.code c)) P := ⟨_, rfl, by simp [h]⟩
theorem Says.iff {o : Option GErr} {P Q : Prop} (h : Says o P) (hq : P ↔ Q) : Says o Q := let ⟨e, h1, h2⟩ := h; ⟨e, h1, h2.trans hq⟩

structure PhiOk (f : PFunc) (p : PPhi) : Prop where
  dst : hasR f p.dst
  args : ∀ a ∈ p.args, hasR f a
  same : ∀ a ∈ p.args, idx f.regs a = idx f.regs p.dst
theorem phi_says (l : PLooker) (p : PPhi) (hl : p.args.length ≤ maxLen) : Says (check_looker_phi l p) (PhiOk l.f p) := by
  unfold check_looker_phi
  rw [has1]
  simp only [Option.bind_some]
  by_cases h1 : hasR l.f p.dst
  · rw [if_neg (by simp [h1]), has_eq l _ hl]
    simp only [Option.bind_some]
    by_cases h2 : ∀ a ∈ p.args, hasR l.f a
    · rw [decide_eq_true h2, if_neg (by simp)]
      obtain ⟨k, hk, hkl, hg⟩ := h1.get
      rw [hg]
      simp only [Option.bind_some]
      rw [are_eq l _ _ hl h2]
      simp only [Option.bind_some]
      by_cases h3 : ∀ r ∈ p.args, tyR l.f r l.f.regs[k]
      · rw [decide_eq_true h3, if_neg (by simp)]
        exact .no ⟨h1, h2, fun a ha => by rw [hg]; exact h3 a ha⟩
      · rw [decide_eq_false h3, if_pos (by simp)]
        exact .code fun h => h3 fun r hr => by unfold tyR; rw [h.same r hr, hg]
    · rw [decide_eq_false h2, if_pos (by simp)]
      exact .code fun h => h2 h.args
  · rw [if_pos (by simp [h1])]
    simp only [Option.bind_some, if_true]
    exact .code fun h => h1 h.dst

/-! ### Instructions -/
def arF (m : PModule) (x : PInstr) : Option (Int × Int) :=
  if x.op = 2 ∨ x.op = 14 then some (1, 1) else if x.op ≥ 3 ∧ x.op ≤ 13 then some (2, 1) else if x.op = 1 then some (0, 1) else if x.op = 15 then some (1, 1) else
  if x.op = 18 then some (1, 0) else if x.op = 16 then some (2, 0) else if x.op = 17 then (idx m.funcs x.fn).map (fun g => (g.params, g.result)) else none
theorem arity_eq (l : PLooker) (x : PInstr) : (∃ n t, arF l.m x = some (n, t) ∧ check_looker_arity l x = some (n, t, GErr.no)) ∨ (arF l.m x = none ∧ ∃ n t c, check_looker_arity l x = some (n, t, GErr.code c)) := by
  unfold check_looker_arity arF arith_Args
  by_cases h1 : x.op = 2 ∨ x.op = 14
  · rw [if_pos h1, if_pos h1]; exact .inl ⟨1, 1, rfl, rfl⟩
  rw [if_neg h1, if_neg h1]
  by_cases h2 : x.op ≥ 3 ∧ x.op ≤ 13
  · rw [if_pos h2, if_pos h2]; exact .inl ⟨2, 1, rfl, rfl⟩
  rw [if_neg h2, if_neg h2]
  simp only [Option.bind_some, Bool.false_eq_true, if_false]
  by_cases h3 : x.op = 1
  · rw [if_pos h3, if_pos h3]; exact .inl ⟨0, 1, rfl, rfl⟩
  rw [if_neg h3, if_neg h3]
  by_cases h4 : x.op = 15
  · rw [if_pos h4, if_pos h4]; exact .inl ⟨1, 1, rfl, rfl⟩
  rw [if_neg h4, if_neg h4]
  by_cases h5 : x.op = 18
  · rw [if_pos h5, if_pos h5]; exact .inl ⟨1, 0, rfl, rfl⟩
  rw [if_neg h5, if_neg h5]
  by_cases h6 : x.op = 16
  · rw [if_pos h6, if_pos h6]; exact .inl ⟨2, 0, rfl, rfl⟩
  rw [if_neg h6, if_neg h6]
  by_cases h7 : x.op = 17
  · rw [if_pos h7, if_pos h7]
    by_cases h8 : x.fn < 0 ∨ x.fn ≥ len l.m.funcs
    · rw [if_pos h8]
      refine .inr ⟨?_, 0, 0, 4, rfl⟩
      cases hx : idx l.m.funcs x.fn with
      | none => rfl
      | some g =>
        obtain ⟨g1, g2, _⟩ := idx_some hx
        simp only [len] at h8; omega
    · rw [if_neg h8]
      simp only [not_or, len] at h8
      obtain ⟨k, hk⟩ : ∃ k : Nat, x.fn = k := ⟨x.fn.toNat, by omega⟩
      rw [hk, idx_lt (show k < l.m.funcs.length by omega)]
      exact .inl ⟨_, _, rfl, rfl⟩
  rw [if_neg h7, if_neg h7]
  exact .inr ⟨rfl, 0, 0, 6, rfl⟩
structure CallOk (m : PModule) (f : PFunc) (x : PInstr) (g : PFunc) : Prop where
  fn : idx m.funcs x.fn = some g
  nn : 0 ≤ g.params
  le : g.params ≤ (g.regs.length : Int)
  args : ∀ i (hi : i < x.args.length), ∃ t, idx g.regs (i : Int) = some t ∧ tyR f x.args[i] t
  res : g.result = 0 ∨ tyR f x.dst g.result
def FitsOk (m : PModule) (f : PFunc) (x : PInstr) : Prop :=
  if x.op = 1 then tyR f x.dst 1 ∨ x.imm = 0 ∨ x.imm = 1
  else if x.op = 2 then ∃ a, idx x.args 0 = some a ∧ idx f.regs x.dst = idx f.regs a
  else if x.op = 12 ∨ x.op = 13 then (∀ a ∈ x.args, tyR f a 1) ∧ tyR f x.dst 2
  else if x.op = 14 then (∃ a, idx x.args 0 = some a ∧ tyR f a 2) ∧ tyR f x.dst 2
  else if x.op = 18 ∨ x.op = 16 then ∀ a ∈ x.args, tyR f a 1
  else if x.op = 17 then ∃ g, CallOk m f x g
  else (∀ a ∈ x.args, tyR f a 1) ∧ tyR f x.dst 1
structure InstrOk (m : PModule) (f : PFunc) (x : PInstr) (n t : Int) : Prop where
  ar : arF m x = some (n, t)
  len : (x.args.length : Int) = n
  args : ∀ a ∈ x.args, hasR f a
  dst : t ≠ 0 → hasR f x.dst
  none : t = 0 → x.dst = -1
  imm : x.op ≠ 1 → x.imm = 0
  fn : x.op ≠ 17 → x.fn = 0
  fits : FitsOk m f x
theorem call_eq (l : PLooker) (x : PInstr) (g : PFunc) (hl : x.args.length ≤ 300) (hg : idx l.m.funcs x.fn = some g) (hn : (x.args.length : Int) = g.params) (hargs : ∀ a ∈ x.args, hasR l.f a) (hdst : g.result ≠ 0 → hasR l.f x.dst) :
    ∃ b : Bool, check_looker_call l x = some b ∧ (b = true ↔ CallOk l.m l.f x g) := by
  unfold check_looker_call
  rw [hg]
  simp only [Option.bind_some]
  by_cases h1 : g.params < 0 ∨ g.params > len g.regs
  · rw [if_pos h1]
    refine ⟨false, rfl, by simp, fun h => ?_⟩
    have := h.nn; have := h.le
    simp only [len] at h1; omega
  rw [if_neg h1]
  simp only [not_or, len] at h1
  rcases scan_ix x.args.length (le_max hl (by omega)) (fun i => ∀ a, x.args[i]? = some a → ∃ t, idx g.regs (i : Int) = some t ∧ tyR l.f a t) (fun e : Bool => e = false) (fun s => check_looker_call.bd23 l x g s) (fun i hi => by
    have hir : i < g.regs.length := by omega
    simp only [check_looker_call.bd23, len_lt, hi, if_true, idx_lt hi, idx_lt hir, Option.bind_some, are1 l _ _ (hargs _ (List.getElem_mem hi)), w64_i hi (show x.args.length ≤ 1000 by omega)]
    by_cases hc : tyR l.f x.args[i] g.regs[i]
    · refine .inr ⟨by rw [if_neg (by simp [hc])], fun a ha => ?_⟩
      rw [List.getElem?_eq_getElem hi] at ha; cases ha
      exact ⟨_, rfl, hc⟩
    · refine .inl ⟨false, by rw [if_pos (by simp [hc])], rfl, fun h => ?_⟩
      obtain ⟨t, h1, h2⟩ := h _ (List.getElem?_eq_getElem hi)
      cases h1; exact hc h2) (by simp [check_looker_call.bd23, len]) with ⟨e, hw, rfl, hnot⟩ | ⟨hw, hall⟩
  · rw [hw]
    refine ⟨false, rfl, by simp, fun h => (hnot fun i hi a ha => ?_).elim⟩
    obtain ⟨hi', he⟩ := List.getElem?_eq_some_iff.1 ha
    subst he; exact h.args i hi'
  · rw [hw]
    simp only [Option.bind_some, check_looker_call.nx23]
    have hargs' : ∀ i (hi : i < x.args.length), ∃ t, idx g.regs (i : Int) = some t ∧ tyR l.f x.args[i] t := fun i hi => hall i hi _ (List.getElem?_eq_getElem hi)
    by_cases h2 : g.result = 0
    · rw [if_pos h2]
      exact ⟨true, rfl, by simp; exact ⟨hg, by omega, by omega, hargs', .inl h2⟩⟩
    · rw [if_neg h2, are1 l _ _ (hdst h2)]
      refine ⟨decide (tyR l.f x.dst g.result), rfl, ?_⟩
      rw [decide_eq_true_eq]
      exact ⟨fun h => ⟨hg, by omega, by omega, hargs', .inr h⟩, fun h => h.res.resolve_left h2⟩
theorem fits_eq (l : PLooker) (x : PInstr) (n t : Int) (hl : x.args.length ≤ 300) (har : arF l.m x = some (n, t)) (hn : (x.args.length : Int) = n) (hargs : ∀ a ∈ x.args, hasR l.f a) (hdst : t ≠ 0 → hasR l.f x.dst) :
    ∃ b : Bool, check_looker_fits l x = some b ∧ (b = true ↔ FitsOk l.m l.f x) := by
  unfold check_looker_fits FitsOk
  have hmx : x.args.length ≤ maxLen := le_max hl (by omega)
  by_cases h1 : x.op = 1
  · rw [if_pos h1, if_pos h1]
    have ht : t = 1 := by simp [arF, h1] at har; omega
    obtain ⟨k, hk, hkl, hg⟩ := (hdst (by omega)).get
    rw [hg]
    refine ⟨_, rfl, ?_⟩
    rw [decide_eq_true_eq, tyR, hg, or_assoc, Option.some.injEq]
  rw [if_neg h1, if_neg h1]
  by_cases h2 : x.op = 2
  · rw [if_pos h2, if_pos h2]
    have htn : n = 1 ∧ t = 1 := by simp [arF, h2] at har; omega
    have h0 : 0 < x.args.length := by omega
    obtain ⟨k, hk, hkl, hg⟩ := (hargs _ (List.getElem_mem h0)).get
    have hi0 : idx x.args 0 = some x.args[0] := idx_lt h0
    rw [hi0]
    simp only [Option.bind_some, hg, are1 l _ _ (hdst (by omega))]
    refine ⟨_, rfl, ?_⟩
    rw [decide_eq_true_eq]
    refine ⟨fun h => ⟨_, rfl, by rw [hg]; exact h⟩, ?_⟩
    rintro ⟨a, ha, hb⟩
    cases ha
    rw [hg] at hb; exact hb
  rw [if_neg h2, if_neg h2]
  have hj46 : (if x.op = 12 then check_looker_fits.jn31 l x (decide (x.op = 12)) else check_looker_fits.jn31 l x (decide (x.op = 13))) = check_looker_fits.jn31 l x (decide (x.op = 12 ∨ x.op = 13)) := by
    by_cases h : x.op = 12 <;> simp [h]
  rw [hj46]
  unfold check_looker_fits.jn31
  by_cases h3 : x.op = 12 ∨ x.op = 13
  · rw [decide_eq_true h3, if_pos rfl, if_pos h3, are_eq l _ _ hmx hargs]
    simp only [Option.bind_some]
    have ht : t = 1 := by
      have : x.op ≥ 3 ∧ x.op ≤ 13 := by omega
      have h14 : ¬ (x.op = 2 ∨ x.op = 14) := by omega
      simp only [arF, if_neg h14, if_pos this, Option.some.injEq, Prod.mk.injEq] at har
      omega
    by_cases h4 : ∀ r ∈ x.args, tyR l.f r 1
    · rw [decide_eq_true h4, if_pos rfl, are1 l _ _ (hdst (by omega))]
      refine ⟨_, rfl, ?_⟩
      rw [decide_eq_true_eq]
      exact ⟨fun h => ⟨h4, h⟩, fun h => h.2⟩
    · rw [decide_eq_false h4, if_neg (by simp)]
      exact ⟨false, rfl, by simp, fun h => (h4 h.1).elim⟩
  rw [decide_eq_false h3, if_neg (by simp), if_neg h3]
  by_cases h4 : x.op = 14
  · rw [if_pos h4, if_pos h4]
    have htn : n = 1 ∧ t = 1 := by simp [arF, h4] at har; omega
    have h0 : 0 < x.args.length := by omega
    have hi0 : idx x.args 0 = some x.args[0] := idx_lt h0
    have ha0 := hargs _ (List.getElem_mem h0)
    have hd0 := hdst (by omega)
    rw [hi0]
    simp only [Option.bind_some]
    rw [are_eq l _ [x.args[0], x.dst] (le_max (show ([x.args[0], x.dst] : List Int).length ≤ 2 by simp) (by omega)) (by simp; exact ⟨ha0, hd0⟩)]
    refine ⟨_, rfl, ?_⟩
    rw [decide_eq_true_eq]
    simp only [List.mem_cons, List.not_mem_nil, or_false, forall_eq_or_imp, forall_eq]
    exact ⟨fun h => ⟨⟨_, rfl, h.1⟩, h.2⟩, fun ⟨⟨a, ha, hb⟩, hc⟩ => by cases ha; exact ⟨hb, hc⟩⟩
  rw [if_neg h4, if_neg h4]
  have hj80 : (if x.op = 18 then check_looker_fits.jn56 l x (decide (x.op = 18)) else check_looker_fits.jn56 l x (decide (x.op = 16))) = check_looker_fits.jn56 l x (decide (x.op = 18 ∨ x.op = 16)) := by
    by_cases h : x.op = 18 <;> simp [h]
  rw [hj80]
  unfold check_looker_fits.jn56
  by_cases h5 : x.op = 18 ∨ x.op = 16
  · rw [decide_eq_true h5, if_pos rfl, if_pos h5, are_eq l _ _ hmx hargs]
    exact ⟨_, rfl, by rw [decide_eq_true_eq]⟩
  rw [decide_eq_false h5, if_neg (by simp), if_neg h5]
  by_cases h6 : x.op = 17
  · rw [if_pos h6, if_pos h6]
    have h6a : ¬ (x.op = 2 ∨ x.op = 14) := by omega
    have h6b : ¬ (x.op ≥ 3 ∧ x.op ≤ 13) := by omega
    have har' : (idx l.m.funcs x.fn).map (fun g => (g.params, g.result)) = some (n, t) := by
      simp only [arF, if_neg h6a, if_neg h6b, if_neg h1, if_pos h6] at har
      simpa [show ¬ x.op = 15 by omega, show ¬ x.op = 18 by omega, show ¬ x.op = 16 by omega] using har
    obtain ⟨g, hg, hg2⟩ := Option.map_eq_some_iff.1 har'
    simp only [Prod.mk.injEq] at hg2
    obtain ⟨b, hb1, hb2⟩ := call_eq l x g hl hg (by omega) hargs (fun h => hdst (by omega))
    rw [hb1]
    refine ⟨b, rfl, hb2.trans ⟨fun h => ⟨g, h⟩, fun ⟨g', h⟩ => ?_⟩⟩
    have := h.fn
    rw [hg] at this; cases this; exact h
  rw [if_neg h6, if_neg h6, are_eq l _ _ hmx hargs]
  simp only [Option.bind_some]
  have ht : t = 1 := by
    unfold arF at har
    by_cases c1 : x.op ≥ 3 ∧ x.op ≤ 13
    · have h14 : ¬ (x.op = 2 ∨ x.op = 14) := by omega
      simp only [if_neg h14, if_pos c1, Option.some.injEq, Prod.mk.injEq] at har; omega
    · have h14 : ¬ (x.op = 2 ∨ x.op = 14) := by omega
      simp only [if_neg h14, if_neg c1, if_neg h1, if_neg h6] at har
      by_cases c2 : x.op = 15
      · simp only [if_pos c2, Option.some.injEq, Prod.mk.injEq] at har; omega
      · simp [c2, show ¬ x.op = 18 by omega, show ¬ x.op = 16 by omega] at har
  by_cases h7 : ∀ r ∈ x.args, tyR l.f r 1
  · rw [decide_eq_true h7, if_pos rfl, are1 l _ _ (hdst (by omega))]
    refine ⟨_, rfl, ?_⟩
    rw [decide_eq_true_eq]
    exact ⟨fun h => ⟨h7, h⟩, fun h => h.2⟩
  · rw [decide_eq_false h7, if_neg (by simp)]
    exact ⟨false, rfl, by simp, fun h => (h7 h.1).elim⟩
theorem instr_says (l : PLooker) (x : PInstr) (hl : x.args.length ≤ 300) : Says (check_looker_instr l x) (∃ n t, InstrOk l.m l.f x n t) := by
  unfold check_looker_instr
  have hmx : x.args.length ≤ maxLen := le_max hl (by omega)
  rcases arity_eq l x with ⟨n, t, ha, hc⟩ | ⟨ha, n, t, c, hc⟩
  · rw [hc]
    simp only [Option.bind_some]
    rw [if_neg (by simp)]
    by_cases h1 : (x.args.length : Int) = n
    · rw [if_neg (by simp only [len]; omega), has_eq l _ hmx]
      simp only [Option.bind_some]
      by_cases h2 : ∀ r ∈ x.args, hasR l.f r
      · rw [decide_eq_true h2, if_neg (by simp)]
        by_cases h3 : t = 0
        · rw [if_neg (by simpa using h3)]
          simp only [Option.bind_some, Bool.false_eq_true, if_false]
          by_cases h4 : ((t = 0 ∧ ¬ x.dst = -1) ∨ (¬ x.op = 1 ∧ ¬ x.imm = 0)) ∨ (¬ x.op = 17 ∧ ¬ x.fn = 0)
          · rw [if_pos h4]
            simp only [Option.bind_some, if_true]
            refine .code ?_
            rintro ⟨n', t', h⟩
            have h5 := h.ar
            rw [ha] at h5
            simp only [Option.some.injEq, Prod.mk.injEq] at h5
            have := h.none; have := h.imm; have := h.fn
            omega
          · rw [if_neg h4]
            obtain ⟨b, hb1, hb2⟩ := fits_eq l x n t hl ha h1 h2 (fun h => absurd h3 h)
            rw [hb1]
            simp only [Option.bind_some]
            cases b with
            | true =>
              simp only [Bool.not_true, Bool.false_eq_true, if_false]
              exact .no ⟨n, t, ha, h1, h2, fun h => absurd h3 h, fun _ => by omega, fun h => by omega, fun h => by omega, hb2.1 rfl⟩
            | false =>
              simp only [Bool.not_false, if_true]
              exact .code fun ⟨n', t', h⟩ => by simpa using hb2.2 h.fits
        · rw [if_pos (by simpa using h3), has1]
          simp only [Option.bind_some]
          by_cases h3' : hasR l.f x.dst
          · rw [decide_eq_true h3']
            simp only [Bool.not_true, Bool.false_eq_true, if_false]
            by_cases h4 : ((t = 0 ∧ ¬ x.dst = -1) ∨ (¬ x.op = 1 ∧ ¬ x.imm = 0)) ∨ (¬ x.op = 17 ∧ ¬ x.fn = 0)
            · rw [if_pos h4]
              simp only [Option.bind_some, if_true]
              refine .code ?_
              rintro ⟨n', t', h⟩
              have h5 := h.ar
              rw [ha] at h5
              simp only [Option.some.injEq, Prod.mk.injEq] at h5
              have := h.none; have := h.imm; have := h.fn
              omega
            · rw [if_neg h4]
              obtain ⟨b, hb1, hb2⟩ := fits_eq l x n t hl ha h1 h2 (fun _ => h3')
              rw [hb1]
              simp only [Option.bind_some]
              cases b with
              | true =>
                simp only [Bool.not_true, Bool.false_eq_true, if_false]
                exact .no ⟨n, t, ha, h1, h2, fun _ => h3', fun h => absurd h h3, fun h => by omega, fun h => by omega, hb2.1 rfl⟩
              | false =>
                simp only [Bool.not_false, if_true]
                exact .code fun ⟨n', t', h⟩ => by simpa using hb2.2 h.fits
          · rw [decide_eq_false h3']
            simp only [Bool.not_false, if_true]
            refine .code ?_
            rintro ⟨n', t', h⟩
            have h5 := h.ar
            rw [ha] at h5
            simp only [Option.some.injEq, Prod.mk.injEq] at h5
            exact h3' (h.dst (by omega))
      · rw [decide_eq_false h2]
        simp only [Bool.not_false, if_true, Option.bind_some]
        exact .code fun ⟨n', t', h⟩ => h2 h.args
    · rw [if_pos (by simp only [len]; omega)]
      refine .code ?_
      rintro ⟨n', t', h⟩
      have h5 := h.ar
      rw [ha] at h5
      simp only [Option.some.injEq, Prod.mk.injEq] at h5
      have := h.len
      omega
  · rw [hc]
    simp only [Option.bind_some]
    rw [if_pos (by simp)]
    refine .code ?_
    rintro ⟨n', t', h⟩
    have h5 := h.ar
    rw [ha] at h5; cases h5

/-! ### Ends, blocks -/
def EndOk (f : PFunc) (t : PTerm) : Prop :=
  if t.kind = 1 ∨ (t.kind = 3 ∧ f.result = 0) then t.arg = -1 else tyR f t.arg (if t.kind = 3 then f.result else 2)
theorem end_says (l : PLooker) (t : PTerm) : Says (check_looker_end l t) (EndOk l.f t) := by
  unfold check_looker_end EndOk
  by_cases h1 : t.kind = 1 ∨ (t.kind = 3 ∧ l.f.result = 0)
  · rw [if_pos h1, if_pos h1]
    by_cases h2 : t.arg = -1
    · rw [if_neg (by simpa using h2)]; exact .no h2
    · rw [if_pos h2]; exact .code h2
  rw [if_neg h1, if_neg h1]
  have hj : (if t.kind = 3 then check_looker_end.jn15 l t l.f.result else check_looker_end.jn15 l t 2) = check_looker_end.jn15 l t (if t.kind = 3 then l.f.result else 2) := by split <;> rfl
  rw [hj]
  generalize (if t.kind = 3 then l.f.result else 2) = w
  unfold check_looker_end.jn15
  rw [has1]
  simp only [Option.bind_some]
  by_cases h2 : hasR l.f t.arg
  · rw [decide_eq_true h2, if_neg (by simp), are1 l _ _ h2]
    simp only [Option.bind_some]
    by_cases h3 : tyR l.f t.arg w
    · rw [decide_eq_true h3, if_neg (by simp)]; exact .no h3
    · rw [decide_eq_false h3, if_pos (by simp)]; exact .code h3
  · rw [decide_eq_false h2, if_pos (by simp)]
    exact .code fun h => h2 h.has
structure BlockOk (m : PModule) (f : PFunc) (B : PBlock) : Prop where
  phis : ∀ p ∈ B.phis, PhiOk f p
  ins : ∀ x ∈ B.ins, ∃ n t, InstrOk m f x n t
  term : EndOk f B.term
theorem block_says (l : PLooker) (B : PBlock) (hB : SmB B) : Says (check_looker_block l B) (BlockOk l.m l.f B) := by
  obtain ⟨b1, b2, b3, b4, b5⟩ := hB
  unfold check_looker_block
  rcases scan_or B.phis (le_max b2 (by omega)) (fun p => PhiOk l.f p) (fun e : GErr => e ≠ .no) (fun s => check_looker_block.bd8 l B s) (fun i hi => by
    obtain ⟨e, he1, he2⟩ := phi_says l B.phis[i] (le_max (b5 _ (List.getElem_mem hi)) (by omega))
    simp only [check_looker_block.bd8, len_lt, hi, if_true, idx_lt hi, Option.bind_some, he1, w64_i hi (show B.phis.length ≤ 1000 by omega)]
    by_cases h : e = GErr.no
    · exact .inr ⟨by rw [if_neg (by simpa using h)], he2.1 h⟩
    · exact .inl ⟨e, by rw [if_pos h], h, fun hp => h (he2.2 hp)⟩) (by simp [check_looker_block.bd8, len]) with ⟨e, hw, he, hn⟩ | ⟨hw, hall⟩
  · rw [hw]
    exact ⟨e, rfl, fun h => absurd h he, fun h => (hn h.phis).elim⟩
  rw [hw]
  simp only [Option.bind_some, check_looker_block.nx8]
  rcases scan_or B.ins (le_max b1 (by omega)) (fun x => ∃ n t, InstrOk l.m l.f x n t) (fun e : GErr => e ≠ .no) (fun s => check_looker_block.bd17 l B s) (fun i hi => by
    obtain ⟨e, he1, he2⟩ := instr_says l B.ins[i] (b4 _ (List.getElem_mem hi))
    simp only [check_looker_block.bd17, len_lt, hi, if_true, idx_lt hi, Option.bind_some, he1, w64_i hi (show B.ins.length ≤ 1000 by omega)]
    by_cases h : e = GErr.no
    · exact .inr ⟨by rw [if_neg (by simpa using h)], he2.1 h⟩
    · exact .inl ⟨e, by rw [if_pos h], h, fun hp => h (he2.2 hp)⟩) (by simp [check_looker_block.bd17, len]) with ⟨e, hw2, he, hn⟩ | ⟨hw2, hall2⟩
  · rw [hw2]
    exact ⟨e, rfl, fun h => absurd h he, fun h => (hn h.ins).elim⟩
  rw [hw2]
  simp only [Option.bind_some, check_looker_block.nx17]
  obtain ⟨e, he1, he2⟩ := end_says l B.term
  rw [he1]
  exact ⟨e, rfl, he2.trans ⟨fun h => ⟨hall, hall2, h⟩, fun h => h.term⟩⟩

/-! ### Functions and modules -/
def insCount (f : PFunc) : Nat := (f.blocks.map fun (B : PBlock) => B.phis.length + B.ins.length + 1).sum
structure SmallOk (f : PFunc) : Prop where
  pos : 1 ≤ f.blocks.length
  blocks : f.blocks.length ≤ 64
  regs : f.regs.length ≤ 256
  ins : insCount f ≤ 256
theorem sum_take (f : PFunc) (hf : SmF f) (i : Nat) (hi : i ≤ f.blocks.length) : ((f.blocks.take i).map fun (B : PBlock) => B.phis.length + B.ins.length + 1).sum ≤ 601 * i := by
  induction i with
  | zero => simp
  | succ i ih =>
    have hi' : i < f.blocks.length := by omega
    obtain ⟨b1, b2, _⟩ := hf.2.2.2 _ (List.getElem_mem hi')
    have := ih (by omega)
    rw [List.take_succ_eq_append_getElem hi', List.map_append, List.sum_append]
    simp only [List.map_cons, List.map_nil, List.sum_cons, List.sum_nil]
    omega
theorem small_eq (f : PFunc) (hf : SmF f) : ∃ b : Bool, check_small f = some b ∧ (b = true ↔ SmallOk f) := by
  unfold check_small
  have hrun := whl_run (body := fun (s : (Int × Int)) => check_small.bd8 f s.1 s.2) (r := ((insCount f : Nat) : Int)) f.blocks.length FUEL
    (fun i => ((((f.blocks.take i).map fun (B : PBlock) => B.phis.length + B.ins.length + 1).sum : Nat), (i : Int))) (fun i hi => by
      obtain ⟨b1, b2, _⟩ := hf.2.2.2 _ (List.getElem_mem hi)
      have hs := sum_take f hf i (by omega)
      have hn := hf.1
      simp only [check_small.bd8, len_lt, hi, if_true, idx_lt hi, Option.bind_some, w64_i hi (show f.blocks.length ≤ 1000 by omega), len]
      rw [List.take_succ_eq_append_getElem hi, List.map_append, List.sum_append]
      simp only [List.map_cons, List.map_nil, List.sum_cons, List.sum_nil]
      rw [w64_id (x := (f.blocks[i].phis.length : Int) + f.blocks[i].ins.length) ⟨by omega, by omega⟩, w64_id (x := (f.blocks[i].phis.length : Int) + f.blocks[i].ins.length + 1) ⟨by omega, by omega⟩, w64_id ⟨by omega, by omega⟩]
      congr 3) (by simp [check_small.bd8, len, insCount]) (lt_FUEL (le_max hf.1 (by omega)))
  simp only [List.take_zero, List.map_nil, List.sum_nil] at hrun
  have h00 : (((0 : Nat) : Int), ((0 : Nat) : Int)) = ((0 : Int), (0 : Int)) := rfl
  rw [h00] at hrun
  rw [hrun]
  simp only [Option.bind_some, check_small.nx8]
  refine ⟨_, rfl, ?_⟩
  rw [decide_eq_true_eq]
  simp only [len]
  exact ⟨fun h => ⟨by omega, by omega, by omega, by omega⟩, fun h => by have := h.pos; have := h.blocks; have := h.regs; have := h.ins; omega⟩
structure TypedOk (f : PFunc) : Prop where
  regs : ∀ t ∈ f.regs, t = 1 ∨ t = 2
  nn : 0 ≤ f.params
  few : f.params ≤ 8
  le : f.params ≤ (f.regs.length : Int)
  res : f.result = 0 ∨ f.result = 1 ∨ f.result = 2
theorem typed_eq (f : PFunc) (hf : SmF f) : ∃ b : Bool, check_typed f = some b ∧ (b = true ↔ TypedOk f) := by
  unfold check_typed slices_ContainsFunc_check_typed_1 slices_IndexFunc_check_typed_1
  have hl : f.regs.length ≤ maxLen := le_max hf.2.1 (by omega)
  rcases scan_or f.regs hl (fun t => t = 1 ∨ t = 2) (fun e : Int => 0 ≤ e) (fun s => slices_IndexFunc_check_typed_1.bd8 f.regs s) (fun i hi => by
    simp only [slices_IndexFunc_check_typed_1.bd8, len_lt, hi, if_true, idx_lt hi, Option.bind_some, check_typed_1, check_value, w64_at hi hl]
    by_cases hc : f.regs[i] = 1 ∨ f.regs[i] = 2
    · exact .inr ⟨by rw [if_neg (by simp [hc])], hc⟩
    · exact .inl ⟨_, by rw [if_pos (by simp [hc])], by omega, hc⟩) (by simp [slices_IndexFunc_check_typed_1.bd8, len]) with ⟨e, hw, he, hn⟩ | ⟨hw, hall⟩
  · rw [hw]
    simp only [Option.bind_some]
    rw [if_neg (by simp [he])]
    exact ⟨false, rfl, by simp, fun h => (hn h.regs).elim⟩
  rw [hw]
  simp only [Option.bind_some, slices_IndexFunc_check_typed_1.nx8, len]
  by_cases h1 : 0 ≤ f.params ∧ f.params ≤ 8 ∧ f.params ≤ (f.regs.length : Int)
  · rw [if_pos ⟨⟨⟨by simp, h1.1⟩, h1.2.1⟩, h1.2.2⟩]
    by_cases h2 : f.result = 0
    · rw [if_pos h2]
      exact ⟨true, rfl, by simp; exact ⟨hall, h1.1, h1.2.1, h1.2.2, .inl h2⟩⟩
    · rw [if_neg h2]
      refine ⟨_, rfl, ?_⟩
      rw [decide_eq_true_eq]
      exact ⟨fun h => ⟨hall, h1.1, h1.2.1, h1.2.2, .inr h⟩, fun h => h.res.resolve_left h2⟩
  · rw [if_neg (fun h => h1 ⟨h.1.1.2, h.1.2, h.2⟩)]
    exact ⟨false, rfl, by simp, fun h => (h1 ⟨h.nn, h.few, h.le⟩).elim⟩
structure EndsOk (f : PFunc) (t : PTerm) : Prop where
  to : ∀ x ∈ t.to, 1 ≤ x ∧ x < (f.blocks.length : Int)
  kind : (t.kind = 1 ∧ ∃ a, t.to = [a]) ∨ (t.kind = 2 ∧ ∃ a b, t.to = [a, b] ∧ a ≠ b) ∨ (t.kind = 3 ∧ t.to = [])
theorem ends_eq (f : PFunc) (t : PTerm) (hl : t.to.length ≤ 70) : ∃ b : Bool, check_ends f t = some b ∧ (b = true ↔ EndsOk f t) := by
  unfold check_ends
  rcases scan_or t.to (le_max hl (by omega)) (fun x => 1 ≤ x ∧ x < (f.blocks.length : Int)) (fun e : Bool => e = false) (fun s => check_ends.bd8 f t s) (fun i hi => by
    simp only [check_ends.bd8, len_lt, hi, if_true, idx_lt hi, Option.bind_some, w64_i hi (show t.to.length ≤ 1000 by omega)]
    by_cases hc : t.to[i] < 1 ∨ t.to[i] ≥ len f.blocks
    · exact .inl ⟨false, by rw [if_pos hc], rfl, fun h => by simp only [len] at hc; omega⟩
    · exact .inr ⟨by rw [if_neg hc], by simp only [len] at hc; omega⟩) (by simp [check_ends.bd8, len]) with ⟨e, hw, rfl, hn⟩ | ⟨hw, hall⟩
  · rw [hw]
    exact ⟨false, rfl, by simp, fun h => (hn h.to).elim⟩
  rw [hw]
  simp only [Option.bind_some, check_ends.nx8]
  by_cases h1 : t.kind = 1
  · rw [if_pos h1]
    refine ⟨_, rfl, ?_⟩
    rw [decide_eq_true_eq]
    constructor
    · intro h
      have : t.to.length = 1 := by simp only [len] at h; omega
      exact ⟨hall, .inl ⟨h1, List.length_eq_one_iff.1 this⟩⟩
    · intro h
      rcases h.kind with ⟨_, a, ha⟩ | ⟨h, _⟩ | ⟨h, _⟩
      · rw [ha]; rfl
      · omega
      · omega
  rw [if_neg h1]
  by_cases h2 : t.kind = 2
  · rw [if_pos h2]
    by_cases h3 : len t.to = 2
    · rw [if_pos h3]
      have hl2 : t.to.length = 2 := by simp only [len] at h3; omega
      obtain ⟨a, b, hab⟩ := len2 hl2
      rw [hab]
      refine ⟨decide (¬ a = b), by simp [idx], ?_⟩
      rw [decide_eq_true_eq]
      constructor
      · intro h; exact ⟨hall, .inr (.inl ⟨h2, a, b, hab, h⟩)⟩
      · intro h
        rcases h.kind with ⟨h, _⟩ | ⟨_, a', b', h', hne⟩ | ⟨h, _⟩
        · omega
        · rw [hab] at h'; cases h'; exact hne
        · omega
    · rw [if_neg h3]
      refine ⟨false, rfl, by simp, fun h => ?_⟩
      rcases h.kind with ⟨h, _⟩ | ⟨_, a', b', h', _⟩ | ⟨h, _⟩
      · omega
      · rw [h'] at h3; exact absurd rfl h3
      · omega
  rw [if_neg h2]
  refine ⟨_, rfl, ?_⟩
  rw [decide_eq_true_eq]
  constructor
  · intro h
    have : t.to.length = 0 := by have := h.2; simp only [len] at this; omega
    exact ⟨hall, .inr (.inr ⟨h.1, List.eq_nil_of_length_eq_zero this⟩)⟩
  · intro h
    rcases h.kind with ⟨h, _⟩ | ⟨h, _⟩ | ⟨h, hn⟩
    · omega
    · omega
    · exact ⟨h, by rw [hn]; rfl⟩
theorem preds_length (nx : List (List Int)) (t : Nat) : (preds nx t).length ≤ nx.length := by
  have h1 : ((List.range nx.length).filter fun j => decide ((t : Int) ∈ nx.getD j [])).length ≤ (List.range nx.length).length := List.length_filter_le _ _
  rw [List.length_range] at h1
  unfold preds
  rw [List.length_map]; exact h1
theorem checkAhead_eq (f : PFunc) (hf : SmF f) : check_Ahead f = some (aheads (nexts f)) := by
  obtain ⟨hn, _, _, hB⟩ := hf
  have hnl := nexts_length f
  unfold check_Ahead
  rw [show mkl (len f.blocks) ([] : List Int) = some (List.replicate f.blocks.length []) from mkl_rep (n := f.blocks.length) [] hn]
  simp only [Option.bind_some]
  have hrun := whl_run (body := fun (s : List (List Int) × Int) => check_Ahead.bd9 f s.1 s.2) (r := aheadTo (nexts f) (nexts f).length []) f.blocks.length FUEL
    (fun i => (aheadTo (nexts f) i [], (i : Int))) (fun i hi => by
      have hb3 := (hB _ (List.getElem_mem hi)).2.2.1
      simp only [check_Ahead.bd9, len_lt, hi, if_true, idx_lt hi, Option.bind_some]
      have hin := whl_run (body := fun (s : List (List Int) × Int) => check_Ahead.bd24 (i : Int) f.blocks[i] s.1 s.2) (r := aheadTo (nexts f) i f.blocks[i].term.to) f.blocks[i].term.to.length FUEL
        (fun k => (aheadTo (nexts f) i (f.blocks[i].term.to.take k), (k : Int))) (fun k hk => by
          have hal : (aheadTo (nexts f) i (f.blocks[i].term.to.take k)).length = f.blocks.length := by simp [aheadTo, hnl]
          simp only [check_Ahead.bd24, len_lt, hk, if_true, idx_lt hk, Option.bind_some]
          rw [List.take_succ_eq_append_getElem hk]
          generalize f.blocks[i].term.to[k] = x
          generalize f.blocks[i].term.to.take k = part at hal ⊢
          have same : ∀ t, t < (nexts f).length → ((t : Int) = x → (t : Int) ∈ part) → predsTo (nexts f) i (part ++ [x]) t = predsTo (nexts f) i part t := by
            intro t _ h
            unfold predsTo
            have : ((t : Int) ∈ part ++ [x]) ↔ (t : Int) ∈ part := by
              simp only [List.mem_append, List.mem_singleton]
              exact ⟨fun h' => h'.elim id h, .inl⟩
            simp only [this]
          by_cases h1 : x ≥ 0 ∧ x < len (aheadTo (nexts f) i part)
          · rw [if_pos h1]
            obtain ⟨q, rfl⟩ : ∃ q : Nat, x = (q : Int) := ⟨x.toNat, by omega⟩
            have hql : q < (nexts f).length := by simp only [len] at h1; omega
            have hidx : idx (aheadTo (nexts f) i part) ((q : Nat) : Int) = some (predsTo (nexts f) i part q) := by
              rw [idx_nat]; simp [aheadTo, hql]
            have hlen := predsTo_length (nexts f) i part q
            rw [hidx]
            simp only [Option.bind_some]
            rw [contains_eq _ _ (le_max (show (predsTo (nexts f) i part q).length ≤ 100 by omega) (by omega))]
            simp only [Option.bind_some]
            have hmem : (i : Int) ∈ predsTo (nexts f) i part q ↔ (q : Int) ∈ part := by
              unfold predsTo
              simp only [List.mem_append, List.mem_map, List.mem_filter, List.mem_range]
              constructor
              · rintro (⟨j, ⟨hj, _⟩, he⟩ | h)
                · omega
                · split at h
                  · assumption
                  · simp at h
              · intro h; exact .inr (by rw [if_pos h]; simp)
            by_cases h2 : (q : Int) ∈ part
            · rw [decide_eq_true (hmem.2 h2)]
              simp only [Bool.not_true, Bool.false_eq_true, if_false, check_Ahead.jn34, w64_i hk (show f.blocks[i].term.to.length ≤ 1000 by omega)]
              have : aheadTo (nexts f) i part = aheadTo (nexts f) i (part ++ [(q : Int)]) := by
                unfold aheadTo
                exact List.map_congr_left fun t ht => (same t (List.mem_range.1 ht) (fun h => by rw [h]; exact h2)).symm
              rw [this]
            · rw [decide_eq_false (fun h => h2 (hmem.1 h))]
              simp only [Bool.not_false, if_true, cat_one (show (predsTo (nexts f) i part q).length ≤ 1000 by omega), Option.bind_some, check_Ahead.jn34, w64_i hk (show f.blocks[i].term.to.length ≤ 1000 by omega), Int.toNat_natCast]
              have : (aheadTo (nexts f) i part).set q (predsTo (nexts f) i part q ++ [(i : Int)]) = aheadTo (nexts f) i (part ++ [(q : Int)]) := by
                apply List.ext_getElem (by simp [aheadTo])
                intro t g1 g2
                have ht : t < (nexts f).length := by simpa only [aheadTo, List.length_map, List.length_range] using g2
                rw [List.getElem_set]
                simp only [aheadTo, List.getElem_map, List.getElem_range]
                by_cases hqt : q = t
                · subst hqt
                  rw [if_pos rfl]
                  simp [predsTo, h2]
                · rw [if_neg hqt]
                  exact (same t ht (fun h => absurd (by omega) hqt)).symm
              rw [this]
          · rw [if_neg h1]
            simp only [Option.bind_some, Bool.false_eq_true, if_false, check_Ahead.jn34, w64_i hk (show f.blocks[i].term.to.length ≤ 1000 by omega)]
            have : aheadTo (nexts f) i part = aheadTo (nexts f) i (part ++ [x]) := by
              unfold aheadTo
              exact List.map_congr_left fun t ht => (same t (List.mem_range.1 ht) (fun h => by
                exfalso; apply h1
                have := List.mem_range.1 ht
                simp only [len]; omega)).symm
            rw [this]) (by simp [check_Ahead.bd24, len]) (lt_FUEL (le_max hb3 (by omega)))
      simp only [List.take_zero] at hin
      have h00 : (aheadTo (nexts f) i [], ((0 : Nat) : Int)) = (aheadTo (nexts f) i [], (0 : Int)) := rfl
      rw [h00] at hin
      rw [hin]
      simp only [Option.bind_some, check_Ahead.nx24, w64_i hi (show f.blocks.length ≤ 1000 by omega)]
      have : aheadTo (nexts f) i f.blocks[i].term.to = aheadTo (nexts f) (i + 1) [] := by
        unfold aheadTo
        apply List.map_congr_left
        intro t ht
        have ht' := List.mem_range.1 ht
        rw [← predsTo_next (nexts f) i t (by omega)]
        have hg : (nexts f).getD i [] = succs f.blocks.length f.blocks[i].term.to := by rw [List.getD_eq_getElem?_getD, nexts_get f i hi]; rfl
        unfold predsTo
        have : ((t : Int) ∈ (nexts f).getD i []) ↔ (t : Int) ∈ f.blocks[i].term.to := by
          rw [hg, mem_succs]
          exact ⟨fun h => h.1, fun h => ⟨h, by omega, by omega⟩⟩
        simp only [this]
      rw [this]) (by simp [check_Ahead.bd9, len, hnl]) (lt_FUEL (le_max hn (by omega)))
  have h0 : aheadTo (nexts f) 0 [] = List.replicate f.blocks.length [] := by
    apply List.ext_getElem (by simp [aheadTo, hnl])
    intro t h1 h2
    simp [aheadTo, predsTo]
  rw [h0] at hrun
  have h00 : (List.replicate f.blocks.length ([] : List Int), ((0 : Nat) : Int)) = (List.replicate f.blocks.length ([] : List Int), (0 : Int)) := rfl
  rw [h00] at hrun
  rw [hrun]
  simp only [Option.bind_some, check_Ahead.nx9]
  congr 1
  unfold aheadTo aheads
  exact List.map_congr_left fun t _ => predsTo_end _ t
structure FuncOk (m : PModule) (f : PFunc) : Prop where
  small : SmallOk f
  typed : TypedOk f
  ends : ∀ B ∈ f.blocks, EndsOk f B.term
  ahead : ∀ i (hi : i < f.blocks.length), ∀ p ∈ f.blocks[i].phis, p.args.length = (preds (nexts f) i).length
  blocks : ∀ B ∈ f.blocks, BlockOk m f B
theorem func_says (m : PModule) (k : Nat) (hk : k < m.funcs.length) (hf : SmF m.funcs[k]) : Says (check_Func m (k : Int)) (FuncOk m m.funcs[k]) := by
  obtain ⟨hn, hr, hp, hB⟩ := id hf
  unfold check_Func
  rw [if_neg (by simp only [len]; omega), idx_lt hk]
  simp only [Option.bind_some]
  generalize m.funcs[k] = f at *
  obtain ⟨b, hb1, hb2⟩ := small_eq f hf
  rw [hb1]
  simp only [Option.bind_some]
  cases b with
  | false => simp only [Bool.not_false, if_true]; exact .code fun h => by simpa using hb2.2 h.small
  | true =>
    simp only [Bool.not_true, Bool.false_eq_true, if_false]
    obtain ⟨c, hc1, hc2⟩ := typed_eq f hf
    rw [hc1]
    simp only [Option.bind_some]
    cases c with
    | false => simp only [Bool.not_false, if_true]; exact .code fun h => by simpa using hc2.2 h.typed
    | true =>
      simp only [Bool.not_true, Bool.false_eq_true, if_false]
      rcases scan_or f.blocks (le_max hn (by omega)) (fun (B : PBlock) => EndsOk f B.term) (fun e : GErr => e ≠ .no) (fun s => check_Func.bd29 f s) (fun i hi => by
        obtain ⟨d, hd1, hd2⟩ := ends_eq f f.blocks[i].term (hB _ (List.getElem_mem hi)).2.2.1
        simp only [check_Func.bd29, len_lt, hi, if_true, idx_lt hi, Option.bind_some, hd1, w64_i hi (show f.blocks.length ≤ 1000 by omega)]
        cases d with
        | false => exact .inl ⟨_, by simp; rfl, by simp, fun h => by simpa using hd2.2 h⟩
        | true => exact .inr ⟨by simp, hd2.1 rfl⟩) (by simp [check_Func.bd29, len]) with ⟨e, hw, he, hnot⟩ | ⟨hw, hends⟩
      · rw [hw]; exact ⟨e, rfl, fun h => absurd h he, fun h => (hnot h.ends).elim⟩
      rw [hw]
      simp only [Option.bind_some, check_Func.nx29, checkAhead_eq f hf]
      have hal : (aheads (nexts f)).length = f.blocks.length := by rw [aheads_length, nexts_length]
      rcases scan_ix (aheads (nexts f)).length (le_max (show (aheads (nexts f)).length ≤ 70 by omega) (by omega)) (fun i => ∀ hi : i < f.blocks.length, ∀ p ∈ f.blocks[i].phis, p.args.length = (preds (nexts f) i).length) (fun e : GErr => e ≠ .no) (fun s => check_Func.bd40 f (aheads (nexts f)) s) (fun i hi => by
        have hi' : i < f.blocks.length := by omega
        have hg : idx (aheads (nexts f)) (i : Int) = some (preds (nexts f) i) := by rw [idx_nat]; exact aheads_get _ _ (by rw [nexts_length]; exact hi')
        obtain ⟨b1, b2, b3, b4, b5⟩ := hB _ (List.getElem_mem hi')
        simp only [check_Func.bd40, len_lt, hi, if_true, hg, idx_lt hi', Option.bind_some]
        rcases scan_or f.blocks[i].phis (le_max b2 (by omega)) (fun p => p.args.length = (preds (nexts f) i).length) (fun e : GErr => e ≠ .no) (fun s => check_Func.bd78 (preds (nexts f) i) f.blocks[i] s) (fun j hj => by
          simp only [check_Func.bd78, len_lt, hj, if_true, idx_lt hj, Option.bind_some, w64_i hj (show f.blocks[i].phis.length ≤ 1000 by omega)]
          by_cases hc : f.blocks[i].phis[j].args.length = (preds (nexts f) i).length
          · exact .inr ⟨by rw [if_neg (by simp only [len]; omega)], hc⟩
          · exact .inl ⟨_, by rw [if_pos (by simp only [len]; omega)], by simp, hc⟩) (by simp [check_Func.bd78, len]) with ⟨e, hw2, he, hnot⟩ | ⟨hw2, hall⟩
        · rw [hw2]; exact .inl ⟨e, rfl, he, fun h => hnot (h hi')⟩
        · rw [hw2]; exact .inr ⟨by simp only [Option.bind_some, check_Func.nx78, w64_i hi (show (aheads (nexts f)).length ≤ 1000 by omega)], fun _ => hall⟩) (by simp [check_Func.bd40, len]) with ⟨e, hw2, he, hnot⟩ | ⟨hw2, hah⟩
      · rw [hw2]; exact ⟨e, rfl, fun h => absurd h he, fun h => (hnot fun i _ hi => h.ahead i hi).elim⟩
      rw [hw2]
      simp only [Option.bind_some, check_Func.nx40]
      rcases scan_or f.blocks (le_max hn (by omega)) (fun B => BlockOk m f B) (fun e : GErr => e ≠ .no) (fun s => check_Func.bd49 m f s) (fun i hi => by
        obtain ⟨e, he1, he2⟩ := block_says (⟨m, f⟩ : PLooker) f.blocks[i] (hB _ (List.getElem_mem hi))
        have he1' : check_looker_block (⟨(⟨m.funcs⟩ : PModule), (⟨f.params, f.result, f.regs, f.blocks⟩ : PFunc)⟩ : PLooker) f.blocks[i] = some e := he1
        simp only [check_Func.bd49, len_lt, hi, if_true, idx_lt hi, Option.bind_some, he1', w64_i hi (show f.blocks.length ≤ 1000 by omega)]
        by_cases h : e = GErr.no
        · exact .inr ⟨by rw [if_neg (by simpa using h)], he2.1 h⟩
        · exact .inl ⟨e, by rw [if_pos h], h, fun hp => h (he2.2 hp)⟩) (by simp [check_Func.bd49, len]) with ⟨e, hw3, he, hnot⟩ | ⟨hw3, hbl⟩
      · rw [hw3]; exact ⟨e, rfl, fun h => absurd h he, fun h => (hnot h.blocks).elim⟩
      rw [hw3]
      exact .no ⟨hb2.1 rfl, hc2.1 rfl, hends, fun i hi => hah i (by omega) hi, hbl⟩
structure Proper (m : PModule) : Prop where
  few : m.funcs.length ≤ 32
  funcs : ∀ f ∈ m.funcs, FuncOk m f
theorem module_says (m : PModule) (hm : SmM m) : Says (check_Module m) (Proper m) := by
  obtain ⟨hl, hf⟩ := hm
  unfold check_Module
  by_cases h : m.funcs.length ≤ 32
  · rw [if_neg (by simp only [len]; omega)]
    rcases scan_or m.funcs (le_max hl (by omega)) (fun f => FuncOk m f) (fun e : GErr => e ≠ .no) (fun s => check_Module.bd11 m s) (fun i hi => by
      obtain ⟨e, he1, he2⟩ := func_says m i hi (hf _ (List.getElem_mem hi))
      simp only [check_Module.bd11, len_lt, hi, if_true, Option.bind_some, he1, w64_i hi (show m.funcs.length ≤ 1000 by omega)]
      by_cases h : e = GErr.no
      · exact .inr ⟨by rw [if_neg (by simpa using h)], he2.1 h⟩
      · exact .inl ⟨_, by rw [if_pos h], by simp, fun hp => h (he2.2 hp)⟩) (by simp [check_Module.bd11, len]) with ⟨e, hw, he, hn⟩ | ⟨hw, hall⟩
    · rw [hw]; exact ⟨e, rfl, fun h => absurd h he, fun h => (hn h.funcs).elim⟩
    · rw [hw]; exact .no ⟨h, hall⟩
  · rw [if_pos (by simp only [len]; omega)]
    exact .code fun hp => h hp.few
/-- The registers that a block names are there. -/
structure RegsIn (k : Nat) (B : PBlock) : Prop where
  arg : B.term.arg < (k : Int)
  dst : ∀ x ∈ B.ins, x.dst < (k : Int)
  args : ∀ x ∈ B.ins, ∀ a ∈ x.args, 0 ≤ a ∧ a < (k : Int)
  phis : ∀ p ∈ B.phis, 0 ≤ p.dst ∧ p.dst < (k : Int)
  pargs : ∀ p ∈ B.phis, ∀ a ∈ p.args, 0 ≤ a ∧ a < (k : Int)
theorem BlockOk_regs {m : PModule} {f : PFunc} {B : PBlock} (h : BlockOk m f B) : RegsIn f.regs.length B := by
  refine ⟨?_, fun x hx => ?_, fun x hx a ha => ?_, fun p hp => (h.phis p hp).dst, fun p hp a ha => (h.phis p hp).args a ha⟩
  · have := h.term
    unfold EndOk at this
    split at this
    · omega
    · exact this.has.2
  · obtain ⟨n, t, hi⟩ := h.ins x hx
    by_cases ht : t = 0
    · have := hi.none ht; omega
    · exact (hi.dst ht).2
  · obtain ⟨n, t, hi⟩ := h.ins x hx
    exact hi.args a ha
theorem idx_in {α : Type} {xs : List α} {a : Int} (h0 : 0 ≤ a) (h1 : a < (xs.length : Int)) : ∃ y, idx xs a = some y ∧ xs[a.toNat]? = some y := by
  have hlt : a.toNat < xs.length := by omega
  refine ⟨xs[a.toNat], ?_, List.getElem?_eq_getElem hlt⟩
  simp only [idx, if_pos h0]
  exact List.getElem?_eq_getElem hlt
end Go.Proofs.YtpomfbdbkejedaaGreatDoor
set_option linter.unusedVariables false
set_option linter.unusedSimpArgs false
namespace Go.Proofs.YtpomfbdbkejedaaGreatDoor
open Go Go.Proofs

def ok (N : Nat) (x : Int) : Prop := 0 ≤ x ∧ x < (N : Int)
def nu (l : List Int) (x : Int) : Int := l.getD x.toNat 0
def gb (l : List Bool) (x : Int) : Bool := l.getD x.toNat false
def cs (C : List (List Int)) (x : Int) : List Int := C.getD x.toNat []
theorem idx_nu {l : List Int} {x : Int} (h : ok l.length x) : idx l x = some (nu l x) := by
  have : x.toNat < l.length := by have := h.1; have := h.2; omega
  simp [idx, nu, h.1, List.getElem?_eq_getElem this]
theorem idx_gb {l : List Bool} {x : Int} (h : ok l.length x) : idx l x = some (gb l x) := by
  have : x.toNat < l.length := by have := h.1; have := h.2; omega
  simp [idx, gb, h.1, List.getElem?_eq_getElem this]
theorem idx_cs {l : List (List Int)} {x : Int} (h : ok l.length x) : idx l x = some (cs l x) := by
  have : x.toNat < l.length := by have := h.1; have := h.2; omega
  simp [idx, cs, h.1, List.getElem?_eq_getElem this]
theorem nu_set {l : List Int} {v x k : Int} (hv : ok l.length v) (hx : ok l.length x) : nu (l.set v.toNat k) x = if x = v then k else nu l x := by
  obtain ⟨v0, v1⟩ := hv; obtain ⟨x0, x1⟩ := hx
  simp only [nu, List.getD_eq_getElem?_getD, List.getElem?_set]
  by_cases h : x = v
  · subst h
    have : x.toNat < l.length := by omega
    simp [this]
  · rw [if_neg h, if_neg (by omega)]
theorem gb_set {l : List Bool} {v x : Int} {k : Bool} (hv : ok l.length v) (hx : ok l.length x) : gb (l.set v.toNat k) x = if x = v then k else gb l x := by
  obtain ⟨v0, v1⟩ := hv; obtain ⟨x0, x1⟩ := hx
  simp only [gb, List.getD_eq_getElem?_getD, List.getElem?_set]
  by_cases h : x = v
  · subst h
    have : x.toNat < l.length := by omega
    simp [this]
  · rw [if_neg h, if_neg (by omega)]
/-- What can be come to. -/
inductive Rch (C : List (List Int)) : Int → Int → Prop
  | refl (x : Int) : Rch C x x
  | step {x c y : Int} : c ∈ cs C x → Rch C c y → Rch C x y
theorem Rch.trans {C : List (List Int)} {x y z : Int} (h : Rch C x y) (h' : Rch C y z) : Rch C x z := by
  induction h with
  | refl => exact h'
  | step hc _ ih => exact .step hc (ih h')
theorem Rch.closed {C : List (List Int)} {P : Int → Prop} (hP : ∀ x, P x → ∀ c, c ∈ cs C x → P c) {x y : Int} (h : Rch C x y) : P x → P y := by
  induction h with
  | refl => exact id
  | step hc _ ih => exact fun hx => ih (hP _ hx _ hc)
/-- How many numbers are 0. -/
def wc : List Int → Nat
  | [] => 0
  | x :: xs => (if x = 0 then 1 else 0) + wc xs
theorem wc_set : ∀ (l : List Int) (v : Nat) (k : Int), l[v]? = some 0 → k ≠ 0 → wc (l.set v k) + 1 = wc l
  | [], v, k, h, _ => by simp at h
  | x :: xs, 0, k, h, hk => by simp at h; subst h; simp [wc, hk]; omega
  | x :: xs, v + 1, k, h, hk => by
    have := wc_set xs v k (by simpa using h) hk
    simp only [List.set_cons_succ, wc]; omega
theorem wc_pos {l : List Int} {v : Nat} (h : l[v]? = some 0) : 0 < wc l := by
  have := wc_set l v 1 h (by omega); omega

structure Sn where
  num : List Int
  low : List Int
  on : List Bool
  st : List Int
  rings : List (List Int)
  cnt : Int
structure Inv (N : Nat) (C : List (List Int)) (S : Sn) (gr : List Int) : Prop where
  n1 : S.num.length = N
  n2 : S.low.length = N
  n3 : S.on.length = N
  c0 : 0 ≤ S.cnt
  bnd : ∀ x, ok N x → 0 ≤ nu S.num x ∧ nu S.num x ≤ S.cnt
  whites : S.cnt + (wc S.num : Int) = N
  lens : (S.st.length : Int) + (S.rings.length : Int) ≤ S.cnt
  sOk : ∀ x, x ∈ S.st → ok N x
  sOn : ∀ x, ok N x → (gb S.on x = true ↔ x ∈ S.st)
  sNum : ∀ x, x ∈ S.st → 0 < nu S.num x
  sSrt : S.st.Pairwise (fun a b => nu S.num a < nu S.num b)
  rV : ∀ x, (∃ r, r ∈ S.rings ∧ x ∈ r) ↔ ok N x ∧ nu S.num x ≠ 0 ∧ x ∉ S.st
  rNd : S.rings.flatten.Nodup
  rNe : ∀ r, r ∈ S.rings → r ≠ []
  rSrt : ∀ r, r ∈ S.rings → r.Pairwise (fun a b => a < b)
  closed : ∀ (i : Nat) (r : List Int), S.rings[i]? = some r → ∀ x, x ∈ r → ∀ c, c ∈ cs C x → ∃ (j : Nat) (q : List Int), j ≤ i ∧ S.rings[j]? = some q ∧ c ∈ q
  strong : ∀ r, r ∈ S.rings → ∀ a, a ∈ r → ∀ b, b ∈ r → Rch C a b
  fin : ∀ x, ok N x → nu S.num x ≠ 0 → x ∉ gr → ∀ c, c ∈ cs C x → nu S.num c ≠ 0
  back : ∀ x, x ∈ S.st → x ∉ gr → ∃ y, y ∈ S.st ∧ nu S.num y < nu S.num x ∧ Rch C x y
  grS : ∀ x, x ∈ gr → x ∈ S.st
theorem Inv.low {N : Nat} {C : List (List Int)} {S : Sn} {gr : List Int} (h : Inv N C S gr) {l : List Int} (hl : l.length = N) : Inv N C { S with low := l } gr :=
  ⟨h.n1, hl, h.n3, h.c0, h.bnd, h.whites, h.lens, h.sOk, h.sOn, h.sNum, h.sSrt, h.rV, h.rNd, h.rNe, h.rSrt, h.closed, h.strong, h.fin, h.back, h.grS⟩
structure Pst (N : Nat) (C : List (List Int)) (S : Sn) (v : Int) (S' : Sn) (gr : List Int) : Prop where
  inv : Inv N C S' gr
  keepn : ∀ x, ok N x → nu S.num x ≠ 0 → nu S'.num x = nu S.num x
  keepl : ∀ x, ok N x → nu S.num x ≠ 0 → nu S'.low x = nu S.low x
  new : ∀ x, ok N x → nu S.num x = 0 → nu S'.num x ≠ 0 → S.cnt < nu S'.num x
  cle : S.cnt ≤ S'.cnt
  seen : nu S'.num v ≠ 0
  T : ∃ T, S'.st = S.st ++ T ∧ (∀ x, x ∈ T → nu S.num x = 0 ∧ Rch C v x) ∧ ((T = [] ∧ nu S'.low v = nu S'.num v) ∨
    (v ∈ T ∧ nu S'.low v < nu S'.num v ∧ (∃ y, y ∈ S.st ∧ nu S'.low v = nu S.num y ∧ Rch C v y) ∧ ∀ x, x ∈ T → ∀ c, c ∈ cs C x → c ∈ S.st → nu S'.low v ≤ nu S.num c))
structure J (N : Nat) (C : List (List Int)) (S0 : Sn) (v : Int) (gr : List Int) (k : Nat) (S : Sn) : Prop where
  inv : Inv N C S (v :: gr)
  keepn : ∀ x, ok N x → nu S0.num x ≠ 0 → nu S.num x = nu S0.num x
  keepl : ∀ x, ok N x → nu S0.num x ≠ 0 → nu S.low x = nu S0.low x
  new : ∀ x, ok N x → nu S0.num x = 0 → nu S.num x ≠ 0 → S0.cnt < nu S.num x
  cle : S0.cnt < S.cnt
  vis : nu S.num v = S0.cnt + 1
  sT : ∃ U, S.st = S0.st ++ v :: U ∧ (∀ x, x ∈ U → nu S0.num x = 0 ∧ Rch C v x) ∧ ∀ x, x ∈ U → ∀ c, c ∈ cs C x → c ∈ S0.st → nu S.low v ≤ nu S0.num c
  lo : nu S.low v = nu S.num v ∨ (nu S.low v < nu S.num v ∧ ∃ y, y ∈ S0.st ∧ nu S.low v = nu S0.num y ∧ Rch C v y)
  done : ∀ (i : Nat) (c : Int), i < k → (cs C v)[i]? = some c → nu S.num c ≠ 0 ∧ (c ∈ S0.st → nu S.low v ≤ nu S0.num c)

section
variable {N : Nat} {C : List (List Int)} {S0 S S' : Sn} {gr : List Int} {v c : Int} {k : Nat}
theorem Inv.start (h : Inv N C S gr) (hv : ok N v) (h0 : nu S.num v = 0) :
    J N C S v gr 0 ⟨S.num.set v.toNat (S.cnt + 1), S.low.set v.toNat (S.cnt + 1), S.on.set v.toNat true, S.st ++ [v], S.rings, S.cnt + 1⟩ := by
  have hc0 := h.c0
  have hvs : v ∉ S.st := fun hm => by have := h.sNum v hm; omega
  have hn : ∀ x, ok N x → nu (S.num.set v.toNat (S.cnt + 1)) x = if x = v then S.cnt + 1 else nu S.num x := fun x hx => nu_set (by rw [h.n1]; exact hv) (by rw [h.n1]; exact hx)
  have hlw : ∀ x, ok N x → nu (S.low.set v.toNat (S.cnt + 1)) x = if x = v then S.cnt + 1 else nu S.low x := fun x hx => nu_set (by rw [h.n2]; exact hv) (by rw [h.n2]; exact hx)
  have hns : ∀ x, x ∈ S.st → nu (S.num.set v.toNat (S.cnt + 1)) x = nu S.num x := fun x hx => by rw [hn x (h.sOk x hx), if_neg (fun e : x = v => hvs (e ▸ hx))]
  have hvn : nu (S.num.set v.toNat (S.cnt + 1)) v = S.cnt + 1 := by rw [hn v hv, if_pos rfl]
  refine ⟨⟨by simp [h.n1], by simp [h.n2], by simp [h.n3], by simp only; omega, ?_, ?_, ?_, ?_, ?_, ?_, ?_, ?_, h.rNd, h.rNe, h.rSrt, h.closed, h.strong, ?_, ?_, ?_⟩, ?_, ?_, ?_, ?_, hvn, ⟨[], rfl, by simp, by simp⟩, .inl ?_, ?_⟩
  · intro x hx
    simp only [hn x hx]
    have := h.bnd x hx
    split <;> omega
  · have hz : S.num[v.toNat]? = some 0 := by
      have hvl : v.toNat < S.num.length := by rw [h.n1]; have := hv.1; have := hv.2; omega
      rw [List.getElem?_eq_getElem hvl]
      have : nu S.num v = S.num[v.toNat] := by simp [nu, List.getElem?_eq_getElem hvl]
      rw [← this, h0]
    have := wc_set S.num v.toNat (S.cnt + 1) hz (by omega)
    have := h.whites
    simp only
    omega
  · have := h.lens
    simp only [List.length_append, List.length_singleton]; omega
  · intro x hx
    rcases List.mem_append.1 hx with hx | hx
    · exact h.sOk x hx
    · simp at hx; exact hx ▸ hv
  · intro x hx
    simp only [gb_set (k := true) (by rw [h.n3]; exact hv : ok S.on.length v) (by rw [h.n3]; exact hx : ok S.on.length x)]
    by_cases e : x = v
    · simp [e]
    · simp [e, h.sOn x hx]
  · intro x hx
    rcases List.mem_append.1 hx with hx | hx
    · simp only [hns x hx]; exact h.sNum x hx
    · simp at hx; subst hx; simp only [hvn]; omega
  · rw [List.pairwise_append]
    refine ⟨h.sSrt.imp_of_mem fun {a b} ha hb hab => by simp only [hns a ha, hns b hb]; exact hab, by simp, fun a ha b hb => ?_⟩
    simp at hb; subst hb
    simp only [hns a ha, hvn]
    have := (h.bnd a (h.sOk a ha)).2
    omega
  · intro x
    rw [h.rV x]
    by_cases e : x = v
    · subst e; simp [h0]
    · constructor
      · rintro ⟨a, b, d⟩; exact ⟨a, by simp only [hn x a, if_neg e]; exact b, by simp [e, d]⟩
      · rintro ⟨a, b, d⟩; simp only [hn x a, if_neg e] at b; exact ⟨a, b, fun hm => d (List.mem_append_left _ hm)⟩
  · intro x hx hx0 hg c hc
    have e : x ≠ v := fun e => hg (by rw [e]; exact List.mem_cons_self ..)
    simp only [hn x hx, if_neg e] at hx0
    have := h.fin x hx hx0 (fun hm => hg (List.mem_cons_of_mem _ hm)) c hc
    intro h00
    by_cases e' : c = v
    · subst e'; simp only [hvn] at h00; omega
    · apply this
      simp only [nu, List.getD_eq_getElem?_getD, List.getElem?_set] at h00 ⊢
      split at h00
      · split at h00
        · simp at h00; omega
        · rename_i hh hl; rw [List.getElem?_eq_none (by omega)]; rfl
      · exact h00
  · intro x hx hg
    have e : x ≠ v := fun e => hg (by rw [e]; exact List.mem_cons_self ..)
    have hx' : x ∈ S.st := by
      rcases List.mem_append.1 hx with hx | hx
      · exact hx
      · simp at hx; exact absurd hx e
    obtain ⟨y, y1, y2, y3⟩ := h.back x hx' (fun hm => hg (List.mem_cons_of_mem _ hm))
    exact ⟨y, List.mem_append_left _ y1, by simp only [hns x hx', hns y y1]; exact y2, y3⟩
  · intro x hx
    rcases List.mem_cons.1 hx with rfl | hx
    · exact List.mem_append_right _ (by simp)
    · exact List.mem_append_left _ (h.grS x hx)
  · intro x hx hx0
    simp only [hn x hx]
    rw [if_neg (fun e : x = v => by subst e; exact hx0 h0)]
  · intro x hx hx0
    simp only [hlw x hx]
    rw [if_neg (fun e : x = v => by subst e; exact hx0 h0)]
  · intro x hx hx0 hx1
    simp only [hn x hx] at hx1 ⊢
    split at hx1
    · rename_i e; rw [if_pos e]; omega
    · exact absurd hx0 hx1
  · simp only; omega
  · simp only [hlw v hv, hvn, if_true]
  · intro i c hi; omega
end
end Go.Proofs.YtpomfbdbkejedaaGreatDoor
set_option linter.unusedVariables false
set_option linter.unusedSimpArgs false
namespace Go.Proofs.YtpomfbdbkejedaaGreatDoor
open Go Go.Proofs

section
variable {N : Nat} {C : List (List Int)} {S0 S S' : Sn} {gr : List Int} {v c : Int} {k : Nat}
/-- The part of the stack from v on. -/
theorem J.low_num (h : J N C S0 v gr k S) : nu S.low v ≤ nu S.num v := by
  rcases h.lo with h | ⟨h, _⟩ <;> omega
theorem J.above (h : J N C S0 v gr k S) {U : List Int} (hU : S.st = S0.st ++ v :: U) : (∀ a, a ∈ S0.st → ∀ b, b ∈ v :: U → nu S.num a < nu S.num b) ∧ (∀ b, b ∈ U → nu S.num v < nu S.num b) ∧ (v :: U).Pairwise (fun a b => nu S.num a < nu S.num b) := by
  have hs := h.inv.sSrt
  rw [hU, List.pairwise_append] at hs
  exact ⟨hs.2.2, (List.pairwise_cons.1 hs.2.1).1, hs.2.1⟩
theorem J.below (h : J N C S0 v gr k S) {U : List Int} (hU : S.st = S0.st ++ v :: U) {y : Int} (hy : y ∈ S.st) (hlt : nu S.num y < nu S.num v) : y ∈ S0.st := by
  rw [hU] at hy
  rcases List.mem_append.1 hy with hy | hy
  · exact hy
  rcases List.mem_cons.1 hy with rfl | hy
  · omega
  · have := (h.above hU).2.1 y hy; omega
theorem J.numS (h : J N C S0 v gr k S) (h0 : Inv N C S0 gr) {y : Int} (hy : y ∈ S0.st) : nu S.num y = nu S0.num y :=
  h.keepn y (h0.sOk y hy) (by have := h0.sNum y hy; omega)
/-- A lower 'low': what holds with it. -/
theorem J.lower (hj : J N C S0 v gr k S) (h0 : Inv N C S0 gr) (hv : ok N v) (hv0 : nu S0.num v = 0) (hcv : (cs C v)[k]? = some c) {m : Int} {S1 : Sn}
    (hI : Inv N C S1 (v :: gr)) (hn : ∀ x, ok N x → nu S.num x ≠ 0 → nu S1.num x = nu S.num x) (hl : ∀ x, ok N x → nu S.num x ≠ 0 → nu S1.low x = nu S.low x)
    (hnew : ∀ x, ok N x → nu S.num x = 0 → nu S1.num x ≠ 0 → S.cnt < nu S1.num x) (hcle : S.cnt ≤ S1.cnt) (hC : ∀ x, ok N x → ∀ c, c ∈ cs C x → ok N c)
    (hm : m ≤ nu S.low v) (hmm : m = nu S.low v ∨ (m < nu S.low v ∧ ∃ y, y ∈ S0.st ∧ m = nu S0.num y ∧ Rch C v y))
    (T : List Int) (hT : S1.st = S.st ++ T) (hTn : ∀ x, x ∈ T → nu S.num x = 0 ∧ Rch C v x) (hTe : ∀ x, x ∈ T → ∀ c, c ∈ cs C x → c ∈ S0.st → m ≤ nu S0.num c)
    (hc1 : nu S1.num c ≠ 0) (hc2 : c ∈ S0.st → m ≤ nu S0.num c) : J N C S0 v gr (k + 1) { S1 with low := S1.low.set v.toNat m } := by
  have hvis := hj.vis
  have hc0 := h0.c0
  have hvn : nu S.num v ≠ 0 := by omega
  have hlow : ∀ x, ok N x → nu (S1.low.set v.toNat m) x = if x = v then m else nu S1.low x := fun x hx => nu_set (by rw [hI.n2]; exact hv) (by rw [hI.n2]; exact hx)
  have hlv : nu (S1.low.set v.toNat m) v = m := by rw [hlow v hv, if_pos rfl]
  have hnv : nu S1.num v = nu S.num v := hn v hv hvn
  have hS0 : ∀ x, ok N x → nu S0.num x ≠ 0 → nu S.num x ≠ 0 := fun x hx h => by rw [hj.keepn x hx h]; exact h
  refine ⟨hI.low (by simp [hI.n2]), fun x hx hx0 => ?_, fun x hx hx0 => ?_, fun x hx hx0 hx1 => ?_, ?_, ?_, ?_, ?_, ?_⟩
  · rw [hn x hx (hS0 x hx hx0)]; exact hj.keepn x hx hx0
  · simp only [hlow x hx]
    rw [if_neg (fun e : x = v => hx0 (by rw [e]; exact hv0)), hl x hx (hS0 x hx hx0)]
    exact hj.keepl x hx hx0
  · by_cases h : nu S.num x = 0
    · have := hnew x hx h hx1; have := hj.cle; simp only; omega
    · simp only [hn x hx h]; exact hj.new x hx hx0 h
  · have := hj.cle; simp only; omega
  · simp only [hnv]; exact hvis
  · obtain ⟨U, u1, u2, u3⟩ := hj.sT
    refine ⟨U ++ T, by simp only [hT, u1, List.append_assoc, List.cons_append], fun x hx => ?_, fun x hx d hd hd0 => ?_⟩
    · rcases List.mem_append.1 hx with hx | hx
      · exact u2 x hx
      · obtain ⟨t1, t2⟩ := hTn x hx
        refine ⟨?_, t2⟩
        by_cases h : nu S0.num x = 0
        · exact h
        · have hx' : ok N x := hI.sOk x (by rw [hT]; exact List.mem_append_right _ hx)
          exact absurd t1 (hS0 x hx' h)
    · simp only [hlv]
      rcases List.mem_append.1 hx with hx | hx
      · have := u3 x hx d hd hd0; omega
      · exact hTe x hx d hd hd0
  · simp only [hlv, hnv]
    rcases hmm with e | ⟨e, y, y1, y2, y3⟩
    · rcases hj.lo with h | ⟨h, y, y1, y2, y3⟩
      · exact .inl (by omega)
      · exact .inr ⟨by omega, y, y1, by omega, y3⟩
    · have := hj.low_num
      exact .inr ⟨by omega, y, y1, y2, y3⟩
  · intro i d hi hd
    simp only [hlv]
    by_cases e : i = k
    · subst e
      rw [hcv] at hd
      cases hd
      exact ⟨hc1, hc2⟩
    · obtain ⟨d1, d2⟩ := hj.done i d (by omega) hd
      have hdo : ok N d := hC v hv d (List.mem_of_getElem? hd)
      exact ⟨by rw [hn d hdo d1]; exact d1, fun h => by have := d2 h; omega⟩

theorem J.child (hj : J N C S0 v gr k S) (h0 : Inv N C S0 gr) (hv : ok N v) (hv0 : nu S0.num v = 0) (hC : ∀ x, ok N x → ∀ c, c ∈ cs C x → ok N c) (hcv : (cs C v)[k]? = some c)
    (hc0 : nu S.num c = 0) (hP : Pst N C S c S' (v :: gr)) : J N C S0 v gr (k + 1) { S' with low := S'.low.set v.toNat (if nu S'.low c < nu S'.low v then nu S'.low c else nu S'.low v) } := by
  have hvis := hj.vis
  have hcc := h0.c0
  have hvn : nu S.num v ≠ 0 := by omega
  have hco : ok N c := hC v hv c (List.mem_of_getElem? hcv)
  have hlv : nu S'.low v = nu S.low v := hP.keepl v hv hvn
  obtain ⟨U, u1, u2, u3⟩ := hj.sT
  obtain ⟨T, t1, t2, t3⟩ := hP.T
  have hln := hj.low_num
  have hstep : Rch C v c := .step (List.mem_of_getElem? hcv) (.refl c)
  refine hj.lower h0 hv hv0 hcv (m := if nu S'.low c < nu S'.low v then nu S'.low c else nu S'.low v) hP.inv hP.keepn hP.keepl hP.new hP.cle hC (by split <;> omega) ?_ T t1 (fun x hx => ⟨(t2 x hx).1, hstep.trans (t2 x hx).2⟩) (fun x hx d hd hd0 => ?_) hP.seen (fun hm => ?_)
  · by_cases hlt : nu S'.low c < nu S'.low v
    · rw [if_pos hlt]
      rcases t3 with ⟨_, e⟩ | ⟨_, _, ⟨y, y1, y2, y3⟩, _⟩
      · have h1 := hP.new c hco hc0 hP.seen
        have h2 := (hj.inv.bnd v hv).2
        omega
      · have hy : y ∈ S0.st := hj.below u1 y1 (by omega)
        exact .inr ⟨by omega, y, hy, by rw [y2, hj.numS h0 hy], hstep.trans y3⟩
    · rw [if_neg hlt]; exact .inl hlv
  · rcases t3 with ⟨e, _⟩ | ⟨_, _, _, e⟩
    · subst e; simp at hx
    · have := e x hx d hd (by rw [u1]; exact List.mem_append_left _ hd0)
      rw [hj.numS h0 hd0] at this
      split <;> omega
  · have h1 := h0.sNum c hm
    have h2 := hj.numS h0 hm
    omega

theorem J.onStack (hj : J N C S0 v gr k S) (h0 : Inv N C S0 gr) (hv : ok N v) (hv0 : nu S0.num v = 0) (hC : ∀ x, ok N x → ∀ c, c ∈ cs C x → ok N c) (hcv : (cs C v)[k]? = some c)
    (hc0 : nu S.num c ≠ 0) (hc : c ∈ S.st) : J N C S0 v gr (k + 1) { S with low := S.low.set v.toNat (if nu S.num c < nu S.low v then nu S.num c else nu S.low v) } := by
  obtain ⟨U, u1, u2, u3⟩ := hj.sT
  have hln := hj.low_num
  refine hj.lower h0 hv hv0 hcv (m := if nu S.num c < nu S.low v then nu S.num c else nu S.low v) hj.inv (fun _ _ _ => rfl) (fun _ _ _ => rfl) (fun x _ h h' => absurd h h') (Int.le_refl _) hC (by split <;> omega) ?_ [] (by simp) (by simp) (by simp) hc0 (fun hm => ?_)
  · by_cases hlt : nu S.num c < nu S.low v
    · rw [if_pos hlt]
      have hy : c ∈ S0.st := hj.below u1 hc (by omega)
      exact .inr ⟨hlt, c, hy, hj.numS h0 hy, .step (List.mem_of_getElem? hcv) (.refl c)⟩
    · rw [if_neg hlt]; exact .inl rfl
  · rw [hj.numS h0 hm]; split <;> omega

theorem J.gone (hj : J N C S0 v gr k S) (h0 : Inv N C S0 gr) (hv : ok N v) (hcv : (cs C v)[k]? = some c) (hc0 : nu S.num c ≠ 0) (hc : c ∉ S.st) : J N C S0 v gr (k + 1) S := by
  obtain ⟨U, u1, u2, u3⟩ := hj.sT
  refine ⟨hj.inv, hj.keepn, hj.keepl, hj.new, hj.cle, hj.vis, hj.sT, hj.lo, fun i d hi hd => ?_⟩
  by_cases e : i = k
  · subst e
    rw [hcv] at hd
    cases hd
    exact ⟨hc0, fun hm => absurd (by rw [u1]; exact List.mem_append_left _ hm) hc⟩
  · exact hj.done i d (by omega) hd

/-- Nothing is found yet. -/
theorem J.stay (hj : J N C S0 v gr (cs C v).length S) (h0 : Inv N C S0 gr) (hv : ok N v) (hv0 : nu S0.num v = 0) (hne : nu S.low v ≠ nu S.num v) : Pst N C S0 v S gr := by
  have hvis := hj.vis
  have hcc := h0.c0
  obtain ⟨U, u1, u2, u3⟩ := hj.sT
  have hI := hj.inv
  obtain ⟨hlt, y, y1, y2, y3⟩ : nu S.low v < nu S.num v ∧ ∃ y, y ∈ S0.st ∧ nu S.low v = nu S0.num y ∧ Rch C v y := by
    rcases hj.lo with h | h
    · exact absurd h hne
    · exact h
  have hyn := hj.numS h0 y1
  have hdone : ∀ d, d ∈ cs C v → nu S.num d ≠ 0 ∧ (d ∈ S0.st → nu S.low v ≤ nu S0.num d) := fun d hd => by
    obtain ⟨i, hi, he⟩ := List.getElem_of_mem hd
    exact hj.done i d hi (by rw [List.getElem?_eq_getElem hi, he])
  refine ⟨⟨hI.n1, hI.n2, hI.n3, hI.c0, hI.bnd, hI.whites, hI.lens, hI.sOk, hI.sOn, hI.sNum, hI.sSrt, hI.rV, hI.rNd, hI.rNe, hI.rSrt, hI.closed, hI.strong, ?_, ?_, ?_⟩, hj.keepn, hj.keepl, hj.new, by have := hj.cle; omega, by omega, v :: U, u1, ?_, .inr ⟨List.mem_cons_self .., hlt, ⟨y, y1, y2, y3⟩, ?_⟩⟩
  · intro x hx hx0 hg d hd
    by_cases e : x = v
    · subst e; exact (hdone d hd).1
    · exact hI.fin x hx hx0 (by simp [e, hg]) d hd
  · intro x hx hg
    by_cases e : x = v
    · subst e
      exact ⟨y, by rw [u1]; exact List.mem_append_left _ y1, by omega, y3⟩
    · exact hI.back x hx (by simp [e, hg])
  · exact fun x hx => hI.grS x (List.mem_cons_of_mem _ hx)
  · intro x hx
    rcases List.mem_cons.1 hx with rfl | hx
    · exact ⟨hv0, .refl _⟩
    · exact u2 x hx
  · intro x hx d hd hd0
    rcases List.mem_cons.1 hx with rfl | hx
    · exact (hdone d hd).2 hd0
    · exact u3 x hx d hd hd0

/-- A ring is found. -/
theorem J.pop (hj : J N C S0 v gr (cs C v).length S) (h0 : Inv N C S0 gr) (hv : ok N v) (hv0 : nu S0.num v = 0) (hC : ∀ x, ok N x → ∀ c, c ∈ cs C x → ok N c) (heq : nu S.low v = nu S.num v) {U : List Int} (hU : S.st = S0.st ++ v :: U)
    {on : List Bool} (hon : on.length = N) (hon' : ∀ x, ok N x → (gb on x = true ↔ gb S.on x = true ∧ x ∉ v :: U)) :
    Pst N C S0 v ⟨S.num, S.low, on, S0.st, S.rings ++ [isort (v :: U)], S.cnt⟩ gr := by
  have hvis := hj.vis
  have hcc := h0.c0
  have hI := hj.inv
  obtain ⟨U', u1, u2, u3⟩ := hj.sT
  obtain rfl : U' = U := by
    rw [hU] at u1
    exact ((List.cons.inj (List.append_cancel_left u1)).2).symm
  obtain ⟨a1, a2, a3⟩ := hj.above hU
  have hmem : ∀ x, x ∈ isort (v :: U') ↔ x ∈ v :: U' := fun x => (isort_perm _).mem_iff
  have hin : ∀ x, x ∈ v :: U' → x ∈ S.st := fun x hx => by rw [hU]; exact List.mem_append_right _ hx
  have hin0 : ∀ x, x ∈ S0.st → x ∈ S.st := fun x hx => by rw [hU]; exact List.mem_append_left _ hx
  have hno0 : ∀ x, x ∈ v :: U' → x ∉ S0.st := fun x hx hx0 => by have := a1 x hx0 x hx; omega
  have hsp : ∀ x, x ∈ S.st → x ∈ S0.st ∨ x ∈ v :: U' := fun x hx => by rw [hU] at hx; exact List.mem_append.1 hx
  have hvU : v ∉ U' := fun h => by have := a2 v h; omega
  have hdone : ∀ d, d ∈ cs C v → nu S.num d ≠ 0 ∧ (d ∈ S0.st → nu S.low v ≤ nu S0.num d) := fun d hd => by
    obtain ⟨i, hi, he⟩ := List.getElem_of_mem hd
    exact hj.done i d hi (by rw [List.getElem?_eq_getElem hi, he])
  have hgr0 : ∀ x, x ∈ gr → x ∈ S0.st := h0.grS
  have hnum0 : ∀ x, x ∈ S.st → nu S.num x ≠ 0 := fun x hx => by have := hI.sNum x hx; omega
  have hfinU : ∀ x, x ∈ v :: U' → ∀ d, d ∈ cs C x → nu S.num d ≠ 0 ∧ (d ∈ S0.st → nu S.low v ≤ nu S0.num d) := fun x hx d hd => by
    rcases List.mem_cons.1 hx with rfl | hx'
    · exact hdone d hd
    · refine ⟨hI.fin x (hI.sOk x (hin x hx)) (hnum0 x (hin x hx)) ?_ d hd, u3 x hx' d hd⟩
      intro hm
      rcases List.mem_cons.1 hm with rfl | hm
      · exact hvU hx'
      · exact hno0 x hx (hgr0 x hm)
  have hcl : ∀ x, x ∈ v :: U' → ∀ d, d ∈ cs C x → d ∈ v :: U' ∨ ∃ r, r ∈ S.rings ∧ d ∈ r := fun x hx d hd => by
    obtain ⟨h1, h2⟩ := hfinU x hx d hd
    by_cases hds : d ∈ S.st
    · rcases hsp d hds with h | h
      · have e1 := h2 h
        have e2 := a1 d h v (List.mem_cons_self ..)
        have e3 := hj.numS h0 h
        omega
      · exact .inl h
    · exact .inr ((hI.rV d).2 ⟨hC x (hI.sOk x (hin x hx)) d hd, h1, hds⟩)
  have hR : ∀ x y, x ∈ v :: U' → Rch C x y → y ∈ v :: U' ∨ ∃ r, r ∈ S.rings ∧ y ∈ r := fun x y hx h => by
    refine Rch.closed (P := fun z => z ∈ v :: U' ∨ ∃ r, r ∈ S.rings ∧ z ∈ r) ?_ h (.inl hx)
    rintro z (hz | ⟨r, hr, hz⟩) d hd
    · exact hcl z hz d hd
    · obtain ⟨i, hi, he⟩ := List.getElem_of_mem hr
      obtain ⟨j, q, _, hq, hdq⟩ := hI.closed i r (by rw [List.getElem?_eq_getElem hi, he]) z hz d hd
      exact .inr ⟨q, List.mem_of_getElem? hq, hdq⟩
  have hback : ∀ n : Nat, ∀ x, x ∈ v :: U' → (nu S.num x).toNat ≤ n → Rch C x v := by
    intro n
    induction n with
    | zero => intro x hx hn; have := hI.sNum x (hin x hx); omega
    | succ n ih =>
      intro x hx hn
      rcases List.mem_cons.1 hx with rfl | hx'
      · exact .refl _
      · obtain ⟨y, y1, y2, y3⟩ := hI.back x (hin x hx) (fun hm => by
          rcases List.mem_cons.1 hm with rfl | hm
          · exact hvU hx'
          · exact hno0 x hx (hgr0 x hm))
        have hy : y ∈ v :: U' := by
          rcases hR x y hx y3 with h | ⟨r, hr, h⟩
          · exact h
          · exact absurd y1 ((hI.rV y).1 ⟨r, hr, h⟩).2.2
        have := hI.sNum y y1
        exact y3.trans (ih y hy (by omega))
  have hfrom : ∀ x, x ∈ v :: U' → Rch C v x := fun x hx => by
    rcases List.mem_cons.1 hx with rfl | hx
    · exact .refl _
    · exact (u2 x hx).2
  have hnd : (v :: U').Nodup := a3.imp fun h e => by subst e; omega
  refine ⟨⟨hI.n1, hI.n2, hon, hI.c0, hI.bnd, hI.whites, ?_, h0.sOk, ?_, ?_, ?_, ?_, ?_, ?_, ?_, ?_, ?_, ?_, ?_, hgr0⟩, hj.keepn, hj.keepl, hj.new, by have := hj.cle; simp only; omega, by simp only; omega, [], by simp, by simp, .inl ⟨rfl, heq⟩⟩
  · have := hI.lens
    rw [hU] at this
    simp only [List.length_append, List.length_cons, List.length_nil] at this ⊢
    omega
  · intro x hx
    rw [hon' x hx, hI.sOn x hx]
    constructor
    · rintro ⟨h1, h2⟩
      rcases hsp x h1 with h | h
      · exact h
      · exact absurd h h2
    · exact fun h => ⟨hin0 x h, fun h' => hno0 x h' h⟩
  · exact fun x hx => hI.sNum x (hin0 x hx)
  · have := hI.sSrt
    rw [hU, List.pairwise_append] at this
    exact this.1
  · intro x
    constructor
    · rintro ⟨r, hr, hx⟩
      rcases List.mem_append.1 hr with hr | hr
      · obtain ⟨r1, r2, r3⟩ := (hI.rV x).1 ⟨r, hr, hx⟩
        exact ⟨r1, r2, fun h => r3 (hin0 x h)⟩
      · simp at hr; subst hr
        have hx' := (hmem x).1 hx
        exact ⟨hI.sOk x (hin x hx'), hnum0 x (hin x hx'), hno0 x hx'⟩
    · rintro ⟨r1, r2, r3⟩
      by_cases hs : x ∈ S.st
      · rcases hsp x hs with h | h
        · exact absurd h r3
        · exact ⟨_, List.mem_append_right _ (List.mem_singleton.2 rfl), (hmem x).2 h⟩
      · obtain ⟨r, hr, hx⟩ := (hI.rV x).2 ⟨r1, r2, hs⟩
        exact ⟨r, List.mem_append_left _ hr, hx⟩
  · simp only [List.flatten_append, List.flatten_cons, List.flatten_nil, List.append_nil]
    rw [List.nodup_append]
    refine ⟨hI.rNd, (isort_perm _).nodup_iff.2 hnd, fun a ha b hb e => ?_⟩
    subst e
    obtain ⟨r, hr, har⟩ := List.mem_flatten.1 ha
    exact ((hI.rV a).1 ⟨r, hr, har⟩).2.2 (hin a ((hmem a).1 hb))
  · intro r hr
    rcases List.mem_append.1 hr with hr | hr
    · exact hI.rNe r hr
    · simp at hr; subst hr
      exact fun e => by have := (hmem v).2 (List.mem_cons_self ..); rw [e] at this; simp at this
  · intro r hr
    rcases List.mem_append.1 hr with hr | hr
    · exact hI.rSrt r hr
    · simp at hr; subst hr
      have h1 := isort_sorted (v :: U')
      have h2 : (isort (v :: U')).Nodup := (isort_perm _).nodup_iff.2 hnd
      exact (List.pairwise_and_iff.2 ⟨h1, h2⟩).imp fun h => by omega
  · intro i r hr x hx d hd
    rcases Nat.lt_or_ge i S.rings.length with hi | hi
    · rw [List.getElem?_append_left hi] at hr
      obtain ⟨j, q, q1, q2, q3⟩ := hI.closed i r hr x hx d hd
      exact ⟨j, q, q1, by rw [List.getElem?_append_left (by omega)]; exact q2, q3⟩
    · rw [List.getElem?_append_right hi] at hr
      have hi' : i = S.rings.length := by
        have := (List.getElem?_eq_some_iff.1 hr).1
        simp at this; omega
      subst hi'
      simp at hr; subst hr
      rcases hcl x ((hmem x).1 hx) d hd with h | ⟨q, hq, h⟩
      · exact ⟨S.rings.length, _, Nat.le_refl _, by simp, (hmem d).2 h⟩
      · obtain ⟨j, hj', he⟩ := List.getElem_of_mem hq
        exact ⟨j, q, by omega, by rw [List.getElem?_append_left hj', List.getElem?_eq_getElem hj', he], h⟩
  · intro r hr a ha b hb
    rcases List.mem_append.1 hr with hr | hr
    · exact hI.strong r hr a ha b hb
    · simp at hr; subst hr
      exact (hback _ a ((hmem a).1 ha) (Nat.le_refl _)).trans (hfrom b ((hmem b).1 hb))
  · intro x hx hx0 hg d hd
    by_cases e : x = v
    · subst e; exact (hdone d hd).1
    · exact hI.fin x hx hx0 (by simp [e, hg]) d hd
  · intro x hx hg
    have e : x ≠ v := fun e => hno0 v (List.mem_cons_self ..) (e ▸ hx)
    obtain ⟨y, y1, y2, y3⟩ := hI.back x (hin0 x hx) (by simp [e, hg])
    refine ⟨y, ?_, y2, y3⟩
    rcases hsp y y1 with h | h
    · exact h
    · have := a1 x hx y h; omega
end
end Go.Proofs.YtpomfbdbkejedaaGreatDoor
set_option linter.unusedVariables false
set_option linter.unusedSimpArgs false
namespace Go.Proofs.YtpomfbdbkejedaaGreatDoor
open Go Go.Proofs

theorem index_at (a b : List Int) (x : Int) (hx : x ∉ a) (hl : (a ++ x :: b).length ≤ maxLen) : slices_Index (a ++ x :: b) x = some (a.length : Int) := by
  unfold slices_Index
  have := scan0 (a ++ x :: b) (fun i y => if x = y then some (i : Int) else none) (fun s => slices_Index.bd8 (a ++ x :: b) x s) hl (fun i hi => by
    simp only [slices_Index.bd8, len_lt, hi, if_true, idx_lt hi, Option.bind_some, w64_at hi hl]
    split <;> rfl) (by simp [slices_Index.bd8, len])
  have hat : a.length < (a ++ x :: b).length := by simp
  rcases this with ⟨i, hi, r, hf, hmin, hw⟩ | ⟨hall, hw⟩
  · split at hf
    · rename_i he
      cases hf
      rw [hw]
      simp only [Option.bind_some]
      have h1 : ¬ i < a.length := fun h => hx (by rw [he, List.getElem_append_left h]; exact List.getElem_mem h)
      rcases Nat.lt_or_ge a.length i with h | h
      · have := hmin a.length hat h
        simp at this
      · rw [show i = a.length by omega]
    · cases hf
  · have := hall a.length hat
    simp at this

theorem clear_ok {N : Nat} (ring : List Int) (on : List Bool) (hN : N ≤ 1000) (hl : ring.length ≤ 1000) (hr : ∀ x, x ∈ ring → ok N x) (hon : on.length = N) :
    ∃ o, whl (fun (s : (List Bool × Int)) => calls_finder_visit.bd43 ring s.1 s.2) FUEL (on, 0) = some o ∧ o.length = N ∧ ∀ x, ok N x → (gb o x = true ↔ gb on x = true ∧ x ∉ ring) := by
  refine whl_for ring.length (fun k s => ∃ o, s = (o, (k : Int)) ∧ o.length = N ∧ ∀ x, ok N x → (gb o x = true ↔ gb on x = true ∧ x ∉ ring.take k)) _ (le_max hl (by omega)) ?_ ?_ ⟨on, rfl, hon, fun x _ => by simp⟩
  · rintro k s hk ⟨o, rfl, ho, hx⟩
    refine .inr ⟨(o.set (ring[k]).toNat false, ((k + 1 : Nat) : Int)), ?_, _, rfl, by simp [ho], fun x hxo => ?_⟩
    · have hc := hr ring[k] (List.getElem_mem hk)
      simp only [calls_finder_visit.bd43, len_lt, hk, if_true, idx_lt hk, Option.bind_some, idx_gb (show ok o.length ring[k] by rw [ho]; exact hc), w64_i hk (by omega)]
    · have hc := hr ring[k] (List.getElem_mem hk)
      have hmt : x ∈ ring.take (k + 1) ↔ x ∈ ring.take k ∨ x = ring[k] := by rw [List.take_succ_eq_append_getElem hk, List.mem_append, List.mem_singleton]
      rw [gb_set (by rw [ho]; exact hc) (by rw [ho]; exact hxo), hmt]
      by_cases e : x = ring[k]
      · rw [if_pos e]
        exact ⟨fun h => (by cases h), fun h => absurd (Or.inr e) h.2⟩
      · rw [if_neg e, hx x hxo]
        exact ⟨fun h => ⟨h.1, fun h' => h'.elim h.2 e⟩, fun h => ⟨h.1, fun h' => h.2 (Or.inl h')⟩⟩
  · rintro s ⟨o, rfl, ho, hx⟩
    rw [List.take_length] at hx
    exact ⟨o, by simp [calls_finder_visit.bd43, len], ho, hx⟩

def tup (S : Sn) : List Int × List Int × List Bool × List Int × List (List Int) × Int := (S.num, S.low, S.on, S.st, S.rings, S.cnt)
def fnd (C : List (List Int)) (S : Sn) : PFinder := ⟨C, S.num, S.low, S.on, S.st, S.rings, S.cnt⟩

theorem Inv.stl {N : Nat} {C : List (List Int)} {S : Sn} {gr : List Int} (h : Inv N C S gr) : S.st.length ≤ N ∧ S.rings.length ≤ N ∧ S.cnt ≤ N := by
  have := h.lens; have := h.whites; omega

theorem visit_it {N : Nat} {C : List (List Int)} (hN : N ≤ 40) (hCl : C.length = N) (hC : ∀ x, ok N x → ∀ c, c ∈ cs C x → ok N c) (hrow : ∀ x, (cs C x).length ≤ 1000) :
    ∀ (n : Nat) (S0 : Sn) (v : Int) (gr : List Int), Inv N C S0 gr → ok N v → nu S0.num v = 0 → wc S0.num ≤ n → ∃ S', calls_finder_visit.it n (fnd C S0) v = some (tup S') ∧ Pst N C S0 v S' gr := by
  intro n
  induction n with
  | zero =>
    intro S0 v gr h0 hv hv0 hw
    have hvl : v.toNat < S0.num.length := by rw [h0.n1]; have := hv.1; have := hv.2; omega
    have : 0 < wc S0.num := wc_pos (v := v.toNat) (by
      rw [List.getElem?_eq_getElem hvl]
      have : nu S0.num v = S0.num[v.toNat] := by simp [nu, List.getElem?_eq_getElem hvl]
      rw [← this, hv0])
    omega
  | succ n ih =>
    intro S0 v gr h0 hv hv0 hw
    obtain ⟨l1, l2, l3⟩ := h0.stl
    have hcnt : w64 (S0.cnt + 1) = S0.cnt + 1 := w64_id ⟨by have := h0.c0; omega, by omega⟩
    have hj0 := h0.start hv hv0
    have key : ∃ z, whl (fun (s : (List Int × List Int × List Bool × List Int × List (List Int) × Int × Int)) => calls_finder_visit.bd21 (fnd C S0) v (calls_finder_visit.it n) (cs C v) s.1 s.2.1 s.2.2.1 s.2.2.2.1 s.2.2.2.2.1 s.2.2.2.2.2.1 s.2.2.2.2.2.2) FUEL
        ((S0.num.set v.toNat (S0.cnt + 1)), (S0.low.set v.toNat (S0.cnt + 1)), S0.on.set v.toNat true, S0.st ++ [v], S0.rings, S0.cnt + 1, 0) = some z ∧ ∃ S, z = tup S ∧ J N C S0 v gr (cs C v).length S := by
      refine whl_for (cs C v).length (fun k s => ∃ S, s = (S.num, S.low, S.on, S.st, S.rings, S.cnt, (k : Int)) ∧ J N C S0 v gr k S) _ (le_max (hrow v) (by omega)) ?_ ?_ ⟨_, rfl, hj0⟩
      · rintro k s hk ⟨S, rfl, hj⟩
        have hcv : (cs C v)[k]? = some (cs C v)[k] := List.getElem?_eq_getElem hk
        have hco : ok N (cs C v)[k] := hC v hv _ (List.getElem_mem hk)
        have hI := hj.inv
        have e1 := idx_nu (l := S.num) (x := (cs C v)[k]) (by rw [hI.n1]; exact hco)
        have e2 := idx_gb (l := S.on) (x := (cs C v)[k]) (by rw [hI.n3]; exact hco)
        have e3 := idx_nu (l := S.low) (x := v) (by rw [hI.n2]; exact hv)
        refine .inr ?_
        by_cases hz : nu S.num (cs C v)[k] = 0
        · have hwn : wc S.num ≤ n := by
            have := hj.cle; have := hI.whites; have := h0.whites; omega
          obtain ⟨S', hit, hP⟩ := ih S (cs C v)[k] (v :: gr) hI hco hz hwn
          have e4 := idx_nu (l := S'.low) (x := v) (by rw [hP.inv.n2]; exact hv)
          have e5 := idx_nu (l := S'.low) (x := (cs C v)[k]) (by rw [hP.inv.n2]; exact hco)
          refine ⟨_, ?_, _, rfl, hj.child h0 hv hv0 hC hcv hz hP⟩
          have hit' : calls_finder_visit.it n (⟨(fnd C S0).calls, S.num, S.low, S.on, S.st, S.rings, S.cnt⟩ : PFinder) (cs C v)[k] = some (tup S') := hit
          simp only [calls_finder_visit.bd21, len_lt, hk, if_true, idx_lt hk, Option.bind_some, e1, hz, hit', tup, e4, e5, calls_finder_visit.jn67, w64_i hk (hrow v)]
        · by_cases ho : gb S.on (cs C v)[k] = true
          · refine ⟨_, ?_, _, rfl, hj.onStack h0 hv hv0 hC hcv hz ((hI.sOn _ hco).1 ho)⟩
            simp only [calls_finder_visit.bd21, len_lt, hk, if_true, idx_lt hk, Option.bind_some, e1, hz, if_false, e2, ho, e3, calls_finder_visit.jn67, w64_i hk (hrow v)]
          · refine ⟨_, ?_, _, rfl, hj.gone h0 hv hcv hz (fun h => ho ((hI.sOn _ hco).2 h))⟩
            have ho' : gb S.on (cs C v)[k] = false := by simpa using ho
            simp only [calls_finder_visit.bd21, len_lt, hk, if_true, idx_lt hk, Option.bind_some, e1, hz, if_false, e2, ho', Bool.false_eq_true, calls_finder_visit.jn67, w64_i hk (hrow v)]
      · rintro s ⟨S, rfl, hj⟩
        exact ⟨tup S, by simp [calls_finder_visit.bd21, len, tup], S, rfl, hj⟩
    obtain ⟨z, hz, S, rfl, hj⟩ := key
    have hI := hj.inv
    have e0 := idx_nu (l := S0.num) (x := v) (by rw [h0.n1]; exact hv)
    have e1 := idx_nu (l := S0.low) (x := v) (by rw [h0.n2]; exact hv)
    have e2 := idx_gb (l := S0.on) (x := v) (by rw [h0.n3]; exact hv)
    have e3 := idx_cs (l := C) (x := v) (by rw [hCl]; exact hv)
    have e4 := idx_nu (l := S.num) (x := v) (by rw [hI.n1]; exact hv)
    have e5 := idx_nu (l := S.low) (x := v) (by rw [hI.n2]; exact hv)
    have ec : cat S0.st [v] = some (S0.st ++ [v]) := cat_one (by omega)
    have hrun : calls_finder_visit.it (n + 1) (fnd C S0) v = calls_finder_visit.nx21 v S.num S.low S.on S.st S.rings S.cnt := by
      have hz' := hz
      simp only [fnd] at hz'
      simp only [calls_finder_visit.it, calls_finder_visit.body, calls_finder_visit.jn12, fnd, e0, e1, e2, e3, ec, Option.bind_some, hcnt, hz', tup]
    rw [hrun]
    by_cases hne : nu S.low v = nu S.num v
    · obtain ⟨U, hU, -, -⟩ := hj.sT
      obtain ⟨s1, s2, s3⟩ := hI.stl
      have hv0' : v ∉ S0.st := fun h => by
        have := h0.sNum v h; omega
      have hlen : (S0.st ++ v :: U).length ≤ 40 := by rw [← hU]; omega
      have hlen' : S0.st.length + (U.length + 1) ≤ 40 := by simpa using hlen
      have hix : slices_Index S.st v = some (S0.st.length : Int) := by rw [hU]; exact index_at _ _ _ hv0' (le_max hlen (by omega))
      have hfr : from_ S.st (S0.st.length : Int) = some (v :: U) := by rw [hU]; simp [from_]
      have hup : upto S.st (S0.st.length : Int) = some S0.st := by rw [hU]; simp [upto]
      have hcl : slices_Clone (v :: U) = some (v :: U) := by
        unfold slices_Clone; rw [cat_nil (by simp; omega)]; rfl
      obtain ⟨o, ho, ho1, ho2⟩ := clear_ok (N := N) (v :: U) S.on (by omega) (by simp; omega) (fun x hx => hI.sOk x (by rw [hU]; exact List.mem_append_right _ hx)) hI.n3
      refine ⟨_, ?_, hj.pop h0 hv hv0 hC hne hU ho1 ho2⟩
      simp only [calls_finder_visit.nx21, e4, e5, Option.bind_some, hne, not_true, if_false, hix, hfr, hup, hcl, ho, calls_finder_visit.nx43, slices_Sort, cat_one (show S.rings.length ≤ 1000 by omega), tup]
    · refine ⟨S, ?_, hj.stay h0 hv hv0 hne⟩
      simp only [calls_finder_visit.nx21, e4, e5, Option.bind_some, hne, not_false_eq_true, if_true, tup]
end Go.Proofs.YtpomfbdbkejedaaGreatDoor
set_option linter.unusedVariables false
set_option linter.unusedSimpArgs false
namespace Go.Proofs.YtpomfbdbkejedaaGreatDoor
open Go Go.Proofs

/-! ### Compact of what is sorted -/
theorem compact_mem (l : List Int) (x : Int) : x ∈ Lib.compact l ↔ x ∈ l := by
  unfold Lib.compact Lib.compactUpTo
  rw [List.mem_map]
  have key : ∀ j, j < l.length → ∃ i, i ∈ (List.range l.length).filter (Lib.keeps l.toArray) ∧ l.toArray[i]! = l.toArray[j]! := by
    intro j
    induction j with
    | zero => intro hj; exact ⟨0, List.mem_filter.2 ⟨List.mem_range.2 hj, by simp [Lib.keeps]⟩, rfl⟩
    | succ j ih =>
      intro hj
      by_cases h : l.toArray[j + 1]! = l.toArray[j]!
      · obtain ⟨i, h1, h2⟩ := ih (by omega)
        exact ⟨i, h1, by rw [h2, h]⟩
      · exact ⟨j + 1, List.mem_filter.2 ⟨List.mem_range.2 hj, by simp [Lib.keeps]; simpa using h⟩, rfl⟩
  constructor
  · rintro ⟨i, hi, rfl⟩
    have := List.mem_range.1 (List.mem_filter.1 hi).1
    simp [this]
  · intro hx
    obtain ⟨j, hj, rfl⟩ := List.getElem_of_mem hx
    obtain ⟨i, h1, h2⟩ := key j hj
    exact ⟨i, h1, by rw [h2]; simp [hj]⟩
theorem compact_sorted (l : List Int) (h : l.Pairwise (· ≤ ·)) : (Lib.compact l).Pairwise (fun a b => a < b) := by
  unfold Lib.compact Lib.compactUpTo
  rw [List.pairwise_map]
  refine List.Pairwise.imp_of_mem (fun {a b} ha hb hab => ?_) ((List.pairwise_lt_range (n := l.length)).sublist List.filter_sublist)
  obtain ⟨a1, a2⟩ := List.mem_filter.1 ha
  obtain ⟨b1, b2⟩ := List.mem_filter.1 hb
  have a1 := List.mem_range.1 a1
  have b1 := List.mem_range.1 b1
  have hs := List.pairwise_iff_getElem.1 h
  simp only [Lib.keeps, decide_eq_true_eq] at b2
  have hle : l[a] ≤ l[b - 1] := by
    rcases Nat.lt_or_ge a (b - 1) with h | h
    · exact hs a (b - 1) a1 (by omega) h
    · have : a = b - 1 := by omega
      subst this; omega
  have hle2 : l[b - 1] ≤ l[b] := hs (b - 1) b (by omega) b1 (by omega)
  rcases b2 with h | h
  · omega
  · have e1 : l.toArray[b]! = l[b] := by simp [b1]
    have e2 : l.toArray[b - 1]! = l[b - 1] := by simp [show b - 1 < l.length by omega]
    have e3 : l.toArray[a]! = l[a] := by simp [a1]
    rw [e1, e2] at h
    rw [e1, e3]
    omega

/-! ### Which functions call which -/
def calF (N : Nat) (ins : List PInstr) : List Int := (ins.filter fun x => decide ((x.op = 17 ∧ x.fn ≥ 0) ∧ x.fn < (N : Int))).map fun x => x.fn
def calB (N : Nat) (f : PFunc) : List Int := f.blocks.flatMap fun B => calF N B.ins
theorem calF_len (N : Nat) (ins : List PInstr) : (calF N ins).length ≤ ins.length := by
  unfold calF; rw [List.length_map]; exact List.length_filter_le _ _
theorem mem_calB {N : Nat} {f : PFunc} {b : Int} : b ∈ calB N f ↔ ok N b ∧ ∃ B, B ∈ f.blocks ∧ ∃ x, x ∈ B.ins ∧ x.op = 17 ∧ x.fn = b := by
  unfold calB calF ok
  simp only [List.mem_flatMap, List.mem_map, List.mem_filter, decide_eq_true_eq]
  constructor
  · rintro ⟨B, hB, x, ⟨hx, ⟨h1, h2⟩, h3⟩, rfl⟩
    exact ⟨⟨h2, h3⟩, B, hB, x, hx, h1, rfl⟩
  · rintro ⟨⟨h1, h2⟩, B, hB, x, hx, h3, rfl⟩
    exact ⟨B, hB, x, ⟨hx, ⟨h3, h1⟩, h2⟩, rfl⟩
def callsL (m : PModule) : List (List Int) := m.funcs.map fun f => Lib.compact (isort (calB m.funcs.length f))
theorem flatMap_take {α β : Type} (l : List α) (g : α → List β) (i : Nat) (h : i < l.length) : (l.take (i + 1)).flatMap g = (l.take i).flatMap g ++ g l[i] := by
  rw [List.take_succ_eq_append_getElem h, List.flatMap_append]; simp
theorem calF_take (N : Nat) (ins : List PInstr) (k : Nat) (h : k < ins.length) : calF N (ins.take (k + 1)) = calF N (ins.take k) ++ calF N [ins[k]] := by
  unfold calF; rw [List.take_succ_eq_append_getElem h, List.filter_append, List.map_append]
theorem calF_sum (N : Nat) (f : PFunc) (hf : SmF f) (i : Nat) (hi : i ≤ f.blocks.length) : ((f.blocks.take i).flatMap fun B => calF N B.ins).length ≤ 300 * i := by
  induction i with
  | zero => simp
  | succ i ih =>
    rw [flatMap_take _ _ i (by omega), List.length_append]
    have := ih (by omega)
    have h1 := calF_len N f.blocks[i].ins
    have h2 := (hf.2.2.2 f.blocks[i] (List.getElem_mem _)).1
    omega

theorem callsB (a : Nat) (L : List (List Int)) (ha : a < L.length) (B : PBlock) (hB : SmB B) (r0 : List Int) (hr : r0.length ≤ 300 * 70) (hN : L.length ≤ 40) :
    whl (fun (s : (List (List Int) × Int)) => calls_Calls.bd48 (a : Int) B s.1 s.2) FUEL (L.set a r0, 0) = some (L.set a (r0 ++ calF L.length B.ins)) := by
  have hl := hB.1
  have := whl_run (body := fun (s : (List (List Int) × Int)) => calls_Calls.bd48 (a : Int) B s.1 s.2) (r := L.set a (r0 ++ calF L.length B.ins)) B.ins.length FUEL (fun k => (L.set a (r0 ++ calF L.length (B.ins.take k)), (k : Int))) (fun k hk => by
    simp only [calls_Calls.bd48, len_lt, hk, if_true, idx_lt hk, Option.bind_some, len, List.length_set]
    rw [calF_take _ _ _ hk]
    have h1 := calF_len L.length (B.ins.take k)
    have h1 : (calF L.length (B.ins.take k)).length ≤ 300 := by rw [List.length_take] at h1; omega
    by_cases hc : (B.ins[k].op = 17 ∧ B.ins[k].fn ≥ 0) ∧ B.ins[k].fn < (L.length : Int)
    · rw [if_pos hc, idx_set _ _ _ ha, Option.bind_some, cat_ok (by simp only [LIM, List.length_append, List.length_singleton]; omega)]
      simp only [Option.bind_some, calls_Calls.jn58, Int.toNat_natCast, List.set_set, w64_i hk (by omega : B.ins.length ≤ 1000)]
      simp [calF, hc]
    · rw [if_neg hc]
      simp only [calls_Calls.jn58, w64_i hk (by omega : B.ins.length ≤ 1000)]
      simp [calF, hc]) (by simp only [calls_Calls.bd48, len, List.take_length]; simp) (lt_FUEL (le_max hl (by omega)))
  simpa [calF] using this

theorem calls_eq (m : PModule) (hm : SmM m) : calls_Calls m = some (callsL m) := by
  have hN := hm.1
  unfold calls_Calls
  rw [show (len m.funcs) = (m.funcs.length : Int) from rfl, mkl_rep _ (by omega), Option.bind_some]
  have := whl_run (body := fun (s : (List (List Int) × Int)) => calls_Calls.bd9 m s.1 s.2) (r := callsL m) m.funcs.length FUEL
    (fun i => ((callsL m).take i ++ List.replicate (m.funcs.length - i) [], (i : Int))) (fun i hi => by
      have hf := hm.2 m.funcs[i] (List.getElem_mem hi)
      have hcl : (callsL m).length = m.funcs.length := by simp [callsL]
      generalize hL : (callsL m).take i ++ List.replicate (m.funcs.length - i) [] = L
      have hLl : L.length = m.funcs.length := by rw [← hL]; simp [hcl]; omega
      have hLi : L[i]? = some [] := by
        have hti : ((callsL m).take i).length = i := by rw [List.length_take, hcl]; omega
        rw [← hL, List.getElem?_append_right (by omega), hti, Nat.sub_self, List.getElem?_replicate, if_pos (by omega)]
      have hset : L.set i [] = L := by
        apply List.ext_getElem?
        intro j
        rw [List.getElem?_set]
        by_cases e : i = j
        · subst e; rw [if_pos rfl, if_pos (by omega), hLi]
        · rw [if_neg e]
      have hrun := whl_run (body := fun (s : (List (List Int) × Int)) => calls_Calls.bd26 (i : Int) m.funcs[i] s.1 s.2) (r := L.set i (calB m.funcs.length m.funcs[i])) m.funcs[i].blocks.length FUEL
        (fun k => (L.set i ((m.funcs[i].blocks.take k).flatMap fun B => calF m.funcs.length B.ins), (k : Int))) (fun k hk => by
          have h1 := calF_sum m.funcs.length m.funcs[i] hf k (by omega)
          have h2 := hf.1
          have hb := callsB i L (by omega) m.funcs[i].blocks[k] (hf.2.2.2 _ (List.getElem_mem _)) ((m.funcs[i].blocks.take k).flatMap fun B => calF m.funcs.length B.ins) (by omega) (by omega)
          rw [hLl] at hb
          simp only [calls_Calls.bd26, len_lt, hk, if_true, idx_lt hk, Option.bind_some, hb, calls_Calls.nx48, w64_i hk (by omega : m.funcs[i].blocks.length ≤ 1000)]
          rw [flatMap_take _ _ _ hk]) (by simp only [calls_Calls.bd26, len, List.take_length, calB]; simp) (lt_FUEL (le_max hf.1 (by omega)))
      have hrun' : whl (fun (s : (List (List Int) × Int)) => calls_Calls.bd26 (i : Int) m.funcs[i] s.1 s.2) FUEL (L, 0) = some (L.set i (calB m.funcs.length m.funcs[i])) := by
        have := hrun
        simp only [List.take_zero, List.flatMap_nil, hset] at this
        exact this
      simp only [calls_Calls.bd9, len_lt, hi, if_true, idx_lt hi, Option.bind_some, hrun', calls_Calls.nx26, idx_set L i _ (by omega : i < L.length), slices_Sort, slices_Compact, Int.toNat_natCast, List.set_set, w64_i hi (by omega : m.funcs.length ≤ 1000)]
      congr 3
      apply List.ext_getElem?
      intro j
      rw [List.getElem?_set]
      by_cases e : i = j
      · subst e
        rw [if_pos rfl, if_pos (by omega), List.getElem?_append_left (by simp [hcl]; omega), List.getElem?_take_of_lt (by omega)]
        simp [callsL, hi]
      · rw [if_neg e, ← hL]
        rcases Nat.lt_or_ge j i with h | h
        · rw [List.getElem?_append_left (by simp [hcl]; omega), List.getElem?_append_left (by simp [hcl]; omega), List.getElem?_take_of_lt h, List.getElem?_take_of_lt (by omega)]
        · rw [List.getElem?_append_right (by simp [hcl]; omega), List.getElem?_append_right (by simp [hcl]; omega)]
          simp only [List.getElem?_replicate, List.length_take, hcl]
          congr 1
          exact propext ⟨fun h => by omega, fun h => by omega⟩) (by
      have hcl : (callsL m).length = m.funcs.length := by simp [callsL]
      simp only [calls_Calls.bd9, len]
      simp [hcl]
      rw [List.take_of_length_le (by omega)]) (lt_FUEL (le_max hN (by omega)))
  have h0 : whl (fun (s : (List (List Int) × Int)) => calls_Calls.bd9 m s.1 s.2) FUEL (List.replicate m.funcs.length [], 0) = some (callsL m) := by simpa using this
  rw [h0]; rfl

theorem calls_len (m : PModule) : (callsL m).length = m.funcs.length := by simp [callsL]
theorem mem_cs {m : PModule} {a : Nat} (ha : a < m.funcs.length) {b : Int} : b ∈ cs (callsL m) (a : Int) ↔ b ∈ calB m.funcs.length m.funcs[a] := by
  unfold cs callsL
  simp only [Int.toNat_natCast, List.getD_eq_getElem?_getD, List.getElem?_map, List.getElem?_eq_getElem ha, Option.map_some, Option.getD_some]
  rw [compact_mem, (isort_perm _).mem_iff]
theorem cs_sorted (m : PModule) (x : Int) : (cs (callsL m) x).Pairwise (fun a b => a < b) := by
  unfold cs callsL
  simp only [List.getD_eq_getElem?_getD, List.getElem?_map]
  cases m.funcs[x.toNat]? with
  | none => simp
  | some f => exact compact_sorted _ (isort_sorted _)
theorem cs_ok {m : PModule} {x : Int} : ∀ c, c ∈ cs (callsL m) x → ok m.funcs.length c := by
  intro c hc
  unfold cs callsL at hc
  simp only [List.getD_eq_getElem?_getD, List.getElem?_map] at hc
  cases hf : m.funcs[x.toNat]? with
  | none => rw [hf] at hc; simp at hc
  | some f =>
    rw [hf] at hc
    simp only [Option.map_some, Option.getD_some] at hc
    rw [compact_mem, (isort_perm _).mem_iff] at hc
    exact (mem_calB.1 hc).1
/-- A row that ascends within bounds is no longer than these. -/
theorem sorted_le : ∀ (l : List Int) (a n : Int), l.Pairwise (fun a b => a < b) → (∀ x, x ∈ l → a ≤ x ∧ x < n) → a ≤ n → (l.length : Int) ≤ n - a
  | [], a, n, _, _, h => by simp; omega
  | x :: l, a, n, h, hx, han => by
    rw [List.pairwise_cons] at h
    have h1 := hx x (List.mem_cons_self ..)
    have := sorted_le l (x + 1) n h.2 (fun y hy => ⟨by have := h.1 y hy; omega, (hx y (List.mem_cons_of_mem _ hy)).2⟩) (by omega)
    simp only [List.length_cons]; omega
theorem cs_len {m : PModule} (hm : SmM m) (x : Int) : (cs (callsL m) x).length ≤ m.funcs.length := by
  have := sorted_le _ 0 m.funcs.length (cs_sorted m x) (fun y hy => cs_ok y hy) (by omega)
  omega

/-! ### The rings -/
structure RingsOk (N : Nat) (C : List (List Int)) (R : List (List Int)) : Prop where
  len : R.length ≤ N
  all : ∀ x, (∃ r, r ∈ R ∧ x ∈ r) ↔ ok N x
  nd : R.flatten.Nodup
  ne : ∀ r, r ∈ R → r ≠ []
  srt : ∀ r, r ∈ R → r.Pairwise (fun a b => a < b)
  closed : ∀ (i : Nat) (r : List Int), R[i]? = some r → ∀ x, x ∈ r → ∀ c, c ∈ cs C x → ∃ (j : Nat) (q : List Int), j ≤ i ∧ R[j]? = some q ∧ c ∈ q
  strong : ∀ r, r ∈ R → ∀ a, a ∈ r → ∀ b, b ∈ r → Rch C a b

theorem wc_rep (n : Nat) : wc (List.replicate n 0) = n := by
  induction n with
  | zero => rfl
  | succ n ih => rw [List.replicate_succ, wc, ih]; simp; omega

theorem found_eq (m : PModule) (hm : SmM m) : ∃ R, calls_found m = some R ∧ RingsOk m.funcs.length (callsL m) R := by
  have hN := hm.1
  generalize hNe : m.funcs.length = N at *
  have hCl : (callsL m).length = N := by rw [calls_len, hNe]
  have hCo : ∀ x, ok N x → ∀ c, c ∈ cs (callsL m) x → ok N c := fun x _ c hc => hNe ▸ cs_ok c hc
  have hrow : ∀ x, (cs (callsL m) x).length ≤ 1000 := fun x => by have := cs_len hm x; omega
  have hz : ∀ x, nu (List.replicate N 0) x = 0 := fun x => by simp [nu, List.getElem?_replicate, List.getD_eq_getElem?_getD]; split <;> rfl
  have hzb : ∀ x, gb (List.replicate N false) x = false := fun x => by simp [gb, List.getElem?_replicate, List.getD_eq_getElem?_getD]; split <;> rfl
  have hI0 : Inv N (callsL m) ⟨List.replicate N 0, List.replicate N 0, List.replicate N false, [], [], 0⟩ [] := by
    refine ⟨by simp, by simp, by simp, by simp, fun x _ => by simp [hz], by simp [wc_rep], by simp, by simp, fun x _ => by simp [hzb], by simp, by simp, fun x => by simp [hz], by simp, by simp, by simp, by simp, by simp, fun x _ h => absurd (hz x) h, by simp, by simp⟩
  obtain ⟨z, hw, S, rfl, hI, hst, hall⟩ := whl_for N (fun i s => ∃ S : Sn, s = (S.num, S.low, S.on, S.st, S.rings, S.cnt, (i : Int)) ∧ Inv N (callsL m) S [] ∧ S.st = [] ∧ ∀ x : Nat, x < i → nu S.num (x : Int) ≠ 0)
    (fun z => ∃ S : Sn, z = tup S ∧ Inv N (callsL m) S [] ∧ S.st = [] ∧ ∀ x : Nat, x < N → nu S.num (x : Int) ≠ 0)
    (body := fun (s : (List Int × List Int × List Bool × List Int × List (List Int) × Int × Int)) => calls_found.bd12 m (callsL m) s.1 s.2.1 s.2.2.1 s.2.2.2.1 s.2.2.2.2.1 s.2.2.2.2.2.1 s.2.2.2.2.2.2) (le_max hN (by omega)) (by
      rintro i s hi ⟨S, rfl, hI, hst, hall⟩
      have hio : ok N (i : Int) := ⟨by omega, by omega⟩
      have e1 := idx_nu (l := S.num) (x := (i : Int)) (by rw [hI.n1]; exact hio)
      have hlt : ((i : Int) < len m.funcs) := by simp only [len, hNe]; omega
      refine .inr ?_
      by_cases h0 : nu S.num (i : Int) = 0
      · have hw : wc S.num ≤ N := by have := hI.whites; have := hI.c0; omega
        have hF : N < FUEL := lt_FUEL (le_max hN (by omega))
        obtain ⟨S', hv, hP⟩ := visit_it (by omega) hCl hCo hrow FUEL S (i : Int) [] hI hio h0 (by omega)
        refine ⟨_, ?_, S', rfl, hP.inv, ?_, fun x hx => ?_⟩
        · have hv' : calls_finder_visit (⟨callsL m, S.num, S.low, S.on, S.st, S.rings, S.cnt⟩ : PFinder) (i : Int) = some (tup S') := hv
          simp only [calls_found.bd12, hlt, if_true, e1, h0, Option.bind_some, hv', tup, calls_found.jn22, w64_i hi (by omega : N ≤ 1000)]
        · obtain ⟨T, t1, t2, t3⟩ := hP.T
          rcases t3 with ⟨e, _⟩ | ⟨_, _, ⟨y, hy, _⟩, _⟩
          · rw [t1, hst, e]; rfl
          · rw [hst] at hy; simp at hy
        · by_cases e : x = i
          · subst e; exact hP.seen
          · have h1 := hall x (by omega)
            rw [hP.keepn (x : Int) ⟨by omega, by omega⟩ h1]; exact h1
      · refine ⟨_, ?_, S, rfl, hI, hst, fun x hx => ?_⟩
        · simp only [calls_found.bd12, hlt, if_true, e1, h0, if_false, Option.bind_some, calls_found.jn22, w64_i hi (by omega : N ≤ 1000)]
        · by_cases e : x = i
          · subst e; exact h0
          · exact hall x (by omega)) (by
      rintro s ⟨S, rfl, hI, hst, hall⟩
      exact ⟨tup S, by simp [calls_found.bd12, len, hNe, tup], S, rfl, hI, hst, hall⟩) (s0 := (List.replicate N 0, List.replicate N 0, List.replicate N false, [], [], 0, 0)) ⟨_, rfl, hI0, rfl, fun x h => by omega⟩
  refine ⟨S.rings, ?_, hI.stl.2.1, fun x => ?_, hI.rNd, hI.rNe, hI.rSrt, hI.closed, hI.strong⟩
  · unfold calls_found
    rw [calls_eq m hm, show (len m.funcs) = (N : Int) by simp only [len, hNe]]
    simp only [Option.bind_some, mkl_rep (0 : Int) (show N ≤ 70 by omega), mkl_rep false (show N ≤ 70 by omega), calls_found.jn4, hw, tup, calls_found.nx12]
  · rw [hI.rV x]
    constructor
    · exact fun h => h.1
    · intro h
      refine ⟨h, ?_, by rw [hst]; simp⟩
      have := hall x.toNat (by have := h.1; have := h.2; omega)
      rwa [show ((x.toNat : Nat) : Int) = x by have := h.1; omega] at this
end Go.Proofs.YtpomfbdbkejedaaGreatDoor
set_option linter.unusedVariables false
set_option linter.unusedSimpArgs false
namespace Go.Proofs.YtpomfbdbkejedaaGreatDoor
open Go Go.Proofs

variable {N : Nat} {C R : List (List Int)}
theorem RingsOk.heads (h : RingsOk N C R) : R.Pairwise (fun a b => byF a ≠ byF b) := by
  have hnd := h.nd
  unfold List.Nodup at hnd
  rw [List.pairwise_flatten] at hnd
  refine hnd.2.imp_of_mem fun {a b} ha hb hab => ?_
  have ha' := h.ne a ha
  have hb' := h.ne b hb
  cases a with
  | nil => exact absurd rfl ha'
  | cons x a =>
    cases b with
    | nil => exact absurd rfl hb'
    | cons y b => exact hab x (List.mem_cons_self ..) y (List.mem_cons_self ..)
theorem RingsOk.one (h : RingsOk N C R) {i j : Nat} {p q : List Int} (hi : R[i]? = some p) (hj : R[j]? = some q) {x : Int} (hp : x ∈ p) (hq : x ∈ q) : i = j := by
  have hnd := h.nd
  unfold List.Nodup at hnd
  rw [List.pairwise_flatten] at hnd
  have hw := List.pairwise_iff_getElem.1 hnd.2
  obtain ⟨i1, i2⟩ := List.getElem?_eq_some_iff.1 hi
  obtain ⟨j1, j2⟩ := List.getElem?_eq_some_iff.1 hj
  rcases Nat.lt_trichotomy i j with h | h | h
  · exact absurd rfl (hw i j i1 j1 h x (by rw [i2]; exact hp) x (by rw [j2]; exact hq))
  · exact h
  · exact absurd rfl (hw j i j1 i1 h x (by rw [j2]; exact hq) x (by rw [i2]; exact hp))
theorem dis_of : ∀ (l : List Int), l.Pairwise (fun a b => a ≠ b) → dis l = true
  | [], _ => rfl
  | x :: l, h => by
    rw [List.pairwise_cons] at h
    simp only [dis, Bool.and_eq_true, List.all_eq_true, decide_eq_true_eq]
    exact ⟨h.1, dis_of l h.2⟩
theorem sortF_eq (h : RingsOk N C R) (hN : N ≤ 40) {l : List (List Int)} (hl : l.Sublist R) : slices_SortFunc_int_int_calls_byFirst l = some (rsort l) := by
  unfold slices_SortFunc_int_int_calls_byFirst
  rw [if_pos]
  rw [Bool.and_eq_true, List.all_eq_true]
  refine ⟨fun r hr => ?_, dis_of _ (by rw [List.pairwise_map]; exact h.heads.sublist hl)⟩
  have hr' := hl.subset hr
  have hne := h.ne r hr'
  cases r with
  | nil => exact absurd rfl hne
  | cons x r =>
    have := (h.all x).1 ⟨_, hr', List.mem_cons_self ..⟩
    unfold ok at this
    simp only [okRow, Bool.and_eq_true, decide_eq_true_eq]
    omega

/-! ### A ring's wave -/
theorem contains_dec (a : List Int) (x : Int) (hl : a.length ≤ 1000) : slices_Contains a x = some (decide (x ∈ a)) := contains_eq a x (le_max hl (by omega))
/-! ### All waves -/
/-- The rings of wave k. -/
def pickW (R : List (List Int)) (Ws : List Nat) (k : Nat) : List (List Int) := ((R.zip Ws).filter fun p => decide (p.2 = k)).map Prod.fst
theorem zip_fst : ∀ (R : List (List Int)) (Ws : List Nat), ((R.zip Ws).map Prod.fst).Sublist R
  | [], _ => by simp
  | r :: R, [] => by simp
  | r :: R, w :: Ws => by
    simp only [List.zip_cons_cons, List.map_cons]
    exact (zip_fst R Ws).cons_cons r
theorem pickW_sub (R : List (List Int)) (Ws : List Nat) (k : Nat) : (pickW R Ws k).Sublist R := by
  exact (List.filter_sublist.map _).trans (zip_fst R Ws)
theorem pickW_snoc (R : List (List Int)) (Ws : List Nat) (r : List Int) (w k : Nat) (h : R.length = Ws.length) : pickW (R ++ [r]) (Ws ++ [w]) k = pickW R Ws k ++ if w = k then [r] else [] := by
  unfold pickW
  rw [List.zip_append h, List.filter_append, List.map_append]
  by_cases e : w = k <;> simp [e]
theorem mem_pickW {R : List (List Int)} {Ws : List Nat} {k : Nat} {r : List Int} (h : R.length = Ws.length) : r ∈ pickW R Ws k ↔ ∃ i : Nat, R[i]? = some r ∧ Ws[i]? = some k := by
  unfold pickW
  simp only [List.mem_map, List.mem_filter, decide_eq_true_eq]
  constructor
  · rintro ⟨⟨a, b⟩, ⟨h1, h2⟩, rfl⟩
    obtain ⟨i, hi, he⟩ := List.getElem_of_mem h1
    rw [List.getElem_zip] at he
    cases he
    simp only at h2
    refine ⟨i, List.getElem?_eq_getElem (by simp at hi; omega), ?_⟩
    rw [List.getElem?_eq_getElem (by simp at hi; omega), h2]
  · rintro ⟨i, h1, h2⟩
    obtain ⟨a1, a2⟩ := List.getElem?_eq_some_iff.1 h1
    obtain ⟨b1, b2⟩ := List.getElem?_eq_some_iff.1 h2
    refine ⟨(r, k), ⟨?_, rfl⟩, rfl⟩
    rw [List.mem_iff_getElem]
    exact ⟨i, by simp; omega, by rw [List.getElem_zip, a2, b2]⟩

/-- What waves are: after the first n rings. -/
structure WOk (C R : List (List Int)) (n : Nat) (Ws : List Nat) (M : Nat) : Prop where
  len : Ws.length = n
  lt : ∀ (i w : Nat), Ws[i]? = some w → w < M
  hit : ∀ k, k < M → ∃ i : Nat, Ws[i]? = some k
  up : ∀ (i : Nat) (r : List Int) (w : Nat), R[i]? = some r → Ws[i]? = some w → ∀ x, x ∈ r → ∀ c, c ∈ cs C x → ∀ (j : Nat) (q : List Int) (u : Nat), R[j]? = some q → Ws[j]? = some u → c ∈ q → j ≠ i → u + 1 ≤ w
  by_ : ∀ (i : Nat) (r : List Int) (w : Nat), R[i]? = some r → Ws[i]? = some w → w = 0 ∨ ∃ (j : Nat) (q : List Int) (u : Nat) (x c : Int), j < i ∧ R[j]? = some q ∧ Ws[j]? = some u ∧ u + 1 = w ∧ x ∈ r ∧ c ∈ cs C x ∧ c ∈ q
theorem WOk.le {n M : Nat} {Ws : List Nat} (h : WOk C R n Ws M) : ∀ (i w : Nat), Ws[i]? = some w → n ≤ R.length → w ≤ i := by
  intro i
  induction i using Nat.strongRecOn with
  | ind i ih =>
    intro w hw hn
    have hi := (List.getElem?_eq_some_iff.1 hw).1
    have := h.len
    rcases h.by_ i R[i] w (List.getElem?_eq_getElem (by omega)) hw with e | ⟨j, q, u, x, c, hj, h1, h2, h3, _⟩
    · omega
    · have := ih j hj u h2 hn; omega

theorem rings_eq (m : PModule) (hm : SmM m) {R : List (List Int)} (hf : calls_found m = some R) (hR : RingsOk m.funcs.length (callsL m) R) : calls_Rings m = some (rsort R) := by
  unfold calls_Rings
  rw [hf, Option.bind_some, sortF_eq hR hm.1 (List.Sublist.refl _)]; rfl
end Go.Proofs.YtpomfbdbkejedaaGreatDoor
