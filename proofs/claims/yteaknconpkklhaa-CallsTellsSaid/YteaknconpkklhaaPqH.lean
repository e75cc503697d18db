/- Layer 9, part H: the document's answer: what can be come to. No conditions. -/
import Derived.Test.YteaknconpkklhaaPqG
set_option linter.unusedVariables false
set_option linter.unusedSimpArgs false
namespace Go.Proofs.Yteaknconpkklhaa
open Go Go.Proofs

theorem scanQ (n : Nat) (hn : n ≤ maxLen) (P : Nat → Prop) [DecidablePred P] (body : Int → Option (Ex (Ex Bool Unit) Int))
    (h : ∀ i, i < n → (body (i : Int) = some (.ret (.ret true)) ∧ P i) ∨ (body (i : Int) = some (.go ((i + 1 : Nat) : Int)) ∧ ¬ P i)) (he : body (n : Int) = some (.ret (.go ()))) :
    (whl body FUEL 0 = some (.ret true) ∧ ∃ i, i < n ∧ P i) ∨ (whl body FUEL 0 = some (.go ()) ∧ ∀ i, i < n → ¬ P i) := by
  obtain ⟨r, hr, hR⟩ := whl_for (body := body) n (fun i s => s = (i : Int) ∧ ∀ j, j < i → ¬ P j) (fun r => (r = .ret true ∧ ∃ i, i < n ∧ P i) ∨ (r = .go () ∧ ∀ i, i < n → ¬ P i)) hn
    (fun i s hi hI => by
      obtain ⟨rfl, hp⟩ := hI
      rcases h i hi with ⟨hb, hpi⟩ | ⟨hb, hpi⟩
      · exact .inl ⟨_, hb, .inl ⟨rfl, i, hi, hpi⟩⟩
      · refine .inr ⟨_, hb, rfl, fun j hj => ?_⟩
        rcases Nat.lt_succ_iff_lt_or_eq.1 hj with h1 | rfl
        · exact hp j h1
        · exact hpi)
    (fun s hI => by
      obtain ⟨rfl, hp⟩ := hI
      exact ⟨_, he, .inr ⟨rfl, hp⟩⟩) (s0 := 0) ⟨rfl, fun j hj => by omega⟩
  rcases hR with ⟨rfl, h1⟩ | ⟨rfl, h1⟩
  · exact .inl ⟨hr, h1⟩
  · exact .inr ⟨hr, h1⟩

open Classical in
theorem refIns (b : Int) (B : PBlock) (hl : B.ins.length ≤ 300) : (whl (fun (s : Int) => fettleref09_Calls.bd25 b B s) FUEL 0 = some (.ret true) ∧ ∃ x, x ∈ B.ins ∧ x.op = 17 ∧ x.fn = b) ∨ (whl (fun (s : Int) => fettleref09_Calls.bd25 b B s) FUEL 0 = some (.go ()) ∧ ¬ ∃ x, x ∈ B.ins ∧ x.op = 17 ∧ x.fn = b) := by
  rcases scanQ B.ins.length (le_max hl (by omega)) (fun i => ∃ x, B.ins[i]? = some x ∧ x.op = 17 ∧ x.fn = b) (fun (s : Int) => fettleref09_Calls.bd25 b B s) (fun i hi => by
    by_cases h1 : B.ins[i].op = 17
    · by_cases h2 : B.ins[i].fn = b
      · refine .inl ⟨?_, _, List.getElem?_eq_getElem hi, h1, h2⟩
        simp only [fettleref09_Calls.bd25, len_lt, hi, if_true, idx_lt hi, Option.bind_some, h1, h2, decide_true]
      · refine .inr ⟨?_, ?_⟩
        · simp only [fettleref09_Calls.bd25, len_lt, hi, if_true, idx_lt hi, Option.bind_some, h1, h2, decide_false, Bool.false_eq_true, if_false, w64_i hi (by omega : B.ins.length ≤ 1000)]
        · rintro ⟨x, hx, _, hx2⟩
          rw [List.getElem?_eq_getElem hi] at hx; cases hx; exact h2 hx2
    · refine .inr ⟨?_, ?_⟩
      · simp only [fettleref09_Calls.bd25, len_lt, hi, if_true, idx_lt hi, Option.bind_some, h1, if_false, Bool.false_eq_true, w64_i hi (by omega : B.ins.length ≤ 1000)]
      · rintro ⟨x, hx, hx1, _⟩
        rw [List.getElem?_eq_getElem hi] at hx; cases hx; exact h1 hx1) (by simp [fettleref09_Calls.bd25, len]) with ⟨h1, i, hi, x, hx, h2⟩ | ⟨h1, h2⟩
  · exact .inl ⟨h1, x, List.mem_of_getElem? hx, h2⟩
  · refine .inr ⟨h1, ?_⟩
    rintro ⟨x, hx, h3⟩
    obtain ⟨i, hi, rfl⟩ := List.getElem_of_mem hx
    exact h2 i hi ⟨_, List.getElem?_eq_getElem hi, h3⟩
open Classical in
theorem refCalls (m : PModule) (hm : SmM m) (a : Nat) (ha : a < m.funcs.length) (b : Int) (hb : ok m.funcs.length b) : fettleref09_Calls m (a : Int) b = some (decide (b ∈ cs (callsL m) (a : Int))) := by
  have hf := hm.2 m.funcs[a] (List.getElem_mem ha)
  have hmem : b ∈ cs (callsL m) (a : Int) ↔ ∃ B, B ∈ m.funcs[a].blocks ∧ ∃ x, x ∈ B.ins ∧ x.op = 17 ∧ x.fn = b := by
    rw [mem_cs ha, mem_calB]
    exact ⟨fun h => h.2, fun h => ⟨hb, h⟩⟩
  unfold fettleref09_Calls
  rcases scanQ m.funcs[a].blocks.length (le_max hf.1 (by omega)) (fun i => ∃ B, m.funcs[a].blocks[i]? = some B ∧ ∃ x, x ∈ B.ins ∧ x.op = 17 ∧ x.fn = b) (fun (s : Int) => fettleref09_Calls.bd8 m (a : Int) b s) (fun i hi => by
    have hB := hf.2.2.2 m.funcs[a].blocks[i] (List.getElem_mem hi)
    rcases refIns b m.funcs[a].blocks[i] hB.1 with ⟨h1, h2⟩ | ⟨h1, h2⟩
    · refine .inl ⟨?_, _, List.getElem?_eq_getElem hi, h2⟩
      simp only [fettleref09_Calls.bd8, idx_lt ha, Option.bind_some, len_lt, hi, if_true, idx_lt hi, h1]
    · refine .inr ⟨?_, ?_⟩
      · simp only [fettleref09_Calls.bd8, idx_lt ha, Option.bind_some, len_lt, hi, if_true, idx_lt hi, h1, fettleref09_Calls.nx25, w64_i hi (by have := hf.1; omega : m.funcs[a].blocks.length ≤ 1000)]
      · rintro ⟨B, hB', h3⟩
        rw [List.getElem?_eq_getElem hi] at hB'; cases hB'; exact h2 h3) (by simp [fettleref09_Calls.bd8, idx_lt ha, len]) with ⟨h1, i, hi, B, hB, h2⟩ | ⟨h1, h2⟩
  · rw [h1]
    have : b ∈ cs (callsL m) (a : Int) := hmem.2 ⟨B, List.mem_of_getElem? hB, h2⟩
    simp [this]
  · rw [h1]
    have : ¬ b ∈ cs (callsL m) (a : Int) := fun h => by
      obtain ⟨B, hB, h3⟩ := hmem.1 h
      obtain ⟨i, hi, rfl⟩ := List.getElem_of_mem hB
      exact h2 i hi ⟨_, List.getElem?_eq_getElem hi, h3⟩
    simp [this, fettleref09_Calls.nx8]

/-! ### Tables of N times N -/
def tbl (T : List (List Bool)) (a b : Int) : Bool := gb (T.getD a.toNat []) b
structure Sq (N : Nat) (T : List (List Bool)) : Prop where
  l : T.length = N
  r : ∀ row, row ∈ T → row.length = N
theorem Sq.row {N : Nat} {T : List (List Bool)} (h : Sq N T) {a : Int} (ha : ok N a) : idx T a = some (T.getD a.toNat []) ∧ (T.getD a.toNat []).length = N := by
  have : a.toNat < T.length := by rw [h.l]; have := ha.1; have := ha.2; omega
  have hg : T.getD a.toNat [] = T[a.toNat] := by simp [List.getD_eq_getElem?_getD, List.getElem?_eq_getElem this]
  rw [hg]
  exact ⟨by simp [idx, ha.1, List.getElem?_eq_getElem this], h.r _ (List.getElem_mem _)⟩
theorem Sq.cell {N : Nat} {T : List (List Bool)} (h : Sq N T) {a b : Int} (ha : ok N a) (hb : ok N b) : idx (T.getD a.toNat []) b = some (tbl T a b) :=
  idx_gb (by rw [(h.row ha).2]; exact hb)
theorem Sq.set {N : Nat} {T : List (List Bool)} (h : Sq N T) {a b : Int} (ha : ok N a) (v : Bool) : Sq N (T.set a.toNat ((T.getD a.toNat []).set b.toNat v)) :=
  ⟨by simp [h.l], fun row hr => by
    rcases List.mem_or_eq_of_mem_set hr with hr | rfl
    · exact h.r row hr
    · rw [List.length_set]; exact (h.row ha).2⟩
theorem tbl_set {N : Nat} {T : List (List Bool)} (h : Sq N T) {a b a' b' : Int} (ha : ok N a) (hb : ok N b) (ha' : ok N a') (hb' : ok N b') (v : Bool) :
    tbl (T.set a.toNat ((T.getD a.toNat []).set b.toNat v)) a' b' = if a' = a ∧ b' = b then v else tbl T a' b' := by
  have hal : a.toNat < T.length := by rw [h.l]; have := ha.1; have := ha.2; omega
  unfold tbl
  by_cases e : a' = a
  · subst e
    have : (T.set a'.toNat ((T.getD a'.toNat []).set b.toNat v)).getD a'.toNat [] = (T.getD a'.toNat []).set b.toNat v := by
      simp only [List.getD_eq_getElem?_getD, List.getElem?_set, if_true, hal, Option.getD_some]
    rw [this, gb_set (by rw [(h.row ha).2]; exact hb) (by rw [(h.row ha).2]; exact hb')]
    simp
  · have hne : ¬ a.toNat = a'.toNat := by have := ha.1; have := ha'.1; omega
    have : (T.set a.toNat ((T.getD a.toNat []).set b.toNat v)).getD a'.toNat [] = T.getD a'.toNat [] := by
      simp only [List.getD_eq_getElem?_getD, List.getElem?_set, hne, if_false]
    rw [this]
    simp [e]

/-! ### By one call at least -/
def Trc (C : List (List Int)) (a b : Int) : Prop := ∃ d, d ∈ cs C a ∧ Reach C d b
theorem Trc.trans {C : List (List Int)} {a b c : Int} (h : Trc C a b) (h' : Trc C b c) : Trc C a c := by
  obtain ⟨d, h1, h2⟩ := h
  obtain ⟨e, h3, h4⟩ := h'
  exact ⟨d, h1, h2.trans (.step h3 h4)⟩
theorem reach_iff {C : List (List Int)} {a b : Int} : Reach C a b ↔ a = b ∨ Trc C a b := by
  constructor
  · intro h
    cases h with
    | refl => exact .inl rfl
    | step hc h => exact .inr ⟨_, hc, h⟩
  · rintro (rfl | ⟨d, h1, h2⟩)
    · exact .refl _
    · exact .step h1 h2
inductive PathK (C : List (List Int)) (k : Int) : Int → Int → Prop
  | one {a b : Int} : b ∈ cs C a → PathK C k a b
  | two {a c b : Int} : PathK C k a c → c < k → PathK C k c b → PathK C k a b
theorem PathK.next {C : List (List Int)} {k a b : Int} (h : PathK C (k + 1) a b) : PathK C k a b ∨ (PathK C k a k ∧ PathK C k k b) := by
  induction h with
  | one h => exact .inl (.one h)
  | @two a c b h1 hc h2 ih1 ih2 =>
    by_cases e : c = k
    · subst e
      refine .inr ⟨?_, ?_⟩
      · rcases ih1 with h | h
        · exact h
        · exact h.1
      · rcases ih2 with h | h
        · exact h
        · exact h.2
    · have hck : c < k := by omega
      rcases ih1 with h | ⟨h, h'⟩
      · rcases ih2 with g | ⟨g, g'⟩
        · exact .inl (.two h hck g)
        · exact .inr ⟨.two h hck g, g'⟩
      · rcases ih2 with g | ⟨g, g'⟩
        · exact .inr ⟨h, .two h' hck g⟩
        · exact .inr ⟨h, g'⟩
theorem Trc.path {C : List (List Int)} {N : Nat} (hC : ∀ x, ok N x → ∀ c, c ∈ cs C x → ok N c) {a b : Int} (ha : ok N a) (h : Trc C a b) : PathK C N a b := by
  obtain ⟨d, h1, h2⟩ := h
  induction h2 generalizing a with
  | refl => exact .one h1
  | @step x c y hc _ ih => exact .two (.one h1) (hC a ha _ h1).2 (ih (hC a ha _ h1) hc)

variable {N : Nat} {C : List (List Int)}
/-- One turn of the table: Told at the beginning; done up to (a, b). -/
structure War (N : Nat) (C : List (List Int)) (Told : List (List Bool)) (c a b : Int) (T : List (List Bool)) : Prop where
  sq : Sq N T
  snd : ∀ x y, ok N x → ok N y → tbl T x y = true → Trc C x y
  ge : ∀ x y, ok N x → ok N y → tbl Told x y = true → tbl T x y = true
  done : ∀ x y, ok N x → ok N y → (x < a ∨ (x = a ∧ y < b)) → tbl Told x c = true → tbl Told c y = true → tbl T x y = true
theorem War.step {Told T : List (List Bool)} {c a b : Int} (h : War N C Told c a b T) (hc : ok N c) (ha : ok N a) (hb : ok N b) {v : Bool} (hv : v = (tbl T a b || (tbl T a c && tbl T c b))) :
    War N C Told c a (b + 1) (T.set a.toNat ((T.getD a.toNat []).set b.toNat v)) := by
  refine ⟨h.sq.set ha v, fun x y hx hy hxy => ?_, fun x y hx hy hxy => ?_, fun x y hx hy hd h1 h2 => ?_⟩
  · rw [tbl_set h.sq ha hb hx hy] at hxy
    by_cases e : x = a ∧ y = b
    · obtain ⟨rfl, rfl⟩ := e
      rw [if_pos ⟨rfl, rfl⟩, hv] at hxy
      simp only [Bool.or_eq_true, Bool.and_eq_true] at hxy
      rcases hxy with hxy | ⟨h1, h2⟩
      · exact h.snd x y hx hy hxy
      · exact (h.snd x c hx hc h1).trans (h.snd c y hc hy h2)
    · rw [if_neg e] at hxy; exact h.snd x y hx hy hxy
  · rw [tbl_set h.sq ha hb hx hy]
    have := h.ge x y hx hy hxy
    by_cases e : x = a ∧ y = b
    · obtain ⟨rfl, rfl⟩ := e
      rw [if_pos ⟨rfl, rfl⟩, hv, this]; rfl
    · rw [if_neg e]; exact this
  · rw [tbl_set h.sq ha hb hx hy]
    by_cases e : x = a ∧ y = b
    · obtain ⟨rfl, rfl⟩ := e
      rw [if_pos ⟨rfl, rfl⟩, hv, h.ge x c hx hc h1, h.ge c y hc hy h2]; simp
    · rw [if_neg e]
      refine h.done x y hx hy ?_ h1 h2
      rcases hd with hd | ⟨rfl, hd⟩
      · exact .inl hd
      · exact .inr ⟨rfl, by have : y ≠ b := fun e' => e ⟨rfl, e'⟩; omega⟩
theorem war_row (hN : N ≤ 40) {Told T : List (List Bool)} {c a : Nat} (hc : c < N) (ha : a < N) (h : War N C Told c a 0 T) :
    ∃ T', whl (fun (s : (List (List Bool) × Int)) => fettleref09_To.bd45 (c : Int) (a : Int) s.1 s.2) FUEL (T, 0) = some T' ∧ War N C Told c ((a + 1 : Nat) : Int) 0 T' := by
  have hco : ok N (c : Int) := ⟨by omega, by omega⟩
  have hao : ok N (a : Int) := ⟨by omega, by omega⟩
  refine whl_for N (fun b s => ∃ T, s = (T, (b : Int)) ∧ War N C Told c a b T) _ (le_max hN (by omega)) ?_ ?_ ⟨T, rfl, h⟩
  · rintro b s hb ⟨T, rfl, h⟩
    have hbo : ok N (b : Int) := ⟨by omega, by omega⟩
    have e1 := (h.sq.row hao).1
    have e2 := (h.sq.row hco).1
    have c1 := h.sq.cell hao hbo
    have c2 := h.sq.cell hao hco
    have c3 := h.sq.cell hco hbo
    have hl : ((b : Int) < len T) := by simp only [len, h.sq.l]; omega
    have hw : ((b : Int) + 1) = (((b + 1 : Nat)) : Int) := by omega
    cases hab : tbl T (a : Int) (b : Int) with
    | true =>
      refine .inr ⟨_, ?_, _, rfl, by rw [← hw]; exact h.step hco hao hbo (v := true) (by rw [hab]; rfl)⟩
      simp only [fettleref09_To.bd45, hl, if_true, e1, Option.bind_some, c1, hab, fettleref09_To.jn55, w64_i hb (by omega : N ≤ 1000)]
    | false =>
      cases hac : tbl T (a : Int) (c : Int) with
      | true =>
        refine .inr ⟨_, ?_, _, rfl, by rw [← hw]; exact h.step hco hao hbo (v := tbl T (c : Int) (b : Int)) (by rw [hab, hac]; rfl)⟩
        simp only [fettleref09_To.bd45, hl, if_true, e1, Option.bind_some, c1, hab, Bool.false_eq_true, if_false, c2, hac, e2, c3, fettleref09_To.jn55, w64_i hb (by omega : N ≤ 1000)]
      | false =>
        refine .inr ⟨_, ?_, _, rfl, by rw [← hw]; exact h.step hco hao hbo (v := false) (by rw [hab, hac]; rfl)⟩
        simp only [fettleref09_To.bd45, hl, if_true, e1, Option.bind_some, c1, hab, Bool.false_eq_true, if_false, c2, hac, fettleref09_To.jn55, w64_i hb (by omega : N ≤ 1000)]
  · rintro s ⟨T, rfl, h⟩
    refine ⟨T, by simp [fettleref09_To.bd45, len, h.sq.l], h.sq, h.snd, h.ge, fun x y hx hy hd h1 h2 => h.done x y hx hy ?_ h1 h2⟩
    rcases hd with hd | ⟨rfl, hd⟩
    · by_cases e : x = (a : Int)
      · exact .inr ⟨e, hy.2⟩
      · exact .inl (by omega)
    · have := hy.1; omega
theorem war_all (hN : N ≤ 40) {Told : List (List Bool)} {c : Nat} (hc : c < N) (hq : Sq N Told) (hs : ∀ x y, ok N x → ok N y → tbl Told x y = true → Trc C x y) :
    ∃ T', whl (fun (s : (List (List Bool) × Int)) => fettleref09_To.bd31 (c : Int) s.1 s.2) FUEL (Told, 0) = some T' ∧ War N C Told c N 0 T' := by
  refine whl_for N (fun a s => ∃ T, s = (T, (a : Int)) ∧ War N C Told c a 0 T) _ (le_max hN (by omega)) ?_ ?_ ⟨Told, rfl, hq, hs, fun _ _ _ _ h => h, fun x y hx hy hd => by have := hx.1; have := hy.1; omega⟩
  · rintro a s ha ⟨T, rfl, h⟩
    obtain ⟨T', g1, g2⟩ := war_row hN hc ha h
    have hl : ((a : Int) < len T) := by simp only [len, h.sq.l]; omega
    refine .inr ⟨_, ?_, T', rfl, g2⟩
    simp only [fettleref09_To.bd31, hl, if_true, Option.bind_some, g1, fettleref09_To.nx45, w64_i ha (by omega : N ≤ 1000)]
  · rintro s ⟨T, rfl, h⟩
    exact ⟨T, by simp [fettleref09_To.bd31, len, h.sq.l], h⟩
theorem war_done (hN : N ≤ 40) (hC : ∀ x, ok N x → ∀ c, c ∈ cs C x → ok N c) {T0 : List (List Bool)} (hq : Sq N T0) (h0 : ∀ x y, ok N x → ok N y → (tbl T0 x y = true ↔ y ∈ cs C x)) :
    ∃ T, whl (fun (s : (List (List Bool) × Int)) => fettleref09_To.bd17 s.1 s.2) FUEL (T0, 0) = some T ∧ Sq N T ∧ ∀ x y, ok N x → ok N y → (tbl T x y = true ↔ Trc C x y) := by
  obtain ⟨z, hz, T, rfl, h1, h2, h3⟩ := whl_for (body := fun (s : (List (List Bool) × Int)) => fettleref09_To.bd17 s.1 s.2) N
    (fun c s => ∃ T, s = (T, (c : Int)) ∧ Sq N T ∧ (∀ x y, ok N x → ok N y → tbl T x y = true → Trc C x y) ∧ ∀ x y, ok N x → ok N y → PathK C c x y → tbl T x y = true)
    (fun z => ∃ T, z = T ∧ Sq N T ∧ (∀ x y, ok N x → ok N y → tbl T x y = true → Trc C x y) ∧ ∀ x y, ok N x → ok N y → PathK C N x y → tbl T x y = true) (le_max hN (by omega)) (by
    rintro c s hc ⟨T, rfl, h1, h2, h3⟩
    obtain ⟨T', g1, g2⟩ := war_all hN hc h1 h2
    have hl : ((c : Int) < len T) := by simp only [len, h1.l]; omega
    have hco : ok N (c : Int) := ⟨by omega, by omega⟩
    refine .inr ⟨_, ?_, T', rfl, g2.sq, g2.snd, fun x y hx hy hp => ?_⟩
    · simp only [fettleref09_To.bd17, hl, if_true, Option.bind_some, g1, fettleref09_To.nx31, w64_i hc (by omega : N ≤ 1000)]
    · rw [show (((c + 1 : Nat)) : Int) = (c : Int) + 1 by omega] at hp
      rcases hp.next with hp | ⟨p1, p2⟩
      · exact g2.ge x y hx hy (h3 x y hx hy hp)
      · exact g2.done x y hx hy (.inl hx.2) (h3 x c hx hco p1) (h3 c y hco hy p2)) (by
    rintro s ⟨T, rfl, h1, h2, h3⟩
    exact ⟨T, by simp [fettleref09_To.bd17, len, h1.l], T, rfl, h1, h2, h3⟩) (s0 := (T0, 0)) ⟨T0, rfl, hq, fun x y hx hy h => ⟨y, (h0 x y hx hy).1 h, .refl _⟩, fun x y hx hy hp => by
      rw [h0 x y hx hy]
      induction hp with
      | one h => exact h
      | @two a c b h1 hc h2 ih1 ih2 =>
        exfalso
        have : ∀ a b, PathK C ((0 : Nat) : Int) a b → ok N a → ok N b := fun a b h => by
          induction h with
          | one h => exact fun ha => hC _ ha _ h
          | two _ _ _ i1 i2 => exact fun ha => i2 (i1 ha)
        have := (this a c h1 hx).1
        omega⟩
  exact ⟨z, hz, h1, fun x y hx hy => ⟨h2 x y hx hy, fun h => h3 x y hx hy (h.path hC hx)⟩⟩

open Classical in
theorem to_row (m : PModule) (hm : SmM m) (a : Nat) (ha : a < m.funcs.length) :
    whl (fun (s : (List Bool × Int)) => fettleref09_To.bd254 m (a : Int) s.1 s.2) FUEL (List.replicate m.funcs.length false, 0) = some ((List.range m.funcs.length).map fun b : Nat => decide ((b : Int) ∈ cs (callsL m) (a : Int))) := by
  have hN := hm.1
  have := whl_run (body := fun (s : (List Bool × Int)) => fettleref09_To.bd254 m (a : Int) s.1 s.2) (r := (List.range m.funcs.length).map fun b : Nat => decide ((b : Int) ∈ cs (callsL m) (a : Int))) m.funcs.length FUEL
    (fun k => ((List.range m.funcs.length).map (fun b : Nat => if b < k then decide ((b : Int) ∈ cs (callsL m) (a : Int)) else false), (k : Int))) (fun k hk => by
      have hl : ((k : Int) < len ((List.range m.funcs.length).map (fun b : Nat => if b < k then decide ((b : Int) ∈ cs (callsL m) (a : Int)) else false))) := by simp only [len, List.length_map, List.length_range]; omega
      have hk' : k < ((List.range m.funcs.length).map (fun b : Nat => if b < k then decide ((b : Int) ∈ cs (callsL m) (a : Int)) else false)).length := by simpa using hk
      simp only [fettleref09_To.bd254, hl, if_true, refCalls m hm a ha (k : Int) ⟨by omega, by omega⟩, Option.bind_some, idx_lt hk', Int.toNat_natCast, w64_i hk (by omega : m.funcs.length ≤ 1000)]
      congr 3
      apply List.ext_getElem?
      intro j
      rw [List.getElem?_set]
      by_cases e : k = j
      · subst e; rw [if_pos rfl, if_pos hk']; simp [hk]
      · rw [if_neg e]
        rcases Nat.lt_or_ge j m.funcs.length with h | h
        · simp only [List.getElem?_map, List.getElem?_range h, Option.map_some]
          congr 1
          by_cases h2 : j < k
          · rw [if_pos h2, if_pos (by omega)]
          · rw [if_neg h2, if_neg (by omega)]
        · rw [List.getElem?_eq_none (by simpa using h), List.getElem?_eq_none (by simpa using h)]) (by
      simp only [fettleref09_To.bd254, len, List.length_map, List.length_range]
      rw [if_neg (by omega)]
      congr 2
      apply List.map_congr_left
      intro b hb
      rw [if_pos (List.mem_range.1 hb)]) (lt_FUEL (le_max hN (by omega)))
  have e : (List.range m.funcs.length).map (fun b : Nat => if b < 0 then decide ((b : Int) ∈ cs (callsL m) (a : Int)) else false) = List.replicate m.funcs.length false := by
    apply List.ext_getElem?
    intro j
    simp only [List.getElem?_map, List.getElem?_replicate, Nat.not_lt_zero, if_false]
    rcases Nat.lt_or_ge j m.funcs.length with h | h
    · rw [List.getElem?_range h, if_pos h]; rfl
    · rw [List.getElem?_eq_none (by simpa using h), if_neg (by omega)]; rfl
  simp only [e] at this
  exact this
open Classical in
theorem to_eq (m : PModule) (hm : SmM m) : ∃ T, fettleref09_To m = some T ∧ Sq m.funcs.length T ∧ ∀ x y, ok m.funcs.length x → ok m.funcs.length y → (tbl T x y = true ↔ Trc (callsL m) x y) := by
  have hN := hm.1
  have h1 := whl_map (body := fun (s : (List (List Bool) × Int)) => fettleref09_To.bd8 m s.1 s.2) (r := (List.range m.funcs.length).map fun a : Nat => (List.range m.funcs.length).map fun b : Nat => decide ((b : Int) ∈ cs (callsL m) (a : Int)))
    (List.range m.funcs.length) (fun a : Nat => (List.range m.funcs.length).map fun b : Nat => decide ((b : Int) ∈ cs (callsL m) (a : Int))) (le_max (by simp; omega) (by omega)) (fun i hi => by
      have hi' : i < m.funcs.length := by simpa using hi
      simp only [fettleref09_To.bd8, len_lt, hi', if_true, show (len m.funcs) = (m.funcs.length : Int) from rfl, mkl_rep false (show m.funcs.length ≤ 70 by omega), Option.bind_some, to_row m hm i hi', fettleref09_To.nx254]
      rw [cat_one (by simp; omega)]
      simp only [Option.bind_some, w64_i hi' (by omega : m.funcs.length ≤ 1000), List.getElem_range]) (by simp [fettleref09_To.bd8, len])
  have hq : Sq m.funcs.length ((List.range m.funcs.length).map fun a : Nat => (List.range m.funcs.length).map fun b : Nat => decide ((b : Int) ∈ cs (callsL m) (a : Int))) := ⟨by simp, fun row hr => by
    obtain ⟨a, _, rfl⟩ := List.mem_map.1 hr; simp⟩
  obtain ⟨T, g1, g2, g3⟩ := war_done (C := callsL m) hN (fun x _ c hc => cs_ok c hc) hq (fun x y hx hy => by
    obtain ⟨a, rfl⟩ : ∃ a : Nat, x = a := ⟨x.toNat, by have := hx.1; omega⟩
    obtain ⟨b, rfl⟩ : ∃ b : Nat, y = b := ⟨y.toNat, by have := hy.1; omega⟩
    have ha : a < m.funcs.length := by have := hx.2; omega
    have hb : b < m.funcs.length := by have := hy.2; omega
    simp [tbl, gb, List.getD_eq_getElem?_getD, ha, hb])
  refine ⟨T, ?_, g2, g3⟩
  unfold fettleref09_To
  rw [h1, Option.bind_some]
  simp only [fettleref09_To.nx8, g1, Option.bind_some, fettleref09_To.nx17]
end Go.Proofs.Yteaknconpkklhaa
