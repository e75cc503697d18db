/- Several parts in one text, the first of which: Layer 9, part H: the document's answer: what can be come to. No conditions. -/
import Derived.Test.YtpomfbdbkejedaaGreatDoorPzA
import Derived.Test.YtpomfbdbkejedaaGreatDoorOp
import Derived.Test.YtpomfbdbkejedaaGreatDoorOf
import Derived.KernelRfl
set_option linter.unusedVariables false
set_option linter.unusedSimpArgs false
namespace Go.Proofs.YtpomfbdbkejedaaGreatDoor
open Go Go.Proofs

theorem scanQ (n : Nat) (hn : n ≤ maxLen) (P : Nat → Prop) [DecidablePred P] (body : Int → Option (Ex (Ex Bool Unit) Int))
    (h : ∀ i, i < n → (body (i : Int) = some (.ret (.ret true)) ∧ P i) ∨ (body (i : Int) = some (.go ((i + 1 : Nat) : Int)) ∧ ¬ P i)) (he : body (n : Int) = some (.ret (.go ()))) :
    (whl body FUEL 0 = some (.ret true) ∧ ∃ i, i < n ∧ P i) ∨ (whl body FUEL 0 = some (.go ()) ∧ ∀ i, i < n → ¬ P i) := by
  obtain ⟨r, hr, hR⟩ := whl_for (body := body) n (fun i s => s = (i : Int) ∧ ∀ j, j < i → ¬ P j) (fun r => (r = .ret true ∧ ∃ i, i < n ∧ P i) ∨ (r = .go () ∧ ∀ i, i < n → ¬ P i)) hn
    (fun i s hi hI => by
      obtain ⟨rfl, hp⟩ := hI
      rcases h i hi with ⟨hb, hpi⟩ | ⟨hb, hpi⟩
      · exact .inl ⟨_, hb, .inl ⟨rfl, i, hi, hpi⟩⟩
      · refine .inr ⟨_, hb, rfl, fun j hj => ?_⟩
        rcases Nat.lt_succ_iff_lt_or_eq.1 hj with h1 | rfl
        · exact hp j h1
        · exact hpi)
    (fun s hI => by
      obtain ⟨rfl, hp⟩ := hI
      exact ⟨_, he, .inr ⟨rfl, hp⟩⟩) (s0 := 0) ⟨rfl, fun j hj => by omega⟩
  rcases hR with ⟨rfl, h1⟩ | ⟨rfl, h1⟩
  · exact .inl ⟨hr, h1⟩
  · exact .inr ⟨hr, h1⟩

open Classical in
theorem refIns (b : Int) (B : PBlock) (hl : B.ins.length ≤ 300) : (whl (fun (s : Int) => fettleref09_Calls.bd25 b B s) FUEL 0 = some (.ret true) ∧ ∃ x, x ∈ B.ins ∧ x.op = 17 ∧ x.fn = b) ∨ (whl (fun (s : Int) => fettleref09_Calls.bd25 b B s) FUEL 0 = some (.go ()) ∧ ¬ ∃ x, x ∈ B.ins ∧ x.op = 17 ∧ x.fn = b) := by
  rcases scanQ B.ins.length (le_max hl (by omega)) (fun i => ∃ x, B.ins[i]? = some x ∧ x.op = 17 ∧ x.fn = b) (fun (s : Int) => fettleref09_Calls.bd25 b B s) (fun i hi => by
    by_cases h1 : B.ins[i].op = 17
    · by_cases h2 : B.ins[i].fn = b
      · refine .inl ⟨?_, _, List.getElem?_eq_getElem hi, h1, h2⟩
        simp only [fettleref09_Calls.bd25, len_lt, hi, if_true, idx_lt hi, Option.bind_some, h1, h2, decide_true]
      · refine .inr ⟨?_, ?_⟩
        · simp only [fettleref09_Calls.bd25, len_lt, hi, if_true, idx_lt hi, Option.bind_some, h1, h2, decide_false, Bool.false_eq_true, if_false, w64_i hi (by omega : B.ins.length ≤ 1000)]
        · rintro ⟨x, hx, _, hx2⟩
          rw [List.getElem?_eq_getElem hi] at hx; cases hx; exact h2 hx2
    · refine .inr ⟨?_, ?_⟩
      · simp only [fettleref09_Calls.bd25, len_lt, hi, if_true, idx_lt hi, Option.bind_some, h1, if_false, Bool.false_eq_true, w64_i hi (by omega : B.ins.length ≤ 1000)]
      · rintro ⟨x, hx, hx1, _⟩
        rw [List.getElem?_eq_getElem hi] at hx; cases hx; exact h1 hx1) (by simp [fettleref09_Calls.bd25, len]) with ⟨h1, i, hi, x, hx, h2⟩ | ⟨h1, h2⟩
  · exact .inl ⟨h1, x, List.mem_of_getElem? hx, h2⟩
  · refine .inr ⟨h1, ?_⟩
    rintro ⟨x, hx, h3⟩
    obtain ⟨i, hi, rfl⟩ := List.getElem_of_mem hx
    exact h2 i hi ⟨_, List.getElem?_eq_getElem hi, h3⟩
open Classical in
theorem refCalls (m : PModule) (hm : SmM m) (a : Nat) (ha : a < m.funcs.length) (b : Int) (hb : ok m.funcs.length b) : fettleref09_Calls m (a : Int) b = some (decide (b ∈ cs (callsL m) (a : Int))) := by
  have hf := hm.2 m.funcs[a] (List.getElem_mem ha)
  have hmem : b ∈ cs (callsL m) (a : Int) ↔ ∃ B, B ∈ m.funcs[a].blocks ∧ ∃ x, x ∈ B.ins ∧ x.op = 17 ∧ x.fn = b := by
    rw [mem_cs ha, mem_calB]
    exact ⟨fun h => h.2, fun h => ⟨hb, h⟩⟩
  unfold fettleref09_Calls
  rcases scanQ m.funcs[a].blocks.length (le_max hf.1 (by omega)) (fun i => ∃ B, m.funcs[a].blocks[i]? = some B ∧ ∃ x, x ∈ B.ins ∧ x.op = 17 ∧ x.fn = b) (fun (s : Int) => fettleref09_Calls.bd8 m (a : Int) b s) (fun i hi => by
    have hB := hf.2.2.2 m.funcs[a].blocks[i] (List.getElem_mem hi)
    rcases refIns b m.funcs[a].blocks[i] hB.1 with ⟨h1, h2⟩ | ⟨h1, h2⟩
    · refine .inl ⟨?_, _, List.getElem?_eq_getElem hi, h2⟩
      simp only [fettleref09_Calls.bd8, idx_lt ha, Option.bind_some, len_lt, hi, if_true, idx_lt hi, h1]
    · refine .inr ⟨?_, ?_⟩
      · simp only [fettleref09_Calls.bd8, idx_lt ha, Option.bind_some, len_lt, hi, if_true, idx_lt hi, h1, fettleref09_Calls.nx25, w64_i hi (by have := hf.1; omega : m.funcs[a].blocks.length ≤ 1000)]
      · rintro ⟨B, hB', h3⟩
        rw [List.getElem?_eq_getElem hi] at hB'; cases hB'; exact h2 h3) (by simp [fettleref09_Calls.bd8, idx_lt ha, len]) with ⟨h1, i, hi, B, hB, h2⟩ | ⟨h1, h2⟩
  · rw [h1]
    have : b ∈ cs (callsL m) (a : Int) := hmem.2 ⟨B, List.mem_of_getElem? hB, h2⟩
    simp [this]
  · rw [h1]
    have : ¬ b ∈ cs (callsL m) (a : Int) := fun h => by
      obtain ⟨B, hB, h3⟩ := hmem.1 h
      obtain ⟨i, hi, rfl⟩ := List.getElem_of_mem hB
      exact h2 i hi ⟨_, List.getElem?_eq_getElem hi, h3⟩
    simp [this, fettleref09_Calls.nx8]

/-! ### Tables of N times N -/
def tbl (T : List (List Bool)) (a b : Int) : Bool := gb (T.getD a.toNat []) b
structure Sq (N : Nat) (T : List (List Bool)) : Prop where
  l : T.length = N
  r : ∀ row, row ∈ T → row.length = N
theorem Sq.row {N : Nat} {T : List (List Bool)} (h : Sq N T) {a : Int} (ha : ok N a) : idx T a = some (T.getD a.toNat []) ∧ (T.getD a.toNat []).length = N := by
  have : a.toNat < T.length := by rw [h.l]; have := ha.1; have := ha.2; omega
  have hg : T.getD a.toNat [] = T[a.toNat] := by simp [List.getD_eq_getElem?_getD, List.getElem?_eq_getElem this]
  rw [hg]
  exact ⟨by simp [idx, ha.1, List.getElem?_eq_getElem this], h.r _ (List.getElem_mem _)⟩
theorem Sq.cell {N : Nat} {T : List (List Bool)} (h : Sq N T) {a b : Int} (ha : ok N a) (hb : ok N b) : idx (T.getD a.toNat []) b = some (tbl T a b) :=
  idx_gb (by rw [(h.row ha).2]; exact hb)
theorem Sq.set {N : Nat} {T : List (List Bool)} (h : Sq N T) {a b : Int} (ha : ok N a) (v : Bool) : Sq N (T.set a.toNat ((T.getD a.toNat []).set b.toNat v)) :=
  ⟨by simp [h.l], fun row hr => by
    rcases List.mem_or_eq_of_mem_set hr with hr | rfl
    · exact h.r row hr
    · rw [List.length_set]; exact (h.row ha).2⟩
theorem tbl_set {N : Nat} {T : List (List Bool)} (h : Sq N T) {a b a' b' : Int} (ha : ok N a) (hb : ok N b) (ha' : ok N a') (hb' : ok N b') (v : Bool) :
    tbl (T.set a.toNat ((T.getD a.toNat []).set b.toNat v)) a' b' = if a' = a ∧ b' = b then v else tbl T a' b' := by
  have hal : a.toNat < T.length := by rw [h.l]; have := ha.1; have := ha.2; omega
  unfold tbl
  by_cases e : a' = a
  · subst e
    have : (T.set a'.toNat ((T.getD a'.toNat []).set b.toNat v)).getD a'.toNat [] = (T.getD a'.toNat []).set b.toNat v := by
      simp only [List.getD_eq_getElem?_getD, List.getElem?_set, if_true, hal, Option.getD_some]
    rw [this, gb_set (by rw [(h.row ha).2]; exact hb) (by rw [(h.row ha).2]; exact hb')]
    simp
  · have hne : ¬ a.toNat = a'.toNat := by have := ha.1; have := ha'.1; omega
    have : (T.set a.toNat ((T.getD a.toNat []).set b.toNat v)).getD a'.toNat [] = T.getD a'.toNat [] := by
      simp only [List.getD_eq_getElem?_getD, List.getElem?_set, hne, if_false]
    rw [this]
    simp [e]

/-! ### By one call at least -/
def Trc (C : List (List Int)) (a b : Int) : Prop := ∃ d, d ∈ cs C a ∧ Rch C d b
theorem Trc.trans {C : List (List Int)} {a b c : Int} (h : Trc C a b) (h' : Trc C b c) : Trc C a c := by
  obtain ⟨d, h1, h2⟩ := h
  obtain ⟨e, h3, h4⟩ := h'
  exact ⟨d, h1, h2.trans (.step h3 h4)⟩
theorem rch_iff {C : List (List Int)} {a b : Int} : Rch C a b ↔ a = b ∨ Trc C a b := by
  constructor
  · intro h
    cases h with
    | refl => exact .inl rfl
    | step hc h => exact .inr ⟨_, hc, h⟩
  · rintro (rfl | ⟨d, h1, h2⟩)
    · exact .refl _
    · exact .step h1 h2
inductive PathK (C : List (List Int)) (k : Int) : Int → Int → Prop
  | one {a b : Int} : b ∈ cs C a → PathK C k a b
  | two {a c b : Int} : PathK C k a c → c < k → PathK C k c b → PathK C k a b
theorem PathK.next {C : List (List Int)} {k a b : Int} (h : PathK C (k + 1) a b) : PathK C k a b ∨ (PathK C k a k ∧ PathK C k k b) := by
  induction h with
  | one h => exact .inl (.one h)
  | @two a c b h1 hc h2 ih1 ih2 =>
    by_cases e : c = k
    · subst e
      refine .inr ⟨?_, ?_⟩
      · rcases ih1 with h | h
        · exact h
        · exact h.1
      · rcases ih2 with h | h
        · exact h
        · exact h.2
    · have hck : c < k := by omega
      rcases ih1 with h | ⟨h, h'⟩
      · rcases ih2 with g | ⟨g, g'⟩
        · exact .inl (.two h hck g)
        · exact .inr ⟨.two h hck g, g'⟩
      · rcases ih2 with g | ⟨g, g'⟩
        · exact .inr ⟨h, .two h' hck g⟩
        · exact .inr ⟨h, g'⟩
theorem Trc.path {C : List (List Int)} {N : Nat} (hC : ∀ x, ok N x → ∀ c, c ∈ cs C x → ok N c) {a b : Int} (ha : ok N a) (h : Trc C a b) : PathK C N a b := by
  obtain ⟨d, h1, h2⟩ := h
  induction h2 generalizing a with
  | refl => exact .one h1
  | @step x c y hc _ ih => exact .two (.one h1) (hC a ha _ h1).2 (ih (hC a ha _ h1) hc)

variable {N : Nat} {C : List (List Int)}
/-- One turn of the table: Told at the beginning; done up to (a, b). -/
structure War (N : Nat) (C : List (List Int)) (Told : List (List Bool)) (c a b : Int) (T : List (List Bool)) : Prop where
  sq : Sq N T
  snd : ∀ x y, ok N x → ok N y → tbl T x y = true → Trc C x y
  ge : ∀ x y, ok N x → ok N y → tbl Told x y = true → tbl T x y = true
  done : ∀ x y, ok N x → ok N y → (x < a ∨ (x = a ∧ y < b)) → tbl Told x c = true → tbl Told c y = true → tbl T x y = true
theorem War.step {Told T : List (List Bool)} {c a b : Int} (h : War N C Told c a b T) (hc : ok N c) (ha : ok N a) (hb : ok N b) {v : Bool} (hv : v = (tbl T a b || (tbl T a c && tbl T c b))) :
    War N C Told c a (b + 1) (T.set a.toNat ((T.getD a.toNat []).set b.toNat v)) := by
  refine ⟨h.sq.set ha v, fun x y hx hy hxy => ?_, fun x y hx hy hxy => ?_, fun x y hx hy hd h1 h2 => ?_⟩
  · rw [tbl_set h.sq ha hb hx hy] at hxy
    by_cases e : x = a ∧ y = b
    · obtain ⟨rfl, rfl⟩ := e
      rw [if_pos ⟨rfl, rfl⟩, hv] at hxy
      simp only [Bool.or_eq_true, Bool.and_eq_true] at hxy
      rcases hxy with hxy | ⟨h1, h2⟩
      · exact h.snd x y hx hy hxy
      · exact (h.snd x c hx hc h1).trans (h.snd c y hc hy h2)
    · rw [if_neg e] at hxy; exact h.snd x y hx hy hxy
  · rw [tbl_set h.sq ha hb hx hy]
    have := h.ge x y hx hy hxy
    by_cases e : x = a ∧ y = b
    · obtain ⟨rfl, rfl⟩ := e
      rw [if_pos ⟨rfl, rfl⟩, hv, this]; rfl
    · rw [if_neg e]; exact this
  · rw [tbl_set h.sq ha hb hx hy]
    by_cases e : x = a ∧ y = b
    · obtain ⟨rfl, rfl⟩ := e
      rw [if_pos ⟨rfl, rfl⟩, hv, h.ge x c hx hc h1, h.ge c y hc hy h2]; simp
    · rw [if_neg e]
      refine h.done x y hx hy ?_ h1 h2
      rcases hd with hd | ⟨rfl, hd⟩
      · exact .inl hd
      · exact .inr ⟨rfl, by have : y ≠ b := fun e' => e ⟨rfl, e'⟩; omega⟩
theorem war_row (hN : N ≤ 40) {Told T : List (List Bool)} {c a : Nat} (hc : c < N) (ha : a < N) (h : War N C Told c a 0 T) :
    ∃ T', whl (fun (s : (List (List Bool) × Int)) => fettleref09_To.bd45 (c : Int) (a : Int) s.1 s.2) FUEL (T, 0) = some T' ∧ War N C Told c ((a + 1 : Nat) : Int) 0 T' := by
  have hco : ok N (c : Int) := ⟨by omega, by omega⟩
  have hao : ok N (a : Int) := ⟨by omega, by omega⟩
  refine whl_for N (fun b s => ∃ T, s = (T, (b : Int)) ∧ War N C Told c a b T) _ (le_max hN (by omega)) ?_ ?_ ⟨T, rfl, h⟩
  · rintro b s hb ⟨T, rfl, h⟩
    have hbo : ok N (b : Int) := ⟨by omega, by omega⟩
    have e1 := (h.sq.row hao).1
    have e2 := (h.sq.row hco).1
    have c1 := h.sq.cell hao hbo
    have c2 := h.sq.cell hao hco
    have c3 := h.sq.cell hco hbo
    have hl : ((b : Int) < len T) := by simp only [len, h.sq.l]; omega
    have hw : ((b : Int) + 1) = (((b + 1 : Nat)) : Int) := by omega
    cases hab : tbl T (a : Int) (b : Int) with
    | true =>
      refine .inr ⟨_, ?_, _, rfl, by rw [← hw]; exact h.step hco hao hbo (v := true) (by rw [hab]; rfl)⟩
      simp only [fettleref09_To.bd45, hl, if_true, e1, Option.bind_some, c1, hab, fettleref09_To.jn55, w64_i hb (by omega : N ≤ 1000)]
    | false =>
      cases hac : tbl T (a : Int) (c : Int) with
      | true =>
        refine .inr ⟨_, ?_, _, rfl, by rw [← hw]; exact h.step hco hao hbo (v := tbl T (c : Int) (b : Int)) (by rw [hab, hac]; rfl)⟩
        simp only [fettleref09_To.bd45, hl, if_true, e1, Option.bind_some, c1, hab, Bool.false_eq_true, if_false, c2, hac, e2, c3, fettleref09_To.jn55, w64_i hb (by omega : N ≤ 1000)]
      | false =>
        refine .inr ⟨_, ?_, _, rfl, by rw [← hw]; exact h.step hco hao hbo (v := false) (by rw [hab, hac]; rfl)⟩
        simp only [fettleref09_To.bd45, hl, if_true, e1, Option.bind_some, c1, hab, Bool.false_eq_true, if_false, c2, hac, fettleref09_To.jn55, w64_i hb (by omega : N ≤ 1000)]
  · rintro s ⟨T, rfl, h⟩
    refine ⟨T, by simp [fettleref09_To.bd45, len, h.sq.l], h.sq, h.snd, h.ge, fun x y hx hy hd h1 h2 => h.done x y hx hy ?_ h1 h2⟩
    rcases hd with hd | ⟨rfl, hd⟩
    · by_cases e : x = (a : Int)
      · exact .inr ⟨e, hy.2⟩
      · exact .inl (by omega)
    · have := hy.1; omega
theorem war_all (hN : N ≤ 40) {Told : List (List Bool)} {c : Nat} (hc : c < N) (hq : Sq N Told) (hs : ∀ x y, ok N x → ok N y → tbl Told x y = true → Trc C x y) :
    ∃ T', whl (fun (s : (List (List Bool) × Int)) => fettleref09_To.bd31 (c : Int) s.1 s.2) FUEL (Told, 0) = some T' ∧ War N C Told c N 0 T' := by
  refine whl_for N (fun a s => ∃ T, s = (T, (a : Int)) ∧ War N C Told c a 0 T) _ (le_max hN (by omega)) ?_ ?_ ⟨Told, rfl, hq, hs, fun _ _ _ _ h => h, fun x y hx hy hd => by have := hx.1; have := hy.1; omega⟩
  · rintro a s ha ⟨T, rfl, h⟩
    obtain ⟨T', g1, g2⟩ := war_row hN hc ha h
    have hl : ((a : Int) < len T) := by simp only [len, h.sq.l]; omega
    refine .inr ⟨_, ?_, T', rfl, g2⟩
    simp only [fettleref09_To.bd31, hl, if_true, Option.bind_some, g1, fettleref09_To.nx45, w64_i ha (by omega : N ≤ 1000)]
  · rintro s ⟨T, rfl, h⟩
    exact ⟨T, by simp [fettleref09_To.bd31, len, h.sq.l], h⟩
theorem war_done (hN : N ≤ 40) (hC : ∀ x, ok N x → ∀ c, c ∈ cs C x → ok N c) {T0 : List (List Bool)} (hq : Sq N T0) (h0 : ∀ x y, ok N x → ok N y → (tbl T0 x y = true ↔ y ∈ cs C x)) :
    ∃ T, whl (fun (s : (List (List Bool) × Int)) => fettleref09_To.bd17 s.1 s.2) FUEL (T0, 0) = some T ∧ Sq N T ∧ ∀ x y, ok N x → ok N y → (tbl T x y = true ↔ Trc C x y) := by
  obtain ⟨z, hz, T, rfl, h1, h2, h3⟩ := whl_for (body := fun (s : (List (List Bool) × Int)) => fettleref09_To.bd17 s.1 s.2) N
    (fun c s => ∃ T, s = (T, (c : Int)) ∧ Sq N T ∧ (∀ x y, ok N x → ok N y → tbl T x y = true → Trc C x y) ∧ ∀ x y, ok N x → ok N y → PathK C c x y → tbl T x y = true)
    (fun z => ∃ T, z = T ∧ Sq N T ∧ (∀ x y, ok N x → ok N y → tbl T x y = true → Trc C x y) ∧ ∀ x y, ok N x → ok N y → PathK C N x y → tbl T x y = true) (le_max hN (by omega)) (by
    rintro c s hc ⟨T, rfl, h1, h2, h3⟩
    obtain ⟨T', g1, g2⟩ := war_all hN hc h1 h2
    have hl : ((c : Int) < len T) := by simp only [len, h1.l]; omega
    have hco : ok N (c : Int) := ⟨by omega, by omega⟩
    refine .inr ⟨_, ?_, T', rfl, g2.sq, g2.snd, fun x y hx hy hp => ?_⟩
    · simp only [fettleref09_To.bd17, hl, if_true, Option.bind_some, g1, fettleref09_To.nx31, w64_i hc (by omega : N ≤ 1000)]
    · rw [show (((c + 1 : Nat)) : Int) = (c : Int) + 1 by omega] at hp
      rcases hp.next with hp | ⟨p1, p2⟩
      · exact g2.ge x y hx hy (h3 x y hx hy hp)
      · exact g2.done x y hx hy (.inl hx.2) (h3 x c hx hco p1) (h3 c y hco hy p2)) (by
    rintro s ⟨T, rfl, h1, h2, h3⟩
    exact ⟨T, by simp [fettleref09_To.bd17, len, h1.l], T, rfl, h1, h2, h3⟩) (s0 := (T0, 0)) ⟨T0, rfl, hq, fun x y hx hy h => ⟨y, (h0 x y hx hy).1 h, .refl _⟩, fun x y hx hy hp => by
      rw [h0 x y hx hy]
      induction hp with
      | one h => exact h
      | @two a c b h1 hc h2 ih1 ih2 =>
        exfalso
        have : ∀ a b, PathK C ((0 : Nat) : Int) a b → ok N a → ok N b := fun a b h => by
          induction h with
          | one h => exact fun ha => hC _ ha _ h
          | two _ _ _ i1 i2 => exact fun ha => i2 (i1 ha)
        have := (this a c h1 hx).1
        omega⟩
  exact ⟨z, hz, h1, fun x y hx hy => ⟨h2 x y hx hy, fun h => h3 x y hx hy (h.path hC hx)⟩⟩

open Classical in
theorem to_row (m : PModule) (hm : SmM m) (a : Nat) (ha : a < m.funcs.length) :
    whl (fun (s : (List Bool × Int)) => fettleref09_To.bd254 m (a : Int) s.1 s.2) FUEL (List.replicate m.funcs.length false, 0) = some ((List.range m.funcs.length).map fun b : Nat => decide ((b : Int) ∈ cs (callsL m) (a : Int))) := by
  have hN := hm.1
  have := whl_run (body := fun (s : (List Bool × Int)) => fettleref09_To.bd254 m (a : Int) s.1 s.2) (r := (List.range m.funcs.length).map fun b : Nat => decide ((b : Int) ∈ cs (callsL m) (a : Int))) m.funcs.length FUEL
    (fun k => ((List.range m.funcs.length).map (fun b : Nat => if b < k then decide ((b : Int) ∈ cs (callsL m) (a : Int)) else false), (k : Int))) (fun k hk => by
      have hl : ((k : Int) < len ((List.range m.funcs.length).map (fun b : Nat => if b < k then decide ((b : Int) ∈ cs (callsL m) (a : Int)) else false))) := by simp only [len, List.length_map, List.length_range]; omega
      have hk' : k < ((List.range m.funcs.length).map (fun b : Nat => if b < k then decide ((b : Int) ∈ cs (callsL m) (a : Int)) else false)).length := by simpa using hk
      simp only [fettleref09_To.bd254, hl, if_true, refCalls m hm a ha (k : Int) ⟨by omega, by omega⟩, Option.bind_some, idx_lt hk', Int.toNat_natCast, w64_i hk (by omega : m.funcs.length ≤ 1000)]
      congr 3
      apply List.ext_getElem?
      intro j
      rw [List.getElem?_set]
      by_cases e : k = j
      · subst e; rw [if_pos rfl, if_pos hk']; simp [hk]
      · rw [if_neg e]
        rcases Nat.lt_or_ge j m.funcs.length with h | h
        · simp only [List.getElem?_map, List.getElem?_range h, Option.map_some]
          congr 1
          by_cases h2 : j < k
          · rw [if_pos h2, if_pos (by omega)]
          · rw [if_neg h2, if_neg (by omega)]
        · rw [List.getElem?_eq_none (by simpa using h), List.getElem?_eq_none (by simpa using h)]) (by
      simp only [fettleref09_To.bd254, len, List.length_map, List.length_range]
      rw [if_neg (by omega)]
      congr 2
      apply List.map_congr_left
      intro b hb
      rw [if_pos (List.mem_range.1 hb)]) (lt_FUEL (le_max hN (by omega)))
  have e : (List.range m.funcs.length).map (fun b : Nat => if b < 0 then decide ((b : Int) ∈ cs (callsL m) (a : Int)) else false) = List.replicate m.funcs.length false := by
    apply List.ext_getElem?
    intro j
    simp only [List.getElem?_map, List.getElem?_replicate, Nat.not_lt_zero, if_false]
    rcases Nat.lt_or_ge j m.funcs.length with h | h
    · rw [List.getElem?_range h, if_pos h]; rfl
    · rw [List.getElem?_eq_none (by simpa using h), if_neg (by omega)]; rfl
  simp only [e] at this
  exact this
open Classical in
theorem to_eq (m : PModule) (hm : SmM m) : ∃ T, fettleref09_To m = some T ∧ Sq m.funcs.length T ∧ ∀ x y, ok m.funcs.length x → ok m.funcs.length y → (tbl T x y = true ↔ Trc (callsL m) x y) := by
  have hN := hm.1
  have h1 := whl_map (body := fun (s : (List (List Bool) × Int)) => fettleref09_To.bd8 m s.1 s.2) (r := (List.range m.funcs.length).map fun a : Nat => (List.range m.funcs.length).map fun b : Nat => decide ((b : Int) ∈ cs (callsL m) (a : Int)))
    (List.range m.funcs.length) (fun a : Nat => (List.range m.funcs.length).map fun b : Nat => decide ((b : Int) ∈ cs (callsL m) (a : Int))) (le_max (by simp; omega) (by omega)) (fun i hi => by
      have hi' : i < m.funcs.length := by simpa using hi
      simp only [fettleref09_To.bd8, len_lt, hi', if_true, show (len m.funcs) = (m.funcs.length : Int) from rfl, mkl_rep false (show m.funcs.length ≤ 70 by omega), Option.bind_some, to_row m hm i hi', fettleref09_To.nx254]
      rw [cat_one (by simp; omega)]
      simp only [Option.bind_some, w64_i hi' (by omega : m.funcs.length ≤ 1000), List.getElem_range]) (by simp [fettleref09_To.bd8, len])
  have hq : Sq m.funcs.length ((List.range m.funcs.length).map fun a : Nat => (List.range m.funcs.length).map fun b : Nat => decide ((b : Int) ∈ cs (callsL m) (a : Int))) := ⟨by simp, fun row hr => by
    obtain ⟨a, _, rfl⟩ := List.mem_map.1 hr; simp⟩
  obtain ⟨T, g1, g2, g3⟩ := war_done (C := callsL m) hN (fun x _ c hc => cs_ok c hc) hq (fun x y hx hy => by
    obtain ⟨a, rfl⟩ : ∃ a : Nat, x = a := ⟨x.toNat, by have := hx.1; omega⟩
    obtain ⟨b, rfl⟩ : ∃ b : Nat, y = b := ⟨y.toNat, by have := hy.1; omega⟩
    have ha : a < m.funcs.length := by have := hx.2; omega
    have hb : b < m.funcs.length := by have := hy.2; omega
    simp [tbl, gb, List.getD_eq_getElem?_getD, ha, hb])
  refine ⟨T, ?_, g2, g3⟩
  unfold fettleref09_To
  rw [h1, Option.bind_some]
  simp only [fettleref09_To.nx8, g1, Option.bind_some, fettleref09_To.nx17]
end Go.Proofs.YtpomfbdbkejedaaGreatDoor
set_option linter.unusedVariables false
set_option linter.unusedSimpArgs false
namespace Go.Proofs.YtpomfbdbkejedaaGreatDoor
open Go Go.Proofs

def bt (e : PEffect) (k : Nat) : Bool := match k with | 0 => e.reads | 1 => e.writes | 2 => e.outs | 3 => e.traps | _ => e.turns
theorem bt_ext {a b : PEffect} (h : ∀ k, k < 5 → bt a k = bt b k) : a = b := by
  obtain ⟨a0, a1, a2, a3, a4⟩ := a
  obtain ⟨b0, b1, b2, b3, b4⟩ := b
  have h0 := h 0 (by omega)
  have h1 := h 1 (by omega)
  have h2 := h 2 (by omega)
  have h3 := h 3 (by omega)
  have h4 := h 4 (by omega)
  simp only [bt] at h0 h1 h2 h3 h4
  simp [h0, h1, h2, h3, h4]
theorem lt5 {k : Nat} (h : k < 5) : k = 0 ∨ k = 1 ∨ k = 2 ∨ k = 3 ∨ k = 4 := by omega
theorem joined_eq (a b : PEffect) : ∃ c, effect_joined a b = some c ∧ ∀ k, k < 5 → bt c k = (bt a k || bt b k) := by
  refine ⟨_, rfl, fun k hk => ?_⟩
  rcases lt5 hk with rfl | rfl | rfl | rfl | rfl <;> simp [bt]
def insE (x : PInstr) : PEffect := ⟨decide (x.op = 15), decide (x.op = 16), decide (x.op = 18), decide (x.op = 15 ∨ x.op = 16 ∨ x.op = 11), false⟩
theorem instr_eq (x : PInstr) : effect_instr x = some (insE x) := by
  unfold effect_instr effect_instr.jn6 insE arith_Traps
  by_cases h1 : x.op = 15
  · simp [h1]
  · by_cases h2 : x.op = 16
    · simp [h2]
    · by_cases h3 : x.op = 11 <;> simp [h1, h2, h3]

theorem turnsC (row place : List Int) (b : Int) (hl : row.length ≤ maxLen) (hb : ok place.length b) (hr : ∀ x, x ∈ row → ok place.length x) :
    slices_ContainsFunc_effect_turns_1 row place b = some (decide (∃ x, x ∈ row ∧ nu place x ≤ nu place b)) := by
  have H : ∃ i, slices_IndexFunc_effect_turns_1 row place b = some i ∧ (i ≥ 0 ↔ ∃ x, x ∈ row ∧ nu place x ≤ nu place b) := by
    unfold slices_IndexFunc_effect_turns_1
    have := scan0 row (fun i y => if nu place y ≤ nu place b then some (i : Int) else none) (fun s => slices_IndexFunc_effect_turns_1.bd8 row place b s) hl (fun i hi => by
      simp only [slices_IndexFunc_effect_turns_1.bd8, len_lt, hi, if_true, idx_lt hi, Option.bind_some, w64_at hi hl, effect_turns_1, idx_nu hb, idx_nu (hr _ (List.getElem_mem hi)), decide_eq_true_eq]
      split <;> rfl) (by simp [slices_IndexFunc_effect_turns_1.bd8, len])
    rcases this with ⟨i, hi, r, hf, _, hw⟩ | ⟨hall, hw⟩
    · split at hf
      · cases hf
        rename_i hx
        exact ⟨i, by rw [hw]; rfl, fun _ => ⟨_, List.getElem_mem hi, hx⟩, fun _ => by omega⟩
      · cases hf
    · refine ⟨-1, by rw [hw]; rfl, fun h => by omega, fun ⟨x, hx, hle⟩ => ?_⟩
      obtain ⟨i, hi, he⟩ := List.getElem_of_mem hx
      have := hall i hi
      simp [he, hle] at this
  obtain ⟨i, h1, h2⟩ := H
  unfold slices_ContainsFunc_effect_turns_1
  rw [h1]
  simp only [Option.bind_some, h2]

/-- What goes round. -/
def Turns (nx : List (List Int)) (o : List Int) : Prop := ∃ place : List Int, place.length = nx.length ∧
  (∀ (i : Nat) (b : Int), o[i]? = some b → nu place b = (i : Int)) ∧ ∃ b, b ∈ o ∧ ∃ x, x ∈ cs nx b ∧ nu place x ≤ nu place b
theorem turns_eq (f : PFunc) (hf : SmF f) (o : List Int) (ho : graph_Order f = some o) (hlen : o.length ≤ 70) (hnd : o.Nodup) (hin : ∀ x, x ∈ o → ok f.blocks.length x) :
    ∃ b, effect_turns f = some b ∧ (∃ place : List Int, place.length = f.blocks.length ∧ (∀ (i : Nat) (x : Int), o[i]? = some x → nu place x = (i : Int)) ∧ (b = true ↔ ∃ y, y ∈ o ∧ ∃ x, x ∈ cs (nexts f) y ∧ nu place x ≤ nu place y)) := by
  have hn : f.blocks.length ≤ 70 := hf.1
  have ht : ∀ B ∈ f.blocks, B.term.to.length ≤ 70 := fun B hB => (hf.2.2.2 B hB).2.2.1
  have hmax : o.length ≤ maxLen := le_max hlen (by omega)
  have h1 := graphNext_eq f hn ht
  have h2 := mkl_rep (n := f.blocks.length) (0 : Int) hn
  have h3 : ∃ pl, whl (fun (s : (List Int × Int)) => effect_turns.bd14 o s.1 s.2) FUEL (List.replicate f.blocks.length 0, 0) = some pl ∧ (pl.length = f.blocks.length ∧ ∀ (j : Nat) (x : Int), j < o.length → o[j]? = some x → nu pl x = (j : Int)) := by
    refine whl_for (σ := List Int × Int) (s0 := (List.replicate f.blocks.length 0, 0)) o.length (fun i s => s.2 = (i : Int) ∧ s.1.length = f.blocks.length ∧ ∀ (j : Nat) (x : Int), j < i → o[j]? = some x → nu s.1 x = (j : Int)) (fun pl => pl.length = f.blocks.length ∧ ∀ (j : Nat) (x : Int), j < o.length → o[j]? = some x → nu pl x = (j : Int)) hmax ?_ ?_ ⟨rfl, by simp, fun j x hj => by omega⟩
    · rintro i ⟨pl, k⟩ hi ⟨hk, hl, hj⟩
      dsimp only at hk hl hj
      subst hk
      have hb := hin _ (List.getElem_mem hi)
      have hb' : ok pl.length o[i] := by rw [hl]; exact hb
      refine .inr ⟨(pl.set (o[i]).toNat i, ((i + 1 : Nat) : Int)), ?_, rfl, by simpa using hl, ?_⟩
      · simp only [effect_turns.bd14, len_lt, hi, if_true, idx_lt hi, Option.bind_some, idx_nu hb', w64_at hi hmax]
      · intro j x hji hx
        have hxm : x ∈ o := List.mem_of_getElem? hx
        show nu (pl.set (o[i]).toNat i) x = j
        rw [nu_set hb' (by rw [hl]; exact hin _ hxm)]
        split
        · rename_i he
          have hjl : j < o.length := (List.getElem?_eq_some_iff.1 hx).1
          have hx2 : o[j] = o[i] := by rw [← he]; exact (List.getElem?_eq_some_iff.1 hx).2
          have := (List.getElem_inj hnd).1 hx2
          omega
        · rename_i hne
          refine hj j x ?_ hx
          rcases Nat.lt_or_ge j i with h | h
          · exact h
          · have : j = i := by omega
            subst this
            rw [List.getElem?_eq_getElem hi] at hx
            exact absurd (Option.some.inj hx).symm hne
    · rintro ⟨pl, k⟩ ⟨hk, hl, hj⟩
      dsimp only at hk hl hj
      subst hk
      exact ⟨pl, by simp [effect_turns.bd14, len], hl, hj⟩
  obtain ⟨pl, hw, hpl, hplace⟩ := h3
  have hrow : ∀ y, y ∈ o → idx (nexts f) y = some (cs (nexts f) y) ∧ (cs (nexts f) y).length ≤ 70 ∧ ∀ x, x ∈ cs (nexts f) y → ok pl.length x := by
    intro y hy
    have hy1 := hin y hy
    have hy2 : ok (nexts f).length y := by rw [nexts_length]; exact hy1
    have hi := idx_cs hy2
    have h5 := nexts_rows f ht y.toNat (cs (nexts f) y) (by
      have := hi
      unfold idx at this
      rwa [if_pos hy2.1] at this)
    refine ⟨hi, h5.1, fun x hx => ?_⟩
    have := h5.2 x hx
    rw [nexts_length] at this
    rw [hpl]
    exact this
  have h4 := scan0 o (fun _ y => if ∃ x, x ∈ cs (nexts f) y ∧ nu pl x ≤ nu pl y then some true else none) (fun s => effect_turns.bd23 (nexts f) o pl s) hmax (fun i hi => by
    have hb := List.getElem_mem hi
    obtain ⟨e1, e2, e3⟩ := hrow _ hb
    have e4 := turnsC (cs (nexts f) o[i]) pl o[i] (le_max e2 (by omega)) (by rw [hpl]; exact hin _ hb) e3
    simp only [effect_turns.bd23, len_lt, hi, if_true, idx_lt hi, Option.bind_some, e1, e4, w64_at hi hmax, decide_eq_true_eq]
    split <;> rfl) (by simp [effect_turns.bd23, len])
  have hlen' : len f.blocks = (f.blocks.length : Int) := rfl
  rcases h4 with ⟨i, hi, r, hfi, _, hw2⟩ | ⟨hall, hw2⟩
  · split at hfi
    · cases hfi
      rename_i hx
      refine ⟨true, ?_, pl, hpl, fun i x hx => hplace i x (List.getElem?_eq_some_iff.1 hx).1 hx, fun _ => ⟨_, List.getElem_mem hi, hx⟩, fun _ => rfl⟩
      simp only [effect_turns, h1, Option.bind_some, hlen', h2, effect_turns.jn4, ho, hw, effect_turns.nx14, hw2]
    · cases hfi
  · refine ⟨false, ?_, pl, hpl, fun i x hx => hplace i x (List.getElem?_eq_some_iff.1 hx).1 hx, fun h => (by cases h), fun ⟨y, hy, hx⟩ => ?_⟩
    · simp only [effect_turns, h1, Option.bind_some, hlen', h2, effect_turns.jn4, ho, hw, effect_turns.nx14, hw2, effect_turns.nx23]
    · obtain ⟨i, hi, rfl⟩ := List.getElem_of_mem hy
      have := hall i hi
      simp [hx] at this
theorem turns_same (f g : PFunc) (hf : SmF f) (hg : SmF g) (h1 : nexts f = nexts g) (h2 : f.blocks.length = g.blocks.length) (h3 : graph_Order f = graph_Order g) : effect_turns f = effect_turns g := by
  have e1 := graphNext_eq f hf.1 (fun B hB => (hf.2.2.2 B hB).2.2.1)
  have e2 := graphNext_eq g hg.1 (fun B hB => (hg.2.2.2 B hB).2.2.1)
  have e3 : len f.blocks = len g.blocks := by simp [len, h2]
  simp only [effect_turns, e1, e2, h1, e3, effect_turns.jn4, h3]

/-- A function's instructions that are reached. -/
def RI (f : PFunc) (s : List Bool) (n : Nat) (x : PInstr) : Prop := ∃ (i : Nat) (B : PBlock), i < n ∧ s[i]? = some true ∧ f.blocks[i]? = some B ∧ x ∈ B.ins
structure OwnP (P : PInstr → Prop) (tr : Bool) (e : PEffect) (c : List Int) : Prop where
  bits : ∀ k, k < 5 → (bt e k = true ↔ (k = 4 ∧ tr = true) ∨ ∃ x, P x ∧ bt (insE x) k = true)
  calls : ∀ y, y ∈ c ↔ ∃ x, P x ∧ x.op = 17 ∧ x.fn = y
theorem OwnP.iff {P Q : PInstr → Prop} {tr : Bool} {e : PEffect} {c : List Int} (h : OwnP P tr e c) (hq : ∀ x, P x ↔ Q x) : OwnP Q tr e c :=
  ⟨fun k hk => by rw [h.bits k hk]; simp only [hq], fun y => by rw [h.calls y]; simp only [hq]⟩
theorem OwnP.add {P : PInstr → Prop} {tr : Bool} {e : PEffect} {c : List Int} (h : OwnP P tr e c) (x : PInstr) {e' : PEffect} (he : ∀ k, k < 5 → bt e' k = (bt e k || bt (insE x) k)) {c' : List Int}
    (hc : c' = if x.op = 17 then c ++ [x.fn] else c) : OwnP (fun y => P y ∨ y = x) tr e' c' := by
  refine ⟨fun k hk => ?_, fun y => ?_⟩
  · rw [he k hk, Bool.or_eq_true, h.bits k hk]
    constructor
    · rintro ((h1 | ⟨y, h1, h2⟩) | h1)
      · exact .inl h1
      · exact .inr ⟨y, .inl h1, h2⟩
      · exact .inr ⟨x, .inr rfl, h1⟩
    · rintro (h1 | ⟨y, h1 | rfl, h2⟩)
      · exact .inl (.inl h1)
      · exact .inl (.inr ⟨y, h1, h2⟩)
      · exact .inr h2
  · subst hc
    constructor
    · intro hy
      split at hy
      · rename_i ho
        rcases List.mem_append.1 hy with h1 | h1
        · obtain ⟨z, a, b, d⟩ := (h.calls y).1 h1
          exact ⟨z, .inl a, b, d⟩
        · exact ⟨x, .inr rfl, ho, (List.mem_singleton.1 h1).symm⟩
      · obtain ⟨z, a, b, d⟩ := (h.calls y).1 hy
        exact ⟨z, .inl a, b, d⟩
    · rintro ⟨z, a | rfl, b, d⟩
      · have := (h.calls y).2 ⟨z, a, b, d⟩
        split
        · exact List.mem_append.2 (.inl this)
        · exact this
      · rw [if_pos b]
        exact List.mem_append.2 (.inr (List.mem_singleton.2 d.symm))
abbrev tpE (s : Bool × Bool × Bool × Bool × Bool × List Int) : PEffect := ⟨s.1, s.2.1, s.2.2.1, s.2.2.2.1, s.2.2.2.2.1⟩
theorem ownB (B : PBlock) (hB : B.ins.length ≤ 300) (P : PInstr → Prop) (tr : Bool) (e : PEffect) (c : List Int) (hc : c.length ≤ 300 * 70) (h : OwnP P tr e c) :
    ∃ z, whl (fun (s : (Bool × Bool × Bool × Bool × Bool × List Int × Int)) => effect_own.bd33 B s.1 s.2.1 s.2.2.1 s.2.2.2.1 s.2.2.2.2.1 s.2.2.2.2.2.1 s.2.2.2.2.2.2) FUEL (e.reads, e.writes, e.outs, e.traps, e.turns, c, 0) = some z ∧
      (OwnP (fun y => P y ∨ y ∈ B.ins) tr (tpE z) z.2.2.2.2.2 ∧ z.2.2.2.2.2.length ≤ c.length + B.ins.length) := by
  have hm := le_max hB (by omega)
  refine whl_for (σ := Bool × Bool × Bool × Bool × Bool × List Int × Int) (s0 := (e.reads, e.writes, e.outs, e.traps, e.turns, c, 0)) B.ins.length (fun i s => s.2.2.2.2.2.2 = (i : Int) ∧ OwnP (fun y => P y ∨ y ∈ B.ins.take i) tr ⟨s.1, s.2.1, s.2.2.1, s.2.2.2.1, s.2.2.2.2.1⟩ s.2.2.2.2.2.1 ∧ s.2.2.2.2.2.1.length ≤ c.length + i) (fun z => OwnP (fun y => P y ∨ y ∈ B.ins) tr (tpE z) z.2.2.2.2.2 ∧ z.2.2.2.2.2.length ≤ c.length + B.ins.length) hm ?_ ?_ ⟨rfl, h.iff fun x => by simp, by simp⟩
  · rintro i ⟨q0, q1, q2, q3, q4, d, k⟩ hi ⟨hk, hO, hl⟩
    dsimp only at hk hO hl
    subst hk
    obtain ⟨e', he1, he2⟩ := joined_eq ⟨q0, q1, q2, q3, q4⟩ (insE B.ins[i])
    have hcat := cat_ok (a := d) (b := [(B.ins[i]).fn]) (by simp only [LIM, List.length_singleton]; omega)
    have hO2 := hO.add B.ins[i] he2 rfl
    have hP : ∀ y, ((P y ∨ y ∈ B.ins.take i) ∨ y = B.ins[i]) ↔ (P y ∨ y ∈ B.ins.take (i + 1)) := fun y => by
      rw [List.take_succ_eq_append_getElem hi, List.mem_append, List.mem_singleton, or_assoc]
    refine .inr ⟨(e'.reads, e'.writes, e'.outs, e'.traps, e'.turns, (if (B.ins[i]).op = 17 then d ++ [(B.ins[i]).fn] else d), ((i + 1 : Nat) : Int)), ?_, rfl, hO2.iff hP, ?_⟩
    · simp only [effect_own.bd33, len_lt, hi, if_true, idx_lt hi, Option.bind_some, instr_eq, he1, effect_own.jn48, effect_own.jn43, hcat, w64_at hi hm]
      split <;> rfl
    · dsimp only
      split
      · simp only [List.length_append, List.length_singleton]; omega
      · omega
  · rintro ⟨q0, q1, q2, q3, q4, d, k⟩ ⟨hk, hO, hl⟩
    dsimp only at hk hO hl
    subst hk
    refine ⟨(q0, q1, q2, q3, q4, d), by simp [effect_own.bd33, len], ?_, hl⟩
    rw [List.take_length] at hO
    exact hO
structure OwnOk (f : PFunc) (e : PEffect) (c : List Int) : Prop where
  own : effect_own f = some (e, c)
  len : c.length ≤ 300 * 70
  what : ∃ s tr, graph_Reached f = some s ∧ effect_turns f = some tr ∧ s.length = f.blocks.length ∧ OwnP (RI f s f.blocks.length) tr e c
theorem order_in (f : PFunc) (hf : SmF f) : ∃ s o, Walked f s o ∧ o.Nodup ∧ (∀ x, x ∈ o → ok f.blocks.length x) := by
  obtain ⟨s, o, hW, h0, h1⟩ := walked_any f hf
  refine ⟨s, o, hW, ?_⟩
  rcases Nat.eq_zero_or_pos f.blocks.length with hz | hp
  · obtain ⟨_, rfl⟩ := h0 hz
    exact ⟨List.nodup_nil, by simp⟩
  · obtain ⟨hV, _, _⟩ := h1 hp
    obtain ⟨new, h2, h3, h4⟩ := hV.app
    simp only [List.nil_append] at h2
    subst h2
    refine ⟨h3, fun x hx => ?_⟩
    obtain ⟨v, rfl, hv, _⟩ := (h4 x).1 hx
    have := (List.getElem?_eq_some_iff.1 hv).1
    rw [hW.len] at this
    exact ⟨by omega, by omega⟩
theorem own_ok (f : PFunc) (hf : SmF f) : ∃ e c, OwnOk f e c := by
  obtain ⟨s, o, hW, hnd, hin⟩ := order_in f hf
  obtain ⟨tr, htr, _⟩ := turns_eq f hf o.reverse hW.ord (by simpa using hW.few) ((List.reverse_perm o).nodup_iff.2 hnd) (fun x hx => hin x (List.mem_reverse.1 hx))
  have hn : f.blocks.length ≤ 70 := hf.1
  have hsl := hW.len
  have hm : s.length ≤ maxLen := le_max (by omega : s.length ≤ 70) (by omega)
  have H : ∃ z, whl (fun (s' : (Bool × Bool × Bool × Bool × Bool × List Int × Int)) => effect_own.bd12 f s s'.1 s'.2.1 s'.2.2.1 s'.2.2.2.1 s'.2.2.2.2.1 s'.2.2.2.2.2.1 s'.2.2.2.2.2.2) FUEL (false, false, false, false, tr, ([] : List Int), 0) = some z ∧
      (OwnP (RI f s s.length) tr (tpE z) z.2.2.2.2.2 ∧ z.2.2.2.2.2.length ≤ 300 * s.length) := by
    refine whl_for (σ := Bool × Bool × Bool × Bool × Bool × List Int × Int) (s0 := (false, false, false, false, tr, ([] : List Int), 0)) s.length (fun i s' => s'.2.2.2.2.2.2 = (i : Int) ∧ OwnP (RI f s i) tr ⟨s'.1, s'.2.1, s'.2.2.1, s'.2.2.2.1, s'.2.2.2.2.1⟩ s'.2.2.2.2.2.1 ∧ s'.2.2.2.2.2.1.length ≤ 300 * i) (fun z => OwnP (RI f s s.length) tr (tpE z) z.2.2.2.2.2 ∧ z.2.2.2.2.2.length ≤ 300 * s.length) hm ?_ ?_ ⟨rfl, ⟨fun k hk => ?_, fun y => ?_⟩, by simp⟩
    · rintro i ⟨q0, q1, q2, q3, q4, d, k⟩ hi ⟨hk, hO, hl⟩
      dsimp only at hk hO hl
      subst hk
      have hib : i < f.blocks.length := by omega
      have hnext : ∀ y, RI f s (i + 1) y ↔ RI f s i y ∨ (s[i]? = some true ∧ y ∈ (f.blocks[i]).ins) := by
        intro y
        constructor
        · rintro ⟨j, B, hj, h1, h2, h3⟩
          rcases Nat.lt_or_ge j i with h | h
          · exact .inl ⟨j, B, h, h1, h2, h3⟩
          · have : j = i := by omega
            subst this
            rw [List.getElem?_eq_getElem hib] at h2
            cases h2
            exact .inr ⟨h1, h3⟩
        · rintro (⟨j, B, hj, h⟩ | ⟨h1, h2⟩)
          · exact ⟨j, B, by omega, h⟩
          · exact ⟨i, _, by omega, h1, List.getElem?_eq_getElem hib, h2⟩
      cases hsi : s[i] with
      | false =>
        have hno : ¬ s[i]? = some true := by rw [List.getElem?_eq_getElem hi, hsi]; simp
        refine .inr ⟨(q0, q1, q2, q3, q4, d, ((i + 1 : Nat) : Int)), ?_, rfl, hO.iff fun y => ?_, by dsimp only; omega⟩
        · simp only [effect_own.bd12, len_lt, hi, if_true, idx_lt hi, Option.bind_some, hsi, Bool.not_false, effect_own.jn22, w64_at hi hm]
        · rw [hnext]; simp [hno]
      | true =>
        have hyes : s[i]? = some true := by rw [List.getElem?_eq_getElem hi, hsi]
        have hB := (hf.2.2.2 _ (List.getElem_mem hib)).1
        obtain ⟨z, hz1, hz2, hz3⟩ := ownB f.blocks[i] hB (RI f s i) tr ⟨q0, q1, q2, q3, q4⟩ d (by omega) hO
        obtain ⟨z0, z1, z2, z3, z4, z5⟩ := z
        refine .inr ⟨(z0, z1, z2, z3, z4, z5, ((i + 1 : Nat) : Int)), ?_, rfl, hz2.iff fun y => ?_, ?_⟩
        · dsimp only at hz1
          simp only [effect_own.bd12, len_lt, hi, if_true, idx_lt hi, Option.bind_some, hsi, Bool.not_true, Bool.false_eq_true, if_false, idx_lt hib, hz1, effect_own.nx33, effect_own.jn22, w64_at hi hm]
        · rw [hnext]; simp [hyes]
        · dsimp only at hz3 ⊢; omega
    · rintro ⟨q0, q1, q2, q3, q4, d, k⟩ ⟨hk, hO, hl⟩
      dsimp only at hk hO hl
      subst hk
      exact ⟨(q0, q1, q2, q3, q4, d), by simp [effect_own.bd12, len], hO, hl⟩
    · have hno : ¬ ∃ x, RI f s 0 x ∧ bt (insE x) k = true := by rintro ⟨x, ⟨j, _, hj, _⟩, _⟩; omega
      constructor
      · intro hb
        rcases lt5 hk with rfl | rfl | rfl | rfl | rfl
        · simp [bt] at hb
        · simp [bt] at hb
        · simp [bt] at hb
        · simp [bt] at hb
        · exact .inl ⟨rfl, hb⟩
      · rintro (⟨rfl, hb⟩ | hb)
        · exact hb
        · exact absurd hb hno
    · constructor
      · simp
      · rintro ⟨x, ⟨j, _, hj, _⟩, _⟩; omega
  obtain ⟨z, hz1, hz2, hz3⟩ := H
  refine ⟨tpE z, z.2.2.2.2.2, ?_, by omega, s, tr, hW.rea, htr, hsl, by rw [← hsl]; exact hz2⟩
  simp only [effect_own, htr, hW.rea, Option.bind_some, hz1, effect_own.nx12]
end Go.Proofs.YtpomfbdbkejedaaGreatDoor
set_option linter.unusedVariables false
set_option linter.unusedSimpArgs false
namespace Go.Proofs.YtpomfbdbkejedaaGreatDoor
open Go Go.Proofs

def eg (l : List PEffect) (x : Int) : PEffect := l.getD x.toNat PEffect.zero
theorem idx_eg {l : List PEffect} {x : Int} (h : ok l.length x) : idx l x = some (eg l x) := by
  obtain ⟨h0, h1⟩ := h
  have hx : x.toNat < l.length := by omega
  unfold idx eg
  rw [if_pos h0, List.getD_eq_getElem?_getD, List.getElem?_eq_getElem hx]; rfl
theorem eg_set {l : List PEffect} {v x : Int} {k : PEffect} (hv : ok l.length v) (hx : ok l.length x) : eg (l.set v.toNat k) x = if x = v then k else eg l x := by
  obtain ⟨h0, h1⟩ := hv
  obtain ⟨h2, h3⟩ := hx
  unfold eg
  simp only [List.getD_eq_getElem?_getD, List.getElem?_set]
  by_cases h : x = v
  · subst h
    rw [if_pos rfl, if_pos (by omega), if_pos rfl]; rfl
  · rw [if_neg (by omega), if_neg h]
theorem ok_nat {N i : Nat} (h : i < N) : ok N (i : Int) := ⟨by omega, by omega⟩
theorem ok_get {N : Nat} {x : Int} (h : ok N x) : ∃ i : Nat, x = (i : Int) ∧ i < N := ⟨x.toNat, by have := h.1; omega, by have := h.1; have := h.2; omega⟩
theorem cs_set {l : List (List Int)} {v x : Int} {k : List Int} (hv : ok l.length v) (hx : ok l.length x) : cs (l.set v.toNat k) x = if x = v then k else cs l x := by
  obtain ⟨h0, h1⟩ := hv
  obtain ⟨h2, h3⟩ := hx
  unfold cs
  simp only [List.getD_eq_getElem?_getD, List.getElem?_set]
  by_cases h : x = v
  · subst h
    rw [if_pos rfl, if_pos (by omega), if_pos rfl]; rfl
  · rw [if_neg (by omega), if_neg h]

structure Owns (m : PModule) (n : Nat) (O : List PEffect) (D : List (List Int)) : Prop where
  l1 : O.length = m.funcs.length
  l2 : D.length = m.funcs.length
  own : ∀ (i : Nat) (h : i < m.funcs.length), i < n → OwnOk m.funcs[i] (eg O (i : Int)) (cs D (i : Int))
theorem owns_ok (m : PModule) (hm : SmM m) : ∃ z, whl (fun (s : (List PEffect × List (List Int) × Int)) => effect_Effects.bd19 m s.1 s.2.1 s.2.2) FUEL (List.replicate m.funcs.length PEffect.zero, List.replicate m.funcs.length ([] : List Int), 0) = some z ∧ Owns m m.funcs.length z.1 z.2 := by
  have hN : m.funcs.length ≤ maxLen := le_max (by have := hm.1; omega : m.funcs.length ≤ 70) (by omega)
  refine whl_for (σ := List PEffect × List (List Int) × Int) (s0 := (List.replicate m.funcs.length PEffect.zero, List.replicate m.funcs.length ([] : List Int), 0)) m.funcs.length (fun i s => s.2.2 = (i : Int) ∧ Owns m i s.1 s.2.1) (fun (z : List PEffect × List (List Int)) => Owns m m.funcs.length z.1 z.2) hN ?_ ?_ ⟨rfl, by simp, by simp, fun i h hi => by omega⟩
  · rintro i ⟨O, D, k⟩ hi ⟨hk, hO⟩
    dsimp only at hk hO
    subst hk
    obtain ⟨e, c, hec⟩ := own_ok _ (hm.2 _ (List.getElem_mem hi))
    have o1 : ok O.length (i : Int) := by rw [hO.l1]; exact ok_nat hi
    have o2 : ok D.length (i : Int) := by rw [hO.l2]; exact ok_nat hi
    refine .inr ⟨(O.set (i : Int).toNat e, D.set (i : Int).toNat c, ((i + 1 : Nat) : Int)), ?_, rfl, by simpa using hO.l1, by simpa using hO.l2, fun j hj hji => ?_⟩
    · simp only [effect_Effects.bd19, len_lt, hi, if_true, idx_lt hi, Option.bind_some, hec.own, idx_eg o1, idx_cs o2, w64_at hi hN]
    · show OwnOk m.funcs[j] (eg (O.set (i : Int).toNat e) (j : Int)) (cs (D.set (i : Int).toNat c) (j : Int))
      rw [eg_set o1 (by rw [hO.l1]; exact ok_nat hj), cs_set o2 (by rw [hO.l2]; exact ok_nat hj)]
      by_cases h : j = i
      · subst h; simpa using hec
      · rw [if_neg (by omega), if_neg (by omega)]
        exact hO.own j hj (by omega)
  · rintro ⟨O, D, k⟩ ⟨hk, hO⟩
    dsimp only at hk hO
    subst hk
    exact ⟨(O, D), by simp [effect_Effects.bd19, len], hO⟩

/-- A ring that goes round. -/
def Cyc (C : List (List Int)) (r : List Int) : Prop := 1 < r.length ∨ nu r 0 ∈ cs C (nu r 0)
structure Trn (N : Nat) (O : List PEffect) (P : Int → Prop) (l : List PEffect) : Prop where
  len : l.length = N
  bits : ∀ x, ok N x → ∀ k, k < 5 → (bt (eg l x) k = true ↔ bt (eg O x) k = true ∨ (k = 4 ∧ P x))
theorem trn_row {N : Nat} (r : List Int) (hr : r.length ≤ 1000) (hin : ∀ x, x ∈ r → ok N x) {O l : List PEffect} {P : Int → Prop} (h : Trn N O P l) :
    ∃ z, whl (fun (s : (List PEffect × Int)) => effect_Effects.bd129 r s.1 s.2) FUEL (l, 0) = some z ∧ Trn N O (fun x => P x ∨ x ∈ r) z := by
  have hm := le_max hr (by omega)
  refine whl_for (σ := List PEffect × Int) (s0 := (l, 0)) r.length (fun i s => s.2 = (i : Int) ∧ Trn N O (fun x => P x ∨ x ∈ r.take i) s.1) (fun z => Trn N O (fun x => P x ∨ x ∈ r) z) hm ?_ ?_ ⟨rfl, h.len, fun x hx k hk => by rw [h.bits x hx k hk]; simp⟩
  · rintro i ⟨l, k⟩ hi ⟨hk, hT⟩
    dsimp only at hk hT
    subst hk
    have hx := hin _ (List.getElem_mem hi)
    have hx' : ok l.length r[i] := by rw [hT.len]; exact hx
    refine .inr ⟨(l.set (r[i]).toNat ⟨(eg l r[i]).reads, (eg l r[i]).writes, (eg l r[i]).outs, (eg l r[i]).traps, true⟩, ((i + 1 : Nat) : Int)), ?_, rfl, by simpa using hT.len, fun x hxo k hk => ?_⟩
    · simp only [effect_Effects.bd129, len_lt, hi, if_true, idx_lt hi, Option.bind_some, idx_eg hx', w64_at hi hm]
    · show bt (eg (l.set (r[i]).toNat _) x) k = true ↔ _
      rw [eg_set hx' (by rw [hT.len]; exact hxo), List.take_succ_eq_append_getElem hi]
      by_cases he : x = r[i]
      · subst he
        have := hT.bits _ hxo k hk
        rw [if_pos rfl]
        rcases lt5 hk with rfl | rfl | rfl | rfl | rfl
        · simp [bt] at this ⊢; exact this
        · simp [bt] at this ⊢; exact this
        · simp [bt] at this ⊢; exact this
        · simp [bt] at this ⊢; exact this
        · simp only [bt, true_iff]
          exact .inr ⟨trivial, .inr (List.mem_append.2 (.inr (List.mem_singleton.2 rfl)))⟩
      · rw [if_neg he, hT.bits x hxo k hk, List.mem_append, List.mem_singleton]
        simp [he]
  · rintro ⟨l, k⟩ ⟨hk, hT⟩
    dsimp only at hk hT
    subst hk
    rw [List.take_length] at hT
    exact ⟨l, by simp [effect_Effects.bd129, len], hT⟩
theorem Trn.iff {N : Nat} {O l : List PEffect} {P Q : Int → Prop} (h : Trn N O P l) (hq : ∀ x, P x ↔ Q x) : Trn N O Q l := ⟨h.len, fun x hx k hk => by rw [h.bits x hx k hk, hq]⟩
theorem trn_all {N : Nat} (hN : N ≤ 40) {C R : List (List Int)} (hC : C.length = N) (hCl : ∀ x, (cs C x).length ≤ 1000) (hR : R.length ≤ 40) (hr : ∀ r, r ∈ R → r ≠ [] ∧ r.length ≤ 1000 ∧ ∀ x, x ∈ r → ok N x) {O : List PEffect} (hO : O.length = N) :
    ∃ z, whl (fun (s : (List PEffect × Int)) => effect_Effects.bd30 C R s.1 s.2) FUEL (O, 0) = some z ∧ Trn N O (fun x => ∃ r, r ∈ R ∧ x ∈ r ∧ Cyc C r) z := by
  have hm := le_max hR (by omega)
  refine whl_for (σ := List PEffect × Int) (s0 := (O, 0)) R.length (fun i s => s.2 = (i : Int) ∧ Trn N O (fun x => ∃ r, r ∈ R.take i ∧ x ∈ r ∧ Cyc C r) s.1) (fun z => Trn N O (fun x => ∃ r, r ∈ R ∧ x ∈ r ∧ Cyc C r) z) hm ?_ ?_ ⟨rfl, hO, fun x hx k hk => by simp⟩
  · rintro i ⟨l, k⟩ hi ⟨hk, hT⟩
    dsimp only at hk hT
    subst hk
    obtain ⟨h1, h2, h3⟩ := hr _ (List.getElem_mem hi)
    have hp : 0 < (R[i]).length := List.length_pos_iff.2 h1
    have h0 : idx R[i] 0 = some (nu R[i] 0) := idx_nu ⟨by omega, by omega⟩
    have h0m : nu R[i] 0 ∈ R[i] := by
      have : nu R[i] 0 = (R[i])[0] := by simp [nu, List.getD_eq_getElem?_getD, hp]
      rw [this]; exact List.getElem_mem hp
    have h0o := h3 _ h0m
    have hc0 : idx C (nu R[i] 0) = some (cs C (nu R[i] 0)) := idx_cs (by rw [hC]; exact h0o)
    have hct := contains_dec (cs C (nu R[i] 0)) (nu R[i] 0) (hCl _)
    have hlen : (len R[i] > 1) ↔ 1 < (R[i]).length := by simp only [len]; omega
    have hnext : ∀ x, (∃ r, r ∈ R.take (i + 1) ∧ x ∈ r ∧ Cyc C r) ↔ ((∃ r, r ∈ R.take i ∧ x ∈ r ∧ Cyc C r) ∨ (x ∈ R[i] ∧ Cyc C R[i])) := by
      intro x
      rw [List.take_succ_eq_append_getElem hi]
      constructor
      · rintro ⟨r, a, b⟩
        rcases List.mem_append.1 a with a | a
        · exact .inl ⟨r, a, b⟩
        · rw [List.mem_singleton.1 a] at b; exact .inr b
      · rintro (⟨r, a, b⟩ | b)
        · exact ⟨r, List.mem_append.2 (.inl a), b⟩
        · exact ⟨_, List.mem_append.2 (.inr (List.mem_singleton.2 rfl)), b⟩
    by_cases hcy : Cyc C R[i]
    · obtain ⟨z, hz1, hz2⟩ := trn_row R[i] h2 h3 hT
      refine .inr ⟨(z, ((i + 1 : Nat) : Int)), ?_, rfl, hz2.iff fun x => by rw [hnext]; simp [hcy]⟩
      by_cases hb : 1 < (R[i]).length
      · simp only [effect_Effects.bd30, len_lt, hi, if_true, idx_lt hi, Option.bind_some, hlen, hb, hz1, effect_Effects.nx129, effect_Effects.jn114, w64_at hi hm]
      · have hmem : nu R[i] 0 ∈ cs C (nu R[i] 0) := hcy.resolve_left hb
        simp only [effect_Effects.bd30, len_lt, hi, if_true, idx_lt hi, Option.bind_some, hlen, hb, if_false, h0, hc0, hct, hmem, decide_true, hz1, effect_Effects.nx129, effect_Effects.jn114, w64_at hi hm]
    · refine .inr ⟨(l, ((i + 1 : Nat) : Int)), ?_, rfl, hT.iff fun x => by rw [hnext]; simp [hcy]⟩
      have hb : ¬ 1 < (R[i]).length := fun h => hcy (.inl h)
      have hmem : ¬ nu R[i] 0 ∈ cs C (nu R[i] 0) := fun h => hcy (.inr h)
      simp only [effect_Effects.bd30, len_lt, hi, if_true, idx_lt hi, Option.bind_some, hlen, hb, if_false, h0, hc0, hct, hmem, decide_false, Bool.false_eq_true, effect_Effects.jn114, w64_at hi hm]
  · rintro ⟨l, k⟩ ⟨hk, hT⟩
    dsimp only at hk hT
    subst hk
    rw [List.take_length] at hT
    exact ⟨l, by simp [effect_Effects.bd30, len], hT⟩

def nb (b : Bool) : Nat := cond b 0 1
def fal (e : PEffect) : Nat := nb e.reads + nb e.writes + nb e.outs + nb e.traps + nb e.turns
theorem nb_le {p q : Bool} (h : p = true → q = true) : nb q ≤ nb p ∧ (nb q = nb p → p = q) := by cases p <;> cases q <;> simp [nb] at h ⊢
theorem fal_le {a b : PEffect} (h : ∀ k, k < 5 → bt a k = true → bt b k = true) : fal b ≤ fal a ∧ (a ≠ b → fal b < fal a) := by
  have h0 := nb_le (h 0 (by omega))
  have h1 := nb_le (h 1 (by omega))
  have h2 := nb_le (h 2 (by omega))
  have h3 := nb_le (h 3 (by omega))
  have h4 := nb_le (h 4 (by omega))
  obtain ⟨a0, a1, a2, a3, a4⟩ := a
  obtain ⟨b0, b1, b2, b3, b4⟩ := b
  simp only [bt] at h0 h1 h2 h3 h4
  simp only [fal]
  refine ⟨by omega, fun hne => ?_⟩
  rcases Nat.lt_or_ge (nb b0 + nb b1 + nb b2 + nb b3 + nb b4) (nb a0 + nb a1 + nb a2 + nb a3 + nb a4) with h | h
  · exact h
  · exfalso; apply hne
    rw [h0.2 (by omega), h1.2 (by omega), h2.2 (by omega), h3.2 (by omega), h4.2 (by omega)]
def msr (l : List PEffect) : Nat := (l.map fal).sum
theorem msr_set : ∀ (l : List PEffect) (i : Nat) (a b : PEffect), l[i]? = some a → msr (l.set i b) + fal a = msr l + fal b
  | [], i, a, b, h => by simp at h
  | x :: xs, 0, a, b, h => by simp at h; subst h; simp [msr]; omega
  | x :: xs, i + 1, a, b, h => by
    have := msr_set xs i a b (by simpa using h)
    simp only [msr, List.set_cons_succ, List.map_cons, List.sum_cons] at this ⊢
    omega
theorem msr_le (l : List PEffect) : msr l ≤ 5 * l.length := by
  induction l with
  | nil => simp [msr]
  | cons x xs ih =>
    have : fal x ≤ 5 := by
      obtain ⟨a, b, c, d, e⟩ := x
      cases a <;> cases b <;> cases c <;> cases d <;> cases e <;> simp [fal, nb]
    simp only [msr, List.map_cons, List.sum_cons, List.length_cons] at ih ⊢
    omega
theorem eg_some {l : List PEffect} {i : Nat} (h : i < l.length) : l[i]? = some (eg l (i : Int)) := by
  simp [eg, List.getD_eq_getElem?_getD, h]
theorem set_eg {l : List PEffect} {i : Nat} (h : i < l.length) : l.set i (eg l (i : Int)) = l := by
  have : eg l (i : Int) = l[i] := by simp [eg, List.getD_eq_getElem?_getD, h]
  rw [this, List.set_getElem_self]

structure Snd (N : Nat) (D : List (List Int)) (O l : List PEffect) : Prop where
  len : l.length = N
  snd : ∀ x, ok N x → ∀ k, k < 5 → bt (eg l x) k = true → ∃ j, ok N j ∧ Rch D x j ∧ bt (eg O j) k = true
  abv : ∀ x, ok N x → ∀ k, k < 5 → bt (eg O x) k = true → bt (eg l x) k = true
/-- One function's row of calls, joined. -/
theorem row_join {N : Nat} (row : List Int) (hr : row.length ≤ 300 * 70) (hin : ∀ x, x ∈ row → ok N x) (l : List PEffect) (hl : l.length = N) (e : PEffect) :
    ∃ z, whl (fun (s : (Bool × Bool × Bool × Bool × Bool × Int)) => effect_Effects.bd71 l row s.1 s.2.1 s.2.2.1 s.2.2.2.1 s.2.2.2.2.1 s.2.2.2.2.2) FUEL (e.reads, e.writes, e.outs, e.traps, e.turns, 0) = some z ∧
      ∀ k, k < 5 → (bt ⟨z.1, z.2.1, z.2.2.1, z.2.2.2.1, z.2.2.2.2⟩ k = true ↔ bt e k = true ∨ ∃ c, c ∈ row ∧ bt (eg l c) k = true) := by
  have hm : row.length ≤ maxLen := by simp only [maxLen]; omega
  refine whl_for (σ := Bool × Bool × Bool × Bool × Bool × Int) (s0 := (e.reads, e.writes, e.outs, e.traps, e.turns, 0)) row.length (fun i s => s.2.2.2.2.2 = (i : Int) ∧ ∀ k, k < 5 → (bt ⟨s.1, s.2.1, s.2.2.1, s.2.2.2.1, s.2.2.2.2.1⟩ k = true ↔ bt e k = true ∨ ∃ c, c ∈ row.take i ∧ bt (eg l c) k = true)) (fun (z : Bool × Bool × Bool × Bool × Bool) => ∀ k, k < 5 → (bt ⟨z.1, z.2.1, z.2.2.1, z.2.2.2.1, z.2.2.2.2⟩ k = true ↔ bt e k = true ∨ ∃ c, c ∈ row ∧ bt (eg l c) k = true)) hm ?_ ?_ ⟨rfl, fun k hk => by simp⟩
  · rintro i ⟨q0, q1, q2, q3, q4, k⟩ hi ⟨hk, hT⟩
    dsimp only at hk hT
    subst hk
    have hx := hin _ (List.getElem_mem hi)
    obtain ⟨e', he1, he2⟩ := joined_eq ⟨q0, q1, q2, q3, q4⟩ (eg l row[i])
    refine .inr ⟨(e'.reads, e'.writes, e'.outs, e'.traps, e'.turns, ((i + 1 : Nat) : Int)), ?_, rfl, fun k hk => ?_⟩
    · simp only [effect_Effects.bd71, len_lt, hi, if_true, idx_lt hi, Option.bind_some, idx_eg (show ok l.length row[i] by rw [hl]; exact hx), he1, w64_at hi hm]
    · show bt e' k = true ↔ _
      rw [he2 k hk, Bool.or_eq_true, hT k hk, List.take_succ_eq_append_getElem hi]
      constructor
      · rintro ((h | ⟨c, h1, h2⟩) | h)
        · exact .inl h
        · exact .inr ⟨c, List.mem_append.2 (.inl h1), h2⟩
        · exact .inr ⟨_, List.mem_append.2 (.inr (List.mem_singleton.2 rfl)), h⟩
      · rintro (h | ⟨c, h1, h2⟩)
        · exact .inl (.inl h)
        · rcases List.mem_append.1 h1 with h1 | h1
          · exact .inl (.inr ⟨c, h1, h2⟩)
          · rw [List.mem_singleton.1 h1] at h2; exact .inr h2
  · rintro ⟨q0, q1, q2, q3, q4, k⟩ ⟨hk, hT⟩
    dsimp only at hk hT
    subst hk
    rw [List.take_length] at hT
    exact ⟨(q0, q1, q2, q3, q4), by simp [effect_Effects.bd71, len], hT⟩
def Clo (N : Nat) (D : List (List Int)) (n : Nat) (l : List PEffect) : Prop := ∀ j : Nat, j < n → ∀ c, c ∈ cs D (j : Int) → ∀ k, k < 5 → bt (eg l c) k = true → bt (eg l (j : Int)) k = true
structure Rnd (N : Nat) (D : List (List Int)) (O l0 : List PEffect) (n : Nat) (l : List PEffect) (a : Bool) : Prop where
  s : Snd N D O l
  no : a = false → l = l0 ∧ Clo N D n l0
  yes : a = true → msr l < msr l0
theorem round_ok {N : Nat} (hN : N ≤ 40) {D : List (List Int)} (hD : D.length = N) (hDl : ∀ x, ok N x → (cs D x).length ≤ 300 * 70) (hDo : ∀ x, ok N x → ∀ c, c ∈ cs D x → ok N c) {O O' l0 : List PEffect} (hO' : O'.length = N) (h : Snd N D O l0) :
    ∃ z, whl (fun (s : (List PEffect × Bool × Int)) => effect_Effects.bd53 D O' s.1 s.2.1 s.2.2) FUEL (l0, false, 0) = some z ∧ Rnd N D O l0 N z.1 z.2 := by
  have hm : N ≤ maxLen := le_max (by omega : N ≤ 70) (by omega)
  have hlo : len O' = (N : Int) := by simp [len, hO']
  refine whl_for (σ := List PEffect × Bool × Int) (s0 := (l0, false, 0)) N (fun i s => s.2.2 = (i : Int) ∧ Rnd N D O l0 i s.1 s.2.1) (fun (z : List PEffect × Bool) => Rnd N D O l0 N z.1 z.2) hm ?_ ?_ ⟨rfl, h, fun _ => ⟨rfl, fun j hj => by omega⟩, fun h => by cases h⟩
  · rintro i ⟨l, a, k⟩ hi ⟨hk, hR⟩
    dsimp only at hk hR
    subst hk
    have hio := ok_nat hi
    have hl := hR.s.len
    have hil : i < l.length := by omega
    have o1 : ok l.length (i : Int) := by rw [hl]; exact hio
    obtain ⟨z, hz1, hz2⟩ := row_join (cs D (i : Int)) (hDl _ hio) (hDo _ hio) l hl (eg l (i : Int))
    obtain ⟨z0, z1, z2, z3, z4⟩ := z
    dsimp only at hz1 hz2
    have hb1 : (i : Int) < len O' := by rw [hlo]; omega
    have hset : (l.set (i : Int).toNat ⟨z0, z1, z2, z3, z4⟩) = l.set i ⟨z0, z1, z2, z3, z4⟩ := by simp
    have hsnd : Snd N D O (l.set i ⟨z0, z1, z2, z3, z4⟩) := by
      rw [← hset]
      refine ⟨by simpa using hl, fun x hx k hk hb => ?_, fun x hx k hk hb => ?_⟩
      · rw [eg_set o1 (by rw [hl]; exact hx)] at hb
        split at hb
        · rename_i he
          subst he
          rcases (hz2 k hk).1 hb with hb | ⟨c, hc, hb⟩
          · exact hR.s.snd _ hx k hk hb
          · obtain ⟨j, h1, h2, h3⟩ := hR.s.snd c (hDo _ hio c hc) k hk hb
            exact ⟨j, h1, .step hc h2, h3⟩
        · exact hR.s.snd _ hx k hk hb
      · have := hR.s.abv x hx k hk hb
        rw [eg_set o1 (by rw [hl]; exact hx)]
        split
        · rename_i he
          subst he
          exact (hz2 k hk).2 (.inl this)
        · exact this
    have hfal := fal_le (a := eg l (i : Int)) (b := ⟨z0, z1, z2, z3, z4⟩) (fun k hk hb => (hz2 k hk).2 (.inl hb))
    have hmsr := msr_set l i _ (⟨z0, z1, z2, z3, z4⟩ : PEffect) (eg_some hil)
    by_cases heq : (⟨z0, z1, z2, z3, z4⟩ : PEffect) = eg l (i : Int)
    · refine .inr ⟨(l.set (i : Int).toNat ⟨z0, z1, z2, z3, z4⟩, a, ((i + 1 : Nat) : Int)), ?_, rfl, by rw [hset]; exact hsnd, fun ha => ?_, fun ha => ?_⟩
      · cases a <;> simp only [effect_Effects.bd53, hb1, if_true, Option.bind_some, idx_eg o1, idx_cs (show ok D.length (i : Int) by rw [hD]; exact hio), hz1, effect_Effects.nx71, heq, not_true_eq_false, decide_false, Bool.false_eq_true, if_false, w64_at hi hm]
      · obtain ⟨e1, e2⟩ := hR.no ha
        have e3 : l.set i ⟨z0, z1, z2, z3, z4⟩ = l := by rw [heq]; exact set_eg hil
        refine ⟨?_, fun j hj c hc k hk hb => ?_⟩
        · show l.set (i : Int).toNat ⟨z0, z1, z2, z3, z4⟩ = l0
          rw [hset, e3, e1]
        · rcases Nat.lt_or_ge j i with hji | hji
          · exact e2 j hji c hc k hk hb
          · have : j = i := by omega
            subst this
            rw [← e1] at hb ⊢
            rw [← heq]
            exact (hz2 k hk).2 (.inr ⟨c, hc, hb⟩)
      · show msr (l.set (i : Int).toNat ⟨z0, z1, z2, z3, z4⟩) < msr l0
        rw [hset]
        have := hR.yes ha
        rw [heq] at hmsr ⊢
        omega
    · have hf := hfal.2 (fun h => heq h.symm)
      refine .inr ⟨(l.set (i : Int).toNat ⟨z0, z1, z2, z3, z4⟩, true, ((i + 1 : Nat) : Int)), ?_, rfl, by rw [hset]; exact hsnd, fun ha => (by cases ha), fun _ => ?_⟩
      · cases a <;> simp only [effect_Effects.bd53, hb1, if_true, Option.bind_some, idx_eg o1, idx_cs (show ok D.length (i : Int) by rw [hD]; exact hio), hz1, effect_Effects.nx71, heq, not_false_eq_true, decide_true, Bool.false_eq_true, if_false, w64_at hi hm]
      · show msr (l.set (i : Int).toNat ⟨z0, z1, z2, z3, z4⟩) < msr l0
        rw [hset]
        cases a with
        | true => have := hR.yes rfl; omega
        | false => have := (hR.no rfl).1; subst this; omega
  · rintro ⟨l, a, k⟩ ⟨hk, hR⟩
    dsimp only at hk hR
    subst hk
    exact ⟨(l, a), by simp [effect_Effects.bd53, hlo], hR⟩
theorem rounds_ok {N : Nat} (hN : N ≤ 40) {D : List (List Int)} (hD : D.length = N) (hDl : ∀ x, ok N x → (cs D x).length ≤ 300 * 70) (hDo : ∀ x, ok N x → ∀ c, c ∈ cs D x → ok N c) {O : List PEffect} (hO : O.length = N) :
    ∃ l, whl (fun (s : (List PEffect × Bool)) => effect_Effects.bd39 D s.1 s.2) FUEL (O, true) = some l ∧ (l.length = N ∧ ∀ x, ok N x → ∀ k, k < 5 → (bt (eg l x) k = true ↔ ∃ j, ok N j ∧ Rch D x j ∧ bt (eg O j) k = true)) := by
  refine whl_ex (σ := List PEffect × Bool) (fun s => Snd N D O s.1 ∧ (s.2 = false → Clo N D N s.1)) (fun s => 2 * msr s.1 + (if s.2 = true then 1 else 0)) (fun l => l.length = N ∧ ∀ x, ok N x → ∀ k, k < 5 → (bt (eg l x) k = true ↔ ∃ j, ok N j ∧ Rch D x j ∧ bt (eg O j) k = true)) ?_ FUEL (O, true) ⟨⟨hO, fun x hx k hk hb => ⟨x, hx, .refl x, hb⟩, fun x hx k hk hb => hb⟩, fun h => by cases h⟩ ?_
  · rintro ⟨l, a⟩ ⟨hS, hC⟩
    dsimp only at hS hC
    cases a with
    | false =>
      refine .inl ⟨l, by simp [effect_Effects.bd39], hS.len, fun x hx k hk => ⟨hS.snd x hx k hk, ?_⟩⟩
      rintro ⟨j, hj, hr, hb⟩
      have hc := hC rfl
      induction hr with
      | refl x => exact hS.abv x hx k hk hb
      | @step x c y hcs hr ih =>
        obtain ⟨i, rfl, hi⟩ := ok_get hx
        exact hc i hi c hcs k hk (ih (hDo _ hx c hcs) hj hb)
    | true =>
      obtain ⟨z, hz1, hz2⟩ := round_ok hN hD hDl hDo hS.len hS
      refine .inr ⟨(z.1, z.2), by simp only [effect_Effects.bd39, if_true, hz1, Option.bind_some, effect_Effects.nx53], ⟨hz2.s, fun h => ?_⟩, ?_⟩
      · have := hz2.no h
        rw [this.1]; exact this.2
      · show 2 * msr z.1 + (if z.2 = true then 1 else 0) < 2 * msr l + (if true = true then 1 else 0)
        cases hb : z.2 with
        | true => have := hz2.yes hb; simp only [if_true]; omega
        | false => have := (hz2.no hb).1; rw [this]; simp
  · have := msr_le O
    show 2 * msr O + 1 < FUEL
    have hF : (1000 : Nat) < FUEL := lt_FUEL (by simp [maxLen])
    omega

theorem RingsOk.cyc {N : Nat} {C R : List (List Int)} (h : RingsOk N C R) {x : Int} (hx : ok N x) : (∃ r, r ∈ R ∧ x ∈ r ∧ Cyc C r) ↔ ∃ d, d ∈ cs C x ∧ Rch C d x := by
  have nu0 : ∀ r : List Int, (hp : 0 < r.length) → nu r 0 = r[0] := fun r hp => by simp [nu, List.getD_eq_getElem?_getD, hp]
  have hnd : ∀ r, r ∈ R → r.Nodup := fun r hr => (h.srt r hr).imp (fun hab => by omega)
  constructor
  · rintro ⟨r, hr, hxr, hc⟩
    have hpos : 0 < r.length := List.length_pos_iff.2 (h.ne r hr)
    have key : ∀ y, y ∈ r → y ≠ x → ∃ d, d ∈ cs C x ∧ Rch C d x := by
      intro y hy hne
      have h1 := h.strong r hr x hxr y hy
      have h2 := h.strong r hr y hy x hxr
      cases h1 with
      | refl => exact absurd rfl hne
      | step hc h1 => exact ⟨_, hc, h1.trans h2⟩
    rcases hc with hc | hc
    · obtain ⟨i, hi, he⟩ := List.getElem_of_mem hxr
      have hj : ∃ j, ∃ hj : j < r.length, j ≠ i := by
        rcases Nat.eq_zero_or_pos i with h | h
        · exact ⟨1, by omega, by omega⟩
        · exact ⟨0, by omega, by omega⟩
      obtain ⟨j, hj, hne⟩ := hj
      refine key r[j] (List.getElem_mem hj) (fun hh => hne ?_)
      rw [← he] at hh
      exact (List.getElem_inj (hnd r hr)).1 hh
    · rw [nu0 r hpos] at hc
      by_cases he : r[0] = x
      · rw [he] at hc; exact ⟨x, hc, .refl x⟩
      · exact key _ (List.getElem_mem hpos) he
  · rintro ⟨d, hd, hr⟩
    obtain ⟨r, hrR, hxr⟩ := (h.all x).2 hx
    refine ⟨r, hrR, hxr, ?_⟩
    rcases Nat.lt_or_ge 1 r.length with h1 | h1
    · exact .inl h1
    · right
      obtain ⟨i, hi, he⟩ := List.getElem_of_mem hxr
      have hi0 : i = 0 := by omega
      subst hi0
      rw [nu0 r hi, he]
      have hone : ∀ y, y ∈ r → y = x := by
        intro y hy
        obtain ⟨j, hj, he'⟩ := List.getElem_of_mem hy
        have : j = 0 := by omega
        subst this
        rw [← he', he]
      obtain ⟨n, hn, hnr⟩ := List.getElem_of_mem hrR
      have hn' : R[n]? = some r := by rw [List.getElem?_eq_getElem hn, hnr]
      obtain ⟨j, q, hj, hq, hdq⟩ := h.closed n r hn' x hxr d hd
      have down : ∀ {y : Int}, Rch C d y → ∃ (i : Nat) (p : List Int), i ≤ j ∧ R[i]? = some p ∧ y ∈ p := by
        intro y hy
        exact hy.closed (P := fun y => ∃ (i : Nat) (p : List Int), i ≤ j ∧ R[i]? = some p ∧ y ∈ p) (fun a ⟨i, p, h1, h2, h3⟩ c hc => by
          obtain ⟨i', p', h4, h5, h6⟩ := h.closed i p h2 a h3 c hc
          exact ⟨i', p', by omega, h5, h6⟩) ⟨j, q, Nat.le_refl _, hq, hdq⟩
      obtain ⟨i, p, hi, hp, hxp⟩ := down hr
      have hin := h.one hp hn' hxp hxr
      subst hin
      have : j = i := by omega
      subst this
      rw [hq] at hn'
      cases hn'
      have := hone d hdq
      subst this
      exact hd

/-- What effect.Effects tells of a proper module. -/
structure EffOk (m : PModule) (l : List PEffect) (O : List PEffect) (D : List (List Int)) : Prop where
  len : l.length = m.funcs.length
  own : Owns m m.funcs.length O D
  inn : ∀ x, ok m.funcs.length x → ∀ c, c ∈ cs D x → ok m.funcs.length c
  bits : ∀ x, ok m.funcs.length x → ∀ k, k < 5 → (bt (eg l x) k = true ↔ ∃ j, ok m.funcs.length j ∧ Rch D x j ∧ (bt (eg O j) k = true ∨ (k = 4 ∧ ∃ d, d ∈ cs (callsL m) j ∧ Rch (callsL m) d j)))
theorem effects_ok (m : PModule) (hm : SmM m) : (∃ e, check_Module m = some e ∧ e ≠ GErr.no ∧ ¬ Proper m ∧ effect_Effects m = some ([], e)) ∨
    (Proper m ∧ check_Module m = some GErr.no ∧ ∃ l O D, effect_Effects m = some (l, GErr.no) ∧ EffOk m l O D) := by
  obtain ⟨e, he, hP⟩ := module_says m hm
  by_cases h0 : e = GErr.no
  · subst h0
    have hPr := hP.1 rfl
    refine .inr ⟨hPr, he, ?_⟩
    have hN : m.funcs.length ≤ 40 := hm.1
    obtain ⟨⟨O, D⟩, hw1, hOw⟩ := owns_ok m hm
    dsimp only at hOw
    obtain ⟨R, hf, hR⟩ := found_eq m hm
    have hri := rings_eq m hm hf hR
    have hmem : ∀ r, r ∈ rsort R ↔ r ∈ R := fun r => (rsort_perm R).mem_iff
    have hrl : ∀ r, r ∈ R → r ≠ [] ∧ r.length ≤ 1000 ∧ ∀ x, x ∈ r → ok m.funcs.length x := by
      intro r hr
      have hin : ∀ x, x ∈ r → ok m.funcs.length x := fun x hx => (hR.all x).1 ⟨r, hr, hx⟩
      refine ⟨hR.ne r hr, ?_, hin⟩
      have := sorted_le r 0 m.funcs.length (hR.srt r hr) hin (by omega)
      omega
    obtain ⟨O', hw2, hT⟩ := trn_all hN (calls_len m) (fun x => by have := cs_len hm x; omega) (R := rsort R) (by rw [(rsort_perm R).length_eq]; have := hR.len; omega) (fun r hr => hrl r ((hmem r).1 hr)) hOw.l1
    have hDl : ∀ x, ok m.funcs.length x → (cs D x).length ≤ 300 * 70 := fun x hx => by
      obtain ⟨i, rfl, hi⟩ := ok_get hx
      exact (hOw.own i hi hi).len
    have hDo : ∀ x, ok m.funcs.length x → ∀ c, c ∈ cs D x → ok m.funcs.length c := fun x hx c hc => by
      obtain ⟨i, rfl, hi⟩ := ok_get hx
      obtain ⟨s, tr, _, _, _, hO⟩ := (hOw.own i hi hi).what
      obtain ⟨y, ⟨j, B, _, _, hB, hy⟩, hop, rfl⟩ := (hO.calls c).1 hc
      have hBm : B ∈ m.funcs[i].blocks := List.mem_of_getElem? hB
      obtain ⟨n, t, hI⟩ := ((hPr.funcs _ (List.getElem_mem hi)).blocks B hBm).ins y hy
      have har := hI.ar
      unfold arF at har
      simp only [hop] at har
      simp at har
      obtain ⟨g, hg, _⟩ := har
      unfold idx at hg
      split at hg
      · have := (List.getElem?_eq_some_iff.1 hg).1
        exact ⟨by assumption, by omega⟩
      · cases hg
    obtain ⟨l, hw3, hl, hb⟩ := rounds_ok hN hOw.l2 hDl hDo hT.len
    refine ⟨l, O, D, ?_, hl, hOw, hDo, fun x hx k hk => ?_⟩
    · have e1 : mkl (len m.funcs) PEffect.zero = some (List.replicate m.funcs.length PEffect.zero) := mkl_rep _ (by omega)
      have e2 : mkl (len m.funcs) ([] : List Int) = some (List.replicate m.funcs.length ([] : List Int)) := mkl_rep _ (by omega)
      simp only [effect_Effects, he, Option.bind_some, not_true_eq_false, if_false, e1, e2, effect_Effects.jn9, calls_eq m hm, hw1, effect_Effects.nx19, hri, hw2, effect_Effects.nx30, hw3, effect_Effects.nx39]
    · rw [hb x hx k hk]
      constructor
      · rintro ⟨j, h1, h2, h3⟩
        refine ⟨j, h1, h2, ?_⟩
        rcases (hT.bits j h1 k hk).1 h3 with h4 | ⟨h4, r, h5, h6⟩
        · exact .inl h4
        · exact .inr ⟨h4, (hR.cyc h1).1 ⟨r, (hmem r).1 h5, h6⟩⟩
      · rintro ⟨j, h1, h2, h3⟩
        refine ⟨j, h1, h2, (hT.bits j h1 k hk).2 ?_⟩
        rcases h3 with h4 | ⟨h4, h5⟩
        · exact .inl h4
        · obtain ⟨r, h6, h7⟩ := (hR.cyc h1).2 h5
          exact .inr ⟨h4, r, (hmem r).2 h6, h7⟩
  · exact .inl ⟨e, he, h0, fun h => h0 (hP.2 h), by simp only [effect_Effects, he, Option.bind_some, h0, not_false_eq_true, if_true]⟩
end Go.Proofs.YtpomfbdbkejedaaGreatDoor
set_option linter.unusedVariables false
set_option linter.unusedSimpArgs false
namespace Go.Proofs.YtpomfbdbkejedaaGreatDoor
open Go Go.Proofs

theorem up_true : fettlelaw15_up = some true := by kernel_rfl
def qt (e : PEffect) : Bool := !(e.writes || e.outs || e.traps || e.turns)
theorem quiet1 (e : PEffect) : effect_Quiet e = some (qt e) := by
  obtain ⟨a, b, c, d, f⟩ := e
  cases b <;> cases c <;> cases d <;> cases f <;> rfl
theorem still1 (e : PEffect) : effect_Still e = some (qt e && !e.reads) := by
  unfold effect_Still
  rw [quiet1]
  cases qt e <;> cases e.reads <;> rfl
def isA (op : Int) : Bool := decide (2 ≤ op ∧ op ≤ 14)
theorem args1 (op : Int) : ∃ n, arith_Args op = some (n, isA op) := by
  by_cases h : 2 ≤ op ∧ op ≤ 14
  · have : op = 2 ∨ op = 3 ∨ op = 4 ∨ op = 5 ∨ op = 6 ∨ op = 7 ∨ op = 8 ∨ op = 9 ∨ op = 10 ∨ op = 11 ∨ op = 12 ∨ op = 13 ∨ op = 14 := by omega
    rcases this with rfl | rfl | rfl | rfl | rfl | rfl | rfl | rfl | rfl | rfl | rfl | rfl | rfl <;> exact ⟨_, rfl⟩
  · refine ⟨0, ?_⟩
    have e : isA op = false := by simp [isA]; omega
    rw [e]
    unfold arith_Args
    simp only [show ¬ op = 2 by omega, show ¬ op = 14 by omega, show ¬ op = 3 by omega, show ¬ op = 4 by omega, show ¬ op = 5 by omega, show ¬ op = 6 by omega, show ¬ op = 7 by omega, show ¬ op = 8 by omega, show ¬ op = 9 by omega, show ¬ op = 10 by omega, show ¬ op = 11 by omega, show ¬ op = 12 by omega, show ¬ op = 13 by omega, if_false, or_self]
    try (by_cases h3 : op ≥ 3 <;> by_cases h4 : op ≤ 13 <;> simp [h3, h4] <;> omega)
def plainB (op : Int) : Bool := decide (op = 1) || (isA op && !decide (op = 11))
def callB' (x : PInstr) (l : List PEffect) (p : PEffect → Bool) : Bool := match idx l x.fn with | some e => p e | none => false
theorem idx_none {α : Type} {l : List α} {i : Int} (h : ¬ (0 ≤ i ∧ i < (l.length : Int))) : idx l i = none := by
  unfold idx
  by_cases h0 : 0 ≤ i
  · rw [if_pos h0]; exact List.getElem?_eq_none (by omega)
  · rw [if_neg h0]
theorem idx_get {α : Type} {l : List α} {i : Int} (h : 0 ≤ i ∧ i < (l.length : Int)) : ∃ e, idx l i = some e := by
  unfold idx
  rw [if_pos h.1]
  exact ⟨l[i.toNat]'(by omega), List.getElem?_eq_getElem _⟩
def remB (x : PInstr) (l : List PEffect) (st : Bool) : Bool := plainB x.op || (decide (x.op = 17) && callB' x l fun e => qt e && !(st && e.reads))
end Go.Proofs.YtpomfbdbkejedaaGreatDoor
set_option linter.unusedVariables false
set_option linter.unusedSimpArgs false
namespace Go.Proofs.YtpomfbdbkejedaaGreatDoor
open Go Go.Proofs

theorem whl_fold {α σ : Type} (L : List α) (g : σ → α → σ) (s0 : σ) {body : σ × Int → Option (Ex σ (σ × Int))} (hl : L.length ≤ 1000)
    (h : ∀ k (hk : k < L.length) s, body (s, (k : Int)) = some (.go (g s L[k], ((k + 1 : Nat) : Int)))) (he : ∀ s, body (s, (L.length : Int)) = some (.ret s)) : whl body FUEL (s0, 0) = some (L.foldl g s0) := by
  have hrun := whl_run (body := body) (r := L.foldl g s0) L.length FUEL (fun k => ((L.take k).foldl g s0, (k : Int))) (fun k hk => by
    rw [h k hk, foldl_take g s0 L hk]) (by rw [he, List.take_length]) (lt_FUEL (le_max hl (by omega)))
  exact hrun
/-! ### The numbers of errors -/
def codeF : GErr → Int
  | .no => 0
  | .code c => if 1 ≤ c ∧ c ≤ 8 then c else -1
  | .spot _ _ => -1
theorem code_eq (e : GErr) : fettlelaw00_Code e = some (codeF e) := by
  unfold fettlelaw00_Code
  by_cases h0 : e = GErr.no
  · subst h0; rfl
  rw [if_neg h0]
  obtain ⟨r, hr, hR⟩ := whl_for (s0 := (1 : Int)) (body := fun (s : Int) => fettlelaw00_Code.bd11 e s) 8 (fun i s => s = (i : Int) + 1 ∧ ∀ j : Nat, j < i → e ≠ .code ((j : Int) + 1)) (fun r => (∃ j : Nat, j < 8 ∧ e = .code ((j : Int) + 1) ∧ r = .ret ((j : Int) + 1)) ∨ ((∀ j : Nat, j < 8 → e ≠ .code ((j : Int) + 1)) ∧ r = .go ())) (by simp only [maxLen]; omega)
    (fun i s hi hI => by
      obtain ⟨rfl, hI⟩ := hI
      simp only [fettlelaw00_Code.bd11]
      rw [if_pos (by omega)]
      by_cases hc : e = .code ((i : Int) + 1)
      · rw [if_pos hc]; exact .inl ⟨_, rfl, .inl ⟨i, hi, hc, rfl⟩⟩
      · rw [if_neg hc]
        refine .inr ⟨_, rfl, ?_, fun j hj => ?_⟩
        · rw [w64_id ⟨by omega, by omega⟩]; omega
        · rcases Nat.lt_succ_iff_lt_or_eq.1 hj with h1 | rfl
          · exact hI j h1
          · exact hc) (fun s hI => by
      obtain ⟨rfl, hI⟩ := hI
      exact ⟨_, by simp only [fettlelaw00_Code.bd11]; rw [if_neg (by omega)], .inr ⟨hI, rfl⟩⟩) ⟨by omega, fun j hj => by omega⟩
  rw [hr]
  rcases hR with ⟨j, hj, rfl, rfl⟩ | ⟨hall, rfl⟩
  · simp only [Option.bind_some, codeF]
    rw [if_pos (by omega)]
  · simp only [Option.bind_some, fettlelaw00_Code.nx11]
    cases e with
    | no => exact absurd rfl h0
    | spot a x => rfl
    | code c =>
      simp only [codeF]
      rw [if_neg]
      intro hc
      exact hall (c - 1).toNat (by omega) (by congr 1; omega)
def ofF : GErr → Int × Int
  | .spot a e => (codeF e, a)
  | e => (codeF e, -1)
theorem of_eq (e : GErr) : fettlelaw00_Of e = some (ofF e) := by
  cases e with
  | no => simp [fettlelaw00_Of, ofF, code_eq]
  | code c => simp [fettlelaw00_Of, ofF, code_eq]
  | spot a x => simp [fettlelaw00_Of, ofF, code_eq]
/-! ### What is handed in stays -/
end Go.Proofs.YtpomfbdbkejedaaGreatDoor
set_option linter.unusedVariables false
set_option linter.unusedSimpArgs false
namespace Go.Proofs.YtpomfbdbkejedaaGreatDoor
open Go Go.Proofs

/-- An error's number as an error. -/
def gErr (c : Int) : GErr := if c = 0 then .no else .code c
theorem gErr0 : gErr 0 = .no := rfl
theorem gErr_no {c : Int} : gErr c = .no ↔ c = 0 := by
  unfold gErr
  by_cases h : c = 0
  · simp [h]
  · rw [if_neg h]; simp [h]
open Classical in
/-- A register that isn't there comes ahead of a type that is amiss. -/
noncomputable def lv (p4 p3 : Prop) : Int := if p4 then 4 else if p3 then 3 else 0
theorem lv4 {p4 p3 : Prop} (h : p4) : lv p4 p3 = 4 := by unfold lv; rw [if_pos h]
theorem lv3 {p4 p3 : Prop} (h4 : ¬ p4) (h : p3) : lv p4 p3 = 3 := by unfold lv; rw [if_neg h4, if_pos h]
theorem lv0 {p4 p3 : Prop} (h4 : ¬ p4) (h : ¬ p3) : lv p4 p3 = 0 := by unfold lv; rw [if_neg h4, if_neg h]
theorem lv_congr {p4 p3 q4 q3 : Prop} (h4 : p4 ↔ q4) (h3 : ¬ q4 → (p3 ↔ q3)) : lv p4 p3 = lv q4 q3 := by
  by_cases h : q4
  · rw [lv4 h, lv4 (h4.2 h)]
  · have h' : ¬ p4 := fun k => h (h4.1 k)
    by_cases k : q3
    · rw [lv3 h k, lv3 h' ((h3 h).2 k)]
    · rw [lv0 h k, lv0 h' (fun j => k ((h3 h).1 j))]
theorem lv_range (p4 p3 : Prop) : lv p4 p3 = 0 ∨ lv p4 p3 = 3 ∨ lv p4 p3 = 4 := by
  unfold lv; split
  · simp
  · split <;> simp
theorem lv_zero {p4 p3 : Prop} : lv p4 p3 = 0 ↔ ¬ p4 ∧ ¬ p3 := by
  by_cases h : p4
  · rw [lv4 h]; simp [h]
  · by_cases k : p3
    · rw [lv3 h k]; simp [k]
    · rw [lv0 h k]; simp [h, k]
/-- The first that isn't 0. -/
def firstNZ (L : List Int) : Int := (L.find? (fun c => decide (c ≠ 0))).getD 0
theorem firstNZ_nil : firstNZ [] = 0 := rfl
theorem firstNZ_cons0 (L : List Int) : firstNZ (0 :: L) = firstNZ L := by simp [firstNZ]
theorem firstNZ_cons {c : Int} (L : List Int) (h : c ≠ 0) : firstNZ (c :: L) = c := by simp [firstNZ, h]
theorem firstNZ_app (L K : List Int) : firstNZ (L ++ K) = if firstNZ L = 0 then firstNZ K else firstNZ L := by
  induction L with
  | nil => simp [firstNZ_nil]
  | cons c L ih =>
    by_cases h : c = 0
    · subst h; rw [List.cons_append, firstNZ_cons0, firstNZ_cons0, ih]
    · rw [List.cons_append, firstNZ_cons _ h, firstNZ_cons _ h, if_neg h]
theorem firstNZ_mem (L : List Int) : firstNZ L = 0 ∨ firstNZ L ∈ L := by
  induction L with
  | nil => exact .inl rfl
  | cons c L ih =>
    by_cases h : c = 0
    · subst h; rw [firstNZ_cons0]; exact ih.imp id (List.mem_cons_of_mem _)
    · rw [firstNZ_cons _ h]; exact .inr List.mem_cons_self
theorem firstNZ_at {L : List Int} : ∀ {i : Nat} (hi : i < L.length), L[i] ≠ 0 → (∀ j (hj : j < L.length), j < i → L[j] = 0) → firstNZ L = L[i] := by
  induction L with
  | nil => intro i hi; simp at hi
  | cons c L ih =>
    intro i hi h1 h2
    cases i with
    | zero => exact firstNZ_cons _ h1
    | succ i =>
      have : c = 0 := h2 0 (by simp) (by omega)
      subst this
      rw [firstNZ_cons0, List.getElem_cons_succ]
      rw [List.getElem_cons_succ] at h1
      exact ih (by simpa using hi) h1 (fun j hj hji => by have := h2 (j + 1) (by simpa using hj) (by omega); rwa [List.getElem_cons_succ] at this)
theorem firstNZ_zero {L : List Int} : firstNZ L = 0 ↔ ∀ c ∈ L, c = 0 := by
  induction L with
  | nil => simp [firstNZ_nil]
  | cons c L ih =>
    by_cases h : c = 0
    · subst h; rw [firstNZ_cons0, ih]; simp
    · rw [firstNZ_cons _ h]; simp [h]
/-- A scan that tells the first number that isn't 0. -/
theorem scan_nz {ρ : Type} (L : List Int) (out : Int → ρ) (body : Int → Option (Ex (Ex ρ Unit) Int)) (hl : L.length ≤ maxLen)
    (h : ∀ i (hi : i < L.length), body (i : Int) = some (if L[i] = 0 then .go ((i + 1 : Nat) : Int) else .ret (.ret (out L[i])))) (he : body (L.length : Int) = some (.ret (.go ()))) :
    whl body FUEL 0 = some (if firstNZ L = 0 then .go () else .ret (out (firstNZ L))) := by
  rcases scan0 L (fun _ c => if c = 0 then none else some (out c)) body hl (fun i hi => by rw [h i hi]; split <;> rfl) he with ⟨i, hi, r, h1, h2, h3⟩ | ⟨h1, h2⟩
  · rw [h3]
    have hne : L[i] ≠ 0 := fun e => by rw [if_pos e] at h1; cases h1
    rw [if_neg hne] at h1
    have hf := firstNZ_at hi hne (fun j hj hji => Classical.byContradiction fun hc => by have := h2 j hj hji; rw [if_neg hc] at this; cases this)
    rw [hf, if_neg hne]
    cases h1; rfl
  · rw [h2]
    have hf : firstNZ L = 0 := firstNZ_zero.2 fun c hc => by
      obtain ⟨i, hi, rfl⟩ := List.getElem_of_mem hc
      exact Classical.byContradiction fun hc => by have := h1 i hi; rw [if_neg hc] at this; cases this
    rw [hf, if_pos rfl]

/-! ### The numbers -/
noncomputable def phiC (f : PFunc) (p : PPhi) : Int := lv (¬ hasR f p.dst ∨ ¬ ∀ a ∈ p.args, hasR f a) (¬ ∀ a ∈ p.args, idx f.regs a = idx f.regs p.dst)
noncomputable def insC (m : PModule) (f : PFunc) (x : PInstr) : Int := match arF m x with
  | none => if x.op = 17 then 4 else 6
  | some (n, t) => if (x.args.length : Int) ≠ n then 6 else lv ((¬ ∀ a ∈ x.args, hasR f a) ∨ (t ≠ 0 ∧ ¬ hasR f x.dst)) ((t = 0 ∧ x.dst ≠ -1) ∨ (x.op ≠ 1 ∧ x.imm ≠ 0) ∨ (x.op ≠ 17 ∧ x.fn ≠ 0) ∨ ¬ FitsOk m f x)
noncomputable def endC (f : PFunc) (t : PTerm) : Int := if t.kind = 1 ∨ (t.kind = 3 ∧ f.result = 0) then (if t.arg = -1 then 0 else 3) else lv (¬ hasR f t.arg) (¬ tyR f t.arg (if t.kind = 3 then f.result else 2))
noncomputable def blkC (m : PModule) (f : PFunc) (B : PBlock) : Int := firstNZ [firstNZ (B.phis.map (phiC f)), firstNZ (B.ins.map (insC m f)), endC f B.term]
open Classical in
noncomputable def funC (m : PModule) (f : PFunc) : Int :=
  if ¬ SmallOk f then 5 else if ¬ TypedOk f then 3 else if ¬ ∀ B ∈ f.blocks, EndsOk f B.term then 6 else
  if ¬ ∀ i (hi : i < f.blocks.length), ∀ p ∈ f.blocks[i].phis, p.args.length = (preds (nexts f) i).length then 6 else firstNZ (f.blocks.map (blkC m f))
theorem funC_5 {m : PModule} {f : PFunc} (h : ¬ SmallOk f) : funC m f = 5 := by unfold funC; rw [if_pos h]
theorem funC_3 {m : PModule} {f : PFunc} (h : SmallOk f) (h2 : ¬ TypedOk f) : funC m f = 3 := by unfold funC; rw [if_neg (fun k => k h), if_pos h2]
theorem funC_6 {m : PModule} {f : PFunc} (h : SmallOk f) (h2 : TypedOk f) (h3 : ¬ ∀ B ∈ f.blocks, EndsOk f B.term) : funC m f = 6 := by unfold funC; rw [if_neg (fun k => k h), if_neg (fun k => k h2), if_pos h3]
theorem funC_7 {m : PModule} {f : PFunc} (h : SmallOk f) (h2 : TypedOk f) (h3 : ∀ B ∈ f.blocks, EndsOk f B.term) (h4 : ¬ ∀ i (hi : i < f.blocks.length), ∀ p ∈ f.blocks[i].phis, p.args.length = (preds (nexts f) i).length) : funC m f = 6 := by
  unfold funC; rw [if_neg (fun k => k h), if_neg (fun k => k h2), if_neg (fun k => k h3), if_pos h4]
theorem funC_b {m : PModule} {f : PFunc} (h : SmallOk f) (h2 : TypedOk f) (h3 : ∀ B ∈ f.blocks, EndsOk f B.term) (h4 : ∀ i (hi : i < f.blocks.length), ∀ p ∈ f.blocks[i].phis, p.args.length = (preds (nexts f) i).length) : funC m f = firstNZ (f.blocks.map (blkC m f)) := by
  unfold funC; rw [if_neg (fun k => k h), if_neg (fun k => k h2), if_neg (fun k => k h3), if_neg (fun k => k h4)]
theorem phi_c (l : PLooker) (p : PPhi) (hl : p.args.length ≤ maxLen) : check_looker_phi l p = some (gErr (phiC l.f p)) := by
  unfold check_looker_phi phiC
  rw [has1]
  simp only [Option.bind_some]
  by_cases h1 : hasR l.f p.dst
  · rw [if_neg (by simp [h1]), has_eq l _ hl]
    simp only [Option.bind_some]
    by_cases h2 : ∀ a ∈ p.args, hasR l.f a
    · rw [decide_eq_true h2, if_neg (by simp)]
      obtain ⟨k, hk, hkl, hg⟩ := h1.get
      rw [hg]
      simp only [Option.bind_some]
      rw [are_eq l _ _ hl h2]
      simp only [Option.bind_some]
      by_cases h3 : ∀ r ∈ p.args, tyR l.f r l.f.regs[k]
      · rw [decide_eq_true h3, if_neg (by simp), lv0 (fun h => h.elim (fun h => h h1) (fun h => h h2)) (fun h => h fun a ha => h3 a ha)]; rfl
      · rw [decide_eq_false h3, if_pos (by simp), lv3 (fun h => h.elim (fun h => h h1) (fun h => h h2)) (fun h => h3 fun a ha => h a ha)]; rfl
    · rw [decide_eq_false h2, if_pos (by simp), lv4 (.inr h2)]; rfl
  · rw [if_pos (by simp [h1])]
    simp only [Option.bind_some, if_true]
    rw [lv4 (.inl h1)]; rfl
theorem arity_c (l : PLooker) (x : PInstr) : (∃ n t, arF l.m x = some (n, t) ∧ check_looker_arity l x = some (n, t, GErr.no)) ∨ (arF l.m x = none ∧ ∃ n t, check_looker_arity l x = some (n, t, GErr.code (if x.op = 17 then 4 else 6))) := by
  rcases arity_eq l x with h | ⟨h1, h2⟩
  · exact .inl h
  · refine .inr ⟨h1, 0, 0, ?_⟩
    unfold arF at h1
    unfold check_looker_arity arith_Args
    by_cases g1 : x.op = 2 ∨ x.op = 14
    · rw [if_pos g1] at h1; cases h1
    rw [if_neg g1] at h1 ⊢
    by_cases g2 : x.op ≥ 3 ∧ x.op ≤ 13
    · rw [if_pos g2] at h1; cases h1
    rw [if_neg g2] at h1 ⊢
    simp only [Option.bind_some, Bool.false_eq_true, if_false]
    by_cases g3 : x.op = 1
    · rw [if_pos g3] at h1; cases h1
    rw [if_neg g3] at h1 ⊢
    by_cases g4 : x.op = 15
    · rw [if_pos g4] at h1; cases h1
    rw [if_neg g4] at h1 ⊢
    by_cases g5 : x.op = 18
    · rw [if_pos g5] at h1; cases h1
    rw [if_neg g5] at h1 ⊢
    by_cases g6 : x.op = 16
    · rw [if_pos g6] at h1; cases h1
    rw [if_neg g6] at h1 ⊢
    by_cases g7 : x.op = 17
    · rw [if_pos g7] at h1
      rw [if_pos g7, if_pos g7, if_pos]
      by_cases g8 : x.fn < 0 ∨ x.fn ≥ len l.m.funcs
      · exact g8
      · simp only [not_or, len] at g8
        obtain ⟨k, hk⟩ : ∃ k : Nat, x.fn = k := ⟨x.fn.toNat, by omega⟩
        rw [hk, idx_lt (show k < l.m.funcs.length by omega)] at h1
        cases h1
    · rw [if_neg g7, if_neg g7]
theorem ins_c (l : PLooker) (x : PInstr) (hl : x.args.length ≤ 300) : check_looker_instr l x = some (gErr (insC l.m l.f x)) := by
  unfold check_looker_instr insC
  have hmx : x.args.length ≤ maxLen := le_max hl (by omega)
  rcases arity_c l x with ⟨n, t, ha, hc⟩ | ⟨ha, n, t, hc⟩
  · rw [hc, ha]
    simp only [Option.bind_some]
    rw [if_neg (by simp)]
    by_cases h1 : (x.args.length : Int) = n
    · rw [if_neg (by simp only [len]; omega), if_neg (show ¬ ((x.args.length : Int) ≠ n) by simpa using h1), has_eq l _ hmx]
      simp only [Option.bind_some]
      by_cases h2 : ∀ r ∈ x.args, hasR l.f r
      · rw [decide_eq_true h2, if_neg (by simp)]
        have hmid : (if ¬ (t = 0) then (check_looker_has l ([x.dst])).bind fun x31 => some (!x31) else some false) = some (decide (t ≠ 0 ∧ ¬ hasR l.f x.dst)) := by
          by_cases h3 : t = 0
          · rw [if_neg (by simpa using h3)]; simp [h3]
          · rw [if_pos h3, has1]; simp [h3]
        rw [hmid]
        simp only [Option.bind_some]
        by_cases h3 : t ≠ 0 ∧ ¬ hasR l.f x.dst
        · rw [decide_eq_true h3, if_pos rfl, lv4 (.inr h3)]; rfl
        · rw [decide_eq_false h3, if_neg (by simp)]
          have hn4 : ¬ ((¬ ∀ a ∈ x.args, hasR l.f a) ∨ (t ≠ 0 ∧ ¬ hasR l.f x.dst)) := fun h => h.elim (fun h => h h2) h3
          by_cases h4 : ((t = 0 ∧ ¬ x.dst = -1) ∨ (¬ x.op = 1 ∧ ¬ x.imm = 0)) ∨ (¬ x.op = 17 ∧ ¬ x.fn = 0)
          · rw [if_pos h4]
            simp only [Option.bind_some, if_true]
            rw [lv3 hn4 (by rcases h4 with (h4 | h4) | h4; (· exact .inl h4); (· exact .inr (.inl h4)); (· exact .inr (.inr (.inl h4))))]; rfl
          · rw [if_neg h4]
            obtain ⟨b, hb1, hb2⟩ := fits_eq l x n t hl ha h1 h2 (fun h => Classical.byContradiction fun hd => h3 ⟨h, hd⟩)
            rw [hb1]
            simp only [Option.bind_some]
            cases b with
            | true =>
              simp only [Bool.not_true, Bool.false_eq_true, if_false]
              rw [lv0 hn4 (by
                rintro (h | h | h | h)
                · exact h4 (.inl (.inl h))
                · exact h4 (.inl (.inr h))
                · exact h4 (.inr h)
                · exact h (hb2.1 rfl))]; rfl
            | false =>
              simp only [Bool.not_false, if_true]
              rw [lv3 hn4 (.inr (.inr (.inr fun h => by simpa using hb2.2 h)))]; rfl
      · rw [decide_eq_false h2]
        simp only [Bool.not_false, if_true, Option.bind_some]
        rw [lv4 (.inl h2)]; rfl
    · rw [if_pos (by simp only [len]; omega), if_pos (show (x.args.length : Int) ≠ n from h1)]; rfl
  · rw [hc, ha]
    simp only [Option.bind_some]
    rw [if_pos (by simp)]
    split <;> rfl
theorem end_c (l : PLooker) (t : PTerm) : check_looker_end l t = some (gErr (endC l.f t)) := by
  unfold check_looker_end endC
  by_cases h1 : t.kind = 1 ∨ (t.kind = 3 ∧ l.f.result = 0)
  · rw [if_pos h1, if_pos h1]
    by_cases h2 : t.arg = -1
    · rw [if_neg (by simpa using h2), if_pos h2]; rfl
    · rw [if_pos h2, if_neg h2]; rfl
  rw [if_neg h1, if_neg h1]
  have hj : (if t.kind = 3 then check_looker_end.jn15 l t l.f.result else check_looker_end.jn15 l t 2) = check_looker_end.jn15 l t (if t.kind = 3 then l.f.result else 2) := by split <;> rfl
  rw [hj]
  generalize (if t.kind = 3 then l.f.result else 2) = w
  unfold check_looker_end.jn15
  rw [has1]
  simp only [Option.bind_some]
  by_cases h2 : hasR l.f t.arg
  · rw [decide_eq_true h2, if_neg (by simp), are1 l _ _ h2]
    simp only [Option.bind_some]
    by_cases h3 : tyR l.f t.arg w
    · rw [decide_eq_true h3, if_neg (by simp), lv0 (by simpa using h2) (by simpa using h3)]; rfl
    · rw [decide_eq_false h3, if_pos (by simp), lv3 (by simpa using h2) h3]; rfl
  · rw [decide_eq_false h2, if_pos (by simp), lv4 h2]; rfl
theorem gErr_step {c : Int} {ρ σ : Type} (s : σ) (out : GErr → ρ) : (if ¬ gErr c = GErr.no then some (Ex.ret (Ex.ret (out (gErr c)) : Ex ρ Unit)) else some (Ex.go s) : Option (Ex (Ex ρ Unit) σ)) = some (if c = 0 then .go s else .ret (.ret (out (gErr c)))) := by
  by_cases h : c = 0
  · rw [if_pos h, if_neg (by simp [gErr_no, h])]
  · rw [if_neg h, if_pos (by simp [gErr_no, h])]
theorem blk_c (l : PLooker) (B : PBlock) (hB : SmB B) : check_looker_block l B = some (gErr (blkC l.m l.f B)) := by
  obtain ⟨b1, b2, b3, b4, b5⟩ := hB
  unfold check_looker_block blkC
  have h1 := scan_nz (B.phis.map (phiC l.f)) gErr (fun s => check_looker_block.bd8 l B s) (le_max (show (B.phis.map (phiC l.f)).length ≤ 300 by simpa using b2) (by omega)) (fun i hi => by
    have hi : i < B.phis.length := by simpa using hi
    simp only [check_looker_block.bd8, len_lt, hi, if_true, idx_lt hi, Option.bind_some, phi_c l B.phis[i] (le_max (b5 _ (List.getElem_mem hi)) (by omega)), w64_i hi (show B.phis.length ≤ 1000 by omega)]
    rw [gErr_step (out := fun x => x)]; simp) (by simp [check_looker_block.bd8, len])
  rw [h1]
  by_cases hz : firstNZ (B.phis.map (phiC l.f)) = 0
  · rw [if_pos hz, hz, firstNZ_cons0]
    simp only [Option.bind_some, check_looker_block.nx8]
    have h2 := scan_nz (B.ins.map (insC l.m l.f)) gErr (fun s => check_looker_block.bd17 l B s) (le_max (show (B.ins.map (insC l.m l.f)).length ≤ 300 by simpa using b1) (by omega)) (fun i hi => by
      have hi : i < B.ins.length := by simpa using hi
      simp only [check_looker_block.bd17, len_lt, hi, if_true, idx_lt hi, Option.bind_some, ins_c l B.ins[i] (b4 _ (List.getElem_mem hi)), w64_i hi (show B.ins.length ≤ 1000 by omega)]
      rw [gErr_step (out := fun x => x)]; simp) (by simp [check_looker_block.bd17, len])
    rw [h2]
    by_cases hy : firstNZ (B.ins.map (insC l.m l.f)) = 0
    · rw [if_pos hy, hy, firstNZ_cons0]
      simp only [Option.bind_some, check_looker_block.nx17, end_c]
      by_cases he : endC l.f B.term = 0
      · rw [he]; rfl
      · rw [firstNZ_cons _ he]
    · rw [if_neg hy, firstNZ_cons _ hy]; rfl
  · rw [if_neg hz, firstNZ_cons _ hz]; rfl
theorem func_c (m : PModule) (k : Nat) (hk : k < m.funcs.length) (hf : SmF m.funcs[k]) : check_Func m (k : Int) = some (gErr (funC m m.funcs[k])) := by
  obtain ⟨hn, hr, hp, hB⟩ := id hf
  unfold check_Func
  rw [if_neg (by simp only [len]; omega), idx_lt hk]
  simp only [Option.bind_some]
  generalize m.funcs[k] = f at *
  obtain ⟨b, hb1, hb2⟩ := small_eq f hf
  rw [hb1]
  simp only [Option.bind_some]
  cases b with
  | false => rw [funC_5 (fun h => by simpa using hb2.2 h)]; rfl
  | true =>
    have hS := hb2.1 rfl
    simp only [Bool.not_true, Bool.false_eq_true, if_false]
    obtain ⟨c, hc1, hc2⟩ := typed_eq f hf
    rw [hc1]
    simp only [Option.bind_some]
    cases c with
    | false => rw [funC_3 hS (fun h => by simpa using hc2.2 h)]; rfl
    | true =>
      have hTy := hc2.1 rfl
      simp only [Bool.not_true, Bool.false_eq_true, if_false]
      rcases scan_or f.blocks (le_max hn (by omega)) (fun (B : PBlock) => EndsOk f B.term) (fun e : GErr => e = .code 6) (fun s => check_Func.bd29 f s) (fun i hi => by
        obtain ⟨d, hd1, hd2⟩ := ends_eq f f.blocks[i].term (hB _ (List.getElem_mem hi)).2.2.1
        simp only [check_Func.bd29, len_lt, hi, if_true, idx_lt hi, Option.bind_some, hd1, w64_i hi (show f.blocks.length ≤ 1000 by omega)]
        cases d with
        | false => exact .inl ⟨_, by simp, rfl, fun h => by simpa using hd2.2 h⟩
        | true => exact .inr ⟨by simp, hd2.1 rfl⟩) (by simp [check_Func.bd29, len]) with ⟨e, hw, he, hnot⟩ | ⟨hw, hends⟩
      · rw [hw, he, funC_6 hS hTy hnot]; rfl
      rw [hw]
      simp only [Option.bind_some, check_Func.nx29, checkAhead_eq f hf]
      have hal : (aheads (nexts f)).length = f.blocks.length := by rw [aheads_length, nexts_length]
      rcases scan_ix (aheads (nexts f)).length (le_max (show (aheads (nexts f)).length ≤ 70 by omega) (by omega)) (fun i => ∀ hi : i < f.blocks.length, ∀ p ∈ f.blocks[i].phis, p.args.length = (preds (nexts f) i).length) (fun e : GErr => e = .code 6) (fun s => check_Func.bd40 f (aheads (nexts f)) s) (fun i hi => by
        have hi' : i < f.blocks.length := by omega
        have hg : idx (aheads (nexts f)) (i : Int) = some (preds (nexts f) i) := by rw [idx_nat]; exact aheads_get _ _ (by rw [nexts_length]; exact hi')
        obtain ⟨b1, b2, b3, b4, b5⟩ := hB _ (List.getElem_mem hi')
        simp only [check_Func.bd40, len_lt, hi, if_true, hg, idx_lt hi', Option.bind_some]
        rcases scan_or f.blocks[i].phis (le_max b2 (by omega)) (fun p => p.args.length = (preds (nexts f) i).length) (fun e : GErr => e = .code 6) (fun s => check_Func.bd78 (preds (nexts f) i) f.blocks[i] s) (fun j hj => by
          simp only [check_Func.bd78, len_lt, hj, if_true, idx_lt hj, Option.bind_some, w64_i hj (show f.blocks[i].phis.length ≤ 1000 by omega)]
          by_cases hc : f.blocks[i].phis[j].args.length = (preds (nexts f) i).length
          · exact .inr ⟨by rw [if_neg (by simp only [len]; omega)], hc⟩
          · exact .inl ⟨_, by rw [if_pos (by simp only [len]; omega)], rfl, hc⟩) (by simp [check_Func.bd78, len]) with ⟨e, hw2, he, hnot⟩ | ⟨hw2, hall⟩
        · rw [hw2]; exact .inl ⟨e, rfl, he, fun h => hnot (h hi')⟩
        · rw [hw2]; exact .inr ⟨by simp only [Option.bind_some, check_Func.nx78, w64_i hi (show (aheads (nexts f)).length ≤ 1000 by omega)], fun _ => hall⟩) (by simp [check_Func.bd40, len]) with ⟨e, hw2, he, hnot⟩ | ⟨hw2, hah⟩
      · rw [hw2, he, funC_7 hS hTy hends (fun h => hnot fun i _ hi => h i hi)]; rfl
      rw [hw2, funC_b hS hTy hends (fun i hi => hah i (by omega) hi)]
      simp only [Option.bind_some, check_Func.nx40]
      have h3 := scan_nz (f.blocks.map (blkC m f)) gErr (fun s => check_Func.bd49 m f s) (le_max (show (f.blocks.map (blkC m f)).length ≤ 70 by simpa using hn) (by omega)) (fun i hi => by
        have hi : i < f.blocks.length := by simpa using hi
        have he1 := blk_c (⟨m, f⟩ : PLooker) f.blocks[i] (hB _ (List.getElem_mem hi))
        have he1' : check_looker_block (⟨(⟨m.funcs⟩ : PModule), (⟨f.params, f.result, f.regs, f.blocks⟩ : PFunc)⟩ : PLooker) f.blocks[i] = some (gErr (blkC m f f.blocks[i])) := he1
        simp only [check_Func.bd49, len_lt, hi, if_true, idx_lt hi, Option.bind_some, he1', w64_i hi (show f.blocks.length ≤ 1000 by omega)]
        rw [gErr_step (out := fun x => x)]; simp) (by simp [check_Func.bd49, len])
      rw [h3]
      by_cases hz : firstNZ (f.blocks.map (blkC m f)) = 0
      · rw [if_pos hz, hz]; rfl
      · rw [if_neg hz]; rfl
theorem phiC_range (f : PFunc) (p : PPhi) : phiC f p = 0 ∨ (1 ≤ phiC f p ∧ phiC f p ≤ 8) := by have := lv_range (¬ hasR f p.dst ∨ ¬ ∀ a ∈ p.args, hasR f a) (¬ ∀ a ∈ p.args, idx f.regs a = idx f.regs p.dst); unfold phiC; omega
theorem insC_range (m : PModule) (f : PFunc) (x : PInstr) : insC m f x = 0 ∨ (1 ≤ insC m f x ∧ insC m f x ≤ 8) := by
  unfold insC
  split
  · split <;> omega
  · split
    · omega
    · rename_i n t _ _
      have := lv_range ((¬ ∀ a ∈ x.args, hasR f a) ∨ (t ≠ 0 ∧ ¬ hasR f x.dst)) ((t = 0 ∧ x.dst ≠ -1) ∨ (x.op ≠ 1 ∧ x.imm ≠ 0) ∨ (x.op ≠ 17 ∧ x.fn ≠ 0) ∨ ¬ FitsOk m f x)
      omega
theorem endC_range (f : PFunc) (t : PTerm) : endC f t = 0 ∨ (1 ≤ endC f t ∧ endC f t ≤ 8) := by
  unfold endC
  split
  · split <;> omega
  · have := lv_range (¬ hasR f t.arg) (¬ tyR f t.arg (if t.kind = 3 then f.result else 2)); omega
theorem firstNZ_range {L : List Int} (h : ∀ c ∈ L, c = 0 ∨ (1 ≤ c ∧ c ≤ 8)) : firstNZ L = 0 ∨ (1 ≤ firstNZ L ∧ firstNZ L ≤ 8) := by
  rcases firstNZ_mem L with h1 | h1
  · exact .inl h1
  · exact h _ h1
theorem blkC_range (m : PModule) (f : PFunc) (B : PBlock) : blkC m f B = 0 ∨ (1 ≤ blkC m f B ∧ blkC m f B ≤ 8) := firstNZ_range fun c hc => by
  simp only [List.mem_cons, List.not_mem_nil, or_false] at hc
  rcases hc with rfl | rfl | rfl
  · exact firstNZ_range fun c hc => by obtain ⟨p, _, rfl⟩ := List.mem_map.1 hc; exact phiC_range f p
  · exact firstNZ_range fun c hc => by obtain ⟨p, _, rfl⟩ := List.mem_map.1 hc; exact insC_range m f p
  · exact endC_range f _
theorem funC_range (m : PModule) (f : PFunc) : funC m f = 0 ∨ (1 ≤ funC m f ∧ funC m f ≤ 8) := by
  unfold funC
  split
  · omega
  split
  · omega
  split
  · omega
  split
  · omega
  exact firstNZ_range fun c hc => by obtain ⟨p, _, rfl⟩ := List.mem_map.1 hc; exact blkC_range m f p
end Go.Proofs.YtpomfbdbkejedaaGreatDoor
set_option linter.unusedVariables false
set_option linter.unusedSimpArgs false
namespace Go.Proofs.YtpomfbdbkejedaaGreatDoor
open Go Go.Proofs

theorem refAhead_in (f : PFunc) (b : Int) (i : Nat) (hi : i < f.blocks.length) (ht : f.blocks[i].term.to.length ≤ 70) :
    whl (fun (s : (Bool × Int)) => fettleref02_Ahead.bd26 f b (i : Int) s.1 s.2) FUEL (false, 0) = some (decide (b ∈ f.blocks[i].term.to)) := by
  have := whl_run (body := fun (s : (Bool × Int)) => fettleref02_Ahead.bd26 f b (i : Int) s.1 s.2) (r := decide (b ∈ f.blocks[i].term.to)) f.blocks[i].term.to.length FUEL
    (fun k => (decide (b ∈ f.blocks[i].term.to.take k), (k : Int))) (fun k hk => by
      simp only [fettleref02_Ahead.bd26, idx_lt hi, Option.bind_some, len_lt, hk, if_true, idx_lt hk, w64_i hk (show f.blocks[i].term.to.length ≤ 1000 by omega), List.take_succ_eq_append_getElem hk, List.mem_append, List.mem_singleton]
      by_cases h1 : b ∈ f.blocks[i].term.to.take k
      · simp [h1]
      · simp [h1, eq_comm (a := b)]) (by simp [fettleref02_Ahead.bd26, idx_lt hi, len]) (lt_FUEL (le_max ht (by omega)))
  simpa using this
theorem refAhead_eq (f : PFunc) (hf : SmF f) (b : Nat) (hb : b < f.blocks.length) : fettleref02_Ahead f (b : Int) = some (preds (nexts f) b) := by
  obtain ⟨hn, _, _, hB⟩ := hf
  unfold fettleref02_Ahead
  have hrun := whl_run (body := fun (s : (List Int × Int)) => fettleref02_Ahead.bd8 f (b : Int) s.1 s.2) (r := preds (nexts f) b) f.blocks.length FUEL
    (fun i => (((List.range i).filter fun j => decide ((b : Int) ∈ (nexts f).getD j [])).map (fun j : Nat => (j : Int)), (i : Int))) (fun i hi => by
      have hl : (((List.range i).filter fun j => decide ((b : Int) ∈ (nexts f).getD j [])).map (fun j : Nat => (j : Int))).length ≤ 1000 := by
        have h1 : ((List.range i).filter fun j => decide ((b : Int) ∈ (nexts f).getD j [])).length ≤ (List.range i).length := List.length_filter_le _ _
        simp only [List.length_range] at h1
        rw [List.length_map]; omega
      simp only [fettleref02_Ahead.bd8, len_lt, hi, if_true, refAhead_in f b i hi (hB _ (List.getElem_mem hi)).2.2.1, Option.bind_some, fettleref02_Ahead.nx26]
      have hmem : ((b : Int) ∈ f.blocks[i].term.to) ↔ (b : Int) ∈ (nexts f).getD i [] := by
        rw [List.getD_eq_getElem?_getD, nexts_get f i hi, Option.getD_some, mem_succs]
        constructor
        · intro h; exact ⟨h, by omega, by omega⟩
        · exact fun h => h.1
      rw [List.range_succ, List.filter_append, List.map_append]
      by_cases hc : (b : Int) ∈ (nexts f).getD i []
      · rw [if_pos (by simpa using hmem.2 hc), cat_one hl, List.filter_cons_of_pos (by simpa using hc)]
        simp only [Option.bind_some, fettleref02_Ahead.jn18, w64_i hi (show f.blocks.length ≤ 1000 by omega)]
        rfl
      · rw [if_neg (by simpa using fun h => hc (hmem.1 h)), List.filter_cons_of_neg (by simpa using hc)]
        simp only [fettleref02_Ahead.jn18, w64_i hi (show f.blocks.length ≤ 1000 by omega)]
        simp) (by
      simp only [fettleref02_Ahead.bd8, len_lt, Nat.lt_irrefl, if_false, preds, nexts_length]) (lt_FUEL (le_max hn (by omega)))
  simp only [List.range_zero, List.filter_nil, List.map_nil] at hrun
  have h00 : (([] : List Int), ((0 : Nat) : Int)) = (([] : List Int), (0 : Int)) := rfl
  rw [h00] at hrun
  rw [hrun]; rfl

/-! ### Registers, worst -/
noncomputable def isC (f : PFunc) (r t : Int) : Int := lv (¬ hasR f r) (t ≥ 0 ∧ ¬ tyR f r t)
theorem is_c (f : PFunc) (r t : Int) : fettleref02_is f r t = some (isC f r t) := by
  unfold fettleref02_is isC
  by_cases h : hasR f r
  · rw [if_neg (by have := h.1; have := h.2; simp only [len]; omega)]
    obtain ⟨k, hk, hkl, hg⟩ := h.get
    rw [hg]
    have hty : tyR f r t ↔ f.regs[k] = t := by unfold tyR; rw [hg]; simp
    by_cases h1 : t ≥ 0
    · rw [if_pos h1]
      simp only [Option.bind_some]
      by_cases h2 : f.regs[k] = t
      · rw [if_neg (by simp [h2]), lv0 (fun k => k h) (fun k => k.2 (hty.2 h2))]
      · rw [if_pos (by simp [h2]), lv3 (fun k => k h) ⟨h1, fun k => h2 (hty.1 k)⟩]
    · rw [if_neg h1]
      simp only [Option.bind_some, Bool.false_eq_true, if_false]
      rw [lv0 (fun k => k h) (fun k => h1 k.1)]
  · rw [if_pos (by simp only [len]; unfold hasR at h; omega), lv4 h]
def wst (a b : Int) : Int := if a = 4 ∨ b = 4 then 4 else if ¬ a = 0 then a else b
theorem worst_c (a b : Int) : fettleref02_worst a b = some (wst a b) := by
  unfold fettleref02_worst wst
  split
  · rfl
  · split <;> rfl
theorem wst_lv (a b c d : Prop) : wst (lv a b) (lv c d) = lv (a ∨ c) (b ∨ d) := by
  unfold wst
  by_cases h1 : a
  · rw [lv4 (p3 := b) h1, lv4 (p3 := b ∨ d) (Or.inl h1 : a ∨ c)]; simp
  by_cases h2 : c
  · rw [lv4 (p3 := d) h2, lv4 (p3 := b ∨ d) (Or.inr h2 : a ∨ c)]; simp
  have h12 : ¬ (a ∨ c) := fun h => h.elim h1 h2
  by_cases h3 : b
  · rw [lv3 h1 h3, lv3 h12 (Or.inl h3 : b ∨ d)]
    by_cases h4 : d
    · rw [lv3 h2 h4]; simp
    · rw [lv0 h2 h4]; simp
  by_cases h4 : d
  · rw [lv0 h1 h3, lv3 h2 h4, lv3 h12 (Or.inr h4 : b ∨ d)]; simp
  · rw [lv0 h1 h3, lv0 h2 h4, lv0 h12 (fun h => h.elim h3 h4)]; simp
theorem lv_three : (3 : Int) = lv False True := (lv3 (fun h => h) trivial).symm
theorem lv_null : (0 : Int) = lv False False := (lv0 (fun h => h) (fun h => h)).symm
theorem fold_wst (f : PFunc) : ∀ (L : List (Int × Int)) (a b : Prop), L.foldl (fun c p => wst c (isC f p.1 p.2)) (lv a b) = lv (a ∨ ¬ ∀ p ∈ L, hasR f p.1) (b ∨ ¬ ∀ p ∈ L, p.2 ≥ 0 → tyR f p.1 p.2)
  | [], a, b => by simp
  | p :: L, a, b => by
    have h := fold_wst f L (a ∨ ¬ hasR f p.1) (b ∨ (p.2 ≥ 0 ∧ ¬ tyR f p.1 p.2))
    have e : wst (lv a b) (isC f p.1 p.2) = lv (a ∨ ¬ hasR f p.1) (b ∨ (p.2 ≥ 0 ∧ ¬ tyR f p.1 p.2)) := by unfold isC; exact wst_lv _ _ _ _
    rw [List.foldl_cons, e, h]
    apply lv_congr
    · simp only [List.forall_mem_cons]
      constructor
      · rintro ((h | h) | h)
        · exact .inl h
        · exact .inr fun k => h k.1
        · exact .inr fun k => h k.2
      · rintro (h | h)
        · exact .inl (.inl h)
        · by_cases k : hasR f p.1
          · exact .inr fun j => h ⟨k, j⟩
          · exact .inl (.inr k)
    · intro _
      simp only [List.forall_mem_cons]
      constructor
      · rintro ((h | h) | h)
        · exact .inl h
        · exact .inr fun k => h.2 (k.1 h.1)
        · exact .inr fun k => h k.2
      · rintro (h | h)
        · exact .inl (.inl h)
        · by_cases k : p.2 ≥ 0 → tyR f p.1 p.2
          · exact .inr fun j => h ⟨k, j⟩
          · exact .inl (.inr (Classical.not_imp.1 k))
def TsOk (f : PFunc) (xs ts : List Int) : Prop := ∀ p ∈ xs.zip ts, p.2 ≥ 0 → tyR f p.1 p.2
theorem zip_all {xs ts : List Int} (h : xs.length = ts.length) (P : Int → Prop) : (∀ p ∈ xs.zip ts, P p.1) ↔ ∀ a ∈ xs, P a := by
  constructor
  · intro hp a ha
    obtain ⟨i, hi, rfl⟩ := List.getElem_of_mem ha
    have hi2 : i < (xs.zip ts).length := by simp; omega
    have := hp _ (List.getElem_mem hi2)
    simpa using this
  · intro ha p hp
    exact ha _ (List.of_mem_zip hp).1
theorem rargs_c (f : PFunc) (x : PInstr) (ts : List Int) (hl : x.args.length ≤ 300) (he : x.args.length = ts.length) :
    whl (fun (s : (Int × Int)) => fettleref02_Instr.bd22 f x ts s.1 s.2) FUEL (0, 0) = some (lv (¬ ∀ a ∈ x.args, hasR f a) (¬ TsOk f x.args ts)) := by
  have hz : (x.args.zip ts).length = x.args.length := by simp; omega
  have := whl_fold (x.args.zip ts) (fun c p => wst c (isC f p.1 p.2)) 0 (body := fun (s : (Int × Int)) => fettleref02_Instr.bd22 f x ts s.1 s.2) (by omega) (fun k hk c => by
    have h1 : k < x.args.length := by omega
    have h2 : k < ts.length := by omega
    simp only [fettleref02_Instr.bd22, len_lt, h2, if_true, idx_lt h1, idx_lt h2, Option.bind_some, is_c, worst_c, w64_i h1 (show x.args.length ≤ 1000 by omega), List.getElem_zip]) (fun s => by
    rw [hz]
    simp only [fettleref02_Instr.bd22, len]
    rw [if_neg (by omega)])
  rw [this, lv_null, fold_wst]
  congr 1
  apply lv_congr
  · rw [false_or, zip_all he]
  · intro _; rw [false_or]; rfl

/-! ### Instructions -/
theorem jn31_c (f : PFunc) (x : PInstr) (A B : Prop) (hA : x.op = 1 → ¬ A → hasR f x.dst) : fettleref02_Instr.jn31 f x (lv A B) = some (lv A (B ∨ (x.op = 1 ∧ tyR f x.dst 2 ∧ x.imm ≠ 0 ∧ x.imm ≠ 1))) := by
  unfold fettleref02_Instr.jn31
  by_cases h : x.op = 1 ∧ lv A B = 0
  · rw [if_pos h]
    obtain ⟨h1, h2⟩ := lv_zero.1 h.2
    obtain ⟨k, hk, hkl, hg⟩ := (hA h.1 h1).get
    have hty : tyR f x.dst 2 ↔ f.regs[k] = 2 := by unfold tyR; rw [hg]; simp
    rw [hg, h.2]
    simp only [Option.bind_some, fettleref02_Instr.jn35]
    by_cases h3 : f.regs[k] = 2 ∧ x.imm ≠ 0 ∧ x.imm ≠ 1
    · rw [if_pos (by simpa [and_assoc] using h3), lv3 h1 (.inr ⟨h.1, hty.2 h3.1, h3.2⟩)]
    · rw [if_neg (by simpa [and_assoc] using h3), lv0 h1 (fun k => k.elim h2 fun k => h3 ⟨hty.1 k.2.1, k.2.2⟩)]
  · rw [if_neg h]
    simp only [Option.bind_some, Bool.false_eq_true, false_and, if_false, fettleref02_Instr.jn35]
    congr 1
    apply lv_congr Iff.rfl
    intro hnA
    refine ⟨.inl, fun k => k.elim id fun k => Classical.byContradiction fun hB => h ⟨k.1, lv0 hnA hB⟩⟩
theorem jn27_c (f : PFunc) (x : PInstr) (odd : Bool) (A B : Prop) (hA : x.op = 1 → ¬ A → hasR f x.dst) :
    fettleref02_Instr.jn27 f x odd (lv A B) = some (lv A (B ∨ (x.op ≠ 1 ∧ x.imm ≠ 0) ∨ (x.op ≠ 17 ∧ x.fn ≠ 0) ∨ odd = true ∨ (x.op = 1 ∧ tyR f x.dst 2 ∧ x.imm ≠ 0 ∧ x.imm ≠ 1))) := by
  unfold fettleref02_Instr.jn27
  by_cases h : (((¬ x.op = 1) ∧ (¬ x.imm = 0)) ∨ ((¬ x.op = 17) ∧ (¬ x.fn = 0))) ∨ odd = true
  · rw [if_pos h, worst_c]
    simp only [Option.bind_some]
    rw [lv_three, wst_lv]
    have e : lv (A ∨ False) (B ∨ True) = lv A (B ∨ True) := lv_congr (or_false A).to_iff (fun _ => Iff.rfl)
    rw [e, jn31_c f x A (B ∨ True) hA]
    congr 1
    apply lv_congr Iff.rfl
    intro _
    refine ⟨fun _ => ?_, fun _ => .inl (.inr trivial)⟩
    rcases h with (h | h) | h
    · exact .inr (.inl h)
    · exact .inr (.inr (.inl h))
    · exact .inr (.inr (.inr (.inl h)))
  · rw [if_neg h, jn31_c f x A B hA]
    congr 1
    apply lv_congr Iff.rfl
    intro _
    refine ⟨fun k => k.elim .inl fun k => .inr (.inr (.inr (.inr k))), ?_⟩
    rintro (k | k | k | k | k)
    · exact .inl k
    · exact absurd (.inl (.inl k)) h
    · exact absurd (.inl (.inr k)) h
    · exact absurd (.inr k) h
    · exact .inr k
def Amiss3 (f : PFunc) (x : PInstr) (ts : List Int) (t : Int) (odd : Bool) : Prop :=
  ((¬ TsOk f x.args ts) ∨ (t = 0 ∧ x.dst ≠ -1) ∨ t < 0 ∨ (t > 0 ∧ ¬ tyR f x.dst t)) ∨ (x.op ≠ 1 ∧ x.imm ≠ 0) ∨ (x.op ≠ 17 ∧ x.fn ≠ 0) ∨ odd = true ∨ (x.op = 1 ∧ tyR f x.dst 2 ∧ x.imm ≠ 0 ∧ x.imm ≠ 1)
theorem jn6_c (f : PFunc) (x : PInstr) (ts : List Int) (t : Int) (odd : Bool) (hl : x.args.length ≤ 300) (ht : x.op = 1 → t ≠ 0) :
    fettleref02_Instr.jn6 f x ts t true odd = some (if x.args.length ≠ ts.length then 6 else lv ((¬ ∀ a ∈ x.args, hasR f a) ∨ (t ≠ 0 ∧ ¬ hasR f x.dst)) (Amiss3 f x ts t odd)) := by
  unfold fettleref02_Instr.jn6
  by_cases he : x.args.length = ts.length
  · rw [if_neg (by simp only [len]; simp; omega), if_neg (by simpa using he), rargs_c f x ts hl he]
    simp only [Option.bind_some]
    have hA : x.op = 1 → ¬ ((¬ ∀ a ∈ x.args, hasR f a) ∨ (t ≠ 0 ∧ ¬ hasR f x.dst)) → hasR f x.dst := fun h1 h2 => Classical.byContradiction fun h3 => h2 (.inr ⟨ht h1, h3⟩)
    have key : ∀ z, z = lv ((¬ ∀ a ∈ x.args, hasR f a) ∨ (t ≠ 0 ∧ ¬ hasR f x.dst)) ((¬ TsOk f x.args ts) ∨ (t = 0 ∧ x.dst ≠ -1) ∨ t < 0 ∨ (t > 0 ∧ ¬ tyR f x.dst t)) →
        fettleref02_Instr.jn27 f x odd z = some (lv ((¬ ∀ a ∈ x.args, hasR f a) ∨ (t ≠ 0 ∧ ¬ hasR f x.dst)) (Amiss3 f x ts t odd)) := fun z hz => by rw [hz]; exact jn27_c f x odd _ _ hA
    unfold fettleref02_Instr.nx22
    by_cases h0 : t = 0
    · rw [if_pos h0]
      by_cases hd : x.dst = -1
      · rw [if_neg (by simpa using hd)]
        refine key _ (lv_congr ?_ fun _ => ?_)
        · simp [h0]
        · simp [h0, hd]
      · rw [if_pos hd, worst_c]
        simp only [Option.bind_some]
        refine key _ ?_
        rw [lv_three, wst_lv]
        refine lv_congr ?_ fun _ => ?_
        · simp [h0]
        · simp [h0, hd]
    · rw [if_neg h0]
      by_cases hn : t < 0
      · rw [if_pos hn, is_c]
        simp only [Option.bind_some, worst_c]
        refine key _ ?_
        unfold isC
        rw [lv_three, wst_lv, wst_lv]
        refine lv_congr ?_ fun _ => ?_
        · simp [h0]
        · simp [h0, hn]
      · rw [if_neg hn, is_c]
        simp only [Option.bind_some, worst_c]
        refine key _ ?_
        unfold isC
        rw [wst_lv]
        have hp : t > 0 := by omega
        refine lv_congr ?_ fun _ => ?_
        · simp [h0]
        · have hg : t ≥ 0 := by omega
          simp [h0, hn, hp, hg]
  · rw [if_pos (by simp only [len]; right; omega), if_pos he]
theorem jn6_no (f : PFunc) (x : PInstr) (ts : List Int) (t : Int) (odd : Bool) : fettleref02_Instr.jn6 f x ts t false odd = some 6 := by
  unfold fettleref02_Instr.jn6
  rw [if_pos (by simp)]
def kindL (x : PInstr) (dt : Int) : List Int × Int × Bool :=
  if x.op = 1 then ([], dt, true) else if x.op = 2 then ([dt], dt, true) else if x.op = 12 ∨ x.op = 13 then ([1, 1], 2, true) else if x.op = 14 then ([2], 2, true) else if x.op = 15 then ([1], 1, true)
  else if x.op = 16 then ([1, 1], 0, true) else if x.op = 18 then ([1], 0, true) else if x.op ≥ 3 ∧ x.op ≤ 11 then ([1, 1], 1, true) else ([], 0, false)
theorem kinds4 (x : PInstr) (dt : Int) : fettleref02_kinds.jn4 x dt = some (kindL x dt) := by
  unfold fettleref02_kinds.jn4 kindL
  by_cases h1 : x.op = 1
  · rw [if_pos h1, if_pos h1]
  rw [if_neg h1, if_neg h1]
  by_cases h2 : x.op = 2
  · rw [if_pos h2, if_pos h2]
  rw [if_neg h2, if_neg h2]
  have hj : (if x.op = 12 then fettleref02_kinds.jn12 x (decide (x.op = 12)) else fettleref02_kinds.jn12 x (decide (x.op = 13))) = fettleref02_kinds.jn12 x (decide (x.op = 12 ∨ x.op = 13)) := by
    by_cases h : x.op = 12
    · rw [if_pos h]; simp [h]
    · rw [if_neg h]; simp [h]
  rw [hj]
  unfold fettleref02_kinds.jn12
  by_cases h3 : x.op = 12 ∨ x.op = 13
  · rw [if_pos (by simpa using h3), if_pos h3]
  rw [if_neg (by simpa using h3), if_neg h3]
  by_cases h4 : x.op = 14
  · rw [if_pos h4, if_pos h4]
  rw [if_neg h4, if_neg h4]
  by_cases h5 : x.op = 15
  · rw [if_pos h5, if_pos h5]
  rw [if_neg h5, if_neg h5]
  by_cases h6 : x.op = 16
  · rw [if_pos h6, if_pos h6]
  rw [if_neg h6, if_neg h6]
  by_cases h7 : x.op = 18
  · rw [if_pos h7, if_pos h7]
  rw [if_neg h7, if_neg h7]
  by_cases h8 : x.op ≥ 3 ∧ x.op ≤ 11
  · rw [if_pos h8, if_pos h8]
  · rw [if_neg h8, if_neg h8]
theorem kinds_c (m : PModule) (f : PFunc) (x : PInstr) (hT : TypedOk f) : ∃ dt, (hasR f x.dst → tyR f x.dst dt) ∧ (dt = 1 ∨ dt = 2) ∧ fettleref02_kinds m f x = some (kindL x dt) := by
  unfold fettleref02_kinds
  by_cases h : hasR f x.dst
  · rw [if_pos (by have := h.1; have := h.2; simp only [len]; omega)]
    obtain ⟨k, hk, hkl, hg⟩ := h.get
    rw [hg]
    exact ⟨f.regs[k], fun _ => hg, hT.regs _ (List.getElem_mem hkl), kinds4 x _⟩
  · rw [if_neg (by simp only [len]; unfold hasR at h; omega)]
    exact ⟨1, fun h' => absurd h' h, .inl rfl, kinds4 x 1⟩
end Go.Proofs.YtpomfbdbkejedaaGreatDoor
set_option linter.unusedVariables false
set_option linter.unusedSimpArgs false
namespace Go.Proofs.YtpomfbdbkejedaaGreatDoor
open Go Go.Proofs

theorem insC_some {m : PModule} {f : PFunc} {x : PInstr} {n t : Int} (h : arF m x = some (n, t)) : insC m f x = if (x.args.length : Int) ≠ n then 6 else lv ((¬ ∀ a ∈ x.args, hasR f a) ∨ (t ≠ 0 ∧ ¬ hasR f x.dst)) ((t = 0 ∧ x.dst ≠ -1) ∨ (x.op ≠ 1 ∧ x.imm ≠ 0) ∨ (x.op ≠ 17 ∧ x.fn ≠ 0) ∨ ¬ FitsOk m f x) := by
  unfold insC; rw [h]
theorem insC_none {m : PModule} {f : PFunc} {x : PInstr} (h : arF m x = none) : insC m f x = if x.op = 17 then 4 else 6 := by
  unfold insC; rw [h]
/-- Both tell the same of an instruction, given that they hold the same amiss. -/
theorem same_ins {m : PModule} {f : PFunc} {x : PInstr} {n t t' : Int} {ts : List Int} {odd : Bool} (hl : x.args.length ≤ 300) (ha : arF m x = some (n, t)) (hn : n = (ts.length : Int)) (h1 : x.op = 1 → t' ≠ 0) (h0 : t' ≠ 0 ↔ t ≠ 0)
    (h3 : x.args.length = ts.length → (∀ a ∈ x.args, hasR f a) → (t' ≠ 0 → hasR f x.dst) → (Amiss3 f x ts t' odd ↔ ((t = 0 ∧ x.dst ≠ -1) ∨ (x.op ≠ 1 ∧ x.imm ≠ 0) ∨ (x.op ≠ 17 ∧ x.fn ≠ 0) ∨ ¬ FitsOk m f x))) :
    fettleref02_Instr.jn6 f x ts t' true odd = some (insC m f x) := by
  rw [jn6_c f x ts t' odd hl h1, insC_some ha]
  by_cases he : x.args.length = ts.length
  · rw [if_neg (by simpa using he), if_neg (by rw [hn]; omega)]
    congr 1
    refine lv_congr (by rw [h0]) fun h4 => ?_
    refine h3 he (Classical.byContradiction fun k => h4 (.inl k)) fun k => Classical.byContradiction fun j => h4 (.inr ⟨h0.1 k, j⟩)
  · rw [if_pos he, if_pos (by rw [hn]; omega)]
theorem ts1 {f : PFunc} {x : PInstr} {t : Int} (ht : t ≥ 0) (h : x.args.length = 1) : TsOk f x.args [t] ↔ ∀ a ∈ x.args, tyR f a t := by
  obtain ⟨a, ha⟩ := List.length_eq_one_iff.1 h
  unfold TsOk
  rw [ha]; simp [ht]
theorem ts2 {f : PFunc} {x : PInstr} {t : Int} (ht : t ≥ 0) (h : x.args.length = 2) : TsOk f x.args [t, t] ↔ ∀ a ∈ x.args, tyR f a t := by
  obtain ⟨a, b, ha⟩ := len2 h
  unfold TsOk
  rw [ha]; simp [ht]
theorem ts0 {f : PFunc} {x : PInstr} : TsOk f x.args [] := by unfold TsOk; simp
theorem tyR.uniq {f : PFunc} {r s t : Int} (h : tyR f r s) (k : tyR f r t) : s = t := by unfold tyR at h k; rw [h] at k; exact Option.some.inj k
theorem rins_plain (m : PModule) (f : PFunc) (x : PInstr) (hl : x.args.length ≤ 300) (hT : TypedOk f) (h17 : x.op ≠ 17) {dt : Int} (hdt : hasR f x.dst → tyR f x.dst dt) (h12 : dt = 1 ∨ dt = 2) :
    fettleref02_Instr.jn6 f x (kindL x dt).1 (kindL x dt).2.1 (kindL x dt).2.2 false = some (insC m f x) := by
  unfold kindL
  by_cases h1 : x.op = 1
  · simp only [if_pos h1]
    refine same_ins (n := 0) (t := 1) hl (by simp [arF, h1]) rfl (fun _ => by omega) (by omega) fun he hh hd => ?_
    have hdst := hd (by omega)
    have hty := hdt hdst
    have hdt0 : dt > 0 := by omega
    have hdt1 : ¬ dt < 0 := by omega
    have hdt2 : ¬ dt = 0 := by omega
    have h21 : tyR f x.dst 2 ↔ ¬ tyR f x.dst 1 := by
      rcases h12 with rfl | rfl
      · exact ⟨fun k => absurd (hty.uniq k) (by omega), fun k => absurd hty k⟩
      · exact ⟨fun _ k => absurd (hty.uniq k) (by omega), fun _ => hty⟩
    unfold Amiss3 FitsOk
    simp only [ts0, h1, hty, hdt1, hdt2, if_true, h21]
    simp
  simp only [if_neg h1]
  by_cases h2 : x.op = 2
  · simp only [if_pos h2]
    refine same_ins (n := 1) (t := 1) hl (by simp [arF, h2]) rfl (fun k => absurd k h1) (by omega) fun he hh hd => ?_
    have hty := hdt (hd (by omega))
    have hdt1 : ¬ dt < 0 := by omega
    have hdt2 : ¬ dt = 0 := by omega
    have hdt3 : dt ≥ 0 := by omega
    obtain ⟨a, ha⟩ := List.length_eq_one_iff.1 he
    have hid : idx f.regs x.dst = some dt := hty
    have hix : idx x.args 0 = some a := by rw [ha]; rfl
    unfold Amiss3 FitsOk
    rw [ts1 hdt3 he, ha]
    simp only [h2, hty, hdt1, hdt2, hid, ha]
    have e : ((∃ b, idx [a] 0 = some b ∧ some dt = idx f.regs b)) ↔ tyR f a dt := by
      unfold tyR
      constructor
      · rintro ⟨b, hb, k⟩
        have : a = b := by simpa [idx] using hb
        subst this; exact k.symm
      · intro k; exact ⟨a, rfl, k.symm⟩
    simp [e]
    grind
  simp only [if_neg h2]
  by_cases h3 : x.op = 12 ∨ x.op = 13
  · simp only [if_pos h3]
    refine same_ins (n := 2) (t := 1) hl (by unfold arF; rw [if_neg (by omega), if_pos (by omega)]) rfl (fun k => absurd k h1) (by omega) fun he hh hd => ?_
    unfold Amiss3 FitsOk
    rw [ts2 (by omega) he, if_neg h1, if_neg h2, if_pos h3]
    simp [h1]
    grind
  simp only [if_neg h3]
  by_cases h4 : x.op = 14
  · simp only [if_pos h4]
    refine same_ins (n := 1) (t := 1) hl (by simp [arF, h4]) rfl (fun k => absurd k h1) (by omega) fun he hh hd => ?_
    unfold Amiss3 FitsOk
    obtain ⟨a, ha⟩ := List.length_eq_one_iff.1 he
    rw [ts1 (by omega) he, if_neg h1, if_neg h2, if_neg h3, if_pos h4, ha]
    have e : (∃ b, idx [a] 0 = some b ∧ tyR f b 2) ↔ tyR f a 2 := by
      constructor
      · rintro ⟨b, hb, k⟩
        have : a = b := by simpa [idx] using hb
        subst this; exact k
      · intro k; exact ⟨a, rfl, k⟩
    rw [e]
    simp [h1]
    grind
  simp only [if_neg h4]
  by_cases h5 : x.op = 15
  · simp only [if_pos h5]
    refine same_ins (n := 1) (t := 1) hl (by simp [arF, h5]) rfl (fun k => absurd k h1) (by omega) fun he hh hd => ?_
    unfold Amiss3 FitsOk
    rw [ts1 (by omega) he, if_neg h1, if_neg h2, if_neg h3, if_neg h4, if_neg (by omega), if_neg h17]
    simp [h1]
    grind
  simp only [if_neg h5]
  by_cases h6 : x.op = 16
  · simp only [if_pos h6]
    refine same_ins (n := 2) (t := 0) hl (by simp [arF, h6]) rfl (fun k => absurd k h1) (by omega) fun he hh hd => ?_
    unfold Amiss3 FitsOk
    rw [ts2 (by omega) he, if_neg h1, if_neg h2, if_neg h3, if_neg h4, if_pos (.inr h6)]
    simp [h1]
    grind
  simp only [if_neg h6]
  by_cases h7 : x.op = 18
  · simp only [if_pos h7]
    refine same_ins (n := 1) (t := 0) hl (by simp [arF, h7]) rfl (fun k => absurd k h1) (by omega) fun he hh hd => ?_
    unfold Amiss3 FitsOk
    rw [ts1 (by omega) he, if_neg h1, if_neg h2, if_neg h3, if_neg h4, if_pos (.inl h7)]
    simp [h1]
    grind
  simp only [if_neg h7]
  by_cases h8 : x.op ≥ 3 ∧ x.op ≤ 11
  · simp only [if_pos h8]
    refine same_ins (n := 2) (t := 1) hl (by unfold arF; rw [if_neg (by omega), if_pos (by omega)]) rfl (fun k => absurd k h1) (by omega) fun he hh hd => ?_
    unfold Amiss3 FitsOk
    rw [ts2 (by omega) he, if_neg h1, if_neg h2, if_neg h3, if_neg h4, if_neg (by omega), if_neg h17]
    simp [h1]
    grind
  · simp only [if_neg h8]
    rw [jn6_no, insC_none, if_neg h17]
    unfold arF
    rw [if_neg (by omega), if_neg (by omega), if_neg h1, if_neg h5, if_neg h7, if_neg h6, if_neg h17]
/-! ### Calls -/
theorem call_kinds (g : PFunc) (n : Nat) (hn : (n : Int) = g.params) (hl : n ≤ 300) : ∃ ts odd, whl (fun (s : (List Int × Bool × Int)) => fettleref02_Instr.bd135 g s.1 s.2.1 s.2.2) FUEL (([] : List Int), (decide (g.params < 0 ∨ g.params > (len g.regs))), 0) = some (ts, odd) ∧ ts.length = n ∧
    (odd = false → n ≤ g.regs.length ∧ ts = g.regs.take n ∧ ∀ t ∈ ts, t ≥ 0) ∧ (odd = true → g.params > (g.regs.length : Int) ∨ ∃ j t, j < n ∧ g.regs[j]? = some t ∧ t < 0) := by
  obtain ⟨r, hr, hR⟩ := whl_for (s0 := (([] : List Int), (decide (g.params < 0 ∨ g.params > (len g.regs))), (0 : Int))) (body := fun (s : (List Int × Bool × Int)) => fettleref02_Instr.bd135 g s.1 s.2.1 s.2.2) n
    (fun i s => s.2.2 = (i : Int) ∧ s.1.length = i ∧ (s.2.1 = false → n ≤ g.regs.length ∧ s.1 = g.regs.take i ∧ ∀ t ∈ s.1, t ≥ 0) ∧ (s.2.1 = true → g.params > (g.regs.length : Int) ∨ ∃ j t, j < n ∧ g.regs[j]? = some t ∧ t < 0))
    (fun r : List Int × Bool => r.1.length = n ∧ (r.2 = false → n ≤ g.regs.length ∧ r.1 = g.regs.take n ∧ ∀ t ∈ r.1, t ≥ 0) ∧ (r.2 = true → g.params > (g.regs.length : Int) ∨ ∃ j t, j < n ∧ g.regs[j]? = some t ∧ t < 0)) (le_max hl (by omega)) (fun i s hi hI => by
      obtain ⟨ts, odd, q⟩ := s
      obtain ⟨rfl, h1, h2, h3⟩ := hI
      simp only at h1 h2 h3
      simp only [fettleref02_Instr.bd135]
      rw [if_pos (by omega)]
      cases odd with
      | true =>
        rw [if_neg (by simp)]
        simp only [fettleref02_Instr.jn147, cat_one (show ts.length ≤ 1000 by omega), Option.bind_some]
        refine .inr ⟨_, rfl, w64_i hi (by omega), by simp [h1], fun k => by simp at k, fun _ => h3 rfl⟩
      | false =>
        obtain ⟨g1, g2, g3⟩ := h2 rfl
        have hir : i < g.regs.length := by omega
        rw [if_pos (by simp), idx_lt hir]
        simp only [Option.bind_some, fettleref02_Instr.jn147, cat_one (show ts.length ≤ 1000 by omega)]
        refine .inr ⟨_, rfl, w64_i hi (by omega), by simp [h1], fun k => ?_, fun k => ?_⟩
        · have hk : ¬ g.regs[i] < 0 := by simpa using k
          refine ⟨g1, ?_, fun t ht => ?_⟩
          · rw [List.take_succ_eq_append_getElem hir, g2]
          · rcases List.mem_append.1 ht with ht | ht
            · exact g3 t ht
            · have : t = g.regs[i] := by simpa using ht
              omega
        · have hk : g.regs[i] < 0 := by simpa using k
          exact .inr ⟨i, _, hi, List.getElem?_eq_getElem hir, hk⟩) (fun s hI => by
      obtain ⟨ts, odd, q⟩ := s
      obtain ⟨rfl, h1, h2, h3⟩ := hI
      simp only at h1 h2 h3
      exact ⟨(ts, odd), by simp only [fettleref02_Instr.bd135]; rw [if_neg (by omega)], h1, h2, h3⟩) ⟨rfl, rfl, fun k => by
      have hk := of_decide_eq_false k
      simp only [len] at hk
      exact ⟨by omega, by simp, by simp⟩, fun k => by
      have hk := of_decide_eq_true k
      simp only [len] at hk
      left; omega⟩
  obtain ⟨ts, odd⟩ := r
  exact ⟨ts, odd, hr, hR⟩
theorem ts_take {f : PFunc} {xs ts : List Int} (hp : ∀ t ∈ ts, t ≥ 0) (hl : xs.length = ts.length) : TsOk f xs ts ↔ ∀ i (hi : i < xs.length), ∃ t, ts[i]? = some t ∧ tyR f xs[i] t := by
  unfold TsOk
  constructor
  · intro h i hi
    have hi2 : i < (xs.zip ts).length := by simp; omega
    have hi3 : i < ts.length := by omega
    have := h _ (List.getElem_mem hi2)
    simp only [List.getElem_zip] at this
    exact ⟨_, List.getElem?_eq_getElem hi3, this (hp _ (List.getElem_mem hi3))⟩
  · intro h p hpm _
    obtain ⟨i, hi, rfl⟩ := List.getElem_of_mem hpm
    have hi2 : i < xs.length := by simp at hi; omega
    obtain ⟨t, h1, h2⟩ := h i hi2
    rw [List.getElem?_eq_getElem (by omega)] at h1
    simp only [List.getElem_zip]
    rw [Option.some.inj h1]; exact h2
theorem rins_c (m : PModule) (f : PFunc) (x : PInstr) (hl : x.args.length ≤ 300) (hT : TypedOk f) : fettleref02_Instr m f x = some (insC m f x) := by
  obtain ⟨dt, h1, h2, h3⟩ := kinds_c m f x hT
  unfold fettleref02_Instr
  rw [h3]
  simp only [Option.bind_some]
  by_cases h17 : x.op = 17
  · rw [if_pos h17]
    have har : arF m x = (idx m.funcs x.fn).map fun g => (g.params, g.result) := by
      unfold arF
      rw [if_neg (by omega), if_neg (by omega), if_neg (by omega), if_neg (by omega), if_neg (by omega), if_neg (by omega), if_pos h17]
    by_cases hf : x.fn < 0 ∨ x.fn ≥ len m.funcs
    · rw [if_pos hf]
      have : idx m.funcs x.fn = none := by
        cases hx : idx m.funcs x.fn with
        | none => rfl
        | some g =>
          obtain ⟨g1, g2, _⟩ := idx_some hx
          simp only [len] at hf; omega
      rw [this] at har
      rw [insC_none har, if_pos h17]
    · rw [if_neg hf]
      simp only [len] at hf
      obtain ⟨k, hk⟩ : ∃ k : Nat, x.fn = k := ⟨x.fn.toNat, by omega⟩
      have hkl : k < m.funcs.length := by omega
      rw [hk, idx_lt hkl] at har
      rw [hk, idx_lt hkl]
      simp only [Option.bind_some]
      have hfn : idx m.funcs x.fn = some m.funcs[k] := by rw [hk, idx_lt hkl]
      generalize m.funcs[k] = g at *
      simp only [Option.map_some] at har
      by_cases hn : len x.args = g.params
      · rw [if_neg (by simpa using hn)]
        simp only [len] at hn
        have hkl1 : (kindL x dt).1 = [] := by simp [kindL, h17]
        rw [hkl1]
        obtain ⟨ts, odd, w1, w2, w3, w4⟩ := call_kinds g x.args.length hn hl
        rw [w1]
        simp only [Option.bind_some, fettleref02_Instr.nx135]
        refine same_ins (n := g.params) (t := g.result) hl har (by omega) (fun k => absurd k (by omega)) Iff.rfl fun he hh hd => ?_
        have hfit : FitsOk m f x ↔ CallOk m f x g := by
          unfold FitsOk
          rw [if_neg (by omega), if_neg (by omega), if_neg (by omega), if_neg (by omega), if_neg (by omega), if_pos h17]
          constructor
          · rintro ⟨g', h'⟩
            have := h'.fn
            rw [hfn] at this; cases this; exact h'
          · intro h'; exact ⟨g, h'⟩
        rw [hfit]
        unfold Amiss3
        cases odd with
        | true =>
          have hno : ¬ CallOk m f x g := fun hc => by
            rcases w4 rfl with h4 | ⟨j, t, h4, h5, h6⟩
            · have := hc.le; omega
            · obtain ⟨t', h7, h8⟩ := hc.args j h4
              rw [idx_nat, h5] at h7
              cases h7
              obtain ⟨k', _, hk', hg'⟩ := h8.has.get
              have := hT.regs _ (List.getElem_mem hk')
              unfold tyR at h8
              rw [hg'] at h8
              have := Option.some.inj h8
              omega
          simp [hno]
        | false =>
          obtain ⟨v1, v2, v3⟩ := w3 rfl
          have hlen : x.args.length = ts.length := he
          have hcall : CallOk m f x g ↔ (TsOk f x.args ts ∧ (g.result = 0 ∨ tyR f x.dst g.result)) := by
            rw [ts_take v3 hlen]
            constructor
            · intro hc
              refine ⟨fun i hi => ?_, hc.res⟩
              obtain ⟨t, g1, g2⟩ := hc.args i hi
              refine ⟨t, ?_, g2⟩
              rw [v2, List.getElem?_take_of_lt hi]
              rw [idx_nat] at g1; exact g1
            · rintro ⟨g1, g2⟩
              refine ⟨hfn, by omega, by omega, fun i hi => ?_, g2⟩
              obtain ⟨t, g3, g4⟩ := g1 i hi
              rw [v2, List.getElem?_take_of_lt hi] at g3
              exact ⟨t, by rw [idx_nat]; exact g3, g4⟩
          rw [hcall]
          have hneg : g.result < 0 → ¬ tyR f x.dst g.result := fun hlt h8 => by
            obtain ⟨k', _, hk', hg'⟩ := h8.has.get
            have := hT.regs _ (List.getElem_mem hk')
            unfold tyR at h8
            rw [hg'] at h8
            have := Option.some.inj h8
            omega
          have h117 : ¬ x.op = 1 := by omega
          simp only [h17, h117]
          by_cases hr0 : g.result = 0
          · simp [hr0]; grind
          · by_cases hr1 : g.result < 0
            · have := hneg hr1
              simp [hr0, hr1, this]
            · have hr2 : g.result > 0 := by omega
              simp [hr0, hr1, hr2]; grind
      · rw [if_pos hn, insC_some har, if_pos (by simpa [len] using hn)]
  · rw [if_neg h17]
    exact rins_plain m f x hl hT h17 h1 h2
end Go.Proofs.YtpomfbdbkejedaaGreatDoor
set_option linter.unusedVariables false
set_option linter.unusedSimpArgs false
namespace Go.Proofs.YtpomfbdbkejedaaGreatDoor
open Go Go.Proofs

theorem rshape_eq (f : PFunc) (t : PTerm) (hl : t.to.length ≤ 70) : ∃ b : Bool, fettleref02_shape f t = some b ∧ (b = true ↔ EndsOk f t) := by
  unfold fettleref02_shape
  rcases scan_or t.to (le_max hl (by omega)) (fun x => 1 ≤ x ∧ x < (f.blocks.length : Int)) (fun e : Bool => e = false) (fun s => fettleref02_shape.bd8 f t s) (fun i hi => by
    simp only [fettleref02_shape.bd8, len_lt, hi, if_true, idx_lt hi, Option.bind_some, w64_i hi (show t.to.length ≤ 1000 by omega)]
    by_cases h1 : t.to[i] < 1
    · rw [if_pos h1]
      exact .inl ⟨false, by simp, rfl, fun h => by omega⟩
    · rw [if_neg h1]
      by_cases h2 : t.to[i] ≥ len f.blocks
      · exact .inl ⟨false, by simp [h2], rfl, fun h => by simp only [len] at h2; omega⟩
      · exact .inr ⟨by simp [h2], by simp only [len] at h2; omega⟩) (by simp [fettleref02_shape.bd8, len]) with ⟨e, hw, rfl, hn⟩ | ⟨hw, hall⟩
  · rw [hw]
    exact ⟨false, rfl, by simp, fun h => (hn h.to).elim⟩
  rw [hw]
  simp only [Option.bind_some, fettleref02_shape.nx8]
  by_cases h1 : t.kind = 1 ∧ len t.to = 1
  · rw [if_pos h1]
    refine ⟨true, by simp, by simp; exact ⟨hall, .inl ⟨h1.1, List.length_eq_one_iff.1 (by have := h1.2; simp only [len] at this; omega)⟩⟩⟩
  rw [if_neg h1]
  by_cases h2 : t.kind = 2 ∧ len t.to = 2
  · rw [if_pos h2]
    obtain ⟨a, b, hab⟩ := len2 (show t.to.length = 2 by have := h2.2; simp only [len] at this; omega)
    have i0 : idx t.to 0 = some a := by rw [hab]; rfl
    have i1 : idx t.to 1 = some b := by rw [hab]; rfl
    rw [i0, i1]
    simp only [Option.bind_some]
    refine ⟨_, rfl, ?_⟩
    rw [decide_eq_true_eq, decide_eq_true_eq]
    constructor
    · rintro (h | h)
      · exact ⟨hall, .inr (.inl ⟨h2.1, a, b, hab, h⟩)⟩
      · omega
    · intro h
      left
      rcases h.kind with ⟨h, _⟩ | ⟨_, a', b', h', hne⟩ | ⟨h, _⟩
      · omega
      · rw [hab] at h'; cases h'; exact hne
      · omega
  · rw [if_neg h2]
    simp only [Option.bind_some]
    refine ⟨_, rfl, ?_⟩
    rw [decide_eq_true_eq]
    constructor
    · rintro (h | h)
      · simp at h
      · exact ⟨hall, .inr (.inr ⟨h.1, List.eq_nil_of_length_eq_zero (by have := h.2; simp only [len] at this; omega)⟩)⟩
    · intro h
      rcases h.kind with ⟨h3, a, ha⟩ | ⟨h3, a, b, ha, _⟩ | ⟨h3, ha⟩
      · exact absurd ⟨h3, by rw [ha]; rfl⟩ h1
      · exact absurd ⟨h3, by rw [ha]; rfl⟩ h2
      · exact .inr ⟨h3, by rw [ha]; rfl⟩
theorem outer_c (f : PFunc) (hf : SmF f) : (¬ SmallOk f ∧ fettleref02_outer f = some 5) ∨ (SmallOk f ∧ ¬ TypedOk f ∧ fettleref02_outer f = some 3) ∨ (SmallOk f ∧ TypedOk f ∧ (¬ ∀ B ∈ f.blocks, EndsOk f B.term) ∧ fettleref02_outer f = some 6) ∨
    (SmallOk f ∧ TypedOk f ∧ (∀ B ∈ f.blocks, EndsOk f B.term) ∧ (¬ ∀ i (hi : i < f.blocks.length), ∀ p ∈ f.blocks[i].phis, p.args.length = (preds (nexts f) i).length) ∧ fettleref02_outer f = some 6) ∨
    (SmallOk f ∧ TypedOk f ∧ (∀ B ∈ f.blocks, EndsOk f B.term) ∧ (∀ i (hi : i < f.blocks.length), ∀ p ∈ f.blocks[i].phis, p.args.length = (preds (nexts f) i).length) ∧ fettleref02_outer f = some 0) := by
  obtain ⟨hn, hr, hp, hB⟩ := id hf
  unfold fettleref02_outer
  have hrun := whl_run (body := fun (s : (Int × Int)) => fettleref02_outer.bd8 f s.1 s.2) (r := ((insCount f : Nat) : Int)) f.blocks.length FUEL
    (fun i => ((((f.blocks.take i).map fun (B : PBlock) => B.phis.length + B.ins.length + 1).sum : Nat), (i : Int))) (fun i hi => by
      obtain ⟨b1, b2, _⟩ := hf.2.2.2 _ (List.getElem_mem hi)
      have hs := sum_take f hf i (by omega)
      simp only [fettleref02_outer.bd8, len_lt, hi, if_true, idx_lt hi, Option.bind_some, w64_i hi (show f.blocks.length ≤ 1000 by omega), len]
      rw [List.take_succ_eq_append_getElem hi, List.map_append, List.sum_append]
      simp only [List.map_cons, List.map_nil, List.sum_cons, List.sum_nil]
      rw [w64_id (x := ((((f.blocks.take i).map fun (B : PBlock) => B.phis.length + B.ins.length + 1).sum : Nat) : Int) + f.blocks[i].phis.length) ⟨by omega, by omega⟩, w64_id (x := ((((f.blocks.take i).map fun (B : PBlock) => B.phis.length + B.ins.length + 1).sum : Nat) : Int) + f.blocks[i].phis.length + f.blocks[i].ins.length) ⟨by omega, by omega⟩, w64_id ⟨by omega, by omega⟩]
      congr 3
      omega) (by simp [fettleref02_outer.bd8, len, insCount]) (lt_FUEL (le_max hf.1 (by omega)))
  simp only [List.take_zero, List.map_nil, List.sum_nil] at hrun
  have h00 : (((0 : Nat) : Int), ((0 : Nat) : Int)) = ((0 : Int), (0 : Int)) := rfl
  rw [h00] at hrun
  rw [hrun]
  simp only [Option.bind_some, fettleref02_outer.nx8]
  by_cases hS : ¬ SmallOk f
  · left
    refine ⟨hS, ?_⟩
    rw [if_pos]
    simp only [len]
    by_cases h1 : 1 ≤ f.blocks.length
    · by_cases h2 : f.blocks.length ≤ 64
      · by_cases h3 : f.regs.length ≤ 256
        · right
          by_cases h4 : insCount f ≤ 256
          · exact absurd ⟨h1, h2, h3, h4⟩ hS
          · omega
        · left; right; omega
      · left; left; right; omega
    · left; left; left; omega
  have hS := Classical.not_not.1 hS
  rw [if_neg (by have := hS.pos; have := hS.blocks; have := hS.regs; have := hS.ins; simp only [len]; omega)]
  right
  have hregs := scan_or f.regs (le_max hr (by omega)) (fun t => t = 1 ∨ t = 2) (fun e : Int => e = 3) (fun s => fettleref02_outer.bd35 f s) (fun i hi => by
    simp only [fettleref02_outer.bd35, len_lt, hi, if_true, idx_lt hi, Option.bind_some, w64_i hi (show f.regs.length ≤ 1000 by omega)]
    by_cases h1 : f.regs[i] = 1
    · rw [if_neg (by simpa using h1)]
      exact .inr ⟨by simp, .inl h1⟩
    · rw [if_pos h1]
      by_cases h2 : f.regs[i] = 2
      · exact .inr ⟨by simp [h2], .inr h2⟩
      · exact .inl ⟨3, by simp [h2], rfl, fun h => h.elim h1 h2⟩) (by simp [fettleref02_outer.bd35, len])
  rcases hregs with ⟨e, hw, rfl, hnot⟩ | ⟨hw, hall⟩
  · rw [hw]
    exact .inl ⟨hS, fun h => hnot h.regs, rfl⟩
  rw [hw]
  simp only [Option.bind_some, fettleref02_outer.nx35]
  by_cases hc : (((f.params < 0 ∨ f.params > 8) ∨ f.params > (len f.regs)) ∨ f.result < 0) ∨ f.result > 2
  · rw [if_pos hc]
    refine .inl ⟨hS, fun h => ?_, rfl⟩
    have := h.nn; have := h.few; have := h.le; have := h.res
    simp only [len] at hc; omega
  rw [if_neg hc]
  simp only [len] at hc
  have hT : TypedOk f := ⟨hall, by omega, by omega, by omega, by omega⟩
  right
  rcases scan_or f.blocks (le_max hn (by omega)) (fun (B : PBlock) => EndsOk f B.term) (fun e : Int => e = 6) (fun s => fettleref02_outer.bd67 f s) (fun i hi => by
    obtain ⟨d, hd1, hd2⟩ := rshape_eq f f.blocks[i].term (hB _ (List.getElem_mem hi)).2.2.1
    simp only [fettleref02_outer.bd67, len_lt, hi, if_true, idx_lt hi, Option.bind_some, hd1, w64_i hi (show f.blocks.length ≤ 1000 by omega)]
    cases d with
    | false => exact .inl ⟨_, by simp, rfl, fun h => by simpa using hd2.2 h⟩
    | true => exact .inr ⟨by simp, hd2.1 rfl⟩) (by simp [fettleref02_outer.bd67, len]) with ⟨e, hw2, rfl, hnot⟩ | ⟨hw2, hends⟩
  · rw [hw2]
    exact .inl ⟨hS, hT, hnot, rfl⟩
  rw [hw2]
  simp only [Option.bind_some, fettleref02_outer.nx67]
  right
  rcases scan_ix f.blocks.length (le_max hn (by omega)) (fun i => ∀ B, f.blocks[i]? = some B → ∀ p ∈ B.phis, p.args.length = (preds (nexts f) i).length) (fun e : Int => e = 6) (fun s => fettleref02_outer.bd76 f s) (fun i hi => by
    obtain ⟨b1, b2, b3, b4, b5⟩ := hB _ (List.getElem_mem hi)
    simp only [fettleref02_outer.bd76, len_lt, hi, if_true, Option.bind_some]
    rcases scan_or f.blocks[i].phis (le_max b2 (by omega)) (fun p => p.args.length = (preds (nexts f) i).length) (fun e : Int => e = 6) (fun s => fettleref02_outer.bd90 f (i : Int) s) (fun j hj => by
      simp only [fettleref02_outer.bd90, idx_lt hi, len_lt, hj, if_true, idx_lt hj, Option.bind_some, refAhead_eq f hf i hi, w64_i hj (show f.blocks[i].phis.length ≤ 1000 by omega)]
      by_cases hc : f.blocks[i].phis[j].args.length = (preds (nexts f) i).length
      · exact .inr ⟨by rw [if_neg (by simp only [len]; omega)], hc⟩
      · exact .inl ⟨_, by rw [if_pos (by simp only [len]; omega)], rfl, hc⟩) (by simp [fettleref02_outer.bd90, len, idx_lt hi]) with ⟨e, hw3, rfl, hnot⟩ | ⟨hw3, hall3⟩
    · rw [hw3]; exact .inl ⟨_, rfl, rfl, fun h => hnot (h _ (List.getElem?_eq_getElem hi))⟩
    · rw [hw3]; exact .inr ⟨by simp only [Option.bind_some, fettleref02_outer.nx90, w64_i hi (show f.blocks.length ≤ 1000 by omega)], fun B hB' => by rw [List.getElem?_eq_getElem hi] at hB'; cases hB'; exact hall3⟩) (by simp [fettleref02_outer.bd76, len]) with ⟨e, hw3, rfl, hnot⟩ | ⟨hw3, hah⟩
  · rw [hw3]
    exact .inl ⟨hS, hT, hends, fun h => hnot fun i hi B hB' => by rw [List.getElem?_eq_getElem hi] at hB'; cases hB'; exact h i hi, rfl⟩
  · rw [hw3]
    exact .inr ⟨hS, hT, hends, fun i hi => hah i hi _ (List.getElem?_eq_getElem hi), rfl⟩
theorem rend_c (f : PFunc) (t : PTerm) (hT : TypedOk f) (hE : EndsOk f t) : fettleref02_end f t = some (endC f t) := by
  unfold fettleref02_end endC
  have hk : t.kind = 1 ∨ t.kind = 2 ∨ t.kind = 3 := by
    rcases hE.kind with ⟨h, _⟩ | ⟨h, _⟩ | ⟨h, _⟩ <;> omega
  by_cases h2 : t.kind = 2
  · rw [if_pos h2, is_c, if_neg (by omega), if_neg (by omega)]
    simp only [Option.bind_some]
    unfold isC
    congr 1
    exact lv_congr Iff.rfl fun _ => by simp
  rw [if_neg h2]
  by_cases h3 : t.kind = 3 ∧ ¬ f.result = 0
  · rw [if_pos h3, is_c, if_neg (by omega), if_pos h3.1]
    simp only [Option.bind_some]
    unfold isC
    congr 1
    have := hT.res
    exact lv_congr Iff.rfl fun _ => ⟨fun h => h.2, fun h => ⟨by omega, h⟩⟩
  rw [if_neg h3, if_pos (show t.kind = 1 ∨ (t.kind = 3 ∧ f.result = 0) by omega)]
  by_cases h4 : t.arg = -1
  · rw [if_neg (by simpa using h4), if_pos h4]
  · rw [if_pos h4, if_neg h4]
theorem rphi_c (f : PFunc) (p : PPhi) (hT : TypedOk f) (hl : p.args.length ≤ 300) (k : Int) (hk : w64 (k + 1) = k + 1) :
    ((fettleref02_is f p.dst (-1)).bind fun x53 => (whl (fun (s : (Int × Int)) => fettleref02_Func.bd76 f p s.1 s.2) FUEL (x53, 0)).bind fun z => fettleref02_Func.nx76 f k p z) = some (if phiC f p = 0 then .go (k + 1) else .ret (.ret (phiC f p))) := by
  have h1 : ∀ r, isC f r (-1) = lv (¬ hasR f r) False := fun r => lv_congr Iff.rfl fun _ => ⟨fun h => by have := h.1; omega, fun h => h.elim⟩
  rw [is_c]
  simp only [Option.bind_some]
  have hw := whl_fold p.args (fun c a => wst c (isC f a (-1))) (isC f p.dst (-1)) (body := fun (s : (Int × Int)) => fettleref02_Func.bd76 f p s.1 s.2) (by omega) (fun i hi c => by
    simp only [fettleref02_Func.bd76, len_lt, hi, if_true, idx_lt hi, Option.bind_some, is_c, worst_c, w64_i hi (show p.args.length ≤ 1000 by omega)]) (fun s => by simp [fettleref02_Func.bd76, len])
  rw [hw]
  have hfold := fold_wst f (p.args.map fun a => (a, -1)) (¬ hasR f p.dst) False
  rw [List.foldl_map] at hfold
  rw [h1 p.dst, hfold]
  simp only [Option.bind_some, fettleref02_Func.nx76]
  have hz : lv ((¬ hasR f p.dst) ∨ ¬ ∀ q ∈ p.args.map (fun a => (a, (-1 : Int))), hasR f q.1) (False ∨ ¬ ∀ q ∈ p.args.map (fun a => (a, (-1 : Int))), q.2 ≥ 0 → tyR f q.1 q.2) = lv ((¬ hasR f p.dst) ∨ ¬ ∀ a ∈ p.args, hasR f a) False := by
    refine lv_congr (by simp) fun _ => ?_
    simp
  rw [hz]
  have key : whl (fun (s : (Int × Int)) => fettleref02_Func.bd85 f p s.1 s.2) FUEL (lv ((¬ hasR f p.dst) ∨ ¬ ∀ a ∈ p.args, hasR f a) False, 0) = some (phiC f p) := by
    by_cases h4 : (¬ hasR f p.dst) ∨ ¬ ∀ a ∈ p.args, hasR f a
    · have e : phiC f p = 4 := lv4 h4
      rw [lv4 h4, e]
      have := whl_run (body := fun (s : (Int × Int)) => fettleref02_Func.bd85 f p s.1 s.2) (r := (4 : Int)) 0 FUEL (fun i => ((4 : Int), (i : Int))) (fun i hi => by omega) (by simp [fettleref02_Func.bd85]) (lt_FUEL (by simp only [maxLen]; omega))
      exact this
    · rw [lv0 h4 (fun h => h)]
      have hd : hasR f p.dst := Classical.byContradiction fun k => h4 (.inl k)
      have ha : ∀ a ∈ p.args, hasR f a := Classical.byContradiction fun k => h4 (.inr k)
      obtain ⟨d, hd1, hd2, hd3⟩ := hd.get
      have hty := hT.regs _ (List.getElem_mem hd2)
      obtain ⟨r, hr, hR⟩ := whl_for (s0 := ((0 : Int), (0 : Int))) (body := fun (s : (Int × Int)) => fettleref02_Func.bd85 f p s.1 s.2) p.args.length
        (fun i s => s.2 = (i : Int) ∧ ((s.1 = 0 ∧ ∀ j (hj : j < p.args.length), j < i → tyR f p.args[j] f.regs[d]) ∨ (s.1 = 3 ∧ ¬ ∀ a ∈ p.args, tyR f a f.regs[d])))
        (fun r => (r = 0 ∧ ∀ a ∈ p.args, tyR f a f.regs[d]) ∨ (r = 3 ∧ ¬ ∀ a ∈ p.args, tyR f a f.regs[d])) (le_max hl (by omega)) (fun i s hi hI => by
          obtain ⟨c, q⟩ := s
          obtain ⟨rfl, hI⟩ := hI
          simp only at hI
          rcases hI with ⟨rfl, hI⟩ | ⟨rfl, hI⟩
          · have hai := ha _ (List.getElem_mem hi)
            have hi' : (i : Int) < len p.args := by simp only [len]; omega
            have hcode : isC f p.args[i] f.regs[d] = lv False (¬ tyR f p.args[i] f.regs[d]) := lv_congr ⟨fun h => h hai, fun h => h.elim⟩ fun _ => ⟨fun h => h.2, fun h => ⟨by omega, h⟩⟩
            refine .inr ⟨_, by simp only [fettleref02_Func.bd85, hi', and_self, if_true, idx_lt hi, hd3, Option.bind_some, is_c, w64_i hi (show p.args.length ≤ 1000 by omega), true_and]; rfl, rfl, ?_⟩
            simp only [hcode]
            by_cases ht : tyR f p.args[i] f.regs[d]
            · left
              refine ⟨lv0 (fun h => h) (fun h => h ht), fun j hj hji => ?_⟩
              rcases Nat.lt_succ_iff_lt_or_eq.1 hji with h | rfl
              · exact hI j hj h
              · exact ht
            · right
              exact ⟨lv3 (fun h => h) ht, fun h => ht (h _ (List.getElem_mem hi))⟩
          · exact .inl ⟨3, by simp [fettleref02_Func.bd85], .inr ⟨rfl, hI⟩⟩) (fun s hI => by
          obtain ⟨c, q⟩ := s
          obtain ⟨rfl, hI⟩ := hI
          simp only at hI
          rcases hI with ⟨rfl, hI⟩ | ⟨rfl, hI⟩
          · refine ⟨0, by simp [fettleref02_Func.bd85, len], .inl ⟨rfl, fun a ham => ?_⟩⟩
            obtain ⟨j, hj, rfl⟩ := List.getElem_of_mem ham
            exact hI j hj hj
          · exact ⟨3, by simp [fettleref02_Func.bd85], .inr ⟨rfl, hI⟩⟩) ⟨rfl, .inl ⟨rfl, fun j hj h => by omega⟩⟩
      rw [hr]
      have hsame : (∀ a ∈ p.args, tyR f a f.regs[d]) ↔ ∀ a ∈ p.args, idx f.regs a = idx f.regs p.dst := by
        rw [hd3]; exact Iff.rfl
      rcases hR with ⟨rfl, hall⟩ | ⟨rfl, hnot⟩
      · rw [show phiC f p = 0 from lv0 h4 (fun h => h (hsame.1 hall))]
      · rw [show phiC f p = 3 from lv3 h4 (fun h => hnot (hsame.2 h))]
  rw [key]
  simp only [Option.bind_some, fettleref02_Func.nx85, hk]
  by_cases h : phiC f p = 0
  · rw [if_neg (by simpa using h), if_pos h]
  · rw [if_pos h, if_neg h]
theorem c_step {c : Int} {ρ σ : Type} (s : σ) (out : Int → ρ) : (if ¬ c = 0 then some (Ex.ret (Ex.ret (out c) : Ex ρ Unit)) else some (Ex.go s) : Option (Ex (Ex ρ Unit) σ)) = some (if c = 0 then .go s else .ret (.ret (out c))) := by
  by_cases h : c = 0
  · rw [if_pos h, if_neg (by simp [h])]
  · rw [if_neg h, if_pos h]
theorem rfunc_c (m : PModule) (k : Nat) (hk : k < m.funcs.length) (hf : SmF m.funcs[k]) : fettleref02_Func m (k : Int) = some (funC m m.funcs[k]) := by
  obtain ⟨hn, hr, hp, hB⟩ := id hf
  unfold fettleref02_Func
  rw [idx_lt hk]
  simp only [Option.bind_some]
  generalize m.funcs[k] = f at *
  rcases outer_c f hf with ⟨h1, ho⟩ | ⟨h1, h2, ho⟩ | ⟨h1, h2, h3, ho⟩ | ⟨h1, h2, h3, h4, ho⟩ | ⟨h1, h2, h3, h4, ho⟩
  · rw [ho, funC_5 h1]; rfl
  · rw [ho, funC_3 h1 h2]; rfl
  · rw [ho, funC_6 h1 h2 h3]; rfl
  · rw [ho, funC_7 h1 h2 h3 h4]; rfl
  rw [ho, funC_b h1 h2 h3 h4]
  simp only [Option.bind_some]
  rw [if_neg (by simp)]
  have hs := scan_nz (f.blocks.map (blkC m f)) (fun c => c) (fun s => fettleref02_Func.bd14 m f s) (le_max (show (f.blocks.map (blkC m f)).length ≤ 70 by simpa using hn) (by omega)) (fun i hi => by
    have hi : i < f.blocks.length := by simpa using hi
    obtain ⟨b1, b2, b3, b4, b5⟩ := hB _ (List.getElem_mem hi)
    have hE := h3 _ (List.getElem_mem hi)
    simp only [fettleref02_Func.bd14, len_lt, hi, if_true, idx_lt hi, Option.bind_some, List.getElem_map]
    have hphi := scan_nz (f.blocks[i].phis.map (phiC f)) (fun c => c) (fun s => fettleref02_Func.bd31 f f.blocks[i] s) (le_max (show (f.blocks[i].phis.map (phiC f)).length ≤ 300 by simpa using b2) (by omega)) (fun j hj => by
      have hj : j < f.blocks[i].phis.length := by simpa using hj
      have hw := w64_i hj (show f.blocks[i].phis.length ≤ 1000 by omega)
      simp only [fettleref02_Func.bd31, len_lt, hj, if_true, idx_lt hj, Option.bind_some, List.getElem_map]
      rw [rphi_c f f.blocks[i].phis[j] h2 (b5 _ (List.getElem_mem hj)) (j : Int) (by rw [hw]; omega)]
      rfl) (by simp [fettleref02_Func.bd31, len])
    rw [hphi]
    unfold blkC
    by_cases hz : firstNZ (f.blocks[i].phis.map (phiC f)) = 0
    · rw [if_pos hz, hz, firstNZ_cons0]
      simp only [Option.bind_some, fettleref02_Func.nx31]
      have hins := scan_nz (f.blocks[i].ins.map (insC m f)) (fun c => c) (fun s => fettleref02_Func.bd40 m f f.blocks[i] s) (le_max (show (f.blocks[i].ins.map (insC m f)).length ≤ 300 by simpa using b1) (by omega)) (fun j hj => by
        have hj : j < f.blocks[i].ins.length := by simpa using hj
        simp only [fettleref02_Func.bd40, len_lt, hj, if_true, idx_lt hj, Option.bind_some, List.getElem_map, rins_c m f f.blocks[i].ins[j] (b4 _ (List.getElem_mem hj)) h2, w64_i hj (show f.blocks[i].ins.length ≤ 1000 by omega)]
        rw [c_step (out := fun c => c)]) (by simp [fettleref02_Func.bd40, len])
      rw [hins]
      by_cases hy : firstNZ (f.blocks[i].ins.map (insC m f)) = 0
      · rw [if_pos hy, hy, firstNZ_cons0]
        simp only [Option.bind_some, fettleref02_Func.nx40, rend_c f f.blocks[i].term h2 hE, w64_i hi (show f.blocks.length ≤ 1000 by omega)]
        rw [c_step (out := fun c => c)]
        by_cases he : endC f f.blocks[i].term = 0
        · rw [he]; rfl
        · rw [firstNZ_cons _ he]
      · rw [if_neg hy, firstNZ_cons _ hy]
        simp only [Option.bind_some]
        rw [if_neg hy]
    · rw [if_neg hz, firstNZ_cons _ hz]
      simp only [Option.bind_some]
      rw [if_neg hz]) (by simp [fettleref02_Func.bd14, len])
  rw [hs]
  by_cases hz : firstNZ (f.blocks.map (blkC m f)) = 0
  · rw [if_pos hz, hz]; rfl
  · rw [if_neg hz]; rfl
/-- check.Module tells what the document says. -/
theorem module_exact (m : PModule) (hm : SmM m) : ∃ e c a, check_Module m = some e ∧ fettleref02_Module m = some (c, a) ∧ ofF e = (c, a) ∧ (e = .no ↔ c = 0) := by
  obtain ⟨hl, hf⟩ := hm
  unfold check_Module fettleref02_Module
  by_cases h : m.funcs.length ≤ 32
  · rw [if_neg (by simp only [len]; omega), if_neg (by simp only [len]; omega)]
    have hmx := le_max hl (by omega)
    rcases scan0 m.funcs (fun i f => if funC m f = 0 then none else some (GErr.spot (i : Int) (gErr (funC m f)))) (fun s => check_Module.bd11 m s) hmx (fun i hi => by
      simp only [check_Module.bd11, len_lt, hi, if_true, Option.bind_some, func_c m i hi (hf _ (List.getElem_mem hi)), w64_at hi hmx]
      by_cases hc : funC m m.funcs[i] = 0
      · rw [if_pos hc, if_neg (by simp [gErr_no, hc])]
      · rw [if_neg hc, if_pos (by simp [gErr_no, hc])]) (by simp [check_Module.bd11, len]) with ⟨i, hi, r, h1, h2, h3⟩ | ⟨h1, h3⟩
    · rcases scan0 m.funcs (fun i f => if funC m f = 0 then none else some (funC m f, (i : Int))) (fun s => fettleref02_Module.bd11 m s) hmx (fun i hi => by
        simp only [fettleref02_Module.bd11, len_lt, hi, if_true, Option.bind_some, rfunc_c m i hi (hf _ (List.getElem_mem hi)), w64_at hi hmx]
        by_cases hc : funC m m.funcs[i] = 0
        · rw [if_pos hc, if_neg (by simpa using hc)]
        · rw [if_neg hc, if_pos hc]) (by simp [fettleref02_Module.bd11, len]) with ⟨j, hj, q, g1, g2, g3⟩ | ⟨g1, g3⟩
      · have hij : i = j := by
          rcases Nat.lt_trichotomy i j with h | h | h
          · have := g2 i hi h
            by_cases hc : funC m m.funcs[i] = 0
            · rw [if_pos hc] at h1; cases h1
            · rw [if_neg hc] at this; cases this
          · exact h
          · have := h2 j hj h
            by_cases hc : funC m m.funcs[j] = 0
            · rw [if_pos hc] at g1; cases g1
            · rw [if_neg hc] at this; cases this
        subst hij
        rw [h3, g3]
        by_cases hc : funC m m.funcs[i] = 0
        · rw [if_pos hc] at h1; cases h1
        · rw [if_neg hc] at h1 g1
          cases h1; cases g1
          refine ⟨_, _, _, rfl, rfl, ?_, by simp [hc]⟩
          have := funC_range m m.funcs[i]
          simp only [ofF, gErr, if_neg hc, codeF]
          rw [if_pos (by omega)]
      · exfalso
        have := g1 i hi
        by_cases hc : funC m m.funcs[i] = 0
        · rw [if_pos hc] at h1; cases h1
        · rw [if_neg hc] at this; cases this
    · rcases scan0 m.funcs (fun i f => if funC m f = 0 then none else some (funC m f, (i : Int))) (fun s => fettleref02_Module.bd11 m s) hmx (fun i hi => by
        simp only [fettleref02_Module.bd11, len_lt, hi, if_true, Option.bind_some, rfunc_c m i hi (hf _ (List.getElem_mem hi)), w64_at hi hmx]
        by_cases hc : funC m m.funcs[i] = 0
        · rw [if_pos hc, if_neg (by simpa using hc)]
        · rw [if_neg hc, if_pos hc]) (by simp [fettleref02_Module.bd11, len]) with ⟨j, hj, q, g1, g2, g3⟩ | ⟨g1, g3⟩
      · exfalso
        have := h1 j hj
        by_cases hc : funC m m.funcs[j] = 0
        · rw [if_pos hc] at g1; cases g1
        · rw [if_neg hc] at this; cases this
      · rw [h3, g3]
        exact ⟨_, _, _, rfl, rfl, rfl, by simp⟩
  · rw [if_pos (by simp only [len]; omega), if_pos (by simp only [len]; omega)]
    exact ⟨_, _, _, rfl, rfl, rfl, by simp⟩
end Go.Proofs.YtpomfbdbkejedaaGreatDoor
set_option linter.unusedVariables false
set_option linter.unusedSimpArgs false
namespace Go.Proofs.YtpomfbdbkejedaaGreatDoor
open Go Go.Proofs

/-- The inner loop of the reference: whether the block is told already, or is out of range. -/
theorem refNext_in (acc : List Int) (t : Int) (b0 : Bool) (hl : acc.length ≤ maxLen) :
    whl (fun (s : Bool × Int) => fettleref05_Next.bd34 acc t s.1 s.2) FUEL (b0, 0) = some (b0 || decide (t ∈ acc)) := by
  have := whl_run (body := fun (s : Bool × Int) => fettleref05_Next.bd34 acc t s.1 s.2) (r := b0 || decide (t ∈ acc)) acc.length FUEL
    (fun i => (b0 || decide (t ∈ acc.take i), (i : Int))) (fun i hi => by
      simp only [fettleref05_Next.bd34, len_lt, hi, if_true, idx_lt hi, Option.bind_some, w64_at hi hl, List.take_succ_eq_append_getElem hi, List.mem_append, List.mem_singleton]
      cases hb : (b0 || decide (t ∈ acc.take i)) with
      | true =>
        simp only [if_true, Option.bind_some]
        have : (b0 || decide (t ∈ List.take i acc ∨ t = acc[i])) = true := by
          simp only [Bool.or_eq_true, decide_eq_true_eq] at hb ⊢
          rcases hb with hb | hb
          · exact .inl hb
          · exact .inr (.inl hb)
        rw [this]
      | false =>
        simp only [Bool.or_eq_false_iff, decide_eq_false_iff_not] at hb
        simp only [Bool.false_eq_true, if_false, Option.bind_some, hb.1, Bool.false_or, hb.2, false_or, eq_comm (a := t)])
    (by simp [fettleref05_Next.bd34, len]) (lt_FUEL hl)
  simpa using this
theorem refNext_eq (f : PFunc) (b : Nat) (hb : b < f.blocks.length) (hn : f.blocks.length ≤ maxLen) (ht : (f.blocks[b]).term.to.length ≤ 70) :
    fettleref05_Next f b = some (succs f.blocks.length (f.blocks[b]).term.to) := by
  unfold fettleref05_Next
  have hrun := whl_run (body := fun (s : List Int × Int) => fettleref05_Next.bd8 f b s.1 s.2) (r := succs f.blocks.length (f.blocks[b]).term.to) (f.blocks[b]).term.to.length FUEL
    (fun i => (((f.blocks[b]).term.to.take i).foldl (addS f.blocks.length) [], (i : Int))) (fun i hi => by
      have hal : (((f.blocks[b]).term.to.take i).foldl (addS f.blocks.length) []).length ≤ 70 := by
        have := foldl_addS_length f.blocks.length ((f.blocks[b]).term.to.take i) []
        simp at this; omega
      simp only [fettleref05_Next.bd8, idx_lt hb, Option.bind_some, len_lt, hi, if_true, idx_lt hi, foldl_take _ _ _ hi]
      rw [refNext_in _ _ _ (by simp only [maxLen]; omega)]
      simp only [Option.bind_some, fettleref05_Next.nx34, fettleref05_Next.jn19, w64_at hi (show (f.blocks[b]).term.to.length ≤ maxLen by simp only [maxLen]; omega)]
      generalize ((f.blocks[b]).term.to.take i).foldl (addS f.blocks.length) [] = acc at hal
      generalize (f.blocks[b]).term.to[i] = t
      unfold addS
      by_cases hc : 0 ≤ t ∧ t < (f.blocks.length : Int) ∧ t ∉ acc
      · rw [if_pos hc]
        have h1 : (decide (t < 0 ∨ t ≥ len f.blocks) || decide (t ∈ acc)) = false := by
          simp only [Bool.or_eq_false_iff, decide_eq_false_iff_not, len]
          exact ⟨by omega, hc.2.2⟩
        rw [h1]
        have h2 : acc.length + 1 < LIM := by simp only [LIM]; omega
        simp [cat, h2]
      · rw [if_neg hc]
        have h1 : (decide (t < 0 ∨ t ≥ len f.blocks) || decide (t ∈ acc)) = true := by
          simp only [Bool.or_eq_true, decide_eq_true_eq, len]
          by_cases h2 : t ∈ acc
          · exact .inr h2
          · left
            by_cases h3 : t < 0
            · exact .inl h3
            · right
              by_cases h4 : t < (f.blocks.length : Int)
              · exact absurd ⟨by omega, h4, h2⟩ hc
              · omega
        rw [h1]
        simp) (by simp [fettleref05_Next.bd8, idx_lt hb, len, succs]) (lt_FUEL (by simp only [maxLen]; omega))
  simp only [List.take_zero, List.foldl_nil] at hrun
  have h0 : (([] : List Int), ((0 : Nat) : Int)) = (([] : List Int), (0 : Int)) := rfl
  rw [h0] at hrun
  rw [hrun]
  rfl
/-! ### What From marks -/
def nxW (f : PFunc) (w : Int) : List (List Int) := (nexts f).map fun row => row.filter fun x => decide (x ≠ w)
theorem nxW_get (f : PFunc) (w : Int) {v : Nat} {row : List Int} (h : (nexts f)[v]? = some row) : (nxW f w)[v]? = some (row.filter fun x => decide (x ≠ w)) := by simp [nxW, h]
theorem nxW_inv (f : PFunc) (w : Int) {v : Nat} {row : List Int} (h : (nxW f w)[v]? = some row) : ∃ r, (nexts f)[v]? = some r ∧ row = r.filter fun x => decide (x ≠ w) := by
  unfold nxW at h
  rw [List.getElem?_map] at h
  cases hr : (nexts f)[v]? with
  | none => rw [hr] at h; cases h
  | some r => rw [hr] at h; cases h; exact ⟨r, rfl, rfl⟩
theorem fromW_row (f : PFunc) (w : Int) (v : Nat) (row : List Int) (hrow : (nexts f)[v]? = some row) (s : List Bool) (hl : s.length = f.blocks.length) (hv : sn s v) (hr70 : row.length ≤ 70) (hin : ∀ x ∈ row, 0 ≤ x ∧ x < (f.blocks.length : Int)) :
    ∃ z, whl (fun (q : List Bool × Int) => fettleref05_From.bd59 w row q.1 q.2) FUEL (s, 0) = some z ∧ M (nxW f w) s z ∧ ∀ x ∈ row, x ≠ w → ∃ u : Nat, x = u ∧ sn z u := by
  refine whl_ex (fun q : List Bool × Int => ∃ i : Nat, q.2 = i ∧ i ≤ row.length ∧ M (nxW f w) s q.1 ∧ ∀ x ∈ row.take i, x ≠ w → ∃ u : Nat, x = u ∧ sn q.1 u)
    (fun q => row.length - q.2.toNat) (fun z : List Bool => M (nxW f w) s z ∧ ∀ x ∈ row, x ≠ w → ∃ u : Nat, x = u ∧ sn z u) ?_ FUEL _ ⟨0, rfl, Nat.zero_le _, M.refl _ _, by simp⟩ (by simp; exact lt_FUEL (by simp only [maxLen]; omega))
  rintro ⟨s1, j⟩ ⟨i, rfl, hi, hM, hseen⟩
  simp only at hM hseen ⊢
  by_cases hlt : i < row.length
  · right
    have hx := hin _ (List.getElem_mem hlt)
    obtain ⟨t, htt⟩ : ∃ t : Nat, row[i] = t := ⟨(row[i]).toNat, by omega⟩
    have htl : t < s1.length := by rw [hM.len, hl]; omega
    have hw64 := w64_at hlt (show row.length ≤ maxLen by simp only [maxLen]; omega)
    by_cases hc : (t : Int) = w
    · refine ⟨(s1, ((i + 1 : Nat) : Int)), by simp only [fettleref05_From.bd59, len_lt, hlt, if_true, idx_lt hlt, htt, Option.bind_some]; rw [if_neg (by simpa using hc)]; simp only [fettleref05_From.jn69, hw64], ⟨i + 1, rfl, hlt, hM, fun x hx' hxw => ?_⟩, by simp; omega⟩
      rw [List.take_succ_eq_append_getElem hlt, List.mem_append] at hx'
      rcases hx' with hx' | hx'
      · exact hseen x hx' hxw
      · simp only [List.mem_singleton] at hx'
        exact absurd (hx'.trans (htt.trans hc)) hxw
    · refine ⟨(s1.set t true, ((i + 1 : Nat) : Int)), by simp only [fettleref05_From.bd59, len_lt, hlt, if_true, idx_lt hlt, htt, Option.bind_some]; rw [if_pos hc]; simp only [idx_lt htl, Option.bind_some, fettleref05_From.jn69, hw64, Int.toNat_natCast], ⟨i + 1, rfl, hlt, hM.trans ⟨by simp, fun u hu => ?_, fun C hC hs u hu => ?_⟩, fun x hx' hxw => ?_⟩, by simp; omega⟩
      · unfold sn at hu ⊢; rw [get_set _ _ _ htl]; split <;> simp_all
      · unfold sn at hu; rw [get_set _ _ _ htl] at hu
        split at hu
        · rename_i he; subst he
          exact hC v t _ (hs v (hM.mono v hv)) (nxW_get f w hrow) (List.mem_filter.2 ⟨by rw [← htt]; exact List.getElem_mem hlt, by simpa using hc⟩)
        · exact hs u hu
      · rw [List.take_succ_eq_append_getElem hlt, List.mem_append] at hx'
        rcases hx' with hx' | hx'
        · obtain ⟨u, rfl, hu⟩ := hseen x hx' hxw
          refine ⟨u, rfl, ?_⟩
          unfold sn at hu ⊢; rw [get_set _ _ _ htl]; split <;> simp_all
        · simp only [List.mem_singleton] at hx'
          exact ⟨t, hx'.trans htt, by unfold sn; rw [get_set _ _ _ htl, if_pos rfl]⟩
  · left
    have hie : i = row.length := by omega
    exact ⟨s1, by simp [fettleref05_From.bd59, len, hie], hM, fun x hx' => hseen x (by rw [hie, List.take_length]; exact hx')⟩
theorem fromW_round (f : PFunc) (w : Int) (hn : f.blocks.length ≤ 70) (ht : ∀ B ∈ f.blocks, B.term.to.length ≤ 70) (s : List Bool) (hl : s.length = f.blocks.length) :
    ∃ z, whl (fun (q : List Bool × Int) => fettleref05_From.bd37 f w q.1 q.2) FUEL (s, 0) = some z ∧ M (nxW f w) s z ∧ ∀ (v u : Nat) (row : List Int), sn s v → (nxW f w)[v]? = some row → (u : Int) ∈ row → sn z u := by
  refine whl_ex (fun q : List Bool × Int => ∃ i : Nat, q.2 = i ∧ i ≤ f.blocks.length ∧ M (nxW f w) s q.1 ∧ ∀ (v u : Nat) (row : List Int), v < i → sn s v → (nxW f w)[v]? = some row → (u : Int) ∈ row → sn q.1 u)
    (fun q => f.blocks.length - q.2.toNat) (fun z : List Bool => M (nxW f w) s z ∧ ∀ (v u : Nat) (row : List Int), sn s v → (nxW f w)[v]? = some row → (u : Int) ∈ row → sn z u) ?_ FUEL _ ⟨0, rfl, Nat.zero_le _, M.refl _ _, fun v u row h => by omega⟩ (by simp; exact lt_FUEL (by simp only [maxLen]; omega))
  rintro ⟨s1, j⟩ ⟨i, rfl, hi, hM, hdone⟩
  simp only at hM hdone ⊢
  have hl1 : s1.length = f.blocks.length := by rw [hM.len, hl]
  by_cases hlt : i < f.blocks.length
  · right
    have hlt1 : i < s1.length := by omega
    have hw := w64_at hlt (show f.blocks.length ≤ maxLen by simp only [maxLen]; omega)
    have hrow : (nexts f)[i]? = some (succs f.blocks.length (f.blocks[i]).term.to) := by simp [nexts, hlt]
    cases hs : s1[i] with
    | false =>
      refine ⟨(s1, ((i + 1 : Nat) : Int)), by simp [fettleref05_From.bd37, len_lt, hlt1, idx_lt hlt1, hs, fettleref05_From.jn47, hw], ⟨i + 1, rfl, hlt, hM, fun v u row hv h1 h2 h3 => ?_⟩, by simp; omega⟩
      rcases Nat.lt_succ_iff_lt_or_eq.1 hv with hv | hv
      · exact hdone v u row hv h1 h2 h3
      · subst hv
        have := hM.mono v h1
        unfold sn at this
        rw [List.getElem?_eq_getElem hlt1, hs] at this; cases this
    | true =>
      have hsn : sn s1 i := by unfold sn; rw [List.getElem?_eq_getElem hlt1, hs]
      have hlen := foldl_addS_length f.blocks.length (f.blocks[i]).term.to []
      have ht' := ht _ (List.getElem_mem hlt)
      obtain ⟨z, h1, h2, h3⟩ := fromW_row f w i _ hrow s1 hl1 hsn (by simp only [List.length_nil, Nat.zero_add] at hlen; exact Nat.le_trans hlen ht') succs_in
      refine ⟨(z, ((i + 1 : Nat) : Int)), by simp [fettleref05_From.bd37, len_lt, hlt1, idx_lt hlt1, hs, refNext_eq f i hlt (by simp only [maxLen]; omega) ht', h1, fettleref05_From.nx59, fettleref05_From.jn47, hw], ⟨i + 1, rfl, hlt, hM.trans h2, fun v u row hv g1 g2 g3 => ?_⟩, by simp; omega⟩
      rcases Nat.lt_succ_iff_lt_or_eq.1 hv with hv | hv
      · exact h2.mono u (hdone v u row hv g1 g2 g3)
      · subst hv
        obtain ⟨r, hr1, hr2⟩ := nxW_inv f w g2
        rw [hrow] at hr1; cases hr1
        subst hr2
        obtain ⟨g4, g5⟩ := List.mem_filter.1 g3
        obtain ⟨u', hu', g⟩ := h3 _ g4 (by simpa using g5)
        have : u = u' := by omega
        subst this; exact g
  · left
    have hie : i = f.blocks.length := by omega
    refine ⟨s1, by simp [fettleref05_From.bd37, len, hl1, hie], hM, fun v u row h1 h2 h3 => hdone v u row ?_ h1 h2 h3⟩
    rw [hie, ← hl]; exact (List.getElem?_eq_some_iff.1 h1).1
theorem fromW_all (f : PFunc) (w : Int) (hn : f.blocks.length ≤ 70) (ht : ∀ B ∈ f.blocks, B.term.to.length ≤ 70) (s : List Bool) (hl : s.length = f.blocks.length) {r0 : Nat} (h0 : sn s r0) :
    ∃ z, whl (fun (q : List Bool × Int) => fettleref05_From.bd23 f w q.1 q.2) FUEL (s, 0) = some z ∧ M (nxW f w) s z ∧ Closed (nxW f w) (sn z) := by
  have hpos : r0 < s.length := (List.getElem?_eq_some_iff.1 h0).1
  have hc0 : cnt s + 1 ≤ s.length := by
    have h1 := cnt_less (s := List.replicate s.length false) (t := s) (by simp) (fun v hv => by
      unfold sn at hv; rw [List.getElem?_replicate] at hv; split at hv <;> simp at hv) h0 (fun hv => by
      unfold sn at hv; rw [List.getElem?_replicate] at hv; split at hv <;> simp at hv)
    have h2 : cnt (List.replicate s.length false) = s.length := by simp [cnt]
    omega
  refine whl_ex (fun q : List Bool × Int => ∃ i : Nat, q.2 = i ∧ i ≤ f.blocks.length ∧ M (nxW f w) s q.1 ∧ (Closed (nxW f w) (sn q.1) ∨ cnt q.1 + i + 1 ≤ f.blocks.length))
    (fun q => f.blocks.length - q.2.toNat) (fun z : List Bool => M (nxW f w) s z ∧ Closed (nxW f w) (sn z)) ?_ FUEL _ ⟨0, rfl, Nat.zero_le _, M.refl _ _, .inr (show cnt s + 0 + 1 ≤ f.blocks.length by omega)⟩ (by simp; exact lt_FUEL (by simp only [maxLen]; omega))
  rintro ⟨s1, j⟩ ⟨i, rfl, hi, hM, hcl⟩
  simp only at hM hcl ⊢
  have hl1 : s1.length = f.blocks.length := by rw [hM.len, hl]
  by_cases hlt : i < f.blocks.length
  · right
    have hlt1 : i < s1.length := by omega
    obtain ⟨z, h1, h2, h3⟩ := fromW_round f w hn ht s1 hl1
    have hw := w64_at hlt (show f.blocks.length ≤ maxLen by simp only [maxLen]; omega)
    refine ⟨(z, ((i + 1 : Nat) : Int)), by simp [fettleref05_From.bd23, len_lt, hlt1, h1, fettleref05_From.nx37, hw], ⟨i + 1, rfl, hlt, hM.trans h2, ?_⟩, by simp; omega⟩
    by_cases hc : Closed (nxW f w) (sn s1)
    · left
      have hback : ∀ v, sn z v → sn s1 v := h2.sound _ hc (fun v hv => hv)
      exact fun v u row g1 g2 g3 => h2.mono u (hc v u row (hback v g1) g2 g3)
    · right
      rcases hcl with hcl | hcl
      · exact absurd hcl hc
      · have : ∃ v, sn z v ∧ ¬ sn s1 v := Classical.byContradiction fun hno => hc fun v u row g1 g2 g3 => Classical.byContradiction fun g4 => hno ⟨u, h3 v u row g1 g2 g3, g4⟩
        obtain ⟨v, g1, g2⟩ := this
        have := cnt_less (by rw [h2.len]) h2.mono g1 g2
        show cnt z + (i + 1) + 1 ≤ f.blocks.length
        omega
  · left
    have hie : i = f.blocks.length := by omega
    refine ⟨s1, by simp [fettleref05_From.bd23, len, hl1, hie], hM, ?_⟩
    rcases hcl with hcl | hcl
    · exact hcl
    · omega
theorem from_at (f : PFunc) (hf : SmF f) (r : Nat) (hr : r < f.blocks.length) (w : Int) (hw0 : w ≠ r) : ∃ z, fettleref05_From f r w = some z ∧ z.length = f.blocks.length ∧ ∀ b, sn z b ↔ Reach (nxW f w) r b := by
  obtain ⟨hn, _, _, hB⟩ := hf
  have ht : ∀ B ∈ f.blocks, B.term.to.length ≤ 70 := fun B hm => (hB B hm).2.2.1
  unfold fettleref05_From
  simp only [len, mkl_rep false hn, Option.bind_some, List.length_replicate]
  rw [if_neg (by omega)]
  have hi : idx (List.replicate f.blocks.length false) (r : Int) = some false := by
    have := idx_lt (xs := List.replicate f.blocks.length false) (i := r) (by simpa using hr)
    simpa using this
  rw [hi]
  simp only [Option.bind_some, Int.toNat_natCast]
  have hl0 : ((List.replicate f.blocks.length false).set r true).length = f.blocks.length := by simp
  have h00 : sn ((List.replicate f.blocks.length false).set r true) r := by unfold sn; rw [get_set _ _ _ (by simpa using hr), if_pos rfl]
  obtain ⟨z, h1, h2, h3⟩ := fromW_all f w hn ht _ hl0 h00
  rw [h1]
  refine ⟨z, rfl, h2.len.trans hl0, fun b => ⟨fun hb => ?_, fun hb => ?_⟩⟩
  · refine h2.sound (fun v => Reach (nxW f w) r v) (fun v u row g1 g2 g3 => .step g1 g2 g3) (fun v hv => ?_) b hb
    unfold sn at hv
    rw [get_set _ _ _ (by simpa using hr)] at hv
    split at hv
    · rename_i he; subst he; exact .refl _
    · rw [List.getElem?_replicate] at hv; split at hv <;> simp at hv
  · have hz0 : sn z r := h2.mono r h00
    induction hb with
    | refl => exact hz0
    | step _ g5 g6 ih => exact h3 _ _ _ ih g5 g6
theorem nxW_none (f : PFunc) : nxW f (-1) = nexts f := by
  unfold nxW
  have : ∀ row ∈ nexts f, (row.filter fun x => decide (x ≠ -1)) = row := fun row hr => by
    obtain ⟨B, hB, rfl⟩ := List.mem_map.1 hr
    rw [List.filter_eq_self]
    intro x hx
    have := succs_in x hx
    simp; omega
  rw [List.map_congr_left this]; simp
theorem from_cut (f : PFunc) (hf : SmF f) (hpos : 0 < f.blocks.length) (w : Int) (hw0 : w ≠ 0) : ∃ z, fettleref05_From f 0 w = some z ∧ z.length = f.blocks.length ∧ ∀ b, sn z b ↔ Reach (nxW f w) 0 b := from_at f hf 0 hpos w hw0
theorem from_zero (f : PFunc) (hf : SmF f) : fettleref05_From f 0 0 = some (List.replicate f.blocks.length false) := by
  unfold fettleref05_From
  simp only [len, mkl_rep false hf.1, Option.bind_some]
  rw [if_pos (by simp)]
/-- Without restriction: what the walk has seen. -/
theorem from_any (f : PFunc) (hf : SmF f) (hpos : 0 < f.blocks.length) {s : List Bool} {o : List Int} (hw : Walked f s o) : fettleref05_From f 0 (-1) = some s := by
  obtain ⟨s1, o1, hw1, -, h11⟩ := walked_any f hf
  obtain rfl : s1 = s := Option.some.inj (hw1.rea.symm.trans hw.rea)
  obtain ⟨hV, hs0, _⟩ := h11 hpos
  obtain ⟨z, h1, h2, h3⟩ := from_cut f hf hpos (-1) (by omega)
  rw [h1]
  have hnx : nxW f (-1) = nexts f := by
    unfold nxW
    have : ∀ row ∈ nexts f, (row.filter fun x => decide (x ≠ -1)) = row := fun row hr => by
      obtain ⟨B, hB, rfl⟩ := List.mem_map.1 hr
      rw [List.filter_eq_self]
      intro x hx
      have := succs_in x hx
      simp; omega
    rw [List.map_congr_left this]; simp
  rw [hnx] at h3
  have hfalse : ∀ v, v < f.blocks.length → (List.replicate f.blocks.length false)[v]? = some false := fun v hv => by simp [hv]
  have hsl := hw1.len
  have hclS : ∀ (v u : Nat) (row : List Int), sn s1 v → (nexts f)[v]? = some row → (u : Int) ∈ row → sn s1 u := fun v u row g1 g2 g3 => hV.clos v u row g1 (hfalse v (by rw [← hsl]; exact (List.getElem?_eq_some_iff.1 g1).1)) g2 g3
  have hiff : ∀ b, sn z b ↔ sn s1 b := fun b => by
    rw [h3]
    constructor
    · intro hr
      induction hr with
      | refl => exact hs0
      | step _ g5 g6 ih => exact hclS _ _ _ ih g5 g6
    · intro hv
      obtain ⟨r, hr0, hr⟩ := hV.reach b hv (hfalse b (by rw [← hsl]; exact (List.getElem?_eq_some_iff.1 hv).1))
      have hr0 : r = 0 := hr0
      subst hr0; exact hr
  congr 1
  apply List.ext_getElem (by omega)
  intro v g1 g2
  have := hiff v
  unfold sn at this
  rw [List.getElem?_eq_getElem g1, List.getElem?_eq_getElem g2] at this
  cases h4 : z[v] <;> cases h5 : s1[v] <;> simp_all
end Go.Proofs.YtpomfbdbkejedaaGreatDoor
set_option linter.unusedVariables false
set_option linter.unusedSimpArgs false
namespace Go.Proofs.YtpomfbdbkejedaaGreatDoor
open Go Go.Proofs

theorem sn_gb {z : List Bool} {b : Nat} (h : b < z.length) : sn z b ↔ gb z (b : Int) = true := by
  simp [sn, gb, List.getD_eq_getElem?_getD, h]
/-- A block that is reached leads round to itself. -/
def Round (f : PFunc) (s : List Bool) : Prop := ∃ (b x : Nat) (row : List Int), s[b]? = some true ∧ (nexts f)[b]? = some row ∧ (x : Int) ∈ row ∧ Reach (nexts f) x b
open Classical in
theorem round_row (f : PFunc) (hf : SmF f) (b : Nat) (hb : b < f.blocks.length) (row : List Int) (hrow : (nexts f)[b]? = some row) :
    (whl (fun (s : Int) => fettleref15_round.bd30 f (b : Int) row s) FUEL 0 = some (.ret true) ∧ ∃ x : Nat, (x : Int) ∈ row ∧ Reach (nexts f) x b) ∨
    (whl (fun (s : Int) => fettleref15_round.bd30 f (b : Int) row s) FUEL 0 = some (.go ()) ∧ ¬ ∃ x : Nat, (x : Int) ∈ row ∧ Reach (nexts f) x b) := by
  have ht : ∀ B ∈ f.blocks, B.term.to.length ≤ 70 := fun B hm => (hf.2.2.2 B hm).2.2.1
  obtain ⟨hl, hin⟩ := nexts_rows f ht b row hrow
  rw [nexts_length] at hin
  have hm := le_max hl (by omega)
  have key : ∀ i (hi : i < row.length), ∃ x : Nat, row[i] = (x : Int) ∧ ∃ z, fettleref05_From f (x : Int) (-1) = some z ∧ idx z (b : Int) = some (gb z (b : Int)) ∧ (gb z (b : Int) = true ↔ Reach (nexts f) x b) := by
    intro i hi
    have h1 := hin _ (List.getElem_mem hi)
    obtain ⟨x, hx⟩ : ∃ x : Nat, row[i] = (x : Int) := ⟨(row[i]).toNat, by omega⟩
    obtain ⟨z, h2, h3, h4⟩ := from_at f hf x (by omega) (-1) (by omega)
    rw [nxW_none] at h4
    exact ⟨x, hx, z, h2, idx_gb ⟨by omega, by omega⟩, by rw [← h4, sn_gb (by omega)]⟩
  have := scanQ row.length hm (fun i => ∃ x : Nat, row[i]? = some (x : Int) ∧ Reach (nexts f) x b) (fun s => fettleref15_round.bd30 f (b : Int) row s) (fun i hi => by
    obtain ⟨x, h1, z, h2, h3, h4⟩ := key i hi
    have hP : (∃ x : Nat, row[i]? = some (x : Int) ∧ Reach (nexts f) x b) ↔ gb z (b : Int) = true := by
      rw [h4, List.getElem?_eq_getElem hi, h1]
      constructor
      · rintro ⟨y, hy, hr⟩
        have : x = y := by have := Option.some.inj hy; omega
        subst this; exact hr
      · exact fun hr => ⟨x, rfl, hr⟩
    cases hg : gb z (b : Int) with
    | true => left; rw [hP]; simp only [fettleref15_round.bd30, len_lt, hi, if_true, idx_lt hi, Option.bind_some, h1, h2, h3, hg, and_self]
    | false => right; rw [hP]; simp only [fettleref15_round.bd30, len_lt, hi, if_true, idx_lt hi, Option.bind_some, h1, h2, h3, hg, Bool.false_eq_true, if_false, w64_at hi hm, not_false_eq_true, and_self]) (by simp [fettleref15_round.bd30, len])
  have hex : (∃ i, i < row.length ∧ ∃ x : Nat, row[i]? = some (x : Int) ∧ Reach (nexts f) x b) ↔ ∃ x : Nat, (x : Int) ∈ row ∧ Reach (nexts f) x b := by
    constructor
    · rintro ⟨i, hi, x, hx, hr⟩; exact ⟨x, List.mem_of_getElem? hx, hr⟩
    · rintro ⟨x, hx, hr⟩
      obtain ⟨i, hi, he⟩ := List.getElem_of_mem hx
      exact ⟨i, hi, x, by rw [List.getElem?_eq_getElem hi, he], hr⟩
  rcases this with ⟨h1, h2⟩ | ⟨h1, h2⟩
  · exact .inl ⟨h1, hex.1 h2⟩
  · exact .inr ⟨h1, fun h => by obtain ⟨i, hi, hx⟩ := hex.2 h; exact h2 i hi hx⟩
open Classical in
theorem round_eq (f : PFunc) (hf : SmF f) (s : List Bool) (hs : s.length = f.blocks.length) : fettleref15_round f s = some (decide (Round f s)) := by
  have hn : f.blocks.length ≤ 70 := hf.1
  have ht : ∀ B ∈ f.blocks, B.term.to.length ≤ 70 := fun B hm => (hf.2.2.2 B hm).2.2.1
  have hm : s.length ≤ maxLen := le_max (by omega : s.length ≤ 70) (by omega)
  have := scanQ s.length hm (fun b => s[b]? = some true ∧ ∃ row, (nexts f)[b]? = some row ∧ ∃ x : Nat, (x : Int) ∈ row ∧ Reach (nexts f) x b) (fun q => fettleref15_round.bd8 f s q) (fun b hb => by
    have hbf : b < f.blocks.length := by omega
    have hrow := nexts_get f b hbf
    cases hsb : s[b] with
    | false =>
      right
      refine ⟨by simp only [fettleref15_round.bd8, len_lt, hb, if_true, idx_lt hb, Option.bind_some, hsb, Bool.not_false, fettleref15_round.jn18, w64_at hb hm], fun h => ?_⟩
      rw [List.getElem?_eq_getElem hb, hsb] at h
      simp at h
    | true =>
      have hnext := refNext_eq f b hbf (le_max hn (by omega)) (ht _ (List.getElem_mem hbf))
      rcases round_row f hf b hbf _ hrow with ⟨h1, h2⟩ | ⟨h1, h2⟩
      · left
        exact ⟨by simp only [fettleref15_round.bd8, len_lt, hb, if_true, idx_lt hb, Option.bind_some, hsb, Bool.not_true, Bool.false_eq_true, if_false, hnext, h1], by rw [List.getElem?_eq_getElem hb, hsb], _, hrow, h2⟩
      · right
        refine ⟨by simp only [fettleref15_round.bd8, len_lt, hb, if_true, idx_lt hb, Option.bind_some, hsb, Bool.not_true, Bool.false_eq_true, if_false, hnext, h1, fettleref15_round.nx30, fettleref15_round.jn18, w64_at hb hm], ?_⟩
        rintro ⟨_, row, hr, hx⟩
        rw [hrow] at hr
        cases hr
        exact h2 hx) (by simp [fettleref15_round.bd8, len])
  have hex : Round f s ↔ ∃ b, b < s.length ∧ s[b]? = some true ∧ ∃ row, (nexts f)[b]? = some row ∧ ∃ x : Nat, (x : Int) ∈ row ∧ Reach (nexts f) x b := by
    constructor
    · rintro ⟨b, x, row, h1, h2, h3, h4⟩
      exact ⟨b, (List.getElem?_eq_some_iff.1 h1).1, h1, row, h2, x, h3, h4⟩
    · rintro ⟨b, _, h1, row, h2, x, h3, h4⟩
      exact ⟨b, x, row, h1, h2, h3, h4⟩
  unfold fettleref15_round
  rcases this with ⟨h1, h2⟩ | ⟨h1, h2⟩
  · have hR := hex.2 h2
    simp only [h1, Option.bind_some, hR, decide_true]
  · have hR : ¬ Round f s := fun h => by obtain ⟨b, hb, hx⟩ := hex.1 h; exact h2 b hb hx
    simp only [h1, Option.bind_some, fettleref15_round.nx8, hR, decide_false]
open Classical in
theorem round_ex (f : PFunc) (hf : SmF f) (s : List Bool) (hs : s.length = f.blocks.length) : ∃ b, fettleref15_round f s = some b ∧ (b = true ↔ Round f s) :=
  ⟨_, round_eq f hf s hs, by simp⟩
end Go.Proofs.YtpomfbdbkejedaaGreatDoor
set_option linter.unusedVariables false
set_option linter.unusedSimpArgs false
namespace Go.Proofs.YtpomfbdbkejedaaGreatDoor
open Go Go.Proofs

/-- w is done ahead of v, or leads to it. -/
def Aft (nx : List (List Int)) (o : List Int) (v w : Nat) : Prop := (∃ a c, o = a ++ (v : Int) :: c ∧ (w : Int) ∈ a) ∨ Reach nx w v
theorem Aft.more {nx : List (List Int)} {o : List Int} {v w : Nat} (h : Aft nx o v w) (r : List Int) : Aft nx (o ++ r) v w := by
  rcases h with ⟨a, c, rfl, hw⟩ | h
  · exact .inl ⟨a, c ++ r, by simp, hw⟩
  · exact .inr h
structure Dfs (nx : List (List Int)) (s : List Bool) (o : List Int) (s' : List Bool) (o' : List Int) : Prop where
  len : s'.length = s.length
  mono : ∀ v : Nat, s[v]? = some true → s'[v]? = some true
  seen : ∀ v : Nat, s'[v]? = some true → s[v]? = some true ∨ (v : Int) ∈ o'
  new : ∃ new, o' = o ++ new ∧ ∀ (v w : Nat) (row : List Int), (v : Int) ∈ new → nx[v]? = some row → (w : Int) ∈ row → Aft nx o' v w
theorem Dfs.refl (nx : List (List Int)) (s : List Bool) (o : List Int) : Dfs nx s o s o := ⟨rfl, fun _ h => h, fun _ h => .inl h, [], by simp, fun v w row h => by simp at h⟩
theorem Dfs.trans {nx : List (List Int)} {s s1 s2 : List Bool} {o o1 o2 : List Int} (h : Dfs nx s o s1 o1) (k : Dfs nx s1 o1 s2 o2) : Dfs nx s o s2 o2 := by
  obtain ⟨n1, e1, h1⟩ := h.new
  obtain ⟨n2, e2, h2⟩ := k.new
  refine ⟨k.len.trans h.len, fun v hv => k.mono v (h.mono v hv), fun v hv => ?_, n1 ++ n2, by rw [e2, e1, List.append_assoc], fun v w row hv hr hw => ?_⟩
  · rcases k.seen v hv with hv | hv
    · rcases h.seen v hv with hv | hv
      · exact .inl hv
      · exact .inr (by rw [e2]; exact List.mem_append.2 (.inl hv))
    · exact .inr hv
  · rcases List.mem_append.1 hv with hv | hv
    · have := (h1 v w row hv hr hw).more n2
      rwa [← e2] at this
    · exact h2 v w row hv hr hw
theorem walk_dfs (nx : List (List Int)) (hrow : ∀ (v : Nat) (row : List Int), nx[v]? = some row → row.length ≤ 70 ∧ ∀ x ∈ row, 0 ≤ x ∧ x < (nx.length : Int)) :
    ∀ (k b : Nat) (s : List Bool) (o : List Int) (s' : List Bool) (o' : List Int), graph_order_1.it k b s nx o = some (s', o') → s.length = nx.length → b < nx.length → (∀ v : Nat, s[v]? = some true → (v : Int) ∈ o ∨ Reach nx v b) → Dfs nx s o s' o' ∧ (b : Int) ∈ o' ∧ s'[b]? = some true
  | 0, b, s, o, s', o', h, _, _, _ => by simp [graph_order_1.it] at h
  | k + 1, b, s, o, s', o', h, hl, hbn, hg => by
    have hbl : b < s.length := by omega
    obtain ⟨hr1, hr2⟩ := hrow b nx[b] (List.getElem?_eq_getElem hbn)
    have hm : nx[b].length ≤ maxLen := by simp only [maxLen]; omega
    simp only [graph_order_1.it, graph_order_1.body, idx_lt hbl, idx_lt hbn, Option.bind_some, Int.toNat_natCast] at h
    have hg' : ∀ v : Nat, (s.set b true)[v]? = some true → (v : Int) ∈ o ∨ Reach nx v b := fun v hv => by
      rw [get_set _ _ _ hbl] at hv
      split at hv
      · rename_i he; subst he; exact .inr (.refl _)
      · exact hg v hv
    cases hw : whl (fun (q : List Bool × List Int × Int) => graph_order_1.bd10 nx (graph_order_1.it k) nx[b] q.1 q.2.1 q.2.2) FUEL (s.set b true, o, 0) with
    | none => rw [hw] at h; cases h
    | some z =>
      rw [hw] at h
      have hz : Dfs nx (s.set b true) o z.1 z.2 ∧ ∀ x ∈ nx[b], ∃ v : Nat, x = v ∧ z.1[v]? = some true := by
        refine whl_inv (fun q : List Bool × List Int × Int => ∃ i : Nat, q.2.2 = i ∧ i ≤ nx[b].length ∧ Dfs nx (s.set b true) o q.1 q.2.1 ∧ ∀ x ∈ nx[b].take i, ∃ v : Nat, x = v ∧ q.1[v]? = some true)
          (fun z : List Bool × List Int => Dfs nx (s.set b true) o z.1 z.2 ∧ ∀ x ∈ nx[b], ∃ v : Nat, x = v ∧ z.1[v]? = some true) ?_ ?_ FUEL _ z ⟨0, rfl, Nat.zero_le _, Dfs.refl _ _ _, by simp⟩ hw
        · rintro ⟨s1, o1, j⟩ r ⟨i, rfl, hi, hD, hseen⟩ hb
          dsimp only at hD hseen hb
          by_cases hlt : i < nx[b].length
          · exfalso
            simp only [graph_order_1.bd10, len_lt, hlt, if_true, idx_lt hlt, Option.bind_some, graph_order_1.jn21] at hb
            cases h1 : idx s1 nx[b][i] with
            | none => rw [h1] at hb; cases hb
            | some f =>
              rw [h1] at hb
              simp only [Option.bind_some] at hb
              split at hb
              · cases h2 : graph_order_1.it k nx[b][i] s1 nx o1 with
                | none => rw [h2] at hb; cases hb
                | some y => rw [h2] at hb; simp at hb
              · simp at hb
          · have hie : i = nx[b].length := by omega
            simp only [graph_order_1.bd10, len_lt, hlt, if_false] at hb
            cases hb
            exact ⟨hD, fun x hx => hseen x (by rw [hie, List.take_length]; exact hx)⟩
        · rintro ⟨s1, o1, j⟩ ⟨s2, o2, j2⟩ ⟨i, rfl, hi, hD, hseen⟩ hb
          dsimp only at hD hseen hb ⊢
          by_cases hlt : i < nx[b].length
          · have hx := hr2 _ (List.getElem_mem hlt)
            obtain ⟨t, ht⟩ : ∃ t : Nat, nx[b][i] = t := ⟨(nx[b][i]).toNat, by omega⟩
            have htl : t < s1.length := by rw [hD.len, List.length_set, hl]; omega
            have hedge : Reach nx b t := .step (.refl b) (List.getElem?_eq_getElem hbn) (by rw [← ht]; exact List.getElem_mem hlt)
            simp only [graph_order_1.bd10, len_lt, hlt, if_true, idx_lt hlt, Option.bind_some, ht, idx_lt htl, graph_order_1.jn21, w64_at hlt hm] at hb
            obtain ⟨n1, e1, _⟩ := hD.new
            cases hf : s1[t] with
            | true =>
              rw [hf] at hb
              simp only [Bool.not_true, Bool.false_eq_true, if_false, Option.some.injEq, Ex.go.injEq, Prod.mk.injEq] at hb
              obtain ⟨rfl, rfl, rfl⟩ := hb
              refine ⟨i + 1, rfl, hlt, hD, fun x hx' => ?_⟩
              rw [List.take_succ_eq_append_getElem hlt, List.mem_append] at hx'
              rcases hx' with hx' | hx'
              · exact hseen x hx'
              · simp only [List.mem_singleton] at hx'
                exact ⟨t, hx'.trans ht, by rw [List.getElem?_eq_getElem htl, hf]⟩
            | false =>
              rw [hf] at hb
              simp only [Bool.not_false, if_true] at hb
              cases h2 : graph_order_1.it k t s1 nx o1 with
              | none => rw [h2] at hb; cases hb
              | some y =>
                obtain ⟨y1, y2⟩ := y
                rw [h2] at hb
                simp only [Option.bind_some, Option.some.injEq, Ex.go.injEq, Prod.mk.injEq] at hb
                obtain ⟨rfl, rfl, rfl⟩ := hb
                have htn : t < nx.length := by omega
                obtain ⟨hD2, hto, hst⟩ := walk_dfs nx hrow k t s1 o1 y1 y2 h2 (by rw [hD.len, List.length_set, hl]) htn (fun v hv => by
                  rcases hD.seen v hv with hv | hv
                  · rcases hg' v hv with hv | hv
                    · exact .inl (by rw [e1]; exact List.mem_append.2 (.inl hv))
                    · exact .inr (hv.trans hedge)
                  · exact .inl hv)
                refine ⟨i + 1, rfl, hlt, hD.trans hD2, fun x hx' => ?_⟩
                rw [List.take_succ_eq_append_getElem hlt, List.mem_append] at hx'
                rcases hx' with hx' | hx'
                · obtain ⟨v, rfl, hv⟩ := hseen x hx'
                  exact ⟨v, rfl, hD2.mono v hv⟩
                · simp only [List.mem_singleton] at hx'
                  exact ⟨t, hx'.trans ht, hst⟩
          · simp only [graph_order_1.bd10, len_lt, hlt, if_false] at hb
            cases hb
      obtain ⟨z1, z2⟩ := z
      obtain ⟨hD, hall⟩ := hz
      dsimp only at hD hall h
      simp only [Option.bind_some, graph_order_1.nx10] at h
      cases hcat : cat z2 [(b : Int)] with
      | none => rw [hcat] at h; cases h
      | some c =>
        obtain ⟨_, rfl⟩ := cat_some hcat
        rw [hcat] at h
        simp only [Option.bind_some, Option.some.injEq, Prod.mk.injEq] at h
        obtain ⟨rfl, rfl⟩ := h
        obtain ⟨n, e, hn⟩ := hD.new
        refine ⟨⟨hD.len.trans (by simp), fun v hv => hD.mono v ?_, fun v hv => ?_, n ++ [(b : Int)], by rw [e, List.append_assoc], fun v w row hv hr hw' => ?_⟩, by simp, hD.mono b (by rw [get_set _ _ _ hbl, if_pos rfl])⟩
        · rw [get_set _ _ _ hbl]; split <;> simp_all
        · rcases hD.seen v hv with hv | hv
          · rw [get_set _ _ _ hbl] at hv
            split at hv
            · rename_i he; subst he; exact .inr (by simp)
            · exact .inl hv
          · exact .inr (by simp [hv])
        · rcases List.mem_append.1 hv with hv | hv
          · exact (hn v w row hv hr hw').more _
          · have : v = b := by have := List.mem_singleton.1 hv; omega
            subst this
            rw [List.getElem?_eq_getElem hbn] at hr
            cases hr
            obtain ⟨w', hw1, hw2⟩ := hall _ hw'
            have : w = w' := by omega
            subst this
            rcases hD.seen w hw2 with h3 | h3
            · rcases hg' w h3 with h4 | h4
              · exact .inl ⟨z2, [], rfl, by rw [e]; exact List.mem_append.2 (.inl h4)⟩
              · exact .inr h4
            · exact .inl ⟨z2, [], rfl, h3⟩
end Go.Proofs.YtpomfbdbkejedaaGreatDoor
set_option linter.unusedVariables false
set_option linter.unusedSimpArgs false
namespace Go.Proofs.YtpomfbdbkejedaaGreatDoor
open Go Go.Proofs

theorem cs_nexts {f : PFunc} {v : Nat} {row : List Int} (h : (nexts f)[v]? = some row) : cs (nexts f) (v : Int) = row := by
  unfold cs
  rw [List.getD_eq_getElem?_getD]
  simp [h]
theorem turns_round (f : PFunc) (hf : SmF f) (hpos : 0 < f.blocks.length) : ∃ s tr, graph_Reached f = some s ∧ s.length = f.blocks.length ∧ fettleref05_From f 0 (-1) = some s ∧ effect_turns f = some tr ∧ (tr = true ↔ Round f s) := by
  have ht : ∀ B ∈ f.blocks, B.term.to.length ≤ 70 := fun B hm => (hf.2.2.2 B hm).2.2.1
  obtain ⟨s, o, hW, _, hw⟩ := walked_any f hf
  obtain ⟨hV, h0, hit⟩ := hw hpos
  obtain ⟨new, h2, hnd, h4⟩ := hV.app
  simp only [List.nil_append] at h2
  subst h2
  have hrep : ∀ v : Nat, s[v]? = some true → (List.replicate f.blocks.length false)[v]? = some false := fun v hv => by
    have := (List.getElem?_eq_some_iff.1 hv).1
    rw [hW.len] at this
    simp [this]
  have hmem : ∀ x, x ∈ o ↔ ∃ v : Nat, x = v ∧ s[v]? = some true := fun x => by
    rw [h4]
    constructor
    · rintro ⟨v, a, b, _⟩; exact ⟨v, a, b⟩
    · rintro ⟨v, a, b⟩; exact ⟨v, a, b, hrep v b⟩
  have hclo : ∀ (v w : Nat) (row : List Int), s[v]? = some true → (nexts f)[v]? = some row → (w : Int) ∈ row → s[w]? = some true := fun v w row hv hr hm => hV.clos v w row hv (hrep v hv) hr hm
  have hin : ∀ x, x ∈ o.reverse → ok f.blocks.length x := fun x hx => by
    obtain ⟨v, rfl, hv⟩ := (hmem x).1 (List.mem_reverse.1 hx)
    have := (List.getElem?_eq_some_iff.1 hv).1
    exact ok_nat (by rw [← hW.len]; exact this)
  obtain ⟨tr, htr, place, p1, p2, p3⟩ := turns_eq f hf o.reverse hW.ord (by simpa using hW.few) ((List.reverse_perm o).nodup_iff.2 hnd) hin
  refine ⟨s, tr, hW.rea, hW.len, from_any f hf hpos hW, htr, ?_⟩
  rw [p3]
  have hnl := nexts_length f
  obtain ⟨hD, _, _⟩ := walk_dfs (nexts f) (nexts_rows f ht) FUEL 0 (List.replicate f.blocks.length false) [] s o hit (by simp [hnl]) (by omega) (fun v hv => by
    rw [List.getElem?_replicate] at hv
    split at hv <;> simp at hv)
  obtain ⟨n, e, hn⟩ := hD.new
  simp only [List.nil_append] at e
  subst e
  constructor
  · rintro ⟨y, hy, x, hx, hle⟩
    obtain ⟨v, rfl, hv⟩ := (hmem y).1 (List.mem_reverse.1 hy)
    have hvl := (List.getElem?_eq_some_iff.1 hv).1
    have hrow := nexts_get f v (by rw [← hW.len]; exact hvl)
    rw [cs_nexts hrow] at hx
    obtain ⟨w, rfl⟩ : ∃ w : Nat, x = (w : Int) := ⟨x.toNat, by have := succs_in x hx; omega⟩
    rcases hn v w _ (List.mem_reverse.1 hy) hrow hx with ⟨a, c, ho, hwa⟩ | hr
    · exfalso
      obtain ⟨j, hj, hje⟩ := List.getElem_of_mem (List.mem_reverse.2 hwa)
      have e1 : o.reverse = c.reverse ++ (v : Int) :: a.reverse := by rw [ho]; simp
      have e2 : o.reverse[c.length]? = some (v : Int) := by rw [e1, List.getElem?_append_right (by simp)]; simp
      have e3 : o.reverse[c.length + 1 + j]? = some (w : Int) := by
        rw [e1, List.getElem?_append_right (by simp; omega)]
        simp only [List.length_reverse, show c.length + 1 + j - c.length = j + 1 by omega, List.getElem?_cons_succ]
        rw [List.getElem?_eq_getElem hj, hje]
      have e4 := p2 _ _ e2
      have e5 := p2 _ _ e3
      omega
    · exact ⟨v, w, _, hv, hrow, hx, hr⟩
  · rintro ⟨b, x, row, hb, hrow, hx, hr⟩
    refine Classical.byContradiction fun hno => ?_
    have hup : ∀ (v w : Nat) (row : List Int), s[v]? = some true → (nexts f)[v]? = some row → (w : Int) ∈ row → nu place (v : Int) < nu place (w : Int) := fun v w row hv hr hw => by
      rcases (by omega : nu place (v : Int) < nu place (w : Int) ∨ nu place (w : Int) ≤ nu place (v : Int)) with h | h
      · exact h
      · exact absurd ⟨(v : Int), List.mem_reverse.2 ((hmem _).2 ⟨v, rfl, hv⟩), (w : Int), by rw [cs_nexts hr]; exact hw, h⟩ hno
    have hsx := hclo b x row hb hrow hx
    have key : ∀ w : Nat, Reach (nexts f) x w → s[w]? = some true ∧ nu place (x : Int) ≤ nu place (w : Int) := by
      intro w h
      induction h with
      | refl => exact ⟨hsx, Int.le_refl _⟩
      | step _ g1 g2 ih =>
        have := hup _ _ _ ih.1 g1 g2
        exact ⟨hclo _ _ _ ih.1 g1 g2, by omega⟩
    have h1 := (key b hr).2
    have h2 := hup b x row hb hrow hx
    omega
end Go.Proofs.YtpomfbdbkejedaaGreatDoor
set_option linter.unusedVariables false
set_option linter.unusedSimpArgs false
namespace Go.Proofs.YtpomfbdbkejedaaGreatDoor
open Go Go.Proofs

/-- What an instruction brings in, by what is known of all. -/
def Br (l : List PEffect) (x : PInstr) (k : Nat) : Prop := bt (insE x) k = true ∨ (x.op = 17 ∧ bt (eg l x.fn) k = true)
def addI (e : PEffect) (x : PInstr) : PEffect := ⟨decide (e.reads = true ∨ x.op = 15), decide (e.writes = true ∨ x.op = 16), decide (e.outs = true ∨ x.op = 18), decide (((e.traps = true ∨ x.op = 11) ∨ x.op = 15) ∨ x.op = 16), e.turns⟩
def joinE (p q : PEffect) : PEffect := ⟨decide (p.reads = true ∨ q.reads = true), decide (p.writes = true ∨ q.writes = true), decide (p.outs = true ∨ q.outs = true), decide (p.traps = true ∨ q.traps = true), decide (p.turns = true ∨ q.turns = true)⟩
theorem bt_join (p q : PEffect) {k : Nat} (hk : k < 5) : bt (joinE p q) k = true ↔ bt p k = true ∨ bt q k = true := by
  rcases lt5 hk with rfl | rfl | rfl | rfl | rfl <;> simp [bt, joinE]
theorem bt_add (e : PEffect) (x : PInstr) {k : Nat} (hk : k < 5) : bt (addI e x) k = true ↔ bt e k = true ∨ bt (insE x) k = true := by
  rcases lt5 hk with rfl | rfl | rfl | rfl | rfl <;> simp [bt, addI, insE]
  constructor
  · rintro (((h | h) | h) | h)
    · exact .inl h
    · exact .inr (.inr (.inr h))
    · exact .inr (.inl h)
    · exact .inr (.inr (.inl h))
  · rintro (h | h | h | h)
    · exact .inl (.inl (.inl h))
    · exact .inl (.inr h)
    · exact .inr h
    · exact .inl (.inl (.inr h))
theorem once_ins {N : Nat} (l : List PEffect) (hl : l.length = N) (f : PFunc) (s : List Bool) (b : Nat) (hb : b < f.blocks.length) (hbs : b < s.length) (hB : f.blocks[b].ins.length ≤ 300) (hfn : ∀ x, x ∈ f.blocks[b].ins → x.op = 17 → ok N x.fn) (e : PEffect) :
    ∃ z, whl (fun (q : (Bool × Bool × Bool × Bool × Bool × Int)) => fettleref15_once.bd26 l f s (b : Int) q.1 q.2.1 q.2.2.1 q.2.2.2.1 q.2.2.2.2.1 q.2.2.2.2.2) FUEL (e.reads, e.writes, e.outs, e.traps, e.turns, 0) = some z ∧
      ∀ k, k < 5 → (bt ⟨z.1, z.2.1, z.2.2.1, z.2.2.2.1, z.2.2.2.2⟩ k = true ↔ bt e k = true ∨ (s[b] = true ∧ ∃ x, x ∈ f.blocks[b].ins ∧ Br l x k)) := by
  have hm := le_max hB (by omega)
  cases hsb : s[b] with
  | false =>
    refine ⟨(e.reads, e.writes, e.outs, e.traps, e.turns), ?_, fun k hk => ?_⟩
    · have := whl_run (body := fun (q : (Bool × Bool × Bool × Bool × Bool × Int)) => fettleref15_once.bd26 l f s (b : Int) q.1 q.2.1 q.2.2.1 q.2.2.2.1 q.2.2.2.2.1 q.2.2.2.2.2) (r := (e.reads, e.writes, e.outs, e.traps, e.turns)) 0 FUEL (fun i => (e.reads, e.writes, e.outs, e.traps, e.turns, (i : Int))) (fun i hi => by omega) (by
        simp only [fettleref15_once.bd26, idx_lt hb, Option.bind_some, idx_lt hbs, hsb]
        split <;> simp) (lt_FUEL (by simp [maxLen]))
      exact this
    · simp [bt]
  | true =>
    refine whl_for (σ := Bool × Bool × Bool × Bool × Bool × Int) (s0 := (e.reads, e.writes, e.outs, e.traps, e.turns, 0)) f.blocks[b].ins.length (fun i q => q.2.2.2.2.2 = (i : Int) ∧ ∀ k, k < 5 → (bt ⟨q.1, q.2.1, q.2.2.1, q.2.2.2.1, q.2.2.2.2.1⟩ k = true ↔ bt e k = true ∨ (true = true ∧ ∃ x, x ∈ f.blocks[b].ins.take i ∧ Br l x k))) (fun (z : Bool × Bool × Bool × Bool × Bool) => ∀ k, k < 5 → (bt ⟨z.1, z.2.1, z.2.2.1, z.2.2.2.1, z.2.2.2.2⟩ k = true ↔ bt e k = true ∨ (true = true ∧ ∃ x, x ∈ f.blocks[b].ins ∧ Br l x k))) hm ?_ ?_ ⟨rfl, fun k hk => by simp⟩
    · rintro i ⟨q0, q1, q2, q3, q4, k⟩ hi ⟨hk, hT⟩
      dsimp only at hk hT
      subst hk
      have hnext : ∀ k, (∃ x, x ∈ f.blocks[b].ins.take (i + 1) ∧ Br l x k) ↔ (∃ x, x ∈ f.blocks[b].ins.take i ∧ Br l x k) ∨ Br l f.blocks[b].ins[i] k := fun k => by
        rw [List.take_succ_eq_append_getElem hi]
        constructor
        · rintro ⟨x, h1, h2⟩
          rcases List.mem_append.1 h1 with h1 | h1
          · exact .inl ⟨x, h1, h2⟩
          · rw [List.mem_singleton.1 h1] at h2; exact .inr h2
        · rintro (⟨x, h1, h2⟩ | h2)
          · exact ⟨x, List.mem_append.2 (.inl h1), h2⟩
          · exact ⟨_, List.mem_append.2 (.inr (List.mem_singleton.2 rfl)), h2⟩
      by_cases h17 : f.blocks[b].ins[i].op = 17
      · have hfo := hfn _ (List.getElem_mem hi) h17
        refine .inr ⟨((joinE (addI ⟨q0, q1, q2, q3, q4⟩ f.blocks[b].ins[i]) (eg l f.blocks[b].ins[i].fn)).reads, (joinE (addI ⟨q0, q1, q2, q3, q4⟩ f.blocks[b].ins[i]) (eg l f.blocks[b].ins[i].fn)).writes, (joinE (addI ⟨q0, q1, q2, q3, q4⟩ f.blocks[b].ins[i]) (eg l f.blocks[b].ins[i].fn)).outs, (joinE (addI ⟨q0, q1, q2, q3, q4⟩ f.blocks[b].ins[i]) (eg l f.blocks[b].ins[i].fn)).traps, (joinE (addI ⟨q0, q1, q2, q3, q4⟩ f.blocks[b].ins[i]) (eg l f.blocks[b].ins[i].fn)).turns, ((i + 1 : Nat) : Int)), ?_, rfl, fun k hk => ?_⟩
        · simp only [fettleref15_once.bd26, idx_lt hb, Option.bind_some, len_lt, hi, if_true, idx_lt hbs, hsb, idx_lt hi, if_pos h17, idx_eg (show ok l.length f.blocks[b].ins[i].fn by rw [hl]; exact hfo), fettleref15_join, fettleref15_once.jn42, w64_at hi hm]
          rfl
        · rw [hnext]
          refine (bt_join _ _ hk).trans ?_
          rw [bt_add _ _ hk, hT k hk]
          unfold Br
          simp only [h17, true_and]
          constructor
          · rintro (((h | h) | h) | h)
            · exact .inl h
            · exact .inr (.inl h)
            · exact .inr (.inr (.inl h))
            · exact .inr (.inr (.inr h))
          · rintro (h | h | h | h)
            · exact .inl (.inl (.inl h))
            · exact .inl (.inl (.inr h))
            · exact .inl (.inr h)
            · exact .inr h
      · refine .inr ⟨((addI ⟨q0, q1, q2, q3, q4⟩ f.blocks[b].ins[i]).reads, (addI ⟨q0, q1, q2, q3, q4⟩ f.blocks[b].ins[i]).writes, (addI ⟨q0, q1, q2, q3, q4⟩ f.blocks[b].ins[i]).outs, (addI ⟨q0, q1, q2, q3, q4⟩ f.blocks[b].ins[i]).traps, (addI ⟨q0, q1, q2, q3, q4⟩ f.blocks[b].ins[i]).turns, ((i + 1 : Nat) : Int)), ?_, rfl, fun k hk => ?_⟩
        · simp only [fettleref15_once.bd26, idx_lt hb, Option.bind_some, len_lt, hi, if_true, idx_lt hbs, hsb, idx_lt hi, if_neg h17, fettleref15_once.jn42, w64_at hi hm]
          rfl
        · rw [hnext]
          refine (bt_add _ _ hk).trans ?_
          rw [hT k hk]
          unfold Br
          simp only [h17, false_and, or_false, true_and]
          rw [or_assoc]
    · rintro ⟨q0, q1, q2, q3, q4, k⟩ ⟨hk, hT⟩
      dsimp only at hk hT
      subst hk
      rw [List.take_length] at hT
      exact ⟨(q0, q1, q2, q3, q4), by simp [fettleref15_once.bd26, idx_lt hb, len], hT⟩
theorem once_ok (m : PModule) (hm : SmM m) (n : Nat) (hn : n < m.funcs.length) (l : List PEffect) (hl : l.length = m.funcs.length) (s : List Bool) (hs : s.length = m.funcs[n].blocks.length) (hfr : fettleref05_From m.funcs[n] 0 (-1) = some s)
    (hfn : ∀ B, B ∈ m.funcs[n].blocks → ∀ x, x ∈ B.ins → x.op = 17 → ok m.funcs.length x.fn) :
    ∃ e, fettleref15_once m (n : Int) l = some e ∧ ∀ k, k < 5 → (bt e k = true ↔ bt (eg l (n : Int)) k = true ∨ ∃ x, RI m.funcs[n] s m.funcs[n].blocks.length x ∧ Br l x k) := by
  have hf := hm.2 _ (List.getElem_mem hn)
  have hN : m.funcs[n].blocks.length ≤ 70 := hf.1
  have hmx : s.length ≤ maxLen := le_max (by omega : s.length ≤ 70) (by omega)
  have hi : idx l (n : Int) = some (eg l (n : Int)) := idx_eg (by rw [hl]; exact ok_nat hn)
  have H : ∃ z, whl (fun (q : (Bool × Bool × Bool × Bool × Bool × Int)) => fettleref15_once.bd12 l m.funcs[n] s q.1 q.2.1 q.2.2.1 q.2.2.2.1 q.2.2.2.2.1 q.2.2.2.2.2) FUEL ((eg l (n : Int)).reads, (eg l (n : Int)).writes, (eg l (n : Int)).outs, (eg l (n : Int)).traps, (eg l (n : Int)).turns, 0) = some z ∧
      ∀ k, k < 5 → (bt ⟨z.1, z.2.1, z.2.2.1, z.2.2.2.1, z.2.2.2.2⟩ k = true ↔ bt (eg l (n : Int)) k = true ∨ ∃ x, RI m.funcs[n] s s.length x ∧ Br l x k) := by
    refine whl_for (σ := Bool × Bool × Bool × Bool × Bool × Int) (s0 := ((eg l (n : Int)).reads, (eg l (n : Int)).writes, (eg l (n : Int)).outs, (eg l (n : Int)).traps, (eg l (n : Int)).turns, 0)) s.length (fun i q => q.2.2.2.2.2 = (i : Int) ∧ ∀ k, k < 5 → (bt ⟨q.1, q.2.1, q.2.2.1, q.2.2.2.1, q.2.2.2.2.1⟩ k = true ↔ bt (eg l (n : Int)) k = true ∨ ∃ x, RI m.funcs[n] s i x ∧ Br l x k)) (fun (z : Bool × Bool × Bool × Bool × Bool) => ∀ k, k < 5 → (bt ⟨z.1, z.2.1, z.2.2.1, z.2.2.2.1, z.2.2.2.2⟩ k = true ↔ bt (eg l (n : Int)) k = true ∨ ∃ x, RI m.funcs[n] s s.length x ∧ Br l x k)) hmx ?_ ?_ ⟨rfl, fun k hk => ?_⟩
    · rintro i ⟨q0, q1, q2, q3, q4, k⟩ his ⟨hk, hT⟩
      dsimp only at hk hT
      subst hk
      have hib : i < m.funcs[n].blocks.length := by omega
      obtain ⟨z, hz1, hz2⟩ := once_ins l hl m.funcs[n] s i hib his ((hf.2.2.2 _ (List.getElem_mem hib)).1) (hfn _ (List.getElem_mem hib)) ⟨q0, q1, q2, q3, q4⟩
      obtain ⟨z0, z1, z2, z3, z4⟩ := z
      dsimp only at hz1 hz2
      refine .inr ⟨(z0, z1, z2, z3, z4, ((i + 1 : Nat) : Int)), by simp only [fettleref15_once.bd12, len_lt, his, if_true, hz1, Option.bind_some, fettleref15_once.nx26, w64_at his hmx], rfl, fun k hk => ?_⟩
      show bt ⟨z0, z1, z2, z3, z4⟩ k = true ↔ _
      rw [hz2 k hk, hT k hk, or_assoc]
      refine or_congr Iff.rfl ?_
      constructor
      · rintro (⟨x, ⟨j, B, hj, h⟩, hx⟩ | ⟨h1, x, h2, h3⟩)
        · exact ⟨x, ⟨j, B, by omega, h⟩, hx⟩
        · exact ⟨x, ⟨i, _, by omega, by rw [List.getElem?_eq_getElem his, h1], List.getElem?_eq_getElem hib, h2⟩, h3⟩
      · rintro ⟨x, ⟨j, B, hj, h1, h2, h3⟩, hx⟩
        rcases Nat.lt_or_ge j i with h | h
        · exact .inl ⟨x, ⟨j, B, h, h1, h2, h3⟩, hx⟩
        · have : j = i := by omega
          subst this
          rw [List.getElem?_eq_getElem hib] at h2
          cases h2
          rw [List.getElem?_eq_getElem his] at h1
          exact .inr ⟨Option.some.inj h1, x, h3, hx⟩
    · rintro ⟨q0, q1, q2, q3, q4, k⟩ ⟨hk, hT⟩
      dsimp only at hk hT
      subst hk
      exact ⟨(q0, q1, q2, q3, q4), by simp [fettleref15_once.bd12, len], hT⟩
    · constructor
      · exact fun h => .inl h
      · rintro (h | ⟨x, ⟨j, _, hj, _⟩, _⟩)
        · exact h
        · omega
  obtain ⟨z, hz1, hz2⟩ := H
  refine ⟨⟨z.1, z.2.1, z.2.2.1, z.2.2.2.1, z.2.2.2.2⟩, by simp only [fettleref15_once, idx_lt hn, Option.bind_some, hfr, hi, hz1, fettleref15_once.nx12], ?_⟩
  rw [hs] at hz2
  exact hz2
end Go.Proofs.YtpomfbdbkejedaaGreatDoor
set_option linter.unusedVariables false
set_option linter.unusedSimpArgs false
namespace Go.Proofs.YtpomfbdbkejedaaGreatDoor
open Go Go.Proofs

/-- An instruction of a function's that is reached does it. -/
def Does (m : PModule) (x : Int) (k : Nat) : Prop := ∃ (i : Nat) (h : i < m.funcs.length) (s : List Bool) (y : PInstr), x = (i : Int) ∧ graph_Reached m.funcs[i] = some s ∧ RI m.funcs[i] s m.funcs[i].blocks.length y ∧ bt (insE y) k = true
def Turn (m : PModule) (x : Int) : Prop := ∃ (i : Nat) (h : i < m.funcs.length), x = (i : Int) ∧ effect_turns m.funcs[i] = some true
theorem own_bits {m : PModule} {O : List PEffect} {D : List (List Int)} (h : Owns m m.funcs.length O D) {x : Int} (hx : ok m.funcs.length x) {k : Nat} (hk : k < 5) : bt (eg O x) k = true ↔ (k = 4 ∧ Turn m x) ∨ Does m x k := by
  obtain ⟨i, rfl, hi⟩ := ok_get hx
  obtain ⟨s, tr, h1, h2, h3, hO⟩ := (h.own i hi hi).what
  rw [hO.bits k hk]
  constructor
  · rintro (⟨h4, h5⟩ | ⟨y, h4, h5⟩)
    · exact .inl ⟨h4, i, hi, rfl, by rw [h2, h5]⟩
    · exact .inr ⟨i, hi, s, y, rfl, h1, h4, h5⟩
  · rintro (⟨h4, j, hj, e, h5⟩ | ⟨j, hj, s', y, e, h4, h5, h6⟩)
    · have : i = j := by omega
      subst this
      rw [h2] at h5
      exact .inl ⟨h4, Option.some.inj h5⟩
    · have : i = j := by omega
      subst this
      rw [h1] at h4
      cases h4
      exact .inr ⟨y, h5, h6⟩
theorem once_bits {m : PModule} (hm : SmM m) (hp : Proper m) {O : List PEffect} {D : List (List Int)} (h : Owns m m.funcs.length O D) {n : Nat} (hn : n < m.funcs.length) (l : List PEffect) (hl : l.length = m.funcs.length) :
    ∃ e, fettleref15_once m (n : Int) l = some e ∧ ∀ k, k < 5 → (bt e k = true ↔ bt (eg l (n : Int)) k = true ∨ Does m (n : Int) k ∨ ∃ c, c ∈ cs D (n : Int) ∧ bt (eg l c) k = true) := by
  have hfo := hp.funcs _ (List.getElem_mem hn)
  obtain ⟨s, tr, h1, h2, h3, h4, h5⟩ := turns_round m.funcs[n] (hm.2 _ (List.getElem_mem hn)) hfo.small.pos
  obtain ⟨s', tr', g1, g2, g3, hO⟩ := (h.own n hn hn).what
  rw [h1] at g1
  cases g1
  have hfn : ∀ B, B ∈ m.funcs[n].blocks → ∀ x, x ∈ B.ins → x.op = 17 → ok m.funcs.length x.fn := fun B hB y hy hop => by
    obtain ⟨a, t, hI⟩ := (hfo.blocks B hB).ins y hy
    have har := hI.ar
    unfold arF at har
    simp only [hop] at har
    simp at har
    obtain ⟨g, hg, _⟩ := har
    unfold idx at hg
    split at hg
    · have := (List.getElem?_eq_some_iff.1 hg).1
      exact ⟨by assumption, by omega⟩
    · cases hg
  obtain ⟨e, he, hb⟩ := once_ok m hm n hn l hl s h2 h3 hfn
  refine ⟨e, he, fun k hk => ?_⟩
  rw [hb k hk]
  refine or_congr Iff.rfl ?_
  constructor
  · rintro ⟨y, hy, hB | ⟨h17, hB⟩⟩
    · exact .inl ⟨n, hn, s, y, rfl, h1, hy, hB⟩
    · exact .inr ⟨y.fn, (hO.calls _).2 ⟨y, hy, h17, rfl⟩, hB⟩
  · rintro (⟨j, hj, s', y, e, q1, q2, q3⟩ | ⟨c, hc, hB⟩)
    · have : n = j := by omega
      subst this
      rw [h1] at q1
      cases q1
      exact ⟨y, q2, .inl q3⟩
    · obtain ⟨y, hy, h17, rfl⟩ := (hO.calls c).1 hc
      exact ⟨y, hy, .inr ⟨h17, hB⟩⟩

/-- One round over all functions. -/
structure Rd (m : PModule) (D : List (List Int)) (l0 : List PEffect) (n : Nat) (l : List PEffect) : Prop where
  len : l.length = m.funcs.length
  mono : ∀ x, ok m.funcs.length x → ∀ k, k < 5 → bt (eg l0 x) k = true → bt (eg l x) k = true
  gain : ∀ i : Nat, i < n → ∀ k, k < 5 → (Does m (i : Int) k ∨ ∃ c, c ∈ cs D (i : Int) ∧ bt (eg l0 c) k = true) → bt (eg l (i : Int)) k = true
  snd : ∀ k, k < 5 → ∀ C : Int → Prop, (∀ x, ok m.funcs.length x → Does m x k → C x) → (∀ x, ok m.funcs.length x → ∀ c, c ∈ cs D x → C c → C x) → (∀ x, ok m.funcs.length x → bt (eg l0 x) k = true → C x) → ∀ x, ok m.funcs.length x → bt (eg l x) k = true → C x
theorem rd_ok {m : PModule} (hm : SmM m) (hp : Proper m) {O : List PEffect} {D : List (List Int)} (h : Owns m m.funcs.length O D) (hin : ∀ x, ok m.funcs.length x → ∀ c, c ∈ cs D x → ok m.funcs.length c) (l0 : List PEffect) (hl0 : l0.length = m.funcs.length) :
    ∃ z, whl (fun (s : (List PEffect × Int)) => fettleref15_Effects.bd34 m s.1 s.2) FUEL (l0, 0) = some z ∧ Rd m D l0 m.funcs.length z := by
  have hN : m.funcs.length ≤ maxLen := le_max (by have := hm.1; omega : m.funcs.length ≤ 70) (by omega)
  refine whl_for (σ := List PEffect × Int) (s0 := (l0, 0)) m.funcs.length (fun i s => s.2 = (i : Int) ∧ Rd m D l0 i s.1) (fun z => Rd m D l0 m.funcs.length z) hN ?_ ?_ ⟨rfl, hl0, fun x hx k hk hb => hb, fun i hi => by omega, fun k hk C h1 h2 h3 x hx hb => h3 x hx hb⟩
  · rintro i ⟨l, k⟩ hi ⟨hk, hR⟩
    dsimp only at hk hR
    subst hk
    obtain ⟨e, he, hb⟩ := once_bits hm hp h hi l hR.len
    have o1 : ok l.length (i : Int) := by rw [hR.len]; exact ok_nat hi
    have h1 : (i : Int) < len l := by simp only [len]; rw [hR.len]; omega
    have hset : ∀ x, ok m.funcs.length x → eg (l.set (i : Int).toNat e) x = if x = (i : Int) then e else eg l x := fun x hx => eg_set o1 (by rw [hR.len]; exact hx)
    refine .inr ⟨(l.set (i : Int).toNat e, ((i + 1 : Nat) : Int)), by simp only [fettleref15_Effects.bd34, h1, if_true, he, Option.bind_some, idx_eg o1, w64_at hi hN], rfl, by simpa using hR.len, fun x hx k hk hbx => ?_, fun j hj k hk hg => ?_, fun k hk C c1 c2 c3 x hx hbx => ?_⟩
    · dsimp only
      rw [hset x hx]
      have := hR.mono x hx k hk hbx
      split
      · rename_i he'
        subst he'
        exact (hb k hk).2 (.inl this)
      · exact this
    · dsimp only
      rw [hset _ (ok_nat (by omega))]
      split
      · rename_i he'
        have : j = i := by omega
        subst this
        refine (hb k hk).2 (.inr ?_)
        rcases hg with hg | ⟨c, hc, hbc⟩
        · exact .inl hg
        · exact .inr ⟨c, hc, hR.mono c (hin _ (ok_nat hi) c hc) k hk hbc⟩
      · exact hR.gain j (by omega) k hk hg
    · dsimp only at hbx
      rw [hset x hx] at hbx
      split at hbx
      · rename_i he'
        subst he'
        rcases (hb k hk).1 hbx with h5 | h5 | ⟨c, hc, h5⟩
        · exact hR.snd k hk C c1 c2 c3 _ hx h5
        · exact c1 _ hx h5
        · exact c2 _ hx c hc (hR.snd k hk C c1 c2 c3 c (hin _ hx c hc) h5)
      · exact hR.snd k hk C c1 c2 c3 x hx hbx
  · rintro ⟨l, k⟩ ⟨hk, hR⟩
    dsimp only at hk hR
    subst hk
    exact ⟨l, by simp [fettleref15_Effects.bd34, len, hR.len], hR⟩
def bl (l : List PEffect) (k : Nat) : List Bool := l.map fun e => bt e k
theorem sn_bl {l : List PEffect} {k v : Nat} : sn (bl l k) v ↔ v < l.length ∧ bt (eg l (v : Int)) k = true := by
  unfold sn bl eg
  rw [List.getElem?_map]
  by_cases h : v < l.length
  · simp [List.getD_eq_getElem?_getD, h]
  · simp [h]
def Cl (m : PModule) (D : List (List Int)) (l : List PEffect) (k : Nat) : Prop := ∀ x, ok m.funcs.length x → (Does m x k ∨ ∃ c, c ∈ cs D x ∧ bt (eg l c) k = true) → bt (eg l x) k = true
structure Gd (m : PModule) (D : List (List Int)) (l : List PEffect) : Prop where
  len : l.length = m.funcs.length
  base : ∀ x, ok m.funcs.length x → (Trc (callsL m) x x ∨ Turn m x) → bt (eg l x) 4 = true
  snd : ∀ x, ok m.funcs.length x → ∀ k, k < 5 → bt (eg l x) k = true → ∃ j, ok m.funcs.length j ∧ Rch D x j ∧ ((k = 4 ∧ (Turn m j ∨ Trc (callsL m) j j)) ∨ Does m j k)
theorem refRounds {m : PModule} (hm : SmM m) (hp : Proper m) {O : List PEffect} {D : List (List Int)} (h : Owns m m.funcs.length O D) (hin : ∀ x, ok m.funcs.length x → ∀ c, c ∈ cs D x → ok m.funcs.length c) (l0 : List PEffect) (hG : Gd m D l0) :
    ∃ z, whl (fun (s : (List PEffect × Int)) => fettleref15_Effects.bd20 m s.1 s.2) FUEL (l0, 0) = some z ∧ (Gd m D z ∧ ∀ k, k < 5 → Cl m D z k) := by
  have hN := hm.1
  have hNm : m.funcs.length + 1 ≤ maxLen := le_max (by omega : m.funcs.length + 1 ≤ 70) (by omega)
  refine whl_for (σ := List PEffect × Int) (s0 := (l0, 0)) (m.funcs.length + 1) (fun i s => s.2 = (i : Int) ∧ Gd m D s.1 ∧ ∀ k, k < 5 → Cl m D s.1 k ∨ cnt (bl s.1 k) + i ≤ m.funcs.length) (fun z => Gd m D z ∧ ∀ k, k < 5 → Cl m D z k) hNm ?_ ?_ ⟨rfl, hG, fun k hk => .inr ?_⟩
  · rintro i ⟨l, k⟩ hi ⟨hk, hGl, hC⟩
    dsimp only at hk hGl hC
    subst hk
    obtain ⟨z, hz, hR⟩ := rd_ok hm hp h hin l hGl.len
    have h1 : (i : Int) ≤ len l := by simp only [len]; rw [hGl.len]; omega
    refine .inr ⟨(z, ((i + 1 : Nat) : Int)), by simp only [fettleref15_Effects.bd20, h1, if_true, hz, Option.bind_some, fettleref15_Effects.nx34, w64_at hi hNm], rfl, ⟨hR.len, fun x hx hb => hR.mono x hx 4 (by omega) (hGl.base x hx hb), fun x hx k hk hb => ?_⟩, fun k hk => ?_⟩
    · refine hR.snd k hk (fun x => ∃ j, ok m.funcs.length j ∧ Rch D x j ∧ ((k = 4 ∧ (Turn m j ∨ Trc (callsL m) j j)) ∨ Does m j k)) (fun x hx hd => ⟨x, hx, .refl x, .inr hd⟩) ?_ (fun x hx hb => hGl.snd x hx k hk hb) x hx hb
      rintro x hx c hc ⟨j, h2, h3, h4⟩
      exact ⟨j, h2, .step hc h3, h4⟩
    · by_cases hcl : Cl m D l k
      · left
        have back : ∀ x, ok m.funcs.length x → bt (eg z x) k = true → bt (eg l x) k = true := fun x hx hb =>
          hR.snd k hk (fun x => bt (eg l x) k = true) (fun x hx hd => hcl x hx (.inl hd)) (fun x hx c hc hb => hcl x hx (.inr ⟨c, hc, hb⟩)) (fun x hx hb => hb) x hx hb
        intro x hx hd
        refine hR.mono x hx k hk (hcl x hx ?_)
        rcases hd with hd | ⟨c, hc, hb⟩
        · exact .inl hd
        · exact .inr ⟨c, hc, back c (hin x hx c hc) hb⟩
      · right
        have h2 := (hC k hk).resolve_left hcl
        have hex : ∃ x, ok m.funcs.length x ∧ (Does m x k ∨ ∃ c, c ∈ cs D x ∧ bt (eg l c) k = true) ∧ ¬ bt (eg l x) k = true := Classical.byContradiction fun hno => hcl fun x hx hd => Classical.byContradiction fun hb => hno ⟨x, hx, hd, hb⟩
        obtain ⟨x, hx, hd, hb⟩ := hex
        obtain ⟨v, rfl, hv⟩ := ok_get hx
        have hg := hR.gain v hv k hk hd
        have h3 := cnt_less (s := bl l k) (t := bl z k) (by simp [bl, hGl.len, hR.len]) (fun u hu => by
          obtain ⟨a, b⟩ := sn_bl.1 hu
          exact sn_bl.2 ⟨by rw [hR.len, ← hGl.len]; exact a, hR.mono _ (ok_nat (by rw [← hGl.len]; exact a)) k hk b⟩) (v := v) (sn_bl.2 ⟨by rw [hR.len]; exact hv, hg⟩) (fun hs => hb (sn_bl.1 hs).2)
        show cnt (bl z k) + (i + 1) ≤ m.funcs.length
        omega
  · rintro ⟨l, k⟩ ⟨hk, hGl, hC⟩
    dsimp only at hk hGl hC
    subst hk
    refine ⟨l, ?_, hGl, fun k hk => (hC k hk).resolve_right (by omega)⟩
    have : ¬ (((m.funcs.length + 1 : Nat) : Int) ≤ len l) := by simp only [len]; rw [hGl.len]; omega
    simp only [fettleref15_Effects.bd20, this, if_false]
  · show cnt (bl l0 k) + 0 ≤ m.funcs.length
    have : cnt (bl l0 k) ≤ (bl l0 k).length := List.count_le_length
    rw [show (bl l0 k).length = m.funcs.length by simp [bl, hG.len]] at this
    omega
theorem refInit {m : PModule} (hm : SmM m) (hp : Proper m) {D : List (List Int)} : ∃ T z, fettleref09_To m = some T ∧ whl (fun (s : (List PEffect × Int)) => fettleref15_Effects.bd11 m T s.1 s.2) FUEL (List.replicate m.funcs.length PEffect.zero, 0) = some z ∧ Gd m D z := by
  obtain ⟨T, hT, hSq, hTb⟩ := to_eq m hm
  have hN : m.funcs.length ≤ maxLen := le_max (by have := hm.1; omega : m.funcs.length ≤ 70) (by omega)
  have key : ∃ z, whl (fun (s : (List PEffect × Int)) => fettleref15_Effects.bd11 m T s.1 s.2) FUEL (List.replicate m.funcs.length PEffect.zero, 0) = some z ∧ (z.length = m.funcs.length ∧ ∀ j : Nat, j < m.funcs.length → ∀ k, k < 5 → (bt (eg z (j : Int)) k = true ↔ j < m.funcs.length ∧ k = 4 ∧ (Trc (callsL m) (j : Int) (j : Int) ∨ Turn m (j : Int)))) := by
    refine whl_for (σ := List PEffect × Int) (s0 := (List.replicate m.funcs.length PEffect.zero, 0)) m.funcs.length (fun i s => s.2 = (i : Int) ∧ s.1.length = m.funcs.length ∧ ∀ j : Nat, j < m.funcs.length → ∀ k, k < 5 → (bt (eg s.1 (j : Int)) k = true ↔ j < i ∧ k = 4 ∧ (Trc (callsL m) (j : Int) (j : Int) ∨ Turn m (j : Int)))) (fun z => z.length = m.funcs.length ∧ ∀ j : Nat, j < m.funcs.length → ∀ k, k < 5 → (bt (eg z (j : Int)) k = true ↔ j < m.funcs.length ∧ k = 4 ∧ (Trc (callsL m) (j : Int) (j : Int) ∨ Turn m (j : Int)))) hN ?_ ?_ ⟨rfl, by simp, fun j hj k hk => ?_⟩
    · rintro i ⟨l, k⟩ hi ⟨hk, hl, hb⟩
      dsimp only at hk hl hb
      subst hk
      have hfo := hp.funcs _ (List.getElem_mem hi)
      obtain ⟨s, tr, h1, h2, h3, h4, h5⟩ := turns_round m.funcs[i] (hm.2 _ (List.getElem_mem hi)) hfo.small.pos
      have hio := ok_nat hi
      have o1 : ok l.length (i : Int) := by rw [hl]; exact hio
      have hr := hSq.row hio
      have hc := hSq.cell hio hio
      have hcell := hTb _ _ hio hio
      obtain ⟨rb, hro, hrb⟩ := round_ex m.funcs[i] (hm.2 _ (List.getElem_mem hi)) s h2
      have hlt : (i : Int) < len l := by simp only [len]; rw [hl]; omega
      have hturn : Turn m (i : Int) ↔ tr = true := by
        constructor
        · rintro ⟨j, hj, e, h6⟩
          have : i = j := by omega
          subst this
          rw [h4] at h6
          exact Option.some.inj h6
        · intro h6
          exact ⟨i, hi, rfl, by rw [h4, h6]⟩
      have ht : ∃ t : Bool, (if tbl T (i : Int) (i : Int) = true then some true else (fettleref15_round m.funcs[i] s).bind fun x91 => some x91) = some t ∧ (t = true ↔ Trc (callsL m) (i : Int) (i : Int) ∨ Turn m (i : Int)) := by
        by_cases hcl : tbl T (i : Int) (i : Int) = true
        · exact ⟨true, by rw [if_pos hcl], by simp [hcell.1 hcl]⟩
        · refine ⟨rb, by rw [if_neg hcl, hro]; rfl, ?_⟩
          rw [hrb, ← h5, hturn]
          constructor
          · exact fun h => .inr h
          · rintro (h | h)
            · exact absurd (hcell.2 h) hcl
            · exact h
      obtain ⟨t, ht1, ht2⟩ := ht
      refine .inr ⟨(l.set (i : Int).toNat ⟨(eg l (i : Int)).reads, (eg l (i : Int)).writes, (eg l (i : Int)).outs, (eg l (i : Int)).traps, t⟩, ((i + 1 : Nat) : Int)), ?_, rfl, by simpa using hl, fun j hj k hk => ?_⟩
      · simp only [fettleref15_Effects.bd11, hlt, if_true, idx_lt hi, Option.bind_some, h3, hr.1, hc]
        rw [ht1]
        simp only [idx_eg o1, Option.bind_some, w64_at hi hN]
      · dsimp only
        rw [eg_set o1 (by rw [hl]; exact ok_nat hj)]
        split
        · rename_i he
          have : j = i := by omega
          subst this
          have hold := fun k hk => hb j hj k hk
          have hneg : ∀ k, k < 5 → bt (eg l (j : Int)) k = false := fun k hk => by
            cases hv : bt (eg l (j : Int)) k with
            | false => rfl
            | true => have := (hold k hk).1 hv; omega
          rcases lt5 hk with rfl | rfl | rfl | rfl | rfl
          · simpa [bt] using hneg 0 (by omega)
          · simpa [bt] using hneg 1 (by omega)
          · simpa [bt] using hneg 2 (by omega)
          · simpa [bt] using hneg 3 (by omega)
          · show t = true ↔ _
            rw [ht2]; simp
        · rw [hb j hj k hk]
          constructor
          · rintro ⟨a, b⟩; exact ⟨by omega, b⟩
          · rintro ⟨a, b⟩; exact ⟨by omega, b⟩
    · rintro ⟨l, k⟩ ⟨hk, hl, hb⟩
      dsimp only at hk hl hb
      subst hk
      exact ⟨l, by simp [fettleref15_Effects.bd11, len, hl], hl, hb⟩
    · have : eg (List.replicate m.funcs.length PEffect.zero) (j : Int) = PEffect.zero := by simp [eg, List.getD_eq_getElem?_getD, hj]
      dsimp only
      rw [this]
      constructor
      · intro h
        rcases lt5 hk with rfl | rfl | rfl | rfl | rfl <;> simp [bt, PEffect.zero] at h
      · rintro ⟨h, _⟩; omega
  obtain ⟨z, hz, hl, hb⟩ := key
  refine ⟨T, z, hT, hz, hl, fun x hx h => ?_, fun x hx k hk h => ?_⟩
  · obtain ⟨j, rfl, hj⟩ := ok_get hx
    exact (hb j hj 4 (by omega)).2 ⟨hj, rfl, h⟩
  · obtain ⟨j, rfl, hj⟩ := ok_get hx
    obtain ⟨_, h4, h5⟩ := (hb j hj k hk).1 h
    exact ⟨(j : Int), hx, .refl _, .inl ⟨h4, h5.symm⟩⟩
theorem ref15_eq {m : PModule} (hm : SmM m) (hp : Proper m) {l O : List PEffect} {D : List (List Int)} (h : EffOk m l O D) : fettleref15_Effects m = some l := by
  obtain ⟨T, l0, hT, hw, hG⟩ := refInit (D := D) hm hp
  obtain ⟨z, hz, hGz, hCl⟩ := refRounds hm hp h.own h.inn l0 hG
  have hmk : mkl (len m.funcs) PEffect.zero = some (List.replicate m.funcs.length PEffect.zero) := mkl_rep _ (by have := hm.1; omega)
  have heq : z = l := by
    refine List.ext_getElem (by rw [hGz.len, h.len]) fun i h1 h2 => ?_
    have hi : i < m.funcs.length := by rw [← hGz.len]; exact h1
    have e1 : z[i] = eg z (i : Int) := by simp [eg, List.getD_eq_getElem?_getD, h1]
    have e2 : l[i] = eg l (i : Int) := by simp [eg, List.getD_eq_getElem?_getD, h2]
    rw [e1, e2]
    refine bt_ext fun k hk => ?_
    rw [Bool.eq_iff_iff, h.bits _ (ok_nat hi) k hk]
    constructor
    · intro hb
      obtain ⟨j, a, b, c⟩ := hGz.snd _ (ok_nat hi) k hk hb
      refine ⟨j, a, b, ?_⟩
      rw [own_bits h.own a hk]
      rcases c with ⟨c1, c2 | c2⟩ | c
      · exact .inl (.inl ⟨c1, c2⟩)
      · exact .inr ⟨c1, c2⟩
      · exact .inl (.inr c)
    · rintro ⟨j, a, b, c⟩
      have hj : bt (eg z j) k = true := by
        rw [own_bits h.own a hk] at c
        rcases c with (⟨rfl, c⟩ | c) | ⟨rfl, c⟩
        · exact hGz.base j a (.inr c)
        · exact hCl k hk j a (.inl c)
        · exact hGz.base j a (.inl c)
      have hio := ok_nat hi
      clear c e1 e2 h1 h2
      generalize (i : Int) = x at b hio
      induction b with
      | refl x => exact hj
      | step hc _ ih => exact hCl k hk _ hio (.inr ⟨_, hc, ih a hj (h.inn _ hio _ hc)⟩)
  simp only [fettleref15_Effects, hmk, Option.bind_some, hT, hw, fettleref15_Effects.nx11, hz, fettleref15_Effects.nx20, heq]
end Go.Proofs.YtpomfbdbkejedaaGreatDoor
set_option linter.unusedVariables false
set_option linter.unusedSimpArgs false
namespace Go.Proofs.YtpomfbdbkejedaaGreatDoor
open Go Go.Proofs

theorem pure_effectTells (m : PModule) (h : wfModule m) : fettlelaw15_EffectTells m = some true := by
  obtain ⟨b, hb, hs⟩ := small_ok m
  unfold fettlelaw15_EffectTells
  simp only [up_true, hb, Option.bind_some]
  cases b with
  | false => simp
  | true =>
    have hm := hs rfl
    obtain ⟨e, c, a, h1, h2, h3, h4⟩ := module_exact m hm
    simp only [Bool.not_true, Bool.false_eq_true, if_false]
    rcases effects_ok m hm with ⟨e', he, hn, _, hE⟩ | ⟨hPr, he, l, O, D, hE, hok⟩
    · rw [h1] at he
      cases he
      have hc : ¬ c = 0 := fun hc => hn (h4.2 hc)
      simp only [hE, Option.bind_some, of_eq, h3, h2, hc, not_false_eq_true, if_true, len]
      simp
    · rw [h1] at he
      cases he
      have hc : c = 0 := h4.1 rfl
      have hll : l.length ≤ 70 := by have := hok.len; have := hm.1; omega
      have hmx := le_max hll (by omega)
      have hw := scan_dec l l rfl hmx (fun s => fettlelaw15_EffectTells.bd49 (l, GErr.no) l s) (fun i hi hj => by
        simp only [fettlelaw15_EffectTells.bd49, len_lt, hi, if_true, idx_lt hi, Option.bind_some, not_true_eq_false, if_false, w64_at hi hmx]) (by simp [fettlelaw15_EffectTells.bd49, len])
      simp only [if_true] at hw
      simp only [hE, Option.bind_some, of_eq, h2, hc, not_true_eq_false, if_false, ref15_eq hm hPr hok, or_self, hw, fettlelaw15_EffectTells.nx49]
end Go.Proofs.YtpomfbdbkejedaaGreatDoor
