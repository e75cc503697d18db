/- Several parts in one text, the first of which: Plain laws, part y-F: who stands above whom, and the borders. No conditions. -/
import Derived.Test.YtpmcbahahjelnaaQ5
import Derived.KernelRfl
set_option linter.unusedVariables false
set_option linter.unusedSimpArgs false
namespace Go.Proofs.Ytpmcbahahjelnaa
open Go Go.Proofs
section
variable {f : ny} {R : List Int}
theorem mkl3 {α : Type} {n : Nat} (z : α) (hn : n ≤ 1000) : mkl (n : Int) z = some (List.replicate n z) := by
  have h1 : n < LIM := by simp only [LIM]; omega
  simp [mkl, h1]
/-- the table holds v over w -/
def Hold (T : List (List Bool)) (v w : Nat) : Prop := ∃ row, T[v]? = some row ∧ row[w]? = some true
theorem Hold.set {T : List (List Bool)} {a i v w : Nat} {row : List Bool} (ha : T[a]? = some row) : Hold (T.set a (row.set i true)) v w → Hold T v w ∨ (v = a ∧ w = i) := fun ⟨r, h1, h2⟩ => by
  by_cases e : a = v
  · subst e
    rw [List.getElem?_set_self (List.getElem?_eq_some_iff.1 ha).1] at h1
    cases h1
    by_cases e2 : i = w
    · exact .inr ⟨rfl, e2.symm⟩
    · rw [List.getElem?_set_ne e2] at h2
      exact .inl ⟨row, ha, h2⟩
  · rw [List.getElem?_set_ne e] at h1
    exact .inl ⟨r, h1, h2⟩
theorem Hold.keep {T : List (List Bool)} {a i v w : Nat} {row : List Bool} (ha : T[a]? = some row) : Hold T v w → Hold (T.set a (row.set i true)) v w := fun ⟨r, h1, h2⟩ => by
  by_cases e : a = v
  · subst e
    rw [ha] at h1
    cases h1
    exact ⟨_, List.getElem?_set_self (List.getElem?_eq_some_iff.1 ha).1, (Le.mark row i).le w h2⟩
  · exact ⟨r, by rw [List.getElem?_set_ne e]; exact h1, h2⟩
theorem Hold.new {T : List (List Bool)} {a i : Nat} {row : List Bool} (ha : T[a]? = some row) (hi : i < row.length) : Hold (T.set a (row.set i true)) a i :=
  ⟨_, List.getElem?_set_self (List.getElem?_eq_some_iff.1 ha).1, List.getElem?_set_self hi⟩
theorem Anc.up {M : Nat → Nat} {j x : Nat} (h : Anc M j x) (hj : j ≠ 0) : Anc M (M j) x := by
  induction h with
  | refl => exact .step hj .refl
  | step h0 _ ih => exact .step h0 ih
theorem yK (h : Full f R) {N : Nat → Nat} {L : List Int} (hN : Near f R N L) (i : Nat) (hi : i < f.blocks.length) (T : List (List Bool)) (hT : Dim f.blocks.length f.blocks.length T) :
    ∃ z, whl (fun (s : (List (List Bool) × Int)) => oJ.bd42 L (List.replicate f.blocks.length true) (i : Int) s.1 s.2) nD (T, (i : Int)) = some z ∧ Dim f.blocks.length f.blocks.length z ∧
      (∀ v w, Hold z v w → Hold T v w ∨ (w = i ∧ Anc N (pb R v) (pb R i))) ∧ (∀ v w, Hold T v w → Hold z v w) ∧ ∀ v, v < f.blocks.length → Anc N (pb R v) (pb R i) → Hold z v i := by
  refine qp (body := fun (s : (List (List Bool) × Int)) => oJ.bd42 L (List.replicate f.blocks.length true) (i : Int) s.1 s.2)
    (fun s => Dim f.blocks.length f.blocks.length s.1 ∧ (s.2 = -1 ∨ ∃ j, j < f.blocks.length ∧ s.2 = ((ob R j : Nat) : Int) ∧ Anc N j (pb R i)) ∧ (∀ v w, Hold s.1 v w → Hold T v w ∨ (w = i ∧ Anc N (pb R v) (pb R i))) ∧ (∀ v w, Hold T v w → Hold s.1 v w) ∧
      ∀ v, v < f.blocks.length → Anc N (pb R v) (pb R i) → Hold s.1 v i ∨ ∃ j, j < f.blocks.length ∧ s.2 = ((ob R j : Nat) : Int) ∧ Anc N (pb R v) j)
    (fun s => if s.2 < 0 then 0 else pb R s.2.toNat + 1) _ (fun s hs => ?_) nD (T, (i : Int)) ⟨hT, .inr ⟨pb R i, (h.ob_pb hi).2, by rw [(h.ob_pb hi).1], .refl⟩, fun _ _ h => .inl h, fun _ _ h => h, fun v hv ha => .inr ⟨pb R i, (h.ob_pb hi).2, by rw [(h.ob_pb hi).1], ha⟩⟩ ?_
  · obtain ⟨M, a⟩ := s
    obtain ⟨h1, h2, h3, h4, h5⟩ := hs
    simp only at h1 h2 h3 h4 h5
    have hr : idx (List.replicate f.blocks.length true) (i : Int) = some true := by rw [oz]; simp [hi]
    simp only [oJ.bd42, hr, Option.bind_some, true_and]
    rcases h2 with rfl | ⟨j, hj, rfl, hanc⟩
    · exact .inl ⟨M, by simp, h1, h3, h4, fun v hv ha => (h5 v hv ha).resolve_right (fun ⟨j, _, e, _⟩ => by omega)⟩
    · right
      have hob := (h.get hj).2
      obtain ⟨row, r1, r2, r3⟩ := h1.get (b := ((ob R j : Nat) : Int)) (by omega) (by omega)
      rw [Int.toNat_natCast] at r2
      have hi' : i < row.length := by omega
      rw [if_pos (by omega)]
      simp only [r1, Option.bind_some, nJ hi']
      have hset : ∀ v w, Hold (M.set (ob R j) (row.set i true)) v w → Hold T v w ∨ (w = i ∧ Anc N (pb R v) (pb R i)) := fun v w ht => by
        rcases Hold.set r2 ht with ht | ⟨rfl, rfl⟩
        · exact h3 v w ht
        · exact .inr ⟨rfl, by rw [h.pb_ob hj]; exact hanc⟩
      have hkeep : ∀ v w, Hold T v w → Hold (M.set (ob R j) (row.set i true)) v w := fun v w ht => Hold.keep r2 (h4 v w ht)
      have hcase : ∀ v, v < f.blocks.length → Anc N (pb R v) (pb R i) → Hold (M.set (ob R j) (row.set i true)) v i ∨ (j ≠ 0 ∧ Anc N (pb R v) (N j)) := fun v hv ha => by
        rcases h5 v hv ha with ht | ⟨k, hk, e, ha2⟩
        · exact .inl (Hold.keep r2 ht)
        · obtain rfl : k = j := h.ob_inj hk hj (by omega)
          rcases ha2.cases' with e | ⟨e, ha3⟩
          · left
            have : ob R k = v := by rw [← e]; exact (h.ob_pb hv).1
            rw [this] at r2 ⊢
            exact Hold.new r2 hi'
          · exact .inr ⟨e, ha3⟩
      rcases Nat.eq_zero_or_pos j with rfl | h0
      · have hl : idx L ((ob R 0 : Nat) : Int) = some (-1) := by rw [oz, h.ob0]; exact hN.first
        simp only [hl, Option.bind_some]
        refine ⟨_, rfl, ⟨h1.set _ (by simp [r3]), .inl rfl, hset, hkeep, fun v hv ha => ?_⟩, ?_⟩
        · exact (hcase v hv ha).imp id (fun h => absurd rfl h.1)
        · simp only; rw [if_pos (by omega), if_neg (by omega)]; omega
      · have hl : idx L ((ob R j : Nat) : Int) = some ((ob R (N j) : Nat) : Int) := by rw [oz]; exact hN.get j h0 hj
        have hni : N j < j := hN.nr.dn j (by omega) hj
        simp only [hl, Option.bind_some]
        refine ⟨_, rfl, ⟨h1.set _ (by simp [r3]), .inr ⟨N j, by omega, rfl, hanc.up (by omega)⟩, hset, hkeep, fun v hv ha => ?_⟩, ?_⟩
        · exact (hcase v hv ha).imp id (fun h => ⟨N j, by omega, rfl, h.2⟩)
        · simp only; rw [if_neg (by omega), if_neg (by omega), Int.toNat_natCast, Int.toNat_natCast, h.pb_ob (by omega), h.pb_ob hj]; omega
  · simp only
    rw [if_neg (by omega), Int.toNat_natCast]
    have := (h.ob_pb hi).2
    have := h.sm.1
    exact rY (by omega)
theorem u7 (h : Full f R) {N : Nat → Nat} {L : List Int} (hL : nX f = some L) (hN : Near f R N L) : ∃ T, oJ f = some T ∧ Dim f.blocks.length f.blocks.length T ∧ (∀ v w, Hold T v w → Anc N (pb R v) (pb R w)) ∧ ∀ v w, v < f.blocks.length → w < f.blocks.length → Anc N (pb R v) (pb R w) → Hold T v w := by
  have hn := h.sm.1
  have hlen : len L = (f.blocks.length : Int) := by simp [len, hN.len]
  unfold oJ
  rw [hL, h.rea]
  simp only [Option.bind_some, hlen, mkl3 (n := f.blocks.length) ([] : List Bool) (by omega)]
  obtain ⟨z, hz, hz1, hz2⟩ := oj (body := fun (s : (List (List Bool) × Int)) => oJ.bd19 L (List.replicate f.blocks.length []) s.1 s.2) (s0 := (List.replicate f.blocks.length [], 0)) f.blocks.length
    (fun i s => s.1.length = f.blocks.length ∧ s.2 = (i : Int) ∧ (∀ v w, ¬ Hold s.1 v w) ∧ ∀ j, j < i → ∃ row, s.1[j]? = some row ∧ row.length = f.blocks.length) (fun z => Dim f.blocks.length f.blocks.length z ∧ ∀ v w, ¬ Hold z v w) (nO hn (by omega)) (fun i s hi hI => by
      obtain ⟨M, q⟩ := s
      obtain ⟨h1, rfl, h2, h3⟩ := hI
      simp only at h1 h2 h3
      have hi' : i < M.length := by omega
      refine .inr ⟨_, by simp only [oJ.bd19, nP, List.length_replicate, hi, if_true, hlen, mkl3 (n := f.blocks.length) false (by omega), Option.bind_some, nJ hi', Int.toNat_natCast]; rfl, by simp [h1], nQ hi (by omega), fun v w ht => ?_, fun j hj => ?_⟩
      · obtain ⟨r, t1, t2⟩ := ht
        simp only at t1
        by_cases e : i = v
        · subst e
          rw [List.getElem?_set_self hi'] at t1
          cases t1
          rw [List.getElem?_replicate] at t2
          split at t2 <;> simp at t2
        · rw [List.getElem?_set_ne e] at t1
          exact h2 v w ⟨r, t1, t2⟩
      · simp only
        by_cases e : i = j
        · subst e
          exact ⟨_, by rw [List.getElem?_set_self hi'], by simp⟩
        · rw [List.getElem?_set_ne e]; exact h3 j (by omega)) (fun s hI => by
      obtain ⟨M, q⟩ := s
      obtain ⟨h1, rfl, h2, h3⟩ := hI
      simp only at h1 h2 h3
      refine ⟨M, by simp [oJ.bd19, len], ⟨h1, fun r hr => ?_⟩, h2⟩
      obtain ⟨j, hj, rfl⟩ := List.getElem_of_mem hr
      obtain ⟨row, r1, r2⟩ := h3 j (by omega)
      rw [List.getElem?_eq_getElem hj] at r1
      rw [Option.some.inj r1]; exact r2) ⟨by simp, rfl, fun v w ⟨r, t1, t2⟩ => by
        rw [List.getElem?_replicate] at t1
        split at t1
        · cases t1; simp at t2
        · simp at t1, fun j hj => by omega⟩
  rw [hz]
  simp only [Option.bind_some, oJ.nx19]
  have hzl : len z = (f.blocks.length : Int) := by simp [len, hz1.len]
  obtain ⟨y, hy, hy1⟩ := oj (body := fun (s : (List (List Bool) × Int)) => oJ.bd28 L (List.replicate f.blocks.length true) z s.1 s.2) (s0 := (z, 0)) f.blocks.length
    (fun i s => s.2 = (i : Int) ∧ Dim f.blocks.length f.blocks.length s.1 ∧ (∀ v w, Hold s.1 v w → Anc N (pb R v) (pb R w)) ∧ ∀ v w, v < f.blocks.length → w < i → Anc N (pb R v) (pb R w) → Hold s.1 v w) (fun T => Dim f.blocks.length f.blocks.length T ∧ (∀ v w, Hold T v w → Anc N (pb R v) (pb R w)) ∧ ∀ v w, v < f.blocks.length → w < f.blocks.length → Anc N (pb R v) (pb R w) → Hold T v w) (nO hn (by omega)) (fun i s hi hI => by
      obtain ⟨M, q⟩ := s
      obtain ⟨rfl, h3, h4, h5⟩ := hI
      simp only at h3 h4 h5
      obtain ⟨y, hy, hy1, hy2, hy3, hy4⟩ := yK h hN i hi M h3
      refine .inr ⟨_, by simp only [oJ.bd28, hzl]; rw [if_pos (by omega), hy]; rfl, nQ hi (by omega), hy1, fun v w ht => ?_, fun v w hv hw ha => ?_⟩
      · rcases hy2 v w ht with ht | ⟨rfl, ha⟩
        · exact h4 v w ht
        · exact ha
      · by_cases e : w < i
        · exact hy3 v w (h5 v w hv e ha)
        · obtain rfl : w = i := by omega
          exact hy4 v hv ha) (fun s hI => by
      obtain ⟨M, q⟩ := s
      obtain ⟨rfl, h3⟩ := hI
      exact ⟨M, by simp [oJ.bd28, hzl], h3⟩) ⟨rfl, hz1, fun v w ht => absurd ht (hz2 v w), fun v w _ hw => by omega⟩
  rw [hy]
  exact ⟨y, rfl, hy1⟩
/-- a table of n rows whose entries are below m -/
structure Bel (n c m : Nat) (T : List (List Int)) : Prop where
  len : T.length = n
  few : ∀ r ∈ T, r.length ≤ c
  mem : ∀ r ∈ T, ∀ x ∈ r, 0 ≤ x ∧ x < (m : Int)
theorem Bel.get {n c m : Nat} {T : List (List Int)} (h : Bel n c m T) {b : Int} (h0 : 0 ≤ b) (h1 : b < (n : Int)) : ∃ row, idx T b = some row ∧ T[b.toNat]? = some row ∧ row.length ≤ c ∧ ∀ x ∈ row, 0 ≤ x ∧ x < (m : Int) := by
  obtain ⟨row, h2, h3⟩ := pv (xs := T) h0 (by rw [h.len]; exact h1)
  exact ⟨row, h2, h3, h.few row (List.mem_of_getElem? h3), h.mem row (List.mem_of_getElem? h3)⟩
theorem Bel.set {n c m : Nat} {T : List (List Int)} (h : Bel n c m T) (i : Nat) {row : List Int} (h1 : row.length ≤ c) (h2 : ∀ x ∈ row, 0 ≤ x ∧ x < (m : Int)) : Bel n c m (T.set i row) :=
  ⟨by simp [h.len], fun r hr => (List.mem_or_eq_of_mem_set hr).elim (h.few r) (fun e => e ▸ h1), fun r hr => (List.mem_or_eq_of_mem_set hr).elim (h.mem r) (fun e => e ▸ h2)⟩
theorem Bel.mono {n c c' m : Nat} {T : List (List Int)} (h : Bel n c m T) (hc : c ≤ c') : Bel n c' m T := ⟨h.len, fun r hr => Nat.le_trans (h.few r hr) hc, h.mem⟩
theorem Bel.rep (n c m : Nat) : Bel n c m (List.replicate n []) := ⟨by simp, fun r hr => by rw [List.eq_of_mem_replicate hr]; simp, fun r hr => by rw [List.eq_of_mem_replicate hr]; simp⟩
theorem yL (h : Full f R) {T : List (List Bool)} (hT : Dim f.blocks.length f.blocks.length T) (a : Nat) (ha : a < f.blocks.length) (row : List Bool) (hrow : row.length = f.blocks.length) (F : List (List Int)) (hF : F.length = f.blocks.length)
    (h0 : F[a]? = some []) :
    ∃ z, whl (fun (s : (List (List Int) × Int)) => om.bd47 (List.replicate f.blocks.length true) T (a : Int) row s.1 s.2) nD (F, 0) = some z ∧ z.length = f.blocks.length ∧ (∀ j, j ≠ a → z[j]? = F[j]?) ∧ ∃ l, z[a]? = some l ∧ l.length ≤ f.blocks.length ∧ (∀ x ∈ l, 0 ≤ x ∧ x < (f.blocks.length : Int)) ∧ ∀ x : Nat, row[x]? = some true → (a = x ∨ ¬ Hold T a x) → (x : Int) ∈ l := by
  have hn := h.sm.1
  refine oj (body := fun (s : (List (List Int) × Int)) => om.bd47 (List.replicate f.blocks.length true) T (a : Int) row s.1 s.2) (s0 := (F, 0)) f.blocks.length
    (fun i s => s.2 = (i : Int) ∧ s.1.length = f.blocks.length ∧ (∀ j, j ≠ a → s.1[j]? = F[j]?) ∧ ∃ l, s.1[a]? = some l ∧ l.length ≤ i ∧ (∀ x ∈ l, 0 ≤ x ∧ x < (f.blocks.length : Int)) ∧ ∀ x : Nat, x < i → row[x]? = some true → (a = x ∨ ¬ Hold T a x) → (x : Int) ∈ l) _ (nO hn (by omega)) (fun i s hi hI => ?_) (fun s hI => ?_) ⟨rfl, hF, fun _ _ => rfl, [], h0, by simp, by simp, fun x hx => by omega⟩
  · obtain ⟨M, q⟩ := s
    obtain ⟨rfl, h1, h2, l, l1, l2, l3, l4⟩ := hI
    simp only at h1 h2 l1
    right
    have hi' : i < row.length := by omega
    have hr : idx (List.replicate f.blocks.length true) (a : Int) = some true := by rw [oz]; simp [ha]
    obtain ⟨ra, a1, a2, a3⟩ := hT.get (b := (a : Int)) (by omega) (by omega)
    have hi2 : i < ra.length := by omega
    have hla : idx M (a : Int) = some l := by rw [oz]; exact l1
    rw [Int.toNat_natCast] at a2
    have key : ∃ t : Bool, (row[i] = true → (a = i ∨ ¬ Hold T a i) → t = true) ∧ om.bd47 (List.replicate f.blocks.length true) T (a : Int) row M (i : Int) = if t = true then some (.go (M.set a (l ++ [(i : Int)]), ((i + 1 : Nat) : Int))) else some (.go (M, ((i + 1 : Nat) : Int))) := by
      refine ⟨row[i] && (decide ((a : Int) = (i : Int)) || !ra[i]), fun q1 q2 => ?_, ?_⟩
      · rw [q1]
        rcases q2 with rfl | q2
        · simp
        · have : ra[i] = false := by
            cases hra : ra[i] with
            | false => rfl
            | true => exact absurd ⟨ra, a2, by rw [List.getElem?_eq_getElem hi2, hra]⟩ q2
          simp [this]
      simp only [om.bd47, nP, hi', if_true, nJ hi', Option.bind_some, hr, a1, nJ hi2, hla, oH (show l.length ≤ 1000 by omega), om.jn57, nQ hi (show f.blocks.length ≤ 1000 by omega), Int.toNat_natCast]
      cases row[i] <;> by_cases e : (a : Int) = (i : Int) <;> cases ra[i] <;> simp [e]
    obtain ⟨t, htt, ht⟩ := key
    have hrow' : ∀ x : Nat, x < i + 1 → row[x]? = some true → (a = x ∨ ¬ Hold T a x) → (x : Int) ∈ l ∨ (x = i ∧ t = true) := fun x hx g1 g2 => by
      by_cases e : x < i
      · exact .inl (l4 x e g1 g2)
      · obtain rfl : x = i := by omega
        rw [List.getElem?_eq_getElem hi'] at g1
        exact .inr ⟨rfl, htt (Option.some.inj g1) g2⟩
    cases t with
    | false => exact ⟨_, by simpa using ht, rfl, h1, h2, l, l1, by omega, l3, fun x hx g1 g2 => (hrow' x hx g1 g2).resolve_right (by simp)⟩
    | true =>
      refine ⟨(M.set a (l ++ [(i : Int)]), ((i + 1 : Nat) : Int)), by simpa using ht, rfl, by simp [h1], fun j hj => ?_, l ++ [(i : Int)], by simp only; rw [List.getElem?_set_self (by omega)], by simp; omega, fun x hx => ?_, fun x hx g1 g2 => ?_⟩
      · simp only; rw [List.getElem?_set_ne (fun e => hj e.symm)]; exact h2 j hj
      · rcases List.mem_append.1 hx with hx | hx
        · exact l3 x hx
        · simp at hx; omega
      · rcases hrow' x hx g1 g2 with g | ⟨rfl, _⟩
        · exact List.mem_append_left _ g
        · exact List.mem_append_right _ (by simp)
  · obtain ⟨M, q⟩ := s
    obtain ⟨rfl, h1, h2, l, l1, l2, l3, l4⟩ := hI
    exact ⟨M, by simp [om.bd47, len, hrow], h1, h2, l, l1, l2, l3, fun x g1 g2 => l4 x (by have := (List.getElem?_eq_some_iff.1 g1).1; omega) g1 g2⟩
theorem yM (h : Full f R) {T : List (List Bool)} (hT : Dim f.blocks.length f.blocks.length T) (a : Nat) (ha : a < f.blocks.length) (row : List Bool) (hrow : row.length = f.blocks.length) :
    ∃ z, whl (fun (s : (List Bool × Int)) => om.bd40 (nI f) T (a : Int) s.1 s.2) nD (row, 0) = some z ∧ z.length = f.blocks.length ∧ ∀ (y : Nat) (hy : y < f.blocks.length) (x : Nat), (x : Int) ∈ succs f.blocks.length f.blocks[y].term.to → Hold T a y → z[x]? = some true := by
  have hn := h.sm.1
  have ht : ∀ B ∈ f.blocks, B.term.to.length ≤ 70 := fun B hm => (h.sm.2.2.2 B hm).2.2.1
  obtain ⟨ra, a1, a2, a3⟩ := hT.get (b := (a : Int)) (by omega) (by omega)
  refine oj (body := fun (s : (List Bool × Int)) => om.bd40 (nI f) T (a : Int) s.1 s.2) (s0 := (row, 0)) f.blocks.length (fun i s => s.2 = (i : Int) ∧ s.1.length = f.blocks.length ∧ ∀ (y : Nat) (hy : y < f.blocks.length) (x : Nat), y < i → (x : Int) ∈ succs f.blocks.length f.blocks[y].term.to → Hold T a y → s.1[x]? = some true) _ (nO hn (by omega)) (fun i s hi hI => ?_) (fun s hI => ?_) ⟨rfl, hrow, fun y hy x h => by omega⟩
  · obtain ⟨M, q⟩ := s
    obtain ⟨rfl, h1, hM⟩ := hI
    simp only at h1 hM
    rw [Int.toNat_natCast] at a2
    have hg := qq f i hi
    obtain ⟨hr1, hr2⟩ := rS f ht i _ hg
    have hin : i < ra.length := by omega
    obtain ⟨z, hz, hz1, hz2, hz3⟩ := oj (body := fun (s : (List Bool × Int)) => om.bd99 T (a : Int) (i : Int) (succs f.blocks.length f.blocks[i].term.to) s.1 s.2) (s0 := (M, 0)) (succs f.blocks.length f.blocks[i].term.to).length (fun k s => s.2 = (k : Int) ∧ s.1.length = f.blocks.length ∧ (∀ x : Nat, M[x]? = some true → s.1[x]? = some true) ∧ ∀ (q x : Nat), q < k → (succs f.blocks.length f.blocks[i].term.to)[q]? = some (x : Int) → Hold T a i → s.1[x]? = some true) (fun z => z.length = f.blocks.length ∧ (∀ x : Nat, M[x]? = some true → z[x]? = some true) ∧ ∀ x : Nat, (x : Int) ∈ succs f.blocks.length f.blocks[i].term.to → Hold T a i → z[x]? = some true) (nO hr1 (by omega)) (fun k s hk hI => by
        obtain ⟨M', q⟩ := s
        obtain ⟨rfl, h1, h8, h9⟩ := hI
        simp only at h1 h8 h9
        have hx := hr2 _ (List.getElem_mem hk)
        rw [oP] at hx
        obtain ⟨y, y1, y2⟩ := pv (xs := M') hx.1 (by rw [h1]; exact hx.2)
        refine .inr ?_
        have key : ∃ t, (y = true → t = true) ∧ (Hold T a i → t = true) ∧ om.bd99 T (a : Int) (i : Int) (succs f.blocks.length f.blocks[i].term.to) M' (k : Int) = some (.go (M'.set ((succs f.blocks.length f.blocks[i].term.to)[k]).toNat t, ((k + 1 : Nat) : Int))) := by
          refine ⟨y || ra[i], fun e => by simp [e], fun ⟨r, g1, g2⟩ => by
            rw [a2] at g1; cases g1
            rw [List.getElem?_eq_getElem hin] at g2
            simp [Option.some.inj g2], ?_⟩
          simp only [om.bd99, nP, hk, if_true, nJ hk, Option.bind_some, y1, a1, nJ hin, nQ hk (show (succs f.blocks.length f.blocks[i].term.to).length ≤ 1000 by omega)]
          cases y <;> simp
        obtain ⟨t, ht1, ht2, ht⟩ := key
        have hlt : ((succs f.blocks.length f.blocks[i].term.to)[k]).toNat < M'.length := by omega
        have hk2 : ∀ x : Nat, M'[x]? = some true → (M'.set ((succs f.blocks.length f.blocks[i].term.to)[k]).toNat t)[x]? = some true := fun x hx => by
          by_cases e : ((succs f.blocks.length f.blocks[i].term.to)[k]).toNat = x
          · rw [e] at y2
            rw [y2] at hx
            rw [e, List.getElem?_set_self (by omega), ht1 (Option.some.inj hx)]
          · rw [List.getElem?_set_ne e]; exact hx
        refine ⟨_, ht, rfl, by simp [h1], fun x hx => hk2 x (h8 x hx), fun q x hq g1 g2 => ?_⟩
        by_cases e : q < k
        · exact hk2 x (h9 q x e g1 g2)
        · obtain rfl : q = k := by omega
          rw [List.getElem?_eq_getElem hk] at g1
          have g3 := Option.some.inj g1
          simp only
          rw [g3, Int.toNat_natCast] at hlt ⊢
          rw [List.getElem?_set_self hlt, ht2 g2]) (fun s hI => by
        obtain ⟨M', q⟩ := s
        obtain ⟨rfl, h1, h8, h9⟩ := hI
        exact ⟨M', by simp [om.bd99, len], h1, h8, fun x hx g => by
          obtain ⟨q, hq, e⟩ := List.getElem_of_mem hx
          exact h9 q x hq (by rw [List.getElem?_eq_getElem hq, e]) g⟩) ⟨rfl, h1, fun _ h => h, fun q x h => by omega⟩
    have hi' : i < (nI f).length := by rw [oP]; exact hi
    have hgi : idx (nI f) (i : Int) = some (succs f.blocks.length f.blocks[i].term.to) := by rw [oz]; exact hg
    refine .inr ⟨_, by simp only [om.bd40, nP, hi', if_true, hgi, Option.bind_some, hz]; rfl, nQ hi (by omega), hz1, fun y hy x hyi g1 g2 => ?_⟩
    by_cases e : y < i
    · exact hz2 x (hM y hy x e g1 g2)
    · obtain rfl : y = i := by omega
      exact hz3 x g1 g2
  · obtain ⟨M, q⟩ := s
    obtain ⟨rfl, h1, hM⟩ := hI
    exact ⟨M, by simp [om.bd40, len, oP], h1, fun y hy x g1 g2 => hM y hy x hy g1 g2⟩
/-- the borders hold where what stands above ends -/
def Brd (f : ny) (R : List Int) (N : Nat → Nat) (F : List (List Int)) : Prop := ∀ a y x : Nat, a < f.blocks.length → x < f.blocks.length → ∀ (hy : y < f.blocks.length), (x : Int) ∈ succs f.blocks.length f.blocks[y].term.to → Anc N (pb R a) (pb R y) → (a = x ∨ ¬ Anc N (pb R a) (pb R x)) → ∃ l, F[a]? = some l ∧ (x : Int) ∈ l
theorem yN (h : Full f R) {N : Nat → Nat} {L : List Int} (hL : nX f = some L) (hN : Near f R N L) : ∃ F, om f = some F ∧ Bel f.blocks.length f.blocks.length f.blocks.length F ∧ Brd f R N F := by
  obtain ⟨T, hT, hT1, hT2, hT3⟩ := u7 h hL hN
  have hn := h.sm.1
  have ht : ∀ B ∈ f.blocks, B.term.to.length ≤ 70 := fun B hm => (h.sm.2.2.2 B hm).2.2.1
  have hlen : len (nI f) = (f.blocks.length : Int) := by simp [len, oP]
  unfold om
  rw [rh f hn ht, h.rea, hT]
  simp only [Option.bind_some, hlen, mkl3 (n := f.blocks.length) ([] : List Int) (by omega)]
  obtain ⟨z, hz, hz1⟩ := oj (body := fun (s : (List (List Int) × Int)) => om.bd23 (nI f) (List.replicate f.blocks.length true) T (List.replicate f.blocks.length []) s.1 s.2) (s0 := (List.replicate f.blocks.length [], 0)) f.blocks.length
    (fun i s => s.2 = (i : Int) ∧ s.1.length = f.blocks.length ∧ ∀ j, j < f.blocks.length → ∃ l, s.1[j]? = some l ∧ (i ≤ j → l = []) ∧ l.length ≤ f.blocks.length ∧ (∀ x ∈ l, 0 ≤ x ∧ x < (f.blocks.length : Int)) ∧ (j < i → ∀ (y : Nat) (hy : y < f.blocks.length) (x : Nat), (x : Int) ∈ succs f.blocks.length f.blocks[y].term.to → Hold T j y → (j = x ∨ ¬ Hold T j x) → (x : Int) ∈ l)) (fun z => Bel f.blocks.length f.blocks.length f.blocks.length z ∧ Brd f R N z) (nO hn (by omega)) (fun i s hi hI => by
      obtain ⟨M, q⟩ := s
      obtain ⟨rfl, h1, h2⟩ := hI
      simp only at h1 h2
      obtain ⟨row, r1, r2, r3⟩ := yM h hT1 i hi (List.replicate f.blocks.length false) (by simp)
      obtain ⟨l, l1, l2, _, _, _⟩ := h2 i hi
      obtain rfl := l2 (Nat.le_refl _)
      obtain ⟨F, g1, g2, g3, l, g4, g5, g6, g7⟩ := yL h hT1 i hi row r2 M h1 l1
      refine .inr ⟨_, by simp only [om.bd23, nP, List.length_replicate, hi, if_true, hlen, mkl3 (n := f.blocks.length) false (by omega), Option.bind_some, r1, om.nx40, g1]; rfl, nQ hi (by omega), g2, fun j hj => ?_⟩
      simp only
      by_cases e : j = i
      · subst e
        exact ⟨l, g4, fun h => by omega, g5, g6, fun _ y hy x q1 q2 q3 => g7 x (r3 y hy x q1 q2) q3⟩
      · rw [g3 j e]
        obtain ⟨l, q1, q2, q3, q4, q5⟩ := h2 j hj
        exact ⟨l, q1, fun h => q2 (by omega), q3, q4, fun h => q5 (by omega)⟩) (fun s hI => by
      obtain ⟨M, q⟩ := s
      obtain ⟨rfl, h1, h2⟩ := hI
      simp only at h1 h2
      have hrow : ∀ r ∈ M, r.length ≤ f.blocks.length ∧ ∀ x ∈ r, 0 ≤ x ∧ x < (f.blocks.length : Int) := fun r hr => by
        obtain ⟨j, hj, rfl⟩ := List.getElem_of_mem hr
        obtain ⟨l, q1, _, q3, q4, _⟩ := h2 j (by omega)
        rw [List.getElem?_eq_getElem hj] at q1
        rw [Option.some.inj q1]; exact ⟨q3, q4⟩
      refine ⟨M, by simp [om.bd23, len], ⟨h1, fun r hr => (hrow r hr).1, fun r hr => (hrow r hr).2⟩, fun a y x ha hx hy g1 g2 g3 => ?_⟩
      obtain ⟨l, q1, _, _, _, q5⟩ := h2 a ha
      exact ⟨l, q1, q5 ha y hy x g1 (hT3 a y ha hy g2) (g3.imp id fun h4 h5 => h4 (hT2 a x h5))⟩) ⟨rfl, by simp, fun j hj => ⟨[], by simp [hj], fun _ => rfl, by simp, by simp, fun h => by omega⟩⟩
  rw [hz]
  exact ⟨z, rfl, hz1⟩
end
section
theorem yO (b : Int) (row : List Bool) (E : List (List Bool)) (g : Bool) (hg : g = true) (z : List (List Bool) × Bool) (h : whl (fun (s : (List (List Bool) × Bool × Int)) => nM.bd122 b row s.1 s.2.1 s.2.2) nD (E, g, 0) = some z) : z.2 = true := by
  refine qy (b := fun (s : (List (List Bool) × Bool × Int)) => nM.bd122 b row s.1 s.2.1 s.2.2) (fun s => s.2.1 = true) (fun z => z.2 = true) (fun s r hI hb => ?_) (fun s s' hI hb => ?_) nD (E, g, 0) z hg h <;>
  · obtain ⟨E', g', j⟩ := s
    simp only at hI
    subst hI
    simp only [nM.bd122, nM.jn132] at hb
    split at hb
    · obtain ⟨v, hv, hb⟩ := nZ hb
      obtain ⟨t, ht, hb⟩ := nZ hb
      split at hb
      · obtain ⟨_, _, hb⟩ := nZ hb
        obtain ⟨_, _, hb⟩ := nZ hb
        cases hb
        try rfl
      · cases hb
        try rfl
    · cases hb
      try rfl
theorem yP (N : List (List Bool)) (b : Int) (l : List Int) (E : List (List Bool)) (g : Bool) (hg : g = true) (z : List (List Bool) × Bool) (h : whl (fun (s : (List (List Bool) × Bool × Int)) => nM.bd74 N b l s.1 s.2.1 s.2.2) nD (E, g, 0) = some z) : z.2 = true := by
  refine qy (b := fun (s : (List (List Bool) × Bool × Int)) => nM.bd74 N b l s.1 s.2.1 s.2.2) (fun s => s.2.1 = true) (fun z => z.2 = true) (fun s r hI hb => ?_) (fun s s' hI hb => ?_) nD (E, g, 0) z hg h <;>
  · obtain ⟨E', g', j⟩ := s
    simp only at hI
    subst hI
    simp only [nM.bd74, nM.nx122] at hb
    split at hb
    · obtain ⟨v, hv, hb⟩ := nZ hb
      obtain ⟨t, ht, hb⟩ := nZ hb
      obtain ⟨y, hy, hb⟩ := nZ hb
      cases hb
      try exact yO b t E' true rfl y hy
    · cases hb
      try rfl
theorem u8 (b : Int) (bg : List Bool) (N : List (List Bool)) (g : Bool) (hg : g = true) (z : List (List Bool) × Bool) (h : whl (fun (s : (List (List Bool) × Bool × Int)) => nM.bd89 b bg s.1 s.2.1 s.2.2) nD (N, g, 0) = some z) : z.2 = true := by
  refine qy (b := fun (s : (List (List Bool) × Bool × Int)) => nM.bd89 b bg s.1 s.2.1 s.2.2) (fun s => s.2.1 = true) (fun z => z.2 = true) (fun s r hI hb => ?_) (fun s s' hI hb => ?_) nD (N, g, 0) z hg h <;>
  · obtain ⟨E', g', j⟩ := s
    simp only at hI
    subst hI
    simp only [nM.bd89, nM.jn99] at hb
    split at hb
    · obtain ⟨v, hv, hb⟩ := nZ hb
      obtain ⟨t, ht, hb⟩ := nZ hb
      obtain ⟨u, hu, hb⟩ := nZ hb
      split at hb
      · obtain ⟨_, _, hb⟩ := nZ hb
        obtain ⟨_, _, hb⟩ := nZ hb
        cases hb
        try rfl
      · cases hb
        try rfl
    · cases hb
      try rfl
theorem yQ {E0 : List (List Bool)} {b : Nat} {re row : List Bool} (hre : E0[b]? = some re) (hrl : row.length ≤ 300) (E : List (List Bool)) (g : Bool) (hE : g = true ∨ E = E0) (z : List (List Bool) × Bool)
    (h : whl (fun (s : (List (List Bool) × Bool × Int)) => nM.bd122 (b : Int) row s.1 s.2.1 s.2.2) nD (E, g, 0) = some z) :
    z.2 = true ∨ (z.1 = E0 ∧ g = false ∧ ∀ t : Nat, row[t]? = some true → re[t]? = some true) := by
  refine qy (b := fun (s : (List (List Bool) × Bool × Int)) => nM.bd122 (b : Int) row s.1 s.2.1 s.2.2) (fun s => s.2.1 = true ∨ (s.1 = E0 ∧ g = false ∧ ∃ i : Nat, s.2.2 = i ∧ i ≤ 300 ∧ ∀ t : Nat, t < i → row[t]? = some true → re[t]? = some true))
    (fun z => z.2 = true ∨ (z.1 = E0 ∧ g = false ∧ ∀ t : Nat, row[t]? = some true → re[t]? = some true)) (fun s r hI hb => ?_) (fun s s' hI hb => ?_) nD (E, g, 0) z ?_ h
  · obtain ⟨E', g', j⟩ := s
    simp only [nM.bd122, nM.jn132] at hb
    split at hb
    · exfalso
      obtain ⟨v, hv, hb⟩ := nZ hb
      obtain ⟨t, ht, hb⟩ := nZ hb
      split at hb
      · obtain ⟨_, _, hb⟩ := nZ hb
        obtain ⟨_, _, hb⟩ := nZ hb
        cases hb
      · cases hb
    · rename_i hj
      cases hb
      rcases hI with h1 | ⟨h1, h0, i, h2, _, h3⟩
      · exact .inl h1
      · refine .inr ⟨h1, h0, fun t ht => h3 t ?_ ht⟩
        simp only at h2
        subst h2
        rw [nP] at hj
        have := (List.getElem?_eq_some_iff.1 ht).1
        omega
  · obtain ⟨E', g', j⟩ := s
    simp only [nM.bd122, nM.jn132] at hb
    split at hb
    · rename_i hj
      obtain ⟨v, hv, hb⟩ := nZ hb
      obtain ⟨t, ht, hb⟩ := nZ hb
      split at hb
      · obtain ⟨_, _, hb⟩ := nZ hb
        obtain ⟨_, _, hb⟩ := nZ hb
        cases hb
        exact .inl rfl
      · rename_i hnt
        cases hb
        rcases hI with h1 | ⟨h1, h0, i, h2, h4, h3⟩
        · exact .inl h1
        · simp only at h1 h2
          subst h1 h2
          rw [nP] at hj
          refine .inr ⟨rfl, h0, i + 1, nQ hj (by omega), by omega, fun q hq hqr => ?_⟩
          by_cases e : q < i
          · exact h3 q e hqr
          · obtain rfl : q = i := by omega
            rw [oz] at hv
            rw [hv] at hqr
            cases Option.some.inj hqr
            rw [if_pos rfl] at ht
            obtain ⟨ro, r1, ht1⟩ := nZ ht
            obtain ⟨x, x1, ht2⟩ := nZ ht1
            rw [oz] at r1 x1
            rw [hre] at r1
            obtain rfl := Option.some.inj r1
            obtain rfl := Option.some.inj ht2
            rw [x1]
            cases x with
            | true => rfl
            | false => exact absurd rfl hnt
    · cases hb
  · cases g with
    | true => exact .inl rfl
    | false => exact .inr ⟨hE.resolve_left (by simp), rfl, 0, rfl, by omega, fun t ht => by omega⟩
theorem yR {E0 N : List (List Bool)} {b : Nat} {re : List Bool} (hre : E0[b]? = some re) (hN : ∀ r ∈ N, r.length ≤ 300) (l : List Int) (hl : l.length ≤ 70) (E : List (List Bool)) (g : Bool) (hE : g = true ∨ E = E0) (z : List (List Bool) × Bool)
    (h : whl (fun (s : (List (List Bool) × Bool × Int)) => nM.bd74 N (b : Int) l s.1 s.2.1 s.2.2) nD (E, g, 0) = some z) :
    z.2 = true ∨ (z.1 = E0 ∧ g = false ∧ ∀ x ∈ l, ∀ rx, idx N x = some rx → ∀ t : Nat, rx[t]? = some true → re[t]? = some true) := by
  refine qy (b := fun (s : (List (List Bool) × Bool × Int)) => nM.bd74 N (b : Int) l s.1 s.2.1 s.2.2) (fun s => s.2.1 = true ∨ (s.1 = E0 ∧ g = false ∧ s.2.1 = false ∧ ∃ i : Nat, s.2.2 = i ∧ i ≤ 70 ∧ ∀ q : Nat, q < i → ∀ x, l[q]? = some x → ∀ rx, idx N x = some rx → ∀ t : Nat, rx[t]? = some true → re[t]? = some true))
    (fun z => z.2 = true ∨ (z.1 = E0 ∧ g = false ∧ ∀ x ∈ l, ∀ rx, idx N x = some rx → ∀ t : Nat, rx[t]? = some true → re[t]? = some true)) (fun s r hI hb => ?_) (fun s s' hI hb => ?_) nD (E, g, 0) z ?_ h
  · obtain ⟨E', g', j⟩ := s
    simp only [nM.bd74, nM.nx122] at hb
    split at hb
    · exfalso
      obtain ⟨v, hv, hb⟩ := nZ hb
      obtain ⟨t, ht, hb⟩ := nZ hb
      obtain ⟨y, hy, hb⟩ := nZ hb
      cases hb
    · rename_i hj
      cases hb
      rcases hI with h1 | ⟨h1, h0, h5, i, h2, _, h3⟩
      · exact .inl h1
      · refine .inr ⟨h1, h0, fun x hx => ?_⟩
        obtain ⟨q, hq, rfl⟩ := List.getElem_of_mem hx
        simp only at h2
        subst h2
        rw [nP] at hj
        exact h3 q (by omega) _ (List.getElem?_eq_getElem hq)
  · obtain ⟨E', g', j⟩ := s
    simp only [nM.bd74, nM.nx122] at hb
    split at hb
    · rename_i hj
      obtain ⟨v, hv, hb⟩ := nZ hb
      obtain ⟨rx, hrx, hb⟩ := nZ hb
      obtain ⟨y, hy, hb⟩ := nZ hb
      cases hb
      have hrl := hN rx (List.mem_of_getElem? (oM hrx).2.2)
      rcases yQ hre hrl E' g' (hI.imp id fun h => h.1) y hy with h1 | ⟨h1, h0, h3⟩
      · exact .inl h1
      · rcases hI with h5 | ⟨_, h6, h7, i, h2, h8, h9⟩
        · rw [h0] at h5; cases h5
        · simp only at h2
          subst h2
          rw [nP] at hj
          by_cases hy2 : y.2 = true
          · exact .inl hy2
          refine .inr ⟨h1, h6, by simpa using hy2, i + 1, nQ hj (by omega), by omega, fun q hq x hx rx' hrx' => ?_⟩
          by_cases e : q < i
          · exact h9 q e x hx rx' hrx'
          · obtain rfl : q = i := by omega
            rw [oz] at hv
            rw [hv] at hx
            cases hx
            rw [hrx] at hrx'
            cases hrx'
            exact h3
    · cases hb
  · cases g with
    | true => exact .inl rfl
    | false => exact .inr ⟨hE.resolve_left (by simp), rfl, rfl, 0, rfl, by omega, fun t ht => by omega⟩
theorem yS {N0 : List (List Bool)} {b : Nat} {ri bg : List Bool} (hri : N0[b]? = some ri) (hbl : bg.length ≤ 300) (N : List (List Bool)) (g : Bool) (hN : g = true ∨ N = N0) (z : List (List Bool) × Bool)
    (h : whl (fun (s : (List (List Bool) × Bool × Int)) => nM.bd89 (b : Int) bg s.1 s.2.1 s.2.2) nD (N, g, 0) = some z) :
    z.2 = true ∨ (z.1 = N0 ∧ g = false ∧ ∀ t : Nat, bg[t]? = some true → ri[t]? = some true) := by
  refine qy (b := fun (s : (List (List Bool) × Bool × Int)) => nM.bd89 (b : Int) bg s.1 s.2.1 s.2.2) (fun s => s.2.1 = true ∨ (s.1 = N0 ∧ g = false ∧ ∃ i : Nat, s.2.2 = i ∧ i ≤ 300 ∧ ∀ t : Nat, t < i → bg[t]? = some true → ri[t]? = some true))
    (fun z => z.2 = true ∨ (z.1 = N0 ∧ g = false ∧ ∀ t : Nat, bg[t]? = some true → ri[t]? = some true)) (fun s r hI hb => ?_) (fun s s' hI hb => ?_) nD (N, g, 0) z ?_ h
  · obtain ⟨E', g', j⟩ := s
    simp only [nM.bd89, nM.jn99] at hb
    split at hb
    · exfalso
      obtain ⟨v, hv, hb⟩ := nZ hb
      obtain ⟨t, ht, hb⟩ := nZ hb
      obtain ⟨u, hu, hb⟩ := nZ hb
      split at hb
      · obtain ⟨_, _, hb⟩ := nZ hb
        obtain ⟨_, _, hb⟩ := nZ hb
        cases hb
      · cases hb
    · rename_i hj
      cases hb
      rcases hI with h1 | ⟨h1, h0, i, h2, _, h3⟩
      · exact .inl h1
      · refine .inr ⟨h1, h0, fun t ht => h3 t ?_ ht⟩
        simp only at h2
        subst h2
        rw [nP] at hj
        have := (List.getElem?_eq_some_iff.1 ht).1
        omega
  · obtain ⟨E', g', j⟩ := s
    simp only [nM.bd89, nM.jn99] at hb
    split at hb
    · rename_i hj
      obtain ⟨v, hv, hb⟩ := nZ hb
      obtain ⟨t, ht, hb⟩ := nZ hb
      obtain ⟨u, hu, hb⟩ := nZ hb
      split at hb
      · obtain ⟨_, _, hb⟩ := nZ hb
        obtain ⟨_, _, hb⟩ := nZ hb
        cases hb
        exact .inl rfl
      · rename_i hne
        cases hb
        rcases hI with h1 | ⟨h1, h0, i, h2, h4, h3⟩
        · exact .inl h1
        · simp only at h1 h2
          subst h1 h2
          rw [nP] at hj
          refine .inr ⟨rfl, h0, i + 1, nQ hj (by omega), by omega, fun q hq hqr => ?_⟩
          by_cases e : q < i
          · exact h3 q e hqr
          · obtain rfl : q = i := by omega
            rw [oz] at hv ht hu
            rw [hv] at hqr
            rw [hri] at ht
            cases ht
            rw [hu, ← hqr]
            cases v <;> cases u <;> simp at hne ⊢
    · cases hb
  · cases g with
    | true => exact .inl rfl
    | false => exact .inr ⟨hN.resolve_left (by simp), rfl, 0, rfl, by omega, fun t ht => by omega⟩
/-- nothing more is wanted at block b -/
def Fx (f : ny) (N E : List (List Bool)) (b : Nat) : Prop := ∀ (hb : b < f.blocks.length) (re ri : List Bool), E[b]? = some re → N[b]? = some ri →
  (∀ x ∈ succs f.blocks.length f.blocks[b].term.to, ∀ rx, idx N x = some rx → ∀ t : Nat, rx[t]? = some true → re[t]? = some true) ∧ ∀ t : Nat, (beginF f.blocks[b] re)[t]? = some true → ri[t]? = some true
theorem yT (f : ny) (hf : LiveOk f) (N0 E0 : List (List Bool)) (hL : LI f N0 E0) (z : List (List Bool) × List (List Bool) × Bool)
    (h : whl (fun (s : (List (List Bool) × List (List Bool) × Bool × Int)) => nM.bd57 f (nI f) s.1 s.2.1 s.2.2.1 s.2.2.2) nD (N0, E0, false, (w64 ((len f.blocks) - 1))) = some z) :
    z.2.2 = true ∨ (z.1 = N0 ∧ z.2.1 = E0 ∧ ∀ b, Fx f N0 E0 b) := by
  have hn := hf.few
  have hk := hf.sm.2.1
  have ht : ∀ B ∈ f.blocks, B.term.to.length ≤ 70 := fun B hm => (hf.sm.2.2.2 B hm).2.2.1
  have hw0 : w64 ((len f.blocks) - 1) = (f.blocks.length : Int) - 1 := by simp only [len]; exact qa ⟨by omega, by omega⟩
  refine qy (b := fun (s : (List (List Bool) × List (List Bool) × Bool × Int)) => nM.bd57 f (nI f) s.1 s.2.1 s.2.2.1 s.2.2.2)
    (fun s => s.2.2.1 = true ∨ (s.1 = N0 ∧ s.2.1 = E0 ∧ -1 ≤ s.2.2.2 ∧ s.2.2.2 < (f.blocks.length : Int) ∧ ∀ b : Nat, s.2.2.2 < (b : Int) → Fx f N0 E0 b)) (fun z => z.2.2 = true ∨ (z.1 = N0 ∧ z.2.1 = E0 ∧ ∀ b, Fx f N0 E0 b)) (fun s r hI hb => ?_) (fun s s' hI hb => ?_) nD _ z (.inr ⟨rfl, rfl, by simp only [hw0]; omega, by simp only [hw0]; omega, fun b hb hlt => by simp only [hw0] at hb; omega⟩) h
  · obtain ⟨N, E, g, j⟩ := s
    simp only [nM.bd57, nM.nx74, nM.nx89] at hb
    split at hb
    · exfalso
      obtain ⟨_, _, hb⟩ := nZ hb
      obtain ⟨_, _, hb⟩ := nZ hb
      obtain ⟨_, _, hb⟩ := nZ hb
      obtain ⟨_, _, hb⟩ := nZ hb
      obtain ⟨_, _, hb⟩ := nZ hb
      obtain ⟨_, _, hb⟩ := nZ hb
      cases hb
    · cases hb
      rcases hI with h1 | ⟨h1, h2, h3, h4, h5⟩
      · exact .inl h1
      · exact .inr ⟨h1, h2, fun b => h5 b (by simp only at *; omega)⟩
  · obtain ⟨N, E, g, j⟩ := s
    simp only [nM.bd57, nM.nx74, nM.nx89] at hb
    split at hb
    · rename_i hj
      obtain ⟨l, hl, hb⟩ := nZ hb
      obtain ⟨y, hy, hb⟩ := nZ hb
      obtain ⟨B, hB, hb⟩ := nZ hb
      obtain ⟨re, hre, hb⟩ := nZ hb
      obtain ⟨bg, hbg, hb⟩ := nZ hb
      obtain ⟨w, hw, hb⟩ := nZ hb
      cases hb
      by_cases hwt : w.2 = true
      · exact .inl hwt
      obtain ⟨b, rfl⟩ : ∃ b : Nat, j = b := ⟨j.toNat, by omega⟩
      rw [oz] at hl hB hre
      have hbn : b < f.blocks.length := (List.getElem?_eq_some_iff.1 hB).1
      have hBe : B = f.blocks[b] := ((List.getElem?_eq_some_iff.1 hB).2).symm
      subst hBe
      rw [qq f b hbn] at hl
      cases hl
      have hll := (rS f ht b _ (qq f b hbn)).1
      -- rows of the tables as they were
      obtain ⟨re0, e1, e2, e3⟩ := hL.dimE.get (b := (b : Int)) (by omega) (by omega)
      obtain ⟨ri0, i1, i2, i3⟩ := hL.dimI.get (b := (b : Int)) (by omega) (by omega)
      rw [Int.toNat_natCast] at e2 i2
      rcases hI with h1 | ⟨h1, h2, h3, h4, h5⟩
      · -- again is true already: it stays so
        exfalso
        simp only at h1
        subst h1
        exact hwt (u8 (b : Int) bg N y.2 (yP N (b : Int) _ E true rfl y hy) w hw)
      · simp only at h1 h2 h3 h4
        subst h1 h2
        rcases yR e2 (fun r hr => by rw [hL.dimI.row r hr]; exact hk) _ hll E g (.inr rfl) y hy with g1 | ⟨g1, _, g2⟩
        · exact absurd (u8 (b : Int) bg N y.2 g1 w hw) hwt
        · rw [g1, e2] at hre
          obtain rfl := Option.some.inj hre
          rw [uQ f.blocks[b] re0 (hf.sm.2.2.2 _ (List.getElem_mem hbn)) (by rw [e3]; exact hf.regs _ (List.getElem_mem hbn)) (by omega)] at hbg
          cases hbg
          rcases yS i2 (by rw [sX]; omega) N y.2 (.inr rfl) w hw with k1 | ⟨k1, _, k2⟩
          · exact absurd k1 hwt
          · have hw1 : w64 ((b : Int) - 1) = (b : Int) - 1 := qa ⟨by omega, by omega⟩
            refine .inr ⟨k1, g1, by simp only [hw1]; omega, by simp only [hw1]; omega, fun c hc => ?_⟩
            simp only [hw1] at hc
            by_cases e : (b : Int) < (c : Int)
            · exact h5 c e
            · obtain rfl : c = b := by omega
              intro hcb re ri hre hri
              rw [e2] at hre
              rw [i2] at hri
              cases hre; cases hri
              exact ⟨g2, k2⟩
    · cases hb
theorem yU (f : ny) (hf : LiveOk f) (ins ends : List (List Bool)) (hL : LI f ins ends) (hbig : fal ins + fal ends ≤ 1000000) :
    ∃ z, whl (fun (s : (List (List Bool) × List (List Bool) × Bool)) => nM.bd43 f (nI f) s.1 s.2.1 s.2.2) nD (ins, ends, true) = some z ∧ LI f z.1 z.2 ∧ ∀ b, Fx f z.1 z.2 b := by
  refine qp (body := fun (s : (List (List Bool) × List (List Bool) × Bool)) => nM.bd43 f (nI f) s.1 s.2.1 s.2.2) (fun s => LI f s.1 s.2.1 ∧ (s.2.2 = true ∨ ∀ b, Fx f s.1 s.2.1 b)) (fun s => 2 * (fal s.1 + fal s.2.1) + (if s.2.2 = true then 1 else 0)) (fun z => LI f z.1 z.2 ∧ ∀ b, Fx f z.1 z.2 b) (fun s hI => ?_) nD _ ⟨hL, .inl rfl⟩ (by
    simp only [if_true]
    exact oW (by simp only [maxLen]; omega))
  obtain ⟨N, E, g⟩ := s
  obtain ⟨hI, hX⟩ := hI
  simp only at hI hX
  cases g with
  | false => exact .inl ⟨(N, E), by simp [nM.bd43], hI, hX.resolve_left (by simp)⟩
  | true =>
    obtain ⟨z, hz, hz1, hz2, hz3⟩ := yx f hf N E hI
    refine .inr ⟨(z.1, z.2.1, z.2.2), by simp only [nM.bd43, if_true, hz, Option.bind_some, nM.nx57], ⟨hz1, ?_⟩, ?_⟩
    · rcases yT f hf N E hI z hz with h | ⟨h1, h2, h3⟩
      · exact .inl h
      · exact .inr (by simp only [h1, h2]; exact h3)
    · simp only [if_true]
      cases hg : z.2.2 with
      | false => simp only [Bool.false_eq_true, if_false]; omega
      | true => have := hz3 hg; simp only [if_true]; omega
theorem yV (m : nR) (hm : SmM m) (a : Int) : ∃ e, qP m a = some e ∧
    ((e ≠ GErr.no ∧ nM m a = some ([], [], e)) ∨ (e = GErr.no ∧ Proper m ∧ ∃ k : Nat, a = k ∧ ∃ hk : k < m.funcs.length, ∃ ins ends, nM m a = some (ins, ends, GErr.no) ∧ LI m.funcs[k] ins ends ∧ ∀ b, Fx m.funcs[k] ins ends b)) := by
  obtain ⟨e, he1, he2⟩ := yy m hm a
  refine ⟨e, he1, ?_⟩
  unfold nM
  rw [he1]
  simp only [Option.bind_some]
  by_cases h : e = GErr.no
  · right
    rw [if_neg (by simpa using h)]
    obtain ⟨hp, h0, h1⟩ := he2.1 h
    refine ⟨h, hp, a.toNat, by omega, by omega, ?_⟩
    have hk : a.toNat < m.funcs.length := by omega
    have hix : idx m.funcs a = some m.funcs[a.toNat] := by
      simp only [idx, if_pos h0]; exact List.getElem?_eq_getElem hk
    have hsm := hm.2 _ (List.getElem_mem hk)
    have hf := (hp.funcs _ (List.getElem_mem hk)).live hsm
    rw [hix]
    generalize m.funcs[a.toNat] = f at *
    have ht : ∀ B ∈ f.blocks, B.term.to.length ≤ 70 := fun B hm => (hsm.2.2.2 B hm).2.2.1
    simp only [Option.bind_some, rh f hsm.1 ht, rV f hsm, yo f hsm]
    obtain ⟨z, hz, hz1, hz2⟩ := yr f hf _ ⟨Dim.rep _ _, Nm.rep _ _ _⟩
    rw [hz]
    simp only [Option.bind_some, nM.nx34]
    have hLI : LI f (List.replicate f.blocks.length (List.replicate f.regs.length false)) z := by
      refine ⟨Dim.rep _ _, hz1, Nm.rep _ _ _, hz2, fun b hb ri re e1 e2 => ⟨?_, fun r hr => ?_⟩⟩
      · rw [sX, hz1.row re (List.mem_of_getElem? e2)]
        exact (Dim.rep _ _).row ri (List.mem_of_getElem? e1)
      · rw [List.eq_of_mem_replicate (List.mem_of_getElem? e1), List.getElem?_replicate] at hr
        split at hr <;> simp at hr
    have hn := hf.few
    have hr := hsm.2.1
    have hb : f.blocks.length * f.regs.length ≤ 64 * 300 := Nat.mul_le_mul hn hr
    obtain ⟨y, hy, hy1, hy2⟩ := yU f hf _ z hLI (by
      have a1 := uR _ _ _ (Dim.rep f.blocks.length f.regs.length)
      have a2 := uR _ _ _ hz1
      omega)
    rw [hy]
    exact ⟨y.1, y.2, rfl, hy1, hy2⟩
  · left
    rw [if_pos h]
    exact ⟨h, rfl⟩
/-! ### What a block's beginning wants -/
theorem yW (l : List Int) : ∀ (o : List Bool) (r : Nat), o[r]? = some true → (markAll o l)[r]? = some true := by
  induction l with
  | nil => exact fun o r h => h
  | cons a l ih =>
    intro o r h
    exact ih (o.set a.toNat true) r ((Le.mark o a.toNat).le r h)
theorem yX (o : List Bool) (x : nL) (r : Nat) (hx : x.dst ≠ (r : Int)) (h : o[r]? = some true) : (stepI o x)[r]? = some true := by
  unfold stepI
  refine yW _ _ _ ?_
  split
  · rw [List.getElem?_set_ne (by omega)]; exact h
  · exact h
theorem yY (l : List nL) : ∀ (o : List Bool) (r : Nat), (∀ x ∈ l, x.dst ≠ (r : Int)) → o[r]? = some true → (l.foldl stepI o)[r]? = some true := by
  induction l with
  | nil => exact fun o r _ h => h
  | cons a l ih =>
    intro o r h1 h
    exact ih _ r (fun x hx => h1 x (List.mem_cons_of_mem _ hx)) (yX o a r (h1 a (by simp)) h)
theorem u9 (B : nA) (hB : B.phis = []) (e : List Bool) (r : Nat) (hr : ∀ x ∈ B.ins, x.dst ≠ (r : Int)) (h : e[r]? = some true ∨ (B.term.arg = (r : Int) ∧ r < e.length)) : (beginF B e)[r]? = some true := by
  unfold beginF
  rw [hB]
  simp only [dropP, List.foldl_nil]
  refine yY _ _ _ (fun x hx => hr x (List.mem_reverse.1 hx)) ?_
  rcases h with h | ⟨h, hl⟩
  · split
    · exact (Le.mark e _).le r h
    · exact h
  · rw [if_pos (by omega), h, Int.toNat_natCast, List.getElem?_set_self hl]
end
section
variable {f : ny} {R : List Int}
theorem yZ (l : List nL) (hl : l.length ≤ 300) (r : Int) : ∃ b, rd l r = some b ∧ ((∃ x ∈ l, x.dst = r) → b = true) := by
  unfold rd pZ
  obtain ⟨z, hz, hz1⟩ := oj (body := fun (s : Int) => pZ.bd8 l r s) (s0 := 0) l.length (fun i s => s = (i : Int) ∧ ∀ j (hj : j < l.length), j < i → l[j].dst ≠ r) (fun z => (∃ i : Nat, z = .ret (i : Int)) ∨ ∀ x ∈ l, x.dst ≠ r) (nO hl (by omega)) (fun i s hi hI => by
    obtain ⟨rfl, hI⟩ := hI
    simp only [pZ.bd8, nP, hi, if_true, nJ hi, Option.bind_some, rN, nQ hi (show l.length ≤ 1000 by omega)]
    by_cases e : l[i].dst = r
    · exact .inl ⟨.ret (i : Int), by simp [e], .inl ⟨i, rfl⟩⟩
    · exact .inr ⟨((i + 1 : Nat) : Int), by simp [e], rfl, fun j hj hji => by
        by_cases e2 : j < i
        · exact hI j hj e2
        · obtain rfl : j = i := by omega
          exact e⟩) (fun s hI => by
    obtain ⟨rfl, hI⟩ := hI
    exact ⟨.go (), by simp [pZ.bd8, len], .inr fun x hx => by
      obtain ⟨j, hj, rfl⟩ := List.getElem_of_mem hx
      exact hI j hj hj⟩) ⟨rfl, fun j _ hj => by omega⟩
  rw [hz]
  cases z with
  | ret q =>
    refine ⟨_, rfl, fun ⟨x, hx, he⟩ => ?_⟩
    rcases hz1 with ⟨i, e⟩ | h
    · cases e; simp
    · exact absurd he (h x hx)
  | go p =>
    refine ⟨_, rfl, fun ⟨x, hx, he⟩ => ?_⟩
    rcases hz1 with ⟨i, e⟩ | h
    · cases e
    · exact absurd he (h x hx)
/-- all that borders on c is in the set -/
def Dn1 (F : List (List Int)) (O : List Bool) (c : Nat) : Prop := ∀ l, F[c]? = some l → ∀ x ∈ l, O[x.toNat]? = some true
/-- the set is closed, from block 0 and all that define r on -/
def Cl (f : ny) (F : List (List Int)) (r : Int) (C : List Bool) : Prop := ∀ c : Nat, (c = 0 ∨ (∃ hc : c < f.blocks.length, ∃ x ∈ f.blocks[c].ins, x.dst = r) ∨ C[c]? = some true) → Dn1 F C c
theorem y5 {n : Nat} (hn : n ≤ 70) (F : List (List Int)) (hF : Bel n n n F) (b : nS) (hb : b.front = F) (O : List Bool) (W : List Int) (hO : O.length = n) (hW : ∀ x ∈ W, 0 ≤ x ∧ x < (n : Int)) (hm : 2 * cnt O + W.length ≤ 300) (hO2 : ∀ c : Nat, O[c]? ≠ some true) :
    ∃ z, whl (fun (s : (List Bool × List Int)) => oA.bd18 b s.1 s.2) nD (O, W) = some z ∧ z.length = n ∧ ∀ c : Nat, ((c : Int) ∈ W ∨ z[c]? = some true) → Dn1 F z c := by
  refine qp (body := fun (s : (List Bool × List Int)) => oA.bd18 b s.1 s.2) (fun s => s.1.length = n ∧ (∀ x ∈ s.2, 0 ≤ x ∧ x < (n : Int)) ∧ 2 * cnt s.1 + s.2.length ≤ 300 ∧ ∀ c : Nat, ((c : Int) ∈ W ∨ s.1[c]? = some true) → (c : Int) ∈ s.2 ∨ Dn1 F s.1 c) (fun s => 2 * cnt s.1 + s.2.length) _ (fun s hs => ?_) nD (O, W) ⟨hO, hW, hm, fun c h => .inl (h.resolve_right (hO2 c))⟩ (rY (by simp only; omega))
  obtain ⟨M, q⟩ := s
  obtain ⟨h1, h2, h3, h4⟩ := hs
  simp only at h1 h2 h3 h4
  simp only [oA.bd18]
  rcases Nat.eq_zero_or_pos q.length with h0 | h0
  · exact .inl ⟨M, by rw [if_neg (by simp only [len]; omega)], h1, fun c h => (h4 c h).resolve_left (fun hm => by rw [List.eq_nil_of_length_eq_zero h0] at hm; simp at hm)⟩
  right
  have hw : w64 (len q - 1) = ((q.length - 1 : Nat) : Int) := by
    rw [show len q - 1 = ((q.length - 1 : Nat) : Int) by simp only [len]; omega]
    exact rO (by omega)
  have hl : q.length - 1 < q.length := by omega
  have hx := h2 _ (List.getElem_mem hl)
  obtain ⟨row, r1, r2, r3, r4⟩ := hF.get hx.1 hx.2
  have hu : upto q ((q.length - 1 : Nat) : Int) = some (q.take (q.length - 1)) := by
    unfold upto; rw [if_pos ⟨by omega, by simp⟩]; simp
  obtain ⟨z, hz, hz1, hz2, hz3, k1, k2, k3, k4⟩ := oj (body := fun (s : (List Bool × List Int × Int)) => oA.bd35 row s.1 s.2.1 s.2.2) (s0 := (M, q.take (q.length - 1), 0)) row.length
    (fun i s => s.2.2 = (i : Int) ∧ s.1.length = n ∧ (∀ x ∈ s.2.1, 0 ≤ x ∧ x < (n : Int)) ∧ 2 * cnt s.1 + s.2.1.length + 1 ≤ 2 * cnt M + q.length ∧ (∀ x : Nat, M[x]? = some true → s.1[x]? = some true) ∧ (∀ t (ht : t < row.length), t < i → s.1[row[t].toNat]? = some true) ∧ (∀ x ∈ q.take (q.length - 1), x ∈ s.2.1) ∧ ∀ c : Nat, s.1[c]? = some true → M[c]? = some true ∨ (c : Int) ∈ s.2.1) (fun z => z.1.length = n ∧ (∀ x ∈ z.2, 0 ≤ x ∧ x < (n : Int)) ∧ 2 * cnt z.1 + z.2.length + 1 ≤ 2 * cnt M + q.length ∧ (∀ x : Nat, M[x]? = some true → z.1[x]? = some true) ∧ (∀ x ∈ row, z.1[x.toNat]? = some true) ∧ (∀ x ∈ q.take (q.length - 1), x ∈ z.2) ∧ ∀ c : Nat, z.1[c]? = some true → M[c]? = some true ∨ (c : Int) ∈ z.2) (nO (by omega) (Nat.le_refl 1000)) (fun i s hi hI => by
      obtain ⟨A, B, j⟩ := s
      obtain ⟨rfl, g1, g2, g3, g4, g5, g6, g7⟩ := hI
      simp only at g1 g2 g3 g4 g5 g6 g7
      right
      have hy := r4 _ (List.getElem_mem hi)
      obtain ⟨y, y1, y2⟩ := pv (xs := A) hy.1 (by rw [g1]; exact hy.2)
      simp only [oA.bd35, nP, hi, if_true, nJ hi, Option.bind_some, y1, oA.jn45, nQ hi (show row.length ≤ 1000 by omega), oH (show B.length ≤ 1000 by omega)]
      cases y with
      | true => exact ⟨_, by simp; rfl, rfl, g1, g2, g3, g4, fun t ht hti => by
          by_cases e : t < i
          · exact g5 t ht e
          · obtain rfl : t = i := by omega
            exact y2, g6, g7⟩
      | false =>
        have hc := rT A _ y2
        have hlt : row[i].toNat < A.length := by omega
        have hk : ∀ x : Nat, A[x]? = some true → (A.set row[i].toNat true)[x]? = some true := fun x hx => (Le.mark A _).le x hx
        refine ⟨_, by simp only [Bool.not_false, if_true]; rfl, rfl, by simp [g1], fun x hx => ?_, by simp only [List.length_append, List.length_singleton]; omega, fun x hx => hk x (g4 x hx), fun t ht hti => ?_, fun x hx => List.mem_append_left _ (g6 x hx), fun c hc => ?_⟩
        · rcases List.mem_append.1 hx with hx | hx
          · exact g2 x hx
          · rw [List.mem_singleton] at hx; subst hx; exact hy
        · by_cases e : t < i
          · exact hk _ (g5 t ht e)
          · obtain rfl : t = i := by omega
            exact List.getElem?_set_self hlt
        · simp only at hc
          by_cases e : row[i].toNat = c
          · right
            refine List.mem_append_right _ ?_
            rw [List.mem_singleton]; omega
          · rw [List.getElem?_set_ne e] at hc
            exact (g7 c hc).imp id (List.mem_append_left _)) (fun s hI => by
      obtain ⟨A, B, j⟩ := s
      obtain ⟨rfl, g1, g2, g3, g4, g5, g6, g7⟩ := hI
      exact ⟨(A, B), by simp [oA.bd35, len], g1, g2, g3, g4, fun x hx => by
        obtain ⟨t, ht, rfl⟩ := List.getElem_of_mem hx
        exact g5 t ht ht, g6, g7⟩) ⟨rfl, h1, fun x hx => h2 x (List.mem_of_mem_take hx), by simp only [List.length_take]; omega, fun _ h => h, fun t _ h => by omega, fun _ h => h, fun _ h => .inl h⟩
  refine ⟨z, ?_, ⟨hz1, hz2, by omega, fun c hc => ?_⟩, by omega⟩
  rotate_left
  · have hold : (c : Int) ∈ z.2 ∨ (c : Int) ∈ q ∨ Dn1 F M c := by
      rcases hc with hc | hc
      · exact .inr (h4 c (.inl hc))
      · rcases k4 c hc with hc | hc
        · exact .inr (h4 c (.inr hc))
        · exact .inl hc
    rcases hold with h | h | h
    · exact .inl h
    · obtain ⟨t, ht, e⟩ := List.getElem_of_mem h
      by_cases et : t < q.length - 1
      · exact .inl (k3 _ (by rw [← e]; exact List.mem_take_iff_getElem.2 ⟨t, by omega, rfl⟩))
      · right
        obtain rfl : t = q.length - 1 := by omega
        intro l hl x hx
        rw [e, Int.toNat_natCast] at r2
        rw [r2] at hl
        cases hl
        exact k2 x hx
    · exact .inr fun l hl x hx => k1 _ (h l hl x hx)
  rw [if_pos (by simp only [len]; omega), hw, nJ hl]
  simp only [Option.bind_some, hu, hb, r1, hz]
  rfl
theorem y6 (hf : SmF f) (hpos : 0 < f.blocks.length) (b : nS) (hb : b.f = f) (hF : Bel f.blocks.length f.blocks.length f.blocks.length b.front) (r : Int) : ∃ z, oA b r = some z ∧ z.length = f.blocks.length ∧ Cl f b.front r z := by
  have hn := hf.1
  unfold oA
  obtain ⟨z, hz, hz1, hz2, hz3, hz4⟩ := oj (body := fun (s : (List Int × Int)) => oA.bd9 b r s.1 s.2) (s0 := ([0], 0)) f.blocks.length
    (fun i s => s.2 = (i : Int) ∧ s.1.length ≤ i + 1 ∧ (∀ x ∈ s.1, 0 ≤ x ∧ x < (f.blocks.length : Int)) ∧ 0 ∈ s.1 ∧ ∀ c (hc : c < f.blocks.length), c < i → (∃ x ∈ f.blocks[c].ins, x.dst = r) → (c : Int) ∈ s.1) (fun z => z.length ≤ f.blocks.length + 1 ∧ (∀ x ∈ z, 0 ≤ x ∧ x < (f.blocks.length : Int)) ∧ 0 ∈ z ∧ ∀ c (hc : c < f.blocks.length), (∃ x ∈ f.blocks[c].ins, x.dst = r) → (c : Int) ∈ z) (nO hn (by omega)) (fun i s hi hI => by
      obtain ⟨A, j⟩ := s
      obtain ⟨rfl, g1, g2, g3, g4⟩ := hI
      simp only at g1 g2 g3 g4
      right
      obtain ⟨t, ht, ht2⟩ := yZ f.blocks[i].ins (hf.2.2.2 _ (List.getElem_mem hi)).1 r
      simp only [oA.bd9, hb, nP, hi, if_true, nJ hi, Option.bind_some, ht, oA.jn63, nQ hi (show f.blocks.length ≤ 1000 by omega), oH (show A.length ≤ 1000 by omega)]
      cases t with
      | false => exact ⟨_, by simp; rfl, rfl, by simp only; omega, g2, g3, fun c hc hci hd => by
          by_cases e : c < i
          · exact g4 c hc e hd
          · obtain rfl : c = i := by omega
            exact absurd (ht2 hd) (by simp)⟩
      | true =>
        refine ⟨_, by simp only [if_true]; rfl, rfl, by simp only [List.length_append, List.length_singleton]; omega, fun x hx => ?_, List.mem_append_left _ g3, fun c hc hci hd => ?_⟩
        · rcases List.mem_append.1 hx with hx | hx
          · exact g2 x hx
          · rw [List.mem_singleton] at hx; omega
        · by_cases e : c < i
          · exact List.mem_append_left _ (g4 c hc e hd)
          · obtain rfl : c = i := by omega
            exact List.mem_append_right _ (by simp)) (fun s hI => by
      obtain ⟨A, j⟩ := s
      obtain ⟨rfl, g1, g2, g3, g4⟩ := hI
      exact ⟨A, by simp [oA.bd9, hb, len], g1, g2, g3, fun c hc => g4 c hc hc⟩) ⟨rfl, by simp, fun x hx => by simp at hx; omega, by simp, fun c _ h => by omega⟩
  have hmk : mkl (len b.f.blocks) false = some (List.replicate f.blocks.length false) := by rw [hb]; exact mkl3 false (by omega)
  rw [hmk, hz]
  simp only [Option.bind_some, oA.nx9]
  obtain ⟨y, hy, hy1, hy2⟩ := y5 hn _ hF b rfl (List.replicate f.blocks.length false) z (by simp) hz2 (by unfold cnt; rw [List.count_replicate_self]; omega) (fun c h => by
    rw [List.getElem?_replicate] at h
    split at h <;> simp at h)
  rw [hy]
  refine ⟨y, rfl, hy1, fun c hc => hy2 c ?_⟩
  rcases hc with rfl | ⟨hc, hd⟩ | h
  · exact .inl hz3
  · exact .inl (hz4 c hc hd)
  · exact .inr h
/-- row i has x -/
def In1 (P : List (List Int)) (i : Nat) (x : Int) : Prop := ∃ row, P[i]? = some row ∧ x ∈ row
theorem In1.add {A : List (List Int)} {i j : Nat} {row : List Int} {x y : Int} (h : A[i]? = some row) : In1 A j x → In1 (A.set i (row ++ [y])) j x := fun ⟨q, h1, h2⟩ => by
  by_cases e : i = j
  · subst e
    rw [h] at h1; cases h1
    exact ⟨_, List.getElem?_set_self (List.getElem?_eq_some_iff.1 h).1, List.mem_append_left _ h2⟩
  · exact ⟨q, by rw [List.getElem?_set_ne e]; exact h1, h2⟩
theorem y7 (hf : SmF f) (hpos : 0 < f.blocks.length) (b : nS) (hb : b.f = f) (hD : Dim f.blocks.length f.regs.length b.in_) (r : Nat) (hr : r < f.regs.length) (C : List Bool) (hC : C.length = f.blocks.length) (P : List (List Int)) (hP : Bel f.blocks.length r f.regs.length P) :
    ∃ z, whl (fun (s : (List (List Int) × Int)) => oG.bd29 b (r : Int) C s.1 s.2) nD (P, 0) = some z ∧ Bel f.blocks.length (r + 1) f.regs.length z ∧ (∀ i x, In1 P i x → In1 z i x) ∧ ∀ i : Nat, C[i]? = some true → Hold b.in_ i r → In1 z i (r : Int) := by
  have hn := hf.1
  have hrr := hf.2.1
  refine oj (body := fun (s : (List (List Int) × Int)) => oG.bd29 b (r : Int) C s.1 s.2) (s0 := (P, 0)) f.blocks.length
    (fun i s => s.2 = (i : Int) ∧ Bel f.blocks.length (r + 1) f.regs.length s.1 ∧ (∀ j row, i ≤ j → s.1[j]? = some row → row.length ≤ r) ∧ (∀ i x, In1 P i x → In1 s.1 i x) ∧ ∀ j : Nat, j < i → C[j]? = some true → Hold b.in_ j r → In1 s.1 j (r : Int)) _ (nO hn (by omega)) (fun i s hi hI => ?_) (fun s hI => ?_) ⟨rfl, hP.mono (by omega), fun j row _ hj => hP.few row (List.mem_of_getElem? hj), fun _ _ h => h, fun j h => by omega⟩
  · obtain ⟨A, j⟩ := s
    obtain ⟨rfl, g1, g2, g3, g4⟩ := hI
    simp only at g1 g2 g3 g4
    right
    have hi' : i < C.length := by omega
    obtain ⟨ro, o1, o2, o3⟩ := hD.get (b := (i : Int)) (by omega) (by omega)
    have hro : r < ro.length := by omega
    obtain ⟨row, q1, q2, q3, q4⟩ := g1.get (b := (i : Int)) (by omega) (by omega)
    have q5 := g2 i row (Nat.le_refl _) (by simpa using q2)
    rw [Int.toNat_natCast] at o2 q2
    have key : ∃ t : Bool, (C[i] = true → Hold b.in_ i r → t = true) ∧ oG.bd29 b (r : Int) C A (i : Int) = if t = true then some (.go (A.set i (row ++ [(r : Int)]), ((i + 1 : Nat) : Int))) else some (.go (A, ((i + 1 : Nat) : Int))) := by
      refine ⟨C[i] && ro[r], fun e1 ⟨x, e2, e3⟩ => by
        rw [o2] at e2; cases e2
        rw [List.getElem?_eq_getElem hro] at e3
        simp [e1, Option.some.inj e3], ?_⟩
      simp only [oG.bd29, nP, hi', if_true, nJ hi', Option.bind_some, o1, nJ hro, q1, oH (show row.length ≤ 1000 by omega), oG.jn49, nQ hi (show f.blocks.length ≤ 1000 by omega), Int.toNat_natCast]
      cases C[i] <;> cases ro[r] <;> simp
    obtain ⟨t, ht1, ht⟩ := key
    have hnew : ∀ j : Nat, j < i + 1 → C[j]? = some true → Hold b.in_ j r → In1 A j (r : Int) ∨ (j = i ∧ t = true) := fun j hj e1 e2 => by
      by_cases e : j < i
      · exact .inl (g4 j e e1 e2)
      · obtain rfl : j = i := by omega
        rw [List.getElem?_eq_getElem hi'] at e1
        exact .inr ⟨rfl, ht1 (Option.some.inj e1) e2⟩
    cases t with
    | false => exact ⟨_, by simpa using ht, rfl, g1, fun j row hj => g2 j row (by omega), g3, fun j hj e1 e2 => (hnew j hj e1 e2).resolve_right (by simp)⟩
    | true =>
      refine ⟨(A.set i (row ++ [(r : Int)]), ((i + 1 : Nat) : Int)), by simpa using ht, rfl, g1.set i (row := row ++ [(r : Int)]) (by simp only [List.length_append, List.length_singleton]; omega) (fun x hx => ?_), fun j row' hj hget => ?_, fun j x h => In1.add q2 (g3 j x h), fun j hj e1 e2 => ?_⟩
      · rcases List.mem_append.1 hx with hx | hx
        · exact q4 x hx
        · rw [List.mem_singleton] at hx; omega
      · simp only at hget
        rw [List.getElem?_set_ne (by omega)] at hget
        exact g2 j row' (by omega) hget
      · rcases hnew j hj e1 e2 with h | ⟨rfl, _⟩
        · exact In1.add q2 h
        · exact ⟨_, List.getElem?_set_self (List.getElem?_eq_some_iff.1 q2).1, List.mem_append_right _ (by simp)⟩
  · obtain ⟨A, j⟩ := s
    obtain ⟨rfl, g1, g2, g3, g4⟩ := hI
    exact ⟨A, by simp [oG.bd29, len, hC], g1, g3, fun i e1 e2 => g4 i (by have := (List.getElem?_eq_some_iff.1 e1).1; omega) e1 e2⟩
/-- the registers with a zero -/
structure Zs (c m : Nat) (l : List Int) : Prop where
  few : l.length ≤ c
  mem : ∀ x ∈ l, 0 ≤ x ∧ x < (m : Int)
/-- where phis and zeros are -/
structure Plc (f : ny) (F : List (List Int)) (ins : List (List Bool)) (P : List (List Int)) (Z : List Int) (m : Nat) : Prop where
  phi : ∀ r, r < m → ∃ C, Cl f F (r : Int) C ∧ ∀ i : Nat, C[i]? = some true → Hold ins i r → In1 P i (r : Int)
  zero : ∀ r, r < m → f.params ≤ (r : Int) → Hold ins 0 r → (r : Int) ∈ Z
theorem y8 (hf : SmF f) (hpos : 0 < f.blocks.length) (b : nS) (hb : b.f = f) (hD : Dim f.blocks.length f.regs.length b.in_) (hF : Bel f.blocks.length f.blocks.length f.blocks.length b.front) (hz0 : b.zeros = []) :
    ∃ z, oG b = some z ∧ Bel f.blocks.length f.regs.length f.regs.length z.1 ∧ Zs f.regs.length f.regs.length z.2 ∧ Plc f b.front b.in_ z.1 z.2 f.regs.length := by
  have hn := hf.1
  have hrr := hf.2.1
  unfold oG
  have hmk : mkl (len b.f.blocks) ([] : List Int) = some (List.replicate f.blocks.length []) := by rw [hb]; exact mkl3 [] (by omega)
  obtain ⟨z, hz, hz1⟩ := oj (body := fun (s : (List (List Int) × List Int × Int)) => oG.bd9 b s.1 s.2.1 s.2.2) (s0 := (List.replicate f.blocks.length [], [], 0)) f.regs.length
    (fun i s => s.2.2 = (i : Int) ∧ Bel f.blocks.length i f.regs.length s.1 ∧ Zs i f.regs.length s.2.1 ∧ Plc f b.front b.in_ s.1 s.2.1 i) (fun z => Bel f.blocks.length f.regs.length f.regs.length z.1 ∧ Zs f.regs.length f.regs.length z.2 ∧ Plc f b.front b.in_ z.1 z.2 f.regs.length) (nO hrr (by omega)) (fun r s hr hI => by
      obtain ⟨A, Z, j⟩ := s
      obtain ⟨rfl, g1, g2, g3⟩ := hI
      simp only at g1 g2 g3
      right
      obtain ⟨C, c1, c2, c3⟩ := y6 hf hpos (⟨(⟨b.f.params, b.f.result, b.f.regs, b.f.blocks⟩ : ny), b.in_, b.front, b.nearest, A, Z, b.regs, b.phi, b.zero_, b.dst, b.begin, b.end_⟩ : nS) (by rw [hb]) hF (r : Int)
      obtain ⟨y, y1, y2, y3, y4⟩ := y7 hf hpos b hb hD r hr C c2 A g1
      obtain ⟨ro, o1, o2, o3⟩ := hD.get (b := 0) (by omega) (by omega)
      have hro : r < ro.length := by omega
      have hlt : (r : Int) < len b.f.regs := by rw [hb]; simp only [len]; omega
      have hZ := g2.few
      have o2' : b.in_[0]? = some ro := by simpa using o2
      have key : ∃ t : Bool, (f.params ≤ (r : Int) → Hold b.in_ 0 r → t = true) ∧ oG.bd9 b A Z (r : Int) = if t = true then some (.go (y, Z ++ [(r : Int)], ((r + 1 : Nat) : Int))) else some (.go (y, Z, ((r + 1 : Nat) : Int))) := by
        refine ⟨decide ((r : Int) ≥ b.f.params) && ro[r], fun e1 ⟨x, e2, e3⟩ => by
          rw [o2'] at e2; cases e2
          rw [List.getElem?_eq_getElem hro] at e3
          simp [hb, e1, Option.some.inj e3], ?_⟩
        simp only [oG.bd9, hlt, if_true, c1, Option.bind_some, y1, oG.nx29, o1, nJ hro, oH (show Z.length ≤ 1000 by omega), oG.jn19, nQ hr (show f.regs.length ≤ 1000 by omega)]
        by_cases e : (r : Int) ≥ b.f.params <;> cases ro[r] <;> simp [e]
      obtain ⟨t, ht1, ht⟩ := key
      have hphi : ∀ q, q < r + 1 → ∃ C, Cl f b.front (q : Int) C ∧ ∀ i : Nat, C[i]? = some true → Hold b.in_ i q → In1 y i (q : Int) := fun q hq => by
        by_cases e : q < r
        · obtain ⟨D, d1, d2⟩ := g3.phi q e
          exact ⟨D, d1, fun i e1 e2 => y3 i _ (d2 i e1 e2)⟩
        · obtain rfl : q = r := by omega
          exact ⟨C, c3, y4⟩
      cases t with
      | false => exact ⟨_, by simpa using ht, rfl, y2, ⟨by simp only; omega, g2.mem⟩, hphi, fun q hq e1 e2 => by
          by_cases e : q < r
          · exact g3.zero q e e1 e2
          · obtain rfl : q = r := by omega
            exact absurd (ht1 e1 e2) (by simp)⟩
      | true =>
        refine ⟨(y, Z ++ [(r : Int)], ((r + 1 : Nat) : Int)), by simpa using ht, rfl, y2, ⟨by simp only [List.length_append, List.length_singleton]; omega, fun x hx => ?_⟩, hphi, fun q hq e1 e2 => ?_⟩
        · rcases List.mem_append.1 hx with hx | hx
          · exact g2.mem x hx
          · rw [List.mem_singleton] at hx; omega
        · by_cases e : q < r
          · exact List.mem_append_left _ (g3.zero q e e1 e2)
          · obtain rfl : q = r := by omega
            exact List.mem_append_right _ (by simp)) (fun s hI => by
      obtain ⟨A, Z, j⟩ := s
      obtain ⟨rfl, g1, g2, g3⟩ := hI
      exact ⟨(A, Z), by simp [oG.bd9, len, hb], g1, g2, g3⟩) ⟨rfl, Bel.rep _ _ _, ⟨by simp, by simp⟩, fun r h => by omega, fun r h => by omega⟩
  rw [hmk, hz0]
  simp only [Option.bind_some, hz]
  exact ⟨z, rfl, hz1⟩
end
section
variable {f : ny} {R : List Int}
theorem y9 {α : Type} {a : List α} {x : α} (h : a.length ≤ 1000000) : cat a [x] = some (a ++ [x]) := uj (by simp only [LIM, List.length_singleton]; omega)
theorem s5 (b : nS) (hb : b.f = f) (r : Int) (h0 : 0 ≤ r) (h1 : r < (f.regs.length : Int)) (hl : b.regs.length ≤ 1000000) : ∃ x l, qe b r = some (x, l) ∧ l.length = b.regs.length + 1 ∧ 0 ≤ x := by
  obtain ⟨y, y1, _⟩ := pv h0 h1
  refine ⟨(b.regs.length : Int), b.regs ++ [y], ?_, by simp, by omega⟩
  unfold qe qe.jn4
  rw [hb, y1]
  simp only [Option.bind_some, y9 hl]
  rw [show len (b.regs ++ [y]) - 1 = (b.regs.length : Int) by simp [len], rO (by omega)]
theorem va {l : List Int} {x : Int} (h : ∀ y ∈ l, 0 ≤ y) (hx : 0 ≤ x) : ∀ y ∈ l ++ [x], 0 ≤ y := fun y hy => by
  rcases List.mem_append.1 hy with hy | hy
  · exact h y hy
  · rw [List.mem_singleton] at hy; omega
theorem za (hf : SmF f) (b : nS) (hb : b.f = f) (hz : Zs f.regs.length f.regs.length b.zeros) (g : List Int) (hg : g.length ≤ 1000) :
    ∃ z, whl (fun (s : (List Int × List Int × Int)) => n5.bd12 b s.1 s.2.1 s.2.2) nD (g, [], 0) = some z ∧ z.1.length ≤ 1300 ∧ z.2.length = b.zeros.length ∧ ∀ x ∈ z.2, 0 ≤ x := by
  have hrr := hf.2.1
  have hzf := hz.few
  refine oj (body := fun (s : (List Int × List Int × Int)) => n5.bd12 b s.1 s.2.1 s.2.2) (s0 := (g, [], 0)) b.zeros.length
    (fun i s => s.2.2 = (i : Int) ∧ s.1.length ≤ 1000 + i ∧ s.2.1.length = i ∧ ∀ x ∈ s.2.1, 0 ≤ x) _ (nO (by omega) (Nat.le_refl 1000)) (fun i s hi hI => ?_) (fun s hI => ?_) ⟨rfl, hg, rfl, by simp⟩
  · obtain ⟨A, Z, j⟩ := s
    obtain ⟨rfl, g1, g2, g3⟩ := hI
    simp only at g1 g2 g3
    right
    have hx := hz.mem _ (List.getElem_mem hi)
    obtain ⟨x, l, x1, x2, x3⟩ := s5 (⟨(⟨b.f.params, b.f.result, b.f.regs, b.f.blocks⟩ : ny), b.in_, b.front, b.nearest, b.phis, b.zeros, A, b.phi, Z, b.dst, b.begin, b.end_⟩ : nS) (by rw [hb]) b.zeros[i] hx.1 hx.2 (by simp only; omega)
    simp only at x2
    simp only [n5.bd12, nP, hi, if_true, nJ hi, Option.bind_some, x1, oH (show Z.length ≤ 1000 by omega), n5.jn654, nQ hi (show b.zeros.length ≤ 1000 by omega)]
    exact ⟨_, rfl, rfl, by simp only; omega, by simp [g2], va g3 x3⟩
  · obtain ⟨A, Z, j⟩ := s
    obtain ⟨rfl, g1, g2, g3⟩ := hI
    simp only at g1 g2 g3
    exact ⟨(A, Z), by simp [n5.bd12, len], by simp only; omega, g2, g3⟩
theorem zb (hf : SmF f) (b : nS) (hb : b.f = f) (z : List Int) (p d : List (List Int)) (row : List Int) (hr : row.length ≤ f.regs.length) (hm : ∀ x ∈ row, 0 ≤ x ∧ x < (f.regs.length : Int)) (g : List Int) (c : Nat) (hg : g.length ≤ c) (hc : c ≤ 500000) :
    ∃ y, whl (fun (s : (List Int × List Int × Int)) => n5.bd41 b z p d row s.1 s.2.1 s.2.2) nD (g, [], 0) = some y ∧ y.1.length ≤ c + 300 ∧ y.2.length = row.length ∧ ∀ x ∈ y.2, 0 ≤ x := by
  have hrr := hf.2.1
  refine oj (body := fun (s : (List Int × List Int × Int)) => n5.bd41 b z p d row s.1 s.2.1 s.2.2) (s0 := (g, [], 0)) row.length
    (fun i s => s.2.2 = (i : Int) ∧ s.1.length ≤ c + i ∧ s.2.1.length = i ∧ ∀ x ∈ s.2.1, 0 ≤ x) _ (nO (by omega) (Nat.le_refl 1000)) (fun i s hi hI => ?_) (fun s hI => ?_) ⟨rfl, hg, rfl, by simp⟩
  · obtain ⟨A, Z, j⟩ := s
    obtain ⟨rfl, g1, g2, g3⟩ := hI
    simp only at g1 g2 g3
    right
    have hx := hm _ (List.getElem_mem hi)
    obtain ⟨x, l, x1, x2, x3⟩ := s5 (⟨(⟨b.f.params, b.f.result, b.f.regs, b.f.blocks⟩ : ny), b.in_, b.front, b.nearest, b.phis, b.zeros, A, p, z, d, b.begin, b.end_⟩ : nS) (by rw [hb]) row[i] hx.1 hx.2 (by simp only; omega)
    simp only at x2
    simp only [n5.bd41, nP, hi, if_true, nJ hi, Option.bind_some, x1, oH (show Z.length ≤ 1000 by omega), nQ hi (show row.length ≤ 1000 by omega)]
    exact ⟨_, rfl, rfl, by simp only; omega, by simp [g2], va g3 x3⟩
  · obtain ⟨A, Z, j⟩ := s
    obtain ⟨rfl, g1, g2, g3⟩ := hI
    simp only at g1 g2 g3
    exact ⟨(A, Z), by simp [n5.bd41, len], by simp only; omega, g2, g3⟩
/-- a block's new registers fit its instructions -/
structure Dst (B : nA) (row : List Int) : Prop where
  len : row.length = B.ins.length
  nn : ∀ t (ht : t < B.ins.length) (x : Int), 0 ≤ B.ins[t].dst → row[t]? = some x → 0 ≤ x
theorem zc (b : nS) (hb : b.f = f) (z : List Int) (p d : List (List Int)) (B : nA) (hB : SmB B) (hR : RegsIn f.regs.length B) (g : List Int) (c : Nat) (hg : g.length ≤ c) (hc : c ≤ 500000) :
    ∃ y, whl (fun (s : (List Int × List Int × Int)) => n5.bd50 b z p d B s.1 s.2.1 s.2.2) nD (g, [], 0) = some y ∧ y.1.length ≤ c + 300 ∧ Dst B y.2 := by
  have hi3 := hB.1
  refine oj (body := fun (s : (List Int × List Int × Int)) => n5.bd50 b z p d B s.1 s.2.1 s.2.2) (s0 := (g, [], 0)) B.ins.length
    (fun i s => s.2.2 = (i : Int) ∧ s.1.length ≤ c + i ∧ s.2.1.length = i ∧ ∀ t (ht : t < B.ins.length) (x : Int), 0 ≤ B.ins[t].dst → s.2.1[t]? = some x → 0 ≤ x) _ (nO (by omega) (Nat.le_refl 1000)) (fun i s hi hI => ?_) (fun s hI => ?_) ⟨rfl, hg, rfl, by simp⟩
  · obtain ⟨A, Z, j⟩ := s
    obtain ⟨rfl, g1, g2, g3⟩ := hI
    simp only at g1 g2 g3
    right
    have hx := hR.dst _ (List.getElem_mem hi)
    by_cases e : B.ins[i].dst < 0
    · simp only [n5.bd50, nP, hi, if_true, nJ hi, Option.bind_some, e, oH (show Z.length ≤ 1000 by omega), n5.jn622, nQ hi (show B.ins.length ≤ 1000 by omega)]
      refine ⟨_, rfl, rfl, by simp only; omega, by simp [g2], fun t ht x h1 h2 => ?_⟩
      simp only at h2
      rcases Nat.lt_trichotomy t Z.length with h | h | h
      · rw [List.getElem?_append_left h] at h2; exact g3 t ht x h1 h2
      · obtain rfl : t = i := by omega
        omega
      · rw [List.getElem?_eq_none (by simp; omega)] at h2; cases h2
    · obtain ⟨x, l, x1, x2, x3⟩ := s5 (⟨(⟨b.f.params, b.f.result, b.f.regs, b.f.blocks⟩ : ny), b.in_, b.front, b.nearest, b.phis, b.zeros, A, p, z, d, b.begin, b.end_⟩ : nS) (by rw [hb]) B.ins[i].dst (by omega) hx (by simp only; omega)
      simp only at x2
      simp only [n5.bd50, nP, hi, if_true, nJ hi, Option.bind_some, e, if_false, x1, oH (show Z.length ≤ 1000 by omega), n5.jn622, nQ hi (show B.ins.length ≤ 1000 by omega)]
      refine ⟨_, rfl, rfl, by simp only; omega, by simp [g2], fun t ht x h1 h2 => ?_⟩
      simp only at h2
      rcases Nat.lt_trichotomy t Z.length with h | h | h
      · rw [List.getElem?_append_left h] at h2; exact g3 t ht x h1 h2
      · subst h
        rw [List.getElem?_append_right (Nat.le_refl _)] at h2
        simp at h2; omega
      · rw [List.getElem?_eq_none (by simp; omega)] at h2; cases h2
  · obtain ⟨A, Z, j⟩ := s
    obtain ⟨rfl, g1, g2, g3⟩ := hI
    simp only at g1 g2 g3
    exact ⟨(A, Z), by simp [n5.bd50, len], by simp only; omega, g2, g3⟩
structure Num (f : ny) (phis : List (List Int)) (i : Nat) (p d : List (List Int)) : Prop where
  lp : p.length = i
  ld : d.length = i
  pr : ∀ j, j < i → ∃ q row, phis[j]? = some q ∧ p[j]? = some row ∧ row.length = q.length ∧ ∀ x ∈ row, 0 ≤ x
  dr : ∀ j (hj : j < f.blocks.length), j < i → ∃ row, d[j]? = some row ∧ Dst f.blocks[j] row
theorem Num.next {phis : List (List Int)} {i : Nat} {p d : List (List Int)} (h : Num f phis i p d) {q row dro : List Int} (hq : phis[i]? = some q) (h1 : row.length = q.length) (h2 : ∀ x ∈ row, 0 ≤ x) (hi : i < f.blocks.length) (h3 : Dst f.blocks[i] dro) : Num f phis (i + 1) (p ++ [row]) (d ++ [dro]) := by
  have hp := h.lp
  have hd := h.ld
  refine ⟨by simp [hp], by simp [hd], fun j hj => ?_, fun j hj hji => ?_⟩
  · by_cases e : j < i
    · obtain ⟨q, row, a, b, c⟩ := h.pr j e
      exact ⟨q, row, a, by rw [List.getElem?_append_left (by omega)]; exact b, c⟩
    · obtain rfl : j = i := by omega
      exact ⟨q, row, hq, by rw [List.getElem?_append_right (by omega), hp]; simp, h1, h2⟩
  · by_cases e : j < i
    · obtain ⟨row, a, b⟩ := h.dr j hj e
      exact ⟨row, by rw [List.getElem?_append_left (by omega)]; exact a, b⟩
    · obtain rfl : j = i := by omega
      exact ⟨dro, by rw [List.getElem?_append_right (by omega), hd]; simp, h3⟩
theorem lin1 {a c i : Nat} (h : a ≤ c + 300 + 300) (hc : c = 1300 + i * 600) : a ≤ 1300 + (i + 1) * 600 := by omega
theorem zd (hf : SmF f) (hR : ∀ B ∈ f.blocks, RegsIn f.regs.length B) (h0 : 0 ≤ f.params) (h1 : f.params ≤ (f.regs.length : Int)) (b : nS) (hb : b.f = f) (hP : Bel f.blocks.length f.regs.length f.regs.length b.phis) (hz : Zs f.regs.length f.regs.length b.zeros) (e1 : b.phi = []) (e2 : b.zero_ = []) (e3 : b.dst = []) :
    ∃ g p z d, n5 b = some (g, p, z, d) ∧ z.length = b.zeros.length ∧ (∀ x ∈ z, 0 ≤ x) ∧ Num f b.phis f.blocks.length p d := by
  have hn := hf.1
  have hrr := hf.2.1
  unfold n5 n5.jn4
  have hu : upto b.f.regs b.f.params = some (f.regs.take f.params.toNat) := by
    rw [hb]; unfold upto; rw [if_pos ⟨h0, by omega⟩]
  rw [hu]
  simp only [Option.bind_some, qm _ (show (f.regs.take f.params.toNat).length ≤ 1000 by simp; omega), e2]
  obtain ⟨y, hy, y1, y2, y3⟩ := za hf b hb hz (f.regs.take f.params.toNat) (by simp; omega)
  rw [hy]
  simp only [Option.bind_some, n5.nx12, e1, e3]
  obtain ⟨w, hw, hw1⟩ := oj (body := fun (s : (List Int × List (List Int) × List (List Int) × Int)) => n5.bd21 b y.2 s.1 s.2.1 s.2.2.1 s.2.2.2) (s0 := (y.1, [], [], 0)) f.blocks.length
    (fun i s => s.2.2.2 = (i : Int) ∧ s.1.length ≤ 1300 + i * 600 ∧ Num f b.phis i s.2.1 s.2.2.1) (fun z => Num f b.phis f.blocks.length z.2.1 z.2.2) (nO hn (by omega)) (fun i s hi hI => by
      obtain ⟨A, p, d, j⟩ := s
      obtain ⟨rfl, g1, g2⟩ := hI
      simp only at g1 g2
      right
      obtain ⟨q, q1, q2, q3, q4⟩ := hP.get (b := (i : Int)) (by omega) (by omega)
      obtain ⟨c, hc⟩ : ∃ c, c = 1300 + i * 600 := ⟨_, rfl⟩
      rw [← hc] at g1
      obtain ⟨u, u1, u2, u3, u4⟩ := zb hf b hb y.2 p d q q3 q4 A c g1 (by omega)
      obtain ⟨v, v1, v2, v3⟩ := zc b hb y.2 p d f.blocks[i] (hf.2.2.2 _ (List.getElem_mem hi)) (hR _ (List.getElem_mem hi)) u.1 (c + 300) u2 (by omega)
      have hlp := g2.lp
      have hld := g2.ld
      simp only [n5.bd21, hb, nP, hi, if_true, nJ hi, Option.bind_some, q1, u1, n5.nx41, v1, n5.nx50, oH (show p.length ≤ 1000 by omega), oH (show d.length ≤ 1000 by omega), n5.jn31, nQ hi (show f.blocks.length ≤ 1000 by omega)]
      have hv : v.1.length ≤ 1300 + (i + 1) * 600 := lin1 v2 hc
      exact ⟨_, rfl, rfl, hv, g2.next (by simpa using q2) u3 u4 hi v3⟩) (fun s hI => by
      obtain ⟨A, p, d, j⟩ := s
      obtain ⟨rfl, g1, g2⟩ := hI
      exact ⟨(A, p, d), by simp [n5.bd21, len, hb], g2⟩) ⟨rfl, by simp only; omega, ⟨rfl, rfl, fun j hj => by omega, fun j _ hj => by omega⟩⟩
  rw [hw]
  exact ⟨_, _, _, _, rfl, y2, y3, hw1⟩
/-- a version is there -/
def Nn (v : List Int) (r : Nat) : Prop := ∃ x, v[r]? = some x ∧ 0 ≤ x
theorem Nn.set {v : List Int} {r i : Nat} {x : Int} (h : Nn v r) (hx : 0 ≤ x) : Nn (v.set i x) r := by
  obtain ⟨y, h1, h2⟩ := h
  by_cases e : i = r
  · subst e; exact ⟨x, List.getElem?_set_self (List.getElem?_eq_some_iff.1 h1).1, hx⟩
  · exact ⟨y, by rw [List.getElem?_set_ne e]; exact h1, h2⟩
theorem Nn.new {v : List Int} {i : Nat} {x : Int} (hi : i < v.length) (hx : 0 ≤ x) : Nn (v.set i x) i := ⟨x, List.getElem?_set_self hi, hx⟩
theorem ze (hf : SmF f) (b : nS) (hb : b.f = f) (hz : Zs f.regs.length f.regs.length b.zeros) (hl : b.zero_.length = b.zeros.length) (hnn : ∀ x ∈ b.zero_, 0 ≤ x) : ∃ v, oV b = some v ∧ v.length = f.regs.length ∧ ∀ r, r < f.regs.length → ((r : Int) < f.params ∨ (r : Int) ∈ b.zeros) → Nn v r := by
  have hrr := hf.2.1
  unfold oV
  have hmk : mkl (len b.f.regs) (0 : Int) = some (List.replicate f.regs.length 0) := by rw [hb]; exact mkl3 0 (by omega)
  obtain ⟨w, hw, hw1, hw2⟩ := oj (body := fun (s : (List Int × Int)) => oV.bd9 b (List.replicate f.regs.length 0) s.1 s.2) (s0 := (List.replicate f.regs.length 0, 0)) f.regs.length
    (fun i s => s.2 = (i : Int) ∧ s.1.length = f.regs.length ∧ ∀ r, r < i → (r : Int) < f.params → Nn s.1 r) (fun z => z.length = f.regs.length ∧ ∀ r, r < f.regs.length → (r : Int) < f.params → Nn z r) (nO hrr (by omega)) (fun i s hi hI => by
      obtain ⟨A, j⟩ := s
      obtain ⟨rfl, g1, g2⟩ := hI
      simp only at g1 g2
      right
      have hi' : i < A.length := by omega
      have hi2 : i < (A.set i (-1)).length := by simp; omega
      simp only [oV.bd9, nP, List.length_replicate, hi, if_true, nJ hi', Option.bind_some, Int.toNat_natCast, nJ hi2, oV.jn40, nQ hi (show f.regs.length ≤ 1000 by omega)]
      by_cases e : (i : Int) < b.f.params
      · rw [if_pos e]
        refine ⟨_, rfl, rfl, by simp [g1], fun r hr hp => ?_⟩
        simp only
        by_cases e2 : i = r
        · subst e2; exact Nn.new (by simp; omega) (by omega)
        · obtain ⟨x, x1, x2⟩ := g2 r (by omega) hp
          exact ⟨x, by rw [List.getElem?_set_ne e2, List.getElem?_set_ne e2]; exact x1, x2⟩
      · rw [if_neg e]
        refine ⟨_, rfl, rfl, by simp [g1], fun r hr hp => ?_⟩
        simp only
        rw [hb] at e
        have e2 : i ≠ r := fun h => e (by omega)
        obtain ⟨x, x1, x2⟩ := g2 r (by omega) hp
        exact ⟨x, by rw [List.getElem?_set_ne e2]; exact x1, x2⟩) (fun s hI => by
      obtain ⟨A, j⟩ := s
      obtain ⟨rfl, g1, g2⟩ := hI
      exact ⟨A, by simp [oV.bd9, len], g1, g2⟩) ⟨rfl, by simp, fun r h => by omega⟩
  rw [hmk]
  simp only [Option.bind_some, hw, oV.nx9]
  have hzf := hz.few
  obtain ⟨y, hy, hy1, hy2, hy3⟩ := oj (body := fun (s : (List Int × Int)) => oV.bd18 b s.1 s.2) (s0 := (w, 0)) b.zeros.length
    (fun i s => s.2 = (i : Int) ∧ s.1.length = f.regs.length ∧ (∀ r, Nn w r → Nn s.1 r) ∧ ∀ t (ht : t < b.zeros.length), t < i → Nn s.1 b.zeros[t].toNat) (fun z => z.length = f.regs.length ∧ (∀ r, Nn w r → Nn z r) ∧ ∀ x ∈ b.zeros, Nn z x.toNat) (nO (by omega) (Nat.le_refl 1000)) (fun i s hi hI => by
      obtain ⟨A, j⟩ := s
      obtain ⟨rfl, g1, g2, g3⟩ := hI
      simp only at g1 g2 g3
      right
      have hi' : i < b.zero_.length := by omega
      have hx := hz.mem _ (List.getElem_mem hi)
      obtain ⟨y, y1, _⟩ := pv (xs := A) hx.1 (by rw [g1]; exact hx.2)
      simp only [oV.bd18, nP, hi, if_true, nJ hi, nJ hi', y1, Option.bind_some, nQ hi (show b.zeros.length ≤ 1000 by omega)]
      have hz0 := hnn _ (List.getElem_mem hi')
      refine ⟨_, rfl, rfl, by simp [g1], fun r h => (g2 r h).set hz0, fun t ht hti => ?_⟩
      by_cases e : t < i
      · exact (g3 t ht e).set hz0
      · obtain rfl : t = i := by omega
        exact Nn.new (by omega) hz0) (fun s hI => by
      obtain ⟨A, j⟩ := s
      obtain ⟨rfl, g1, g2, g3⟩ := hI
      exact ⟨A, by simp [oV.bd18, len], g1, g2, fun x hx => by
        obtain ⟨t, ht, rfl⟩ := List.getElem_of_mem hx
        exact g3 t ht ht⟩) ⟨rfl, hw1, fun _ h => h, fun t _ h => by omega⟩
  rw [hy]
  refine ⟨y, rfl, hy1, fun r hr h => ?_⟩
  rcases h with h | h
  · exact hy2 r (hw2 r hr h)
  · have := hy3 _ h
    rwa [Int.toNat_natCast] at this
end
section
variable {f : ny} {R : List Int}
/-- a table of n rows, each of length k where D says so -/
structure Rw (n k : Nat) (D : Nat → Prop) (T : List (List Int)) : Prop where
  len : T.length = n
  row : ∀ v, v < n → D v → ∃ row, T[v]? = some row ∧ row.length = k
theorem Rw.get {n k : Nat} {D : Nat → Prop} {T : List (List Int)} (h : Rw n k D T) {b : Int} (h0 : 0 ≤ b) (h1 : b < (n : Int)) (hD : D b.toNat) : ∃ row, idx T b = some row ∧ T[b.toNat]? = some row ∧ row.length = k := by
  obtain ⟨row, r1, r2⟩ := h.row b.toNat (by omega) hD
  exact ⟨row, by unfold idx; rw [if_pos h0]; exact r1, r1, r2⟩
theorem Rw.set {n k : Nat} {D D' : Nat → Prop} {T : List (List Int)} (h : Rw n k D T) (v : Nat) (hv : v < n) {row : List Int} (hr : row.length = k) (hD : ∀ w, D' w → D w ∨ w = v) : Rw n k D' (T.set v row) := by
  refine ⟨by simp [h.len], fun w hw hd => ?_⟩
  by_cases e : v = w
  · subst e; exact ⟨row, by rw [List.getElem?_set_self (by rw [h.len]; exact hv)], hr⟩
  · rw [List.getElem?_set_ne e]
    rcases hD w hd with h1 | h1
    · exact h.row w hw h1
    · exact absurd h1.symm e
theorem zf (hf : SmF f) (b : nS) (i : Nat) (q row : List Int) (hq : q.length ≤ f.regs.length) (hm : ∀ x ∈ q, 0 ≤ x ∧ x < (f.regs.length : Int)) (hp : b.phi[i]? = some row) (hl : row.length = q.length) (hnn : ∀ x ∈ row, 0 ≤ x) (v : List Int) (hv : v.length = f.regs.length) :
    ∃ z, whl (fun (s : (List Int × Int)) => oi.bd36 b (i : Int) q s.1 s.2) nD (v, 0) = some z ∧ z.length = f.regs.length ∧ (∀ r, Nn v r → Nn z r) ∧ ∀ x ∈ q, Nn z x.toNat := by
  have hrr := hf.2.1
  refine oj (body := fun (s : (List Int × Int)) => oi.bd36 b (i : Int) q s.1 s.2) (s0 := (v, 0)) q.length
    (fun i s => s.2 = (i : Int) ∧ s.1.length = f.regs.length ∧ (∀ r, Nn v r → Nn s.1 r) ∧ ∀ t (ht : t < q.length), t < i → Nn s.1 q[t].toNat) _ (nO (by omega) (Nat.le_refl 1000)) (fun t s ht hI => ?_) (fun s hI => ?_) ⟨rfl, hv, fun _ h => h, fun t _ h => by omega⟩
  · obtain ⟨A, j⟩ := s
    obtain ⟨rfl, g1, g2, g3⟩ := hI
    simp only at g1 g2 g3
    right
    have hx := hm _ (List.getElem_mem ht)
    obtain ⟨y, y1, _⟩ := pv (xs := A) hx.1 (by rw [g1]; exact hx.2)
    have hpi : idx b.phi (i : Int) = some row := by rw [oz]; exact hp
    have ht' : t < row.length := by omega
    simp only [oi.bd36, nP, ht, if_true, nJ ht, hpi, nJ ht', y1, Option.bind_some, nQ ht (show q.length ≤ 1000 by omega)]
    have h0 := hnn _ (List.getElem_mem ht')
    refine ⟨_, rfl, rfl, by simp [g1], fun r h => (g2 r h).set h0, fun u hu hut => ?_⟩
    by_cases e : u < t
    · exact (g3 u hu e).set h0
    · obtain rfl : u = t := by omega
      exact Nn.new (by omega) h0
  · obtain ⟨A, j⟩ := s
    obtain ⟨rfl, g1, g2, g3⟩ := hI
    exact ⟨A, by simp [oi.bd36, len], g1, g2, fun x hx => by
      obtain ⟨t, ht, rfl⟩ := List.getElem_of_mem hx
      exact g3 t ht ht⟩
theorem zg (b : nS) (i : Nat) (B : nA) (hB : SmB B) (hR : RegsIn f.regs.length B) (row : List Int) (hp : b.dst[i]? = some row) (hl : Dst B row) (v : List Int) (hv : v.length = f.regs.length) :
    ∃ z, whl (fun (s : (List Int × Int)) => oi.bd55 b (i : Int) B s.1 s.2) nD (v, 0) = some z ∧ z.length = f.regs.length ∧ (∀ r, Nn v r → Nn z r) ∧ ∀ x ∈ B.ins, 0 ≤ x.dst → Nn z x.dst.toNat := by
  have hi3 := hB.1
  refine oj (body := fun (s : (List Int × Int)) => oi.bd55 b (i : Int) B s.1 s.2) (s0 := (v, 0)) B.ins.length
    (fun i s => s.2 = (i : Int) ∧ s.1.length = f.regs.length ∧ (∀ r, Nn v r → Nn s.1 r) ∧ ∀ t (ht : t < B.ins.length), t < i → 0 ≤ B.ins[t].dst → Nn s.1 B.ins[t].dst.toNat) _ (nO (by omega) (Nat.le_refl 1000)) (fun t s ht hI => ?_) (fun s hI => ?_) ⟨rfl, hv, fun _ h => h, fun t _ h => by omega⟩
  · obtain ⟨A, j⟩ := s
    obtain ⟨rfl, g1, g2, g3⟩ := hI
    simp only at g1 g2 g3
    right
    have hx := hR.dst _ (List.getElem_mem ht)
    have hpi : idx b.dst (i : Int) = some row := by rw [oz]; exact hp
    have ht' : t < row.length := by rw [hl.len]; exact ht
    by_cases e : B.ins[t].dst ≥ 0
    · obtain ⟨y, y1, _⟩ := pv (xs := A) e (by rw [g1]; exact hx)
      simp only [oi.bd55, nP, ht, if_true, nJ ht, hpi, nJ ht', y1, Option.bind_some, e, oi.jn66, nQ ht (show B.ins.length ≤ 1000 by omega)]
      have h0 := hl.nn t ht _ e (List.getElem?_eq_getElem ht')
      refine ⟨_, rfl, rfl, by simp [g1], fun r h => (g2 r h).set h0, fun u hu hut hd => ?_⟩
      by_cases e : u < t
      · exact (g3 u hu e hd).set h0
      · obtain rfl : u = t := by omega
        exact Nn.new (by omega) h0
    · simp only [oi.bd55, nP, ht, if_true, nJ ht, Option.bind_some, e, if_false, oi.jn66, nQ ht (show B.ins.length ≤ 1000 by omega)]
      refine ⟨_, rfl, rfl, g1, g2, fun u hu hut hd => ?_⟩
      by_cases e2 : u < t
      · exact g3 u hu e2 hd
      · obtain rfl : u = t := by omega
        exact absurd hd e
  · obtain ⟨A, j⟩ := s
    obtain ⟨rfl, g1, g2, g3⟩ := hI
    exact ⟨A, by simp [oi.bd55, len], g1, g2, fun x hx hd => by
      obtain ⟨t, ht, rfl⟩ := List.getElem_of_mem hx
      exact g3 t ht ht hd⟩
theorem zh (hf : SmF f) (hR : ∀ B ∈ f.blocks, RegsIn f.regs.length B) (b : nS) (hb : b.f = f) (hP : Bel f.blocks.length f.regs.length f.regs.length b.phis) (hN : Num f b.phis f.blocks.length b.phi b.dst)
    (S E : List (List Int)) (t : Int) (i : Nat) (hi : i < f.blocks.length) (hS : S.length = f.blocks.length) (hE : E.length = f.blocks.length) (v : List Int) (hv : v.length = f.regs.length) :
    ∃ s e, oi.jn27 b S E t (i : Int) v = some (.go (S.set i s, E.set i e, w64 (t + 1))) ∧ s.length = f.regs.length ∧ e.length = f.regs.length ∧ (∀ r, Nn v r → Nn s r) ∧ (∀ x, In1 b.phis i x → Nn s x.toNat) ∧ (∀ r, Nn s r → Nn e r) ∧ ∀ x ∈ f.blocks[i].ins, 0 ≤ x.dst → Nn e x.dst.toNat := by
  have hrr := hf.2.1
  obtain ⟨q, q1, q2, q3, q4⟩ := hP.get (b := (i : Int)) (by omega) (by omega)
  obtain ⟨q', row, p1, p2, p3, p4⟩ := hN.pr i hi
  have hq : q' = q := by rw [Int.toNat_natCast] at q2; rw [q2] at p1; exact (Option.some.inj p1).symm
  subst hq
  obtain ⟨dr, d1, d2⟩ := hN.dr i hi hi
  obtain ⟨w, w1, w2, w3, w4⟩ := zf hf b i q' row q3 q4 p2 p3 p4 v hv
  obtain ⟨u, u1, u2, u3, u4⟩ := zg b i f.blocks[i] (hf.2.2.2 _ (List.getElem_mem hi)) (hR _ (List.getElem_mem hi)) dr d1 d2 w w2
  have his : i < S.length := by omega
  have hie : i < E.length := by omega
  refine ⟨w, u, ?_, w2, u2, w3, fun x ⟨r, r1, r2⟩ => by rw [p1] at r1; cases r1; exact w4 x r2, u3, u4⟩
  simp only [oi.jn27, q1, Option.bind_some, w1, oi.nx36, qm w (by omega), nJ his, hb, nJ hi, u1, oi.nx55, nJ hie, Int.toNat_natCast]
/-- the table has a version of r at v -/
def NnT (T : List (List Int)) (v r : Nat) : Prop := ∃ row, T[v]? = some row ∧ Nn row r
theorem NnT.of {T : List (List Int)} {v r : Nat} {row : List Int} (h : T[v]? = some row) : NnT T v r → Nn row r := fun ⟨q, h1, h2⟩ => by rw [h] at h1; cases h1; exact h2
theorem NnT.ne {T : List (List Int)} {v w r : Nat} {row : List Int} (h : w ≠ v) : NnT (T.set w row) v r ↔ NnT T v r := by
  unfold NnT; rw [List.getElem?_set_ne h]
/-- where versions are, as far as position i -/
structure Ver (f : ny) (R : List Int) (N : Nat → Nat) (P : List (List Int)) (Z : List Int) (i : Nat) (S E : List (List Int)) : Prop where
  up : ∀ j, 0 < j → j < i → ∀ r, NnT E (ob R (N j)) r → NnT S (ob R j) r
  phi : ∀ j, j < i → ∀ x, In1 P (ob R j) x → NnT S (ob R j) x.toNat
  down : ∀ j, j < i → ∀ r, NnT S (ob R j) r → NnT E (ob R j) r
  defs : ∀ j, j < i → ∀ (hj : ob R j < f.blocks.length), ∀ x ∈ f.blocks[ob R j].ins, 0 ≤ x.dst → NnT E (ob R j) x.dst.toNat
  first : 0 < i → ∀ r, r < f.regs.length → ((r : Int) < f.params ∨ (r : Int) ∈ Z) → NnT S 0 r
theorem zi (h : Full f R) {N : Nat → Nat} {L : List Int} (hNr : Near f R N L) (hR : ∀ B ∈ f.blocks, RegsIn f.regs.length B) (b : nS) (hb : b.f = f) (hL : b.nearest = L) (hP : Bel f.blocks.length f.regs.length f.regs.length b.phis) (hN : Num f b.phis f.blocks.length b.phi b.dst)
    (hz : Zs f.regs.length f.regs.length b.zeros) (hl : b.zero_.length = b.zeros.length) (hnn : ∀ x ∈ b.zero_, 0 ≤ x) :
    ∃ S E, oi b = some (S, E) ∧ Rw f.blocks.length f.regs.length (fun _ => True) S ∧ Rw f.blocks.length f.regs.length (fun _ => True) E ∧ Ver f R N b.phis b.zeros f.blocks.length S E := by
  have hf := h.sm
  have hn := hf.1
  have hrr := hf.2.1
  have hpos := h.pos
  unfold oi oi.jn4
  have hmk : mkl (len b.f.blocks) ([] : List Int) = some (List.replicate f.blocks.length []) := by rw [hb]; exact mkl3 [] (by omega)
  rw [hmk, hb, h.ord]
  simp only [Option.bind_some]
  obtain ⟨z, hz, hz1, hz2, hz3⟩ := oj (body := fun (s : (List (List Int) × List (List Int) × Int)) => oi.bd14 b R s.1 s.2.1 s.2.2) (s0 := (List.replicate f.blocks.length [], List.replicate f.blocks.length [], 0)) f.blocks.length
    (fun i s => s.2.2 = (i : Int) ∧ Rw f.blocks.length f.regs.length (fun v => pb R v < i) s.1 ∧ Rw f.blocks.length f.regs.length (fun v => pb R v < i) s.2.1 ∧ Ver f R N b.phis b.zeros i s.1 s.2.1) (fun z => Rw f.blocks.length f.regs.length (fun _ => True) z.1 ∧ Rw f.blocks.length f.regs.length (fun _ => True) z.2 ∧ Ver f R N b.phis b.zeros f.blocks.length z.1 z.2) (nO hn (by omega)) (fun i s hi hI => by
      obtain ⟨S, E, j⟩ := s
      obtain ⟨rfl, g1, g2, g3⟩ := hI
      simp only at g1 g2 g3
      right
      obtain ⟨o1, o2⟩ := h.get hi
      have hix : idx R (i : Int) = some ((ob R i : Nat) : Int) := by rw [oz]; exact o1
      have hlt : (i : Int) < len R := by simp only [len, h.len]; omega
      have key : ∃ v, v.length = f.regs.length ∧ (0 < i → E[ob R (N i)]? = some v) ∧ (i = 0 → ∀ r, r < f.regs.length → ((r : Int) < f.params ∨ (r : Int) ∈ b.zeros) → Nn v r) ∧ oi.bd14 b R S E (i : Int) = oi.jn27 b S E (i : Int) ((ob R i : Nat) : Int) v := by
        simp only [oi.bd14, hlt, if_true, hix, Option.bind_some]
        by_cases e : ((ob R i : Nat) : Int) = 0
        · obtain ⟨v, v1, v2, v3⟩ := ze hf (⟨(⟨b.f.params, b.f.result, b.f.regs, b.f.blocks⟩ : ny), b.in_, b.front, b.nearest, b.phis, b.zeros, b.regs, b.phi, b.zero_, b.dst, S, E⟩ : nS) (by rw [hb]) hz hl hnn
          have hi0 : i = 0 := by
            have : ob R i = ob R 0 := by rw [h.ob0]; omega
            exact h.ob_inj hi hpos this
          exact ⟨v, v2, fun h => by omega, fun _ => v3, by rw [if_pos e, v1]; rfl⟩
        · have h0 : 0 < i := by
            rcases Nat.eq_zero_or_pos i with rfl | h0
            · rw [h.ob0] at e; exact absurd rfl e
            · exact h0
          have hni : N i < i := hNr.nr.dn i (by omega) hi
          have hge := hNr.get i h0 hi
          have hnx : idx b.nearest ((ob R i : Nat) : Int) = some ((ob R (N i) : Nat) : Int) := by rw [hL, oz]; exact hge
          have hol := (h.get (i := N i) (by omega)).2
          obtain ⟨v, v1, v3, v2⟩ := g2.get (b := ((ob R (N i) : Nat) : Int)) (by omega) (by omega) (by rw [Int.toNat_natCast, h.pb_ob (by omega)]; exact hni)
          exact ⟨v, v2, fun _ => by rw [Int.toNat_natCast] at v3; exact v3, fun h => by omega, by rw [if_neg e, hnx]; simp only [Option.bind_some, v1, qm v (by omega)]⟩
      obtain ⟨v, v1, vE, vF, v2⟩ := key
      obtain ⟨s, e, j1, j2, j3, j4, j5, j6, j7⟩ := zh hf hR b hb hP hN S E (i : Int) (ob R i) o2 g1.len g2.len v v1
      refine ⟨_, v2.trans j1, nQ hi (by omega), g1.set _ o2 j2 (fun w hw => ?_), g2.set _ o2 j3 (fun w hw => ?_), ?_⟩
      rotate_left 2
      · have hne : ∀ j, j < i → ob R i ≠ ob R j := fun j hj e => by have := h.ob_inj hi (by omega) e; omega
        have hSs : (S.set (ob R i) s)[ob R i]? = some s := List.getElem?_set_self (by rw [g1.len]; exact o2)
        have hEs : (E.set (ob R i) e)[ob R i]? = some e := List.getElem?_set_self (by rw [g2.len]; exact o2)
        refine ⟨fun j h0 hj r ht => ?_, fun j hj x hx => ?_, fun j hj r ht => ?_, fun j hj hjn x hx hd => ?_, fun _ r hr hz => ?_⟩
        · by_cases e3 : j < i
          · have hNj : N j < j := hNr.nr.dn j (by omega) (by omega)
            rw [NnT.ne (hne (N j) (by omega))] at ht
            exact (NnT.ne (hne j e3)).2 (g3.up j h0 e3 r ht)
          · obtain rfl : j = i := by omega
            have hNj : N j < j := hNr.nr.dn j (by omega) (by omega)
            rw [NnT.ne (hne (N j) hNj)] at ht
            exact ⟨s, hSs, j4 r (ht.of (vE h0))⟩
        · by_cases e3 : j < i
          · exact (NnT.ne (hne j e3)).2 (g3.phi j e3 x hx)
          · obtain rfl : j = i := by omega
            exact ⟨s, hSs, j5 x hx⟩
        · by_cases e3 : j < i
          · exact (NnT.ne (hne j e3)).2 (g3.down j e3 r ((NnT.ne (hne j e3)).1 ht))
          · obtain rfl : j = i := by omega
            exact ⟨e, hEs, j6 r (ht.of hSs)⟩
        · by_cases e3 : j < i
          · exact (NnT.ne (hne j e3)).2 (g3.defs j e3 hjn x hx hd)
          · obtain rfl : j = i := by omega
            exact ⟨e, hEs, j7 x hx hd⟩
        · rcases Nat.eq_zero_or_pos i with rfl | h0
          · rw [h.ob0] at hSs ⊢
            exact ⟨s, hSs, j4 r (vF rfl r hr hz)⟩
          · have := hne 0 h0
            rw [h.ob0] at this
            exact (NnT.ne this).2 (g3.first h0 r hr hz)
      all_goals
        by_cases e : pb R w < i
        · exact .inl e
        · right
          have : pb R w = i := by omega
          by_cases hwn : w < f.blocks.length
          · rw [← (h.ob_pb hwn).1, this]
          · exact absurd hw (by
              have : pb R w = R.length := by
                unfold pb
                exact List.idxOf_eq_length (fun hm => by
                  obtain ⟨k, hk, hk2⟩ := List.getElem_of_mem hm
                  obtain ⟨x, x1, x2⟩ := h.all k hk
                  rw [x1] at hk2; omega)
              rw [this, h.len]; omega)) (fun s hI => by
      obtain ⟨S, E, j⟩ := s
      obtain ⟨rfl, g1, g2, g3⟩ := hI
      exact ⟨(S, E), by simp [oi.bd14, len, h.len], ⟨g1.len, fun v hv _ => g1.row v hv (h.ob_pb hv).2⟩, ⟨g2.len, fun v hv _ => g2.row v hv (h.ob_pb hv).2⟩, g3⟩) ⟨rfl, ⟨by simp, fun v _ hv => by omega⟩, ⟨by simp, fun v _ hv => by omega⟩, ⟨fun j _ h => by omega, fun j h => by omega, fun j h => by omega, fun j h => by omega, fun h => by omega⟩⟩
  rw [hz]
  exact ⟨_, _, rfl, hz1, hz2, hz3⟩
end
section
variable {f : ny} {R : List Int}
/-- what a builder holds when blocks are built -/
structure Bl (f : ny) (b : nS) : Prop where
  func : b.f = f
  phis : Bel f.blocks.length f.regs.length f.regs.length b.phis
  num : Num f b.phis f.blocks.length b.phi b.dst
  zero : b.zero_.length ≤ f.regs.length
  begin : Rw f.blocks.length f.regs.length (fun _ => True) b.begin
  end_ : Rw f.blocks.length f.regs.length (fun _ => True) b.end_
  arg : ∀ i (hi : i < f.blocks.length), 0 ≤ f.blocks[i].term.arg → NnT b.begin i f.blocks[i].term.arg.toNat ∨ ∃ x ∈ f.blocks[i].ins, x.dst = f.blocks[i].term.arg
theorem zj (hf : SmF f) (b : nS) (hb : Bl f b) (ah : List Int) (ha : ah.length ≤ 70) (hm : ∀ x ∈ ah, 0 ≤ x ∧ x < (f.blocks.length : Int)) (r : Int) (h0 : 0 ≤ r) (h1 : r < (f.regs.length : Int)) :
    ∃ z, whl (fun (s : (List Int × Int)) => nV.bd144 b ah r s.1 s.2) nD ([], 0) = some z ∧ z.length = ah.length := by
  refine oj (body := fun (s : (List Int × Int)) => nV.bd144 b ah r s.1 s.2) (s0 := ([], 0)) ah.length
    (fun i s => s.2 = (i : Int) ∧ s.1.length = i) _ (nO (by omega) (Nat.le_refl 1000)) (fun t s ht hI => ?_) (fun s hI => ?_) ⟨rfl, rfl⟩
  · obtain ⟨A, j⟩ := s
    obtain ⟨rfl, g1⟩ := hI
    simp only at g1
    right
    have hx := hm _ (List.getElem_mem ht)
    obtain ⟨row, r1, _, r2⟩ := hb.end_.get hx.1 hx.2 trivial
    obtain ⟨y, y1, _⟩ := pv (xs := row) h0 (by rw [r2]; exact h1)
    simp only [nV.bd144, nP, ht, if_true, nJ ht, r1, y1, Option.bind_some, oH (show A.length ≤ 1000 by omega), nV.jn155, nQ ht (show ah.length ≤ 1000 by omega)]
    exact ⟨_, rfl, rfl, by simp [g1]⟩
  · obtain ⟨A, j⟩ := s
    obtain ⟨rfl, g1⟩ := hI
    exact ⟨A, by simp [nV.bd144, len], g1⟩
theorem zk (hf : SmF f) (b : nS) (hb : Bl f b) (i : Nat) (hi : i < f.blocks.length) (ah : List Int) (ha : ah.length ≤ 70) (hm : ∀ x ∈ ah, 0 ≤ x ∧ x < (f.blocks.length : Int)) (q row : List Int) (hq : q.length ≤ f.regs.length) (hqm : ∀ x ∈ q, 0 ≤ x ∧ x < (f.regs.length : Int)) (hp : b.phi[i]? = some row) (hl : row.length = q.length) :
    ∃ z, whl (fun (s : (List PPhi × Int)) => nV.bd9 b (i : Int) ah q s.1 s.2) nD ([], 0) = some z ∧ z.length ≤ 300 ∧ ∀ p ∈ z, p.args.length ≤ 300 := by
  have hrr := hf.2.1
  refine oj (body := fun (s : (List PPhi × Int)) => nV.bd9 b (i : Int) ah q s.1 s.2) (s0 := ([], 0)) q.length
    (fun i s => s.2 = (i : Int) ∧ s.1.length = i ∧ ∀ p ∈ s.1, p.args.length ≤ 300) _ (nO (by omega) (Nat.le_refl 1000)) (fun t s ht hI => ?_) (fun s hI => ?_) ⟨rfl, rfl, by simp⟩
  · obtain ⟨A, j⟩ := s
    obtain ⟨rfl, g1, g2⟩ := hI
    simp only at g1 g2
    right
    have hx := hqm _ (List.getElem_mem ht)
    obtain ⟨z, z1, z2⟩ := zj hf b hb ah ha hm q[t] hx.1 hx.2
    have hpi : idx b.phi (i : Int) = some row := by rw [oz]; exact hp
    have ht' : t < row.length := by omega
    simp only [nV.bd9, nP, ht, if_true, nJ ht, hpi, nJ ht', z1, Option.bind_some, nV.nx144, oH (show A.length ≤ 1000 by omega), nQ ht (show q.length ≤ 1000 by omega)]
    refine ⟨_, rfl, rfl, by simp [g1], fun p hp => ?_⟩
    rcases List.mem_append.1 hp with hp | hp
    · exact g2 p hp
    · rw [List.mem_singleton] at hp; subst hp; simp only; omega
  · obtain ⟨A, j⟩ := s
    obtain ⟨rfl, g1, g2⟩ := hI
    simp only at g1 g2
    exact ⟨A, by simp [nV.bd9, len], by omega, g2⟩
theorem zl (b : nS) (hl : b.zero_.length ≤ 300) :
    ∃ z, whl (fun (s : (List nL × Int)) => nV.bd114 b s.1 s.2) nD ([], 0) = some z ∧ z.length ≤ 300 ∧ ∀ x ∈ z, x.args.length ≤ 300 := by
  refine oj (body := fun (s : (List nL × Int)) => nV.bd114 b s.1 s.2) (s0 := ([], 0)) b.zero_.length
    (fun i s => s.2 = (i : Int) ∧ s.1.length = i ∧ ∀ p ∈ s.1, p.args.length ≤ 300) _ (nO hl (by omega)) (fun t s ht hI => ?_) (fun s hI => ?_) ⟨rfl, rfl, by simp⟩
  · obtain ⟨A, j⟩ := s
    obtain ⟨rfl, g1, g2⟩ := hI
    simp only at g1 g2
    right
    simp only [nV.bd114, nP, ht, if_true, nJ ht, Option.bind_some, oH (show A.length ≤ 1000 by omega), nQ ht (show b.zero_.length ≤ 1000 by omega)]
    refine ⟨_, rfl, rfl, by simp [g1], fun p hp => ?_⟩
    rcases List.mem_append.1 hp with hp | hp
    · exact g2 p hp
    · rw [List.mem_singleton] at hp; subst hp; simp
  · obtain ⟨A, j⟩ := s
    obtain ⟨rfl, g1, g2⟩ := hI
    simp only at g1 g2
    exact ⟨A, by simp [nV.bd114, len], by omega, g2⟩
theorem zm {k : Nat} (x : nL) (hx : x.args.length ≤ 300) (v : List Int) (hv : v.length = k) (hm : ∀ a ∈ x.args, 0 ≤ a ∧ a < (k : Int)) :
    ∃ z, whl (fun (s : (List Int × Int)) => nV.bd66 v x s.1 s.2) nD ([], 0) = some z ∧ z.length = x.args.length := by
  refine oj (body := fun (s : (List Int × Int)) => nV.bd66 v x s.1 s.2) (s0 := ([], 0)) x.args.length
    (fun i s => s.2 = (i : Int) ∧ s.1.length = i) _ (nO hx (by omega)) (fun t s ht hI => ?_) (fun s hI => ?_) ⟨rfl, rfl⟩
  · obtain ⟨A, j⟩ := s
    obtain ⟨rfl, g1⟩ := hI
    simp only at g1
    right
    have hx := hm _ (List.getElem_mem ht)
    obtain ⟨y, y1, _⟩ := pv (xs := v) hx.1 (by rw [hv]; exact hx.2)
    simp only [nV.bd66, nP, ht, if_true, nJ ht, y1, Option.bind_some, oH (show A.length ≤ 1000 by omega), nV.jn83, nQ ht (show x.args.length ≤ 1000 by omega)]
    exact ⟨_, rfl, rfl, by simp [g1]⟩
  · obtain ⟨A, j⟩ := s
    obtain ⟨rfl, g1⟩ := hI
    exact ⟨A, by simp [nV.bd66, len], g1⟩
theorem zn (hf : SmF f) (b : nS) (hb : Bl f b) (i : Nat) (B : nA) (hB : SmB B) (hR : RegsIn f.regs.length B) (dr : List Int) (hd : b.dst[i]? = some dr) (hD : Dst B dr) (P : List nL) (hP : P.length ≤ 300) (hP2 : ∀ x ∈ P, x.args.length ≤ 300) (v : List Int) (hv : v.length = f.regs.length) :
    ∃ z, whl (fun (s : (List nL × List Int × Int)) => nV.bd26 b (i : Int) B s.1 s.2.1 s.2.2) nD (P, v, 0) = some z ∧ z.2.length = f.regs.length ∧ z.1.length = P.length + B.ins.length ∧ (∀ x ∈ z.1, x.args.length ≤ 300) ∧ (∀ r, Nn v r → Nn z.2 r) ∧ ∀ x ∈ B.ins, 0 ≤ x.dst → Nn z.2 x.dst.toNat := by
  have hi3 := hB.1
  refine oj (body := fun (s : (List nL × List Int × Int)) => nV.bd26 b (i : Int) B s.1 s.2.1 s.2.2) (s0 := (P, v, 0)) B.ins.length
    (fun i s => s.2.2 = (i : Int) ∧ s.2.1.length = f.regs.length ∧ s.1.length = P.length + i ∧ (∀ x ∈ s.1, x.args.length ≤ 300) ∧ (∀ r, Nn v r → Nn s.2.1 r) ∧ ∀ t (ht : t < B.ins.length), t < i → 0 ≤ B.ins[t].dst → Nn s.2.1 B.ins[t].dst.toNat) _ (nO hi3 (by omega)) (fun t s ht hI => ?_) (fun s hI => ?_) ⟨rfl, hv, rfl, hP2, fun _ h => h, fun t _ h => by omega⟩
  · obtain ⟨A, V, j⟩ := s
    obtain ⟨rfl, g1, g2, g3, g4, g5⟩ := hI
    simp only at g1 g2 g3 g4 g5
    right
    have hx := hR.dst _ (List.getElem_mem ht)
    have hxl := hB.2.2.2.1 _ (List.getElem_mem ht)
    obtain ⟨z, z1, z2⟩ := zm B.ins[t] hxl V g1 (hR.args _ (List.getElem_mem ht))
    have hdi : idx b.dst (i : Int) = some dr := by rw [oz]; exact hd
    have ht' : t < dr.length := by rw [hD.len]; exact ht
    have hnew : ∀ y : nL, y.args.length ≤ 300 → ∀ x ∈ A ++ [y], x.args.length ≤ 300 := fun y hy x hx => by
      rcases List.mem_append.1 hx with hx | hx
      · exact g3 x hx
      · rw [List.mem_singleton] at hx; subst hx; exact hy
    by_cases e : B.ins[t].dst ≥ 0
    · obtain ⟨y, y1, _⟩ := pv (xs := V) e (by rw [g1]; exact hx)
      simp only [nV.bd26, nP, ht, if_true, nJ ht, hdi, nJ ht', z1, y1, Option.bind_some, nV.nx66, e, nV.jn71, oH (show A.length ≤ 1000 by omega), nQ ht (show B.ins.length ≤ 1000 by omega)]
      have h0 := hD.nn t ht _ e (List.getElem?_eq_getElem ht')
      refine ⟨_, rfl, rfl, by simp [g1], by simp only [List.length_append, List.length_singleton]; omega, hnew _ (by simp only; omega), fun r h => (g4 r h).set h0, fun u hu hut hd => ?_⟩
      by_cases e2 : u < t
      · exact (g5 u hu e2 hd).set h0
      · obtain rfl : u = t := by omega
        exact Nn.new (by omega) h0
    · simp only [nV.bd26, nP, ht, if_true, nJ ht, hdi, nJ ht', z1, Option.bind_some, nV.nx66, e, if_false, nV.jn71, oH (show A.length ≤ 1000 by omega), nQ ht (show B.ins.length ≤ 1000 by omega)]
      refine ⟨_, rfl, rfl, g1, by simp only [List.length_append, List.length_singleton]; omega, hnew _ (by simp only; omega), g4, fun u hu hut hd => ?_⟩
      by_cases e2 : u < t
      · exact g5 u hu e2 hd
      · obtain rfl : u = t := by omega
        exact absurd hd e
  · obtain ⟨A, V, j⟩ := s
    obtain ⟨rfl, g1, g2, g3, g4, g5⟩ := hI
    simp only at g1 g2 g3 g4 g5
    exact ⟨(A, V), by simp [nV.bd26, len], g1, g2, g3, g4, fun x hx hd => by
      obtain ⟨t, ht, rfl⟩ := List.getElem_of_mem hx
      exact g5 t ht ht hd⟩
/-- what a new block is like -/
structure Nb (B C : nA) : Prop where
  phis : C.phis.length ≤ 300
  pargs : ∀ p ∈ C.phis, p.args.length ≤ 300
  ins : C.ins.length ≤ 600
  more : B.ins.length ≤ C.ins.length
  args : ∀ x ∈ C.ins, x.args.length ≤ 300
  kind : C.term.kind = B.term.kind
  to : C.term.to = B.term.to
  arg : C.term.arg < 0 ↔ B.term.arg < 0
theorem vb (hf : SmF f) (hR : ∀ B ∈ f.blocks, RegsIn f.regs.length B) (b : nS) (hb : Bl f b) (i : Nat) (hi : i < f.blocks.length) (ph : List PPhi) (h1 : ph.length ≤ 300) (h2 : ∀ p ∈ ph, p.args.length ≤ 300) (P : List nL) (hP : P.length ≤ 300) (hP2 : ∀ x ∈ P, x.args.length ≤ 300) :
    ∃ C, nV.jn14 b (i : Int) ph P = some C ∧ Nb f.blocks[i] C := by
  have hrr := hf.2.1
  have hB := hf.2.2.2 _ (List.getElem_mem hi)
  have hRB := hR _ (List.getElem_mem hi)
  obtain ⟨dr, d1, d2⟩ := hb.num.dr i hi hi
  obtain ⟨v, v1, v3, v2⟩ := hb.begin.get (b := (i : Int)) (by omega) (by omega) trivial
  obtain ⟨z, z1, z2, z3, z4, z5, z6⟩ := zn hf b hb i f.blocks[i] hB hRB dr d1 d2 P hP hP2 v v2
  have hi3 := hB.1
  have hto := hB.2.2.1
  simp only [nV.jn14, v1, Option.bind_some, qm v (by omega), hb.func, nJ hi, z1, nV.nx26, qm f.blocks[i].term.to (by omega)]
  by_cases e : f.blocks[i].term.arg ≥ 0
  · obtain ⟨y, y1, y2⟩ := pv (xs := z.2) e (by rw [z2]; exact hRB.arg)
    have hnn : Nn z.2 f.blocks[i].term.arg.toNat := by
      rcases hb.arg i hi e with h | ⟨x, hx, hxd⟩
      · exact z5 _ (h.of (by rw [Int.toNat_natCast] at v3; exact v3))
      · have := z6 x hx (by rw [hxd]; exact e)
        rw [hxd] at this; exact this
    obtain ⟨y', e1, e2⟩ := hnn
    rw [y2] at e1
    cases e1
    rw [if_pos e, y1]
    exact ⟨_, rfl, h1, h2, by simp only; omega, by simp only; omega, z4, rfl, rfl, by simp only; omega⟩
  · rw [if_neg e]
    exact ⟨_, rfl, h1, h2, by simp only; omega, by simp only; omega, z4, rfl, rfl, Iff.rfl⟩
theorem zo (hf : SmF f) (hR : ∀ B ∈ f.blocks, RegsIn f.regs.length B) (b : nS) (hb : Bl f b) (i : Nat) (hi : i < f.blocks.length) (ah : List Int) (ha : ah.length ≤ 70) (hm : ∀ x ∈ ah, 0 ≤ x ∧ x < (f.blocks.length : Int)) :
    ∃ C, nV b (i : Int) ah = some C ∧ Nb f.blocks[i] C := by
  have hrr := hf.2.1
  obtain ⟨q, q1, q2, q3, q4⟩ := hb.phis.get (b := (i : Int)) (by omega) (by omega)
  obtain ⟨q', row, p1, p2, p3, _⟩ := hb.num.pr i hi
  have hq : q' = q := by rw [Int.toNat_natCast] at q2; rw [q2] at p1; exact (Option.some.inj p1).symm
  subst hq
  obtain ⟨z, z1, z2, z3⟩ := zk hf b hb i hi ah ha hm q' row q3 q4 p2 p3
  obtain ⟨y, y1, y2, y3⟩ := zl b (by have := hb.zero; omega)
  simp only [nV, q1, Option.bind_some, z1, nV.nx9]
  by_cases e : (i : Int) = 0
  · rw [if_pos e, y1]
    simp only [Option.bind_some, nV.nx114]
    exact vb hf hR b hb i hi z z2 z3 y y2 y3
  · rw [if_neg e]
    exact vb hf hR b hb i hi z z2 z3 [] (by simp) (by simp)
end
section
variable {f : ny} {R : List Int}
theorem Ver.anc {N : Nat → Nat} {P : List (List Int)} {Z : List Int} {S E : List (List Int)} (hV : Ver f R N P Z f.blocks.length S E) (hN : Nr f N) {a b r : Nat} (h : Anc N a b) (hb : b < f.blocks.length) (hE : NnT E (ob R a) r) : NnT E (ob R b) r := by
  induction h with
  | refl => exact hE
  | @step b h0 _ ih =>
    have := hN.dn b h0 hb
    exact hV.down b hb r (hV.up b (by omega) hb r (ih (by omega)))
theorem wanted (h : Full f R) {N : Nat → Nat} {L : List Int} (hNr : Near f R N L) {F : List (List Int)} (hF : Brd f R N F) {ins ends : List (List Bool)} (hL : LI f ins ends) (hX : ∀ b, Fx f ins ends b) (hph : ∀ B ∈ f.blocks, B.phis = [])
    {P : List (List Int)} {Z : List Int} (hP : Plc f F ins P Z f.regs.length) {S E : List (List Int)} (hV : Ver f R N P Z f.blocks.length S E) (r : Nat) (hr : r < f.regs.length) (C : List Bool) (hC : Cl f F (r : Int) C) (hCp : ∀ i : Nat, C[i]? = some true → Hold ins i r → In1 P i (r : Int)) :
    ∀ (m i : Nat), i < m → i < f.blocks.length → Hold ins (ob R i) r → NnT S (ob R i) r ∧ ∃ c, c < f.blocks.length ∧ (c = 0 ∨ (∃ hc : c < f.blocks.length, ∃ x ∈ f.blocks[c].ins, x.dst = (r : Int)) ∨ C[c]? = some true) ∧ NnT E c r ∧ Anc N (pb R c) i := by
  intro m
  induction m with
  | zero => intro i h; omega
  | succ m ih =>
    intro i him hi hw
    rcases Nat.eq_zero_or_pos i with rfl | h0
    · rw [h.ob0] at hw ⊢
      have hs : NnT S 0 r := hV.first h.pos r hr (by
        by_cases e : (r : Int) < f.params
        · exact .inl e
        · exact .inr (hP.zero r hr (by omega) hw))
      refine ⟨hs, 0, h.pos, .inl rfl, ?_, ?_⟩
      · have := hV.down 0 h.pos r (by rw [h.ob0]; exact hs)
        rwa [h.ob0] at this
      · rw [h.pb0]; exact .refl
    · obtain ⟨o1, o2⟩ := h.get hi
      have hiR : i < R.length := by rw [h.len]; exact hi
      obtain ⟨p, hp, u, hu, hun, hto⟩ := h.led i hiR h0
      have hpn : p < f.blocks.length := by omega
      have hup : ob R p = u := by
        obtain ⟨q1, q2⟩ := h.get hpn
        rw [List.getElem?_eq_getElem (by omega), hu] at q1
        have := Option.some.inj q1
        omega
      have hRi : R[i] = ((ob R i : Nat) : Int) := by
        rw [List.getElem?_eq_getElem hiR] at o1; exact Option.some.inj o1
      rw [hRi] at hto
      have hsu : ((ob R i : Nat) : Int) ∈ succs f.blocks.length f.blocks[u].term.to := qR.2 ⟨hto, by omega, by omega⟩
      -- what stands above the block before
      obtain ⟨re, e1, e2, e3⟩ := hL.dimE.get (b := (u : Int)) (by omega) (by omega)
      obtain ⟨ri, i1, i2, i3⟩ := hL.dimI.get (b := (u : Int)) (by omega) (by omega)
      rw [Int.toNat_natCast] at e2 i2
      obtain ⟨x1, x2⟩ := hX u hun re ri e2 i2
      obtain ⟨rx, rx1, rx2⟩ := hw
      have hre : re[r]? = some true := x1 _ hsu rx (by rw [oz]; exact rx1) r rx2
      have key : ∃ c, c < f.blocks.length ∧ (c = 0 ∨ (∃ hc : c < f.blocks.length, ∃ x ∈ f.blocks[c].ins, x.dst = (r : Int)) ∨ C[c]? = some true) ∧ NnT E c r ∧ Anc N (pb R c) p := by
        by_cases hd : ∃ x ∈ f.blocks[u].ins, x.dst = (r : Int)
        · obtain ⟨x, hx, hxd⟩ := hd
          refine ⟨u, hun, .inr (.inl ⟨hun, x, hx, hxd⟩), ?_, ?_⟩
          · subst hup
            have := hV.defs p hpn hun x hx (by omega)
            rw [hxd, Int.toNat_natCast] at this
            exact this
          · rw [← hup, h.pb_ob hpn]; exact .refl
        · have hb := u9 f.blocks[u] (hph _ (List.getElem_mem hun)) re r (fun x hx e => hd ⟨x, hx, e⟩) (.inl hre)
          exact (ih p (by omega) hpn ⟨ri, by rw [hup]; exact i2, x2 r hb⟩).2
      obtain ⟨c, c1, c2, c3, c4⟩ := key
      by_cases hbd : c = ob R i ∨ ¬ Anc N (pb R c) (pb R (ob R i))
      · obtain ⟨l, l1, l2⟩ := hF c u (ob R i) c1 o2 hun hsu (by rw [← hup, h.pb_ob hpn]; exact c4) hbd
        have hCx := hC c c2 l l1 _ l2
        rw [Int.toNat_natCast] at hCx
        have hin := hCp _ hCx ⟨rx, rx1, rx2⟩
        have hs := hV.phi i hi _ hin
        rw [Int.toNat_natCast] at hs
        exact ⟨hs, ob R i, o2, .inr (.inr hCx), hV.down i hi r hs, by rw [h.pb_ob hi]; exact .refl⟩
      · simp only [not_or, Classical.not_not] at hbd
        obtain ⟨b1, b2⟩ := hbd
        rw [h.pb_ob hi] at b2
        have hne : pb R c ≠ i := fun e => b1 (by rw [← e]; exact (h.ob_pb c1).1.symm)
        rcases b2.cases' with e | ⟨_, b3⟩
        · exact absurd e hne
        · have hni := hNr.nr.dn i (by omega) hi
          have hc' : NnT E (ob R (pb R c)) r := by rw [(h.ob_pb c1).1]; exact c3
          exact ⟨hV.up i h0 hi r (hV.anc hNr.nr b3 (by omega) hc'), c, c1, c2, c3, b2⟩
theorem zp (h : Full f R) {N : Nat → Nat} {L : List Int} (hNr : Near f R N L) {F : List (List Int)} (hF : Brd f R N F) {ins ends : List (List Bool)} (hL : LI f ins ends) (hX : ∀ b, Fx f ins ends b) (hph : ∀ B ∈ f.blocks, B.phis = []) (hR : ∀ B ∈ f.blocks, RegsIn f.regs.length B)
    {P : List (List Int)} {Z : List Int} (hP : Plc f F ins P Z f.regs.length) {S E : List (List Int)} (hV : Ver f R N P Z f.blocks.length S E) (i : Nat) (hi : i < f.blocks.length) (h0 : 0 ≤ f.blocks[i].term.arg) : NnT S i f.blocks[i].term.arg.toNat ∨ ∃ x ∈ f.blocks[i].ins, x.dst = f.blocks[i].term.arg := by
  by_cases hd : ∃ x ∈ f.blocks[i].ins, x.dst = f.blocks[i].term.arg
  · exact .inr hd
  · left
    have hlt := (hR _ (List.getElem_mem hi)).arg
    obtain ⟨r, hr⟩ : ∃ r : Nat, f.blocks[i].term.arg = r := ⟨f.blocks[i].term.arg.toNat, by omega⟩
    rw [hr] at hd hlt ⊢
    rw [Int.toNat_natCast]
    have hrk : r < f.regs.length := by omega
    obtain ⟨re, e1, e2, e3⟩ := hL.dimE.get (b := (i : Int)) (by omega) (by omega)
    obtain ⟨ri, i1, i2, i3⟩ := hL.dimI.get (b := (i : Int)) (by omega) (by omega)
    rw [Int.toNat_natCast] at e2 i2
    have hb := u9 f.blocks[i] (hph _ (List.getElem_mem hi)) re r (fun x hx e => hd ⟨x, hx, e⟩) (.inr ⟨hr, by omega⟩)
    have hw : Hold ins (ob R (pb R i)) r := ⟨ri, by rw [(h.ob_pb hi).1]; exact i2, (hX i hi re ri e2 i2).2 r hb⟩
    obtain ⟨C, hC, hCp⟩ := hP.phi r hrk
    have := (wanted h hNr hF hL hX hph hP hV r hrk C hC hCp (pb R i + 1) (pb R i) (by omega) (h.ob_pb hi).2 hw).1
    rwa [(h.ob_pb hi).1] at this
end
section
variable {f : ny} {R : List Int}
theorem zq (l : List nA) (hl : l.length ≤ 70) : ∃ b : Bool, rc l = some b ∧ (b = false → ∀ B ∈ l, B.phis = []) := by
  unfold rc pS
  obtain ⟨z, hz, hz1⟩ := oj (body := fun (s : Int) => pS.bd8 l s) (s0 := 0) l.length (fun i s => s = (i : Int) ∧ ∀ j (hj : j < l.length), j < i → l[j].phis = []) (fun z => (∃ i : Nat, z = .ret (i : Int)) ∨ (z = .go () ∧ ∀ B ∈ l, B.phis = [])) (nO hl (by omega)) (fun i s hi hI => by
    obtain ⟨rfl, h2⟩ := hI
    simp only [pS.bd8, nP, hi, if_true, nJ hi, Option.bind_some, rL, nQ hi (show l.length ≤ 1000 by omega)]
    by_cases e : len l[i].phis > 0
    · exact .inl ⟨.ret (i : Int), by rw [if_pos (decide_eq_true e)], .inl ⟨i, rfl⟩⟩
    · refine .inr ⟨((i + 1 : Nat) : Int), by rw [if_neg (by simpa using e)], rfl, fun j hj hji => ?_⟩
      by_cases e2 : j < i
      · exact h2 j hj e2
      · obtain rfl : j = i := by omega
        simp only [len] at e
        exact List.eq_nil_of_length_eq_zero (by omega)) (fun s hI => by
    obtain ⟨rfl, h2⟩ := hI
    exact ⟨.go (), by simp [pS.bd8, len], .inr ⟨rfl, fun B hB => by
      obtain ⟨j, hj, rfl⟩ := List.getElem_of_mem hB
      exact h2 j hj hj⟩⟩) ⟨rfl, fun j _ hj => by omega⟩
  rw [hz]
  rcases hz1 with ⟨i, rfl⟩ | ⟨rfl, h⟩
  · exact ⟨true, by simp, fun h => by cases h⟩
  · exact ⟨false, by simp [pS.nx8], fun _ => h⟩
theorem zr (m : nR) (hm : SmM m) : ∃ e, pU m = some e ∧ (e = GErr.no → Proper m ∧ ∀ f ∈ m.funcs, ∀ B ∈ f.blocks, B.phis = []) := by
  obtain ⟨e, he, he2⟩ := rW m hm
  unfold pU
  rw [he]
  simp only [Option.bind_some]
  by_cases h : e = GErr.no
  · rw [if_neg (by simpa using h)]
    have hp := he2.1 h
    obtain ⟨z, hz, hz1⟩ := oj (body := fun (s : Int) => pU.bd13 m s) (s0 := 0) m.funcs.length (fun i s => s = (i : Int) ∧ ∀ j (hj : j < m.funcs.length), j < i → ∀ B ∈ m.funcs[j].blocks, B.phis = []) (fun z => (∃ e, z = .ret e ∧ e ≠ GErr.no) ∨ (z = .go () ∧ ∀ f ∈ m.funcs, ∀ B ∈ f.blocks, B.phis = [])) (nO hm.1 (by omega)) (fun i s hi hI => by
      obtain ⟨rfl, h2⟩ := hI
      obtain ⟨b, hb, hb2⟩ := zq m.funcs[i].blocks (hm.2 _ (List.getElem_mem hi)).1
      have hfew := hm.1
      simp only [pU.bd13, nP, hi, if_true, nJ hi, Option.bind_some, hb, nQ hi (show m.funcs.length ≤ 1000 by omega)]
      cases b with
      | true => exact .inl ⟨_, by simp only [if_true]; rfl, .inl ⟨_, rfl, fun h => by cases h⟩⟩
      | false =>
        refine .inr ⟨((i + 1 : Nat) : Int), by simp, rfl, fun j hj hji => ?_⟩
        by_cases e2 : j < i
        · exact h2 j hj e2
        · obtain rfl : j = i := by omega
          exact hb2 rfl) (fun s hI => by
      obtain ⟨rfl, h2⟩ := hI
      exact ⟨.go (), by simp [pU.bd13, len], .inr ⟨rfl, fun f hf => by
        obtain ⟨j, hj, rfl⟩ := List.getElem_of_mem hf
        exact h2 j hj hj⟩⟩) ⟨rfl, fun j _ hj => by omega⟩
    rw [hz]
    rcases hz1 with ⟨e, rfl, h1⟩ | ⟨rfl, h1⟩
    · exact ⟨e, rfl, fun h => absurd h h1⟩
    · exact ⟨GErr.no, rfl, fun _ => ⟨hp, h1⟩⟩
  · rw [if_pos h]
    exact ⟨e, rfl, fun h' => absurd h' h⟩
theorem zt (f : ny) (s : List Bool) (h : ∀ B ∈ f.blocks, B.phis = []) : ∀ B ∈ (trimF f s).blocks, B.phis = [] := fun B hB => by
  obtain ⟨i, _, hi⟩ := List.mem_filterMap.1 hB
  unfold trimAt at hi
  split at hi
  · rename_i C hC
    split at hi
    · cases hi
      simp [trimB, h C (List.mem_of_getElem? hC)]
    · cases hi
  · cases hi
structure Built (g r : ny) : Prop where
  params : r.params = g.params
  result : r.result = g.result
  len : r.blocks.length = g.blocks.length
  at_ : ∀ j (hj : j < g.blocks.length), ∃ C, r.blocks[j]? = some C ∧ Nb g.blocks[j] C
theorem zu (hf : SmF f) (hR : ∀ B ∈ f.blocks, RegsIn f.regs.length B) (nums : List Int) (q : List (List Bool) × List (List Bool) × GErr) (fr : List (List Int)) (ne : List Int) (pl : List (List Int) × List Int) (nu : List Int × List (List Int) × List Int × List (List Int)) (ve : List (List Int) × List (List Int))
    (hb : Bl f (⟨(⟨f.params, f.result, f.regs, f.blocks⟩ : ny), q.1, fr, ne, pl.1, pl.2, nu.1, nu.2.1, nu.2.2.1, nu.2.2.2, ve.1, ve.2⟩ : nS)) :
    ∃ z, whl (fun (s : (List nA × Int × Int)) => pC.bd57 (f, nums) q fr ne pl nu ve (n6 (nI f)) s.1 s.2.1 s.2.2) nD (([] : List nA), 0, 0) = some z ∧ z.1.length = f.blocks.length ∧ (∀ j (hj : j < f.blocks.length), ∃ C, z.1[j]? = some C ∧ Nb f.blocks[j] C) ∧ ∃ M : Nat, z.2 = (M : Int) ∧ ∀ C ∈ z.1, C.phis.length + C.ins.length ≤ M := by
  have hn := hf.1
  refine oj (body := fun (s : (List nA × Int × Int)) => pC.bd57 (f, nums) q fr ne pl nu ve (n6 (nI f)) s.1 s.2.1 s.2.2) (s0 := ([], 0, 0)) f.blocks.length
    (fun i s => s.2.2 = (i : Int) ∧ s.1.length = i ∧ (∀ j (hj : j < f.blocks.length), j < i → ∃ C, s.1[j]? = some C ∧ Nb f.blocks[j] C) ∧ ∃ M : Nat, s.2.1 = (M : Int) ∧ M ≤ i * 1000 ∧ ∀ C ∈ s.1, C.phis.length + C.ins.length ≤ M) _ (nO hn (by omega)) (fun i s hi hI => ?_) (fun s hI => ?_) ⟨rfl, rfl, fun j _ hj => by omega, 0, rfl, by omega, by simp⟩
  · obtain ⟨A, mm, j⟩ := s
    obtain ⟨rfl, g1, g2, M, rfl, g3, g4⟩ := hI
    simp only at g1 g2 g3 g4
    right
    have hi' : i < (n6 (nI f)).length := by rw [sq, oP]; exact hi
    have hah : idx (n6 (nI f)) (i : Int) = some (ot (nI f) i) := by rw [oz]; exact qI _ _ (by rw [oP]; exact hi)
    obtain ⟨C, c1, c2⟩ := zo hf hR _ hb i hi (ot (nI f) i) (by have := uI (nI f) i; rw [oP] at this; omega) (fun x hx => by have := ss (nI f) i x hx; rw [oP] at this; exact this)
    have hp := c2.phis
    have hq := c2.ins
    have w1 : w64 (len C.phis + len C.ins) = ((C.phis.length + C.ins.length : Nat) : Int) := by
      rw [show len C.phis + len C.ins = ((C.phis.length + C.ins.length : Nat) : Int) by simp [len]]; exact rO (by omega)
    have w2 : w64 (((C.phis.length + C.ins.length : Nat) : Int) + 1) = ((C.phis.length + C.ins.length + 1 : Nat) : Int) := rP (by omega)
    have w3 : w64 ((M : Int) + ((C.phis.length + C.ins.length + 1 : Nat) : Int)) = ((M + (C.phis.length + C.ins.length + 1) : Nat) : Int) := by
      rw [show (M : Int) + ((C.phis.length + C.ins.length + 1 : Nat) : Int) = ((M + (C.phis.length + C.ins.length + 1) : Nat) : Int) by omega]; exact rO (by omega)
    simp only [pC.bd57, nP, hi', if_true, hah, Option.bind_some, c1, oH (show A.length ≤ 1000 by omega), w1, w2, w3, nQ hi (show f.blocks.length ≤ 1000 by omega)]
    refine ⟨_, rfl, rfl, by simp [g1], fun j hj hji => ?_, _, rfl, by omega, fun D hD => ?_⟩
    · simp only
      by_cases e : j < i
      · obtain ⟨D, d1, d2⟩ := g2 j hj e
        exact ⟨D, by rw [List.getElem?_append_left (by omega)]; exact d1, d2⟩
      · obtain rfl : j = i := by omega
        exact ⟨C, by rw [List.getElem?_append_right (by omega), g1]; simp, c2⟩
    · rcases List.mem_append.1 hD with hD | hD
      · have := g4 D hD; omega
      · rw [List.mem_singleton] at hD; subst hD; omega
  · obtain ⟨A, mm, j⟩ := s
    obtain ⟨rfl, g1, g2, M, rfl, g3, g4⟩ := hI
    simp only at g1 g2 g3 g4
    exact ⟨(A, (M : Int)), by simp [pC.bd57, len, sq, oP], g1, fun j hj => g2 j hj hj, M, rfl, g4⟩
theorem smE : SmF (⟨0, 0, ([] : List Int), ([] : List nA)⟩ : ny) := ⟨by simp, by simp, by simp, by simp⟩
theorem zv (m : nR) (hm : SmM m) (a : Int) : ∃ r, pC m a = some r ∧ SmF r.1 ∧ (r.2 = GErr.no → ∃ k : Nat, a = k ∧ ∃ hk : k < m.funcs.length, ∃ s nums, nW m.funcs[k] = some (trimF m.funcs[k] s, nums) ∧ SmF (trimF m.funcs[k] s) ∧ Built (trimF m.funcs[k] s) r.1) := by
  obtain ⟨e, he, he2⟩ := zr m hm
  unfold pC
  rw [he]
  simp only [Option.bind_some]
  by_cases h : e = GErr.no
  · rw [if_neg (by simpa using h)]
    obtain ⟨hp, hph⟩ := he2 h
    by_cases h2 : a < 0 ∨ a ≥ len m.funcs
    · rw [if_pos h2]
      exact ⟨_, rfl, smE, fun h => by cases h⟩
    · rw [if_neg h2]
      simp only [len] at h2
      obtain ⟨k, rfl⟩ : ∃ k : Nat, a = k := ⟨a.toNat, by omega⟩
      have hk : k < m.funcs.length := by omega
      have hf0 := hm.2 _ (List.getElem_mem hk)
      obtain ⟨s, o, hw, _⟩ := qz m.funcs[k] hf0
      have htr := uB m.funcs[k] hf0 hw
      have hf := sS m.funcs[k] hf0 s
      have hfl := hm.1
      have hcl : rM m.funcs = some m.funcs := by
        unfold rM; rw [rg (by omega)]; rfl
      have hset : (m.funcs.set k (trimF m.funcs[k] s)).length = m.funcs.length := by simp
      have hm' : SmM (⟨m.funcs.set k (trimF m.funcs[k] s)⟩ : nR) := ⟨by simp only [hset]; exact hm.1, fun g hg => (List.mem_or_eq_of_mem_set hg).elim (hm.2 g) (fun e => e ▸ hf)⟩
      simp only [nJ hk, Option.bind_some, htr, hcl, Int.toNat_natCast]
      obtain ⟨e3, _, hl⟩ := yV _ hm' (k : Int)
      rcases hl with ⟨hne, h1⟩ | ⟨hno, hp', k', hk', hkl, ins, ends, h1, hLI, hFx⟩
      · rw [h1]
        simp only [Option.bind_some]
        rw [if_pos hne]
        exact ⟨_, rfl, smE, fun h => absurd h hne⟩
      · obtain rfl : k' = k := by omega
        rw [h1]
        simp only [Option.bind_some]
        rw [if_neg (by simp)]
        have hfo := hp'.funcs _ (List.getElem_mem hkl)
        have hg : (m.funcs.set k' (trimF m.funcs[k'] s))[k']'hkl = trimF m.funcs[k'] s := by simp
        simp only [hg] at hfo hLI hFx
        obtain ⟨s', o', hw', _⟩ := qz _ hf
        have hs' := yA m.funcs[k'] hf0 hw hw'
        have hfull := uV _ hf (by have := hfo.small.pos; omega) hw' hs'
        have hRr : ∀ B ∈ (trimF m.funcs[k'] s).blocks, RegsIn (trimF m.funcs[k'] s).regs.length B := fun B hB => BlockOk_regs (hfo.blocks B hB)
        have hphi : ∀ B ∈ (trimF m.funcs[k'] s).blocks, B.phis = [] := zt _ s (hph _ (List.getElem_mem hk))
        generalize hgg : trimF m.funcs[k'] s = g at *
        obtain ⟨N, L, hL, hN⟩ := u6 hfull
        obtain ⟨F, hF, hF1, hF2⟩ := yN hfull hL hN
        rw [hF, hL]
        simp only [Option.bind_some]
        obtain ⟨pl, p1, p2, p3, p4⟩ := y8 hf hfull.pos (⟨(⟨g.params, g.result, g.regs, g.blocks⟩ : ny), ins, F, L, ([] : List (List Int)), ([] : List Int), [], [], [], [], [], []⟩ : nS) rfl hLI.dimI hF1 rfl
        rw [p1]
        simp only [Option.bind_some]
        obtain ⟨nr, np, nz, nd, n1, n2, n3, n4⟩ := zd hf hRr hfo.typed.nn hfo.typed.le (⟨(⟨g.params, g.result, g.regs, g.blocks⟩ : ny), ins, F, L, pl.1, pl.2, ([] : List Int), ([] : List (List Int)), ([] : List Int), ([] : List (List Int)), [], []⟩ : nS) rfl p2 p3 rfl rfl rfl
        rw [n1]
        simp only [Option.bind_some]
        obtain ⟨S, E, v1, v2, v3, v4⟩ := zi hfull hN hRr (⟨(⟨g.params, g.result, g.regs, g.blocks⟩ : ny), ins, F, L, pl.1, pl.2, nr, np, nz, nd, ([] : List (List Int)), ([] : List (List Int))⟩ : nS) rfl rfl p2 n4 p3 n2 n3
        rw [v1, rV g hf]
        simp only [Option.bind_some]
        obtain ⟨z, z1, z2, z3, M, z4, z5⟩ := zu hf hRr (numF s) (ins, ends, GErr.no) F L pl (nr, np, nz, nd) (S, E) ⟨rfl, p2, n4, by have := p3.few; simp only at n2 ⊢; omega, v2, v3, fun i hi h0 => zp hfull hN hF2 hLI hFx hphi hRr p4 v4 i hi h0⟩
        rw [z1]
        simp only [Option.bind_some, pC.nx57]
        by_cases hbig : z.2 > 256 ∨ len nr > 256
        · rw [if_pos hbig]
          exact ⟨_, rfl, smE, fun h => by cases h⟩
        · rw [if_neg hbig]
          simp only [len] at hbig
          have hn := hf.1
          refine ⟨_, rfl, ⟨by simp only; omega, by simp only; omega, hf.2.2.1, fun C hC => ?_⟩, fun _ => ⟨k', rfl, hk, s, numF s, by rw [htr, hgg], by rw [hgg]; exact hf, by rw [hgg]; exact ⟨rfl, rfl, z2, z3⟩⟩⟩
          have hCM := z5 C hC
          obtain ⟨j, hj, hjC⟩ := List.getElem_of_mem hC
          obtain ⟨D, d1, d2⟩ := z3 j (by simp only at hj; omega)
          have hDC : D = C := by
            simp only at hj hjC
            rw [List.getElem?_eq_getElem hj, hjC] at d1; exact (Option.some.inj d1).symm
          subst hDC
          exact ⟨by omega, by omega, by rw [d2.to]; exact (hf.2.2.2 _ (List.getElem_mem _)).2.2.1, d2.args, d2.pargs⟩
  · rw [if_pos h]
    exact ⟨_, rfl, smE, fun h' => absurd h' h⟩
end
section
/-- What is made: the register, the block, the place. -/
abbrev D3 := Int × Int × Int
def mkr (L : List D3) (r : Nat) : PMaker := match L.find? (fun x => decide (x.1 = (r : Int))) with | some x => ⟨x.2.1, x.2.2⟩ | none => ⟨-1, -2⟩
def cntD (L : List D3) (r : Nat) : Nat := L.countP (fun x => decide (x.1 = (r : Int)))
def mks (n : Nat) (L : List D3) : List PMaker := (List.range n).map (mkr L)
def mns (n : Nat) (L : List D3) : List Int := (List.range n).map fun r => ((cntD L r : Nat) : Int)
theorem vc {n r : Nat} (L : List D3) (h : r < n) : idx (mks n L) (r : Int) = some (mkr L r) := by rw [oz]; simp [mks, h]
theorem su {n r : Nat} (L : List D3) (h : r < n) : idx (mns n L) (r : Int) = some ((cntD L r : Nat) : Int) := by rw [oz]; simp [mns, h]
theorem vd (n : Nat) (L : List D3) : (mks n L).length = n := by simp [mks]
theorem vf (n : Nat) (L : List D3) : (mns n L).length = n := by simp [mns]
theorem s6 {L : List D3} {x : D3} {r : Nat} (h : x.1 ≠ (r : Int)) : mkr (L ++ [x]) r = mkr L r := by
  unfold mkr
  rw [List.find?_append]
  have : List.find? (fun x : D3 => decide (x.1 = (r : Int))) [x] = none := by simp [h]
  rw [this]
  cases List.find? (fun x : D3 => decide (x.1 = (r : Int))) L <;> rfl
theorem vg {L : List D3} {x : D3} {r : Nat} (h : x.1 ≠ (r : Int)) : cntD (L ++ [x]) r = cntD L r := by
  unfold cntD
  rw [List.countP_append]
  simp [h]
theorem zw {L : List D3} {x : D3} {r : Nat} (h : x.1 = (r : Int)) : cntD (L ++ [x]) r = cntD L r + 1 := by
  unfold cntD
  rw [List.countP_append]
  simp [h]
theorem vh {L : List D3} {r : Nat} (h : cntD L r = 0) : L.find? (fun x => decide (x.1 = (r : Int))) = none := by
  unfold cntD at h
  rw [List.countP_eq_zero] at h
  exact List.find?_eq_none.2 h
theorem vi {L : List D3} {r : Nat} (h : cntD L r ≠ 0) : ∃ x, L.find? (fun x => decide (x.1 = (r : Int))) = some x ∧ x ∈ L ∧ x.1 = (r : Int) := by
  cases hf : L.find? (fun x => decide (x.1 = (r : Int))) with
  | none => exact absurd (List.countP_eq_zero.2 (List.find?_eq_none.1 hf)) h
  | some x => exact ⟨x, rfl, List.mem_of_find?_eq_some hf, by simpa using List.find?_some hf⟩
theorem zx {L : List D3} {x : D3} {r : Nat} (h : x.1 = (r : Int)) (h0 : cntD L r = 0) : mkr (L ++ [x]) r = ⟨x.2.1, x.2.2⟩ := by
  unfold mkr
  rw [List.find?_append, vh h0]
  simp [h]
theorem zy {L : List D3} {x : D3} {r : Nat} (h0 : cntD L r ≠ 0) : mkr (L ++ [x]) r = mkr L r := by
  obtain ⟨y, hy, _⟩ := vi h0
  unfold mkr
  rw [List.find?_append, hy]; rfl
theorem zz (L : List D3) (r : Nat) : cntD L r ≤ L.length := List.countP_le_length
theorem zA {n k : Nat} {L : List D3} {x : D3} (hk : x.1 = (k : Int)) : (if cntD L k = 0 then (mks n L).set k ⟨x.2.1, x.2.2⟩ else mks n L) = mks n (L ++ [x]) := by
  apply List.ext_getElem (by split <;> simp [mks])
  intro j h1 h2
  have hj : j < n := by simpa [mks] using h2
  by_cases e : j = k
  · subst e
    by_cases h0 : cntD L j = 0
    · simp only [h0, if_true, List.getElem_set_self]
      simp [mks, zx hk h0]
    · simp only [h0, if_false]
      simp [mks, zy h0]
  · have hne : x.1 ≠ (j : Int) := by rw [hk]; omega
    by_cases h0 : cntD L k = 0
    · simp only [h0, if_true, List.getElem_set_ne (Ne.symm e)]
      simp [mks, s6 hne]
    · simp only [h0, if_false]
      simp [mks, s6 hne]
theorem zB {n k : Nat} {L : List D3} {x : D3} (hk : x.1 = (k : Int)) : (mns n L).set k (((cntD L k + 1 : Nat) : Int)) = mns n (L ++ [x]) := by
  apply List.ext_getElem (by simp [mns])
  intro j h1 h2
  have hj : j < n := by simpa [mns] using h2
  by_cases e : j = k
  · subst e
    rw [List.getElem_set_self]
    simp [mns, zw hk]
  · have hne : x.1 ≠ (j : Int) := by rw [hk]; omega
    rw [List.getElem_set_ne (Ne.symm e)]
    simp [mns, vg hne]
theorem vj {n : Nat} (L : List D3) (d b a : Int) (hL : L.length ≤ 1000000) : p9 d b a (mks n L) (mns n L) = some (mks n (L ++ [(d, b, a)]), mns n (L ++ [(d, b, a)])) := by
  unfold p9
  by_cases hr : d < 0 ∨ d ≥ len (mks n L)
  · rw [if_pos hr]
    simp only [len, vd] at hr
    congr 2
    · unfold mks; exact List.map_congr_left fun r hr' => (s6 (by have := List.mem_range.1 hr'; simp only; omega)).symm
    · unfold mns; exact List.map_congr_left fun r hr' => by rw [vg (by have := List.mem_range.1 hr'; simp only; omega)]
  · rw [if_neg hr]
    simp only [len, vd, not_or] at hr
    obtain ⟨k, rfl⟩ : ∃ k : Nat, d = k := ⟨d.toNat, by omega⟩
    have hk : k < n := by omega
    have hc := zz L k
    have hw : w64 (((cntD L k : Nat) : Int) + 1) = ((cntD L k + 1 : Nat) : Int) := rP (by omega)
    have h1 := zA (n := n) (L := L) (x := ((k : Int), b, a)) rfl
    have h2 := zB (n := n) (L := L) (x := ((k : Int), b, a)) rfl
    simp only [su L hk, vc L hk, Option.bind_some]
    by_cases h0 : cntD L k = 0
    · rw [if_pos h0] at h1
      rw [if_pos (by omega)]
      simp only [p9.jn12, su L hk, Option.bind_some, hw, Int.toNat_natCast, h1, h2]
    · rw [if_neg h0] at h1
      rw [if_neg (by omega)]
      simp only [p9.jn12, su L hk, Option.bind_some, hw, Int.toNat_natCast, ← h1, h2]
def defsP (i : Nat) (B : nA) : List D3 := B.phis.map fun p => (p.dst, (i : Int), -1)
def defsI (i : Nat) (B : nA) : List D3 := B.ins.zipIdx.map fun x => (x.1.dst, (i : Int), ((x.2 : Nat) : Int))
def defsB (i : Nat) (B : nA) : List D3 := defsP i B ++ defsI i B
/-- What a function's blocks make, up to one. -/
def defsTo (f : ny) (n : Nat) : List D3 := (f.blocks.take n).zipIdx.flatMap fun x => defsB x.2 x.1
def defs (f : ny) : List D3 := f.blocks.zipIdx.flatMap fun x => defsB x.2 x.1
theorem vk (f : ny) {i : Nat} (hi : i < f.blocks.length) : defsTo f (i + 1) = defsTo f i ++ defsB i f.blocks[i] := by
  unfold defsTo
  rw [List.take_succ_eq_append_getElem hi, List.zipIdx_append, List.flatMap_append]
  simp [List.length_take, Nat.min_eq_left (Nat.le_of_lt hi)]
theorem zC (f : ny) : defsTo f f.blocks.length = defs f := by unfold defsTo defs; rw [List.take_length]
theorem zD {i : Nat} {B : nA} (h : SmB B) : (defsB i B).length ≤ 600 := by
  have := h.1; have := h.2.1
  simp [defsB, defsP, defsI]; omega
theorem vl (f : ny) (hf : SmF f) : ∀ i, i ≤ f.blocks.length → (defsTo f i).length ≤ i * 600
  | 0, _ => by simp [defsTo]
  | i + 1, hi => by
    have h1 := vl f hf i (by omega)
    rw [vk f (by omega), List.length_append]
    have := zD (i := i) (hf.2.2.2 _ (List.getElem_mem (show i < f.blocks.length by omega)))
    omega
theorem zE (n : Nat) : mks n [] = List.replicate n ⟨-1, -2⟩ := by
  unfold mks
  apply List.ext_getElem (by simp)
  intro j h1 h2
  simp [mkr]
theorem zF (n : Nat) : mns n [] = List.replicate n 0 := by
  unfold mns
  apply List.ext_getElem (by simp)
  intro j h1 h2
  simp [cntD]
theorem zG {α : Type} {n : Nat} (z : α) (hn : n ≤ 1000) : mkl (n : Int) z = some (List.replicate n z) := by
  have h1 : n < LIM := by simp only [LIM]; omega
  simp [mkl, h1]
theorem zH (l : List PMaker) (h : l.length ≤ 1000) : whl (fun (s : (List PMaker × Int)) => oo.bd12 l s.1 s.2) nD (l, 0) = some (List.replicate l.length ⟨-1, -2⟩) := by
  have hrun := pf (body := fun (s : List PMaker × Int) => oo.bd12 l s.1 s.2) (r := List.replicate l.length (⟨-1, -2⟩ : PMaker)) l.length nD (fun i => (List.replicate i (⟨-1, -2⟩ : PMaker) ++ l.drop i, (i : Int))) (fun i hi => by
    have hl : i < (List.replicate i (⟨-1, -2⟩ : PMaker) ++ l.drop i).length := by simp; omega
    simp only [oo.bd12, nP, hi, if_true, nJ hl, Option.bind_some, Int.toNat_natCast, nQ hi (show l.length ≤ 1000 by omega)]
    congr 3
    rw [List.set_append_right _ _ (by simp)]
    simp only [List.length_replicate, Nat.sub_self]
    rw [List.drop_eq_getElem_cons hi, List.set_cons_zero, List.replicate_succ', List.append_assoc]; rfl) (by simp [oo.bd12, len]) (oW (nO h (by omega)))
  simpa using hrun
theorem zI (f : ny) (hf : SmF f) : oo f = some (mks f.regs.length (defs f), mns f.regs.length (defs f)) := by
  have hn := hf.1
  have hr := hf.2.1
  unfold oo
  simp only [len, zG (n := f.regs.length) _ (show f.regs.length ≤ 1000 by omega), Option.bind_some]
  unfold oo.jn4
  have h0 := zH (List.replicate f.regs.length PMaker.zero) (by simpa using (show f.regs.length ≤ 1000 by omega))
  rw [List.length_replicate] at h0
  rw [h0]
  simp only [Option.bind_some, oo.nx12]
  have hrun := pf (body := fun (s : (List PMaker × List Int × Int)) => oo.bd21 f s.1 s.2.1 s.2.2) (r := (mks f.regs.length (defs f), mns f.regs.length (defs f))) f.blocks.length nD
    (fun i => (mks f.regs.length (defsTo f i), mns f.regs.length (defsTo f i), (i : Int))) (fun i hi => by
      have hB := hf.2.2.2 _ (List.getElem_mem hi)
      obtain ⟨b1, b2, _⟩ := id hB
      have hL := vl f hf i (by omega)
      simp only [oo.bd21, nP, hi, if_true, nJ hi, Option.bind_some]
      have hp := pf (body := fun (s : (List PMaker × List Int × Int)) => oo.bd40 (i : Int) f.blocks[i] s.1 s.2.1 s.2.2) (r := (mks f.regs.length (defsTo f i ++ defsP i f.blocks[i]), mns f.regs.length (defsTo f i ++ defsP i f.blocks[i]))) f.blocks[i].phis.length nD
        (fun k => (mks f.regs.length (defsTo f i ++ (defsP i f.blocks[i]).take k), mns f.regs.length (defsTo f i ++ (defsP i f.blocks[i]).take k), (k : Int))) (fun k hk => by
          have hk' : k < (defsP i f.blocks[i]).length := by simpa [defsP] using hk
          simp only [oo.bd40, nP, hk, if_true, nJ hk, Option.bind_some]
          rw [vj _ _ _ _ (by simp only [List.length_append, List.length_take]; omega)]
          simp only [Option.bind_some, nQ hk (show f.blocks[i].phis.length ≤ 1000 by omega)]
          rw [List.take_succ_eq_append_getElem hk', List.append_assoc]
          simp [defsP]) (by simp [oo.bd40, len, List.take_of_length_le, defsP]) (oW (nO b2 (by omega)))
      simp only [List.take_zero, List.append_nil] at hp
      have hz : (((0 : Nat) : Int)) = 0 := rfl
      rw [hz] at hp
      rw [hp]
      simp only [Option.bind_some, oo.nx40]
      have hq := pf (body := fun (s : (List PMaker × List Int × Int)) => oo.bd47 (i : Int) f.blocks[i] s.1 s.2.1 s.2.2) (r := (mks f.regs.length (defsTo f (i + 1)), mns f.regs.length (defsTo f (i + 1)))) f.blocks[i].ins.length nD
        (fun k => (mks f.regs.length ((defsTo f i ++ defsP i f.blocks[i]) ++ (defsI i f.blocks[i]).take k), mns f.regs.length ((defsTo f i ++ defsP i f.blocks[i]) ++ (defsI i f.blocks[i]).take k), (k : Int))) (fun k hk => by
          have hk' : k < (defsI i f.blocks[i]).length := by simpa [defsI] using hk
          have hpl : (defsP i f.blocks[i]).length ≤ 300 := by simpa [defsP] using b2
          simp only [oo.bd47, nP, hk, if_true, nJ hk, Option.bind_some]
          rw [vj _ _ _ _ (by simp only [List.length_append, List.length_take]; omega)]
          simp only [Option.bind_some, nQ hk (show f.blocks[i].ins.length ≤ 1000 by omega)]
          rw [List.take_succ_eq_append_getElem hk', ← List.append_assoc]
          simp [defsI]) (by
            have : f.blocks[i].ins.length = (defsI i f.blocks[i]).length := by simp [defsI]
            simp only [oo.bd47, len]
            rw [if_neg (by omega), this, List.take_length, vk f hi, defsB, List.append_assoc]) (oW (nO b1 (by omega)))
      simp only [List.take_zero, List.append_nil] at hq
      rw [hz] at hq
      rw [hq]
      simp only [Option.bind_some, oo.nx47, nQ hi (show f.blocks.length ≤ 1000 by omega)]) (by
        simp only [oo.bd21, len]
        rw [if_neg (by omega), zC]) (oW (nO hn (by omega)))
  have hd0 : defsTo f 0 = [] := by simp [defsTo]
  rw [hd0, zE, zF] at hrun
  have hz : (((0 : Nat) : Int)) = 0 := rfl
  rw [hz] at hrun
  rw [hrun]; rfl
/-- A maker is in a block that is there. -/
theorem zJ (f : ny) {x : D3} (h : x ∈ defs f) : ∃ i : Nat, x.2.1 = (i : Int) ∧ i < f.blocks.length := by
  unfold defs at h
  obtain ⟨⟨B, i⟩, h1, h2⟩ := List.mem_flatMap.1 h
  have hi : i < f.blocks.length := by
    have := List.snd_lt_of_mem_zipIdx h1
    simpa using this
  refine ⟨i, ?_, hi⟩
  unfold defsB defsP defsI at h2
  rcases List.mem_append.1 h2 with h3 | h3
  · obtain ⟨p, _, rfl⟩ := List.mem_map.1 h3; rfl
  · obtain ⟨p, _, rfl⟩ := List.mem_map.1 h3; rfl
theorem zK (f : ny) (r : Nat) : (mkr (defs f) r).block = -1 ∨ ∃ i : Nat, (mkr (defs f) r).block = (i : Int) ∧ i < f.blocks.length := by
  by_cases h : cntD (defs f) r = 0
  · left; unfold mkr; rw [vh h]
  · obtain ⟨x, h1, h2, _⟩ := vi h
    right
    obtain ⟨i, h3, h4⟩ := zJ f h2
    refine ⟨i, ?_, h4⟩
    unfold mkr; rw [h1]; exact h3
end
section
theorem r5 {α σ : Type} (L : List α) (g : σ → α → σ) (s0 : σ) {body : σ × Int → Option (Ex σ (σ × Int))} (hl : L.length ≤ 1000)
    (h : ∀ k (hk : k < L.length) s, body (s, (k : Int)) = some (.go (g s L[k], ((k + 1 : Nat) : Int)))) (he : ∀ s, body (s, (L.length : Int)) = some (.ret s)) : whl body nD (s0, 0) = some (L.foldl g s0) := by
  have hrun := pf (body := body) (r := L.foldl g s0) L.length nD (fun k => ((L.take k).foldl g s0, (k : Int))) (fun k hk => by
    rw [h k hk, rQ g s0 L hk]) (by rw [he, List.take_length]) (oW (nO hl (by omega)))
  exact hrun
/-- What the table holds of two blocks. -/
def ovT (T : List (List Bool)) (a b : Int) : Bool := (T.getD a.toNat []).getD b.toNat false
theorem Dim.ovT {n k : Nat} {T : List (List Bool)} (h : Dim n k T) {a b : Int} (a0 : 0 ≤ a) (a1 : a < (n : Int)) (b0 : 0 ≤ b) (b1 : b < (k : Int)) : ∃ row, idx T a = some row ∧ idx row b = some (Go.Proofs.Ytpmcbahahjelnaa.ovT T a b) := by
  obtain ⟨row, r1, r2, r3⟩ := h.get a0 a1
  refine ⟨row, r1, ?_⟩
  obtain ⟨v, v1, v2⟩ := pv (xs := row) b0 (by omega)
  rw [v1]
  unfold Go.Proofs.Ytpmcbahahjelnaa.ovT
  simp [List.getD_eq_getElem?_getD, r2, v2]
/-- A use: the register, the block, the place; is it made ahead? -/
def okU (f : ny) (T : List (List Bool)) (u : D3) : Bool :=
  decide (u.1 < f.params) || (decide ((mkr (defs f) u.1.toNat).block ≥ 0) && ((decide (¬ (mkr (defs f) u.1.toNat).block = u.2.1) && ovT T (mkr (defs f) u.1.toNat).block u.2.1) || (decide ((mkr (defs f) u.1.toNat).block = u.2.1) && decide ((mkr (defs f) u.1.toNat).at_ < u.2.2))))
def lowS (f : ny) (T : List (List Bool)) (low : Int) (u : D3) : Int := if okU f T u = false ∧ (low < 0 ∨ u.1 < low) then u.1 else low
theorem s7 (l : oX) (hm : l.makers = mks l.f.regs.length (defs l.f)) (hT : Dim l.f.blocks.length l.f.blocks.length l.over) (low r b a : Int) (hr : hasR l.f r) (hb0 : 0 ≤ b) (hb1 : b < (l.f.blocks.length : Int)) :
    qF (⟨(⟨l.f.params, l.f.result, l.f.regs, l.f.blocks⟩ : ny), l.makers, l.over, low⟩ : oX) r b a = some (lowS l.f l.over low (r, b, a)) := by
  obtain ⟨k, rfl⟩ : ∃ k : Nat, r = k := ⟨r.toNat, by have := hr.1; omega⟩
  have hk : k < l.f.regs.length := by have := hr.2; omega
  unfold qF
  simp only [hm, vc _ hk, Option.bind_some]
  have key : (if (k : Int) < l.f.params then some true else (if (mkr (defs l.f) k).block ≥ 0 then (if ¬ (mkr (defs l.f) k).block = b then (idx l.over (mkr (defs l.f) k).block).bind fun x25 =>
      (idx x25 b).bind fun x33 => some x33 else some false).bind fun t24 => some (decide (t24 = true ∨ ((mkr (defs l.f) k).block = b ∧ (mkr (defs l.f) k).at_ < a))) else some false).bind fun t23 => some t23) = some (okU l.f l.over ((k : Int), b, a)) := by
    unfold okU
    simp only [Int.toNat_natCast]
    by_cases h1 : (k : Int) < l.f.params
    · rw [if_pos h1]; simp [h1]
    rw [if_neg h1]
    rcases zK l.f k with h2 | ⟨i, h2, h3⟩
    · rw [if_neg (by omega)]; simp [h1, h2]
    rw [if_pos (by omega)]
    obtain ⟨row, r1, r2⟩ := hT.ovT (a := (mkr (defs l.f) k).block) (b := b) (by omega) (by omega) hb0 hb1
    rw [r1]
    simp only [Option.bind_some, r2]
    by_cases h4 : (mkr (defs l.f) k).block = b
    · rw [if_neg (by simpa using h4)]
      simp [h1, h4, hb0]
    · rw [if_pos h4]
      have h0 : (mkr (defs l.f) k).block ≥ 0 := by omega
      simp [h1, h4, h0]
  rw [key]
  simp only [Option.bind_some, lowS]
  cases okU l.f l.over ((k : Int), b, a) <;> simp
  split <;> simp_all
def usesP (f : ny) (i : Nat) (B : nA) : List D3 := B.phis.flatMap fun p => p.args.zipIdx.map fun x => (x.1, (ot (nI f) i).getD x.2 0, ((f.blocks.getD ((ot (nI f) i).getD x.2 0).toNat nA.zero).ins.length : Int))
def usesI (i : Nat) (B : nA) : List D3 := B.ins.zipIdx.flatMap fun x => x.1.args.map fun a => (a, (i : Int), ((x.2 : Nat) : Int))
def usesT (i : Nat) (B : nA) : List D3 := if B.term.arg ≥ 0 then [(B.term.arg, (i : Int), (B.ins.length : Int))] else []
def usesB (f : ny) (i : Nat) (B : nA) : List D3 := usesP f i B ++ usesI i B ++ usesT i B
def uses (f : ny) : List D3 := f.blocks.zipIdx.flatMap fun x => usesB f x.2 x.1
theorem zL (l : oX) {m : nR} (hf : SmF l.f) (hok : FuncOk m l.f) (hm : l.makers = mks l.f.regs.length (defs l.f)) (hT : Dim l.f.blocks.length l.f.blocks.length l.over) :
    od l = some ((uses l.f).foldl (lowS l.f l.over) l.lowest) := by
  have hn := hf.1
  unfold od
  rw [rV l.f hf]
  simp only [Option.bind_some]
  have hout := r5 l.f.blocks.zipIdx (fun (low : Int) (x : nA × Nat) => (usesB l.f x.2 x.1).foldl (lowS l.f l.over) low) l.lowest (body := fun (s : (Int × Int)) => od.bd10 l (n6 (nI l.f)) s.1 s.2) (by simp; omega) (fun i hi low => by
    have hi : i < l.f.blocks.length := by simpa using hi
    have hB := hf.2.2.2 _ (List.getElem_mem hi)
    have hR := BlockOk_regs (hok.blocks _ (List.getElem_mem hi))
    obtain ⟨b1, b2, b3, b4, b5⟩ := id hB
    simp only [od.bd10, nP, hi, if_true, nJ hi, Option.bind_some]
    have hg : idx (n6 (nI l.f)) (i : Int) = some (ot (nI l.f) i) := by rw [oz]; exact qI _ _ (by rw [oP]; exact hi)
    -- phis
    have hp := r5 l.f.blocks[i].phis (fun (low : Int) (p : PPhi) => (p.args.zipIdx.map fun x => (x.1, (ot (nI l.f) i).getD x.2 0, ((l.f.blocks.getD ((ot (nI l.f) i).getD x.2 0).toNat nA.zero).ins.length : Int))).foldl (lowS l.f l.over) low) low (body := fun (s : (Int × Int)) => od.bd29 l (n6 (nI l.f)) (i : Int) l.f.blocks[i] s.1 s.2) (by omega) (fun k hk low => by
      have hpm := List.getElem_mem hk
      have hl := hok.ahead i hi _ hpm
      have h5 := b5 _ hpm
      simp only [od.bd29, nP, hk, if_true, nJ hk, Option.bind_some]
      have ha := r5 (l.f.blocks[i].phis[k].args.zipIdx.map fun x => (x.1, (ot (nI l.f) i).getD x.2 0, ((l.f.blocks.getD ((ot (nI l.f) i).getD x.2 0).toNat nA.zero).ins.length : Int))) (lowS l.f l.over) low (body := fun (s : (Int × Int)) => od.bd85 l (n6 (nI l.f)) (i : Int) l.f.blocks[i].phis[k] s.1 s.2) (by simp; omega) (fun j hj low => by
        have hj : j < l.f.blocks[i].phis[k].args.length := by simpa using hj
        have hj2 : j < (ot (nI l.f) i).length := by omega
        have hin := ss (nI l.f) i _ (List.getElem_mem hj2)
        rw [oP] at hin
        have hgd : (ot (nI l.f) i).getD j 0 = (ot (nI l.f) i)[j] := by rw [List.getD_eq_getElem?_getD, List.getElem?_eq_getElem hj2]; rfl
        obtain ⟨C, c1, c2⟩ := pv (xs := l.f.blocks) hin.1 hin.2
        have hu := s7 l hm hT low l.f.blocks[i].phis[k].args[j] (ot (nI l.f) i)[j] (len C.ins) (hR.pargs _ hpm _ (List.getElem_mem hj)) hin.1 hin.2
        simp only [od.bd85, nP, hj, if_true, nJ hj, Option.bind_some, hg, nJ hj2, c1, hu, nQ hj (show l.f.blocks[i].phis[k].args.length ≤ 1000 by omega)]
        simp [hgd, List.getD_eq_getElem?_getD, c2, len, List.getElem?_eq_getElem hj2]) (fun s => by simp [od.bd85, len])
      rw [ha]
      simp only [Option.bind_some, od.nx85, nQ hk (show l.f.blocks[i].phis.length ≤ 1000 by omega)]) (fun s => by simp [od.bd29, len])
    rw [hp]
    simp only [Option.bind_some, od.nx29]
    -- instructions
    generalize hlow : List.foldl _ low l.f.blocks[i].phis = lo1
    have hI := r5 l.f.blocks[i].ins.zipIdx (fun (low : Int) (x : nL × Nat) => (x.1.args.map fun a => (a, (i : Int), ((x.2 : Nat) : Int))).foldl (lowS l.f l.over) low) lo1 (body := fun (s : (Int × Int)) => od.bd38 l (i : Int) l.f.blocks[i] s.1 s.2) (by simp; omega) (fun k hk low => by
      have hk : k < l.f.blocks[i].ins.length := by simpa using hk
      have hxm := List.getElem_mem hk
      have h4 := b4 _ hxm
      simp only [od.bd38, nP, hk, if_true, nJ hk, Option.bind_some]
      have ha := r5 (l.f.blocks[i].ins[k].args.map fun a => (a, (i : Int), ((k : Nat) : Int))) (lowS l.f l.over) low (body := fun (s : (Int × Int)) => od.bd56 l (i : Int) (k : Int) l.f.blocks[i].ins[k] s.1 s.2) (by simp; omega) (fun j hj low => by
        have hj : j < l.f.blocks[i].ins[k].args.length := by simpa using hj
        have hu := s7 l hm hT low l.f.blocks[i].ins[k].args[j] (i : Int) (k : Int) (hR.args _ hxm _ (List.getElem_mem hj)) (by omega) (by omega)
        simp only [od.bd56, nP, hj, if_true, nJ hj, Option.bind_some, hu, nQ hj (show l.f.blocks[i].ins[k].args.length ≤ 1000 by omega)]
        simp) (fun s => by simp [od.bd56, len])
      rw [ha]
      simp only [Option.bind_some, od.nx56, nQ hk (show l.f.blocks[i].ins.length ≤ 1000 by omega)]
      simp) (fun s => by simp [od.bd38, len])
    rw [hI]
    simp only [Option.bind_some, od.nx38]
    generalize hlow2 : List.foldl _ lo1 l.f.blocks[i].ins.zipIdx = lo2
    have hfin : (usesB l.f i l.f.blocks[i]).foldl (lowS l.f l.over) low = (usesT i l.f.blocks[i]).foldl (lowS l.f l.over) lo2 := by
      unfold usesB usesP usesI
      rw [List.foldl_append, List.foldl_append, List.foldl_flatMap, List.foldl_flatMap, hlow, hlow2]
    have hz : (l.f.blocks.zipIdx)[i]'(by simpa using hi) = (l.f.blocks[i], i) := by simp
    simp only [hz, hfin]
    by_cases ht : l.f.blocks[i].term.arg ≥ 0
    · rw [if_pos ht, s7 l hm hT lo2 l.f.blocks[i].term.arg (i : Int) (len l.f.blocks[i].ins) ⟨ht, hR.arg⟩ (by omega) (by omega)]
      simp only [Option.bind_some, od.jn20, nQ hi (show l.f.blocks.length ≤ 1000 by omega), usesT, if_pos ht]
      rfl
    · rw [if_neg ht]
      simp only [od.jn20, nQ hi (show l.f.blocks.length ≤ 1000 by omega), usesT, if_neg ht]
      rfl) (fun s => by simp [od.bd10, len])
  rw [hout]
  simp only [Option.bind_some, od.nx10]
  unfold uses
  rw [List.foldl_flatMap]
end
section
/-- Made twice, or a parameter that is made. -/
def Twice (f : ny) (r : Nat) : Prop := cntD (defs f) r > 1 ∨ (cntD (defs f) r > 0 ∧ (r : Int) < f.params)
instance (f : ny) (r : Nat) : Decidable (Twice f r) := by unfold Twice; infer_instance
/-- What Form tells of a proper module's function. -/
inductive FormIs (f : ny) : GErr → Prop
  | shape {s : List Bool} {o : List Int} : Walked f s o → s ≠ List.replicate f.blocks.length true → FormIs f (.code 6)
  | twice {R : List Int} {r : Nat} : Full f R → r < f.regs.length → Twice f r → (∀ j, j < r → ¬ Twice f j) → FormIs f (.spot r (.code 7))
  | none {R : List Int} {T : List (List Bool)} : Full f R → (∀ r, r < f.regs.length → ¬ Twice f r) → oJ f = some T → Dim f.blocks.length f.blocks.length T → (uses f).foldl (lowS f T) (-1) ≥ 0 → FormIs f (.spot ((uses f).foldl (lowS f T) (-1)) (.code 4))
  | ok {R : List Int} {T : List (List Bool)} : Full f R → (∀ r, r < f.regs.length → ¬ Twice f r) → oJ f = some T → Dim f.blocks.length f.blocks.length T → (uses f).foldl (lowS f T) (-1) < 0 → FormIs f .no
theorem zM (m : nR) (hm : SmM m) (k : Nat) (hk : k < m.funcs.length) (hp : Proper m) : ∃ e, oU m (k : Int) = some e ∧ FormIs m.funcs[k] e := by
  obtain ⟨e, he, hiff⟩ := rW m hm
  have he0 : e = GErr.no := hiff.2 hp
  subst he0
  have hf := hm.2 _ (List.getElem_mem hk)
  have hok := hp.funcs _ (List.getElem_mem hk)
  unfold oU
  rw [he]
  simp only [Option.bind_some, len]
  rw [if_neg (by simp), if_neg (by omega), nJ hk]
  simp only [Option.bind_some]
  generalize hff : m.funcs[k] = f at *
  obtain ⟨s, o, hw, -, hV⟩ := qz f hf
  have hn := hf.1
  have hpos : 0 < f.blocks.length := by have := hok.small.pos; omega
  rw [hw.rea]
  simp only [Option.bind_some]
  have hsl : s.length ≤ maxLen := nO (show s.length ≤ 70 by rw [hw.len]; exact hn) (by omega)
  rcases scan0 s (fun i b => if b = true then none else some (GErr.code 6)) (fun s' => oU.bd24 s s') hsl (fun i hi => by
    simp only [oU.bd24, nP, hi, if_true, nJ hi, Option.bind_some, pn hi hsl]
    cases s[i] <;> simp) (by simp [oU.bd24, len]) with ⟨i, hi, r, h1, -, h3⟩ | ⟨hall, h3⟩
  · rw [h3]
    by_cases hb : s[i] = true
    · rw [if_pos hb] at h1; cases h1
    · rw [if_neg hb] at h1; cases h1
      refine ⟨_, rfl, .shape hw fun e => hb ?_⟩
      subst e; simp
  rw [h3]
  simp only [Option.bind_some]
  have hs : s = List.replicate f.blocks.length true := by
    apply List.ext_getElem (by simp [hw.len])
    intro i h1 h2
    have := hall i h1
    by_cases hb : s[i] = true
    · simp [hb]
    · rw [if_neg hb] at this; cases this
  have hfull := uV f hf hpos hw hs
  unfold oU.nx24
  rw [zI f hf]
  simp only [Option.bind_some]
  have hmx : (List.range f.regs.length).length ≤ maxLen := nO (show (List.range f.regs.length).length ≤ 300 by rw [List.length_range]; exact hf.2.1) (by omega)
  rcases scan0 (List.range f.regs.length) (fun i r => if Twice f r then some (GErr.spot (r : Int) (.code 7)) else none) (fun s' => oU.bd35 f (mks f.regs.length (defs f), mns f.regs.length (defs f)) s') hmx (fun i hi => by
    have hi' : i < f.regs.length := by simpa using hi
    have hlm : ((i : Int) < len (mns f.regs.length (defs f))) := by simp only [len, vf]; omega
    simp only [oU.bd35, hlm, if_true, su _ hi', Option.bind_some, List.getElem_range, pn hi hmx]
    by_cases hc : Twice f i
    · rw [if_pos hc, if_pos (by unfold Twice at hc; omega)]
    · rw [if_neg hc, if_neg (by unfold Twice at hc; omega)]) (by simp [oU.bd35, len, vf]) with ⟨i, hi, r, h1, h2, h4⟩ | ⟨hall2, h4⟩
  · rw [h4]
    have hi' : i < f.regs.length := by simpa using hi
    simp only [List.getElem_range] at h1
    by_cases hc : Twice f i
    · rw [if_pos hc] at h1; cases h1
      refine ⟨_, rfl, .twice hfull hi' hc fun j hj hcj => ?_⟩
      have := h2 j (by simpa using (show j < f.regs.length by omega)) hj
      simp only [List.getElem_range] at this
      rw [if_pos hcj] at this; cases this
    · rw [if_neg hc] at h1; cases h1
  rw [h4]
  simp only [Option.bind_some]
  have hno : ∀ r, r < f.regs.length → ¬ Twice f r := fun r hr hc => by
    have := hall2 r (by simpa using hr)
    simp only [List.getElem_range] at this
    rw [if_pos hc] at this; cases this
  unfold oU.nx35
  obtain ⟨N, L, hL, hN⟩ := u6 hfull
  obtain ⟨T, hT, hD, -⟩ := u7 hfull hL hN
  rw [hT]
  simp only [Option.bind_some]
  have hall3 := zL (⟨f, mks f.regs.length (defs f), T, -1⟩ : oX) (m := m) hf hok rfl hD
  have hall4 : od (⟨(⟨f.params, f.result, f.regs, f.blocks⟩ : ny), mks f.regs.length (defs f), T, -1⟩ : oX) = some ((uses f).foldl (lowS f T) (-1)) := hall3
  rw [hall4]
  simp only [Option.bind_some]
  by_cases hc : (uses f).foldl (lowS f T) (-1) ≥ 0
  · rw [if_pos hc]; exact ⟨_, rfl, .none hfull hno hT hD hc⟩
  · rw [if_neg hc]; exact ⟨_, rfl, .ok hfull hno hT hD (by omega)⟩
theorem zN (m : nR) (hm : SmM m) (a : Int) : ∃ e, oU m a = some e := by
  obtain ⟨e, he, hiff⟩ := rW m hm
  by_cases hp : Proper m
  · by_cases ha : a < 0 ∨ a ≥ len m.funcs
    · unfold oU
      rw [he, hiff.2 hp]
      simp only [Option.bind_some]
      rw [if_neg (by simp), if_pos ha]
      exact ⟨_, rfl⟩
    · simp only [len] at ha
      obtain ⟨k, rfl⟩ : ∃ k : Nat, a = k := ⟨a.toNat, by omega⟩
      obtain ⟨e, h1, _⟩ := zM m hm k (by omega) hp
      exact ⟨e, h1⟩
  · unfold oU
    rw [he]
    simp only [Option.bind_some]
    rw [if_pos (fun h => hp (hiff.1 h))]
    exact ⟨_, rfl⟩
end
section
variable {f : ny} {m : nR}
theorem zO (a : List Int) (x : Int) (hl : a.length ≤ maxLen) (hx : x ∈ a) : ∃ i : Nat, pj a x = some (i : Int) ∧ i < a.length := by
  unfold pj
  have := scan0 a (fun i y => if x = y then some (i : Int) else none) (fun s => pj.bd8 a x s) hl (fun i hi => by
    simp only [pj.bd8, nP, hi, if_true, nJ hi, Option.bind_some, pn hi hl]
    split <;> rfl) (by simp [pj.bd8, len])
  rcases this with ⟨i, hi, r, hf, _, hw⟩ | ⟨hall, hw⟩
  · split at hf
    · cases hf
      exact ⟨i, by rw [hw]; rfl, hi⟩
    · cases hf
  · obtain ⟨i, hi, rfl⟩ := List.getElem_of_mem hx
    have := hall i hi
    rw [if_pos rfl] at this
    cases this
theorem EndsOk.two {t : PTerm} (h : EndsOk f t) : t.to.length ≤ 2 := by
  rcases h.kind with ⟨_, a, h⟩ | ⟨_, a, b, h, _⟩ | ⟨_, h⟩ <;> rw [h] <;> simp
theorem zP (hm : SmM m) (a : Int) (h : oU m a = some .no) : Proper m ∧ ∃ k : Nat, a = k ∧ k < m.funcs.length := by
  obtain ⟨e, he, hiff⟩ := rW m hm
  by_cases hp : Proper m
  · by_cases ha : a < 0 ∨ a ≥ len m.funcs
    · unfold oU at h
      rw [he, hiff.2 hp] at h
      simp only [Option.bind_some] at h
      rw [if_neg (by simp), if_pos ha] at h
      cases h
    · simp only [len] at ha
      exact ⟨hp, a.toNat, by omega, by omega⟩
  · exfalso
    unfold oU at h
    rw [he] at h
    simp only [Option.bind_some] at h
    rw [if_pos (fun h' => hp (hiff.1 h'))] at h
    exact hp (hiff.1 (Option.some.inj h))
theorem zQ {m : nR} (hm : SmM m) (a : Int) (b : Bool) : ∃ t, rf m a b = some t ∧ SmM t := by
  obtain ⟨r, hr, hr1, _⟩ := zv m hm a
  unfold rf
  rw [hr]
  simp only [Option.bind_some]
  by_cases hc : (((!b) = true ∨ (¬ r.2 = GErr.no)) ∨ a < 0) ∨ a ≥ (len m.funcs)
  · exact ⟨m, by rw [if_pos hc], hm⟩
  · rw [if_neg hc, um m hm]
    simp only [Option.bind_some]
    obtain ⟨k, rfl⟩ : ∃ k : Nat, a = k := ⟨a.toNat, by omega⟩
    have hk : k < m.funcs.length := by simp only [len] at hc; omega
    rw [nJ hk]
    refine ⟨_, rfl, by simpa using hm.1, fun f hf => ?_⟩
    rcases List.mem_or_eq_of_mem_set hf with hf | rfl
    · exact hm.2 f hf
    · exact hr1
end
section
/-- how often a register may still rise -/
def wt (k : PKnown) : Nat := if k.kind = 0 then 2 else if k.kind = 1 then 1 else 0
def wsum (l : List PKnown) : Nat := (l.map wt).sum
def gsum (l : List (List Bool)) : Nat := (l.map cnt).sum
theorem vm : ∀ (l : List PKnown) (r : Nat) (x : PKnown) (h : r < l.length), wsum (l.set r x) + wt l[r] = wsum l + wt x
  | a :: l, 0, x, _ => by simp [wsum]; omega
  | a :: l, r + 1, x, h => by
    have := vm l r x (by simpa using h)
    simp only [wsum, List.set_cons_succ, List.map_cons, List.sum_cons, List.getElem_cons_succ] at this ⊢
    omega
theorem vn : ∀ (l : List (List Bool)) (r : Nat) (x : List Bool) (h : r < l.length), gsum (l.set r x) + cnt l[r] = gsum l + cnt x
  | a :: l, 0, x, _ => by simp [gsum]; omega
  | a :: l, r + 1, x, h => by
    have := vn l r x (by simpa using h)
    simp only [gsum, List.set_cons_succ, List.map_cons, List.sum_cons, List.getElem_cons_succ] at this ⊢
    omega
theorem vo : ∀ l : List PKnown, wsum l ≤ 2 * l.length
  | [] => by simp [wsum]
  | a :: l => by
    have := vo l
    have h2 : wt a ≤ 2 := by unfold wt; split; · omega
                             split <;> omega
    simp only [wsum, List.map_cons, List.sum_cons, List.length_cons] at this ⊢
    omega
theorem zR (l : List Bool) : cnt l ≤ l.length := List.count_le_length
theorem vp : ∀ l : List (List Bool), (∀ r ∈ l, r.length ≤ 70) → gsum l ≤ 70 * l.length
  | [], _ => by simp [gsum]
  | a :: l, h => by
    have := vp l fun r hr => h r (List.mem_cons_of_mem _ hr)
    have h1 := h a (List.mem_cons_self ..)
    have h2 := zR a
    simp only [gsum, List.map_cons, List.sum_cons, List.length_cons] at this ⊢
    omega
/-- a kind -/
def Ok3 (k : PKnown) : Prop := k.kind = 0 ∨ k.kind = 1 ∨ k.kind = 2
structure Cst (f : ny) (kn : List PKnown) (en : List Bool) (gn : List (List Bool)) : Prop where
  kl : kn.length = f.regs.length
  kk : ∀ x ∈ kn, Ok3 x
  el : en.length = f.blocks.length
  gl : gn.length = f.blocks.length
  gr : ∀ (i : Nat) (hi : i < f.blocks.length) (row : List Bool), gn[i]? = some row → row.length = f.blocks[i].term.to.length
/-- less to rise, and if anything changed, less by one -/
def Dc (n : Nat) (c : Bool) (n' : Nat) (c' : Bool) : Prop := n' ≤ n ∧ (c' = true → c = true ∨ n' < n)
theorem Dc.refl (n : Nat) (c : Bool) : Dc n c n c := ⟨Nat.le_refl _, .inl⟩
theorem Dc.trans {n n' n'' : Nat} {c c' c'' : Bool} (h : Dc n c n' c') (k : Dc n' c' n'' c'') : Dc n c n'' c'' :=
  ⟨Nat.le_trans k.1 h.1, fun e => by
    have h1 := h.1
    have k1 := k.1
    rcases k.2 e with e | e
    · rcases h.2 e with e | e
      · exact .inl e
      · exact .inr (by omega)
    · exact .inr (by omega)⟩
abbrev fndr (f : ny) (ah : List (List Int)) (kn : List PKnown) (en : List Bool) (gn : List (List Bool)) (ch : Bool) : PFinder := ⟨(⟨f.params, f.result, f.regs, f.blocks⟩ : ny), ah, kn, en, gn, ch⟩
abbrev ms (kn : List PKnown) (gn : List (List Bool)) : Nat := wsum kn + gsum gn
variable {f : ny} {m : nR} {ah : List (List Int)} {kn : List PKnown} {en : List Bool} {gn : List (List Bool)} {ch : Bool}
theorem rr (h : Cst f kn en gn) {r : Int} (hr : hasR f r) : ∃ k : Nat, r = k ∧ ∃ hk : k < kn.length, idx kn r = some kn[k] := by
  obtain ⟨h0, h1⟩ := hr
  have := h.kl
  refine ⟨r.toNat, by omega, by omega, ?_⟩
  have : idx kn ((r.toNat : Nat) : Int) = some kn[r.toNat] := nJ (by omega)
  rwa [Int.toNat_of_nonneg h0] at this
theorem setK (h : Cst f kn en gn) (r : Nat) (x : PKnown) (hx : Ok3 x) : Cst f (kn.set r x) en gn :=
  ⟨by simp [h.kl], fun y hy => (List.mem_or_eq_of_mem_set hy).elim (h.kk y) (fun e => e ▸ hx), h.el, h.gl, h.gr⟩
theorem s8 (h : Cst f kn en gn) {r : Int} (hr : hasR f r) (k : PKnown) (hk : Ok3 k) :
    ∃ z, pY (fndr f ah kn en gn ch) r k = some z ∧ Cst f z.1 en gn ∧ Dc (ms kn gn) ch (ms z.1 gn) z.2 := by
  obtain ⟨j, rfl, hj, hi⟩ := rr h hr
  unfold pY
  simp only [hi, Option.bind_some]
  by_cases hc : (k.kind = 0 ∨ kn[j] = k) ∨ kn[j].kind = 2
  · rw [if_pos hc]; exact ⟨_, rfl, h, Dc.refl _ _⟩
  rw [if_neg hc]
  simp only [not_or] at hc
  have h3 := h.kk _ (List.getElem_mem hj)
  have fin : ∀ x : PKnown, Ok3 x → wt x < wt kn[j] → ∃ z, pY.jn5 (fndr f ah kn en gn ch) (j : Int) x.kind x.v = some z ∧ Cst f z.1 en gn ∧ Dc (ms kn gn) ch (ms z.1 gn) z.2 := by
    rintro ⟨xk, xv⟩ hx hw
    unfold pY.jn5
    simp only [hi, Option.bind_some]
    refine ⟨_, rfl, setK h _ ⟨xk, xv⟩ hx, ?_⟩
    have := vm kn j ⟨xk, xv⟩ hj
    simp only [Int.toNat_natCast]
    exact ⟨by simp only [ms]; omega, fun _ => .inr (by simp only [ms]; omega)⟩
  by_cases h1 : kn[j].kind = 1
  · rw [if_pos h1]
    exact fin ⟨2, 0⟩ (.inr (.inr rfl)) (by simp [wt, h1])
  · rw [if_neg h1]
    have h0 : kn[j].kind = 0 := by unfold Ok3 at h3; omega
    exact fin ⟨k.kind, k.v⟩ hk (by
      have : wt kn[j] = 2 := by simp [wt, h0]
      rw [this]
      unfold wt
      rw [if_neg hc.1.1]
      split <;> omega)
theorem zS (hn : f.blocks.length ≤ 70) (h : Cst f kn en gn) (i : Nat) (p : Int) (hp : p ∈ ot (nI f) i) (hto : ∀ B ∈ f.blocks, B.term.to.length ≤ 70) :
    ∃ b, q8 (fndr f ah kn en gn ch) p (i : Int) = some b := by
  obtain ⟨j, rfl, hj, hm⟩ := (sY _ _ _).1 hp
  have hnl := oP f
  have hj' : j < f.blocks.length := by omega
  rw [uX f hj'] at hm
  obtain ⟨hm, -, -⟩ := qR.1 hm
  have ht := hto _ (List.getElem_mem hj')
  obtain ⟨x, hx, hx2⟩ := zO _ (i : Int) (nO ht (by omega)) hm
  have hg : j < gn.length := by rw [h.gl]; exact hj'
  have hrow := h.gr j hj' gn[j] (List.getElem?_eq_getElem hg)
  unfold q8
  simp only [nJ hj', Option.bind_some, hx, nJ hg, nJ (show x < gn[j].length by omega)]
  exact ⟨_, rfl⟩
theorem zT (hf : SmF f) (hok : FuncOk m f) (h : Cst f kn en gn) (i : Nat) (hi : i < f.blocks.length) (p : PPhi) (hp : p ∈ f.blocks[i].phis) :
    ∃ z, o9 (fndr f (n6 (nI f)) kn en gn ch) (i : Int) p = some z ∧ Cst f z.1 en gn ∧ Dc (ms kn gn) ch (ms z.1 gn) z.2 := by
  have hph := (hok.blocks _ (List.getElem_mem hi)).phis p hp
  have hal := hok.ahead i hi p hp
  have hpl := (hf.2.2.2 _ (List.getElem_mem hi)).2.2.2.2 p hp
  have hnl := oP f
  have key : ∀ kn1 ch1, Cst f kn1 en gn → Dc (ms kn gn) ch (ms kn1 gn) ch1 → ∃ z, o9.jn4 (fndr f (n6 (nI f)) kn en gn ch) (i : Int) p kn1 ch1 = some z ∧ Cst f z.1 en gn ∧ Dc (ms kn gn) ch (ms z.1 gn) z.2 := by
    intro kn1 ch1 h1 d1
    obtain ⟨z, hz, hz1⟩ := oj (body := fun (s : (List PKnown × Bool × Int)) => o9.bd12 (fndr f (n6 (nI f)) kn en gn ch) (i : Int) p s.1 s.2.1 s.2.2) (s0 := (kn1, ch1, 0)) p.args.length
      (fun t s => s.2.2 = (t : Int) ∧ Cst f s.1 en gn ∧ Dc (ms kn gn) ch (ms s.1 gn) s.2.1) (fun z => Cst f z.1 en gn ∧ Dc (ms kn gn) ch (ms z.1 gn) z.2) (nO hpl (by omega)) (fun t s ht hI => by
      obtain ⟨kn2, ch2, tt⟩ := s
      obtain ⟨rfl, h2, d2⟩ := hI
      simp only at h2 d2
      have hah : idx (n6 (nI f)) (i : Int) = some (ot (nI f) i) := by rw [oz]; exact qI _ _ (by omega)
      have htp : t < (ot (nI f) i).length := by omega
      obtain ⟨b, hb⟩ := zS (ah := n6 (nI f)) (ch := ch2) hf.1 h2 i _ (List.getElem_mem htp) (fun B hB => (hf.2.2.2 B hB).2.2.1)
      have har := hph.args _ (List.getElem_mem ht)
      obtain ⟨k, hk0, hk, hki⟩ := rr h2 har
      have hw := nQ ht (show p.args.length ≤ 1000 by omega)
      simp only [o9.bd12, nP, ht, if_true, nJ ht, Option.bind_some, hah, nJ htp, hb, hki]
      cases b with
      | true =>
        obtain ⟨z, hz, z1, z2⟩ := s8 (ah := n6 (nI f)) (ch := ch2) h2 hph.dst kn2[k] (h2.kk _ (List.getElem_mem hk))
        exact .inr ⟨_, by simp only [hz, if_true, Option.bind_some]; rfl, hw, z1, d2.trans z2⟩
      | false => exact .inr ⟨_, by simp only [Bool.false_eq_true, if_false]; rfl, hw, h2, d2⟩) (fun s hI => by
      obtain ⟨kn2, ch2, tt⟩ := s
      obtain ⟨rfl, h2, d2⟩ := hI
      exact ⟨(kn2, ch2), by simp [o9.bd12, len], h2, d2⟩) ⟨rfl, h1, d1⟩
    unfold o9.jn4
    rw [hz]
    exact ⟨_, rfl, hz1⟩
  unfold o9
  by_cases hc : len p.args = 0
  · rw [if_pos hc]
    obtain ⟨z, hz, z1, z2⟩ := s8 (ah := n6 (nI f)) (ch := ch) h hph.dst ⟨2, 0⟩ (.inr (.inr rfl))
    rw [hz]
    exact key _ _ z1 z2
  · rw [if_neg hc]
    exact key _ _ h (Dc.refl _ _)
theorem s9 (a : Int) : ∃ x, qk a = some x ∧ (x.2 = true → x.1 = 1 ∧ (a = 2 ∨ a = 14) ∨ x.1 = 2 ∧ ¬ (a = 2 ∨ a = 14)) := by
  unfold qk
  by_cases h1 : a = 2 ∨ a = 14
  · rw [if_pos h1]; exact ⟨_, rfl, fun _ => .inl ⟨rfl, h1⟩⟩
  rw [if_neg h1]
  by_cases h2 : a ≥ 3 ∧ a ≤ 13
  · rw [if_pos h2]; exact ⟨_, rfl, fun _ => .inr ⟨rfl, h1⟩⟩
  · rw [if_neg h2]; exact ⟨_, rfl, fun h => by cases h⟩
theorem exIte {α : Type} {c : Prop} [Decidable c] {a b : Option α} (h1 : ∃ x, a = some x) (h2 : ∃ x, b = some x) : ∃ x, (if c then a else b) = some x := by split <;> assumption
theorem bitE (b : Bool) : ∃ x, ((q9 b).bind fun x => some (x, GErr.no)) = some x := by cases b <;> exact ⟨_, rfl⟩
theorem zU (a : Int) (l : List Int) : ∃ x, rb a l = some x := by
  obtain ⟨x, hx, h2⟩ := s9 a
  unfold rb
  rw [hx]
  simp only [Option.bind_some]
  by_cases hc : (!x.2) = true ∨ (¬ (len l) = x.1)
  · rw [if_pos hc]; exact ⟨_, rfl⟩
  rw [if_neg hc]
  simp only [not_or, Classical.not_not, Bool.not_eq_true', Bool.not_eq_false] at hc
  rcases h2 hc.1 with ⟨e, h⟩ | ⟨e, h⟩
  · have hl : 0 < l.length := by have := hc.2; simp only [len] at this; omega
    rw [show (0 : Int) = ((0 : Nat) : Int) from rfl, nJ hl]
    simp only [Option.bind_some]
    rcases h with h | h
    · simp only [h, if_true]; exact ⟨_, rfl⟩
    · simp [h]
  · have hl : 1 < l.length := by have := hc.2; simp only [len] at this; omega
    rw [show idx l 0 = some l[0] from nJ (i := 0) (by omega), show idx l 1 = some l[1] from nJ (i := 1) hl]
    simp only [Option.bind_some]
    repeat' (first | exact bitE _ | apply exIte | exact ⟨_, rfl⟩)
theorem zV (h : Cst f kn en gn) (x : nL) (hx : ∀ a ∈ x.args, hasR f a) (hl : x.args.length ≤ 300) :
    ∃ k, pI (fndr f ah kn en gn ch) x = some k ∧ Ok3 k := by
  unfold pI
  by_cases h1 : x.op = 1
  · rw [if_pos h1]; exact ⟨_, rfl, .inr (.inl rfl)⟩
  rw [if_neg h1]
  obtain ⟨y, hy, -⟩ := s9 x.op
  rw [hy]
  simp only [Option.bind_some]
  by_cases h2 : (!y.2) = true
  · rw [if_pos h2]; exact ⟨_, rfl, .inr (.inr rfl)⟩
  rw [if_neg h2]
  obtain ⟨z, hz, hz1⟩ := oj (body := fun (s : (List Int × Bool × Int)) => pI.bd16 (fndr f ah kn en gn ch) x s.1 s.2.1 s.2.2) (s0 := (([] : List Int), true, 0)) x.args.length
    (fun t s => s.2.2 = (t : Int) ∧ s.1.length ≤ t) (fun z => ∀ r, z = .ret r → Ok3 r) (nO hl (by omega)) (fun t s ht hI => by
    obtain ⟨l, al, tt⟩ := s
    obtain ⟨rfl, hll⟩ := hI
    simp only at hll
    obtain ⟨k, hk0, hk, hki⟩ := rr h (hx _ (List.getElem_mem ht))
    simp only [pI.bd16, nP, ht, if_true, nJ ht, Option.bind_some, hki]
    by_cases h3 : kn[k].kind = 0
    · exact .inl ⟨.ret kn[k], by rw [if_pos h3], fun r e => by cases e; exact h.kk _ (List.getElem_mem hk)⟩
    · refine .inr ⟨_, by rw [if_neg h3, oH (by omega)]; rfl, nQ ht (by omega), by simp; omega⟩) (fun s hI => by
    obtain ⟨l, al, tt⟩ := s
    obtain ⟨rfl, hll⟩ := hI
    exact ⟨.go (l, al), by simp [pI.bd16, len], fun r e => by cases e⟩) ⟨rfl, by simp⟩
  rw [hz]
  cases z with
  | ret r => exact ⟨r, rfl, hz1 r rfl⟩
  | go p =>
    simp only [Option.bind_some, pI.nx16]
    by_cases h3 : (!p.2) = true
    · rw [if_pos h3]; exact ⟨_, rfl, .inr (.inr rfl)⟩
    rw [if_neg h3]
    obtain ⟨v, hv⟩ := zU x.op p.1
    rw [hv]
    simp only [Option.bind_some]
    split
    · exact ⟨_, rfl, .inr (.inr rfl)⟩
    · exact ⟨_, rfl, .inr (.inl rfl)⟩
theorem td (hok : FuncOk m f) (h : Cst f kn en gn) (i j : Nat) (hi : i < f.blocks.length) (hj : j < f.blocks[i].term.to.length) :
    ∃ z, qG (fndr f ah kn en gn ch) (i : Int) (j : Int) = some z ∧ Cst f kn z.1 z.2.1 ∧ Dc (ms kn gn) ch (ms kn z.2.1) z.2.2 := by
  have hg : i < gn.length := by rw [h.gl]; exact hi
  have hrow := h.gr i hi gn[i] (List.getElem?_eq_getElem hg)
  have hj' : j < gn[i].length := by omega
  unfold qG
  simp only [nJ hg, nJ hj', Option.bind_some]
  by_cases hc : gn[i][j] = true
  · rw [if_pos hc]; exact ⟨_, rfl, h, Dc.refl _ _⟩
  rw [if_neg hc]
  obtain ⟨t0, t1⟩ := (hok.ends _ (List.getElem_mem hi)).to _ (List.getElem_mem hj)
  obtain ⟨t, ht⟩ : ∃ t : Nat, f.blocks[i].term.to[j] = (t : Int) := ⟨f.blocks[i].term.to[j].toNat, by omega⟩
  simp only [nJ hi, nJ hj, Option.bind_some, ht, nJ (show t < en.length by rw [h.el]; omega), Int.toNat_natCast]
  refine ⟨_, rfl, ⟨h.kl, h.kk, by simp [h.el], by simp [h.gl], fun a ha row hr => ?_⟩, ?_⟩
  · by_cases e : i = a
    · subst e
      rw [List.getElem?_set_self hg] at hr
      cases hr
      simp [hrow]
    · rw [List.getElem?_set_ne e] at hr
      exact h.gr a ha row hr
  · have h1 := vn gn i (gn[i].set j true) hg
    have h2 := rT gn[i] j (by rw [List.getElem?_eq_getElem hj']; simpa using hc)
    exact ⟨by simp only [ms]; omega, fun _ => .inr (by simp only [ms]; omega)⟩
theorem zW (hf : SmF f) (hok : FuncOk m f) (h : Cst f kn en gn) (i : Nat) (hi : i < f.blocks.length) :
    ∃ z, oK (fndr f (n6 (nI f)) kn en gn ch) (i : Int) = some z ∧ Cst f z.1 z.2.1 z.2.2.1 ∧ Dc (ms kn gn) ch (ms z.1 z.2.2.1) z.2.2.2 := by
  have hB := hf.2.2.2 _ (List.getElem_mem hi)
  have hbo := hok.blocks _ (List.getElem_mem hi)
  have hends := hok.ends _ (List.getElem_mem hi)
  unfold oK
  simp only [nJ hi, Option.bind_some]
  obtain ⟨z, hz, h1, d1⟩ := oj (body := fun (s : (List PKnown × Bool × Int)) => oK.bd9 (fndr f (n6 (nI f)) kn en gn ch) (i : Int) f.blocks[i] s.1 s.2.1 s.2.2) (s0 := (kn, ch, 0)) f.blocks[i].phis.length
    (fun t s => s.2.2 = (t : Int) ∧ Cst f s.1 en gn ∧ Dc (ms kn gn) ch (ms s.1 gn) s.2.1) (fun z => Cst f z.1 en gn ∧ Dc (ms kn gn) ch (ms z.1 gn) z.2) (nO hB.2.1 (by omega)) (fun t s ht hI => by
      obtain ⟨kn2, ch2, tt⟩ := s
      obtain ⟨rfl, h2, d2⟩ := hI
      simp only at h2 d2
      obtain ⟨z, hz, z1, z2⟩ := zT (ch := ch2) hf hok h2 i hi _ (List.getElem_mem ht)
      exact .inr ⟨_, by simp only [oK.bd9, nP, ht, if_true, nJ ht, Option.bind_some, hz]; rfl, nQ ht (by have := hB.2.1; omega), z1, d2.trans z2⟩) (fun s hI => by
      obtain ⟨kn2, ch2, tt⟩ := s
      obtain ⟨rfl, h2, d2⟩ := hI
      exact ⟨(kn2, ch2), by simp [oK.bd9, len], h2, d2⟩) ⟨rfl, h, Dc.refl _ _⟩
  rw [hz]
  simp only [Option.bind_some, oK.nx9]
  obtain ⟨y, hy, h3, d3⟩ := oj (body := fun (s : (List PKnown × Bool × Int)) => oK.bd18 (fndr f (n6 (nI f)) kn en gn ch) f.blocks[i] s.1 s.2.1 s.2.2) (s0 := (z.1, z.2, 0)) f.blocks[i].ins.length
    (fun t s => s.2.2 = (t : Int) ∧ Cst f s.1 en gn ∧ Dc (ms kn gn) ch (ms s.1 gn) s.2.1) (fun z => Cst f z.1 en gn ∧ Dc (ms kn gn) ch (ms z.1 gn) z.2) (nO hB.1 (by omega)) (fun t s ht hI => by
      obtain ⟨kn2, ch2, tt⟩ := s
      obtain ⟨rfl, h2, d2⟩ := hI
      simp only at h2 d2
      have hxm := List.getElem_mem ht
      obtain ⟨n, ty, hin⟩ := hbo.ins _ hxm
      have hw := nQ ht (show f.blocks[i].ins.length ≤ 1000 by have := hB.1; omega)
      by_cases hd : f.blocks[i].ins[t].dst ≥ 0
      · have hr : hasR f f.blocks[i].ins[t].dst := ⟨hd, (BlockOk_regs hbo).dst _ hxm⟩
        obtain ⟨v, hv, hv3⟩ := zV (ah := n6 (nI f)) (ch := ch2) h2 f.blocks[i].ins[t] hin.args (hB.2.2.2.1 _ hxm)
        obtain ⟨z, hz, z1, z2⟩ := s8 (ah := n6 (nI f)) (ch := ch2) h2 hr v hv3
        exact .inr ⟨_, by simp only [oK.bd18, nP, ht, if_true, nJ ht, Option.bind_some, hd, hv, hz]; rfl, hw, z1, d2.trans z2⟩
      · exact .inr ⟨_, by simp only [oK.bd18, nP, ht, if_true, nJ ht, Option.bind_some, hd, if_false]; rfl, hw, h2, d2⟩) (fun s hI => by
      obtain ⟨kn2, ch2, tt⟩ := s
      obtain ⟨rfl, h2, d2⟩ := hI
      exact ⟨(kn2, ch2), by simp [oK.bd18, len], h2, d2⟩) ⟨rfl, h1, d1⟩
  rw [hy]
  simp only [Option.bind_some, oK.nx18]
  rcases hends.kind with ⟨hk, a, ha⟩ | ⟨hk, a, b, hab, -⟩ | ⟨hk, ha⟩
  · rw [if_pos hk]
    obtain ⟨w, hw, w1, w2⟩ := td (ah := n6 (nI f)) (ch := y.2) hok h3 i 0 hi (by rw [ha]; simp)
    rw [show (0 : Int) = ((0 : Nat) : Int) from rfl, hw]
    exact ⟨_, rfl, w1, d3.trans w2⟩
  · rw [if_neg (by omega), if_pos hk]
    have hto : f.blocks[i].term.to.length = 2 := by rw [hab]; rfl
    have hr : hasR f f.blocks[i].term.arg := by
      have := hbo.term
      unfold EndOk at this
      rw [if_neg (by omega)] at this
      exact this.has
    obtain ⟨k, hk0, hk, hki⟩ := rr h3 hr
    rw [hki]
    simp only [Option.bind_some]
    have key : ∀ en1 gn1 ch1, Cst f y.1 en1 gn1 → Dc (ms kn gn) ch (ms y.1 gn1) ch1 → ∃ z, oK.jn34 (fndr f (n6 (nI f)) kn en gn ch) (i : Int) y.1 y.1[k] en1 gn1 ch1 = some z ∧ Cst f z.1 z.2.1 z.2.2.1 ∧ Dc (ms kn gn) ch (ms z.1 z.2.2.1) z.2.2.2 := by
      intro en1 gn1 ch1 h4 d4
      unfold oK.jn34
      split
      · obtain ⟨w, hw, w1, w2⟩ := td (ah := n6 (nI f)) (ch := ch1) hok h4 i 1 hi (by omega)
        rw [show (1 : Int) = ((1 : Nat) : Int) from rfl, hw]
        exact ⟨_, rfl, w1, d4.trans w2⟩
      · exact ⟨_, rfl, h4, d4⟩
    split
    · obtain ⟨w, hw, w1, w2⟩ := td (ah := n6 (nI f)) (ch := y.2) hok h3 i 0 hi (by omega)
      rw [show (0 : Int) = ((0 : Nat) : Int) from rfl, hw]
      exact key _ _ _ w1 (d3.trans w2)
    · exact key _ _ _ h3 d3
  · rw [if_neg (by omega), if_neg (by omega)]
    exact ⟨_, rfl, h3, d3⟩
end
section
variable {f : ny} {m : nR}
theorem zX (hf : SmF f) (hok : FuncOk m f) {kn : List PKnown} {en : List Bool} {gn : List (List Bool)} (h : Cst f kn en gn) :
    ∃ z, whl (fun (s : (List PKnown × List Bool × List (List Bool) × Bool)) => oe.bd37 f (n6 (nI f)) s.1 s.2.1 s.2.2.1 s.2.2.2) nD (kn, en, gn, true) = some z ∧ Cst f z.1 z.2.1 z.2.2.1 := by
  have hn := hf.1
  have M : ∀ {kn en gn}, Cst f kn en gn → ms kn gn ≤ 10000 := fun {kn en gn} h => by
    have h1 := vo kn
    have h2 := h.kl
    have h3 := hf.2.1
    have h4 := vp gn fun r hr => by
      obtain ⟨i, hi, rfl⟩ := List.mem_iff_getElem.1 hr
      have hi' : i < f.blocks.length := by have := h.gl; omega
      rw [h.gr i hi' _ (List.getElem?_eq_getElem hi)]
      exact (hf.2.2.2 _ (List.getElem_mem hi')).2.2.1
    have h5 := h.gl
    have h6 : 70 * gn.length ≤ 70 * 70 := Nat.mul_le_mul_left _ (by omega)
    simp only [ms]; omega
  refine qp (body := fun (s : (List PKnown × List Bool × List (List Bool) × Bool)) => oe.bd37 f (n6 (nI f)) s.1 s.2.1 s.2.2.1 s.2.2.2) (fun s => Cst f s.1 s.2.1 s.2.2.1) (fun s => if s.2.2.2 = true then ms s.1 s.2.2.1 + 1 else 0) (fun z => Cst f z.1 z.2.1 z.2.2.1) (fun s hI => ?_) nD (kn, en, gn, true) h ?_
  · obtain ⟨kn, en, gn, ch⟩ := s
    simp only at hI
    cases ch with
    | false => exact .inl ⟨(kn, en, gn, false), by simp only [oe.bd37, Bool.false_eq_true, if_false], hI⟩
    | true =>
      obtain ⟨z, hz, h1, d1⟩ := oj (body := fun (s : (List PKnown × List Bool × List (List Bool) × Bool × Int)) => oe.bd51 f (n6 (nI f)) en s.1 s.2.1 s.2.2.1 s.2.2.2.1 s.2.2.2.2) (s0 := (kn, en, gn, false, 0)) en.length
        (fun t s => s.2.2.2.2 = (t : Int) ∧ Cst f s.1 s.2.1 s.2.2.1 ∧ Dc (ms kn gn) false (ms s.1 s.2.2.1) s.2.2.2.1) (fun z => Cst f z.1 z.2.1 z.2.2.1 ∧ Dc (ms kn gn) false (ms z.1 z.2.2.1) z.2.2.2) (nO (show en.length ≤ 70 by rw [hI.el]; omega) (by omega)) (fun t s ht hJ => by
          obtain ⟨kn2, en2, gn2, ch2, tt⟩ := s
          obtain ⟨rfl, h2, d2⟩ := hJ
          simp only at h2 d2
          have htf : t < f.blocks.length := by have := hI.el; omega
          have ht2 : t < en2.length := by have := h2.el; omega
          have hw := nQ ht (show en.length ≤ 1000 by have := hI.el; omega)
          cases hb : en2[t] with
          | true =>
            obtain ⟨z, hz, z1, z2⟩ := zW (ch := ch2) hf hok h2 t htf
            exact .inr ⟨_, by simp only [oe.bd51, nP, ht, if_true, nJ ht2, hb, Option.bind_some, hz]; rfl, hw, z1, d2.trans z2⟩
          | false => exact .inr ⟨_, by simp only [oe.bd51, nP, ht, if_true, nJ ht2, hb, Option.bind_some, Bool.false_eq_true, if_false]; rfl, hw, h2, d2⟩) (fun s hJ => by
          obtain ⟨kn2, en2, gn2, ch2, tt⟩ := s
          obtain ⟨rfl, h2, d2⟩ := hJ
          exact ⟨(kn2, en2, gn2, ch2), by simp [oe.bd51, len], h2, d2⟩) ⟨rfl, hI, Dc.refl _ _⟩
      refine .inr ⟨_, by simp only [oe.bd37, if_true, hz, Option.bind_some, oe.nx51], h1, ?_⟩
      simp only [if_true]
      split
      · rename_i hc
        have := (d1.2 hc).resolve_left (by simp)
        omega
      · omega
  · simp only [if_true]
    have := M h
    exact oW (by simp only [maxLen]; omega)
/-- what found tells of an f -/
structure Fnd (f : ny) (F : PFinder) : Prop where
  f_ : F.f = f
  ah : F.ahead = n6 (nI f)
  st : Cst f F.known F.entered F.gone
theorem tj {α : Type} {n : Nat} (z : α) (hn : n ≤ 1000) : mkl (n : Int) z = some (List.replicate n z) := by
  rw [mkl, if_pos ⟨by omega, by simp only [LIM]; omega⟩]; simp
theorem tq (hm : SmM m) (a : Int) : ∃ r, oe m a = some r ∧ (∀ e, r = .ret e → e ≠ GErr.no) ∧ ∀ F, r = .go F → ∃ k : Nat, a = k ∧ ∃ hk : k < m.funcs.length, Fnd m.funcs[k] F ∧ FuncOk m m.funcs[k] := by
  obtain ⟨e, he⟩ := zN m hm a
  unfold oe
  rw [he]
  simp only [Option.bind_some]
  by_cases hc : ¬ e = GErr.no
  · exact ⟨_, by rw [if_pos hc], fun e' h => by cases h; exact hc, fun F h => by cases h⟩
  obtain rfl : e = GErr.no := Classical.not_not.1 hc
  clear hc
  rw [if_neg (by simp)]
  obtain ⟨hp, k, rfl, hk⟩ := zP hm a he
  have hf := hm.2 _ (List.getElem_mem hk)
  have hok := hp.funcs _ (List.getElem_mem hk)
  rw [nJ hk]
  simp only [Option.bind_some]
  suffices hs : ∀ f : ny, SmF f → FuncOk m f → ∃ r, ((oF f).bind fun x6951 => (mkl (len f.regs) PKnown.zero).bind fun x8551 => (mkl (len f.blocks) false).bind fun x10151 => oe.jn10 f x6951 x8551 x10151) = some r ∧ (∀ e, r = .ret e → e ≠ GErr.no) ∧ ∀ F, r = .go F → Fnd f F by
    obtain ⟨r, h1, h2, h3⟩ := hs _ hf hok
    exact ⟨r, h1, h2, fun F h => ⟨k, rfl, hk, h3 F h, hok⟩⟩
  clear hok hf hk he hp
  intro f hf hok
  have hn := hf.1
  have hrl := hf.2.1
  rw [rV f hf, len, len, tj _ (by omega), tj _ (by omega)]
  simp only [Option.bind_some, oe.jn10]
  have h18 := qH f.blocks (fun B => List.replicate B.term.to.length false) (body := fun (s : (List (List Bool) × Int)) => oe.bd18 f s.1 s.2) (r := f.blocks.map (fun B => List.replicate B.term.to.length false)) (nO hn (by omega)) (fun i hi => by
    have hB := (hf.2.2.2 _ (List.getElem_mem hi)).2.2.1
    simp only [oe.bd18, nP, hi, if_true, nJ hi, Option.bind_some, len, tj _ (show f.blocks[i].term.to.length ≤ 1000 by omega)]
    rw [oH (by simp; omega)]
    simp only [Option.bind_some, oe.jn88, nQ hi (show f.blocks.length ≤ 1000 by omega)]) (by simp [oe.bd18, len])
  rw [h18]
  simp only [Option.bind_some, oe.nx18]
  have hty := hok.typed
  obtain ⟨z, hz, z1, z2⟩ := oj (body := fun (s : (List PKnown × Int)) => oe.bd27 f s.1 s.2) (s0 := (List.replicate f.regs.length PKnown.zero, 0)) f.params.toNat
    (fun t s => s.2 = (t : Int) ∧ s.1.length = f.regs.length ∧ ∀ x ∈ s.1, Ok3 x) (fun z => z.length = f.regs.length ∧ ∀ x ∈ z, Ok3 x) (nO (m := 8) (by have := hty.few; omega) (by omega)) (fun t s ht hI => by
      obtain ⟨kn, tt⟩ := s
      obtain ⟨rfl, h1, h2⟩ := hI
      simp only at h1 h2
      have hle := hty.le
      have htk : t < kn.length := by omega
      refine .inr ⟨_, by simp only [oe.bd27]; rw [if_pos (by omega), nJ htk]; rfl, nQ ht (by have := hty.few; omega), by simp [h1], fun x hx => ?_⟩
      exact (List.mem_or_eq_of_mem_set hx).elim (h2 x) (fun e => e ▸ .inr (.inr rfl))) (fun s hI => by
      obtain ⟨kn, tt⟩ := s
      obtain ⟨rfl, h1, h2⟩ := hI
      exact ⟨kn, by simp only [oe.bd27]; rw [if_neg (by have := hty.nn; omega)], h1, h2⟩) ⟨rfl, by simp, fun x hx => by
        obtain ⟨-, rfl⟩ := List.mem_replicate.1 hx
        exact .inl rfl⟩
  rw [hz]
  have hpos : 0 < (List.replicate f.blocks.length false).length := by have := hok.small.pos; simp; omega
  simp only [Option.bind_some, oe.nx27, show idx (List.replicate f.blocks.length false) 0 = some (List.replicate f.blocks.length false)[0] from nJ hpos]
  obtain ⟨y, hy, hy1⟩ := zX hf hok (kn := z) (en := (List.replicate f.blocks.length false).set (0 : Int).toNat true) (gn := f.blocks.map (fun B => List.replicate B.term.to.length false)) ⟨z1, z2, by simp, by simp, fun i hi row hr => by
    rw [List.getElem?_map, List.getElem?_eq_getElem hi] at hr
    cases hr
    simp⟩
  rw [hy]
  refine ⟨_, rfl, ?_, ?_⟩
  · intro e h; cases h
  · intro F h; cases h; exact ⟨rfl, rfl, hy1⟩
theorem zY (hf : SmF f) (hok : FuncOk m f) {F : PFinder} (h : Fnd f F) (i : Nat) (hi : i < f.blocks.length) : ∃ t, pR F (i : Int) = some t ∧ t.to.length ≤ 70 := by
  obtain ⟨F1, ah, kn, en, gn, ch⟩ := F
  obtain ⟨rfl, -, hc⟩ := h
  simp only at hi hf hok hc
  have hB := (hf.2.2.2 _ (List.getElem_mem hi)).2.2.1
  have hends := hok.ends _ (List.getElem_mem hi)
  have hbo := hok.blocks _ (List.getElem_mem hi)
  unfold pR
  simp only [nJ hi, Option.bind_some, qm _ (show F1.blocks[i].term.to.length ≤ 1000 by omega), pR.jn5]
  by_cases hk : F1.blocks[i].term.kind = 2
  · rw [if_neg (by simpa using hk)]
    have hr : hasR F1 F1.blocks[i].term.arg := by
      have := hbo.term
      unfold EndOk at this
      rw [if_neg (by omega)] at this
      exact this.has
    obtain ⟨k, hk0, hkk, hki⟩ := rr hc hr
    simp only [hki, Option.bind_some]
    by_cases h1 : kn[k].kind = 1
    · rw [if_neg (by simpa using h1)]
      obtain ⟨a, b, hab⟩ : ∃ a b, F1.blocks[i].term.to = [a, b] := by
        rcases hends.kind with ⟨h, -⟩ | ⟨-, a, b, h, -⟩ | ⟨h, -⟩
        · omega
        · exact ⟨a, b, h⟩
        · omega
      rw [hab, show idx [a, b] 0 = some a from rfl, show idx [a, b] 1 = some b from rfl]
      simp only [Option.bind_some, pR.jn20]
      split <;> exact ⟨_, rfl, by simp⟩
    · rw [if_pos (by simpa using h1)]
      exact ⟨_, rfl, hB⟩
  · rw [if_pos (by simpa using hk)]
    simp only [Option.bind_some, if_true]
    exact ⟨_, rfl, hB⟩
theorem zZ (f : ny) : ∀ B ∈ f.blocks, B.phis.length + B.ins.length + 1 ≤ insCount f := by
  intro B hB
  unfold insCount
  generalize f.blocks = L at *
  induction L with
  | nil => cases hB
  | cons a L ih =>
    rw [List.map_cons, List.sum_cons]
    rcases List.mem_cons.1 hB with rfl | h
    · omega
    · have := ih h; omega
theorem z0 (hf : SmF f) (hok : FuncOk m f) {F : PFinder} (h : Fnd f F) (T : List PTerm) (hT : T.length = f.blocks.length) (hT2 : ∀ t ∈ T, t.to.length ≤ 70) (i : Nat) (hi : i < f.blocks.length) :
    ∃ B, ol F (i : Int) T = some B ∧ SmB B := by
  obtain ⟨F1, ah, kn, en, gn, ch⟩ := F
  obtain ⟨rfl, hah, hc⟩ := h
  simp only at hi hf hok hc hah hT
  subst hah
  have hB := hf.2.2.2 _ (List.getElem_mem hi)
  have hbo := hok.blocks _ (List.getElem_mem hi)
  have hsum := zZ F1 _ (List.getElem_mem hi)
  have hle := hok.small.ins
  have hiT : i < T.length := by omega
  have hnl := oP F1
  have hi2 : ∀ {r : Int}, hasR F1 r → ∃ (y : nL) (b : Bool), qO ⟨F1, n6 (nI F1), kn, en, gn, ch⟩ r = some (y, b) ∧ y.args = [] := fun {r} hr => by
    obtain ⟨k, hk0, hkk, hki⟩ := rr hc hr
    exact ⟨⟨1, r, [], kn[k].v, 0⟩, decide (kn[k].kind = 1), by simp only [qO, hki, Option.bind_some], rfl⟩
  unfold ol
  simp only [nJ hi, nJ hiT, Option.bind_some]
  obtain ⟨z, hz, z1, z2, z3, z4⟩ := oj (body := fun (s : (List PPhi × List nL × Int)) => ol.bd10 ⟨F1, n6 (nI F1), kn, en, gn, ch⟩ (i : Int) T F1.blocks[i] s.1 s.2.1 s.2.2) (s0 := (([] : List PPhi), ([] : List nL), 0)) F1.blocks[i].phis.length
    (fun t s => s.2.2 = (t : Int) ∧ s.1.length ≤ t ∧ s.2.1.length ≤ t ∧ (∀ p ∈ s.1, p.args.length ≤ 300) ∧ ∀ x ∈ s.2.1, x.args.length ≤ 300) (fun z => z.1.length ≤ F1.blocks[i].phis.length ∧ z.2.length ≤ F1.blocks[i].phis.length ∧ (∀ p ∈ z.1, p.args.length ≤ 300) ∧ ∀ x ∈ z.2, x.args.length ≤ 300) (nO hB.2.1 (by omega)) (fun t s ht hI => by
      obtain ⟨ph, xs, tt⟩ := s
      obtain ⟨rfl, h1, h2, h3, h4⟩ := hI
      simp only at h1 h2 h3 h4
      have hph := hbo.phis _ (List.getElem_mem ht)
      obtain ⟨y, b, hy, hya⟩ := hi2 hph.dst
      have hw := nQ ht (show F1.blocks[i].phis.length ≤ 1000 by omega)
      simp only [ol.bd10, nP, ht, if_true, nJ ht, Option.bind_some, hy]
      cases b with
      | true =>
        refine .inr ⟨_, by rw [if_pos rfl, oH (by omega)]; rfl, hw, by simp only; omega, by simp; omega, h3, fun x hx => ?_⟩
        rcases List.mem_append.1 hx with hx | hx
        · exact h4 x hx
        · simp only [List.mem_singleton] at hx; subst hx; simp [hya]
      | false =>
        have hal := hB.2.2.2.2 _ (List.getElem_mem ht)
        have hpl := hok.ahead i hi _ (List.getElem_mem ht)
        obtain ⟨q, hq, hq1⟩ := oj (body := fun (s : (List Int × Int)) => ol.bd70 ⟨F1, n6 (nI F1), kn, en, gn, ch⟩ (i : Int) T F1.blocks[i].phis[t] s.1 s.2) (s0 := (([] : List Int), 0)) F1.blocks[i].phis[t].args.length
          (fun u s => s.2 = (u : Int) ∧ s.1.length ≤ u) (fun z => z.length ≤ 300) (nO hal (by omega)) (fun u s hu hI => by
            obtain ⟨l, uu⟩ := s
            obtain ⟨rfl, g1⟩ := hI
            simp only at g1
            have hah : idx (n6 (nI F1)) (i : Int) = some (ot (nI F1) i) := by rw [oz]; exact qI _ _ (by omega)
            have hup : u < (ot (nI F1) i).length := by omega
            obtain ⟨p0, p1⟩ := ss _ _ _ (List.getElem_mem hup)
            obtain ⟨p, hp⟩ : ∃ p : Nat, (ot (nI F1) i)[u] = (p : Int) := ⟨(ot (nI F1) i)[u].toNat, by omega⟩
            have hpT : p < T.length := by omega
            have hw := nQ hu (show F1.blocks[i].phis[t].args.length ≤ 1000 by omega)
            simp only [ol.bd70, nP, hu, if_true, nJ hu, Option.bind_some, hah, nJ hup, hp, nJ hpT, sQ _ _ (nO (hT2 _ (List.getElem_mem hpT)) (by omega))]
            split
            · exact .inr ⟨_, by rw [oH (by omega)]; rfl, hw, by simp; omega⟩
            · exact .inr ⟨_, rfl, hw, by simp only; omega⟩) (fun s hI => by
            obtain ⟨l, uu⟩ := s
            obtain ⟨rfl, g1⟩ := hI
            exact ⟨l, by simp [ol.bd70, len], by simp only at g1; omega⟩) ⟨rfl, by simp⟩
        refine .inr ⟨_, by rw [if_neg (by simp), hq]; simp only [Option.bind_some, ol.nx70]; rw [oH (by omega)]; rfl, hw, by simp; omega, by simp only; omega, fun x hx => ?_, h4⟩
        rcases List.mem_append.1 hx with hx | hx
        · exact h3 x hx
        · simp only [List.mem_singleton] at hx; subst hx; exact hq1) (fun s hI => by
      obtain ⟨ph, xs, tt⟩ := s
      obtain ⟨rfl, h1, h2, h3, h4⟩ := hI
      exact ⟨(ph, xs), by simp [ol.bd10, len], h1, h2, h3, h4⟩) ⟨rfl, by simp, by simp, by simp, by simp⟩
  rw [hz]
  simp only [Option.bind_some, ol.nx10]
  obtain ⟨y, hy, y1, y2⟩ := oj (body := fun (s : (List nL × Int)) => ol.bd19 ⟨F1, n6 (nI F1), kn, en, gn, ch⟩ F1.blocks[i] s.1 s.2) (s0 := (z.2, 0)) F1.blocks[i].ins.length
    (fun t s => s.2 = (t : Int) ∧ s.1.length ≤ F1.blocks[i].phis.length + t ∧ ∀ x ∈ s.1, x.args.length ≤ 300) (fun z => z.length ≤ 300 ∧ ∀ x ∈ z, x.args.length ≤ 300) (nO hB.1 (by omega)) (fun t s ht hI => by
      obtain ⟨xs, tt⟩ := s
      obtain ⟨rfl, h1, h2⟩ := hI
      simp only at h1 h2
      have hxm := List.getElem_mem ht
      have hal := hB.2.2.2.1 _ hxm
      obtain ⟨n, ty, hin⟩ := hbo.ins _ hxm
      have hw := nQ ht (show F1.blocks[i].ins.length ≤ 1000 by omega)
      have key : ∃ s', ol.jn36 xs (t : Int) F1.blocks[i].ins[t] = some (.go s') ∧ s'.2 = ((t + 1 : Nat) : Int) ∧ s'.1.length ≤ F1.blocks[i].phis.length + (t + 1) ∧ ∀ x ∈ s'.1, x.args.length ≤ 300 := by
        refine ⟨_, by simp only [ol.jn36, qm _ (show F1.blocks[i].ins[t].args.length ≤ 1000 by omega), Option.bind_some]; rw [oH (by omega)]; rfl, hw, by simp; omega, fun x hx => ?_⟩
        rcases List.mem_append.1 hx with hx | hx
        · exact h2 x hx
        · simp only [List.mem_singleton] at hx; subst hx; exact hal
      obtain ⟨q, hq, hq1⟩ := s9 F1.blocks[i].ins[t].op
      simp only [ol.bd19, nP, ht, if_true, nJ ht, Option.bind_some, hq]
      by_cases hb : q.2 = true
      · rw [if_pos hb]
        have hd : hasR F1 F1.blocks[i].ins[t].dst := by
          have har := hin.ar
          apply hin.dst
          intro e
          subst e
          unfold arF at har
          unfold qk at hq
          by_cases e1 : F1.blocks[i].ins[t].op = 2 ∨ F1.blocks[i].ins[t].op = 14
          · rw [if_pos e1] at har; cases har
          rw [if_neg e1] at har hq
          by_cases e2 : F1.blocks[i].ins[t].op ≥ 3 ∧ F1.blocks[i].ins[t].op ≤ 13
          · rw [if_pos e2] at har; cases har
          rw [if_neg e2] at hq
          cases hq
          cases hb
        obtain ⟨y, b, hy, hya⟩ := hi2 hd
        simp only [hy, Option.bind_some]
        cases b with
        | true =>
          refine .inr ⟨_, by rw [if_pos rfl, oH (by omega)]; rfl, hw, by simp; omega, fun x hx => ?_⟩
          rcases List.mem_append.1 hx with hx | hx
          · exact h2 x hx
          · simp only [List.mem_singleton] at hx; subst hx; simp [hya]
        | false =>
          obtain ⟨s', k1, k2⟩ := key
          exact .inr ⟨s', by rw [if_neg (by simp), k1], k2⟩
      · rw [if_neg hb]
        obtain ⟨s', k1, k2⟩ := key
        exact .inr ⟨s', k1, k2⟩) (fun s hI => by
      obtain ⟨xs, tt⟩ := s
      obtain ⟨rfl, h1, h2⟩ := hI
      exact ⟨xs, by simp [ol.bd19, len], by simp only at h1; omega, h2⟩) ⟨rfl, by simp only; omega, z4⟩
  rw [hy]
  exact ⟨_, rfl, y1, by simp only; omega, hT2 _ (List.getElem_mem hiT), y2, z3⟩
theorem z7 (hm : SmM m) (a : Int) (r : Ex GErr PFinder) (hr : oe m a = some r) : ∃ g, oL m a = some g ∧ SmF g.1 ∧ (g.2 = GErr.no ↔ ∃ F, r = .go F) := by
  obtain ⟨r', hr', h1, h2⟩ := tq hm a
  obtain rfl : r = r' := Option.some.inj (hr.symm.trans hr')
  unfold oL
  rw [hr]
  simp only [Option.bind_some]
  cases r with
  | ret e => exact ⟨_, rfl, ⟨by simp, by simp, by simp, by simp⟩, fun h => absurd h (h1 e rfl), fun ⟨F, h⟩ => by cases h⟩
  | go F =>
    obtain ⟨k, rfl, hk, hF, hok⟩ := h2 F rfl
    have hf := hm.2 _ (List.getElem_mem hk)
    suffices hs : ∀ f : ny, SmF f → FuncOk m f → Fnd f F → ∃ g, ((whl (fun (s : (List PTerm × Int)) => oL.bd15 F s.1 s.2) nD (([] : List PTerm), 0)).bind fun z => oL.nx15 F z) = some g ∧ SmF g.1 ∧ g.2 = GErr.no by
      obtain ⟨g, g1, g2, g3⟩ := hs _ hf hok hF
      refine ⟨g, ?_, g2, fun _ => ⟨F, rfl⟩, fun _ => g3⟩
      rw [← g1]
      simp
    clear hok hF hf hk hr hr' h1 h2
    intro f hf hok hF
    have hn := hf.1
    have hFb : F.f.blocks = f.blocks := by rw [hF.f_]
    obtain ⟨T, hT, hT1, hT2⟩ := oj (body := fun (s : (List PTerm × Int)) => oL.bd15 F s.1 s.2) (s0 := (([] : List PTerm), 0)) f.blocks.length
      (fun t s => s.2 = (t : Int) ∧ s.1.length = t ∧ ∀ x ∈ s.1, x.to.length ≤ 70) (fun z => z.length = f.blocks.length ∧ ∀ x ∈ z, x.to.length ≤ 70) (nO hn (by omega)) (fun t s ht hI => by
        obtain ⟨l, tt⟩ := s
        obtain ⟨rfl, h1, h2⟩ := hI
        simp only at h1 h2
        obtain ⟨e, he, he1⟩ := zY hf hok hF t ht
        refine .inr ⟨_, by simp only [oL.bd15, hFb, nP, ht, if_true, he, Option.bind_some]; rw [oH (by omega)]; rfl, nQ ht (by omega), by simp; omega, fun x hx => ?_⟩
        rcases List.mem_append.1 hx with hx | hx
        · exact h2 x hx
        · simp only [List.mem_singleton] at hx; subst hx; exact he1) (fun s hI => by
        obtain ⟨l, tt⟩ := s
        obtain ⟨rfl, h1, h2⟩ := hI
        exact ⟨l, by simp [oL.bd15, hFb, len], h1, h2⟩) ⟨rfl, rfl, by simp⟩
    rw [hT]
    simp only [Option.bind_some, oL.nx15, oL.jn20, hF.f_, qm f.regs (by have := hf.2.1; omega)]
    obtain ⟨L, hL, hL1, hL2⟩ := oj (body := fun (s : (List nA × Int)) => oL.bd28 F T s.1 s.2) (s0 := (([] : List nA), 0)) f.blocks.length
      (fun t s => s.2 = (t : Int) ∧ s.1.length = t ∧ ∀ x ∈ s.1, SmB x) (fun z => z.length = f.blocks.length ∧ ∀ x ∈ z, SmB x) (nO hn (by omega)) (fun t s ht hI => by
        obtain ⟨l, tt⟩ := s
        obtain ⟨rfl, h1, h2⟩ := hI
        simp only at h1 h2
        obtain ⟨e, he, he1⟩ := z0 hf hok hF T hT1 hT2 t ht
        refine .inr ⟨_, by simp only [oL.bd28, hFb, nP, ht, if_true, he, Option.bind_some]; rw [oH (by omega)]; rfl, nQ ht (by omega), by simp; omega, fun x hx => ?_⟩
        rcases List.mem_append.1 hx with hx | hx
        · exact h2 x hx
        · simp only [List.mem_singleton] at hx; subst hx; exact he1) (fun s hI => by
        obtain ⟨l, tt⟩ := s
        obtain ⟨rfl, h1, h2⟩ := hI
        exact ⟨l, by simp [oL.bd28, hFb, len], h1, h2⟩) ⟨rfl, rfl, by simp⟩
    rw [hL]
    simp only [Option.bind_some, oL.nx28]
    have hg : SmF (⟨f.params, f.result, f.regs, L⟩ : ny) := ⟨by simp only; omega, hf.2.1, hf.2.2.1, hL2⟩
    obtain ⟨s, o, hw, -, -⟩ := qz _ hg
    rw [hF.f_, uB _ hg hw]
    exact ⟨_, rfl, sS _ hg s, rfl⟩
end
section
/-- n small blocks, the i-th of which is B -/
structure Rs (n i : Nat) (A : List nA) (B : nA) : Prop where
  len : A.length = n
  sm : ∀ C ∈ A, SmB C
  at_ : A[i]? = some B
theorem Rs.idx {n i : Nat} {A : List nA} {B : nA} (h : Rs n i A B) : idx A (i : Int) = some B := by rw [oz]; exact h.at_
theorem Rs.smB {n i : Nat} {A : List nA} {B : nA} (h : Rs n i A B) : SmB B := h.sm _ (List.mem_of_getElem? h.at_)
theorem Rs.lt {n i : Nat} {A : List nA} {B : nA} (h : Rs n i A B) : i < n := by
  have := h.at_
  rw [← h.len]
  exact (List.getElem?_eq_some_iff.1 this).1
theorem Rs.set {n i : Nat} {A : List nA} {B C : nA} (h : Rs n i A B) (hC : SmB C) : Rs n i (A.set i C) C :=
  ⟨by simp [h.len], fun D hD => (List.mem_or_eq_of_mem_set hD).elim (h.sm D) (fun e => e ▸ hC), by rw [List.getElem?_set_self (by rw [h.len]; exact h.lt)]⟩
theorem z8 {n i : Nat} {A : List nA} {B : nA} (h : Rs n i A B) : ∃ z, whl (fun (s : (List nA × Int)) => n0.bd94 (i : Int) s.1 s.2) nD (A, 0) = some z ∧ ∃ C, Rs n i z C := by
  have hto := h.smB.2.2.1
  refine oj (s0 := (A, 0)) (body := fun (s : (List nA × Int)) => n0.bd94 (i : Int) s.1 s.2) B.term.to.length (fun t s => s.2 = (t : Int) ∧ ∃ C, Rs n i s.1 C ∧ C.term.to.length = B.term.to.length) (fun z => ∃ C, Rs n i z C) (nO hto (by omega)) (fun t s ht hI => ?_) (fun s hI => ?_) ⟨rfl, B, h, rfl⟩
  · obtain ⟨M, k⟩ := s
    obtain ⟨rfl, C, h1, h2⟩ := hI
    simp only at h1
    have ht' : t < C.term.to.length := by omega
    have hs := h1.smB
    refine .inr ⟨_, by simp only [n0.bd94, h1.idx, nP, ht', if_true, nJ ht', Option.bind_some]; rfl, nQ ht (by omega), _, h1.set (C := ⟨C.phis, C.ins, (⟨C.term.kind, C.term.arg, C.term.to.set t 9⟩ : PTerm)⟩) ⟨hs.1, hs.2.1, by simp; exact hs.2.2.1, hs.2.2.2⟩, by simp [h2]⟩
  · obtain ⟨M, k⟩ := s
    obtain ⟨rfl, C, h1, h2⟩ := hI
    simp only at h1
    exact ⟨M, by simp [n0.bd94, h1.idx, len, h2], C, h1⟩
theorem z9 {n i : Nat} {A : List nA} {B : nA} (h : Rs n i A B) (j : Nat) (hj : j < B.ins.length) : ∃ z, whl (fun (s : (List nA × Int)) => n0.bd121 (i : Int) (j : Int) s.1 s.2) nD (A, 0) = some z ∧ ∃ C, Rs n i z C ∧ C.ins.length = B.ins.length := by
  have hargs := h.smB.2.2.2.1 _ (List.getElem_mem hj)
  refine oj (s0 := (A, 0)) (body := fun (s : (List nA × Int)) => n0.bd121 (i : Int) (j : Int) s.1 s.2) B.ins[j].args.length (fun t s => s.2 = (t : Int) ∧ ∃ C, Rs n i s.1 C ∧ C.ins.length = B.ins.length ∧ ∃ x, C.ins[j]? = some x ∧ x.args.length = B.ins[j].args.length) (fun z => ∃ C, Rs n i z C ∧ C.ins.length = B.ins.length) (nO hargs (by omega)) (fun t s ht hI => ?_) (fun s hI => ?_) ⟨rfl, B, h, rfl, _, List.getElem?_eq_getElem hj, rfl⟩
  · obtain ⟨M, k⟩ := s
    obtain ⟨rfl, C, h1, h2, x, h3, h4⟩ := hI
    simp only at h1
    have ht' : t < x.args.length := by omega
    have hs := h1.smB
    have hx : idx C.ins (j : Int) = some x := by rw [oz]; exact h3
    have hxm := hs.2.2.2.1 x (List.mem_of_getElem? h3)
    refine .inr ⟨_, by simp only [n0.bd121, h1.idx, hx, nP, ht', if_true, nJ ht', Option.bind_some, Int.toNat_natCast]; rfl, nQ ht (by omega), _, h1.set (C := ⟨C.phis, C.ins.set j (⟨x.op, x.dst, x.args.set t 9, x.imm, x.fn⟩ : nL), C.term⟩) ⟨by simp; exact hs.1, hs.2.1, hs.2.2.1, fun y hy => ?_, hs.2.2.2.2⟩, by simp [h2], _, by rw [List.getElem?_set_self (by omega)], by simp [h4]⟩
    exact (List.mem_or_eq_of_mem_set hy).elim (hs.2.2.2.1 y) (fun e => by subst e; simp; exact hxm)
  · obtain ⟨M, k⟩ := s
    obtain ⟨rfl, C, h1, h2, x, h3, h4⟩ := hI
    simp only at h1
    have hx : idx C.ins (j : Int) = some x := by rw [oz]; exact h3
    exact ⟨M, by simp [n0.bd121, h1.idx, hx, len, h4], C, h1, h2⟩
theorem Aa {n i : Nat} {A : List nA} {B : nA} (h : Rs n i A B) : ∃ z, whl (fun (s : (List nA × Int)) => n0.bd87 (i : Int) s.1 s.2) nD (A, 0) = some z ∧ ∃ C, Rs n i z C := by
  have hto := h.smB.1
  refine oj (s0 := (A, 0)) (body := fun (s : (List nA × Int)) => n0.bd87 (i : Int) s.1 s.2) B.ins.length (fun t s => s.2 = (t : Int) ∧ ∃ C, Rs n i s.1 C ∧ C.ins.length = B.ins.length) (fun z => ∃ C, Rs n i z C) (nO hto (by omega)) (fun t s ht hI => ?_) (fun s hI => ?_) ⟨rfl, B, h, rfl⟩
  · obtain ⟨M, k⟩ := s
    obtain ⟨rfl, C, h1, h2⟩ := hI
    simp only at h1
    have ht' : t < C.ins.length := by omega
    obtain ⟨z, z1, D, z2, z3⟩ := z9 h1 t ht'
    exact .inr ⟨_, by simp only [n0.bd87, h1.idx, nP, ht', if_true, z1, Option.bind_some, n0.nx121]; rfl, nQ ht (by omega), D, z2, z3.trans h2⟩
  · obtain ⟨M, k⟩ := s
    obtain ⟨rfl, C, h1, h2⟩ := hI
    simp only at h1
    exact ⟨M, by simp [n0.bd87, h1.idx, len, h2], C, h1⟩
theorem Ab (A : List nA) (hl : A.length ≤ 70) (hs : ∀ B ∈ A, SmB B) : ∃ z, whl (fun (s : (List nA × Int)) => n0.bd43 s.1 s.2) nD (A, 0) = some z ∧ True := by
  refine oj (s0 := (A, 0)) (body := fun (s : (List nA × Int)) => n0.bd43 s.1 s.2) A.length (fun t s => s.2 = (t : Int) ∧ s.1.length = A.length ∧ ∀ B ∈ s.1, SmB B) (fun z => True) (nO hl (by omega)) (fun t s ht hI => ?_) (fun s hI => ?_) ⟨rfl, rfl, hs⟩
  · obtain ⟨M, k⟩ := s
    obtain ⟨rfl, h1, h2⟩ := hI
    simp only at h1 h2
    have ht' : t < M.length := by omega
    obtain ⟨z, z1, C, z2⟩ := Aa (n := A.length) (i := t) (A := M) (B := M[t]) ⟨h1, h2, List.getElem?_eq_getElem ht'⟩
    obtain ⟨y, y1, D, y2⟩ := z8 z2
    exact .inr ⟨_, by simp only [n0.bd43, nP, ht', if_true, z1, Option.bind_some, n0.nx94, y1, n0.nx87]; rfl, nQ ht (by omega), y2.len, y2.sm⟩
  · obtain ⟨M, k⟩ := s
    obtain ⟨rfl, h1, h2⟩ := hI
    simp only at h1
    exact ⟨(), by simp [n0.bd43, len, h1], trivial⟩
theorem up16 : rK = some true := by kernel_rfl
theorem Ac (A : List PKnown) (hl : A.length ≤ 300) : ∃ z, whl (fun (s : (List PKnown × Int)) => n0.bd25 s.1 s.2) nD (A, 0) = some z ∧ True := by
  refine oj (s0 := (A, 0)) (body := fun (s : (List PKnown × Int)) => n0.bd25 s.1 s.2) A.length (fun t s => s.2 = (t : Int) ∧ s.1.length = A.length) (fun z => True) (nO hl (by omega)) (fun t s ht hI => ?_) (fun s hI => ?_) ⟨rfl, rfl⟩
  · obtain ⟨M, k⟩ := s
    obtain ⟨rfl, h1⟩ := hI
    simp only at h1
    have ht' : t < M.length := by omega
    exact .inr ⟨_, by simp only [n0.bd25, nP, ht', if_true, nJ ht', Option.bind_some]; rfl, nQ ht (by omega), by simp [h1]⟩
  · obtain ⟨M, k⟩ := s
    obtain ⟨rfl, h1⟩ := hI
    simp only at h1
    exact ⟨(), by simp [n0.bd25, len, h1], trivial⟩
theorem Ad (A : List Bool) (hl : A.length ≤ 300) : ∃ z, whl (fun (s : (List Bool × Int)) => n0.bd34 s.1 s.2) nD (A, 0) = some z ∧ True := by
  refine oj (s0 := (A, 0)) (body := fun (s : (List Bool × Int)) => n0.bd34 s.1 s.2) A.length (fun t s => s.2 = (t : Int) ∧ s.1.length = A.length) (fun z => True) (nO hl (by omega)) (fun t s ht hI => ?_) (fun s hI => ?_) ⟨rfl, rfl⟩
  · obtain ⟨M, k⟩ := s
    obtain ⟨rfl, h1⟩ := hI
    simp only at h1
    have ht' : t < M.length := by omega
    exact .inr ⟨_, by simp only [n0.bd34, nP, ht', if_true, nJ ht', Option.bind_some]; rfl, nQ ht (by omega), by simp [h1]⟩
  · obtain ⟨M, k⟩ := s
    obtain ⟨rfl, h1⟩ := hI
    simp only at h1
    exact ⟨(), by simp [n0.bd34, len, h1], trivial⟩
variable {m : nR}
theorem Ae (hm : SmM m) (a : Int) (r : Ex GErr PFinder) (hr : oe m a = some r) : ∃ v, qN m a = some v ∧ v.1.length ≤ 300 ∧ v.2.1.length ≤ 300 ∧ (v.2.2 = GErr.no ↔ ∃ F, r = .go F) := by
  obtain ⟨r', hr', h1, h2⟩ := tq hm a
  obtain rfl : r = r' := Option.some.inj (hr.symm.trans hr')
  unfold qN
  rw [hr]
  simp only [Option.bind_some]
  cases r with
  | ret e => exact ⟨_, rfl, by simp, by simp, fun h => absurd h (h1 e rfl), fun ⟨F, h⟩ => by cases h⟩
  | go F =>
    obtain ⟨k, rfl, hk, hF, hok⟩ := h2 F rfl
    have hf := hm.2 _ (List.getElem_mem hk)
    refine ⟨(F.known, F.entered, GErr.no), by simp, ?_, ?_, fun _ => ⟨F, rfl⟩, fun _ => rfl⟩
    · have := hF.st.kl; have := hf.2.1; simp only; omega
    · have := hF.st.el; have := hf.1; simp only; omega
theorem Af (m : nR) (a : Int) (h : wfModule m) (ha : inI64 a) : n0 m a = some true := by
  unfold n0
  rw [up16]
  obtain ⟨b, hb, hsm⟩ := xI m
  rw [hb]
  simp only [Option.bind_some]
  by_cases hc : (!b) = true
  · rw [if_pos hc]
  rw [if_neg hc]
  have hbt : b = true := by simpa using hc
  obtain ⟨t, ht, htm⟩ := zQ (hsm hbt) a true
  obtain ⟨r, hr, -, -⟩ := tq htm a
  obtain ⟨g, hg, hg1, hg2⟩ := z7 htm a r hr
  obtain ⟨v, hv, hv1, hv2, hv3⟩ := Ae htm a r hr
  obtain ⟨z, hz, _⟩ := Ac v.1 hv1
  obtain ⟨y, hy, _⟩ := Ad v.2.1 hv2
  obtain ⟨x, hx, _⟩ := Ab g.1.blocks hg1.1 hg1.2.2.2
  have he : decide (g.2 = GErr.no) = decide (v.2.2 = GErr.no) := decide_eq_decide.2 (hg2.trans hv3.symm)
  simp only [ht, Option.bind_some, um t htm, hg, hv, ul g.1 hg1, hz, n0.nx25, hy, n0.nx34, hx, n0.nx43, if_true, xK t t htm, decide_true, he, beq_self_eq_true, and_self, uk g.1 g.1 hg1]
end
end Go.Proofs.Ytpmcbahahjelnaa
