/- Layer 9, part I: the document's answer: rings and waves. No conditions. -/
import Derived.Test.YteaknconpkklhaaPqH
set_option linter.unusedVariables false
set_option linter.unusedSimpArgs false
namespace Go.Proofs.Yteaknconpkklhaa
open Go Go.Proofs

theorem sorted_ext {a b : List Int} (ha : a.Pairwise (fun x y => x < y)) (hb : b.Pairwise (fun x y => x < y)) (h : ∀ x, x ∈ a ↔ x ∈ b) : a = b := by
  have na : a.Nodup := ha.imp fun h e => by omega
  have nb : b.Nodup := hb.imp fun h e => by omega
  exact sorted_eq id ((List.perm_ext_iff_of_nodup na nb).2 h) (ha.imp fun h => Int.le_of_lt h) (hb.imp fun h => Int.le_of_lt h) fun x _ y _ e => e
def upTo (n : Nat) : List Int := (List.range n).map fun i : Nat => (i : Int)
theorem mem_upTo {n : Nat} {x : Int} : x ∈ upTo n ↔ ok n x := by
  unfold upTo ok
  simp only [List.mem_map, List.mem_range]
  exact ⟨fun ⟨i, h, e⟩ => by omega, fun h => ⟨x.toNat, by omega, by omega⟩⟩
theorem upTo_sorted (n : Nat) : (upTo n).Pairwise (fun x y => x < y) := by
  unfold upTo
  rw [List.pairwise_map]
  exact List.pairwise_lt_range.imp fun h => by omega
theorem upTo_succ (n : Nat) : upTo (n + 1) = upTo n ++ [(n : Int)] := by simp [upTo, List.range_succ]
theorem upTo_len (n : Nat) : (upTo n).length = n := by simp [upTo]

variable {N : Nat} {C R : List (List Int)}
theorem RingsOk.same (hR : RingsOk N C R) {r : List Int} (hr : r ∈ R) {a b : Int} (ha : a ∈ r) : b ∈ r ↔ Reach C a b ∧ Reach C b a := by
  obtain ⟨i, hi, he⟩ := List.getElem_of_mem hr
  have hRi : R[i]? = some r := by rw [List.getElem?_eq_getElem hi, he]
  have down : ∀ (i : Nat) (q : List Int) (x y : Int), R[i]? = some q → x ∈ q → Reach C x y → ∃ (j : Nat) (p : List Int), j ≤ i ∧ R[j]? = some p ∧ y ∈ p := fun i q x y hq hx h => by
    refine Reach.closed (P := fun z => ∃ (j : Nat) (p : List Int), j ≤ i ∧ R[j]? = some p ∧ z ∈ p) ?_ h ⟨i, q, Nat.le_refl _, hq, hx⟩
    rintro z ⟨j, p, h1, h2, h3⟩ c hc
    obtain ⟨j', p', g1, g2, g3⟩ := hR.closed j p h2 z h3 c hc
    exact ⟨j', p', by omega, g2, g3⟩
  constructor
  · exact fun hb => ⟨hR.strong r hr a ha b hb, hR.strong r hr b hb a ha⟩
  · rintro ⟨h1, h2⟩
    obtain ⟨j, p, g1, g2, g3⟩ := down i r a b hRi ha h1
    obtain ⟨i', q, k1, k2, k3⟩ := down j p b a g2 g3 h2
    have := hR.one hRi k2 ha k3
    have hji : j = i := by omega
    subst hji
    rw [hRi] at g2; cases g2; exact g3

/-! ### A function's ring -/
def ringL (N : Nat) (T : List (List Bool)) (a : Int) : List Int := (upTo N).filter fun b => decide (a = b) || (tbl T a b && tbl T b a)
theorem ring_ref (hN : N ≤ 40) {T : List (List Bool)} (hq : Sq N T) {a : Int} (ha : ok N a) : fettleref09_Ring T a = some (ringL N T a) := by
  unfold fettleref09_Ring
  have hrun := whl_run (body := fun (s : (List Int × Int)) => fettleref09_Ring.bd8 T a s.1 s.2) (r := ringL N T a) N FUEL (fun k => ((upTo k).filter (fun b => decide (a = b) || (tbl T a b && tbl T b a)), (k : Int))) (fun k hk => by
    have hko : ok N (k : Int) := ⟨by omega, by omega⟩
    have hl : ((k : Int) < len T) := by simp only [len, hq.l]; omega
    have e1 := (hq.row ha).1
    have e2 := (hq.row hko).1
    have c1 := hq.cell ha hko
    have c2 := hq.cell hko ha
    have hlen := List.length_filter_le (fun b => decide (a = b) || (tbl T a b && tbl T b a)) (upTo k)
    rw [upTo_len] at hlen
    have hcat := cat_one (a := (upTo k).filter (fun b => decide (a = b) || (tbl T a b && tbl T b a))) (x := (k : Int)) (by omega)
    rw [upTo_succ, List.filter_append]
    by_cases h : a = (k : Int)
    · have hb : (decide (a = (k : Int)) || (tbl T a (k : Int) && tbl T (k : Int) a)) = true := by simp [h]
      rw [show [(k : Int)].filter (fun b => decide (a = b) || (tbl T a b && tbl T b a)) = [(k : Int)] by simp only [List.filter_cons, hb, List.filter_nil, if_true]]
      simp only [fettleref09_Ring.bd8, hl, if_true, Option.bind_some, hcat, fettleref09_Ring.jn18, w64_i hk (by omega : N ≤ 1000), if_pos h]
    · cases h1 : tbl T a (k : Int) with
      | false =>
        have hb : (decide (a = (k : Int)) || (tbl T a (k : Int) && tbl T (k : Int) a)) = false := by simp [h, h1]
        rw [show [(k : Int)].filter (fun b => decide (a = b) || (tbl T a b && tbl T b a)) = [] by simp only [List.filter_cons, hb, List.filter_nil, Bool.false_eq_true, if_false]]
        simp only [fettleref09_Ring.bd8, hl, if_true, e1, c1, h1, Bool.false_eq_true, if_false, Option.bind_some, fettleref09_Ring.jn18, w64_i hk (by omega : N ≤ 1000), List.append_nil, if_neg h]
      | true =>
        cases h2 : tbl T (k : Int) a with
        | false =>
          have hb : (decide (a = (k : Int)) || (tbl T a (k : Int) && tbl T (k : Int) a)) = false := by simp [h, h2]
          rw [show [(k : Int)].filter (fun b => decide (a = b) || (tbl T a b && tbl T b a)) = [] by simp only [List.filter_cons, hb, List.filter_nil, Bool.false_eq_true, if_false]]
          simp only [fettleref09_Ring.bd8, hl, if_true, e1, e2, c1, c2, h1, h2, Bool.false_eq_true, if_false, Option.bind_some, fettleref09_Ring.jn18, w64_i hk (by omega : N ≤ 1000), List.append_nil, if_neg h]
        | true =>
          have hb : (decide (a = (k : Int)) || (tbl T a (k : Int) && tbl T (k : Int) a)) = true := by simp [h1, h2]
          rw [show [(k : Int)].filter (fun b => decide (a = b) || (tbl T a b && tbl T b a)) = [(k : Int)] by simp only [List.filter_cons, hb, List.filter_nil, if_true]]
          simp only [fettleref09_Ring.bd8, hl, if_true, e1, e2, c1, c2, h1, h2, Option.bind_some, hcat, fettleref09_Ring.jn18, w64_i hk (by omega : N ≤ 1000), if_neg h]) (by
      simp only [fettleref09_Ring.bd8, len, hq.l]; rw [if_neg (by omega)]; rfl) (lt_FUEL (le_max hN (by omega)))
  have h0 : whl (fun (s : (List Int × Int)) => fettleref09_Ring.bd8 T a s.1 s.2) FUEL (([] : List Int), 0) = some (ringL N T a) := hrun
  rw [h0]; rfl
theorem ring_is (hR : RingsOk N C R) {T : List (List Bool)} (hT : ∀ x y, ok N x → ok N y → (tbl T x y = true ↔ Trc C x y)) {r : List Int} (hr : r ∈ R) {a : Int} (ha : a ∈ r) : ringL N T a = r := by
  have hao : ok N a := (hR.all a).1 ⟨r, hr, ha⟩
  refine sorted_ext ((upTo_sorted N).sublist List.filter_sublist) (hR.srt r hr) fun b => ?_
  unfold ringL
  rw [List.mem_filter, mem_upTo, hR.same hr ha]
  simp only [Bool.or_eq_true, decide_eq_true_eq, Bool.and_eq_true]
  constructor
  · rintro ⟨hbo, h | ⟨h1, h2⟩⟩
    · subst h; exact ⟨.refl _, .refl _⟩
    · exact ⟨reach_iff.2 (.inr ((hT a b hao hbo).1 h1)), reach_iff.2 (.inr ((hT b a hbo hao).1 h2))⟩
  · rintro ⟨h1, h2⟩
    have hbo : ok N b := (hR.all b).1 ⟨r, hr, (hR.same hr ha).2 ⟨h1, h2⟩⟩
    refine ⟨hbo, ?_⟩
    by_cases e : a = b
    · exact .inl e
    · rcases reach_iff.1 h1 with h | h
      · exact absurd h e
      · rcases reach_iff.1 h2 with h' | h'
        · exact absurd h'.symm e
        · exact .inr ⟨(hT a b hao hbo).2 h, (hT b a hbo hao).2 h'⟩
theorem byF_mem {r : List Int} (h : r ≠ []) : byF r ∈ r ∧ idx r 0 = some (byF r) := by
  cases r with
  | nil => exact absurd rfl h
  | cons a r => exact ⟨List.mem_cons_self .., rfl⟩
def headsL (N : Nat) (T : List (List Bool)) (n : Nat) : List (List Int) := ((upTo n).filter fun a => decide (byF (ringL N T a) = a)).map (ringL N T)
theorem rings_ref (hN : N ≤ 40) (hR : RingsOk N C R) {T : List (List Bool)} (hq : Sq N T) (hT : ∀ x y, ok N x → ok N y → (tbl T x y = true ↔ Trc C x y)) : fettleref09_Rings T = some (rsort R) := by
  have hring : ∀ a, ok N a → ringL N T a ∈ R ∧ a ∈ ringL N T a := fun a ha => by
    obtain ⟨r, hr, har⟩ := (hR.all a).2 ha
    rw [ring_is hR hT hr har]
    exact ⟨hr, har⟩
  have hrun := whl_run (body := fun (s : (List (List Int) × Int)) => fettleref09_Rings.bd8 T s.1 s.2) (r := headsL N T N) N FUEL (fun k => (headsL N T k, (k : Int))) (fun k hk => by
    have hko : ok N (k : Int) := ⟨by omega, by omega⟩
    have hl : ((k : Int) < len T) := by simp only [len, hq.l]; omega
    obtain ⟨r1, r2⟩ := hring k hko
    have e0 := (byF_mem (hR.ne _ r1)).2
    have hlen : (headsL N T k).length ≤ 1000 := by
      unfold headsL
      rw [List.length_map]
      have := List.length_filter_le (fun a => decide (byF (ringL N T a) = a)) (upTo k)
      rw [upTo_len] at this; omega
    by_cases h : byF (ringL N T (k : Int)) = (k : Int)
    · have e1 : headsL N T (k + 1) = headsL N T k ++ [ringL N T (k : Int)] := by
        unfold headsL; rw [upTo_succ, List.filter_append, List.map_append]; simp [List.filter_cons, h]
      rw [e1]
      simp only [fettleref09_Rings.bd8, hl, if_true, ring_ref hN hq hko, Option.bind_some, e0, h, cat_one hlen, fettleref09_Rings.jn18, w64_i hk (by omega : N ≤ 1000)]
    · have e1 : headsL N T (k + 1) = headsL N T k := by
        unfold headsL; rw [upTo_succ, List.filter_append, List.map_append]; simp [List.filter_cons, h]
      rw [e1]
      simp only [fettleref09_Rings.bd8, hl, if_true, ring_ref hN hq hko, Option.bind_some, e0, h, if_false, fettleref09_Rings.jn18, w64_i hk (by omega : N ≤ 1000)]) (by
    simp only [fettleref09_Rings.bd8, len, hq.l]; rw [if_neg (by omega)]) (lt_FUEL (le_max hN (by omega)))
  have h0 : whl (fun (s : (List (List Int) × Int)) => fettleref09_Rings.bd8 T s.1 s.2) FUEL (([] : List (List Int)), 0) = some (headsL N T N) := hrun
  have hkept : ∀ a, a ∈ (upTo N).filter (fun a => decide (byF (ringL N T a) = a)) → ok N a ∧ byF (ringL N T a) = a := fun a ha => by
    obtain ⟨h1, h2⟩ := List.mem_filter.1 ha
    exact ⟨mem_upTo.1 h1, by simpa using h2⟩
  have hsrt : (headsL N T N).Pairwise (fun a b => byF a < byF b) := by
    unfold headsL
    rw [List.pairwise_map]
    refine ((upTo_sorted N).sublist List.filter_sublist).imp_of_mem fun {a b} ha hb h => ?_
    rw [(hkept a ha).2, (hkept b hb).2]; exact h
  have hRnd : R.Nodup := hR.heads.imp fun h e => h (by rw [e])
  have heq : headsL N T N = rsort R := by
    refine sorted_eq byF ((List.perm_ext_iff_of_nodup (hsrt.imp fun h e => by subst e; omega) ((rsort_perm R).nodup_iff.2 hRnd)).2 fun r => ?_) (hsrt.imp fun h => by omega) (rsort_sorted R) ?_
    · rw [rsort_mem]
      unfold headsL
      constructor
      · intro h
        obtain ⟨a, ha, rfl⟩ := List.mem_map.1 h
        exact (hring a (hkept a ha).1).1
      · intro h
        have hm := (byF_mem (hR.ne r h)).1
        have hi := ring_is hR hT h hm
        refine List.mem_map.2 ⟨byF r, List.mem_filter.2 ⟨mem_upTo.2 ((hR.all _).1 ⟨r, h, hm⟩), ?_⟩, hi⟩
        rw [hi]; simp
    · intro x hx y hy e
      obtain ⟨a, ha, rfl⟩ := List.mem_map.1 hx
      obtain ⟨b, hb, rfl⟩ := List.mem_map.1 hy
      rw [(hkept a ha).2, (hkept b hb).2] at e
      rw [e]
  unfold fettleref09_Rings
  rw [h0, heq]; rfl

/-! ### Waves, round by round -/
structure Rnd (N : Nat) (T : List (List Bool)) (Wx : Int → Nat) (t : Nat) (a b : Int) (w : List Int) : Prop where
  l : w.length = N
  up : ∀ x, ok N x → 0 ≤ nu w x ∧ nu w x ≤ (Wx x : Int)
  lo : ∀ x, ok N x → ((min t (Wx x) : Nat) : Int) ≤ nu w x
  dn : ∀ x, ok N x → x < a → ((min (t + 1) (Wx x) : Nat) : Int) ≤ nu w x
  cur : ∀ y, ok N y → y < b → tbl T a y = true → tbl T y a = false → ((min t (Wx y) : Nat) : Int) + 1 ≤ nu w a
theorem rnd_row (hN : N ≤ 40) {T : List (List Bool)} (hq : Sq N T) {Wx : Int → Nat} (hA : ∀ a b, ok N a → ok N b → tbl T a b = true → tbl T b a = false → Wx b + 1 ≤ Wx a)
    (hB : ∀ a, ok N a → ∀ k, Wx a = k + 1 → ∃ c, ok N c ∧ tbl T a c = true ∧ tbl T c a = false ∧ Wx c = k) (hW : ∀ x, ok N x → Wx x ≤ 40) {t a : Nat} (ha : a < N) {w : List Int} (h : Rnd N T Wx t a 0 w) :
    ∃ w', whl (fun (s : (List Int × Int)) => fettleref09_Waves.bd37 T (a : Int) s.1 s.2) FUEL (w, 0) = some w' ∧ Rnd N T Wx t ((a + 1 : Nat) : Int) 0 w' := by
  have hao : ok N (a : Int) := ⟨by omega, by omega⟩
  obtain ⟨z, hz, w', rfl, hw'⟩ := whl_for (body := fun (s : (List Int × Int)) => fettleref09_Waves.bd37 T (a : Int) s.1 s.2) N (fun b s => ∃ w, s = (w, (b : Int)) ∧ Rnd N T Wx t a b w) (fun z => ∃ w, z = w ∧ Rnd N T Wx t a N w) (le_max hN (by omega)) (by
    rintro b s hb ⟨w, rfl, h⟩
    have hbo : ok N (b : Int) := ⟨by omega, by omega⟩
    have hl : ((b : Int) < len T) := by simp only [len, hq.l]; omega
    have e1 := (hq.row hao).1
    have e2 := (hq.row hbo).1
    have c1 := hq.cell hao hbo
    have c2 := hq.cell hbo hao
    have n1 := idx_nu (l := w) (x := (a : Int)) (by rw [h.l]; exact hao)
    have n2 := idx_nu (l := w) (x := (b : Int)) (by rw [h.l]; exact hbo)
    have ub := h.up b hbo
    have wb := hW b hbo
    have hw64 : w64 (nu w (b : Int) + 1) = nu w (b : Int) + 1 := w64_id ⟨by omega, by omega⟩
    have keep : ¬ (tbl T (a : Int) (b : Int) = true ∧ tbl T (b : Int) (a : Int) = false ∧ nu w (a : Int) ≤ nu w (b : Int)) → Rnd N T Wx t a ((b + 1 : Nat) : Int) w := fun hno => by
      refine ⟨h.l, h.up, h.lo, h.dn, fun y hy hyb h1 h2 => ?_⟩
      by_cases e : y = (b : Int)
      · subst e
        have := h.lo b hbo
        have : nu w (b : Int) < nu w (a : Int) := by
          rcases Int.lt_or_le (nu w (b : Int)) (nu w (a : Int)) with g | g
          · exact g
          · exact absurd ⟨h1, h2, g⟩ hno
        omega
      · exact h.cur y hy (by omega) h1 h2
    cases h1 : tbl T (a : Int) (b : Int) with
    | false =>
      refine .inr ⟨(w, ((b + 1 : Nat) : Int)), ?_, w, rfl, keep (by rw [h1]; simp)⟩
      simp only [fettleref09_Waves.bd37, hl, if_true, e1, c1, h1, Bool.false_eq_true, if_false, Option.bind_some, fettleref09_Waves.jn47, w64_i hb (by omega : N ≤ 1000)]
    | true =>
      cases h2 : tbl T (b : Int) (a : Int) with
      | true =>
        refine .inr ⟨(w, ((b + 1 : Nat) : Int)), ?_, w, rfl, keep (by rw [h2]; simp)⟩
        simp only [fettleref09_Waves.bd37, hl, if_true, e1, e2, c1, c2, h1, h2, Bool.not_true, Bool.false_eq_true, if_false, Option.bind_some, fettleref09_Waves.jn47, w64_i hb (by omega : N ≤ 1000)]
      | false =>
        by_cases h3 : nu w (a : Int) ≤ nu w (b : Int)
        · have hab := hA a b hao hbo h1 h2
          have hne : (b : Int) ≠ (a : Int) := fun e => by rw [e] at h1 h2; rw [h1] at h2; cases h2
          have hs : ∀ x, ok N x → nu (w.set (a : Int).toNat (nu w (b : Int) + 1)) x = if x = (a : Int) then nu w (b : Int) + 1 else nu w x := fun x hx => nu_set (by rw [h.l]; exact hao) (by rw [h.l]; exact hx)
          refine .inr ⟨(w.set (a : Int).toNat (nu w (b : Int) + 1), ((b + 1 : Nat) : Int)), ?_, _, rfl, by simp [h.l], fun x hx => ?_, fun x hx => ?_, fun x hx hxa => ?_, fun y hy hyb g1 g2 => ?_⟩
          · simp only [fettleref09_Waves.bd37, hl, if_true, e1, e2, c1, c2, h1, h2, Bool.not_false, n1, n2, h3, decide_true, Option.bind_some, fettleref09_Waves.jn47, hw64, w64_i hb (by omega : N ≤ 1000)]
          · rw [hs x hx]
            have := h.up x hx
            split
            · rename_i e; subst e; omega
            · exact this
          · rw [hs x hx]
            have := h.lo x hx
            split
            · rename_i e; subst e; omega
            · exact this
          · rw [hs x hx, if_neg (by omega)]
            exact h.dn x hx hxa
          · rw [hs a hao, if_pos rfl]
            have hlo := h.lo b hbo
            by_cases e : y = (b : Int)
            · subst e; omega
            · have := h.cur y hy (by omega) g1 g2; omega
        · refine .inr ⟨(w, ((b + 1 : Nat) : Int)), ?_, w, rfl, keep (fun g => h3 g.2.2)⟩
          simp only [fettleref09_Waves.bd37, hl, if_true, e1, e2, c1, c2, h1, h2, Bool.not_false, n1, n2, h3, decide_false, Bool.false_eq_true, if_false, Option.bind_some, fettleref09_Waves.jn47, w64_i hb (by omega : N ≤ 1000)]) (by
    rintro s ⟨w, rfl, h⟩
    exact ⟨w, by simp [fettleref09_Waves.bd37, len, hq.l], w, rfl, h⟩) (s0 := (w, 0)) ⟨w, rfl, h⟩
  refine ⟨z, hz, hw'.l, hw'.up, hw'.lo, fun x hx hxa => ?_, fun y hy hy0 => by have := hy.1; omega⟩
  by_cases e : x = (a : Int)
  · subst e
    rcases Nat.eq_zero_or_pos (Wx (a : Int)) with g | g
    · rw [g]; have := (hw'.up a hao).1; simp; omega
    · obtain ⟨c, c1, c2, c3, c4⟩ := hB a hao (Wx (a : Int) - 1) (by omega)
      have := hw'.cur c c1 c1.2 c2 c3
      omega
  · exact hw'.dn x hx (by omega)
theorem rnd_all (hN : N ≤ 40) {T : List (List Bool)} (hq : Sq N T) {Wx : Int → Nat} (hA : ∀ a b, ok N a → ok N b → tbl T a b = true → tbl T b a = false → Wx b + 1 ≤ Wx a)
    (hB : ∀ a, ok N a → ∀ k, Wx a = k + 1 → ∃ c, ok N c ∧ tbl T a c = true ∧ tbl T c a = false ∧ Wx c = k) (hW : ∀ x, ok N x → Wx x ≤ 40) {t : Nat} {w : List Int} (h : Rnd N T Wx t 0 0 w) :
    ∃ w', whl (fun (s : (List Int × Int)) => fettleref09_Waves.bd23 T s.1 s.2) FUEL (w, 0) = some w' ∧ Rnd N T Wx (t + 1) 0 0 w' := by
  obtain ⟨z, hz, w', rfl, hw'⟩ := whl_for (body := fun (s : (List Int × Int)) => fettleref09_Waves.bd23 T s.1 s.2) N (fun a s => ∃ w, s = (w, (a : Int)) ∧ Rnd N T Wx t a 0 w) (fun z => ∃ w, z = w ∧ Rnd N T Wx t N 0 w) (le_max hN (by omega)) (by
    rintro a s ha ⟨w, rfl, h⟩
    obtain ⟨w', g1, g2⟩ := rnd_row hN hq hA hB hW ha h
    have hl : ((a : Int) < len T) := by simp only [len, hq.l]; omega
    refine .inr ⟨_, ?_, w', rfl, g2⟩
    simp only [fettleref09_Waves.bd23, hl, if_true, g1, Option.bind_some, fettleref09_Waves.nx37, w64_i ha (by omega : N ≤ 1000)]) (by
    rintro s ⟨w, rfl, h⟩
    exact ⟨w, by simp [fettleref09_Waves.bd23, len, hq.l], w, rfl, h⟩) (s0 := (w, 0)) ⟨w, rfl, h⟩
  exact ⟨z, hz, hw'.l, hw'.up, fun x hx => hw'.dn x hx hx.2, fun x hx hx0 => by have := hx.1; omega, fun y hy hy0 => by have := hy.1; omega⟩
theorem waves_ref (hN : N ≤ 40) {T : List (List Bool)} (hq : Sq N T) {Wx : Int → Nat} (hA : ∀ a b, ok N a → ok N b → tbl T a b = true → tbl T b a = false → Wx b + 1 ≤ Wx a)
    (hB : ∀ a, ok N a → ∀ k, Wx a = k + 1 → ∃ c, ok N c ∧ tbl T a c = true ∧ tbl T c a = false ∧ Wx c = k) (hW : ∀ x, ok N x → Wx x ≤ N) :
    ∃ w, fettleref09_Waves T = some w ∧ w.length = N ∧ ∀ x, ok N x → nu w x = (Wx x : Int) := by
  have hz0 : ∀ x, nu (List.replicate N 0) x = 0 := fun x => by simp [nu, List.getElem?_replicate, List.getD_eq_getElem?_getD]; split <;> rfl
  obtain ⟨z, hz, w', rfl, hw'⟩ := whl_for (body := fun (s : (List Int × Int)) => fettleref09_Waves.bd9 T s.1 s.2) N (fun t s => ∃ w, s = (w, (t : Int)) ∧ Rnd N T Wx t 0 0 w) (fun z => ∃ w, z = w ∧ Rnd N T Wx N 0 0 w) (le_max hN (by omega)) (by
    rintro t s ht ⟨w, rfl, h⟩
    obtain ⟨w', g1, g2⟩ := rnd_all hN hq hA hB (fun x hx => by have := hW x hx; omega) h
    have hl : ((t : Int) < len T) := by simp only [len, hq.l]; omega
    refine .inr ⟨_, ?_, w', rfl, g2⟩
    simp only [fettleref09_Waves.bd9, hl, if_true, g1, Option.bind_some, fettleref09_Waves.nx23, w64_i ht (by omega : N ≤ 1000)]) (by
    rintro s ⟨w, rfl, h⟩
    exact ⟨w, by simp [fettleref09_Waves.bd9, len, hq.l], w, rfl, h⟩) (s0 := (List.replicate N 0, 0)) ⟨_, rfl, by simp, fun x _ => by rw [hz0]; omega, fun x _ => by rw [hz0]; simp, fun x hx hx0 => by have := hx.1; omega, fun y hy hy0 => by have := hy.1; omega⟩
  refine ⟨z, ?_, hw'.l, fun x hx => ?_⟩
  · unfold fettleref09_Waves
    rw [show (len T) = (N : Int) by simp only [len, hq.l], mkl_rep (0 : Int) (show N ≤ 70 by omega), Option.bind_some, hz]; rfl
  · have h1 := hw'.up x hx
    have h2 := hw'.lo x hx
    have h3 := hW x hx
    rw [Nat.min_eq_right h3] at h2
    omega
end Go.Proofs.Yteaknconpkklhaa
