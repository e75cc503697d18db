/- lower.Moves: what it tells. No conditions. -/
import Derived.Test.YtpmcbahahjelnaaMvA
import Derived.Test.YtpmcbahahjelnaaPqA
set_option linter.unusedVariables false
set_option linter.unusedSimpArgs false
namespace Go.Proofs.Ytpmcbahahjelnaa
open Go Go.Proofs

theorem from_free (l : List PPair) (hl : l.length ≤ maxLen) (r : Int) (i : Nat) : ∃ b, lower_from l r (i : Int) = some b ∧ (b = false ↔ Free l i r) := by
  unfold lower_from
  have := scan0 l (fun j p => if (¬ (j : Int) = (i : Int)) ∧ p.b = r then some true else none) (fun s => lower_from.bd8 l r (i : Int) s) hl (fun j hj => by
    simp only [lower_from.bd8, len_lt, hj, if_true, idx_lt hj, Option.bind_some, w64_at hj hl]
    split <;> rfl) (by simp [lower_from.bd8, len])
  rcases this with ⟨j, hj, q, hf, _, hw⟩ | ⟨hall, hw⟩
  · split at hf
    · rename_i hc
      cases hf
      refine ⟨true, by rw [hw]; rfl, ?_⟩
      constructor
      · intro h; cases h
      · intro h
        exact absurd hc.2 (h j l[j] (List.getElem?_eq_getElem hj) (by omega))
    · cases hf
  · refine ⟨false, by rw [hw]; rfl, ?_⟩
    simp only [true_iff]
    intro j p hjp hne he
    obtain ⟨hj, rfl⟩ := List.getElem?_eq_some_iff.1 hjp
    have := hall j hj
    rw [if_pos ⟨by omega, he⟩] at this
    cases this
theorem find_free (l : List PPair) (hl : l.length ≤ maxLen) :
    ∃ z, whl (fun (s : Int) => lower_Moves.bd33 l s) FUEL 0 = some z ∧ ((∃ (i : Nat) (p : PPair), z = (i : Int) ∧ l[i]? = some p ∧ Free l i p.a) ∨ (z = -1 ∧ ∀ (i : Nat) (p : PPair), l[i]? = some p → ¬ Free l i p.a)) := by
  refine whl_for (σ := Int) (s0 := 0) l.length (fun i s => s = (i : Int) ∧ ∀ (j : Nat) (p : PPair), j < i → l[j]? = some p → ¬ Free l j p.a) (fun z => (∃ (i : Nat) (p : PPair), z = (i : Int) ∧ l[i]? = some p ∧ Free l i p.a) ∨ (z = -1 ∧ ∀ (i : Nat) (p : PPair), l[i]? = some p → ¬ Free l i p.a)) hl ?_ ?_ ⟨rfl, fun j p h => by omega⟩
  · rintro i s hi ⟨rfl, hI⟩
    obtain ⟨b, h1, h2⟩ := from_free l hl l[i].a i
    cases b with
    | false =>
      exact .inl ⟨(i : Int), by simp only [lower_Moves.bd33, len_lt, hi, if_true, idx_lt hi, Option.bind_some, h1, Bool.not_false], .inl ⟨i, l[i], rfl, List.getElem?_eq_getElem hi, h2.1 rfl⟩⟩
    | true =>
      refine .inr ⟨((i + 1 : Nat) : Int), by simp only [lower_Moves.bd33, len_lt, hi, if_true, idx_lt hi, Option.bind_some, h1, Bool.not_true, Bool.false_eq_true, if_false, w64_at hi hl], rfl, fun j p hj hp => ?_⟩
      rcases Nat.lt_or_ge j i with h | h
      · exact hI j p h hp
      · have : j = i := by omega
        subst this
        rw [List.getElem?_eq_getElem hi] at hp
        cases hp
        intro hf
        have := h2.2 hf
        cases this
  · rintro s ⟨rfl, hI⟩
    exact ⟨-1, by simp [lower_Moves.bd33, len], .inr ⟨rfl, fun i p hp => hI i p (List.getElem?_eq_some_iff.1 hp).1 hp⟩⟩
theorem rename_ok (l : List PPair) (hl : l.length ≤ maxLen) (c : Int) (p0 : PPair) : whl (fun (s : (List PPair × Int)) => lower_Moves.bd52 c l p0 s.1 s.2) FUEL (l, 0) = some (l.map (renS p0.b c)) := by
  refine whl_over l (renS p0.b c) hl (fun i hi L hL hLl hLi hLn => ?_) (by simp [lower_Moves.bd52, len])
  simp only [lower_Moves.bd52, len_lt, hi, if_true, idx_lt hLl, Option.bind_some, hLi, lower_Moves.jn62, w64_at hi hl, Int.toNat_natCast]
  unfold renS
  by_cases h : l[i].b = p0.b
  · simp only [h, if_true]
  · simp only [h, if_false]
    have : L.set i ⟨l[i].a, l[i].b⟩ = L := by
      have e : (⟨l[i].a, l[i].b⟩ : PPair) = L[i] := by rw [hLi]
      rw [e, List.set_getElem_self]
    rw [this]
def MayOk (P : List PPair) (n0 : Int) : Prop := (dsts P).Nodup ∧ ∀ p, p ∈ P → (0 ≤ p.a ∧ p.a < n0) ∧ 0 ≤ p.b ∧ p.b < n0
theorem contains_dst (l : List PPair) (hl : l.length ≤ maxLen) (p : PPair) : slices_ContainsFunc_2_int_2_int_lower_Moves_1 l p = some (decide (p.a ∈ dsts l)) := by
  have H : ∃ i, slices_IndexFunc_2_int_2_int_lower_Moves_1 l p = some i ∧ (i ≥ 0 ↔ p.a ∈ dsts l) := by
    unfold slices_IndexFunc_2_int_2_int_lower_Moves_1
    have := scan0 l (fun i y => if y.a = p.a then some (i : Int) else none) (fun s => slices_IndexFunc_2_int_2_int_lower_Moves_1.bd8 l p s) hl (fun i hi => by
      simp only [slices_IndexFunc_2_int_2_int_lower_Moves_1.bd8, len_lt, hi, if_true, idx_lt hi, Option.bind_some, w64_at hi hl, lower_Moves_1, decide_eq_true_eq]
      split <;> rfl) (by simp [slices_IndexFunc_2_int_2_int_lower_Moves_1.bd8, len])
    rcases this with ⟨i, hi, r, hf, _, hw⟩ | ⟨hall, hw⟩
    · split at hf
      · cases hf
        rename_i hx
        exact ⟨i, by rw [hw]; rfl, fun _ => hx ▸ List.mem_map_of_mem (List.getElem_mem hi), fun _ => by omega⟩
      · cases hf
    · refine ⟨-1, by rw [hw]; rfl, fun h => by omega, fun hx => ?_⟩
      obtain ⟨q, hq, he⟩ := List.mem_map.1 hx
      obtain ⟨i, hi, rfl⟩ := List.getElem_of_mem hq
      have := hall i hi
      simp [he] at this
  obtain ⟨i, h1, h2⟩ := H
  unfold slices_ContainsFunc_2_int_2_int_lower_Moves_1
  rw [h1]
  simp only [Option.bind_some, h2]
theorem countP_lt {α : Type} {p q : α → Bool} : ∀ {l : List α}, (∀ x, x ∈ l → q x = true → p x = true) → (∃ x, x ∈ l ∧ p x = true ∧ q x = false) → l.countP q < l.countP p
  | [], _, ⟨x, hx, _⟩ => by simp at hx
  | y :: l, h, ⟨x, hx, h1, h2⟩ => by
    have hle : ∀ {l : List α}, (∀ x, x ∈ l → q x = true → p x = true) → l.countP q ≤ l.countP p := fun h => List.countP_mono_left h
    rw [List.countP_cons, List.countP_cons]
    have hl := hle (l := l) (fun z hz => h z (by simp [hz]))
    rcases List.mem_cons.1 hx with rfl | hx
    · rw [h1, h2]; simp; omega
    · have ih := countP_lt (l := l) (fun z hz => h z (by simp [hz])) ⟨x, hx, h1, h2⟩
      have := h y (by simp)
      cases hq : q y with
      | true => rw [this hq]; simp; omega
      | false => cases p y <;> simp <;> omega
def nf (n0 : Int) (l : List PPair) : Nat := l.countP fun p => decide (p.b < n0)
theorem moves_loop (P : List PPair) (hP : P.length ≤ 300) (n0 : Int) (hn : 0 ≤ n0 ∧ n0 ≤ 1000000000) (h : MayOk P n0) :
    ∃ z, whl (fun (s : (Int × List PPair × List PPair × List Int)) => lower_Moves.bd17 s.1 s.2.1 s.2.2.1 s.2.2.2) FUEL (n0, P.filter (fun p => decide (p.a ≠ p.b)), ([] : List PPair), ([] : List Int)) = some z ∧ ∃ b, ∀ V, Und n0 P [] z.1 z.2 b V := by
  have hst : ∀ V, Und n0 P (P.filter fun p => decide (p.a ≠ p.b)) [] [] (-1) V := fun V => Und.start h.1 (fun p hp => (h.2 p hp).1) (fun p hp => (h.2 p hp).2)
  refine whl_ex (σ := Int × List PPair × List PPair × List Int) (fun s => s.1 = n0 + s.2.2.2.length ∧ ∃ b, ∀ V, Und n0 P s.2.1 s.2.2.1 s.2.2.2 b V) (fun s => s.2.1.length + nf n0 s.2.1) (fun (z : List PPair × List Int) => ∃ b, ∀ V, Und n0 P [] z.1 z.2 b V) ?_ FUEL _ ⟨by simp, -1, hst⟩ ?_
  · rintro ⟨c, left, out, fresh⟩ ⟨hc, b, hU⟩
    dsimp only at hc hU ⊢
    have hU0 := hU (fun _ => 0)
    have hfl : 2 * fresh.length ≤ 2 * P.length + 2 := by
      have h1 := hU0.half
      split at h1 <;> split at h1 <;> omega
    have hll : left.length ≤ 2 * P.length + 2 := by
      have h1 := hU0.half
      split at h1 <;> split at h1 <;> omega
    have hol : out.length ≤ P.length + fresh.length := by have := hU0.cnt; omega
    have hlm : left.length ≤ maxLen := le_max (by omega : left.length ≤ 1000) (by omega)
    cases hleft : left with
    | nil =>
      subst hleft
      exact .inl ⟨(out, fresh), by simp [lower_Moves.bd17, len], b, hU⟩
    | cons p0 rest =>
      rw [← hleft]
      have hpos : len left > 0 := by rw [hleft]; simp [len]
      have h0 : left[0]? = some p0 := by rw [hleft]; rfl
      have h0i : idx left 0 = some p0 := by
        have := idx_nat left 0
        rw [h0] at this
        exact this
      obtain ⟨z, hz, hcase⟩ := find_free left hlm
      right
      rcases hcase with ⟨i, p, rfl, hi, hf⟩ | ⟨rfl, hno⟩
      · have hil := (List.getElem?_eq_some_iff.1 hi).1
        have hii : idx left (i : Int) = some p := by rw [idx_nat, hi]
        have hw1 : w64 ((i : Int) + 1) = (i : Int) + 1 := by rw [w64_at hil hlm]; omega
        have hcat : cat out [p] = some (out ++ [p]) := cat_ok (by simp only [LIM, List.length_singleton]; omega)
        have hdel : slices_Delete_2_int_2_int left (i : Int) ((i : Int) + 1) = some (left.eraseIdx i) := by
          unfold slices_Delete_2_int_2_int
          rw [if_pos ⟨by omega, by omega, rfl⟩]; simp
        refine ⟨(c, left.eraseIdx i, out ++ [p], fresh), ?_, ⟨hc, b, fun V => (hU V).emit hi hf⟩, ?_⟩
        · simp only [lower_Moves.bd17, hpos, if_true, hz, Option.bind_some, lower_Moves.nx33]
          rw [if_pos (by omega)]
          simp only [hii, Option.bind_some, hcat, hw1, hdel]
        · have h1 : (left.eraseIdx i).length + 1 = left.length := by rw [List.length_eraseIdx, if_pos hil]; omega
          have h2 : nf n0 (left.eraseIdx i) ≤ nf n0 left := (List.eraseIdx_sublist _ _).countP_le
          show (left.eraseIdx i).length + nf n0 (left.eraseIdx i) < left.length + nf n0 left
          omega
      · have hcat : cat out [(⟨c, p0.b⟩ : PPair)] = some (out ++ [⟨c, p0.b⟩]) := cat_ok (by simp only [LIM, List.length_singleton]; omega)
        have hcat2 : cat fresh [p0.b] = some (fresh ++ [p0.b]) := cat_ok (by simp only [LIM, List.length_singleton]; omega)
        have hw1 : w64 (c + 1) = c + 1 := w64_id ⟨by omega, by omega⟩
        have hren := rename_ok left hlm c p0
        subst hc
        have hsp := fun V => (hU V).split hno h0 hn.1
        refine ⟨(n0 + fresh.length + 1, left.map (renS p0.b (n0 + fresh.length)), out ++ [⟨n0 + fresh.length, p0.b⟩], fresh ++ [p0.b]), ?_, ⟨by simp; omega, p0.b, hsp⟩, ?_⟩
        · simp only [lower_Moves.bd17, hpos, if_true, hz, Option.bind_some, lower_Moves.nx33]
          rw [if_neg (by omega)]
          simp only [h0i, Option.bind_some, hcat, hcat2, hren, lower_Moves.nx52, hw1]
        · have hperm := stuck_perm left hU0.nd hno
          have hp0 : p0 ∈ left := List.mem_of_getElem? h0
          have hp0n : p0.b < n0 := by
            have : p0.b ∈ dsts left := hperm.mem_iff.2 (List.mem_map_of_mem hp0)
            obtain ⟨q', hq', he⟩ := List.mem_map.1 this
            have := (hU0.dIn q' hq').2
            rw [he] at this
            exact this
          have : nf n0 (left.map (renS p0.b (n0 + fresh.length))) < nf n0 left := by
            unfold nf
            rw [List.countP_map]
            refine countP_lt (fun x hx hq => ?_) ⟨p0, hp0, by simpa using hp0n, ?_⟩
            · have hq1 : (renS p0.b (n0 + fresh.length) x).b < n0 := of_decide_eq_true hq
              have e : (renS p0.b (n0 + fresh.length) x).b = if x.b = p0.b then n0 + fresh.length else x.b := rfl
              rw [e] at hq1
              refine decide_eq_true ?_
              split at hq1 <;> omega
            · simp only [Function.comp, renS, if_true, decide_eq_false_iff_not]; omega
          show (left.map (renS p0.b (n0 + fresh.length))).length + nf n0 (left.map (renS p0.b (n0 + fresh.length))) < left.length + nf n0 left
          rw [List.length_map]
          omega
  · have h1 : (P.filter fun p => decide (p.a ≠ p.b)).length ≤ P.length := List.length_filter_le _ _
    have h2 : nf n0 (P.filter fun p => decide (p.a ≠ p.b)) ≤ (P.filter fun p => decide (p.a ≠ p.b)).length := List.countP_le_length
    have hF : (1000 : Nat) < FUEL := lt_FUEL (by simp [maxLen])
    show (P.filter fun p => decide (p.a ≠ p.b)).length + nf n0 (P.filter fun p => decide (p.a ≠ p.b)) < FUEL
    omega
theorem moves_eq (P : List PPair) (hP : P.length ≤ 300) (n0 : Int) (hn : 0 ≤ n0 ∧ n0 ≤ 1000000000) :
    (¬ MayOk P n0 ∧ lower_Moves P n0 = some ([], [], .code 1)) ∨ (MayOk P n0 ∧ ∃ out fresh, lower_Moves P n0 = some (out, fresh, .no) ∧ ∃ b, ∀ V, Und n0 P [] out fresh b V) := by
  have hm := le_max hP (by omega)
  have H : ∃ z, whl (fun (s : (List PPair × Int)) => lower_Moves.bd8 P n0 s.1 s.2) FUEL (([] : List PPair), 0) = some z ∧ ((¬ MayOk P n0 ∧ z = .ret ([], [], .code 1)) ∨ (MayOk P n0 ∧ z = .go (P.filter fun p => decide (p.a ≠ p.b)))) := by
    refine whl_for (σ := List PPair × Int) (s0 := ([], 0)) P.length (fun i s => s.2 = (i : Int) ∧ MayOk (P.take i) n0 ∧ s.1 = (P.take i).filter fun p => decide (p.a ≠ p.b)) (fun (z : Ex (List PPair × List Int × GErr) (List PPair)) => (¬ MayOk P n0 ∧ z = .ret ([], [], .code 1)) ∨ (MayOk P n0 ∧ z = .go (P.filter fun p => decide (p.a ≠ p.b)))) hm ?_ ?_ ⟨rfl, ⟨by simp [dsts], by simp⟩, by simp⟩
    · rintro i ⟨l, k⟩ hi ⟨hk, hM, hl⟩
      dsimp only at hk hM hl
      subst hk
      have hu : upto P (i : Int) = some (P.take i) := by unfold upto; rw [if_pos ⟨by omega, by simp; omega⟩]; simp
      have hcd := contains_dst (P.take i) (le_max (by simp; omega : (P.take i).length ≤ 300) (by omega)) P[i]
      have hpm : P[i] ∈ P := List.getElem_mem hi
      have hdt : dsts (P.take (i + 1)) = dsts (P.take i) ++ [P[i].a] := by unfold dsts; rw [List.take_succ_eq_append_getElem hi, List.map_append]; rfl
      have hsub : ∀ q, q ∈ P.take i → q ∈ P := fun q hq => List.mem_of_mem_take hq
      by_cases hr : ((P[i].a < 0 ∨ P[i].b < 0) ∨ P[i].a ≥ n0) ∨ P[i].b ≥ n0
      · refine .inl ⟨_, by simp only [lower_Moves.bd8, len_lt, hi, if_true, idx_lt hi, Option.bind_some, hr], .inl ⟨fun hM' => ?_, rfl⟩⟩
        have := hM'.2 _ hpm
        omega
      · by_cases hin : P[i].a ∈ dsts (P.take i)
        · refine .inl ⟨_, by simp only [lower_Moves.bd8, len_lt, hi, if_true, idx_lt hi, Option.bind_some, hr, if_false, hu, hcd, hin, decide_true], .inl ⟨fun hM' => ?_, rfl⟩⟩
          have hnd : (dsts (P.take (i + 1))).Nodup := hM'.1.sublist ((List.take_sublist _ _).map _)
          rw [hdt, List.nodup_append] at hnd
          exact hnd.2.2 _ hin _ (by simp) rfl
        · have hM2 : MayOk (P.take (i + 1)) n0 := by
            refine ⟨?_, fun p hp => ?_⟩
            · rw [hdt, List.nodup_append]
              exact ⟨hM.1, by simp, fun x hx y hy hxy => by rw [List.mem_singleton.1 hy] at hxy; subst hxy; exact hin hx⟩
            · rw [List.take_succ_eq_append_getElem hi] at hp
              rcases List.mem_append.1 hp with hp | hp
              · exact hM.2 p hp
              · rw [List.mem_singleton.1 hp]; omega
          have hfl : l.length ≤ 1000 := by
            have h1 : ((P.take i).filter fun p => decide (p.a ≠ p.b)).length ≤ (P.take i).length := List.length_filter_le _ _
            have h2 : (P.take i).length ≤ P.length := by simp; omega
            rw [hl]; omega
          have hcat : cat l [P[i]] = some (l ++ [P[i]]) := cat_one hfl
          by_cases hne : P[i].a = P[i].b
          · refine .inr ⟨(l, ((i + 1 : Nat) : Int)), by simp only [lower_Moves.bd8, len_lt, hi, if_true, idx_lt hi, Option.bind_some, hr, if_false, hu, hcd, hin, decide_false, Bool.false_eq_true]; rw [if_neg (fun h => h hne)]; simp only [lower_Moves.jn91, w64_at hi hm], rfl, hM2, ?_⟩
            dsimp only
            rw [List.take_succ_eq_append_getElem hi, List.filter_append, ← hl]
            simp [hne]
          · refine .inr ⟨(l ++ [P[i]], ((i + 1 : Nat) : Int)), by simp only [lower_Moves.bd8, len_lt, hi, if_true, idx_lt hi, Option.bind_some, hr, if_false, hu, hcd, hin, decide_false, Bool.false_eq_true, hne, not_false_eq_true, hcat, lower_Moves.jn91, w64_at hi hm], rfl, hM2, ?_⟩
            dsimp only
            rw [List.take_succ_eq_append_getElem hi, List.filter_append, ← hl]
            simp [hne]
    · rintro ⟨l, k⟩ ⟨hk, hM, hl⟩
      dsimp only at hk hM hl
      subst hk
      rw [List.take_length] at hM hl
      subst hl
      exact ⟨_, by simp [lower_Moves.bd8, len]; rfl, .inr ⟨hM, by simp⟩⟩
  obtain ⟨z, hz, ⟨h1, rfl⟩ | ⟨h1, rfl⟩⟩ := H
  · exact .inl ⟨h1, by simp only [lower_Moves, hz, Option.bind_some]⟩
  · obtain ⟨⟨out, fresh⟩, hw, hU⟩ := moves_loop P hP n0 hn h1
    exact .inr ⟨h1, out, fresh, by simp only [lower_Moves, hz, Option.bind_some, lower_Moves.nx8, hw, lower_Moves.nx17], hU⟩
theorem may_eq (P : List PPair) (hP : P.length ≤ 300) (n0 : Int) : ∃ b, fettleref14_May P n0 = some b ∧ (b = true ↔ MayOk P n0) := by
  have hm := le_max hP (by omega)
  have hin : ∀ i (hi : i < P.length), ∃ z, whl (fun (s : Int) => fettleref14_May.bd24 P n0 (i : Int) s) FUEL 0 = some z ∧ ((z = .ret false ∧ ¬ ((0 ≤ P[i].a ∧ P[i].a < n0) ∧ 0 ≤ P[i].b ∧ P[i].b < n0)) ∨ (z = .go () ∧ ((0 ≤ P[i].a ∧ P[i].a < n0) ∧ 0 ≤ P[i].b ∧ P[i].b < n0))) := by
    intro i hi
    have b0 : fettleref14_May.bd24 P n0 (i : Int) 0 = if P[i].a < 0 ∨ P[i].a ≥ n0 then some (.ret (.ret false)) else some (.go 1) := by
      unfold fettleref14_May.bd24
      rw [if_pos (by decide)]
      simp only [idx_lt hi, Option.bind_some, show pget P[i].a P[i].b 0 = some P[i].a from rfl, show w64 (0 + 1) = 1 from rfl]
      by_cases h1 : P[i].a < 0 <;> by_cases h2 : P[i].a ≥ n0 <;> simp [h1, h2]
    have b1 : fettleref14_May.bd24 P n0 (i : Int) 1 = if P[i].b < 0 ∨ P[i].b ≥ n0 then some (.ret (.ret false)) else some (.go 2) := by
      unfold fettleref14_May.bd24
      rw [if_pos (by decide)]
      simp only [idx_lt hi, Option.bind_some, show pget P[i].a P[i].b 1 = some P[i].b from rfl, show w64 (1 + 1) = 2 from rfl]
      by_cases h1 : P[i].b < 0 <;> by_cases h2 : P[i].b ≥ n0 <;> simp [h1, h2]
    have b2 : fettleref14_May.bd24 P n0 (i : Int) 2 = some (.ret (.go ())) := by
      unfold fettleref14_May.bd24
      rw [if_neg (by decide)]
    obtain ⟨k, hk⟩ : ∃ k, FUEL = k + 1 + 1 + 1 := ⟨FUEL - 3, by have hF : (1000 : Nat) < FUEL := lt_FUEL (by simp [maxLen]); omega⟩
    rw [hk]
    by_cases ha : P[i].a < 0 ∨ P[i].a ≥ n0
    · rw [if_pos ha] at b0
      exact ⟨.ret false, by simp only [whl, b0, Option.bind_some], .inl ⟨rfl, by omega⟩⟩
    rw [if_neg ha] at b0
    by_cases hb : P[i].b < 0 ∨ P[i].b ≥ n0
    · rw [if_pos hb] at b1
      exact ⟨.ret false, by simp only [whl, b0, b1, Option.bind_some], .inl ⟨rfl, by omega⟩⟩
    rw [if_neg hb] at b1
    exact ⟨.go (), by simp only [whl, b0, b1, b2, Option.bind_some], .inr ⟨rfl, by omega⟩⟩
  have hdup : ∀ i (hi : i < P.length), ∃ z, whl (fun (s : Int) => fettleref14_May.bd31 P (i : Int) s) FUEL 0 = some z ∧ ((z = .ret false ∧ P[i].a ∈ dsts (P.take i)) ∨ (z = .go () ∧ P[i].a ∉ dsts (P.take i))) := by
    intro i hi
    refine whl_for (σ := Int) (s0 := 0) i (fun j s => s = (j : Int) ∧ ∀ k, k < j → ∀ (h : k < P.length), P[k].a ≠ P[i].a) (fun (z : Ex Bool Unit) => (z = .ret false ∧ P[i].a ∈ dsts (P.take i)) ∨ (z = .go () ∧ P[i].a ∉ dsts (P.take i))) (by omega) ?_ ?_ ⟨rfl, fun k h => by omega⟩
    · rintro j s hj ⟨rfl, hI⟩
      have hjl : j < P.length := by omega
      have hlt : ((j : Int) < (i : Int)) := by omega
      by_cases he : P[j].a = P[i].a
      · refine .inl ⟨_, by simp only [fettleref14_May.bd31, hlt, if_true, idx_lt hjl, idx_lt hi, Option.bind_some, he], .inl ⟨rfl, ?_⟩⟩
        rw [← he]
        exact List.mem_map_of_mem (List.mem_of_getElem? (l := P.take i) (i := j) (by rw [List.getElem?_take_of_lt hj, List.getElem?_eq_getElem hjl]))
      · refine .inr ⟨((j + 1 : Nat) : Int), by simp only [fettleref14_May.bd31, hlt, if_true, idx_lt hjl, idx_lt hi, Option.bind_some, he, if_false, w64_at hjl hm], rfl, fun k hk h => ?_⟩
        rcases Nat.lt_or_ge k j with h' | h'
        · exact hI k h' h
        · have : k = j := by omega
          subst this; exact he
    · rintro s ⟨rfl, hI⟩
      refine ⟨_, by simp [fettleref14_May.bd31]; rfl, .inr ⟨by simp, fun h => ?_⟩⟩
      obtain ⟨q, hq, he⟩ := List.mem_map.1 h
      obtain ⟨k, hk, rfl⟩ := List.getElem_of_mem hq
      have hk' : k < i := by rw [List.length_take] at hk; omega
      have hkl : k < P.length := by omega
      rw [List.getElem_take] at he
      exact hI k hk' hkl he
  have H : ∃ z, whl (fun (s : Int) => fettleref14_May.bd8 P n0 s) FUEL 0 = some z ∧ ((z = .ret false ∧ ¬ MayOk P n0) ∨ (z = .go () ∧ MayOk P n0)) := by
    refine whl_for (σ := Int) (s0 := 0) P.length (fun i s => s = (i : Int) ∧ MayOk (P.take i) n0) (fun (z : Ex Bool Unit) => (z = .ret false ∧ ¬ MayOk P n0) ∨ (z = .go () ∧ MayOk P n0)) hm ?_ ?_ ⟨rfl, by simp [dsts], by simp⟩
    · rintro i s hi ⟨rfl, hM⟩
      have hdt : dsts (P.take (i + 1)) = dsts (P.take i) ++ [P[i].a] := by unfold dsts; rw [List.take_succ_eq_append_getElem hi, List.map_append]; rfl
      obtain ⟨z, hz, ⟨rfl, h1⟩ | ⟨rfl, h1⟩⟩ := hin i hi
      · exact .inl ⟨_, by simp only [fettleref14_May.bd8, len_lt, hi, if_true, hz, Option.bind_some], .inl ⟨rfl, fun hM' => h1 (hM'.2 _ (List.getElem_mem hi))⟩⟩
      · obtain ⟨z, hz2, ⟨rfl, h2⟩ | ⟨rfl, h2⟩⟩ := hdup i hi
        · refine .inl ⟨_, by simp only [fettleref14_May.bd8, len_lt, hi, if_true, hz, Option.bind_some, fettleref14_May.nx24, hz2], .inl ⟨rfl, fun hM' => ?_⟩⟩
          have hnd : (dsts (P.take (i + 1))).Nodup := hM'.1.sublist ((List.take_sublist _ _).map _)
          rw [hdt, List.nodup_append] at hnd
          exact hnd.2.2 _ h2 _ (by simp) rfl
        · refine .inr ⟨((i + 1 : Nat) : Int), by simp only [fettleref14_May.bd8, len_lt, hi, if_true, hz, Option.bind_some, fettleref14_May.nx24, hz2, fettleref14_May.nx31, w64_at hi hm], rfl, ?_, fun p hp => ?_⟩
          · rw [hdt, List.nodup_append]
            exact ⟨hM.1, by simp, fun x hx y hy hxy => by rw [List.mem_singleton.1 hy] at hxy; subst hxy; exact h2 hx⟩
          · rw [List.take_succ_eq_append_getElem hi] at hp
            rcases List.mem_append.1 hp with hp | hp
            · exact hM.2 p hp
            · rw [List.mem_singleton.1 hp]; exact h1
    · rintro s ⟨rfl, hM⟩
      rw [List.take_length] at hM
      exact ⟨_, by simp [fettleref14_May.bd8, len]; rfl, .inr ⟨by simp, hM⟩⟩
  obtain ⟨z, hz, ⟨rfl, h1⟩ | ⟨rfl, h1⟩⟩ := H
  · exact ⟨false, by simp only [fettleref14_May, hz, Option.bind_some], by simp [h1]⟩
  · exact ⟨true, by simp only [fettleref14_May, hz, Option.bind_some, fettleref14_May.nx8], by simp [h1]⟩
end Go.Proofs.Ytpmcbahahjelnaa
