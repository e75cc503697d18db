/- Plain laws, part E: the walk in depth. No conditions. -/
import Derived.Test.YtoflleabpkgdpaaQuD
import Derived.Test.YtoflleabpkgdpaaS6
set_option linter.unusedVariables false
set_option linter.unusedSimpArgs false
namespace Go.Proofs.Ytoflleabpkgdpaa
open Go Go.Proofs

/-! ### Lists of flags -/
/-! ### What a part of the walk does -/
inductive Reach (nx : List (List Int)) : Nat → Nat → Prop
  | refl (v : Nat) : Reach nx v v
  | step {u v w : Nat} {row : List Int} : Reach nx u v → nx[v]? = some row → (w : Int) ∈ row → Reach nx u w
theorem Reach.trans {nx : List (List Int)} {u v w : Nat} (h : Reach nx u v) (k : Reach nx v w) : Reach nx u w := by
  induction k with
  | refl => exact h
  | step _ g5 g6 ih => exact .step ih g5 g6
structure V (nx : List (List Int)) (roots : Nat → Prop) (s : List Bool) (o : List Int) (s' : List Bool) (o' : List Int) : Prop where
  len : s'.length = s.length
  mono : ∀ v : Nat, s[v]? = some true → s'[v]? = some true
  cnt : o'.length + cnt s' ≤ o.length + cnt s
  app : ∃ new : List Int, o' = o ++ new ∧ new.Nodup ∧ ∀ x, x ∈ new ↔ ∃ v : Nat, x = v ∧ s'[v]? = some true ∧ s[v]? = some false
  clos : ∀ (v w : Nat) (row : List Int), s'[v]? = some true → s[v]? = some false → nx[v]? = some row → (w : Int) ∈ row → s'[w]? = some true
  reach : ∀ v : Nat, s'[v]? = some true → s[v]? = some false → ∃ r, roots r ∧ Reach nx r v
theorem V.refl (nx : List (List Int)) (roots : Nat → Prop) (s : List Bool) (o : List Int) : V nx roots s o s o :=
  ⟨rfl, fun _ h => h, Nat.le_refl _, ⟨[], by simp, List.nodup_nil, fun x => ⟨fun h => by simp at h, fun ⟨v, _, h1, h2⟩ => (by rw [h1] at h2; cases h2)⟩⟩, fun v w row h1 h2 => (by rw [h1] at h2; cases h2), fun v h1 h2 => (by rw [h1] at h2; cases h2)⟩
theorem V.flag {nx : List (List Int)} {roots : Nat → Prop} {s s' : List Bool} {o o' : List Int} (h : V nx roots s o s' o') {v : Nat} (h' : s'[v]? = some true) : s[v]? = some true ∨ s[v]? = some false := by
  have hlt : v < s.length := by rw [← h.len]; exact (List.getElem?_eq_some_iff.1 h').1
  rw [List.getElem?_eq_getElem hlt]
  cases s[v] <;> simp
theorem V.trans {nx : List (List Int)} {roots : Nat → Prop} {s s1 s2 : List Bool} {o o1 o2 : List Int} (h : V nx roots s o s1 o1) (k : V nx roots s1 o1 s2 o2) : V nx roots s o s2 o2 := by
  obtain ⟨n1, rfl, hn1, hm1⟩ := h.app
  obtain ⟨n2, rfl, hn2, hm2⟩ := k.app
  refine ⟨k.len.trans h.len, fun v hv => k.mono v (h.mono v hv), Nat.le_trans k.cnt h.cnt, ⟨n1 ++ n2, by simp, ?_, fun x => ?_⟩, fun v w row h1 h2 h3 h4 => ?_, fun v h1 h2 => ?_⟩
  · rw [List.nodup_append]
    refine ⟨hn1, hn2, fun x hx y hy hxy => ?_⟩
    subst hxy
    obtain ⟨v, rfl, g1, _⟩ := (hm1 x).1 hx
    obtain ⟨w, hw, _, g2⟩ := (hm2 _).1 hy
    have : v = w := by omega
    subst this
    rw [g1] at g2; cases g2
  · rw [List.mem_append]
    constructor
    · rintro (hx | hx)
      · obtain ⟨v, rfl, g1, g2⟩ := (hm1 x).1 hx
        exact ⟨v, rfl, k.mono v g1, g2⟩
      · obtain ⟨v, rfl, g1, g2⟩ := (hm2 x).1 hx
        refine ⟨v, rfl, g1, ?_⟩
        have hlt : v < s.length := by rw [← h.len]; exact (List.getElem?_eq_some_iff.1 g2).1
        cases hs : s[v] with
        | true => have := h.mono v (by rw [List.getElem?_eq_getElem hlt, hs]); rw [this] at g2; cases g2
        | false => rw [List.getElem?_eq_getElem hlt, hs]
    · rintro ⟨v, rfl, g1, g2⟩
      rcases k.flag g1 with g3 | g3
      · exact .inl ((hm1 _).2 ⟨v, rfl, g3, g2⟩)
      · exact .inr ((hm2 _).2 ⟨v, rfl, g1, g3⟩)
  · rcases k.flag h1 with g3 | g3
    · exact k.mono w (h.clos v w row g3 h2 h3 h4)
    · exact k.clos v w row h1 g3 h3 h4
  · rcases k.flag h1 with g3 | g3
    · exact h.reach v g3 h2
    · exact k.reach v h1 g3
/-! ### One call -/
theorem walk_ok (nx : List (List Int)) (hN : nx.length ≤ 70) (hrow : ∀ (v : Nat) (row : List Int), nx[v]? = some row → row.length ≤ 70 ∧ ∀ x ∈ row, 0 ≤ x ∧ x < (nx.length : Int)) :
    ∀ (k b : Nat) (s : List Bool) (o : List Int), s.length = nx.length → s[b]? = some false → cnt s < k → o.length + cnt s ≤ 70 →
      ∃ s' o', graph_order_1.it k b s nx o = some (s', o') ∧ V nx (· = b) s o s' o' ∧ s'[b]? = some true
  | 0, b, s, o, _, _, hk, _ => by omega
  | k + 1, b, s, o, hl, hb, hk, ho => by
    have hbl : b < s.length := (List.getElem?_eq_some_iff.1 hb).1
    have hbn : b < nx.length := by omega
    obtain ⟨hr1, hr2⟩ := hrow b nx[b] (List.getElem?_eq_getElem hbn)
    have hc := cnt_set s b hb
    have hl0 : (s.set b true).length = nx.length := by simp [hl]
    -- the loop over what b leads to
    have hloop : ∃ z : List Bool × List Int, whl (fun (q : List Bool × List Int × Int) => graph_order_1.bd21 nx (graph_order_1.it k) nx[b] q.1 q.2.1 q.2.2) FUEL (s.set b true, o, 0) = some z ∧
        V nx (fun r => (r : Int) ∈ nx[b]) (s.set b true) o z.1 z.2 ∧ ∀ x ∈ nx[b], ∃ v : Nat, x = v ∧ z.1[v]? = some true := by
      refine whl_ex (fun q : List Bool × List Int × Int => ∃ i : Nat, q.2.2 = i ∧ i ≤ nx[b].length ∧ V nx (fun r => (r : Int) ∈ nx[b]) (s.set b true) o q.1 q.2.1 ∧ ∀ x ∈ nx[b].take i, ∃ v : Nat, x = v ∧ q.1[v]? = some true)
        (fun q => nx[b].length - q.2.2.toNat) (fun z : List Bool × List Int => V nx (fun r => (r : Int) ∈ nx[b]) (s.set b true) o z.1 z.2 ∧ ∀ x ∈ nx[b], ∃ v : Nat, x = v ∧ z.1[v]? = some true) ?_ FUEL _ ⟨0, rfl, Nat.zero_le _, V.refl _ _ _ _, by simp⟩ (by simp; exact lt_FUEL (by simp only [maxLen]; omega))
      rintro ⟨s1, o1, j⟩ ⟨i, rfl, hi, hV, hseen⟩
      simp only at hV hseen ⊢
      by_cases hlt : i < nx[b].length
      · right
        have hx := hr2 _ (List.getElem_mem hlt)
        obtain ⟨t, ht⟩ : ∃ t : Nat, nx[b][i] = t := ⟨(nx[b][i]).toNat, by omega⟩
        have htl : t < s1.length := by rw [hV.len, hl0]; omega
        simp only [graph_order_1.bd21, len_lt, hlt, if_true, idx_lt hlt, Option.bind_some, ht, idx_lt htl]
        cases hf : s1[t] with
        | true =>
          refine ⟨(s1, o1, ((i + 1 : Nat) : Int)), by simp [graph_order_1.jn43, w64_at hlt (show nx[b].length ≤ maxLen by simp only [maxLen]; omega)], ⟨i + 1, rfl, hlt, hV, fun x hx' => ?_⟩, by simp; omega⟩
          rw [List.take_succ_eq_append_getElem hlt, List.mem_append] at hx'
          rcases hx' with hx' | hx'
          · exact hseen x hx'
          · simp only [List.mem_singleton] at hx'
            exact ⟨t, hx'.trans ht, by rw [List.getElem?_eq_getElem htl, hf]⟩
        | false =>
          have hcm := cnt_mono (s.set b true) s1 (by rw [hV.len]) hV.mono
          have hvc := hV.cnt
          obtain ⟨s2, o2, h1, h2, h3⟩ := walk_ok nx hN hrow k t s1 o1 (by rw [hV.len]; exact hl0) (by rw [List.getElem?_eq_getElem htl, hf]) (by omega) (by omega)
          have hV2 : V nx (fun r => (r : Int) ∈ nx[b]) s1 o1 s2 o2 := ⟨h2.len, h2.mono, h2.cnt, h2.app, h2.clos, fun v g1 g2 => by
            obtain ⟨r, rfl, g3⟩ := h2.reach v g1 g2
            exact ⟨r, by rw [← ht]; exact List.getElem_mem hlt, g3⟩⟩
          refine ⟨(s2, o2, ((i + 1 : Nat) : Int)), by simp [h1, graph_order_1.jn43, w64_at hlt (show nx[b].length ≤ maxLen by simp only [maxLen]; omega)], ⟨i + 1, rfl, hlt, hV.trans hV2, fun x hx' => ?_⟩, by simp; omega⟩
          rw [List.take_succ_eq_append_getElem hlt, List.mem_append] at hx'
          rcases hx' with hx' | hx'
          · obtain ⟨v, rfl, g⟩ := hseen x hx'
            exact ⟨v, rfl, hV2.mono v g⟩
          · simp only [List.mem_singleton] at hx'
            exact ⟨t, hx'.trans ht, h3⟩
      · left
        have hie : i = nx[b].length := by omega
        refine ⟨(s1, o1), by simp [graph_order_1.bd21, len, hie], hV, fun x hx' => hseen x (by rw [hie, List.take_length]; exact hx')⟩
    obtain ⟨⟨s2, o2⟩, hw, hV, hall⟩ := hloop
    simp only at hV hall
    have hvc := hV.cnt
    have h2 : o2.length + 1 < LIM := by simp only [LIM]; omega
    refine ⟨s2, o2 ++ [(b : Int)], ?_, ?_, hV.mono b (by rw [get_set _ _ _ hbl, if_pos rfl])⟩
    · simp only [graph_order_1.it, graph_order_1.body, idx_lt hbl, idx_lt hbn, Option.bind_some, Int.toNat_natCast]
      rw [hw]
      simp [graph_order_1.nx21, cat, h2]
    · have hs0 : ∀ v : Nat, s[v]? = some true → (s.set b true)[v]? = some true := fun v hv => by rw [get_set _ _ _ hbl]; split <;> simp_all
      obtain ⟨new, rfl, hn, hm⟩ := hV.app
      have hbt : s2[b]? = some true := hV.mono b (by rw [get_set _ _ _ hbl, if_pos rfl])
      refine ⟨hV.len.trans (by simp), fun v hv => hV.mono v (hs0 v hv), by simp only [List.length_append, List.length_singleton] at hvc ⊢; omega, ⟨new ++ [(b : Int)], by simp, ?_, fun x => ?_⟩, fun v w row g1 g2 g3 g4 => ?_, fun v g1 g2 => ?_⟩
      · rw [List.nodup_append]
        refine ⟨hn, by simp, fun x hx y hy hxy => ?_⟩
        simp only [List.mem_singleton] at hy
        subst hxy hy
        obtain ⟨v, hv, _, g⟩ := (hm _).1 hx
        have : v = b := by omega
        subst this
        rw [get_set _ _ _ hbl, if_pos rfl] at g; cases g
      · rw [List.mem_append, List.mem_singleton, hm]
        constructor
        · rintro (⟨v, rfl, g1, g2⟩ | rfl)
          · rw [get_set _ _ _ hbl] at g2
            split at g2
            · cases g2
            · exact ⟨v, rfl, g1, g2⟩
          · exact ⟨b, rfl, hbt, hb⟩
        · rintro ⟨v, rfl, g1, g2⟩
          by_cases hvb : b = v
          · exact .inr (by rw [hvb])
          · exact .inl ⟨v, rfl, g1, by rw [get_set _ _ _ hbl, if_neg hvb]; exact g2⟩
      · by_cases hvb : b = v
        · subst hvb
          rw [List.getElem?_eq_getElem hbn] at g3
          cases g3
          obtain ⟨w', hw', g⟩ := hall _ g4
          have : w = w' := by omega
          subst this; exact g
        · exact hV.clos v w row g1 (by rw [get_set _ _ _ hbl, if_neg hvb]; exact g2) g3 g4
      · by_cases hvb : b = v
        · exact ⟨b, rfl, hvb ▸ .refl b⟩
        · obtain ⟨r, g3, g4⟩ := hV.reach v g1 (by rw [get_set _ _ _ hbl, if_neg hvb]; exact g2)
          refine ⟨b, rfl, ?_⟩
          have h0 : Reach nx b r := .step (.refl b) (List.getElem?_eq_getElem hbn) g3
          exact h0.trans g4
end Go.Proofs.Ytoflleabpkgdpaa
