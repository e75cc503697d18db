/- Layer 9, part E: the waves. No conditions. -/
import Derived.Test.YteaknconpkklhaaPqD
set_option linter.unusedVariables false
set_option linter.unusedSimpArgs false
namespace Go.Proofs.Yteaknconpkklhaa
open Go Go.Proofs

variable {N : Nat} {C R : List (List Int)}
theorem RingsOk.heads (h : RingsOk N C R) : R.Pairwise (fun a b => byF a ≠ byF b) := by
  have hnd := h.nd
  unfold List.Nodup at hnd
  rw [List.pairwise_flatten] at hnd
  refine hnd.2.imp_of_mem fun {a b} ha hb hab => ?_
  have ha' := h.ne a ha
  have hb' := h.ne b hb
  cases a with
  | nil => exact absurd rfl ha'
  | cons x a =>
    cases b with
    | nil => exact absurd rfl hb'
    | cons y b => exact hab x (List.mem_cons_self ..) y (List.mem_cons_self ..)
theorem RingsOk.one (h : RingsOk N C R) {i j : Nat} {p q : List Int} (hi : R[i]? = some p) (hj : R[j]? = some q) {x : Int} (hp : x ∈ p) (hq : x ∈ q) : i = j := by
  have hnd := h.nd
  unfold List.Nodup at hnd
  rw [List.pairwise_flatten] at hnd
  have hw := List.pairwise_iff_getElem.1 hnd.2
  obtain ⟨i1, i2⟩ := List.getElem?_eq_some_iff.1 hi
  obtain ⟨j1, j2⟩ := List.getElem?_eq_some_iff.1 hj
  rcases Nat.lt_trichotomy i j with h | h | h
  · exact absurd rfl (hw i j i1 j1 h x (by rw [i2]; exact hp) x (by rw [j2]; exact hq))
  · exact h
  · exact absurd rfl (hw j i j1 i1 h x (by rw [j2]; exact hq) x (by rw [i2]; exact hp))
theorem dis_of : ∀ (l : List Int), l.Pairwise (fun a b => a ≠ b) → dis l = true
  | [], _ => rfl
  | x :: l, h => by
    rw [List.pairwise_cons] at h
    simp only [dis, Bool.and_eq_true, List.all_eq_true, decide_eq_true_eq]
    exact ⟨h.1, dis_of l h.2⟩
theorem sortF_eq (h : RingsOk N C R) (hN : N ≤ 40) {l : List (List Int)} (hl : l.Sublist R) : slices_SortFunc_int_int_calls_byFirst l = some (rsort l) := by
  unfold slices_SortFunc_int_int_calls_byFirst
  rw [if_pos]
  rw [Bool.and_eq_true, List.all_eq_true]
  refine ⟨fun r hr => ?_, dis_of _ (by rw [List.pairwise_map]; exact h.heads.sublist hl)⟩
  have hr' := hl.subset hr
  have hne := h.ne r hr'
  cases r with
  | nil => exact absurd rfl hne
  | cons x r =>
    have := (h.all x).1 ⟨_, hr', List.mem_cons_self ..⟩
    unfold ok at this
    simp only [okRow, Bool.and_eq_true, decide_eq_true_eq]
    omega

/-! ### A ring's wave -/
theorem contains_dec (a : List Int) (x : Int) (hl : a.length ≤ 1000) : slices_Contains a x = some (decide (x ∈ a)) := contains_eq a x (le_max hl (by omega))
theorem ringW_in (wave r row : List Int) (hr : r.length ≤ 1000) (hrow : row.length ≤ 1000) (hw : wave.length = N) (hro : ∀ c, c ∈ row → ok N c) (hb : ∀ x, 0 ≤ nu wave x ∧ nu wave x ≤ 1000) (w0 : Int) :
    ∃ w, whl (fun (s : (Int × Int)) => calls_Waves.bd107 wave r row s.1 s.2) FUEL (w0, 0) = some w ∧ w0 ≤ w ∧ (∀ c, c ∈ row → c ∉ r → nu wave c + 1 ≤ w) ∧ (w = w0 ∨ ∃ c, c ∈ row ∧ c ∉ r ∧ w = nu wave c + 1) := by
  refine whl_for row.length (fun k s => ∃ w, s = (w, (k : Int)) ∧ w0 ≤ w ∧ (∀ c, c ∈ row.take k → c ∉ r → nu wave c + 1 ≤ w) ∧ (w = w0 ∨ ∃ c, c ∈ row ∧ c ∉ r ∧ w = nu wave c + 1)) _ (le_max hrow (by omega)) ?_ ?_ ⟨w0, rfl, Int.le_refl _, by simp, .inl rfl⟩
  · rintro k s hk ⟨w, rfl, h1, h2, h3⟩
    have hc := hro row[k] (List.getElem_mem hk)
    have e1 := idx_nu (l := wave) (x := row[k]) (by rw [hw]; exact hc)
    have hb' := hb row[k]
    have e2 : w64 (nu wave row[k] + 1) = nu wave row[k] + 1 := w64_id ⟨by omega, by omega⟩
    have hmt : ∀ c, c ∈ row.take (k + 1) ↔ c ∈ row.take k ∨ c = row[k] := fun c => by rw [List.take_succ_eq_append_getElem hk, List.mem_append, List.mem_singleton]
    by_cases hm : row[k] ∈ r
    · refine .inr ⟨(w, ((k + 1 : Nat) : Int)), ?_, w, rfl, h1, fun c hc hcr => ?_, h3⟩
      · simp [calls_Waves.bd107, len_lt, hk, idx_lt hk, contains_dec r _ hr, hm, calls_Waves.jn117, w64_i hk hrow]
      · rcases (hmt c).1 hc with h | h
        · exact h2 c h hcr
        · exact absurd (h ▸ hm) hcr
    · refine .inr ⟨(if w < nu wave row[k] + 1 then nu wave row[k] + 1 else w, ((k + 1 : Nat) : Int)), ?_, _, rfl, by split <;> omega, fun c hc hcr => ?_, ?_⟩
      · have e3 : (!decide (row[k] ∈ r)) = true := by simp [hm]
        simp only [calls_Waves.bd107, len_lt, hk, if_true, idx_lt hk, Option.bind_some, contains_dec r _ hr, e3, e1, e2, calls_Waves.jn117, w64_i hk hrow]
      · rcases (hmt c).1 hc with h | h
        · have := h2 c h hcr; split <;> omega
        · subst h; split <;> omega
      · by_cases hlt : w < nu wave row[k] + 1
        · rw [if_pos hlt]; exact .inr ⟨_, List.getElem_mem hk, hm, rfl⟩
        · rw [if_neg hlt]; exact h3
  · rintro s ⟨w, rfl, h1, h2, h3⟩
    rw [List.take_length] at h2
    exact ⟨w, by simp [calls_Waves.bd107, len], h1, h2, h3⟩

theorem ringW (wave r : List Int) (hC : C.length = N) (hCo : ∀ x, ok N x → ∀ c, c ∈ cs C x → ok N c) (hCl : ∀ x, (cs C x).length ≤ 1000) (hr : r.length ≤ 1000) (hro : ∀ c, c ∈ r → ok N c) (hw : wave.length = N) (hb : ∀ x, 0 ≤ nu wave x ∧ nu wave x ≤ 1000) :
    ∃ w, whl (fun (s : (Int × Int)) => calls_Waves.bd51 C wave r s.1 s.2) FUEL (0, 0) = some w ∧ 0 ≤ w ∧ (∀ x, x ∈ r → ∀ c, c ∈ cs C x → c ∉ r → nu wave c + 1 ≤ w) ∧ (w = 0 ∨ ∃ x, x ∈ r ∧ ∃ c, c ∈ cs C x ∧ c ∉ r ∧ w = nu wave c + 1) := by
  refine whl_for r.length (fun k s => ∃ w, s = (w, (k : Int)) ∧ 0 ≤ w ∧ (∀ x, x ∈ r.take k → ∀ c, c ∈ cs C x → c ∉ r → nu wave c + 1 ≤ w) ∧ (w = 0 ∨ ∃ x, x ∈ r ∧ ∃ c, c ∈ cs C x ∧ c ∉ r ∧ w = nu wave c + 1)) _ (le_max hr (by omega)) ?_ ?_ ⟨0, rfl, Int.le_refl _, by simp, .inl rfl⟩
  · rintro k s hk ⟨w, rfl, h1, h2, h3⟩
    have hc := hro r[k] (List.getElem_mem hk)
    have e1 := idx_cs (l := C) (x := r[k]) (by rw [hC]; exact hc)
    obtain ⟨w', g1, g2, g3, g4⟩ := ringW_in (N := N) wave r (cs C r[k]) hr (hCl _) hw (hCo _ hc) hb w
    refine .inr ⟨(w', ((k + 1 : Nat) : Int)), ?_, w', rfl, by omega, fun x hx c hc hcr => ?_, ?_⟩
    · simp only [calls_Waves.bd51, len_lt, hk, if_true, idx_lt hk, Option.bind_some, e1, g1, calls_Waves.nx107, w64_i hk hr]
    · rw [List.take_succ_eq_append_getElem hk, List.mem_append, List.mem_singleton] at hx
      rcases hx with h | h
      · have := h2 x h c hc hcr; omega
      · subst h; exact g3 c hc hcr
    · rcases g4 with e | ⟨c, c1, c2, c3⟩
      · rw [e]; exact h3
      · exact .inr ⟨_, List.getElem_mem hk, c, c1, c2, c3⟩
  · rintro s ⟨w, rfl, h1, h2, h3⟩
    rw [List.take_length] at h2
    exact ⟨w, by simp [calls_Waves.bd51, len], h1, h2, h3⟩

theorem mark_ok (wave r : List Int) (w : Int) (hr : r.length ≤ 1000) (hro : ∀ c, c ∈ r → ok N c) (hw : wave.length = N) :
    ∃ o, whl (fun (s : (List Int × Int)) => calls_Waves.bd60 r w s.1 s.2) FUEL (wave, 0) = some o ∧ o.length = N ∧ ∀ x, ok N x → nu o x = if x ∈ r then w else nu wave x := by
  refine whl_for r.length (fun k s => ∃ o, s = (o, (k : Int)) ∧ o.length = N ∧ ∀ x, ok N x → nu o x = if x ∈ r.take k then w else nu wave x) _ (le_max hr (by omega)) ?_ ?_ ⟨wave, rfl, hw, fun x _ => by simp⟩
  · rintro k s hk ⟨o, rfl, ho, hx⟩
    have hc := hro r[k] (List.getElem_mem hk)
    refine .inr ⟨(o.set (r[k]).toNat w, ((k + 1 : Nat) : Int)), ?_, _, rfl, by simp [ho], fun x hxo => ?_⟩
    · simp only [calls_Waves.bd60, len_lt, hk, if_true, idx_lt hk, Option.bind_some, idx_nu (show ok o.length r[k] by rw [ho]; exact hc), w64_i hk hr]
    · have hmt : x ∈ r.take (k + 1) ↔ x ∈ r.take k ∨ x = r[k] := by rw [List.take_succ_eq_append_getElem hk, List.mem_append, List.mem_singleton]
      rw [nu_set (by rw [ho]; exact hc) (by rw [ho]; exact hxo), hx x hxo]
      by_cases e : x = r[k]
      · rw [if_pos e, if_pos (hmt.2 (.inr e))]
      · rw [if_neg e]
        by_cases h : x ∈ r.take k
        · rw [if_pos h, if_pos (hmt.2 (.inl h))]
        · rw [if_neg h, if_neg (fun h' => (hmt.1 h').elim h e)]
  · rintro s ⟨o, rfl, ho, hx⟩
    rw [List.take_length] at hx
    exact ⟨o, by simp [calls_Waves.bd60, len], ho, hx⟩

theorem room_ok (out : List (List (List Int))) (w : Nat) (hw : w ≤ out.length) (hl : out.length ≤ 1000) :
    whl (fun (s : (List (List (List Int)))) => calls_Waves.bd69 (w : Int) s) FUEL out = some (if out.length = w then out ++ [[]] else out) := by
  obtain ⟨k, hk⟩ : ∃ k, FUEL = k + 2 := by
    have : 1 < FUEL := lt_FUEL (by simp only [maxLen]; omega)
    exact ⟨FUEL - 2, by omega⟩
  rw [hk]
  by_cases e : out.length = w
  · have e1 : ((out.length : Int) ≤ (w : Int)) := by omega
    have e2 : ¬ (((out ++ [[]]).length : Int) ≤ (w : Int)) := by simp only [List.length_append, List.length_singleton]; omega
    rw [if_pos e]
    simp only [whl, calls_Waves.bd69, len, e1, if_true, cat_one (show out.length ≤ 1000 by omega), Option.bind_some, e2, if_false]
  · have e1 : ¬ ((out.length : Int) ≤ (w : Int)) := by omega
    rw [if_neg e]
    simp only [whl, calls_Waves.bd69, len, e1, if_false, Option.bind_some]

/-! ### All waves -/
/-- The rings of wave k. -/
def pickW (R : List (List Int)) (Ws : List Nat) (k : Nat) : List (List Int) := ((R.zip Ws).filter fun p => decide (p.2 = k)).map Prod.fst
theorem zip_fst : ∀ (R : List (List Int)) (Ws : List Nat), ((R.zip Ws).map Prod.fst).Sublist R
  | [], _ => by simp
  | r :: R, [] => by simp
  | r :: R, w :: Ws => by
    simp only [List.zip_cons_cons, List.map_cons]
    exact (zip_fst R Ws).cons_cons r
theorem pickW_sub (R : List (List Int)) (Ws : List Nat) (k : Nat) : (pickW R Ws k).Sublist R := by
  exact (List.filter_sublist.map _).trans (zip_fst R Ws)
theorem pickW_snoc (R : List (List Int)) (Ws : List Nat) (r : List Int) (w k : Nat) (h : R.length = Ws.length) : pickW (R ++ [r]) (Ws ++ [w]) k = pickW R Ws k ++ if w = k then [r] else [] := by
  unfold pickW
  rw [List.zip_append h, List.filter_append, List.map_append]
  by_cases e : w = k <;> simp [e]
theorem mem_pickW {R : List (List Int)} {Ws : List Nat} {k : Nat} {r : List Int} (h : R.length = Ws.length) : r ∈ pickW R Ws k ↔ ∃ i : Nat, R[i]? = some r ∧ Ws[i]? = some k := by
  unfold pickW
  simp only [List.mem_map, List.mem_filter, decide_eq_true_eq]
  constructor
  · rintro ⟨⟨a, b⟩, ⟨h1, h2⟩, rfl⟩
    obtain ⟨i, hi, he⟩ := List.getElem_of_mem h1
    rw [List.getElem_zip] at he
    cases he
    simp only at h2
    refine ⟨i, List.getElem?_eq_getElem (by simp at hi; omega), ?_⟩
    rw [List.getElem?_eq_getElem (by simp at hi; omega), h2]
  · rintro ⟨i, h1, h2⟩
    obtain ⟨a1, a2⟩ := List.getElem?_eq_some_iff.1 h1
    obtain ⟨b1, b2⟩ := List.getElem?_eq_some_iff.1 h2
    refine ⟨(r, k), ⟨?_, rfl⟩, rfl⟩
    rw [List.mem_iff_getElem]
    exact ⟨i, by simp; omega, by rw [List.getElem_zip, a2, b2]⟩

/-- What waves are: after the first n rings. -/
structure WOk (C R : List (List Int)) (n : Nat) (Ws : List Nat) (M : Nat) : Prop where
  len : Ws.length = n
  lt : ∀ (i w : Nat), Ws[i]? = some w → w < M
  hit : ∀ k, k < M → ∃ i : Nat, Ws[i]? = some k
  up : ∀ (i : Nat) (r : List Int) (w : Nat), R[i]? = some r → Ws[i]? = some w → ∀ x, x ∈ r → ∀ c, c ∈ cs C x → ∀ (j : Nat) (q : List Int) (u : Nat), R[j]? = some q → Ws[j]? = some u → c ∈ q → j ≠ i → u + 1 ≤ w
  by_ : ∀ (i : Nat) (r : List Int) (w : Nat), R[i]? = some r → Ws[i]? = some w → w = 0 ∨ ∃ (j : Nat) (q : List Int) (u : Nat) (x c : Int), j < i ∧ R[j]? = some q ∧ Ws[j]? = some u ∧ u + 1 = w ∧ x ∈ r ∧ c ∈ cs C x ∧ c ∈ q
theorem WOk.le {n M : Nat} {Ws : List Nat} (h : WOk C R n Ws M) : ∀ (i w : Nat), Ws[i]? = some w → n ≤ R.length → w ≤ i := by
  intro i
  induction i using Nat.strongRecOn with
  | ind i ih =>
    intro w hw hn
    have hi := (List.getElem?_eq_some_iff.1 hw).1
    have := h.len
    rcases h.by_ i R[i] w (List.getElem?_eq_getElem (by omega)) hw with e | ⟨j, q, u, x, c, hj, h1, h2, h3, _⟩
    · omega
    · have := ih j hj u h2 hn; omega

theorem waves_eq (m : PModule) (hm : SmM m) : ∃ R Ws M, calls_found m = some R ∧ RingsOk m.funcs.length (callsL m) R ∧ WOk (callsL m) R R.length Ws M ∧ calls_Waves m = some ((List.range M).map fun k => rsort (pickW R Ws k)) := by
  obtain ⟨R, hf, hR⟩ := found_eq m hm
  have hN := hm.1
  generalize hNe : m.funcs.length = N at *
  have hCl : (callsL m).length = N := by rw [calls_len, hNe]
  have hCo : ∀ x, ok N x → ∀ c, c ∈ cs (callsL m) x → ok N c := fun x _ c hc => hNe ▸ cs_ok c hc
  have hrow : ∀ x, (cs (callsL m) x).length ≤ 1000 := fun x => by have := cs_len hm x; omega
  have hRl := hR.len
  have hro : ∀ r, r ∈ R → ∀ c, c ∈ r → ok N c := fun r hr c hc => (hR.all c).1 ⟨r, hr, hc⟩
  have hrl : ∀ r, r ∈ R → r.length ≤ 1000 := fun r hr => by
    have := sorted_le r 0 N (hR.srt r hr) (fun x hx => hro r hr x hx) (by omega)
    omega
  obtain ⟨z, hw, Ws, M, hW, hz⟩ := whl_for R.length (fun i s => ∃ (wave : List Int) (Ws : List Nat) (M : Nat), s = (wave, (List.range M).map (pickW (R.take i) Ws), List.replicate i none ++ (R.drop i).map some, (i : Int)) ∧ wave.length = N ∧
      WOk (callsL m) R i Ws M ∧ (∀ (j : Nat) q, R[j]? = some q → ∀ x, x ∈ q → nu wave x = (((Ws.getD j 0 : Nat)) : Int)))
    (fun z => ∃ (Ws : List Nat) (M : Nat), WOk (callsL m) R R.length Ws M ∧ z = (List.range M).map (pickW R Ws))
    (body := fun (s : (List Int × List (List (List Int)) × List (Option (List Int)) × Int)) => calls_Waves.bd13 (callsL m) R s.1 s.2.1 s.2.2.1 s.2.2.2) (le_max hRl (by omega)) (by
      rintro i s hi ⟨wave, Ws, M, rfl, hwl, hW, hv⟩
      have hin : R[i] ∈ R := List.getElem_mem hi
      have hRi : R[i]? = some R[i] := List.getElem?_eq_getElem hi
      have hWl := hW.len
      have hM : ∀ (j w : Nat), Ws[j]? = some w → w < M := hW.lt
      have hMi : M ≤ i := by
        rcases Nat.eq_zero_or_pos M with h | h
        · omega
        · obtain ⟨j, hj⟩ := hW.hit (M - 1) (by omega)
          have := hW.le j _ hj (by omega)
          have := (List.getElem?_eq_some_iff.1 hj).1
          omega
      have hgd : ∀ j, Ws.getD j 0 ≤ 40 := fun j => by
        rw [List.getD_eq_getElem?_getD]
        cases h : Ws[j]? with
        | none => simp
        | some w => have := hM j w h; simp; omega
      have hb : ∀ x, 0 ≤ nu wave x ∧ nu wave x ≤ 1000 := fun x => by
        by_cases hx : ok N x
        · obtain ⟨q, hq, hxq⟩ := (hR.all x).2 hx
          obtain ⟨j, hj, he⟩ := List.getElem_of_mem hq
          rw [hv j q (by rw [List.getElem?_eq_getElem hj, he]) x hxq]
          have := hgd j
          omega
        · by_cases hx' : x.toNat < wave.length
          · have hx0 : x < 0 := by unfold ok at hx; omega
            have h0 : ok N 0 := ⟨by omega, by omega⟩
            obtain ⟨q, hq, hxq⟩ := (hR.all 0).2 h0
            obtain ⟨j, hj, he⟩ := List.getElem_of_mem hq
            have := hv j q (by rw [List.getElem?_eq_getElem hj, he]) 0 hxq
            have e : nu wave x = nu wave 0 := by unfold nu; rw [show x.toNat = (0 : Int).toNat by omega]
            rw [e, this]
            have := hgd j
            omega
          · simp [nu, List.getD_eq_getElem?_getD, List.getElem?_eq_none (Nat.le_of_not_lt hx')]
      obtain ⟨w, w1, w2, w3, w4⟩ := ringW (C := callsL m) (N := N) wave R[i] hCl hCo hrow (hrl _ hin) (hro _ hin) hwl hb
      obtain ⟨k, rfl⟩ : ∃ k : Nat, w = k := ⟨w.toNat, by omega⟩
      obtain ⟨o, o1, o2, o3⟩ := mark_ok (N := N) wave R[i] (k : Int) (hrl _ hin) (hro _ hin) hwl
      have hby : k = 0 ∨ ∃ (j : Nat) (q : List Int) (u : Nat) (x c : Int), j < i ∧ R[j]? = some q ∧ Ws[j]? = some u ∧ u + 1 = k ∧ x ∈ R[i] ∧ c ∈ cs (callsL m) x ∧ c ∈ q := by
        rcases w4 with e | ⟨x, hx, c, hc, hcr, e⟩
        · exact .inl (by omega)
        · obtain ⟨j, q, hj, hq, hcq⟩ := hR.closed i R[i] hRi x hx c hc
          have hji : j ≠ i := fun e => by subst e; rw [hRi] at hq; cases hq; exact hcr hcq
          have hjl : j < Ws.length := by omega
          have := hv j q hq c hcq
          rw [List.getD_eq_getElem?_getD, List.getElem?_eq_getElem hjl, Option.getD_some] at this
          exact .inr ⟨j, q, Ws[j], x, c, by omega, hq, List.getElem?_eq_getElem hjl, by omega, hx, hc, hcq⟩
      have hkM : k ≤ M := by
        rcases hby with e | ⟨j, q, u, x, c, _, _, h1, h2, _⟩
        · omega
        · have := hM j u h1; omega
      have hroom := room_ok ((List.range M).map (pickW (R.take i) Ws)) k (by simpa using hkM) (by simp; omega)
      have htl : (R.take i).length = Ws.length := by rw [List.length_take]; omega
      have htake : R.take (i + 1) = R.take i ++ [R[i]] := List.take_succ_eq_append_getElem hi
      have hpn : ∀ k', k' < (if M = k then M + 1 else M) → ((if ((List.range M).map (pickW (R.take i) Ws)).length = k then (List.range M).map (pickW (R.take i) Ws) ++ [[]] else (List.range M).map (pickW (R.take i) Ws)))[k']? = some (pickW (R.take i) Ws k') := fun k' hk' => by
        by_cases e : M = k
        · rw [if_pos e] at hk'
          rw [if_pos (by simpa using e)]
          rcases Nat.lt_or_ge k' M with h | h
          · rw [List.getElem?_append_left (by simpa using h)]; simp [h]
          · have e' : k' = M := by omega
            rw [List.getElem?_append_right (by simpa using h)]
            subst e'
            simp only [List.length_map, List.length_range, Nat.sub_self, List.getElem?_cons_zero, Option.some.injEq]
            symm
            rw [List.eq_nil_iff_forall_not_mem]
            intro r hr
            obtain ⟨j, _, h2⟩ := (mem_pickW htl).1 hr
            have := hM j _ h2
            omega
        · rw [if_neg e] at hk'
          rw [if_neg (by simpa using e)]
          simp [hk']
      have hkl : k < (if M = k then M + 1 else M) := by split <;> omega
      have hopt : idxO (List.replicate i none ++ (R.drop i).map some) (i : Int) = some R[i] := by
        unfold idxO
        rw [idx_nat, List.getElem?_append_right (by simp)]
        simp [hi]
      have hsub := (pickW_sub (R.take i) Ws k).length_le
      have hcat : cat (pickW (R.take i) Ws k) [R[i]] = some (pickW (R.take i) Ws k ++ [R[i]]) := cat_one (by rw [List.length_take] at hsub; omega)
      refine .inr ⟨_, ?_, o, Ws ++ [k], (if M = k then M + 1 else M), rfl, o2, ?_, ?_⟩
      · simp only [calls_Waves.bd13, len_lt, hi, if_true, hopt, Option.bind_some, w1, calls_Waves.nx51, o1, calls_Waves.nx60, hroom, calls_Waves.nx69, idx_nat, hpn k hkl, hcat, Int.toNat_natCast, w64_i hi (by omega : R.length ≤ 1000)]
        congr 4
        · apply List.ext_getElem?
          intro k'
          rw [List.getElem?_set]
          have hlen : ((if ((List.range M).map (pickW (R.take i) Ws)).length = k then (List.range M).map (pickW (R.take i) Ws) ++ [[]] else (List.range M).map (pickW (R.take i) Ws))).length = (if M = k then M + 1 else M) := by
            by_cases e : M = k
            · rw [if_pos (by simpa using e), if_pos e]; simp
            · rw [if_neg (by simpa using e), if_neg e]; simp
          rcases Nat.lt_or_ge k' (if M = k then M + 1 else M) with h | h
          · rw [List.getElem?_map, List.getElem?_range h, Option.map_some, htake, pickW_snoc _ _ _ _ _ htl]
            by_cases e : k = k'
            · subst e; rw [if_pos rfl, if_pos (by rw [hlen]; exact hkl), if_pos rfl]
            · rw [if_neg e, if_neg e, hpn k' h, List.append_nil]
          · rw [if_neg (by omega), List.getElem?_eq_none (by rw [hlen]; exact h), List.getElem?_eq_none (by simpa using h)]
        · congr 1
          apply List.ext_getElem?
          intro k'
          rw [List.getElem?_set]
          rcases Nat.lt_trichotomy k' i with h | h | h
          · rw [if_neg (by omega), List.getElem?_append_left (by simpa using h), List.getElem?_append_left (by simp; omega)]
            simp [h, show k' < i + 1 by omega]
          · subst h
            rw [if_pos rfl, if_pos (by simp; omega), List.getElem?_append_left (by simp)]
            simp
          · rw [if_neg (by omega), List.getElem?_append_right (by simp; omega), List.getElem?_append_right (by simp; omega)]
            simp only [List.length_replicate, List.getElem?_map, List.getElem?_drop]
            congr 2; omega
      · refine ⟨by simp [hWl], fun j u hu => ?_, fun k' hk' => ?_, fun j r u hr hu x hx c hc j' q u' hq hu' hcq hne => ?_, fun j r u hr hu => ?_⟩
        · rcases Nat.lt_or_ge j Ws.length with h | h
          · rw [List.getElem?_append_left h] at hu
            have := hM j u hu; split <;> omega
          · rw [List.getElem?_append_right h] at hu
            have hj := (List.getElem?_eq_some_iff.1 hu).1
            simp at hj
            rw [show j - Ws.length = 0 by omega] at hu
            simp at hu
            split <;> omega
        · by_cases e : k' < M
          · obtain ⟨j, hj⟩ := hW.hit k' e
            exact ⟨j, by rw [List.getElem?_append_left (List.getElem?_eq_some_iff.1 hj).1]; exact hj⟩
          · have : k' = k := by split at hk' <;> omega
            subst this
            exact ⟨Ws.length, by simp⟩
        · have hjl := (List.getElem?_eq_some_iff.1 hu).1
          have hjl' := (List.getElem?_eq_some_iff.1 hu').1
          simp only [List.length_append, List.length_singleton] at hjl hjl'
          obtain ⟨j2, q2, a1, a2, a3⟩ := hR.closed j r hr x hx c hc
          obtain rfl : j' = j2 := hR.one hq a2 hcq a3
          rw [List.getElem?_append_left (by omega)] at hu'
          by_cases e : j = i
          · subst e
            rw [List.getElem?_append_right (by omega), hWl, Nat.sub_self] at hu
            simp at hu; subst hu
            rw [hRi] at hr; cases hr
            have h1 := w3 x hx c hc (fun hcr => hne (hR.one hq hRi hcq hcr))
            rw [hv j' q hq c hcq, List.getD_eq_getElem?_getD, hu', Option.getD_some] at h1
            omega
          · rw [List.getElem?_append_left (by omega)] at hu
            exact hW.up j r u hr hu x hx c hc j' q u' hq hu' hcq hne
        · have hjl := (List.getElem?_eq_some_iff.1 hu).1
          simp only [List.length_append, List.length_singleton] at hjl
          by_cases e : j = i
          · subst e
            rw [List.getElem?_append_right (by omega), hWl, Nat.sub_self] at hu
            simp at hu; subst hu
            rw [hRi] at hr; cases hr
            rcases hby with e | ⟨j', q, u, x, c, b1, b2, b3, b4⟩
            · exact .inl e
            · exact .inr ⟨j', q, u, x, c, b1, b2, by rw [List.getElem?_append_left (by omega)]; exact b3, b4⟩
          · rw [List.getElem?_append_left (by omega)] at hu
            rcases hW.by_ j r u hr hu with e | ⟨j', q, u', x, c, b1, b2, b3, b4⟩
            · exact .inl e
            · exact .inr ⟨j', q, u', x, c, b1, b2, by rw [List.getElem?_append_left (by omega)]; exact b3, b4⟩
      · intro j q hq x hx
        have hxo : ok N x := (hR.all x).1 ⟨q, List.mem_of_getElem? hq, hx⟩
        rw [o3 x hxo]
        by_cases e : j = i
        · subst e
          rw [hRi] at hq; cases hq
          rw [if_pos hx]
          simp [List.getD_eq_getElem?_getD, ← hWl]
        · rw [if_neg (fun h => e (hR.one hq hRi hx h)), hv j q hq x hx]
          rw [List.getD_eq_getElem?_getD, List.getD_eq_getElem?_getD]
          rcases Nat.lt_or_ge j Ws.length with h | h
          · rw [List.getElem?_append_left h]
          · rw [List.getElem?_eq_none h, List.getElem?_eq_none (by simp; omega)]) (by
      rintro s ⟨wave, Ws, M, rfl, hwl, hW, hv⟩
      exact ⟨(List.range M).map (pickW R Ws), by simp [calls_Waves.bd13, len], Ws, M, hW, rfl⟩)
    (s0 := (List.replicate N 0, ([] : List (List (List Int))), R.map some, 0)) ⟨List.replicate N 0, [], 0, by simp, by simp, ⟨rfl, by simp, by simp, by simp, by simp⟩, fun j q _ x _ => by simp [nu, List.getElem?_replicate, List.getD_eq_getElem?_getD]; split <;> rfl⟩
  refine ⟨R, Ws, M, hf, hR, hW, ?_⟩
  subst hz
  have hML : M ≤ 40 := by
    rcases Nat.eq_zero_or_pos M with h | h
    · omega
    · obtain ⟨j, hj⟩ := hW.hit (M - 1) (by omega)
      have := hW.le j _ hj (by omega)
      have := (List.getElem?_eq_some_iff.1 hj).1
      have := hW.len
      omega
  have hsort := whl_over (body := fun (s : (List (List (List Int)) × Int)) => calls_Waves.bd22 ((List.range M).map (pickW R Ws)) s.1 s.2) (r := ((List.range M).map (pickW R Ws)).map rsort) ((List.range M).map (pickW R Ws)) rsort (le_max (by simp; exact hML) (by omega)) (fun i hi L hL hLi he hLl => by
    have e1 : slices_SortFunc_int_int_calls_byFirst L[i] = some (rsort L[i]) := sortF_eq hR hN (by rw [he, List.getElem_map]; exact pickW_sub ..)
    simp only [calls_Waves.bd22, len_lt, hi, if_true, idx_lt hLi, Option.bind_some, e1, Int.toNat_natCast, w64_i hi (by simp; omega)]
    rw [he]) (by simp [calls_Waves.bd22, len])
  unfold calls_Waves
  rw [calls_eq m hm, Option.bind_some, show (len (callsL m)) = (N : Int) by simp only [len, hCl], mkl_rep (0 : Int) (show N ≤ 70 by omega), Option.bind_some, hf, Option.bind_some, hw]
  simp only [Option.bind_some, calls_Waves.nx13, hsort, calls_Waves.nx22, List.map_map]
  rfl
theorem rings_eq (m : PModule) (hm : SmM m) {R : List (List Int)} (hf : calls_found m = some R) (hR : RingsOk m.funcs.length (callsL m) R) : calls_Rings m = some (rsort R) := by
  unfold calls_Rings
  rw [hf, Option.bind_some, sortF_eq hR hm.1 (List.Sublist.refl _)]; rfl
end Go.Proofs.Yteaknconpkklhaa
