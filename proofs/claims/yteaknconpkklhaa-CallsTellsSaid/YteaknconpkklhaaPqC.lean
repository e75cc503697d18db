/- Layer 9, part C: what a visit does. No conditions. -/
import Derived.Test.YteaknconpkklhaaPqB
set_option linter.unusedVariables false
set_option linter.unusedSimpArgs false
namespace Go.Proofs.Yteaknconpkklhaa
open Go Go.Proofs

theorem index_at (a b : List Int) (x : Int) (hx : x ∉ a) (hl : (a ++ x :: b).length ≤ maxLen) : slices_Index (a ++ x :: b) x = some (a.length : Int) := by
  unfold slices_Index
  have := scan0 (a ++ x :: b) (fun i y => if x = y then some (i : Int) else none) (fun s => slices_Index.bd8 (a ++ x :: b) x s) hl (fun i hi => by
    simp only [slices_Index.bd8, len_lt, hi, if_true, idx_lt hi, Option.bind_some, w64_at hi hl]
    split <;> rfl) (by simp [slices_Index.bd8, len])
  have hat : a.length < (a ++ x :: b).length := by simp
  rcases this with ⟨i, hi, r, hf, hmin, hw⟩ | ⟨hall, hw⟩
  · split at hf
    · rename_i he
      cases hf
      rw [hw]
      simp only [Option.bind_some]
      have h1 : ¬ i < a.length := fun h => hx (by rw [he, List.getElem_append_left h]; exact List.getElem_mem h)
      rcases Nat.lt_or_ge a.length i with h | h
      · have := hmin a.length hat h
        simp at this
      · rw [show i = a.length by omega]
    · cases hf
  · have := hall a.length hat
    simp at this

theorem clear_ok {N : Nat} (ring : List Int) (on : List Bool) (hN : N ≤ 1000) (hl : ring.length ≤ 1000) (hr : ∀ x, x ∈ ring → ok N x) (hon : on.length = N) :
    ∃ o, whl (fun (s : (List Bool × Int)) => calls_finder_visit.bd43 ring s.1 s.2) FUEL (on, 0) = some o ∧ o.length = N ∧ ∀ x, ok N x → (gb o x = true ↔ gb on x = true ∧ x ∉ ring) := by
  refine whl_for ring.length (fun k s => ∃ o, s = (o, (k : Int)) ∧ o.length = N ∧ ∀ x, ok N x → (gb o x = true ↔ gb on x = true ∧ x ∉ ring.take k)) _ (le_max hl (by omega)) ?_ ?_ ⟨on, rfl, hon, fun x _ => by simp⟩
  · rintro k s hk ⟨o, rfl, ho, hx⟩
    refine .inr ⟨(o.set (ring[k]).toNat false, ((k + 1 : Nat) : Int)), ?_, _, rfl, by simp [ho], fun x hxo => ?_⟩
    · have hc := hr ring[k] (List.getElem_mem hk)
      simp only [calls_finder_visit.bd43, len_lt, hk, if_true, idx_lt hk, Option.bind_some, idx_gb (show ok o.length ring[k] by rw [ho]; exact hc), w64_i hk (by omega)]
    · have hc := hr ring[k] (List.getElem_mem hk)
      have hmt : x ∈ ring.take (k + 1) ↔ x ∈ ring.take k ∨ x = ring[k] := by rw [List.take_succ_eq_append_getElem hk, List.mem_append, List.mem_singleton]
      rw [gb_set (by rw [ho]; exact hc) (by rw [ho]; exact hxo), hmt]
      by_cases e : x = ring[k]
      · rw [if_pos e]
        exact ⟨fun h => (by cases h), fun h => absurd (Or.inr e) h.2⟩
      · rw [if_neg e, hx x hxo]
        exact ⟨fun h => ⟨h.1, fun h' => h'.elim h.2 e⟩, fun h => ⟨h.1, fun h' => h.2 (Or.inl h')⟩⟩
  · rintro s ⟨o, rfl, ho, hx⟩
    rw [List.take_length] at hx
    exact ⟨o, by simp [calls_finder_visit.bd43, len], ho, hx⟩

def tup (S : Sn) : List Int × List Int × List Bool × List Int × List (List Int) × Int := (S.num, S.low, S.on, S.st, S.rings, S.cnt)
def fnd (C : List (List Int)) (S : Sn) : PFinder := ⟨C, S.num, S.low, S.on, S.st, S.rings, S.cnt⟩

theorem Inv.stl {N : Nat} {C : List (List Int)} {S : Sn} {gr : List Int} (h : Inv N C S gr) : S.st.length ≤ N ∧ S.rings.length ≤ N ∧ S.cnt ≤ N := by
  have := h.lens; have := h.whites; omega

theorem visit_it {N : Nat} {C : List (List Int)} (hN : N ≤ 40) (hCl : C.length = N) (hC : ∀ x, ok N x → ∀ c, c ∈ cs C x → ok N c) (hrow : ∀ x, (cs C x).length ≤ 1000) :
    ∀ (n : Nat) (S0 : Sn) (v : Int) (gr : List Int), Inv N C S0 gr → ok N v → nu S0.num v = 0 → wc S0.num ≤ n → ∃ S', calls_finder_visit.it n (fnd C S0) v = some (tup S') ∧ Pst N C S0 v S' gr := by
  intro n
  induction n with
  | zero =>
    intro S0 v gr h0 hv hv0 hw
    have hvl : v.toNat < S0.num.length := by rw [h0.n1]; have := hv.1; have := hv.2; omega
    have : 0 < wc S0.num := wc_pos (v := v.toNat) (by
      rw [List.getElem?_eq_getElem hvl]
      have : nu S0.num v = S0.num[v.toNat] := by simp [nu, List.getElem?_eq_getElem hvl]
      rw [← this, hv0])
    omega
  | succ n ih =>
    intro S0 v gr h0 hv hv0 hw
    obtain ⟨l1, l2, l3⟩ := h0.stl
    have hcnt : w64 (S0.cnt + 1) = S0.cnt + 1 := w64_id ⟨by have := h0.c0; omega, by omega⟩
    have hj0 := h0.start hv hv0
    have key : ∃ z, whl (fun (s : (List Int × List Int × List Bool × List Int × List (List Int) × Int × Int)) => calls_finder_visit.bd21 (fnd C S0) v (calls_finder_visit.it n) (cs C v) s.1 s.2.1 s.2.2.1 s.2.2.2.1 s.2.2.2.2.1 s.2.2.2.2.2.1 s.2.2.2.2.2.2) FUEL
        ((S0.num.set v.toNat (S0.cnt + 1)), (S0.low.set v.toNat (S0.cnt + 1)), S0.on.set v.toNat true, S0.st ++ [v], S0.rings, S0.cnt + 1, 0) = some z ∧ ∃ S, z = tup S ∧ J N C S0 v gr (cs C v).length S := by
      refine whl_for (cs C v).length (fun k s => ∃ S, s = (S.num, S.low, S.on, S.st, S.rings, S.cnt, (k : Int)) ∧ J N C S0 v gr k S) _ (le_max (hrow v) (by omega)) ?_ ?_ ⟨_, rfl, hj0⟩
      · rintro k s hk ⟨S, rfl, hj⟩
        have hcv : (cs C v)[k]? = some (cs C v)[k] := List.getElem?_eq_getElem hk
        have hco : ok N (cs C v)[k] := hC v hv _ (List.getElem_mem hk)
        have hI := hj.inv
        have e1 := idx_nu (l := S.num) (x := (cs C v)[k]) (by rw [hI.n1]; exact hco)
        have e2 := idx_gb (l := S.on) (x := (cs C v)[k]) (by rw [hI.n3]; exact hco)
        have e3 := idx_nu (l := S.low) (x := v) (by rw [hI.n2]; exact hv)
        refine .inr ?_
        by_cases hz : nu S.num (cs C v)[k] = 0
        · have hwn : wc S.num ≤ n := by
            have := hj.cle; have := hI.whites; have := h0.whites; omega
          obtain ⟨S', hit, hP⟩ := ih S (cs C v)[k] (v :: gr) hI hco hz hwn
          have e4 := idx_nu (l := S'.low) (x := v) (by rw [hP.inv.n2]; exact hv)
          have e5 := idx_nu (l := S'.low) (x := (cs C v)[k]) (by rw [hP.inv.n2]; exact hco)
          refine ⟨_, ?_, _, rfl, hj.child h0 hv hv0 hC hcv hz hP⟩
          have hit' : calls_finder_visit.it n (⟨(fnd C S0).calls, S.num, S.low, S.on, S.st, S.rings, S.cnt⟩ : PFinder) (cs C v)[k] = some (tup S') := hit
          simp only [calls_finder_visit.bd21, len_lt, hk, if_true, idx_lt hk, Option.bind_some, e1, hz, hit', tup, e4, e5, calls_finder_visit.jn67, w64_i hk (hrow v)]
        · by_cases ho : gb S.on (cs C v)[k] = true
          · refine ⟨_, ?_, _, rfl, hj.onStack h0 hv hv0 hC hcv hz ((hI.sOn _ hco).1 ho)⟩
            simp only [calls_finder_visit.bd21, len_lt, hk, if_true, idx_lt hk, Option.bind_some, e1, hz, if_false, e2, ho, e3, calls_finder_visit.jn67, w64_i hk (hrow v)]
          · refine ⟨_, ?_, _, rfl, hj.gone h0 hv hcv hz (fun h => ho ((hI.sOn _ hco).2 h))⟩
            have ho' : gb S.on (cs C v)[k] = false := by simpa using ho
            simp only [calls_finder_visit.bd21, len_lt, hk, if_true, idx_lt hk, Option.bind_some, e1, hz, if_false, e2, ho', Bool.false_eq_true, calls_finder_visit.jn67, w64_i hk (hrow v)]
      · rintro s ⟨S, rfl, hj⟩
        exact ⟨tup S, by simp [calls_finder_visit.bd21, len, tup], S, rfl, hj⟩
    obtain ⟨z, hz, S, rfl, hj⟩ := key
    have hI := hj.inv
    have e0 := idx_nu (l := S0.num) (x := v) (by rw [h0.n1]; exact hv)
    have e1 := idx_nu (l := S0.low) (x := v) (by rw [h0.n2]; exact hv)
    have e2 := idx_gb (l := S0.on) (x := v) (by rw [h0.n3]; exact hv)
    have e3 := idx_cs (l := C) (x := v) (by rw [hCl]; exact hv)
    have e4 := idx_nu (l := S.num) (x := v) (by rw [hI.n1]; exact hv)
    have e5 := idx_nu (l := S.low) (x := v) (by rw [hI.n2]; exact hv)
    have ec : cat S0.st [v] = some (S0.st ++ [v]) := cat_one (by omega)
    have hrun : calls_finder_visit.it (n + 1) (fnd C S0) v = calls_finder_visit.nx21 v S.num S.low S.on S.st S.rings S.cnt := by
      have hz' := hz
      simp only [fnd] at hz'
      simp only [calls_finder_visit.it, calls_finder_visit.body, calls_finder_visit.jn12, fnd, e0, e1, e2, e3, ec, Option.bind_some, hcnt, hz', tup]
    rw [hrun]
    by_cases hne : nu S.low v = nu S.num v
    · obtain ⟨U, hU, -, -⟩ := hj.sT
      obtain ⟨s1, s2, s3⟩ := hI.stl
      have hv0' : v ∉ S0.st := fun h => by
        have := h0.sNum v h; omega
      have hlen : (S0.st ++ v :: U).length ≤ 40 := by rw [← hU]; omega
      have hlen' : S0.st.length + (U.length + 1) ≤ 40 := by simpa using hlen
      have hix : slices_Index S.st v = some (S0.st.length : Int) := by rw [hU]; exact index_at _ _ _ hv0' (le_max hlen (by omega))
      have hfr : from_ S.st (S0.st.length : Int) = some (v :: U) := by rw [hU]; simp [from_]
      have hup : upto S.st (S0.st.length : Int) = some S0.st := by rw [hU]; simp [upto]
      have hcl : slices_Clone (v :: U) = some (v :: U) := by
        unfold slices_Clone; rw [cat_nil (by simp; omega)]; rfl
      obtain ⟨o, ho, ho1, ho2⟩ := clear_ok (N := N) (v :: U) S.on (by omega) (by simp; omega) (fun x hx => hI.sOk x (by rw [hU]; exact List.mem_append_right _ hx)) hI.n3
      refine ⟨_, ?_, hj.pop h0 hv hv0 hC hne hU ho1 ho2⟩
      simp only [calls_finder_visit.nx21, e4, e5, Option.bind_some, hne, not_true, if_false, hix, hfr, hup, hcl, ho, calls_finder_visit.nx43, slices_Sort, cat_one (show S.rings.length ≤ 1000 by omega), tup]
    · refine ⟨S, ?_, hj.stay h0 hv hv0 hne⟩
      simp only [calls_finder_visit.nx21, e4, e5, Option.bind_some, hne, not_false_eq_true, if_true, tup]
end Go.Proofs.Yteaknconpkklhaa
