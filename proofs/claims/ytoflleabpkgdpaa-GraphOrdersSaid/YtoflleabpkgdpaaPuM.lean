/- Plain laws, part M: the law GraphStays. No conditions. -/
import Derived.Test.YtoflleabpkgdpaaPuL
import Derived.Test.YtoflleabpkgdpaaGd
set_option linter.unusedVariables false
set_option linter.unusedSimpArgs false
namespace Go.Proofs.Ytoflleabpkgdpaa
open Go Go.Proofs

theorem it_last (nx : List (List Int)) (k : Nat) (b : Int) (s : List Bool) (o : List Int) (z : List Bool × List Int) (h : graph_order_1.it k b s nx o = some z) : ∃ p, z.2 = p ++ [b] := by
  cases k with
  | zero => simp [graph_order_1.it] at h
  | succ k =>
    simp only [graph_order_1.it, graph_order_1.body] at h
    obtain ⟨x, _, h⟩ := bind_some' h
    obtain ⟨y, _, h⟩ := bind_some' h
    obtain ⟨q, _, h⟩ := bind_some' h
    simp only [graph_order_1.nx21] at h
    obtain ⟨c, hc, h⟩ := bind_some' h
    cases h
    exact ⟨q.2, (cat_some hc).2⟩
theorem order_head (f : PFunc) (hf : SmF f) {s : List Bool} {o : List Int} (hw : Walked f s o) : o = [] ∨ ∃ p, o.reverse = 0 :: p := by
  obtain ⟨s', o', hw', h0, h1⟩ := walked_any f hf
  have ho : o.reverse = o'.reverse := Option.some.inj (hw.ord.symm.trans hw'.ord)
  have ho' : o = o' := by rw [← List.reverse_reverse o, ho, List.reverse_reverse]
  subst ho'
  rcases Nat.eq_zero_or_pos f.blocks.length with h | h
  · exact .inl (h0 h).2
  · obtain ⟨_, _, hit⟩ := h1 h
    obtain ⟨p, hp⟩ := it_last _ _ _ _ _ _ hit
    simp only at hp
    exact .inr ⟨p.reverse, by rw [hp]; simp⟩

/-! ### Rows that are written over -/
def Rows (n : Nat) (L : List PBlock) : Prop := L.length = n ∧ ∀ B ∈ L, SmB B
theorem Rows.set {n : Nat} {L : List PBlock} (h : Rows n L) (i : Nat) {B : PBlock} (hB : SmB B) : Rows n (L.set i B) :=
  ⟨by simp [h.1], fun x hx => (List.mem_or_eq_of_mem_set hx).elim (h.2 x) (fun e => e ▸ hB)⟩
theorem fill_regs (L : List Int) (hl : L.length ≤ 300) : ∃ z, whl (fun (s : (List Int × Int)) => fettlelaw05_GraphStays.bd54 s.1 s.2) FUEL (L, 0) = some z ∧ True :=
  whl_for (body := fun (s : (List Int × Int)) => fettlelaw05_GraphStays.bd54 s.1 s.2) L.length (fun i s => s.1.length = L.length ∧ s.2 = (i : Int)) (fun _ => True) (le_max hl (by omega)) (fun i s hi hI => by
    obtain ⟨M, k⟩ := s
    obtain ⟨h1, rfl⟩ := hI
    simp only at h1
    have hi' : i < M.length := by omega
    exact .inr ⟨_, by simp only [fettlelaw05_GraphStays.bd54, len_lt, hi', if_true, idx_lt hi', Option.bind_some]; rfl, by simp [h1], w64_i hi (by omega)⟩) (fun s hI => by
    obtain ⟨M, k⟩ := s
    obtain ⟨h1, rfl⟩ := hI
    simp only at h1
    exact ⟨M, by simp [fettlelaw05_GraphStays.bd54, len, h1], trivial⟩) ⟨rfl, rfl⟩
theorem fill_order (L : List Int) (hl : L.length ≤ 70) : ∃ z, whl (fun (s : (List Int × Int)) => fettlelaw05_GraphStays.bd121 s.1 s.2) FUEL (L, 0) = some z ∧ z.length = L.length :=
  whl_for (body := fun (s : (List Int × Int)) => fettlelaw05_GraphStays.bd121 s.1 s.2) L.length (fun i s => s.1.length = L.length ∧ s.2 = (i : Int)) (fun z => z.length = L.length) (le_max hl (by omega)) (fun i s hi hI => by
    obtain ⟨M, k⟩ := s
    obtain ⟨h1, rfl⟩ := hI
    simp only at h1
    have hi' : i < M.length := by omega
    exact .inr ⟨_, by simp only [fettlelaw05_GraphStays.bd121, len_lt, hi', if_true, idx_lt hi', Option.bind_some]; rfl, by simp [h1], w64_i hi (by omega)⟩) (fun s hI => by
    obtain ⟨M, k⟩ := s
    obtain ⟨h1, rfl⟩ := hI
    simp only at h1
    exact ⟨M, by simp [fettlelaw05_GraphStays.bd121, len, h1], h1⟩) ⟨rfl, rfl⟩
theorem fill_to (n i : Nat) (L : List PBlock) (hL : Rows n L) (hi : i < n) : ∃ z, whl (fun (s : (List PBlock × Int)) => fettlelaw05_GraphStays.bd248 (i : Int) s.1 s.2) FUEL (L, 0) = some z ∧ Rows n z := by
  have hiL : i < L.length := by rw [hL.1]; exact hi
  have hB0 := hL.2 _ (List.getElem_mem hiL)
  refine whl_for (body := fun (s : (List PBlock × Int)) => fettlelaw05_GraphStays.bd248 (i : Int) s.1 s.2) (L[i].term.to.length) (fun k s => Rows n s.1 ∧ s.2 = (k : Int) ∧ ∃ h : i < s.1.length, s.1[i].term.to.length = L[i].term.to.length) (fun z => Rows n z) (le_max hB0.2.2.1 (by omega)) (fun k s hk hI => ?_) (fun s hI => ?_) ⟨hL, rfl, hiL, rfl⟩
  · obtain ⟨M, q⟩ := s
    obtain ⟨h1, rfl, h2, h3⟩ := hI
    simp only at h1 h2 h3
    have hk' : k < M[i].term.to.length := by omega
    have hB := h1.2 _ (List.getElem_mem h2)
    refine .inr ⟨_, by simp only [fettlelaw05_GraphStays.bd248, idx_lt h2, Option.bind_some, len_lt, hk', if_true, idx_lt hk']; rfl, ?_, w64_i hk (by have := hB0.2.2.1; omega), ?_⟩
    · refine Rows.set h1 _ ?_
      exact ⟨hB.1, hB.2.1, by simpa using hB.2.2.1, hB.2.2.2.1, hB.2.2.2.2⟩
    refine ⟨by simp; exact h2, ?_⟩
    simp [h3]
  · obtain ⟨M, q⟩ := s
    obtain ⟨h1, rfl, h2, h3⟩ := hI
    simp only at h1 h2 h3
    exact ⟨M, by simp [fettlelaw05_GraphStays.bd248, idx_lt h2, len, h3], h1⟩
theorem fill_args (n i j : Nat) (L : List PBlock) (hL : Rows n L) (hi : i < L.length) (hj : j < L[i].ins.length) :
    ∃ z, whl (fun (s : (List PBlock × Int)) => fettlelaw05_GraphStays.bd303 (i : Int) (j : Int) s.1 s.2) FUEL (L, 0) = some z ∧ Rows n z ∧ ∃ h : i < z.length, z[i].ins.length = L[i].ins.length := by
  have hB0 := hL.2 _ (List.getElem_mem hi)
  have ha0 := hB0.2.2.2.1 _ (List.getElem_mem hj)
  refine whl_for (body := fun (s : (List PBlock × Int)) => fettlelaw05_GraphStays.bd303 (i : Int) (j : Int) s.1 s.2) (L[i].ins[j].args.length) (fun k s => Rows n s.1 ∧ s.2 = (k : Int) ∧ ∃ h : i < s.1.length, s.1[i].ins.length = L[i].ins.length ∧ ∃ h' : j < s.1[i].ins.length, s.1[i].ins[j].args.length = L[i].ins[j].args.length) (fun z => Rows n z ∧ ∃ h : i < z.length, z[i].ins.length = L[i].ins.length) (le_max ha0 (by omega)) (fun k s hk hI => ?_) (fun s hI => ?_) ⟨hL, rfl, hi, rfl, hj, rfl⟩
  · obtain ⟨M, q⟩ := s
    obtain ⟨h1, rfl, h2, h3, h4, h5⟩ := hI
    simp only at h1 h2 h3 h4 h5
    have hk' : k < M[i].ins[j].args.length := by omega
    have hB := h1.2 _ (List.getElem_mem h2)
    refine .inr ⟨_, by simp only [fettlelaw05_GraphStays.bd303, idx_lt h2, Option.bind_some, idx_lt h4, len_lt, hk', if_true, idx_lt hk']; rfl, ?_, w64_i hk (by omega), ?_⟩
    · refine Rows.set h1 _ ?_
      refine ⟨by simpa using hB.1, hB.2.1, hB.2.2.1, fun x hx => ?_, hB.2.2.2.2⟩
      rcases List.mem_or_eq_of_mem_set hx with hx | rfl
      · exact hB.2.2.2.1 x hx
      · simpa using hB.2.2.2.1 _ (List.getElem_mem h4)
    · refine ⟨by simp; exact h2, by simp [h3], by simp; exact h4, ?_⟩
      simp [h5]
  · obtain ⟨M, q⟩ := s
    obtain ⟨h1, rfl, h2, h3, h4, h5⟩ := hI
    simp only at h1 h2 h3 h4 h5
    exact ⟨M, by simp [fettlelaw05_GraphStays.bd303, idx_lt h2, idx_lt h4, len, h5], h1, h2, h3⟩
theorem fill_ins (n i : Nat) (L : List PBlock) (hL : Rows n L) (hi : i < n) : ∃ z, whl (fun (s : (List PBlock × Int)) => fettlelaw05_GraphStays.bd270 (i : Int) s.1 s.2) FUEL (L, 0) = some z ∧ Rows n z := by
  have hiL : i < L.length := by rw [hL.1]; exact hi
  have hB0 := hL.2 _ (List.getElem_mem hiL)
  refine whl_for (body := fun (s : (List PBlock × Int)) => fettlelaw05_GraphStays.bd270 (i : Int) s.1 s.2) (L[i].ins.length) (fun k s => Rows n s.1 ∧ s.2 = (k : Int) ∧ ∃ h : i < s.1.length, s.1[i].ins.length = L[i].ins.length) (fun z => Rows n z) (le_max hB0.1 (by omega)) (fun k s hk hI => ?_) (fun s hI => ?_) ⟨hL, rfl, hiL, rfl⟩
  · obtain ⟨M, q⟩ := s
    obtain ⟨h1, rfl, h2, h3⟩ := hI
    simp only at h1 h2 h3
    have hk' : k < M[i].ins.length := by omega
    obtain ⟨z, hz, hz1, hz2, hz3⟩ := fill_args n i k M h1 h2 hk'
    refine .inr ⟨_, by simp only [fettlelaw05_GraphStays.bd270, idx_lt h2, Option.bind_some, len_lt, hk', if_true, hz, fettlelaw05_GraphStays.nx303]; rfl, hz1, w64_i hk (by have := hB0.1; omega), hz2, hz3.trans h3⟩
  · obtain ⟨M, q⟩ := s
    obtain ⟨h1, rfl, h2, h3⟩ := hI
    simp only at h1 h2 h3
    exact ⟨M, by simp [fettlelaw05_GraphStays.bd270, idx_lt h2, len, h3], h1⟩
theorem fill_blocks (L : List PBlock) (hL : Rows L.length L) (hl : L.length ≤ 70) : ∃ z, whl (fun (s : (List PBlock × Int)) => fettlelaw05_GraphStays.bd76 s.1 s.2) FUEL (L, 0) = some z ∧ True := by
  refine whl_for (body := fun (s : (List PBlock × Int)) => fettlelaw05_GraphStays.bd76 s.1 s.2) L.length (fun i s => Rows L.length s.1 ∧ s.2 = (i : Int)) (fun _ => True) (le_max hl (by omega)) (fun i s hi hI => ?_) (fun s hI => ?_) ⟨hL, rfl⟩
  · obtain ⟨M, q⟩ := s
    obtain ⟨h1, rfl⟩ := hI
    simp only at h1
    have hi' : i < M.length := by rw [h1.1]; exact hi
    obtain ⟨z, hz, hz1⟩ := fill_to _ i M h1 hi
    obtain ⟨y, hy, hy1⟩ := fill_ins _ i z hz1 hi
    exact .inr ⟨_, by simp only [fettlelaw05_GraphStays.bd76, len_lt, hi', if_true, hz, Option.bind_some, fettlelaw05_GraphStays.nx248, hy, fettlelaw05_GraphStays.nx270]; rfl, hy1, w64_i hi (by omega)⟩
  · obtain ⟨M, q⟩ := s
    obtain ⟨h1, rfl⟩ := hI
    simp only at h1
    exact ⟨(), by simp [fettlelaw05_GraphStays.bd76, len, h1.1], trivial⟩
theorem fill_next (L : List (List Int)) (hL : ∀ r ∈ L, r.length ≤ 70) (hl : L.length ≤ 70) : ∃ z, whl (fun (s : (List (List Int) × Int)) => fettlelaw05_GraphStays.bd101 s.1 s.2) FUEL (L, 0) = some z ∧ True := by
  refine whl_for (body := fun (s : (List (List Int) × Int)) => fettlelaw05_GraphStays.bd101 s.1 s.2) L.length (fun i s => (s.1.length = L.length ∧ ∀ r ∈ s.1, r.length ≤ 70) ∧ s.2 = (i : Int)) (fun _ => True) (le_max hl (by omega)) (fun i s hi hI => ?_) (fun s hI => ?_) ⟨⟨rfl, hL⟩, rfl⟩
  · obtain ⟨M, q⟩ := s
    obtain ⟨⟨h1, h2⟩, rfl⟩ := hI
    simp only at h1 h2
    have hi' : i < M.length := by omega
    have h70 := h2 _ (List.getElem_mem hi')
    obtain ⟨c, hc⟩ : ∃ c, M[i].length = c := ⟨_, rfl⟩
    rw [hc] at h70
    obtain ⟨z, hz, hz1⟩ := whl_for (body := fun (s : (List (List Int) × Int)) => fettlelaw05_GraphStays.bd201 (i : Int) s.1 s.2) (s0 := (M, 0)) c
      (fun (k : Nat) (s : List (List Int) × Int) => (s.1.length = L.length ∧ ∀ r ∈ s.1, r.length ≤ 70) ∧ s.2 = (k : Int) ∧ ∃ h : i < s.1.length, s.1[i].length = c) (fun z => z.length = L.length ∧ ∀ r ∈ z, r.length ≤ 70) (le_max h70 (by omega)) (fun k s hk hI => by
        obtain ⟨M', q⟩ := s
        obtain ⟨⟨g1, g2⟩, rfl, g3, g4⟩ := hI
        simp only at g1 g2 g3 g4
        have hk' : k < M'[i].length := by omega
        refine .inr ⟨_, by simp only [fettlelaw05_GraphStays.bd201, idx_lt g3, Option.bind_some, len_lt, hk', if_true, idx_lt hk']; rfl, ⟨by simp [g1], fun r hr => ?_⟩, w64_i hk (by omega), by simp; exact g3, by simp [g4]⟩
        rcases List.mem_or_eq_of_mem_set hr with hr | rfl
        · exact g2 r hr
        · simpa using g2 _ (List.getElem_mem g3)) (fun s hI => by
        obtain ⟨M', q⟩ := s
        obtain ⟨⟨g1, g2⟩, rfl, g3, g4⟩ := hI
        simp only at g1 g2 g3 g4
        exact ⟨M', by simp [fettlelaw05_GraphStays.bd201, idx_lt g3, len, g4], g1, g2⟩) ⟨⟨h1, h2⟩, rfl, hi', hc⟩
    exact .inr ⟨_, by simp only [fettlelaw05_GraphStays.bd101, len_lt, hi', if_true, hz, Option.bind_some, fettlelaw05_GraphStays.nx201]; rfl, hz1, w64_i hi (by omega)⟩
  · obtain ⟨M, q⟩ := s
    obtain ⟨⟨h1, h2⟩, rfl⟩ := hI
    simp only at h1 h2
    exact ⟨(), by simp [fettlelaw05_GraphStays.bd101, len, h1], trivial⟩
theorem trimAt_small (f : PFunc) (hf : SmF f) (s : List Bool) (i : Nat) (B : PBlock) (h : trimAt f s i = some B) : SmB B := by
  unfold trimAt at h
  split at h
  · rename_i B0 hB0
    split at h
    · cases h
      obtain ⟨b1, b2, b3, b4, b5⟩ := hf.2.2.2 B0 (List.mem_of_getElem? hB0)
      refine ⟨b1, by simpa [trimB] using b2, by simpa [trimB] using b3, b4, fun p hp => ?_⟩
      simp only [trimB, List.mem_map] at hp
      obtain ⟨q, hq, rfl⟩ := hp
      exact Nat.le_trans (keptF_length _ _ _) (b5 q hq)
    · cases h
  · cases h
theorem trimF_small (f : PFunc) (hf : SmF f) (s : List Bool) : SmF (trimF f s) := by
  refine ⟨?_, hf.2.1, hf.2.2.1, fun B hB => ?_⟩
  · have := List.length_filterMap_le (trimAt f s) (List.range f.blocks.length)
    have h1 := hf.1
    simp only [trimF, List.length_range] at this ⊢; omega
  · simp only [trimF, List.mem_filterMap] at hB
    obtain ⟨i, _, hi⟩ := hB
    exact trimAt_small f hf s i B hi
theorem pure_graphStays (f : PFunc) (h : wfFunc f) : fettlelaw05_GraphStays f = some true := by
  unfold fettlelaw05_GraphStays
  rw [up05]
  obtain ⟨b, hb, hsm⟩ := small05 f
  rw [hb]
  simp only [Option.bind_some]
  cases b with
  | false => simp
  | true =>
    have hf := hsm rfl
    obtain ⟨s, o, hw, h0, h1⟩ := walked_any f hf
    have hg := trimF_small f hf s
    simp only [Bool.not_true, Bool.false_eq_true, if_false, copyFunc_eq f hf, Option.bind_some, trim_eq f hf hw, hw.ord, sameFunc_eq f f hf, decide_true]
    obtain ⟨z1, hz1, _⟩ := fill_regs f.regs hf.2.1
    have hz1' : whl (fun (s : (List Int × Int)) => fettlelaw05_GraphStays.bd54 s.1 s.2) FUEL ((trimF f s).regs, 0) = some z1 := hz1
    obtain ⟨z2, hz2, _⟩ := fill_blocks (trimF f s).blocks ⟨rfl, hg.2.2.2⟩ hg.1
    have ht : ∀ B ∈ f.blocks, B.term.to.length ≤ 70 := fun B hm => (hf.2.2.2 B hm).2.2.1
    obtain ⟨z3, hz3, _⟩ := fill_next (nexts f) (fun r hr => by
      obtain ⟨v, hv, rfl⟩ := List.getElem_of_mem hr
      exact (nexts_rows f ht v _ (List.getElem?_eq_getElem hv)).1) (by rw [nexts_length]; exact hf.1)
    obtain ⟨z4, hz4, hl4⟩ := fill_order o.reverse (by simpa using hw.few)
    simp only [hz1', Option.bind_some, fettlelaw05_GraphStays.nx54, hz2, fettlelaw05_GraphStays.nx76, graphNext_eq f hf.1 ht, hz3, fettlelaw05_GraphStays.nx101, hz4, fettlelaw05_GraphStays.nx121, hw.ord, if_true, sameFunc_eq f f hf, decide_true]
    have hlen : len o.reverse = len z4 := by simp only [len]; omega
    rw [if_pos ⟨trivial, hlen⟩]
    rcases order_head f hf hw with rfl | ⟨p, hp⟩
    · simp [len]
    · rw [hp]
      rw [if_neg (by simp only [len, List.length_cons]; omega)]
      have : idx ((0 : Int) :: p) 0 = some 0 := by simp [idx]
      simp [this]
end Go.Proofs.Ytoflleabpkgdpaa
