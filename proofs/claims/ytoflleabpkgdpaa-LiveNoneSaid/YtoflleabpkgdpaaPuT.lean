/- Plain laws, part T: what Live tells: it comes to an end, and marks named registers alone. No conditions. -/
import Derived.Test.YtoflleabpkgdpaaPuS
set_option linter.unusedVariables false
set_option linter.unusedSimpArgs false
namespace Go.Proofs.Ytoflleabpkgdpaa
open Go Go.Proofs

/-- A register is named in a function. -/
def Named (f : PFunc) (r : Nat) : Prop := ∃ B ∈ f.blocks, (∃ p ∈ B.phis, (r : Int) ∈ p.args) ∨ (∃ x ∈ B.ins, (r : Int) ∈ x.args) ∨ B.term.arg = (r : Int)
/-- What is asked of a function of a proper module here. -/
structure LiveOk (f : PFunc) : Prop where
  sm : SmF f
  few : f.blocks.length ≤ 64
  regs : ∀ B ∈ f.blocks, RegsIn f.regs.length B
  ahead : ∀ i (hi : i < f.blocks.length), ∀ p ∈ f.blocks[i].phis, p.args.length = (preds (nexts f) i).length
theorem FuncOk.live {m : PModule} {f : PFunc} (hf : SmF f) (h : FuncOk m f) : LiveOk f := ⟨hf, h.small.blocks, fun B hB => (h.blocks B hB).regs, h.ahead⟩

theorem table_eq (f : PFunc) (hf : SmF f) : live_table f = some (List.replicate f.blocks.length (List.replicate f.regs.length false)) := by
  obtain ⟨hn, hr, _, _⟩ := hf
  unfold live_table
  have hmk : mkl (len f.blocks) ([] : List Bool) = some (List.replicate f.blocks.length []) := mkl_rep (n := f.blocks.length) [] hn
  have hmk2 : mkl (len f.regs) false = some (List.replicate f.regs.length false) := by
    have h1 : f.regs.length < LIM := by simp only [LIM]; omega
    simp [mkl, len, h1]
  rw [hmk]
  simp only [Option.bind_some]
  have hrun := whl_run (body := fun (s : (List (List Bool) × Int)) => live_table.bd19 f (List.replicate f.blocks.length []) s.1 s.2) (r := List.replicate f.blocks.length (List.replicate f.regs.length false)) f.blocks.length FUEL
    (fun i => (List.replicate i (List.replicate f.regs.length false) ++ List.replicate (f.blocks.length - i) [], (i : Int))) (fun i hi => by
      have hl : (List.replicate i (List.replicate f.regs.length false) ++ List.replicate (f.blocks.length - i) ([] : List Bool)).length = f.blocks.length := by simp; omega
      have hc : (i : Int) < len (List.replicate f.blocks.length ([] : List Bool)) := by simp only [len, List.length_replicate]; omega
      simp only [live_table.bd19, hc, if_true, hmk2, Option.bind_some, idx_lt (show i < (List.replicate i (List.replicate f.regs.length false) ++ List.replicate (f.blocks.length - i) ([] : List Bool)).length by omega), w64_i hi (show f.blocks.length ≤ 1000 by omega), Int.toNat_natCast]
      have : (List.replicate i (List.replicate f.regs.length false) ++ List.replicate (f.blocks.length - i) ([] : List Bool)).set i (List.replicate f.regs.length false) = List.replicate (i + 1) (List.replicate f.regs.length false) ++ List.replicate (f.blocks.length - (i + 1)) [] := by
        rw [List.set_append_right _ _ (by simp), List.length_replicate, Nat.sub_self]
        obtain ⟨d, hd⟩ : ∃ d, f.blocks.length - i = d + 1 := ⟨f.blocks.length - i - 1, by omega⟩
        rw [hd, show f.blocks.length - (i + 1) = d by omega, List.replicate_succ, List.set_cons_zero, List.replicate_succ', List.append_assoc]; rfl
      rw [this]) (by simp [live_table.bd19, len]) (lt_FUEL (le_max hn (by omega)))
  simp only [List.replicate_zero, List.nil_append, Nat.sub_zero] at hrun
  have h00 : (List.replicate f.blocks.length ([] : List Bool), ((0 : Nat) : Int)) = (List.replicate f.blocks.length ([] : List Bool), (0 : Int)) := rfl
  rw [h00] at hrun
  rw [hrun]; rfl
theorem Dim.rep (n k : Nat) : Dim n k (List.replicate n (List.replicate k false)) :=
  ⟨by simp, fun r hr => by rw [List.eq_of_mem_replicate hr]; simp⟩
theorem Nm.rep (P : Nat → Prop) (n k : Nat) : Nm P (List.replicate n (List.replicate k false)) := fun row hr r h => by
  rw [List.eq_of_mem_replicate hr, List.getElem?_replicate] at h
  split at h <;> simp at h
theorem Dim.get {n k : Nat} {T : List (List Bool)} (h : Dim n k T) {b : Int} (h0 : 0 ≤ b) (h1 : b < (n : Int)) : ∃ row, idx T b = some row ∧ T[b.toNat]? = some row ∧ row.length = k := by
  obtain ⟨row, h2, h3⟩ := idx_in (xs := T) h0 (by rw [h.len]; exact h1)
  exact ⟨row, h2, h3, h.row row (List.mem_of_getElem? h3)⟩

/-! ### What phis want at ends -/
def Ends (f : PFunc) (T : List (List Bool)) : Prop := Dim f.blocks.length f.regs.length T ∧ Nm (Named f) T
theorem ends_args (f : PFunc) (hf : LiveOk f) (t : Nat) (ht : t < f.blocks.length) (p : PPhi) (hp : p ∈ f.blocks[t].phis) (T : List (List Bool)) (hT : Ends f T) :
    ∃ z, whl (fun (s : (List (List Bool) × Int)) => live_Live.bd383 (aheads (nexts f)) (t : Int) p s.1 s.2) FUEL (T, 0) = some z ∧ Ends f z := by
  have h5 := (hf.sm.2.2.2 _ (List.getElem_mem ht)).2.2.2.2 p hp
  have hal := hf.ahead t ht p hp
  refine whl_for (body := fun (s : (List (List Bool) × Int)) => live_Live.bd383 (aheads (nexts f)) (t : Int) p s.1 s.2) p.args.length (fun i s => Ends f s.1 ∧ s.2 = (i : Int)) (fun z => Ends f z) (le_max h5 (by omega)) (fun i s hi hI => ?_) (fun s hI => ?_) ⟨hT, rfl⟩
  · obtain ⟨M, q⟩ := s
    obtain ⟨⟨hd, hn⟩, rfl⟩ := hI
    simp only at hd hn
    have hg : idx (aheads (nexts f)) (t : Int) = some (preds (nexts f) t) := by rw [idx_nat]; exact aheads_get _ _ (by rw [nexts_length]; exact ht)
    have hip : i < (preds (nexts f) t).length := by omega
    have hb := preds_in (nexts f) t _ (List.getElem_mem hip)
    rw [nexts_length] at hb
    obtain ⟨row, r1, r2, r3⟩ := hd.get hb.1 hb.2
    obtain ⟨g1, g2⟩ := (hf.regs _ (List.getElem_mem ht)).pargs p hp _ (List.getElem_mem hi)
    obtain ⟨y, hy, _⟩ := idx_in (xs := row) g1 (by rw [r3]; exact g2)
    refine .inr ⟨_, by simp only [live_Live.bd383, len_lt, hi, if_true, idx_lt hi, hg, idx_lt hip, Option.bind_some, r1, hy]; rfl, ?_, w64_i hi (by omega)⟩
    refine ⟨hd.set _ (by simp [r3]), hn.set _ (mark_P (hn row (List.mem_of_getElem? r2)) _ ?_)⟩
    exact ⟨_, List.getElem_mem ht, .inl ⟨p, hp, by rw [Int.toNat_of_nonneg g1]; exact List.getElem_mem hi⟩⟩
  · obtain ⟨M, q⟩ := s
    obtain ⟨h1, rfl⟩ := hI
    exact ⟨M, by simp [live_Live.bd383, len], h1⟩
theorem ends_phis (f : PFunc) (hf : LiveOk f) (t : Nat) (ht : t < f.blocks.length) (T : List (List Bool)) (hT : Ends f T) :
    ∃ z, whl (fun (s : (List (List Bool) × Int)) => live_Live.bd339 (aheads (nexts f)) (t : Int) f.blocks[t] s.1 s.2) FUEL (T, 0) = some z ∧ Ends f z := by
  have h2 := (hf.sm.2.2.2 _ (List.getElem_mem ht)).2.1
  refine whl_for (body := fun (s : (List (List Bool) × Int)) => live_Live.bd339 (aheads (nexts f)) (t : Int) f.blocks[t] s.1 s.2) f.blocks[t].phis.length (fun i s => Ends f s.1 ∧ s.2 = (i : Int)) (fun z => Ends f z) (le_max h2 (by omega)) (fun i s hi hI => ?_) (fun s hI => ?_) ⟨hT, rfl⟩
  · obtain ⟨M, q⟩ := s
    obtain ⟨h1, rfl⟩ := hI
    have h1 : Ends f M := h1
    obtain ⟨z, hz, hz1⟩ := ends_args f hf t ht _ (List.getElem_mem hi) M h1
    exact .inr ⟨_, by simp only [live_Live.bd339, len_lt, hi, if_true, idx_lt hi, Option.bind_some, hz, live_Live.nx383]; rfl, hz1, w64_i hi (by omega)⟩
  · obtain ⟨M, q⟩ := s
    obtain ⟨h1, rfl⟩ := hI
    exact ⟨M, by simp [live_Live.bd339, len], h1⟩
theorem ends_all (f : PFunc) (hf : LiveOk f) (T : List (List Bool)) (hT : Ends f T) :
    ∃ z, whl (fun (s : (List (List Bool) × Int)) => live_Live.bd54 f (aheads (nexts f)) s.1 s.2) FUEL (T, 0) = some z ∧ Ends f z := by
  have hn := hf.few
  refine whl_for (body := fun (s : (List (List Bool) × Int)) => live_Live.bd54 f (aheads (nexts f)) s.1 s.2) f.blocks.length (fun i s => Ends f s.1 ∧ s.2 = (i : Int)) (fun z => Ends f z) (le_max hn (by omega)) (fun i s hi hI => ?_) (fun s hI => ?_) ⟨hT, rfl⟩
  · obtain ⟨M, q⟩ := s
    obtain ⟨h1, rfl⟩ := hI
    have h1 : Ends f M := h1
    obtain ⟨z, hz, hz1⟩ := ends_phis f hf i hi M h1
    exact .inr ⟨_, by simp only [live_Live.bd54, len_lt, hi, if_true, idx_lt hi, Option.bind_some, hz, live_Live.nx339]; rfl, hz1, w64_i hi (by omega)⟩
  · obtain ⟨M, q⟩ := s
    obtain ⟨h1, rfl⟩ := hI
    exact ⟨M, by simp [live_Live.bd54, len], h1⟩

/-! ### A round -/
structure LI (f : PFunc) (ins ends : List (List Bool)) : Prop where
  dimI : Dim f.blocks.length f.regs.length ins
  dimE : Dim f.blocks.length f.regs.length ends
  nmI : Nm (Named f) ins
  nmE : Nm (Named f) ends
  sub : ∀ (b : Nat) (hb : b < f.blocks.length) (ri re : List Bool), ins[b]? = some ri → ends[b]? = some re → Le ri (beginF f.blocks[b] re)
/-- How much is left, W being what was left at the round's beginning. -/
def Left (W : Nat) (again : Bool) (ins ends : List (List Bool)) : Prop := fal ins + fal ends ≤ W ∧ (again = true → fal ins + fal ends < W)
theorem named_begin {f : PFunc} {b : Nat} (hb : b < f.blocks.length) (hR : RegsIn f.regs.length f.blocks[b]) {re : List Bool} (h : ∀ r : Nat, re[r]? = some true → Named f r) : ∀ r : Nat, (beginF f.blocks[b] re)[r]? = some true → Named f r :=
  beginF_P _ h (fun x hx a ha => ⟨_, List.getElem_mem hb, .inr (.inl ⟨x, hx, by
    obtain ⟨g1, _⟩ := hR.args x hx a ha
    rw [Int.toNat_of_nonneg g1]; exact ha⟩)⟩) (fun hg => ⟨_, List.getElem_mem hb, .inr (.inr (by rw [Int.toNat_of_nonneg hg]))⟩)
/-- What a following block wants is wanted at the end. -/
theorem round_to (f : PFunc) (hf : LiveOk f) (W : Nat) (b : Nat) (hb : b < f.blocks.length) (ins : List (List Bool)) (row : List Bool) (hrow : row ∈ ins) (ends : List (List Bool)) (again : Bool) (hL : LI f ins ends) (hW : Left W again ins ends) :
    ∃ z, whl (fun (s : (List (List Bool) × Bool × Int)) => live_Live.bd240 (b : Int) row s.1 s.2.1 s.2.2) FUEL (ends, again, 0) = some z ∧ LI f ins z.1 ∧ Left W z.2 ins z.1 := by
  have hk := hf.sm.2.1
  have hrl := hL.dimI.row row hrow
  refine whl_for (s0 := (ends, again, 0)) (body := fun (s : (List (List Bool) × Bool × Int)) => live_Live.bd240 (b : Int) row s.1 s.2.1 s.2.2) row.length (fun i s => LI f ins s.1 ∧ Left W s.2.1 ins s.1 ∧ s.2.2 = (i : Int)) (fun z => LI f ins z.1 ∧ Left W z.2 ins z.1) (le_max (show row.length ≤ 300 by omega) (by omega)) (fun i s hi hI => ?_) (fun s hI => ?_) ⟨hL, hW, rfl⟩
  · obtain ⟨E, g, q⟩ := s
    obtain ⟨h1, h2, rfl⟩ := hI
    simp only at h1 h2
    obtain ⟨re, r1, r2, r3⟩ := h1.dimE.get (b := (b : Int)) (by omega) (by omega)
    rw [Int.toNat_natCast] at r2
    have hire : i < re.length := by omega
    have hstep : ((if row[i] = true then (idx E (b : Int)).bind fun x => (idx x (i : Int)).bind fun y => some (!y) else some false) : Option Bool) = some (row[i] && !re[i]) := by
      cases hr : row[i] with
      | false => simp
      | true => simp [r1, idx_lt hire]
    refine .inr ?_
    simp only [live_Live.bd240, len_lt, hi, if_true, idx_lt hi, Option.bind_some, hstep]
    by_cases hc : (row[i] && !re[i]) = true
    · rw [if_pos hc, r1]
      simp only [Option.bind_some, idx_lt hire, live_Live.jn273, Int.toNat_natCast, w64_i hi (show row.length ≤ 1000 by omega)]
      simp only [Bool.and_eq_true, Bool.not_eq_true'] at hc
      have hrf : re[i]? = some false := by rw [List.getElem?_eq_getElem hire, hc.2]
      have hfal := fal_mark r2 hrf
      refine ⟨_, rfl, ⟨h1.dimI, h1.dimE.set _ (by simp [r3]), h1.nmI, h1.nmE.set _ (mark_P (h1.nmE re (List.mem_of_getElem? r2)) _ ?_), fun b' hb' ri re' e1 e2 => ?_⟩, ?_, rfl⟩
      · exact h1.nmI row hrow i (by rw [List.getElem?_eq_getElem hi, hc.1])
      · rw [List.getElem?_set] at e2
        by_cases hbb : b = b'
        · subst hbb
          rw [if_pos rfl, if_pos (by rw [h1.dimE.len]; exact hb)] at e2
          cases e2
          exact (h1.sub b hb ri re e1 r2).trans (beginF_mono _ (Le.mark re i))
        · rw [if_neg hbb] at e2
          exact h1.sub b' hb' ri re' e1 e2
      · have := h2.1
        exact ⟨by simp only; omega, fun _ => by simp only; omega⟩
    · rw [if_neg hc]
      simp only [live_Live.jn273, w64_i hi (show row.length ≤ 1000 by omega)]
      exact ⟨_, rfl, h1, h2, rfl⟩
  · obtain ⟨E, g, q⟩ := s
    obtain ⟨h1, h2, rfl⟩ := hI
    exact ⟨(E, g), by simp [live_Live.bd240, len], h1, h2⟩
theorem round_next (f : PFunc) (hf : LiveOk f) (W : Nat) (b : Nat) (hb : b < f.blocks.length) (ins : List (List Bool)) (ends : List (List Bool)) (again : Bool) (hL : LI f ins ends) (hW : Left W again ins ends) (row : List Int) (hr : row.length ≤ 70) (hin : ∀ x ∈ row, 0 ≤ x ∧ x < (f.blocks.length : Int)) :
    ∃ z, whl (fun (s : (List (List Bool) × Bool × Int)) => live_Live.bd139 ins (b : Int) row s.1 s.2.1 s.2.2) FUEL (ends, again, 0) = some z ∧ LI f ins z.1 ∧ Left W z.2 ins z.1 := by
  refine whl_for (s0 := (ends, again, 0)) (body := fun (s : (List (List Bool) × Bool × Int)) => live_Live.bd139 ins (b : Int) row s.1 s.2.1 s.2.2) row.length (fun i s => LI f ins s.1 ∧ Left W s.2.1 ins s.1 ∧ s.2.2 = (i : Int)) (fun z => LI f ins z.1 ∧ Left W z.2 ins z.1) (le_max hr (by omega)) (fun i s hi hI => ?_) (fun s hI => ?_) ⟨hL, hW, rfl⟩
  · obtain ⟨E, g, q⟩ := s
    obtain ⟨h1, h2, rfl⟩ := hI
    simp only at h1 h2
    obtain ⟨g1, g2⟩ := hin _ (List.getElem_mem hi)
    obtain ⟨ri, r1, r2, r3⟩ := h1.dimI.get g1 g2
    obtain ⟨z, hz, hz1, hz2⟩ := round_to f hf W b hb ins ri (List.mem_of_getElem? r2) E g h1 h2
    exact .inr ⟨_, by simp only [live_Live.bd139, len_lt, hi, if_true, idx_lt hi, Option.bind_some, r1, hz, live_Live.nx240]; rfl, hz1, hz2, w64_i hi (by omega)⟩
  · obtain ⟨E, g, q⟩ := s
    obtain ⟨h1, h2, rfl⟩ := hI
    exact ⟨(E, g), by simp [live_Live.bd139, len], h1, h2⟩
theorem round_in (f : PFunc) (hf : LiveOk f) (W : Nat) (b : Nat) (hb : b < f.blocks.length) (ins : List (List Bool)) (ends : List (List Bool)) (again : Bool) (hL : LI f ins ends) (hW : Left W again ins ends) (re : List Bool) (hre : ends[b]? = some re) :
    ∃ z, whl (fun (s : (List (List Bool) × Bool × Int)) => live_Live.bd169 (b : Int) (beginF f.blocks[b] re) s.1 s.2.1 s.2.2) FUEL (ins, again, 0) = some z ∧ LI f z.1 ends ∧ Left W z.2 z.1 ends := by
  have hk := hf.sm.2.1
  have hrl : (beginF f.blocks[b] re).length = f.regs.length := by rw [beginF_length]; exact hL.dimE.row re (List.mem_of_getElem? hre)
  refine whl_for (s0 := (ins, again, 0)) (body := fun (s : (List (List Bool) × Bool × Int)) => live_Live.bd169 (b : Int) (beginF f.blocks[b] re) s.1 s.2.1 s.2.2) (beginF f.blocks[b] re).length (fun i s => LI f s.1 ends ∧ Left W s.2.1 s.1 ends ∧ s.2.2 = (i : Int)) (fun z => LI f z.1 ends ∧ Left W z.2 z.1 ends) (le_max (show (beginF f.blocks[b] re).length ≤ 300 by omega) (by omega)) (fun i s hi hI => ?_) (fun s hI => ?_) ⟨hL, hW, rfl⟩
  · obtain ⟨N, g, q⟩ := s
    obtain ⟨h1, h2, rfl⟩ := hI
    simp only at h1 h2
    obtain ⟨ri, r1, r2, r3⟩ := h1.dimI.get (b := (b : Int)) (by omega) (by omega)
    rw [Int.toNat_natCast] at r2
    have hiri : i < ri.length := by omega
    have hle := h1.sub b hb ri re r2 hre
    refine .inr ?_
    simp only [live_Live.bd169, len_lt, hi, if_true, idx_lt hi, Option.bind_some, r1, idx_lt hiri]
    by_cases hc : (!((beginF f.blocks[b] re)[i] == ri[i])) = true
    · rw [if_pos hc]
      simp only [live_Live.jn196, Int.toNat_natCast, w64_i hi (show (beginF f.blocks[b] re).length ≤ 1000 by omega)]
      have hri : ri[i] = false := by
        cases hx : ri[i] with
        | false => rfl
        | true =>
          have := hle.le i (by rw [List.getElem?_eq_getElem hiri, hx])
          rw [List.getElem?_eq_getElem hi] at this
          have := Option.some.inj this
          rw [this, hx] at hc
          simp at hc
      have hbt : (beginF f.blocks[b] re)[i] = true := by
        rw [hri] at hc
        simpa using hc
      have hrf : ri[i]? = some false := by rw [List.getElem?_eq_getElem hiri, hri]
      have hfal := fal_mark r2 hrf
      rw [hbt]
      refine ⟨_, rfl, ⟨h1.dimI.set _ (by simp [r3]), h1.dimE, h1.nmI.set _ (mark_P (h1.nmI ri (List.mem_of_getElem? r2)) _ ?_), h1.nmE, fun b' hb' ri' re' e1 e2 => ?_⟩, ?_, rfl⟩
      · exact named_begin hb (hf.regs _ (List.getElem_mem hb)) (h1.nmE re (List.mem_of_getElem? hre)) i (by rw [List.getElem?_eq_getElem hi, hbt])
      · rw [List.getElem?_set] at e1
        by_cases hbb : b = b'
        · subst hbb
          rw [if_pos rfl, if_pos (by rw [h1.dimI.len]; exact hb)] at e1
          cases e1
          rw [hre] at e2
          cases e2
          refine ⟨by simp; omega, fun r hr => ?_⟩
          rw [List.getElem?_set] at hr
          by_cases hir : i = r
          · subst hir; rw [List.getElem?_eq_getElem hi, hbt]
          · rw [if_neg hir] at hr; exact hle.le r hr
        · rw [if_neg hbb] at e1
          exact h1.sub b' hb' ri' re' e1 e2
      · have := h2.1
        exact ⟨by simp only; omega, fun _ => by simp only; omega⟩
    · rw [if_neg hc]
      simp only [live_Live.jn196, w64_i hi (show (beginF f.blocks[b] re).length ≤ 1000 by omega)]
      exact ⟨_, rfl, h1, h2, rfl⟩
  · obtain ⟨N, g, q⟩ := s
    obtain ⟨h1, h2, rfl⟩ := hI
    exact ⟨(N, g), by simp [live_Live.bd169, len], h1, h2⟩
theorem round_all (f : PFunc) (hf : LiveOk f) (ins ends : List (List Bool)) (hL : LI f ins ends) :
    ∃ z, whl (fun (s : (List (List Bool) × List (List Bool) × Bool × Int)) => live_Live.bd104 f (nexts f) s.1 s.2.1 s.2.2.1 s.2.2.2) FUEL (ins, ends, false, (w64 ((len f.blocks) - 1))) = some z ∧ LI f z.1 z.2.1 ∧ Left (fal ins + fal ends) z.2.2 z.1 z.2.1 := by
  have hn := hf.few
  have ht : ∀ B ∈ f.blocks, B.term.to.length ≤ 70 := fun B hm => (hf.sm.2.2.2 B hm).2.2.1
  have h0 : w64 ((len f.blocks) - 1) = (f.blocks.length : Int) - ((0 + 1 : Nat) : Int) := by simp only [len]; rw [w64_id ⟨by omega, by omega⟩]; omega
  rw [h0]
  refine whl_for (s0 := (ins, ends, false, (f.blocks.length : Int) - ((0 + 1 : Nat) : Int))) (body := fun (s : (List (List Bool) × List (List Bool) × Bool × Int)) => live_Live.bd104 f (nexts f) s.1 s.2.1 s.2.2.1 s.2.2.2) f.blocks.length (fun i s => LI f s.1 s.2.1 ∧ Left (fal ins + fal ends) s.2.2.1 s.1 s.2.1 ∧ s.2.2.2 = (f.blocks.length : Int) - ((i + 1 : Nat) : Int)) (fun z => LI f z.1 z.2.1 ∧ Left (fal ins + fal ends) z.2.2 z.1 z.2.1) (le_max hn (by omega)) (fun i s hi hI => ?_) (fun s hI => ?_) ⟨hL, ⟨Nat.le_refl _, fun h => by cases h⟩, rfl⟩
  · obtain ⟨N, E, g, q⟩ := s
    obtain ⟨h1, h2, rfl⟩ := hI
    simp only at h1 h2
    have hj : (f.blocks.length : Int) - ((i + 1 : Nat) : Int) = ((f.blocks.length - 1 - i : Nat) : Int) := by omega
    have hjl : f.blocks.length - 1 - i < f.blocks.length := by omega
    have e1 : w64 (((f.blocks.length - 1 - i : Nat) : Int) - 1) = (f.blocks.length : Int) - ((i + 1 + 1 : Nat) : Int) := by rw [w64_id ⟨by omega, by omega⟩]; omega
    have hrow := nexts_rows f ht (f.blocks.length - 1 - i) _ (nexts_get f _ hjl)
    rw [nexts_length] at hrow
    have hix : idx (nexts f) ((f.blocks.length - 1 - i : Nat) : Int) = some (succs f.blocks.length (f.blocks[f.blocks.length - 1 - i]).term.to) := by rw [idx_nat]; exact nexts_get f _ hjl
    obtain ⟨z, hz, hz1, hz2⟩ := round_next f hf (fal ins + fal ends) (f.blocks.length - 1 - i) hjl N E g h1 h2 _ hrow.1 hrow.2
    obtain ⟨re, r1, r2, r3⟩ := hz1.dimE.get (b := ((f.blocks.length - 1 - i : Nat) : Int)) (by omega) (by omega)
    rw [Int.toNat_natCast] at r2
    obtain ⟨y, hy, hy1, hy2⟩ := round_in f hf (fal ins + fal ends) (f.blocks.length - 1 - i) hjl N z.1 z.2 hz1 hz2 re r2
    have hb := begin_eq f.blocks[f.blocks.length - 1 - i] re (hf.sm.2.2.2 _ (List.getElem_mem hjl)) (by rw [r3]; exact hf.regs _ (List.getElem_mem hjl)) (by rw [r3]; exact hf.sm.2.1)
    refine .inr ⟨(y.1, z.1, y.2, (f.blocks.length : Int) - ((i + 1 + 1 : Nat) : Int)), ?_, hy1, hy2, rfl⟩
    simp only [live_Live.bd104, hj]
    rw [if_pos (by omega), hix]
    simp only [Option.bind_some, hz, live_Live.nx139, idx_lt hjl, r1, hb, hy, live_Live.nx169, e1]
  · obtain ⟨N, E, g, q⟩ := s
    obtain ⟨h1, h2, rfl⟩ := hI
    refine ⟨(N, E, g), ?_, h1, h2⟩
    simp only [live_Live.bd104]
    rw [if_neg (by omega)]
theorem live_rounds (f : PFunc) (hf : LiveOk f) (ins ends : List (List Bool)) (hL : LI f ins ends) (hbig : fal ins + fal ends ≤ 1000000) :
    ∃ z, whl (fun (s : (List (List Bool) × List (List Bool) × Bool)) => live_Live.bd74 f (nexts f) s.1 s.2.1 s.2.2) FUEL (ins, ends, true) = some z ∧ LI f z.1 z.2 := by
  refine whl_ex (body := fun (s : (List (List Bool) × List (List Bool) × Bool)) => live_Live.bd74 f (nexts f) s.1 s.2.1 s.2.2) (fun s => LI f s.1 s.2.1) (fun s => 2 * (fal s.1 + fal s.2.1) + (if s.2.2 = true then 1 else 0)) (fun z => LI f z.1 z.2) (fun s hI => ?_) FUEL _ hL (by
    simp only [if_true]
    exact lt_FUEL (by simp only [maxLen]; omega))
  obtain ⟨N, E, g⟩ := s
  simp only at hI
  cases g with
  | false => exact .inl ⟨(N, E), by simp [live_Live.bd74], hI⟩
  | true =>
    obtain ⟨z, hz, hz1, hz2, hz3⟩ := round_all f hf N E hI
    refine .inr ⟨(z.1, z.2.1, z.2.2), by simp only [live_Live.bd74, if_true, hz, Option.bind_some, live_Live.nx104], hz1, ?_⟩
    simp only [if_true]
    cases hg : z.2.2 with
    | false => simp only [Bool.false_eq_true, if_false]; omega
    | true => have := hz3 hg; simp only [if_true]; omega
theorem fal_le (n k : Nat) (T : List (List Bool)) (h : Dim n k T) : fal T ≤ n * k := by
  obtain ⟨h1, h2⟩ := h
  induction T generalizing n with
  | nil => simp [fal]
  | cons r T ih =>
    have hr := h2 r (by simp)
    have := ih (n := n - 1) (by simp at h1; omega) (fun x hx => h2 x (List.mem_cons_of_mem _ hx))
    have hc : cnt r ≤ k := by rw [← hr]; exact List.count_le_length
    obtain ⟨m, rfl⟩ : ∃ m, n = m + 1 := ⟨n - 1, by simp at h1; omega⟩
    simp only [fal, List.map_cons, List.sum_cons, Nat.add_sub_cancel] at this ⊢
    rw [Nat.add_mul]; omega
theorem has_says (m : PModule) (hm : SmM m) (a : Int) : Says (live_has m a) (Proper m ∧ 0 ≤ a ∧ a < (m.funcs.length : Int)) := by
  unfold live_has
  obtain ⟨e, he1, he2⟩ := module_says m hm
  rw [he1]
  simp only [Option.bind_some]
  by_cases h : e = GErr.no
  · rw [if_neg (by simpa using h)]
    by_cases h2 : a < 0 ∨ a ≥ len m.funcs
    · rw [if_pos h2]; exact .code fun h3 => by simp only [len] at h2; omega
    · rw [if_neg h2]
      simp only [not_or, len] at h2
      exact .no ⟨he2.1 h, by omega, by omega⟩
  · rw [if_pos h]; exact ⟨e, rfl, fun h1 => absurd h1 h, fun h1 => (h (he2.2 h1.1)).elim⟩
theorem live_any (m : PModule) (hm : SmM m) (a : Int) : ∃ e, live_has m a = some e ∧
    ((e ≠ GErr.no ∧ live_Live m a = some ([], [], e)) ∨ (e = GErr.no ∧ Proper m ∧ ∃ k : Nat, a = k ∧ ∃ hk : k < m.funcs.length, ∃ ins ends, live_Live m a = some (ins, ends, GErr.no) ∧ LI m.funcs[k] ins ends)) := by
  obtain ⟨e, he1, he2⟩ := has_says m hm a
  refine ⟨e, he1, ?_⟩
  unfold live_Live
  rw [he1]
  simp only [Option.bind_some]
  by_cases h : e = GErr.no
  · right
    rw [if_neg (by simpa using h)]
    obtain ⟨hp, h0, h1⟩ := he2.1 h
    refine ⟨h, hp, a.toNat, by omega, by omega, ?_⟩
    have hk : a.toNat < m.funcs.length := by omega
    have hix : idx m.funcs a = some m.funcs[a.toNat] := by
      simp only [idx, if_pos h0]; exact List.getElem?_eq_getElem hk
    have hsm := hm.2 _ (List.getElem_mem hk)
    have hf := (hp.funcs _ (List.getElem_mem hk)).live hsm
    rw [hix]
    generalize m.funcs[a.toNat] = f at *
    have ht : ∀ B ∈ f.blocks, B.term.to.length ≤ 70 := fun B hm => (hsm.2.2.2 B hm).2.2.1
    simp only [Option.bind_some, graphNext_eq f hsm.1 ht, checkAhead_eq f hsm, table_eq f hsm]
    obtain ⟨z, hz, hz1, hz2⟩ := ends_all f hf _ ⟨Dim.rep _ _, Nm.rep _ _ _⟩
    rw [hz]
    simp only [Option.bind_some, live_Live.nx54]
    have hLI : LI f (List.replicate f.blocks.length (List.replicate f.regs.length false)) z := by
      refine ⟨Dim.rep _ _, hz1, Nm.rep _ _ _, hz2, fun b hb ri re e1 e2 => ⟨?_, fun r hr => ?_⟩⟩
      · rw [beginF_length, hz1.row re (List.mem_of_getElem? e2)]
        exact (Dim.rep _ _).row ri (List.mem_of_getElem? e1)
      · rw [List.eq_of_mem_replicate (List.mem_of_getElem? e1), List.getElem?_replicate] at hr
        split at hr <;> simp at hr
    have hn := hf.few
    have hr := hsm.2.1
    have hb : f.blocks.length * f.regs.length ≤ 64 * 300 := Nat.mul_le_mul hn hr
    obtain ⟨y, hy, hy1⟩ := live_rounds f hf _ z hLI (by
      have a1 := fal_le _ _ _ (Dim.rep f.blocks.length f.regs.length)
      have a2 := fal_le _ _ _ hz1
      omega)
    rw [hy]
    exact ⟨y.1, y.2, rfl, hy1⟩
  · left
    rw [if_pos h]
    exact ⟨h, rfl⟩
end Go.Proofs.Ytoflleabpkgdpaa
