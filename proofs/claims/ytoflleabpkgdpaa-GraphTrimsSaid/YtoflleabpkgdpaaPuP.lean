/- Plain laws, part P: the reference's Trim; the law GraphTrims. No conditions. -/
import Derived.Test.YtoflleabpkgdpaaPuL
import Derived.Test.YtoflleabpkgdpaaGf
set_option linter.unusedVariables false
set_option linter.unusedSimpArgs false
namespace Go.Proofs.Ytoflleabpkgdpaa
open Go Go.Proofs

theorem refAhead_in (f : PFunc) (b : Int) (i : Nat) (hi : i < f.blocks.length) (ht : f.blocks[i].term.to.length ≤ 70) :
    whl (fun (s : (Bool × Int)) => fettleref02_Ahead.bd55 f b (i : Int) s.1 s.2) FUEL (false, 0) = some (decide (b ∈ f.blocks[i].term.to)) := by
  have := whl_run (body := fun (s : (Bool × Int)) => fettleref02_Ahead.bd55 f b (i : Int) s.1 s.2) (r := decide (b ∈ f.blocks[i].term.to)) f.blocks[i].term.to.length FUEL
    (fun k => (decide (b ∈ f.blocks[i].term.to.take k), (k : Int))) (fun k hk => by
      simp only [fettleref02_Ahead.bd55, idx_lt hi, Option.bind_some, len_lt, hk, if_true, idx_lt hk, w64_i hk (show f.blocks[i].term.to.length ≤ 1000 by omega), List.take_succ_eq_append_getElem hk, List.mem_append, List.mem_singleton]
      by_cases h1 : b ∈ f.blocks[i].term.to.take k
      · simp [h1]
      · simp [h1, eq_comm (a := b)]) (by simp [fettleref02_Ahead.bd55, idx_lt hi, len]) (lt_FUEL (le_max ht (by omega)))
  simpa using this
theorem refAhead_eq (f : PFunc) (hf : SmF f) (b : Nat) (hb : b < f.blocks.length) : fettleref02_Ahead f (b : Int) = some (preds (nexts f) b) := by
  obtain ⟨hn, _, _, hB⟩ := hf
  unfold fettleref02_Ahead
  have hrun := whl_run (body := fun (s : (List Int × Int)) => fettleref02_Ahead.bd18 f (b : Int) s.1 s.2) (r := preds (nexts f) b) f.blocks.length FUEL
    (fun i => (((List.range i).filter fun j => decide ((b : Int) ∈ (nexts f).getD j [])).map (fun j : Nat => (j : Int)), (i : Int))) (fun i hi => by
      have hl : (((List.range i).filter fun j => decide ((b : Int) ∈ (nexts f).getD j [])).map (fun j : Nat => (j : Int))).length ≤ 1000 := by
        have h1 : ((List.range i).filter fun j => decide ((b : Int) ∈ (nexts f).getD j [])).length ≤ (List.range i).length := List.length_filter_le _ _
        simp only [List.length_range] at h1
        rw [List.length_map]; omega
      simp only [fettleref02_Ahead.bd18, len_lt, hi, if_true, refAhead_in f b i hi (hB _ (List.getElem_mem hi)).2.2.1, Option.bind_some, fettleref02_Ahead.nx55]
      have hmem : ((b : Int) ∈ f.blocks[i].term.to) ↔ (b : Int) ∈ (nexts f).getD i [] := by
        rw [List.getD_eq_getElem?_getD, nexts_get f i hi, Option.getD_some, mem_succs]
        constructor
        · intro h; exact ⟨h, by omega, by omega⟩
        · exact fun h => h.1
      rw [List.range_succ, List.filter_append, List.map_append]
      by_cases hc : (b : Int) ∈ (nexts f).getD i []
      · rw [if_pos (by simpa using hmem.2 hc), cat_one hl, List.filter_cons_of_pos (by simpa using hc)]
        simp only [Option.bind_some, fettleref02_Ahead.jn37, w64_i hi (show f.blocks.length ≤ 1000 by omega)]
        rfl
      · rw [if_neg (by simpa using fun h => hc (hmem.1 h)), List.filter_cons_of_neg (by simpa using hc)]
        simp only [fettleref02_Ahead.jn37, w64_i hi (show f.blocks.length ≤ 1000 by omega)]
        simp) (by
      simp only [fettleref02_Ahead.bd18, len_lt, Nat.lt_irrefl, if_false, preds, nexts_length]) (lt_FUEL (le_max hn (by omega)))
  simp only [List.range_zero, List.filter_nil, List.map_nil] at hrun
  have h00 : (([] : List Int), ((0 : Nat) : Int)) = (([] : List Int), (0 : Int)) := rfl
  rw [h00] at hrun
  rw [hrun]; rfl
theorem from_any (f : PFunc) (hf : SmF f) {s : List Bool} {o : List Int} (hw : Walked f s o) : fettleref05_From f 0 (-1) = some s := by
  obtain ⟨s1, o1, hw1, h10, h11⟩ := walked_any f hf
  obtain rfl : s1 = s := Option.some.inj (hw1.rea.symm.trans hw.rea)
  have ht : ∀ B ∈ f.blocks, B.term.to.length ≤ 70 := fun B hm => (hf.2.2.2 B hm).2.2.1
  rcases Nat.eq_zero_or_pos f.blocks.length with h0 | hpos
  · rw [(h10 h0).1]
    unfold fettleref05_From
    have := mkl_rep false (n := 0) (by omega)
    simp only [List.replicate_zero] at this
    simp only [len, h0]
    rw [this]
    simp
  · obtain ⟨hV, hs0, _⟩ := h11 hpos
    exact from_eq f hf.1 ht hpos hV hs0
theorem ref_nums (s : List Bool) (hs : s.length ≤ 70) : whl (fun (q : (List Int × Int × Int)) => fettleref05_Trim.bd26 s q.1 q.2.1 q.2.2) FUEL (([] : List Int), 0, 0) = some (numF s) := by
  obtain ⟨r, h1, h2⟩ := whl_for (body := fun (q : (List Int × Int × Int)) => fettleref05_Trim.bd26 s q.1 q.2.1 q.2.2) s.length
    (fun i q => q.1 = (numF s).take i ∧ q.2.1 = (((s.take i).count true : Nat) : Int) ∧ q.2.2 = (i : Int)) (fun r => r = numF s) (le_max hs (by omega))
    (fun i q hi hI => by
      obtain ⟨L, c, k⟩ := q
      obtain ⟨rfl, rfl, rfl⟩ := hI
      have hle : (s.take i).count true ≤ i := by
        have := List.count_le_length (a := true) (l := s.take i)
        simp at this; omega
      have htk : (s.take (i + 1)).count true = (s.take i).count true + (if s[i] = true then 1 else 0) := by
        rw [List.take_succ_eq_append_getElem hi, List.count_append]
        cases s[i] <;> simp
      have hl : ((numF s).take i).length ≤ 1000 := by simp; omega
      have hni : i < (numF s).length := by rw [numF_length]; exact hi
      have hg := numF_get s i hi
      rw [List.getElem?_eq_getElem hni] at hg
      have hg := Option.some.inj hg
      refine .inr ?_
      simp only [fettleref05_Trim.bd26, len_lt, hi, if_true, idx_lt hi, Option.bind_some]
      by_cases hb : s[i] = true
      · rw [if_pos hb] at hg
        rw [if_pos hb, cat_one hl]
        refine ⟨_, rfl, ?_, ?_, w64_i hi (by omega)⟩
        · simp only; rw [List.take_succ_eq_append_getElem hni, hg]
        · simp only; rw [htk, if_pos hb, w64_id ⟨by omega, by omega⟩]; omega
      · rw [if_neg hb] at hg
        rw [if_neg hb, cat_one hl]
        refine ⟨_, rfl, ?_, ?_, w64_i hi (by omega)⟩
        · simp only; rw [List.take_succ_eq_append_getElem hni, hg]
        · simp only; rw [htk, if_neg hb]; rfl)
    (fun q hI => by
      obtain ⟨L, c, k⟩ := q
      obtain ⟨rfl, rfl, rfl⟩ := hI
      exact ⟨numF s, by simp [fettleref05_Trim.bd26, len, List.take_of_length_le (show (numF s).length ≤ s.length by rw [numF_length]; exact Nat.le_refl _)], rfl⟩) (s0 := (([] : List Int), 0, 0)) ⟨by simp, by simp, rfl⟩
  rw [h1, h2]
/-- A loop that changes a list element by element. -/
theorem whl_over {α ρ : Type} (xs : List α) (g : α → α) {body : List α × Int → Option (Ex ρ (List α × Int))} {r : ρ} (hl : xs.length ≤ maxLen)
    (h : ∀ i (hi : i < xs.length), ∀ L : List α, L = (xs.take i).map g ++ xs.drop i → (hL : i < L.length) → L[i] = xs[i] → L.length = xs.length → body (L, (i : Int)) = some (.go (L.set i (g xs[i]), ((i + 1 : Nat) : Int)))) (he : body (xs.map g, (xs.length : Int)) = some (.ret r)) :
    whl body FUEL (xs, 0) = some r := by
  have := whl_run (body := body) (r := r) xs.length FUEL (fun i => ((xs.take i).map g ++ xs.drop i, (i : Int))) (fun i hi => by
    have hl1 : ((xs.take i).map g).length = i := by simp; omega
    have hll : ((xs.take i).map g ++ xs.drop i).length = xs.length := by rw [List.length_append, hl1]; simp; omega
    rw [h i hi _ rfl (by rw [hll]; exact hi) (by rw [List.getElem_append_right (by omega), List.getElem_drop]; congr 1; omega) hll]
    congr 3
    rw [List.set_append_right _ _ (by omega), hl1, Nat.sub_self, List.drop_eq_getElem_cons hi, List.set_cons_zero, List.take_succ_eq_append_getElem hi, List.map_append, List.append_assoc]
    rfl) (by rw [List.take_length, List.drop_length, List.append_nil]; exact he) (lt_FUEL hl)
  simpa using this
theorem ref_kept (args ah : List Int) (P : List PPhi) (s : List Bool) (k : Nat) (hk : k < P.length) (hP : P[k].args = args) (h300 : args.length ≤ 300) (hl : args.length = ah.length) (h : ∀ x ∈ ah, 0 ≤ x ∧ x < (s.length : Int)) :
    whl (fun (q : (List Int × Int)) => fettleref05_Trim.bd247 s ah P (k : Int) q.1 q.2) FUEL (([] : List Int), 0) = some (keptF args ah s) := by
  unfold keptF
  rw [if_pos hl]
  have hz : (args.zip ah).length = ah.length := by simp; omega
  have hrun := whl_run (body := fun (q : List Int × Int) => fettleref05_Trim.bd247 s ah P (k : Int) q.1 q.2) (r := ((args.zip ah).filter fun p => s.getD p.2.toNat false).map (·.1)) ah.length FUEL
    (fun i => ((((args.zip ah).take i).filter fun p => s.getD p.2.toNat false).map (·.1), (i : Int))) (fun i hi2 => by
      have hi : i < args.length := by omega
      obtain ⟨g1, g2⟩ := h _ (List.getElem_mem hi2)
      obtain ⟨x, hx⟩ : ∃ x : Nat, ah[i] = (x : Int) := ⟨ah[i].toNat, by omega⟩
      have hxl : x < s.length := by omega
      have hz' : i < (args.zip ah).length := by omega
      have hlen : ((((args.zip ah).take i).filter fun p => s.getD p.2.toNat false).map (·.1)).length ≤ 1000 := by
        have := List.length_filter_le (fun p : Int × Int => s.getD p.2.toNat false) ((args.zip ah).take i)
        simp only [List.length_map, List.length_take] at this ⊢; omega
      simp only [fettleref05_Trim.bd247, len_lt, hi2, if_true, idx_lt hi2, hx, idx_lt hxl, idx_lt hk, hP, idx_lt hi, Option.bind_some]
      rw [List.take_succ_eq_append_getElem hz', List.filter_append, List.map_append]
      have hze : (args.zip ah)[i] = (args[i], (x : Int)) := by simp [hx]
      rw [hze]
      by_cases hs : s[x] = true
      · rw [if_pos hs, cat_one hlen]
        simp [hs, fettleref05_Trim.jn283, hxl]
        exact w64_i hi2 (by omega)
      · rw [if_neg hs]
        simp [hs, fettleref05_Trim.jn283, hxl]
        exact w64_i hi2 (by omega)) (by rw [← hz, List.take_length]; simp [fettleref05_Trim.bd247, len]; omega) (lt_FUEL (le_max (show ah.length ≤ 300 by omega) (by omega)))
  simp only [List.take_zero, List.filter_nil, List.map_nil] at hrun
  exact hrun
theorem preds_in (nx : List (List Int)) (t : Nat) : ∀ x ∈ preds nx t, 0 ≤ x ∧ x < (nx.length : Int) := by
  intro x hx
  simp only [preds, List.mem_map, List.mem_filter, List.mem_range] at hx
  obtain ⟨j, ⟨hj, _⟩, rfl⟩ := hx
  omega
theorem refTrim_eq (f : PFunc) (hf : SmF f) {s : List Bool} {o : List Int} (hw : Walked f s o) : fettleref05_Trim f = some (trimF f s, numF s) := by
  have hl := hw.len
  have hf' := hf
  obtain ⟨hn, _, _, hB⟩ := hf
  unfold fettleref05_Trim
  rw [from_any f hf' hw]
  simp only [Option.bind_some, ref_nums s (by omega), fettleref05_Trim.nx26, copyFunc_eq f hf']
  obtain ⟨r, h1, h2⟩ := whl_for (body := fun (q : (List (Option PBlock) × List PBlock × Int)) => fettleref05_Trim.bd54 f s (numF s) q.1 q.2.1 q.2.2) f.blocks.length
    (fun (i : Nat) (q : List (Option PBlock) × List PBlock × Int) => (∀ j, i ≤ j → (hj : j < f.blocks.length) → q.1[j]? = some (some f.blocks[j])) ∧ q.2.1 = (List.range i).filterMap (trimAt f s) ∧ q.2.2 = (i : Int)) (fun r => r = (List.range f.blocks.length).filterMap (trimAt f s)) (le_max hn (by omega))
    (fun i q hi hI => by
      obtain ⟨L, M, k⟩ := q
      obtain ⟨hL, rfl, rfl⟩ := hI
      simp only at hL
      refine .inr ?_
      have hi2 : i < s.length := by omega
      have hla : ((List.range i).filterMap (trimAt f s)).length ≤ 1000 := by
        have := List.length_filterMap_le (trimAt f s) (List.range i)
        simp at this; omega
      simp only [fettleref05_Trim.bd54, len_lt, hi2, if_true, idx_lt hi2, Option.bind_some]
      by_cases hb : s[i] = true
      · rw [if_neg (by simp [hb])]
        have hio : idxO L (i : Int) = some f.blocks[i] := by
          unfold idxO; rw [idx_nat, hL i (Nat.le_refl _) hi]; rfl
        obtain ⟨b1, b2, b3, b4, b5⟩ := hB _ (List.getElem_mem hi)
        have hpl : (preds (nexts f) i).length ≤ 70 := by
          have h1 : ((List.range (nexts f).length).filter fun j => decide ((i : Int) ∈ (nexts f).getD j [])).length ≤ (List.range (nexts f).length).length := List.length_filter_le _ _
          rw [List.length_range, nexts_length] at h1
          unfold preds
          rw [List.length_map, nexts_length]; omega
        have hphi := whl_over f.blocks[i].phis (fun p => (⟨p.dst, keptF p.args (preds (nexts f) i) s⟩ : PPhi)) (body := fun (q : (List PPhi × Int)) => fettleref05_Trim.bd111 s (preds (nexts f) i) q.1 q.2) (r := f.blocks[i].phis.map (fun p => (⟨p.dst, keptF p.args (preds (nexts f) i) s⟩ : PPhi))) (le_max b2 (by omega)) (fun k hk P hP hkP hPk hPl => by
          have h300 := b5 _ (List.getElem_mem hk)
          have hkP' : (k : Int) < len P := by simp only [len]; omega
          simp only [fettleref05_Trim.bd111, hkP', if_true, idx_lt hkP, Option.bind_some, hPk]
          by_cases hc : f.blocks[i].phis[k].args.length = (preds (nexts f) i).length
          · rw [if_neg (by simp only [len]; omega), ref_kept f.blocks[i].phis[k].args (preds (nexts f) i) P s k hkP (by rw [hPk]) h300 hc (fun x hx => by
              have := preds_in (nexts f) i x hx
              rw [nexts_length] at this; omega)]
            simp only [Option.bind_some, fettleref05_Trim.nx247, idx_lt hkP, hPk, fettleref05_Trim.jn217, Int.toNat_natCast, w64_i hk (show f.blocks[i].phis.length ≤ 1000 by omega)]
          · rw [if_pos (by simp only [len]; omega)]
            have hke : keptF f.blocks[i].phis[k].args (preds (nexts f) i) s = f.blocks[i].phis[k].args := by unfold keptF; rw [if_neg hc]
            have hset : P.set k f.blocks[i].phis[k] = P := by rw [← hPk]; exact List.set_getElem_self hkP
            simp only [fettleref05_Trim.jn217, hke, w64_i hk (show f.blocks[i].phis.length ≤ 1000 by omega)]
            rw [hset]) (by simp [fettleref05_Trim.bd111, len])
        have hto := whl_over f.blocks[i].term.to (renum (numF s)) (body := fun (q : (List Int × Int)) => fettleref05_Trim.bd139 (numF s) q.1 q.2) (r := f.blocks[i].term.to.map (renum (numF s))) (le_max b3 (by omega)) (fun k hk P hP hkP hPk hPl => by
          have hkP' : (k : Int) < len P := by simp only [len]; omega
          simp only [fettleref05_Trim.bd139, hkP', if_true, idx_lt hkP, Option.bind_some, hPk]
          have hset : P.set k f.blocks[i].term.to[k] = P := by rw [← hPk]; exact List.set_getElem_self hkP
          generalize f.blocks[i].term.to[k] = t at hset
          by_cases ht : t ≥ 0 ∧ t < len (numF s)
          · rw [if_pos ht]
            obtain ⟨x, rfl⟩ : ∃ x : Nat, t = (x : Int) := ⟨t.toNat, by omega⟩
            have hx : x < (numF s).length := by simp only [len] at ht; omega
            have hr : renum (numF s) (x : Int) = (numF s)[x] := by
              unfold renum
              rw [if_pos ⟨by omega, by omega⟩]
              simp [List.getD_eq_getElem?_getD, hx]
            simp only [idx_lt hx, Option.bind_some, fettleref05_Trim.jn169, Int.toNat_natCast, hr, w64_i hk (show f.blocks[i].term.to.length ≤ 1000 by omega)]
          · rw [if_neg ht]
            have hr : renum (numF s) t = t := by
              unfold renum
              rw [if_neg (by simpa [len] using ht)]
            rw [hr, hset]
            simp only [fettleref05_Trim.jn169, w64_i hk (show f.blocks[i].term.to.length ≤ 1000 by omega)]) (by simp [fettleref05_Trim.bd139, len])
        simp only [hio, Option.bind_some, refAhead_eq f hf' i hi, hphi, fettleref05_Trim.nx111, hto, fettleref05_Trim.nx139, cat_one hla, fettleref05_Trim.jn78]
        refine ⟨_, rfl, fun j hj hjl => ?_, ?_, w64_i hi (by omega)⟩
        · simp only [Int.toNat_natCast]
          rw [List.getElem?_set, if_neg (by omega)]
          exact hL j (by omega) hjl
        · simp only
          rw [List.range_succ, List.filterMap_append]
          have : trimAt f s i = some (trimB s (preds (nexts f) i) f.blocks[i]) := by simp [trimAt, hi, hi2, hb]
          simp only [List.filterMap_cons, this, List.filterMap_nil, trimB]
      · rw [if_pos (by simpa using hb)]
        refine ⟨_, rfl, fun j hj hjl => hL j (by omega) hjl, ?_, w64_i hi (by omega)⟩
        simp only
        rw [List.range_succ, List.filterMap_append]
        have : trimAt f s i = none := by simp [trimAt, hi, hi2, hb]
        simp only [List.filterMap_cons, this, List.filterMap_nil, List.append_nil])
    (fun q hI => by
      obtain ⟨L, M, k⟩ := q
      obtain ⟨hL, rfl, rfl⟩ := hI
      exact ⟨_, by simp [fettleref05_Trim.bd54, len, hl], rfl⟩) (s0 := (List.map some f.blocks, ([] : List PBlock), 0)) ⟨fun j hj hjl => by simp [hjl], by simp, rfl⟩
  rw [h1]
  simp only [Option.bind_some, fettleref05_Trim.nx54, h2]
  rfl
theorem pure_graphTrims (f : PFunc) (h : wfFunc f) : fettlelaw05_GraphTrims f = some true := by
  unfold fettlelaw05_GraphTrims
  rw [up05]
  obtain ⟨b, hb, hsm⟩ := small05 f
  rw [hb]
  simp only [Option.bind_some]
  cases b with
  | false => simp
  | true =>
    have hf := hsm rfl
    obtain ⟨s, o, hw, _, _⟩ := walked_any f hf
    have hg : SmF (trimF f s) := by
      refine ⟨?_, hf.2.1, hf.2.2.1, fun B hB => ?_⟩
      · have := List.length_filterMap_le (trimAt f s) (List.range f.blocks.length)
        have h1 := hf.1
        simp only [trimF, List.length_range] at this ⊢; omega
      · simp only [trimF, List.mem_filterMap] at hB
        obtain ⟨i, _, hi⟩ := hB
        unfold trimAt at hi
        split at hi
        · rename_i B0 hB0
          split at hi
          · cases hi
            obtain ⟨b1, b2, b3, b4, b5⟩ := hf.2.2.2 B0 (List.mem_of_getElem? hB0)
            refine ⟨b1, by simpa [trimB] using b2, by simpa [trimB] using b3, b4, fun p hp => ?_⟩
            simp only [trimB, List.mem_map] at hp
            obtain ⟨q, hq, rfl⟩ := hp
            exact Nat.le_trans (keptF_length _ _ _) (b5 q hq)
          · cases hi
        · cases hi
    simp only [Bool.not_true, Bool.false_eq_true, if_false, trim_eq f hf hw, refTrim_eq f hf hw, Option.bind_some, if_true, sameFunc_eq _ _ hg, ints_eq _ _ (le_max (show (numF s).length ≤ 70 by rw [numF_length, hw.len]; exact hf.1) (by omega)), decide_true]
end Go.Proofs.Ytoflleabpkgdpaa
