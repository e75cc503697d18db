/- Plain laws, part L: the program's Trim told by lists. No conditions. -/
import Derived.Test.YtoflleabpkgdpaaQuI
import Derived.Test.YtoflleabpkgdpaaS7
set_option linter.unusedVariables false
set_option linter.unusedSimpArgs false
namespace Go.Proofs.Ytoflleabpkgdpaa
open Go Go.Proofs

theorem ahead_eq (nx : List (List Int)) (hn : nx.length ≤ 70) (hrow : ∀ row ∈ nx, row.length ≤ 70 ∧ row.Nodup ∧ ∀ x ∈ row, 0 ≤ x ∧ x < (nx.length : Int)) : graph_ahead nx = some (aheads nx) := by
  unfold graph_ahead
  have hmk : mkl (len nx) ([] : List Int) = some (List.replicate nx.length []) := mkl_rep (n := nx.length) [] hn
  rw [hmk]
  simp only [Option.bind_some]
  have hrun := whl_run (body := fun (s : List (List Int) × Int) => graph_ahead.bd19 nx s.1 s.2) (r := aheadTo nx nx.length []) nx.length FUEL
    (fun i => (aheadTo nx i [], (i : Int))) (fun i hi => by
      obtain ⟨hr1, hr2, hr3⟩ := hrow _ (List.getElem_mem hi)
      simp only [graph_ahead.bd19, len_lt, hi, if_true, idx_lt hi, Option.bind_some]
      have hin := whl_run (body := fun (s : List (List Int) × Int) => graph_ahead.bd51 (i : Int) nx[i] s.1 s.2) (r := aheadTo nx i nx[i]) nx[i].length FUEL
        (fun k => (aheadTo nx i (nx[i].take k), (k : Int))) (fun k hk => by
          obtain ⟨h0, h1⟩ := hr3 _ (List.getElem_mem hk)
          obtain ⟨x, hx⟩ : ∃ x : Nat, nx[i][k] = (x : Int) := ⟨nx[i][k].toNat, by omega⟩
          have hxl : x < nx.length := by omega
          have hnot : (x : Int) ∉ nx[i].take k := by
            intro hm
            obtain ⟨j, hj, he⟩ := List.getElem_of_mem hm
            rw [List.getElem_take] at he
            rw [← hx] at he
            have hj' : j < k := by simp at hj; omega
            exact absurd he ((List.pairwise_iff_getElem.1 hr2) j k (by omega) hk hj')
          have hidx : idx (aheadTo nx i (nx[i].take k)) ((x : Nat) : Int) = some (predsTo nx i (nx[i].take k) x) := by
            rw [idx_nat]; simp [aheadTo, hxl]
          have hlen := predsTo_length nx i (nx[i].take k) x
          simp only [graph_ahead.bd51, len_lt, hk, if_true, idx_lt hk, Option.bind_some, hx, hidx, cat_one (show (predsTo nx i (nx[i].take k) x).length ≤ 1000 by omega), Int.toNat_natCast, w64_i hk (show nx[i].length ≤ 1000 by omega)]
          have : (aheadTo nx i (nx[i].take k)).set x (predsTo nx i (nx[i].take k) x ++ [(i : Int)]) = aheadTo nx i (nx[i].take (k + 1)) := by
            apply List.ext_getElem (by simp [aheadTo])
            intro t h1 h2
            have ht : t < nx.length := by simpa only [aheadTo, List.length_map, List.length_range] using h2
            rw [List.getElem_set]
            simp only [aheadTo, List.getElem_map, List.getElem_range]
            rw [List.take_succ_eq_append_getElem hk, hx]
            by_cases hxt : x = t
            · subst hxt
              rw [if_pos rfl]
              simp [predsTo, hnot]
            · rw [if_neg hxt]
              have : ((t : Int) = (x : Int)) ↔ False := ⟨fun h => hxt (by omega), False.elim⟩
              simp [predsTo, this]
          rw [this]) (by simp [graph_ahead.bd51, len]) (lt_FUEL (le_max hr1 (by omega)))
      simp only [List.take_zero] at hin
      have h00 : (aheadTo nx i [], ((0 : Nat) : Int)) = (aheadTo nx i [], (0 : Int)) := rfl
      rw [h00] at hin
      rw [hin]
      simp only [Option.bind_some, graph_ahead.nx51, w64_i hi (show nx.length ≤ 1000 by omega)]
      have : aheadTo nx i nx[i] = aheadTo nx (i + 1) [] := by
        unfold aheadTo
        apply List.map_congr_left
        intro t _
        rw [← predsTo_next nx i t hi]
        simp [List.getD_eq_getElem?_getD, hi]
      rw [this]) (by simp [graph_ahead.bd19, len]) (lt_FUEL (le_max hn (by omega)))
  have h0 : aheadTo nx 0 [] = List.replicate nx.length [] := by
    apply List.ext_getElem (by simp [aheadTo])
    intro t h1 h2
    simp [aheadTo, predsTo]
  rw [h0] at hrun
  have h00 : (List.replicate nx.length ([] : List Int), ((0 : Nat) : Int)) = (List.replicate nx.length ([] : List Int), (0 : Int)) := rfl
  rw [h00] at hrun
  rw [hrun]
  simp only [Option.bind_some, graph_ahead.nx19]
  congr 1
  unfold aheadTo aheads
  exact List.map_congr_left fun t _ => predsTo_end nx t

/-! ### Arguments that stay -/
def keptF (args ahead : List Int) (seen : List Bool) : List Int :=
  if args.length = ahead.length then ((args.zip ahead).filter fun p => seen.getD p.2.toNat false).map (·.1) else args
theorem clone_eq (a : List Int) (h : a.length ≤ 1000) : slices_Clone a = some a := by
  unfold slices_Clone; rw [cat_nil h]; rfl
theorem kept_eq (args ahead : List Int) (seen : List Bool) (h1 : args.length ≤ 300) (h : ∀ x ∈ ahead, 0 ≤ x ∧ x < (seen.length : Int)) : graph_kept args ahead seen = some (keptF args ahead seen) := by
  unfold graph_kept keptF
  by_cases hc : args.length = ahead.length
  · rw [if_neg (by simp only [len]; omega), if_pos hc]
    have hz : (args.zip ahead).length = args.length := by simp; omega
    have hrun := whl_run (body := fun (s : List Int × Int) => graph_kept.bd29 args ahead seen s.1 s.2) (r := ((args.zip ahead).filter fun p => seen.getD p.2.toNat false).map (·.1)) args.length FUEL
      (fun i => ((((args.zip ahead).take i).filter fun p => seen.getD p.2.toNat false).map (·.1), (i : Int))) (fun i hi => by
        have hi2 : i < ahead.length := by omega
        obtain ⟨g1, g2⟩ := h _ (List.getElem_mem hi2)
        obtain ⟨x, hx⟩ : ∃ x : Nat, ahead[i] = (x : Int) := ⟨ahead[i].toNat, by omega⟩
        have hxl : x < seen.length := by omega
        have hz' : i < (args.zip ahead).length := by omega
        have hlen : ((((args.zip ahead).take i).filter fun p => seen.getD p.2.toNat false).map (·.1)).length ≤ 1000 := by
          have := List.length_filter_le (fun p : Int × Int => seen.getD p.2.toNat false) ((args.zip ahead).take i)
          simp only [List.length_map, List.length_take] at this ⊢; omega
        simp only [graph_kept.bd29, len_lt, hi, if_true, idx_lt hi, idx_lt hi2, hx, idx_lt hxl, Option.bind_some]
        rw [List.take_succ_eq_append_getElem hz', List.filter_append, List.map_append]
        have hg : seen.getD x false = seen[x] := by simp [List.getD_eq_getElem?_getD, hxl]
        have hze : (args.zip ahead)[i] = (args[i], (x : Int)) := by simp [hx]
        rw [hze]
        by_cases hs : seen[x] = true
        · rw [if_pos hs, cat_one hlen]
          simp [hs, graph_kept.jn50, hxl]
          exact w64_i hi (by omega)
        · rw [if_neg hs]
          simp [hs, graph_kept.jn50, hxl]
          exact w64_i hi (by omega)) (by rw [← hz, List.take_length]; simp [graph_kept.bd29, len]; omega) (lt_FUEL (le_max h1 (by omega)))
    simp only [List.take_zero, List.filter_nil, List.map_nil] at hrun
    have h00 : (([] : List Int), ((0 : Nat) : Int)) = (([] : List Int), (0 : Int)) := rfl
    rw [h00] at hrun
    rw [hrun]; rfl
  · rw [if_pos (by simp only [len]; omega), if_neg hc, clone_eq _ (by omega)]; rfl

/-! ### The new numbers -/
def numF (s : List Bool) : List Int := (List.range s.length).map fun i => if s.getD i false = true then (((s.take i).count true : Nat) : Int) else -1
theorem numF_length (s : List Bool) : (numF s).length = s.length := by simp [numF]
theorem numF_get (s : List Bool) (i : Nat) (h : i < s.length) : (numF s)[i]? = some (if s[i] = true then (((s.take i).count true : Nat) : Int) else -1) := by
  simp [numF, h]
def renum (nums : List Int) (t : Int) : Int := if 0 ≤ t ∧ t < (nums.length : Int) then nums.getD t.toNat 0 else t
def trimB (seen : List Bool) (ah : List Int) (B : PBlock) : PBlock :=
  ⟨B.phis.map (fun p => ⟨p.dst, keptF p.args ah seen⟩), B.ins, ⟨B.term.kind, B.term.arg, B.term.to.map (renum (numF seen))⟩⟩
def trimAt (f : PFunc) (seen : List Bool) (i : Nat) : Option PBlock :=
  match f.blocks[i]? with
  | some B => if seen.getD i false = true then some (trimB seen (preds (nexts f) i) B) else none
  | none => none
def trimF (f : PFunc) (seen : List Bool) : PFunc := ⟨f.params, f.result, f.regs, (List.range f.blocks.length).filterMap (trimAt f seen)⟩

theorem keptF_length (args ahead : List Int) (seen : List Bool) : (keptF args ahead seen).length ≤ args.length := by
  unfold keptF
  split
  · have := List.length_filter_le (fun p : Int × Int => seen.getD p.2.toNat false) (args.zip ahead)
    simp only [List.length_map, List.length_zip] at this ⊢; omega
  · exact Nat.le_refl _
theorem trim_nums (f : PFunc) (seen : List Bool) (hn : f.blocks.length ≤ 70) (hs : seen.length = f.blocks.length) (x0 : List Int) (hx0 : x0 = List.replicate f.blocks.length 0) :
    whl (fun (s : List Int × Int × Int) => graph_Trim.bd35 seen x0 s.1 s.2.1 s.2.2) FUEL (x0, 0, 0) = some (numF seen) := by
  subst hx0
  obtain ⟨r, h1, h2⟩ := whl_for (body := fun (s : List Int × Int × Int) => graph_Trim.bd35 seen (List.replicate f.blocks.length 0) s.1 s.2.1 s.2.2) f.blocks.length
    (fun i s => s.1.length = f.blocks.length ∧ (∀ j, j < i → s.1[j]? = (numF seen)[j]?) ∧ s.2.1 = (((seen.take i).count true : Nat) : Int) ∧ s.2.2 = (i : Int)) (fun r => r = numF seen) (le_max hn (by omega))
    (fun i s hi hI => by
      obtain ⟨L, c, k⟩ := s
      obtain ⟨hl, hj, rfl, rfl⟩ := hI
      simp only at hl hj ⊢
      have hi1 : i < L.length := by omega
      have hi2 : i < seen.length := by omega
      have hle : (seen.take i).count true ≤ i := by
        have := List.count_le_length (a := true) (l := seen.take i)
        simp at this; omega
      refine .inr ?_
      have hc : (i : Int) < len (List.replicate f.blocks.length (0 : Int)) := by simp only [len, List.length_replicate]; omega
      simp only [graph_Trim.bd35, hc, if_true, idx_lt hi1, idx_lt hi2, Option.bind_some]
      have htk : (seen.take (i + 1)).count true = (seen.take i).count true + (if seen[i] = true then 1 else 0) := by
        rw [List.take_succ_eq_append_getElem hi2, List.count_append]
        cases seen[i] <;> simp
      by_cases hb : seen[i] = true
      · rw [if_pos hb]
        have hix : idx (L.set i (-1)) (i : Int) = some (-1) := idx_set _ _ _ hi1
        simp only [Int.toNat_natCast, hix, Option.bind_some, graph_Trim.jn380]
        refine ⟨_, rfl, by simp [hl], fun j hj' => ?_, ?_, w64_i hi (by omega)⟩
        · simp only [List.set_set]
          rw [List.getElem?_set]
          by_cases hji : i = j
          · subst hji
            rw [if_pos rfl, if_pos hi1, numF_get _ _ hi2, if_pos hb]
          · rw [if_neg hji]; exact hj j (by omega)
        · simp only
          rw [htk, if_pos hb, w64_id ⟨by omega, by omega⟩]; omega
      · rw [if_neg hb]
        simp only [graph_Trim.jn380, Int.toNat_natCast]
        refine ⟨_, rfl, by simp [hl], fun j hj' => ?_, ?_, w64_i hi (by omega)⟩
        · simp only
          rw [List.getElem?_set]
          by_cases hji : i = j
          · subst hji
            rw [if_pos rfl, if_pos hi1, numF_get _ _ hi2, if_neg hb]
          · rw [if_neg hji]; exact hj j (by omega)
        · simp only
          rw [htk, if_neg hb]; rfl)
    (fun s hI => by
      obtain ⟨L, c, k⟩ := s
      obtain ⟨hl, hj, rfl, rfl⟩ := hI
      simp only at hl hj
      refine ⟨L, by simp [graph_Trim.bd35, len], ?_⟩
      apply List.ext_getElem?
      intro v
      rcases Nat.lt_or_ge v f.blocks.length with hv | hv
      · exact hj v hv
      · rw [List.getElem?_eq_none (by omega), List.getElem?_eq_none (by rw [numF_length]; omega)])
    (s0 := (List.replicate f.blocks.length 0, 0, 0)) ⟨by simp, fun j hj => by omega, by simp, rfl⟩
  rw [h1, h2]
theorem trim_block (f : PFunc) (seen : List Bool) (ah : List (List Int)) (i : Nat) (B : PBlock) (hB : SmB B) (a : List Int) (ha : ah[i]? = some a) (hin : ∀ x ∈ a, 0 ≤ x ∧ x < (seen.length : Int)) (acc : List PBlock) (hacc : acc.length ≤ 70) :
    ((whl (fun (s : (List PPhi × Int)) => graph_Trim.bd129 seen ah i B s.1 s.2) FUEL (([] : List PPhi), 0)).bind fun z => graph_Trim.nx129 (numF seen) acc i B z) = graph_Trim.jn94 i (acc ++ [trimB seen a B]) := by
  obtain ⟨b1, b2, b3, b4, b5⟩ := hB
  rw [whl_map B.phis (fun p => (⟨p.dst, keptF p.args a seen⟩ : PPhi)) (r := B.phis.map (fun p => (⟨p.dst, keptF p.args a seen⟩ : PPhi))) (le_max b2 (by omega)) (fun j hj => by
    have hia : idx ah (i : Int) = some a := by rw [idx_nat]; exact ha
    simp only [graph_Trim.bd129, len_lt, hj, if_true, idx_lt hj, Option.bind_some, hia, kept_eq _ _ _ (b5 _ (List.getElem_mem hj)) hin, cat_one (show ((B.phis.take j).map (fun p => (⟨p.dst, keptF p.args a seen⟩ : PPhi))).length ≤ 1000 by simp; omega), graph_Trim.jn304, w64_i hj (show B.phis.length ≤ 1000 by omega)]) (by simp [graph_Trim.bd129, len])]
  simp only [Option.bind_some, graph_Trim.nx129]
  rw [whl_map B.ins id (r := B.ins) (le_max b1 (by omega)) (fun j hj => by
    have h4 := b4 _ (List.getElem_mem hj)
    simp only [graph_Trim.bd163, len_lt, hj, if_true, idx_lt hj, Option.bind_some, clone_eq _ (show B.ins[j].args.length ≤ 1000 by omega), List.map_id, cat_one (show (B.ins.take j).length ≤ 1000 by simp; omega), w64_i hj (show B.ins.length ≤ 1000 by omega)]; rfl) (by simp [graph_Trim.bd163, len])]
  simp only [Option.bind_some, graph_Trim.nx163]
  rw [whl_map B.term.to (renum (numF seen)) (r := B.term.to.map (renum (numF seen))) (le_max b3 (by omega)) (fun j hj => by
    simp only [graph_Trim.bd196, len_lt, hj, if_true, idx_lt hj, Option.bind_some]
    generalize B.term.to[j] = t
    have hc : cat ((B.term.to.take j).map (renum (numF seen))) [renum (numF seen) t] = some ((B.term.to.take j).map (renum (numF seen)) ++ [renum (numF seen) t]) := cat_one (by simp; omega)
    by_cases ht : t ≥ 0 ∧ t < len (numF seen)
    · rw [if_pos ht]
      obtain ⟨x, rfl⟩ : ∃ x : Nat, t = (x : Int) := ⟨t.toNat, by omega⟩
      have hx : x < (numF seen).length := by simp only [len] at ht; omega
      have hr : renum (numF seen) (x : Int) = (numF seen)[x] := by
        unfold renum
        rw [if_pos ⟨by omega, by omega⟩]
        simp [List.getD_eq_getElem?_getD, hx]
      rw [hr] at hc
      simp only [idx_lt hx, Option.bind_some, graph_Trim.jn236, hr, hc, w64_i hj (show B.term.to.length ≤ 1000 by omega)]
    · rw [if_neg ht]
      have hr : renum (numF seen) t = t := by
        unfold renum
        rw [if_neg (by simpa [len] using ht)]
      rw [hr] at hc
      simp only [graph_Trim.jn236, hr, hc, Option.bind_some, w64_i hj (show B.term.to.length ≤ 1000 by omega)]) (by simp [graph_Trim.bd196, len])]
  simp only [Option.bind_some, graph_Trim.nx196, cat_one (show acc.length ≤ 1000 by omega), trimB]
theorem trim_blocks (f : PFunc) (hf : SmF f) (seen : List Bool) (hs : seen.length = f.blocks.length) :
    whl (fun (s : (List PBlock × Int)) => graph_Trim.bd69 f seen (aheads (nexts f)) (numF seen) s.1 s.2) FUEL (([] : List PBlock), 0) = some ((List.range f.blocks.length).filterMap (trimAt f seen)) := by
  obtain ⟨hn, _, _, hB⟩ := hf
  have hrun := whl_run (body := fun (s : (List PBlock × Int)) => graph_Trim.bd69 f seen (aheads (nexts f)) (numF seen) s.1 s.2) (r := (List.range f.blocks.length).filterMap (trimAt f seen)) f.blocks.length FUEL
    (fun i => ((List.range i).filterMap (trimAt f seen), (i : Int))) (fun i hi => by
      have hi2 : i < seen.length := by omega
      have hla : ((List.range i).filterMap (trimAt f seen)).length ≤ 70 := by
        have := List.length_filterMap_le (trimAt f seen) (List.range i)
        simp at this; omega
      simp only [graph_Trim.bd69, len_lt, hi, if_true, idx_lt hi, idx_lt hi2, Option.bind_some]
      rw [List.range_succ, List.filterMap_append]
      by_cases hb : seen[i] = true
      · rw [if_neg (by simp [hb]), trim_block f seen (aheads (nexts f)) i f.blocks[i] (hB _ (List.getElem_mem hi)) (preds (nexts f) i) (aheads_get _ _ (by rw [nexts_length]; exact hi)) (fun x hx => by
          simp only [preds, List.mem_map, List.mem_filter, List.mem_range] at hx
          obtain ⟨j, ⟨hj, _⟩, rfl⟩ := hx
          rw [nexts_length] at hj; omega) _ hla]
        have : trimAt f seen i = some (trimB seen (preds (nexts f) i) f.blocks[i]) := by simp [trimAt, hi, hi2, hb]
        simp only [graph_Trim.jn94, w64_i hi (show f.blocks.length ≤ 1000 by omega), List.filterMap_cons, this, List.filterMap_nil]
      · rw [if_pos (by simpa using hb)]
        have : trimAt f seen i = none := by simp [trimAt, hi, hi2, hb]
        simp only [graph_Trim.jn94, w64_i hi (show f.blocks.length ≤ 1000 by omega), List.filterMap_cons, this, List.filterMap_nil, List.append_nil]) (by simp [graph_Trim.bd69, len]) (lt_FUEL (le_max hn (by omega)))
  simpa using hrun

/-! ### What is reached, and the order -/
structure Walked (f : PFunc) (s : List Bool) (o : List Int) : Prop where
  len : s.length = f.blocks.length
  ord : graph_Order f = some o.reverse
  rea : graph_Reached f = some s
  few : o.length ≤ 70
theorem walked_any (f : PFunc) (hf : SmF f) : ∃ s o, Walked f s o ∧ (f.blocks.length = 0 → s = [] ∧ o = []) ∧ (0 < f.blocks.length → V (nexts f) (· = 0) (List.replicate f.blocks.length false) [] s o ∧ sn s 0 ∧ graph_order_1.it FUEL 0 (List.replicate f.blocks.length false) (nexts f) [] = some (s, o)) := by
  obtain ⟨hn, _, _, hB⟩ := hf
  have ht : ∀ B ∈ f.blocks, B.term.to.length ≤ 70 := fun B hm => (hB B hm).2.2.1
  rcases Nat.eq_zero_or_pos f.blocks.length with h0 | hpos
  · refine ⟨[], [], ⟨h0.symm, ?_, ?_, by simp⟩, fun _ => ⟨rfl, rfl⟩, fun h => by omega⟩ <;> simp [graph_Order, graph_Reached, order_nil f h0]
  · obtain ⟨s, o, hit, hV, hs0, ho⟩ := walked f hn ht hpos
    refine ⟨s, o, ⟨by rw [hV.len]; simp, ?_, ?_, ho⟩, fun h => by omega, fun _ => ⟨hV, hs0, hit⟩⟩ <;> simp [graph_Order, graph_Reached, order_eq f hn ht hpos hit ho]
theorem trim_eq (f : PFunc) (hf : SmF f) {s : List Bool} {o : List Int} (hw : Walked f s o) : graph_Trim f = some (trimF f s, numF s) := by
  have hf' := hf
  obtain ⟨hn, hr, _, hB⟩ := hf
  have ht : ∀ B ∈ f.blocks, B.term.to.length ≤ 70 := fun B hm => (hB B hm).2.2.1
  unfold graph_Trim
  rw [graphNext_eq f hn ht, hw.rea]
  simp only [Option.bind_some]
  rw [ahead_eq (nexts f) (by rw [nexts_length]; exact hn) (fun row hrow => by
    obtain ⟨v, hv, rfl⟩ := List.getElem_of_mem hrow
    obtain ⟨g1, g2⟩ := nexts_rows f ht v _ (List.getElem?_eq_getElem hv)
    refine ⟨g1, ?_, g2⟩
    simp [nexts, succs_nodup])]
  have hmk : mkl (len f.blocks) (0 : Int) = some (List.replicate f.blocks.length 0) := mkl_rep (n := f.blocks.length) 0 hn
  simp only [Option.bind_some, hmk, trim_nums f s hn hw.len _ rfl, graph_Trim.nx35, clone_eq _ (show f.regs.length ≤ 1000 by omega), graph_Trim.jn51, trim_blocks f hf' s hw.len, graph_Trim.nx69]
  rfl
end Go.Proofs.Ytoflleabpkgdpaa
