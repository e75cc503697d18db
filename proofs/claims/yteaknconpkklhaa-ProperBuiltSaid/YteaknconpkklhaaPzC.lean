/- Several parts in one text, the first of which: Plain laws of layer 13, part A: by what registers are made. No conditions. -/
import Derived.Test.YteaknconpkklhaaPzA
import Derived.Test.YteaknconpkklhaaPzB
import Derived.KernelRfl
set_option linter.unusedVariables false
set_option linter.unusedSimpArgs false
namespace Go.Proofs.Yteaknconpkklhaa
open Go Go.Proofs
/-- What is made: the register, the block, the place. -/
abbrev D3 := Int × Int × Int
def mkr (L : List D3) (r : Nat) : PMaker := match L.find? (fun x => decide (x.1 = (r : Int))) with | some x => ⟨x.2.1, x.2.2⟩ | none => ⟨-1, -2⟩
def cntD (L : List D3) (r : Nat) : Nat := L.countP (fun x => decide (x.1 = (r : Int)))
def mks (n : Nat) (L : List D3) : List PMaker := (List.range n).map (mkr L)
def mns (n : Nat) (L : List D3) : List Int := (List.range n).map fun r => ((cntD L r : Nat) : Int)
theorem mks_idx {n r : Nat} (L : List D3) (h : r < n) : idx (mks n L) (r : Int) = some (mkr L r) := by rw [idx_nat]; simp [mks, h]
theorem mns_idx {n r : Nat} (L : List D3) (h : r < n) : idx (mns n L) (r : Int) = some ((cntD L r : Nat) : Int) := by rw [idx_nat]; simp [mns, h]
theorem mks_len (n : Nat) (L : List D3) : (mks n L).length = n := by simp [mks]
theorem mns_len (n : Nat) (L : List D3) : (mns n L).length = n := by simp [mns]
theorem mkr_ne {L : List D3} {x : D3} {r : Nat} (h : x.1 ≠ (r : Int)) : mkr (L ++ [x]) r = mkr L r := by
  unfold mkr
  rw [List.find?_append]
  have : List.find? (fun x : D3 => decide (x.1 = (r : Int))) [x] = none := by simp [h]
  rw [this]
  cases List.find? (fun x : D3 => decide (x.1 = (r : Int))) L <;> rfl
theorem cntD_ne {L : List D3} {x : D3} {r : Nat} (h : x.1 ≠ (r : Int)) : cntD (L ++ [x]) r = cntD L r := by
  unfold cntD
  rw [List.countP_append]
  simp [h]
theorem cntD_eq {L : List D3} {x : D3} {r : Nat} (h : x.1 = (r : Int)) : cntD (L ++ [x]) r = cntD L r + 1 := by
  unfold cntD
  rw [List.countP_append]
  simp [h]
theorem cntD_zero {L : List D3} {r : Nat} (h : cntD L r = 0) : L.find? (fun x => decide (x.1 = (r : Int))) = none := by
  unfold cntD at h
  rw [List.countP_eq_zero] at h
  exact List.find?_eq_none.2 h
theorem cntD_pos {L : List D3} {r : Nat} (h : cntD L r ≠ 0) : ∃ x, L.find? (fun x => decide (x.1 = (r : Int))) = some x ∧ x ∈ L ∧ x.1 = (r : Int) := by
  cases hf : L.find? (fun x => decide (x.1 = (r : Int))) with
  | none => exact absurd (List.countP_eq_zero.2 (List.find?_eq_none.1 hf)) h
  | some x => exact ⟨x, rfl, List.mem_of_find?_eq_some hf, by simpa using List.find?_some hf⟩
theorem mkr_new {L : List D3} {x : D3} {r : Nat} (h : x.1 = (r : Int)) (h0 : cntD L r = 0) : mkr (L ++ [x]) r = ⟨x.2.1, x.2.2⟩ := by
  unfold mkr
  rw [List.find?_append, cntD_zero h0]
  simp [h]
theorem mkr_old {L : List D3} {x : D3} {r : Nat} (h0 : cntD L r ≠ 0) : mkr (L ++ [x]) r = mkr L r := by
  obtain ⟨y, hy, _⟩ := cntD_pos h0
  unfold mkr
  rw [List.find?_append, hy]; rfl
theorem cntD_le (L : List D3) (r : Nat) : cntD L r ≤ L.length := List.countP_le_length
theorem mks_set {n k : Nat} {L : List D3} {x : D3} (hk : x.1 = (k : Int)) : (if cntD L k = 0 then (mks n L).set k ⟨x.2.1, x.2.2⟩ else mks n L) = mks n (L ++ [x]) := by
  apply List.ext_getElem (by split <;> simp [mks])
  intro j h1 h2
  have hj : j < n := by simpa [mks] using h2
  by_cases e : j = k
  · subst e
    by_cases h0 : cntD L j = 0
    · simp only [h0, if_true, List.getElem_set_self]
      simp [mks, mkr_new hk h0]
    · simp only [h0, if_false]
      simp [mks, mkr_old h0]
  · have hne : x.1 ≠ (j : Int) := by rw [hk]; omega
    by_cases h0 : cntD L k = 0
    · simp only [h0, if_true, List.getElem_set_ne (Ne.symm e)]
      simp [mks, mkr_ne hne]
    · simp only [h0, if_false]
      simp [mks, mkr_ne hne]
theorem mns_set {n k : Nat} {L : List D3} {x : D3} (hk : x.1 = (k : Int)) : (mns n L).set k (((cntD L k + 1 : Nat) : Int)) = mns n (L ++ [x]) := by
  apply List.ext_getElem (by simp [mns])
  intro j h1 h2
  have hj : j < n := by simpa [mns] using h2
  by_cases e : j = k
  · subst e
    rw [List.getElem_set_self]
    simp [mns, cntD_eq hk]
  · have hne : x.1 ≠ (j : Int) := by rw [hk]; omega
    rw [List.getElem_set_ne (Ne.symm e)]
    simp [mns, cntD_ne hne]
theorem made1_eq {n : Nat} (L : List D3) (d b a : Int) (hL : L.length ≤ 1000000) : proper_made_1 d b a (mks n L) (mns n L) = some (mks n (L ++ [(d, b, a)]), mns n (L ++ [(d, b, a)])) := by
  unfold proper_made_1
  by_cases hr : d < 0 ∨ d ≥ len (mks n L)
  · rw [if_pos hr]
    simp only [len, mks_len] at hr
    congr 2
    · unfold mks; exact List.map_congr_left fun r hr' => (mkr_ne (by have := List.mem_range.1 hr'; simp only; omega)).symm
    · unfold mns; exact List.map_congr_left fun r hr' => by rw [cntD_ne (by have := List.mem_range.1 hr'; simp only; omega)]
  · rw [if_neg hr]
    simp only [len, mks_len, not_or] at hr
    obtain ⟨k, rfl⟩ : ∃ k : Nat, d = k := ⟨d.toNat, by omega⟩
    have hk : k < n := by omega
    have hc := cntD_le L k
    have hw : w64 (((cntD L k : Nat) : Int) + 1) = ((cntD L k + 1 : Nat) : Int) := w64_succ (by omega)
    have h1 := mks_set (n := n) (L := L) (x := ((k : Int), b, a)) rfl
    have h2 := mns_set (n := n) (L := L) (x := ((k : Int), b, a)) rfl
    simp only [mns_idx L hk, mks_idx L hk, Option.bind_some]
    by_cases h0 : cntD L k = 0
    · rw [if_pos h0] at h1
      rw [if_pos (by omega)]
      simp only [proper_made_1.jn12, mns_idx L hk, Option.bind_some, hw, Int.toNat_natCast, h1, h2]
    · rw [if_neg h0] at h1
      rw [if_neg (by omega)]
      simp only [proper_made_1.jn12, mns_idx L hk, Option.bind_some, hw, Int.toNat_natCast, ← h1, h2]
def defsP (i : Nat) (B : PBlock) : List D3 := B.phis.map fun p => (p.dst, (i : Int), -1)
def defsI (i : Nat) (B : PBlock) : List D3 := B.ins.zipIdx.map fun x => (x.1.dst, (i : Int), ((x.2 : Nat) : Int))
def defsB (i : Nat) (B : PBlock) : List D3 := defsP i B ++ defsI i B
/-- What a function's blocks make, up to one. -/
def defsTo (f : PFunc) (n : Nat) : List D3 := (f.blocks.take n).zipIdx.flatMap fun x => defsB x.2 x.1
def defs (f : PFunc) : List D3 := f.blocks.zipIdx.flatMap fun x => defsB x.2 x.1
theorem defsTo_succ (f : PFunc) {i : Nat} (hi : i < f.blocks.length) : defsTo f (i + 1) = defsTo f i ++ defsB i f.blocks[i] := by
  unfold defsTo
  rw [List.take_succ_eq_append_getElem hi, List.zipIdx_append, List.flatMap_append]
  simp [List.length_take, Nat.min_eq_left (Nat.le_of_lt hi)]
theorem defsTo_all (f : PFunc) : defsTo f f.blocks.length = defs f := by unfold defsTo defs; rw [List.take_length]
theorem defsB_length {i : Nat} {B : PBlock} (h : SmB B) : (defsB i B).length ≤ 600 := by
  have := h.1; have := h.2.1
  simp [defsB, defsP, defsI]; omega
theorem defsTo_length (f : PFunc) (hf : SmF f) : ∀ i, i ≤ f.blocks.length → (defsTo f i).length ≤ i * 600
  | 0, _ => by simp [defsTo]
  | i + 1, hi => by
    have h1 := defsTo_length f hf i (by omega)
    rw [defsTo_succ f (by omega), List.length_append]
    have := defsB_length (i := i) (hf.2.2.2 _ (List.getElem_mem (show i < f.blocks.length by omega)))
    omega
theorem mks_nil (n : Nat) : mks n [] = List.replicate n ⟨-1, -2⟩ := by
  unfold mks
  apply List.ext_getElem (by simp)
  intro j h1 h2
  simp [mkr]
theorem mns_nil (n : Nat) : mns n [] = List.replicate n 0 := by
  unfold mns
  apply List.ext_getElem (by simp)
  intro j h1 h2
  simp [cntD]
theorem mkl_le {α : Type} {n : Nat} (z : α) (hn : n ≤ 1000) : mkl (n : Int) z = some (List.replicate n z) := by
  have h1 : n < LIM := by simp only [LIM]; omega
  simp [mkl, h1]
theorem none_all (l : List PMaker) (h : l.length ≤ 1000) : whl (fun (s : (List PMaker × Int)) => proper_made.bd12 l s.1 s.2) FUEL (l, 0) = some (List.replicate l.length ⟨-1, -2⟩) := by
  have hrun := whl_run (body := fun (s : List PMaker × Int) => proper_made.bd12 l s.1 s.2) (r := List.replicate l.length (⟨-1, -2⟩ : PMaker)) l.length FUEL (fun i => (List.replicate i (⟨-1, -2⟩ : PMaker) ++ l.drop i, (i : Int))) (fun i hi => by
    have hl : i < (List.replicate i (⟨-1, -2⟩ : PMaker) ++ l.drop i).length := by simp; omega
    simp only [proper_made.bd12, len_lt, hi, if_true, idx_lt hl, Option.bind_some, Int.toNat_natCast, w64_i hi (show l.length ≤ 1000 by omega)]
    congr 3
    rw [List.set_append_right _ _ (by simp)]
    simp only [List.length_replicate, Nat.sub_self]
    rw [List.drop_eq_getElem_cons hi, List.set_cons_zero, List.replicate_succ', List.append_assoc]; rfl) (by simp [proper_made.bd12, len]) (lt_FUEL (le_max h (by omega)))
  simpa using hrun
theorem made_eq (f : PFunc) (hf : SmF f) : proper_made f = some (mks f.regs.length (defs f), mns f.regs.length (defs f)) := by
  have hn := hf.1
  have hr := hf.2.1
  unfold proper_made
  simp only [len, mkl_le (n := f.regs.length) _ (show f.regs.length ≤ 1000 by omega), Option.bind_some]
  unfold proper_made.jn4
  have h0 := none_all (List.replicate f.regs.length PMaker.zero) (by simpa using (show f.regs.length ≤ 1000 by omega))
  rw [List.length_replicate] at h0
  rw [h0]
  simp only [Option.bind_some, proper_made.nx12]
  have hrun := whl_run (body := fun (s : (List PMaker × List Int × Int)) => proper_made.bd21 f s.1 s.2.1 s.2.2) (r := (mks f.regs.length (defs f), mns f.regs.length (defs f))) f.blocks.length FUEL
    (fun i => (mks f.regs.length (defsTo f i), mns f.regs.length (defsTo f i), (i : Int))) (fun i hi => by
      have hB := hf.2.2.2 _ (List.getElem_mem hi)
      obtain ⟨b1, b2, _⟩ := id hB
      have hL := defsTo_length f hf i (by omega)
      simp only [proper_made.bd21, len_lt, hi, if_true, idx_lt hi, Option.bind_some]
      have hp := whl_run (body := fun (s : (List PMaker × List Int × Int)) => proper_made.bd40 (i : Int) f.blocks[i] s.1 s.2.1 s.2.2) (r := (mks f.regs.length (defsTo f i ++ defsP i f.blocks[i]), mns f.regs.length (defsTo f i ++ defsP i f.blocks[i]))) f.blocks[i].phis.length FUEL
        (fun k => (mks f.regs.length (defsTo f i ++ (defsP i f.blocks[i]).take k), mns f.regs.length (defsTo f i ++ (defsP i f.blocks[i]).take k), (k : Int))) (fun k hk => by
          have hk' : k < (defsP i f.blocks[i]).length := by simpa [defsP] using hk
          simp only [proper_made.bd40, len_lt, hk, if_true, idx_lt hk, Option.bind_some]
          rw [made1_eq _ _ _ _ (by simp only [List.length_append, List.length_take]; omega)]
          simp only [Option.bind_some, w64_i hk (show f.blocks[i].phis.length ≤ 1000 by omega)]
          rw [List.take_succ_eq_append_getElem hk', List.append_assoc]
          simp [defsP]) (by simp [proper_made.bd40, len, List.take_of_length_le, defsP]) (lt_FUEL (le_max b2 (by omega)))
      simp only [List.take_zero, List.append_nil] at hp
      have hz : (((0 : Nat) : Int)) = 0 := rfl
      rw [hz] at hp
      rw [hp]
      simp only [Option.bind_some, proper_made.nx40]
      have hq := whl_run (body := fun (s : (List PMaker × List Int × Int)) => proper_made.bd47 (i : Int) f.blocks[i] s.1 s.2.1 s.2.2) (r := (mks f.regs.length (defsTo f (i + 1)), mns f.regs.length (defsTo f (i + 1)))) f.blocks[i].ins.length FUEL
        (fun k => (mks f.regs.length ((defsTo f i ++ defsP i f.blocks[i]) ++ (defsI i f.blocks[i]).take k), mns f.regs.length ((defsTo f i ++ defsP i f.blocks[i]) ++ (defsI i f.blocks[i]).take k), (k : Int))) (fun k hk => by
          have hk' : k < (defsI i f.blocks[i]).length := by simpa [defsI] using hk
          have hpl : (defsP i f.blocks[i]).length ≤ 300 := by simpa [defsP] using b2
          simp only [proper_made.bd47, len_lt, hk, if_true, idx_lt hk, Option.bind_some]
          rw [made1_eq _ _ _ _ (by simp only [List.length_append, List.length_take]; omega)]
          simp only [Option.bind_some, w64_i hk (show f.blocks[i].ins.length ≤ 1000 by omega)]
          rw [List.take_succ_eq_append_getElem hk', ← List.append_assoc]
          simp [defsI]) (by
            have : f.blocks[i].ins.length = (defsI i f.blocks[i]).length := by simp [defsI]
            simp only [proper_made.bd47, len]
            rw [if_neg (by omega), this, List.take_length, defsTo_succ f hi, defsB, List.append_assoc]) (lt_FUEL (le_max b1 (by omega)))
      simp only [List.take_zero, List.append_nil] at hq
      rw [hz] at hq
      rw [hq]
      simp only [Option.bind_some, proper_made.nx47, w64_i hi (show f.blocks.length ≤ 1000 by omega)]) (by
        simp only [proper_made.bd21, len]
        rw [if_neg (by omega), defsTo_all]) (lt_FUEL (le_max hn (by omega)))
  have hd0 : defsTo f 0 = [] := by simp [defsTo]
  rw [hd0, mks_nil, mns_nil] at hrun
  have hz : (((0 : Nat) : Int)) = 0 := rfl
  rw [hz] at hrun
  rw [hrun]; rfl
/-- A maker is in a block that is there. -/
theorem defs_mem (f : PFunc) {x : D3} (h : x ∈ defs f) : ∃ i : Nat, x.2.1 = (i : Int) ∧ i < f.blocks.length := by
  unfold defs at h
  obtain ⟨⟨B, i⟩, h1, h2⟩ := List.mem_flatMap.1 h
  have hi : i < f.blocks.length := by
    have := List.snd_lt_of_mem_zipIdx h1
    simpa using this
  refine ⟨i, ?_, hi⟩
  unfold defsB defsP defsI at h2
  rcases List.mem_append.1 h2 with h3 | h3
  · obtain ⟨p, _, rfl⟩ := List.mem_map.1 h3; rfl
  · obtain ⟨p, _, rfl⟩ := List.mem_map.1 h3; rfl
theorem mkr_block (f : PFunc) (r : Nat) : (mkr (defs f) r).block = -1 ∨ ∃ i : Nat, (mkr (defs f) r).block = (i : Int) ∧ i < f.blocks.length := by
  by_cases h : cntD (defs f) r = 0
  · left; unfold mkr; rw [cntD_zero h]
  · obtain ⟨x, h1, h2, _⟩ := cntD_pos h
    right
    obtain ⟨i, h3, h4⟩ := defs_mem f h2
    refine ⟨i, ?_, h4⟩
    unfold mkr; rw [h1]; exact h3
end Go.Proofs.Yteaknconpkklhaa
set_option linter.unusedVariables false
set_option linter.unusedSimpArgs false
namespace Go.Proofs.Yteaknconpkklhaa
open Go Go.Proofs
theorem whl_fold {α σ : Type} (L : List α) (g : σ → α → σ) (s0 : σ) {body : σ × Int → Option (Ex σ (σ × Int))} (hl : L.length ≤ 1000)
    (h : ∀ k (hk : k < L.length) s, body (s, (k : Int)) = some (.go (g s L[k], ((k + 1 : Nat) : Int)))) (he : ∀ s, body (s, (L.length : Int)) = some (.ret s)) : whl body FUEL (s0, 0) = some (L.foldl g s0) := by
  have hrun := whl_run (body := body) (r := L.foldl g s0) L.length FUEL (fun k => ((L.take k).foldl g s0, (k : Int))) (fun k hk => by
    rw [h k hk, foldl_take g s0 L hk]) (by rw [he, List.take_length]) (lt_FUEL (le_max hl (by omega)))
  exact hrun
/-- What the table holds of two blocks. -/
def ovT (T : List (List Bool)) (a b : Int) : Bool := (T.getD a.toNat []).getD b.toNat false
theorem Dim.ovT {n k : Nat} {T : List (List Bool)} (h : Dim n k T) {a b : Int} (a0 : 0 ≤ a) (a1 : a < (n : Int)) (b0 : 0 ≤ b) (b1 : b < (k : Int)) : ∃ row, idx T a = some row ∧ idx row b = some (Go.Proofs.Yteaknconpkklhaa.ovT T a b) := by
  obtain ⟨row, r1, r2, r3⟩ := h.get a0 a1
  refine ⟨row, r1, ?_⟩
  obtain ⟨v, v1, v2⟩ := idx_in (xs := row) b0 (by omega)
  rw [v1]
  unfold Go.Proofs.Yteaknconpkklhaa.ovT
  simp [List.getD_eq_getElem?_getD, r2, v2]
/-- A use: the register, the block, the place; is it made ahead? -/
def okU (f : PFunc) (T : List (List Bool)) (u : D3) : Bool :=
  decide (u.1 < f.params) || (decide ((mkr (defs f) u.1.toNat).block ≥ 0) && ((decide (¬ (mkr (defs f) u.1.toNat).block = u.2.1) && ovT T (mkr (defs f) u.1.toNat).block u.2.1) || (decide ((mkr (defs f) u.1.toNat).block = u.2.1) && decide ((mkr (defs f) u.1.toNat).at_ < u.2.2))))
def lowS (f : PFunc) (T : List (List Bool)) (low : Int) (u : D3) : Int := if okU f T u = false ∧ (low < 0 ∨ u.1 < low) then u.1 else low
theorem use_eq (l : PProperLooker) (hm : l.makers = mks l.f.regs.length (defs l.f)) (hT : Dim l.f.blocks.length l.f.blocks.length l.over) (low r b a : Int) (hr : hasR l.f r) (hb0 : 0 ≤ b) (hb1 : b < (l.f.blocks.length : Int)) :
    proper_looker_use (⟨(⟨l.f.params, l.f.result, l.f.regs, l.f.blocks⟩ : PFunc), l.makers, l.over, low⟩ : PProperLooker) r b a = some (lowS l.f l.over low (r, b, a)) := by
  obtain ⟨k, rfl⟩ : ∃ k : Nat, r = k := ⟨r.toNat, by have := hr.1; omega⟩
  have hk : k < l.f.regs.length := by have := hr.2; omega
  unfold proper_looker_use
  simp only [hm, mks_idx _ hk, Option.bind_some]
  have key : (if (k : Int) < l.f.params then some true else (if (mkr (defs l.f) k).block ≥ 0 then (if ¬ (mkr (defs l.f) k).block = b then (idx l.over (mkr (defs l.f) k).block).bind fun x25 =>
      (idx x25 b).bind fun x33 => some x33 else some false).bind fun t24 => some (decide (t24 = true ∨ ((mkr (defs l.f) k).block = b ∧ (mkr (defs l.f) k).at_ < a))) else some false).bind fun t23 => some t23) = some (okU l.f l.over ((k : Int), b, a)) := by
    unfold okU
    simp only [Int.toNat_natCast]
    by_cases h1 : (k : Int) < l.f.params
    · rw [if_pos h1]; simp [h1]
    rw [if_neg h1]
    rcases mkr_block l.f k with h2 | ⟨i, h2, h3⟩
    · rw [if_neg (by omega)]; simp [h1, h2]
    rw [if_pos (by omega)]
    obtain ⟨row, r1, r2⟩ := hT.ovT (a := (mkr (defs l.f) k).block) (b := b) (by omega) (by omega) hb0 hb1
    rw [r1]
    simp only [Option.bind_some, r2]
    by_cases h4 : (mkr (defs l.f) k).block = b
    · rw [if_neg (by simpa using h4)]
      simp [h1, h4, hb0]
    · rw [if_pos h4]
      have h0 : (mkr (defs l.f) k).block ≥ 0 := by omega
      simp [h1, h4, h0]
  rw [key]
  simp only [Option.bind_some, lowS]
  cases okU l.f l.over ((k : Int), b, a) <;> simp
  split <;> simp_all
def usesP (f : PFunc) (i : Nat) (B : PBlock) : List D3 := B.phis.flatMap fun p => p.args.zipIdx.map fun x => (x.1, (preds (nexts f) i).getD x.2 0, ((f.blocks.getD ((preds (nexts f) i).getD x.2 0).toNat PBlock.zero).ins.length : Int))
def usesI (i : Nat) (B : PBlock) : List D3 := B.ins.zipIdx.flatMap fun x => x.1.args.map fun a => (a, (i : Int), ((x.2 : Nat) : Int))
def usesT (i : Nat) (B : PBlock) : List D3 := if B.term.arg ≥ 0 then [(B.term.arg, (i : Int), (B.ins.length : Int))] else []
def usesB (f : PFunc) (i : Nat) (B : PBlock) : List D3 := usesP f i B ++ usesI i B ++ usesT i B
def uses (f : PFunc) : List D3 := f.blocks.zipIdx.flatMap fun x => usesB f x.2 x.1
theorem all_eq (l : PProperLooker) {m : PModule} (hf : SmF l.f) (hok : FuncOk m l.f) (hm : l.makers = mks l.f.regs.length (defs l.f)) (hT : Dim l.f.blocks.length l.f.blocks.length l.over) :
    proper_looker_all l = some ((uses l.f).foldl (lowS l.f l.over) l.lowest) := by
  have hn := hf.1
  unfold proper_looker_all
  rw [checkAhead_eq l.f hf]
  simp only [Option.bind_some]
  have hout := whl_fold l.f.blocks.zipIdx (fun (low : Int) (x : PBlock × Nat) => (usesB l.f x.2 x.1).foldl (lowS l.f l.over) low) l.lowest (body := fun (s : (Int × Int)) => proper_looker_all.bd10 l (aheads (nexts l.f)) s.1 s.2) (by simp; omega) (fun i hi low => by
    have hi : i < l.f.blocks.length := by simpa using hi
    have hB := hf.2.2.2 _ (List.getElem_mem hi)
    have hR := BlockOk_regs (hok.blocks _ (List.getElem_mem hi))
    obtain ⟨b1, b2, b3, b4, b5⟩ := id hB
    simp only [proper_looker_all.bd10, len_lt, hi, if_true, idx_lt hi, Option.bind_some]
    have hg : idx (aheads (nexts l.f)) (i : Int) = some (preds (nexts l.f) i) := by rw [idx_nat]; exact aheads_get _ _ (by rw [nexts_length]; exact hi)
    -- phis
    have hp := whl_fold l.f.blocks[i].phis (fun (low : Int) (p : PPhi) => (p.args.zipIdx.map fun x => (x.1, (preds (nexts l.f) i).getD x.2 0, ((l.f.blocks.getD ((preds (nexts l.f) i).getD x.2 0).toNat PBlock.zero).ins.length : Int))).foldl (lowS l.f l.over) low) low (body := fun (s : (Int × Int)) => proper_looker_all.bd29 l (aheads (nexts l.f)) (i : Int) l.f.blocks[i] s.1 s.2) (by omega) (fun k hk low => by
      have hpm := List.getElem_mem hk
      have hl := hok.ahead i hi _ hpm
      have h5 := b5 _ hpm
      simp only [proper_looker_all.bd29, len_lt, hk, if_true, idx_lt hk, Option.bind_some]
      have ha := whl_fold (l.f.blocks[i].phis[k].args.zipIdx.map fun x => (x.1, (preds (nexts l.f) i).getD x.2 0, ((l.f.blocks.getD ((preds (nexts l.f) i).getD x.2 0).toNat PBlock.zero).ins.length : Int))) (lowS l.f l.over) low (body := fun (s : (Int × Int)) => proper_looker_all.bd85 l (aheads (nexts l.f)) (i : Int) l.f.blocks[i].phis[k] s.1 s.2) (by simp; omega) (fun j hj low => by
        have hj : j < l.f.blocks[i].phis[k].args.length := by simpa using hj
        have hj2 : j < (preds (nexts l.f) i).length := by omega
        have hin := preds_in (nexts l.f) i _ (List.getElem_mem hj2)
        rw [nexts_length] at hin
        have hgd : (preds (nexts l.f) i).getD j 0 = (preds (nexts l.f) i)[j] := by rw [List.getD_eq_getElem?_getD, List.getElem?_eq_getElem hj2]; rfl
        obtain ⟨C, c1, c2⟩ := idx_in (xs := l.f.blocks) hin.1 hin.2
        have hu := use_eq l hm hT low l.f.blocks[i].phis[k].args[j] (preds (nexts l.f) i)[j] (len C.ins) (hR.pargs _ hpm _ (List.getElem_mem hj)) hin.1 hin.2
        simp only [proper_looker_all.bd85, len_lt, hj, if_true, idx_lt hj, Option.bind_some, hg, idx_lt hj2, c1, hu, w64_i hj (show l.f.blocks[i].phis[k].args.length ≤ 1000 by omega)]
        simp [hgd, List.getD_eq_getElem?_getD, c2, len, List.getElem?_eq_getElem hj2]) (fun s => by simp [proper_looker_all.bd85, len])
      rw [ha]
      simp only [Option.bind_some, proper_looker_all.nx85, w64_i hk (show l.f.blocks[i].phis.length ≤ 1000 by omega)]) (fun s => by simp [proper_looker_all.bd29, len])
    rw [hp]
    simp only [Option.bind_some, proper_looker_all.nx29]
    -- instructions
    generalize hlow : List.foldl _ low l.f.blocks[i].phis = lo1
    have hI := whl_fold l.f.blocks[i].ins.zipIdx (fun (low : Int) (x : PInstr × Nat) => (x.1.args.map fun a => (a, (i : Int), ((x.2 : Nat) : Int))).foldl (lowS l.f l.over) low) lo1 (body := fun (s : (Int × Int)) => proper_looker_all.bd38 l (i : Int) l.f.blocks[i] s.1 s.2) (by simp; omega) (fun k hk low => by
      have hk : k < l.f.blocks[i].ins.length := by simpa using hk
      have hxm := List.getElem_mem hk
      have h4 := b4 _ hxm
      simp only [proper_looker_all.bd38, len_lt, hk, if_true, idx_lt hk, Option.bind_some]
      have ha := whl_fold (l.f.blocks[i].ins[k].args.map fun a => (a, (i : Int), ((k : Nat) : Int))) (lowS l.f l.over) low (body := fun (s : (Int × Int)) => proper_looker_all.bd56 l (i : Int) (k : Int) l.f.blocks[i].ins[k] s.1 s.2) (by simp; omega) (fun j hj low => by
        have hj : j < l.f.blocks[i].ins[k].args.length := by simpa using hj
        have hu := use_eq l hm hT low l.f.blocks[i].ins[k].args[j] (i : Int) (k : Int) (hR.args _ hxm _ (List.getElem_mem hj)) (by omega) (by omega)
        simp only [proper_looker_all.bd56, len_lt, hj, if_true, idx_lt hj, Option.bind_some, hu, w64_i hj (show l.f.blocks[i].ins[k].args.length ≤ 1000 by omega)]
        simp) (fun s => by simp [proper_looker_all.bd56, len])
      rw [ha]
      simp only [Option.bind_some, proper_looker_all.nx56, w64_i hk (show l.f.blocks[i].ins.length ≤ 1000 by omega)]
      simp) (fun s => by simp [proper_looker_all.bd38, len])
    rw [hI]
    simp only [Option.bind_some, proper_looker_all.nx38]
    generalize hlow2 : List.foldl _ lo1 l.f.blocks[i].ins.zipIdx = lo2
    have hfin : (usesB l.f i l.f.blocks[i]).foldl (lowS l.f l.over) low = (usesT i l.f.blocks[i]).foldl (lowS l.f l.over) lo2 := by
      unfold usesB usesP usesI
      rw [List.foldl_append, List.foldl_append, List.foldl_flatMap, List.foldl_flatMap, hlow, hlow2]
    have hz : (l.f.blocks.zipIdx)[i]'(by simpa using hi) = (l.f.blocks[i], i) := by simp
    simp only [hz, hfin]
    by_cases ht : l.f.blocks[i].term.arg ≥ 0
    · rw [if_pos ht, use_eq l hm hT lo2 l.f.blocks[i].term.arg (i : Int) (len l.f.blocks[i].ins) ⟨ht, hR.arg⟩ (by omega) (by omega)]
      simp only [Option.bind_some, proper_looker_all.jn20, w64_i hi (show l.f.blocks.length ≤ 1000 by omega), usesT, if_pos ht]
      rfl
    · rw [if_neg ht]
      simp only [proper_looker_all.jn20, w64_i hi (show l.f.blocks.length ≤ 1000 by omega), usesT, if_neg ht]
      rfl) (fun s => by simp [proper_looker_all.bd10, len])
  rw [hout]
  simp only [Option.bind_some, proper_looker_all.nx10]
  unfold uses
  rw [List.foldl_flatMap]
end Go.Proofs.Yteaknconpkklhaa
set_option linter.unusedVariables false
set_option linter.unusedSimpArgs false
namespace Go.Proofs.Yteaknconpkklhaa
open Go Go.Proofs
/-- Made twice, or a parameter that is made. -/
def Twice (f : PFunc) (r : Nat) : Prop := cntD (defs f) r > 1 ∨ (cntD (defs f) r > 0 ∧ (r : Int) < f.params)
instance (f : PFunc) (r : Nat) : Decidable (Twice f r) := by unfold Twice; infer_instance
/-- What Form tells of a proper module's function. -/
inductive FormIs (f : PFunc) : GErr → Prop
  | shape {s : List Bool} {o : List Int} : Walked f s o → s ≠ List.replicate f.blocks.length true → FormIs f (.code 6)
  | twice {R : List Int} {r : Nat} : Full f R → r < f.regs.length → Twice f r → (∀ j, j < r → ¬ Twice f j) → FormIs f (.spot r (.code 7))
  | none {R : List Int} {T : List (List Bool)} : Full f R → (∀ r, r < f.regs.length → ¬ Twice f r) → dom_Dominates f = some T → Dim f.blocks.length f.blocks.length T → (uses f).foldl (lowS f T) (-1) ≥ 0 → FormIs f (.spot ((uses f).foldl (lowS f T) (-1)) (.code 4))
  | ok {R : List Int} {T : List (List Bool)} : Full f R → (∀ r, r < f.regs.length → ¬ Twice f r) → dom_Dominates f = some T → Dim f.blocks.length f.blocks.length T → (uses f).foldl (lowS f T) (-1) < 0 → FormIs f .no
theorem form_says (m : PModule) (hm : SmM m) (k : Nat) (hk : k < m.funcs.length) (hp : Proper m) : ∃ e, proper_Form m (k : Int) = some e ∧ FormIs m.funcs[k] e := by
  obtain ⟨e, he, hiff⟩ := module_says m hm
  have he0 : e = GErr.no := hiff.2 hp
  subst he0
  have hf := hm.2 _ (List.getElem_mem hk)
  have hok := hp.funcs _ (List.getElem_mem hk)
  unfold proper_Form
  rw [he]
  simp only [Option.bind_some, len]
  rw [if_neg (by simp), if_neg (by omega), idx_lt hk]
  simp only [Option.bind_some]
  generalize hff : m.funcs[k] = f at *
  obtain ⟨s, o, hw, -, hV⟩ := walked_any f hf
  have hn := hf.1
  have hpos : 0 < f.blocks.length := by have := hok.small.pos; omega
  rw [hw.rea]
  simp only [Option.bind_some]
  have hsl : s.length ≤ maxLen := le_max (show s.length ≤ 70 by rw [hw.len]; exact hn) (by omega)
  rcases scan0 s (fun i b => if b = true then none else some (GErr.code 6)) (fun s' => proper_Form.bd24 s s') hsl (fun i hi => by
    simp only [proper_Form.bd24, len_lt, hi, if_true, idx_lt hi, Option.bind_some, w64_at hi hsl]
    cases s[i] <;> simp) (by simp [proper_Form.bd24, len]) with ⟨i, hi, r, h1, -, h3⟩ | ⟨hall, h3⟩
  · rw [h3]
    by_cases hb : s[i] = true
    · rw [if_pos hb] at h1; cases h1
    · rw [if_neg hb] at h1; cases h1
      refine ⟨_, rfl, .shape hw fun e => hb ?_⟩
      subst e; simp
  rw [h3]
  simp only [Option.bind_some]
  have hs : s = List.replicate f.blocks.length true := by
    apply List.ext_getElem (by simp [hw.len])
    intro i h1 h2
    have := hall i h1
    by_cases hb : s[i] = true
    · simp [hb]
    · rw [if_neg hb] at this; cases this
  have hfull := full_of f hf hpos hw hs
  unfold proper_Form.nx24
  rw [made_eq f hf]
  simp only [Option.bind_some]
  have hmx : (List.range f.regs.length).length ≤ maxLen := le_max (show (List.range f.regs.length).length ≤ 300 by rw [List.length_range]; exact hf.2.1) (by omega)
  rcases scan0 (List.range f.regs.length) (fun i r => if Twice f r then some (GErr.spot (r : Int) (.code 7)) else none) (fun s' => proper_Form.bd35 f (mks f.regs.length (defs f), mns f.regs.length (defs f)) s') hmx (fun i hi => by
    have hi' : i < f.regs.length := by simpa using hi
    have hlm : ((i : Int) < len (mns f.regs.length (defs f))) := by simp only [len, mns_len]; omega
    simp only [proper_Form.bd35, hlm, if_true, mns_idx _ hi', Option.bind_some, List.getElem_range, w64_at hi hmx]
    by_cases hc : Twice f i
    · rw [if_pos hc, if_pos (by unfold Twice at hc; omega)]
    · rw [if_neg hc, if_neg (by unfold Twice at hc; omega)]) (by simp [proper_Form.bd35, len, mns_len]) with ⟨i, hi, r, h1, h2, h4⟩ | ⟨hall2, h4⟩
  · rw [h4]
    have hi' : i < f.regs.length := by simpa using hi
    simp only [List.getElem_range] at h1
    by_cases hc : Twice f i
    · rw [if_pos hc] at h1; cases h1
      refine ⟨_, rfl, .twice hfull hi' hc fun j hj hcj => ?_⟩
      have := h2 j (by simpa using (show j < f.regs.length by omega)) hj
      simp only [List.getElem_range] at this
      rw [if_pos hcj] at this; cases this
    · rw [if_neg hc] at h1; cases h1
  rw [h4]
  simp only [Option.bind_some]
  have hno : ∀ r, r < f.regs.length → ¬ Twice f r := fun r hr hc => by
    have := hall2 r (by simpa using hr)
    simp only [List.getElem_range] at this
    rw [if_pos hc] at this; cases this
  unfold proper_Form.nx35
  obtain ⟨N, L, hL, hN⟩ := nearest_ok hfull
  obtain ⟨T, hT, hD, -⟩ := dominates_ok hfull hL hN
  rw [hT]
  simp only [Option.bind_some]
  have hall3 := all_eq (⟨f, mks f.regs.length (defs f), T, -1⟩ : PProperLooker) (m := m) hf hok rfl hD
  have hall4 : proper_looker_all (⟨(⟨f.params, f.result, f.regs, f.blocks⟩ : PFunc), mks f.regs.length (defs f), T, -1⟩ : PProperLooker) = some ((uses f).foldl (lowS f T) (-1)) := hall3
  rw [hall4]
  simp only [Option.bind_some]
  by_cases hc : (uses f).foldl (lowS f T) (-1) ≥ 0
  · rw [if_pos hc]; exact ⟨_, rfl, .none hfull hno hT hD hc⟩
  · rw [if_neg hc]; exact ⟨_, rfl, .ok hfull hno hT hD (by omega)⟩
theorem up13 : fettlelaw13_up = some true := by kernel_rfl
theorem forall_zipFlat {α β : Type} (xs : List α) (F : α × Nat → List β) (P : β → Prop) : (∀ u ∈ xs.zipIdx.flatMap F, P u) ↔ ∀ k (hk : k < xs.length), ∀ u ∈ F (xs[k], k), P u := by
  constructor
  · intro h k hk u hu
    refine h u (List.mem_flatMap.2 ⟨(xs[k], k), ?_, hu⟩)
    rw [List.mem_zipIdx_iff_getElem?]
    exact List.getElem?_eq_getElem hk
  · intro h u hu
    obtain ⟨⟨x, k⟩, h1, h2⟩ := List.mem_flatMap.1 hu
    rw [List.mem_zipIdx_iff_getElem?] at h1
    simp only at h1
    obtain ⟨hk, rfl⟩ := List.getElem?_eq_some_iff.1 h1
    exact h k hk u h2
end Go.Proofs.Yteaknconpkklhaa
set_option linter.unusedVariables false
set_option linter.unusedSimpArgs false
namespace Go.Proofs.Yteaknconpkklhaa
open Go Go.Proofs
/-! ### Modules with the same signatures -/
def SigEq (m m' : PModule) : Prop := ∀ fn : Int, (idx m.funcs fn = none → idx m'.funcs fn = none) ∧ ∀ g, idx m.funcs fn = some g → ∃ g', idx m'.funcs fn = some g' ∧ g'.params = g.params ∧ g'.result = g.result ∧ ∀ i : Nat, (i : Int) < g.params → g'.regs[i]? = g.regs[i]?
theorem SigEq.set {m : PModule} {k : Nat} {g r : PFunc} (hk : k < m.funcs.length) (hp : r.params = g.params) (hr : r.result = g.result) (hg : ∀ i : Nat, (i : Int) < g.params → r.regs[i]? = g.regs[i]?) (l : List PFunc) (hl : l = m.funcs.set k g) : SigEq (⟨l⟩ : PModule) (⟨m.funcs.set k r⟩ : PModule) := by
  subst hl
  intro fn
  by_cases h0 : 0 ≤ fn
  · obtain ⟨n, rfl⟩ : ∃ n : Nat, fn = n := ⟨fn.toNat, by omega⟩
    simp only [idx_nat]
    by_cases e : k = n
    · subst e
      rw [List.getElem?_set_self hk, List.getElem?_set_self hk]
      refine ⟨fun h => (by cases h), fun g' h => ?_⟩
      cases h
      exact ⟨r, rfl, hp, hr, hg⟩
    · rw [List.getElem?_set_ne e, List.getElem?_set_ne e]
      exact ⟨fun h => h, fun g' h => ⟨g', h, rfl, rfl, fun _ _ => rfl⟩⟩
  · have : ∀ l : List PFunc, idx l fn = none := fun l => by unfold idx; rw [if_neg h0]
    rw [this, this]
    exact ⟨fun _ => rfl, fun g h => by cases h⟩
theorem arF_sig {m m' : PModule} (hS : SigEq m m') (x : PInstr) : arF m' x = arF m x := by
  unfold arF
  have : (idx m'.funcs x.fn).map (fun g => (g.params, g.result)) = (idx m.funcs x.fn).map (fun g => (g.params, g.result)) := by
    obtain ⟨h1, h2⟩ := hS x.fn
    cases h : idx m.funcs x.fn with
    | none => rw [h1 h]
    | some g =>
      obtain ⟨g', a, b, c, _⟩ := h2 g h
      rw [a]; simp [b, c]
  rw [this]
theorem CallOk.sig {m m' : PModule} (hS : SigEq m m') {f : PFunc} {x : PInstr} {g : PFunc} (h : CallOk m f x g) (hl : (x.args.length : Int) = g.params) : ∃ g', CallOk m' f x g' := by
  obtain ⟨g', a, b, c, d⟩ := (hS x.fn).2 g h.fn
  have hnn := h.nn
  have hle := h.le
  refine ⟨g', a, by omega, ?_, fun i hi => ?_, by rw [c]; exact h.res⟩
  · by_cases h0 : g.params = 0
    · omega
    · obtain ⟨n, hn⟩ : ∃ n : Nat, g.params = (n : Int) + 1 := ⟨(g.params - 1).toNat, by omega⟩
      have := d n (by omega)
      have hlt : n < g.regs.length := by omega
      rw [List.getElem?_eq_getElem hlt] at this
      have := (List.getElem?_eq_some_iff.1 this).1
      omega
  · obtain ⟨t, t1, t2⟩ := h.args i hi
    refine ⟨t, ?_, t2⟩
    rw [idx_nat] at t1 ⊢
    rw [d i (by omega)]; exact t1
theorem FitsOk.sig {m m' : PModule} (hS : SigEq m m') {f : PFunc} {x : PInstr} {n t : Int} (har : arF m x = some (n, t)) (hl : (x.args.length : Int) = n) (h : FitsOk m f x) : FitsOk m' f x := by
  unfold FitsOk at h ⊢
  by_cases h17 : x.op = 17
  · rw [if_neg (by omega), if_neg (by omega), if_neg (by omega), if_neg (by omega), if_neg (by omega), if_pos h17] at h ⊢
    obtain ⟨g, hg⟩ := h
    refine hg.sig hS ?_
    unfold arF at har
    rw [if_neg (by omega), if_neg (by omega), if_neg (by omega), if_neg (by omega), if_neg (by omega), if_neg (by omega), if_pos h17, hg.fn] at har
    simp only [Option.map_some, Option.some.injEq, Prod.mk.injEq] at har
    omega
  · simp only [if_neg h17] at h ⊢
    exact h
theorem InstrOk.sig {m m' : PModule} (hS : SigEq m m') {f : PFunc} {x : PInstr} {n t : Int} (h : InstrOk m f x n t) : InstrOk m' f x n t :=
  ⟨by rw [arF_sig hS]; exact h.ar, h.len, h.args, h.dst, h.none, h.imm, h.fn, h.fits.sig hS h.ar h.len⟩
theorem FuncOk.sig {m m' : PModule} (hS : SigEq m m') {f : PFunc} (h : FuncOk m f) : FuncOk m' f :=
  ⟨h.small, h.typed, h.ends, h.ahead, fun B hB => ⟨(h.blocks B hB).phis, fun x hx => by
    obtain ⟨n, t, hi⟩ := (h.blocks B hB).ins x hx
    exact ⟨n, t, hi.sig hS⟩, (h.blocks B hB).term⟩⟩
/-! ### Instructions whose registers are others of the same types -/
/-- x stands for register a of f in r. -/
def Std (f r : PFunc) (x a : Int) : Prop := hasR r x ∧ hasR f a ∧ idx r.regs x = idx f.regs a
theorem Std.ty {f r : PFunc} {x a t : Int} (h : Std f r x a) : tyR f a t → tyR r x t := fun k => by unfold tyR at *; rw [h.2.2]; exact k
theorem InstrOk.map {m : PModule} {f r : PFunc} {o s : PInstr} {n t : Int} (h : InstrOk m f o n t) (h1 : s.op = o.op) (h2 : s.imm = o.imm) (h3 : s.fn = o.fn) (hl : s.args.length = o.args.length) (hd : hasR f o.dst → Std f r s.dst o.dst) (hd2 : o.dst < 0 → s.dst = -1)
    (ha : ∀ (k : Nat) (a : Int), o.args[k]? = some a → ∃ x, s.args[k]? = some x ∧ Std f r x a) : InstrOk m r s n t := by
  have hall : ∀ x ∈ s.args, ∃ a ∈ o.args, Std f r x a := fun x hx => by
    obtain ⟨k, hk, rfl⟩ := List.getElem_of_mem hx
    have hk' : k < o.args.length := by omega
    obtain ⟨y, y1, y2⟩ := ha k _ (List.getElem?_eq_getElem hk')
    rw [List.getElem?_eq_getElem hk] at y1
    rw [Option.some.inj y1]
    exact ⟨_, List.getElem_mem hk', y2⟩
  have hsd : hasR f o.dst ∨ o.dst = -1 := by
    by_cases ht : t = 0
    · exact .inr (h.none ht)
    · exact .inl (h.dst ht)
  have har : arF m s = arF m o := by unfold arF; rw [h1, h3]
  have hdty : ∀ t, tyR f o.dst t → tyR r s.dst t := fun t k => (hd k.has).ty k
  have hargs : ∀ t, (∀ a ∈ o.args, tyR f a t) → ∀ x ∈ s.args, tyR r x t := fun t k x hx => by
    obtain ⟨a, a1, a2⟩ := hall x hx
    exact a2.ty (k a a1)
  have h0 : ∀ a, idx o.args 0 = some a → ∃ x, idx s.args 0 = some x ∧ Std f r x a := fun a k => by
    have k' : o.args[0]? = some a := by simpa [idx] using k
    obtain ⟨x, x1, x2⟩ := ha 0 a k'
    exact ⟨x, by simpa [idx] using x1, x2⟩
  refine ⟨by rw [har]; exact h.ar, by rw [hl]; exact h.len, fun x hx => ?_, fun ht => (hd (h.dst ht)).1, fun ht => hd2 (by rw [h.none ht]; omega), fun k => by rw [h2]; exact h.imm (by rw [← h1]; exact k), fun k => by rw [h3]; exact h.fn (by rw [← h1]; exact k), ?_⟩
  · obtain ⟨a, _, a2⟩ := hall x hx; exact a2.1
  · have hf := h.fits
    unfold FitsOk at hf ⊢
    rw [h1]
    split at hf
    · rename_i e
      rw [if_pos e, h2]
      exact hf.imp (hdty 1) id
    rename_i e1
    rw [if_neg e1]
    split at hf
    · rename_i e
      rw [if_pos e]
      obtain ⟨a, a1, a2⟩ := hf
      obtain ⟨x, x1, x2⟩ := h0 a a1
      refine ⟨x, x1, ?_⟩
      have ht : t ≠ 0 := by
        have := h.ar
        unfold arF at this
        rw [if_pos (.inl e)] at this
        simp only [Option.some.injEq, Prod.mk.injEq] at this
        omega
      rw [(hd (h.dst ht)).2.2, x2.2.2]; exact a2
    rename_i e2
    rw [if_neg e2]
    split at hf
    · rename_i e
      rw [if_pos e]
      exact ⟨hargs 1 hf.1, hdty 2 hf.2⟩
    rename_i e3
    rw [if_neg e3]
    split at hf
    · rename_i e
      rw [if_pos e]
      obtain ⟨⟨a, a1, a2⟩, hf2⟩ := hf
      obtain ⟨x, x1, x2⟩ := h0 a a1
      exact ⟨⟨x, x1, x2.ty a2⟩, hdty 2 hf2⟩
    rename_i e4
    rw [if_neg e4]
    split at hf
    · rename_i e
      rw [if_pos e]
      exact hargs 1 hf
    rename_i e5
    rw [if_neg e5]
    split at hf
    · rename_i e
      rw [if_pos e]
      obtain ⟨g, hg⟩ := hf
      refine ⟨g, by rw [h3]; exact hg.fn, hg.nn, hg.le, fun i hi => ?_, hg.res.imp id (hdty _)⟩
      have hi' : i < o.args.length := by omega
      obtain ⟨tt, t1, t2⟩ := hg.args i hi'
      obtain ⟨x, x1, x2⟩ := ha i _ (List.getElem?_eq_getElem hi')
      rw [List.getElem?_eq_getElem hi] at x1
      refine ⟨tt, t1, ?_⟩
      rw [Option.some.inj x1]
      exact x2.ty t2
    rename_i e6
    rw [if_neg e6]
    exact ⟨hargs 1 hf.1, hdty 1 hf.2⟩
/-! ### Versions -/
section
variable {f r : PFunc} {R : List Int} {b : PBuilder}
def bigA (f : PFunc) (b : PBuilder) : List (Int × Int) := b.zero_.zip b.zeros ++ numA b.phi b.dst b.phis f f.blocks.length
def OkV (f : PFunc) (b : PBuilder) (x a : Int) : Prop := Par f x a ∨ (x, a) ∈ bigA f b
theorem lc_big {c : Nat} (hc : c < f.blocks.length) {x a : Int} (h : Lc f b c x a) : (x, a) ∈ bigA f b := by
  unfold bigA
  rcases h with h | h | ⟨_, h⟩
  · exact List.mem_append_right _ (List.mem_flatMap.2 ⟨c, List.mem_range.2 hc, List.mem_append_left _ h⟩)
  · exact List.mem_append_right _ (List.mem_flatMap.2 ⟨c, List.mem_range.2 hc, List.mem_append_right _ h⟩)
  · exact List.mem_append_left _ h
theorem Made.std (h : Made f r R b) (hp : f.params ≤ (f.regs.length : Int)) {x a : Int} (hx : OkV f b x a) : Std f r x a := by
  have hA := h.asg
  have hpl := hA.plen
  rcases hx with ⟨rfl, h0, h1⟩ | hx
  · refine ⟨⟨h0, by omega⟩, ⟨h0, by omega⟩, ?_⟩
    have := hA.pre x.toNat (by omega)
    unfold idx
    rw [if_pos h0, if_pos h0]; exact this
  · obtain ⟨a1, a2, a3, a4, a5⟩ := hA.ty _ hx
    simp only at a1 a2 a3 a4 a5
    have hxl : x.toNat < r.regs.length := by omega
    rw [List.getElem?_eq_getElem hxl] at a5
    have := (List.getElem?_eq_some_iff.1 a5.symm).1
    refine ⟨⟨a2, a3⟩, ⟨a4, by omega⟩, ?_⟩
    unfold idx
    rw [if_pos a2, if_pos a4, List.getElem?_eq_getElem hxl]; exact a5
theorem Made.begin (h : Made f r R b) {i : Nat} (hi : i < f.blocks.length) : Snd (OkV f b) (b.begin.getD i []) := by
  obtain ⟨N, L, hN, hQ⟩ := h.near
  obtain ⟨row, r1, r2, _⟩ := h.bl.begin.get (b := (i : Int)) (by omega) (by omega) trivial
  rw [Int.toNat_natCast] at r2
  have hob := h.full.ob_pb hi
  have hg : b.begin.getD i [] = row := by rw [List.getD_eq_getElem?_getD, r2]; rfl
  rw [hg]
  refine (hQ.qs (pb R i) hob.2 row (by rw [hob.1]; exact r2)).mono fun x a hh => ?_
  rcases hh with hh | ⟨k, k1, k2, k3⟩ | hh | ⟨h0, hh⟩
  · exact .inl hh
  · exact .inr (lc_big (h.full.get (by omega)).2 k3)
  · rw [hob.1] at hh; exact .inr (lc_big hi (.inl hh))
  · exact .inr (lc_big (c := 0) h.full.pos (.inr (.inr ⟨rfl, hh⟩)))
theorem Made.vat (h : Made f r R b) {i : Nat} (hi : i < f.blocks.length) {t : Nat} {V : List Int} (hV : Vat b i f.blocks[i] t V) : Snd (OkV f b) V :=
  hV.snd _ (h.begin hi) fun u _ o d ho h0 hd => .inr (lc_big hi (.inr (.inl (by
    have hgd : f.blocks.getD i PBlock.zero = f.blocks[i] := by rw [List.getD_eq_getElem?_getD, List.getElem?_eq_getElem hi]; rfl
    rw [hgd]; exact mem_dz hd ho h0))))
theorem Made.ends (h : Made f r R b) {c : Nat} (hc : c < f.blocks.length) {row : List Int} (hrow : b.end_[c]? = some row) : Snd (OkV f b) row := by
  obtain ⟨N, L, hN, hQ⟩ := h.near
  have hob := h.full.ob_pb hc
  refine (hQ.qe (pb R c) hob.2 row (by rw [hob.1]; exact hrow)).mono fun x a hh => ?_
  rcases hh with hh | ⟨k, k1, k2, k3⟩
  · exact .inl hh
  · exact .inr (lc_big (h.full.get (by omega)).2 k3)
theorem Snd.nn {Q : Int → Int → Prop} {v : List Int} (h : Snd Q v) {a : Nat} {x : Int} (hn : Nn v a) (hx : v[a]? = some x) : Q x (a : Int) := by
  obtain ⟨y, y1, y2⟩ := hn
  rw [hx] at y1
  have : x = y := Option.some.inj y1
  rcases h a x hx with e | e
  · omega
  · exact e
theorem NnT.getD {T : List (List Int)} {i a : Nat} (h : NnT T i a) : Nn (T.getD i []) a := by
  obtain ⟨row, h1, h2⟩ := h
  rw [List.getD_eq_getElem?_getD, h1]; exact h2
theorem Made.block {m m' : PModule} (h : Made f r R b) (hok : FuncOk m f) (hS : SigEq m m') {i : Nat} (hi : i < f.blocks.length) {C : PBlock} (hC : Nx f b i f.blocks[i] (preds (nexts f) i) C) : BlockOk m' r C := by
  have hle := hok.typed.le
  have hB := hok.blocks _ (List.getElem_mem hi)
  have hR := BlockOk_regs hB
  obtain ⟨dr, d1, d2⟩ := h.bl.num.dr i hi hi
  have hdg : b.dst.getD i [] = dr := by rw [List.getD_eq_getElem?_getD, d1]; rfl
  refine ⟨fun p hp => ?_, fun s hs => ?_, ?_⟩
  · obtain ⟨t, ht, rfl⟩ := List.getElem_of_mem hp
    obtain ⟨q, q1, q2, q3⟩ := hC.phis t _ (List.getElem?_eq_getElem ht)
    have hmem : (C.phis[t].dst, q) ∈ bigA f b := lc_big hi (.inl (mem_zip_at q2 q1))
    have hstd := h.std hle (.inr hmem)
    have hargs : ∀ x ∈ C.phis[t].args, Std f r x q := fun x hx => by
      obtain ⟨k, hk, rfl⟩ := List.getElem_of_mem hx
      have hk' : k < (preds (nexts f) i).length := by rw [← q3.1]; exact hk
      obtain ⟨ro, x, x1, x2, x3⟩ := q3.2 k _ (List.getElem?_eq_getElem hk')
      rw [List.getElem?_eq_getElem hk] at x3
      rw [Option.some.inj x3]
      have hin := preds_in (nexts f) i _ (List.getElem_mem hk')
      rw [nexts_length] at hin
      have hcn : ((preds (nexts f) i)[k]).toNat < f.blocks.length := by omega
      have hph : b.phis[i]? = some (b.phis.getD i []) := by
        obtain ⟨qq, a1, a2, _⟩ := h.bl.phis.get (b := (i : Int)) (by omega) (by omega)
        rw [Int.toNat_natCast] at a2
        rw [List.getD_eq_getElem?_getD, a2]; rfl
      have hnn := h.uphi i hi q ⟨_, hph, List.mem_of_getElem? q1⟩ ((preds (nexts f) i)[k]).toNat (by rw [Int.toNat_of_nonneg hin.1]; exact List.getElem_mem hk')
      have hq0 := hstd.2.1.1
      have := (h.ends hcn x1).nn (hnn.of x1) x2
      rw [Int.toNat_of_nonneg hq0] at this
      exact h.std hle this
    exact ⟨hstd.1, fun x hx => (hargs x hx).1, fun x hx => by rw [(hargs x hx).2.2, hstd.2.2]⟩
  · obtain ⟨u, hu, rfl⟩ := List.getElem_of_mem hs
    have hlen := hC.ins.len
    by_cases e : u < (if i = 0 then zI b.zero_ else []).length
    · have hpre := hC.ins.pre u e
      rw [List.getElem?_eq_getElem hu] at hpre
      have hm := List.mem_of_getElem? hpre.symm
      split at hm
      · obtain ⟨d, hd, hd2⟩ := List.mem_map.1 hm
        rw [← hd2]
        obtain ⟨w, hw, rfl⟩ := List.getElem_of_mem hd
        have hzl := h.zlen
        have hstd := h.std hle (.inr (List.mem_append_left _ (mem_zip_at (List.getElem?_eq_getElem hw) (List.getElem?_eq_getElem (show w < b.zeros.length by omega)))))
        exact ⟨0, 1, by simp [arF], rfl, by simp, fun _ => hstd.1, fun k => by omega, fun _ => rfl, fun _ => rfl, by simp [FitsOk]⟩
      · simp at hm
    · obtain ⟨o, d, V, s, a1, a2, a3, a4, a5, a6⟩ := hC.ins.new (u - (if i = 0 then zI b.zero_ else []).length) (by omega)
      rw [Nat.add_sub_cancel' (by omega), List.getElem?_eq_getElem hu] at a5
      have hs := Option.some.inj a5
      rw [hs]
      obtain ⟨n, t, hI⟩ := hB.ins o (List.mem_of_getElem? a1)
      refine ⟨n, t, (hI.sig hS).map a6.op a6.imm a6.fn a6.len (fun hd => ?_) (fun hd => ?_) fun k a ha => ?_⟩
      · rw [a6.dst]
        refine h.std hle (.inr (lc_big hi (.inr (.inl ?_))))
        have hgd : f.blocks.getD i PBlock.zero = f.blocks[i] := by rw [List.getD_eq_getElem?_getD, List.getElem?_eq_getElem hi]; rfl
        rw [hgd]; exact mem_dz a2 a1 hd.1
      · rw [a6.dst]
        obtain ⟨hul, hue⟩ := List.getElem?_eq_some_iff.1 a1
        rw [hdg] at a2
        exact d2.neg _ hul _ (by rw [hue]; exact hd) a2
      · obtain ⟨x, x1, x2⟩ := a6.args k a ha
        refine ⟨x, x2, ?_⟩
        have har := hI.args a (List.mem_of_getElem? ha)
        obtain ⟨an, rfl⟩ : ∃ an : Nat, a = an := ⟨a.toNat, by have := har.1; omega⟩
        rw [Int.toNat_natCast] at x1
        have hnn := a3.nn an ((h.uins i hi _ o a1 an (List.mem_of_getElem? ha)).imp (fun k => k.getD) id)
        exact h.std hle ((h.vat hi a3).nn hnn x1)
  · have hT := hB.term
    unfold EndOk at hT ⊢
    rw [hC.kind, h.result]
    by_cases hk : f.blocks[i].term.kind = 1 ∨ (f.blocks[i].term.kind = 3 ∧ f.result = 0)
    · rw [if_pos hk] at hT ⊢
      rw [hC.noarg (by omega)]; exact hT
    · rw [if_neg hk] at hT ⊢
      have har := hT.has
      obtain ⟨V, x, x1, x2, x3⟩ := hC.arg har.1
      rw [x3]
      obtain ⟨an, han⟩ : ∃ an : Nat, f.blocks[i].term.arg = an := ⟨f.blocks[i].term.arg.toNat, by have := har.1; omega⟩
      rw [han, Int.toNat_natCast] at x2
      have hnn := x1.nn an ((h.uarg i hi an han).imp (fun k => k.getD) id)
      have hst := h.std hle ((h.vat hi x1).nn hnn x2)
      rw [han] at hT
      exact hst.ty hT
theorem Made.nxE (h : Made f r R b) : nexts r = Go.Proofs.Yteaknconpkklhaa.nexts f := by
  unfold Go.Proofs.Yteaknconpkklhaa.nexts
  have hl := h.len
  apply List.ext_getElem (by simp [hl])
  intro j h1 h2
  have hj : j < f.blocks.length := by simpa using h2
  obtain ⟨C, c1, c2⟩ := h.at_ j hj
  have hjr : j < r.blocks.length := by omega
  rw [List.getElem?_eq_getElem hjr] at c1
  simp only [List.getElem_map, hl]
  rw [Option.some.inj c1, c2.to]
theorem Made.func {m m' : PModule} (h : Made f r R b) (hok : FuncOk m f) (hS : SigEq m m') : FuncOk m' r := by
  have hl := h.len
  have hsm := hok.small
  have hty := hok.typed
  have hA := h.asg
  have hpl := hA.plen
  have hmem : ∀ C ∈ r.blocks, ∃ i, ∃ hi : i < f.blocks.length, Nx f b i f.blocks[i] (preds (Go.Proofs.Yteaknconpkklhaa.nexts f) i) C := fun C hC => by
    obtain ⟨i, hi, rfl⟩ := List.getElem_of_mem hC
    have hi' : i < f.blocks.length := by omega
    obtain ⟨D, d1, d2⟩ := h.at_ i hi'
    rw [List.getElem?_eq_getElem hi] at d1
    rw [Option.some.inj d1]; exact ⟨i, hi', d2⟩
  refine ⟨⟨by have := hsm.pos; omega, by have := hsm.blocks; omega, h.regs, h.few⟩, ⟨fun t ht => hty.regs t (hA.all t ht), by rw [h.params]; exact hty.nn, by rw [h.params]; exact hty.few, by rw [h.params]; exact hpl, by rw [h.result]; exact hty.res⟩, fun C hC => ?_, fun i hi p hp => ?_, fun C hC => ?_⟩
  · obtain ⟨i, hi, hN⟩ := hmem C hC
    have hE := hok.ends _ (List.getElem_mem hi)
    exact ⟨by rw [hN.to, hl]; exact hE.to, by rw [hN.kind, hN.to]; exact hE.kind⟩
  · have hi' : i < f.blocks.length := by omega
    obtain ⟨D, d1, d2⟩ := h.at_ i hi'
    rw [List.getElem?_eq_getElem hi] at d1
    rw [Option.some.inj d1] at hp
    obtain ⟨t, ht, rfl⟩ := List.getElem_of_mem hp
    obtain ⟨q, _, _, q3⟩ := d2.phis t _ (List.getElem?_eq_getElem ht)
    rw [h.nxE, q3.1]
  · obtain ⟨i, hi, hN⟩ := hmem C hC
    exact h.block hok hS hi hN
end
end Go.Proofs.Yteaknconpkklhaa
set_option linter.unusedVariables false
set_option linter.unusedSimpArgs false
namespace Go.Proofs.Yteaknconpkklhaa
open Go Go.Proofs
variable {f r : PFunc} {R : List Int} {b : PBuilder}
/-! ### Counting what is made -/
theorem cntD_count (L : List D3) (x : Nat) : cntD L x = (L.map Prod.fst).count (x : Int) := by
  unfold cntD List.count
  rw [List.countP_map]
  congr 1
theorem zipIdx_range {α : Type} (l : List α) (d : α) : l.zipIdx = (List.range l.length).map fun i => (l.getD i d, i) := by
  apply List.ext_getElem (by simp)
  intro i h1 h2
  have hi : i < l.length := by simpa using h1
  simp [List.getD_eq_getElem?_getD, List.getElem?_eq_getElem hi]
theorem sum_split (A B : Nat → Nat) (c : Nat) : ∀ n, ((List.range (n + 1)).map fun i => A i + ((if i = 0 then c else 0) + B i)).sum = c + ((List.range (n + 1)).map fun i => A i + B i).sum
  | 0 => by simp; omega
  | n + 1 => by
    have e : List.range (n + 1 + 1) = List.range (n + 1) ++ [n + 1] := List.range_succ
    rw [e]
    simp only [List.map_append, List.sum_append]
    rw [sum_split A B c n]
    simp; omega
theorem count_dz (x : Int) (hx : 0 ≤ x) : ∀ (d : List Int) (l : List PInstr), d.length = l.length → (∀ (t : Nat) (o : PInstr) (y : Int), l[t]? = some o → d[t]? = some y → o.dst < 0 → y = -1) → ((dz d l).map Prod.fst).count x = d.count x
  | [], [], _, _ => rfl
  | y :: d, o :: l, hl, hn => by
    have ih := count_dz x hx d l (by simpa using hl) (fun t o' y' h1 h2 => hn (t + 1) o' y' (by simpa using h1) (by simpa using h2))
    have e : dz (y :: d) (o :: l) = (if o.dst ≥ 0 then [(y, o.dst)] else []) ++ dz d l := by
      unfold dz
      rw [List.zip_cons_cons, List.filter_cons]
      by_cases h : o.dst ≥ 0
      · simp [h]
      · simp [h]
    rw [e, List.map_append, List.count_append, ih, List.count_cons]
    by_cases h : o.dst ≥ 0
    · rw [if_pos h]
      simp only [List.map_cons, List.map_nil, List.count_cons, List.count_nil]
      omega
    · rw [if_neg h]
      have := hn 0 o y rfl rfl (by omega)
      subst this
      have : ¬ ((-1 : Int) == x) = true := by simp; omega
      simp [this]
  | [], _ :: _, hl, _ => by simp at hl
  | _ :: _, [], hl, _ => by simp at hl
theorem Made.rows (h : Made f r R b) {i : Nat} (hi : i < f.blocks.length) : (b.phi.getD i []).length = (b.phis.getD i []).length ∧ (b.dst.getD i []).length = f.blocks[i].ins.length ∧ ∀ (t : Nat) (o : PInstr) (y : Int), f.blocks[i].ins[t]? = some o → (b.dst.getD i [])[t]? = some y → o.dst < 0 → y = -1 := by
  obtain ⟨q, row, a1, a2, a3, _⟩ := h.bl.num.pr i hi
  obtain ⟨dr, d1, d2⟩ := h.bl.num.dr i hi hi
  have e1 : b.phi.getD i [] = row := by rw [List.getD_eq_getElem?_getD, a2]; rfl
  have e2 : b.phis.getD i [] = q := by rw [List.getD_eq_getElem?_getD, a1]; rfl
  have e3 : b.dst.getD i [] = dr := by rw [List.getD_eq_getElem?_getD, d1]; rfl
  rw [e1, e2, e3]
  refine ⟨a3, d2.len, fun t o y h1 h2 h3 => ?_⟩
  obtain ⟨k1, k2⟩ := List.getElem?_eq_some_iff.1 h1
  exact d2.neg t k1 y (by rw [k2]; exact h3) h2
theorem zI_len (i : Nat) (z : List Int) : (if i = 0 then zI z else []).length = (if i = 0 then z else []).length := by split <;> simp [zI]
theorem Made.dsts (h : Made f r R b) {i : Nat} (hi : i < f.blocks.length) {C : PBlock} (hC : Nx f b i f.blocks[i] (preds (nexts f) i) C) : (defsB i C).map Prod.fst = b.phi.getD i [] ++ ((if i = 0 then b.zero_ else []) ++ b.dst.getD i []) := by
  obtain ⟨r1, r2, r3⟩ := h.rows hi
  have hlen := hC.ins.len
  have hpl := hC.plen
  unfold defsB
  rw [List.map_append]
  congr 1
  · apply List.ext_getElem (by rw [List.length_map]; simp only [defsP, List.length_map]; omega)
    intro t h1 h2
    have ht : t < C.phis.length := by simpa [defsP] using h1
    obtain ⟨q, _, q2, _⟩ := hC.phis t _ (List.getElem?_eq_getElem ht)
    rw [List.getElem?_eq_getElem h2] at q2
    simp only [defsP, List.getElem_map]
    exact (Option.some.inj q2).symm
  · have hz := zI_len i b.zero_
    apply List.ext_getElem (by rw [List.length_map, List.length_append]; simp only [defsI, List.length_map, List.length_zipIdx]; omega)
    intro u h1 h2
    have hu : u < C.ins.length := by simpa [defsI] using h1
    simp only [defsI, List.getElem_map, List.getElem_zipIdx]
    by_cases e : u < (if i = 0 then b.zero_ else []).length
    · rw [List.getElem_append_left e]
      have hpre := hC.ins.pre u (by omega)
      rw [List.getElem?_eq_getElem hu] at hpre
      by_cases e0 : i = 0
      · simp only [if_pos e0] at hpre e ⊢
        have he : u < (zI b.zero_).length := by simp [zI]; exact e
        rw [List.getElem?_eq_getElem he] at hpre
        rw [Option.some.inj hpre]; simp [zI]
      · simp only [if_neg e0] at e; simp at e
    · rw [List.getElem_append_right (by omega)]
      obtain ⟨o, d, V, s, a1, a2, a3, a4, a5, a6⟩ := hC.ins.new (u - (if i = 0 then zI b.zero_ else []).length) (by omega)
      rw [Nat.add_sub_cancel' (by omega), List.getElem?_eq_getElem hu] at a5
      rw [Option.some.inj a5, a6.dst]
      simp only [hz] at a2
      rw [List.getElem?_eq_getElem (by rw [List.length_append] at h2; omega)] at a2
      exact (Option.some.inj a2).symm
theorem Made.get (h : Made f r R b) {i : Nat} (hi : i < f.blocks.length) : ∃ hr : i < r.blocks.length, Nx f b i f.blocks[i] (preds (nexts f) i) r.blocks[i] := by
  obtain ⟨D, d1, d2⟩ := h.at_ i hi
  obtain ⟨hr, he⟩ := List.getElem?_eq_some_iff.1 d1
  exact ⟨hr, by rw [he]; exact d2⟩
theorem Made.count (h : Made f r R b) {x : Nat} : cntD (defs r) x = ((bigA f b).map Prod.fst).count (x : Int) := by
  have hl := h.len
  have hpos := h.full.pos
  have hzl := h.zlen
  have e1 : ((defs r).map Prod.fst).count (x : Int) = ((List.range f.blocks.length).map fun i => (b.phi.getD i []).count (x : Int) + ((if i = 0 then b.zero_.count (x : Int) else 0) + (b.dst.getD i []).count (x : Int))).sum := by
    unfold defs
    rw [List.map_flatMap, List.count_flatMap, zipIdx_range r.blocks PBlock.zero, List.map_map, hl]
    congr 1
    apply List.map_congr_left
    intro i hi
    have hi : i < f.blocks.length := List.mem_range.1 hi
    obtain ⟨hr, hC⟩ := h.get hi
    have hg : r.blocks.getD i PBlock.zero = r.blocks[i] := by rw [List.getD_eq_getElem?_getD, List.getElem?_eq_getElem hr]; rfl
    simp only [Function.comp, hg, h.dsts hi hC, List.count_append]
    split <;> simp
  have e2 : ((numA b.phi b.dst b.phis f f.blocks.length).map Prod.fst).count (x : Int) = ((List.range f.blocks.length).map fun i => (b.phi.getD i []).count (x : Int) + (b.dst.getD i []).count (x : Int)).sum := by
    unfold numA
    rw [List.map_flatMap, List.count_flatMap]
    congr 1
    apply List.map_congr_left
    intro i hi
    have hi : i < f.blocks.length := List.mem_range.1 hi
    obtain ⟨r1, r2, r3⟩ := h.rows hi
    have hg : f.blocks.getD i PBlock.zero = f.blocks[i] := by rw [List.getD_eq_getElem?_getD, List.getElem?_eq_getElem hi]; rfl
    simp only [Function.comp, hg, List.map_append, List.count_append]
    rw [List.map_fst_zip (by omega), count_dz (x : Int) (by omega) _ _ r2 r3]
  rw [cntD_count, e1]
  unfold bigA
  rw [List.map_append, List.count_append, List.map_fst_zip (by omega), e2]
  obtain ⟨n, hn⟩ : ∃ n, f.blocks.length = n + 1 := ⟨f.blocks.length - 1, by omega⟩
  rw [hn]
  exact sum_split (fun i => (b.phi.getD i []).count (x : Int)) (fun i => (b.dst.getD i []).count (x : Int)) _ n
theorem Made.once (h : Made f r R b) (x : Nat) : cntD (defs r) x ≤ 1 := by
  rw [h.count]
  exact List.nodup_iff_count.1 h.asg.nd _
theorem Made.notwice (h : Made f r R b) (x : Nat) : ¬ Twice r x := by
  have h1 := h.once x
  rintro (h2 | ⟨h2, h3⟩)
  · omega
  · rw [h.count] at h2
    have hm : (x : Int) ∈ (bigA f b).map Prod.fst := List.count_pos_iff.1 h2
    obtain ⟨y, hy, he⟩ := List.mem_map.1 hm
    have := (h.asg.ty y hy).1
    rw [h.params] at h3
    omega
/-! ### Where it is made -/
theorem mkr_of : ∀ (L : List D3) (x : Nat) (e : D3), cntD L x ≤ 1 → e ∈ L → e.1 = (x : Int) → mkr L x = ⟨e.2.1, e.2.2⟩
  | [], x, e, _, h, _ => by simp at h
  | y :: L, x, e, hc, h, he => by
    by_cases hy : y.1 = (x : Int)
    · have h0 : cntD L x = 0 := by
        unfold cntD at hc ⊢
        rw [List.countP_cons] at hc
        simp [hy] at hc
        simpa using hc
      rcases List.mem_cons.1 h with rfl | h
      · unfold mkr; simp [hy]
      · exfalso
        unfold cntD at h0
        rw [List.countP_eq_zero] at h0
        exact h0 e h (by simpa using he)
    · rcases List.mem_cons.1 h with rfl | h
      · exact absurd he hy
      · have hc' : cntD L x ≤ 1 := by
          unfold cntD at hc ⊢
          rw [List.countP_cons] at hc
          omega
        have := mkr_of L x e hc' h he
        unfold mkr at this ⊢
        rw [List.find?_cons_of_neg (by simpa using hy)]
        exact this
end Go.Proofs.Yteaknconpkklhaa
set_option linter.unusedVariables false
set_option linter.unusedSimpArgs false
namespace Go.Proofs.Yteaknconpkklhaa
open Go Go.Proofs
variable {f r : PFunc} {R : List Int} {b : PBuilder}
def Mk (r : PFunc) (x : Int) (e : Nat) (at_ : Int) : Prop := mkr (defs r) x.toNat = ⟨(e : Int), at_⟩
theorem mem_defs {i : Nat} (hi : i < r.blocks.length) {e : D3} (he : e ∈ defsB i r.blocks[i]) : e ∈ defs r := by
  unfold defs
  refine List.mem_flatMap.2 ⟨(r.blocks[i], i), ?_, he⟩
  rw [List.mem_zipIdx_iff_getElem?]
  exact List.getElem?_eq_getElem hi
theorem Made.mkAt (h : Made f r R b) {i : Nat} (hi : i < r.blocks.length) {x a : Int} (h0 : 0 ≤ x) (he : (x, (i : Int), a) ∈ defsB i r.blocks[i]) : Mk r x i a :=
  mkr_of _ _ (x, (i : Int), a) (h.once _) (mem_defs hi he) (by simp only; omega)
/-- How many zeros stand ahead. -/
def off (b : PBuilder) (i : Nat) : Nat := (if i = 0 then zI b.zero_ else []).length
theorem Made.nn (h : Made f r R b) {x a : Int} (hx : (x, a) ∈ bigA f b) : 0 ≤ x := (h.asg.ty _ hx).2.1
theorem Made.mkPhi (h : Made f r R b) {i : Nat} (hi : i < f.blocks.length) {x a : Int} (hx : (x, a) ∈ (b.phi.getD i []).zip (b.phis.getD i [])) : Mk r x i (-1) := by
  obtain ⟨hr, hC⟩ := h.get hi
  obtain ⟨r1, r2, r3⟩ := h.rows hi
  have hpl := hC.plen
  refine h.mkAt hr (h.nn (lc_big hi (.inl hx))) (List.mem_append_left _ ?_)
  obtain ⟨t, ht, he⟩ := List.getElem_of_mem hx
  rw [List.length_zip] at ht
  rw [List.getElem_zip] at he
  have ht' : t < r.blocks[i].phis.length := by omega
  obtain ⟨q, _, q2, _⟩ := hC.phis t _ (List.getElem?_eq_getElem ht')
  rw [List.getElem?_eq_getElem (by omega)] at q2
  refine List.mem_map.2 ⟨r.blocks[i].phis[t], List.getElem_mem ht', ?_⟩
  rw [← Option.some.inj q2, (Prod.mk.inj he).1]
theorem mem_defsI {i u : Nat} {C : PBlock} {s : PInstr} (h : C.ins[u]? = some s) : (s.dst, (i : Int), (u : Int)) ∈ defsI i C := by
  unfold defsI
  refine List.mem_map.2 ⟨(s, u), ?_, rfl⟩
  rw [List.mem_zipIdx_iff_getElem?]; exact h
theorem Made.mkZero (h : Made f r R b) {x a : Int} (hx : (x, a) ∈ b.zero_.zip b.zeros) : ∃ t : Nat, t < off b 0 ∧ Mk r x 0 (t : Int) := by
  obtain ⟨hr, hC⟩ := h.get h.full.pos
  obtain ⟨t, ht, he⟩ := List.getElem_of_mem hx
  rw [List.length_zip] at ht
  rw [List.getElem_zip] at he
  have ho : off b 0 = b.zero_.length := by simp [off, zI]
  have ht2 : t < (zI b.zero_).length := by simp [zI]; omega
  refine ⟨t, by omega, h.mkAt hr (h.nn (List.mem_append_left _ hx)) (List.mem_append_right _ ?_)⟩
  have hpre := hC.ins.pre t (by rw [if_pos rfl]; exact ht2)
  rw [if_pos rfl, List.getElem?_eq_getElem ht2] at hpre
  have := mem_defsI (i := 0) hpre
  have hd : ((zI b.zero_)[t]).dst = x := by
    rw [← (Prod.mk.inj he).1]; simp [zI]
  rwa [hd] at this
theorem Made.mkIns (h : Made f r R b) {i : Nat} (hi : i < f.blocks.length) {u : Nat} {o : PInstr} {x : Int} (ho : f.blocks[i].ins[u]? = some o) (hd : (b.dst.getD i [])[u]? = some x) (h0 : 0 ≤ x) : Mk r x i ((off b i + u : Nat) : Int) := by
  obtain ⟨hr, hC⟩ := h.get hi
  obtain ⟨o', d', V, s, a1, a2, a3, a4, a5, a6⟩ := hC.ins.new u (List.getElem?_eq_some_iff.1 ho).1
  rw [hd] at a2
  cases a2
  have := mem_defsI (i := i) a5
  rw [a6.dst] at this
  exact h.mkAt hr h0 (List.mem_append_right _ this)
theorem Made.size (h : Made f r R b) {i : Nat} (hi : i < f.blocks.length) (hr : i < r.blocks.length) : r.blocks[i].ins.length = off b i + f.blocks[i].ins.length := by
  obtain ⟨_, hC⟩ := h.get hi
  exact hC.ins.len
/-- Made in block c, somewhere. -/
theorem Made.loc (h : Made f r R b) {c : Nat} (hc : c < f.blocks.length) (hr : c < r.blocks.length) {x a : Int} (hL : Lc f b c x a) : ∃ at_ : Int, Mk r x c at_ ∧ at_ < (r.blocks[c].ins.length : Int) := by
  have hs := h.size hc hr
  have h0 := h.nn (lc_big hc hL)
  rcases hL with hx | hx | ⟨rfl, hx⟩
  · exact ⟨-1, h.mkPhi hc hx, by omega⟩
  · have hg : f.blocks.getD c PBlock.zero = f.blocks[c] := by rw [List.getD_eq_getElem?_getD, List.getElem?_eq_getElem hc]; rfl
    rw [hg] at hx
    obtain ⟨u, o, d1, d2, d3, d4⟩ := dz_mem hx
    have := (List.getElem?_eq_some_iff.1 d2).1
    exact ⟨_, h.mkIns hc d2 d1 h0, by omega⟩
  · obtain ⟨t, t1, t2⟩ := h.mkZero hx
    exact ⟨_, t2, by omega⟩
/-! ### Ahead -/
def Lt (r : PFunc) (T : List (List Bool)) (i : Nat) (p : Int) (x : Int) : Prop := x < r.params ∨ ∃ (e : Nat) (at_ : Int), Mk r x e at_ ∧ ((e ≠ i ∧ Hold T e i) ∨ (e = i ∧ at_ < p))
theorem Lt.ok {T : List (List Bool)} {i : Nat} {p x : Int} (h : Lt r T i p x) : okU r T (x, (i : Int), p) = true := by
  unfold okU
  rcases h with h | ⟨e, at_, hm, h⟩
  · simp [h]
  · simp only
    rw [hm]
    rcases h with ⟨h1, row, h2, h3⟩ | ⟨rfl, h2⟩
    · have hov : ovT T (e : Int) (i : Int) = true := by
        unfold ovT
        simp [List.getD_eq_getElem?_getD, h2, h3]
      have hne : ¬ ((e : Int) = (i : Int)) := by omega
      simp [hov, hne]
    · simp [h2]
structure Tab (f : PFunc) (R : List Int) (N : Nat → Nat) (T : List (List Bool)) : Prop where
  hold : ∀ v w, v < f.blocks.length → w < f.blocks.length → Anc N (pb R v) (pb R w) → Hold T v w
theorem Made.ltPar (h : Made f r R b) {T : List (List Bool)} {i : Nat} {p x a : Int} (hx : Par f x a) : Lt r T i p x := .inl (by rw [h.params]; obtain ⟨e, _, h2⟩ := hx; omega)
/-- What is made in a block above is made ahead. -/
theorem Made.ltUp (h : Made f r R b) {N : Nat → Nat} {T : List (List Bool)} (hT : Tab f R N T) {i : Nat} (hi : i < f.blocks.length) {k : Nat} (hk : k < pb R i) (hA : Anc N k (pb R i)) {p x a : Int} (hL : Lc f b (ob R k) x a) : Lt r T i p x := by
  have hob := h.full.ob_pb hi
  have hkn : k < f.blocks.length := by omega
  have hok := (h.full.get hkn).2
  have hl := h.len
  obtain ⟨at_, h1, _⟩ := h.loc hok (by omega) hL
  refine .inr ⟨_, at_, h1, .inl ⟨fun e => ?_, hT.hold _ _ hok hi (by rw [h.full.pb_ob hkn]; exact hA)⟩⟩
  rw [← e, h.full.pb_ob hkn] at hk
  omega
theorem Made.ltEnd (h : Made f r R b) {N : Nat → Nat} {L : List Int} (hQ : VerQ f R N b f.blocks.length b.begin b.end_) {T : List (List Bool)} (hT : Tab f R N T) {c : Nat} (hc : c < f.blocks.length) (hr : c < r.blocks.length) {row : List Int} (hrow : b.end_[c]? = some row) : Snd (fun x _ => Lt r T c (r.blocks[c].ins.length : Int) x) row := by
  have hob := h.full.ob_pb hc
  refine (hQ.qe (pb R c) hob.2 row (by rw [hob.1]; exact hrow)).mono fun x a hh => ?_
  rcases hh with hh | ⟨k, k1, k2, k3⟩
  · exact h.ltPar hh
  · by_cases e : k = pb R c
    · subst e
      rw [hob.1] at k3
      obtain ⟨at_, h1, h2⟩ := h.loc hc hr k3
      exact .inr ⟨c, at_, h1, .inr ⟨rfl, h2⟩⟩
    · exact h.ltUp hT hc (by omega) k2 k3
theorem Made.ltBegin (h : Made f r R b) {N : Nat → Nat} (hQ : VerQ f R N b f.blocks.length b.begin b.end_) {T : List (List Bool)} (hT : Tab f R N T) {i : Nat} (hi : i < f.blocks.length) {p : Int} (hp : (off b i : Int) ≤ p) : Snd (fun x _ => Lt r T i p x) (b.begin.getD i []) := by
  have hob := h.full.ob_pb hi
  obtain ⟨row, r1, r2, _⟩ := h.bl.begin.get (b := (i : Int)) (by omega) (by omega) trivial
  rw [Int.toNat_natCast] at r2
  have hg : b.begin.getD i [] = row := by rw [List.getD_eq_getElem?_getD, r2]; rfl
  rw [hg]
  refine (hQ.qs (pb R i) hob.2 row (by rw [hob.1]; exact r2)).mono fun x a hh => ?_
  rcases hh with hh | ⟨k, k1, k2, k3⟩ | hh | ⟨h0, hh⟩
  · exact h.ltPar hh
  · exact h.ltUp hT hi k1 k2 k3
  · rw [hob.1] at hh
    exact .inr ⟨i, -1, h.mkPhi hi hh, .inr ⟨rfl, by omega⟩⟩
  · have hi0 : i = 0 := by rw [← hob.1, h0, h.full.ob0]
    subst hi0
    obtain ⟨t, t1, t2⟩ := h.mkZero hh
    exact .inr ⟨0, _, t2, .inr ⟨rfl, by omega⟩⟩
theorem Made.ltAt (h : Made f r R b) {N : Nat → Nat} (hQ : VerQ f R N b f.blocks.length b.begin b.end_) {T : List (List Bool)} (hT : Tab f R N T) {i : Nat} (hi : i < f.blocks.length) {t : Nat} {V : List Int} (hV : Vat b i f.blocks[i] t V) : Snd (fun x _ => Lt r T i ((off b i + t : Nat) : Int) x) V :=
  hV.snd _ (h.ltBegin hQ hT hi (by omega)) fun u hu o d ho h0 hd => by
    have hg : f.blocks.getD i PBlock.zero = f.blocks[i] := by rw [List.getD_eq_getElem?_getD, List.getElem?_eq_getElem hi]; rfl
    have hm : (d, o.dst) ∈ bigA f b := lc_big hi (.inr (.inl (by rw [hg]; exact mem_dz hd ho h0)))
    exact .inr ⟨i, _, h.mkIns hi ho hd (h.nn hm), .inr ⟨rfl, by omega⟩⟩
/-! ### The same ways -/
theorem Made.full' (h : Made f r R b) (hs : SmF r) : Full r R := by
  have hf := h.full
  have hl := h.len
  have hn := h.nxE
  have htf : ∀ B ∈ f.blocks, B.term.to.length ≤ 70 := fun B hm => (hf.sm.2.2.2 B hm).2.2.1
  have htr : ∀ B ∈ r.blocks, B.term.to.length ≤ 70 := fun B hm => (hs.2.2.2 B hm).2.2.1
  have ho : graph_order r = graph_order f := by
    unfold graph_order
    rw [graphNext_eq r hs.1 htr, graphNext_eq f hf.sm.1 htf, hn]
  have h1 : graph_Order r = graph_Order f := by unfold graph_Order; rw [ho]
  have h2 : graph_Reached r = graph_Reached f := by unfold graph_Reached; rw [ho]
  refine ⟨hs, by rw [hl]; exact hf.pos, by rw [h1]; exact hf.ord, by rw [h2, hl]; exact hf.rea, by rw [hl]; exact hf.len, by rw [hl]; exact hf.all, by rw [hl]; exact hf.mem, hf.nodup, hf.head, fun i hi h0 => ?_⟩
  obtain ⟨k, hk, u, hu1, hu2, hu3⟩ := hf.led i hi h0
  obtain ⟨hr, hC⟩ := h.get hu2
  exact ⟨k, hk, u, hu1, hr, by rw [hC.to]; exact hu3⟩
theorem Made.tab (h : Made f r R b) (hs : SmF r) {N : Nat → Nat} {L : List Int} (hN : Near f R N L) {T : List (List Bool)} (hT : dom_Dominates r = some T) : Tab f R N T := by
  have hF := h.full' hs
  have hl := h.len
  obtain ⟨N', L', hL', hN'⟩ := nearest_ok hF
  obtain ⟨T', hT', _, _, h2⟩ := dominates_ok hF hL' hN'
  obtain rfl : T' = T := Option.some.inj (hT'.symm.trans hT)
  have hP : Pl r R = Pl f R := by
    funext p i
    unfold Pl
    rw [hl, h.nxE]
  refine ⟨fun v w hv hw ha => h2 v w (by omega) (by omega) ?_⟩
  have hwp := (h.full.ob_pb hw).2
  rw [hN'.iff hF (by rw [hl]; exact hwp), hl, hP]
  exact (hN.iff h.full hwp).1 ha
theorem Made.uses (h : Made f r R b) {m m' : PModule} (hok : FuncOk m f) (hr : FuncOk m' r) {N : Nat → Nat} {L : List Int} (hQ : VerQ f R N b f.blocks.length b.begin b.end_) {T : List (List Bool)} (hT : Tab f R N T) : ∀ u ∈ Go.Proofs.Yteaknconpkklhaa.uses r, okU r T u = true := by
  have hl := h.len
  unfold Go.Proofs.Yteaknconpkklhaa.uses
  rw [forall_zipFlat]
  intro i hir u hu
  have hi : i < f.blocks.length := by omega
  obtain ⟨_, hC⟩ := h.get hi
  have hB := hok.blocks _ (List.getElem_mem hi)
  simp only at hu
  unfold usesB at hu
  rw [List.mem_append, List.mem_append] at hu
  rcases hu with (hu | hu) | hu
  · unfold usesP at hu
    obtain ⟨p, hp, hu⟩ := List.mem_flatMap.1 hu
    obtain ⟨⟨x, k⟩, hx, rfl⟩ := List.mem_map.1 hu
    rw [List.mem_zipIdx_iff_getElem?] at hx
    simp only at hx ⊢
    obtain ⟨t, ht, rfl⟩ := List.getElem_of_mem hp
    obtain ⟨q, q1, q2, q3⟩ := hC.phis t _ (List.getElem?_eq_getElem ht)
    have hk : k < (preds (nexts f) i).length := by
      have := (List.getElem?_eq_some_iff.1 hx).1
      rw [q3.1] at this; exact this
    have hin := preds_in (nexts f) i _ (List.getElem_mem hk)
    rw [nexts_length] at hin
    obtain ⟨ro, y, y1, y2, y3⟩ := q3.2 k _ (List.getElem?_eq_getElem hk)
    rw [hx] at y3
    obtain rfl : x = y := Option.some.inj y3
    obtain ⟨c, hc⟩ : ∃ c : Nat, (preds (nexts f) i)[k] = c := ⟨((preds (nexts f) i)[k]).toNat, by omega⟩
    have hcn : c < f.blocks.length := by omega
    have hcr : c < r.blocks.length := by omega
    rw [hc, Int.toNat_natCast] at y1
    have hgd : (preds (nexts r) i).getD k 0 = (c : Int) := by
      rw [h.nxE, List.getD_eq_getElem?_getD, List.getElem?_eq_getElem hk, hc]; rfl
    rw [hgd, Int.toNat_natCast]
    have hgb : r.blocks.getD c PBlock.zero = r.blocks[c] := by rw [List.getD_eq_getElem?_getD, List.getElem?_eq_getElem hcr]; rfl
    rw [hgb]
    have hph : b.phis[i]? = some (b.phis.getD i []) := by
      obtain ⟨qq, a1, a2, _⟩ := h.bl.phis.get (b := (i : Int)) (by omega) (by omega)
      rw [Int.toNat_natCast] at a2
      rw [List.getD_eq_getElem?_getD, a2]; rfl
    have hnn := h.uphi i hi q ⟨_, hph, List.mem_of_getElem? q1⟩ c (by rw [← hc]; exact List.getElem_mem hk)
    exact ((h.ltEnd (L := L) hQ hT hcn hcr y1).nn (hnn.of y1) y2).ok
  · unfold usesI at hu
    obtain ⟨⟨s, j⟩, hx, hu⟩ := List.mem_flatMap.1 hu
    obtain ⟨x, hxa, rfl⟩ := List.mem_map.1 hu
    rw [List.mem_zipIdx_iff_getElem?] at hx
    simp only at hx hxa ⊢
    have hjl := (List.getElem?_eq_some_iff.1 hx).1
    have hlen := hC.ins.len
    by_cases e : j < (if i = 0 then zI b.zero_ else []).length
    · have hpre := hC.ins.pre j e
      rw [hx] at hpre
      have hm := List.mem_of_getElem? hpre.symm
      split at hm
      · obtain ⟨d, _, hd⟩ := List.mem_map.1 hm
        rw [← hd] at hxa; simp at hxa
      · simp at hm
    · obtain ⟨o, d, V, s', a1, a2, a3, a4, a5, a6⟩ := hC.ins.new (j - (if i = 0 then zI b.zero_ else []).length) (by omega)
      rw [Nat.add_sub_cancel' (by omega), hx] at a5
      obtain rfl : s = s' := Option.some.inj a5
      obtain ⟨k, hk, rfl⟩ := List.getElem_of_mem hxa
      have hk' : k < o.args.length := by rw [← a6.len]; exact hk
      obtain ⟨y, y1, y2⟩ := a6.args k _ (List.getElem?_eq_getElem hk')
      rw [List.getElem?_eq_getElem hk] at y2
      rw [Option.some.inj y2]
      obtain ⟨n, t, hI⟩ := hB.ins o (List.mem_of_getElem? a1)
      have har := hI.args _ (List.getElem_mem hk')
      obtain ⟨an, han⟩ : ∃ an : Nat, o.args[k] = an := ⟨(o.args[k]).toNat, by have := har.1; omega⟩
      rw [han, Int.toNat_natCast] at y1
      have hnn := a3.nn an ((h.uins i hi _ o a1 an (by rw [← han]; exact List.getElem_mem hk')).imp (fun k => k.getD) id)
      have := (h.ltAt hQ hT hi a3).nn hnn y1
      have hpos : off b i + (j - (if i = 0 then zI b.zero_ else []).length) = j := by unfold off; omega
      rw [hpos] at this
      exact this.ok
  · unfold usesT at hu
    split at hu
    · rename_i h0
      have hue : u = (r.blocks[i].term.arg, (i : Int), (r.blocks[i].ins.length : Int)) := by simpa using hu
      subst hue
      have ha0 : 0 ≤ f.blocks[i].term.arg := by
        rcases Int.lt_or_le f.blocks[i].term.arg 0 with hlt | hle
        · rw [hC.noarg hlt] at h0; omega
        · exact hle
      obtain ⟨V, x, x1, x2, x3⟩ := hC.arg ha0
      rw [x3]
      obtain ⟨an, han⟩ : ∃ an : Nat, f.blocks[i].term.arg = an := ⟨f.blocks[i].term.arg.toNat, by omega⟩
      rw [han, Int.toNat_natCast] at x2
      have hnn := x1.nn an ((h.uarg i hi an han).imp (fun k => k.getD) id)
      have := (h.ltAt hQ hT hi x1).nn hnn x2
      rw [← h.size hi hir] at this
      exact this.ok
    · simp at hu
theorem Made.form (h : Made f r R b) {m m' : PModule} (hok : FuncOk m f) (hr : FuncOk m' r) (hs : SmF r) {e : GErr} (hF : FormIs r e) : e = .no := by
  obtain ⟨N, L, hN, hQ⟩ := h.near
  have hFl := h.full' hs
  cases hF with
  | @shape s o hw hne =>
    exfalso
    have := hw.rea.symm.trans hFl.rea
    exact hne (Option.some.inj this)
  | twice _ _ ht _ => exact absurd ht (h.notwice _)
  | @none R' T _ _ hT _ hlow =>
    exfalso
    have hall := h.uses hok hr (L := L) hQ (h.tab hs hN hT)
    have h0 : ∀ u ∈ Go.Proofs.Yteaknconpkklhaa.uses r, True := fun _ _ => trivial
    have hfold : ∀ (l : List D3), (∀ u ∈ l, okU r T u = true) → l.foldl (lowS r T) (-1) = -1 := by
      intro l
      induction l with
      | nil => intro _; rfl
      | cons u l ih =>
        intro hl
        rw [List.foldl_cons]
        have : lowS r T (-1) u = -1 := by unfold lowS; rw [if_neg (by rw [hl u List.mem_cons_self]; simp)]
        rw [this]
        exact ih fun v hv => hl v (List.mem_cons_of_mem _ hv)
    rw [hfold _ hall] at hlow
    omega
  | ok => rfl
theorem pure_properBuilt (m : PModule) (a : Int) (h : wfModule m) (ha : inI64 a) : fettlelaw13_ProperBuilt m a = some true := by
  unfold fettlelaw13_ProperBuilt
  rw [up13]
  obtain ⟨b, hb, hsm⟩ := small_ok m
  rw [hb]
  simp only [Option.bind_some]
  cases b with
  | false => simp
  | true =>
    have hm := hsm rfl
    obtain ⟨r, hr, hr1, hr2⟩ := build_ok m hm a
    simp only [Bool.not_true, Bool.false_eq_true, if_false, hr, Option.bind_some]
    by_cases he : r.2 = GErr.no
    · obtain ⟨k, rfl, hk, g, R, b, hg, hgp, hgr, hgg, hp, hok, hM⟩ := hr2 he
      rw [if_neg (by simp only [len]; simp [he]; omega)]
      simp only [copy_eq m hm, Option.bind_some, idx_lt hk, Int.toNat_natCast]
      have hty := hok.typed
      have hset : (m.funcs.set k r.1).length = m.funcs.length := by simp
      have hmt : SmM (⟨m.funcs.set k r.1⟩ : PModule) := ⟨by simp only [hset]; exact hm.1, fun x hx => (List.mem_or_eq_of_mem_set hx).elim (hm.2 x) (fun e => e ▸ hr1)⟩
      have hpre : ∀ i : Nat, (i : Int) < g.params → r.1.regs[i]? = g.regs[i]? := hM.asg.pre
      have hS1 : SigEq (⟨m.funcs.set k g⟩ : PModule) (⟨m.funcs.set k r.1⟩ : PModule) := SigEq.set hk hM.params hM.result hpre _ rfl
      have hS2 : SigEq m (⟨m.funcs.set k r.1⟩ : PModule) := by
        have := SigEq.set (m := m) (g := m.funcs[k]) hk (by rw [hM.params, hgp]) (by rw [hM.result, hgr]) (fun i hi => by rw [← hgg]; exact hpre i (by rw [hgp]; exact hi)) m.funcs (by simp)
        exact this
      have hrok := hM.func hok hS1
      have hpt : Proper (⟨m.funcs.set k r.1⟩ : PModule) := ⟨by simp only [hset]; exact hp.few, fun x hx => (List.mem_or_eq_of_mem_set hx).elim (fun hx => (hp.funcs x hx).sig hS2) (fun e => e ▸ hrok)⟩
      obtain ⟨e, he1, he2⟩ := form_says (⟨m.funcs.set k r.1⟩ : PModule) hmt k (by simp only [hset]; exact hk) hpt
      have hgk : (m.funcs.set k r.1)[k]'(by simp only [hset]; exact hk) = r.1 := by simp
      simp only [hgk] at he2
      rw [he1, hM.form hok hrok hr1 he2]
      simp
    · rw [if_pos (.inl (.inl he))]
      simp [he]
end Go.Proofs.Yteaknconpkklhaa
