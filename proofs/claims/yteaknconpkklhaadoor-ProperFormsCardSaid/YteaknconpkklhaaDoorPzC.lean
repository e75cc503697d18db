/- Several parts in one text, the first of which: Plain laws of layer 13, part A: by what registers are made. No conditions. -/
import Derived.Test.YteaknconpkklhaaDoorPzA
import Derived.Test.YteaknconpkklhaaDoorPzB
import Derived.Test.YteaknconpkklhaaDoorOf
import Derived.KernelRfl
set_option linter.unusedVariables false
set_option linter.unusedSimpArgs false
namespace Go.Proofs.YteaknconpkklhaaDoor
open Go Go.Proofs
/-- What is made: the register, the block, the place. -/
abbrev D3 := Int × Int × Int
def mkr (L : List D3) (r : Nat) : PMaker := match L.find? (fun x => decide (x.1 = (r : Int))) with | some x => ⟨x.2.1, x.2.2⟩ | none => ⟨-1, -2⟩
def cntD (L : List D3) (r : Nat) : Nat := L.countP (fun x => decide (x.1 = (r : Int)))
def mks (n : Nat) (L : List D3) : List PMaker := (List.range n).map (mkr L)
def mns (n : Nat) (L : List D3) : List Int := (List.range n).map fun r => ((cntD L r : Nat) : Int)
theorem mks_idx {n r : Nat} (L : List D3) (h : r < n) : idx (mks n L) (r : Int) = some (mkr L r) := by rw [idx_nat]; simp [mks, h]
theorem mns_idx {n r : Nat} (L : List D3) (h : r < n) : idx (mns n L) (r : Int) = some ((cntD L r : Nat) : Int) := by rw [idx_nat]; simp [mns, h]
theorem mks_len (n : Nat) (L : List D3) : (mks n L).length = n := by simp [mks]
theorem mns_len (n : Nat) (L : List D3) : (mns n L).length = n := by simp [mns]
theorem mkr_ne {L : List D3} {x : D3} {r : Nat} (h : x.1 ≠ (r : Int)) : mkr (L ++ [x]) r = mkr L r := by
  unfold mkr
  rw [List.find?_append]
  have : List.find? (fun x : D3 => decide (x.1 = (r : Int))) [x] = none := by simp [h]
  rw [this]
  cases List.find? (fun x : D3 => decide (x.1 = (r : Int))) L <;> rfl
theorem cntD_ne {L : List D3} {x : D3} {r : Nat} (h : x.1 ≠ (r : Int)) : cntD (L ++ [x]) r = cntD L r := by
  unfold cntD
  rw [List.countP_append]
  simp [h]
theorem cntD_eq {L : List D3} {x : D3} {r : Nat} (h : x.1 = (r : Int)) : cntD (L ++ [x]) r = cntD L r + 1 := by
  unfold cntD
  rw [List.countP_append]
  simp [h]
theorem cntD_zero {L : List D3} {r : Nat} (h : cntD L r = 0) : L.find? (fun x => decide (x.1 = (r : Int))) = none := by
  unfold cntD at h
  rw [List.countP_eq_zero] at h
  exact List.find?_eq_none.2 h
theorem cntD_pos {L : List D3} {r : Nat} (h : cntD L r ≠ 0) : ∃ x, L.find? (fun x => decide (x.1 = (r : Int))) = some x ∧ x ∈ L ∧ x.1 = (r : Int) := by
  cases hf : L.find? (fun x => decide (x.1 = (r : Int))) with
  | none => exact absurd (List.countP_eq_zero.2 (List.find?_eq_none.1 hf)) h
  | some x => exact ⟨x, rfl, List.mem_of_find?_eq_some hf, by simpa using List.find?_some hf⟩
theorem mkr_new {L : List D3} {x : D3} {r : Nat} (h : x.1 = (r : Int)) (h0 : cntD L r = 0) : mkr (L ++ [x]) r = ⟨x.2.1, x.2.2⟩ := by
  unfold mkr
  rw [List.find?_append, cntD_zero h0]
  simp [h]
theorem mkr_old {L : List D3} {x : D3} {r : Nat} (h0 : cntD L r ≠ 0) : mkr (L ++ [x]) r = mkr L r := by
  obtain ⟨y, hy, _⟩ := cntD_pos h0
  unfold mkr
  rw [List.find?_append, hy]; rfl
theorem cntD_le (L : List D3) (r : Nat) : cntD L r ≤ L.length := List.countP_le_length
theorem mks_set {n k : Nat} {L : List D3} {x : D3} (hk : x.1 = (k : Int)) : (if cntD L k = 0 then (mks n L).set k ⟨x.2.1, x.2.2⟩ else mks n L) = mks n (L ++ [x]) := by
  apply List.ext_getElem (by split <;> simp [mks])
  intro j h1 h2
  have hj : j < n := by simpa [mks] using h2
  by_cases e : j = k
  · subst e
    by_cases h0 : cntD L j = 0
    · simp only [h0, if_true, List.getElem_set_self]
      simp [mks, mkr_new hk h0]
    · simp only [h0, if_false]
      simp [mks, mkr_old h0]
  · have hne : x.1 ≠ (j : Int) := by rw [hk]; omega
    by_cases h0 : cntD L k = 0
    · simp only [h0, if_true, List.getElem_set_ne (Ne.symm e)]
      simp [mks, mkr_ne hne]
    · simp only [h0, if_false]
      simp [mks, mkr_ne hne]
theorem mns_set {n k : Nat} {L : List D3} {x : D3} (hk : x.1 = (k : Int)) : (mns n L).set k (((cntD L k + 1 : Nat) : Int)) = mns n (L ++ [x]) := by
  apply List.ext_getElem (by simp [mns])
  intro j h1 h2
  have hj : j < n := by simpa [mns] using h2
  by_cases e : j = k
  · subst e
    rw [List.getElem_set_self]
    simp [mns, cntD_eq hk]
  · have hne : x.1 ≠ (j : Int) := by rw [hk]; omega
    rw [List.getElem_set_ne (Ne.symm e)]
    simp [mns, cntD_ne hne]
theorem made1_eq {n : Nat} (L : List D3) (d b a : Int) (hL : L.length ≤ 1000000) : proper_made_1 d b a (mks n L) (mns n L) = some (mks n (L ++ [(d, b, a)]), mns n (L ++ [(d, b, a)])) := by
  unfold proper_made_1
  by_cases hr : d < 0 ∨ d ≥ len (mks n L)
  · rw [if_pos hr]
    simp only [len, mks_len] at hr
    congr 2
    · unfold mks; exact List.map_congr_left fun r hr' => (mkr_ne (by have := List.mem_range.1 hr'; simp only; omega)).symm
    · unfold mns; exact List.map_congr_left fun r hr' => by rw [cntD_ne (by have := List.mem_range.1 hr'; simp only; omega)]
  · rw [if_neg hr]
    simp only [len, mks_len, not_or] at hr
    obtain ⟨k, rfl⟩ : ∃ k : Nat, d = k := ⟨d.toNat, by omega⟩
    have hk : k < n := by omega
    have hc := cntD_le L k
    have hw : w64 (((cntD L k : Nat) : Int) + 1) = ((cntD L k + 1 : Nat) : Int) := w64_succ (by omega)
    have h1 := mks_set (n := n) (L := L) (x := ((k : Int), b, a)) rfl
    have h2 := mns_set (n := n) (L := L) (x := ((k : Int), b, a)) rfl
    simp only [mns_idx L hk, mks_idx L hk, Option.bind_some]
    by_cases h0 : cntD L k = 0
    · rw [if_pos h0] at h1
      rw [if_pos (by omega)]
      simp only [proper_made_1.jn12, mns_idx L hk, Option.bind_some, hw, Int.toNat_natCast, h1, h2]
    · rw [if_neg h0] at h1
      rw [if_neg (by omega)]
      simp only [proper_made_1.jn12, mns_idx L hk, Option.bind_some, hw, Int.toNat_natCast, ← h1, h2]
def defsP (i : Nat) (B : PBlock) : List D3 := B.phis.map fun p => (p.dst, (i : Int), -1)
def defsI (i : Nat) (B : PBlock) : List D3 := B.ins.zipIdx.map fun x => (x.1.dst, (i : Int), ((x.2 : Nat) : Int))
def defsB (i : Nat) (B : PBlock) : List D3 := defsP i B ++ defsI i B
/-- What a function's blocks make, up to one. -/
def defsTo (f : PFunc) (n : Nat) : List D3 := (f.blocks.take n).zipIdx.flatMap fun x => defsB x.2 x.1
def defs (f : PFunc) : List D3 := f.blocks.zipIdx.flatMap fun x => defsB x.2 x.1
theorem defsTo_succ (f : PFunc) {i : Nat} (hi : i < f.blocks.length) : defsTo f (i + 1) = defsTo f i ++ defsB i f.blocks[i] := by
  unfold defsTo
  rw [List.take_succ_eq_append_getElem hi, List.zipIdx_append, List.flatMap_append]
  simp [List.length_take, Nat.min_eq_left (Nat.le_of_lt hi)]
theorem defsTo_all (f : PFunc) : defsTo f f.blocks.length = defs f := by unfold defsTo defs; rw [List.take_length]
theorem defsB_length {i : Nat} {B : PBlock} (h : SmB B) : (defsB i B).length ≤ 600 := by
  have := h.1; have := h.2.1
  simp [defsB, defsP, defsI]; omega
theorem defsTo_length (f : PFunc) (hf : SmF f) : ∀ i, i ≤ f.blocks.length → (defsTo f i).length ≤ i * 600
  | 0, _ => by simp [defsTo]
  | i + 1, hi => by
    have h1 := defsTo_length f hf i (by omega)
    rw [defsTo_succ f (by omega), List.length_append]
    have := defsB_length (i := i) (hf.2.2.2 _ (List.getElem_mem (show i < f.blocks.length by omega)))
    omega
theorem mks_nil (n : Nat) : mks n [] = List.replicate n ⟨-1, -2⟩ := by
  unfold mks
  apply List.ext_getElem (by simp)
  intro j h1 h2
  simp [mkr]
theorem mns_nil (n : Nat) : mns n [] = List.replicate n 0 := by
  unfold mns
  apply List.ext_getElem (by simp)
  intro j h1 h2
  simp [cntD]
theorem mkl_le {α : Type} {n : Nat} (z : α) (hn : n ≤ 1000) : mkl (n : Int) z = some (List.replicate n z) := by
  have h1 : n < LIM := by simp only [LIM]; omega
  simp [mkl, h1]
theorem none_all (l : List PMaker) (h : l.length ≤ 1000) : whl (fun (s : (List PMaker × Int)) => proper_made.bd12 l s.1 s.2) FUEL (l, 0) = some (List.replicate l.length ⟨-1, -2⟩) := by
  have hrun := whl_run (body := fun (s : List PMaker × Int) => proper_made.bd12 l s.1 s.2) (r := List.replicate l.length (⟨-1, -2⟩ : PMaker)) l.length FUEL (fun i => (List.replicate i (⟨-1, -2⟩ : PMaker) ++ l.drop i, (i : Int))) (fun i hi => by
    have hl : i < (List.replicate i (⟨-1, -2⟩ : PMaker) ++ l.drop i).length := by simp; omega
    simp only [proper_made.bd12, len_lt, hi, if_true, idx_lt hl, Option.bind_some, Int.toNat_natCast, w64_i hi (show l.length ≤ 1000 by omega)]
    congr 3
    rw [List.set_append_right _ _ (by simp)]
    simp only [List.length_replicate, Nat.sub_self]
    rw [List.drop_eq_getElem_cons hi, List.set_cons_zero, List.replicate_succ', List.append_assoc]; rfl) (by simp [proper_made.bd12, len]) (lt_FUEL (le_max h (by omega)))
  simpa using hrun
theorem made_eq (f : PFunc) (hf : SmF f) : proper_made f = some (mks f.regs.length (defs f), mns f.regs.length (defs f)) := by
  have hn := hf.1
  have hr := hf.2.1
  unfold proper_made
  simp only [len, mkl_le (n := f.regs.length) _ (show f.regs.length ≤ 1000 by omega), Option.bind_some]
  unfold proper_made.jn4
  have h0 := none_all (List.replicate f.regs.length PMaker.zero) (by simpa using (show f.regs.length ≤ 1000 by omega))
  rw [List.length_replicate] at h0
  rw [h0]
  simp only [Option.bind_some, proper_made.nx12]
  have hrun := whl_run (body := fun (s : (List PMaker × List Int × Int)) => proper_made.bd21 f s.1 s.2.1 s.2.2) (r := (mks f.regs.length (defs f), mns f.regs.length (defs f))) f.blocks.length FUEL
    (fun i => (mks f.regs.length (defsTo f i), mns f.regs.length (defsTo f i), (i : Int))) (fun i hi => by
      have hB := hf.2.2.2 _ (List.getElem_mem hi)
      obtain ⟨b1, b2, _⟩ := id hB
      have hL := defsTo_length f hf i (by omega)
      simp only [proper_made.bd21, len_lt, hi, if_true, idx_lt hi, Option.bind_some]
      have hp := whl_run (body := fun (s : (List PMaker × List Int × Int)) => proper_made.bd40 (i : Int) f.blocks[i] s.1 s.2.1 s.2.2) (r := (mks f.regs.length (defsTo f i ++ defsP i f.blocks[i]), mns f.regs.length (defsTo f i ++ defsP i f.blocks[i]))) f.blocks[i].phis.length FUEL
        (fun k => (mks f.regs.length (defsTo f i ++ (defsP i f.blocks[i]).take k), mns f.regs.length (defsTo f i ++ (defsP i f.blocks[i]).take k), (k : Int))) (fun k hk => by
          have hk' : k < (defsP i f.blocks[i]).length := by simpa [defsP] using hk
          simp only [proper_made.bd40, len_lt, hk, if_true, idx_lt hk, Option.bind_some]
          rw [made1_eq _ _ _ _ (by simp only [List.length_append, List.length_take]; omega)]
          simp only [Option.bind_some, w64_i hk (show f.blocks[i].phis.length ≤ 1000 by omega)]
          rw [List.take_succ_eq_append_getElem hk', List.append_assoc]
          simp [defsP]) (by simp [proper_made.bd40, len, List.take_of_length_le, defsP]) (lt_FUEL (le_max b2 (by omega)))
      simp only [List.take_zero, List.append_nil] at hp
      have hz : (((0 : Nat) : Int)) = 0 := rfl
      rw [hz] at hp
      rw [hp]
      simp only [Option.bind_some, proper_made.nx40]
      have hq := whl_run (body := fun (s : (List PMaker × List Int × Int)) => proper_made.bd47 (i : Int) f.blocks[i] s.1 s.2.1 s.2.2) (r := (mks f.regs.length (defsTo f (i + 1)), mns f.regs.length (defsTo f (i + 1)))) f.blocks[i].ins.length FUEL
        (fun k => (mks f.regs.length ((defsTo f i ++ defsP i f.blocks[i]) ++ (defsI i f.blocks[i]).take k), mns f.regs.length ((defsTo f i ++ defsP i f.blocks[i]) ++ (defsI i f.blocks[i]).take k), (k : Int))) (fun k hk => by
          have hk' : k < (defsI i f.blocks[i]).length := by simpa [defsI] using hk
          have hpl : (defsP i f.blocks[i]).length ≤ 300 := by simpa [defsP] using b2
          simp only [proper_made.bd47, len_lt, hk, if_true, idx_lt hk, Option.bind_some]
          rw [made1_eq _ _ _ _ (by simp only [List.length_append, List.length_take]; omega)]
          simp only [Option.bind_some, w64_i hk (show f.blocks[i].ins.length ≤ 1000 by omega)]
          rw [List.take_succ_eq_append_getElem hk', ← List.append_assoc]
          simp [defsI]) (by
            have : f.blocks[i].ins.length = (defsI i f.blocks[i]).length := by simp [defsI]
            simp only [proper_made.bd47, len]
            rw [if_neg (by omega), this, List.take_length, defsTo_succ f hi, defsB, List.append_assoc]) (lt_FUEL (le_max b1 (by omega)))
      simp only [List.take_zero, List.append_nil] at hq
      rw [hz] at hq
      rw [hq]
      simp only [Option.bind_some, proper_made.nx47, w64_i hi (show f.blocks.length ≤ 1000 by omega)]) (by
        simp only [proper_made.bd21, len]
        rw [if_neg (by omega), defsTo_all]) (lt_FUEL (le_max hn (by omega)))
  have hd0 : defsTo f 0 = [] := by simp [defsTo]
  rw [hd0, mks_nil, mns_nil] at hrun
  have hz : (((0 : Nat) : Int)) = 0 := rfl
  rw [hz] at hrun
  rw [hrun]; rfl
/-- A maker is in a block that is there. -/
theorem defs_mem (f : PFunc) {x : D3} (h : x ∈ defs f) : ∃ i : Nat, x.2.1 = (i : Int) ∧ i < f.blocks.length := by
  unfold defs at h
  obtain ⟨⟨B, i⟩, h1, h2⟩ := List.mem_flatMap.1 h
  have hi : i < f.blocks.length := by
    have := List.snd_lt_of_mem_zipIdx h1
    simpa using this
  refine ⟨i, ?_, hi⟩
  unfold defsB defsP defsI at h2
  rcases List.mem_append.1 h2 with h3 | h3
  · obtain ⟨p, _, rfl⟩ := List.mem_map.1 h3; rfl
  · obtain ⟨p, _, rfl⟩ := List.mem_map.1 h3; rfl
theorem mkr_block (f : PFunc) (r : Nat) : (mkr (defs f) r).block = -1 ∨ ∃ i : Nat, (mkr (defs f) r).block = (i : Int) ∧ i < f.blocks.length := by
  by_cases h : cntD (defs f) r = 0
  · left; unfold mkr; rw [cntD_zero h]
  · obtain ⟨x, h1, h2, _⟩ := cntD_pos h
    right
    obtain ⟨i, h3, h4⟩ := defs_mem f h2
    refine ⟨i, ?_, h4⟩
    unfold mkr; rw [h1]; exact h3
end Go.Proofs.YteaknconpkklhaaDoor
set_option linter.unusedVariables false
set_option linter.unusedSimpArgs false
namespace Go.Proofs.YteaknconpkklhaaDoor
open Go Go.Proofs
theorem whl_fold {α σ : Type} (L : List α) (g : σ → α → σ) (s0 : σ) {body : σ × Int → Option (Ex σ (σ × Int))} (hl : L.length ≤ 1000)
    (h : ∀ k (hk : k < L.length) s, body (s, (k : Int)) = some (.go (g s L[k], ((k + 1 : Nat) : Int)))) (he : ∀ s, body (s, (L.length : Int)) = some (.ret s)) : whl body FUEL (s0, 0) = some (L.foldl g s0) := by
  have hrun := whl_run (body := body) (r := L.foldl g s0) L.length FUEL (fun k => ((L.take k).foldl g s0, (k : Int))) (fun k hk => by
    rw [h k hk, foldl_take g s0 L hk]) (by rw [he, List.take_length]) (lt_FUEL (le_max hl (by omega)))
  exact hrun
/-- What the table holds of two blocks. -/
def ovT (T : List (List Bool)) (a b : Int) : Bool := (T.getD a.toNat []).getD b.toNat false
theorem Dim.ovT {n k : Nat} {T : List (List Bool)} (h : Dim n k T) {a b : Int} (a0 : 0 ≤ a) (a1 : a < (n : Int)) (b0 : 0 ≤ b) (b1 : b < (k : Int)) : ∃ row, idx T a = some row ∧ idx row b = some (Go.Proofs.YteaknconpkklhaaDoor.ovT T a b) := by
  obtain ⟨row, r1, r2, r3⟩ := h.get a0 a1
  refine ⟨row, r1, ?_⟩
  obtain ⟨v, v1, v2⟩ := idx_in (xs := row) b0 (by omega)
  rw [v1]
  unfold Go.Proofs.YteaknconpkklhaaDoor.ovT
  simp [List.getD_eq_getElem?_getD, r2, v2]
/-- A use: the register, the block, the place; is it made ahead? -/
def okU (f : PFunc) (T : List (List Bool)) (u : D3) : Bool :=
  decide (u.1 < f.params) || (decide ((mkr (defs f) u.1.toNat).block ≥ 0) && ((decide (¬ (mkr (defs f) u.1.toNat).block = u.2.1) && ovT T (mkr (defs f) u.1.toNat).block u.2.1) || (decide ((mkr (defs f) u.1.toNat).block = u.2.1) && decide ((mkr (defs f) u.1.toNat).at_ < u.2.2))))
def lowS (f : PFunc) (T : List (List Bool)) (low : Int) (u : D3) : Int := if okU f T u = false ∧ (low < 0 ∨ u.1 < low) then u.1 else low
theorem use_eq (l : PProperLooker) (hm : l.makers = mks l.f.regs.length (defs l.f)) (hT : Dim l.f.blocks.length l.f.blocks.length l.over) (low r b a : Int) (hr : hasR l.f r) (hb0 : 0 ≤ b) (hb1 : b < (l.f.blocks.length : Int)) :
    proper_looker_use (⟨(⟨l.f.params, l.f.result, l.f.regs, l.f.blocks⟩ : PFunc), l.makers, l.over, low⟩ : PProperLooker) r b a = some (lowS l.f l.over low (r, b, a)) := by
  obtain ⟨k, rfl⟩ : ∃ k : Nat, r = k := ⟨r.toNat, by have := hr.1; omega⟩
  have hk : k < l.f.regs.length := by have := hr.2; omega
  unfold proper_looker_use
  simp only [hm, mks_idx _ hk, Option.bind_some]
  have key : (if (k : Int) < l.f.params then some true else (if (mkr (defs l.f) k).block ≥ 0 then (if ¬ (mkr (defs l.f) k).block = b then (idx l.over (mkr (defs l.f) k).block).bind fun x25 =>
      (idx x25 b).bind fun x33 => some x33 else some false).bind fun t24 => some (decide (t24 = true ∨ ((mkr (defs l.f) k).block = b ∧ (mkr (defs l.f) k).at_ < a))) else some false).bind fun t23 => some t23) = some (okU l.f l.over ((k : Int), b, a)) := by
    unfold okU
    simp only [Int.toNat_natCast]
    by_cases h1 : (k : Int) < l.f.params
    · rw [if_pos h1]; simp [h1]
    rw [if_neg h1]
    rcases mkr_block l.f k with h2 | ⟨i, h2, h3⟩
    · rw [if_neg (by omega)]; simp [h1, h2]
    rw [if_pos (by omega)]
    obtain ⟨row, r1, r2⟩ := hT.ovT (a := (mkr (defs l.f) k).block) (b := b) (by omega) (by omega) hb0 hb1
    rw [r1]
    simp only [Option.bind_some, r2]
    by_cases h4 : (mkr (defs l.f) k).block = b
    · rw [if_neg (by simpa using h4)]
      simp [h1, h4, hb0]
    · rw [if_pos h4]
      have h0 : (mkr (defs l.f) k).block ≥ 0 := by omega
      simp [h1, h4, h0]
  rw [key]
  simp only [Option.bind_some, lowS]
  cases okU l.f l.over ((k : Int), b, a) <;> simp
  split <;> simp_all
def usesP (f : PFunc) (i : Nat) (B : PBlock) : List D3 := B.phis.flatMap fun p => p.args.zipIdx.map fun x => (x.1, (preds (nexts f) i).getD x.2 0, ((f.blocks.getD ((preds (nexts f) i).getD x.2 0).toNat PBlock.zero).ins.length : Int))
def usesI (i : Nat) (B : PBlock) : List D3 := B.ins.zipIdx.flatMap fun x => x.1.args.map fun a => (a, (i : Int), ((x.2 : Nat) : Int))
def usesT (i : Nat) (B : PBlock) : List D3 := if B.term.arg ≥ 0 then [(B.term.arg, (i : Int), (B.ins.length : Int))] else []
def usesB (f : PFunc) (i : Nat) (B : PBlock) : List D3 := usesP f i B ++ usesI i B ++ usesT i B
def uses (f : PFunc) : List D3 := f.blocks.zipIdx.flatMap fun x => usesB f x.2 x.1
theorem all_eq (l : PProperLooker) {m : PModule} (hf : SmF l.f) (hok : FuncOk m l.f) (hm : l.makers = mks l.f.regs.length (defs l.f)) (hT : Dim l.f.blocks.length l.f.blocks.length l.over) :
    proper_looker_all l = some ((uses l.f).foldl (lowS l.f l.over) l.lowest) := by
  have hn := hf.1
  unfold proper_looker_all
  rw [checkAhead_eq l.f hf]
  simp only [Option.bind_some]
  have hout := whl_fold l.f.blocks.zipIdx (fun (low : Int) (x : PBlock × Nat) => (usesB l.f x.2 x.1).foldl (lowS l.f l.over) low) l.lowest (body := fun (s : (Int × Int)) => proper_looker_all.bd10 l (aheads (nexts l.f)) s.1 s.2) (by simp; omega) (fun i hi low => by
    have hi : i < l.f.blocks.length := by simpa using hi
    have hB := hf.2.2.2 _ (List.getElem_mem hi)
    have hR := BlockOk_regs (hok.blocks _ (List.getElem_mem hi))
    obtain ⟨b1, b2, b3, b4, b5⟩ := id hB
    simp only [proper_looker_all.bd10, len_lt, hi, if_true, idx_lt hi, Option.bind_some]
    have hg : idx (aheads (nexts l.f)) (i : Int) = some (preds (nexts l.f) i) := by rw [idx_nat]; exact aheads_get _ _ (by rw [nexts_length]; exact hi)
    -- phis
    have hp := whl_fold l.f.blocks[i].phis (fun (low : Int) (p : PPhi) => (p.args.zipIdx.map fun x => (x.1, (preds (nexts l.f) i).getD x.2 0, ((l.f.blocks.getD ((preds (nexts l.f) i).getD x.2 0).toNat PBlock.zero).ins.length : Int))).foldl (lowS l.f l.over) low) low (body := fun (s : (Int × Int)) => proper_looker_all.bd29 l (aheads (nexts l.f)) (i : Int) l.f.blocks[i] s.1 s.2) (by omega) (fun k hk low => by
      have hpm := List.getElem_mem hk
      have hl := hok.ahead i hi _ hpm
      have h5 := b5 _ hpm
      simp only [proper_looker_all.bd29, len_lt, hk, if_true, idx_lt hk, Option.bind_some]
      have ha := whl_fold (l.f.blocks[i].phis[k].args.zipIdx.map fun x => (x.1, (preds (nexts l.f) i).getD x.2 0, ((l.f.blocks.getD ((preds (nexts l.f) i).getD x.2 0).toNat PBlock.zero).ins.length : Int))) (lowS l.f l.over) low (body := fun (s : (Int × Int)) => proper_looker_all.bd85 l (aheads (nexts l.f)) (i : Int) l.f.blocks[i].phis[k] s.1 s.2) (by simp; omega) (fun j hj low => by
        have hj : j < l.f.blocks[i].phis[k].args.length := by simpa using hj
        have hj2 : j < (preds (nexts l.f) i).length := by omega
        have hin := preds_in (nexts l.f) i _ (List.getElem_mem hj2)
        rw [nexts_length] at hin
        have hgd : (preds (nexts l.f) i).getD j 0 = (preds (nexts l.f) i)[j] := by rw [List.getD_eq_getElem?_getD, List.getElem?_eq_getElem hj2]; rfl
        obtain ⟨C, c1, c2⟩ := idx_in (xs := l.f.blocks) hin.1 hin.2
        have hu := use_eq l hm hT low l.f.blocks[i].phis[k].args[j] (preds (nexts l.f) i)[j] (len C.ins) (hR.pargs _ hpm _ (List.getElem_mem hj)) hin.1 hin.2
        simp only [proper_looker_all.bd85, len_lt, hj, if_true, idx_lt hj, Option.bind_some, hg, idx_lt hj2, c1, hu, w64_i hj (show l.f.blocks[i].phis[k].args.length ≤ 1000 by omega)]
        simp [hgd, List.getD_eq_getElem?_getD, c2, len, List.getElem?_eq_getElem hj2]) (fun s => by simp [proper_looker_all.bd85, len])
      rw [ha]
      simp only [Option.bind_some, proper_looker_all.nx85, w64_i hk (show l.f.blocks[i].phis.length ≤ 1000 by omega)]) (fun s => by simp [proper_looker_all.bd29, len])
    rw [hp]
    simp only [Option.bind_some, proper_looker_all.nx29]
    -- instructions
    generalize hlow : List.foldl _ low l.f.blocks[i].phis = lo1
    have hI := whl_fold l.f.blocks[i].ins.zipIdx (fun (low : Int) (x : PInstr × Nat) => (x.1.args.map fun a => (a, (i : Int), ((x.2 : Nat) : Int))).foldl (lowS l.f l.over) low) lo1 (body := fun (s : (Int × Int)) => proper_looker_all.bd38 l (i : Int) l.f.blocks[i] s.1 s.2) (by simp; omega) (fun k hk low => by
      have hk : k < l.f.blocks[i].ins.length := by simpa using hk
      have hxm := List.getElem_mem hk
      have h4 := b4 _ hxm
      simp only [proper_looker_all.bd38, len_lt, hk, if_true, idx_lt hk, Option.bind_some]
      have ha := whl_fold (l.f.blocks[i].ins[k].args.map fun a => (a, (i : Int), ((k : Nat) : Int))) (lowS l.f l.over) low (body := fun (s : (Int × Int)) => proper_looker_all.bd56 l (i : Int) (k : Int) l.f.blocks[i].ins[k] s.1 s.2) (by simp; omega) (fun j hj low => by
        have hj : j < l.f.blocks[i].ins[k].args.length := by simpa using hj
        have hu := use_eq l hm hT low l.f.blocks[i].ins[k].args[j] (i : Int) (k : Int) (hR.args _ hxm _ (List.getElem_mem hj)) (by omega) (by omega)
        simp only [proper_looker_all.bd56, len_lt, hj, if_true, idx_lt hj, Option.bind_some, hu, w64_i hj (show l.f.blocks[i].ins[k].args.length ≤ 1000 by omega)]
        simp) (fun s => by simp [proper_looker_all.bd56, len])
      rw [ha]
      simp only [Option.bind_some, proper_looker_all.nx56, w64_i hk (show l.f.blocks[i].ins.length ≤ 1000 by omega)]
      simp) (fun s => by simp [proper_looker_all.bd38, len])
    rw [hI]
    simp only [Option.bind_some, proper_looker_all.nx38]
    generalize hlow2 : List.foldl _ lo1 l.f.blocks[i].ins.zipIdx = lo2
    have hfin : (usesB l.f i l.f.blocks[i]).foldl (lowS l.f l.over) low = (usesT i l.f.blocks[i]).foldl (lowS l.f l.over) lo2 := by
      unfold usesB usesP usesI
      rw [List.foldl_append, List.foldl_append, List.foldl_flatMap, List.foldl_flatMap, hlow, hlow2]
    have hz : (l.f.blocks.zipIdx)[i]'(by simpa using hi) = (l.f.blocks[i], i) := by simp
    simp only [hz, hfin]
    by_cases ht : l.f.blocks[i].term.arg ≥ 0
    · rw [if_pos ht, use_eq l hm hT lo2 l.f.blocks[i].term.arg (i : Int) (len l.f.blocks[i].ins) ⟨ht, hR.arg⟩ (by omega) (by omega)]
      simp only [Option.bind_some, proper_looker_all.jn20, w64_i hi (show l.f.blocks.length ≤ 1000 by omega), usesT, if_pos ht]
      rfl
    · rw [if_neg ht]
      simp only [proper_looker_all.jn20, w64_i hi (show l.f.blocks.length ≤ 1000 by omega), usesT, if_neg ht]
      rfl) (fun s => by simp [proper_looker_all.bd10, len])
  rw [hout]
  simp only [Option.bind_some, proper_looker_all.nx10]
  unfold uses
  rw [List.foldl_flatMap]
end Go.Proofs.YteaknconpkklhaaDoor
set_option linter.unusedVariables false
set_option linter.unusedSimpArgs false
namespace Go.Proofs.YteaknconpkklhaaDoor
open Go Go.Proofs
/-- Made twice, or a parameter that is made. -/
def Twice (f : PFunc) (r : Nat) : Prop := cntD (defs f) r > 1 ∨ (cntD (defs f) r > 0 ∧ (r : Int) < f.params)
instance (f : PFunc) (r : Nat) : Decidable (Twice f r) := by unfold Twice; infer_instance
/-- What Form tells of a proper module's function. -/
inductive FormIs (f : PFunc) : GErr → Prop
  | shape {s : List Bool} {o : List Int} : Walked f s o → s ≠ List.replicate f.blocks.length true → FormIs f (.code 6)
  | twice {R : List Int} {r : Nat} : Full f R → r < f.regs.length → Twice f r → (∀ j, j < r → ¬ Twice f j) → FormIs f (.spot r (.code 7))
  | none {R : List Int} {T : List (List Bool)} : Full f R → (∀ r, r < f.regs.length → ¬ Twice f r) → dom_Dominates f = some T → Dim f.blocks.length f.blocks.length T → (uses f).foldl (lowS f T) (-1) ≥ 0 → FormIs f (.spot ((uses f).foldl (lowS f T) (-1)) (.code 4))
  | ok {R : List Int} {T : List (List Bool)} : Full f R → (∀ r, r < f.regs.length → ¬ Twice f r) → dom_Dominates f = some T → Dim f.blocks.length f.blocks.length T → (uses f).foldl (lowS f T) (-1) < 0 → FormIs f .no
theorem form_says (m : PModule) (hm : SmM m) (k : Nat) (hk : k < m.funcs.length) (hp : Proper m) : ∃ e, proper_Form m (k : Int) = some e ∧ FormIs m.funcs[k] e := by
  obtain ⟨e, he, hiff⟩ := module_says m hm
  have he0 : e = GErr.no := hiff.2 hp
  subst he0
  have hf := hm.2 _ (List.getElem_mem hk)
  have hok := hp.funcs _ (List.getElem_mem hk)
  unfold proper_Form
  rw [he]
  simp only [Option.bind_some, len]
  rw [if_neg (by simp), if_neg (by omega), idx_lt hk]
  simp only [Option.bind_some]
  generalize hff : m.funcs[k] = f at *
  obtain ⟨s, o, hw, -, hV⟩ := walked_any f hf
  have hn := hf.1
  have hpos : 0 < f.blocks.length := by have := hok.small.pos; omega
  rw [hw.rea]
  simp only [Option.bind_some]
  have hsl : s.length ≤ maxLen := le_max (show s.length ≤ 70 by rw [hw.len]; exact hn) (by omega)
  rcases scan0 s (fun i b => if b = true then none else some (GErr.code 6)) (fun s' => proper_Form.bd24 s s') hsl (fun i hi => by
    simp only [proper_Form.bd24, len_lt, hi, if_true, idx_lt hi, Option.bind_some, w64_at hi hsl]
    cases s[i] <;> simp) (by simp [proper_Form.bd24, len]) with ⟨i, hi, r, h1, -, h3⟩ | ⟨hall, h3⟩
  · rw [h3]
    by_cases hb : s[i] = true
    · rw [if_pos hb] at h1; cases h1
    · rw [if_neg hb] at h1; cases h1
      refine ⟨_, rfl, .shape hw fun e => hb ?_⟩
      subst e; simp
  rw [h3]
  simp only [Option.bind_some]
  have hs : s = List.replicate f.blocks.length true := by
    apply List.ext_getElem (by simp [hw.len])
    intro i h1 h2
    have := hall i h1
    by_cases hb : s[i] = true
    · simp [hb]
    · rw [if_neg hb] at this; cases this
  have hfull := full_of f hf hpos hw hs
  unfold proper_Form.nx24
  rw [made_eq f hf]
  simp only [Option.bind_some]
  have hmx : (List.range f.regs.length).length ≤ maxLen := le_max (show (List.range f.regs.length).length ≤ 300 by rw [List.length_range]; exact hf.2.1) (by omega)
  rcases scan0 (List.range f.regs.length) (fun i r => if Twice f r then some (GErr.spot (r : Int) (.code 7)) else none) (fun s' => proper_Form.bd35 f (mks f.regs.length (defs f), mns f.regs.length (defs f)) s') hmx (fun i hi => by
    have hi' : i < f.regs.length := by simpa using hi
    have hlm : ((i : Int) < len (mns f.regs.length (defs f))) := by simp only [len, mns_len]; omega
    simp only [proper_Form.bd35, hlm, if_true, mns_idx _ hi', Option.bind_some, List.getElem_range, w64_at hi hmx]
    by_cases hc : Twice f i
    · rw [if_pos hc, if_pos (by unfold Twice at hc; omega)]
    · rw [if_neg hc, if_neg (by unfold Twice at hc; omega)]) (by simp [proper_Form.bd35, len, mns_len]) with ⟨i, hi, r, h1, h2, h4⟩ | ⟨hall2, h4⟩
  · rw [h4]
    have hi' : i < f.regs.length := by simpa using hi
    simp only [List.getElem_range] at h1
    by_cases hc : Twice f i
    · rw [if_pos hc] at h1; cases h1
      refine ⟨_, rfl, .twice hfull hi' hc fun j hj hcj => ?_⟩
      have := h2 j (by simpa using (show j < f.regs.length by omega)) hj
      simp only [List.getElem_range] at this
      rw [if_pos hcj] at this; cases this
    · rw [if_neg hc] at h1; cases h1
  rw [h4]
  simp only [Option.bind_some]
  have hno : ∀ r, r < f.regs.length → ¬ Twice f r := fun r hr hc => by
    have := hall2 r (by simpa using hr)
    simp only [List.getElem_range] at this
    rw [if_pos hc] at this; cases this
  unfold proper_Form.nx35
  obtain ⟨N, L, hL, hN⟩ := nearest_ok hfull
  obtain ⟨T, hT, hD, -⟩ := dominates_ok hfull hL hN
  rw [hT]
  simp only [Option.bind_some]
  have hall3 := all_eq (⟨f, mks f.regs.length (defs f), T, -1⟩ : PProperLooker) (m := m) hf hok rfl hD
  have hall4 : proper_looker_all (⟨(⟨f.params, f.result, f.regs, f.blocks⟩ : PFunc), mks f.regs.length (defs f), T, -1⟩ : PProperLooker) = some ((uses f).foldl (lowS f T) (-1)) := hall3
  rw [hall4]
  simp only [Option.bind_some]
  by_cases hc : (uses f).foldl (lowS f T) (-1) ≥ 0
  · rw [if_pos hc]; exact ⟨_, rfl, .none hfull hno hT hD hc⟩
  · rw [if_neg hc]; exact ⟨_, rfl, .ok hfull hno hT hD (by omega)⟩
/-! ### The numbers of errors -/
def codeF : GErr → Int
  | .no => 0
  | .code c => if 1 ≤ c ∧ c ≤ 8 then c else -1
  | .spot _ _ => -1
theorem code_eq (e : GErr) : fettlelaw00_Code e = some (codeF e) := by
  unfold fettlelaw00_Code
  by_cases h0 : e = GErr.no
  · subst h0; rfl
  rw [if_neg h0]
  obtain ⟨r, hr, hR⟩ := whl_for (s0 := (1 : Int)) (body := fun (s : Int) => fettlelaw00_Code.bd11 e s) 8 (fun i s => s = (i : Int) + 1 ∧ ∀ j : Nat, j < i → e ≠ .code ((j : Int) + 1)) (fun r => (∃ j : Nat, j < 8 ∧ e = .code ((j : Int) + 1) ∧ r = .ret ((j : Int) + 1)) ∨ ((∀ j : Nat, j < 8 → e ≠ .code ((j : Int) + 1)) ∧ r = .go ())) (by simp only [maxLen]; omega)
    (fun i s hi hI => by
      obtain ⟨rfl, hI⟩ := hI
      simp only [fettlelaw00_Code.bd11]
      rw [if_pos (by omega)]
      by_cases hc : e = .code ((i : Int) + 1)
      · rw [if_pos hc]; exact .inl ⟨_, rfl, .inl ⟨i, hi, hc, rfl⟩⟩
      · rw [if_neg hc]
        refine .inr ⟨_, rfl, ?_, fun j hj => ?_⟩
        · rw [w64_id ⟨by omega, by omega⟩]; omega
        · rcases Nat.lt_succ_iff_lt_or_eq.1 hj with h1 | rfl
          · exact hI j h1
          · exact hc) (fun s hI => by
      obtain ⟨rfl, hI⟩ := hI
      exact ⟨_, by simp only [fettlelaw00_Code.bd11]; rw [if_neg (by omega)], .inr ⟨hI, rfl⟩⟩) ⟨by omega, fun j hj => by omega⟩
  rw [hr]
  rcases hR with ⟨j, hj, rfl, rfl⟩ | ⟨hall, rfl⟩
  · simp only [Option.bind_some, codeF]
    rw [if_pos (by omega)]
  · simp only [Option.bind_some, fettlelaw00_Code.nx11]
    cases e with
    | no => exact absurd rfl h0
    | spot a x => rfl
    | code c =>
      simp only [codeF]
      rw [if_neg]
      intro hc
      exact hall (c - 1).toNat (by omega) (by congr 1; omega)
def ofF : GErr → Int × Int
  | .spot a e => (codeF e, a)
  | e => (codeF e, -1)
theorem of_eq (e : GErr) : fettlelaw00_Of e = some (ofF e) := by
  cases e with
  | no => simp [fettlelaw00_Of, ofF, code_eq]
  | code c => simp [fettlelaw00_Of, ofF, code_eq]
  | spot a x => simp [fettlelaw00_Of, ofF, code_eq]
/-! ### What is handed in stays -/
theorem up13 : fettlelaw13_up = some true := by kernel_rfl
end Go.Proofs.YteaknconpkklhaaDoor
set_option linter.unusedVariables false
set_option linter.unusedSimpArgs false
namespace Go.Proofs.YteaknconpkklhaaDoor
open Go Go.Proofs
/-- An error's number as an error. -/
def gErr (c : Int) : GErr := if c = 0 then .no else .code c
theorem gErr_no {c : Int} : gErr c = .no ↔ c = 0 := by
  unfold gErr
  by_cases h : c = 0
  · simp [h]
  · rw [if_neg h]; simp [h]
open Classical in
/-- A register that isn't there comes ahead of a type that is amiss. -/
noncomputable def lv (p4 p3 : Prop) : Int := if p4 then 4 else if p3 then 3 else 0
theorem lv4 {p4 p3 : Prop} (h : p4) : lv p4 p3 = 4 := by unfold lv; rw [if_pos h]
theorem lv3 {p4 p3 : Prop} (h4 : ¬ p4) (h : p3) : lv p4 p3 = 3 := by unfold lv; rw [if_neg h4, if_pos h]
theorem lv0 {p4 p3 : Prop} (h4 : ¬ p4) (h : ¬ p3) : lv p4 p3 = 0 := by unfold lv; rw [if_neg h4, if_neg h]
theorem lv_congr {p4 p3 q4 q3 : Prop} (h4 : p4 ↔ q4) (h3 : ¬ q4 → (p3 ↔ q3)) : lv p4 p3 = lv q4 q3 := by
  by_cases h : q4
  · rw [lv4 h, lv4 (h4.2 h)]
  · have h' : ¬ p4 := fun k => h (h4.1 k)
    by_cases k : q3
    · rw [lv3 h k, lv3 h' ((h3 h).2 k)]
    · rw [lv0 h k, lv0 h' (fun j => k ((h3 h).1 j))]
theorem lv_range (p4 p3 : Prop) : lv p4 p3 = 0 ∨ lv p4 p3 = 3 ∨ lv p4 p3 = 4 := by
  unfold lv; split
  · simp
  · split <;> simp
theorem lv_zero {p4 p3 : Prop} : lv p4 p3 = 0 ↔ ¬ p4 ∧ ¬ p3 := by
  by_cases h : p4
  · rw [lv4 h]; simp [h]
  · by_cases k : p3
    · rw [lv3 h k]; simp [k]
    · rw [lv0 h k]; simp [h, k]
/-- The first that isn't 0. -/
def firstNZ (L : List Int) : Int := (L.find? (fun c => decide (c ≠ 0))).getD 0
theorem firstNZ_nil : firstNZ [] = 0 := rfl
theorem firstNZ_cons0 (L : List Int) : firstNZ (0 :: L) = firstNZ L := by simp [firstNZ]
theorem firstNZ_cons {c : Int} (L : List Int) (h : c ≠ 0) : firstNZ (c :: L) = c := by simp [firstNZ, h]
theorem firstNZ_mem (L : List Int) : firstNZ L = 0 ∨ firstNZ L ∈ L := by
  induction L with
  | nil => exact .inl rfl
  | cons c L ih =>
    by_cases h : c = 0
    · subst h; rw [firstNZ_cons0]; exact ih.imp id (List.mem_cons_of_mem _)
    · rw [firstNZ_cons _ h]; exact .inr List.mem_cons_self
theorem firstNZ_at {L : List Int} : ∀ {i : Nat} (hi : i < L.length), L[i] ≠ 0 → (∀ j (hj : j < L.length), j < i → L[j] = 0) → firstNZ L = L[i] := by
  induction L with
  | nil => intro i hi; simp at hi
  | cons c L ih =>
    intro i hi h1 h2
    cases i with
    | zero => exact firstNZ_cons _ h1
    | succ i =>
      have : c = 0 := h2 0 (by simp) (by omega)
      subst this
      rw [firstNZ_cons0, List.getElem_cons_succ]
      rw [List.getElem_cons_succ] at h1
      exact ih (by simpa using hi) h1 (fun j hj hji => by have := h2 (j + 1) (by simpa using hj) (by omega); rwa [List.getElem_cons_succ] at this)
theorem firstNZ_zero {L : List Int} : firstNZ L = 0 ↔ ∀ c ∈ L, c = 0 := by
  induction L with
  | nil => simp [firstNZ_nil]
  | cons c L ih =>
    by_cases h : c = 0
    · subst h; rw [firstNZ_cons0, ih]; simp
    · rw [firstNZ_cons _ h]; simp [h]
/-- A scan that tells the first number that isn't 0. -/
theorem scan_nz {ρ : Type} (L : List Int) (out : Int → ρ) (body : Int → Option (Ex (Ex ρ Unit) Int)) (hl : L.length ≤ maxLen)
    (h : ∀ i (hi : i < L.length), body (i : Int) = some (if L[i] = 0 then .go ((i + 1 : Nat) : Int) else .ret (.ret (out L[i])))) (he : body (L.length : Int) = some (.ret (.go ()))) :
    whl body FUEL 0 = some (if firstNZ L = 0 then .go () else .ret (out (firstNZ L))) := by
  rcases scan0 L (fun _ c => if c = 0 then none else some (out c)) body hl (fun i hi => by rw [h i hi]; split <;> rfl) he with ⟨i, hi, r, h1, h2, h3⟩ | ⟨h1, h2⟩
  · rw [h3]
    have hne : L[i] ≠ 0 := fun e => by rw [if_pos e] at h1; cases h1
    rw [if_neg hne] at h1
    have hf := firstNZ_at hi hne (fun j hj hji => Classical.byContradiction fun hc => by have := h2 j hj hji; rw [if_neg hc] at this; cases this)
    rw [hf, if_neg hne]
    cases h1; rfl
  · rw [h2]
    have hf : firstNZ L = 0 := firstNZ_zero.2 fun c hc => by
      obtain ⟨i, hi, rfl⟩ := List.getElem_of_mem hc
      exact Classical.byContradiction fun hc => by have := h1 i hi; rw [if_neg hc] at this; cases this
    rw [hf, if_pos rfl]
/-! ### The numbers -/
noncomputable def phiC (f : PFunc) (p : PPhi) : Int := lv (¬ hasR f p.dst ∨ ¬ ∀ a ∈ p.args, hasR f a) (¬ ∀ a ∈ p.args, idx f.regs a = idx f.regs p.dst)
noncomputable def insC (m : PModule) (f : PFunc) (x : PInstr) : Int := match arF m x with
  | none => if x.op = 17 then 4 else 6
  | some (n, t) => if (x.args.length : Int) ≠ n then 6 else lv ((¬ ∀ a ∈ x.args, hasR f a) ∨ (t ≠ 0 ∧ ¬ hasR f x.dst)) ((t = 0 ∧ x.dst ≠ -1) ∨ (x.op ≠ 1 ∧ x.imm ≠ 0) ∨ (x.op ≠ 17 ∧ x.fn ≠ 0) ∨ ¬ FitsOk m f x)
noncomputable def endC (f : PFunc) (t : PTerm) : Int := if t.kind = 1 ∨ (t.kind = 3 ∧ f.result = 0) then (if t.arg = -1 then 0 else 3) else lv (¬ hasR f t.arg) (¬ tyR f t.arg (if t.kind = 3 then f.result else 2))
noncomputable def blkC (m : PModule) (f : PFunc) (B : PBlock) : Int := firstNZ [firstNZ (B.phis.map (phiC f)), firstNZ (B.ins.map (insC m f)), endC f B.term]
open Classical in
noncomputable def funC (m : PModule) (f : PFunc) : Int :=
  if ¬ SmallOk f then 5 else if ¬ TypedOk f then 3 else if ¬ ∀ B ∈ f.blocks, EndsOk f B.term then 6 else
  if ¬ ∀ i (hi : i < f.blocks.length), ∀ p ∈ f.blocks[i].phis, p.args.length = (preds (nexts f) i).length then 6 else firstNZ (f.blocks.map (blkC m f))
theorem funC_5 {m : PModule} {f : PFunc} (h : ¬ SmallOk f) : funC m f = 5 := by unfold funC; rw [if_pos h]
theorem funC_3 {m : PModule} {f : PFunc} (h : SmallOk f) (h2 : ¬ TypedOk f) : funC m f = 3 := by unfold funC; rw [if_neg (fun k => k h), if_pos h2]
theorem funC_6 {m : PModule} {f : PFunc} (h : SmallOk f) (h2 : TypedOk f) (h3 : ¬ ∀ B ∈ f.blocks, EndsOk f B.term) : funC m f = 6 := by unfold funC; rw [if_neg (fun k => k h), if_neg (fun k => k h2), if_pos h3]
theorem funC_7 {m : PModule} {f : PFunc} (h : SmallOk f) (h2 : TypedOk f) (h3 : ∀ B ∈ f.blocks, EndsOk f B.term) (h4 : ¬ ∀ i (hi : i < f.blocks.length), ∀ p ∈ f.blocks[i].phis, p.args.length = (preds (nexts f) i).length) : funC m f = 6 := by
  unfold funC; rw [if_neg (fun k => k h), if_neg (fun k => k h2), if_neg (fun k => k h3), if_pos h4]
theorem funC_b {m : PModule} {f : PFunc} (h : SmallOk f) (h2 : TypedOk f) (h3 : ∀ B ∈ f.blocks, EndsOk f B.term) (h4 : ∀ i (hi : i < f.blocks.length), ∀ p ∈ f.blocks[i].phis, p.args.length = (preds (nexts f) i).length) : funC m f = firstNZ (f.blocks.map (blkC m f)) := by
  unfold funC; rw [if_neg (fun k => k h), if_neg (fun k => k h2), if_neg (fun k => k h3), if_neg (fun k => k h4)]
theorem phi_c (l : PLooker) (p : PPhi) (hl : p.args.length ≤ maxLen) : check_looker_phi l p = some (gErr (phiC l.f p)) := by
  unfold check_looker_phi phiC
  rw [has1]
  simp only [Option.bind_some]
  by_cases h1 : hasR l.f p.dst
  · rw [if_neg (by simp [h1]), has_eq l _ hl]
    simp only [Option.bind_some]
    by_cases h2 : ∀ a ∈ p.args, hasR l.f a
    · rw [decide_eq_true h2, if_neg (by simp)]
      obtain ⟨k, hk, hkl, hg⟩ := h1.get
      rw [hg]
      simp only [Option.bind_some]
      rw [are_eq l _ _ hl h2]
      simp only [Option.bind_some]
      by_cases h3 : ∀ r ∈ p.args, tyR l.f r l.f.regs[k]
      · rw [decide_eq_true h3, if_neg (by simp), lv0 (fun h => h.elim (fun h => h h1) (fun h => h h2)) (fun h => h fun a ha => h3 a ha)]; rfl
      · rw [decide_eq_false h3, if_pos (by simp), lv3 (fun h => h.elim (fun h => h h1) (fun h => h h2)) (fun h => h3 fun a ha => h a ha)]; rfl
    · rw [decide_eq_false h2, if_pos (by simp), lv4 (.inr h2)]; rfl
  · rw [if_pos (by simp [h1])]
    simp only [Option.bind_some, if_true]
    rw [lv4 (.inl h1)]; rfl
theorem arity_c (l : PLooker) (x : PInstr) : (∃ n t, arF l.m x = some (n, t) ∧ check_looker_arity l x = some (n, t, GErr.no)) ∨ (arF l.m x = none ∧ ∃ n t, check_looker_arity l x = some (n, t, GErr.code (if x.op = 17 then 4 else 6))) := by
  rcases arity_eq l x with h | ⟨h1, h2⟩
  · exact .inl h
  · refine .inr ⟨h1, 0, 0, ?_⟩
    unfold arF at h1
    unfold check_looker_arity arith_Args
    by_cases g1 : x.op = 2 ∨ x.op = 14
    · rw [if_pos g1] at h1; cases h1
    rw [if_neg g1] at h1 ⊢
    by_cases g2 : x.op ≥ 3 ∧ x.op ≤ 13
    · rw [if_pos g2] at h1; cases h1
    rw [if_neg g2] at h1 ⊢
    simp only [Option.bind_some, Bool.false_eq_true, if_false]
    by_cases g3 : x.op = 1
    · rw [if_pos g3] at h1; cases h1
    rw [if_neg g3] at h1 ⊢
    by_cases g4 : x.op = 15
    · rw [if_pos g4] at h1; cases h1
    rw [if_neg g4] at h1 ⊢
    by_cases g5 : x.op = 18
    · rw [if_pos g5] at h1; cases h1
    rw [if_neg g5] at h1 ⊢
    by_cases g6 : x.op = 16
    · rw [if_pos g6] at h1; cases h1
    rw [if_neg g6] at h1 ⊢
    by_cases g7 : x.op = 17
    · rw [if_pos g7] at h1
      rw [if_pos g7, if_pos g7, if_pos]
      by_cases g8 : x.fn < 0 ∨ x.fn ≥ len l.m.funcs
      · exact g8
      · simp only [not_or, len] at g8
        obtain ⟨k, hk⟩ : ∃ k : Nat, x.fn = k := ⟨x.fn.toNat, by omega⟩
        rw [hk, idx_lt (show k < l.m.funcs.length by omega)] at h1
        cases h1
    · rw [if_neg g7, if_neg g7]
theorem ins_c (l : PLooker) (x : PInstr) (hl : x.args.length ≤ 300) : check_looker_instr l x = some (gErr (insC l.m l.f x)) := by
  unfold check_looker_instr insC
  have hmx : x.args.length ≤ maxLen := le_max hl (by omega)
  rcases arity_c l x with ⟨n, t, ha, hc⟩ | ⟨ha, n, t, hc⟩
  · rw [hc, ha]
    simp only [Option.bind_some]
    rw [if_neg (by simp)]
    by_cases h1 : (x.args.length : Int) = n
    · rw [if_neg (by simp only [len]; omega), if_neg (show ¬ ((x.args.length : Int) ≠ n) by simpa using h1), has_eq l _ hmx]
      simp only [Option.bind_some]
      by_cases h2 : ∀ r ∈ x.args, hasR l.f r
      · rw [decide_eq_true h2, if_neg (by simp)]
        have hmid : (if ¬ (t = 0) then (check_looker_has l ([x.dst])).bind fun x31 => some (!x31) else some false) = some (decide (t ≠ 0 ∧ ¬ hasR l.f x.dst)) := by
          by_cases h3 : t = 0
          · rw [if_neg (by simpa using h3)]; simp [h3]
          · rw [if_pos h3, has1]; simp [h3]
        rw [hmid]
        simp only [Option.bind_some]
        by_cases h3 : t ≠ 0 ∧ ¬ hasR l.f x.dst
        · rw [decide_eq_true h3, if_pos rfl, lv4 (.inr h3)]; rfl
        · rw [decide_eq_false h3, if_neg (by simp)]
          have hn4 : ¬ ((¬ ∀ a ∈ x.args, hasR l.f a) ∨ (t ≠ 0 ∧ ¬ hasR l.f x.dst)) := fun h => h.elim (fun h => h h2) h3
          by_cases h4 : ((t = 0 ∧ ¬ x.dst = -1) ∨ (¬ x.op = 1 ∧ ¬ x.imm = 0)) ∨ (¬ x.op = 17 ∧ ¬ x.fn = 0)
          · rw [if_pos h4]
            simp only [Option.bind_some, if_true]
            rw [lv3 hn4 (by rcases h4 with (h4 | h4) | h4; (· exact .inl h4); (· exact .inr (.inl h4)); (· exact .inr (.inr (.inl h4))))]; rfl
          · rw [if_neg h4]
            obtain ⟨b, hb1, hb2⟩ := fits_eq l x n t hl ha h1 h2 (fun h => Classical.byContradiction fun hd => h3 ⟨h, hd⟩)
            rw [hb1]
            simp only [Option.bind_some]
            cases b with
            | true =>
              simp only [Bool.not_true, Bool.false_eq_true, if_false]
              rw [lv0 hn4 (by
                rintro (h | h | h | h)
                · exact h4 (.inl (.inl h))
                · exact h4 (.inl (.inr h))
                · exact h4 (.inr h)
                · exact h (hb2.1 rfl))]; rfl
            | false =>
              simp only [Bool.not_false, if_true]
              rw [lv3 hn4 (.inr (.inr (.inr fun h => by simpa using hb2.2 h)))]; rfl
      · rw [decide_eq_false h2]
        simp only [Bool.not_false, if_true, Option.bind_some]
        rw [lv4 (.inl h2)]; rfl
    · rw [if_pos (by simp only [len]; omega), if_pos (show (x.args.length : Int) ≠ n from h1)]; rfl
  · rw [hc, ha]
    simp only [Option.bind_some]
    rw [if_pos (by simp)]
    split <;> rfl
theorem end_c (l : PLooker) (t : PTerm) : check_looker_end l t = some (gErr (endC l.f t)) := by
  unfold check_looker_end endC
  by_cases h1 : t.kind = 1 ∨ (t.kind = 3 ∧ l.f.result = 0)
  · rw [if_pos h1, if_pos h1]
    by_cases h2 : t.arg = -1
    · rw [if_neg (by simpa using h2), if_pos h2]; rfl
    · rw [if_pos h2, if_neg h2]; rfl
  rw [if_neg h1, if_neg h1]
  have hj : (if t.kind = 3 then check_looker_end.jn15 l t l.f.result else check_looker_end.jn15 l t 2) = check_looker_end.jn15 l t (if t.kind = 3 then l.f.result else 2) := by split <;> rfl
  rw [hj]
  generalize (if t.kind = 3 then l.f.result else 2) = w
  unfold check_looker_end.jn15
  rw [has1]
  simp only [Option.bind_some]
  by_cases h2 : hasR l.f t.arg
  · rw [decide_eq_true h2, if_neg (by simp), are1 l _ _ h2]
    simp only [Option.bind_some]
    by_cases h3 : tyR l.f t.arg w
    · rw [decide_eq_true h3, if_neg (by simp), lv0 (by simpa using h2) (by simpa using h3)]; rfl
    · rw [decide_eq_false h3, if_pos (by simp), lv3 (by simpa using h2) h3]; rfl
  · rw [decide_eq_false h2, if_pos (by simp), lv4 h2]; rfl
theorem gErr_step {c : Int} {ρ σ : Type} (s : σ) (out : GErr → ρ) : (if ¬ gErr c = GErr.no then some (Ex.ret (Ex.ret (out (gErr c)) : Ex ρ Unit)) else some (Ex.go s) : Option (Ex (Ex ρ Unit) σ)) = some (if c = 0 then .go s else .ret (.ret (out (gErr c)))) := by
  by_cases h : c = 0
  · rw [if_pos h, if_neg (by simp [gErr_no, h])]
  · rw [if_neg h, if_pos (by simp [gErr_no, h])]
theorem blk_c (l : PLooker) (B : PBlock) (hB : SmB B) : check_looker_block l B = some (gErr (blkC l.m l.f B)) := by
  obtain ⟨b1, b2, b3, b4, b5⟩ := hB
  unfold check_looker_block blkC
  have h1 := scan_nz (B.phis.map (phiC l.f)) gErr (fun s => check_looker_block.bd8 l B s) (le_max (show (B.phis.map (phiC l.f)).length ≤ 300 by simpa using b2) (by omega)) (fun i hi => by
    have hi : i < B.phis.length := by simpa using hi
    simp only [check_looker_block.bd8, len_lt, hi, if_true, idx_lt hi, Option.bind_some, phi_c l B.phis[i] (le_max (b5 _ (List.getElem_mem hi)) (by omega)), w64_i hi (show B.phis.length ≤ 1000 by omega)]
    rw [gErr_step (out := fun x => x)]; simp) (by simp [check_looker_block.bd8, len])
  rw [h1]
  by_cases hz : firstNZ (B.phis.map (phiC l.f)) = 0
  · rw [if_pos hz, hz, firstNZ_cons0]
    simp only [Option.bind_some, check_looker_block.nx8]
    have h2 := scan_nz (B.ins.map (insC l.m l.f)) gErr (fun s => check_looker_block.bd17 l B s) (le_max (show (B.ins.map (insC l.m l.f)).length ≤ 300 by simpa using b1) (by omega)) (fun i hi => by
      have hi : i < B.ins.length := by simpa using hi
      simp only [check_looker_block.bd17, len_lt, hi, if_true, idx_lt hi, Option.bind_some, ins_c l B.ins[i] (b4 _ (List.getElem_mem hi)), w64_i hi (show B.ins.length ≤ 1000 by omega)]
      rw [gErr_step (out := fun x => x)]; simp) (by simp [check_looker_block.bd17, len])
    rw [h2]
    by_cases hy : firstNZ (B.ins.map (insC l.m l.f)) = 0
    · rw [if_pos hy, hy, firstNZ_cons0]
      simp only [Option.bind_some, check_looker_block.nx17, end_c]
      by_cases he : endC l.f B.term = 0
      · rw [he]; rfl
      · rw [firstNZ_cons _ he]
    · rw [if_neg hy, firstNZ_cons _ hy]; rfl
  · rw [if_neg hz, firstNZ_cons _ hz]; rfl
theorem func_c (m : PModule) (k : Nat) (hk : k < m.funcs.length) (hf : SmF m.funcs[k]) : check_Func m (k : Int) = some (gErr (funC m m.funcs[k])) := by
  obtain ⟨hn, hr, hp, hB⟩ := id hf
  unfold check_Func
  rw [if_neg (by simp only [len]; omega), idx_lt hk]
  simp only [Option.bind_some]
  generalize m.funcs[k] = f at *
  obtain ⟨b, hb1, hb2⟩ := small_eq f hf
  rw [hb1]
  simp only [Option.bind_some]
  cases b with
  | false => rw [funC_5 (fun h => by simpa using hb2.2 h)]; rfl
  | true =>
    have hS := hb2.1 rfl
    simp only [Bool.not_true, Bool.false_eq_true, if_false]
    obtain ⟨c, hc1, hc2⟩ := typed_eq f hf
    rw [hc1]
    simp only [Option.bind_some]
    cases c with
    | false => rw [funC_3 hS (fun h => by simpa using hc2.2 h)]; rfl
    | true =>
      have hTy := hc2.1 rfl
      simp only [Bool.not_true, Bool.false_eq_true, if_false]
      rcases scan_or f.blocks (le_max hn (by omega)) (fun (B : PBlock) => EndsOk f B.term) (fun e : GErr => e = .code 6) (fun s => check_Func.bd29 f s) (fun i hi => by
        obtain ⟨d, hd1, hd2⟩ := ends_eq f f.blocks[i].term (hB _ (List.getElem_mem hi)).2.2.1
        simp only [check_Func.bd29, len_lt, hi, if_true, idx_lt hi, Option.bind_some, hd1, w64_i hi (show f.blocks.length ≤ 1000 by omega)]
        cases d with
        | false => exact .inl ⟨_, by simp, rfl, fun h => by simpa using hd2.2 h⟩
        | true => exact .inr ⟨by simp, hd2.1 rfl⟩) (by simp [check_Func.bd29, len]) with ⟨e, hw, he, hnot⟩ | ⟨hw, hends⟩
      · rw [hw, he, funC_6 hS hTy hnot]; rfl
      rw [hw]
      simp only [Option.bind_some, check_Func.nx29, checkAhead_eq f hf]
      have hal : (aheads (nexts f)).length = f.blocks.length := by rw [aheads_length, nexts_length]
      rcases scan_ix (aheads (nexts f)).length (le_max (show (aheads (nexts f)).length ≤ 70 by omega) (by omega)) (fun i => ∀ hi : i < f.blocks.length, ∀ p ∈ f.blocks[i].phis, p.args.length = (preds (nexts f) i).length) (fun e : GErr => e = .code 6) (fun s => check_Func.bd40 f (aheads (nexts f)) s) (fun i hi => by
        have hi' : i < f.blocks.length := by omega
        have hg : idx (aheads (nexts f)) (i : Int) = some (preds (nexts f) i) := by rw [idx_nat]; exact aheads_get _ _ (by rw [nexts_length]; exact hi')
        obtain ⟨b1, b2, b3, b4, b5⟩ := hB _ (List.getElem_mem hi')
        simp only [check_Func.bd40, len_lt, hi, if_true, hg, idx_lt hi', Option.bind_some]
        rcases scan_or f.blocks[i].phis (le_max b2 (by omega)) (fun p => p.args.length = (preds (nexts f) i).length) (fun e : GErr => e = .code 6) (fun s => check_Func.bd78 (preds (nexts f) i) f.blocks[i] s) (fun j hj => by
          simp only [check_Func.bd78, len_lt, hj, if_true, idx_lt hj, Option.bind_some, w64_i hj (show f.blocks[i].phis.length ≤ 1000 by omega)]
          by_cases hc : f.blocks[i].phis[j].args.length = (preds (nexts f) i).length
          · exact .inr ⟨by rw [if_neg (by simp only [len]; omega)], hc⟩
          · exact .inl ⟨_, by rw [if_pos (by simp only [len]; omega)], rfl, hc⟩) (by simp [check_Func.bd78, len]) with ⟨e, hw2, he, hnot⟩ | ⟨hw2, hall⟩
        · rw [hw2]; exact .inl ⟨e, rfl, he, fun h => hnot (h hi')⟩
        · rw [hw2]; exact .inr ⟨by simp only [Option.bind_some, check_Func.nx78, w64_i hi (show (aheads (nexts f)).length ≤ 1000 by omega)], fun _ => hall⟩) (by simp [check_Func.bd40, len]) with ⟨e, hw2, he, hnot⟩ | ⟨hw2, hah⟩
      · rw [hw2, he, funC_7 hS hTy hends (fun h => hnot fun i _ hi => h i hi)]; rfl
      rw [hw2, funC_b hS hTy hends (fun i hi => hah i (by omega) hi)]
      simp only [Option.bind_some, check_Func.nx40]
      have h3 := scan_nz (f.blocks.map (blkC m f)) gErr (fun s => check_Func.bd49 m f s) (le_max (show (f.blocks.map (blkC m f)).length ≤ 70 by simpa using hn) (by omega)) (fun i hi => by
        have hi : i < f.blocks.length := by simpa using hi
        have he1 := blk_c (⟨m, f⟩ : PLooker) f.blocks[i] (hB _ (List.getElem_mem hi))
        have he1' : check_looker_block (⟨(⟨m.funcs⟩ : PModule), (⟨f.params, f.result, f.regs, f.blocks⟩ : PFunc)⟩ : PLooker) f.blocks[i] = some (gErr (blkC m f f.blocks[i])) := he1
        simp only [check_Func.bd49, len_lt, hi, if_true, idx_lt hi, Option.bind_some, he1', w64_i hi (show f.blocks.length ≤ 1000 by omega)]
        rw [gErr_step (out := fun x => x)]; simp) (by simp [check_Func.bd49, len])
      rw [h3]
      by_cases hz : firstNZ (f.blocks.map (blkC m f)) = 0
      · rw [if_pos hz, hz]; rfl
      · rw [if_neg hz]; rfl
theorem phiC_range (f : PFunc) (p : PPhi) : phiC f p = 0 ∨ (1 ≤ phiC f p ∧ phiC f p ≤ 8) := by have := lv_range (¬ hasR f p.dst ∨ ¬ ∀ a ∈ p.args, hasR f a) (¬ ∀ a ∈ p.args, idx f.regs a = idx f.regs p.dst); unfold phiC; omega
theorem insC_range (m : PModule) (f : PFunc) (x : PInstr) : insC m f x = 0 ∨ (1 ≤ insC m f x ∧ insC m f x ≤ 8) := by
  unfold insC
  split
  · split <;> omega
  · split
    · omega
    · rename_i n t _ _
      have := lv_range ((¬ ∀ a ∈ x.args, hasR f a) ∨ (t ≠ 0 ∧ ¬ hasR f x.dst)) ((t = 0 ∧ x.dst ≠ -1) ∨ (x.op ≠ 1 ∧ x.imm ≠ 0) ∨ (x.op ≠ 17 ∧ x.fn ≠ 0) ∨ ¬ FitsOk m f x)
      omega
theorem endC_range (f : PFunc) (t : PTerm) : endC f t = 0 ∨ (1 ≤ endC f t ∧ endC f t ≤ 8) := by
  unfold endC
  split
  · split <;> omega
  · have := lv_range (¬ hasR f t.arg) (¬ tyR f t.arg (if t.kind = 3 then f.result else 2)); omega
theorem firstNZ_range {L : List Int} (h : ∀ c ∈ L, c = 0 ∨ (1 ≤ c ∧ c ≤ 8)) : firstNZ L = 0 ∨ (1 ≤ firstNZ L ∧ firstNZ L ≤ 8) := by
  rcases firstNZ_mem L with h1 | h1
  · exact .inl h1
  · exact h _ h1
theorem blkC_range (m : PModule) (f : PFunc) (B : PBlock) : blkC m f B = 0 ∨ (1 ≤ blkC m f B ∧ blkC m f B ≤ 8) := firstNZ_range fun c hc => by
  simp only [List.mem_cons, List.not_mem_nil, or_false] at hc
  rcases hc with rfl | rfl | rfl
  · exact firstNZ_range fun c hc => by obtain ⟨p, _, rfl⟩ := List.mem_map.1 hc; exact phiC_range f p
  · exact firstNZ_range fun c hc => by obtain ⟨p, _, rfl⟩ := List.mem_map.1 hc; exact insC_range m f p
  · exact endC_range f _
theorem funC_range (m : PModule) (f : PFunc) : funC m f = 0 ∨ (1 ≤ funC m f ∧ funC m f ≤ 8) := by
  unfold funC
  split
  · omega
  split
  · omega
  split
  · omega
  split
  · omega
  exact firstNZ_range fun c hc => by obtain ⟨p, _, rfl⟩ := List.mem_map.1 hc; exact blkC_range m f p
end Go.Proofs.YteaknconpkklhaaDoor
set_option linter.unusedVariables false
set_option linter.unusedSimpArgs false
namespace Go.Proofs.YteaknconpkklhaaDoor
open Go Go.Proofs
theorem refAhead_in (f : PFunc) (b : Int) (i : Nat) (hi : i < f.blocks.length) (ht : f.blocks[i].term.to.length ≤ 70) :
    whl (fun (s : (Bool × Int)) => fettleref02_Ahead.bd26 f b (i : Int) s.1 s.2) FUEL (false, 0) = some (decide (b ∈ f.blocks[i].term.to)) := by
  have := whl_run (body := fun (s : (Bool × Int)) => fettleref02_Ahead.bd26 f b (i : Int) s.1 s.2) (r := decide (b ∈ f.blocks[i].term.to)) f.blocks[i].term.to.length FUEL
    (fun k => (decide (b ∈ f.blocks[i].term.to.take k), (k : Int))) (fun k hk => by
      simp only [fettleref02_Ahead.bd26, idx_lt hi, Option.bind_some, len_lt, hk, if_true, idx_lt hk, w64_i hk (show f.blocks[i].term.to.length ≤ 1000 by omega), List.take_succ_eq_append_getElem hk, List.mem_append, List.mem_singleton]
      by_cases h1 : b ∈ f.blocks[i].term.to.take k
      · simp [h1]
      · simp [h1, eq_comm (a := b)]) (by simp [fettleref02_Ahead.bd26, idx_lt hi, len]) (lt_FUEL (le_max ht (by omega)))
  simpa using this
theorem refAhead_eq (f : PFunc) (hf : SmF f) (b : Nat) (hb : b < f.blocks.length) : fettleref02_Ahead f (b : Int) = some (preds (nexts f) b) := by
  obtain ⟨hn, _, _, hB⟩ := hf
  unfold fettleref02_Ahead
  have hrun := whl_run (body := fun (s : (List Int × Int)) => fettleref02_Ahead.bd8 f (b : Int) s.1 s.2) (r := preds (nexts f) b) f.blocks.length FUEL
    (fun i => (((List.range i).filter fun j => decide ((b : Int) ∈ (nexts f).getD j [])).map (fun j : Nat => (j : Int)), (i : Int))) (fun i hi => by
      have hl : (((List.range i).filter fun j => decide ((b : Int) ∈ (nexts f).getD j [])).map (fun j : Nat => (j : Int))).length ≤ 1000 := by
        have h1 : ((List.range i).filter fun j => decide ((b : Int) ∈ (nexts f).getD j [])).length ≤ (List.range i).length := List.length_filter_le _ _
        simp only [List.length_range] at h1
        rw [List.length_map]; omega
      simp only [fettleref02_Ahead.bd8, len_lt, hi, if_true, refAhead_in f b i hi (hB _ (List.getElem_mem hi)).2.2.1, Option.bind_some, fettleref02_Ahead.nx26]
      have hmem : ((b : Int) ∈ f.blocks[i].term.to) ↔ (b : Int) ∈ (nexts f).getD i [] := by
        rw [List.getD_eq_getElem?_getD, nexts_get f i hi, Option.getD_some, mem_succs]
        constructor
        · intro h; exact ⟨h, by omega, by omega⟩
        · exact fun h => h.1
      rw [List.range_succ, List.filter_append, List.map_append]
      by_cases hc : (b : Int) ∈ (nexts f).getD i []
      · rw [if_pos (by simpa using hmem.2 hc), cat_one hl, List.filter_cons_of_pos (by simpa using hc)]
        simp only [Option.bind_some, fettleref02_Ahead.jn18, w64_i hi (show f.blocks.length ≤ 1000 by omega)]
        rfl
      · rw [if_neg (by simpa using fun h => hc (hmem.1 h)), List.filter_cons_of_neg (by simpa using hc)]
        simp only [fettleref02_Ahead.jn18, w64_i hi (show f.blocks.length ≤ 1000 by omega)]
        simp) (by
      simp only [fettleref02_Ahead.bd8, len_lt, Nat.lt_irrefl, if_false, preds, nexts_length]) (lt_FUEL (le_max hn (by omega)))
  simp only [List.range_zero, List.filter_nil, List.map_nil] at hrun
  have h00 : (([] : List Int), ((0 : Nat) : Int)) = (([] : List Int), (0 : Int)) := rfl
  rw [h00] at hrun
  rw [hrun]; rfl
/-! ### Registers, worst -/
noncomputable def isC (f : PFunc) (r t : Int) : Int := lv (¬ hasR f r) (t ≥ 0 ∧ ¬ tyR f r t)
theorem is_c (f : PFunc) (r t : Int) : fettleref02_is f r t = some (isC f r t) := by
  unfold fettleref02_is isC
  by_cases h : hasR f r
  · rw [if_neg (by have := h.1; have := h.2; simp only [len]; omega)]
    obtain ⟨k, hk, hkl, hg⟩ := h.get
    rw [hg]
    have hty : tyR f r t ↔ f.regs[k] = t := by unfold tyR; rw [hg]; simp
    by_cases h1 : t ≥ 0
    · rw [if_pos h1]
      simp only [Option.bind_some]
      by_cases h2 : f.regs[k] = t
      · rw [if_neg (by simp [h2]), lv0 (fun k => k h) (fun k => k.2 (hty.2 h2))]
      · rw [if_pos (by simp [h2]), lv3 (fun k => k h) ⟨h1, fun k => h2 (hty.1 k)⟩]
    · rw [if_neg h1]
      simp only [Option.bind_some, Bool.false_eq_true, if_false]
      rw [lv0 (fun k => k h) (fun k => h1 k.1)]
  · rw [if_pos (by simp only [len]; unfold hasR at h; omega), lv4 h]
def wst (a b : Int) : Int := if a = 4 ∨ b = 4 then 4 else if ¬ a = 0 then a else b
theorem worst_c (a b : Int) : fettleref02_worst a b = some (wst a b) := by
  unfold fettleref02_worst wst
  split
  · rfl
  · split <;> rfl
theorem wst_lv (a b c d : Prop) : wst (lv a b) (lv c d) = lv (a ∨ c) (b ∨ d) := by
  unfold wst
  by_cases h1 : a
  · rw [lv4 (p3 := b) h1, lv4 (p3 := b ∨ d) (Or.inl h1 : a ∨ c)]; simp
  by_cases h2 : c
  · rw [lv4 (p3 := d) h2, lv4 (p3 := b ∨ d) (Or.inr h2 : a ∨ c)]; simp
  have h12 : ¬ (a ∨ c) := fun h => h.elim h1 h2
  by_cases h3 : b
  · rw [lv3 h1 h3, lv3 h12 (Or.inl h3 : b ∨ d)]
    by_cases h4 : d
    · rw [lv3 h2 h4]; simp
    · rw [lv0 h2 h4]; simp
  by_cases h4 : d
  · rw [lv0 h1 h3, lv3 h2 h4, lv3 h12 (Or.inr h4 : b ∨ d)]; simp
  · rw [lv0 h1 h3, lv0 h2 h4, lv0 h12 (fun h => h.elim h3 h4)]; simp
theorem lv_three : (3 : Int) = lv False True := (lv3 (fun h => h) trivial).symm
theorem lv_null : (0 : Int) = lv False False := (lv0 (fun h => h) (fun h => h)).symm
theorem fold_wst (f : PFunc) : ∀ (L : List (Int × Int)) (a b : Prop), L.foldl (fun c p => wst c (isC f p.1 p.2)) (lv a b) = lv (a ∨ ¬ ∀ p ∈ L, hasR f p.1) (b ∨ ¬ ∀ p ∈ L, p.2 ≥ 0 → tyR f p.1 p.2)
  | [], a, b => by simp
  | p :: L, a, b => by
    have h := fold_wst f L (a ∨ ¬ hasR f p.1) (b ∨ (p.2 ≥ 0 ∧ ¬ tyR f p.1 p.2))
    have e : wst (lv a b) (isC f p.1 p.2) = lv (a ∨ ¬ hasR f p.1) (b ∨ (p.2 ≥ 0 ∧ ¬ tyR f p.1 p.2)) := by unfold isC; exact wst_lv _ _ _ _
    rw [List.foldl_cons, e, h]
    apply lv_congr
    · simp only [List.forall_mem_cons]
      constructor
      · rintro ((h | h) | h)
        · exact .inl h
        · exact .inr fun k => h k.1
        · exact .inr fun k => h k.2
      · rintro (h | h)
        · exact .inl (.inl h)
        · by_cases k : hasR f p.1
          · exact .inr fun j => h ⟨k, j⟩
          · exact .inl (.inr k)
    · intro _
      simp only [List.forall_mem_cons]
      constructor
      · rintro ((h | h) | h)
        · exact .inl h
        · exact .inr fun k => h.2 (k.1 h.1)
        · exact .inr fun k => h k.2
      · rintro (h | h)
        · exact .inl (.inl h)
        · by_cases k : p.2 ≥ 0 → tyR f p.1 p.2
          · exact .inr fun j => h ⟨k, j⟩
          · exact .inl (.inr (Classical.not_imp.1 k))
def TsOk (f : PFunc) (xs ts : List Int) : Prop := ∀ p ∈ xs.zip ts, p.2 ≥ 0 → tyR f p.1 p.2
theorem zip_all {xs ts : List Int} (h : xs.length = ts.length) (P : Int → Prop) : (∀ p ∈ xs.zip ts, P p.1) ↔ ∀ a ∈ xs, P a := by
  constructor
  · intro hp a ha
    obtain ⟨i, hi, rfl⟩ := List.getElem_of_mem ha
    have hi2 : i < (xs.zip ts).length := by simp; omega
    have := hp _ (List.getElem_mem hi2)
    simpa using this
  · intro ha p hp
    exact ha _ (List.of_mem_zip hp).1
theorem rargs_c (f : PFunc) (x : PInstr) (ts : List Int) (hl : x.args.length ≤ 300) (he : x.args.length = ts.length) :
    whl (fun (s : (Int × Int)) => fettleref02_Instr.bd22 f x ts s.1 s.2) FUEL (0, 0) = some (lv (¬ ∀ a ∈ x.args, hasR f a) (¬ TsOk f x.args ts)) := by
  have hz : (x.args.zip ts).length = x.args.length := by simp; omega
  have := whl_fold (x.args.zip ts) (fun c p => wst c (isC f p.1 p.2)) 0 (body := fun (s : (Int × Int)) => fettleref02_Instr.bd22 f x ts s.1 s.2) (by omega) (fun k hk c => by
    have h1 : k < x.args.length := by omega
    have h2 : k < ts.length := by omega
    simp only [fettleref02_Instr.bd22, len_lt, h2, if_true, idx_lt h1, idx_lt h2, Option.bind_some, is_c, worst_c, w64_i h1 (show x.args.length ≤ 1000 by omega), List.getElem_zip]) (fun s => by
    rw [hz]
    simp only [fettleref02_Instr.bd22, len]
    rw [if_neg (by omega)])
  rw [this, lv_null, fold_wst]
  congr 1
  apply lv_congr
  · rw [false_or, zip_all he]
  · intro _; rw [false_or]; rfl
/-! ### Instructions -/
theorem jn31_c (f : PFunc) (x : PInstr) (A B : Prop) (hA : x.op = 1 → ¬ A → hasR f x.dst) : fettleref02_Instr.jn31 f x (lv A B) = some (lv A (B ∨ (x.op = 1 ∧ tyR f x.dst 2 ∧ x.imm ≠ 0 ∧ x.imm ≠ 1))) := by
  unfold fettleref02_Instr.jn31
  by_cases h : x.op = 1 ∧ lv A B = 0
  · rw [if_pos h]
    obtain ⟨h1, h2⟩ := lv_zero.1 h.2
    obtain ⟨k, hk, hkl, hg⟩ := (hA h.1 h1).get
    have hty : tyR f x.dst 2 ↔ f.regs[k] = 2 := by unfold tyR; rw [hg]; simp
    rw [hg, h.2]
    simp only [Option.bind_some, fettleref02_Instr.jn35]
    by_cases h3 : f.regs[k] = 2 ∧ x.imm ≠ 0 ∧ x.imm ≠ 1
    · rw [if_pos (by simpa [and_assoc] using h3), lv3 h1 (.inr ⟨h.1, hty.2 h3.1, h3.2⟩)]
    · rw [if_neg (by simpa [and_assoc] using h3), lv0 h1 (fun k => k.elim h2 fun k => h3 ⟨hty.1 k.2.1, k.2.2⟩)]
  · rw [if_neg h]
    simp only [Option.bind_some, Bool.false_eq_true, false_and, if_false, fettleref02_Instr.jn35]
    congr 1
    apply lv_congr Iff.rfl
    intro hnA
    refine ⟨.inl, fun k => k.elim id fun k => Classical.byContradiction fun hB => h ⟨k.1, lv0 hnA hB⟩⟩
theorem jn27_c (f : PFunc) (x : PInstr) (odd : Bool) (A B : Prop) (hA : x.op = 1 → ¬ A → hasR f x.dst) :
    fettleref02_Instr.jn27 f x odd (lv A B) = some (lv A (B ∨ (x.op ≠ 1 ∧ x.imm ≠ 0) ∨ (x.op ≠ 17 ∧ x.fn ≠ 0) ∨ odd = true ∨ (x.op = 1 ∧ tyR f x.dst 2 ∧ x.imm ≠ 0 ∧ x.imm ≠ 1))) := by
  unfold fettleref02_Instr.jn27
  by_cases h : (((¬ x.op = 1) ∧ (¬ x.imm = 0)) ∨ ((¬ x.op = 17) ∧ (¬ x.fn = 0))) ∨ odd = true
  · rw [if_pos h, worst_c]
    simp only [Option.bind_some]
    rw [lv_three, wst_lv]
    have e : lv (A ∨ False) (B ∨ True) = lv A (B ∨ True) := lv_congr (or_false A).to_iff (fun _ => Iff.rfl)
    rw [e, jn31_c f x A (B ∨ True) hA]
    congr 1
    apply lv_congr Iff.rfl
    intro _
    refine ⟨fun _ => ?_, fun _ => .inl (.inr trivial)⟩
    rcases h with (h | h) | h
    · exact .inr (.inl h)
    · exact .inr (.inr (.inl h))
    · exact .inr (.inr (.inr (.inl h)))
  · rw [if_neg h, jn31_c f x A B hA]
    congr 1
    apply lv_congr Iff.rfl
    intro _
    refine ⟨fun k => k.elim .inl fun k => .inr (.inr (.inr (.inr k))), ?_⟩
    rintro (k | k | k | k | k)
    · exact .inl k
    · exact absurd (.inl (.inl k)) h
    · exact absurd (.inl (.inr k)) h
    · exact absurd (.inr k) h
    · exact .inr k
def Amiss3 (f : PFunc) (x : PInstr) (ts : List Int) (t : Int) (odd : Bool) : Prop :=
  ((¬ TsOk f x.args ts) ∨ (t = 0 ∧ x.dst ≠ -1) ∨ t < 0 ∨ (t > 0 ∧ ¬ tyR f x.dst t)) ∨ (x.op ≠ 1 ∧ x.imm ≠ 0) ∨ (x.op ≠ 17 ∧ x.fn ≠ 0) ∨ odd = true ∨ (x.op = 1 ∧ tyR f x.dst 2 ∧ x.imm ≠ 0 ∧ x.imm ≠ 1)
theorem jn6_c (f : PFunc) (x : PInstr) (ts : List Int) (t : Int) (odd : Bool) (hl : x.args.length ≤ 300) (ht : x.op = 1 → t ≠ 0) :
    fettleref02_Instr.jn6 f x ts t true odd = some (if x.args.length ≠ ts.length then 6 else lv ((¬ ∀ a ∈ x.args, hasR f a) ∨ (t ≠ 0 ∧ ¬ hasR f x.dst)) (Amiss3 f x ts t odd)) := by
  unfold fettleref02_Instr.jn6
  by_cases he : x.args.length = ts.length
  · rw [if_neg (by simp only [len]; simp; omega), if_neg (by simpa using he), rargs_c f x ts hl he]
    simp only [Option.bind_some]
    have hA : x.op = 1 → ¬ ((¬ ∀ a ∈ x.args, hasR f a) ∨ (t ≠ 0 ∧ ¬ hasR f x.dst)) → hasR f x.dst := fun h1 h2 => Classical.byContradiction fun h3 => h2 (.inr ⟨ht h1, h3⟩)
    have key : ∀ z, z = lv ((¬ ∀ a ∈ x.args, hasR f a) ∨ (t ≠ 0 ∧ ¬ hasR f x.dst)) ((¬ TsOk f x.args ts) ∨ (t = 0 ∧ x.dst ≠ -1) ∨ t < 0 ∨ (t > 0 ∧ ¬ tyR f x.dst t)) →
        fettleref02_Instr.jn27 f x odd z = some (lv ((¬ ∀ a ∈ x.args, hasR f a) ∨ (t ≠ 0 ∧ ¬ hasR f x.dst)) (Amiss3 f x ts t odd)) := fun z hz => by rw [hz]; exact jn27_c f x odd _ _ hA
    unfold fettleref02_Instr.nx22
    by_cases h0 : t = 0
    · rw [if_pos h0]
      by_cases hd : x.dst = -1
      · rw [if_neg (by simpa using hd)]
        refine key _ (lv_congr ?_ fun _ => ?_)
        · simp [h0]
        · simp [h0, hd]
      · rw [if_pos hd, worst_c]
        simp only [Option.bind_some]
        refine key _ ?_
        rw [lv_three, wst_lv]
        refine lv_congr ?_ fun _ => ?_
        · simp [h0]
        · simp [h0, hd]
    · rw [if_neg h0]
      by_cases hn : t < 0
      · rw [if_pos hn, is_c]
        simp only [Option.bind_some, worst_c]
        refine key _ ?_
        unfold isC
        rw [lv_three, wst_lv, wst_lv]
        refine lv_congr ?_ fun _ => ?_
        · simp [h0]
        · simp [h0, hn]
      · rw [if_neg hn, is_c]
        simp only [Option.bind_some, worst_c]
        refine key _ ?_
        unfold isC
        rw [wst_lv]
        have hp : t > 0 := by omega
        refine lv_congr ?_ fun _ => ?_
        · simp [h0]
        · have hg : t ≥ 0 := by omega
          simp [h0, hn, hp, hg]
  · rw [if_pos (by simp only [len]; right; omega), if_pos he]
theorem jn6_no (f : PFunc) (x : PInstr) (ts : List Int) (t : Int) (odd : Bool) : fettleref02_Instr.jn6 f x ts t false odd = some 6 := by
  unfold fettleref02_Instr.jn6
  rw [if_pos (by simp)]
def kindL (x : PInstr) (dt : Int) : List Int × Int × Bool :=
  if x.op = 1 then ([], dt, true) else if x.op = 2 then ([dt], dt, true) else if x.op = 12 ∨ x.op = 13 then ([1, 1], 2, true) else if x.op = 14 then ([2], 2, true) else if x.op = 15 then ([1], 1, true)
  else if x.op = 16 then ([1, 1], 0, true) else if x.op = 18 then ([1], 0, true) else if x.op ≥ 3 ∧ x.op ≤ 11 then ([1, 1], 1, true) else ([], 0, false)
theorem kinds4 (x : PInstr) (dt : Int) : fettleref02_kinds.jn4 x dt = some (kindL x dt) := by
  unfold fettleref02_kinds.jn4 kindL
  by_cases h1 : x.op = 1
  · rw [if_pos h1, if_pos h1]
  rw [if_neg h1, if_neg h1]
  by_cases h2 : x.op = 2
  · rw [if_pos h2, if_pos h2]
  rw [if_neg h2, if_neg h2]
  have hj : (if x.op = 12 then fettleref02_kinds.jn12 x (decide (x.op = 12)) else fettleref02_kinds.jn12 x (decide (x.op = 13))) = fettleref02_kinds.jn12 x (decide (x.op = 12 ∨ x.op = 13)) := by
    by_cases h : x.op = 12
    · rw [if_pos h]; simp [h]
    · rw [if_neg h]; simp [h]
  rw [hj]
  unfold fettleref02_kinds.jn12
  by_cases h3 : x.op = 12 ∨ x.op = 13
  · rw [if_pos (by simpa using h3), if_pos h3]
  rw [if_neg (by simpa using h3), if_neg h3]
  by_cases h4 : x.op = 14
  · rw [if_pos h4, if_pos h4]
  rw [if_neg h4, if_neg h4]
  by_cases h5 : x.op = 15
  · rw [if_pos h5, if_pos h5]
  rw [if_neg h5, if_neg h5]
  by_cases h6 : x.op = 16
  · rw [if_pos h6, if_pos h6]
  rw [if_neg h6, if_neg h6]
  by_cases h7 : x.op = 18
  · rw [if_pos h7, if_pos h7]
  rw [if_neg h7, if_neg h7]
  by_cases h8 : x.op ≥ 3 ∧ x.op ≤ 11
  · rw [if_pos h8, if_pos h8]
  · rw [if_neg h8, if_neg h8]
theorem kinds_c (m : PModule) (f : PFunc) (x : PInstr) (hT : TypedOk f) : ∃ dt, (hasR f x.dst → tyR f x.dst dt) ∧ (dt = 1 ∨ dt = 2) ∧ fettleref02_kinds m f x = some (kindL x dt) := by
  unfold fettleref02_kinds
  by_cases h : hasR f x.dst
  · rw [if_pos (by have := h.1; have := h.2; simp only [len]; omega)]
    obtain ⟨k, hk, hkl, hg⟩ := h.get
    rw [hg]
    exact ⟨f.regs[k], fun _ => hg, hT.regs _ (List.getElem_mem hkl), kinds4 x _⟩
  · rw [if_neg (by simp only [len]; unfold hasR at h; omega)]
    exact ⟨1, fun h' => absurd h' h, .inl rfl, kinds4 x 1⟩
end Go.Proofs.YteaknconpkklhaaDoor
set_option linter.unusedVariables false
set_option linter.unusedSimpArgs false
namespace Go.Proofs.YteaknconpkklhaaDoor
open Go Go.Proofs
theorem insC_some {m : PModule} {f : PFunc} {x : PInstr} {n t : Int} (h : arF m x = some (n, t)) : insC m f x = if (x.args.length : Int) ≠ n then 6 else lv ((¬ ∀ a ∈ x.args, hasR f a) ∨ (t ≠ 0 ∧ ¬ hasR f x.dst)) ((t = 0 ∧ x.dst ≠ -1) ∨ (x.op ≠ 1 ∧ x.imm ≠ 0) ∨ (x.op ≠ 17 ∧ x.fn ≠ 0) ∨ ¬ FitsOk m f x) := by
  unfold insC; rw [h]
theorem insC_none {m : PModule} {f : PFunc} {x : PInstr} (h : arF m x = none) : insC m f x = if x.op = 17 then 4 else 6 := by
  unfold insC; rw [h]
/-- Both tell the same of an instruction, given that they hold the same amiss. -/
theorem same_ins {m : PModule} {f : PFunc} {x : PInstr} {n t t' : Int} {ts : List Int} {odd : Bool} (hl : x.args.length ≤ 300) (ha : arF m x = some (n, t)) (hn : n = (ts.length : Int)) (h1 : x.op = 1 → t' ≠ 0) (h0 : t' ≠ 0 ↔ t ≠ 0)
    (h3 : x.args.length = ts.length → (∀ a ∈ x.args, hasR f a) → (t' ≠ 0 → hasR f x.dst) → (Amiss3 f x ts t' odd ↔ ((t = 0 ∧ x.dst ≠ -1) ∨ (x.op ≠ 1 ∧ x.imm ≠ 0) ∨ (x.op ≠ 17 ∧ x.fn ≠ 0) ∨ ¬ FitsOk m f x))) :
    fettleref02_Instr.jn6 f x ts t' true odd = some (insC m f x) := by
  rw [jn6_c f x ts t' odd hl h1, insC_some ha]
  by_cases he : x.args.length = ts.length
  · rw [if_neg (by simpa using he), if_neg (by rw [hn]; omega)]
    congr 1
    refine lv_congr (by rw [h0]) fun h4 => ?_
    refine h3 he (Classical.byContradiction fun k => h4 (.inl k)) fun k => Classical.byContradiction fun j => h4 (.inr ⟨h0.1 k, j⟩)
  · rw [if_pos he, if_pos (by rw [hn]; omega)]
theorem ts1 {f : PFunc} {x : PInstr} {t : Int} (ht : t ≥ 0) (h : x.args.length = 1) : TsOk f x.args [t] ↔ ∀ a ∈ x.args, tyR f a t := by
  obtain ⟨a, ha⟩ := List.length_eq_one_iff.1 h
  unfold TsOk
  rw [ha]; simp [ht]
theorem ts2 {f : PFunc} {x : PInstr} {t : Int} (ht : t ≥ 0) (h : x.args.length = 2) : TsOk f x.args [t, t] ↔ ∀ a ∈ x.args, tyR f a t := by
  obtain ⟨a, b, ha⟩ := len2 h
  unfold TsOk
  rw [ha]; simp [ht]
theorem ts0 {f : PFunc} {x : PInstr} : TsOk f x.args [] := by unfold TsOk; simp
theorem tyR.uniq {f : PFunc} {r s t : Int} (h : tyR f r s) (k : tyR f r t) : s = t := by unfold tyR at h k; rw [h] at k; exact Option.some.inj k
theorem rins_plain (m : PModule) (f : PFunc) (x : PInstr) (hl : x.args.length ≤ 300) (hT : TypedOk f) (h17 : x.op ≠ 17) {dt : Int} (hdt : hasR f x.dst → tyR f x.dst dt) (h12 : dt = 1 ∨ dt = 2) :
    fettleref02_Instr.jn6 f x (kindL x dt).1 (kindL x dt).2.1 (kindL x dt).2.2 false = some (insC m f x) := by
  unfold kindL
  by_cases h1 : x.op = 1
  · simp only [if_pos h1]
    refine same_ins (n := 0) (t := 1) hl (by simp [arF, h1]) rfl (fun _ => by omega) (by omega) fun he hh hd => ?_
    have hdst := hd (by omega)
    have hty := hdt hdst
    have hdt0 : dt > 0 := by omega
    have hdt1 : ¬ dt < 0 := by omega
    have hdt2 : ¬ dt = 0 := by omega
    have h21 : tyR f x.dst 2 ↔ ¬ tyR f x.dst 1 := by
      rcases h12 with rfl | rfl
      · exact ⟨fun k => absurd (hty.uniq k) (by omega), fun k => absurd hty k⟩
      · exact ⟨fun _ k => absurd (hty.uniq k) (by omega), fun _ => hty⟩
    unfold Amiss3 FitsOk
    simp only [ts0, h1, hty, hdt1, hdt2, if_true, h21]
    simp
  simp only [if_neg h1]
  by_cases h2 : x.op = 2
  · simp only [if_pos h2]
    refine same_ins (n := 1) (t := 1) hl (by simp [arF, h2]) rfl (fun k => absurd k h1) (by omega) fun he hh hd => ?_
    have hty := hdt (hd (by omega))
    have hdt1 : ¬ dt < 0 := by omega
    have hdt2 : ¬ dt = 0 := by omega
    have hdt3 : dt ≥ 0 := by omega
    obtain ⟨a, ha⟩ := List.length_eq_one_iff.1 he
    have hid : idx f.regs x.dst = some dt := hty
    have hix : idx x.args 0 = some a := by rw [ha]; rfl
    unfold Amiss3 FitsOk
    rw [ts1 hdt3 he, ha]
    simp only [h2, hty, hdt1, hdt2, hid, ha]
    have e : ((∃ b, idx [a] 0 = some b ∧ some dt = idx f.regs b)) ↔ tyR f a dt := by
      unfold tyR
      constructor
      · rintro ⟨b, hb, k⟩
        have : a = b := by simpa [idx] using hb
        subst this; exact k.symm
      · intro k; exact ⟨a, rfl, k.symm⟩
    simp [e]
    grind
  simp only [if_neg h2]
  by_cases h3 : x.op = 12 ∨ x.op = 13
  · simp only [if_pos h3]
    refine same_ins (n := 2) (t := 1) hl (by unfold arF; rw [if_neg (by omega), if_pos (by omega)]) rfl (fun k => absurd k h1) (by omega) fun he hh hd => ?_
    unfold Amiss3 FitsOk
    rw [ts2 (by omega) he, if_neg h1, if_neg h2, if_pos h3]
    simp [h1]
    grind
  simp only [if_neg h3]
  by_cases h4 : x.op = 14
  · simp only [if_pos h4]
    refine same_ins (n := 1) (t := 1) hl (by simp [arF, h4]) rfl (fun k => absurd k h1) (by omega) fun he hh hd => ?_
    unfold Amiss3 FitsOk
    obtain ⟨a, ha⟩ := List.length_eq_one_iff.1 he
    rw [ts1 (by omega) he, if_neg h1, if_neg h2, if_neg h3, if_pos h4, ha]
    have e : (∃ b, idx [a] 0 = some b ∧ tyR f b 2) ↔ tyR f a 2 := by
      constructor
      · rintro ⟨b, hb, k⟩
        have : a = b := by simpa [idx] using hb
        subst this; exact k
      · intro k; exact ⟨a, rfl, k⟩
    rw [e]
    simp [h1]
    grind
  simp only [if_neg h4]
  by_cases h5 : x.op = 15
  · simp only [if_pos h5]
    refine same_ins (n := 1) (t := 1) hl (by simp [arF, h5]) rfl (fun k => absurd k h1) (by omega) fun he hh hd => ?_
    unfold Amiss3 FitsOk
    rw [ts1 (by omega) he, if_neg h1, if_neg h2, if_neg h3, if_neg h4, if_neg (by omega), if_neg h17]
    simp [h1]
    grind
  simp only [if_neg h5]
  by_cases h6 : x.op = 16
  · simp only [if_pos h6]
    refine same_ins (n := 2) (t := 0) hl (by simp [arF, h6]) rfl (fun k => absurd k h1) (by omega) fun he hh hd => ?_
    unfold Amiss3 FitsOk
    rw [ts2 (by omega) he, if_neg h1, if_neg h2, if_neg h3, if_neg h4, if_pos (.inr h6)]
    simp [h1]
    grind
  simp only [if_neg h6]
  by_cases h7 : x.op = 18
  · simp only [if_pos h7]
    refine same_ins (n := 1) (t := 0) hl (by simp [arF, h7]) rfl (fun k => absurd k h1) (by omega) fun he hh hd => ?_
    unfold Amiss3 FitsOk
    rw [ts1 (by omega) he, if_neg h1, if_neg h2, if_neg h3, if_neg h4, if_pos (.inl h7)]
    simp [h1]
    grind
  simp only [if_neg h7]
  by_cases h8 : x.op ≥ 3 ∧ x.op ≤ 11
  · simp only [if_pos h8]
    refine same_ins (n := 2) (t := 1) hl (by unfold arF; rw [if_neg (by omega), if_pos (by omega)]) rfl (fun k => absurd k h1) (by omega) fun he hh hd => ?_
    unfold Amiss3 FitsOk
    rw [ts2 (by omega) he, if_neg h1, if_neg h2, if_neg h3, if_neg h4, if_neg (by omega), if_neg h17]
    simp [h1]
    grind
  · simp only [if_neg h8]
    rw [jn6_no, insC_none, if_neg h17]
    unfold arF
    rw [if_neg (by omega), if_neg (by omega), if_neg h1, if_neg h5, if_neg h7, if_neg h6, if_neg h17]
/-! ### Calls -/
theorem call_kinds (g : PFunc) (n : Nat) (hn : (n : Int) = g.params) (hl : n ≤ 300) : ∃ ts odd, whl (fun (s : (List Int × Bool × Int)) => fettleref02_Instr.bd135 g s.1 s.2.1 s.2.2) FUEL (([] : List Int), (decide (g.params < 0 ∨ g.params > (len g.regs))), 0) = some (ts, odd) ∧ ts.length = n ∧
    (odd = false → n ≤ g.regs.length ∧ ts = g.regs.take n ∧ ∀ t ∈ ts, t ≥ 0) ∧ (odd = true → g.params > (g.regs.length : Int) ∨ ∃ j t, j < n ∧ g.regs[j]? = some t ∧ t < 0) := by
  obtain ⟨r, hr, hR⟩ := whl_for (s0 := (([] : List Int), (decide (g.params < 0 ∨ g.params > (len g.regs))), (0 : Int))) (body := fun (s : (List Int × Bool × Int)) => fettleref02_Instr.bd135 g s.1 s.2.1 s.2.2) n
    (fun i s => s.2.2 = (i : Int) ∧ s.1.length = i ∧ (s.2.1 = false → n ≤ g.regs.length ∧ s.1 = g.regs.take i ∧ ∀ t ∈ s.1, t ≥ 0) ∧ (s.2.1 = true → g.params > (g.regs.length : Int) ∨ ∃ j t, j < n ∧ g.regs[j]? = some t ∧ t < 0))
    (fun r : List Int × Bool => r.1.length = n ∧ (r.2 = false → n ≤ g.regs.length ∧ r.1 = g.regs.take n ∧ ∀ t ∈ r.1, t ≥ 0) ∧ (r.2 = true → g.params > (g.regs.length : Int) ∨ ∃ j t, j < n ∧ g.regs[j]? = some t ∧ t < 0)) (le_max hl (by omega)) (fun i s hi hI => by
      obtain ⟨ts, odd, q⟩ := s
      obtain ⟨rfl, h1, h2, h3⟩ := hI
      simp only at h1 h2 h3
      simp only [fettleref02_Instr.bd135]
      rw [if_pos (by omega)]
      cases odd with
      | true =>
        rw [if_neg (by simp)]
        simp only [fettleref02_Instr.jn147, cat_one (show ts.length ≤ 1000 by omega), Option.bind_some]
        refine .inr ⟨_, rfl, w64_i hi (by omega), by simp [h1], fun k => by simp at k, fun _ => h3 rfl⟩
      | false =>
        obtain ⟨g1, g2, g3⟩ := h2 rfl
        have hir : i < g.regs.length := by omega
        rw [if_pos (by simp), idx_lt hir]
        simp only [Option.bind_some, fettleref02_Instr.jn147, cat_one (show ts.length ≤ 1000 by omega)]
        refine .inr ⟨_, rfl, w64_i hi (by omega), by simp [h1], fun k => ?_, fun k => ?_⟩
        · have hk : ¬ g.regs[i] < 0 := by simpa using k
          refine ⟨g1, ?_, fun t ht => ?_⟩
          · rw [List.take_succ_eq_append_getElem hir, g2]
          · rcases List.mem_append.1 ht with ht | ht
            · exact g3 t ht
            · have : t = g.regs[i] := by simpa using ht
              omega
        · have hk : g.regs[i] < 0 := by simpa using k
          exact .inr ⟨i, _, hi, List.getElem?_eq_getElem hir, hk⟩) (fun s hI => by
      obtain ⟨ts, odd, q⟩ := s
      obtain ⟨rfl, h1, h2, h3⟩ := hI
      simp only at h1 h2 h3
      exact ⟨(ts, odd), by simp only [fettleref02_Instr.bd135]; rw [if_neg (by omega)], h1, h2, h3⟩) ⟨rfl, rfl, fun k => by
      have hk := of_decide_eq_false k
      simp only [len] at hk
      exact ⟨by omega, by simp, by simp⟩, fun k => by
      have hk := of_decide_eq_true k
      simp only [len] at hk
      left; omega⟩
  obtain ⟨ts, odd⟩ := r
  exact ⟨ts, odd, hr, hR⟩
theorem ts_take {f : PFunc} {xs ts : List Int} (hp : ∀ t ∈ ts, t ≥ 0) (hl : xs.length = ts.length) : TsOk f xs ts ↔ ∀ i (hi : i < xs.length), ∃ t, ts[i]? = some t ∧ tyR f xs[i] t := by
  unfold TsOk
  constructor
  · intro h i hi
    have hi2 : i < (xs.zip ts).length := by simp; omega
    have hi3 : i < ts.length := by omega
    have := h _ (List.getElem_mem hi2)
    simp only [List.getElem_zip] at this
    exact ⟨_, List.getElem?_eq_getElem hi3, this (hp _ (List.getElem_mem hi3))⟩
  · intro h p hpm _
    obtain ⟨i, hi, rfl⟩ := List.getElem_of_mem hpm
    have hi2 : i < xs.length := by simp at hi; omega
    obtain ⟨t, h1, h2⟩ := h i hi2
    rw [List.getElem?_eq_getElem (by omega)] at h1
    simp only [List.getElem_zip]
    rw [Option.some.inj h1]; exact h2
theorem rins_c (m : PModule) (f : PFunc) (x : PInstr) (hl : x.args.length ≤ 300) (hT : TypedOk f) : fettleref02_Instr m f x = some (insC m f x) := by
  obtain ⟨dt, h1, h2, h3⟩ := kinds_c m f x hT
  unfold fettleref02_Instr
  rw [h3]
  simp only [Option.bind_some]
  by_cases h17 : x.op = 17
  · rw [if_pos h17]
    have har : arF m x = (idx m.funcs x.fn).map fun g => (g.params, g.result) := by
      unfold arF
      rw [if_neg (by omega), if_neg (by omega), if_neg (by omega), if_neg (by omega), if_neg (by omega), if_neg (by omega), if_pos h17]
    by_cases hf : x.fn < 0 ∨ x.fn ≥ len m.funcs
    · rw [if_pos hf]
      have : idx m.funcs x.fn = none := by
        cases hx : idx m.funcs x.fn with
        | none => rfl
        | some g =>
          obtain ⟨g1, g2, _⟩ := idx_some hx
          simp only [len] at hf; omega
      rw [this] at har
      rw [insC_none har, if_pos h17]
    · rw [if_neg hf]
      simp only [len] at hf
      obtain ⟨k, hk⟩ : ∃ k : Nat, x.fn = k := ⟨x.fn.toNat, by omega⟩
      have hkl : k < m.funcs.length := by omega
      rw [hk, idx_lt hkl] at har
      rw [hk, idx_lt hkl]
      simp only [Option.bind_some]
      have hfn : idx m.funcs x.fn = some m.funcs[k] := by rw [hk, idx_lt hkl]
      generalize m.funcs[k] = g at *
      simp only [Option.map_some] at har
      by_cases hn : len x.args = g.params
      · rw [if_neg (by simpa using hn)]
        simp only [len] at hn
        have hkl1 : (kindL x dt).1 = [] := by simp [kindL, h17]
        rw [hkl1]
        obtain ⟨ts, odd, w1, w2, w3, w4⟩ := call_kinds g x.args.length hn hl
        rw [w1]
        simp only [Option.bind_some, fettleref02_Instr.nx135]
        refine same_ins (n := g.params) (t := g.result) hl har (by omega) (fun k => absurd k (by omega)) Iff.rfl fun he hh hd => ?_
        have hfit : FitsOk m f x ↔ CallOk m f x g := by
          unfold FitsOk
          rw [if_neg (by omega), if_neg (by omega), if_neg (by omega), if_neg (by omega), if_neg (by omega), if_pos h17]
          constructor
          · rintro ⟨g', h'⟩
            have := h'.fn
            rw [hfn] at this; cases this; exact h'
          · intro h'; exact ⟨g, h'⟩
        rw [hfit]
        unfold Amiss3
        cases odd with
        | true =>
          have hno : ¬ CallOk m f x g := fun hc => by
            rcases w4 rfl with h4 | ⟨j, t, h4, h5, h6⟩
            · have := hc.le; omega
            · obtain ⟨t', h7, h8⟩ := hc.args j h4
              rw [idx_nat, h5] at h7
              cases h7
              obtain ⟨k', _, hk', hg'⟩ := h8.has.get
              have := hT.regs _ (List.getElem_mem hk')
              unfold tyR at h8
              rw [hg'] at h8
              have := Option.some.inj h8
              omega
          simp [hno]
        | false =>
          obtain ⟨v1, v2, v3⟩ := w3 rfl
          have hlen : x.args.length = ts.length := he
          have hcall : CallOk m f x g ↔ (TsOk f x.args ts ∧ (g.result = 0 ∨ tyR f x.dst g.result)) := by
            rw [ts_take v3 hlen]
            constructor
            · intro hc
              refine ⟨fun i hi => ?_, hc.res⟩
              obtain ⟨t, g1, g2⟩ := hc.args i hi
              refine ⟨t, ?_, g2⟩
              rw [v2, List.getElem?_take_of_lt hi]
              rw [idx_nat] at g1; exact g1
            · rintro ⟨g1, g2⟩
              refine ⟨hfn, by omega, by omega, fun i hi => ?_, g2⟩
              obtain ⟨t, g3, g4⟩ := g1 i hi
              rw [v2, List.getElem?_take_of_lt hi] at g3
              exact ⟨t, by rw [idx_nat]; exact g3, g4⟩
          rw [hcall]
          have hneg : g.result < 0 → ¬ tyR f x.dst g.result := fun hlt h8 => by
            obtain ⟨k', _, hk', hg'⟩ := h8.has.get
            have := hT.regs _ (List.getElem_mem hk')
            unfold tyR at h8
            rw [hg'] at h8
            have := Option.some.inj h8
            omega
          have h117 : ¬ x.op = 1 := by omega
          simp only [h17, h117]
          by_cases hr0 : g.result = 0
          · simp [hr0]; grind
          · by_cases hr1 : g.result < 0
            · have := hneg hr1
              simp [hr0, hr1, this]
            · have hr2 : g.result > 0 := by omega
              simp [hr0, hr1, hr2]; grind
      · rw [if_pos hn, insC_some har, if_pos (by simpa [len] using hn)]
  · rw [if_neg h17]
    exact rins_plain m f x hl hT h17 h1 h2
end Go.Proofs.YteaknconpkklhaaDoor
set_option linter.unusedVariables false
set_option linter.unusedSimpArgs false
namespace Go.Proofs.YteaknconpkklhaaDoor
open Go Go.Proofs
theorem rshape_eq (f : PFunc) (t : PTerm) (hl : t.to.length ≤ 70) : ∃ b : Bool, fettleref02_shape f t = some b ∧ (b = true ↔ EndsOk f t) := by
  unfold fettleref02_shape
  rcases scan_or t.to (le_max hl (by omega)) (fun x => 1 ≤ x ∧ x < (f.blocks.length : Int)) (fun e : Bool => e = false) (fun s => fettleref02_shape.bd8 f t s) (fun i hi => by
    simp only [fettleref02_shape.bd8, len_lt, hi, if_true, idx_lt hi, Option.bind_some, w64_i hi (show t.to.length ≤ 1000 by omega)]
    by_cases h1 : t.to[i] < 1
    · rw [if_pos h1]
      exact .inl ⟨false, by simp, rfl, fun h => by omega⟩
    · rw [if_neg h1]
      by_cases h2 : t.to[i] ≥ len f.blocks
      · exact .inl ⟨false, by simp [h2], rfl, fun h => by simp only [len] at h2; omega⟩
      · exact .inr ⟨by simp [h2], by simp only [len] at h2; omega⟩) (by simp [fettleref02_shape.bd8, len]) with ⟨e, hw, rfl, hn⟩ | ⟨hw, hall⟩
  · rw [hw]
    exact ⟨false, rfl, by simp, fun h => (hn h.to).elim⟩
  rw [hw]
  simp only [Option.bind_some, fettleref02_shape.nx8]
  by_cases h1 : t.kind = 1 ∧ len t.to = 1
  · rw [if_pos h1]
    refine ⟨true, by simp, by simp; exact ⟨hall, .inl ⟨h1.1, List.length_eq_one_iff.1 (by have := h1.2; simp only [len] at this; omega)⟩⟩⟩
  rw [if_neg h1]
  by_cases h2 : t.kind = 2 ∧ len t.to = 2
  · rw [if_pos h2]
    obtain ⟨a, b, hab⟩ := len2 (show t.to.length = 2 by have := h2.2; simp only [len] at this; omega)
    have i0 : idx t.to 0 = some a := by rw [hab]; rfl
    have i1 : idx t.to 1 = some b := by rw [hab]; rfl
    rw [i0, i1]
    simp only [Option.bind_some]
    refine ⟨_, rfl, ?_⟩
    rw [decide_eq_true_eq, decide_eq_true_eq]
    constructor
    · rintro (h | h)
      · exact ⟨hall, .inr (.inl ⟨h2.1, a, b, hab, h⟩)⟩
      · omega
    · intro h
      left
      rcases h.kind with ⟨h, _⟩ | ⟨_, a', b', h', hne⟩ | ⟨h, _⟩
      · omega
      · rw [hab] at h'; cases h'; exact hne
      · omega
  · rw [if_neg h2]
    simp only [Option.bind_some]
    refine ⟨_, rfl, ?_⟩
    rw [decide_eq_true_eq]
    constructor
    · rintro (h | h)
      · simp at h
      · exact ⟨hall, .inr (.inr ⟨h.1, List.eq_nil_of_length_eq_zero (by have := h.2; simp only [len] at this; omega)⟩)⟩
    · intro h
      rcases h.kind with ⟨h3, a, ha⟩ | ⟨h3, a, b, ha, _⟩ | ⟨h3, ha⟩
      · exact absurd ⟨h3, by rw [ha]; rfl⟩ h1
      · exact absurd ⟨h3, by rw [ha]; rfl⟩ h2
      · exact .inr ⟨h3, by rw [ha]; rfl⟩
theorem outer_c (f : PFunc) (hf : SmF f) : (¬ SmallOk f ∧ fettleref02_outer f = some 5) ∨ (SmallOk f ∧ ¬ TypedOk f ∧ fettleref02_outer f = some 3) ∨ (SmallOk f ∧ TypedOk f ∧ (¬ ∀ B ∈ f.blocks, EndsOk f B.term) ∧ fettleref02_outer f = some 6) ∨
    (SmallOk f ∧ TypedOk f ∧ (∀ B ∈ f.blocks, EndsOk f B.term) ∧ (¬ ∀ i (hi : i < f.blocks.length), ∀ p ∈ f.blocks[i].phis, p.args.length = (preds (nexts f) i).length) ∧ fettleref02_outer f = some 6) ∨
    (SmallOk f ∧ TypedOk f ∧ (∀ B ∈ f.blocks, EndsOk f B.term) ∧ (∀ i (hi : i < f.blocks.length), ∀ p ∈ f.blocks[i].phis, p.args.length = (preds (nexts f) i).length) ∧ fettleref02_outer f = some 0) := by
  obtain ⟨hn, hr, hp, hB⟩ := id hf
  unfold fettleref02_outer
  have hrun := whl_run (body := fun (s : (Int × Int)) => fettleref02_outer.bd8 f s.1 s.2) (r := ((insCount f : Nat) : Int)) f.blocks.length FUEL
    (fun i => ((((f.blocks.take i).map fun (B : PBlock) => B.phis.length + B.ins.length + 1).sum : Nat), (i : Int))) (fun i hi => by
      obtain ⟨b1, b2, _⟩ := hf.2.2.2 _ (List.getElem_mem hi)
      have hs := sum_take f hf i (by omega)
      simp only [fettleref02_outer.bd8, len_lt, hi, if_true, idx_lt hi, Option.bind_some, w64_i hi (show f.blocks.length ≤ 1000 by omega), len]
      rw [List.take_succ_eq_append_getElem hi, List.map_append, List.sum_append]
      simp only [List.map_cons, List.map_nil, List.sum_cons, List.sum_nil]
      rw [w64_id (x := ((((f.blocks.take i).map fun (B : PBlock) => B.phis.length + B.ins.length + 1).sum : Nat) : Int) + f.blocks[i].phis.length) ⟨by omega, by omega⟩, w64_id (x := ((((f.blocks.take i).map fun (B : PBlock) => B.phis.length + B.ins.length + 1).sum : Nat) : Int) + f.blocks[i].phis.length + f.blocks[i].ins.length) ⟨by omega, by omega⟩, w64_id ⟨by omega, by omega⟩]
      congr 3
      omega) (by simp [fettleref02_outer.bd8, len, insCount]) (lt_FUEL (le_max hf.1 (by omega)))
  simp only [List.take_zero, List.map_nil, List.sum_nil] at hrun
  have h00 : (((0 : Nat) : Int), ((0 : Nat) : Int)) = ((0 : Int), (0 : Int)) := rfl
  rw [h00] at hrun
  rw [hrun]
  simp only [Option.bind_some, fettleref02_outer.nx8]
  by_cases hS : ¬ SmallOk f
  · left
    refine ⟨hS, ?_⟩
    rw [if_pos]
    simp only [len]
    by_cases h1 : 1 ≤ f.blocks.length
    · by_cases h2 : f.blocks.length ≤ 64
      · by_cases h3 : f.regs.length ≤ 256
        · right
          by_cases h4 : insCount f ≤ 256
          · exact absurd ⟨h1, h2, h3, h4⟩ hS
          · omega
        · left; right; omega
      · left; left; right; omega
    · left; left; left; omega
  have hS := Classical.not_not.1 hS
  rw [if_neg (by have := hS.pos; have := hS.blocks; have := hS.regs; have := hS.ins; simp only [len]; omega)]
  right
  have hregs := scan_or f.regs (le_max hr (by omega)) (fun t => t = 1 ∨ t = 2) (fun e : Int => e = 3) (fun s => fettleref02_outer.bd35 f s) (fun i hi => by
    simp only [fettleref02_outer.bd35, len_lt, hi, if_true, idx_lt hi, Option.bind_some, w64_i hi (show f.regs.length ≤ 1000 by omega)]
    by_cases h1 : f.regs[i] = 1
    · rw [if_neg (by simpa using h1)]
      exact .inr ⟨by simp, .inl h1⟩
    · rw [if_pos h1]
      by_cases h2 : f.regs[i] = 2
      · exact .inr ⟨by simp [h2], .inr h2⟩
      · exact .inl ⟨3, by simp [h2], rfl, fun h => h.elim h1 h2⟩) (by simp [fettleref02_outer.bd35, len])
  rcases hregs with ⟨e, hw, rfl, hnot⟩ | ⟨hw, hall⟩
  · rw [hw]
    exact .inl ⟨hS, fun h => hnot h.regs, rfl⟩
  rw [hw]
  simp only [Option.bind_some, fettleref02_outer.nx35]
  by_cases hc : (((f.params < 0 ∨ f.params > 8) ∨ f.params > (len f.regs)) ∨ f.result < 0) ∨ f.result > 2
  · rw [if_pos hc]
    refine .inl ⟨hS, fun h => ?_, rfl⟩
    have := h.nn; have := h.few; have := h.le; have := h.res
    simp only [len] at hc; omega
  rw [if_neg hc]
  simp only [len] at hc
  have hT : TypedOk f := ⟨hall, by omega, by omega, by omega, by omega⟩
  right
  rcases scan_or f.blocks (le_max hn (by omega)) (fun (B : PBlock) => EndsOk f B.term) (fun e : Int => e = 6) (fun s => fettleref02_outer.bd67 f s) (fun i hi => by
    obtain ⟨d, hd1, hd2⟩ := rshape_eq f f.blocks[i].term (hB _ (List.getElem_mem hi)).2.2.1
    simp only [fettleref02_outer.bd67, len_lt, hi, if_true, idx_lt hi, Option.bind_some, hd1, w64_i hi (show f.blocks.length ≤ 1000 by omega)]
    cases d with
    | false => exact .inl ⟨_, by simp, rfl, fun h => by simpa using hd2.2 h⟩
    | true => exact .inr ⟨by simp, hd2.1 rfl⟩) (by simp [fettleref02_outer.bd67, len]) with ⟨e, hw2, rfl, hnot⟩ | ⟨hw2, hends⟩
  · rw [hw2]
    exact .inl ⟨hS, hT, hnot, rfl⟩
  rw [hw2]
  simp only [Option.bind_some, fettleref02_outer.nx67]
  right
  rcases scan_ix f.blocks.length (le_max hn (by omega)) (fun i => ∀ B, f.blocks[i]? = some B → ∀ p ∈ B.phis, p.args.length = (preds (nexts f) i).length) (fun e : Int => e = 6) (fun s => fettleref02_outer.bd76 f s) (fun i hi => by
    obtain ⟨b1, b2, b3, b4, b5⟩ := hB _ (List.getElem_mem hi)
    simp only [fettleref02_outer.bd76, len_lt, hi, if_true, Option.bind_some]
    rcases scan_or f.blocks[i].phis (le_max b2 (by omega)) (fun p => p.args.length = (preds (nexts f) i).length) (fun e : Int => e = 6) (fun s => fettleref02_outer.bd90 f (i : Int) s) (fun j hj => by
      simp only [fettleref02_outer.bd90, idx_lt hi, len_lt, hj, if_true, idx_lt hj, Option.bind_some, refAhead_eq f hf i hi, w64_i hj (show f.blocks[i].phis.length ≤ 1000 by omega)]
      by_cases hc : f.blocks[i].phis[j].args.length = (preds (nexts f) i).length
      · exact .inr ⟨by rw [if_neg (by simp only [len]; omega)], hc⟩
      · exact .inl ⟨_, by rw [if_pos (by simp only [len]; omega)], rfl, hc⟩) (by simp [fettleref02_outer.bd90, len, idx_lt hi]) with ⟨e, hw3, rfl, hnot⟩ | ⟨hw3, hall3⟩
    · rw [hw3]; exact .inl ⟨_, rfl, rfl, fun h => hnot (h _ (List.getElem?_eq_getElem hi))⟩
    · rw [hw3]; exact .inr ⟨by simp only [Option.bind_some, fettleref02_outer.nx90, w64_i hi (show f.blocks.length ≤ 1000 by omega)], fun B hB' => by rw [List.getElem?_eq_getElem hi] at hB'; cases hB'; exact hall3⟩) (by simp [fettleref02_outer.bd76, len]) with ⟨e, hw3, rfl, hnot⟩ | ⟨hw3, hah⟩
  · rw [hw3]
    exact .inl ⟨hS, hT, hends, fun h => hnot fun i hi B hB' => by rw [List.getElem?_eq_getElem hi] at hB'; cases hB'; exact h i hi, rfl⟩
  · rw [hw3]
    exact .inr ⟨hS, hT, hends, fun i hi => hah i hi _ (List.getElem?_eq_getElem hi), rfl⟩
theorem rend_c (f : PFunc) (t : PTerm) (hT : TypedOk f) (hE : EndsOk f t) : fettleref02_end f t = some (endC f t) := by
  unfold fettleref02_end endC
  have hk : t.kind = 1 ∨ t.kind = 2 ∨ t.kind = 3 := by
    rcases hE.kind with ⟨h, _⟩ | ⟨h, _⟩ | ⟨h, _⟩ <;> omega
  by_cases h2 : t.kind = 2
  · rw [if_pos h2, is_c, if_neg (by omega), if_neg (by omega)]
    simp only [Option.bind_some]
    unfold isC
    congr 1
    exact lv_congr Iff.rfl fun _ => by simp
  rw [if_neg h2]
  by_cases h3 : t.kind = 3 ∧ ¬ f.result = 0
  · rw [if_pos h3, is_c, if_neg (by omega), if_pos h3.1]
    simp only [Option.bind_some]
    unfold isC
    congr 1
    have := hT.res
    exact lv_congr Iff.rfl fun _ => ⟨fun h => h.2, fun h => ⟨by omega, h⟩⟩
  rw [if_neg h3, if_pos (show t.kind = 1 ∨ (t.kind = 3 ∧ f.result = 0) by omega)]
  by_cases h4 : t.arg = -1
  · rw [if_neg (by simpa using h4), if_pos h4]
  · rw [if_pos h4, if_neg h4]
theorem rphi_c (f : PFunc) (p : PPhi) (hT : TypedOk f) (hl : p.args.length ≤ 300) (k : Int) (hk : w64 (k + 1) = k + 1) :
    ((fettleref02_is f p.dst (-1)).bind fun x53 => (whl (fun (s : (Int × Int)) => fettleref02_Func.bd76 f p s.1 s.2) FUEL (x53, 0)).bind fun z => fettleref02_Func.nx76 f k p z) = some (if phiC f p = 0 then .go (k + 1) else .ret (.ret (phiC f p))) := by
  have h1 : ∀ r, isC f r (-1) = lv (¬ hasR f r) False := fun r => lv_congr Iff.rfl fun _ => ⟨fun h => by have := h.1; omega, fun h => h.elim⟩
  rw [is_c]
  simp only [Option.bind_some]
  have hw := whl_fold p.args (fun c a => wst c (isC f a (-1))) (isC f p.dst (-1)) (body := fun (s : (Int × Int)) => fettleref02_Func.bd76 f p s.1 s.2) (by omega) (fun i hi c => by
    simp only [fettleref02_Func.bd76, len_lt, hi, if_true, idx_lt hi, Option.bind_some, is_c, worst_c, w64_i hi (show p.args.length ≤ 1000 by omega)]) (fun s => by simp [fettleref02_Func.bd76, len])
  rw [hw]
  have hfold := fold_wst f (p.args.map fun a => (a, -1)) (¬ hasR f p.dst) False
  rw [List.foldl_map] at hfold
  rw [h1 p.dst, hfold]
  simp only [Option.bind_some, fettleref02_Func.nx76]
  have hz : lv ((¬ hasR f p.dst) ∨ ¬ ∀ q ∈ p.args.map (fun a => (a, (-1 : Int))), hasR f q.1) (False ∨ ¬ ∀ q ∈ p.args.map (fun a => (a, (-1 : Int))), q.2 ≥ 0 → tyR f q.1 q.2) = lv ((¬ hasR f p.dst) ∨ ¬ ∀ a ∈ p.args, hasR f a) False := by
    refine lv_congr (by simp) fun _ => ?_
    simp
  rw [hz]
  have key : whl (fun (s : (Int × Int)) => fettleref02_Func.bd85 f p s.1 s.2) FUEL (lv ((¬ hasR f p.dst) ∨ ¬ ∀ a ∈ p.args, hasR f a) False, 0) = some (phiC f p) := by
    by_cases h4 : (¬ hasR f p.dst) ∨ ¬ ∀ a ∈ p.args, hasR f a
    · have e : phiC f p = 4 := lv4 h4
      rw [lv4 h4, e]
      have := whl_run (body := fun (s : (Int × Int)) => fettleref02_Func.bd85 f p s.1 s.2) (r := (4 : Int)) 0 FUEL (fun i => ((4 : Int), (i : Int))) (fun i hi => by omega) (by simp [fettleref02_Func.bd85]) (lt_FUEL (by simp only [maxLen]; omega))
      exact this
    · rw [lv0 h4 (fun h => h)]
      have hd : hasR f p.dst := Classical.byContradiction fun k => h4 (.inl k)
      have ha : ∀ a ∈ p.args, hasR f a := Classical.byContradiction fun k => h4 (.inr k)
      obtain ⟨d, hd1, hd2, hd3⟩ := hd.get
      have hty := hT.regs _ (List.getElem_mem hd2)
      obtain ⟨r, hr, hR⟩ := whl_for (s0 := ((0 : Int), (0 : Int))) (body := fun (s : (Int × Int)) => fettleref02_Func.bd85 f p s.1 s.2) p.args.length
        (fun i s => s.2 = (i : Int) ∧ ((s.1 = 0 ∧ ∀ j (hj : j < p.args.length), j < i → tyR f p.args[j] f.regs[d]) ∨ (s.1 = 3 ∧ ¬ ∀ a ∈ p.args, tyR f a f.regs[d])))
        (fun r => (r = 0 ∧ ∀ a ∈ p.args, tyR f a f.regs[d]) ∨ (r = 3 ∧ ¬ ∀ a ∈ p.args, tyR f a f.regs[d])) (le_max hl (by omega)) (fun i s hi hI => by
          obtain ⟨c, q⟩ := s
          obtain ⟨rfl, hI⟩ := hI
          simp only at hI
          rcases hI with ⟨rfl, hI⟩ | ⟨rfl, hI⟩
          · have hai := ha _ (List.getElem_mem hi)
            have hi' : (i : Int) < len p.args := by simp only [len]; omega
            have hcode : isC f p.args[i] f.regs[d] = lv False (¬ tyR f p.args[i] f.regs[d]) := lv_congr ⟨fun h => h hai, fun h => h.elim⟩ fun _ => ⟨fun h => h.2, fun h => ⟨by omega, h⟩⟩
            refine .inr ⟨_, by simp only [fettleref02_Func.bd85, hi', and_self, if_true, idx_lt hi, hd3, Option.bind_some, is_c, w64_i hi (show p.args.length ≤ 1000 by omega), true_and]; rfl, rfl, ?_⟩
            simp only [hcode]
            by_cases ht : tyR f p.args[i] f.regs[d]
            · left
              refine ⟨lv0 (fun h => h) (fun h => h ht), fun j hj hji => ?_⟩
              rcases Nat.lt_succ_iff_lt_or_eq.1 hji with h | rfl
              · exact hI j hj h
              · exact ht
            · right
              exact ⟨lv3 (fun h => h) ht, fun h => ht (h _ (List.getElem_mem hi))⟩
          · exact .inl ⟨3, by simp [fettleref02_Func.bd85], .inr ⟨rfl, hI⟩⟩) (fun s hI => by
          obtain ⟨c, q⟩ := s
          obtain ⟨rfl, hI⟩ := hI
          simp only at hI
          rcases hI with ⟨rfl, hI⟩ | ⟨rfl, hI⟩
          · refine ⟨0, by simp [fettleref02_Func.bd85, len], .inl ⟨rfl, fun a ham => ?_⟩⟩
            obtain ⟨j, hj, rfl⟩ := List.getElem_of_mem ham
            exact hI j hj hj
          · exact ⟨3, by simp [fettleref02_Func.bd85], .inr ⟨rfl, hI⟩⟩) ⟨rfl, .inl ⟨rfl, fun j hj h => by omega⟩⟩
      rw [hr]
      have hsame : (∀ a ∈ p.args, tyR f a f.regs[d]) ↔ ∀ a ∈ p.args, idx f.regs a = idx f.regs p.dst := by
        rw [hd3]; exact Iff.rfl
      rcases hR with ⟨rfl, hall⟩ | ⟨rfl, hnot⟩
      · rw [show phiC f p = 0 from lv0 h4 (fun h => h (hsame.1 hall))]
      · rw [show phiC f p = 3 from lv3 h4 (fun h => hnot (hsame.2 h))]
  rw [key]
  simp only [Option.bind_some, fettleref02_Func.nx85, hk]
  by_cases h : phiC f p = 0
  · rw [if_neg (by simpa using h), if_pos h]
  · rw [if_pos h, if_neg h]
theorem c_step {c : Int} {ρ σ : Type} (s : σ) (out : Int → ρ) : (if ¬ c = 0 then some (Ex.ret (Ex.ret (out c) : Ex ρ Unit)) else some (Ex.go s) : Option (Ex (Ex ρ Unit) σ)) = some (if c = 0 then .go s else .ret (.ret (out c))) := by
  by_cases h : c = 0
  · rw [if_pos h, if_neg (by simp [h])]
  · rw [if_neg h, if_pos h]
theorem rfunc_c (m : PModule) (k : Nat) (hk : k < m.funcs.length) (hf : SmF m.funcs[k]) : fettleref02_Func m (k : Int) = some (funC m m.funcs[k]) := by
  obtain ⟨hn, hr, hp, hB⟩ := id hf
  unfold fettleref02_Func
  rw [idx_lt hk]
  simp only [Option.bind_some]
  generalize m.funcs[k] = f at *
  rcases outer_c f hf with ⟨h1, ho⟩ | ⟨h1, h2, ho⟩ | ⟨h1, h2, h3, ho⟩ | ⟨h1, h2, h3, h4, ho⟩ | ⟨h1, h2, h3, h4, ho⟩
  · rw [ho, funC_5 h1]; rfl
  · rw [ho, funC_3 h1 h2]; rfl
  · rw [ho, funC_6 h1 h2 h3]; rfl
  · rw [ho, funC_7 h1 h2 h3 h4]; rfl
  rw [ho, funC_b h1 h2 h3 h4]
  simp only [Option.bind_some]
  rw [if_neg (by simp)]
  have hs := scan_nz (f.blocks.map (blkC m f)) (fun c => c) (fun s => fettleref02_Func.bd14 m f s) (le_max (show (f.blocks.map (blkC m f)).length ≤ 70 by simpa using hn) (by omega)) (fun i hi => by
    have hi : i < f.blocks.length := by simpa using hi
    obtain ⟨b1, b2, b3, b4, b5⟩ := hB _ (List.getElem_mem hi)
    have hE := h3 _ (List.getElem_mem hi)
    simp only [fettleref02_Func.bd14, len_lt, hi, if_true, idx_lt hi, Option.bind_some, List.getElem_map]
    have hphi := scan_nz (f.blocks[i].phis.map (phiC f)) (fun c => c) (fun s => fettleref02_Func.bd31 f f.blocks[i] s) (le_max (show (f.blocks[i].phis.map (phiC f)).length ≤ 300 by simpa using b2) (by omega)) (fun j hj => by
      have hj : j < f.blocks[i].phis.length := by simpa using hj
      have hw := w64_i hj (show f.blocks[i].phis.length ≤ 1000 by omega)
      simp only [fettleref02_Func.bd31, len_lt, hj, if_true, idx_lt hj, Option.bind_some, List.getElem_map]
      rw [rphi_c f f.blocks[i].phis[j] h2 (b5 _ (List.getElem_mem hj)) (j : Int) (by rw [hw]; omega)]
      rfl) (by simp [fettleref02_Func.bd31, len])
    rw [hphi]
    unfold blkC
    by_cases hz : firstNZ (f.blocks[i].phis.map (phiC f)) = 0
    · rw [if_pos hz, hz, firstNZ_cons0]
      simp only [Option.bind_some, fettleref02_Func.nx31]
      have hins := scan_nz (f.blocks[i].ins.map (insC m f)) (fun c => c) (fun s => fettleref02_Func.bd40 m f f.blocks[i] s) (le_max (show (f.blocks[i].ins.map (insC m f)).length ≤ 300 by simpa using b1) (by omega)) (fun j hj => by
        have hj : j < f.blocks[i].ins.length := by simpa using hj
        simp only [fettleref02_Func.bd40, len_lt, hj, if_true, idx_lt hj, Option.bind_some, List.getElem_map, rins_c m f f.blocks[i].ins[j] (b4 _ (List.getElem_mem hj)) h2, w64_i hj (show f.blocks[i].ins.length ≤ 1000 by omega)]
        rw [c_step (out := fun c => c)]) (by simp [fettleref02_Func.bd40, len])
      rw [hins]
      by_cases hy : firstNZ (f.blocks[i].ins.map (insC m f)) = 0
      · rw [if_pos hy, hy, firstNZ_cons0]
        simp only [Option.bind_some, fettleref02_Func.nx40, rend_c f f.blocks[i].term h2 hE, w64_i hi (show f.blocks.length ≤ 1000 by omega)]
        rw [c_step (out := fun c => c)]
        by_cases he : endC f f.blocks[i].term = 0
        · rw [he]; rfl
        · rw [firstNZ_cons _ he]
      · rw [if_neg hy, firstNZ_cons _ hy]
        simp only [Option.bind_some]
        rw [if_neg hy]
    · rw [if_neg hz, firstNZ_cons _ hz]
      simp only [Option.bind_some]
      rw [if_neg hz]) (by simp [fettleref02_Func.bd14, len])
  rw [hs]
  by_cases hz : firstNZ (f.blocks.map (blkC m f)) = 0
  · rw [if_pos hz, hz]; rfl
  · rw [if_neg hz]; rfl
/-- check.Module tells what the document says. -/
theorem module_exact (m : PModule) (hm : SmM m) : ∃ e c a, check_Module m = some e ∧ fettleref02_Module m = some (c, a) ∧ ofF e = (c, a) ∧ (e = .no ↔ c = 0) := by
  obtain ⟨hl, hf⟩ := hm
  unfold check_Module fettleref02_Module
  by_cases h : m.funcs.length ≤ 32
  · rw [if_neg (by simp only [len]; omega), if_neg (by simp only [len]; omega)]
    have hmx := le_max hl (by omega)
    rcases scan0 m.funcs (fun i f => if funC m f = 0 then none else some (GErr.spot (i : Int) (gErr (funC m f)))) (fun s => check_Module.bd11 m s) hmx (fun i hi => by
      simp only [check_Module.bd11, len_lt, hi, if_true, Option.bind_some, func_c m i hi (hf _ (List.getElem_mem hi)), w64_at hi hmx]
      by_cases hc : funC m m.funcs[i] = 0
      · rw [if_pos hc, if_neg (by simp [gErr_no, hc])]
      · rw [if_neg hc, if_pos (by simp [gErr_no, hc])]) (by simp [check_Module.bd11, len]) with ⟨i, hi, r, h1, h2, h3⟩ | ⟨h1, h3⟩
    · rcases scan0 m.funcs (fun i f => if funC m f = 0 then none else some (funC m f, (i : Int))) (fun s => fettleref02_Module.bd11 m s) hmx (fun i hi => by
        simp only [fettleref02_Module.bd11, len_lt, hi, if_true, Option.bind_some, rfunc_c m i hi (hf _ (List.getElem_mem hi)), w64_at hi hmx]
        by_cases hc : funC m m.funcs[i] = 0
        · rw [if_pos hc, if_neg (by simpa using hc)]
        · rw [if_neg hc, if_pos hc]) (by simp [fettleref02_Module.bd11, len]) with ⟨j, hj, q, g1, g2, g3⟩ | ⟨g1, g3⟩
      · have hij : i = j := by
          rcases Nat.lt_trichotomy i j with h | h | h
          · have := g2 i hi h
            by_cases hc : funC m m.funcs[i] = 0
            · rw [if_pos hc] at h1; cases h1
            · rw [if_neg hc] at this; cases this
          · exact h
          · have := h2 j hj h
            by_cases hc : funC m m.funcs[j] = 0
            · rw [if_pos hc] at g1; cases g1
            · rw [if_neg hc] at this; cases this
        subst hij
        rw [h3, g3]
        by_cases hc : funC m m.funcs[i] = 0
        · rw [if_pos hc] at h1; cases h1
        · rw [if_neg hc] at h1 g1
          cases h1; cases g1
          refine ⟨_, _, _, rfl, rfl, ?_, by simp [hc]⟩
          have := funC_range m m.funcs[i]
          simp only [ofF, gErr, if_neg hc, codeF]
          rw [if_pos (by omega)]
      · exfalso
        have := g1 i hi
        by_cases hc : funC m m.funcs[i] = 0
        · rw [if_pos hc] at h1; cases h1
        · rw [if_neg hc] at this; cases this
    · rcases scan0 m.funcs (fun i f => if funC m f = 0 then none else some (funC m f, (i : Int))) (fun s => fettleref02_Module.bd11 m s) hmx (fun i hi => by
        simp only [fettleref02_Module.bd11, len_lt, hi, if_true, Option.bind_some, rfunc_c m i hi (hf _ (List.getElem_mem hi)), w64_at hi hmx]
        by_cases hc : funC m m.funcs[i] = 0
        · rw [if_pos hc, if_neg (by simpa using hc)]
        · rw [if_neg hc, if_pos hc]) (by simp [fettleref02_Module.bd11, len]) with ⟨j, hj, q, g1, g2, g3⟩ | ⟨g1, g3⟩
      · exfalso
        have := h1 j hj
        by_cases hc : funC m m.funcs[j] = 0
        · rw [if_pos hc] at g1; cases g1
        · rw [if_neg hc] at this; cases this
      · rw [h3, g3]
        exact ⟨_, _, _, rfl, rfl, rfl, by simp⟩
  · rw [if_pos (by simp only [len]; omega), if_pos (by simp only [len]; omega)]
    exact ⟨_, _, _, rfl, rfl, rfl, by simp⟩
end Go.Proofs.YteaknconpkklhaaDoor
set_option linter.unusedVariables false
set_option linter.unusedSimpArgs false
namespace Go.Proofs.YteaknconpkklhaaDoor
open Go Go.Proofs
/-- The inner loop of the reference: whether the block is told already, or is out of range. -/
theorem refNext_in (acc : List Int) (t : Int) (b0 : Bool) (hl : acc.length ≤ maxLen) :
    whl (fun (s : Bool × Int) => fettleref05_Next.bd34 acc t s.1 s.2) FUEL (b0, 0) = some (b0 || decide (t ∈ acc)) := by
  have := whl_run (body := fun (s : Bool × Int) => fettleref05_Next.bd34 acc t s.1 s.2) (r := b0 || decide (t ∈ acc)) acc.length FUEL
    (fun i => (b0 || decide (t ∈ acc.take i), (i : Int))) (fun i hi => by
      simp only [fettleref05_Next.bd34, len_lt, hi, if_true, idx_lt hi, Option.bind_some, w64_at hi hl, List.take_succ_eq_append_getElem hi, List.mem_append, List.mem_singleton]
      cases hb : (b0 || decide (t ∈ acc.take i)) with
      | true =>
        simp only [if_true, Option.bind_some]
        have : (b0 || decide (t ∈ List.take i acc ∨ t = acc[i])) = true := by
          simp only [Bool.or_eq_true, decide_eq_true_eq] at hb ⊢
          rcases hb with hb | hb
          · exact .inl hb
          · exact .inr (.inl hb)
        rw [this]
      | false =>
        simp only [Bool.or_eq_false_iff, decide_eq_false_iff_not] at hb
        simp only [Bool.false_eq_true, if_false, Option.bind_some, hb.1, Bool.false_or, hb.2, false_or, eq_comm (a := t)])
    (by simp [fettleref05_Next.bd34, len]) (lt_FUEL hl)
  simpa using this
theorem refNext_eq (f : PFunc) (b : Nat) (hb : b < f.blocks.length) (hn : f.blocks.length ≤ maxLen) (ht : (f.blocks[b]).term.to.length ≤ 70) :
    fettleref05_Next f b = some (succs f.blocks.length (f.blocks[b]).term.to) := by
  unfold fettleref05_Next
  have hrun := whl_run (body := fun (s : List Int × Int) => fettleref05_Next.bd8 f b s.1 s.2) (r := succs f.blocks.length (f.blocks[b]).term.to) (f.blocks[b]).term.to.length FUEL
    (fun i => (((f.blocks[b]).term.to.take i).foldl (addS f.blocks.length) [], (i : Int))) (fun i hi => by
      have hal : (((f.blocks[b]).term.to.take i).foldl (addS f.blocks.length) []).length ≤ 70 := by
        have := foldl_addS_length f.blocks.length ((f.blocks[b]).term.to.take i) []
        simp at this; omega
      simp only [fettleref05_Next.bd8, idx_lt hb, Option.bind_some, len_lt, hi, if_true, idx_lt hi, foldl_take _ _ _ hi]
      rw [refNext_in _ _ _ (by simp only [maxLen]; omega)]
      simp only [Option.bind_some, fettleref05_Next.nx34, fettleref05_Next.jn19, w64_at hi (show (f.blocks[b]).term.to.length ≤ maxLen by simp only [maxLen]; omega)]
      generalize ((f.blocks[b]).term.to.take i).foldl (addS f.blocks.length) [] = acc at hal
      generalize (f.blocks[b]).term.to[i] = t
      unfold addS
      by_cases hc : 0 ≤ t ∧ t < (f.blocks.length : Int) ∧ t ∉ acc
      · rw [if_pos hc]
        have h1 : (decide (t < 0 ∨ t ≥ len f.blocks) || decide (t ∈ acc)) = false := by
          simp only [Bool.or_eq_false_iff, decide_eq_false_iff_not, len]
          exact ⟨by omega, hc.2.2⟩
        rw [h1]
        have h2 : acc.length + 1 < LIM := by simp only [LIM]; omega
        simp [cat, h2]
      · rw [if_neg hc]
        have h1 : (decide (t < 0 ∨ t ≥ len f.blocks) || decide (t ∈ acc)) = true := by
          simp only [Bool.or_eq_true, decide_eq_true_eq, len]
          by_cases h2 : t ∈ acc
          · exact .inr h2
          · left
            by_cases h3 : t < 0
            · exact .inl h3
            · right
              by_cases h4 : t < (f.blocks.length : Int)
              · exact absurd ⟨by omega, h4, h2⟩ hc
              · omega
        rw [h1]
        simp) (by simp [fettleref05_Next.bd8, idx_lt hb, len, succs]) (lt_FUEL (by simp only [maxLen]; omega))
  simp only [List.take_zero, List.foldl_nil] at hrun
  have h0 : (([] : List Int), ((0 : Nat) : Int)) = (([] : List Int), (0 : Int)) := rfl
  rw [h0] at hrun
  rw [hrun]
  rfl
/-! ### What From marks -/
def nxW (f : PFunc) (w : Int) : List (List Int) := (nexts f).map fun row => row.filter fun x => decide (x ≠ w)
theorem nxW_get (f : PFunc) (w : Int) {v : Nat} {row : List Int} (h : (nexts f)[v]? = some row) : (nxW f w)[v]? = some (row.filter fun x => decide (x ≠ w)) := by simp [nxW, h]
theorem nxW_inv (f : PFunc) (w : Int) {v : Nat} {row : List Int} (h : (nxW f w)[v]? = some row) : ∃ r, (nexts f)[v]? = some r ∧ row = r.filter fun x => decide (x ≠ w) := by
  unfold nxW at h
  rw [List.getElem?_map] at h
  cases hr : (nexts f)[v]? with
  | none => rw [hr] at h; cases h
  | some r => rw [hr] at h; cases h; exact ⟨r, rfl, rfl⟩
theorem fromW_row (f : PFunc) (w : Int) (v : Nat) (row : List Int) (hrow : (nexts f)[v]? = some row) (s : List Bool) (hl : s.length = f.blocks.length) (hv : sn s v) (hr70 : row.length ≤ 70) (hin : ∀ x ∈ row, 0 ≤ x ∧ x < (f.blocks.length : Int)) :
    ∃ z, whl (fun (q : List Bool × Int) => fettleref05_From.bd59 w row q.1 q.2) FUEL (s, 0) = some z ∧ M (nxW f w) s z ∧ ∀ x ∈ row, x ≠ w → ∃ u : Nat, x = u ∧ sn z u := by
  refine whl_ex (fun q : List Bool × Int => ∃ i : Nat, q.2 = i ∧ i ≤ row.length ∧ M (nxW f w) s q.1 ∧ ∀ x ∈ row.take i, x ≠ w → ∃ u : Nat, x = u ∧ sn q.1 u)
    (fun q => row.length - q.2.toNat) (fun z : List Bool => M (nxW f w) s z ∧ ∀ x ∈ row, x ≠ w → ∃ u : Nat, x = u ∧ sn z u) ?_ FUEL _ ⟨0, rfl, Nat.zero_le _, M.refl _ _, by simp⟩ (by simp; exact lt_FUEL (by simp only [maxLen]; omega))
  rintro ⟨s1, j⟩ ⟨i, rfl, hi, hM, hseen⟩
  simp only at hM hseen ⊢
  by_cases hlt : i < row.length
  · right
    have hx := hin _ (List.getElem_mem hlt)
    obtain ⟨t, htt⟩ : ∃ t : Nat, row[i] = t := ⟨(row[i]).toNat, by omega⟩
    have htl : t < s1.length := by rw [hM.len, hl]; omega
    have hw64 := w64_at hlt (show row.length ≤ maxLen by simp only [maxLen]; omega)
    by_cases hc : (t : Int) = w
    · refine ⟨(s1, ((i + 1 : Nat) : Int)), by simp only [fettleref05_From.bd59, len_lt, hlt, if_true, idx_lt hlt, htt, Option.bind_some]; rw [if_neg (by simpa using hc)]; simp only [fettleref05_From.jn69, hw64], ⟨i + 1, rfl, hlt, hM, fun x hx' hxw => ?_⟩, by simp; omega⟩
      rw [List.take_succ_eq_append_getElem hlt, List.mem_append] at hx'
      rcases hx' with hx' | hx'
      · exact hseen x hx' hxw
      · simp only [List.mem_singleton] at hx'
        exact absurd (hx'.trans (htt.trans hc)) hxw
    · refine ⟨(s1.set t true, ((i + 1 : Nat) : Int)), by simp only [fettleref05_From.bd59, len_lt, hlt, if_true, idx_lt hlt, htt, Option.bind_some]; rw [if_pos hc]; simp only [idx_lt htl, Option.bind_some, fettleref05_From.jn69, hw64, Int.toNat_natCast], ⟨i + 1, rfl, hlt, hM.trans ⟨by simp, fun u hu => ?_, fun C hC hs u hu => ?_⟩, fun x hx' hxw => ?_⟩, by simp; omega⟩
      · unfold sn at hu ⊢; rw [get_set _ _ _ htl]; split <;> simp_all
      · unfold sn at hu; rw [get_set _ _ _ htl] at hu
        split at hu
        · rename_i he; subst he
          exact hC v t _ (hs v (hM.mono v hv)) (nxW_get f w hrow) (List.mem_filter.2 ⟨by rw [← htt]; exact List.getElem_mem hlt, by simpa using hc⟩)
        · exact hs u hu
      · rw [List.take_succ_eq_append_getElem hlt, List.mem_append] at hx'
        rcases hx' with hx' | hx'
        · obtain ⟨u, rfl, hu⟩ := hseen x hx' hxw
          refine ⟨u, rfl, ?_⟩
          unfold sn at hu ⊢; rw [get_set _ _ _ htl]; split <;> simp_all
        · simp only [List.mem_singleton] at hx'
          exact ⟨t, hx'.trans htt, by unfold sn; rw [get_set _ _ _ htl, if_pos rfl]⟩
  · left
    have hie : i = row.length := by omega
    exact ⟨s1, by simp [fettleref05_From.bd59, len, hie], hM, fun x hx' => hseen x (by rw [hie, List.take_length]; exact hx')⟩
theorem fromW_round (f : PFunc) (w : Int) (hn : f.blocks.length ≤ 70) (ht : ∀ B ∈ f.blocks, B.term.to.length ≤ 70) (s : List Bool) (hl : s.length = f.blocks.length) :
    ∃ z, whl (fun (q : List Bool × Int) => fettleref05_From.bd37 f w q.1 q.2) FUEL (s, 0) = some z ∧ M (nxW f w) s z ∧ ∀ (v u : Nat) (row : List Int), sn s v → (nxW f w)[v]? = some row → (u : Int) ∈ row → sn z u := by
  refine whl_ex (fun q : List Bool × Int => ∃ i : Nat, q.2 = i ∧ i ≤ f.blocks.length ∧ M (nxW f w) s q.1 ∧ ∀ (v u : Nat) (row : List Int), v < i → sn s v → (nxW f w)[v]? = some row → (u : Int) ∈ row → sn q.1 u)
    (fun q => f.blocks.length - q.2.toNat) (fun z : List Bool => M (nxW f w) s z ∧ ∀ (v u : Nat) (row : List Int), sn s v → (nxW f w)[v]? = some row → (u : Int) ∈ row → sn z u) ?_ FUEL _ ⟨0, rfl, Nat.zero_le _, M.refl _ _, fun v u row h => by omega⟩ (by simp; exact lt_FUEL (by simp only [maxLen]; omega))
  rintro ⟨s1, j⟩ ⟨i, rfl, hi, hM, hdone⟩
  simp only at hM hdone ⊢
  have hl1 : s1.length = f.blocks.length := by rw [hM.len, hl]
  by_cases hlt : i < f.blocks.length
  · right
    have hlt1 : i < s1.length := by omega
    have hw := w64_at hlt (show f.blocks.length ≤ maxLen by simp only [maxLen]; omega)
    have hrow : (nexts f)[i]? = some (succs f.blocks.length (f.blocks[i]).term.to) := by simp [nexts, hlt]
    cases hs : s1[i] with
    | false =>
      refine ⟨(s1, ((i + 1 : Nat) : Int)), by simp [fettleref05_From.bd37, len_lt, hlt1, idx_lt hlt1, hs, fettleref05_From.jn47, hw], ⟨i + 1, rfl, hlt, hM, fun v u row hv h1 h2 h3 => ?_⟩, by simp; omega⟩
      rcases Nat.lt_succ_iff_lt_or_eq.1 hv with hv | hv
      · exact hdone v u row hv h1 h2 h3
      · subst hv
        have := hM.mono v h1
        unfold sn at this
        rw [List.getElem?_eq_getElem hlt1, hs] at this; cases this
    | true =>
      have hsn : sn s1 i := by unfold sn; rw [List.getElem?_eq_getElem hlt1, hs]
      have hlen := foldl_addS_length f.blocks.length (f.blocks[i]).term.to []
      have ht' := ht _ (List.getElem_mem hlt)
      obtain ⟨z, h1, h2, h3⟩ := fromW_row f w i _ hrow s1 hl1 hsn (by simp only [List.length_nil, Nat.zero_add] at hlen; exact Nat.le_trans hlen ht') succs_in
      refine ⟨(z, ((i + 1 : Nat) : Int)), by simp [fettleref05_From.bd37, len_lt, hlt1, idx_lt hlt1, hs, refNext_eq f i hlt (by simp only [maxLen]; omega) ht', h1, fettleref05_From.nx59, fettleref05_From.jn47, hw], ⟨i + 1, rfl, hlt, hM.trans h2, fun v u row hv g1 g2 g3 => ?_⟩, by simp; omega⟩
      rcases Nat.lt_succ_iff_lt_or_eq.1 hv with hv | hv
      · exact h2.mono u (hdone v u row hv g1 g2 g3)
      · subst hv
        obtain ⟨r, hr1, hr2⟩ := nxW_inv f w g2
        rw [hrow] at hr1; cases hr1
        subst hr2
        obtain ⟨g4, g5⟩ := List.mem_filter.1 g3
        obtain ⟨u', hu', g⟩ := h3 _ g4 (by simpa using g5)
        have : u = u' := by omega
        subst this; exact g
  · left
    have hie : i = f.blocks.length := by omega
    refine ⟨s1, by simp [fettleref05_From.bd37, len, hl1, hie], hM, fun v u row h1 h2 h3 => hdone v u row ?_ h1 h2 h3⟩
    rw [hie, ← hl]; exact (List.getElem?_eq_some_iff.1 h1).1
theorem fromW_all (f : PFunc) (w : Int) (hn : f.blocks.length ≤ 70) (ht : ∀ B ∈ f.blocks, B.term.to.length ≤ 70) (s : List Bool) (hl : s.length = f.blocks.length) (h0 : sn s 0) :
    ∃ z, whl (fun (q : List Bool × Int) => fettleref05_From.bd23 f w q.1 q.2) FUEL (s, 0) = some z ∧ M (nxW f w) s z ∧ Closed (nxW f w) (sn z) := by
  have hpos : 0 < s.length := (List.getElem?_eq_some_iff.1 h0).1
  have hc0 : cnt s + 1 ≤ s.length := by
    have h1 := cnt_less (s := List.replicate s.length false) (t := s) (by simp) (fun v hv => by
      unfold sn at hv; rw [List.getElem?_replicate] at hv; split at hv <;> simp at hv) h0 (fun hv => by
      unfold sn at hv; rw [List.getElem?_replicate] at hv; split at hv <;> simp at hv)
    have h2 : cnt (List.replicate s.length false) = s.length := by simp [cnt]
    omega
  refine whl_ex (fun q : List Bool × Int => ∃ i : Nat, q.2 = i ∧ i ≤ f.blocks.length ∧ M (nxW f w) s q.1 ∧ (Closed (nxW f w) (sn q.1) ∨ cnt q.1 + i + 1 ≤ f.blocks.length))
    (fun q => f.blocks.length - q.2.toNat) (fun z : List Bool => M (nxW f w) s z ∧ Closed (nxW f w) (sn z)) ?_ FUEL _ ⟨0, rfl, Nat.zero_le _, M.refl _ _, .inr (show cnt s + 0 + 1 ≤ f.blocks.length by omega)⟩ (by simp; exact lt_FUEL (by simp only [maxLen]; omega))
  rintro ⟨s1, j⟩ ⟨i, rfl, hi, hM, hcl⟩
  simp only at hM hcl ⊢
  have hl1 : s1.length = f.blocks.length := by rw [hM.len, hl]
  by_cases hlt : i < f.blocks.length
  · right
    have hlt1 : i < s1.length := by omega
    obtain ⟨z, h1, h2, h3⟩ := fromW_round f w hn ht s1 hl1
    have hw := w64_at hlt (show f.blocks.length ≤ maxLen by simp only [maxLen]; omega)
    refine ⟨(z, ((i + 1 : Nat) : Int)), by simp [fettleref05_From.bd23, len_lt, hlt1, h1, fettleref05_From.nx37, hw], ⟨i + 1, rfl, hlt, hM.trans h2, ?_⟩, by simp; omega⟩
    by_cases hc : Closed (nxW f w) (sn s1)
    · left
      have hback : ∀ v, sn z v → sn s1 v := h2.sound _ hc (fun v hv => hv)
      exact fun v u row g1 g2 g3 => h2.mono u (hc v u row (hback v g1) g2 g3)
    · right
      rcases hcl with hcl | hcl
      · exact absurd hcl hc
      · have : ∃ v, sn z v ∧ ¬ sn s1 v := Classical.byContradiction fun hno => hc fun v u row g1 g2 g3 => Classical.byContradiction fun g4 => hno ⟨u, h3 v u row g1 g2 g3, g4⟩
        obtain ⟨v, g1, g2⟩ := this
        have := cnt_less (by rw [h2.len]) h2.mono g1 g2
        show cnt z + (i + 1) + 1 ≤ f.blocks.length
        omega
  · left
    have hie : i = f.blocks.length := by omega
    refine ⟨s1, by simp [fettleref05_From.bd23, len, hl1, hie], hM, ?_⟩
    rcases hcl with hcl | hcl
    · exact hcl
    · omega
theorem from_cut (f : PFunc) (hf : SmF f) (hpos : 0 < f.blocks.length) (w : Int) (hw0 : w ≠ 0) : ∃ z, fettleref05_From f 0 w = some z ∧ z.length = f.blocks.length ∧ ∀ b, sn z b ↔ Reach (nxW f w) 0 b := by
  obtain ⟨hn, _, _, hB⟩ := hf
  have ht : ∀ B ∈ f.blocks, B.term.to.length ≤ 70 := fun B hm => (hB B hm).2.2.1
  unfold fettleref05_From
  simp only [len, mkl_rep false hn, Option.bind_some, List.length_replicate]
  rw [if_neg (by omega)]
  have hi : idx (List.replicate f.blocks.length false) 0 = some false := by
    have := idx_lt (xs := List.replicate f.blocks.length false) (i := 0) (by simpa using hpos)
    simpa using this
  rw [hi]
  simp only [Option.bind_some, Int.toNat_zero]
  have hl0 : ((List.replicate f.blocks.length false).set 0 true).length = f.blocks.length := by simp
  have h00 : sn ((List.replicate f.blocks.length false).set 0 true) 0 := by unfold sn; rw [get_set _ _ _ (by simpa using hpos), if_pos rfl]
  obtain ⟨z, h1, h2, h3⟩ := fromW_all f w hn ht _ hl0 h00
  rw [h1]
  refine ⟨z, rfl, h2.len.trans hl0, fun b => ⟨fun hb => ?_, fun hb => ?_⟩⟩
  · refine h2.sound (fun v => Reach (nxW f w) 0 v) (fun v u row g1 g2 g3 => .step g1 g2 g3) (fun v hv => ?_) b hb
    unfold sn at hv
    rw [get_set _ _ _ (by simpa using hpos)] at hv
    split at hv
    · rename_i he; subst he; exact .refl 0
    · rw [List.getElem?_replicate] at hv; split at hv <;> simp at hv
  · have hz0 : sn z 0 := h2.mono 0 h00
    induction hb with
    | refl => exact hz0
    | step _ g5 g6 ih => exact h3 _ _ _ ih g5 g6
theorem from_zero (f : PFunc) (hf : SmF f) : fettleref05_From f 0 0 = some (List.replicate f.blocks.length false) := by
  unfold fettleref05_From
  simp only [len, mkl_rep false hf.1, Option.bind_some]
  rw [if_pos (by simp)]
/-- Without restriction: what the walk has seen. -/
theorem from_any (f : PFunc) (hf : SmF f) (hpos : 0 < f.blocks.length) {s : List Bool} {o : List Int} (hw : Walked f s o) : fettleref05_From f 0 (-1) = some s := by
  obtain ⟨s1, o1, hw1, -, h11⟩ := walked_any f hf
  obtain rfl : s1 = s := Option.some.inj (hw1.rea.symm.trans hw.rea)
  obtain ⟨hV, hs0, _⟩ := h11 hpos
  obtain ⟨z, h1, h2, h3⟩ := from_cut f hf hpos (-1) (by omega)
  rw [h1]
  have hnx : nxW f (-1) = nexts f := by
    unfold nxW
    have : ∀ row ∈ nexts f, (row.filter fun x => decide (x ≠ -1)) = row := fun row hr => by
      obtain ⟨B, hB, rfl⟩ := List.mem_map.1 hr
      rw [List.filter_eq_self]
      intro x hx
      have := succs_in x hx
      simp; omega
    rw [List.map_congr_left this]; simp
  rw [hnx] at h3
  have hfalse : ∀ v, v < f.blocks.length → (List.replicate f.blocks.length false)[v]? = some false := fun v hv => by simp [hv]
  have hsl := hw1.len
  have hclS : ∀ (v u : Nat) (row : List Int), sn s1 v → (nexts f)[v]? = some row → (u : Int) ∈ row → sn s1 u := fun v u row g1 g2 g3 => hV.clos v u row g1 (hfalse v (by rw [← hsl]; exact (List.getElem?_eq_some_iff.1 g1).1)) g2 g3
  have hiff : ∀ b, sn z b ↔ sn s1 b := fun b => by
    rw [h3]
    constructor
    · intro hr
      induction hr with
      | refl => exact hs0
      | step _ g5 g6 ih => exact hclS _ _ _ ih g5 g6
    · intro hv
      obtain ⟨r, hr0, hr⟩ := hV.reach b hv (hfalse b (by rw [← hsl]; exact (List.getElem?_eq_some_iff.1 hv).1))
      have hr0 : r = 0 := hr0
      subst hr0; exact hr
  congr 1
  apply List.ext_getElem (by omega)
  intro v g1 g2
  have := hiff v
  unfold sn at this
  rw [List.getElem?_eq_getElem g1, List.getElem?_eq_getElem g2] at this
  cases h4 : z[v] <;> cases h5 : s1[v] <;> simp_all
/-! ### What dominates -/
section
variable {f : PFunc} {R : List Int}
theorem Full.pb_inj (h : Full f R) {a b : Nat} (ha : a < f.blocks.length) (hb : b < f.blocks.length) (e : pb R a = pb R b) : a = b := by
  rw [← (h.ob_pb ha).1, ← (h.ob_pb hb).1, e]
theorem Full.free_iff (h : Full f R) {a : Nat} (ha : a < f.blocks.length) (ha0 : a ≠ 0) {b : Nat} (hb : b < f.blocks.length) : Reach (nxW f (a : Int)) 0 b ↔ Free f.blocks.length (Pl f R) (pb R a) (pb R b) := by
  constructor
  · intro hr
    induction hr with
    | refl =>
      rw [h.pb0]
      exact .base fun e => ha0 (h.pb_inj ha h.pos (by rw [e, h.pb0]))
    | @step u v row hu g5 g6 ih =>
      obtain ⟨r, g7, rfl⟩ := nxW_inv f _ g5
      obtain ⟨g8, g9⟩ := List.mem_filter.1 g6
      have hul : u < f.blocks.length := by
        have := (List.getElem?_eq_some_iff.1 g7).1
        rw [nexts_length] at this; exact this
      refine .step (ih hul) ⟨(h.ob_pb hul).2, ?_⟩ (h.ob_pb hb).2 fun e => ?_
      · rw [(h.ob_pb hb).1, (h.ob_pb hul).1, List.getD_eq_getElem?_getD, g7]; exact g8
      · have := h.pb_inj hb ha e
        subst this
        simp at g9
  · intro hf
    have : ∀ i, Free f.blocks.length (Pl f R) (pb R a) i → Reach (nxW f (a : Int)) 0 (ob R i) := by
      intro i hi
      induction hi with
      | base _ => rw [h.ob0]; exact .refl 0
      | @step p i hp hpi hin hne ih =>
        obtain ⟨hpn, hm⟩ := hpi
        have hnx := nexts_get f (ob R p) (h.get hpn).2
        rw [List.getD_eq_getElem?_getD, hnx] at hm
        refine .step ih (nxW_get f _ hnx) (List.mem_filter.2 ⟨hm, ?_⟩)
        have : ob R i ≠ a := fun e => hne (by rw [← e, h.pb_ob hin])
        simp; omega
    have := this _ hf
    rwa [(h.ob_pb hb).1] at this
open Classical in
noncomputable def domB (f : PFunc) (R : List Int) (a b : Nat) : Bool := decide (¬ Free f.blocks.length (Pl f R) (pb R a) (pb R b))
open Classical in
theorem domB_iff {a b : Nat} : domB f R a b = true ↔ ¬ Free f.blocks.length (Pl f R) (pb R a) (pb R b) := by unfold domB; rw [decide_eq_true_eq]
noncomputable def domT (f : PFunc) (R : List Int) : List (List Bool) := (List.range f.blocks.length).map fun a => (List.range f.blocks.length).map fun b => domB f R a b
theorem tab_eq {T : List (List Bool)} (hD : Dim f.blocks.length f.blocks.length T) (h : ∀ v w, v < f.blocks.length → w < f.blocks.length → (Hold T v w ↔ ¬ Free f.blocks.length (Pl f R) (pb R v) (pb R w))) : T = domT f R := by
  have hl := hD.len
  apply List.ext_getElem (by simp [domT, hl])
  intro v h1 h2
  have hv : v < f.blocks.length := by omega
  obtain ⟨row, r1, r2, r3⟩ := hD.get (b := (v : Int)) (by omega) (by omega)
  rw [Int.toNat_natCast, List.getElem?_eq_getElem h1] at r2
  have r2 := Option.some.inj r2
  apply List.ext_getElem (by rw [r2, r3]; simp [domT])
  intro w g1 g2
  have hw : w < f.blocks.length := by rw [r2] at g1; omega
  have hh := h v w hv hw
  have hhold : Hold T v w ↔ T[v][w] = true := by
    constructor
    · rintro ⟨r, k1, k2⟩
      rw [List.getElem?_eq_getElem h1] at k1
      cases k1
      rw [List.getElem?_eq_getElem g1] at k2
      exact Option.some.inj k2
    · intro k
      exact ⟨T[v], List.getElem?_eq_getElem h1, by rw [List.getElem?_eq_getElem g1, k]⟩
  rw [hhold] at hh
  simp only [domT, List.getElem_map, List.getElem_range]
  rw [← domB_iff] at hh
  cases h1 : T[v][w] <;> cases h2 : domB f R v w <;> simp_all
theorem dom_table (h : Full f R) : dom_Dominates f = some (domT f R) := by
  obtain ⟨N, L, hL, hN⟩ := nearest_ok h
  obtain ⟨T, hT, hD, h1, h2⟩ := dominates_ok h hL hN
  rw [hT, tab_eq hD fun v w hv hw => ⟨fun k => (hN.iff h (h.ob_pb hw).2).1 (h1 v w k), fun k => h2 v w hv hw ((hN.iff h (h.ob_pb hw).2).2 k)⟩]
theorem free_self {n : Nat} {P : Nat → Nat → Prop} {z : Nat} : ¬ Free n P z z := fun h => by
  have : ∀ i, Free n P z i → i ≠ z := fun i hi => by
    cases hi with
    | base h => exact fun e => h e.symm
    | step _ _ _ h => exact h
  exact this z h rfl
theorem refDom (h : Full f R) : fettleref06_Dominates f = some (domT f R) := by
  have hf := h.sm
  have hn := hf.1
  have hpos := h.pos
  obtain ⟨s, o, hw, -, -⟩ := walked_any f hf
  have hs : s = List.replicate f.blocks.length true := Option.some.inj (hw.rea.symm.trans h.rea)
  unfold fettleref06_Dominates
  rw [from_any f hf hpos hw, hs]
  simp only [Option.bind_some]
  have hrun := whl_run (body := fun (s : (List (List Bool) × Int)) => fettleref06_Dominates.bd10 f (List.replicate f.blocks.length true) s.1 s.2) (r := domT f R) f.blocks.length FUEL
    (fun a => ((domT f R).take a, (a : Int))) (fun a ha => by
      have hdl : (domT f R).length = f.blocks.length := by simp [domT]
      have ha' : a < (domT f R).length := by omega
      have hrl : ((domT f R)[a]).length = f.blocks.length := by simp [domT]
      -- what can be come to without a
      obtain ⟨z, z1, z2, z3⟩ : ∃ z, fettleref05_From f 0 (a : Int) = some z ∧ z.length = f.blocks.length ∧ ∀ b (hb : b < z.length), (a = b ∨ z[b] = false) ↔ ¬ Free f.blocks.length (Pl f R) (pb R a) (pb R b) := by
        by_cases ha0 : a = 0
        · subst ha0
          refine ⟨_, from_zero f hf, by simp, fun b hb => ?_⟩
          have hnf : ¬ Free f.blocks.length (Pl f R) (pb R 0) (pb R b) := by
            rw [h.pb0]
            intro hf
            have : ∀ i, Free f.blocks.length (Pl f R) 0 i → False := fun i hi => by
              induction hi with
              | base k => exact k rfl
              | step _ _ _ _ ih => exact ih
            exact this _ hf
          simp [hnf]
        · obtain ⟨z, z1, z2, z3⟩ := from_cut f hf hpos (a : Int) (by omega)
          refine ⟨z, z1, z2, fun b hb => ?_⟩
          have hbn : b < f.blocks.length := by omega
          rw [← h.free_iff ha ha0 hbn, ← z3 b]
          unfold sn
          rw [List.getElem?_eq_getElem hb]
          by_cases e : a = b
          · subst e
            have hns : ¬ sn z a := fun hs => free_self ((h.free_iff ha ha0 ha).1 ((z3 a).1 hs))
            unfold sn at hns
            rw [List.getElem?_eq_getElem hb] at hns
            simp [hns]
          · cases z[b] <;> simp [e]
      have hlenr : len (List.replicate f.blocks.length true) = (f.blocks.length : Int) := by simp [len]
      simp only [fettleref06_Dominates.bd10, hlenr]
      rw [if_pos (by omega), z1]
      simp only [Option.bind_some, mkl_le (n := f.blocks.length) false (by omega)]
      have hrow := whl_run (body := fun (s : (List Bool × Int)) => fettleref06_Dominates.bd29 (List.replicate f.blocks.length true) (a : Int) z s.1 s.2) (r := (domT f R)[a]) f.blocks.length FUEL
        (fun b => (((domT f R)[a]).take b ++ List.replicate (f.blocks.length - b) false, (b : Int))) (fun b hb => by
          have hbz : b < z.length := by omega
          have hbl : b < (((domT f R)[a]).take b ++ List.replicate (f.blocks.length - b) false).length := by simp [hrl]; omega
          have hbr : b < (List.replicate f.blocks.length true).length := by simpa using hb
          have hbd : b < ((domT f R)[a]).length := by omega
          simp only [fettleref06_Dominates.bd29, hlenr]
          rw [if_pos (by omega), idx_lt hbr]
          simp only [Option.bind_some, List.getElem_replicate, if_true, idx_lt hbl, Int.toNat_natCast, w64_i hb (show f.blocks.length ≤ 1000 by omega)]
          have hval : (if (a : Int) = (b : Int) then some true else (idx z (b : Int)).bind fun x54 => some (!x54)) = some ((domT f R)[a][b]) := by
            have hzz := z3 b hbz
            have hdv : (domT f R)[a][b] = decide (a = b ∨ z[b] = false) := by
              simp only [domT, List.getElem_map, List.getElem_range]
              rw [← domB_iff] at hzz
              by_cases hc : a = b ∨ z[b] = false
              · rw [hzz.1 hc, decide_eq_true hc]
              · rw [decide_eq_false hc]
                cases hd : domB f R a b with
                | true => exact absurd (hzz.2 hd) hc
                | false => rfl
            rw [hdv]
            by_cases e : a = b
            · subst e; simp
            · rw [if_neg (by omega), idx_lt hbz]
              cases z[b] <;> simp [e]
          rw [hval]
          simp only [Option.bind_some]
          congr 3
          have hsplit : f.blocks.length - b = (f.blocks.length - (b + 1)) + 1 := by omega
          rw [List.set_append_right _ _ (by simp [hrl]; omega), hsplit, List.replicate_succ]
          simp only [List.length_take, hrl, Nat.min_eq_left (Nat.le_of_lt hb), Nat.sub_self, List.set_cons_zero]
          rw [List.take_succ_eq_append_getElem hbd, List.append_assoc]; rfl) (by
            simp only [fettleref06_Dominates.bd29, hlenr]
            rw [if_neg (by omega), List.take_of_length_le (by omega)]; simp) (lt_FUEL (le_max hn (by omega)))
      simp only [List.take_zero, List.nil_append, Nat.sub_zero] at hrow
      have hz : (((0 : Nat) : Int)) = 0 := rfl
      rw [hz] at hrow
      rw [hrow]
      simp only [Option.bind_some, fettleref06_Dominates.nx29]
      rw [cat_one (by rw [List.length_take]; omega)]
      simp only [Option.bind_some, w64_i ha (show f.blocks.length ≤ 1000 by omega)]
      rw [List.take_succ_eq_append_getElem ha']) (by
        simp only [fettleref06_Dominates.bd10]
        rw [if_neg (by simp [len]), List.take_of_length_le (by simp [domT])]) (lt_FUEL (le_max hn (by omega)))
  simp only [List.take_zero] at hrun
  have hz : (((0 : Nat) : Int)) = 0 := rfl
  rw [hz] at hrun
  rw [hrun]; rfl
end
end Go.Proofs.YteaknconpkklhaaDoor
set_option linter.unusedVariables false
set_option linter.unusedSimpArgs false
namespace Go.Proofs.YteaknconpkklhaaDoor
open Go Go.Proofs
/-! ### Makers -/
def mkB (L : List D3) (r : Nat) : Int := (mkr L r).block
def mkA (L : List D3) (r : Nat) : Int := (mkr L r).at_
theorem mk_step {L : List D3} {d b a : Int} {r : Nat} (h : d = (r : Int)) : (if cntD L r = 0 then ((b, a) : Int × Int) else (mkB L r, mkA L r)) = (mkB (L ++ [(d, b, a)]) r, mkA (L ++ [(d, b, a)]) r) := by
  by_cases h0 : cntD L r = 0
  · rw [if_pos h0]; unfold mkB mkA; rw [mkr_new (x := (d, b, a)) h h0]
  · rw [if_neg h0]; unfold mkB mkA; rw [mkr_old h0]
theorem mk_skip {L : List D3} {d b a : Int} {r : Nat} (h : d ≠ (r : Int)) : mkB (L ++ [(d, b, a)]) r = mkB L r ∧ mkA (L ++ [(d, b, a)]) r = mkA L r ∧ cntD (L ++ [(d, b, a)]) r = cntD L r := by
  unfold mkB mkA
  rw [mkr_ne (x := (d, b, a)) h, cntD_ne (x := (d, b, a)) h]
  exact ⟨rfl, rfl, rfl⟩
theorem refMaker_eq (f : PFunc) (hf : SmF f) (r : Nat) : fettleref13_Maker f (r : Int) = some (mkr (defs f) r, ((cntD (defs f) r : Nat) : Int)) := by
  have hn := hf.1
  unfold fettleref13_Maker
  have hrun := whl_run (body := fun (s : (Int × Int × Int × Int)) => fettleref13_Maker.bd8 f (r : Int) s.1 s.2.1 s.2.2.1 s.2.2.2) (r := (mkB (defs f) r, mkA (defs f) r, ((cntD (defs f) r : Nat) : Int))) f.blocks.length FUEL
    (fun i => (mkB (defsTo f i) r, mkA (defsTo f i) r, ((cntD (defsTo f i) r : Nat) : Int), (i : Int))) (fun i hi => by
      have hB := hf.2.2.2 _ (List.getElem_mem hi)
      obtain ⟨b1, b2, _⟩ := id hB
      have hL := defsTo_length f hf i (by omega)
      simp only [fettleref13_Maker.bd8, len_lt, hi, if_true]
      have hp := whl_run (body := fun (s : (Int × Int × Int × Int)) => fettleref13_Maker.bd24 f (r : Int) (i : Int) s.1 s.2.1 s.2.2.1 s.2.2.2) (r := (mkB (defsTo f i ++ defsP i f.blocks[i]) r, mkA (defsTo f i ++ defsP i f.blocks[i]) r, ((cntD (defsTo f i ++ defsP i f.blocks[i]) r : Nat) : Int))) f.blocks[i].phis.length FUEL
        (fun k => (mkB (defsTo f i ++ (defsP i f.blocks[i]).take k) r, mkA (defsTo f i ++ (defsP i f.blocks[i]).take k) r, ((cntD (defsTo f i ++ (defsP i f.blocks[i]).take k) r : Nat) : Int), (k : Int))) (fun k hk => by
          have hk' : k < (defsP i f.blocks[i]).length := by simpa [defsP] using hk
          have hgd : (defsP i f.blocks[i])[k] = (f.blocks[i].phis[k].dst, (i : Int), -1) := by simp [defsP]
          simp only [fettleref13_Maker.bd24, idx_lt hi, Option.bind_some, len_lt, hk, if_true, idx_lt hk]
          rw [List.take_succ_eq_append_getElem hk', ← List.append_assoc, hgd]
          have hcl := cntD_le (defsTo f i ++ (defsP i f.blocks[i]).take k) r
          rw [List.length_append, List.length_take] at hcl
          have hw := w64_i hk (show f.blocks[i].phis.length ≤ 1000 by omega)
          generalize defsTo f i ++ (defsP i f.blocks[i]).take k = L at *
          by_cases hd : f.blocks[i].phis[k].dst = (r : Int)
          · rw [if_pos hd]
            have hms := mk_step (L := L) (b := (i : Int)) (a := -1) hd
            have hc1 : cntD (L ++ [(f.blocks[i].phis[k].dst, (i : Int), -1)]) r = cntD L r + 1 := cntD_eq (x := (f.blocks[i].phis[k].dst, (i : Int), -1)) hd
            have hwc : w64 (((cntD L r : Nat) : Int) + 1) = ((cntD L r + 1 : Nat) : Int) := w64_succ (by omega)
            rw [hc1]
            by_cases h0 : cntD L r = 0
            · rw [if_pos h0] at hms
              rw [if_pos (by omega)]
              simp only [fettleref13_Maker.jn69, fettleref13_Maker.jn62, hw, hwc]
              rw [← (Prod.mk.inj hms).1, ← (Prod.mk.inj hms).2]
            · rw [if_neg h0] at hms
              rw [if_neg (by omega)]
              simp only [fettleref13_Maker.jn69, fettleref13_Maker.jn62, hw, hwc]
              rw [← (Prod.mk.inj hms).1, ← (Prod.mk.inj hms).2]
          · rw [if_neg hd]
            obtain ⟨e1, e2, e3⟩ := mk_skip (L := L) (b := (i : Int)) (a := -1) hd
            simp only [fettleref13_Maker.jn62, hw, e1, e2, e3]) (by simp [fettleref13_Maker.bd24, idx_lt hi, len, List.take_of_length_le, defsP]) (lt_FUEL (le_max b2 (by omega)))
      simp only [List.take_zero, List.append_nil] at hp
      have hz : (((0 : Nat) : Int)) = 0 := rfl
      rw [hz] at hp
      rw [hp]
      simp only [Option.bind_some, fettleref13_Maker.nx24]
      have hq := whl_run (body := fun (s : (Int × Int × Int × Int)) => fettleref13_Maker.bd31 f (r : Int) (i : Int) s.1 s.2.1 s.2.2.1 s.2.2.2) (r := (mkB (defsTo f (i + 1)) r, mkA (defsTo f (i + 1)) r, ((cntD (defsTo f (i + 1)) r : Nat) : Int))) f.blocks[i].ins.length FUEL
        (fun k => (mkB ((defsTo f i ++ defsP i f.blocks[i]) ++ (defsI i f.blocks[i]).take k) r, mkA ((defsTo f i ++ defsP i f.blocks[i]) ++ (defsI i f.blocks[i]).take k) r, ((cntD ((defsTo f i ++ defsP i f.blocks[i]) ++ (defsI i f.blocks[i]).take k) r : Nat) : Int), (k : Int))) (fun k hk => by
          have hk' : k < (defsI i f.blocks[i]).length := by simpa [defsI] using hk
          have hpl : (defsP i f.blocks[i]).length ≤ 300 := by simpa [defsP] using b2
          have hgd : (defsI i f.blocks[i])[k] = (f.blocks[i].ins[k].dst, (i : Int), (k : Int)) := by simp [defsI]
          simp only [fettleref13_Maker.bd31, idx_lt hi, Option.bind_some, len_lt, hk, if_true, idx_lt hk]
          rw [List.take_succ_eq_append_getElem hk', ← List.append_assoc, hgd]
          have hcl := cntD_le ((defsTo f i ++ defsP i f.blocks[i]) ++ (defsI i f.blocks[i]).take k) r
          rw [List.length_append, List.length_append, List.length_take] at hcl
          have hw := w64_i hk (show f.blocks[i].ins.length ≤ 1000 by omega)
          generalize (defsTo f i ++ defsP i f.blocks[i]) ++ (defsI i f.blocks[i]).take k = L at *
          by_cases hd : f.blocks[i].ins[k].dst = (r : Int)
          · rw [if_pos hd]
            have hms := mk_step (L := L) (b := (i : Int)) (a := (k : Int)) hd
            have hc1 : cntD (L ++ [(f.blocks[i].ins[k].dst, (i : Int), (k : Int))]) r = cntD L r + 1 := cntD_eq (x := (f.blocks[i].ins[k].dst, (i : Int), (k : Int))) hd
            have hwc : w64 (((cntD L r : Nat) : Int) + 1) = ((cntD L r + 1 : Nat) : Int) := w64_succ (by omega)
            rw [hc1]
            by_cases h0 : cntD L r = 0
            · rw [if_pos h0] at hms
              rw [if_pos (by omega)]
              simp only [fettleref13_Maker.jn49, fettleref13_Maker.jn42, hw, hwc]
              rw [← (Prod.mk.inj hms).1, ← (Prod.mk.inj hms).2]
            · rw [if_neg h0] at hms
              rw [if_neg (by omega)]
              simp only [fettleref13_Maker.jn49, fettleref13_Maker.jn42, hw, hwc]
              rw [← (Prod.mk.inj hms).1, ← (Prod.mk.inj hms).2]
          · rw [if_neg hd]
            obtain ⟨e1, e2, e3⟩ := mk_skip (L := L) (b := (i : Int)) (a := (k : Int)) hd
            simp only [fettleref13_Maker.jn42, hw, e1, e2, e3]) (by
            have : f.blocks[i].ins.length = (defsI i f.blocks[i]).length := by simp [defsI]
            simp only [fettleref13_Maker.bd31, idx_lt hi, Option.bind_some, len]
            rw [if_neg (by omega), this, List.take_length, defsTo_succ f hi, defsB, List.append_assoc]) (lt_FUEL (le_max b1 (by omega)))
      simp only [List.take_zero, List.append_nil] at hq
      rw [hz] at hq
      rw [hq]
      simp only [Option.bind_some, fettleref13_Maker.nx31, w64_i hi (show f.blocks.length ≤ 1000 by omega)]) (by
        simp only [fettleref13_Maker.bd8, len]
        rw [if_neg (by omega), defsTo_all]) (lt_FUEL (le_max hn (by omega)))
  have hd0 : defsTo f 0 = [] := by simp [defsTo]
  rw [hd0] at hrun
  have hz : (((0 : Nat) : Int)) = 0 := rfl
  have hm0 : mkB [] r = -1 := rfl
  have hm1 : mkA [] r = -2 := rfl
  have hm2 : cntD [] r = 0 := rfl
  rw [hm0, hm1, hm2, hz] at hrun
  rw [hrun]; rfl
/-! ### Made ahead -/
theorem refAheadU_eq (f : PFunc) (hf : SmF f) {T : List (List Bool)} (hT : Dim f.blocks.length f.blocks.length T) (r b a : Int) (hr : 0 ≤ r) (hb0 : 0 ≤ b) (hb1 : b < (f.blocks.length : Int)) :
    fettleref13_ahead f T r b a = some (okU f T (r, b, a)) := by
  obtain ⟨k, rfl⟩ : ∃ k : Nat, r = k := ⟨r.toNat, by omega⟩
  unfold fettleref13_ahead okU
  simp only [Int.toNat_natCast]
  by_cases h1 : (k : Int) < f.params
  · rw [if_pos h1]; simp [h1]
  rw [if_neg h1, refMaker_eq f hf k]
  simp only [Option.bind_some]
  by_cases h2 : cntD (defs f) k = 0
  · rw [if_pos (by omega)]
    have : (mkr (defs f) k).block = -1 := by unfold mkr; rw [cntD_zero h2]
    simp [h1, this]
  rw [if_neg (by omega)]
  have hbl : ∃ i : Nat, (mkr (defs f) k).block = (i : Int) ∧ i < f.blocks.length := by
    obtain ⟨x, h3, h4, _⟩ := cntD_pos h2
    obtain ⟨i, h5, h6⟩ := defs_mem f h4
    exact ⟨i, by unfold mkr; rw [h3]; exact h5, h6⟩
  obtain ⟨i, hi, hil⟩ := hbl
  have h0 : (mkr (defs f) k).block ≥ 0 := by omega
  by_cases h3 : (mkr (defs f) k).block = b
  · rw [if_pos h3]
    simp [h1, h3, hb0]
  · rw [if_neg h3]
    obtain ⟨row, r1, r2⟩ := hT.ovT (a := (mkr (defs f) k).block) (b := b) (by omega) (by omega) hb0 hb1
    rw [r1]
    simp only [Option.bind_some, r2]
    simp [h1, h3, h0]
/-! ### Amiss -/
def Good (f : PFunc) (T : List (List Bool)) (r : Int) (u : D3) : Prop := u.1 = r → okU f T u = true
instance (f : PFunc) (T : List (List Bool)) (r : Int) (u : D3) : Decidable (Good f T r u) := by unfold Good; infer_instance
theorem forall_zipIdx {α β : Type} (xs : List α) (F : α × Nat → β) (P : β → Prop) : (∀ u ∈ xs.zipIdx.map F, P u) ↔ ∀ k (hk : k < xs.length), P (F (xs[k], k)) := by
  constructor
  · intro h k hk
    refine h _ (List.mem_map.2 ⟨(xs[k], k), ?_, rfl⟩)
    rw [List.mem_zipIdx_iff_getElem?]
    exact List.getElem?_eq_getElem hk
  · intro h u hu
    obtain ⟨⟨x, k⟩, h1, rfl⟩ := List.mem_map.1 hu
    rw [List.mem_zipIdx_iff_getElem?] at h1
    simp only at h1
    obtain ⟨hk, rfl⟩ := List.getElem?_eq_some_iff.1 h1
    exact h k hk
theorem forall_zipFlat {α β : Type} (xs : List α) (F : α × Nat → List β) (P : β → Prop) : (∀ u ∈ xs.zipIdx.flatMap F, P u) ↔ ∀ k (hk : k < xs.length), ∀ u ∈ F (xs[k], k), P u := by
  constructor
  · intro h k hk u hu
    refine h u (List.mem_flatMap.2 ⟨(xs[k], k), ?_, hu⟩)
    rw [List.mem_zipIdx_iff_getElem?]
    exact List.getElem?_eq_getElem hk
  · intro h u hu
    obtain ⟨⟨x, k⟩, h1, h2⟩ := List.mem_flatMap.1 hu
    rw [List.mem_zipIdx_iff_getElem?] at h1
    simp only at h1
    obtain ⟨hk, rfl⟩ := List.getElem?_eq_some_iff.1 h1
    exact h k hk u h2
theorem forall_flat {α β : Type} (xs : List α) (F : α → List β) (P : β → Prop) : (∀ u ∈ xs.flatMap F, P u) ↔ ∀ x ∈ xs, ∀ u ∈ F x, P u :=
  ⟨fun h x hx u hu => h u (List.mem_flatMap.2 ⟨x, hx, hu⟩), fun h u hu => by obtain ⟨x, h1, h2⟩ := List.mem_flatMap.1 hu; exact h x h1 u h2⟩
theorem good_arg {f : PFunc} {T : List (List Bool)} {r a : Int} {o : Bool} {b c : Int} (hok : a = r → o = okU f T (a, b, c)) : (if a = r then (some o).bind fun x => some (!x) else some false) = some (decide (¬ Good f T r (a, b, c))) := by
  by_cases h : a = r
  · rw [if_pos h, hok h]
    simp only [Option.bind_some]
    by_cases hg : okU f T (a, b, c) = true
    · have : Good f T r (a, b, c) := fun _ => hg
      rw [hg]; simp [this]
    · have : ¬ Good f T r (a, b, c) := fun k => hg (k h)
      have hf : okU f T (a, b, c) = false := by simpa using hg
      rw [hf]; simp [this]
  · rw [if_neg h]
    have : Good f T r (a, b, c) := fun e => absurd e h
    simp [this]
theorem amiss_eq (f : PFunc) {m : PModule} (hf : SmF f) (hok : FuncOk m f) {T : List (List Bool)} (hT : Dim f.blocks.length f.blocks.length T) (r : Int) (hr : 0 ≤ r) :
    (fettleref13_amiss f T r = some true ∧ ¬ ∀ u ∈ uses f, Good f T r u) ∨ (fettleref13_amiss f T r = some false ∧ ∀ u ∈ uses f, Good f T r u) := by
  have hn := hf.1
  unfold fettleref13_amiss
  rcases scan_ix f.blocks.length (le_max hn (by omega)) (fun i => ∀ B, f.blocks[i]? = some B → ∀ u ∈ usesB f i B, Good f T r u) (fun e : Bool => e = true) (fun s => fettleref13_amiss.bd8 f T r s) (fun i hi => by
    have hB := hf.2.2.2 _ (List.getElem_mem hi)
    obtain ⟨b1, b2, b3, b4, b5⟩ := id hB
    have hpreds : (preds (nexts f) i).length ≤ 70 := by have := preds_length (nexts f) i; rw [nexts_length] at this; omega
    have hEx : ∀ P : PBlock → Prop, (∀ B, f.blocks[i]? = some B → P B) ↔ P f.blocks[i] := fun P => ⟨fun h => h _ (List.getElem?_eq_getElem hi), fun h B hB' => by rw [List.getElem?_eq_getElem hi] at hB'; cases hB'; exact h⟩
    rw [hEx]
    have hi' : (i : Int) < len f.blocks := by simp only [len]; omega
    simp only [fettleref13_amiss.bd8, hi', if_true, idx_lt hi, Option.bind_some, refAhead_eq f hf i hi]
    have hUB : (∀ u ∈ usesB f i f.blocks[i], Good f T r u) ↔ (∀ u ∈ usesP f i f.blocks[i], Good f T r u) ∧ (∀ u ∈ usesI i f.blocks[i], Good f T r u) ∧ ∀ u ∈ usesT i f.blocks[i], Good f T r u := by
      unfold usesB
      simp only [List.forall_mem_append, and_assoc]
    rw [hUB]
    -- phis
    rcases scan_or f.blocks[i].phis (le_max b2 (by omega)) (fun p => ∀ u ∈ p.args.zipIdx.map (fun x => (x.1, (preds (nexts f) i).getD x.2 0, ((f.blocks.getD ((preds (nexts f) i).getD x.2 0).toNat PBlock.zero).ins.length : Int))), Good f T r u) (fun e : Bool => e = true) (fun s => fettleref13_amiss.bd27 f T r f.blocks[i] (preds (nexts f) i) s) (fun j hj => by
      have hpm := List.getElem_mem hj
      have hla := hok.ahead i hi _ hpm
      simp only [fettleref13_amiss.bd27, len_lt, hj, if_true]
      rw [forall_zipIdx]
      rcases scan_ix (preds (nexts f) i).length (le_max hpreds (by omega)) (fun k => ∀ hk : k < f.blocks[i].phis[j].args.length, Good f T r (f.blocks[i].phis[j].args[k], (preds (nexts f) i).getD k 0, ((f.blocks.getD ((preds (nexts f) i).getD k 0).toNat PBlock.zero).ins.length : Int))) (fun e : Bool => e = true) (fun s => fettleref13_amiss.bd96 f T r f.blocks[i] (preds (nexts f) i) (j : Int) s) (fun k hk => by
        have hka : k < f.blocks[i].phis[j].args.length := by omega
        have hin := preds_in (nexts f) i _ (List.getElem_mem hk)
        rw [nexts_length] at hin
        have hgd : (preds (nexts f) i).getD k 0 = (preds (nexts f) i)[k] := by rw [List.getD_eq_getElem?_getD, List.getElem?_eq_getElem hk]; rfl
        obtain ⟨C, c1, c2⟩ := idx_in (xs := f.blocks) hin.1 hin.2
        have hcd : f.blocks.getD ((preds (nexts f) i)[k]).toNat PBlock.zero = C := by rw [List.getD_eq_getElem?_getD, c2]; rfl
        have hahd := fun (hr' : 0 ≤ r) => refAheadU_eq f hf hT r (preds (nexts f) i)[k] (len C.ins) hr' hin.1 hin.2
        have hbody : fettleref13_amiss.bd96 f T r f.blocks[i] (preds (nexts f) i) (j : Int) (k : Int) = some (if ¬ Good f T r (f.blocks[i].phis[j].args[k], (preds (nexts f) i)[k], len C.ins) then .ret (.ret true) else .go ((k + 1 : Nat) : Int)) := by
          simp only [fettleref13_amiss.bd96, len_lt, hk, if_true, idx_lt hj, Option.bind_some, idx_lt hka, idx_lt hk, c1, hahd hr, w64_i hk (show (preds (nexts f) i).length ≤ 1000 by omega)]
          have hga := good_arg (f := f) (T := T) (r := r) (a := f.blocks[i].phis[j].args[k]) (o := okU f T (r, (preds (nexts f) i)[k], len C.ins)) (b := (preds (nexts f) i)[k]) (c := len C.ins) (fun e => by rw [e])
          simp only [Option.bind_some] at hga
          rw [hga]
          simp only [Option.bind_some, decide_eq_true_eq]
          split <;> rfl
        rw [hbody]
        have hconv : (∀ hk : k < f.blocks[i].phis[j].args.length, Good f T r (f.blocks[i].phis[j].args[k], (preds (nexts f) i).getD k 0, ((f.blocks.getD ((preds (nexts f) i).getD k 0).toNat PBlock.zero).ins.length : Int))) ↔ Good f T r (f.blocks[i].phis[j].args[k], (preds (nexts f) i)[k], len C.ins) := by
          rw [hgd, hcd]; exact ⟨fun h => h hka, fun h _ => h⟩
        rw [hconv]
        by_cases hg : Good f T r (f.blocks[i].phis[j].args[k], (preds (nexts f) i)[k], len C.ins)
        · exact .inr ⟨by rw [if_neg (fun h => h hg)], hg⟩
        · exact .inl ⟨true, by rw [if_pos hg], rfl, hg⟩) (by simp [fettleref13_amiss.bd96, len]) with ⟨e, hw, rfl, hnot⟩ | ⟨hw, hall⟩
      · rw [hw]
        exact .inl ⟨true, rfl, rfl, fun h => hnot fun k hk hka => h k hka⟩
      · rw [hw]
        exact .inr ⟨by simp only [Option.bind_some, fettleref13_amiss.nx96, w64_i hj (show f.blocks[i].phis.length ≤ 1000 by omega)], fun k hk => hall k (by omega) hk⟩) (by simp [fettleref13_amiss.bd27, len]) with ⟨e, hw, rfl, hnot⟩ | ⟨hw, hall⟩
    · rw [hw]
      refine .inl ⟨true, rfl, rfl, fun h => hnot ?_⟩
      have := h.1
      unfold usesP at this
      rw [forall_flat] at this
      exact this
    rw [hw]
    have hP : ∀ u ∈ usesP f i f.blocks[i], Good f T r u := by unfold usesP; rw [forall_flat]; exact hall
    simp only [Option.bind_some, fettleref13_amiss.nx27]
    -- instructions
    rcases scan_ix f.blocks[i].ins.length (le_max b1 (by omega)) (fun k => ∀ x, f.blocks[i].ins[k]? = some x → ∀ a ∈ x.args, Good f T r (a, (i : Int), (k : Int))) (fun e : Bool => e = true) (fun s => fettleref13_amiss.bd36 f T r (i : Int) f.blocks[i] s) (fun k hk => by
      have hxm := List.getElem_mem hk
      have h4 := b4 _ hxm
      have hEx2 : ∀ P : PInstr → Prop, (∀ x, f.blocks[i].ins[k]? = some x → P x) ↔ P f.blocks[i].ins[k] := fun P => ⟨fun h => h _ (List.getElem?_eq_getElem hk), fun h B hB' => by rw [List.getElem?_eq_getElem hk] at hB'; cases hB'; exact h⟩
      rw [hEx2]
      have hk' : (k : Int) < len f.blocks[i].ins := by simp only [len]; omega
      simp only [fettleref13_amiss.bd36, hk', if_true]
      rcases scan_or f.blocks[i].ins[k].args (le_max h4 (by omega)) (fun a => Good f T r (a, (i : Int), (k : Int))) (fun e : Bool => e = true) (fun s => fettleref13_amiss.bd59 f T r (i : Int) f.blocks[i] (k : Int) s) (fun j hj => by
        have hahd := fun (hr' : 0 ≤ r) => refAheadU_eq f hf hT r (i : Int) (k : Int) hr' (by omega) (by omega)
        simp only [fettleref13_amiss.bd59, idx_lt hk, Option.bind_some, len_lt, hj, if_true, idx_lt hj, hahd hr, w64_i hj (show f.blocks[i].ins[k].args.length ≤ 1000 by omega)]
        have hga := good_arg (f := f) (T := T) (r := r) (a := f.blocks[i].ins[k].args[j]) (o := okU f T (r, (i : Int), (k : Int))) (b := (i : Int)) (c := (k : Int)) (fun e => by rw [e])
        simp only [Option.bind_some] at hga
        rw [hga]
        simp only [Option.bind_some, decide_eq_true_eq]
        by_cases hg : Good f T r (f.blocks[i].ins[k].args[j], (i : Int), (k : Int))
        · exact .inr ⟨by rw [if_neg (fun h => h hg)], hg⟩
        · exact .inl ⟨true, by rw [if_pos hg], rfl, hg⟩) (by simp [fettleref13_amiss.bd59, idx_lt hk, len]) with ⟨e, hw2, rfl, hnot⟩ | ⟨hw2, hall2⟩
      · rw [hw2]; exact .inl ⟨true, rfl, rfl, hnot⟩
      · rw [hw2]; exact .inr ⟨by simp only [Option.bind_some, fettleref13_amiss.nx59, w64_i hk (show f.blocks[i].ins.length ≤ 1000 by omega)], hall2⟩) (by simp [fettleref13_amiss.bd36, len]) with ⟨e, hw2, rfl, hnot⟩ | ⟨hw2, hall2⟩
    · rw [hw2]
      refine .inl ⟨true, rfl, rfl, fun h => hnot fun k hk x hx a ha => ?_⟩
      have := h.2.1
      unfold usesI at this
      rw [forall_zipFlat] at this
      obtain ⟨hk', rfl⟩ := List.getElem?_eq_some_iff.1 hx
      exact this k hk' _ (List.mem_map.2 ⟨a, ha, rfl⟩)
    rw [hw2]
    have hI : ∀ u ∈ usesI i f.blocks[i], Good f T r u := by
      unfold usesI; rw [forall_zipFlat]
      intro k hk u hu
      obtain ⟨a, ha, rfl⟩ := List.mem_map.1 hu
      exact hall2 k hk _ (List.getElem?_eq_getElem hk) a ha
    simp only [Option.bind_some, fettleref13_amiss.nx36]
    have hahd := refAheadU_eq f hf hT r (i : Int) (len f.blocks[i].ins) hr (by omega) (by omega)
    rw [hahd]
    have hga := good_arg (f := f) (T := T) (r := r) (a := f.blocks[i].term.arg) (o := okU f T (r, (i : Int), len f.blocks[i].ins)) (b := (i : Int)) (c := len f.blocks[i].ins) (fun e => by rw [e])
    simp only [Option.bind_some] at hga ⊢
    rw [hga]
    simp only [Option.bind_some, decide_eq_true_eq, w64_i hi (show f.blocks.length ≤ 1000 by omega)]
    have hTe : (∀ u ∈ usesT i f.blocks[i], Good f T r u) ↔ Good f T r (f.blocks[i].term.arg, (i : Int), len f.blocks[i].ins) := by
      unfold usesT
      by_cases ht : f.blocks[i].term.arg ≥ 0
      · rw [if_pos ht]; simp [len]
      · rw [if_neg ht]
        refine ⟨fun _ e => ?_, fun _ u hu => by simp at hu⟩
        have : f.blocks[i].term.arg = r := e
        omega
    rw [hTe]
    by_cases hg : Good f T r (f.blocks[i].term.arg, (i : Int), len f.blocks[i].ins)
    · exact .inr ⟨by rw [if_neg (fun h => h hg)], hP, hI, hg⟩
    · exact .inl ⟨true, by rw [if_pos hg], rfl, fun h => hg h.2.2⟩) (by simp [fettleref13_amiss.bd8, len]) with ⟨e, hw, rfl, hnot⟩ | ⟨hw, hall⟩
  · rw [hw]
    refine .inl ⟨rfl, fun h => hnot fun i hi B hB' => ?_⟩
    unfold uses at h
    rw [forall_zipFlat] at h
    obtain ⟨hi', rfl⟩ := List.getElem?_eq_some_iff.1 hB'
    exact h i hi'
  · rw [hw]
    refine .inr ⟨rfl, ?_⟩
    unfold uses
    rw [forall_zipFlat]
    exact fun i hi => hall i hi _ (List.getElem?_eq_getElem hi)
end Go.Proofs.YteaknconpkklhaaDoor
set_option linter.unusedVariables false
set_option linter.unusedSimpArgs false
namespace Go.Proofs.YteaknconpkklhaaDoor
open Go Go.Proofs
theorem low_spec (f : PFunc) (T : List (List Bool)) : ∀ (L : List D3) (low : Int), (∀ u ∈ L, 0 ≤ u.1) →
    (L.foldl (lowS f T) low = low ∨ ∃ u ∈ L, u.1 = L.foldl (lowS f T) low ∧ okU f T u = false) ∧ (low ≥ 0 → 0 ≤ L.foldl (lowS f T) low ∧ L.foldl (lowS f T) low ≤ low) ∧ ∀ u ∈ L, okU f T u = false → 0 ≤ L.foldl (lowS f T) low ∧ L.foldl (lowS f T) low ≤ u.1
  | [], low, _ => ⟨.inl rfl, fun h => ⟨h, Int.le_refl _⟩, fun u hu => by simp at hu⟩
  | u :: L, low, h0 => by
    rw [List.foldl_cons]
    obtain ⟨h1, h2, h3⟩ := low_spec f T L (lowS f T low u) (fun v hv => h0 v (List.mem_cons_of_mem _ hv))
    have hu0 := h0 u List.mem_cons_self
    by_cases hc : okU f T u = false ∧ (low < 0 ∨ u.1 < low)
    · have e : lowS f T low u = u.1 := by unfold lowS; rw [if_pos hc]
      rw [e] at h1 h2 h3 ⊢
      obtain ⟨g1, g2⟩ := h2 hu0
      refine ⟨.inr ?_, fun hl => ⟨g1, by omega⟩, fun v hv hb => ?_⟩
      · rcases h1 with h1 | ⟨v, hv, hv2, hv3⟩
        · exact ⟨u, List.mem_cons_self, h1.symm, hc.1⟩
        · exact ⟨v, List.mem_cons_of_mem _ hv, hv2, hv3⟩
      · rcases List.mem_cons.1 hv with rfl | hv
        · exact ⟨g1, g2⟩
        · exact h3 v hv hb
    · have e : lowS f T low u = low := by unfold lowS; rw [if_neg hc]
      rw [e] at h1 h2 h3 ⊢
      refine ⟨?_, h2, fun v hv hb => ?_⟩
      · rcases h1 with h1 | ⟨v, hv, hv2, hv3⟩
        · exact .inl h1
        · exact .inr ⟨v, List.mem_cons_of_mem _ hv, hv2, hv3⟩
      · rcases List.mem_cons.1 hv with rfl | hv
        · have hl : low ≥ 0 ∧ low ≤ v.1 := by
            by_cases k : low < 0
            · exact absurd ⟨hb, .inl k⟩ hc
            · by_cases k2 : v.1 < low
              · exact absurd ⟨hb, .inr k2⟩ hc
              · omega
          have := h2 hl.1
          omega
        · exact h3 v hv hb
theorem uses_in (f : PFunc) {m : PModule} (hok : FuncOk m f) : ∀ u ∈ uses f, 0 ≤ u.1 ∧ u.1 < (f.regs.length : Int) := by
  unfold uses
  rw [forall_zipFlat]
  intro i hi u hu
  have hR := BlockOk_regs (hok.blocks _ (List.getElem_mem hi))
  simp only at hu
  unfold usesB at hu
  rw [List.mem_append, List.mem_append] at hu
  rcases hu with (hu | hu) | hu
  · unfold usesP at hu
    obtain ⟨p, hp, hu⟩ := List.mem_flatMap.1 hu
    obtain ⟨x, hx, rfl⟩ := List.mem_map.1 hu
    exact hR.pargs p hp _ (List.fst_mem_of_mem_zipIdx hx)
  · unfold usesI at hu
    obtain ⟨x, hx, hu⟩ := List.mem_flatMap.1 hu
    obtain ⟨a, ha, rfl⟩ := List.mem_map.1 hu
    exact hR.args _ (List.fst_mem_of_mem_zipIdx hx) a ha
  · unfold usesT at hu
    split at hu
    · rename_i h
      have : u = (f.blocks[i].term.arg, (i : Int), (f.blocks[i].ins.length : Int)) := by simpa using hu
      subst this
      exact ⟨h, hR.arg⟩
    · simp at hu
theorem domT_dim (f : PFunc) (R : List Int) : Dim f.blocks.length f.blocks.length (domT f R) := ⟨by simp [domT], fun r hr => by
  obtain ⟨a, _, rfl⟩ := List.mem_map.1 hr
  simp⟩
theorem refForm_eq (f : PFunc) {m : PModule} (hf : SmF f) (hok : FuncOk m f) {e : GErr} (h : FormIs f e) : fettleref13_Form f = some (ofF e) := by
  have hn := hf.1
  have hpos : 0 < f.blocks.length := by have := hok.small.pos; omega
  obtain ⟨s, o, hw, -, -⟩ := walked_any f hf
  have hsl : s.length ≤ maxLen := le_max (show s.length ≤ 70 by rw [hw.len]; exact hn) (by omega)
  unfold fettleref13_Form
  rw [from_any f hf hpos hw]
  simp only [Option.bind_some]
  have h1 := scan_or s hsl (fun b => b = true) (fun e : Int × Int => e = (6, -1)) (fun s' => fettleref13_Form.bd10 s s') (fun i hi => by
    simp only [fettleref13_Form.bd10, len_lt, hi, if_true, idx_lt hi, Option.bind_some, w64_at hi hsl]
    cases hb : s[i] with
    | true => exact .inr ⟨by simp, rfl⟩
    | false => exact .inl ⟨(6, -1), by simp, rfl, by simp⟩) (by simp [fettleref13_Form.bd10, len])
  have hall : (∀ b ∈ s, b = true) ↔ s = List.replicate f.blocks.length true := by
    rw [← hw.len]
    exact ⟨fun h => List.eq_replicate_iff.2 ⟨rfl, h⟩, fun h => (List.eq_replicate_iff.1 h).2⟩
  have hfullS : ∀ {R}, Full f R → s = List.replicate f.blocks.length true := fun hR => Option.some.inj (hw.rea.symm.trans hR.rea)
  -- the makers
  have hmx : (List.range f.regs.length).length ≤ maxLen := le_max (show (List.range f.regs.length).length ≤ 300 by rw [List.length_range]; exact hf.2.1) (by omega)
  have h2 := scan0 (List.range f.regs.length) (fun i r => if Twice f r then some ((7 : Int), (r : Int)) else none) (fun s' => fettleref13_Form.bd19 f s') hmx (fun i hi => by
    have hi' : i < f.regs.length := by simpa using hi
    have hlm : ((i : Int) < len f.regs) := by simp only [len]; omega
    simp only [fettleref13_Form.bd19, hlm, if_true, refMaker_eq f hf i, Option.bind_some, List.getElem_range, w64_at hi hmx]
    by_cases hc : Twice f i
    · rw [if_pos hc, if_pos (by unfold Twice at hc; omega)]
    · rw [if_neg hc, if_neg (by unfold Twice at hc; omega)]) (by simp [fettleref13_Form.bd19, len])
  have hno : ∀ {P : Prop} {i : Nat} (hi : i < (List.range f.regs.length).length), (if Twice f (List.range f.regs.length)[i] then some ((7 : Int), ((List.range f.regs.length)[i] : Int)) else none) = none → ¬ Twice f i := fun hi h hc => by
    simp only [List.getElem_range] at h
    rw [if_pos hc] at h; cases h
  have hthird : ∀ {R : List Int}, Full f R → (∀ r, r < f.regs.length → ¬ Twice f r) → fettleref13_Form.nx10 f = some (if (uses f).foldl (lowS f (domT f R)) (-1) ≥ 0 then (4, (uses f).foldl (lowS f (domT f R)) (-1)) else (0, -1)) := fun {R} hR hnt => by
    unfold fettleref13_Form.nx10
    rcases h2 with ⟨i, hi, r, g1, g2, g3⟩ | ⟨g1, g3⟩
    · exfalso
      have hi' : i < f.regs.length := by simpa using hi
      simp only [List.getElem_range] at g1
      rw [if_neg (hnt i hi')] at g1; cases g1
    rw [g3]
    simp only [Option.bind_some, fettleref13_Form.nx19, refDom hR]
    have hin := uses_in f hok
    obtain ⟨k1, k2, k3⟩ := low_spec f (domT f R) (uses f) (-1) (fun u hu => (hin u hu).1)
    generalize (uses f).foldl (lowS f (domT f R)) (-1) = low at *
    have hfirst := scan0 (List.range f.regs.length) (fun i r => if fettleref13_amiss f (domT f R) (r : Int) = some true then some ((4 : Int), (r : Int)) else none) (fun s' => fettleref13_Form.bd30 f (domT f R) s') hmx (fun i hi => by
      have hi' : i < f.regs.length := by simpa using hi
      have hlm : ((i : Int) < len f.regs) := by simp only [len]; omega
      simp only [fettleref13_Form.bd30, hlm, if_true, w64_at hi hmx, List.getElem_range]
      rcases amiss_eq f hf hok (domT_dim f R) (i : Int) (by omega) with ⟨ha, hb⟩ | ⟨ha, hb⟩
      · rw [ha]; simp
      · rw [ha]; simp) (by simp [fettleref13_Form.bd30, len])
    have hbad : ∀ i : Nat, fettleref13_amiss f (domT f R) (i : Int) = some true ↔ ∃ u ∈ uses f, u.1 = (i : Int) ∧ okU f (domT f R) u = false := fun i => by
      rcases amiss_eq f hf hok (domT_dim f R) (i : Int) (by omega) with ⟨ha, hb⟩ | ⟨ha, hb⟩
      · rw [ha]
        refine ⟨fun _ => Classical.byContradiction fun hc => hb fun u hu he => ?_, fun _ => rfl⟩
        cases ho : okU f (domT f R) u with
        | true => rfl
        | false => exact absurd ⟨u, hu, he, ho⟩ hc
      · rw [ha]
        refine ⟨fun h => (by cases h), ?_⟩
        rintro ⟨u, hu, he, ho⟩
        have := hb u hu he
        rw [ho] at this; cases this
    rcases hfirst with ⟨i, hi, r, g1, g2, g4⟩ | ⟨g1, g4⟩
    · rw [g4]
      have hi' : i < f.regs.length := by simpa using hi
      simp only [List.getElem_range] at g1
      by_cases hc : fettleref13_amiss f (domT f R) (i : Int) = some true
      · rw [if_pos hc] at g1; cases g1
        obtain ⟨u, hu, hu1, hu2⟩ := (hbad i).1 hc
        have hlow := k3 u hu hu2
        rcases k1 with k1 | ⟨v, hv, hv1, hv2⟩
        · omega
        · have hle : (i : Int) ≤ low := by
            rcases Int.lt_or_le low i with hlt | hle
            · exfalso
              have hj : low.toNat < (List.range f.regs.length).length := by simp; omega
              have := g2 low.toNat hj (by omega)
              simp only [List.getElem_range] at this
              have hba : fettleref13_amiss f (domT f R) ((low.toNat : Nat) : Int) = some true := (hbad low.toNat).2 ⟨v, hv, by omega, hv2⟩
              rw [if_pos hba] at this; cases this
            · exact hle
          have : low = (i : Int) := by omega
          subst this
          simp
      · rw [if_neg hc] at g1; cases g1
    · rw [g4]
      rcases k1 with k1 | ⟨v, hv, hv1, hv2⟩
      · rw [if_neg (by omega)]; rfl
      · exfalso
        have hvi := hin v hv
        have hj : low.toNat < (List.range f.regs.length).length := by simp; omega
        have := g1 low.toNat hj
        simp only [List.getElem_range] at this
        have hba : fettleref13_amiss f (domT f R) ((low.toNat : Nat) : Int) = some true := (hbad low.toNat).2 ⟨v, hv, by omega, hv2⟩
        rw [if_pos hba] at this; cases this
  cases h with
  | @shape s' o' hw' hne =>
    obtain rfl : s = s' := Option.some.inj (hw.rea.symm.trans hw'.rea)
    rcases h1 with ⟨e, g1, rfl, g2⟩ | ⟨g1, g2⟩
    · rw [g1]; rfl
    · exact absurd (hall.1 g2) hne
  | @twice R r hR hr ht hmin =>
    rcases h1 with ⟨e, g1, rfl, g2⟩ | ⟨g1, g2⟩
    · exact absurd (hall.2 (hfullS hR)) g2
    rw [g1]
    simp only [Option.bind_some]
    unfold fettleref13_Form.nx10
    rcases h2 with ⟨i, hi, q, k1, k2, k3⟩ | ⟨k1, k3⟩
    · rw [k3]
      simp only [List.getElem_range] at k1
      by_cases hc : Twice f i
      · rw [if_pos hc] at k1; cases k1
        have hir : i = r := by
          rcases Nat.lt_trichotomy i r with h | h | h
          · exact absurd hc (hmin i h)
          · exact h
          · exact absurd ht (hno (P := True) (by simpa using hr) (k2 r (by simpa using hr) h))
        subst hir; rfl
      · rw [if_neg hc] at k1; cases k1
    · exact absurd ht (hno (P := True) (by simpa using hr) (k1 r (by simpa using hr)))
  | @none R T hR hnt hT hD hlow =>
    rcases h1 with ⟨e, g1, rfl, g2⟩ | ⟨g1, g2⟩
    · exact absurd (hall.2 (hfullS hR)) g2
    rw [g1]
    simp only [Option.bind_some]
    obtain rfl : domT f R = T := Option.some.inj ((dom_table hR).symm.trans hT)
    rw [hthird hR hnt, if_pos hlow]; rfl
  | @ok R T hR hnt hT hD hlow =>
    rcases h1 with ⟨e, g1, rfl, g2⟩ | ⟨g1, g2⟩
    · exact absurd (hall.2 (hfullS hR)) g2
    rw [g1]
    simp only [Option.bind_some]
    obtain rfl : domT f R = T := Option.some.inj ((dom_table hR).symm.trans hT)
    rw [hthird hR hnt, if_neg (by omega)]; rfl
theorem pure_properForms (m : PModule) (a : Int) (h : wfModule m) (ha : inI64 a) : fettlelaw13_ProperForms m a = some true := by
  unfold fettlelaw13_ProperForms
  rw [up13]
  obtain ⟨b, hb, hsm⟩ := small_ok m
  rw [hb]
  simp only [Option.bind_some]
  cases b with
  | false => simp
  | true =>
    have hm := hsm rfl
    obtain ⟨e, c, q, h1, h2, h3, h4⟩ := module_exact m hm
    simp only [Bool.not_true, Bool.false_eq_true, if_false]
    by_cases hc : c = 0
    · have he := h4.2 hc
      subst he
      obtain ⟨e', h1', hiff⟩ := module_says m hm
      have hp : Proper m := hiff.1 (Option.some.inj (h1'.symm.trans h1))
      by_cases hr : a < 0 ∨ a ≥ len m.funcs
      · have hf : proper_Form m a = some (.code 1) := by
          unfold proper_Form
          rw [h1]
          simp only [Option.bind_some]
          rw [if_neg (by simp), if_pos hr]
        rw [hf]
        simp only [Option.bind_some, of_eq, h2]
        rw [if_neg (by simpa using hc), if_pos hr]
        simp
      · have hr' := hr
        simp only [len] at hr
        obtain ⟨k, rfl⟩ : ∃ k : Nat, a = k := ⟨a.toNat, by omega⟩
        have hk : k < m.funcs.length := by omega
        obtain ⟨e, he, hform⟩ := form_says m hm k hk hp
        have hf := hm.2 _ (List.getElem_mem hk)
        rw [he]
        simp only [Option.bind_some, of_eq, h2]
        rw [if_neg (by simpa using hc), if_neg hr', idx_lt hk]
        simp only [Option.bind_some]
        rw [refForm_eq _ hf (hp.funcs _ (List.getElem_mem hk)) hform]
        simp
    · have he : e ≠ .no := fun k => hc (h4.1 k)
      have hf : proper_Form m a = some e := by
        unfold proper_Form
        rw [h1]
        simp only [Option.bind_some]
        rw [if_pos he]
      rw [hf]
      simp only [Option.bind_some, of_eq, h2]
      rw [if_pos hc, h3]
      simp
end Go.Proofs.YteaknconpkklhaaDoor
