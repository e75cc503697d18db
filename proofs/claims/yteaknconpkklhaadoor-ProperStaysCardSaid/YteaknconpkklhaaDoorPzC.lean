/- Several parts in one text, the first of which: Plain laws of layer 13, part A: by what registers are made. No conditions. -/
import Derived.Test.YteaknconpkklhaaDoorPzA
import Derived.Test.YteaknconpkklhaaDoorPzB
import Derived.Test.YteaknconpkklhaaDoorOf
import Derived.KernelRfl
set_option linter.unusedVariables false
set_option linter.unusedSimpArgs false
namespace Go.Proofs.YteaknconpkklhaaDoor
open Go Go.Proofs

/-- What is made: the register, the block, the place. -/
abbrev D3 := Int × Int × Int
def mkr (L : List D3) (r : Nat) : PMaker := match L.find? (fun x => decide (x.1 = (r : Int))) with | some x => ⟨x.2.1, x.2.2⟩ | none => ⟨-1, -2⟩
def cntD (L : List D3) (r : Nat) : Nat := L.countP (fun x => decide (x.1 = (r : Int)))
def mks (n : Nat) (L : List D3) : List PMaker := (List.range n).map (mkr L)
def mns (n : Nat) (L : List D3) : List Int := (List.range n).map fun r => ((cntD L r : Nat) : Int)
theorem mks_idx {n r : Nat} (L : List D3) (h : r < n) : idx (mks n L) (r : Int) = some (mkr L r) := by rw [idx_nat]; simp [mks, h]
theorem mns_idx {n r : Nat} (L : List D3) (h : r < n) : idx (mns n L) (r : Int) = some ((cntD L r : Nat) : Int) := by rw [idx_nat]; simp [mns, h]
theorem mks_len (n : Nat) (L : List D3) : (mks n L).length = n := by simp [mks]
theorem mns_len (n : Nat) (L : List D3) : (mns n L).length = n := by simp [mns]
theorem mkr_ne {L : List D3} {x : D3} {r : Nat} (h : x.1 ≠ (r : Int)) : mkr (L ++ [x]) r = mkr L r := by
  unfold mkr
  rw [List.find?_append]
  have : List.find? (fun x : D3 => decide (x.1 = (r : Int))) [x] = none := by simp [h]
  rw [this]
  cases List.find? (fun x : D3 => decide (x.1 = (r : Int))) L <;> rfl
theorem cntD_ne {L : List D3} {x : D3} {r : Nat} (h : x.1 ≠ (r : Int)) : cntD (L ++ [x]) r = cntD L r := by
  unfold cntD
  rw [List.countP_append]
  simp [h]
theorem cntD_eq {L : List D3} {x : D3} {r : Nat} (h : x.1 = (r : Int)) : cntD (L ++ [x]) r = cntD L r + 1 := by
  unfold cntD
  rw [List.countP_append]
  simp [h]
theorem cntD_zero {L : List D3} {r : Nat} (h : cntD L r = 0) : L.find? (fun x => decide (x.1 = (r : Int))) = none := by
  unfold cntD at h
  rw [List.countP_eq_zero] at h
  exact List.find?_eq_none.2 h
theorem cntD_pos {L : List D3} {r : Nat} (h : cntD L r ≠ 0) : ∃ x, L.find? (fun x => decide (x.1 = (r : Int))) = some x ∧ x ∈ L ∧ x.1 = (r : Int) := by
  cases hf : L.find? (fun x => decide (x.1 = (r : Int))) with
  | none => exact absurd (List.countP_eq_zero.2 (List.find?_eq_none.1 hf)) h
  | some x => exact ⟨x, rfl, List.mem_of_find?_eq_some hf, by simpa using List.find?_some hf⟩
theorem mkr_new {L : List D3} {x : D3} {r : Nat} (h : x.1 = (r : Int)) (h0 : cntD L r = 0) : mkr (L ++ [x]) r = ⟨x.2.1, x.2.2⟩ := by
  unfold mkr
  rw [List.find?_append, cntD_zero h0]
  simp [h]
theorem mkr_old {L : List D3} {x : D3} {r : Nat} (h0 : cntD L r ≠ 0) : mkr (L ++ [x]) r = mkr L r := by
  obtain ⟨y, hy, _⟩ := cntD_pos h0
  unfold mkr
  rw [List.find?_append, hy]; rfl
theorem cntD_le (L : List D3) (r : Nat) : cntD L r ≤ L.length := List.countP_le_length
theorem mks_set {n k : Nat} {L : List D3} {x : D3} (hk : x.1 = (k : Int)) : (if cntD L k = 0 then (mks n L).set k ⟨x.2.1, x.2.2⟩ else mks n L) = mks n (L ++ [x]) := by
  apply List.ext_getElem (by split <;> simp [mks])
  intro j h1 h2
  have hj : j < n := by simpa [mks] using h2
  by_cases e : j = k
  · subst e
    by_cases h0 : cntD L j = 0
    · simp only [h0, if_true, List.getElem_set_self]
      simp [mks, mkr_new hk h0]
    · simp only [h0, if_false]
      simp [mks, mkr_old h0]
  · have hne : x.1 ≠ (j : Int) := by rw [hk]; omega
    by_cases h0 : cntD L k = 0
    · simp only [h0, if_true, List.getElem_set_ne (Ne.symm e)]
      simp [mks, mkr_ne hne]
    · simp only [h0, if_false]
      simp [mks, mkr_ne hne]
theorem mns_set {n k : Nat} {L : List D3} {x : D3} (hk : x.1 = (k : Int)) : (mns n L).set k (((cntD L k + 1 : Nat) : Int)) = mns n (L ++ [x]) := by
  apply List.ext_getElem (by simp [mns])
  intro j h1 h2
  have hj : j < n := by simpa [mns] using h2
  by_cases e : j = k
  · subst e
    rw [List.getElem_set_self]
    simp [mns, cntD_eq hk]
  · have hne : x.1 ≠ (j : Int) := by rw [hk]; omega
    rw [List.getElem_set_ne (Ne.symm e)]
    simp [mns, cntD_ne hne]
theorem made1_eq {n : Nat} (L : List D3) (d b a : Int) (hL : L.length ≤ 1000000) : proper_made_1 d b a (mks n L) (mns n L) = some (mks n (L ++ [(d, b, a)]), mns n (L ++ [(d, b, a)])) := by
  unfold proper_made_1
  by_cases hr : d < 0 ∨ d ≥ len (mks n L)
  · rw [if_pos hr]
    simp only [len, mks_len] at hr
    congr 2
    · unfold mks; exact List.map_congr_left fun r hr' => (mkr_ne (by have := List.mem_range.1 hr'; simp only; omega)).symm
    · unfold mns; exact List.map_congr_left fun r hr' => by rw [cntD_ne (by have := List.mem_range.1 hr'; simp only; omega)]
  · rw [if_neg hr]
    simp only [len, mks_len, not_or] at hr
    obtain ⟨k, rfl⟩ : ∃ k : Nat, d = k := ⟨d.toNat, by omega⟩
    have hk : k < n := by omega
    have hc := cntD_le L k
    have hw : w64 (((cntD L k : Nat) : Int) + 1) = ((cntD L k + 1 : Nat) : Int) := w64_succ (by omega)
    have h1 := mks_set (n := n) (L := L) (x := ((k : Int), b, a)) rfl
    have h2 := mns_set (n := n) (L := L) (x := ((k : Int), b, a)) rfl
    simp only [mns_idx L hk, mks_idx L hk, Option.bind_some]
    by_cases h0 : cntD L k = 0
    · rw [if_pos h0] at h1
      rw [if_pos (by omega)]
      simp only [proper_made_1.jn12, mns_idx L hk, Option.bind_some, hw, Int.toNat_natCast, h1, h2]
    · rw [if_neg h0] at h1
      rw [if_neg (by omega)]
      simp only [proper_made_1.jn12, mns_idx L hk, Option.bind_some, hw, Int.toNat_natCast, ← h1, h2]

def defsP (i : Nat) (B : PBlock) : List D3 := B.phis.map fun p => (p.dst, (i : Int), -1)
def defsI (i : Nat) (B : PBlock) : List D3 := B.ins.zipIdx.map fun x => (x.1.dst, (i : Int), ((x.2 : Nat) : Int))
def defsB (i : Nat) (B : PBlock) : List D3 := defsP i B ++ defsI i B
/-- What a function's blocks make, up to one. -/
def defsTo (f : PFunc) (n : Nat) : List D3 := (f.blocks.take n).zipIdx.flatMap fun x => defsB x.2 x.1
def defs (f : PFunc) : List D3 := f.blocks.zipIdx.flatMap fun x => defsB x.2 x.1
theorem defsTo_succ (f : PFunc) {i : Nat} (hi : i < f.blocks.length) : defsTo f (i + 1) = defsTo f i ++ defsB i f.blocks[i] := by
  unfold defsTo
  rw [List.take_succ_eq_append_getElem hi, List.zipIdx_append, List.flatMap_append]
  simp [List.length_take, Nat.min_eq_left (Nat.le_of_lt hi)]
theorem defsTo_all (f : PFunc) : defsTo f f.blocks.length = defs f := by unfold defsTo defs; rw [List.take_length]
theorem defsB_length {i : Nat} {B : PBlock} (h : SmB B) : (defsB i B).length ≤ 600 := by
  have := h.1; have := h.2.1
  simp [defsB, defsP, defsI]; omega
theorem defsTo_length (f : PFunc) (hf : SmF f) : ∀ i, i ≤ f.blocks.length → (defsTo f i).length ≤ i * 600
  | 0, _ => by simp [defsTo]
  | i + 1, hi => by
    have h1 := defsTo_length f hf i (by omega)
    rw [defsTo_succ f (by omega), List.length_append]
    have := defsB_length (i := i) (hf.2.2.2 _ (List.getElem_mem (show i < f.blocks.length by omega)))
    omega
theorem mks_nil (n : Nat) : mks n [] = List.replicate n ⟨-1, -2⟩ := by
  unfold mks
  apply List.ext_getElem (by simp)
  intro j h1 h2
  simp [mkr]
theorem mns_nil (n : Nat) : mns n [] = List.replicate n 0 := by
  unfold mns
  apply List.ext_getElem (by simp)
  intro j h1 h2
  simp [cntD]
theorem mkl_le {α : Type} {n : Nat} (z : α) (hn : n ≤ 1000) : mkl (n : Int) z = some (List.replicate n z) := by
  have h1 : n < LIM := by simp only [LIM]; omega
  simp [mkl, h1]
theorem none_all (l : List PMaker) (h : l.length ≤ 1000) : whl (fun (s : (List PMaker × Int)) => proper_made.bd12 l s.1 s.2) FUEL (l, 0) = some (List.replicate l.length ⟨-1, -2⟩) := by
  have hrun := whl_run (body := fun (s : List PMaker × Int) => proper_made.bd12 l s.1 s.2) (r := List.replicate l.length (⟨-1, -2⟩ : PMaker)) l.length FUEL (fun i => (List.replicate i (⟨-1, -2⟩ : PMaker) ++ l.drop i, (i : Int))) (fun i hi => by
    have hl : i < (List.replicate i (⟨-1, -2⟩ : PMaker) ++ l.drop i).length := by simp; omega
    simp only [proper_made.bd12, len_lt, hi, if_true, idx_lt hl, Option.bind_some, Int.toNat_natCast, w64_i hi (show l.length ≤ 1000 by omega)]
    congr 3
    rw [List.set_append_right _ _ (by simp)]
    simp only [List.length_replicate, Nat.sub_self]
    rw [List.drop_eq_getElem_cons hi, List.set_cons_zero, List.replicate_succ', List.append_assoc]; rfl) (by simp [proper_made.bd12, len]) (lt_FUEL (le_max h (by omega)))
  simpa using hrun
theorem made_eq (f : PFunc) (hf : SmF f) : proper_made f = some (mks f.regs.length (defs f), mns f.regs.length (defs f)) := by
  have hn := hf.1
  have hr := hf.2.1
  unfold proper_made
  simp only [len, mkl_le (n := f.regs.length) _ (show f.regs.length ≤ 1000 by omega), Option.bind_some]
  unfold proper_made.jn4
  have h0 := none_all (List.replicate f.regs.length PMaker.zero) (by simpa using (show f.regs.length ≤ 1000 by omega))
  rw [List.length_replicate] at h0
  rw [h0]
  simp only [Option.bind_some, proper_made.nx12]
  have hrun := whl_run (body := fun (s : (List PMaker × List Int × Int)) => proper_made.bd21 f s.1 s.2.1 s.2.2) (r := (mks f.regs.length (defs f), mns f.regs.length (defs f))) f.blocks.length FUEL
    (fun i => (mks f.regs.length (defsTo f i), mns f.regs.length (defsTo f i), (i : Int))) (fun i hi => by
      have hB := hf.2.2.2 _ (List.getElem_mem hi)
      obtain ⟨b1, b2, _⟩ := id hB
      have hL := defsTo_length f hf i (by omega)
      simp only [proper_made.bd21, len_lt, hi, if_true, idx_lt hi, Option.bind_some]
      have hp := whl_run (body := fun (s : (List PMaker × List Int × Int)) => proper_made.bd40 (i : Int) f.blocks[i] s.1 s.2.1 s.2.2) (r := (mks f.regs.length (defsTo f i ++ defsP i f.blocks[i]), mns f.regs.length (defsTo f i ++ defsP i f.blocks[i]))) f.blocks[i].phis.length FUEL
        (fun k => (mks f.regs.length (defsTo f i ++ (defsP i f.blocks[i]).take k), mns f.regs.length (defsTo f i ++ (defsP i f.blocks[i]).take k), (k : Int))) (fun k hk => by
          have hk' : k < (defsP i f.blocks[i]).length := by simpa [defsP] using hk
          simp only [proper_made.bd40, len_lt, hk, if_true, idx_lt hk, Option.bind_some]
          rw [made1_eq _ _ _ _ (by simp only [List.length_append, List.length_take]; omega)]
          simp only [Option.bind_some, w64_i hk (show f.blocks[i].phis.length ≤ 1000 by omega)]
          rw [List.take_succ_eq_append_getElem hk', List.append_assoc]
          simp [defsP]) (by simp [proper_made.bd40, len, List.take_of_length_le, defsP]) (lt_FUEL (le_max b2 (by omega)))
      simp only [List.take_zero, List.append_nil] at hp
      have hz : (((0 : Nat) : Int)) = 0 := rfl
      rw [hz] at hp
      rw [hp]
      simp only [Option.bind_some, proper_made.nx40]
      have hq := whl_run (body := fun (s : (List PMaker × List Int × Int)) => proper_made.bd47 (i : Int) f.blocks[i] s.1 s.2.1 s.2.2) (r := (mks f.regs.length (defsTo f (i + 1)), mns f.regs.length (defsTo f (i + 1)))) f.blocks[i].ins.length FUEL
        (fun k => (mks f.regs.length ((defsTo f i ++ defsP i f.blocks[i]) ++ (defsI i f.blocks[i]).take k), mns f.regs.length ((defsTo f i ++ defsP i f.blocks[i]) ++ (defsI i f.blocks[i]).take k), (k : Int))) (fun k hk => by
          have hk' : k < (defsI i f.blocks[i]).length := by simpa [defsI] using hk
          have hpl : (defsP i f.blocks[i]).length ≤ 300 := by simpa [defsP] using b2
          simp only [proper_made.bd47, len_lt, hk, if_true, idx_lt hk, Option.bind_some]
          rw [made1_eq _ _ _ _ (by simp only [List.length_append, List.length_take]; omega)]
          simp only [Option.bind_some, w64_i hk (show f.blocks[i].ins.length ≤ 1000 by omega)]
          rw [List.take_succ_eq_append_getElem hk', ← List.append_assoc]
          simp [defsI]) (by
            have : f.blocks[i].ins.length = (defsI i f.blocks[i]).length := by simp [defsI]
            simp only [proper_made.bd47, len]
            rw [if_neg (by omega), this, List.take_length, defsTo_succ f hi, defsB, List.append_assoc]) (lt_FUEL (le_max b1 (by omega)))
      simp only [List.take_zero, List.append_nil] at hq
      rw [hz] at hq
      rw [hq]
      simp only [Option.bind_some, proper_made.nx47, w64_i hi (show f.blocks.length ≤ 1000 by omega)]) (by
        simp only [proper_made.bd21, len]
        rw [if_neg (by omega), defsTo_all]) (lt_FUEL (le_max hn (by omega)))
  have hd0 : defsTo f 0 = [] := by simp [defsTo]
  rw [hd0, mks_nil, mns_nil] at hrun
  have hz : (((0 : Nat) : Int)) = 0 := rfl
  rw [hz] at hrun
  rw [hrun]; rfl
/-- A maker is in a block that is there. -/
theorem defs_mem (f : PFunc) {x : D3} (h : x ∈ defs f) : ∃ i : Nat, x.2.1 = (i : Int) ∧ i < f.blocks.length := by
  unfold defs at h
  obtain ⟨⟨B, i⟩, h1, h2⟩ := List.mem_flatMap.1 h
  have hi : i < f.blocks.length := by
    have := List.snd_lt_of_mem_zipIdx h1
    simpa using this
  refine ⟨i, ?_, hi⟩
  unfold defsB defsP defsI at h2
  rcases List.mem_append.1 h2 with h3 | h3
  · obtain ⟨p, _, rfl⟩ := List.mem_map.1 h3; rfl
  · obtain ⟨p, _, rfl⟩ := List.mem_map.1 h3; rfl
theorem mkr_block (f : PFunc) (r : Nat) : (mkr (defs f) r).block = -1 ∨ ∃ i : Nat, (mkr (defs f) r).block = (i : Int) ∧ i < f.blocks.length := by
  by_cases h : cntD (defs f) r = 0
  · left; unfold mkr; rw [cntD_zero h]
  · obtain ⟨x, h1, h2, _⟩ := cntD_pos h
    right
    obtain ⟨i, h3, h4⟩ := defs_mem f h2
    refine ⟨i, ?_, h4⟩
    unfold mkr; rw [h1]; exact h3
end Go.Proofs.YteaknconpkklhaaDoor
set_option linter.unusedVariables false
set_option linter.unusedSimpArgs false
namespace Go.Proofs.YteaknconpkklhaaDoor
open Go Go.Proofs

theorem whl_fold {α σ : Type} (L : List α) (g : σ → α → σ) (s0 : σ) {body : σ × Int → Option (Ex σ (σ × Int))} (hl : L.length ≤ 1000)
    (h : ∀ k (hk : k < L.length) s, body (s, (k : Int)) = some (.go (g s L[k], ((k + 1 : Nat) : Int)))) (he : ∀ s, body (s, (L.length : Int)) = some (.ret s)) : whl body FUEL (s0, 0) = some (L.foldl g s0) := by
  have hrun := whl_run (body := body) (r := L.foldl g s0) L.length FUEL (fun k => ((L.take k).foldl g s0, (k : Int))) (fun k hk => by
    rw [h k hk, foldl_take g s0 L hk]) (by rw [he, List.take_length]) (lt_FUEL (le_max hl (by omega)))
  exact hrun
/-- What the table holds of two blocks. -/
def ovT (T : List (List Bool)) (a b : Int) : Bool := (T.getD a.toNat []).getD b.toNat false
theorem Dim.ovT {n k : Nat} {T : List (List Bool)} (h : Dim n k T) {a b : Int} (a0 : 0 ≤ a) (a1 : a < (n : Int)) (b0 : 0 ≤ b) (b1 : b < (k : Int)) : ∃ row, idx T a = some row ∧ idx row b = some (Go.Proofs.YteaknconpkklhaaDoor.ovT T a b) := by
  obtain ⟨row, r1, r2, r3⟩ := h.get a0 a1
  refine ⟨row, r1, ?_⟩
  obtain ⟨v, v1, v2⟩ := idx_in (xs := row) b0 (by omega)
  rw [v1]
  unfold Go.Proofs.YteaknconpkklhaaDoor.ovT
  simp [List.getD_eq_getElem?_getD, r2, v2]
/-- A use: the register, the block, the place; is it made ahead? -/
def okU (f : PFunc) (T : List (List Bool)) (u : D3) : Bool :=
  decide (u.1 < f.params) || (decide ((mkr (defs f) u.1.toNat).block ≥ 0) && ((decide (¬ (mkr (defs f) u.1.toNat).block = u.2.1) && ovT T (mkr (defs f) u.1.toNat).block u.2.1) || (decide ((mkr (defs f) u.1.toNat).block = u.2.1) && decide ((mkr (defs f) u.1.toNat).at_ < u.2.2))))
def lowS (f : PFunc) (T : List (List Bool)) (low : Int) (u : D3) : Int := if okU f T u = false ∧ (low < 0 ∨ u.1 < low) then u.1 else low
theorem use_eq (l : PProperLooker) (hm : l.makers = mks l.f.regs.length (defs l.f)) (hT : Dim l.f.blocks.length l.f.blocks.length l.over) (low r b a : Int) (hr : hasR l.f r) (hb0 : 0 ≤ b) (hb1 : b < (l.f.blocks.length : Int)) :
    proper_looker_use (⟨(⟨l.f.params, l.f.result, l.f.regs, l.f.blocks⟩ : PFunc), l.makers, l.over, low⟩ : PProperLooker) r b a = some (lowS l.f l.over low (r, b, a)) := by
  obtain ⟨k, rfl⟩ : ∃ k : Nat, r = k := ⟨r.toNat, by have := hr.1; omega⟩
  have hk : k < l.f.regs.length := by have := hr.2; omega
  unfold proper_looker_use
  simp only [hm, mks_idx _ hk, Option.bind_some]
  have key : (if (k : Int) < l.f.params then some true else (if (mkr (defs l.f) k).block ≥ 0 then (if ¬ (mkr (defs l.f) k).block = b then (idx l.over (mkr (defs l.f) k).block).bind fun x25 =>
      (idx x25 b).bind fun x33 => some x33 else some false).bind fun t24 => some (decide (t24 = true ∨ ((mkr (defs l.f) k).block = b ∧ (mkr (defs l.f) k).at_ < a))) else some false).bind fun t23 => some t23) = some (okU l.f l.over ((k : Int), b, a)) := by
    unfold okU
    simp only [Int.toNat_natCast]
    by_cases h1 : (k : Int) < l.f.params
    · rw [if_pos h1]; simp [h1]
    rw [if_neg h1]
    rcases mkr_block l.f k with h2 | ⟨i, h2, h3⟩
    · rw [if_neg (by omega)]; simp [h1, h2]
    rw [if_pos (by omega)]
    obtain ⟨row, r1, r2⟩ := hT.ovT (a := (mkr (defs l.f) k).block) (b := b) (by omega) (by omega) hb0 hb1
    rw [r1]
    simp only [Option.bind_some, r2]
    by_cases h4 : (mkr (defs l.f) k).block = b
    · rw [if_neg (by simpa using h4)]
      simp [h1, h4, hb0]
    · rw [if_pos h4]
      have h0 : (mkr (defs l.f) k).block ≥ 0 := by omega
      simp [h1, h4, h0]
  rw [key]
  simp only [Option.bind_some, lowS]
  cases okU l.f l.over ((k : Int), b, a) <;> simp
  split <;> simp_all

def usesP (f : PFunc) (i : Nat) (B : PBlock) : List D3 := B.phis.flatMap fun p => p.args.zipIdx.map fun x => (x.1, (preds (nexts f) i).getD x.2 0, ((f.blocks.getD ((preds (nexts f) i).getD x.2 0).toNat PBlock.zero).ins.length : Int))
def usesI (i : Nat) (B : PBlock) : List D3 := B.ins.zipIdx.flatMap fun x => x.1.args.map fun a => (a, (i : Int), ((x.2 : Nat) : Int))
def usesT (i : Nat) (B : PBlock) : List D3 := if B.term.arg ≥ 0 then [(B.term.arg, (i : Int), (B.ins.length : Int))] else []
def usesB (f : PFunc) (i : Nat) (B : PBlock) : List D3 := usesP f i B ++ usesI i B ++ usesT i B
def uses (f : PFunc) : List D3 := f.blocks.zipIdx.flatMap fun x => usesB f x.2 x.1
theorem all_eq (l : PProperLooker) {m : PModule} (hf : SmF l.f) (hok : FuncOk m l.f) (hm : l.makers = mks l.f.regs.length (defs l.f)) (hT : Dim l.f.blocks.length l.f.blocks.length l.over) :
    proper_looker_all l = some ((uses l.f).foldl (lowS l.f l.over) l.lowest) := by
  have hn := hf.1
  unfold proper_looker_all
  rw [checkAhead_eq l.f hf]
  simp only [Option.bind_some]
  have hout := whl_fold l.f.blocks.zipIdx (fun (low : Int) (x : PBlock × Nat) => (usesB l.f x.2 x.1).foldl (lowS l.f l.over) low) l.lowest (body := fun (s : (Int × Int)) => proper_looker_all.bd10 l (aheads (nexts l.f)) s.1 s.2) (by simp; omega) (fun i hi low => by
    have hi : i < l.f.blocks.length := by simpa using hi
    have hB := hf.2.2.2 _ (List.getElem_mem hi)
    have hR := BlockOk_regs (hok.blocks _ (List.getElem_mem hi))
    obtain ⟨b1, b2, b3, b4, b5⟩ := id hB
    simp only [proper_looker_all.bd10, len_lt, hi, if_true, idx_lt hi, Option.bind_some]
    have hg : idx (aheads (nexts l.f)) (i : Int) = some (preds (nexts l.f) i) := by rw [idx_nat]; exact aheads_get _ _ (by rw [nexts_length]; exact hi)
    -- phis
    have hp := whl_fold l.f.blocks[i].phis (fun (low : Int) (p : PPhi) => (p.args.zipIdx.map fun x => (x.1, (preds (nexts l.f) i).getD x.2 0, ((l.f.blocks.getD ((preds (nexts l.f) i).getD x.2 0).toNat PBlock.zero).ins.length : Int))).foldl (lowS l.f l.over) low) low (body := fun (s : (Int × Int)) => proper_looker_all.bd29 l (aheads (nexts l.f)) (i : Int) l.f.blocks[i] s.1 s.2) (by omega) (fun k hk low => by
      have hpm := List.getElem_mem hk
      have hl := hok.ahead i hi _ hpm
      have h5 := b5 _ hpm
      simp only [proper_looker_all.bd29, len_lt, hk, if_true, idx_lt hk, Option.bind_some]
      have ha := whl_fold (l.f.blocks[i].phis[k].args.zipIdx.map fun x => (x.1, (preds (nexts l.f) i).getD x.2 0, ((l.f.blocks.getD ((preds (nexts l.f) i).getD x.2 0).toNat PBlock.zero).ins.length : Int))) (lowS l.f l.over) low (body := fun (s : (Int × Int)) => proper_looker_all.bd85 l (aheads (nexts l.f)) (i : Int) l.f.blocks[i].phis[k] s.1 s.2) (by simp; omega) (fun j hj low => by
        have hj : j < l.f.blocks[i].phis[k].args.length := by simpa using hj
        have hj2 : j < (preds (nexts l.f) i).length := by omega
        have hin := preds_in (nexts l.f) i _ (List.getElem_mem hj2)
        rw [nexts_length] at hin
        have hgd : (preds (nexts l.f) i).getD j 0 = (preds (nexts l.f) i)[j] := by rw [List.getD_eq_getElem?_getD, List.getElem?_eq_getElem hj2]; rfl
        obtain ⟨C, c1, c2⟩ := idx_in (xs := l.f.blocks) hin.1 hin.2
        have hu := use_eq l hm hT low l.f.blocks[i].phis[k].args[j] (preds (nexts l.f) i)[j] (len C.ins) (hR.pargs _ hpm _ (List.getElem_mem hj)) hin.1 hin.2
        simp only [proper_looker_all.bd85, len_lt, hj, if_true, idx_lt hj, Option.bind_some, hg, idx_lt hj2, c1, hu, w64_i hj (show l.f.blocks[i].phis[k].args.length ≤ 1000 by omega)]
        simp [hgd, List.getD_eq_getElem?_getD, c2, len, List.getElem?_eq_getElem hj2]) (fun s => by simp [proper_looker_all.bd85, len])
      rw [ha]
      simp only [Option.bind_some, proper_looker_all.nx85, w64_i hk (show l.f.blocks[i].phis.length ≤ 1000 by omega)]) (fun s => by simp [proper_looker_all.bd29, len])
    rw [hp]
    simp only [Option.bind_some, proper_looker_all.nx29]
    -- instructions
    generalize hlow : List.foldl _ low l.f.blocks[i].phis = lo1
    have hI := whl_fold l.f.blocks[i].ins.zipIdx (fun (low : Int) (x : PInstr × Nat) => (x.1.args.map fun a => (a, (i : Int), ((x.2 : Nat) : Int))).foldl (lowS l.f l.over) low) lo1 (body := fun (s : (Int × Int)) => proper_looker_all.bd38 l (i : Int) l.f.blocks[i] s.1 s.2) (by simp; omega) (fun k hk low => by
      have hk : k < l.f.blocks[i].ins.length := by simpa using hk
      have hxm := List.getElem_mem hk
      have h4 := b4 _ hxm
      simp only [proper_looker_all.bd38, len_lt, hk, if_true, idx_lt hk, Option.bind_some]
      have ha := whl_fold (l.f.blocks[i].ins[k].args.map fun a => (a, (i : Int), ((k : Nat) : Int))) (lowS l.f l.over) low (body := fun (s : (Int × Int)) => proper_looker_all.bd56 l (i : Int) (k : Int) l.f.blocks[i].ins[k] s.1 s.2) (by simp; omega) (fun j hj low => by
        have hj : j < l.f.blocks[i].ins[k].args.length := by simpa using hj
        have hu := use_eq l hm hT low l.f.blocks[i].ins[k].args[j] (i : Int) (k : Int) (hR.args _ hxm _ (List.getElem_mem hj)) (by omega) (by omega)
        simp only [proper_looker_all.bd56, len_lt, hj, if_true, idx_lt hj, Option.bind_some, hu, w64_i hj (show l.f.blocks[i].ins[k].args.length ≤ 1000 by omega)]
        simp) (fun s => by simp [proper_looker_all.bd56, len])
      rw [ha]
      simp only [Option.bind_some, proper_looker_all.nx56, w64_i hk (show l.f.blocks[i].ins.length ≤ 1000 by omega)]
      simp) (fun s => by simp [proper_looker_all.bd38, len])
    rw [hI]
    simp only [Option.bind_some, proper_looker_all.nx38]
    generalize hlow2 : List.foldl _ lo1 l.f.blocks[i].ins.zipIdx = lo2
    have hfin : (usesB l.f i l.f.blocks[i]).foldl (lowS l.f l.over) low = (usesT i l.f.blocks[i]).foldl (lowS l.f l.over) lo2 := by
      unfold usesB usesP usesI
      rw [List.foldl_append, List.foldl_append, List.foldl_flatMap, List.foldl_flatMap, hlow, hlow2]
    have hz : (l.f.blocks.zipIdx)[i]'(by simpa using hi) = (l.f.blocks[i], i) := by simp
    simp only [hz, hfin]
    by_cases ht : l.f.blocks[i].term.arg ≥ 0
    · rw [if_pos ht, use_eq l hm hT lo2 l.f.blocks[i].term.arg (i : Int) (len l.f.blocks[i].ins) ⟨ht, hR.arg⟩ (by omega) (by omega)]
      simp only [Option.bind_some, proper_looker_all.jn20, w64_i hi (show l.f.blocks.length ≤ 1000 by omega), usesT, if_pos ht]
      rfl
    · rw [if_neg ht]
      simp only [proper_looker_all.jn20, w64_i hi (show l.f.blocks.length ≤ 1000 by omega), usesT, if_neg ht]
      rfl) (fun s => by simp [proper_looker_all.bd10, len])
  rw [hout]
  simp only [Option.bind_some, proper_looker_all.nx10]
  unfold uses
  rw [List.foldl_flatMap]
end Go.Proofs.YteaknconpkklhaaDoor
set_option linter.unusedVariables false
set_option linter.unusedSimpArgs false
namespace Go.Proofs.YteaknconpkklhaaDoor
open Go Go.Proofs

/-- Made twice, or a parameter that is made. -/
def Twice (f : PFunc) (r : Nat) : Prop := cntD (defs f) r > 1 ∨ (cntD (defs f) r > 0 ∧ (r : Int) < f.params)
instance (f : PFunc) (r : Nat) : Decidable (Twice f r) := by unfold Twice; infer_instance
/-- What Form tells of a proper module's function. -/
inductive FormIs (f : PFunc) : GErr → Prop
  | shape {s : List Bool} {o : List Int} : Walked f s o → s ≠ List.replicate f.blocks.length true → FormIs f (.code 6)
  | twice {R : List Int} {r : Nat} : Full f R → r < f.regs.length → Twice f r → (∀ j, j < r → ¬ Twice f j) → FormIs f (.spot r (.code 7))
  | none {R : List Int} {T : List (List Bool)} : Full f R → (∀ r, r < f.regs.length → ¬ Twice f r) → dom_Dominates f = some T → Dim f.blocks.length f.blocks.length T → (uses f).foldl (lowS f T) (-1) ≥ 0 → FormIs f (.spot ((uses f).foldl (lowS f T) (-1)) (.code 4))
  | ok {R : List Int} {T : List (List Bool)} : Full f R → (∀ r, r < f.regs.length → ¬ Twice f r) → dom_Dominates f = some T → Dim f.blocks.length f.blocks.length T → (uses f).foldl (lowS f T) (-1) < 0 → FormIs f .no
theorem form_says (m : PModule) (hm : SmM m) (k : Nat) (hk : k < m.funcs.length) (hp : Proper m) : ∃ e, proper_Form m (k : Int) = some e ∧ FormIs m.funcs[k] e := by
  obtain ⟨e, he, hiff⟩ := module_says m hm
  have he0 : e = GErr.no := hiff.2 hp
  subst he0
  have hf := hm.2 _ (List.getElem_mem hk)
  have hok := hp.funcs _ (List.getElem_mem hk)
  unfold proper_Form
  rw [he]
  simp only [Option.bind_some, len]
  rw [if_neg (by simp), if_neg (by omega), idx_lt hk]
  simp only [Option.bind_some]
  generalize hff : m.funcs[k] = f at *
  obtain ⟨s, o, hw, -, hV⟩ := walked_any f hf
  have hn := hf.1
  have hpos : 0 < f.blocks.length := by have := hok.small.pos; omega
  rw [hw.rea]
  simp only [Option.bind_some]
  have hsl : s.length ≤ maxLen := le_max (show s.length ≤ 70 by rw [hw.len]; exact hn) (by omega)
  rcases scan0 s (fun i b => if b = true then none else some (GErr.code 6)) (fun s' => proper_Form.bd24 s s') hsl (fun i hi => by
    simp only [proper_Form.bd24, len_lt, hi, if_true, idx_lt hi, Option.bind_some, w64_at hi hsl]
    cases s[i] <;> simp) (by simp [proper_Form.bd24, len]) with ⟨i, hi, r, h1, -, h3⟩ | ⟨hall, h3⟩
  · rw [h3]
    by_cases hb : s[i] = true
    · rw [if_pos hb] at h1; cases h1
    · rw [if_neg hb] at h1; cases h1
      refine ⟨_, rfl, .shape hw fun e => hb ?_⟩
      subst e; simp
  rw [h3]
  simp only [Option.bind_some]
  have hs : s = List.replicate f.blocks.length true := by
    apply List.ext_getElem (by simp [hw.len])
    intro i h1 h2
    have := hall i h1
    by_cases hb : s[i] = true
    · simp [hb]
    · rw [if_neg hb] at this; cases this
  have hfull := full_of f hf hpos hw hs
  unfold proper_Form.nx24
  rw [made_eq f hf]
  simp only [Option.bind_some]
  have hmx : (List.range f.regs.length).length ≤ maxLen := le_max (show (List.range f.regs.length).length ≤ 300 by rw [List.length_range]; exact hf.2.1) (by omega)
  rcases scan0 (List.range f.regs.length) (fun i r => if Twice f r then some (GErr.spot (r : Int) (.code 7)) else none) (fun s' => proper_Form.bd35 f (mks f.regs.length (defs f), mns f.regs.length (defs f)) s') hmx (fun i hi => by
    have hi' : i < f.regs.length := by simpa using hi
    have hlm : ((i : Int) < len (mns f.regs.length (defs f))) := by simp only [len, mns_len]; omega
    simp only [proper_Form.bd35, hlm, if_true, mns_idx _ hi', Option.bind_some, List.getElem_range, w64_at hi hmx]
    by_cases hc : Twice f i
    · rw [if_pos hc, if_pos (by unfold Twice at hc; omega)]
    · rw [if_neg hc, if_neg (by unfold Twice at hc; omega)]) (by simp [proper_Form.bd35, len, mns_len]) with ⟨i, hi, r, h1, h2, h4⟩ | ⟨hall2, h4⟩
  · rw [h4]
    have hi' : i < f.regs.length := by simpa using hi
    simp only [List.getElem_range] at h1
    by_cases hc : Twice f i
    · rw [if_pos hc] at h1; cases h1
      refine ⟨_, rfl, .twice hfull hi' hc fun j hj hcj => ?_⟩
      have := h2 j (by simpa using (show j < f.regs.length by omega)) hj
      simp only [List.getElem_range] at this
      rw [if_pos hcj] at this; cases this
    · rw [if_neg hc] at h1; cases h1
  rw [h4]
  simp only [Option.bind_some]
  have hno : ∀ r, r < f.regs.length → ¬ Twice f r := fun r hr hc => by
    have := hall2 r (by simpa using hr)
    simp only [List.getElem_range] at this
    rw [if_pos hc] at this; cases this
  unfold proper_Form.nx35
  obtain ⟨N, L, hL, hN⟩ := nearest_ok hfull
  obtain ⟨T, hT, hD, -⟩ := dominates_ok hfull hL hN
  rw [hT]
  simp only [Option.bind_some]
  have hall3 := all_eq (⟨f, mks f.regs.length (defs f), T, -1⟩ : PProperLooker) (m := m) hf hok rfl hD
  have hall4 : proper_looker_all (⟨(⟨f.params, f.result, f.regs, f.blocks⟩ : PFunc), mks f.regs.length (defs f), T, -1⟩ : PProperLooker) = some ((uses f).foldl (lowS f T) (-1)) := hall3
  rw [hall4]
  simp only [Option.bind_some]
  by_cases hc : (uses f).foldl (lowS f T) (-1) ≥ 0
  · rw [if_pos hc]; exact ⟨_, rfl, .none hfull hno hT hD hc⟩
  · rw [if_neg hc]; exact ⟨_, rfl, .ok hfull hno hT hD (by omega)⟩
theorem form_any (m : PModule) (hm : SmM m) (a : Int) : ∃ e, proper_Form m a = some e := by
  obtain ⟨e, he, hiff⟩ := module_says m hm
  by_cases hp : Proper m
  · by_cases ha : a < 0 ∨ a ≥ len m.funcs
    · unfold proper_Form
      rw [he, hiff.2 hp]
      simp only [Option.bind_some]
      rw [if_neg (by simp), if_pos ha]
      exact ⟨_, rfl⟩
    · simp only [len] at ha
      obtain ⟨k, rfl⟩ : ∃ k : Nat, a = k := ⟨a.toNat, by omega⟩
      obtain ⟨e, h1, _⟩ := form_says m hm k (by omega) hp
      exact ⟨e, h1⟩
  · unfold proper_Form
    rw [he]
    simp only [Option.bind_some]
    rw [if_pos (fun h => hp (hiff.1 h))]
    exact ⟨_, rfl⟩
/-! ### The numbers of errors -/
def codeF : GErr → Int
  | .no => 0
  | .code c => if 1 ≤ c ∧ c ≤ 8 then c else -1
  | .spot _ _ => -1
theorem code_eq (e : GErr) : fettlelaw00_Code e = some (codeF e) := by
  unfold fettlelaw00_Code
  by_cases h0 : e = GErr.no
  · subst h0; rfl
  rw [if_neg h0]
  obtain ⟨r, hr, hR⟩ := whl_for (s0 := (1 : Int)) (body := fun (s : Int) => fettlelaw00_Code.bd11 e s) 8 (fun i s => s = (i : Int) + 1 ∧ ∀ j : Nat, j < i → e ≠ .code ((j : Int) + 1)) (fun r => (∃ j : Nat, j < 8 ∧ e = .code ((j : Int) + 1) ∧ r = .ret ((j : Int) + 1)) ∨ ((∀ j : Nat, j < 8 → e ≠ .code ((j : Int) + 1)) ∧ r = .go ())) (by simp only [maxLen]; omega)
    (fun i s hi hI => by
      obtain ⟨rfl, hI⟩ := hI
      simp only [fettlelaw00_Code.bd11]
      rw [if_pos (by omega)]
      by_cases hc : e = .code ((i : Int) + 1)
      · rw [if_pos hc]; exact .inl ⟨_, rfl, .inl ⟨i, hi, hc, rfl⟩⟩
      · rw [if_neg hc]
        refine .inr ⟨_, rfl, ?_, fun j hj => ?_⟩
        · rw [w64_id ⟨by omega, by omega⟩]; omega
        · rcases Nat.lt_succ_iff_lt_or_eq.1 hj with h1 | rfl
          · exact hI j h1
          · exact hc) (fun s hI => by
      obtain ⟨rfl, hI⟩ := hI
      exact ⟨_, by simp only [fettlelaw00_Code.bd11]; rw [if_neg (by omega)], .inr ⟨hI, rfl⟩⟩) ⟨by omega, fun j hj => by omega⟩
  rw [hr]
  rcases hR with ⟨j, hj, rfl, rfl⟩ | ⟨hall, rfl⟩
  · simp only [Option.bind_some, codeF]
    rw [if_pos (by omega)]
  · simp only [Option.bind_some, fettlelaw00_Code.nx11]
    cases e with
    | no => exact absurd rfl h0
    | spot a x => rfl
    | code c =>
      simp only [codeF]
      rw [if_neg]
      intro hc
      exact hall (c - 1).toNat (by omega) (by congr 1; omega)
def ofF : GErr → Int × Int
  | .spot a e => (codeF e, a)
  | e => (codeF e, -1)
theorem of_eq (e : GErr) : fettlelaw00_Of e = some (ofF e) := by
  cases e with
  | no => simp [fettlelaw00_Of, ofF, code_eq]
  | code c => simp [fettlelaw00_Of, ofF, code_eq]
  | spot a x => simp [fettlelaw00_Of, ofF, code_eq]
/-! ### What is handed in stays -/
theorem up13 : fettlelaw13_up = some true := by kernel_rfl
theorem makers_eq (f : PFunc) (hf : SmF f) : proper_Makers f = some (mks f.regs.length (defs f)) := by
  unfold proper_Makers
  rw [made_eq f hf]; rfl
theorem fill_makers (l : List PMaker) (h : l.length ≤ 300) : whl (fun (s : (List PMaker × Int)) => fettlelaw13_ProperStays.bd54 s.1 s.2) FUEL (l, 0) = some () := by
  obtain ⟨r, hr, _⟩ := whl_for (s0 := (l, 0)) (body := fun (s : (List PMaker × Int)) => fettlelaw13_ProperStays.bd54 s.1 s.2) l.length (fun i s => s.2 = (i : Int) ∧ s.1.length = l.length) (fun _ => True) (le_max h (by omega)) (fun i s hi hI => by
    obtain ⟨M, q⟩ := s
    obtain ⟨rfl, h1⟩ := hI
    simp only at h1
    have hi' : i < M.length := by omega
    exact .inr ⟨_, by simp only [fettlelaw13_ProperStays.bd54, len_lt, hi', if_true, idx_lt hi', Option.bind_some, Int.toNat_natCast]; rfl, w64_i hi (by omega), by simp [h1]⟩) (fun s hI => by
    obtain ⟨M, q⟩ := s
    obtain ⟨rfl, h1⟩ := hI
    simp only at h1
    exact ⟨(), by simp [fettlelaw13_ProperStays.bd54, len, h1], trivial⟩) ⟨rfl, rfl⟩
  exact hr
theorem no_99 (f : PFunc) (hf : SmF f) : whl (fun (s : Int) => fettlelaw13_ProperStays.bd66 (mks f.regs.length (defs f)) s) FUEL 0 = some (.go ()) := by
  have hl : (mks f.regs.length (defs f)).length ≤ maxLen := le_max (show (mks f.regs.length (defs f)).length ≤ 300 by rw [mks_len]; exact hf.2.1) (by omega)
  rcases scan0 (mks f.regs.length (defs f)) (fun i x => if x.block = 99 then some false else none) (fun s => fettlelaw13_ProperStays.bd66 (mks f.regs.length (defs f)) s) hl (fun i hi => by
    simp only [fettlelaw13_ProperStays.bd66, len_lt, hi, if_true, idx_lt hi, Option.bind_some, w64_at hi hl]
    split <;> rfl) (by simp [fettlelaw13_ProperStays.bd66, len]) with ⟨i, hi, r, h1, -, -⟩ | ⟨-, h⟩
  · exfalso
    have hn := hf.1
    have : (mks f.regs.length (defs f))[i].block ≠ 99 := by
      simp only [mks, List.getElem_map, List.getElem_range]
      rcases mkr_block f i with h2 | ⟨j, h2, h3⟩ <;> omega
    rw [if_neg this] at h1
    cases h1
  · exact h
theorem pure_properStays (m : PModule) (a : Int) (h : wfModule m) (ha : inI64 a) : fettlelaw13_ProperStays m a = some true := by
  unfold fettlelaw13_ProperStays
  rw [up13]
  obtain ⟨b, hb, hsm⟩ := small_ok m
  rw [hb]
  simp only [Option.bind_some]
  cases b with
  | false => simp
  | true =>
    have hm := hsm rfl
    obtain ⟨e, he⟩ := form_any m hm a
    simp only [Bool.not_true, Bool.false_eq_true, if_false, copy_eq m hm, Option.bind_some, he, of_eq]
    by_cases hc : a < 0 ∨ a ≥ len m.funcs
    · rw [if_pos hc]
      simp [same_eq m m hm]
    · rw [if_neg hc]
      simp only [len] at hc
      obtain ⟨k, rfl⟩ : ∃ k : Nat, a = k := ⟨a.toNat, by omega⟩
      have hk : k < m.funcs.length := by omega
      have hf := hm.2 _ (List.getElem_mem hk)
      rw [idx_lt hk]
      simp only [Option.bind_some, makers_eq _ hf]
      rw [fill_makers _ (by rw [mks_len]; exact hf.2.1)]
      simp only [Option.bind_some, fettlelaw13_ProperStays.nx54, idx_lt hk, makers_eq _ hf, no_99 _ hf, fettlelaw13_ProperStays.nx66, same_eq m m hm]
      simp
end Go.Proofs.YteaknconpkklhaaDoor
