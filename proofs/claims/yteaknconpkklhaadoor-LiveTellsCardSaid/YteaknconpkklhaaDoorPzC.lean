/- Several parts in one text, the first of which: Plain laws of layer 13, part A: by what registers are made. No conditions. -/
import Derived.Test.YteaknconpkklhaaDoorPzA
import Derived.Test.YteaknconpkklhaaDoorPzB
import Derived.Test.YteaknconpkklhaaDoorOf
import Derived.KernelRfl
set_option linter.unusedVariables false
set_option linter.unusedSimpArgs false
namespace Go.Proofs.YteaknconpkklhaaDoor
open Go Go.Proofs
/-- What is made: the register, the block, the place. -/
abbrev D3 := Int × Int × Int
def mkr (L : List D3) (r : Nat) : PMaker := match L.find? (fun x => decide (x.1 = (r : Int))) with | some x => ⟨x.2.1, x.2.2⟩ | none => ⟨-1, -2⟩
def cntD (L : List D3) (r : Nat) : Nat := L.countP (fun x => decide (x.1 = (r : Int)))
def defsP (i : Nat) (B : PBlock) : List D3 := B.phis.map fun p => (p.dst, (i : Int), -1)
def defsI (i : Nat) (B : PBlock) : List D3 := B.ins.zipIdx.map fun x => (x.1.dst, (i : Int), ((x.2 : Nat) : Int))
def defsB (i : Nat) (B : PBlock) : List D3 := defsP i B ++ defsI i B
def defs (f : PFunc) : List D3 := f.blocks.zipIdx.flatMap fun x => defsB x.2 x.1
theorem mkl_le {α : Type} {n : Nat} (z : α) (hn : n ≤ 1000) : mkl (n : Int) z = some (List.replicate n z) := by
  have h1 : n < LIM := by simp only [LIM]; omega
  simp [mkl, h1]
end Go.Proofs.YteaknconpkklhaaDoor
set_option linter.unusedVariables false
set_option linter.unusedSimpArgs false
namespace Go.Proofs.YteaknconpkklhaaDoor
open Go Go.Proofs
theorem whl_fold {α σ : Type} (L : List α) (g : σ → α → σ) (s0 : σ) {body : σ × Int → Option (Ex σ (σ × Int))} (hl : L.length ≤ 1000)
    (h : ∀ k (hk : k < L.length) s, body (s, (k : Int)) = some (.go (g s L[k], ((k + 1 : Nat) : Int)))) (he : ∀ s, body (s, (L.length : Int)) = some (.ret s)) : whl body FUEL (s0, 0) = some (L.foldl g s0) := by
  have hrun := whl_run (body := body) (r := L.foldl g s0) L.length FUEL (fun k => ((L.take k).foldl g s0, (k : Int))) (fun k hk => by
    rw [h k hk, foldl_take g s0 L hk]) (by rw [he, List.take_length]) (lt_FUEL (le_max hl (by omega)))
  exact hrun
/-- What the table holds of two blocks. -/
def ovT (T : List (List Bool)) (a b : Int) : Bool := (T.getD a.toNat []).getD b.toNat false
theorem Dim.ovT {n k : Nat} {T : List (List Bool)} (h : Dim n k T) {a b : Int} (a0 : 0 ≤ a) (a1 : a < (n : Int)) (b0 : 0 ≤ b) (b1 : b < (k : Int)) : ∃ row, idx T a = some row ∧ idx row b = some (Go.Proofs.YteaknconpkklhaaDoor.ovT T a b) := by
  obtain ⟨row, r1, r2, r3⟩ := h.get a0 a1
  refine ⟨row, r1, ?_⟩
  obtain ⟨v, v1, v2⟩ := idx_in (xs := row) b0 (by omega)
  rw [v1]
  unfold Go.Proofs.YteaknconpkklhaaDoor.ovT
  simp [List.getD_eq_getElem?_getD, r2, v2]
/-- A use: the register, the block, the place; is it made ahead? -/
def okU (f : PFunc) (T : List (List Bool)) (u : D3) : Bool :=
  decide (u.1 < f.params) || (decide ((mkr (defs f) u.1.toNat).block ≥ 0) && ((decide (¬ (mkr (defs f) u.1.toNat).block = u.2.1) && ovT T (mkr (defs f) u.1.toNat).block u.2.1) || (decide ((mkr (defs f) u.1.toNat).block = u.2.1) && decide ((mkr (defs f) u.1.toNat).at_ < u.2.2))))
def usesP (f : PFunc) (i : Nat) (B : PBlock) : List D3 := B.phis.flatMap fun p => p.args.zipIdx.map fun x => (x.1, (preds (nexts f) i).getD x.2 0, ((f.blocks.getD ((preds (nexts f) i).getD x.2 0).toNat PBlock.zero).ins.length : Int))
end Go.Proofs.YteaknconpkklhaaDoor
set_option linter.unusedVariables false
set_option linter.unusedSimpArgs false
namespace Go.Proofs.YteaknconpkklhaaDoor
open Go Go.Proofs
/-- Made twice, or a parameter that is made. -/
def Twice (f : PFunc) (r : Nat) : Prop := cntD (defs f) r > 1 ∨ (cntD (defs f) r > 0 ∧ (r : Int) < f.params)
instance (f : PFunc) (r : Nat) : Decidable (Twice f r) := by unfold Twice; infer_instance
/-! ### The numbers of errors -/
def codeF : GErr → Int
  | .no => 0
  | .code c => if 1 ≤ c ∧ c ≤ 8 then c else -1
  | .spot _ _ => -1
theorem code_eq (e : GErr) : fettlelaw00_Code e = some (codeF e) := by
  unfold fettlelaw00_Code
  by_cases h0 : e = GErr.no
  · subst h0; rfl
  rw [if_neg h0]
  obtain ⟨r, hr, hR⟩ := whl_for (s0 := (1 : Int)) (body := fun (s : Int) => fettlelaw00_Code.bd11 e s) 8 (fun i s => s = (i : Int) + 1 ∧ ∀ j : Nat, j < i → e ≠ .code ((j : Int) + 1)) (fun r => (∃ j : Nat, j < 8 ∧ e = .code ((j : Int) + 1) ∧ r = .ret ((j : Int) + 1)) ∨ ((∀ j : Nat, j < 8 → e ≠ .code ((j : Int) + 1)) ∧ r = .go ())) (by simp only [maxLen]; omega)
    (fun i s hi hI => by
      obtain ⟨rfl, hI⟩ := hI
      simp only [fettlelaw00_Code.bd11]
      rw [if_pos (by omega)]
      by_cases hc : e = .code ((i : Int) + 1)
      · rw [if_pos hc]; exact .inl ⟨_, rfl, .inl ⟨i, hi, hc, rfl⟩⟩
      · rw [if_neg hc]
        refine .inr ⟨_, rfl, ?_, fun j hj => ?_⟩
        · rw [w64_id ⟨by omega, by omega⟩]; omega
        · rcases Nat.lt_succ_iff_lt_or_eq.1 hj with h1 | rfl
          · exact hI j h1
          · exact hc) (fun s hI => by
      obtain ⟨rfl, hI⟩ := hI
      exact ⟨_, by simp only [fettlelaw00_Code.bd11]; rw [if_neg (by omega)], .inr ⟨hI, rfl⟩⟩) ⟨by omega, fun j hj => by omega⟩
  rw [hr]
  rcases hR with ⟨j, hj, rfl, rfl⟩ | ⟨hall, rfl⟩
  · simp only [Option.bind_some, codeF]
    rw [if_pos (by omega)]
  · simp only [Option.bind_some, fettlelaw00_Code.nx11]
    cases e with
    | no => exact absurd rfl h0
    | spot a x => rfl
    | code c =>
      simp only [codeF]
      rw [if_neg]
      intro hc
      exact hall (c - 1).toNat (by omega) (by congr 1; omega)
def ofF : GErr → Int × Int
  | .spot a e => (codeF e, a)
  | e => (codeF e, -1)
theorem of_eq (e : GErr) : fettlelaw00_Of e = some (ofF e) := by
  cases e with
  | no => simp [fettlelaw00_Of, ofF, code_eq]
  | code c => simp [fettlelaw00_Of, ofF, code_eq]
  | spot a x => simp [fettlelaw00_Of, ofF, code_eq]
/-! ### What is handed in stays -/
end Go.Proofs.YteaknconpkklhaaDoor
set_option linter.unusedVariables false
set_option linter.unusedSimpArgs false
namespace Go.Proofs.YteaknconpkklhaaDoor
open Go Go.Proofs
/-- An error's number as an error. -/
def gErr (c : Int) : GErr := if c = 0 then .no else .code c
theorem gErr_no {c : Int} : gErr c = .no ↔ c = 0 := by
  unfold gErr
  by_cases h : c = 0
  · simp [h]
  · rw [if_neg h]; simp [h]
open Classical in
/-- A register that isn't there comes ahead of a type that is amiss. -/
noncomputable def lv (p4 p3 : Prop) : Int := if p4 then 4 else if p3 then 3 else 0
theorem lv4 {p4 p3 : Prop} (h : p4) : lv p4 p3 = 4 := by unfold lv; rw [if_pos h]
theorem lv3 {p4 p3 : Prop} (h4 : ¬ p4) (h : p3) : lv p4 p3 = 3 := by unfold lv; rw [if_neg h4, if_pos h]
theorem lv0 {p4 p3 : Prop} (h4 : ¬ p4) (h : ¬ p3) : lv p4 p3 = 0 := by unfold lv; rw [if_neg h4, if_neg h]
theorem lv_congr {p4 p3 q4 q3 : Prop} (h4 : p4 ↔ q4) (h3 : ¬ q4 → (p3 ↔ q3)) : lv p4 p3 = lv q4 q3 := by
  by_cases h : q4
  · rw [lv4 h, lv4 (h4.2 h)]
  · have h' : ¬ p4 := fun k => h (h4.1 k)
    by_cases k : q3
    · rw [lv3 h k, lv3 h' ((h3 h).2 k)]
    · rw [lv0 h k, lv0 h' (fun j => k ((h3 h).1 j))]
theorem lv_range (p4 p3 : Prop) : lv p4 p3 = 0 ∨ lv p4 p3 = 3 ∨ lv p4 p3 = 4 := by
  unfold lv; split
  · simp
  · split <;> simp
theorem lv_zero {p4 p3 : Prop} : lv p4 p3 = 0 ↔ ¬ p4 ∧ ¬ p3 := by
  by_cases h : p4
  · rw [lv4 h]; simp [h]
  · by_cases k : p3
    · rw [lv3 h k]; simp [k]
    · rw [lv0 h k]; simp [h, k]
/-- The first that isn't 0. -/
def firstNZ (L : List Int) : Int := (L.find? (fun c => decide (c ≠ 0))).getD 0
theorem firstNZ_nil : firstNZ [] = 0 := rfl
theorem firstNZ_cons0 (L : List Int) : firstNZ (0 :: L) = firstNZ L := by simp [firstNZ]
theorem firstNZ_cons {c : Int} (L : List Int) (h : c ≠ 0) : firstNZ (c :: L) = c := by simp [firstNZ, h]
theorem firstNZ_mem (L : List Int) : firstNZ L = 0 ∨ firstNZ L ∈ L := by
  induction L with
  | nil => exact .inl rfl
  | cons c L ih =>
    by_cases h : c = 0
    · subst h; rw [firstNZ_cons0]; exact ih.imp id (List.mem_cons_of_mem _)
    · rw [firstNZ_cons _ h]; exact .inr List.mem_cons_self
theorem firstNZ_at {L : List Int} : ∀ {i : Nat} (hi : i < L.length), L[i] ≠ 0 → (∀ j (hj : j < L.length), j < i → L[j] = 0) → firstNZ L = L[i] := by
  induction L with
  | nil => intro i hi; simp at hi
  | cons c L ih =>
    intro i hi h1 h2
    cases i with
    | zero => exact firstNZ_cons _ h1
    | succ i =>
      have : c = 0 := h2 0 (by simp) (by omega)
      subst this
      rw [firstNZ_cons0, List.getElem_cons_succ]
      rw [List.getElem_cons_succ] at h1
      exact ih (by simpa using hi) h1 (fun j hj hji => by have := h2 (j + 1) (by simpa using hj) (by omega); rwa [List.getElem_cons_succ] at this)
theorem firstNZ_zero {L : List Int} : firstNZ L = 0 ↔ ∀ c ∈ L, c = 0 := by
  induction L with
  | nil => simp [firstNZ_nil]
  | cons c L ih =>
    by_cases h : c = 0
    · subst h; rw [firstNZ_cons0, ih]; simp
    · rw [firstNZ_cons _ h]; simp [h]
/-- A scan that tells the first number that isn't 0. -/
theorem scan_nz {ρ : Type} (L : List Int) (out : Int → ρ) (body : Int → Option (Ex (Ex ρ Unit) Int)) (hl : L.length ≤ maxLen)
    (h : ∀ i (hi : i < L.length), body (i : Int) = some (if L[i] = 0 then .go ((i + 1 : Nat) : Int) else .ret (.ret (out L[i])))) (he : body (L.length : Int) = some (.ret (.go ()))) :
    whl body FUEL 0 = some (if firstNZ L = 0 then .go () else .ret (out (firstNZ L))) := by
  rcases scan0 L (fun _ c => if c = 0 then none else some (out c)) body hl (fun i hi => by rw [h i hi]; split <;> rfl) he with ⟨i, hi, r, h1, h2, h3⟩ | ⟨h1, h2⟩
  · rw [h3]
    have hne : L[i] ≠ 0 := fun e => by rw [if_pos e] at h1; cases h1
    rw [if_neg hne] at h1
    have hf := firstNZ_at hi hne (fun j hj hji => Classical.byContradiction fun hc => by have := h2 j hj hji; rw [if_neg hc] at this; cases this)
    rw [hf, if_neg hne]
    cases h1; rfl
  · rw [h2]
    have hf : firstNZ L = 0 := firstNZ_zero.2 fun c hc => by
      obtain ⟨i, hi, rfl⟩ := List.getElem_of_mem hc
      exact Classical.byContradiction fun hc => by have := h1 i hi; rw [if_neg hc] at this; cases this
    rw [hf, if_pos rfl]
/-! ### The numbers -/
noncomputable def phiC (f : PFunc) (p : PPhi) : Int := lv (¬ hasR f p.dst ∨ ¬ ∀ a ∈ p.args, hasR f a) (¬ ∀ a ∈ p.args, idx f.regs a = idx f.regs p.dst)
noncomputable def insC (m : PModule) (f : PFunc) (x : PInstr) : Int := match arF m x with
  | none => if x.op = 17 then 4 else 6
  | some (n, t) => if (x.args.length : Int) ≠ n then 6 else lv ((¬ ∀ a ∈ x.args, hasR f a) ∨ (t ≠ 0 ∧ ¬ hasR f x.dst)) ((t = 0 ∧ x.dst ≠ -1) ∨ (x.op ≠ 1 ∧ x.imm ≠ 0) ∨ (x.op ≠ 17 ∧ x.fn ≠ 0) ∨ ¬ FitsOk m f x)
noncomputable def endC (f : PFunc) (t : PTerm) : Int := if t.kind = 1 ∨ (t.kind = 3 ∧ f.result = 0) then (if t.arg = -1 then 0 else 3) else lv (¬ hasR f t.arg) (¬ tyR f t.arg (if t.kind = 3 then f.result else 2))
noncomputable def blkC (m : PModule) (f : PFunc) (B : PBlock) : Int := firstNZ [firstNZ (B.phis.map (phiC f)), firstNZ (B.ins.map (insC m f)), endC f B.term]
open Classical in
noncomputable def funC (m : PModule) (f : PFunc) : Int :=
  if ¬ SmallOk f then 5 else if ¬ TypedOk f then 3 else if ¬ ∀ B ∈ f.blocks, EndsOk f B.term then 6 else
  if ¬ ∀ i (hi : i < f.blocks.length), ∀ p ∈ f.blocks[i].phis, p.args.length = (preds (nexts f) i).length then 6 else firstNZ (f.blocks.map (blkC m f))
theorem funC_5 {m : PModule} {f : PFunc} (h : ¬ SmallOk f) : funC m f = 5 := by unfold funC; rw [if_pos h]
theorem funC_3 {m : PModule} {f : PFunc} (h : SmallOk f) (h2 : ¬ TypedOk f) : funC m f = 3 := by unfold funC; rw [if_neg (fun k => k h), if_pos h2]
theorem funC_6 {m : PModule} {f : PFunc} (h : SmallOk f) (h2 : TypedOk f) (h3 : ¬ ∀ B ∈ f.blocks, EndsOk f B.term) : funC m f = 6 := by unfold funC; rw [if_neg (fun k => k h), if_neg (fun k => k h2), if_pos h3]
theorem funC_7 {m : PModule} {f : PFunc} (h : SmallOk f) (h2 : TypedOk f) (h3 : ∀ B ∈ f.blocks, EndsOk f B.term) (h4 : ¬ ∀ i (hi : i < f.blocks.length), ∀ p ∈ f.blocks[i].phis, p.args.length = (preds (nexts f) i).length) : funC m f = 6 := by
  unfold funC; rw [if_neg (fun k => k h), if_neg (fun k => k h2), if_neg (fun k => k h3), if_pos h4]
theorem funC_b {m : PModule} {f : PFunc} (h : SmallOk f) (h2 : TypedOk f) (h3 : ∀ B ∈ f.blocks, EndsOk f B.term) (h4 : ∀ i (hi : i < f.blocks.length), ∀ p ∈ f.blocks[i].phis, p.args.length = (preds (nexts f) i).length) : funC m f = firstNZ (f.blocks.map (blkC m f)) := by
  unfold funC; rw [if_neg (fun k => k h), if_neg (fun k => k h2), if_neg (fun k => k h3), if_neg (fun k => k h4)]
theorem phi_c (l : PLooker) (p : PPhi) (hl : p.args.length ≤ maxLen) : check_looker_phi l p = some (gErr (phiC l.f p)) := by
  unfold check_looker_phi phiC
  rw [has1]
  simp only [Option.bind_some]
  by_cases h1 : hasR l.f p.dst
  · rw [if_neg (by simp [h1]), has_eq l _ hl]
    simp only [Option.bind_some]
    by_cases h2 : ∀ a ∈ p.args, hasR l.f a
    · rw [decide_eq_true h2, if_neg (by simp)]
      obtain ⟨k, hk, hkl, hg⟩ := h1.get
      rw [hg]
      simp only [Option.bind_some]
      rw [are_eq l _ _ hl h2]
      simp only [Option.bind_some]
      by_cases h3 : ∀ r ∈ p.args, tyR l.f r l.f.regs[k]
      · rw [decide_eq_true h3, if_neg (by simp), lv0 (fun h => h.elim (fun h => h h1) (fun h => h h2)) (fun h => h fun a ha => h3 a ha)]; rfl
      · rw [decide_eq_false h3, if_pos (by simp), lv3 (fun h => h.elim (fun h => h h1) (fun h => h h2)) (fun h => h3 fun a ha => h a ha)]; rfl
    · rw [decide_eq_false h2, if_pos (by simp), lv4 (.inr h2)]; rfl
  · rw [if_pos (by simp [h1])]
    simp only [Option.bind_some, if_true]
    rw [lv4 (.inl h1)]; rfl
theorem arity_c (l : PLooker) (x : PInstr) : (∃ n t, arF l.m x = some (n, t) ∧ check_looker_arity l x = some (n, t, GErr.no)) ∨ (arF l.m x = none ∧ ∃ n t, check_looker_arity l x = some (n, t, GErr.code (if x.op = 17 then 4 else 6))) := by
  rcases arity_eq l x with h | ⟨h1, h2⟩
  · exact .inl h
  · refine .inr ⟨h1, 0, 0, ?_⟩
    unfold arF at h1
    unfold check_looker_arity arith_Args
    by_cases g1 : x.op = 2 ∨ x.op = 14
    · rw [if_pos g1] at h1; cases h1
    rw [if_neg g1] at h1 ⊢
    by_cases g2 : x.op ≥ 3 ∧ x.op ≤ 13
    · rw [if_pos g2] at h1; cases h1
    rw [if_neg g2] at h1 ⊢
    simp only [Option.bind_some, Bool.false_eq_true, if_false]
    by_cases g3 : x.op = 1
    · rw [if_pos g3] at h1; cases h1
    rw [if_neg g3] at h1 ⊢
    by_cases g4 : x.op = 15
    · rw [if_pos g4] at h1; cases h1
    rw [if_neg g4] at h1 ⊢
    by_cases g5 : x.op = 18
    · rw [if_pos g5] at h1; cases h1
    rw [if_neg g5] at h1 ⊢
    by_cases g6 : x.op = 16
    · rw [if_pos g6] at h1; cases h1
    rw [if_neg g6] at h1 ⊢
    by_cases g7 : x.op = 17
    · rw [if_pos g7] at h1
      rw [if_pos g7, if_pos g7, if_pos]
      by_cases g8 : x.fn < 0 ∨ x.fn ≥ len l.m.funcs
      · exact g8
      · simp only [not_or, len] at g8
        obtain ⟨k, hk⟩ : ∃ k : Nat, x.fn = k := ⟨x.fn.toNat, by omega⟩
        rw [hk, idx_lt (show k < l.m.funcs.length by omega)] at h1
        cases h1
    · rw [if_neg g7, if_neg g7]
theorem ins_c (l : PLooker) (x : PInstr) (hl : x.args.length ≤ 300) : check_looker_instr l x = some (gErr (insC l.m l.f x)) := by
  unfold check_looker_instr insC
  have hmx : x.args.length ≤ maxLen := le_max hl (by omega)
  rcases arity_c l x with ⟨n, t, ha, hc⟩ | ⟨ha, n, t, hc⟩
  · rw [hc, ha]
    simp only [Option.bind_some]
    rw [if_neg (by simp)]
    by_cases h1 : (x.args.length : Int) = n
    · rw [if_neg (by simp only [len]; omega), if_neg (show ¬ ((x.args.length : Int) ≠ n) by simpa using h1), has_eq l _ hmx]
      simp only [Option.bind_some]
      by_cases h2 : ∀ r ∈ x.args, hasR l.f r
      · rw [decide_eq_true h2, if_neg (by simp)]
        have hmid : (if ¬ (t = 0) then (check_looker_has l ([x.dst])).bind fun x31 => some (!x31) else some false) = some (decide (t ≠ 0 ∧ ¬ hasR l.f x.dst)) := by
          by_cases h3 : t = 0
          · rw [if_neg (by simpa using h3)]; simp [h3]
          · rw [if_pos h3, has1]; simp [h3]
        rw [hmid]
        simp only [Option.bind_some]
        by_cases h3 : t ≠ 0 ∧ ¬ hasR l.f x.dst
        · rw [decide_eq_true h3, if_pos rfl, lv4 (.inr h3)]; rfl
        · rw [decide_eq_false h3, if_neg (by simp)]
          have hn4 : ¬ ((¬ ∀ a ∈ x.args, hasR l.f a) ∨ (t ≠ 0 ∧ ¬ hasR l.f x.dst)) := fun h => h.elim (fun h => h h2) h3
          by_cases h4 : ((t = 0 ∧ ¬ x.dst = -1) ∨ (¬ x.op = 1 ∧ ¬ x.imm = 0)) ∨ (¬ x.op = 17 ∧ ¬ x.fn = 0)
          · rw [if_pos h4]
            simp only [Option.bind_some, if_true]
            rw [lv3 hn4 (by rcases h4 with (h4 | h4) | h4; (· exact .inl h4); (· exact .inr (.inl h4)); (· exact .inr (.inr (.inl h4))))]; rfl
          · rw [if_neg h4]
            obtain ⟨b, hb1, hb2⟩ := fits_eq l x n t hl ha h1 h2 (fun h => Classical.byContradiction fun hd => h3 ⟨h, hd⟩)
            rw [hb1]
            simp only [Option.bind_some]
            cases b with
            | true =>
              simp only [Bool.not_true, Bool.false_eq_true, if_false]
              rw [lv0 hn4 (by
                rintro (h | h | h | h)
                · exact h4 (.inl (.inl h))
                · exact h4 (.inl (.inr h))
                · exact h4 (.inr h)
                · exact h (hb2.1 rfl))]; rfl
            | false =>
              simp only [Bool.not_false, if_true]
              rw [lv3 hn4 (.inr (.inr (.inr fun h => by simpa using hb2.2 h)))]; rfl
      · rw [decide_eq_false h2]
        simp only [Bool.not_false, if_true, Option.bind_some]
        rw [lv4 (.inl h2)]; rfl
    · rw [if_pos (by simp only [len]; omega), if_pos (show (x.args.length : Int) ≠ n from h1)]; rfl
  · rw [hc, ha]
    simp only [Option.bind_some]
    rw [if_pos (by simp)]
    split <;> rfl
theorem end_c (l : PLooker) (t : PTerm) : check_looker_end l t = some (gErr (endC l.f t)) := by
  unfold check_looker_end endC
  by_cases h1 : t.kind = 1 ∨ (t.kind = 3 ∧ l.f.result = 0)
  · rw [if_pos h1, if_pos h1]
    by_cases h2 : t.arg = -1
    · rw [if_neg (by simpa using h2), if_pos h2]; rfl
    · rw [if_pos h2, if_neg h2]; rfl
  rw [if_neg h1, if_neg h1]
  have hj : (if t.kind = 3 then check_looker_end.jn15 l t l.f.result else check_looker_end.jn15 l t 2) = check_looker_end.jn15 l t (if t.kind = 3 then l.f.result else 2) := by split <;> rfl
  rw [hj]
  generalize (if t.kind = 3 then l.f.result else 2) = w
  unfold check_looker_end.jn15
  rw [has1]
  simp only [Option.bind_some]
  by_cases h2 : hasR l.f t.arg
  · rw [decide_eq_true h2, if_neg (by simp), are1 l _ _ h2]
    simp only [Option.bind_some]
    by_cases h3 : tyR l.f t.arg w
    · rw [decide_eq_true h3, if_neg (by simp), lv0 (by simpa using h2) (by simpa using h3)]; rfl
    · rw [decide_eq_false h3, if_pos (by simp), lv3 (by simpa using h2) h3]; rfl
  · rw [decide_eq_false h2, if_pos (by simp), lv4 h2]; rfl
theorem gErr_step {c : Int} {ρ σ : Type} (s : σ) (out : GErr → ρ) : (if ¬ gErr c = GErr.no then some (Ex.ret (Ex.ret (out (gErr c)) : Ex ρ Unit)) else some (Ex.go s) : Option (Ex (Ex ρ Unit) σ)) = some (if c = 0 then .go s else .ret (.ret (out (gErr c)))) := by
  by_cases h : c = 0
  · rw [if_pos h, if_neg (by simp [gErr_no, h])]
  · rw [if_neg h, if_pos (by simp [gErr_no, h])]
theorem blk_c (l : PLooker) (B : PBlock) (hB : SmB B) : check_looker_block l B = some (gErr (blkC l.m l.f B)) := by
  obtain ⟨b1, b2, b3, b4, b5⟩ := hB
  unfold check_looker_block blkC
  have h1 := scan_nz (B.phis.map (phiC l.f)) gErr (fun s => check_looker_block.bd8 l B s) (le_max (show (B.phis.map (phiC l.f)).length ≤ 300 by simpa using b2) (by omega)) (fun i hi => by
    have hi : i < B.phis.length := by simpa using hi
    simp only [check_looker_block.bd8, len_lt, hi, if_true, idx_lt hi, Option.bind_some, phi_c l B.phis[i] (le_max (b5 _ (List.getElem_mem hi)) (by omega)), w64_i hi (show B.phis.length ≤ 1000 by omega)]
    rw [gErr_step (out := fun x => x)]; simp) (by simp [check_looker_block.bd8, len])
  rw [h1]
  by_cases hz : firstNZ (B.phis.map (phiC l.f)) = 0
  · rw [if_pos hz, hz, firstNZ_cons0]
    simp only [Option.bind_some, check_looker_block.nx8]
    have h2 := scan_nz (B.ins.map (insC l.m l.f)) gErr (fun s => check_looker_block.bd17 l B s) (le_max (show (B.ins.map (insC l.m l.f)).length ≤ 300 by simpa using b1) (by omega)) (fun i hi => by
      have hi : i < B.ins.length := by simpa using hi
      simp only [check_looker_block.bd17, len_lt, hi, if_true, idx_lt hi, Option.bind_some, ins_c l B.ins[i] (b4 _ (List.getElem_mem hi)), w64_i hi (show B.ins.length ≤ 1000 by omega)]
      rw [gErr_step (out := fun x => x)]; simp) (by simp [check_looker_block.bd17, len])
    rw [h2]
    by_cases hy : firstNZ (B.ins.map (insC l.m l.f)) = 0
    · rw [if_pos hy, hy, firstNZ_cons0]
      simp only [Option.bind_some, check_looker_block.nx17, end_c]
      by_cases he : endC l.f B.term = 0
      · rw [he]; rfl
      · rw [firstNZ_cons _ he]
    · rw [if_neg hy, firstNZ_cons _ hy]; rfl
  · rw [if_neg hz, firstNZ_cons _ hz]; rfl
theorem func_c (m : PModule) (k : Nat) (hk : k < m.funcs.length) (hf : SmF m.funcs[k]) : check_Func m (k : Int) = some (gErr (funC m m.funcs[k])) := by
  obtain ⟨hn, hr, hp, hB⟩ := id hf
  unfold check_Func
  rw [if_neg (by simp only [len]; omega), idx_lt hk]
  simp only [Option.bind_some]
  generalize m.funcs[k] = f at *
  obtain ⟨b, hb1, hb2⟩ := small_eq f hf
  rw [hb1]
  simp only [Option.bind_some]
  cases b with
  | false => rw [funC_5 (fun h => by simpa using hb2.2 h)]; rfl
  | true =>
    have hS := hb2.1 rfl
    simp only [Bool.not_true, Bool.false_eq_true, if_false]
    obtain ⟨c, hc1, hc2⟩ := typed_eq f hf
    rw [hc1]
    simp only [Option.bind_some]
    cases c with
    | false => rw [funC_3 hS (fun h => by simpa using hc2.2 h)]; rfl
    | true =>
      have hTy := hc2.1 rfl
      simp only [Bool.not_true, Bool.false_eq_true, if_false]
      rcases scan_or f.blocks (le_max hn (by omega)) (fun (B : PBlock) => EndsOk f B.term) (fun e : GErr => e = .code 6) (fun s => check_Func.bd29 f s) (fun i hi => by
        obtain ⟨d, hd1, hd2⟩ := ends_eq f f.blocks[i].term (hB _ (List.getElem_mem hi)).2.2.1
        simp only [check_Func.bd29, len_lt, hi, if_true, idx_lt hi, Option.bind_some, hd1, w64_i hi (show f.blocks.length ≤ 1000 by omega)]
        cases d with
        | false => exact .inl ⟨_, by simp, rfl, fun h => by simpa using hd2.2 h⟩
        | true => exact .inr ⟨by simp, hd2.1 rfl⟩) (by simp [check_Func.bd29, len]) with ⟨e, hw, he, hnot⟩ | ⟨hw, hends⟩
      · rw [hw, he, funC_6 hS hTy hnot]; rfl
      rw [hw]
      simp only [Option.bind_some, check_Func.nx29, checkAhead_eq f hf]
      have hal : (aheads (nexts f)).length = f.blocks.length := by rw [aheads_length, nexts_length]
      rcases scan_ix (aheads (nexts f)).length (le_max (show (aheads (nexts f)).length ≤ 70 by omega) (by omega)) (fun i => ∀ hi : i < f.blocks.length, ∀ p ∈ f.blocks[i].phis, p.args.length = (preds (nexts f) i).length) (fun e : GErr => e = .code 6) (fun s => check_Func.bd40 f (aheads (nexts f)) s) (fun i hi => by
        have hi' : i < f.blocks.length := by omega
        have hg : idx (aheads (nexts f)) (i : Int) = some (preds (nexts f) i) := by rw [idx_nat]; exact aheads_get _ _ (by rw [nexts_length]; exact hi')
        obtain ⟨b1, b2, b3, b4, b5⟩ := hB _ (List.getElem_mem hi')
        simp only [check_Func.bd40, len_lt, hi, if_true, hg, idx_lt hi', Option.bind_some]
        rcases scan_or f.blocks[i].phis (le_max b2 (by omega)) (fun p => p.args.length = (preds (nexts f) i).length) (fun e : GErr => e = .code 6) (fun s => check_Func.bd78 (preds (nexts f) i) f.blocks[i] s) (fun j hj => by
          simp only [check_Func.bd78, len_lt, hj, if_true, idx_lt hj, Option.bind_some, w64_i hj (show f.blocks[i].phis.length ≤ 1000 by omega)]
          by_cases hc : f.blocks[i].phis[j].args.length = (preds (nexts f) i).length
          · exact .inr ⟨by rw [if_neg (by simp only [len]; omega)], hc⟩
          · exact .inl ⟨_, by rw [if_pos (by simp only [len]; omega)], rfl, hc⟩) (by simp [check_Func.bd78, len]) with ⟨e, hw2, he, hnot⟩ | ⟨hw2, hall⟩
        · rw [hw2]; exact .inl ⟨e, rfl, he, fun h => hnot (h hi')⟩
        · rw [hw2]; exact .inr ⟨by simp only [Option.bind_some, check_Func.nx78, w64_i hi (show (aheads (nexts f)).length ≤ 1000 by omega)], fun _ => hall⟩) (by simp [check_Func.bd40, len]) with ⟨e, hw2, he, hnot⟩ | ⟨hw2, hah⟩
      · rw [hw2, he, funC_7 hS hTy hends (fun h => hnot fun i _ hi => h i hi)]; rfl
      rw [hw2, funC_b hS hTy hends (fun i hi => hah i (by omega) hi)]
      simp only [Option.bind_some, check_Func.nx40]
      have h3 := scan_nz (f.blocks.map (blkC m f)) gErr (fun s => check_Func.bd49 m f s) (le_max (show (f.blocks.map (blkC m f)).length ≤ 70 by simpa using hn) (by omega)) (fun i hi => by
        have hi : i < f.blocks.length := by simpa using hi
        have he1 := blk_c (⟨m, f⟩ : PLooker) f.blocks[i] (hB _ (List.getElem_mem hi))
        have he1' : check_looker_block (⟨(⟨m.funcs⟩ : PModule), (⟨f.params, f.result, f.regs, f.blocks⟩ : PFunc)⟩ : PLooker) f.blocks[i] = some (gErr (blkC m f f.blocks[i])) := he1
        simp only [check_Func.bd49, len_lt, hi, if_true, idx_lt hi, Option.bind_some, he1', w64_i hi (show f.blocks.length ≤ 1000 by omega)]
        rw [gErr_step (out := fun x => x)]; simp) (by simp [check_Func.bd49, len])
      rw [h3]
      by_cases hz : firstNZ (f.blocks.map (blkC m f)) = 0
      · rw [if_pos hz, hz]; rfl
      · rw [if_neg hz]; rfl
theorem phiC_range (f : PFunc) (p : PPhi) : phiC f p = 0 ∨ (1 ≤ phiC f p ∧ phiC f p ≤ 8) := by have := lv_range (¬ hasR f p.dst ∨ ¬ ∀ a ∈ p.args, hasR f a) (¬ ∀ a ∈ p.args, idx f.regs a = idx f.regs p.dst); unfold phiC; omega
theorem insC_range (m : PModule) (f : PFunc) (x : PInstr) : insC m f x = 0 ∨ (1 ≤ insC m f x ∧ insC m f x ≤ 8) := by
  unfold insC
  split
  · split <;> omega
  · split
    · omega
    · rename_i n t _ _
      have := lv_range ((¬ ∀ a ∈ x.args, hasR f a) ∨ (t ≠ 0 ∧ ¬ hasR f x.dst)) ((t = 0 ∧ x.dst ≠ -1) ∨ (x.op ≠ 1 ∧ x.imm ≠ 0) ∨ (x.op ≠ 17 ∧ x.fn ≠ 0) ∨ ¬ FitsOk m f x)
      omega
theorem endC_range (f : PFunc) (t : PTerm) : endC f t = 0 ∨ (1 ≤ endC f t ∧ endC f t ≤ 8) := by
  unfold endC
  split
  · split <;> omega
  · have := lv_range (¬ hasR f t.arg) (¬ tyR f t.arg (if t.kind = 3 then f.result else 2)); omega
theorem firstNZ_range {L : List Int} (h : ∀ c ∈ L, c = 0 ∨ (1 ≤ c ∧ c ≤ 8)) : firstNZ L = 0 ∨ (1 ≤ firstNZ L ∧ firstNZ L ≤ 8) := by
  rcases firstNZ_mem L with h1 | h1
  · exact .inl h1
  · exact h _ h1
theorem blkC_range (m : PModule) (f : PFunc) (B : PBlock) : blkC m f B = 0 ∨ (1 ≤ blkC m f B ∧ blkC m f B ≤ 8) := firstNZ_range fun c hc => by
  simp only [List.mem_cons, List.not_mem_nil, or_false] at hc
  rcases hc with rfl | rfl | rfl
  · exact firstNZ_range fun c hc => by obtain ⟨p, _, rfl⟩ := List.mem_map.1 hc; exact phiC_range f p
  · exact firstNZ_range fun c hc => by obtain ⟨p, _, rfl⟩ := List.mem_map.1 hc; exact insC_range m f p
  · exact endC_range f _
theorem funC_range (m : PModule) (f : PFunc) : funC m f = 0 ∨ (1 ≤ funC m f ∧ funC m f ≤ 8) := by
  unfold funC
  split
  · omega
  split
  · omega
  split
  · omega
  split
  · omega
  exact firstNZ_range fun c hc => by obtain ⟨p, _, rfl⟩ := List.mem_map.1 hc; exact blkC_range m f p
end Go.Proofs.YteaknconpkklhaaDoor
set_option linter.unusedVariables false
set_option linter.unusedSimpArgs false
namespace Go.Proofs.YteaknconpkklhaaDoor
open Go Go.Proofs
theorem refAhead_in (f : PFunc) (b : Int) (i : Nat) (hi : i < f.blocks.length) (ht : f.blocks[i].term.to.length ≤ 70) :
    whl (fun (s : (Bool × Int)) => fettleref02_Ahead.bd26 f b (i : Int) s.1 s.2) FUEL (false, 0) = some (decide (b ∈ f.blocks[i].term.to)) := by
  have := whl_run (body := fun (s : (Bool × Int)) => fettleref02_Ahead.bd26 f b (i : Int) s.1 s.2) (r := decide (b ∈ f.blocks[i].term.to)) f.blocks[i].term.to.length FUEL
    (fun k => (decide (b ∈ f.blocks[i].term.to.take k), (k : Int))) (fun k hk => by
      simp only [fettleref02_Ahead.bd26, idx_lt hi, Option.bind_some, len_lt, hk, if_true, idx_lt hk, w64_i hk (show f.blocks[i].term.to.length ≤ 1000 by omega), List.take_succ_eq_append_getElem hk, List.mem_append, List.mem_singleton]
      by_cases h1 : b ∈ f.blocks[i].term.to.take k
      · simp [h1]
      · simp [h1, eq_comm (a := b)]) (by simp [fettleref02_Ahead.bd26, idx_lt hi, len]) (lt_FUEL (le_max ht (by omega)))
  simpa using this
theorem refAhead_eq (f : PFunc) (hf : SmF f) (b : Nat) (hb : b < f.blocks.length) : fettleref02_Ahead f (b : Int) = some (preds (nexts f) b) := by
  obtain ⟨hn, _, _, hB⟩ := hf
  unfold fettleref02_Ahead
  have hrun := whl_run (body := fun (s : (List Int × Int)) => fettleref02_Ahead.bd8 f (b : Int) s.1 s.2) (r := preds (nexts f) b) f.blocks.length FUEL
    (fun i => (((List.range i).filter fun j => decide ((b : Int) ∈ (nexts f).getD j [])).map (fun j : Nat => (j : Int)), (i : Int))) (fun i hi => by
      have hl : (((List.range i).filter fun j => decide ((b : Int) ∈ (nexts f).getD j [])).map (fun j : Nat => (j : Int))).length ≤ 1000 := by
        have h1 : ((List.range i).filter fun j => decide ((b : Int) ∈ (nexts f).getD j [])).length ≤ (List.range i).length := List.length_filter_le _ _
        simp only [List.length_range] at h1
        rw [List.length_map]; omega
      simp only [fettleref02_Ahead.bd8, len_lt, hi, if_true, refAhead_in f b i hi (hB _ (List.getElem_mem hi)).2.2.1, Option.bind_some, fettleref02_Ahead.nx26]
      have hmem : ((b : Int) ∈ f.blocks[i].term.to) ↔ (b : Int) ∈ (nexts f).getD i [] := by
        rw [List.getD_eq_getElem?_getD, nexts_get f i hi, Option.getD_some, mem_succs]
        constructor
        · intro h; exact ⟨h, by omega, by omega⟩
        · exact fun h => h.1
      rw [List.range_succ, List.filter_append, List.map_append]
      by_cases hc : (b : Int) ∈ (nexts f).getD i []
      · rw [if_pos (by simpa using hmem.2 hc), cat_one hl, List.filter_cons_of_pos (by simpa using hc)]
        simp only [Option.bind_some, fettleref02_Ahead.jn18, w64_i hi (show f.blocks.length ≤ 1000 by omega)]
        rfl
      · rw [if_neg (by simpa using fun h => hc (hmem.1 h)), List.filter_cons_of_neg (by simpa using hc)]
        simp only [fettleref02_Ahead.jn18, w64_i hi (show f.blocks.length ≤ 1000 by omega)]
        simp) (by
      simp only [fettleref02_Ahead.bd8, len_lt, Nat.lt_irrefl, if_false, preds, nexts_length]) (lt_FUEL (le_max hn (by omega)))
  simp only [List.range_zero, List.filter_nil, List.map_nil] at hrun
  have h00 : (([] : List Int), ((0 : Nat) : Int)) = (([] : List Int), (0 : Int)) := rfl
  rw [h00] at hrun
  rw [hrun]; rfl
/-! ### Registers, worst -/
noncomputable def isC (f : PFunc) (r t : Int) : Int := lv (¬ hasR f r) (t ≥ 0 ∧ ¬ tyR f r t)
theorem is_c (f : PFunc) (r t : Int) : fettleref02_is f r t = some (isC f r t) := by
  unfold fettleref02_is isC
  by_cases h : hasR f r
  · rw [if_neg (by have := h.1; have := h.2; simp only [len]; omega)]
    obtain ⟨k, hk, hkl, hg⟩ := h.get
    rw [hg]
    have hty : tyR f r t ↔ f.regs[k] = t := by unfold tyR; rw [hg]; simp
    by_cases h1 : t ≥ 0
    · rw [if_pos h1]
      simp only [Option.bind_some]
      by_cases h2 : f.regs[k] = t
      · rw [if_neg (by simp [h2]), lv0 (fun k => k h) (fun k => k.2 (hty.2 h2))]
      · rw [if_pos (by simp [h2]), lv3 (fun k => k h) ⟨h1, fun k => h2 (hty.1 k)⟩]
    · rw [if_neg h1]
      simp only [Option.bind_some, Bool.false_eq_true, if_false]
      rw [lv0 (fun k => k h) (fun k => h1 k.1)]
  · rw [if_pos (by simp only [len]; unfold hasR at h; omega), lv4 h]
def wst (a b : Int) : Int := if a = 4 ∨ b = 4 then 4 else if ¬ a = 0 then a else b
theorem worst_c (a b : Int) : fettleref02_worst a b = some (wst a b) := by
  unfold fettleref02_worst wst
  split
  · rfl
  · split <;> rfl
theorem wst_lv (a b c d : Prop) : wst (lv a b) (lv c d) = lv (a ∨ c) (b ∨ d) := by
  unfold wst
  by_cases h1 : a
  · rw [lv4 (p3 := b) h1, lv4 (p3 := b ∨ d) (Or.inl h1 : a ∨ c)]; simp
  by_cases h2 : c
  · rw [lv4 (p3 := d) h2, lv4 (p3 := b ∨ d) (Or.inr h2 : a ∨ c)]; simp
  have h12 : ¬ (a ∨ c) := fun h => h.elim h1 h2
  by_cases h3 : b
  · rw [lv3 h1 h3, lv3 h12 (Or.inl h3 : b ∨ d)]
    by_cases h4 : d
    · rw [lv3 h2 h4]; simp
    · rw [lv0 h2 h4]; simp
  by_cases h4 : d
  · rw [lv0 h1 h3, lv3 h2 h4, lv3 h12 (Or.inr h4 : b ∨ d)]; simp
  · rw [lv0 h1 h3, lv0 h2 h4, lv0 h12 (fun h => h.elim h3 h4)]; simp
theorem lv_three : (3 : Int) = lv False True := (lv3 (fun h => h) trivial).symm
theorem lv_null : (0 : Int) = lv False False := (lv0 (fun h => h) (fun h => h)).symm
theorem fold_wst (f : PFunc) : ∀ (L : List (Int × Int)) (a b : Prop), L.foldl (fun c p => wst c (isC f p.1 p.2)) (lv a b) = lv (a ∨ ¬ ∀ p ∈ L, hasR f p.1) (b ∨ ¬ ∀ p ∈ L, p.2 ≥ 0 → tyR f p.1 p.2)
  | [], a, b => by simp
  | p :: L, a, b => by
    have h := fold_wst f L (a ∨ ¬ hasR f p.1) (b ∨ (p.2 ≥ 0 ∧ ¬ tyR f p.1 p.2))
    have e : wst (lv a b) (isC f p.1 p.2) = lv (a ∨ ¬ hasR f p.1) (b ∨ (p.2 ≥ 0 ∧ ¬ tyR f p.1 p.2)) := by unfold isC; exact wst_lv _ _ _ _
    rw [List.foldl_cons, e, h]
    apply lv_congr
    · simp only [List.forall_mem_cons]
      constructor
      · rintro ((h | h) | h)
        · exact .inl h
        · exact .inr fun k => h k.1
        · exact .inr fun k => h k.2
      · rintro (h | h)
        · exact .inl (.inl h)
        · by_cases k : hasR f p.1
          · exact .inr fun j => h ⟨k, j⟩
          · exact .inl (.inr k)
    · intro _
      simp only [List.forall_mem_cons]
      constructor
      · rintro ((h | h) | h)
        · exact .inl h
        · exact .inr fun k => h.2 (k.1 h.1)
        · exact .inr fun k => h k.2
      · rintro (h | h)
        · exact .inl (.inl h)
        · by_cases k : p.2 ≥ 0 → tyR f p.1 p.2
          · exact .inr fun j => h ⟨k, j⟩
          · exact .inl (.inr (Classical.not_imp.1 k))
def TsOk (f : PFunc) (xs ts : List Int) : Prop := ∀ p ∈ xs.zip ts, p.2 ≥ 0 → tyR f p.1 p.2
theorem zip_all {xs ts : List Int} (h : xs.length = ts.length) (P : Int → Prop) : (∀ p ∈ xs.zip ts, P p.1) ↔ ∀ a ∈ xs, P a := by
  constructor
  · intro hp a ha
    obtain ⟨i, hi, rfl⟩ := List.getElem_of_mem ha
    have hi2 : i < (xs.zip ts).length := by simp; omega
    have := hp _ (List.getElem_mem hi2)
    simpa using this
  · intro ha p hp
    exact ha _ (List.of_mem_zip hp).1
theorem rargs_c (f : PFunc) (x : PInstr) (ts : List Int) (hl : x.args.length ≤ 300) (he : x.args.length = ts.length) :
    whl (fun (s : (Int × Int)) => fettleref02_Instr.bd22 f x ts s.1 s.2) FUEL (0, 0) = some (lv (¬ ∀ a ∈ x.args, hasR f a) (¬ TsOk f x.args ts)) := by
  have hz : (x.args.zip ts).length = x.args.length := by simp; omega
  have := whl_fold (x.args.zip ts) (fun c p => wst c (isC f p.1 p.2)) 0 (body := fun (s : (Int × Int)) => fettleref02_Instr.bd22 f x ts s.1 s.2) (by omega) (fun k hk c => by
    have h1 : k < x.args.length := by omega
    have h2 : k < ts.length := by omega
    simp only [fettleref02_Instr.bd22, len_lt, h2, if_true, idx_lt h1, idx_lt h2, Option.bind_some, is_c, worst_c, w64_i h1 (show x.args.length ≤ 1000 by omega), List.getElem_zip]) (fun s => by
    rw [hz]
    simp only [fettleref02_Instr.bd22, len]
    rw [if_neg (by omega)])
  rw [this, lv_null, fold_wst]
  congr 1
  apply lv_congr
  · rw [false_or, zip_all he]
  · intro _; rw [false_or]; rfl
/-! ### Instructions -/
theorem jn31_c (f : PFunc) (x : PInstr) (A B : Prop) (hA : x.op = 1 → ¬ A → hasR f x.dst) : fettleref02_Instr.jn31 f x (lv A B) = some (lv A (B ∨ (x.op = 1 ∧ tyR f x.dst 2 ∧ x.imm ≠ 0 ∧ x.imm ≠ 1))) := by
  unfold fettleref02_Instr.jn31
  by_cases h : x.op = 1 ∧ lv A B = 0
  · rw [if_pos h]
    obtain ⟨h1, h2⟩ := lv_zero.1 h.2
    obtain ⟨k, hk, hkl, hg⟩ := (hA h.1 h1).get
    have hty : tyR f x.dst 2 ↔ f.regs[k] = 2 := by unfold tyR; rw [hg]; simp
    rw [hg, h.2]
    simp only [Option.bind_some, fettleref02_Instr.jn35]
    by_cases h3 : f.regs[k] = 2 ∧ x.imm ≠ 0 ∧ x.imm ≠ 1
    · rw [if_pos (by simpa [and_assoc] using h3), lv3 h1 (.inr ⟨h.1, hty.2 h3.1, h3.2⟩)]
    · rw [if_neg (by simpa [and_assoc] using h3), lv0 h1 (fun k => k.elim h2 fun k => h3 ⟨hty.1 k.2.1, k.2.2⟩)]
  · rw [if_neg h]
    simp only [Option.bind_some, Bool.false_eq_true, false_and, if_false, fettleref02_Instr.jn35]
    congr 1
    apply lv_congr Iff.rfl
    intro hnA
    refine ⟨.inl, fun k => k.elim id fun k => Classical.byContradiction fun hB => h ⟨k.1, lv0 hnA hB⟩⟩
theorem jn27_c (f : PFunc) (x : PInstr) (odd : Bool) (A B : Prop) (hA : x.op = 1 → ¬ A → hasR f x.dst) :
    fettleref02_Instr.jn27 f x odd (lv A B) = some (lv A (B ∨ (x.op ≠ 1 ∧ x.imm ≠ 0) ∨ (x.op ≠ 17 ∧ x.fn ≠ 0) ∨ odd = true ∨ (x.op = 1 ∧ tyR f x.dst 2 ∧ x.imm ≠ 0 ∧ x.imm ≠ 1))) := by
  unfold fettleref02_Instr.jn27
  by_cases h : (((¬ x.op = 1) ∧ (¬ x.imm = 0)) ∨ ((¬ x.op = 17) ∧ (¬ x.fn = 0))) ∨ odd = true
  · rw [if_pos h, worst_c]
    simp only [Option.bind_some]
    rw [lv_three, wst_lv]
    have e : lv (A ∨ False) (B ∨ True) = lv A (B ∨ True) := lv_congr (or_false A).to_iff (fun _ => Iff.rfl)
    rw [e, jn31_c f x A (B ∨ True) hA]
    congr 1
    apply lv_congr Iff.rfl
    intro _
    refine ⟨fun _ => ?_, fun _ => .inl (.inr trivial)⟩
    rcases h with (h | h) | h
    · exact .inr (.inl h)
    · exact .inr (.inr (.inl h))
    · exact .inr (.inr (.inr (.inl h)))
  · rw [if_neg h, jn31_c f x A B hA]
    congr 1
    apply lv_congr Iff.rfl
    intro _
    refine ⟨fun k => k.elim .inl fun k => .inr (.inr (.inr (.inr k))), ?_⟩
    rintro (k | k | k | k | k)
    · exact .inl k
    · exact absurd (.inl (.inl k)) h
    · exact absurd (.inl (.inr k)) h
    · exact absurd (.inr k) h
    · exact .inr k
def Amiss3 (f : PFunc) (x : PInstr) (ts : List Int) (t : Int) (odd : Bool) : Prop :=
  ((¬ TsOk f x.args ts) ∨ (t = 0 ∧ x.dst ≠ -1) ∨ t < 0 ∨ (t > 0 ∧ ¬ tyR f x.dst t)) ∨ (x.op ≠ 1 ∧ x.imm ≠ 0) ∨ (x.op ≠ 17 ∧ x.fn ≠ 0) ∨ odd = true ∨ (x.op = 1 ∧ tyR f x.dst 2 ∧ x.imm ≠ 0 ∧ x.imm ≠ 1)
theorem jn6_c (f : PFunc) (x : PInstr) (ts : List Int) (t : Int) (odd : Bool) (hl : x.args.length ≤ 300) (ht : x.op = 1 → t ≠ 0) :
    fettleref02_Instr.jn6 f x ts t true odd = some (if x.args.length ≠ ts.length then 6 else lv ((¬ ∀ a ∈ x.args, hasR f a) ∨ (t ≠ 0 ∧ ¬ hasR f x.dst)) (Amiss3 f x ts t odd)) := by
  unfold fettleref02_Instr.jn6
  by_cases he : x.args.length = ts.length
  · rw [if_neg (by simp only [len]; simp; omega), if_neg (by simpa using he), rargs_c f x ts hl he]
    simp only [Option.bind_some]
    have hA : x.op = 1 → ¬ ((¬ ∀ a ∈ x.args, hasR f a) ∨ (t ≠ 0 ∧ ¬ hasR f x.dst)) → hasR f x.dst := fun h1 h2 => Classical.byContradiction fun h3 => h2 (.inr ⟨ht h1, h3⟩)
    have key : ∀ z, z = lv ((¬ ∀ a ∈ x.args, hasR f a) ∨ (t ≠ 0 ∧ ¬ hasR f x.dst)) ((¬ TsOk f x.args ts) ∨ (t = 0 ∧ x.dst ≠ -1) ∨ t < 0 ∨ (t > 0 ∧ ¬ tyR f x.dst t)) →
        fettleref02_Instr.jn27 f x odd z = some (lv ((¬ ∀ a ∈ x.args, hasR f a) ∨ (t ≠ 0 ∧ ¬ hasR f x.dst)) (Amiss3 f x ts t odd)) := fun z hz => by rw [hz]; exact jn27_c f x odd _ _ hA
    unfold fettleref02_Instr.nx22
    by_cases h0 : t = 0
    · rw [if_pos h0]
      by_cases hd : x.dst = -1
      · rw [if_neg (by simpa using hd)]
        refine key _ (lv_congr ?_ fun _ => ?_)
        · simp [h0]
        · simp [h0, hd]
      · rw [if_pos hd, worst_c]
        simp only [Option.bind_some]
        refine key _ ?_
        rw [lv_three, wst_lv]
        refine lv_congr ?_ fun _ => ?_
        · simp [h0]
        · simp [h0, hd]
    · rw [if_neg h0]
      by_cases hn : t < 0
      · rw [if_pos hn, is_c]
        simp only [Option.bind_some, worst_c]
        refine key _ ?_
        unfold isC
        rw [lv_three, wst_lv, wst_lv]
        refine lv_congr ?_ fun _ => ?_
        · simp [h0]
        · simp [h0, hn]
      · rw [if_neg hn, is_c]
        simp only [Option.bind_some, worst_c]
        refine key _ ?_
        unfold isC
        rw [wst_lv]
        have hp : t > 0 := by omega
        refine lv_congr ?_ fun _ => ?_
        · simp [h0]
        · have hg : t ≥ 0 := by omega
          simp [h0, hn, hp, hg]
  · rw [if_pos (by simp only [len]; right; omega), if_pos he]
theorem jn6_no (f : PFunc) (x : PInstr) (ts : List Int) (t : Int) (odd : Bool) : fettleref02_Instr.jn6 f x ts t false odd = some 6 := by
  unfold fettleref02_Instr.jn6
  rw [if_pos (by simp)]
def kindL (x : PInstr) (dt : Int) : List Int × Int × Bool :=
  if x.op = 1 then ([], dt, true) else if x.op = 2 then ([dt], dt, true) else if x.op = 12 ∨ x.op = 13 then ([1, 1], 2, true) else if x.op = 14 then ([2], 2, true) else if x.op = 15 then ([1], 1, true)
  else if x.op = 16 then ([1, 1], 0, true) else if x.op = 18 then ([1], 0, true) else if x.op ≥ 3 ∧ x.op ≤ 11 then ([1, 1], 1, true) else ([], 0, false)
theorem kinds4 (x : PInstr) (dt : Int) : fettleref02_kinds.jn4 x dt = some (kindL x dt) := by
  unfold fettleref02_kinds.jn4 kindL
  by_cases h1 : x.op = 1
  · rw [if_pos h1, if_pos h1]
  rw [if_neg h1, if_neg h1]
  by_cases h2 : x.op = 2
  · rw [if_pos h2, if_pos h2]
  rw [if_neg h2, if_neg h2]
  have hj : (if x.op = 12 then fettleref02_kinds.jn12 x (decide (x.op = 12)) else fettleref02_kinds.jn12 x (decide (x.op = 13))) = fettleref02_kinds.jn12 x (decide (x.op = 12 ∨ x.op = 13)) := by
    by_cases h : x.op = 12
    · rw [if_pos h]; simp [h]
    · rw [if_neg h]; simp [h]
  rw [hj]
  unfold fettleref02_kinds.jn12
  by_cases h3 : x.op = 12 ∨ x.op = 13
  · rw [if_pos (by simpa using h3), if_pos h3]
  rw [if_neg (by simpa using h3), if_neg h3]
  by_cases h4 : x.op = 14
  · rw [if_pos h4, if_pos h4]
  rw [if_neg h4, if_neg h4]
  by_cases h5 : x.op = 15
  · rw [if_pos h5, if_pos h5]
  rw [if_neg h5, if_neg h5]
  by_cases h6 : x.op = 16
  · rw [if_pos h6, if_pos h6]
  rw [if_neg h6, if_neg h6]
  by_cases h7 : x.op = 18
  · rw [if_pos h7, if_pos h7]
  rw [if_neg h7, if_neg h7]
  by_cases h8 : x.op ≥ 3 ∧ x.op ≤ 11
  · rw [if_pos h8, if_pos h8]
  · rw [if_neg h8, if_neg h8]
theorem kinds_c (m : PModule) (f : PFunc) (x : PInstr) (hT : TypedOk f) : ∃ dt, (hasR f x.dst → tyR f x.dst dt) ∧ (dt = 1 ∨ dt = 2) ∧ fettleref02_kinds m f x = some (kindL x dt) := by
  unfold fettleref02_kinds
  by_cases h : hasR f x.dst
  · rw [if_pos (by have := h.1; have := h.2; simp only [len]; omega)]
    obtain ⟨k, hk, hkl, hg⟩ := h.get
    rw [hg]
    exact ⟨f.regs[k], fun _ => hg, hT.regs _ (List.getElem_mem hkl), kinds4 x _⟩
  · rw [if_neg (by simp only [len]; unfold hasR at h; omega)]
    exact ⟨1, fun h' => absurd h' h, .inl rfl, kinds4 x 1⟩
end Go.Proofs.YteaknconpkklhaaDoor
set_option linter.unusedVariables false
set_option linter.unusedSimpArgs false
namespace Go.Proofs.YteaknconpkklhaaDoor
open Go Go.Proofs
theorem insC_some {m : PModule} {f : PFunc} {x : PInstr} {n t : Int} (h : arF m x = some (n, t)) : insC m f x = if (x.args.length : Int) ≠ n then 6 else lv ((¬ ∀ a ∈ x.args, hasR f a) ∨ (t ≠ 0 ∧ ¬ hasR f x.dst)) ((t = 0 ∧ x.dst ≠ -1) ∨ (x.op ≠ 1 ∧ x.imm ≠ 0) ∨ (x.op ≠ 17 ∧ x.fn ≠ 0) ∨ ¬ FitsOk m f x) := by
  unfold insC; rw [h]
theorem insC_none {m : PModule} {f : PFunc} {x : PInstr} (h : arF m x = none) : insC m f x = if x.op = 17 then 4 else 6 := by
  unfold insC; rw [h]
/-- Both tell the same of an instruction, given that they hold the same amiss. -/
theorem same_ins {m : PModule} {f : PFunc} {x : PInstr} {n t t' : Int} {ts : List Int} {odd : Bool} (hl : x.args.length ≤ 300) (ha : arF m x = some (n, t)) (hn : n = (ts.length : Int)) (h1 : x.op = 1 → t' ≠ 0) (h0 : t' ≠ 0 ↔ t ≠ 0)
    (h3 : x.args.length = ts.length → (∀ a ∈ x.args, hasR f a) → (t' ≠ 0 → hasR f x.dst) → (Amiss3 f x ts t' odd ↔ ((t = 0 ∧ x.dst ≠ -1) ∨ (x.op ≠ 1 ∧ x.imm ≠ 0) ∨ (x.op ≠ 17 ∧ x.fn ≠ 0) ∨ ¬ FitsOk m f x))) :
    fettleref02_Instr.jn6 f x ts t' true odd = some (insC m f x) := by
  rw [jn6_c f x ts t' odd hl h1, insC_some ha]
  by_cases he : x.args.length = ts.length
  · rw [if_neg (by simpa using he), if_neg (by rw [hn]; omega)]
    congr 1
    refine lv_congr (by rw [h0]) fun h4 => ?_
    refine h3 he (Classical.byContradiction fun k => h4 (.inl k)) fun k => Classical.byContradiction fun j => h4 (.inr ⟨h0.1 k, j⟩)
  · rw [if_pos he, if_pos (by rw [hn]; omega)]
theorem ts1 {f : PFunc} {x : PInstr} {t : Int} (ht : t ≥ 0) (h : x.args.length = 1) : TsOk f x.args [t] ↔ ∀ a ∈ x.args, tyR f a t := by
  obtain ⟨a, ha⟩ := List.length_eq_one_iff.1 h
  unfold TsOk
  rw [ha]; simp [ht]
theorem ts2 {f : PFunc} {x : PInstr} {t : Int} (ht : t ≥ 0) (h : x.args.length = 2) : TsOk f x.args [t, t] ↔ ∀ a ∈ x.args, tyR f a t := by
  obtain ⟨a, b, ha⟩ := len2 h
  unfold TsOk
  rw [ha]; simp [ht]
theorem ts0 {f : PFunc} {x : PInstr} : TsOk f x.args [] := by unfold TsOk; simp
theorem tyR.uniq {f : PFunc} {r s t : Int} (h : tyR f r s) (k : tyR f r t) : s = t := by unfold tyR at h k; rw [h] at k; exact Option.some.inj k
theorem rins_plain (m : PModule) (f : PFunc) (x : PInstr) (hl : x.args.length ≤ 300) (hT : TypedOk f) (h17 : x.op ≠ 17) {dt : Int} (hdt : hasR f x.dst → tyR f x.dst dt) (h12 : dt = 1 ∨ dt = 2) :
    fettleref02_Instr.jn6 f x (kindL x dt).1 (kindL x dt).2.1 (kindL x dt).2.2 false = some (insC m f x) := by
  unfold kindL
  by_cases h1 : x.op = 1
  · simp only [if_pos h1]
    refine same_ins (n := 0) (t := 1) hl (by simp [arF, h1]) rfl (fun _ => by omega) (by omega) fun he hh hd => ?_
    have hdst := hd (by omega)
    have hty := hdt hdst
    have hdt0 : dt > 0 := by omega
    have hdt1 : ¬ dt < 0 := by omega
    have hdt2 : ¬ dt = 0 := by omega
    have h21 : tyR f x.dst 2 ↔ ¬ tyR f x.dst 1 := by
      rcases h12 with rfl | rfl
      · exact ⟨fun k => absurd (hty.uniq k) (by omega), fun k => absurd hty k⟩
      · exact ⟨fun _ k => absurd (hty.uniq k) (by omega), fun _ => hty⟩
    unfold Amiss3 FitsOk
    simp only [ts0, h1, hty, hdt1, hdt2, if_true, h21]
    simp
  simp only [if_neg h1]
  by_cases h2 : x.op = 2
  · simp only [if_pos h2]
    refine same_ins (n := 1) (t := 1) hl (by simp [arF, h2]) rfl (fun k => absurd k h1) (by omega) fun he hh hd => ?_
    have hty := hdt (hd (by omega))
    have hdt1 : ¬ dt < 0 := by omega
    have hdt2 : ¬ dt = 0 := by omega
    have hdt3 : dt ≥ 0 := by omega
    obtain ⟨a, ha⟩ := List.length_eq_one_iff.1 he
    have hid : idx f.regs x.dst = some dt := hty
    have hix : idx x.args 0 = some a := by rw [ha]; rfl
    unfold Amiss3 FitsOk
    rw [ts1 hdt3 he, ha]
    simp only [h2, hty, hdt1, hdt2, hid, ha]
    have e : ((∃ b, idx [a] 0 = some b ∧ some dt = idx f.regs b)) ↔ tyR f a dt := by
      unfold tyR
      constructor
      · rintro ⟨b, hb, k⟩
        have : a = b := by simpa [idx] using hb
        subst this; exact k.symm
      · intro k; exact ⟨a, rfl, k.symm⟩
    simp [e]
    grind
  simp only [if_neg h2]
  by_cases h3 : x.op = 12 ∨ x.op = 13
  · simp only [if_pos h3]
    refine same_ins (n := 2) (t := 1) hl (by unfold arF; rw [if_neg (by omega), if_pos (by omega)]) rfl (fun k => absurd k h1) (by omega) fun he hh hd => ?_
    unfold Amiss3 FitsOk
    rw [ts2 (by omega) he, if_neg h1, if_neg h2, if_pos h3]
    simp [h1]
    grind
  simp only [if_neg h3]
  by_cases h4 : x.op = 14
  · simp only [if_pos h4]
    refine same_ins (n := 1) (t := 1) hl (by simp [arF, h4]) rfl (fun k => absurd k h1) (by omega) fun he hh hd => ?_
    unfold Amiss3 FitsOk
    obtain ⟨a, ha⟩ := List.length_eq_one_iff.1 he
    rw [ts1 (by omega) he, if_neg h1, if_neg h2, if_neg h3, if_pos h4, ha]
    have e : (∃ b, idx [a] 0 = some b ∧ tyR f b 2) ↔ tyR f a 2 := by
      constructor
      · rintro ⟨b, hb, k⟩
        have : a = b := by simpa [idx] using hb
        subst this; exact k
      · intro k; exact ⟨a, rfl, k⟩
    rw [e]
    simp [h1]
    grind
  simp only [if_neg h4]
  by_cases h5 : x.op = 15
  · simp only [if_pos h5]
    refine same_ins (n := 1) (t := 1) hl (by simp [arF, h5]) rfl (fun k => absurd k h1) (by omega) fun he hh hd => ?_
    unfold Amiss3 FitsOk
    rw [ts1 (by omega) he, if_neg h1, if_neg h2, if_neg h3, if_neg h4, if_neg (by omega), if_neg h17]
    simp [h1]
    grind
  simp only [if_neg h5]
  by_cases h6 : x.op = 16
  · simp only [if_pos h6]
    refine same_ins (n := 2) (t := 0) hl (by simp [arF, h6]) rfl (fun k => absurd k h1) (by omega) fun he hh hd => ?_
    unfold Amiss3 FitsOk
    rw [ts2 (by omega) he, if_neg h1, if_neg h2, if_neg h3, if_neg h4, if_pos (.inr h6)]
    simp [h1]
    grind
  simp only [if_neg h6]
  by_cases h7 : x.op = 18
  · simp only [if_pos h7]
    refine same_ins (n := 1) (t := 0) hl (by simp [arF, h7]) rfl (fun k => absurd k h1) (by omega) fun he hh hd => ?_
    unfold Amiss3 FitsOk
    rw [ts1 (by omega) he, if_neg h1, if_neg h2, if_neg h3, if_neg h4, if_pos (.inl h7)]
    simp [h1]
    grind
  simp only [if_neg h7]
  by_cases h8 : x.op ≥ 3 ∧ x.op ≤ 11
  · simp only [if_pos h8]
    refine same_ins (n := 2) (t := 1) hl (by unfold arF; rw [if_neg (by omega), if_pos (by omega)]) rfl (fun k => absurd k h1) (by omega) fun he hh hd => ?_
    unfold Amiss3 FitsOk
    rw [ts2 (by omega) he, if_neg h1, if_neg h2, if_neg h3, if_neg h4, if_neg (by omega), if_neg h17]
    simp [h1]
    grind
  · simp only [if_neg h8]
    rw [jn6_no, insC_none, if_neg h17]
    unfold arF
    rw [if_neg (by omega), if_neg (by omega), if_neg h1, if_neg h5, if_neg h7, if_neg h6, if_neg h17]
/-! ### Calls -/
theorem call_kinds (g : PFunc) (n : Nat) (hn : (n : Int) = g.params) (hl : n ≤ 300) : ∃ ts odd, whl (fun (s : (List Int × Bool × Int)) => fettleref02_Instr.bd135 g s.1 s.2.1 s.2.2) FUEL (([] : List Int), (decide (g.params < 0 ∨ g.params > (len g.regs))), 0) = some (ts, odd) ∧ ts.length = n ∧
    (odd = false → n ≤ g.regs.length ∧ ts = g.regs.take n ∧ ∀ t ∈ ts, t ≥ 0) ∧ (odd = true → g.params > (g.regs.length : Int) ∨ ∃ j t, j < n ∧ g.regs[j]? = some t ∧ t < 0) := by
  obtain ⟨r, hr, hR⟩ := whl_for (s0 := (([] : List Int), (decide (g.params < 0 ∨ g.params > (len g.regs))), (0 : Int))) (body := fun (s : (List Int × Bool × Int)) => fettleref02_Instr.bd135 g s.1 s.2.1 s.2.2) n
    (fun i s => s.2.2 = (i : Int) ∧ s.1.length = i ∧ (s.2.1 = false → n ≤ g.regs.length ∧ s.1 = g.regs.take i ∧ ∀ t ∈ s.1, t ≥ 0) ∧ (s.2.1 = true → g.params > (g.regs.length : Int) ∨ ∃ j t, j < n ∧ g.regs[j]? = some t ∧ t < 0))
    (fun r : List Int × Bool => r.1.length = n ∧ (r.2 = false → n ≤ g.regs.length ∧ r.1 = g.regs.take n ∧ ∀ t ∈ r.1, t ≥ 0) ∧ (r.2 = true → g.params > (g.regs.length : Int) ∨ ∃ j t, j < n ∧ g.regs[j]? = some t ∧ t < 0)) (le_max hl (by omega)) (fun i s hi hI => by
      obtain ⟨ts, odd, q⟩ := s
      obtain ⟨rfl, h1, h2, h3⟩ := hI
      simp only at h1 h2 h3
      simp only [fettleref02_Instr.bd135]
      rw [if_pos (by omega)]
      cases odd with
      | true =>
        rw [if_neg (by simp)]
        simp only [fettleref02_Instr.jn147, cat_one (show ts.length ≤ 1000 by omega), Option.bind_some]
        refine .inr ⟨_, rfl, w64_i hi (by omega), by simp [h1], fun k => by simp at k, fun _ => h3 rfl⟩
      | false =>
        obtain ⟨g1, g2, g3⟩ := h2 rfl
        have hir : i < g.regs.length := by omega
        rw [if_pos (by simp), idx_lt hir]
        simp only [Option.bind_some, fettleref02_Instr.jn147, cat_one (show ts.length ≤ 1000 by omega)]
        refine .inr ⟨_, rfl, w64_i hi (by omega), by simp [h1], fun k => ?_, fun k => ?_⟩
        · have hk : ¬ g.regs[i] < 0 := by simpa using k
          refine ⟨g1, ?_, fun t ht => ?_⟩
          · rw [List.take_succ_eq_append_getElem hir, g2]
          · rcases List.mem_append.1 ht with ht | ht
            · exact g3 t ht
            · have : t = g.regs[i] := by simpa using ht
              omega
        · have hk : g.regs[i] < 0 := by simpa using k
          exact .inr ⟨i, _, hi, List.getElem?_eq_getElem hir, hk⟩) (fun s hI => by
      obtain ⟨ts, odd, q⟩ := s
      obtain ⟨rfl, h1, h2, h3⟩ := hI
      simp only at h1 h2 h3
      exact ⟨(ts, odd), by simp only [fettleref02_Instr.bd135]; rw [if_neg (by omega)], h1, h2, h3⟩) ⟨rfl, rfl, fun k => by
      have hk := of_decide_eq_false k
      simp only [len] at hk
      exact ⟨by omega, by simp, by simp⟩, fun k => by
      have hk := of_decide_eq_true k
      simp only [len] at hk
      left; omega⟩
  obtain ⟨ts, odd⟩ := r
  exact ⟨ts, odd, hr, hR⟩
theorem ts_take {f : PFunc} {xs ts : List Int} (hp : ∀ t ∈ ts, t ≥ 0) (hl : xs.length = ts.length) : TsOk f xs ts ↔ ∀ i (hi : i < xs.length), ∃ t, ts[i]? = some t ∧ tyR f xs[i] t := by
  unfold TsOk
  constructor
  · intro h i hi
    have hi2 : i < (xs.zip ts).length := by simp; omega
    have hi3 : i < ts.length := by omega
    have := h _ (List.getElem_mem hi2)
    simp only [List.getElem_zip] at this
    exact ⟨_, List.getElem?_eq_getElem hi3, this (hp _ (List.getElem_mem hi3))⟩
  · intro h p hpm _
    obtain ⟨i, hi, rfl⟩ := List.getElem_of_mem hpm
    have hi2 : i < xs.length := by simp at hi; omega
    obtain ⟨t, h1, h2⟩ := h i hi2
    rw [List.getElem?_eq_getElem (by omega)] at h1
    simp only [List.getElem_zip]
    rw [Option.some.inj h1]; exact h2
theorem rins_c (m : PModule) (f : PFunc) (x : PInstr) (hl : x.args.length ≤ 300) (hT : TypedOk f) : fettleref02_Instr m f x = some (insC m f x) := by
  obtain ⟨dt, h1, h2, h3⟩ := kinds_c m f x hT
  unfold fettleref02_Instr
  rw [h3]
  simp only [Option.bind_some]
  by_cases h17 : x.op = 17
  · rw [if_pos h17]
    have har : arF m x = (idx m.funcs x.fn).map fun g => (g.params, g.result) := by
      unfold arF
      rw [if_neg (by omega), if_neg (by omega), if_neg (by omega), if_neg (by omega), if_neg (by omega), if_neg (by omega), if_pos h17]
    by_cases hf : x.fn < 0 ∨ x.fn ≥ len m.funcs
    · rw [if_pos hf]
      have : idx m.funcs x.fn = none := by
        cases hx : idx m.funcs x.fn with
        | none => rfl
        | some g =>
          obtain ⟨g1, g2, _⟩ := idx_some hx
          simp only [len] at hf; omega
      rw [this] at har
      rw [insC_none har, if_pos h17]
    · rw [if_neg hf]
      simp only [len] at hf
      obtain ⟨k, hk⟩ : ∃ k : Nat, x.fn = k := ⟨x.fn.toNat, by omega⟩
      have hkl : k < m.funcs.length := by omega
      rw [hk, idx_lt hkl] at har
      rw [hk, idx_lt hkl]
      simp only [Option.bind_some]
      have hfn : idx m.funcs x.fn = some m.funcs[k] := by rw [hk, idx_lt hkl]
      generalize m.funcs[k] = g at *
      simp only [Option.map_some] at har
      by_cases hn : len x.args = g.params
      · rw [if_neg (by simpa using hn)]
        simp only [len] at hn
        have hkl1 : (kindL x dt).1 = [] := by simp [kindL, h17]
        rw [hkl1]
        obtain ⟨ts, odd, w1, w2, w3, w4⟩ := call_kinds g x.args.length hn hl
        rw [w1]
        simp only [Option.bind_some, fettleref02_Instr.nx135]
        refine same_ins (n := g.params) (t := g.result) hl har (by omega) (fun k => absurd k (by omega)) Iff.rfl fun he hh hd => ?_
        have hfit : FitsOk m f x ↔ CallOk m f x g := by
          unfold FitsOk
          rw [if_neg (by omega), if_neg (by omega), if_neg (by omega), if_neg (by omega), if_neg (by omega), if_pos h17]
          constructor
          · rintro ⟨g', h'⟩
            have := h'.fn
            rw [hfn] at this; cases this; exact h'
          · intro h'; exact ⟨g, h'⟩
        rw [hfit]
        unfold Amiss3
        cases odd with
        | true =>
          have hno : ¬ CallOk m f x g := fun hc => by
            rcases w4 rfl with h4 | ⟨j, t, h4, h5, h6⟩
            · have := hc.le; omega
            · obtain ⟨t', h7, h8⟩ := hc.args j h4
              rw [idx_nat, h5] at h7
              cases h7
              obtain ⟨k', _, hk', hg'⟩ := h8.has.get
              have := hT.regs _ (List.getElem_mem hk')
              unfold tyR at h8
              rw [hg'] at h8
              have := Option.some.inj h8
              omega
          simp [hno]
        | false =>
          obtain ⟨v1, v2, v3⟩ := w3 rfl
          have hlen : x.args.length = ts.length := he
          have hcall : CallOk m f x g ↔ (TsOk f x.args ts ∧ (g.result = 0 ∨ tyR f x.dst g.result)) := by
            rw [ts_take v3 hlen]
            constructor
            · intro hc
              refine ⟨fun i hi => ?_, hc.res⟩
              obtain ⟨t, g1, g2⟩ := hc.args i hi
              refine ⟨t, ?_, g2⟩
              rw [v2, List.getElem?_take_of_lt hi]
              rw [idx_nat] at g1; exact g1
            · rintro ⟨g1, g2⟩
              refine ⟨hfn, by omega, by omega, fun i hi => ?_, g2⟩
              obtain ⟨t, g3, g4⟩ := g1 i hi
              rw [v2, List.getElem?_take_of_lt hi] at g3
              exact ⟨t, by rw [idx_nat]; exact g3, g4⟩
          rw [hcall]
          have hneg : g.result < 0 → ¬ tyR f x.dst g.result := fun hlt h8 => by
            obtain ⟨k', _, hk', hg'⟩ := h8.has.get
            have := hT.regs _ (List.getElem_mem hk')
            unfold tyR at h8
            rw [hg'] at h8
            have := Option.some.inj h8
            omega
          have h117 : ¬ x.op = 1 := by omega
          simp only [h17, h117]
          by_cases hr0 : g.result = 0
          · simp [hr0]; grind
          · by_cases hr1 : g.result < 0
            · have := hneg hr1
              simp [hr0, hr1, this]
            · have hr2 : g.result > 0 := by omega
              simp [hr0, hr1, hr2]; grind
      · rw [if_pos hn, insC_some har, if_pos (by simpa [len] using hn)]
  · rw [if_neg h17]
    exact rins_plain m f x hl hT h17 h1 h2
end Go.Proofs.YteaknconpkklhaaDoor
set_option linter.unusedVariables false
set_option linter.unusedSimpArgs false
namespace Go.Proofs.YteaknconpkklhaaDoor
open Go Go.Proofs
theorem rshape_eq (f : PFunc) (t : PTerm) (hl : t.to.length ≤ 70) : ∃ b : Bool, fettleref02_shape f t = some b ∧ (b = true ↔ EndsOk f t) := by
  unfold fettleref02_shape
  rcases scan_or t.to (le_max hl (by omega)) (fun x => 1 ≤ x ∧ x < (f.blocks.length : Int)) (fun e : Bool => e = false) (fun s => fettleref02_shape.bd8 f t s) (fun i hi => by
    simp only [fettleref02_shape.bd8, len_lt, hi, if_true, idx_lt hi, Option.bind_some, w64_i hi (show t.to.length ≤ 1000 by omega)]
    by_cases h1 : t.to[i] < 1
    · rw [if_pos h1]
      exact .inl ⟨false, by simp, rfl, fun h => by omega⟩
    · rw [if_neg h1]
      by_cases h2 : t.to[i] ≥ len f.blocks
      · exact .inl ⟨false, by simp [h2], rfl, fun h => by simp only [len] at h2; omega⟩
      · exact .inr ⟨by simp [h2], by simp only [len] at h2; omega⟩) (by simp [fettleref02_shape.bd8, len]) with ⟨e, hw, rfl, hn⟩ | ⟨hw, hall⟩
  · rw [hw]
    exact ⟨false, rfl, by simp, fun h => (hn h.to).elim⟩
  rw [hw]
  simp only [Option.bind_some, fettleref02_shape.nx8]
  by_cases h1 : t.kind = 1 ∧ len t.to = 1
  · rw [if_pos h1]
    refine ⟨true, by simp, by simp; exact ⟨hall, .inl ⟨h1.1, List.length_eq_one_iff.1 (by have := h1.2; simp only [len] at this; omega)⟩⟩⟩
  rw [if_neg h1]
  by_cases h2 : t.kind = 2 ∧ len t.to = 2
  · rw [if_pos h2]
    obtain ⟨a, b, hab⟩ := len2 (show t.to.length = 2 by have := h2.2; simp only [len] at this; omega)
    have i0 : idx t.to 0 = some a := by rw [hab]; rfl
    have i1 : idx t.to 1 = some b := by rw [hab]; rfl
    rw [i0, i1]
    simp only [Option.bind_some]
    refine ⟨_, rfl, ?_⟩
    rw [decide_eq_true_eq, decide_eq_true_eq]
    constructor
    · rintro (h | h)
      · exact ⟨hall, .inr (.inl ⟨h2.1, a, b, hab, h⟩)⟩
      · omega
    · intro h
      left
      rcases h.kind with ⟨h, _⟩ | ⟨_, a', b', h', hne⟩ | ⟨h, _⟩
      · omega
      · rw [hab] at h'; cases h'; exact hne
      · omega
  · rw [if_neg h2]
    simp only [Option.bind_some]
    refine ⟨_, rfl, ?_⟩
    rw [decide_eq_true_eq]
    constructor
    · rintro (h | h)
      · simp at h
      · exact ⟨hall, .inr (.inr ⟨h.1, List.eq_nil_of_length_eq_zero (by have := h.2; simp only [len] at this; omega)⟩)⟩
    · intro h
      rcases h.kind with ⟨h3, a, ha⟩ | ⟨h3, a, b, ha, _⟩ | ⟨h3, ha⟩
      · exact absurd ⟨h3, by rw [ha]; rfl⟩ h1
      · exact absurd ⟨h3, by rw [ha]; rfl⟩ h2
      · exact .inr ⟨h3, by rw [ha]; rfl⟩
theorem outer_c (f : PFunc) (hf : SmF f) : (¬ SmallOk f ∧ fettleref02_outer f = some 5) ∨ (SmallOk f ∧ ¬ TypedOk f ∧ fettleref02_outer f = some 3) ∨ (SmallOk f ∧ TypedOk f ∧ (¬ ∀ B ∈ f.blocks, EndsOk f B.term) ∧ fettleref02_outer f = some 6) ∨
    (SmallOk f ∧ TypedOk f ∧ (∀ B ∈ f.blocks, EndsOk f B.term) ∧ (¬ ∀ i (hi : i < f.blocks.length), ∀ p ∈ f.blocks[i].phis, p.args.length = (preds (nexts f) i).length) ∧ fettleref02_outer f = some 6) ∨
    (SmallOk f ∧ TypedOk f ∧ (∀ B ∈ f.blocks, EndsOk f B.term) ∧ (∀ i (hi : i < f.blocks.length), ∀ p ∈ f.blocks[i].phis, p.args.length = (preds (nexts f) i).length) ∧ fettleref02_outer f = some 0) := by
  obtain ⟨hn, hr, hp, hB⟩ := id hf
  unfold fettleref02_outer
  have hrun := whl_run (body := fun (s : (Int × Int)) => fettleref02_outer.bd8 f s.1 s.2) (r := ((insCount f : Nat) : Int)) f.blocks.length FUEL
    (fun i => ((((f.blocks.take i).map fun (B : PBlock) => B.phis.length + B.ins.length + 1).sum : Nat), (i : Int))) (fun i hi => by
      obtain ⟨b1, b2, _⟩ := hf.2.2.2 _ (List.getElem_mem hi)
      have hs := sum_take f hf i (by omega)
      simp only [fettleref02_outer.bd8, len_lt, hi, if_true, idx_lt hi, Option.bind_some, w64_i hi (show f.blocks.length ≤ 1000 by omega), len]
      rw [List.take_succ_eq_append_getElem hi, List.map_append, List.sum_append]
      simp only [List.map_cons, List.map_nil, List.sum_cons, List.sum_nil]
      rw [w64_id (x := ((((f.blocks.take i).map fun (B : PBlock) => B.phis.length + B.ins.length + 1).sum : Nat) : Int) + f.blocks[i].phis.length) ⟨by omega, by omega⟩, w64_id (x := ((((f.blocks.take i).map fun (B : PBlock) => B.phis.length + B.ins.length + 1).sum : Nat) : Int) + f.blocks[i].phis.length + f.blocks[i].ins.length) ⟨by omega, by omega⟩, w64_id ⟨by omega, by omega⟩]
      congr 3
      omega) (by simp [fettleref02_outer.bd8, len, insCount]) (lt_FUEL (le_max hf.1 (by omega)))
  simp only [List.take_zero, List.map_nil, List.sum_nil] at hrun
  have h00 : (((0 : Nat) : Int), ((0 : Nat) : Int)) = ((0 : Int), (0 : Int)) := rfl
  rw [h00] at hrun
  rw [hrun]
  simp only [Option.bind_some, fettleref02_outer.nx8]
  by_cases hS : ¬ SmallOk f
  · left
    refine ⟨hS, ?_⟩
    rw [if_pos]
    simp only [len]
    by_cases h1 : 1 ≤ f.blocks.length
    · by_cases h2 : f.blocks.length ≤ 64
      · by_cases h3 : f.regs.length ≤ 256
        · right
          by_cases h4 : insCount f ≤ 256
          · exact absurd ⟨h1, h2, h3, h4⟩ hS
          · omega
        · left; right; omega
      · left; left; right; omega
    · left; left; left; omega
  have hS := Classical.not_not.1 hS
  rw [if_neg (by have := hS.pos; have := hS.blocks; have := hS.regs; have := hS.ins; simp only [len]; omega)]
  right
  have hregs := scan_or f.regs (le_max hr (by omega)) (fun t => t = 1 ∨ t = 2) (fun e : Int => e = 3) (fun s => fettleref02_outer.bd35 f s) (fun i hi => by
    simp only [fettleref02_outer.bd35, len_lt, hi, if_true, idx_lt hi, Option.bind_some, w64_i hi (show f.regs.length ≤ 1000 by omega)]
    by_cases h1 : f.regs[i] = 1
    · rw [if_neg (by simpa using h1)]
      exact .inr ⟨by simp, .inl h1⟩
    · rw [if_pos h1]
      by_cases h2 : f.regs[i] = 2
      · exact .inr ⟨by simp [h2], .inr h2⟩
      · exact .inl ⟨3, by simp [h2], rfl, fun h => h.elim h1 h2⟩) (by simp [fettleref02_outer.bd35, len])
  rcases hregs with ⟨e, hw, rfl, hnot⟩ | ⟨hw, hall⟩
  · rw [hw]
    exact .inl ⟨hS, fun h => hnot h.regs, rfl⟩
  rw [hw]
  simp only [Option.bind_some, fettleref02_outer.nx35]
  by_cases hc : (((f.params < 0 ∨ f.params > 8) ∨ f.params > (len f.regs)) ∨ f.result < 0) ∨ f.result > 2
  · rw [if_pos hc]
    refine .inl ⟨hS, fun h => ?_, rfl⟩
    have := h.nn; have := h.few; have := h.le; have := h.res
    simp only [len] at hc; omega
  rw [if_neg hc]
  simp only [len] at hc
  have hT : TypedOk f := ⟨hall, by omega, by omega, by omega, by omega⟩
  right
  rcases scan_or f.blocks (le_max hn (by omega)) (fun (B : PBlock) => EndsOk f B.term) (fun e : Int => e = 6) (fun s => fettleref02_outer.bd67 f s) (fun i hi => by
    obtain ⟨d, hd1, hd2⟩ := rshape_eq f f.blocks[i].term (hB _ (List.getElem_mem hi)).2.2.1
    simp only [fettleref02_outer.bd67, len_lt, hi, if_true, idx_lt hi, Option.bind_some, hd1, w64_i hi (show f.blocks.length ≤ 1000 by omega)]
    cases d with
    | false => exact .inl ⟨_, by simp, rfl, fun h => by simpa using hd2.2 h⟩
    | true => exact .inr ⟨by simp, hd2.1 rfl⟩) (by simp [fettleref02_outer.bd67, len]) with ⟨e, hw2, rfl, hnot⟩ | ⟨hw2, hends⟩
  · rw [hw2]
    exact .inl ⟨hS, hT, hnot, rfl⟩
  rw [hw2]
  simp only [Option.bind_some, fettleref02_outer.nx67]
  right
  rcases scan_ix f.blocks.length (le_max hn (by omega)) (fun i => ∀ B, f.blocks[i]? = some B → ∀ p ∈ B.phis, p.args.length = (preds (nexts f) i).length) (fun e : Int => e = 6) (fun s => fettleref02_outer.bd76 f s) (fun i hi => by
    obtain ⟨b1, b2, b3, b4, b5⟩ := hB _ (List.getElem_mem hi)
    simp only [fettleref02_outer.bd76, len_lt, hi, if_true, Option.bind_some]
    rcases scan_or f.blocks[i].phis (le_max b2 (by omega)) (fun p => p.args.length = (preds (nexts f) i).length) (fun e : Int => e = 6) (fun s => fettleref02_outer.bd90 f (i : Int) s) (fun j hj => by
      simp only [fettleref02_outer.bd90, idx_lt hi, len_lt, hj, if_true, idx_lt hj, Option.bind_some, refAhead_eq f hf i hi, w64_i hj (show f.blocks[i].phis.length ≤ 1000 by omega)]
      by_cases hc : f.blocks[i].phis[j].args.length = (preds (nexts f) i).length
      · exact .inr ⟨by rw [if_neg (by simp only [len]; omega)], hc⟩
      · exact .inl ⟨_, by rw [if_pos (by simp only [len]; omega)], rfl, hc⟩) (by simp [fettleref02_outer.bd90, len, idx_lt hi]) with ⟨e, hw3, rfl, hnot⟩ | ⟨hw3, hall3⟩
    · rw [hw3]; exact .inl ⟨_, rfl, rfl, fun h => hnot (h _ (List.getElem?_eq_getElem hi))⟩
    · rw [hw3]; exact .inr ⟨by simp only [Option.bind_some, fettleref02_outer.nx90, w64_i hi (show f.blocks.length ≤ 1000 by omega)], fun B hB' => by rw [List.getElem?_eq_getElem hi] at hB'; cases hB'; exact hall3⟩) (by simp [fettleref02_outer.bd76, len]) with ⟨e, hw3, rfl, hnot⟩ | ⟨hw3, hah⟩
  · rw [hw3]
    exact .inl ⟨hS, hT, hends, fun h => hnot fun i hi B hB' => by rw [List.getElem?_eq_getElem hi] at hB'; cases hB'; exact h i hi, rfl⟩
  · rw [hw3]
    exact .inr ⟨hS, hT, hends, fun i hi => hah i hi _ (List.getElem?_eq_getElem hi), rfl⟩
theorem rend_c (f : PFunc) (t : PTerm) (hT : TypedOk f) (hE : EndsOk f t) : fettleref02_end f t = some (endC f t) := by
  unfold fettleref02_end endC
  have hk : t.kind = 1 ∨ t.kind = 2 ∨ t.kind = 3 := by
    rcases hE.kind with ⟨h, _⟩ | ⟨h, _⟩ | ⟨h, _⟩ <;> omega
  by_cases h2 : t.kind = 2
  · rw [if_pos h2, is_c, if_neg (by omega), if_neg (by omega)]
    simp only [Option.bind_some]
    unfold isC
    congr 1
    exact lv_congr Iff.rfl fun _ => by simp
  rw [if_neg h2]
  by_cases h3 : t.kind = 3 ∧ ¬ f.result = 0
  · rw [if_pos h3, is_c, if_neg (by omega), if_pos h3.1]
    simp only [Option.bind_some]
    unfold isC
    congr 1
    have := hT.res
    exact lv_congr Iff.rfl fun _ => ⟨fun h => h.2, fun h => ⟨by omega, h⟩⟩
  rw [if_neg h3, if_pos (show t.kind = 1 ∨ (t.kind = 3 ∧ f.result = 0) by omega)]
  by_cases h4 : t.arg = -1
  · rw [if_neg (by simpa using h4), if_pos h4]
  · rw [if_pos h4, if_neg h4]
theorem rphi_c (f : PFunc) (p : PPhi) (hT : TypedOk f) (hl : p.args.length ≤ 300) (k : Int) (hk : w64 (k + 1) = k + 1) :
    ((fettleref02_is f p.dst (-1)).bind fun x53 => (whl (fun (s : (Int × Int)) => fettleref02_Func.bd76 f p s.1 s.2) FUEL (x53, 0)).bind fun z => fettleref02_Func.nx76 f k p z) = some (if phiC f p = 0 then .go (k + 1) else .ret (.ret (phiC f p))) := by
  have h1 : ∀ r, isC f r (-1) = lv (¬ hasR f r) False := fun r => lv_congr Iff.rfl fun _ => ⟨fun h => by have := h.1; omega, fun h => h.elim⟩
  rw [is_c]
  simp only [Option.bind_some]
  have hw := whl_fold p.args (fun c a => wst c (isC f a (-1))) (isC f p.dst (-1)) (body := fun (s : (Int × Int)) => fettleref02_Func.bd76 f p s.1 s.2) (by omega) (fun i hi c => by
    simp only [fettleref02_Func.bd76, len_lt, hi, if_true, idx_lt hi, Option.bind_some, is_c, worst_c, w64_i hi (show p.args.length ≤ 1000 by omega)]) (fun s => by simp [fettleref02_Func.bd76, len])
  rw [hw]
  have hfold := fold_wst f (p.args.map fun a => (a, -1)) (¬ hasR f p.dst) False
  rw [List.foldl_map] at hfold
  rw [h1 p.dst, hfold]
  simp only [Option.bind_some, fettleref02_Func.nx76]
  have hz : lv ((¬ hasR f p.dst) ∨ ¬ ∀ q ∈ p.args.map (fun a => (a, (-1 : Int))), hasR f q.1) (False ∨ ¬ ∀ q ∈ p.args.map (fun a => (a, (-1 : Int))), q.2 ≥ 0 → tyR f q.1 q.2) = lv ((¬ hasR f p.dst) ∨ ¬ ∀ a ∈ p.args, hasR f a) False := by
    refine lv_congr (by simp) fun _ => ?_
    simp
  rw [hz]
  have key : whl (fun (s : (Int × Int)) => fettleref02_Func.bd85 f p s.1 s.2) FUEL (lv ((¬ hasR f p.dst) ∨ ¬ ∀ a ∈ p.args, hasR f a) False, 0) = some (phiC f p) := by
    by_cases h4 : (¬ hasR f p.dst) ∨ ¬ ∀ a ∈ p.args, hasR f a
    · have e : phiC f p = 4 := lv4 h4
      rw [lv4 h4, e]
      have := whl_run (body := fun (s : (Int × Int)) => fettleref02_Func.bd85 f p s.1 s.2) (r := (4 : Int)) 0 FUEL (fun i => ((4 : Int), (i : Int))) (fun i hi => by omega) (by simp [fettleref02_Func.bd85]) (lt_FUEL (by simp only [maxLen]; omega))
      exact this
    · rw [lv0 h4 (fun h => h)]
      have hd : hasR f p.dst := Classical.byContradiction fun k => h4 (.inl k)
      have ha : ∀ a ∈ p.args, hasR f a := Classical.byContradiction fun k => h4 (.inr k)
      obtain ⟨d, hd1, hd2, hd3⟩ := hd.get
      have hty := hT.regs _ (List.getElem_mem hd2)
      obtain ⟨r, hr, hR⟩ := whl_for (s0 := ((0 : Int), (0 : Int))) (body := fun (s : (Int × Int)) => fettleref02_Func.bd85 f p s.1 s.2) p.args.length
        (fun i s => s.2 = (i : Int) ∧ ((s.1 = 0 ∧ ∀ j (hj : j < p.args.length), j < i → tyR f p.args[j] f.regs[d]) ∨ (s.1 = 3 ∧ ¬ ∀ a ∈ p.args, tyR f a f.regs[d])))
        (fun r => (r = 0 ∧ ∀ a ∈ p.args, tyR f a f.regs[d]) ∨ (r = 3 ∧ ¬ ∀ a ∈ p.args, tyR f a f.regs[d])) (le_max hl (by omega)) (fun i s hi hI => by
          obtain ⟨c, q⟩ := s
          obtain ⟨rfl, hI⟩ := hI
          simp only at hI
          rcases hI with ⟨rfl, hI⟩ | ⟨rfl, hI⟩
          · have hai := ha _ (List.getElem_mem hi)
            have hi' : (i : Int) < len p.args := by simp only [len]; omega
            have hcode : isC f p.args[i] f.regs[d] = lv False (¬ tyR f p.args[i] f.regs[d]) := lv_congr ⟨fun h => h hai, fun h => h.elim⟩ fun _ => ⟨fun h => h.2, fun h => ⟨by omega, h⟩⟩
            refine .inr ⟨_, by simp only [fettleref02_Func.bd85, hi', and_self, if_true, idx_lt hi, hd3, Option.bind_some, is_c, w64_i hi (show p.args.length ≤ 1000 by omega), true_and]; rfl, rfl, ?_⟩
            simp only [hcode]
            by_cases ht : tyR f p.args[i] f.regs[d]
            · left
              refine ⟨lv0 (fun h => h) (fun h => h ht), fun j hj hji => ?_⟩
              rcases Nat.lt_succ_iff_lt_or_eq.1 hji with h | rfl
              · exact hI j hj h
              · exact ht
            · right
              exact ⟨lv3 (fun h => h) ht, fun h => ht (h _ (List.getElem_mem hi))⟩
          · exact .inl ⟨3, by simp [fettleref02_Func.bd85], .inr ⟨rfl, hI⟩⟩) (fun s hI => by
          obtain ⟨c, q⟩ := s
          obtain ⟨rfl, hI⟩ := hI
          simp only at hI
          rcases hI with ⟨rfl, hI⟩ | ⟨rfl, hI⟩
          · refine ⟨0, by simp [fettleref02_Func.bd85, len], .inl ⟨rfl, fun a ham => ?_⟩⟩
            obtain ⟨j, hj, rfl⟩ := List.getElem_of_mem ham
            exact hI j hj hj
          · exact ⟨3, by simp [fettleref02_Func.bd85], .inr ⟨rfl, hI⟩⟩) ⟨rfl, .inl ⟨rfl, fun j hj h => by omega⟩⟩
      rw [hr]
      have hsame : (∀ a ∈ p.args, tyR f a f.regs[d]) ↔ ∀ a ∈ p.args, idx f.regs a = idx f.regs p.dst := by
        rw [hd3]; exact Iff.rfl
      rcases hR with ⟨rfl, hall⟩ | ⟨rfl, hnot⟩
      · rw [show phiC f p = 0 from lv0 h4 (fun h => h (hsame.1 hall))]
      · rw [show phiC f p = 3 from lv3 h4 (fun h => hnot (hsame.2 h))]
  rw [key]
  simp only [Option.bind_some, fettleref02_Func.nx85, hk]
  by_cases h : phiC f p = 0
  · rw [if_neg (by simpa using h), if_pos h]
  · rw [if_pos h, if_neg h]
theorem c_step {c : Int} {ρ σ : Type} (s : σ) (out : Int → ρ) : (if ¬ c = 0 then some (Ex.ret (Ex.ret (out c) : Ex ρ Unit)) else some (Ex.go s) : Option (Ex (Ex ρ Unit) σ)) = some (if c = 0 then .go s else .ret (.ret (out c))) := by
  by_cases h : c = 0
  · rw [if_pos h, if_neg (by simp [h])]
  · rw [if_neg h, if_pos h]
theorem rfunc_c (m : PModule) (k : Nat) (hk : k < m.funcs.length) (hf : SmF m.funcs[k]) : fettleref02_Func m (k : Int) = some (funC m m.funcs[k]) := by
  obtain ⟨hn, hr, hp, hB⟩ := id hf
  unfold fettleref02_Func
  rw [idx_lt hk]
  simp only [Option.bind_some]
  generalize m.funcs[k] = f at *
  rcases outer_c f hf with ⟨h1, ho⟩ | ⟨h1, h2, ho⟩ | ⟨h1, h2, h3, ho⟩ | ⟨h1, h2, h3, h4, ho⟩ | ⟨h1, h2, h3, h4, ho⟩
  · rw [ho, funC_5 h1]; rfl
  · rw [ho, funC_3 h1 h2]; rfl
  · rw [ho, funC_6 h1 h2 h3]; rfl
  · rw [ho, funC_7 h1 h2 h3 h4]; rfl
  rw [ho, funC_b h1 h2 h3 h4]
  simp only [Option.bind_some]
  rw [if_neg (by simp)]
  have hs := scan_nz (f.blocks.map (blkC m f)) (fun c => c) (fun s => fettleref02_Func.bd14 m f s) (le_max (show (f.blocks.map (blkC m f)).length ≤ 70 by simpa using hn) (by omega)) (fun i hi => by
    have hi : i < f.blocks.length := by simpa using hi
    obtain ⟨b1, b2, b3, b4, b5⟩ := hB _ (List.getElem_mem hi)
    have hE := h3 _ (List.getElem_mem hi)
    simp only [fettleref02_Func.bd14, len_lt, hi, if_true, idx_lt hi, Option.bind_some, List.getElem_map]
    have hphi := scan_nz (f.blocks[i].phis.map (phiC f)) (fun c => c) (fun s => fettleref02_Func.bd31 f f.blocks[i] s) (le_max (show (f.blocks[i].phis.map (phiC f)).length ≤ 300 by simpa using b2) (by omega)) (fun j hj => by
      have hj : j < f.blocks[i].phis.length := by simpa using hj
      have hw := w64_i hj (show f.blocks[i].phis.length ≤ 1000 by omega)
      simp only [fettleref02_Func.bd31, len_lt, hj, if_true, idx_lt hj, Option.bind_some, List.getElem_map]
      rw [rphi_c f f.blocks[i].phis[j] h2 (b5 _ (List.getElem_mem hj)) (j : Int) (by rw [hw]; omega)]
      rfl) (by simp [fettleref02_Func.bd31, len])
    rw [hphi]
    unfold blkC
    by_cases hz : firstNZ (f.blocks[i].phis.map (phiC f)) = 0
    · rw [if_pos hz, hz, firstNZ_cons0]
      simp only [Option.bind_some, fettleref02_Func.nx31]
      have hins := scan_nz (f.blocks[i].ins.map (insC m f)) (fun c => c) (fun s => fettleref02_Func.bd40 m f f.blocks[i] s) (le_max (show (f.blocks[i].ins.map (insC m f)).length ≤ 300 by simpa using b1) (by omega)) (fun j hj => by
        have hj : j < f.blocks[i].ins.length := by simpa using hj
        simp only [fettleref02_Func.bd40, len_lt, hj, if_true, idx_lt hj, Option.bind_some, List.getElem_map, rins_c m f f.blocks[i].ins[j] (b4 _ (List.getElem_mem hj)) h2, w64_i hj (show f.blocks[i].ins.length ≤ 1000 by omega)]
        rw [c_step (out := fun c => c)]) (by simp [fettleref02_Func.bd40, len])
      rw [hins]
      by_cases hy : firstNZ (f.blocks[i].ins.map (insC m f)) = 0
      · rw [if_pos hy, hy, firstNZ_cons0]
        simp only [Option.bind_some, fettleref02_Func.nx40, rend_c f f.blocks[i].term h2 hE, w64_i hi (show f.blocks.length ≤ 1000 by omega)]
        rw [c_step (out := fun c => c)]
        by_cases he : endC f f.blocks[i].term = 0
        · rw [he]; rfl
        · rw [firstNZ_cons _ he]
      · rw [if_neg hy, firstNZ_cons _ hy]
        simp only [Option.bind_some]
        rw [if_neg hy]
    · rw [if_neg hz, firstNZ_cons _ hz]
      simp only [Option.bind_some]
      rw [if_neg hz]) (by simp [fettleref02_Func.bd14, len])
  rw [hs]
  by_cases hz : firstNZ (f.blocks.map (blkC m f)) = 0
  · rw [if_pos hz, hz]; rfl
  · rw [if_neg hz]; rfl
/-- check.Module tells what the document says. -/
theorem module_exact (m : PModule) (hm : SmM m) : ∃ e c a, check_Module m = some e ∧ fettleref02_Module m = some (c, a) ∧ ofF e = (c, a) ∧ (e = .no ↔ c = 0) := by
  obtain ⟨hl, hf⟩ := hm
  unfold check_Module fettleref02_Module
  by_cases h : m.funcs.length ≤ 32
  · rw [if_neg (by simp only [len]; omega), if_neg (by simp only [len]; omega)]
    have hmx := le_max hl (by omega)
    rcases scan0 m.funcs (fun i f => if funC m f = 0 then none else some (GErr.spot (i : Int) (gErr (funC m f)))) (fun s => check_Module.bd11 m s) hmx (fun i hi => by
      simp only [check_Module.bd11, len_lt, hi, if_true, Option.bind_some, func_c m i hi (hf _ (List.getElem_mem hi)), w64_at hi hmx]
      by_cases hc : funC m m.funcs[i] = 0
      · rw [if_pos hc, if_neg (by simp [gErr_no, hc])]
      · rw [if_neg hc, if_pos (by simp [gErr_no, hc])]) (by simp [check_Module.bd11, len]) with ⟨i, hi, r, h1, h2, h3⟩ | ⟨h1, h3⟩
    · rcases scan0 m.funcs (fun i f => if funC m f = 0 then none else some (funC m f, (i : Int))) (fun s => fettleref02_Module.bd11 m s) hmx (fun i hi => by
        simp only [fettleref02_Module.bd11, len_lt, hi, if_true, Option.bind_some, rfunc_c m i hi (hf _ (List.getElem_mem hi)), w64_at hi hmx]
        by_cases hc : funC m m.funcs[i] = 0
        · rw [if_pos hc, if_neg (by simpa using hc)]
        · rw [if_neg hc, if_pos hc]) (by simp [fettleref02_Module.bd11, len]) with ⟨j, hj, q, g1, g2, g3⟩ | ⟨g1, g3⟩
      · have hij : i = j := by
          rcases Nat.lt_trichotomy i j with h | h | h
          · have := g2 i hi h
            by_cases hc : funC m m.funcs[i] = 0
            · rw [if_pos hc] at h1; cases h1
            · rw [if_neg hc] at this; cases this
          · exact h
          · have := h2 j hj h
            by_cases hc : funC m m.funcs[j] = 0
            · rw [if_pos hc] at g1; cases g1
            · rw [if_neg hc] at this; cases this
        subst hij
        rw [h3, g3]
        by_cases hc : funC m m.funcs[i] = 0
        · rw [if_pos hc] at h1; cases h1
        · rw [if_neg hc] at h1 g1
          cases h1; cases g1
          refine ⟨_, _, _, rfl, rfl, ?_, by simp [hc]⟩
          have := funC_range m m.funcs[i]
          simp only [ofF, gErr, if_neg hc, codeF]
          rw [if_pos (by omega)]
      · exfalso
        have := g1 i hi
        by_cases hc : funC m m.funcs[i] = 0
        · rw [if_pos hc] at h1; cases h1
        · rw [if_neg hc] at this; cases this
    · rcases scan0 m.funcs (fun i f => if funC m f = 0 then none else some (funC m f, (i : Int))) (fun s => fettleref02_Module.bd11 m s) hmx (fun i hi => by
        simp only [fettleref02_Module.bd11, len_lt, hi, if_true, Option.bind_some, rfunc_c m i hi (hf _ (List.getElem_mem hi)), w64_at hi hmx]
        by_cases hc : funC m m.funcs[i] = 0
        · rw [if_pos hc, if_neg (by simpa using hc)]
        · rw [if_neg hc, if_pos hc]) (by simp [fettleref02_Module.bd11, len]) with ⟨j, hj, q, g1, g2, g3⟩ | ⟨g1, g3⟩
      · exfalso
        have := h1 j hj
        by_cases hc : funC m m.funcs[j] = 0
        · rw [if_pos hc] at g1; cases g1
        · rw [if_neg hc] at this; cases this
      · rw [h3, g3]
        exact ⟨_, _, _, rfl, rfl, rfl, by simp⟩
  · rw [if_pos (by simp only [len]; omega), if_pos (by simp only [len]; omega)]
    exact ⟨_, _, _, rfl, rfl, rfl, by simp⟩
end Go.Proofs.YteaknconpkklhaaDoor
set_option linter.unusedVariables false
set_option linter.unusedSimpArgs false
namespace Go.Proofs.YteaknconpkklhaaDoor
open Go Go.Proofs
/-- The inner loop of the reference: whether the block is told already, or is out of range. -/
theorem refNext_in (acc : List Int) (t : Int) (b0 : Bool) (hl : acc.length ≤ maxLen) :
    whl (fun (s : Bool × Int) => fettleref05_Next.bd34 acc t s.1 s.2) FUEL (b0, 0) = some (b0 || decide (t ∈ acc)) := by
  have := whl_run (body := fun (s : Bool × Int) => fettleref05_Next.bd34 acc t s.1 s.2) (r := b0 || decide (t ∈ acc)) acc.length FUEL
    (fun i => (b0 || decide (t ∈ acc.take i), (i : Int))) (fun i hi => by
      simp only [fettleref05_Next.bd34, len_lt, hi, if_true, idx_lt hi, Option.bind_some, w64_at hi hl, List.take_succ_eq_append_getElem hi, List.mem_append, List.mem_singleton]
      cases hb : (b0 || decide (t ∈ acc.take i)) with
      | true =>
        simp only [if_true, Option.bind_some]
        have : (b0 || decide (t ∈ List.take i acc ∨ t = acc[i])) = true := by
          simp only [Bool.or_eq_true, decide_eq_true_eq] at hb ⊢
          rcases hb with hb | hb
          · exact .inl hb
          · exact .inr (.inl hb)
        rw [this]
      | false =>
        simp only [Bool.or_eq_false_iff, decide_eq_false_iff_not] at hb
        simp only [Bool.false_eq_true, if_false, Option.bind_some, hb.1, Bool.false_or, hb.2, false_or, eq_comm (a := t)])
    (by simp [fettleref05_Next.bd34, len]) (lt_FUEL hl)
  simpa using this
theorem refNext_eq (f : PFunc) (b : Nat) (hb : b < f.blocks.length) (hn : f.blocks.length ≤ maxLen) (ht : (f.blocks[b]).term.to.length ≤ 70) :
    fettleref05_Next f b = some (succs f.blocks.length (f.blocks[b]).term.to) := by
  unfold fettleref05_Next
  have hrun := whl_run (body := fun (s : List Int × Int) => fettleref05_Next.bd8 f b s.1 s.2) (r := succs f.blocks.length (f.blocks[b]).term.to) (f.blocks[b]).term.to.length FUEL
    (fun i => (((f.blocks[b]).term.to.take i).foldl (addS f.blocks.length) [], (i : Int))) (fun i hi => by
      have hal : (((f.blocks[b]).term.to.take i).foldl (addS f.blocks.length) []).length ≤ 70 := by
        have := foldl_addS_length f.blocks.length ((f.blocks[b]).term.to.take i) []
        simp at this; omega
      simp only [fettleref05_Next.bd8, idx_lt hb, Option.bind_some, len_lt, hi, if_true, idx_lt hi, foldl_take _ _ _ hi]
      rw [refNext_in _ _ _ (by simp only [maxLen]; omega)]
      simp only [Option.bind_some, fettleref05_Next.nx34, fettleref05_Next.jn19, w64_at hi (show (f.blocks[b]).term.to.length ≤ maxLen by simp only [maxLen]; omega)]
      generalize ((f.blocks[b]).term.to.take i).foldl (addS f.blocks.length) [] = acc at hal
      generalize (f.blocks[b]).term.to[i] = t
      unfold addS
      by_cases hc : 0 ≤ t ∧ t < (f.blocks.length : Int) ∧ t ∉ acc
      · rw [if_pos hc]
        have h1 : (decide (t < 0 ∨ t ≥ len f.blocks) || decide (t ∈ acc)) = false := by
          simp only [Bool.or_eq_false_iff, decide_eq_false_iff_not, len]
          exact ⟨by omega, hc.2.2⟩
        rw [h1]
        have h2 : acc.length + 1 < LIM := by simp only [LIM]; omega
        simp [cat, h2]
      · rw [if_neg hc]
        have h1 : (decide (t < 0 ∨ t ≥ len f.blocks) || decide (t ∈ acc)) = true := by
          simp only [Bool.or_eq_true, decide_eq_true_eq, len]
          by_cases h2 : t ∈ acc
          · exact .inr h2
          · left
            by_cases h3 : t < 0
            · exact .inl h3
            · right
              by_cases h4 : t < (f.blocks.length : Int)
              · exact absurd ⟨by omega, h4, h2⟩ hc
              · omega
        rw [h1]
        simp) (by simp [fettleref05_Next.bd8, idx_lt hb, len, succs]) (lt_FUEL (by simp only [maxLen]; omega))
  simp only [List.take_zero, List.foldl_nil] at hrun
  have h0 : (([] : List Int), ((0 : Nat) : Int)) = (([] : List Int), (0 : Int)) := rfl
  rw [h0] at hrun
  rw [hrun]
  rfl
/-! ### What From marks -/
/-! ### What dominates -/
section
variable {f : PFunc} {R : List Int}
end
end Go.Proofs.YteaknconpkklhaaDoor
set_option linter.unusedVariables false
set_option linter.unusedSimpArgs false
namespace Go.Proofs.YteaknconpkklhaaDoor
open Go Go.Proofs
/-! ### Makers -/
/-! ### Made ahead -/
/-! ### Amiss -/
def Good (f : PFunc) (T : List (List Bool)) (r : Int) (u : D3) : Prop := u.1 = r → okU f T u = true
instance (f : PFunc) (T : List (List Bool)) (r : Int) (u : D3) : Decidable (Good f T r u) := by unfold Good; infer_instance
theorem forall_zipIdx {α β : Type} (xs : List α) (F : α × Nat → β) (P : β → Prop) : (∀ u ∈ xs.zipIdx.map F, P u) ↔ ∀ k (hk : k < xs.length), P (F (xs[k], k)) := by
  constructor
  · intro h k hk
    refine h _ (List.mem_map.2 ⟨(xs[k], k), ?_, rfl⟩)
    rw [List.mem_zipIdx_iff_getElem?]
    exact List.getElem?_eq_getElem hk
  · intro h u hu
    obtain ⟨⟨x, k⟩, h1, rfl⟩ := List.mem_map.1 hu
    rw [List.mem_zipIdx_iff_getElem?] at h1
    simp only at h1
    obtain ⟨hk, rfl⟩ := List.getElem?_eq_some_iff.1 h1
    exact h k hk
theorem forall_zipFlat {α β : Type} (xs : List α) (F : α × Nat → List β) (P : β → Prop) : (∀ u ∈ xs.zipIdx.flatMap F, P u) ↔ ∀ k (hk : k < xs.length), ∀ u ∈ F (xs[k], k), P u := by
  constructor
  · intro h k hk u hu
    refine h u (List.mem_flatMap.2 ⟨(xs[k], k), ?_, hu⟩)
    rw [List.mem_zipIdx_iff_getElem?]
    exact List.getElem?_eq_getElem hk
  · intro h u hu
    obtain ⟨⟨x, k⟩, h1, h2⟩ := List.mem_flatMap.1 hu
    rw [List.mem_zipIdx_iff_getElem?] at h1
    simp only at h1
    obtain ⟨hk, rfl⟩ := List.getElem?_eq_some_iff.1 h1
    exact h k hk u h2
end Go.Proofs.YteaknconpkklhaaDoor
set_option linter.unusedVariables false
set_option linter.unusedSimpArgs false
namespace Go.Proofs.YteaknconpkklhaaDoor
open Go Go.Proofs
end Go.Proofs.YteaknconpkklhaaDoor
set_option linter.unusedVariables false
set_option linter.unusedSimpArgs false
namespace Go.Proofs.YteaknconpkklhaaDoor
open Go Go.Proofs
/-- Is a register wanted ahead of instructions, by whether it is behind them? -/
def insF : List PInstr → Int → Bool → Bool
  | [], r, v => v
  | x :: xs, r, v => if r ∈ x.args then true else if x.dst = r then false else insF xs r v
def begB (B : PBlock) (r : Int) (e : Bool) : Bool := if (B.phis.any fun p => decide (p.dst = r)) = true then false else insF B.ins r (decide (B.term.arg = r) || e)
theorem insF_cons (x : PInstr) (xs : List PInstr) (r : Int) (v : Bool) : insF (x :: xs) r v = if r ∈ x.args then true else if x.dst = r then false else insF xs r v := rfl
theorem insF_mono (xs : List PInstr) (r : Int) {v w : Bool} (h : v = true → w = true) : insF xs r v = true → insF xs r w = true := by
  induction xs with
  | nil => exact h
  | cons x xs ih =>
    rw [insF_cons, insF_cons]
    split
    · exact id
    · split
      · exact id
      · exact ih
theorem begB_mono (B : PBlock) (r : Int) {v w : Bool} (h : v = true → w = true) : begB B r v = true → begB B r w = true := by
  unfold begB
  split
  · exact id
  · refine insF_mono _ _ fun k => ?_
    rcases (Bool.or_eq_true _ _).mp k with k | k
    · rw [k]; rfl
    · rw [h k, Bool.or_true]
theorem markAll_get : ∀ (l : List Int) (o : List Bool) (r : Nat), r < o.length → (∀ a ∈ l, 0 ≤ a) → (markAll o l)[r]? = if (r : Int) ∈ l then some true else o[r]?
  | [], o, r, hr, _ => by simp [markAll]
  | a :: l, o, r, hr, h0 => by
    have ih := markAll_get l (o.set a.toNat true) r (by simpa using hr) (fun b hb => h0 b (List.mem_cons_of_mem _ hb))
    have ha := h0 a List.mem_cons_self
    have e : markAll o (a :: l) = markAll (o.set a.toNat true) l := rfl
    rw [e, ih]
    by_cases h1 : (r : Int) ∈ l
    · rw [if_pos h1, if_pos (List.mem_cons_of_mem _ h1)]
    · rw [if_neg h1]
      by_cases h2 : (r : Int) = a
      · rw [if_pos (by rw [h2]; exact List.mem_cons_self), ← h2, Int.toNat_natCast, List.getElem?_set_self hr]
      · rw [if_neg (by simp [h1, h2]), List.getElem?_set_ne (by omega)]
theorem stepI_get (o : List Bool) (x : PInstr) (r : Nat) (hr : r < o.length) (h0 : ∀ a ∈ x.args, 0 ≤ a) : (stepI o x)[r]? = if (r : Int) ∈ x.args then some true else if x.dst = (r : Int) then some false else o[r]? := by
  unfold stepI
  rw [markAll_get _ _ _ (by split <;> simpa using hr) h0]
  by_cases h1 : (r : Int) ∈ x.args
  · rw [if_pos h1, if_pos h1]
  rw [if_neg h1, if_neg h1]
  by_cases h2 : x.dst = (r : Int)
  · rw [if_pos h2, if_pos (by omega), h2, Int.toNat_natCast, List.getElem?_set_self hr]
  · rw [if_neg h2]
    split
    · rw [List.getElem?_set_ne (by omega)]
    · rfl
theorem steps_get (o : List Bool) (r : Nat) (hr : r < o.length) {v : Bool} (hv : o[r]? = some v) : ∀ (xs : List PInstr), (∀ x ∈ xs, ∀ a ∈ x.args, 0 ≤ a) → (xs.reverse.foldl stepI o)[r]? = some (insF xs (r : Int) v)
  | [], _ => by simpa [insF] using hv
  | x :: xs, h0 => by
    have ih := steps_get o r hr hv xs (fun y hy => h0 y (List.mem_cons_of_mem _ hy))
    rw [List.reverse_cons, List.foldl_append, List.foldl_cons, List.foldl_nil, stepI_get _ x r (by rw [stepsI_length]; exact hr) (h0 x List.mem_cons_self), ih, insF_cons]
    by_cases h1 : (r : Int) ∈ x.args
    · simp [h1]
    · by_cases h2 : x.dst = (r : Int)
      · simp [h1, h2]
      · simp [h1, h2]
theorem dropP_get : ∀ (ps : List PPhi) (o : List Bool) (r : Nat), r < o.length → (∀ p ∈ ps, 0 ≤ p.dst) → (dropP o ps)[r]? = if (ps.any fun p => decide (p.dst = (r : Int))) = true then some false else o[r]?
  | [], o, r, hr, _ => by simp [dropP]
  | p :: ps, o, r, hr, h0 => by
    have ih := dropP_get ps (o.set p.dst.toNat false) r (by simpa using hr) (fun b hb => h0 b (List.mem_cons_of_mem _ hb))
    have hp := h0 p List.mem_cons_self
    have e : dropP o (p :: ps) = dropP (o.set p.dst.toNat false) ps := rfl
    rw [e, ih]
    by_cases h1 : (ps.any fun p => decide (p.dst = (r : Int))) = true
    · rw [if_pos h1, if_pos (by rw [List.any_cons, h1, Bool.or_true])]
    · rw [if_neg h1]
      by_cases h2 : p.dst = (r : Int)
      · rw [if_pos (by simp [h2]), h2, Int.toNat_natCast, List.getElem?_set_self hr]
      · rw [if_neg (by simpa [h2] using h1), List.getElem?_set_ne (by omega)]
theorem beginF_get (B : PBlock) (e : List Bool) (r : Nat) (hR : RegsIn e.length B) {v : Bool} (hv : e[r]? = some v) : (beginF B e)[r]? = some (begB B (r : Int) v) := by
  have hr : r < e.length := (List.getElem?_eq_some_iff.1 hv).1
  unfold beginF
  have hl : (if B.term.arg ≥ 0 then e.set B.term.arg.toNat true else e).length = e.length := by split <;> simp
  have h0 : (if B.term.arg ≥ 0 then e.set B.term.arg.toNat true else e)[r]? = some (decide (B.term.arg = (r : Int)) || v) := by
    by_cases h1 : B.term.arg = (r : Int)
    · rw [if_pos (by omega), h1, Int.toNat_natCast, List.getElem?_set_self hr]; simp
    · by_cases h2 : B.term.arg ≥ 0
      · rw [if_pos h2, List.getElem?_set_ne (by omega), hv]; simp [h1]
      · rw [if_neg h2, hv]; simp [h1]
  have h3 := steps_get _ r (by rw [hl]; exact hr) h0 B.ins (fun x hx a ha => (hR.args x hx a ha).1)
  rw [dropP_get _ _ _ (by rw [stepsI_length, hl]; exact hr) (fun p hp => (hR.phis p hp).1), h3]
  unfold begB
  split <;> rfl
/-! ### The least that is closed -/
structure Clo (f : PFunc) (t : Nat) (I E : Nat → Prop) : Prop where
  phi : ∀ i (hi : i < f.blocks.length), ∀ u ∈ usesP f i f.blocks[i], u.1 = (t : Int) → E u.2.1.toNat
  next : ∀ b (hb : b < f.blocks.length), ∀ x : Nat, (x : Int) ∈ succs f.blocks.length f.blocks[b].term.to → I x → E b
  beg : ∀ b (hb : b < f.blocks.length) (e : Bool), (e = true → E b) → begB f.blocks[b] (t : Int) e = true → I b
theorem Hold.setv {T : List (List Bool)} {a i c w : Nat} {row : List Bool} {v : Bool} (ha : T[a]? = some row) : Hold (T.set a (row.set i v)) c w → Hold T c w ∨ (c = a ∧ w = i ∧ v = true) := fun ⟨r, h1, h2⟩ => by
  by_cases e : a = c
  · subst e
    rw [List.getElem?_set_self (List.getElem?_eq_some_iff.1 ha).1] at h1
    cases h1
    by_cases e2 : i = w
    · subst e2
      have hl : i < row.length := by
        have := (List.getElem?_eq_some_iff.1 h2).1
        simpa using this
      rw [List.getElem?_set_self hl] at h2
      exact .inr ⟨rfl, rfl, Option.some.inj h2⟩
    · rw [List.getElem?_set_ne e2] at h2
      exact .inl ⟨row, ha, h2⟩
  · rw [List.getElem?_set_ne e] at h1
    exact .inl ⟨r, h1, h2⟩
theorem set_row_len {n k : Nat} {T : List (List Bool)} (h : Dim n k T) {a i : Nat} {row : List Bool} (v : Bool) (ha : T[a]? = some row) : Dim n k (T.set a (row.set i v)) := h.set a (by rw [List.length_set]; exact h.row row (List.mem_of_getElem? ha))
variable {f : PFunc} {t : Nat} {I E : Nat → Prop}
/-- What a run of the loops keeps: sizes; only what must be is wanted; ends keep what they have. -/
structure Kp (f : PFunc) (t : Nat) (P : Nat → Prop) (T0 T : List (List Bool)) : Prop where
  dim : Dim f.blocks.length f.regs.length T
  snd : ∀ c, Hold T c t → P c
  keep : ∀ c w, Hold T0 c w → Hold T c w
theorem kp_row {P : Nat → Prop} {b : Nat} {row : List Bool} (hrow : row[t]? = some true → P b) {T0 T : List (List Bool)} (hT : Kp f t P T0 T) (g : Bool) (z : List (List Bool) × Bool)
    (h : whl (fun (s : (List (List Bool) × Bool × Int)) => live_Live.bd122 (b : Int) row s.1 s.2.1 s.2.2) FUEL (T, g, 0) = some z) : Kp f t P T0 z.1 := by
  refine whl_inv (b := fun (s : (List (List Bool) × Bool × Int)) => live_Live.bd122 (b : Int) row s.1 s.2.1 s.2.2) (fun s => Kp f t P T0 s.1) (fun z => Kp f t P T0 z.1) (fun s r hI hb => ?_) (fun s s' hI hb => ?_) FUEL (T, g, 0) z hT h
  · obtain ⟨E', g', j⟩ := s
    simp only [live_Live.bd122, live_Live.jn132] at hb
    split at hb
    · obtain ⟨v, hv, hb⟩ := bind_some' hb
      obtain ⟨q, hq, hb⟩ := bind_some' hb
      split at hb
      · obtain ⟨_, _, hb⟩ := bind_some' hb
        obtain ⟨_, _, hb⟩ := bind_some' hb
        cases hb
      · cases hb
    · cases hb; exact hI
  · obtain ⟨E', g', j⟩ := s
    simp only [live_Live.bd122, live_Live.jn132] at hb
    split at hb
    · obtain ⟨v, hv, hb⟩ := bind_some' hb
      obtain ⟨q, hq, hb⟩ := bind_some' hb
      split at hb
      · rename_i hqt
        obtain ⟨ro, hro, hb⟩ := bind_some' hb
        obtain ⟨_, _, hb⟩ := bind_some' hb
        cases hb
        simp only at hI ⊢
        obtain ⟨j0, _, hvj⟩ := idx_some hv
        rw [idx_nat] at hro
        rw [Int.toNat_natCast]
        have hvt : v = true := by
          cases v with
          | true => rfl
          | false => simp at hq; subst hq; cases hqt
        refine ⟨set_row_len hI.dim true hro, fun c hc => ?_, fun c w hc => Hold.keep hro (hI.keep c w hc)⟩
        rcases Hold.set hro hc with hc | ⟨rfl, e⟩
        · exact hI.snd c hc
        · exact hrow (by rw [e, hvj, hvt])
      · cases hb; exact hI
    · cases hb
theorem kp_next (hC : Clo f t I E) {b : Nat} (hb : b < f.blocks.length) {N : List (List Bool)} (hN : ∀ c, Hold N c t → I c) (l : List Int) (hl : l = succs f.blocks.length f.blocks[b].term.to) {T0 T : List (List Bool)} (hT : Kp f t E T0 T) (g : Bool) (z : List (List Bool) × Bool)
    (h : whl (fun (s : (List (List Bool) × Bool × Int)) => live_Live.bd74 N (b : Int) l s.1 s.2.1 s.2.2) FUEL (T, g, 0) = some z) : Kp f t E T0 z.1 := by
  refine whl_inv (b := fun (s : (List (List Bool) × Bool × Int)) => live_Live.bd74 N (b : Int) l s.1 s.2.1 s.2.2) (fun s => Kp f t E T0 s.1) (fun z => Kp f t E T0 z.1) (fun s r hI hb => ?_) (fun s s' hI hb => ?_) FUEL (T, g, 0) z hT h
  · obtain ⟨E', g', j⟩ := s
    simp only [live_Live.bd74, live_Live.nx122] at hb
    split at hb
    · obtain ⟨_, _, hb⟩ := bind_some' hb
      obtain ⟨_, _, hb⟩ := bind_some' hb
      obtain ⟨_, _, hb⟩ := bind_some' hb
      cases hb
    · cases hb; exact hI
  · obtain ⟨E', g', j⟩ := s
    simp only [live_Live.bd74, live_Live.nx122] at hb
    split at hb
    · obtain ⟨x, hx, hb⟩ := bind_some' hb
      obtain ⟨rx, hrx, hb⟩ := bind_some' hb
      obtain ⟨y, hy, hb⟩ := bind_some' hb
      cases hb
      refine kp_row (fun hrt => ?_) hI _ y hy
      obtain ⟨x0, _, hxr⟩ := idx_some hrx
      have hm : x ∈ l := List.mem_of_getElem? (idx_some hx).2.2
      rw [hl] at hm
      refine hC.next b ‹_› x.toNat (by rw [Int.toNat_of_nonneg x0]; exact hm) (hN _ ⟨rx, hxr, hrt⟩)
    · cases hb
theorem kp_in {P : Nat → Prop} {b : Nat} {bg : List Bool} (hbg : bg[t]? = some true → P b) {T : List (List Bool)} (hd : Dim f.blocks.length f.regs.length T) (hT : ∀ c, Hold T c t → P c) (g : Bool) (z : List (List Bool) × Bool)
    (h : whl (fun (s : (List (List Bool) × Bool × Int)) => live_Live.bd89 (b : Int) bg s.1 s.2.1 s.2.2) FUEL (T, g, 0) = some z) : Dim f.blocks.length f.regs.length z.1 ∧ ∀ c, Hold z.1 c t → P c := by
  refine whl_inv (b := fun (s : (List (List Bool) × Bool × Int)) => live_Live.bd89 (b : Int) bg s.1 s.2.1 s.2.2) (fun s => Dim f.blocks.length f.regs.length s.1 ∧ ∀ c, Hold s.1 c t → P c) (fun z => Dim f.blocks.length f.regs.length z.1 ∧ ∀ c, Hold z.1 c t → P c) (fun s r hI hb => ?_) (fun s s' hI hb => ?_) FUEL (T, g, 0) z ⟨hd, hT⟩ h
  · obtain ⟨E', g', j⟩ := s
    simp only [live_Live.bd89, live_Live.jn99] at hb
    split at hb
    · obtain ⟨_, _, hb⟩ := bind_some' hb
      obtain ⟨_, _, hb⟩ := bind_some' hb
      obtain ⟨_, _, hb⟩ := bind_some' hb
      split at hb
      · obtain ⟨_, _, hb⟩ := bind_some' hb
        obtain ⟨_, _, hb⟩ := bind_some' hb
        cases hb
      · cases hb
    · cases hb; exact hI
  · obtain ⟨E', g', j⟩ := s
    simp only [live_Live.bd89, live_Live.jn99] at hb
    split at hb
    · obtain ⟨v, hv, hb⟩ := bind_some' hb
      obtain ⟨_, _, hb⟩ := bind_some' hb
      obtain ⟨_, _, hb⟩ := bind_some' hb
      split at hb
      · obtain ⟨ro, hro, hb⟩ := bind_some' hb
        obtain ⟨_, _, hb⟩ := bind_some' hb
        cases hb
        simp only at hI ⊢
        rw [idx_nat] at hro
        rw [Int.toNat_natCast]
        refine ⟨set_row_len hI.1 v hro, fun c hc => ?_⟩
        rcases Hold.setv hro hc with hc | ⟨rfl, e, hvt⟩
        · exact hI.2 c hc
        · exact hbg (by rw [e, (idx_some hv).2.2, hvt])
      · cases hb; exact hI
    · cases hb
structure KpB (f : PFunc) (t : Nat) (I E : Nat → Prop) (E0 N T : List (List Bool)) : Prop where
  ends : Kp f t E E0 T
  dim : Dim f.blocks.length f.regs.length N
  snd : ∀ c, Hold N c t → I c
theorem kp_round (hf : LiveOk f) (ht : t < f.regs.length) (hC : Clo f t I E) {E0 N T : List (List Bool)} (hK : KpB f t I E E0 N T) (g : Bool) (j0 : Int) (z : List (List Bool) × List (List Bool) × Bool)
    (h : whl (fun (s : (List (List Bool) × List (List Bool) × Bool × Int)) => live_Live.bd57 f (nexts f) s.1 s.2.1 s.2.2.1 s.2.2.2) FUEL (N, T, g, j0) = some z) : KpB f t I E E0 z.1 z.2.1 := by
  refine whl_inv (b := fun (s : (List (List Bool) × List (List Bool) × Bool × Int)) => live_Live.bd57 f (nexts f) s.1 s.2.1 s.2.2.1 s.2.2.2) (fun s => KpB f t I E E0 s.1 s.2.1) (fun z => KpB f t I E E0 z.1 z.2.1) (fun s r hI hb => ?_) (fun s s' hI hb => ?_) FUEL _ z hK h
  · obtain ⟨N, T, g, j⟩ := s
    simp only [live_Live.bd57, live_Live.nx74, live_Live.nx89] at hb
    split at hb
    · obtain ⟨_, _, hb⟩ := bind_some' hb
      obtain ⟨_, _, hb⟩ := bind_some' hb
      obtain ⟨_, _, hb⟩ := bind_some' hb
      obtain ⟨_, _, hb⟩ := bind_some' hb
      obtain ⟨_, _, hb⟩ := bind_some' hb
      obtain ⟨_, _, hb⟩ := bind_some' hb
      cases hb
    · cases hb; exact hI
  · obtain ⟨N, T, g, j⟩ := s
    simp only [live_Live.bd57, live_Live.nx74, live_Live.nx89] at hb
    split at hb
    · rename_i hj
      obtain ⟨l, hl, hb⟩ := bind_some' hb
      obtain ⟨y, hy, hb⟩ := bind_some' hb
      obtain ⟨B, hB, hb⟩ := bind_some' hb
      obtain ⟨re, hre, hb⟩ := bind_some' hb
      obtain ⟨bg, hbg, hb⟩ := bind_some' hb
      obtain ⟨w, hw, hb⟩ := bind_some' hb
      cases hb
      obtain ⟨b, rfl⟩ : ∃ b : Nat, j = b := ⟨j.toNat, by omega⟩
      rw [idx_nat] at hl hB hre
      have hbn : b < f.blocks.length := (List.getElem?_eq_some_iff.1 hB).1
      obtain rfl : f.blocks[b] = B := (List.getElem?_eq_some_iff.1 hB).2
      rw [nexts_get f b hbn] at hl
      simp only at hI
      have hy' := kp_next hC hbn hI.snd l (Option.some.inj hl).symm hI.ends g y hy
      have hrl := hy'.dim.row re (List.mem_of_getElem? hre)
      have hR := hf.regs _ (List.getElem_mem hbn)
      rw [begin_eq f.blocks[b] re (hf.sm.2.2.2 _ (List.getElem_mem hbn)) (by rw [hrl]; exact hR) (by have := hf.sm.2.1; omega)] at hbg
      cases hbg
      have hw' := kp_in (fun hb' => by
        have htl : t < re.length := by omega
        rw [beginF_get f.blocks[b] re t (by rw [hrl]; exact hR) (List.getElem?_eq_getElem htl)] at hb'
        exact hC.beg b hbn re[t] (fun he => hy'.snd b ⟨re, hre, by rw [List.getElem?_eq_getElem htl, he]⟩) (Option.some.inj hb')) hI.dim hI.snd y.2 w hw
      exact ⟨hy', hw'.1, hw'.2⟩
    · cases hb
theorem kp_rounds (hf : LiveOk f) (ht : t < f.regs.length) (hC : Clo f t I E) {E0 N T : List (List Bool)} (hK : KpB f t I E E0 N T) (g : Bool) (z : List (List Bool) × List (List Bool))
    (h : whl (fun (s : (List (List Bool) × List (List Bool) × Bool)) => live_Live.bd43 f (nexts f) s.1 s.2.1 s.2.2) FUEL (N, T, g) = some z) : KpB f t I E E0 z.1 z.2 := by
  refine whl_inv (b := fun (s : (List (List Bool) × List (List Bool) × Bool)) => live_Live.bd43 f (nexts f) s.1 s.2.1 s.2.2) (fun s => KpB f t I E E0 s.1 s.2.1) (fun z => KpB f t I E E0 z.1 z.2) (fun s r hI hb => ?_) (fun s s' hI hb => ?_) FUEL _ z hK h
  · obtain ⟨N, T, g⟩ := s
    simp only [live_Live.bd43, live_Live.nx57] at hb
    split at hb
    · obtain ⟨_, _, hb⟩ := bind_some' hb
      cases hb
    · cases hb; exact hI
  · obtain ⟨N, T, g⟩ := s
    simp only [live_Live.bd43, live_Live.nx57] at hb
    split at hb
    · obtain ⟨y, hy, hb⟩ := bind_some' hb
      cases hb
      exact kp_round hf ht hC hI _ _ y hy
    · cases hb
/-! ### What phis want at ends -/
theorem whl_foldI {α σ : Type} (L : List α) (g : σ → α → σ) (Inv : σ → Prop) (s0 : σ) (h0 : Inv s0) {body : σ × Int → Option (Ex σ (σ × Int))} (hl : L.length ≤ 1000)
    (h : ∀ k (hk : k < L.length) s, Inv s → body (s, (k : Int)) = some (.go (g s L[k], ((k + 1 : Nat) : Int))) ∧ Inv (g s L[k])) (he : ∀ s, Inv s → body (s, (L.length : Int)) = some (.ret s)) :
    whl body FUEL (s0, 0) = some (L.foldl g s0) ∧ Inv (L.foldl g s0) := by
  have hI : ∀ k, k ≤ L.length → Inv ((L.take k).foldl g s0) := by
    intro k
    induction k with
    | zero => intro _; simpa using h0
    | succ k ih =>
      intro hk
      rw [foldl_take g s0 L (by omega)]
      exact (h k (by omega) _ (ih (by omega))).2
  have hrun := whl_run (body := body) (r := L.foldl g s0) L.length FUEL (fun k => ((L.take k).foldl g s0, (k : Int))) (fun k hk => by
    rw [(h k hk _ (hI k (by omega))).1, foldl_take g s0 L hk]) (by
    have := he _ (hI L.length (Nat.le_refl _))
    rw [List.take_length] at this ⊢
    exact this) (lt_FUEL (le_max hl (by omega)))
  have h1 := hI L.length (Nat.le_refl _)
  rw [List.take_length] at h1
  exact ⟨hrun, h1⟩
def markE (T : List (List Bool)) (u : D3) : List (List Bool) := T.set u.2.1.toNat ((T.getD u.2.1.toNat []).set u.1.toNat true)
theorem markE_hold {n k : Nat} {T : List (List Bool)} (hT : Dim n k T) {u : D3} (h1 : u.2.1.toNat < n) (h2 : u.1.toNat < k) : Dim n k (markE T u) ∧ ∀ b w, Hold (markE T u) b w ↔ Hold T b w ∨ (b = u.2.1.toNat ∧ w = u.1.toNat) := by
  have hl := hT.len
  have hrow : T[u.2.1.toNat]? = some (T.getD u.2.1.toNat []) := by rw [List.getD_eq_getElem?_getD, List.getElem?_eq_getElem (by omega)]; rfl
  have hrl := hT.row _ (List.mem_of_getElem? hrow)
  refine ⟨set_row_len hT true hrow, fun b w => ⟨Hold.set hrow, ?_⟩⟩
  rintro (h | ⟨rfl, rfl⟩)
  · exact Hold.keep hrow h
  · exact Hold.new hrow (by omega)
theorem marks_hold {n k : Nat} : ∀ (L : List D3) (T : List (List Bool)), Dim n k T → (∀ u ∈ L, u.2.1.toNat < n ∧ u.1.toNat < k) → Dim n k (L.foldl markE T) ∧ ∀ b w, Hold (L.foldl markE T) b w ↔ Hold T b w ∨ ∃ u ∈ L, b = u.2.1.toNat ∧ w = u.1.toNat
  | [], T, hT, _ => ⟨hT, fun b w => by simp⟩
  | u :: L, T, hT, h => by
    obtain ⟨h1, h2⟩ := h u List.mem_cons_self
    obtain ⟨d, hh⟩ := markE_hold hT h1 h2
    obtain ⟨d2, hh2⟩ := marks_hold L (markE T u) d (fun v hv => h v (List.mem_cons_of_mem _ hv))
    refine ⟨d2, fun b w => ?_⟩
    rw [List.foldl_cons, hh2 b w, hh b w]
    simp only [List.mem_cons, exists_eq_or_imp]
    exact or_assoc
def usesPs (f : PFunc) : List D3 := f.blocks.zipIdx.flatMap fun x => usesP f x.2 x.1
theorem usesP_in {m : PModule} (hok : FuncOk m f) {i : Nat} (hi : i < f.blocks.length) : ∀ u ∈ usesP f i f.blocks[i], (0 ≤ u.2.1 ∧ u.2.1 < (f.blocks.length : Int)) ∧ 0 ≤ u.1 ∧ u.1 < (f.regs.length : Int) := fun u hu => by
  have hR := BlockOk_regs (hok.blocks _ (List.getElem_mem hi))
  unfold usesP at hu
  rw [List.mem_flatMap] at hu
  obtain ⟨p, hp, hu⟩ := hu
  have hl := hok.ahead i hi p hp
  obtain ⟨⟨a, j⟩, hx, rfl⟩ := List.mem_map.1 hu
  have hj : j < p.args.length := by simpa using List.snd_lt_of_mem_zipIdx hx
  refine ⟨?_, hR.pargs p hp _ (List.fst_mem_of_mem_zipIdx hx)⟩
  have hj2 : j < (preds (nexts f) i).length := by omega
  have hin := preds_in (nexts f) i _ (List.getElem_mem hj2)
  rw [nexts_length] at hin
  simp only [List.getD_eq_getElem?_getD, List.getElem?_eq_getElem hj2, Option.getD_some]
  exact hin
theorem init_eq {m : PModule} (hf : SmF f) (hok : FuncOk m f) (T : List (List Bool)) (hT : Dim f.blocks.length f.regs.length T) :
    whl (fun (s : (List (List Bool) × Int)) => live_Live.bd34 f (aheads (nexts f)) s.1 s.2) FUEL (T, 0) = some ((usesPs f).foldl markE T) ∧ Dim f.blocks.length f.regs.length ((usesPs f).foldl markE T) := by
  have hn := hf.1
  have key := whl_foldI f.blocks.zipIdx (fun T x => (usesP f x.2 x.1).foldl markE T) (fun T => Dim f.blocks.length f.regs.length T) T hT (body := fun (s : (List (List Bool) × Int)) => live_Live.bd34 f (aheads (nexts f)) s.1 s.2) (by simp; omega) (fun i hi T hT => by
    have hi : i < f.blocks.length := by simpa using hi
    have hz : (f.blocks.zipIdx)[i]'(by simpa using hi) = (f.blocks[i], i) := by simp
    obtain ⟨b1, b2, b3, b4, b5⟩ := hf.2.2.2 _ (List.getElem_mem hi)
    have hR := BlockOk_regs (hok.blocks _ (List.getElem_mem hi))
    have hg : idx (aheads (nexts f)) (i : Int) = some (preds (nexts f) i) := by rw [idx_nat]; exact aheads_get _ _ (by rw [nexts_length]; exact hi)
    have hphi := whl_foldI f.blocks[i].phis (fun T p => (p.args.zipIdx.map fun x => (x.1, (preds (nexts f) i).getD x.2 0, ((f.blocks.getD ((preds (nexts f) i).getD x.2 0).toNat PBlock.zero).ins.length : Int))).foldl markE T) (fun T => Dim f.blocks.length f.regs.length T) T hT (body := fun (s : (List (List Bool) × Int)) => live_Live.bd166 (aheads (nexts f)) (i : Int) f.blocks[i] s.1 s.2) (by omega) (fun k hk T hT => by
      have hpm := List.getElem_mem hk
      have hl := hok.ahead i hi _ hpm
      have h5 := b5 _ hpm
      have ha := whl_foldI (f.blocks[i].phis[k].args.zipIdx.map fun x => (x.1, (preds (nexts f) i).getD x.2 0, ((f.blocks.getD ((preds (nexts f) i).getD x.2 0).toNat PBlock.zero).ins.length : Int))) markE (fun T => Dim f.blocks.length f.regs.length T) T hT (body := fun (s : (List (List Bool) × Int)) => live_Live.bd181 (aheads (nexts f)) (i : Int) f.blocks[i].phis[k] s.1 s.2) (by simp; omega) (fun j hj T hT => by
        have hj : j < f.blocks[i].phis[k].args.length := by simpa using hj
        have hj2 : j < (preds (nexts f) i).length := by omega
        have hin := preds_in (nexts f) i _ (List.getElem_mem hj2)
        rw [nexts_length] at hin
        have har := hR.pargs _ hpm _ (List.getElem_mem hj)
        have hgd : (preds (nexts f) i).getD j 0 = (preds (nexts f) i)[j] := by rw [List.getD_eq_getElem?_getD, List.getElem?_eq_getElem hj2]; rfl
        obtain ⟨row, r1, r2, r3⟩ := hT.get hin.1 hin.2
        obtain ⟨v, v1, v2⟩ := idx_in (xs := row) har.1 (by rw [r3]; exact har.2)
        have hm := markE_hold hT (u := (f.blocks[i].phis[k].args[j], (preds (nexts f) i)[j], ((f.blocks.getD ((preds (nexts f) i)[j]).toNat PBlock.zero).ins.length : Int))) (by simp only; omega) (by simp only; omega)
        simp only [List.getElem_map, List.getElem_zipIdx, Nat.zero_add, hgd]
        refine ⟨?_, hm.1⟩
        simp only [live_Live.bd181, len_lt, hj, if_true, idx_lt hj, Option.bind_some, hg, idx_lt hj2, r1, v1, w64_i hj (show f.blocks[i].phis[k].args.length ≤ 1000 by omega)]
        simp only [markE, List.getD_eq_getElem?_getD, r2, Option.getD_some]) (fun s _ => by simp [live_Live.bd181, len])
      refine ⟨?_, ha.2⟩
      simp only [live_Live.bd166, len_lt, hk, if_true, idx_lt hk, Option.bind_some, ha.1, live_Live.nx181, w64_i hk (show f.blocks[i].phis.length ≤ 1000 by omega)]) (fun s _ => by simp [live_Live.bd166, len])
    simp only [hz]
    have hfl : (usesP f i f.blocks[i]).foldl markE T = f.blocks[i].phis.foldl (fun T p => (p.args.zipIdx.map fun x => (x.1, (preds (nexts f) i).getD x.2 0, ((f.blocks.getD ((preds (nexts f) i).getD x.2 0).toNat PBlock.zero).ins.length : Int))).foldl markE T) T := by
      unfold usesP; rw [List.foldl_flatMap]
    rw [hfl]
    refine ⟨?_, hphi.2⟩
    simp only [live_Live.bd34, len_lt, hi, if_true, idx_lt hi, Option.bind_some, hphi.1, live_Live.nx166, w64_i hi (show f.blocks.length ≤ 1000 by omega)]) (fun s _ => by simp [live_Live.bd34, len])
  have hfl : (usesPs f).foldl markE T = f.blocks.zipIdx.foldl (fun T x => (usesP f x.2 x.1).foldl markE T) T := by
    unfold usesPs; rw [List.foldl_flatMap]
  rw [hfl]; exact key
/-! ### What Live tells is the least that is closed -/
theorem rep_hold {n k b t : Nat} : ¬ Hold (List.replicate n (List.replicate k false)) b t := fun ⟨r, h1, h2⟩ => by
  rw [List.eq_of_mem_replicate (List.mem_of_getElem? h1), List.getElem?_replicate] at h2
  split at h2 <;> simp at h2
structure Lv (f : PFunc) (ins ends : List (List Bool)) : Prop where
  dimI : Dim f.blocks.length f.regs.length ins
  dimE : Dim f.blocks.length f.regs.length ends
  least : ∀ t, t < f.regs.length → ∀ I E, Clo f t I E → (∀ c, Hold ins c t → I c) ∧ ∀ c, Hold ends c t → E c
  clo : ∀ t, t < f.regs.length → Clo f t (fun b => Hold ins b t) (fun b => Hold ends b t)
theorem live_lv (m : PModule) (hm : SmM m) (k : Nat) (hk : k < m.funcs.length) (hp : Proper m) : ∃ ins ends, live_Live m (k : Int) = some (ins, ends, GErr.no) ∧ Lv m.funcs[k] ins ends := by
  obtain ⟨e, he1, hrest⟩ := live_any' m hm (k : Int)
  obtain ⟨e', he', hiff⟩ := has_says m hm (k : Int)
  have hee : e = GErr.no := by
    have : e = e' := Option.some.inj (he1.symm.trans he')
    rw [this]; exact hiff.2 ⟨hp, by omega, by omega⟩
  rcases hrest with ⟨hne, _⟩ | ⟨_, _, k', hkk, hk', ins, ends, hlive, hLI, hFx⟩
  · exact absurd hee hne
  obtain rfl : k = k' := by omega
  refine ⟨ins, ends, hlive, ?_⟩
  have hsm := hm.2 _ (List.getElem_mem hk)
  have hok := hp.funcs _ (List.getElem_mem hk)
  have hf := hok.live hsm
  unfold live_Live at hlive
  rw [he1, hee, idx_lt hk] at hlive
  generalize m.funcs[k] = f at *
  have htl : ∀ B ∈ f.blocks, B.term.to.length ≤ 70 := fun B hm => (hsm.2.2.2 B hm).2.2.1
  obtain ⟨hin1, hin2⟩ := init_eq hsm hok (List.replicate f.blocks.length (List.replicate f.regs.length false)) (Dim.rep _ _)
  simp only [Option.bind_some, graphNext_eq f hsm.1 htl, checkAhead_eq f hsm, table_eq f hsm] at hlive
  rw [if_neg (by simp)] at hlive
  simp only [Option.bind_some, hin1, live_Live.nx34] at hlive
  obtain ⟨z, hz, hlive⟩ := bind_some' hlive
  simp only [live_Live.nx43, Option.some.injEq, Prod.mk.injEq] at hlive
  obtain ⟨rfl, rfl, _⟩ := hlive
  have hPs : ∀ u ∈ usesPs f, u.2.1.toNat < f.blocks.length ∧ u.1.toNat < f.regs.length := by
    unfold usesPs
    rw [forall_zipFlat]
    intro i hi u hu
    have := usesP_in hok hi u hu
    omega
  obtain ⟨-, hmh⟩ := marks_hold (usesPs f) (List.replicate f.blocks.length (List.replicate f.regs.length false)) (Dim.rep f.blocks.length f.regs.length) hPs
  have hstart : ∀ t I E, Clo f t I E → KpB f t I E ((usesPs f).foldl markE (List.replicate f.blocks.length (List.replicate f.regs.length false))) (List.replicate f.blocks.length (List.replicate f.regs.length false)) ((usesPs f).foldl markE (List.replicate f.blocks.length (List.replicate f.regs.length false))) := fun t I E hC =>
    ⟨⟨hin2, fun c hc => by
      rcases (hmh c t).1 hc with h | ⟨u, hu, h1, h2⟩
      · exact absurd h rep_hold
      · unfold usesPs at hu
        rw [List.mem_flatMap] at hu
        obtain ⟨⟨B, i⟩, hx, hu⟩ := hu
        rw [List.mem_zipIdx_iff_getElem?] at hx
        simp only at hx hu
        obtain ⟨hi, rfl⟩ := List.getElem?_eq_some_iff.1 hx
        have hin := usesP_in hok hi u hu
        rw [h1]
        exact hC.phi i hi u hu (by omega), fun c w h => h⟩, Dim.rep _ _, fun c hc => absurd hc rep_hold⟩
  refine ⟨hLI.dimI, hLI.dimE, fun t ht I E hC => ?_, fun t ht => ?_⟩
  · have := kp_rounds hf ht hC (hstart t I E hC) true z hz
    exact ⟨this.snd, this.ends.snd⟩
  · have hall : Clo f t (fun _ => True) (fun _ => True) := ⟨fun _ _ _ _ _ => trivial, fun _ _ _ _ _ => trivial, fun _ _ _ _ _ => trivial⟩
    have hkeep := (kp_rounds hf ht hall (hstart t _ _ hall) true z hz).ends.keep
    refine ⟨fun i hi u hu he => ?_, fun b hb x hx hxI => ?_, fun b hb e he hbg => ?_⟩
    · refine hkeep _ _ ((hmh _ _).2 (.inr ⟨u, ?_, rfl, by rw [he]; simp⟩))
      unfold usesPs
      rw [List.mem_flatMap]
      exact ⟨(f.blocks[i], i), by rw [List.mem_zipIdx_iff_getElem?]; exact List.getElem?_eq_getElem hi, hu⟩
    · obtain ⟨re, e1, e2, e3⟩ := hLI.dimE.get (b := (b : Int)) (by omega) (by omega)
      obtain ⟨ri, i1, i2, i3⟩ := hLI.dimI.get (b := (b : Int)) (by omega) (by omega)
      rw [Int.toNat_natCast] at e2 i2
      obtain ⟨rx, x1, x2⟩ := hxI
      exact ⟨re, e2, (hFx b hb re ri e2 i2).1 (x : Int) hx rx (by rw [idx_nat]; exact x1) t x2⟩
    · obtain ⟨re, e1, e2, e3⟩ := hLI.dimE.get (b := (b : Int)) (by omega) (by omega)
      obtain ⟨ri, i1, i2, i3⟩ := hLI.dimI.get (b := (b : Int)) (by omega) (by omega)
      rw [Int.toNat_natCast] at e2 i2
      have htl : t < re.length := by omega
      refine ⟨ri, i2, (hFx b hb re ri e2 i2).2 t ?_⟩
      rw [beginF_get f.blocks[b] re t (by rw [e3]; exact hf.regs _ (List.getElem_mem hb)) (List.getElem?_eq_getElem htl)]
      refine congrArg some (begB_mono _ _ (fun k => ?_) hbg)
      obtain ⟨re', h1, h2⟩ := he k
      rw [e2] at h1; cases h1
      rw [List.getElem?_eq_getElem htl] at h2
      exact Option.some.inj h2
end Go.Proofs.YteaknconpkklhaaDoor
set_option linter.unusedVariables false
set_option linter.unusedSimpArgs false
namespace Go.Proofs.YteaknconpkklhaaDoor
open Go Go.Proofs
theorem whl_foldS {α σ τ ρ : Type} (L : List α) (g : σ → α → σ) (Inv : σ → Prop) (st : σ → Int → τ) (out : σ → ρ) (s0 : σ) (h0 : Inv s0) {body : τ → Option (Ex ρ τ)} (hl : L.length ≤ 1000)
    (h : ∀ k (hk : k < L.length) s, Inv s → body (st s (k : Int)) = some (.go (st (g s L[k]) ((k + 1 : Nat) : Int))) ∧ Inv (g s L[k])) (he : ∀ s, Inv s → body (st s (L.length : Int)) = some (.ret (out s))) :
    whl body FUEL (st s0 0) = some (out (L.foldl g s0)) ∧ Inv (L.foldl g s0) := by
  have hI : ∀ k, k ≤ L.length → Inv ((L.take k).foldl g s0) := by
    intro k
    induction k with
    | zero => intro _; simpa using h0
    | succ k ih =>
      intro hk
      rw [foldl_take g s0 L (by omega)]
      exact (h k (by omega) _ (ih (by omega))).2
  have hrun := whl_run (body := body) (r := out (L.foldl g s0)) L.length FUEL (fun k => st ((L.take k).foldl g s0) (k : Int)) (fun k hk => by
    rw [(h k hk _ (hI k (by omega))).1, foldl_take g s0 L hk]) (by
    have := he _ (hI L.length (Nat.le_refl _))
    rw [List.take_length] at this ⊢
    exact this) (lt_FUEL (le_max hl (by omega)))
  have h1 := hI L.length (Nat.le_refl _)
  rw [List.take_length] at h1
  exact ⟨hrun, h1⟩
theorem scan_any {α : Type} (xs : List α) (hl : xs.length ≤ maxLen) (p : α → Bool) (body : Int → Option (Ex (Ex Bool Unit) Int))
    (h : ∀ i (hi : i < xs.length), body (i : Int) = some (if p xs[i] = true then .ret (.ret true) else .go ((i + 1 : Nat) : Int))) (he : body (xs.length : Int) = some (.ret (.go ()))) :
    whl body FUEL 0 = some (if xs.any p = true then .ret true else .go ()) := by
  rcases scan_or xs hl (fun x => ¬ p x = true) (fun e : Bool => e = true) body (fun i hi => by
    rw [h i hi]
    by_cases hp : p xs[i] = true
    · exact .inl ⟨true, by rw [if_pos hp], rfl, fun k => k hp⟩
    · exact .inr ⟨by rw [if_neg hp], hp⟩) he with ⟨e, hw, rfl, hn⟩ | ⟨hw, hall⟩
  · rw [hw, if_pos]
    rw [List.any_eq_true]
    exact Classical.byContradiction fun hc => hn fun x hx hp => hc ⟨x, hx, hp⟩
  · rw [hw, if_neg]
    rw [List.any_eq_true]
    rintro ⟨x, hx, hp⟩
    exact hall x hx hp
theorem has8 (l : List Int) (r : Int) (hl : l.length ≤ maxLen) : fettleref08_has l r = some (decide (r ∈ l)) := by
  unfold fettleref08_has
  rw [scan_any l hl (fun x => decide (x = r)) (fun s => fettleref08_has.bd8 l r s) (fun i hi => by
    simp only [fettleref08_has.bd8, len_lt, hi, if_true, idx_lt hi, Option.bind_some, w64_at hi hl, decide_eq_true_eq]
    split <;> rfl) (by simp [fettleref08_has.bd8, len])]
  by_cases h : r ∈ l
  · have : l.any (fun x => decide (x = r)) = true := by rw [List.any_eq_true]; exact ⟨r, h, by simp⟩
    rw [if_pos this]; simp [h]
  · have : ¬ l.any (fun x => decide (x = r)) = true := by
      rw [List.any_eq_true]; rintro ⟨x, hx, he⟩
      simp at he; subst he; exact h hx
    rw [if_neg this]; simp [h, fettleref08_has.nx8]
theorem makes8 (B : PBlock) (r : Int) (hl : B.ins.length ≤ 300) : fettleref08_makes B r = some (B.ins.any fun x => decide (x.dst = r)) := by
  unfold fettleref08_makes
  rw [scan_any B.ins (le_max hl (by omega)) (fun x => decide (x.dst = r)) (fun s => fettleref08_makes.bd8 B r s) (fun i hi => by
    simp only [fettleref08_makes.bd8, len_lt, hi, if_true, idx_lt hi, Option.bind_some, w64_i hi (show B.ins.length ≤ 1000 by omega), decide_eq_true_eq]
    split <;> rfl) (by simp [fettleref08_makes.bd8, len])]
  cases B.ins.any (fun x => decide (x.dst = r)) <;> rfl
theorem phi8 (B : PBlock) (r : Int) (hl : B.phis.length ≤ 300) : fettleref08_phi B r = some (B.phis.any fun x => decide (x.dst = r)) := by
  unfold fettleref08_phi
  rw [scan_any B.phis (le_max hl (by omega)) (fun x => decide (x.dst = r)) (fun s => fettleref08_phi.bd8 B r s) (fun i hi => by
    simp only [fettleref08_phi.bd8, len_lt, hi, if_true, idx_lt hi, Option.bind_some, w64_i hi (show B.phis.length ≤ 1000 by omega), decide_eq_true_eq]
    split <;> rfl) (by simp [fettleref08_phi.bd8, len])]
  cases B.phis.any (fun x => decide (x.dst = r)) <;> rfl
theorem uses8 (B : PBlock) (r : Int) (hB : SmB B) : fettleref08_uses B r = some (insF B.ins r (decide (B.term.arg = r))) := by
  obtain ⟨b1, b2, b3, b4, b5⟩ := hB
  unfold fettleref08_uses
  obtain ⟨z, hz, hR⟩ := whl_for (s0 := (0 : Int)) (body := fun (s : Int) => fettleref08_uses.bd8 B r s) B.ins.length (fun i s => s = (i : Int) ∧ insF B.ins r (decide (B.term.arg = r)) = insF (B.ins.drop i) r (decide (B.term.arg = r)))
    (fun z => z = .ret (insF B.ins r (decide (B.term.arg = r))) ∨ (z = .go () ∧ insF B.ins r (decide (B.term.arg = r)) = decide (B.term.arg = r))) (le_max b1 (by omega)) (fun i s hi hI => by
      obtain ⟨rfl, hI⟩ := hI
      rw [List.drop_eq_getElem_cons hi, insF_cons] at hI
      simp only [fettleref08_uses.bd8, len_lt, hi, if_true, idx_lt hi, Option.bind_some, has8 _ r (le_max (b4 _ (List.getElem_mem hi)) (by omega)), w64_i hi (show B.ins.length ≤ 1000 by omega), decide_eq_true_eq]
      by_cases h1 : r ∈ B.ins[i].args
      · rw [if_pos h1] at hI
        rw [if_pos h1, hI]
        exact .inl ⟨_, rfl, .inl rfl⟩
      · rw [if_neg h1] at hI
        rw [if_neg h1]
        by_cases h2 : B.ins[i].dst = r
        · rw [if_pos h2] at hI
          rw [if_pos h2, hI]
          exact .inl ⟨_, rfl, .inl rfl⟩
        · rw [if_neg h2] at hI
          rw [if_neg h2]
          exact .inr ⟨_, rfl, rfl, hI⟩) (fun s hI => by
      obtain ⟨rfl, hI⟩ := hI
      rw [List.drop_of_length_le (Nat.le_refl _)] at hI
      exact ⟨_, by simp [fettleref08_uses.bd8, len], .inr ⟨rfl, hI⟩⟩) ⟨rfl, rfl⟩
  rw [hz]
  rcases hR with rfl | ⟨rfl, h⟩
  · rfl
  · rw [h]; rfl
theorem insF_or (xs : List PInstr) (r : Int) (a e : Bool) : insF xs r (a || e) = (insF xs r a || (e && !(xs.any fun x => decide (x.dst = r)))) := by
  induction xs with
  | nil => simp [insF]
  | cons x xs ih =>
    rw [insF_cons, insF_cons]
    by_cases h1 : r ∈ x.args
    · simp [h1]
    · by_cases h2 : x.dst = r
      · simp [h1, h2]
      · rw [if_neg h1, if_neg h2, if_neg h1, if_neg h2, ih]
        simp [h2]
theorem beg8 (B : PBlock) (r : Int) (e : Bool) : (if (!(B.phis.any fun x => decide (x.dst = r))) = true then (if insF B.ins r (decide (B.term.arg = r)) = true then some true else some (decide (e = true ∧ (!(B.ins.any fun x => decide (x.dst = r))) = true))) else some false) = some (begB B r e) := by
  unfold begB
  by_cases h : (B.phis.any fun x => decide (x.dst = r)) = true
  · rw [if_neg (by simp [h]), if_pos h]
  · rw [if_pos (by simpa using h), if_neg h, insF_or]
    cases insF B.ins r (decide (B.term.arg = r)) <;> cases e <;> cases (B.ins.any fun x => decide (x.dst = r)) <;> rfl
/-! ### Along an edge -/
def AlongP (f : PFunc) (b to : Nat) (t : Int) : Prop := ∃ hto : to < f.blocks.length, ∃ u ∈ usesP f to f.blocks[to], u.2.1 = (b : Int) ∧ u.1 = t
open Classical in
noncomputable def alB (f : PFunc) (b to : Nat) (t : Int) : Bool := decide (AlongP f b to t)
open Classical in
theorem alB_iff {f : PFunc} {b to : Nat} {t : Int} : alB f b to t = true ↔ AlongP f b to t := by unfold alB; rw [decide_eq_true_eq]
theorem along8 (f : PFunc) {m : PModule} (hf : SmF f) (hok : FuncOk m f) (b to : Nat) (hto : to < f.blocks.length) (t : Int) : fettleref08_along f (b : Int) (to : Int) t = some (alB f b to t) := by
  have hn := hf.1
  obtain ⟨b1, b2, b3, b4, b5⟩ := hf.2.2.2 _ (List.getElem_mem hto)
  have hpreds : (preds (nexts f) to).length ≤ 70 := by have := preds_length (nexts f) to; rw [nexts_length] at this; omega
  unfold fettleref08_along
  rw [refAhead_eq f hf to hto]
  simp only [Option.bind_some]
  have hal : alB f b to t = true ↔ ∃ u ∈ usesP f to f.blocks[to], u.2.1 = (b : Int) ∧ u.1 = t := by rw [alB_iff]; exact ⟨fun ⟨_, h⟩ => h, fun h => ⟨hto, h⟩⟩
  rcases scan_or f.blocks[to].phis (le_max b2 (by omega)) (fun p => ∀ u ∈ p.args.zipIdx.map (fun x => (x.1, (preds (nexts f) to).getD x.2 0, ((f.blocks.getD ((preds (nexts f) to).getD x.2 0).toNat PBlock.zero).ins.length : Int))), ¬ (u.2.1 = (b : Int) ∧ u.1 = t)) (fun e : Bool => e = true) (fun s => fettleref08_along.bd10 f (b : Int) (to : Int) t (preds (nexts f) to) s) (fun j hj => by
    have hpm := List.getElem_mem hj
    have hla := hok.ahead to hto _ hpm
    simp only [fettleref08_along.bd10, idx_lt hto, Option.bind_some, len_lt, hj, if_true]
    rw [forall_zipIdx]
    rcases scan_ix (preds (nexts f) to).length (le_max hpreds (by omega)) (fun k => ∀ hk : k < f.blocks[to].phis[j].args.length, ¬ ((preds (nexts f) to).getD k 0 = (b : Int) ∧ f.blocks[to].phis[j].args[k] = t)) (fun e : Bool => e = true) (fun s => fettleref08_along.bd25 f (b : Int) (to : Int) t (preds (nexts f) to) (j : Int) s) (fun k hk => by
      have hka : k < f.blocks[to].phis[j].args.length := by omega
      have hgd : (preds (nexts f) to).getD k 0 = (preds (nexts f) to)[k] := by rw [List.getD_eq_getElem?_getD, List.getElem?_eq_getElem hk]; rfl
      have hbody : fettleref08_along.bd25 f (b : Int) (to : Int) t (preds (nexts f) to) (j : Int) (k : Int) = some (if (preds (nexts f) to)[k] = (b : Int) ∧ f.blocks[to].phis[j].args[k] = t then .ret (.ret true) else .go ((k + 1 : Nat) : Int)) := by
        simp only [fettleref08_along.bd25, len_lt, hk, if_true, idx_lt hk, idx_lt hto, idx_lt hj, idx_lt hka, Option.bind_some, w64_i hk (show (preds (nexts f) to).length ≤ 1000 by omega)]
        by_cases h1 : (preds (nexts f) to)[k] = (b : Int)
        · rw [if_pos h1]
          simp only [Option.bind_some, decide_eq_true_eq, h1, true_and]
          split <;> rfl
        · rw [if_neg h1]
          simp [h1]
      rw [hbody, hgd]
      by_cases hc : (preds (nexts f) to)[k] = (b : Int) ∧ f.blocks[to].phis[j].args[k] = t
      · exact .inl ⟨true, by rw [if_pos hc], rfl, fun h => h hka hc⟩
      · exact .inr ⟨by rw [if_neg hc], fun _ => hc⟩) (by simp [fettleref08_along.bd25, len]) with ⟨e, hw, rfl, hnot⟩ | ⟨hw, hall⟩
    · rw [hw]
      exact .inl ⟨true, rfl, rfl, fun h => hnot fun k hk hka => h k hka⟩
    · rw [hw]
      exact .inr ⟨by simp only [Option.bind_some, fettleref08_along.nx25, w64_i hj (show f.blocks[to].phis.length ≤ 1000 by omega)], fun k hk => hall k (by omega) hk⟩) (by simp [fettleref08_along.bd10, idx_lt hto, len]) with ⟨e, hw, rfl, hnot⟩ | ⟨hw, hall⟩
  · rw [hw]
    have : alB f b to t = true := hal.2 (Classical.byContradiction fun hc => hnot fun p hp u hu hh => hc ⟨u, by unfold usesP; exact List.mem_flatMap.2 ⟨p, hp, hu⟩, hh⟩)
    rw [this]; rfl
  · rw [hw]
    have : alB f b to t = false := by
      cases h : alB f b to t with
      | false => rfl
      | true =>
        obtain ⟨u, hu, hh⟩ := hal.1 h
        unfold usesP at hu
        obtain ⟨p, hp, hu⟩ := List.mem_flatMap.1 hu
        exact absurd hh (hall p hp u hu)
    rw [this]; rfl
/-! ### Rounds -/
noncomputable def stV (f : PFunc) (t : Int) (s : List Bool × List Bool) (b : Nat) : Bool := ((nexts f).getD b []).foldl (fun v (x : Int) => v || (alB f b x.toNat t || s.1.getD x.toNat false)) (s.2.getD b false)
noncomputable def stepL (f : PFunc) (t : Int) (s : List Bool × List Bool) (b : Nat) : List Bool × List Bool := (s.1.set b (begB (f.blocks.getD b PBlock.zero) t (stV f t s b)), s.2.set b (stV f t s b))
noncomputable def roundL (f : PFunc) (t : Int) (s : List Bool × List Bool) : List Bool × List Bool := (List.range f.blocks.length).foldl (stepL f t) s
def Ln (f : PFunc) (s : List Bool × List Bool) : Prop := s.1.length = f.blocks.length ∧ s.2.length = f.blocks.length
theorem bd42_eq (f : PFunc) {m : PModule} (hf : SmF f) (hok : FuncOk m f) (t : Int) (s : List Bool × List Bool) (hs : Ln f s) (b : Nat) (hb : b < f.blocks.length) :
    whl (fun (q : (List Bool × Int)) => fettleref08_Live.bd42 f t s.1 (b : Int) (succs f.blocks.length f.blocks[b].term.to) q.1 q.2) FUEL (s.2, 0) = some (s.2.set b (stV f t s b)) := by
  obtain ⟨hs1, hs2⟩ := hs
  have htl := (hf.2.2.2 _ (List.getElem_mem hb)).2.2.1
  have hll : (succs f.blocks.length f.blocks[b].term.to).length ≤ 70 := by have := foldl_addS_length f.blocks.length f.blocks[b].term.to []; unfold succs; simp at *; omega
  have hnx : (nexts f).getD b [] = succs f.blocks.length f.blocks[b].term.to := nexts_getD f hb
  have hin : ∀ x ∈ succs f.blocks.length f.blocks[b].term.to, 0 ≤ x ∧ x < (f.blocks.length : Int) := succs_in
  unfold stV
  rw [hnx]
  generalize succs f.blocks.length f.blocks[b].term.to = l at *
  have hb2 : b < s.2.length := by omega
  have hrun := whl_run (body := fun (q : (List Bool × Int)) => fettleref08_Live.bd42 f t s.1 (b : Int) l q.1 q.2) (r := s.2.set b (l.foldl (fun v (x : Int) => v || (alB f b x.toNat t || s.1.getD x.toNat false)) (s.2.getD b false))) l.length FUEL
    (fun k => (s.2.set b ((l.take k).foldl (fun v (x : Int) => v || (alB f b x.toNat t || s.1.getD x.toNat false)) (s.2.getD b false)), (k : Int))) (fun k hk => by
      have hx := hin _ (List.getElem_mem hk)
      obtain ⟨x, hxx⟩ : ∃ x : Nat, l[k] = x := ⟨(l[k]).toNat, by omega⟩
      have hxn : x < f.blocks.length := by omega
      rw [foldl_take _ _ l hk, hxx, Int.toNat_natCast]
      generalize (l.take k).foldl (fun v (x : Int) => v || (alB f b x.toNat t || s.1.getD x.toNat false)) (s.2.getD b false) = v
      have hbs : b < (s.2.set b v).length := by simpa using hb2
      have hx1 : x < s.1.length := by omega
      have hg1 : s.1.getD x false = s.1[x] := by rw [List.getD_eq_getElem?_getD, List.getElem?_eq_getElem hx1]; rfl
      simp only [fettleref08_Live.bd42, len_lt, hk, if_true, idx_lt hk, hxx, Option.bind_some, along8 f hf hok b x hxn t, idx_lt hbs, List.getElem_set_self, idx_lt hx1, Int.toNat_natCast, w64_i hk (show l.length ≤ 1000 by omega), hg1]
      cases v <;> cases alB f b x t <;> cases s.1[x] <;> simp) (by simp [fettleref08_Live.bd42, len]) (lt_FUEL (le_max hll (by omega)))
  simp only [List.take_zero, List.foldl_nil] at hrun
  have h0 : s.2.set b (s.2.getD b false) = s.2 := by
    rw [List.getD_eq_getElem?_getD, List.getElem?_eq_getElem hb2]; simp
  rw [h0] at hrun
  exact hrun
theorem bd24_eq (f : PFunc) {m : PModule} (hf : SmF f) (hok : FuncOk m f) (t : Int) (s : List Bool × List Bool) (hs : Ln f s) (b : Nat) (hb : b < f.blocks.length) :
    fettleref08_Live.bd24 f t s.1 s.2 (b : Int) = some (.go ((stepL f t s b).1, (stepL f t s b).2, ((b + 1 : Nat) : Int))) := by
  have hn := hf.1
  have hB := hf.2.2.2 _ (List.getElem_mem hb)
  have hgd : f.blocks.getD b PBlock.zero = f.blocks[b] := by rw [List.getD_eq_getElem?_getD, List.getElem?_eq_getElem hb]; rfl
  have h1 : b < s.1.length := by have := hs.1; omega
  have h2 : b < (s.2.set b (stV f t s b)).length := by have := hs.2; simpa using (by omega)
  simp only [fettleref08_Live.bd24, len_lt, hb, if_true, refNext_eq f b hb (le_max hn (by omega)) hB.2.2.1, Option.bind_some, bd42_eq f hf hok t s hs b hb, fettleref08_Live.nx42, idx_lt hb, uses8 _ t hB, makes8 _ t hB.1, phi8 _ t hB.2.1, idx_lt h2, List.getElem_set_self, idx_lt h1, Int.toNat_natCast, w64_i hb (show f.blocks.length ≤ 1000 by omega)]
  have hbg := beg8 f.blocks[b] t (stV f t s b)
  have hfix : ∀ (x : Option Bool), (x.bind fun t99 => some t99) = x := fun x => by cases x <;> rfl
  simp only [hfix, hbg, Option.bind_some, stepL, hgd]
theorem stepL_ln {f : PFunc} {t : Int} {s : List Bool × List Bool} (hs : Ln f s) (b : Nat) : Ln f (stepL f t s b) := ⟨by simp [stepL, hs.1], by simp [stepL, hs.2]⟩
theorem round8 (f : PFunc) {m : PModule} (hf : SmF f) (hok : FuncOk m f) (t : Int) (s : List Bool × List Bool) (hs : Ln f s) :
    whl (fun (q : (List Bool × List Bool × Int)) => fettleref08_Live.bd24 f t q.1 q.2.1 q.2.2) FUEL (s.1, s.2, 0) = some (roundL f t s) ∧ Ln f (roundL f t s) := by
  have hn := hf.1
  have := whl_foldS (List.range f.blocks.length) (stepL f t) (Ln f) (fun s k => (s.1, s.2, k)) (fun s => s) s hs (body := fun (q : (List Bool × List Bool × Int)) => fettleref08_Live.bd24 f t q.1 q.2.1 q.2.2) (by simp; omega) (fun b hb s hs => by
    have hb : b < f.blocks.length := by simpa using hb
    simp only [List.getElem_range]
    exact ⟨bd24_eq f hf hok t s hs b hb, stepL_ln hs b⟩) (fun s hs => by simp [fettleref08_Live.bd24, len])
  exact this
noncomputable def liveR (f : PFunc) (t : Int) : List Bool × List Bool := (List.range (2 * f.blocks.length + 1)).foldl (fun s _ => roundL f t s) (List.replicate f.blocks.length false, List.replicate f.blocks.length false)
theorem live8 (f : PFunc) {m : PModule} (hf : SmF f) (hok : FuncOk m f) (t : Int) : fettleref08_Live f t = some (liveR f t) := by
  have hn := hf.1
  unfold fettleref08_Live
  simp only [len, mkl_rep false hn, Option.bind_some]
  have hw2 : w64 (2 * (f.blocks.length : Int)) = ((2 * f.blocks.length : Nat) : Int) := by rw [w64_id ⟨by omega, by omega⟩]; omega
  have := whl_foldS (List.range (2 * f.blocks.length + 1)) (fun s _ => roundL f t s) (Ln f) (fun s k => (s.1, s.2, k)) (fun s => s) (List.replicate f.blocks.length false, List.replicate f.blocks.length false) ⟨by simp, by simp⟩ (body := fun (q : (List Bool × List Bool × Int)) => fettleref08_Live.bd10 f t q.1 q.2.1 q.2.2) (by simp; omega) (fun k hk s hs => by
    have hk : k < 2 * f.blocks.length + 1 := by simpa using hk
    obtain ⟨h1, h2⟩ := round8 f hf hok t s hs
    refine ⟨?_, h2⟩
    simp only [fettleref08_Live.bd10, len, hw2]
    rw [if_pos (by omega), h1]
    simp only [Option.bind_some, fettleref08_Live.nx24, w64_i hk (show 2 * f.blocks.length + 1 ≤ 1000 by omega)]) (fun s hs => by
    simp only [fettleref08_Live.bd10, len, hw2, List.length_range]
    rw [if_neg (by omega)])
  have h1 := this.1
  simp only at h1
  rw [h1]; rfl
/-! ### What rounds come to -/
variable {f : PFunc} {t : Nat}
theorem stV_iff {s : List Bool × List Bool} {b : Nat} : stV f (t : Int) s b = true ↔ s.2.getD b false = true ∨ ∃ x ∈ (nexts f).getD b [], alB f b x.toNat (t : Int) = true ∨ s.1.getD x.toNat false = true := by
  unfold stV
  generalize (nexts f).getD b [] = l
  generalize s.2.getD b false = e
  induction l generalizing e with
  | nil => simp
  | cons x l ih =>
    rw [List.foldl_cons, ih]
    simp only [Bool.or_eq_true, List.mem_cons, exists_eq_or_imp, or_assoc]
theorem sn_getD {s : List Bool} {b : Nat} : sn s b ↔ s.getD b false = true := by
  unfold sn
  rw [List.getD_eq_getElem?_getD]
  cases s[b]? with
  | none => simp
  | some v => simp
def SubL (f : PFunc) (t : Nat) (s : List Bool × List Bool) : Prop := ∀ b, b < f.blocks.length → sn s.1 b → begB (f.blocks.getD b PBlock.zero) (t : Int) (s.2.getD b false) = true
structure Grow (f : PFunc) (t : Nat) (s s' : List Bool × List Bool) : Prop where
  ln : Ln f s'
  sub : SubL f t s'
  in_ : ∀ v, sn s.1 v → sn s'.1 v
  end_ : ∀ v, sn s.2 v → sn s'.2 v
  sound : ∀ I E, Clo f t I E → (∀ v, sn s.1 v → I v) → (∀ v, sn s.2 v → E v) → (∀ v, sn s'.1 v → I v) ∧ ∀ v, sn s'.2 v → E v
theorem Grow.trans {a b c : List Bool × List Bool} (h : Grow f t a b) (k : Grow f t b c) : Grow f t a c :=
  ⟨k.ln, k.sub, fun v hv => k.in_ v (h.in_ v hv), fun v hv => k.end_ v (h.end_ v hv), fun I E hC h1 h2 => by
    obtain ⟨g1, g2⟩ := h.sound I E hC h1 h2
    exact k.sound I E hC g1 g2⟩
theorem Grow.refl {s : List Bool × List Bool} (h : Ln f s) (h2 : SubL f t s) : Grow f t s s := ⟨h, h2, fun _ h => h, fun _ h => h, fun _ _ _ h1 h2 => ⟨h1, h2⟩⟩
theorem getD_set_self {s : List Bool} {b : Nat} {v : Bool} (h : b < s.length) : (s.set b v).getD b false = v := by rw [List.getD_eq_getElem?_getD, List.getElem?_set_self h]; rfl
theorem getD_set_ne {s : List Bool} {b c : Nat} {v : Bool} (h : b ≠ c) : (s.set b v).getD c false = s.getD c false := by rw [List.getD_eq_getElem?_getD, List.getElem?_set_ne h, List.getD_eq_getElem?_getD]
theorem stepL_grow {s : List Bool × List Bool} (hl : Ln f s) (hs : SubL f t s) {b : Nat} (hb : b < f.blocks.length) : Grow f t s (stepL f (t : Int) s b) ∧
    (∀ x ∈ (nexts f).getD b [], alB f b x.toNat (t : Int) = true ∨ sn s.1 x.toNat → sn (stepL f (t : Int) s b).2 b) ∧ (begB (f.blocks.getD b PBlock.zero) (t : Int) (s.2.getD b false) = true → sn (stepL f (t : Int) s b).1 b) := by
  have h1 : b < s.1.length := by have := hl.1; omega
  have h2 : b < s.2.length := by have := hl.2; omega
  have hgd : f.blocks.getD b PBlock.zero = f.blocks[b] := by rw [List.getD_eq_getElem?_getD, List.getElem?_eq_getElem hb]; rfl
  have hmono : s.2.getD b false = true → stV f (t : Int) s b = true := fun h => stV_iff.2 (.inl h)
  have hin : ∀ v, sn (stepL f (t : Int) s b).1 v ↔ if v = b then begB (f.blocks.getD b PBlock.zero) (t : Int) (stV f (t : Int) s b) = true else sn s.1 v := fun v => by
    rw [sn_getD]
    by_cases e : v = b
    · subst e; rw [if_pos rfl]; simp only [stepL]; rw [getD_set_self h1]
    · rw [if_neg e, sn_getD]; simp only [stepL]; rw [getD_set_ne (Ne.symm e)]
  have hen : ∀ v, sn (stepL f (t : Int) s b).2 v ↔ if v = b then stV f (t : Int) s b = true else sn s.2 v := fun v => by
    rw [sn_getD]
    by_cases e : v = b
    · subst e; rw [if_pos rfl]; simp only [stepL]; rw [getD_set_self h2]
    · rw [if_neg e, sn_getD]; simp only [stepL]; rw [getD_set_ne (Ne.symm e)]
  refine ⟨⟨stepL_ln hl b, fun c hc hsn => ?_, fun v hv => ?_, fun v hv => ?_, fun I E hC hI hE => ?_⟩, fun x hx h => ?_, fun h => ?_⟩
  · by_cases e : c = b
    · subst e
      have := (hin c).1 hsn
      rw [if_pos rfl] at this
      simp only [stepL]
      rw [getD_set_self h2]; exact this
    · have := (hin c).1 hsn
      rw [if_neg e] at this
      simp only [stepL]
      rw [getD_set_ne (Ne.symm e)]
      exact hs c hc this
  · rw [hin]
    split
    · rename_i e; subst e
      exact begB_mono _ _ hmono (hs v hb hv)
    · exact hv
  · rw [hen]
    split
    · rename_i e; subst e
      exact hmono (sn_getD.1 hv)
    · exact hv
  · have hV : stV f (t : Int) s b = true → E b := fun hv => by
      rcases stV_iff.1 hv with h | ⟨x, hx, h⟩
      · exact hE b (sn_getD.2 h)
      · rw [nexts_getD f hb] at hx
        have hxr := succs_in x hx
        rcases h with h | h
        · obtain ⟨hto, u, hu, hu1, hu2⟩ := alB_iff.1 h
          have := hC.phi x.toNat hto u hu hu2
          rw [hu1] at this
          simpa using this
        · exact hC.next b hb x.toNat (by rw [Int.toNat_of_nonneg hxr.1]; exact hx) (hI _ (sn_getD.2 h))
    refine ⟨fun v hv => ?_, fun v hv => ?_⟩
    · rw [hin] at hv
      split at hv
      · rename_i e; subst e
        rw [hgd] at hv
        exact hC.beg v hb _ hV hv
      · exact hI v hv
    · rw [hen] at hv
      split at hv
      · rename_i e; subst e; exact hV hv
      · exact hE v hv
  · rw [hen, if_pos rfl]
    exact stV_iff.2 (.inr ⟨x, hx, h.imp id sn_getD.1⟩)
  · rw [hin, if_pos rfl]
    exact begB_mono _ _ hmono h
theorem roundL_grow {s : List Bool × List Bool} (hl : Ln f s) (hs : SubL f t s) : Grow f t s (roundL f (t : Int) s) ∧ ∀ b, b < f.blocks.length →
    (∀ x ∈ (nexts f).getD b [], alB f b x.toNat (t : Int) = true ∨ sn s.1 x.toNat → sn (roundL f (t : Int) s).2 b) ∧ (begB (f.blocks.getD b PBlock.zero) (t : Int) (s.2.getD b false) = true → sn (roundL f (t : Int) s).1 b) := by
  have key : ∀ k, k ≤ f.blocks.length → Grow f t s ((List.range k).foldl (stepL f (t : Int)) s) ∧ ∀ b, b < k →
      (∀ x ∈ (nexts f).getD b [], alB f b x.toNat (t : Int) = true ∨ sn s.1 x.toNat → sn ((List.range k).foldl (stepL f (t : Int)) s).2 b) ∧ (begB (f.blocks.getD b PBlock.zero) (t : Int) (s.2.getD b false) = true → sn ((List.range k).foldl (stepL f (t : Int)) s).1 b) := by
    intro k
    induction k with
    | zero => intro _; exact ⟨by simpa using Grow.refl hl hs, fun b hb => by omega⟩
    | succ k ih =>
      intro hk
      obtain ⟨g, hp⟩ := ih (by omega)
      rw [List.range_succ, List.foldl_append, List.foldl_cons, List.foldl_nil]
      obtain ⟨g2, hp2, hp3⟩ := stepL_grow g.ln g.sub (show k < f.blocks.length by omega)
      refine ⟨g.trans g2, fun b hb => ?_⟩
      by_cases e : b < k
      · obtain ⟨q1, q2⟩ := hp b e
        exact ⟨fun x hx h => g2.end_ b (q1 x hx h), fun h => g2.in_ b (q2 h)⟩
      · obtain rfl : b = k := by omega
        refine ⟨fun x hx h => hp2 x hx (h.imp id (g.in_ _)), fun h => hp3 (begB_mono _ _ (fun k => ?_) h)⟩
        exact sn_getD.1 (g.end_ _ (sn_getD.2 k))
  exact key _ (Nat.le_refl _)
theorem clo_of (hf : SmF f) {m : PModule} (hok : FuncOk m f) {s : List Bool × List Bool} (h : ∀ b, b < f.blocks.length →
    (∀ x ∈ (nexts f).getD b [], alB f b x.toNat (t : Int) = true ∨ sn s.1 x.toNat → sn s.2 b) ∧ (begB (f.blocks.getD b PBlock.zero) (t : Int) (s.2.getD b false) = true → sn s.1 b)) : Clo f t (sn s.1) (sn s.2) := by
  refine ⟨fun i hi u hu he => ?_, fun b hb x hx hxI => ?_, fun b hb e he hbg => ?_⟩
  · have hin := usesP_in hok hi u hu
    have hb : u.2.1.toNat < f.blocks.length := by omega
    refine (h _ hb).1 (i : Int) ?_ (.inl (alB_iff.2 ⟨by simpa using hi, u, ?_, by omega, he⟩))
    · unfold usesP at hu
      obtain ⟨p, hp, hu⟩ := List.mem_flatMap.1 hu
      obtain ⟨⟨a, j⟩, hx, rfl⟩ := List.mem_map.1 hu
      have hj : j < p.args.length := by simpa using List.snd_lt_of_mem_zipIdx hx
      have hl := hok.ahead i hi p hp
      have hj2 : j < (preds (nexts f) i).length := by omega
      have hgd : (preds (nexts f) i).getD j 0 = (preds (nexts f) i)[j] := by rw [List.getD_eq_getElem?_getD, List.getElem?_eq_getElem hj2]; rfl
      obtain ⟨c, hc1, hc2, hc3⟩ := (mem_preds _ _ _).1 (List.getElem_mem hj2)
      simp only [hgd, hc1, Int.toNat_natCast]
      exact hc3
    · simpa using hu
  · refine (h b hb).1 (x : Int) (by rw [nexts_getD f hb]; exact hx) (.inr (by simpa using hxI))
  · refine (h b hb).2 (begB_mono _ _ (fun k => sn_getD.1 (he k)) ?_)
    have hgd : f.blocks.getD b PBlock.zero = f.blocks[b] := by rw [List.getD_eq_getElem?_getD, List.getElem?_eq_getElem hb]; rfl
    rw [hgd]; exact hbg
theorem cnt_le2 {s s' : List Bool} (hl : s.length = s'.length) (h : ∀ v, sn s v → sn s' v) : cnt s' ≤ cnt s := cnt_mono s s' hl h
theorem liveR_lv (hf : SmF f) {m : PModule} (hok : FuncOk m f) : Ln f (liveR f (t : Int)) ∧ (∀ I E, Clo f t I E → (∀ v, sn (liveR f (t : Int)).1 v → I v) ∧ ∀ v, sn (liveR f (t : Int)).2 v → E v) ∧ Clo f t (sn (liveR f (t : Int)).1) (sn (liveR f (t : Int)).2) := by
  have hrep : ∀ v, ¬ sn (List.replicate f.blocks.length false) v := fun v h => by
    unfold sn at h; rw [List.getElem?_replicate] at h; split at h <;> simp at h
  have h0 : Ln f (List.replicate f.blocks.length false, List.replicate f.blocks.length false) := ⟨by simp, by simp⟩
  have h1 : SubL f t (List.replicate f.blocks.length false, List.replicate f.blocks.length false) := fun b _ h => absurd h (hrep b)
  have key : ∀ k, Grow f t (List.replicate f.blocks.length false, List.replicate f.blocks.length false) ((List.range k).foldl (fun s _ => roundL f (t : Int) s) (List.replicate f.blocks.length false, List.replicate f.blocks.length false)) ∧
      (Clo f t (sn ((List.range k).foldl (fun s _ => roundL f (t : Int) s) (List.replicate f.blocks.length false, List.replicate f.blocks.length false)).1) (sn ((List.range k).foldl (fun s _ => roundL f (t : Int) s) (List.replicate f.blocks.length false, List.replicate f.blocks.length false)).2) ∨
        cnt ((List.range k).foldl (fun s _ => roundL f (t : Int) s) (List.replicate f.blocks.length false, List.replicate f.blocks.length false)).1 + cnt ((List.range k).foldl (fun s _ => roundL f (t : Int) s) (List.replicate f.blocks.length false, List.replicate f.blocks.length false)).2 + k ≤ 2 * f.blocks.length) := by
    intro k
    induction k with
    | zero => exact ⟨by simpa using Grow.refl h0 h1, .inr (by simp [cnt]; omega)⟩
    | succ k ih =>
      rw [List.range_succ, List.foldl_append, List.foldl_cons, List.foldl_nil]
      generalize (List.range k).foldl (fun s _ => roundL f (t : Int) s) (List.replicate f.blocks.length false, List.replicate f.blocks.length false) = s at *
      obtain ⟨g, hc⟩ := ih
      obtain ⟨g2, hp⟩ := roundL_grow g.ln g.sub
      refine ⟨g.trans g2, ?_⟩
      by_cases hcl : Clo f t (sn s.1) (sn s.2)
      · left
        obtain ⟨b1, b2⟩ := g2.sound _ _ hcl (fun _ h => h) (fun _ h => h)
        have e1 : sn (roundL f (t : Int) s).1 = sn s.1 := funext fun v => propext ⟨b1 v, g2.in_ v⟩
        have e2 : sn (roundL f (t : Int) s).2 = sn s.2 := funext fun v => propext ⟨b2 v, g2.end_ v⟩
        rw [e1, e2]; exact hcl
      · right
        have hc := hc.resolve_left hcl
        have l1 : s.1.length = (roundL f (t : Int) s).1.length := by rw [g.ln.1, g2.ln.1]
        have l2 : s.2.length = (roundL f (t : Int) s).2.length := by rw [g.ln.2, g2.ln.2]
        have c1 := cnt_le2 l1 g2.in_
        have c2 := cnt_le2 l2 g2.end_
        have hne : (∃ v, sn (roundL f (t : Int) s).1 v ∧ ¬ sn s.1 v) ∨ ∃ v, sn (roundL f (t : Int) s).2 v ∧ ¬ sn s.2 v := Classical.byContradiction fun hno => hcl (clo_of hf hok fun b hb => by
          obtain ⟨p1, p2⟩ := hp b hb
          exact ⟨fun x hx h => Classical.byContradiction fun hc => hno (.inr ⟨b, p1 x hx h, hc⟩), fun h => Classical.byContradiction fun hc => hno (.inl ⟨b, p2 h, hc⟩)⟩)
        rcases hne with ⟨v, v1, v2⟩ | ⟨v, v1, v2⟩
        · have := cnt_less l1 g2.in_ v1 v2; omega
        · have := cnt_less l2 g2.end_ v1 v2; omega
  obtain ⟨g, hc⟩ := key (2 * f.blocks.length + 1)
  refine ⟨g.ln, fun I E hC => g.sound I E hC (fun v h => absurd h (hrep v)) (fun v h => absurd h (hrep v)), ?_⟩
  rcases hc with hc | hc
  · exact hc
  · omega
end Go.Proofs.YteaknconpkklhaaDoor
set_option linter.unusedVariables false
set_option linter.unusedSimpArgs false
namespace Go.Proofs.YteaknconpkklhaaDoor
open Go Go.Proofs
/-! ### Names -/
def cstep (r : Int) (c : Int) (a : Int) : Int := if a = r then w64 (c + 1) else c
def namesB (B : PBlock) : List Int := (B.phis.flatMap fun p => p.args) ++ (B.ins.flatMap fun x => x.args) ++ (if B.term.arg ≥ 0 then [B.term.arg] else [])
def names (f : PFunc) : List Int := f.blocks.flatMap namesB
def addN (T : List Int) (a : Int) : List Int := T.set a.toNat (w64 (T.getD a.toNat 0 + 1))
theorem addN_idx {T : List Int} {a : Int} (h0 : 0 ≤ a) (h1 : a < (T.length : Int)) : ∃ y, idx T a = some y ∧ addN T a = T.set a.toNat (w64 (y + 1)) := by
  obtain ⟨y, y1, y2⟩ := idx_in (xs := T) h0 h1
  refine ⟨y, y1, ?_⟩
  unfold addN
  rw [List.getD_eq_getElem?_getD, y2]; rfl
theorem count_args (n : Nat) (l : List Int) (hl : l.length ≤ 300) (h : ∀ a ∈ l, 0 ≤ a ∧ a < (n : Int)) (T : List Int) (hT : T.length = n) (body : List Int × Int → Option (Ex (List Int) (List Int × Int)))
    (hb : ∀ k (hk : k < l.length) T y, idx T l[k] = some y → body (T, (k : Int)) = some (.go (T.set (l[k]).toNat (w64 (y + 1)), ((k + 1 : Nat) : Int)))) (he : ∀ T, body (T, (l.length : Int)) = some (.ret T)) :
    whl body FUEL (T, 0) = some (l.foldl addN T) ∧ (l.foldl addN T).length = n :=
  whl_foldI l addN (fun T => T.length = n) T hT (body := body) (by omega) (fun k hk T hT => by
    obtain ⟨h0, h1⟩ := h _ (List.getElem_mem hk)
    obtain ⟨y, y1, y2⟩ := addN_idx (T := T) h0 (by rw [hT]; exact h1)
    rw [hb k hk T y y1, y2]
    exact ⟨rfl, by rw [List.length_set]; exact hT⟩) (fun T _ => he T)
theorem count_eq (f : PFunc) {m : PModule} (hf : SmF f) (hok : FuncOk m f) (T : List Int) (hT : T.length = f.regs.length) :
    whl (fun (s : (List Int × Int)) => live_Count.bd15 f s.1 s.2) FUEL (T, 0) = some ((names f).foldl addN T) ∧ ((names f).foldl addN T).length = f.regs.length := by
  have hn := hf.1
  have key := whl_foldI f.blocks (fun T B => (namesB B).foldl addN T) (fun T => T.length = f.regs.length) T hT (body := fun (s : (List Int × Int)) => live_Count.bd15 f s.1 s.2) (by omega) (fun i hi T hT => by
    obtain ⟨b1, b2, b3, b4, b5⟩ := hf.2.2.2 _ (List.getElem_mem hi)
    have hR := BlockOk_regs (hok.blocks _ (List.getElem_mem hi))
    have hp := whl_foldI f.blocks[i].phis (fun T p => p.args.foldl addN T) (fun T => T.length = f.regs.length) T hT (body := fun (s : (List Int × Int)) => live_Count.bd34 f.blocks[i] s.1 s.2) (by omega) (fun k hk T hT => by
      have hpm := List.getElem_mem hk
      have ha := count_args f.regs.length f.blocks[i].phis[k].args (b5 _ hpm) (hR.pargs _ hpm) T hT (fun (s : (List Int × Int)) => live_Count.bd90 f.blocks[i].phis[k] s.1 s.2) (fun j hj T y hy => by
        simp only [live_Count.bd90, len_lt, hj, if_true, idx_lt hj, Option.bind_some, hy, w64_i hj (show f.blocks[i].phis[k].args.length ≤ 1000 by have := b5 _ hpm; omega)]) (fun T => by simp [live_Count.bd90, len])
      refine ⟨?_, ha.2⟩
      simp only [live_Count.bd34, len_lt, hk, if_true, idx_lt hk, Option.bind_some, ha.1, live_Count.nx90, w64_i hk (show f.blocks[i].phis.length ≤ 1000 by omega)]) (fun T _ => by simp [live_Count.bd34, len])
    have hq := whl_foldI f.blocks[i].ins (fun T p => p.args.foldl addN T) (fun T => T.length = f.regs.length) _ hp.2 (body := fun (s : (List Int × Int)) => live_Count.bd43 f.blocks[i] s.1 s.2) (by omega) (fun k hk T hT => by
      have hpm := List.getElem_mem hk
      have ha := count_args f.regs.length f.blocks[i].ins[k].args (b4 _ hpm) (hR.args _ hpm) T hT (fun (s : (List Int × Int)) => live_Count.bd61 f.blocks[i].ins[k] s.1 s.2) (fun j hj T y hy => by
        simp only [live_Count.bd61, len_lt, hj, if_true, idx_lt hj, Option.bind_some, hy, w64_i hj (show f.blocks[i].ins[k].args.length ≤ 1000 by have := b4 _ hpm; omega)]) (fun T => by simp [live_Count.bd61, len])
      refine ⟨?_, ha.2⟩
      simp only [live_Count.bd43, len_lt, hk, if_true, idx_lt hk, Option.bind_some, ha.1, live_Count.nx61, w64_i hk (show f.blocks[i].ins.length ≤ 1000 by omega)]) (fun T _ => by simp [live_Count.bd43, len])
    have hw := w64_i hi (show f.blocks.length ≤ 1000 by omega)
    have hbody : live_Count.bd15 f T (i : Int) = live_Count.nx43 (i : Int) f.blocks[i] (f.blocks[i].ins.foldl (fun T p => p.args.foldl addN T) (f.blocks[i].phis.foldl (fun T p => p.args.foldl addN T) T)) := by
      simp only [live_Count.bd15, len_lt, hi, if_true, idx_lt hi, Option.bind_some, hp.1, live_Count.nx34, hq.1]
    have hnb : (namesB f.blocks[i]).foldl addN T = (if f.blocks[i].term.arg ≥ 0 then [f.blocks[i].term.arg] else []).foldl addN (f.blocks[i].ins.foldl (fun T p => p.args.foldl addN T) (f.blocks[i].phis.foldl (fun T p => p.args.foldl addN T) T)) := by
      unfold namesB
      rw [List.foldl_append, List.foldl_append, List.foldl_flatMap, List.foldl_flatMap]
    rw [hbody, hnb]
    have hlen := hq.2
    generalize f.blocks[i].ins.foldl (fun T p => p.args.foldl addN T) (f.blocks[i].phis.foldl (fun T p => p.args.foldl addN T) T) = U at *
    unfold live_Count.nx43
    by_cases ht : f.blocks[i].term.arg ≥ 0
    · obtain ⟨y, y1, y2⟩ := addN_idx (T := U) ht (by rw [hlen]; exact hR.arg)
      simp only [if_pos ht, y1, Option.bind_some, live_Count.jn25, hw, List.foldl_cons, List.foldl_nil, y2]
      exact ⟨trivial, by rw [List.length_set]; exact hlen⟩
    · simp only [if_neg ht, live_Count.jn25, hw, List.foldl_nil]
      exact ⟨trivial, hlen⟩) (fun T _ => by simp [live_Count.bd15, len])
  have hfl : (names f).foldl addN T = f.blocks.foldl (fun T B => (namesB B).foldl addN T) T := by unfold names; rw [List.foldl_flatMap]
  rw [hfl]; exact key
theorem addN_get (n : Nat) : ∀ (L : List Int) (T : List Int), T.length = n → (∀ a ∈ L, 0 ≤ a ∧ a < (n : Int)) → ∀ r : Nat, r < n → (L.foldl addN T).getD r 0 = L.foldl (cstep (r : Int)) (T.getD r 0)
  | [], T, _, _, r, _ => rfl
  | a :: L, T, hT, h, r, hr => by
    obtain ⟨h0, h1⟩ := h a List.mem_cons_self
    rw [List.foldl_cons, List.foldl_cons, addN_get n L (addN T a) (by simp [addN, hT]) (fun b hb => h b (List.mem_cons_of_mem _ hb)) r hr]
    congr 1
    unfold addN cstep
    by_cases e : a = (r : Int)
    · rw [if_pos e, e, Int.toNat_natCast, List.getD_eq_getElem?_getD, List.getElem?_set_self (by omega)]; rfl
    · rw [if_neg e, List.getD_eq_getElem?_getD, List.getElem?_set_ne (by omega), List.getD_eq_getElem?_getD]
theorem names_in (f : PFunc) {m : PModule} (hok : FuncOk m f) : ∀ a ∈ names f, 0 ≤ a ∧ a < (f.regs.length : Int) := fun a ha => by
  unfold names at ha
  obtain ⟨B, hB, ha⟩ := List.mem_flatMap.1 ha
  have hR := BlockOk_regs (hok.blocks _ hB)
  unfold namesB at ha
  rw [List.mem_append, List.mem_append] at ha
  rcases ha with (ha | ha) | ha
  · obtain ⟨p, hp, ha⟩ := List.mem_flatMap.1 ha; exact hR.pargs p hp a ha
  · obtain ⟨p, hp, ha⟩ := List.mem_flatMap.1 ha; exact hR.args p hp a ha
  · split at ha
    · have : a = B.term.arg := by simpa using ha
      subst this; exact ⟨by assumption, hR.arg⟩
    · simp at ha
theorem cstep_if (r c a : Int) {ρ σ : Type} (k : Int → σ) : (if a = r then (some (.go (k (w64 (c + 1)))) : Option (Ex ρ σ)) else some (.go (k c))) = some (.go (k (cstep r c a))) := by
  unfold cstep; split <;> rfl
theorem count8 (f : PFunc) (hf : SmF f) (r : Int) (hr : 0 ≤ r) : fettleref08_Count f r = some ((names f).foldl (cstep r) 0) := by
  have hn := hf.1
  unfold fettleref08_Count
  have key := whl_fold f.blocks (fun c B => (namesB B).foldl (cstep r) c) 0 (body := fun (s : (Int × Int)) => fettleref08_Count.bd8 f r s.1 s.2) (by omega) (fun i hi c => by
    obtain ⟨b1, b2, b3, b4, b5⟩ := hf.2.2.2 _ (List.getElem_mem hi)
    have hw := w64_i hi (show f.blocks.length ≤ 1000 by omega)
    have hp := whl_fold f.blocks[i].phis (fun c p => p.args.foldl (cstep r) c) c (body := fun (s : (Int × Int)) => fettleref08_Count.bd26 f r (i : Int) s.1 s.2) (by omega) (fun k hk c => by
      have h5 := b5 _ (List.getElem_mem hk)
      have ha := whl_fold f.blocks[i].phis[k].args (cstep r) c (body := fun (s : (Int × Int)) => fettleref08_Count.bd86 f r (i : Int) (k : Int) s.1 s.2) (by omega) (fun j hj c => by
        simp only [fettleref08_Count.bd86, idx_lt hi, idx_lt hk, Option.bind_some, len_lt, hj, if_true, idx_lt hj, fettleref08_Count.jn98, w64_i hj (show f.blocks[i].phis[k].args.length ≤ 1000 by omega)]
        exact cstep_if r c _ (fun c => (c, ((j + 1 : Nat) : Int)))) (fun c => by simp [fettleref08_Count.bd86, idx_lt hi, idx_lt hk, len])
      simp only [fettleref08_Count.bd26, idx_lt hi, Option.bind_some, len_lt, hk, if_true, ha, fettleref08_Count.nx86, w64_i hk (show f.blocks[i].phis.length ≤ 1000 by omega)]) (fun c => by simp [fettleref08_Count.bd26, idx_lt hi, len])
    simp only [fettleref08_Count.bd8, len_lt, hi, if_true, hp, Option.bind_some, fettleref08_Count.nx26]
    have hq := whl_fold f.blocks[i].ins (fun c p => p.args.foldl (cstep r) c) (f.blocks[i].phis.foldl (fun c p => p.args.foldl (cstep r) c) c) (body := fun (s : (Int × Int)) => fettleref08_Count.bd35 f r (i : Int) s.1 s.2) (by omega) (fun k hk c => by
      have h4 := b4 _ (List.getElem_mem hk)
      have ha := whl_fold f.blocks[i].ins[k].args (cstep r) c (body := fun (s : (Int × Int)) => fettleref08_Count.bd52 f r (i : Int) (k : Int) s.1 s.2) (by omega) (fun j hj c => by
        simp only [fettleref08_Count.bd52, idx_lt hi, idx_lt hk, Option.bind_some, len_lt, hj, if_true, idx_lt hj, fettleref08_Count.jn64, w64_i hj (show f.blocks[i].ins[k].args.length ≤ 1000 by omega)]
        exact cstep_if r c _ (fun c => (c, ((j + 1 : Nat) : Int)))) (fun c => by simp [fettleref08_Count.bd52, idx_lt hi, idx_lt hk, len])
      simp only [fettleref08_Count.bd35, idx_lt hi, Option.bind_some, len_lt, hk, if_true, ha, fettleref08_Count.nx52, w64_i hk (show f.blocks[i].ins.length ≤ 1000 by omega)]) (fun c => by simp [fettleref08_Count.bd35, idx_lt hi, len])
    rw [hq]
    have hnb : (namesB f.blocks[i]).foldl (cstep r) c = (if f.blocks[i].term.arg ≥ 0 then [f.blocks[i].term.arg] else []).foldl (cstep r) (f.blocks[i].ins.foldl (fun c p => p.args.foldl (cstep r) c) (f.blocks[i].phis.foldl (fun c p => p.args.foldl (cstep r) c) c)) := by
      unfold namesB
      rw [List.foldl_append, List.foldl_append, List.foldl_flatMap, List.foldl_flatMap]
    rw [hnb]
    simp only [Option.bind_some, fettleref08_Count.nx35, idx_lt hi, fettleref08_Count.jn18, hw]
    rw [cstep_if r _ _ (fun c => (c, ((i + 1 : Nat) : Int)))]
    by_cases ht : f.blocks[i].term.arg ≥ 0
    · rw [if_pos ht]; rfl
    · rw [if_neg ht]
      unfold cstep
      rw [if_neg (by omega)]; rfl) (fun c => by simp [fettleref08_Count.bd8, len])
  rw [key]
  have hfl : (names f).foldl (cstep r) 0 = f.blocks.foldl (fun c B => (namesB B).foldl (cstep r) c) 0 := by unfold names; rw [List.foldl_flatMap]
  rw [hfl]; rfl
/-! ### The law -/
theorem up08 : fettlelaw08_up = some true := by kernel_rfl
theorem pure_liveTells (m : PModule) (a : Int) (h : wfModule m) (ha : inI64 a) : fettlelaw08_LiveTells m a = some true := by
  unfold fettlelaw08_LiveTells
  rw [up08]
  obtain ⟨b, hb, hsm⟩ := small_ok m
  rw [hb]
  simp only [Option.bind_some]
  cases b with
  | false => simp
  | true =>
    have hm := hsm rfl
    obtain ⟨e, c, q, h1, h2, h3, h4⟩ := module_exact m hm
    simp only [Bool.not_true, Bool.false_eq_true, if_false]
    have hbad : ∀ g, g ≠ GErr.no → live_has m a = some g → live_Live m a = some ([], [], g) ∧ live_Count m a = some ([], g) := fun g hg hh => by
      unfold live_Live live_Count
      rw [hh]
      simp only [Option.bind_some]
      rw [if_pos hg, if_pos hg]
      exact ⟨rfl, rfl⟩
    by_cases hc : c = 0
    · have he := h4.2 hc
      subst he
      obtain ⟨e', h1', hiff⟩ := module_says m hm
      have hp : Proper m := hiff.1 (Option.some.inj (h1'.symm.trans h1))
      by_cases hr : a < 0 ∨ a ≥ len m.funcs
      · have hh : live_has m a = some (.code 1) := by
          unfold live_has
          rw [h1]
          simp only [Option.bind_some]
          rw [if_neg (by simp), if_pos hr]
        obtain ⟨g1, g2⟩ := hbad _ (by simp) hh
        rw [g1, g2]
        simp only [Option.bind_some, of_eq, h2]
        rw [if_neg (by simpa using hc), if_pos hr]
        simp [len]
      · have hr' := hr
        simp only [len] at hr
        obtain ⟨k, rfl⟩ : ∃ k : Nat, a = k := ⟨a.toNat, by omega⟩
        have hk : k < m.funcs.length := by omega
        have hf := hm.2 _ (List.getElem_mem hk)
        have hok := hp.funcs _ (List.getElem_mem hk)
        obtain ⟨ins, ends, hl, hlv⟩ := live_lv m hm k hk hp
        have hcnt : live_Count m (k : Int) = some ((names m.funcs[k]).foldl addN (List.replicate m.funcs[k].regs.length 0), GErr.no) := by
          unfold live_Count live_has
          rw [h1]
          simp only [Option.bind_some]
          rw [if_neg (by simp), if_neg hr']
          simp only [Option.bind_some]
          rw [if_neg (by simp), idx_lt hk]
          simp only [Option.bind_some, len, mkl_le (n := m.funcs[k].regs.length) (0 : Int) (by have := hf.2.1; omega)]
          rw [(count_eq m.funcs[k] hf hok _ (by simp)).1]; rfl
        have hcl := (count_eq m.funcs[k] hf hok (List.replicate m.funcs[k].regs.length 0) (by simp)).2
        rw [hl, hcnt]
        simp only [Option.bind_some, of_eq, h2]
        rw [if_neg (by simpa using hc), if_neg hr', idx_lt hk]
        simp only [Option.bind_some]
        generalize m.funcs[k] = f at *
        have hn := hf.1
        have hk3 := hf.2.1
        have hcg := fun (r : Nat) hr => addN_get f.regs.length (names f) (List.replicate f.regs.length 0) (by simp) (names_in f hok) r hr
        generalize (names f).foldl addN (List.replicate f.regs.length 0) = C at *
        have hl1 := hlv.dimI.len
        have hl2 := hlv.dimE.len
        rw [if_neg (by simp only [len]; simp [hl1, hl2, hcl])]
        -- the rows' sizes
        obtain ⟨z1, hz1, hz1'⟩ := whl_for (s0 := (0 : Int)) (body := fun (s : Int) => fettlelaw08_LiveTells.bd110 (ins, ends, GErr.no) f s) f.blocks.length (fun i s => s = (i : Int)) (fun z => z = .go ()) (le_max hn (by omega)) (fun i s hi hI => by
          subst hI
          obtain ⟨ri, i1, i2, i3⟩ := hlv.dimI.get (b := (i : Int)) (by omega) (by omega)
          obtain ⟨re, e1, e2, e3⟩ := hlv.dimE.get (b := (i : Int)) (by omega) (by omega)
          have hlt : (i : Int) < len ins := by simp only [len]; omega
          refine .inr ⟨_, by simp only [fettlelaw08_LiveTells.bd110, hlt, if_true, i1, e1, Option.bind_some]; rw [if_neg (by simp only [len]; omega)]; simp only [Option.bind_some]; rw [if_neg (by simp only [len, decide_eq_true_eq]; omega)], w64_i hi (by omega)⟩) (fun s hI => by
          subst hI
          exact ⟨_, by simp only [fettlelaw08_LiveTells.bd110, len]; rw [if_neg (by omega)], rfl⟩) rfl
        subst hz1'
        rw [hz1]
        simp only [Option.bind_some, fettlelaw08_LiveTells.nx110]
        -- register by register
        obtain ⟨z2, hz2, hz2'⟩ := whl_for (s0 := (0 : Int)) (body := fun (s : Int) => fettlelaw08_LiveTells.bd119 (ins, ends, GErr.no) (C, GErr.no) f s) f.regs.length (fun i s => s = (i : Int)) (fun z => z = .go ()) (le_max hk3 (by omega)) (fun r s hr hI => by
          subst hI
          obtain ⟨hln, hleast, hclo⟩ := liveR_lv (t := r) hf hok
          have hlt : (r : Int) < len f.regs := by simp only [len]; omega
          have hCr : r < C.length := by omega
          have hcr : C[r] = (names f).foldl (cstep (r : Int)) 0 := by
            have := hcg r hr
            rw [List.getD_eq_getElem?_getD, List.getElem?_eq_getElem hCr] at this
            simpa [List.getD_eq_getElem?_getD, hr] using this
          have hin : ∀ v, Hold ins v r ↔ sn (liveR f (r : Int)).1 v := fun v => ⟨(hlv.least r hr _ _ hclo).1 v, (hleast _ _ (hlv.clo r hr)).1 v⟩
          have hen : ∀ v, Hold ends v r ↔ sn (liveR f (r : Int)).2 v := fun v => ⟨(hlv.least r hr _ _ hclo).2 v, (hleast _ _ (hlv.clo r hr)).2 v⟩
          have hbit : ∀ {T : List (List Bool)} {S : List Bool} (hD : Dim f.blocks.length f.regs.length T) (hS : S.length = f.blocks.length) (h : ∀ v, Hold T v r ↔ sn S v) (v : Nat) (hv : v < f.blocks.length), ∃ row x, idx T (v : Int) = some row ∧ idx row (r : Int) = some x ∧ idx S (v : Int) = some x := fun {T S} hD hS h v hv => by
            obtain ⟨row, r1, r2, r3⟩ := hD.get (b := (v : Int)) (by omega) (by omega)
            rw [Int.toNat_natCast] at r2
            have hrl : r < row.length := by omega
            have hvl : v < S.length := by omega
            refine ⟨row, row[r], r1, idx_lt hrl, ?_⟩
            rw [idx_lt hvl]
            have hh := h v
            have e1 : Hold T v r ↔ row[r] = true := by
              constructor
              · rintro ⟨q, q1, q2⟩
                rw [r2] at q1; cases q1
                rw [List.getElem?_eq_getElem hrl] at q2
                exact Option.some.inj q2
              · intro q; exact ⟨row, r2, by rw [List.getElem?_eq_getElem hrl, q]⟩
            unfold sn at hh
            rw [e1, List.getElem?_eq_getElem hvl] at hh
            congr 1
            cases h1 : row[r] <;> cases h2 : S[v] <;> simp_all
          obtain ⟨z3, hz3, hz3'⟩ := whl_for (s0 := (0 : Int)) (body := fun (s : Int) => fettlelaw08_LiveTells.bd142 (ins, ends, GErr.no) (r : Int) (liveR f (r : Int)) s) f.blocks.length (fun i s => s = (i : Int)) (fun z => z = .go ()) (le_max hn (by omega)) (fun i s hi hI => by
            subst hI
            obtain ⟨ra, xa, a1, a2, a3⟩ := hbit hlv.dimI hln.1 hin i hi
            obtain ⟨rb, xb, b1, b2, b3⟩ := hbit hlv.dimE hln.2 hen i hi
            have hlt : (i : Int) < len ins := by simp only [len]; omega
            refine .inr ⟨_, by simp only [fettlelaw08_LiveTells.bd142, hlt, if_true, a1, a2, a3, b1, b2, b3, Option.bind_some, beq_self_eq_true, Bool.not_true, Bool.false_eq_true, if_false], w64_i hi (by omega)⟩) (fun s hI => by
            subst hI
            exact ⟨_, by simp only [fettlelaw08_LiveTells.bd142, len]; rw [if_neg (by omega)], rfl⟩) rfl
          subst hz3'
          refine .inr ⟨_, by simp only [fettlelaw08_LiveTells.bd119, hlt, if_true, live8 f hf hok (r : Int), count8 f hf (r : Int) (by omega), idx_lt hCr, hcr, Option.bind_some, not_true, if_false, hz3, fettlelaw08_LiveTells.nx142], w64_i hr (by omega)⟩) (fun s hI => by
          subst hI
          exact ⟨_, by simp only [fettlelaw08_LiveTells.bd119, len]; rw [if_neg (by omega)], rfl⟩) rfl
        subst hz2'
        rw [hz2]; rfl
    · have he : e ≠ .no := fun k => hc (h4.1 k)
      have hh : live_has m a = some e := by
        unfold live_has
        rw [h1]
        simp only [Option.bind_some]
        rw [if_pos he]
      obtain ⟨g1, g2⟩ := hbad _ he hh
      rw [g1, g2]
      simp only [Option.bind_some, of_eq, h2]
      rw [if_pos hc, h3]
      simp [len]
end Go.Proofs.YteaknconpkklhaaDoor
