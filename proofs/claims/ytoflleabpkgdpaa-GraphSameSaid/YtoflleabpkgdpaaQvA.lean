/- Plain laws, part v-A: what a step of a run comes to, told by lists. No conditions. -/
import Derived.Test.YtoflleabpkgdpaaQuQ
import Derived.Test.YtoflleabpkgdpaaS5
import Derived.KernelRfl
set_option linter.unusedVariables false
set_option linter.unusedSimpArgs false
namespace Go.Proofs.Ytoflleabpkgdpaa
open Go Go.Proofs

theorem index_eq (a : List Int) (x : Int) (hl : a.length ≤ maxLen) (hx : x ∈ a) : slices_Index a x = some ((a.idxOf x : Nat) : Int) := by
  unfold slices_Index
  have := scan0 a (fun i y => if x = y then some (i : Int) else none) (fun s => slices_Index.bd16 a x s) hl (fun i hi => by
    simp only [slices_Index.bd16, len_lt, hi, if_true, idx_lt hi, Option.bind_some, w64_at hi hl]
    split <;> rfl) (by simp [slices_Index.bd16, len])
  rcases this with ⟨i, hi, r, hf, hn, hw⟩ | ⟨hall, hw⟩
  · split at hf
    · rename_i hxi
      cases hf
      rw [hw]
      simp only [Option.bind_some, Option.some.injEq]
      have : a.idxOf x = i := by
        have h1 : a.idxOf x < a.length := List.idxOf_lt_length_iff.2 hx
        have h2 : a[a.idxOf x] = x := List.getElem_idxOf h1
        rcases Nat.lt_trichotomy (a.idxOf x) i with h | h | h
        · have := hn _ h1 h
          simp [h2] at this
        · exact h
        · exfalso
          have h3 := List.not_of_lt_findIdx (p := (· == x)) (xs := a) (i := i) h
          simp [← hxi] at h3
      rw [this]
    · cases hf
  · exfalso
    obtain ⟨i, hi, he⟩ := List.getElem_of_mem hx
    have := hall i hi
    simp [he] at this

/-! ### The words -/
def ahs (m : PModule) : List (List (List Int)) := m.funcs.map fun (f : PFunc) => aheads (nexts f)
def fnOf (m : PModule) (x : PFrame) : PFunc := m.funcs.getD x.f.toNat PFunc.zero
def blOf (m : PModule) (x : PFrame) : PBlock := (fnOf m x).blocks.getD x.block.toNat PBlock.zero
def rg (regs : List Int) (a : Int) : Int := regs.getD a.toNat 0
def argsF (regs : List Int) (l : List Int) : List Int := l.map (rg regs)
def phiV (regs : List Int) (phis : List PPhi) (i : Nat) : List Int := phis.map fun p => rg regs (p.args.getD i 0)
def setAll (regs : List Int) (l : List (PPhi × Int)) : List Int := l.foldl (fun rs pv => rs.set pv.1.dst.toNat pv.2) regs
/-- The registers behind an edge. -/
def edgeF (f : PFunc) (b b' : Int) (regs : List Int) : List Int :=
  let B := f.blocks.getD b'.toNat PBlock.zero
  setAll regs (B.phis.zip (phiV regs B.phis ((preds (nexts f) b'.toNat).idxOf b)))
def toF (m : PModule) (x : PFrame) (b : Int) : PFrame := ⟨x.f, edgeF (fnOf m x) x.block b x.regs, b, 0, x.dst⟩
def evalV (op : Int) (args : List Int) : Option Int := (arith_Eval op args).bind fun r => if r.2 = GErr.no then some r.1 else none
def trapF (o : POutcome) (k : Int) : POutcome := ⟨true, k, o.value, o.out, o.steps, o.memory⟩
def newF (m : PModule) (f : Int) (args : List Int) (dst : Int) : PFrame := ⟨f, cpy (List.replicate (m.funcs.getD f.toNat PFunc.zero).regs.length 0) args, 0, 0, dst⟩
def PFrame.regsTo (x : PFrame) (r : List Int) : PFrame := ⟨x.f, r, x.block, x.at_, x.dst⟩
def instrF (m : PModule) (fs : List PFrame) (x : PFrame) (o : POutcome) (i : PInstr) : List PFrame × POutcome :=
  let args := argsF x.regs i.args
  if i.op = 1 then (fs ++ [x.regsTo (x.regs.set i.dst.toNat i.imm)], o)
  else if i.op = 15 then
    if 0 ≤ args.getD 0 0 ∧ args.getD 0 0 < 64 then (fs ++ [x.regsTo (x.regs.set i.dst.toNat (o.memory.1.getD (args.getD 0 0).toNat 0))], o) else (fs ++ [x], trapF o 2)
  else if i.op = 16 then
    if 0 ≤ args.getD 0 0 ∧ args.getD 0 0 < 64 then (fs ++ [x], ⟨o.done, o.trap, o.value, o.out, o.steps, o.memory.put (args.getD 0 0) (args.getD 1 0)⟩) else (fs ++ [x], trapF o 2)
  else if i.op = 18 then (fs ++ [x], ⟨o.done, o.trap, o.value, o.out ++ [args.getD 0 0], o.steps, o.memory⟩)
  else if i.op = 17 then (fs ++ [x] ++ [newF m i.fn args i.dst], o)
  else match evalV i.op args with
    | some v => (fs ++ [x.regsTo (x.regs.set i.dst.toNat v)], o)
    | none => (fs ++ [x], trapF o 1)
def backF (fs : List PFrame) (dst v : Int) (o : POutcome) : List PFrame × POutcome :=
  match fs.getLast? with
  | none => ([], ⟨true, o.trap, v, o.out, o.steps, o.memory⟩)
  | some y => if dst ≥ 0 then (fs.dropLast ++ [y.regsTo (y.regs.set dst.toNat v)], o) else (fs, o)
def endF (m : PModule) (fs : List PFrame) (x : PFrame) (o : POutcome) (t : PTerm) : List PFrame × POutcome :=
  if t.kind = 1 then (fs ++ [toF m x (t.to.getD 0 0)], o)
  else if t.kind = 2 then
    if ¬ rg x.regs t.arg = 0 then (fs ++ [toF m x (t.to.getD 0 0)], o) else (fs ++ [toF m x (t.to.getD 1 0)], o)
  else backF fs x.dst (if t.arg ≥ 0 then rg x.regs t.arg else 0) o
def stepF (m : PModule) (fs : List PFrame) (x : PFrame) (o : POutcome) : List PFrame × POutcome :=
  if x.at_ = ((blOf m x).ins.length : Int) then endF m fs x o (blOf m x).term
  else instrF m fs ⟨x.f, x.regs, x.block, x.at_ + 1, x.dst⟩ o ((blOf m x).ins.getD x.at_.toNat PInstr.zero)

/-! ### Frames that fit -/
structure FrOk (m : PModule) (x : PFrame) : Prop where
  f0 : 0 ≤ x.f
  f1 : x.f < (m.funcs.length : Int)
  regs : x.regs.length = (fnOf m x).regs.length
  b0 : 0 ≤ x.block
  b1 : x.block < ((fnOf m x).blocks.length : Int)
  a0 : 0 ≤ x.at_
  a1 : x.at_ ≤ ((blOf m x).ins.length : Int)
theorem getD_mem {α : Type} {l : List α} {i : Nat} {d : α} (h : i < l.length) : l.getD i d ∈ l := by
  rw [List.getD_eq_getElem?_getD, List.getElem?_eq_getElem h]; exact List.getElem_mem h
theorem idx_getD {α : Type} {l : List α} {i : Int} {d : α} (h0 : 0 ≤ i) (h1 : i < (l.length : Int)) : idx l i = some (l.getD i.toNat d) := by
  have h : i.toNat < l.length := by omega
  simp only [idx, if_pos h0]
  rw [List.getD_eq_getElem?_getD, List.getElem?_eq_getElem h]; rfl
theorem FrOk.fn {m : PModule} {x : PFrame} (h : FrOk m x) : idx m.funcs x.f = some (fnOf m x) := idx_getD h.f0 h.f1
theorem FrOk.fnm {m : PModule} {x : PFrame} (h : FrOk m x) : fnOf m x ∈ m.funcs := getD_mem (by have := h.f0; have := h.f1; omega)
theorem FrOk.bl {m : PModule} {x : PFrame} (h : FrOk m x) : idx (fnOf m x).blocks x.block = some (blOf m x) := idx_getD h.b0 h.b1
theorem FrOk.blm {m : PModule} {x : PFrame} (h : FrOk m x) : blOf m x ∈ (fnOf m x).blocks := getD_mem (by have := h.b0; have := h.b1; omega)
theorem rg_some {regs : List Int} {a : Int} (h0 : 0 ≤ a) (h1 : a < (regs.length : Int)) : idx regs a = some (rg regs a) := idx_getD h0 h1
theorem setAll_length (l : List (PPhi × Int)) : ∀ regs, (setAll regs l).length = regs.length := by
  induction l with
  | nil => intro regs; rfl
  | cons a l ih => intro regs; simp only [setAll, List.foldl_cons] at ih ⊢; rw [ih]; simp
theorem edgeF_length (f : PFunc) (b b' : Int) (regs : List Int) : (edgeF f b b' regs).length = regs.length := setAll_length _ _
theorem ahs_get (m : PModule) (x : PFrame) (h : FrOk m x) : idx (ahs m) x.f = some (aheads (nexts (fnOf m x))) := by
  have h0 := h.f0
  have h1 := h.f1
  have hlt : x.f.toNat < m.funcs.length := by omega
  simp only [idx, if_pos h0, ahs, fnOf]
  rw [List.getElem?_map, List.getElem?_eq_getElem hlt, List.getD_eq_getElem?_getD, List.getElem?_eq_getElem hlt]; rfl
theorem mem_preds {f : PFunc} {b : Nat} {t : Nat} (hb : b < f.blocks.length) (ht : t < f.blocks.length) (hm : (t : Int) ∈ f.blocks[b].term.to) : (b : Int) ∈ preds (nexts f) t := by
  simp only [preds, List.mem_map, List.mem_filter, List.mem_range, decide_eq_true_eq]
  refine ⟨b, ⟨by rw [nexts_length]; exact hb, ?_⟩, rfl⟩
  rw [List.getD_eq_getElem?_getD, nexts_get f b hb]
  exact mem_succs.2 ⟨hm, by omega, by omega⟩

/-! ### Going along an edge -/
theorem to_eq (m : PModule) (hp : Proper m) (hs : SmM m) (fs : List PFrame) (o : POutcome) (x : PFrame) (k b : Int) (h : FrOk m x) (hb : b ∈ (blOf m x).term.to) :
    run_runner_to ⟨m, ahs m, fs, o⟩ x k b = some (fs.set k.toNat (toF m x b)) := by
  have hfm := h.fnm
  have hf := hp.funcs _ hfm
  have hsf := hs.2 _ hfm
  have hbm := h.blm
  have hb0 := h.b0
  have hb1 := h.b1
  obtain ⟨t1, t2⟩ := (hf.ends _ hbm).to b hb
  have hn := hf.small.blocks
  obtain ⟨bn, rfl⟩ : ∃ n : Nat, b = (n : Int) := ⟨b.toNat, by omega⟩
  have hbl : bn < (fnOf m x).blocks.length := by omega
  have hal : idx (aheads (nexts (fnOf m x))) (bn : Int) = some (preds (nexts (fnOf m x)) bn) := by rw [idx_nat]; exact aheads_get _ _ (by rw [nexts_length]; exact hbl)
  have hxb : x.block ∈ preds (nexts (fnOf m x)) bn := by
    have hlt : x.block.toNat < (fnOf m x).blocks.length := by omega
    have := mem_preds (f := fnOf m x) (b := x.block.toNat) (t := bn) hlt hbl (by
      have : blOf m x = (fnOf m x).blocks[x.block.toNat] := by simp [blOf, List.getD_eq_getElem?_getD, hlt]
      rw [← this]; exact hb)
    rwa [Int.toNat_of_nonneg hb0] at this
  have hpl := preds_length (nexts (fnOf m x)) bn
  rw [nexts_length] at hpl
  have hil : (preds (nexts (fnOf m x)) bn).idxOf x.block < (preds (nexts (fnOf m x)) bn).length := List.idxOf_lt_length_iff.2 hxb
  unfold run_runner_to
  simp only [ahs_get m x h, Option.bind_some, hal, index_eq _ _ (le_max (show (preds (nexts (fnOf m x)) bn).length ≤ 64 by omega) (by omega)) hxb, h.fn, idx_lt hbl]
  have hreg : RegsIn x.regs.length (fnOf m x).blocks[bn] := by rw [h.regs]; exact BlockOk_regs (hf.blocks _ (List.getElem_mem hbl))
  have hah := hf.ahead bn hbl
  have h2 := (hsf.2.2.2 _ (List.getElem_mem hbl)).2.1
  generalize hq : (preds (nexts (fnOf m x)) bn).idxOf x.block = q at hil
  rw [whl_map (fnOf m x).blocks[bn].phis (fun p => rg x.regs (p.args.getD q 0)) (r := phiV x.regs (fnOf m x).blocks[bn].phis q) (le_max h2 (by omega)) (fun i hi => by
    have hpm := List.getElem_mem hi
    have hqa : q < ((fnOf m x).blocks[bn].phis[i]).args.length := by rw [hah _ hpm]; exact hil
    obtain ⟨g1, g2⟩ := hreg.pargs _ hpm _ (List.getElem_mem hqa)
    have hgd : ((fnOf m x).blocks[bn].phis[i]).args.getD q 0 = ((fnOf m x).blocks[bn].phis[i]).args[q] := by simp [List.getD_eq_getElem?_getD, hqa]
    simp only [run_runner_to.bd29, len_lt, hi, if_true, idx_lt hi, Option.bind_some, idx_lt hqa, rg_some g1 g2, hgd]
    rw [cat_one (by simp; omega)]
    simp only [Option.bind_some, w64_i hi (show (fnOf m x).blocks[bn].phis.length ≤ 1000 by omega)]) (by simp [run_runner_to.bd29, len, phiV])]
  simp only [Option.bind_some, run_runner_to.nx29]
  have hvl : (phiV x.regs (fnOf m x).blocks[bn].phis q).length = (fnOf m x).blocks[bn].phis.length := by simp [phiV]
  have hzl : ((fnOf m x).blocks[bn].phis.zip (phiV x.regs (fnOf m x).blocks[bn].phis q)).length = (fnOf m x).blocks[bn].phis.length := by simp [phiV]
  have hset := whl_run (body := fun (s : (List Int × Int)) => run_runner_to.bd50 (fnOf m x).blocks[bn] (phiV x.regs (fnOf m x).blocks[bn].phis q) s.1 s.2) (r := setAll x.regs ((fnOf m x).blocks[bn].phis.zip (phiV x.regs (fnOf m x).blocks[bn].phis q))) (fnOf m x).blocks[bn].phis.length FUEL
    (fun i => (setAll x.regs (((fnOf m x).blocks[bn].phis.zip (phiV x.regs (fnOf m x).blocks[bn].phis q)).take i), (i : Int))) (fun i hi => by
      have hiv : i < (phiV x.regs (fnOf m x).blocks[bn].phis q).length := by omega
      have hiz : i < ((fnOf m x).blocks[bn].phis.zip (phiV x.regs (fnOf m x).blocks[bn].phis q)).length := by omega
      obtain ⟨g1, g2⟩ := hreg.phis _ (List.getElem_mem hi)
      obtain ⟨y, hy, _⟩ := idx_in (xs := setAll x.regs (((fnOf m x).blocks[bn].phis.zip (phiV x.regs (fnOf m x).blocks[bn].phis q)).take i)) g1 (by rw [setAll_length]; exact g2)
      simp only [run_runner_to.bd50, len_lt, hi, if_true, idx_lt hi, idx_lt hiv, Option.bind_some, hy, w64_i hi (show (fnOf m x).blocks[bn].phis.length ≤ 1000 by omega)]
      have : setAll x.regs (((fnOf m x).blocks[bn].phis.zip (phiV x.regs (fnOf m x).blocks[bn].phis q)).take (i + 1)) = (setAll x.regs (((fnOf m x).blocks[bn].phis.zip (phiV x.regs (fnOf m x).blocks[bn].phis q)).take i)).set (fnOf m x).blocks[bn].phis[i].dst.toNat (phiV x.regs (fnOf m x).blocks[bn].phis q)[i] := by
        unfold setAll
        rw [foldl_take _ _ _ hiz, List.getElem_zip]
      rw [this]) (by rw [← hzl, List.take_length]; simp [run_runner_to.bd50, len, hzl]) (lt_FUEL (le_max h2 (by omega)))
  have h00 : (setAll x.regs (((fnOf m x).blocks[bn].phis.zip (phiV x.regs (fnOf m x).blocks[bn].phis q)).take 0), ((0 : Nat) : Int)) = (x.regs, (0 : Int)) := by simp [setAll]
  rw [h00] at hset
  rw [hset]
  simp only [Option.bind_some, run_runner_to.nx50, toF, edgeF, Int.toNat_natCast, hq]
  have : (fnOf m x).blocks.getD bn PBlock.zero = (fnOf m x).blocks[bn] := by simp [List.getD_eq_getElem?_getD, hbl]
  rw [this]
theorem toF_ok (m : PModule) (hp : Proper m) (x : PFrame) (h : FrOk m x) (b : Int) (hb : b ∈ (blOf m x).term.to) : FrOk m (toF m x b) := by
  have hf := hp.funcs _ h.fnm
  obtain ⟨t1, t2⟩ := (hf.ends _ h.blm).to b hb
  exact ⟨h.f0, h.f1, (edgeF_length _ _ _ _).trans h.regs, by show 0 ≤ b; omega, t2, Int.le_refl _, by show (0 : Int) ≤ _; omega⟩
end Go.Proofs.Ytoflleabpkgdpaa
