/- Plain laws, part S: tables of marks; what is wanted at a block's beginning. No conditions. -/
import Derived.Test.YtoflleabpkgdpaaPuQ
set_option linter.unusedVariables false
set_option linter.unusedSimpArgs false
namespace Go.Proofs.Ytoflleabpkgdpaa
open Go Go.Proofs

/-! ### Tables -/
structure Dim (n k : Nat) (T : List (List Bool)) : Prop where
  len : T.length = n
  row : ∀ r ∈ T, r.length = k
def fal (T : List (List Bool)) : Nat := (T.map cnt).sum
def Nm (P : Nat → Prop) (T : List (List Bool)) : Prop := ∀ row ∈ T, ∀ r : Nat, row[r]? = some true → P r
theorem Dim.set {n k : Nat} {T : List (List Bool)} (h : Dim n k T) (b : Nat) {row : List Bool} (hr : row.length = k) : Dim n k (T.set b row) :=
  ⟨by simp [h.len], fun r hx => (List.mem_or_eq_of_mem_set hx).elim (h.row r) (fun e => e ▸ hr)⟩
theorem Nm.set {P : Nat → Prop} {T : List (List Bool)} (h : Nm P T) (b : Nat) {row : List Bool} (hr : ∀ r : Nat, row[r]? = some true → P r) : Nm P (T.set b row) :=
  fun x hx => (List.mem_or_eq_of_mem_set hx).elim (h x) (fun e => e ▸ hr)
theorem fal_set : ∀ (T : List (List Bool)) (b : Nat) (row row' : List Bool), T[b]? = some row → fal (T.set b row') + cnt row = fal T + cnt row'
  | [], b, row, row', h => by simp at h
  | x :: T, 0, row, row', h => by
    simp at h; subst h
    simp only [fal, List.set_cons_zero, List.map_cons, List.sum_cons]; omega
  | x :: T, b + 1, row, row', h => by
    have ih := fal_set T b row row' (by simpa using h)
    simp only [fal, List.set_cons_succ, List.map_cons, List.sum_cons] at ih ⊢; omega
theorem fal_mark {T : List (List Bool)} {b r : Nat} {row : List Bool} (h : T[b]? = some row) (hr : row[r]? = some false) : fal (T.set b (row.set r true)) + 1 = fal T := by
  have h1 := fal_set T b row (row.set r true) h
  have h2 := cnt_set row r hr
  omega
/-- Marks of the one are marks of the other. -/
structure Le (a b : List Bool) : Prop where
  len : a.length = b.length
  le : ∀ r : Nat, a[r]? = some true → b[r]? = some true
theorem Le.refl (a : List Bool) : Le a a := ⟨rfl, fun _ h => h⟩
theorem Le.trans {a b c : List Bool} (h : Le a b) (k : Le b c) : Le a c := ⟨h.len.trans k.len, fun r hr => k.le r (h.le r hr)⟩
theorem Le.set {a b : List Bool} (h : Le a b) (i : Nat) (v : Bool) : Le (a.set i v) (b.set i v) := by
  refine ⟨by simp [h.len], fun r hr => ?_⟩
  rw [List.getElem?_set] at hr ⊢
  by_cases hi : i = r
  · subst hi
    rw [if_pos rfl] at hr ⊢
    rw [← h.len]
    exact hr
  · rw [if_neg hi] at hr ⊢
    exact h.le r hr
theorem Le.mark (a : List Bool) (i : Nat) : Le a (a.set i true) := by
  refine ⟨by simp, fun r hr => ?_⟩
  rw [List.getElem?_set]
  by_cases hi : i = r
  · subst hi
    have := (List.getElem?_eq_some_iff.1 hr).1
    simp [this]
  · rw [if_neg hi]; exact hr

/-! ### What is wanted at a block's beginning -/
def markAll (o : List Bool) (l : List Int) : List Bool := l.foldl (fun o a => o.set a.toNat true) o
def stepI (o : List Bool) (x : PInstr) : List Bool := markAll (if x.dst ≥ 0 then o.set x.dst.toNat false else o) x.args
def dropP (o : List Bool) (ps : List PPhi) : List Bool := ps.foldl (fun o p => o.set p.dst.toNat false) o
def beginF (B : PBlock) (e : List Bool) : List Bool := dropP (B.ins.reverse.foldl stepI (if B.term.arg ≥ 0 then e.set B.term.arg.toNat true else e)) B.phis
theorem markAll_length (l : List Int) : ∀ o, (markAll o l).length = o.length := by
  induction l with
  | nil => intro o; rfl
  | cons a l ih => intro o; simp only [markAll, List.foldl_cons] at ih ⊢; rw [ih]; simp
theorem stepI_length (o : List Bool) (x : PInstr) : (stepI o x).length = o.length := by
  unfold stepI; rw [markAll_length]; split <;> simp
theorem stepsI_length (l : List PInstr) : ∀ o, (l.foldl stepI o).length = o.length := by
  induction l with
  | nil => intro o; rfl
  | cons a l ih => intro o; rw [List.foldl_cons, ih, stepI_length]
theorem dropP_length (l : List PPhi) : ∀ o, (dropP o l).length = o.length := by
  induction l with
  | nil => intro o; rfl
  | cons a l ih => intro o; simp only [dropP, List.foldl_cons] at ih ⊢; rw [ih]; simp
theorem beginF_length (B : PBlock) (e : List Bool) : (beginF B e).length = e.length := by
  unfold beginF; rw [dropP_length, stepsI_length]; split <;> simp
theorem markAll_mono (l : List Int) : ∀ {o o'}, Le o o' → Le (markAll o l) (markAll o' l) := by
  induction l with
  | nil => intro o o' h; exact h
  | cons a l ih => intro o o' h; simp only [markAll, List.foldl_cons] at ih ⊢; exact ih (h.set _ _)
theorem stepI_mono {o o' : List Bool} (x : PInstr) (h : Le o o') : Le (stepI o x) (stepI o' x) := by
  unfold stepI
  split
  · exact markAll_mono _ (h.set _ _)
  · exact markAll_mono _ h
theorem stepsI_mono (l : List PInstr) : ∀ {o o'}, Le o o' → Le (l.foldl stepI o) (l.foldl stepI o') := by
  induction l with
  | nil => intro o o' h; exact h
  | cons a l ih => intro o o' h; rw [List.foldl_cons, List.foldl_cons]; exact ih (stepI_mono a h)
theorem dropP_mono (l : List PPhi) : ∀ {o o'}, Le o o' → Le (dropP o l) (dropP o' l) := by
  induction l with
  | nil => intro o o' h; exact h
  | cons a l ih => intro o o' h; simp only [dropP, List.foldl_cons] at ih ⊢; exact ih (h.set _ _)
theorem beginF_mono (B : PBlock) {e e' : List Bool} (h : Le e e') : Le (beginF B e) (beginF B e') := by
  unfold beginF
  refine dropP_mono _ (stepsI_mono _ ?_)
  split
  · exact h.set _ _
  · exact h
/-- A mark that is set is of P, or was there. -/
theorem mark_P {P : Nat → Prop} {o : List Bool} (h : ∀ r : Nat, o[r]? = some true → P r) (i : Nat) (hi : P i) : ∀ r : Nat, (o.set i true)[r]? = some true → P r := by
  intro r hr
  rw [List.getElem?_set] at hr
  by_cases h1 : i = r
  · subst h1; exact hi
  · rw [if_neg h1] at hr; exact h r hr
theorem unmark_P {P : Nat → Prop} {o : List Bool} (h : ∀ r : Nat, o[r]? = some true → P r) (i : Nat) : ∀ r : Nat, (o.set i false)[r]? = some true → P r := by
  intro r hr
  rw [List.getElem?_set] at hr
  by_cases h1 : i = r
  · rw [if_pos h1] at hr; split at hr <;> simp at hr
  · rw [if_neg h1] at hr; exact h r hr
theorem markAll_P {P : Nat → Prop} (l : List Int) : ∀ {o : List Bool}, (∀ r : Nat, o[r]? = some true → P r) → (∀ a ∈ l, P a.toNat) → ∀ r : Nat, (markAll o l)[r]? = some true → P r := by
  induction l with
  | nil => intro o h _; exact h
  | cons a l ih =>
    intro o h hl
    simp only [markAll, List.foldl_cons] at ih ⊢
    exact ih (mark_P h _ (hl a (by simp))) fun x hx => hl x (List.mem_cons_of_mem _ hx)
theorem stepsI_P {P : Nat → Prop} (l : List PInstr) : ∀ {o : List Bool}, (∀ r : Nat, o[r]? = some true → P r) → (∀ x ∈ l, ∀ a ∈ x.args, P a.toNat) → ∀ r : Nat, (l.foldl stepI o)[r]? = some true → P r := by
  induction l with
  | nil => intro o h _; exact h
  | cons x l ih =>
    intro o h hl
    rw [List.foldl_cons]
    refine ih ?_ fun y hy => hl y (List.mem_cons_of_mem _ hy)
    unfold stepI
    split
    · exact markAll_P _ (unmark_P h _) (hl x (by simp))
    · exact markAll_P _ h (hl x (by simp))
theorem dropP_P {P : Nat → Prop} (l : List PPhi) : ∀ {o : List Bool}, (∀ r : Nat, o[r]? = some true → P r) → ∀ r : Nat, (dropP o l)[r]? = some true → P r := by
  induction l with
  | nil => intro o h; exact h
  | cons a l ih => intro o h; simp only [dropP, List.foldl_cons] at ih ⊢; exact ih (unmark_P h _)
theorem beginF_P {P : Nat → Prop} (B : PBlock) {e : List Bool} (h : ∀ r : Nat, e[r]? = some true → P r) (hins : ∀ x ∈ B.ins, ∀ a ∈ x.args, P a.toNat) (harg : B.term.arg ≥ 0 → P B.term.arg.toNat) : ∀ r : Nat, (beginF B e)[r]? = some true → P r := by
  unfold beginF
  refine dropP_P _ (stepsI_P _ ?_ fun x hx => hins x (List.mem_reverse.1 hx))
  split
  · rename_i hg; exact mark_P h _ (harg hg)
  · exact h
/-- The registers that a block names are there. -/
structure RegsIn (k : Nat) (B : PBlock) : Prop where
  arg : B.term.arg < (k : Int)
  dst : ∀ x ∈ B.ins, x.dst < (k : Int)
  args : ∀ x ∈ B.ins, ∀ a ∈ x.args, 0 ≤ a ∧ a < (k : Int)
  phis : ∀ p ∈ B.phis, 0 ≤ p.dst ∧ p.dst < (k : Int)
  pargs : ∀ p ∈ B.phis, ∀ a ∈ p.args, 0 ≤ a ∧ a < (k : Int)
theorem BlockOk.regs {m : PModule} {f : PFunc} {B : PBlock} (h : BlockOk m f B) : RegsIn f.regs.length B := by
  refine ⟨?_, fun x hx => ?_, fun x hx a ha => ?_, fun p hp => (h.phis p hp).dst, fun p hp a ha => (h.phis p hp).args a ha⟩
  · have := h.term
    unfold EndOk at this
    split at this
    · omega
    · exact this.has.2
  · obtain ⟨n, t, hi⟩ := h.ins x hx
    by_cases ht : t = 0
    · have := hi.none ht; omega
    · exact (hi.dst ht).2
  · obtain ⟨n, t, hi⟩ := h.ins x hx
    exact hi.args a ha
theorem idx_in {α : Type} {xs : List α} {a : Int} (h0 : 0 ≤ a) (h1 : a < (xs.length : Int)) : ∃ y, idx xs a = some y ∧ xs[a.toNat]? = some y := by
  have hlt : a.toNat < xs.length := by omega
  refine ⟨xs[a.toNat], ?_, List.getElem?_eq_getElem hlt⟩
  simp only [idx, if_pos h0]
  exact List.getElem?_eq_getElem hlt
theorem begin_eq (B : PBlock) (e : List Bool) (hB : SmB B) (hR : RegsIn e.length B) (he : e.length ≤ 300) : live_begin B e = some (beginF B e) := by
  obtain ⟨b1, b2, b3, b4, b5⟩ := hB
  unfold live_begin
  have hmk : mkl (len e) false = some (List.replicate e.length false) := by
    have h1 : e.length < LIM := by simp only [LIM]; omega
    simp [mkl, len, h1]
  have hcp : cpy (List.replicate e.length false) e = e := by
    unfold cpy
    simp
  rw [hmk]
  simp only [Option.bind_some, hcp]
  -- the rest, from the marks at the end on
  have rest : ∀ o : List Bool, o.length = e.length → live_begin.jn13 B o = some (dropP (B.ins.reverse.foldl stepI o) B.phis) := by
    intro o ho
    unfold live_begin.jn13
    have hrun := whl_run (body := fun (s : (List Bool × Int)) => live_begin.bd26 B s.1 s.2) (r := B.ins.reverse.foldl stepI o) B.ins.length FUEL
      (fun i => ((B.ins.reverse.take i).foldl stepI o, (B.ins.length : Int) - (i + 1 : Nat))) (fun i hi => by
        have hj : (B.ins.length : Int) - ((i + 1 : Nat) : Int) = ((B.ins.length - 1 - i : Nat) : Int) := by omega
        have hjl : B.ins.length - 1 - i < B.ins.length := by omega
        have hir : i < B.ins.reverse.length := by simpa using hi
        have e1 : w64 (((B.ins.length - 1 - i : Nat) : Int) - 1) = (B.ins.length : Int) - ((i + 1 + 1 : Nat) : Int) := by rw [w64_id ⟨by omega, by omega⟩]; omega
        have hxm : B.ins[B.ins.length - 1 - i] ∈ B.ins := List.getElem_mem hjl
        have hrev : B.ins.reverse[i] = B.ins[B.ins.length - 1 - i] := by rw [List.getElem_reverse]
        rw [foldl_take stepI o B.ins.reverse hir, hrev]
        have hol : ((B.ins.reverse.take i).foldl stepI o).length = e.length := by rw [stepsI_length, ho]
        generalize (B.ins.reverse.take i).foldl stepI o = q at hol
        generalize hx : B.ins[B.ins.length - 1 - i] = x at hxm
        simp only [live_begin.bd26, hj]
        rw [if_pos (by omega), idx_lt hjl]
        simp only [Option.bind_some, hx]
        have hargs := b4 x hxm
        have inner : ∀ q : List Bool, q.length = e.length → live_begin.jn81 ((B.ins.length - 1 - i : Nat) : Int) x q = some (.go (markAll q x.args, (B.ins.length : Int) - ((i + 1 + 1 : Nat) : Int))) := by
          intro q hq
          unfold live_begin.jn81
          have hin := whl_run (body := fun (s : (List Bool × Int)) => live_begin.bd95 x s.1 s.2) (r := markAll q x.args) x.args.length FUEL (fun k => (markAll q (x.args.take k), (k : Int))) (fun k hk => by
            have hql : (markAll q (x.args.take k)).length = e.length := by rw [markAll_length, hq]
            obtain ⟨g1, g2⟩ := hR.args x hxm _ (List.getElem_mem hk)
            obtain ⟨y, hy, _⟩ := idx_in (xs := markAll q (x.args.take k)) g1 (by rw [hql]; exact g2)
            simp only [live_begin.bd95, len_lt, hk, if_true, idx_lt hk, Option.bind_some, hy, w64_i hk (show x.args.length ≤ 1000 by omega)]
            unfold markAll
            rw [foldl_take (fun (o : List Bool) (a : Int) => o.set a.toNat true) q x.args hk]) (by simp [live_begin.bd95, len]) (lt_FUEL (le_max hargs (by omega)))
          have h00 : (markAll q (x.args.take 0), ((0 : Nat) : Int)) = (q, (0 : Int)) := by simp [markAll]
          rw [h00] at hin
          rw [hin]
          simp only [Option.bind_some, live_begin.nx95, e1]
        by_cases hd : x.dst ≥ 0
        · rw [if_pos hd]
          obtain ⟨y, hy, _⟩ := idx_in (xs := q) hd (by rw [hol]; exact hR.dst x hxm)
          rw [hy]
          simp only [Option.bind_some]
          rw [inner _ (by simp [hol])]
          simp only [stepI, if_pos hd]
        · rw [if_neg hd, inner _ hol]
          simp only [stepI, if_neg hd]) (by
        simp only [live_begin.bd26]
        rw [if_neg (by omega), List.take_of_length_le (by simp)]) (lt_FUEL (le_max b1 (by omega)))
    simp only [List.take_zero, List.foldl_nil] at hrun
    have h0 : w64 ((len B.ins) - 1) = (B.ins.length : Int) - ((0 + 1 : Nat) : Int) := by simp only [len]; rw [w64_id ⟨by omega, by omega⟩]; omega
    rw [h0, hrun]
    simp only [Option.bind_some, live_begin.nx26]
    have hol : (B.ins.reverse.foldl stepI o).length = e.length := by rw [stepsI_length, ho]
    generalize B.ins.reverse.foldl stepI o = q at hol
    have hph := whl_run (body := fun (s : (List Bool × Int)) => live_begin.bd43 B s.1 s.2) (r := dropP q B.phis) B.phis.length FUEL (fun k => (dropP q (B.phis.take k), (k : Int))) (fun k hk => by
      have hql : (dropP q (B.phis.take k)).length = e.length := by rw [dropP_length, hol]
      obtain ⟨g1, g2⟩ := hR.phis _ (List.getElem_mem hk)
      obtain ⟨y, hy, _⟩ := idx_in (xs := dropP q (B.phis.take k)) g1 (by rw [hql]; exact g2)
      simp only [live_begin.bd43, len_lt, hk, if_true, idx_lt hk, Option.bind_some, hy, w64_i hk (show B.phis.length ≤ 1000 by omega)]
      unfold dropP
      rw [foldl_take (fun (o : List Bool) (p : PPhi) => o.set p.dst.toNat false) q B.phis hk]) (by simp [live_begin.bd43, len]) (lt_FUEL (le_max b2 (by omega)))
    have h00 : (dropP q (B.phis.take 0), ((0 : Nat) : Int)) = (q, (0 : Int)) := by simp [dropP]
    rw [h00] at hph
    rw [hph]; rfl
  unfold beginF
  by_cases ha : B.term.arg ≥ 0
  · rw [if_pos ha, if_pos ha]
    obtain ⟨y, hy, _⟩ := idx_in (xs := e) ha hR.arg
    rw [hy]
    simp only [Option.bind_some]
    exact rest _ (by simp)
  · rw [if_neg ha, if_neg ha]
    exact rest _ rfl
end Go.Proofs.Ytoflleabpkgdpaa
