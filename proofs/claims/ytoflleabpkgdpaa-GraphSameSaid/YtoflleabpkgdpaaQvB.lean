/- Plain laws, part v-B: each step of a run can be taken, and what it comes to. No conditions. -/
import Derived.Test.YtoflleabpkgdpaaQvA
set_option linter.unusedVariables false
set_option linter.unusedSimpArgs false
namespace Go.Proofs.Ytoflleabpkgdpaa
open Go Go.Proofs

def BIG : Nat := 10000000
theorem cat_big {α : Type} {a : List α} {x : α} (h : a.length ≤ BIG) : cat a [x] = some (a ++ [x]) := cat_ok (by simp only [BIG] at h; simp only [LIM, List.length_singleton]; omega)
theorem set_top {α : Type} (fs : List α) (x y : α) : (fs ++ [x]).set (((fs.length : Nat) : Int)).toNat y = fs ++ [y] := by
  rw [Int.toNat_natCast, List.set_append_right _ _ (Nat.le_refl _), Nat.sub_self]; rfl
theorem mem_get (a : A64) {i : Int} (h0 : 0 ≤ i) (h1 : i < 64) : A64.get a i = some (a.1.getD i.toNat 0) := idx_getD h0 (by rw [a.2]; exact h1)

/-! ### Instructions -/
theorem args_eq (regs : List Int) (x : PFrame) (hx : x.regs = regs) (i : PInstr) (hl : i.args.length ≤ 300) (ha : ∀ a ∈ i.args, 0 ≤ a ∧ a < (regs.length : Int)) :
    whl (fun (s : (List Int × Int)) => run_runner_instr.bd21 x i s.1 s.2) FUEL (([] : List Int), 0) = some (argsF regs i.args) :=
  whl_map i.args (rg regs) (r := argsF regs i.args) (le_max hl (by omega)) (fun k hk => by
    obtain ⟨g1, g2⟩ := ha _ (List.getElem_mem hk)
    simp only [run_runner_instr.bd21, len_lt, hk, if_true, idx_lt hk, Option.bind_some, hx, rg_some g1 g2]
    rw [cat_one (by simp; omega)]
    simp only [Option.bind_some, w64_i hk (show i.args.length ≤ 1000 by omega)]) (by simp [run_runner_instr.bd21, len, argsF])
theorem eval_some (m : PModule) (i : PInstr) (args : List Int) (n t : Int) (har : arF m i = some (n, t)) (hn : (args.length : Int) = n) (h1 : ¬ i.op = 1) (h15 : ¬ i.op = 15) (h16 : ¬ i.op = 16) (h17 : ¬ i.op = 17) (h18 : ¬ i.op = 18) : t = 1 ∧ ∃ v e, arith_Eval i.op args = some (v, e) := by
  unfold arF at har
  unfold arith_Eval arith_Args arith_bit
  by_cases c1 : i.op = 2 ∨ i.op = 14
  · simp only [if_pos c1, Option.some.injEq, Prod.mk.injEq] at har
    refine ⟨har.2.symm, ?_⟩
    rw [if_pos c1]
    simp only [Option.bind_some]
    rw [if_neg (by simp only [len]; simp; omega)]
    have h0 : idx args 0 = some args[0] := idx_lt (i := 0) (by omega)
    rw [h0]
    simp only [Option.bind_some]
    rcases c1 with c1 | c1
    · rw [if_pos c1]; exact ⟨_, _, rfl⟩
    · rw [if_neg (by omega), if_pos c1]; exact ⟨_, _, rfl⟩
  · rw [if_neg c1] at har
    by_cases c2 : i.op ≥ 3 ∧ i.op ≤ 13
    · simp only [if_pos c2, Option.some.injEq, Prod.mk.injEq] at har
      refine ⟨har.2.symm, ?_⟩
      rw [if_neg c1, if_pos c2]
      simp only [Option.bind_some]
      rw [if_neg (by simp only [len]; simp; omega)]
      have h0 : idx args 0 = some args[0] := idx_lt (i := 0) (by omega)
      have h1' : idx args 1 = some args[1] := idx_lt (i := 1) (by omega)
      rw [h0]
      simp only [Option.bind_some]
      rw [if_neg (by omega), if_neg (by omega), h1']
      simp only [Option.bind_some]
      have key : ∀ {c : Prop} [Decidable c] {a b : Option (Int × GErr)}, (∃ v e, a = some (v, e)) → (∃ v e, b = some (v, e)) → ∃ v e, (if c then a else b) = some (v, e) := by
        intro c _ a b ha hb; split <;> assumption
      have kb : ∀ {c : Prop} [Decidable c], ∃ v e, ((if c then some (1 : Int) else some 0).bind fun x => some (x, GErr.no)) = some (v, e) := by
        intro c _; split <;> exact ⟨_, _, rfl⟩
      repeat first | exact ⟨_, _, rfl⟩ | exact kb | refine key ?_ ?_
    · simp only [if_neg c2, if_neg h1, if_neg h15, if_neg h18, if_neg h16, if_neg h17] at har
      cases har
theorem evalV_some {op : Int} {args : List Int} {v : Int} {e : GErr} (h : arith_Eval op args = some (v, e)) : evalV op args = if e = GErr.no then some v else none := by
  unfold evalV; rw [h]; rfl
theorem instr_eq (m : PModule) (hs : SmM m) (fs : List PFrame) (x0 x : PFrame) (o : POutcome) (i : PInstr) (n t : Int) (h : FrOk m x) (hi : InstrOk m (fnOf m x) i n t) (hl : i.args.length ≤ 300) (hf : fs.length + 1 ≤ BIG) (ho : o.out.length ≤ BIG) :
    run_runner_instr ⟨m, ahs m, fs ++ [x0], o⟩ x (fs.length : Int) i = some ((instrF m fs x o i).1, (instrF m fs x o i).2.done, (instrF m fs x o i).2.trap, (instrF m fs x o i).2.out, (instrF m fs x o i).2.memory) ∧
      (instrF m fs x o i).2.value = o.value ∧ (instrF m fs x o i).2.steps = o.steps := by
  have hargs : ∀ a ∈ i.args, 0 ≤ a ∧ a < (x.regs.length : Int) := fun a ha => by rw [h.regs]; exact hi.args a ha
  have hal : (argsF x.regs i.args).length = i.args.length := by simp [argsF]
  unfold run_runner_instr
  rw [args_eq x.regs x rfl i hl hargs]
  simp only [Option.bind_some, run_runner_instr.nx21]
  have hdst : t ≠ 0 → ∃ v, idx x.regs i.dst = some v := fun ht => by
    obtain ⟨g1, g2⟩ := hi.dst ht
    exact ⟨_, rg_some g1 (by rw [h.regs]; exact g2)⟩
  have har := hi.ar
  have hn := hi.len
  unfold instrF
  generalize hA : argsF x.regs i.args = A at hal
  by_cases c1 : i.op = 1
  · have ht : t = 1 := by simp [arF, c1] at har; omega
    obtain ⟨v, hv⟩ := hdst (by omega)
    simp only [if_pos c1, hv, Option.bind_some, set_top, PFrame.regsTo, and_self]
  simp only [if_neg c1]
  by_cases c15 : i.op = 15
  · have htn : n = 1 ∧ t = 1 := by simp [arF, c15] at har; omega
    obtain ⟨v, hv⟩ := hdst (by omega)
    have h0 : idx A 0 = some (A.getD 0 0) := idx_getD (i := 0) (by omega) (by omega)
    simp only [if_pos c15, h0, Option.bind_some, run_word]
    by_cases hc : A.getD 0 0 ≥ 0 ∧ A.getD 0 0 < 64
    · have hc' : 0 ≤ A.getD 0 0 ∧ A.getD 0 0 < 64 := ⟨hc.1, hc.2⟩
      rw [decide_eq_true hc, if_pos hc']
      simp only [Bool.not_true, Bool.false_eq_true, if_false, mem_get _ hc'.1 hc'.2, Option.bind_some, hv, set_top, PFrame.regsTo, and_self]
    · have hc' : ¬ (0 ≤ A.getD 0 0 ∧ A.getD 0 0 < 64) := fun h => hc ⟨h.1, h.2⟩
      rw [decide_eq_false hc, if_neg hc']
      simp only [Bool.not_false, if_true, run_runner_trap, Option.bind_some, set_top, trapF, and_self]
  simp only [if_neg c15]
  by_cases c16 : i.op = 16
  · have htn : n = 2 ∧ t = 0 := by simp [arF, c16] at har; omega
    have h0 : idx A 0 = some (A.getD 0 0) := idx_getD (i := 0) (by omega) (by omega)
    have h1 : idx A 1 = some (A.getD 1 0) := idx_getD (i := 1) (by omega) (by omega)
    simp only [if_pos c16, h0, h1, Option.bind_some, run_word]
    by_cases hc : A.getD 0 0 ≥ 0 ∧ A.getD 0 0 < 64
    · have hc' : 0 ≤ A.getD 0 0 ∧ A.getD 0 0 < 64 := ⟨hc.1, hc.2⟩
      rw [decide_eq_true hc, if_pos hc']
      simp only [Bool.not_true, Bool.false_eq_true, if_false, mem_get _ hc'.1 hc'.2, Option.bind_some, set_top, and_self]
    · have hc' : ¬ (0 ≤ A.getD 0 0 ∧ A.getD 0 0 < 64) := fun h => hc ⟨h.1, h.2⟩
      rw [decide_eq_false hc, if_neg hc']
      simp only [Bool.not_false, if_true, run_runner_trap, Option.bind_some, set_top, trapF, and_self]
  simp only [if_neg c16]
  by_cases c18 : i.op = 18
  · have htn : n = 1 ∧ t = 0 := by simp [arF, c18] at har; omega
    have h0 : idx A 0 = some (A.getD 0 0) := idx_getD (i := 0) (by omega) (by omega)
    simp only [if_pos c18, h0, Option.bind_some, cat_big ho, set_top, and_self]
  simp only [if_neg c18]
  by_cases c17 : i.op = 17
  · have hfn : ∃ g, idx m.funcs i.fn = some g := by
      have h6a : ¬ (i.op = 2 ∨ i.op = 14) := by omega
      have h6b : ¬ (i.op ≥ 3 ∧ i.op ≤ 13) := by omega
      simp only [arF, if_neg h6a, if_neg h6b, if_neg c1, if_neg c15, if_neg c18, if_neg c16, if_pos c17] at har
      obtain ⟨g, hg, _⟩ := Option.map_eq_some_iff.1 har
      exact ⟨g, hg⟩
    obtain ⟨g, hg⟩ := hfn
    obtain ⟨g0, g1, _⟩ := idx_some hg
    have hgd : idx m.funcs i.fn = some (m.funcs.getD i.fn.toNat PFunc.zero) := idx_getD g0 (by omega)
    have hgm : m.funcs.getD i.fn.toNat PFunc.zero ∈ m.funcs := getD_mem g1
    have hgr := (hs.2 _ hgm).2.1
    have hmk : mkl (((m.funcs.getD i.fn.toNat PFunc.zero).regs.length : Nat) : Int) (0 : Int) = some (List.replicate (m.funcs.getD i.fn.toNat PFunc.zero).regs.length 0) := by
      generalize (m.funcs.getD i.fn.toNat PFunc.zero).regs.length = q at hgr
      have h1 : q < LIM := by simp only [LIM]; omega
      simp [mkl, len, h1]
    simp only [if_pos c17, run_runner_enter, hgd, Option.bind_some, len, hmk, set_top]
    rw [cat_big (by simpa using hf)]
    simp only [Option.bind_some, newF, and_self]
  simp only [if_neg c17]
  obtain ⟨ht, v, e, he⟩ := eval_some m i A n t har (by omega) c1 c15 c16 c17 c18
  obtain ⟨u, hu⟩ := hdst (by omega)
  rw [he, evalV_some he]
  simp only [Option.bind_some]
  by_cases hc : e = GErr.no
  · subst hc
    simp only [not_true, if_false, if_true, hu, Option.bind_some, set_top, PFrame.regsTo, and_self]
  · rw [if_pos hc, if_neg hc]
    simp only [run_runner_trap, Option.bind_some, set_top, trapF, and_self]

/-! ### Ends -/
theorem end_eq (m : PModule) (hp : Proper m) (hs : SmM m) (fs : List PFrame) (x : PFrame) (o : POutcome) (h : FrOk m x) (hf : fs.length + 1 ≤ BIG) (hdst : ∀ y, fs.getLast? = some y → x.dst < (y.regs.length : Int)) :
    run_runner_end ⟨m, ahs m, fs ++ [x], o⟩ x (fs.length : Int) (blOf m x).term = some ((endF m fs x o (blOf m x).term).1, (endF m fs x o (blOf m x).term).2.done, (endF m fs x o (blOf m x).term).2.value) ∧
      (endF m fs x o (blOf m x).term).2.trap = o.trap ∧ (endF m fs x o (blOf m x).term).2.out = o.out ∧ (endF m fs x o (blOf m x).term).2.steps = o.steps ∧ (endF m fs x o (blOf m x).term).2.memory = o.memory := by
  have hfo := hp.funcs _ h.fnm
  have hend := hfo.ends _ h.blm
  have hbk := hfo.blocks _ h.blm
  have hto : ∀ b ∈ (blOf m x).term.to, run_runner_to ⟨m, ahs m, fs ++ [x], o⟩ x (fs.length : Int) b = some (fs ++ [toF m x b]) := fun b hb => by
    rw [to_eq m hp hs (fs ++ [x]) o x _ b h hb, set_top]
  unfold run_runner_end endF
  by_cases k1 : (blOf m x).term.kind = 1
  · have hex : ∃ a, (blOf m x).term.to = [a] := by
      rcases hend.kind with ⟨_, h⟩ | ⟨h, _⟩ | ⟨h, _⟩
      · exact h
      · omega
      · omega
    obtain ⟨a, ha⟩ := hex
    have h0 : idx (blOf m x).term.to 0 = some a := by rw [ha]; rfl
    have h0' : (blOf m x).term.to.getD 0 0 = a := by rw [ha]; rfl
    simp only [if_pos k1, h0, Option.bind_some, hto a (by rw [ha]; simp), h0', and_self]
  simp only [if_neg k1]
  by_cases k2 : (blOf m x).term.kind = 2
  · have hex : ∃ a b, (blOf m x).term.to = [a, b] := by
      rcases hend.kind with ⟨h, _⟩ | ⟨_, a, b, h, _⟩ | ⟨h, _⟩
      · omega
      · exact ⟨a, b, h⟩
      · omega
    obtain ⟨a, b, ha⟩ := hex
    have h0 : idx (blOf m x).term.to 0 = some a := by rw [ha]; rfl
    have h0' : (blOf m x).term.to.getD 0 0 = a := by rw [ha]; rfl
    have h1 : idx (blOf m x).term.to 1 = some b := by rw [ha]; rfl
    have h1' : (blOf m x).term.to.getD 1 0 = b := by rw [ha]; rfl
    have harg : hasR (fnOf m x) (blOf m x).term.arg := by
      have := hbk.term
      unfold EndOk at this
      rw [if_neg (by omega)] at this
      exact this.has
    simp only [if_pos k2, rg_some harg.1 (show _ < (x.regs.length : Int) by rw [h.regs]; exact harg.2), Option.bind_some, h0, h1, hto a (by rw [ha]; simp), hto b (by rw [ha]; simp), h0', h1', run_runner_end.jn21]
    by_cases hc : rg x.regs (blOf m x).term.arg = 0
    · rw [if_neg (by simpa using hc), if_neg (by simpa using hc)]; simp
    · rw [if_pos (by simpa using hc), if_pos (by simpa using hc)]; simp
  simp only [if_neg k2]
  -- the return
  have hret : ∀ v, run_runner_end.jn40 ⟨m, ahs m, fs ++ [x], o⟩ x (fs.length : Int) v = some ((backF fs x.dst v o).1, (backF fs x.dst v o).2.done, (backF fs x.dst v o).2.value) ∧ (backF fs x.dst v o).2.trap = o.trap ∧ (backF fs x.dst v o).2.out = o.out ∧ (backF fs x.dst v o).2.steps = o.steps ∧ (backF fs x.dst v o).2.memory = o.memory := by
    intro v
    unfold run_runner_end.jn40
    simp only [set_top]
    have hlen : w64 ((len (fs ++ [x])) - 1) = ((fs.length : Nat) : Int) := by
      simp only [BIG] at hf
      simp only [len, List.length_append, List.length_singleton]
      rw [w64_id ⟨by omega, by omega⟩]; omega
    have hup : upto (fs ++ [x]) ((fs.length : Nat) : Int) = some fs := by
      simp [upto]
    rw [hlen, hup]
    simp only [Option.bind_some, run_runner_end.jn49]
    unfold backF
    rcases List.eq_nil_or_concat fs with h0 | ⟨gs, y, hy⟩
    · subst h0
      simp [len]
    · rw [List.concat_eq_append] at hy
      subst hy
      have hgl : (gs ++ [y]).getLast? = some y := by simp
      have hdl : (gs ++ [y]).dropLast = gs := by simp
      have hne : ¬ len (gs ++ [y]) = 0 := by simp only [len, List.length_append, List.length_singleton]; omega
      have hw : w64 ((len (gs ++ [y])) - 1) = ((gs.length : Nat) : Int) := by
        simp only [BIG, List.length_append, List.length_singleton] at hf
        simp only [len, List.length_append, List.length_singleton]
        rw [w64_id ⟨by omega, by omega⟩]; omega
      have hix : idx (gs ++ [y]) ((gs.length : Nat) : Int) = some y := by rw [idx_nat]; simp
      rw [if_neg hne]
      simp only [hgl, hdl, hw, hix, Option.bind_some]
      by_cases hd : x.dst ≥ 0
      · have hdr := hdst y hgl
        rw [if_pos hd, if_pos hd, rg_some hd hdr]
        simp only [Option.bind_some, set_top, PFrame.regsTo, and_self]
      · rw [if_neg hd, if_neg hd]; simp
  by_cases ha : (blOf m x).term.arg ≥ 0
  · have harg : hasR (fnOf m x) (blOf m x).term.arg := by
      have := hbk.term
      unfold EndOk at this
      split at this
      · omega
      · exact this.has
    simp only [if_pos ha, rg_some harg.1 (show _ < (x.regs.length : Int) by rw [h.regs]; exact harg.2), Option.bind_some]
    exact hret _
  · simp only [if_neg ha]
    exact hret _

/-! ### Steps -/
def Link (l : List PFrame) : Prop := ∀ (i : Nat) (a b : PFrame), l[i]? = some b → l[i + 1]? = some a → a.dst < (b.regs.length : Int)
theorem Link.pre {l r : List PFrame} (h : Link (l ++ r)) : Link l := fun i a b h1 h2 => by
  have g1 := (List.getElem?_eq_some_iff.1 h1).1
  have g2 := (List.getElem?_eq_some_iff.1 h2).1
  exact h i a b (by rw [List.getElem?_append_left g1]; exact h1) (by rw [List.getElem?_append_left g2]; exact h2)
theorem Link.snoc {l : List PFrame} {x : PFrame} (h : Link l) (hx : ∀ y, l.getLast? = some y → x.dst < (y.regs.length : Int)) : Link (l ++ [x]) := fun i a b h1 h2 => by
  rcases Nat.lt_or_ge (i + 1) l.length with hi | hi
  · rw [List.getElem?_append_left hi] at h2
    rw [List.getElem?_append_left (by omega)] at h1
    exact h i a b h1 h2
  · have g2 := (List.getElem?_eq_some_iff.1 h2).1
    simp only [List.length_append, List.length_singleton] at g2
    have hil : i + 1 = l.length := by omega
    rw [List.getElem?_append_left (by omega)] at h1
    rw [List.getElem?_append_right (by omega), hil, Nat.sub_self] at h2
    simp only [List.getElem?_cons_zero, Option.some.injEq] at h2
    subst h2
    refine hx b ?_
    rw [List.getLast?_eq_getElem?, show l.length - 1 = i by omega]; exact h1
theorem Link.last {l : List PFrame} {x : PFrame} (h : Link (l ++ [x])) : ∀ y, l.getLast? = some y → x.dst < (y.regs.length : Int) := fun y hy => by
  rw [List.getLast?_eq_getElem?] at hy
  have g := (List.getElem?_eq_some_iff.1 hy).1
  refine h (l.length - 1) x y (by rw [List.getElem?_append_left g]; exact hy) ?_
  rw [show l.length - 1 + 1 = l.length by omega, List.getElem?_append_right (Nat.le_refl _), Nat.sub_self]; rfl
theorem Link.top {l : List PFrame} {x x' : PFrame} (h : Link (l ++ [x])) (hd : x'.dst = x.dst) : Link (l ++ [x']) := h.pre.snoc fun y hy => by rw [hd]; exact h.last y hy
structure Wf (m : PModule) (fs : List PFrame) (x : PFrame) : Prop where
  all : ∀ y ∈ fs, FrOk m y
  top : FrOk m x
  link : Link (fs ++ [x])
theorem regsTo_ok {m : PModule} {x : PFrame} (h : FrOk m x) {r : List Int} (hr : r.length = x.regs.length) : FrOk m (x.regsTo r) := ⟨h.f0, h.f1, hr.trans h.regs, h.b0, h.b1, h.a0, h.a1⟩
theorem newF_ok (m : PModule) (hp : Proper m) (f : Int) (h0 : 0 ≤ f) (h1 : f < (m.funcs.length : Int)) (args : List Int) (dst : Int) (hl : args.length ≤ (m.funcs.getD f.toNat PFunc.zero).regs.length) : FrOk m (newF m f args dst) := by
  have hm : m.funcs.getD f.toNat PFunc.zero ∈ m.funcs := getD_mem (by omega)
  have hf := hp.funcs _ hm
  refine ⟨h0, h1, ?_, Int.le_refl _, ?_, Int.le_refl _, ?_⟩
  · show (cpy _ args).length = _
    unfold cpy
    simp only [List.length_append, List.length_take, List.length_drop, List.length_replicate, fnOf, newF]
    omega
  · show (0 : Int) < ((fnOf m (newF m f args dst)).blocks.length : Int)
    have := hf.small.pos
    show (0 : Int) < (((m.funcs.getD f.toNat PFunc.zero).blocks.length : Nat) : Int)
    omega
  · show (0 : Int) ≤ _
    omega
theorem instrF_wf (m : PModule) (hp : Proper m) (fs : List PFrame) (x : PFrame) (o : POutcome) (i : PInstr) (n t : Int) (h : Wf m fs x) (hi : InstrOk m (fnOf m x) i n t) :
    ∃ fs' x', (instrF m fs x o i).1 = fs' ++ [x'] ∧ Wf m fs' x' ∧ fs'.length ≤ fs.length + 1 ∧ ((instrF m fs x o i).2.out = o.out ∨ ∃ v, (instrF m fs x o i).2.out = o.out ++ [v]) := by
  have same : ∀ r : List Int, r.length = x.regs.length → Wf m fs (x.regsTo r) := fun r hr => ⟨h.all, regsTo_ok h.top hr, h.link.top rfl⟩
  unfold instrF
  simp only
  by_cases c1 : i.op = 1
  · rw [if_pos c1]; exact ⟨fs, _, rfl, same _ (by simp), Nat.le_succ _, .inl rfl⟩
  rw [if_neg c1]
  by_cases c15 : i.op = 15
  · rw [if_pos c15]
    split
    · exact ⟨fs, _, rfl, same _ (by simp), Nat.le_succ _, .inl rfl⟩
    · exact ⟨fs, x, rfl, h, Nat.le_succ _, .inl rfl⟩
  rw [if_neg c15]
  by_cases c16 : i.op = 16
  · rw [if_pos c16]
    split
    · exact ⟨fs, x, rfl, h, Nat.le_succ _, .inl rfl⟩
    · exact ⟨fs, x, rfl, h, Nat.le_succ _, .inl rfl⟩
  rw [if_neg c16]
  by_cases c18 : i.op = 18
  · rw [if_pos c18]
    exact ⟨fs, x, rfl, h, Nat.le_succ _, .inr ⟨_, rfl⟩⟩
  rw [if_neg c18]
  by_cases c17 : i.op = 17
  · rw [if_pos c17]
    have hfit := hi.fits
    unfold FitsOk at hfit
    simp only [if_neg c1, show ¬ i.op = 2 by omega, if_false, show ¬ (i.op = 12 ∨ i.op = 13) by omega, show ¬ i.op = 14 by omega, show ¬ (i.op = 18 ∨ i.op = 16) by omega, if_pos c17] at hfit
    obtain ⟨g, hg⟩ := hfit
    obtain ⟨g0, g1, g2⟩ := idx_some hg.fn
    have hgd : m.funcs.getD i.fn.toNat PFunc.zero = g := by rw [List.getD_eq_getElem?_getD, g2]; rfl
    have har := hi.ar
    have h6a : ¬ (i.op = 2 ∨ i.op = 14) := by omega
    have h6b : ¬ (i.op ≥ 3 ∧ i.op ≤ 13) := by omega
    simp only [arF, if_neg h6a, if_neg h6b, if_neg c1, if_neg c15, if_neg c18, if_neg c16, if_pos c17, hg.fn, Option.map_some, Option.some.injEq, Prod.mk.injEq] at har
    have hlen := hi.len
    have hle := hg.le
    refine ⟨fs ++ [x], _, rfl, ⟨fun y hy => ?_, newF_ok m hp i.fn g0 (by omega) _ _ ?_, h.link.snoc fun y hy => ?_⟩, by simp, .inl rfl⟩
    · rcases List.mem_append.1 hy with hy | hy
      · exact h.all y hy
      · rw [List.mem_singleton.1 hy]; exact h.top
    · rw [hgd]; simp only [argsF, List.length_map]; omega
    · simp only [List.getLast?_append, List.getLast?_singleton, Option.some_or, Option.some.injEq] at hy
      subst hy
      show i.dst < _
      rw [h.top.regs]
      by_cases ht : t = 0
      · have := hi.none ht; omega
      · exact (hi.dst ht).2
  rw [if_neg c17]
  split
  · exact ⟨fs, _, rfl, same _ (by simp), Nat.le_succ _, .inl rfl⟩
  · exact ⟨fs, x, rfl, h, Nat.le_succ _, .inl rfl⟩
theorem endF_wf (m : PModule) (hp : Proper m) (fs : List PFrame) (x : PFrame) (o : POutcome) (h : Wf m fs x) :
    ((endF m fs x o (blOf m x).term).2.done = true ∨ ∃ fs' x', (endF m fs x o (blOf m x).term).1 = fs' ++ [x'] ∧ Wf m fs' x' ∧ fs'.length ≤ fs.length) := by
  have hend := (hp.funcs _ h.top.fnm).ends _ h.top.blm
  have go : ∀ b ∈ (blOf m x).term.to, Wf m fs (toF m x b) := fun b hb => ⟨h.all, toF_ok m hp x h.top b hb, h.link.top rfl⟩
  unfold endF
  by_cases k1 : (blOf m x).term.kind = 1
  · rw [if_pos k1]
    have hex : ∃ a, (blOf m x).term.to = [a] := by
      rcases hend.kind with ⟨_, h⟩ | ⟨h, _⟩ | ⟨h, _⟩
      · exact h
      · omega
      · omega
    obtain ⟨a, ha⟩ := hex
    exact .inr ⟨fs, _, rfl, go _ (by rw [ha]; simp), Nat.le_refl _⟩
  rw [if_neg k1]
  by_cases k2 : (blOf m x).term.kind = 2
  · rw [if_pos k2]
    have hex : ∃ a b, (blOf m x).term.to = [a, b] := by
      rcases hend.kind with ⟨h, _⟩ | ⟨_, a, b, h, _⟩ | ⟨h, _⟩
      · omega
      · exact ⟨a, b, h⟩
      · omega
    obtain ⟨a, b, ha⟩ := hex
    split
    · exact .inr ⟨fs, _, rfl, go _ (by rw [ha]; simp), Nat.le_refl _⟩
    · exact .inr ⟨fs, _, rfl, go _ (by rw [ha]; simp), Nat.le_refl _⟩
  rw [if_neg k2]
  unfold backF
  rcases List.eq_nil_or_concat fs with h0 | ⟨gs, y, hy⟩
  · subst h0; exact .inl rfl
  · rw [List.concat_eq_append] at hy
    subst hy
    right
    have hgl : (gs ++ [y]).getLast? = some y := by simp
    have hdl : (gs ++ [y]).dropLast = gs := by simp
    have hly := h.link.pre
    have hyo := h.all y (by simp)
    have hga : ∀ z ∈ gs, FrOk m z := fun z hz => h.all z (List.mem_append_left _ hz)
    simp only [hgl, hdl]
    split
    · exact ⟨gs, _, rfl, ⟨hga, regsTo_ok hyo (by simp), hly.top rfl⟩, by simp⟩
    · exact ⟨gs, y, rfl, ⟨hga, hyo, hly⟩, by simp⟩
theorem step_eq (m : PModule) (hp : Proper m) (hs : SmM m) (fs : List PFrame) (x : PFrame) (o : POutcome) (h : Wf m fs x) (hf : fs.length + 1 ≤ BIG) (ho : o.out.length ≤ BIG) :
    run_runner_step ⟨m, ahs m, fs ++ [x], o⟩ = some ((stepF m fs x o).1, (stepF m fs x o).2.done, (stepF m fs x o).2.trap, (stepF m fs x o).2.value, (stepF m fs x o).2.out, (stepF m fs x o).2.memory) ∧ (stepF m fs x o).2.steps = o.steps ∧
      ((stepF m fs x o).2.done = true ∨ ∃ fs' x', (stepF m fs x o).1 = fs' ++ [x'] ∧ Wf m fs' x' ∧ fs'.length ≤ fs.length + 1) ∧ ((stepF m fs x o).2.out = o.out ∨ ∃ v, (stepF m fs x o).2.out = o.out ++ [v]) := by
  have hlen : w64 ((len (fs ++ [x])) - 1) = ((fs.length : Nat) : Int) := by
    simp only [BIG] at hf
    simp only [len, List.length_append, List.length_singleton]
    rw [w64_id ⟨by omega, by omega⟩]; omega
  have hix : idx (fs ++ [x]) ((fs.length : Nat) : Int) = some x := by rw [idx_nat]; simp
  unfold run_runner_step stepF
  simp only [hlen, hix, Option.bind_some, h.top.fn, h.top.bl]
  by_cases hc : x.at_ = ((blOf m x).ins.length : Int)
  · obtain ⟨e1, e2, e3, e4, e5⟩ := end_eq m hp hs fs x o h.top hf h.link.last
    rw [if_pos hc, if_pos hc, e1]
    simp only [Option.bind_some, e2, e3, e5, e4, true_and]
    refine ⟨?_, .inl trivial⟩
    rcases endF_wf m hp fs x o h with h1 | ⟨fs', x', h1, h2, h3⟩
    · exact .inl h1
    · exact .inr ⟨fs', x', h1, h2, by omega⟩
  · have h0 := h.top.a0
    have h1 := h.top.a1
    have hfo := hp.funcs _ h.top.fnm
    have hai : x.at_ < ((blOf m x).ins.length : Int) := by omega
    have hgi : idx (blOf m x).ins x.at_ = some ((blOf m x).ins.getD x.at_.toNat PInstr.zero) := idx_getD h0 hai
    have him : (blOf m x).ins.getD x.at_.toNat PInstr.zero ∈ (blOf m x).ins := getD_mem (by omega)
    have hsb := (hs.2 _ h.top.fnm).2.2.2 _ h.top.blm
    have hw : w64 (x.at_ + 1) = x.at_ + 1 := by
      have := hsb.1
      exact w64_id ⟨by omega, by omega⟩
    obtain ⟨n, t, hin⟩ := (hfo.blocks _ h.top.blm).ins _ him
    have hx' : FrOk m ⟨x.f, x.regs, x.block, x.at_ + 1, x.dst⟩ := ⟨h.top.f0, h.top.f1, h.top.regs, h.top.b0, h.top.b1, by show 0 ≤ x.at_ + 1; omega, by show x.at_ + 1 ≤ _; exact hai⟩
    have hw' : Wf m fs ⟨x.f, x.regs, x.block, x.at_ + 1, x.dst⟩ := ⟨h.all, hx', h.link.top rfl⟩
    obtain ⟨e1, e2, e3⟩ := instr_eq m hs fs x ⟨x.f, x.regs, x.block, x.at_ + 1, x.dst⟩ o _ n t hx' hin (hsb.2.2.2.1 _ him) hf ho
    rw [if_neg (by simpa [len] using hc), if_neg hc, hgi]
    simp only [Option.bind_some, hw, e1, e2, e3, true_and]
    obtain ⟨fs', x', g1, g2, g3, g4⟩ := instrF_wf m hp fs ⟨x.f, x.regs, x.block, x.at_ + 1, x.dst⟩ o _ n t hw' hin
    exact ⟨.inr ⟨fs', x', g1, g2, g3⟩, g4⟩
end Go.Proofs.Ytoflleabpkgdpaa
