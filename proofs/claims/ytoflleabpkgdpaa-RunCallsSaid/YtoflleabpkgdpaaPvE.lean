/- Plain laws, part v-E: a module with a caller at its end; the law RunCalls. No conditions. -/
import Derived.Test.YtoflleabpkgdpaaPvC
import Derived.Test.YtoflleabpkgdpaaR5
set_option linter.unusedVariables false
set_option linter.unusedSimpArgs false
namespace Go.Proofs.Ytoflleabpkgdpaa
open Go Go.Proofs

/-! ### The longer module -/
def callW (g : PFunc) (f : Int) : PFunc :=
  let d : Int := if ¬ g.result = 0 then g.params else -1
  ⟨g.params, g.result, (if ¬ g.result = 0 then g.regs.take g.params.toNat ++ [g.result] else g.regs.take g.params.toNat),
    [⟨[], [⟨17, d, (List.range g.params.toNat).map fun (i : Nat) => (i : Int), 0, f⟩], ⟨3, d, []⟩⟩]⟩
def moreM (m : PModule) (w : PFunc) : PModule := ⟨m.funcs ++ [w]⟩
theorem idx_more {m : PModule} {w : PFunc} {k : Int} {g : PFunc} (h : idx m.funcs k = some g) : idx (moreM m w).funcs k = some g := by
  obtain ⟨h0, h1, h2⟩ := idx_some h
  simp only [idx, if_pos h0, moreM]
  rw [List.getElem?_append_left h1]; exact h2
theorem arF_more {m : PModule} {w : PFunc} {x : PInstr} {n t : Int} (h : arF m x = some (n, t)) : arF (moreM m w) x = some (n, t) := by
  unfold arF at h ⊢
  by_cases h1 : x.op = 2 ∨ x.op = 14
  · rwa [if_pos h1] at h ⊢
  rw [if_neg h1] at h ⊢
  by_cases h2 : x.op ≥ 3 ∧ x.op ≤ 13
  · rwa [if_pos h2] at h ⊢
  rw [if_neg h2] at h ⊢
  by_cases h3 : x.op = 1
  · rwa [if_pos h3] at h ⊢
  rw [if_neg h3] at h ⊢
  by_cases h4 : x.op = 15
  · rwa [if_pos h4] at h ⊢
  rw [if_neg h4] at h ⊢
  by_cases h5 : x.op = 18
  · rwa [if_pos h5] at h ⊢
  rw [if_neg h5] at h ⊢
  by_cases h6 : x.op = 16
  · rwa [if_pos h6] at h ⊢
  rw [if_neg h6] at h ⊢
  by_cases h7 : x.op = 17
  · rw [if_pos h7] at h ⊢
    cases hg : idx m.funcs x.fn with
    | none => rw [hg] at h; cases h
    | some g => rw [idx_more hg]; rwa [hg] at h
  · rw [if_neg h7] at h; cases h
theorem fits_more {m : PModule} {w f : PFunc} {x : PInstr} (h : FitsOk m f x) : FitsOk (moreM m w) f x := by
  unfold FitsOk at h ⊢
  by_cases h7 : x.op = 17
  · simp only [h7] at h ⊢
    simp only [show ¬ (17 : Int) = 1 by omega, show ¬ (17 : Int) = 2 by omega, show ¬ ((17 : Int) = 12 ∨ (17 : Int) = 13) by omega, show ¬ (17 : Int) = 14 by omega, show ¬ ((17 : Int) = 18 ∨ (17 : Int) = 16) by omega, if_false, if_true] at h ⊢
    obtain ⟨g, hg⟩ := h
    exact ⟨g, ⟨idx_more hg.fn, hg.nn, hg.le, hg.args, hg.res⟩⟩
  · rw [if_neg h7] at h ⊢; exact h
theorem block_more {m : PModule} {w f : PFunc} {B : PBlock} (h : BlockOk m f B) : BlockOk (moreM m w) f B :=
  ⟨h.phis, fun x hx => by obtain ⟨n, t, hi⟩ := h.ins x hx; exact ⟨n, t, ⟨arF_more hi.ar, hi.len, hi.args, hi.dst, hi.none, hi.imm, hi.fn, fits_more hi.fits⟩⟩, h.term⟩
theorem func_more {m : PModule} {w f : PFunc} (h : FuncOk m f) : FuncOk (moreM m w) f := ⟨h.small, h.typed, h.ends, h.ahead, fun B hB => block_more (h.blocks B hB)⟩

theorem callW_regs (g : PFunc) (f : Int) (ht : TypedOk g) (i : Nat) (hi : (i : Int) < g.params) : (callW g f).regs[i]? = g.regs[i]? := by
  have h1 : i < g.params.toNat := by omega
  have h2 := ht.le
  have h3 : (g.regs.take g.params.toNat)[i]? = g.regs[i]? := by rw [List.getElem?_take, if_pos h1]
  unfold callW
  simp only
  split
  · rw [List.getElem?_append_left (by rw [List.length_take]; omega)]; exact h3
  · exact h3
theorem callW_len (g : PFunc) (f : Int) (ht : TypedOk g) : (g.params : Int) ≤ ((callW g f).regs.length : Int) ∧ (callW g f).regs.length ≤ 9 := by
  have h1 := ht.nn
  have h2 := ht.le
  have h3 := ht.few
  have : (g.regs.take g.params.toNat).length = g.params.toNat := by rw [List.length_take]; omega
  unfold callW
  simp only
  split
  · rw [List.length_append, this, List.length_singleton]; omega
  · rw [this]; omega
theorem callW_res (g : PFunc) (f : Int) (ht : TypedOk g) (hr : ¬ g.result = 0) : tyR (callW g f) g.params g.result := by
  have h1 := ht.nn
  have h2 := ht.le
  unfold tyR callW
  simp only [if_pos hr]
  have : (g.regs.take g.params.toNat).length = g.params.toNat := by rw [List.length_take]; omega
  simp only [idx, if_pos h1]
  rw [List.getElem?_append_right (by omega), this, Nat.sub_self]; rfl
theorem callW_ok (m : PModule) (f : Int) (g : PFunc) (hg : idx m.funcs f = some g) (ht : TypedOk g) (h31 : m.funcs.length ≤ 31) : FuncOk (moreM m (callW g f)) (callW g f) := by
  have h1 := ht.nn
  have h2 := ht.le
  have h3 := ht.few
  obtain ⟨l1, l2⟩ := callW_len g f ht
  have hreg : ∀ i : Nat, (i : Int) < g.params → ∃ t, idx g.regs (i : Int) = some t ∧ tyR (callW g f) (i : Int) t := fun i hi => by
    have hig : i < g.regs.length := by omega
    refine ⟨g.regs[i], idx_lt hig, ?_⟩
    unfold tyR
    rw [idx_nat, callW_regs g f ht i hi]; exact List.getElem?_eq_getElem hig
  have hpar : (callW g f).params = g.params := rfl
  have hres : (callW g f).result = g.result := rfl
  have hbl : (callW g f).blocks = [⟨[], [⟨17, if ¬ g.result = 0 then g.params else -1, (List.range g.params.toNat).map fun (i : Nat) => (i : Int), 0, f⟩], ⟨3, if ¬ g.result = 0 then g.params else -1, []⟩⟩] := rfl
  refine ⟨⟨by rw [hbl]; simp, by rw [hbl]; simp, by omega, by unfold insCount; rw [hbl]; simp⟩, ⟨fun t htm => ?_, h1, h3, by rw [hpar]; exact l1, ht.res⟩, fun B hB => ?_, fun i hi p hp => ?_, fun B hB => ?_⟩
  · unfold callW at htm
    simp only at htm
    split at htm
    · rcases List.mem_append.1 htm with h | h
      · exact ht.regs t (List.mem_of_mem_take h)
      · rw [List.mem_singleton.1 h]
        rcases ht.res with h | h
        · contradiction
        · exact h
    · exact ht.regs t (List.mem_of_mem_take htm)
  · rw [hbl, List.mem_singleton] at hB
    subst hB
    exact ⟨fun x hx => by simp at hx, .inr (.inr ⟨rfl, rfl⟩)⟩
  · have hm : (callW g f).blocks[i] ∈ (callW g f).blocks := List.getElem_mem hi
    generalize (callW g f).blocks[i] = B at hm hp
    rw [hbl, List.mem_singleton] at hm
    subst hm; simp at hp
  · rw [hbl, List.mem_singleton] at hB
    subst hB
    refine ⟨fun p hp => by simp at hp, fun x hx => ?_, ?_⟩
    · simp only [List.mem_singleton] at hx
      subst hx
      refine ⟨g.params, g.result, ⟨?_, ?_, fun a ha => ?_, fun hr => ?_, fun hr => ?_, fun _ => rfl, fun h => absurd rfl h, ?_⟩⟩
      · simp [arF, idx_more hg]
      · simp; omega
      · simp only [List.mem_map, List.mem_range] at ha
        obtain ⟨i, hi, rfl⟩ := ha
        obtain ⟨t, _, h⟩ := hreg i (by omega)
        exact h.has
      · simp only [if_pos hr]; exact (callW_res g f ht hr).has
      · simp [hr]
      · simp only [FitsOk, show ¬ (17 : Int) = 1 by omega, show ¬ (17 : Int) = 2 by omega, show ¬ ((17 : Int) = 12 ∨ (17 : Int) = 13) by omega, show ¬ (17 : Int) = 14 by omega, show ¬ ((17 : Int) = 18 ∨ (17 : Int) = 16) by omega, if_false, if_true]
        refine ⟨g, ⟨idx_more hg, h1, h2, fun i hi => ?_, ?_⟩⟩
        · have hi' : i < g.params.toNat := by simpa using hi
          obtain ⟨t, e1, e2⟩ := hreg i (by omega)
          refine ⟨t, e1, ?_⟩
          simpa using e2
        · by_cases hr : g.result = 0
          · exact .inl hr
          · simp only [if_pos hr]; exact .inr (callW_res g f ht hr)
    · unfold EndOk
      simp only [hres, if_true, true_and, show ¬ (3 : Int) = 1 by omega, false_or]
      by_cases hr : g.result = 0
      · rw [if_pos hr]; simp [hr]
      · rw [if_neg hr]; simp only [if_pos hr]; exact callW_res g f ht hr
theorem more_sm (m : PModule) (f : Int) (g : PFunc) (ht : TypedOk g) (hs : SmM m) (h31 : m.funcs.length ≤ 31) : SmM (moreM m (callW g f)) := by
  have h3 := ht.few
  obtain ⟨l1, l2⟩ := callW_len g f ht
  refine ⟨by simp [moreM]; omega, fun x hx => ?_⟩
  rcases List.mem_append.1 hx with h | h
  · exact hs.2 x h
  · rw [List.mem_singleton.1 h]
    refine ⟨by simp [callW], by omega, by show g.params ≤ 1000; omega, fun B hB => ?_⟩
    simp only [callW, List.mem_singleton] at hB
    subst hB
    refine ⟨by simp, by simp, by simp, fun i hi => ?_, fun p hp => by simp at hp⟩
    simp only [List.mem_singleton] at hi
    subst hi
    simp; omega
theorem more_proper (m : PModule) (f : Int) (g : PFunc) (hp : Proper m) (hg : idx m.funcs f = some g) (h31 : m.funcs.length ≤ 31) : Proper (moreM m (callW g f)) := by
  have hgm : g ∈ m.funcs := by
    obtain ⟨_, h1, h2⟩ := idx_some hg
    exact List.mem_of_getElem? h2
  refine ⟨by simp [moreM]; omega, fun x hx => ?_⟩
  rcases List.mem_append.1 hx with h | h
  · exact func_more (hp.funcs x h)
  · rw [List.mem_singleton.1 h]
    exact callW_ok m f g hg (hp.funcs g hgm).typed h31

/-! ### The two runs, step by step -/
def dT (d : Int) (x : PFrame) : PFrame := ⟨x.f, x.regs, x.block, x.at_, d⟩
def lf (W : PFrame) (d : Int) : List PFrame → List PFrame
  | [] => [W]
  | a :: r => W :: dT d a :: r
theorem fnOf_more {m : PModule} {w : PFunc} {x : PFrame} (h : FrOk m x) : fnOf (moreM m w) x = fnOf m x := by
  have h1 := h.f0
  have h2 := h.f1
  have h3 : x.f.toNat < m.funcs.length := by omega
  unfold fnOf moreM
  rw [List.getD_eq_getElem?_getD, List.getD_eq_getElem?_getD, List.getElem?_append_left h3]
theorem newF_more {m : PModule} {w : PFunc} {k : Int} {args : List Int} {d : Int} (h0 : 0 ≤ k) (h1 : k < (m.funcs.length : Int)) : newF (moreM m w) k args d = newF m k args d := by
  have h3 : k.toNat < m.funcs.length := by omega
  unfold newF moreM
  rw [List.getD_eq_getElem?_getD, List.getD_eq_getElem?_getD, List.getElem?_append_left h3]
theorem instr_lf (m : PModule) (w : PFunc) (P : List PFrame) (fs : List PFrame) (d : Int) (x : PFrame) (o : POutcome) (i : PInstr) (hfn : i.op = 17 → 0 ≤ i.fn ∧ i.fn < (m.funcs.length : Int)) (ho : o.done = false) :
    ∃ y r o2, instrF m fs x o i = (fs ++ y :: r, o2) ∧ y.f = x.f ∧ instrF (moreM m w) P x (tick o) i = (P ++ y :: r, tick o2) ∧ instrF (moreM m w) P (dT d x) (tick o) i = (P ++ dT d y :: r, tick o2) ∧
      ((o2.done = false ∧ o2.trap = o.trap ∧ o2.value = o.value) ∨ (o2.done = true ∧ ¬ o2.trap = 0)) := by
  unfold instrF
  simp only
  have h0 : (dT d x).regs = x.regs := rfl
  rw [h0]
  by_cases c1 : i.op = 1
  · simp only [if_pos c1]; exact ⟨_, [], o, rfl, rfl, rfl, rfl, .inl ⟨ho, rfl, rfl⟩⟩
  simp only [if_neg c1]
  by_cases c15 : i.op = 15
  · simp only [if_pos c15]
    split
    · exact ⟨_, [], o, rfl, rfl, rfl, rfl, .inl ⟨ho, rfl, rfl⟩⟩
    · exact ⟨_, [], _, rfl, rfl, rfl, rfl, .inr ⟨rfl, by simp [trapF]⟩⟩
  simp only [if_neg c15]
  by_cases c16 : i.op = 16
  · simp only [if_pos c16]
    split
    · exact ⟨_, [], _, rfl, rfl, rfl, rfl, .inl ⟨ho, rfl, rfl⟩⟩
    · exact ⟨_, [], _, rfl, rfl, rfl, rfl, .inr ⟨rfl, by simp [trapF]⟩⟩
  simp only [if_neg c16]
  by_cases c18 : i.op = 18
  · simp only [if_pos c18]; exact ⟨_, [], _, rfl, rfl, rfl, rfl, .inl ⟨ho, rfl, rfl⟩⟩
  simp only [if_neg c18]
  by_cases c17 : i.op = 17
  · simp only [if_pos c17]
    obtain ⟨f0, f1⟩ := hfn c17
    rw [newF_more f0 f1]
    exact ⟨x, [newF m i.fn (argsF x.regs i.args) i.dst], o, by simp, rfl, by simp, by simp, .inl ⟨ho, rfl, rfl⟩⟩
  simp only [if_neg c17]
  split
  · exact ⟨_, [], o, rfl, rfl, rfl, rfl, .inl ⟨ho, rfl, rfl⟩⟩
  · exact ⟨_, [], _, rfl, rfl, rfl, rfl, .inr ⟨rfl, by simp [trapF]⟩⟩
theorem lf_snoc (W : PFrame) (d : Int) (a : PFrame) (r : List PFrame) (y : List PFrame) : lf W d (a :: r ++ y) = W :: dT d a :: r ++ y := rfl
/-- What a step comes to in the longer module: the same above the caller's frame, or the bottom frame gives its value back to the caller. -/
theorem step_lf (m : PModule) (hp : Proper m) (w : PFunc) (W : PFrame) (d f : Int) (fs : List PFrame) (x : PFrame) (o : POutcome) (h : Wf m fs x) (hd : o.done = false) (hf : ∀ a r, fs ++ [x] = a :: r → a.f = f) :
    ∃ fs' x', lf W d (fs ++ [x]) = fs' ++ [x'] ∧
      ((stepF (moreM m w) fs' x' (tick o) = (lf W d (stepF m fs x o).1, tick (stepF m fs x o).2) ∧ (∀ a r, (stepF m fs x o).1 = a :: r → a.f = f) ∧
          (((stepF m fs x o).2.done = false ∧ (stepF m fs x o).2.trap = o.trap ∧ (stepF m fs x o).2.value = o.value) ∨ ((stepF m fs x o).2.done = true ∧ ¬ (stepF m fs x o).2.trap = 0))) ∨
        (fs = [] ∧ ∃ v, (stepF m fs x o) = ([], ⟨true, o.trap, v, o.out, o.steps, o.memory⟩) ∧ stepF (moreM m w) fs' x' (tick o) = backF [W] d v (tick o) ∧ ((m.funcs.getD f.toNat PFunc.zero).result = 0 → v = 0))) := by
  have hfx : fnOf (moreM m w) x = fnOf m x := fnOf_more h.top
  have hfd : fnOf (moreM m w) (dT d x) = fnOf m x := hfx
  have hbx : blOf (moreM m w) x = blOf m x := by unfold blOf; rw [hfx]
  have hbd : blOf (moreM m w) (dT d x) = blOf m x := hbx
  have htx : ∀ b, toF (moreM m w) x b = toF m x b := fun b => by unfold toF; rw [hfx]
  have htd : ∀ b, toF (moreM m w) (dT d x) b = dT d (toF m x b) := fun b => by unfold toF dT; rw [show fnOf (moreM m w) ⟨x.f, x.regs, x.block, x.at_, d⟩ = fnOf m x from hfd]
  -- where the frames are split
  have hsp : (fs = [] ∧ lf W d (fs ++ [x]) = [W] ++ [dT d x]) ∨ ∃ a r, fs = a :: r ∧ lf W d (fs ++ [x]) = (W :: dT d a :: r) ++ [x] := by
    cases fs with
    | nil => exact .inl ⟨rfl, rfl⟩
    | cons a r => exact .inr ⟨a, r, rfl, rfl⟩
  unfold stepF
  by_cases hc : x.at_ = ((blOf m x).ins.length : Int)
  · rw [if_pos hc]
    -- an end
    have hto : ∀ b, ∃ fs' x', lf W d (fs ++ [x]) = fs' ++ [x'] ∧ fs' ++ [toF (moreM m w) x' b] = lf W d (fs ++ [toF m x b]) ∧ blOf (moreM m w) x' = blOf m x ∧ x'.at_ = x.at_ ∧ x'.regs = x.regs ∧ (∀ a r, fs ++ [toF m x b] = a :: r → a.f = f) := by
      intro b
      rcases hsp with ⟨h1, h2⟩ | ⟨a, r, h1, h2⟩
      · subst h1
        refine ⟨_, _, h2, by rw [htd]; rfl, hbd, rfl, rfl, fun a r e => ?_⟩
        simp only [List.nil_append, List.cons.injEq] at e
        have := hf x [] rfl
        rw [← e.1]; exact this
      · subst h1
        refine ⟨_, _, h2, by rw [htx]; rfl, hbx, rfl, rfl, fun a' r' e => ?_⟩
        simp only [List.cons_append, List.cons.injEq] at e
        have := hf a (r ++ [x]) rfl
        rw [← e.1]; exact this
    unfold endF
    by_cases k1 : (blOf m x).term.kind = 1
    · obtain ⟨fs', x', e1, e2, e3, e4, e5, e6⟩ := hto ((blOf m x).term.to.getD 0 0)
      refine ⟨fs', x', e1, .inl ?_⟩
      simp only [e3, e4, if_pos hc, if_pos k1, e2]
      exact ⟨trivial, e6, .inl ⟨hd, by simp, by simp⟩⟩
    by_cases k2 : (blOf m x).term.kind = 2
    · by_cases hz : ¬ rg x.regs (blOf m x).term.arg = 0
      · obtain ⟨fs', x', e1, e2, e3, e4, e5, e6⟩ := hto ((blOf m x).term.to.getD 0 0)
        refine ⟨fs', x', e1, .inl ?_⟩
        simp only [e3, e4, e5, if_pos hc, if_neg k1, if_pos k2, if_pos hz, e2]
        exact ⟨trivial, e6, .inl ⟨hd, by simp, by simp⟩⟩
      · obtain ⟨fs', x', e1, e2, e3, e4, e5, e6⟩ := hto ((blOf m x).term.to.getD 1 0)
        refine ⟨fs', x', e1, .inl ?_⟩
        simp only [e3, e4, e5, if_pos hc, if_neg k1, if_pos k2, if_neg hz, e2]
        exact ⟨trivial, e6, .inl ⟨hd, by simp, by simp⟩⟩
    simp only [if_neg k1, if_neg k2]
    generalize hv : (if (blOf m x).term.arg ≥ 0 then rg x.regs (blOf m x).term.arg else 0) = v
    rcases hsp with ⟨h1, h2⟩ | ⟨a, r, h1, h2⟩
    · subst h1
      refine ⟨_, _, h2, .inr ⟨rfl, v, rfl, ?_, fun hr => ?_⟩⟩
      · show (if x.at_ = ((blOf (moreM m w) (dT d x)).ins.length : Int) then _ else _) = _
        rw [hbd, if_pos hc]
        simp only [if_neg k1, if_neg k2]
        show backF [W] d (if (blOf m x).term.arg ≥ 0 then rg x.regs (blOf m x).term.arg else 0) (tick o) = _
        rw [hv]
      · have hxf := hf x [] rfl
        have hgx : (fnOf m x).result = 0 := by unfold fnOf; rw [hxf]; exact hr
        have hend := (hp.funcs _ h.top.fnm).ends _ h.top.blm
        have hk3 : (blOf m x).term.kind = 3 := by
          rcases hend.kind with ⟨h, _⟩ | ⟨h, _⟩ | ⟨h, _⟩
          · contradiction
          · contradiction
          · exact h
        have := ((hp.funcs _ h.top.fnm).blocks _ h.top.blm).term
        unfold EndOk at this
        rw [if_pos (.inr ⟨hk3, hgx⟩)] at this
        rw [← hv, this]; rfl
    · subst h1
      refine ⟨_, _, h2, .inl ?_⟩
      rw [hbx, if_pos hc]
      simp only [if_neg k1, if_neg k2, hv]
      unfold backF
      rcases List.eq_nil_or_concat r with h0 | ⟨gs, y, hy⟩
      · subst h0
        have g1 : ([a] : List PFrame).getLast? = some a := rfl
        have g2 : ([W, dT d a] : List PFrame).getLast? = some (dT d a) := rfl
        have haf := hf a [x] rfl
        simp only [g1, g2]
        split
        · exact ⟨rfl, fun a' r' e => by cases e; exact haf, .inl ⟨hd, rfl, rfl⟩⟩
        · exact ⟨rfl, fun a' r' e => by cases e; exact haf, .inl ⟨hd, rfl, rfl⟩⟩
      · rw [List.concat_eq_append] at hy
        subst hy
        have g1 : (a :: (gs ++ [y])).getLast? = some y := by rw [← List.cons_append]; exact List.getLast?_concat
        have g2 : (W :: dT d a :: (gs ++ [y])).getLast? = some y := by rw [← List.cons_append, ← List.cons_append]; exact List.getLast?_concat
        have d1 : (a :: (gs ++ [y])).dropLast = a :: gs := by rw [← List.cons_append]; exact List.dropLast_concat
        have d2 : (W :: dT d a :: (gs ++ [y])).dropLast = W :: dT d a :: gs := by rw [← List.cons_append, ← List.cons_append]; exact List.dropLast_concat
        have haf := hf a (gs ++ [y] ++ [x]) rfl
        simp only [g1, g2, d1, d2]
        split
        · exact ⟨rfl, fun a' r' e => by cases e; exact haf, .inl ⟨hd, rfl, rfl⟩⟩
        · exact ⟨rfl, fun a' r' e => by cases e; exact haf, .inl ⟨hd, rfl, rfl⟩⟩
  · rw [if_neg hc]
    -- an instruction
    have h0 := h.top.a0
    have h1 := h.top.a1
    have him : (blOf m x).ins.getD x.at_.toNat PInstr.zero ∈ (blOf m x).ins := getD_mem (by omega)
    obtain ⟨n, t, hin⟩ := ((hp.funcs _ h.top.fnm).blocks _ h.top.blm).ins _ him
    have hfn : ((blOf m x).ins.getD x.at_.toNat PInstr.zero).op = 17 → 0 ≤ ((blOf m x).ins.getD x.at_.toNat PInstr.zero).fn ∧ ((blOf m x).ins.getD x.at_.toNat PInstr.zero).fn < (m.funcs.length : Int) := fun c17 => by
      have hfit := hin.fits
      unfold FitsOk at hfit
      simp only [c17, show ¬ (17 : Int) = 1 by omega, show ¬ (17 : Int) = 2 by omega, show ¬ ((17 : Int) = 12 ∨ (17 : Int) = 13) by omega, show ¬ (17 : Int) = 14 by omega, show ¬ ((17 : Int) = 18 ∨ (17 : Int) = 16) by omega, if_false, if_true] at hfit
      obtain ⟨g, hg⟩ := hfit
      obtain ⟨g0, g1, _⟩ := idx_some hg.fn
      exact ⟨g0, by omega⟩
    rcases hsp with ⟨e1, e2⟩ | ⟨a, r, e1, e2⟩
    · subst e1
      refine ⟨_, _, e2, .inl ?_⟩
      obtain ⟨y, q, o2, q1, q2, q3, q4, q5⟩ := instr_lf m w [W] [] d ⟨x.f, x.regs, x.block, x.at_ + 1, x.dst⟩ o _ hfn hd
      rw [hbd, if_neg (show ¬ (dT d x).at_ = ((blOf m x).ins.length : Int) from hc), q1]
      refine ⟨q4, fun a' r' e => ?_, q5⟩
      simp only [List.nil_append, List.cons.injEq] at e
      rw [← e.1, q2]; exact hf x [] rfl
    · subst e1
      refine ⟨_, _, e2, .inl ?_⟩
      obtain ⟨y, q, o2, q1, q2, q3, q4, q5⟩ := instr_lf m w (W :: dT d a :: r) (a :: r) d ⟨x.f, x.regs, x.block, x.at_ + 1, x.dst⟩ o _ hfn hd
      rw [hbx, if_neg hc, q1]
      refine ⟨q3, fun a' r' e => ?_, q5⟩
      simp only [List.cons_append, List.cons.injEq] at e
      rw [← e.1]; exact hf a (r ++ [x]) rfl
/-! ### The two runs -/
def lfC (W : PFrame) (d : Int) (c : Cfg) : Cfg := (lf W d c.1, tick c.2)
structure Bot (f : Int) (c : Cfg) : Prop where
  head : ∀ a r, c.1 = a :: r → a.f = f
  trap : c.2.done = false → c.2.trap = 0
theorem adv_lf (m : PModule) (hp : Proper m) (hs : SmM m) (w : PFunc) (W : PFrame) (d f : Int)
    (hW : ∀ v o, o.done = false → ((m.funcs.getD f.toNat PFunc.zero).result = 0 → v = 0) → (stp (moreM m w) (backF [W] d v o)).2 = ⟨true, o.trap, v, o.out, o.steps + 1, o.memory⟩) :
    ∀ (k : Nat) (c : Cfg), Good m c → Bot f c → c.2.done = false → c.2.steps + k ≤ 5000000 →
      ((adv m k c).2.done = false ∧ adv (moreM m w) k (lfC W d c) = lfC W d (adv m k c)) ∨
      ((adv m k c).2.done = true ∧ ¬ (adv m k c).2.trap = 0 ∧ (adv (moreM m w) k (lfC W d c)).2 = tick (adv m k c).2) ∨
      ((adv m k c).2.done = true ∧ (adv m k c).2.trap = 0 ∧ (adv (moreM m w) (k + 1) (lfC W d c)).2 = tick (tick (adv m k c).2)) := by
  intro k
  induction k with
  | zero => intro c _ _ hd _; exact .inl ⟨hd, rfl⟩
  | succ k ih =>
    intro c hg hb hd hl
    obtain ⟨g1, g2, _, _⟩ := stp_ok m hp hs c hg hd (by omega)
    obtain ⟨fs, x, e1, hw, _⟩ := hg.fr hd
    obtain ⟨L, o⟩ := c
    simp only at e1 hd g1 g2 hl
    subst e1
    have hdt : (tick o).done = false := hd
    have ht0 : o.trap = 0 := hb.trap hd
    obtain ⟨fs', x', q1, q2⟩ := step_lf m hp w W d f fs x (tick o) hw hdt hb.head
    have hm : stp m (fs ++ [x], o) = stepF m fs x (tick o) := stp_top m fs x o hd
    have hn : stp (moreM m w) (lfC W d (fs ++ [x], o)) = stepF (moreM m w) fs' x' (tick (tick o)) := by
      show stp (moreM m w) (lf W d (fs ++ [x]), tick o) = _
      rw [q1, stp_top _ fs' x' (tick o) hdt]
    simp only [adv]
    rw [hm] at g1 g2 ⊢
    rw [hn]
    rcases q2 with ⟨a1, a2, a3⟩ | ⟨b1, v, b2, b3, b4⟩
    · rw [a1]
      rcases a3 with ⟨c1, c2, c3⟩ | ⟨c1, c2⟩
      · exact ih (stepF m fs x (tick o)) g1 ⟨a2, fun _ => c2.trans ht0⟩ c1 (by have g2b : (stepF m fs x (tick o)).2.steps = o.steps + 1 := g2; omega)
      · right; left
        rw [adv_done m _ c1]
        refine ⟨c1, c2, ?_⟩
        rw [adv_done]
        exact c1
    · right; right
      rw [b3, b2, adv_done m _ rfl]
      refine ⟨rfl, ht0, ?_⟩
      have hW2 := hW v (tick (tick o)) hdt b4
      rw [adv_done _ _ (by rw [hW2]), hW2]
      rfl
theorem args_back (args : List Int) (R : Nat) (h : args.length ≤ R) : argsF (cpy (List.replicate R (0 : Int)) args) ((List.range args.length).map fun (i : Nat) => (i : Int)) = args := by
  unfold argsF
  rw [List.map_map]
  apply List.ext_getElem
  · simp
  · intro i h1 h2
    simp only [List.getElem_map, List.getElem_range, Function.comp, rg, Int.toNat_natCast, cpy]
    rw [List.getD_eq_getElem?_getD, List.getElem?_append_left (by simp; omega), List.getElem?_take, if_pos (by simpa using Nat.lt_of_lt_of_le h2 h), List.getElem?_eq_getElem h2]
    rfl
theorem calls_run (m : PModule) (f : Int) (args : List Int) (s : Int) (g : PFunc) (hp : Proper m) (hs : SmM m) (hg : idx m.funcs f = some g) (h31 : m.funcs.length ≤ 31) (hfa : FitsA m f args) (h0 : 0 ≤ s) (h1 : s ≤ 1000) :
    ∃ o, run_Run (moreM m (callW g f)) (m.funcs.length : Int) args (s + 2) = some (o, GErr.no) ∧
      (((adv m s.toNat (startC m f args)).2.done = false ∧ (adv m s.toNat (startC m f args)).2.out <+: o.out) ∨
       ((adv m s.toNat (startC m f args)).2.done = true ∧ ¬ (adv m s.toNat (startC m f args)).2.trap = 0 ∧ o = tick (adv m s.toNat (startC m f args)).2) ∨
       ((adv m s.toNat (startC m f args)).2.done = true ∧ (adv m s.toNat (startC m f args)).2.trap = 0 ∧ o = tick (tick (adv m s.toNat (startC m f args)).2))) := by
  have hgm : g ∈ m.funcs := by
    obtain ⟨_, _, h2⟩ := idx_some hg
    exact List.mem_of_getElem? h2
  have ht := (hp.funcs g hgm).typed
  have hgd : m.funcs.getD f.toNat PFunc.zero = g := by
    obtain ⟨_, h1, h2⟩ := idx_some hg
    rw [List.getD_eq_getElem?_getD, h2]; rfl
  have hpn := more_proper m f g hp hg h31
  have hsn := more_sm m f g ht hs h31
  obtain ⟨l1, l2⟩ := callW_len g f ht
  have hlen := hfa.len
  rw [hgd] at hlen
  have hp8 := ht.few
  have hwd : (moreM m (callW g f)).funcs.getD ((m.funcs.length : Int)).toNat PFunc.zero = callW g f := by
    rw [Int.toNat_natCast, List.getD_eq_getElem?_getD]; simp [moreM]
  have hfn : FitsA (moreM m (callW g f)) (m.funcs.length : Int) args := by
    refine ⟨by omega, by simp [moreM]; omega, by rw [hwd]; exact hlen, fun i hi h2 => hfa.bools i hi ?_⟩
    rw [hwd] at h2
    rw [hgd]
    rw [List.getD_eq_getElem?_getD] at h2 ⊢
    rwa [callW_regs g f ht i (by omega)] at h2
  obtain ⟨e, hr | hr⟩ := run_any (moreM m (callW g f)) hsn (m.funcs.length : Int) args (s + 2) (by omega)
  · exact absurd ⟨hpn, hfn, by omega, by omega⟩ hr.2.2
  obtain ⟨_, _, _, _, _, hr⟩ := hr
  refine ⟨_, hr, ?_⟩
  -- the first step: the call
  generalize hd : (if ¬ g.result = 0 then g.params else (-1 : Int)) = d
  let W : PFrame := ⟨(m.funcs.length : Int), cpy (List.replicate (callW g f).regs.length 0) args, 0, 1, -1⟩
  have hWr : W.regs.length = (callW g f).regs.length := by
    show (cpy _ args).length = _
    unfold cpy
    simp only [List.length_append, List.length_take, List.length_drop, List.length_replicate]
    omega
  have hfnW : ∀ (rs : List Int) (b a q : Int), fnOf (moreM m (callW g f)) ⟨(m.funcs.length : Int), rs, b, a, q⟩ = callW g f := fun _ _ _ _ => hwd
  have hbl : ∀ (rs : List Int) (a q : Int), blOf (moreM m (callW g f)) ⟨(m.funcs.length : Int), rs, 0, a, q⟩ = ⟨[], [⟨17, d, (List.range g.params.toNat).map fun (i : Nat) => (i : Int), 0, f⟩], ⟨3, d, []⟩⟩ := fun rs a q => by
    unfold blOf
    rw [hfnW, ← hd]; rfl
  have hstart : startC (moreM m (callW g f)) (m.funcs.length : Int) args = ([] ++ [⟨(m.funcs.length : Int), cpy (List.replicate (callW g f).regs.length 0) args, 0, 0, -1⟩], zeroO) := by
    unfold startC newF
    rw [hwd]; rfl
  have hcall : stp (moreM m (callW g f)) (startC (moreM m (callW g f)) (m.funcs.length : Int) args) = lfC W d (startC m f args) := by
    rw [hstart, stp_top _ _ _ _ rfl]
    unfold stepF
    rw [hbl, if_neg (by simp)]
    show instrF (moreM m (callW g f)) [] W (tick zeroO) _ = _
    simp only [Int.toNat_zero, List.getD_cons_zero]
    unfold instrF
    simp only [show ¬ (17 : Int) = 1 by omega, show ¬ (17 : Int) = 15 by omega, show ¬ (17 : Int) = 16 by omega, show ¬ (17 : Int) = 18 by omega, if_false, if_true]
    have ha : argsF W.regs ((List.range g.params.toNat).map fun (i : Nat) => (i : Int)) = args := by
      rw [show g.params.toNat = args.length by omega]
      exact args_back args _ (by omega)
    rw [ha, newF_more hfa.f0 hfa.f1]
    rfl
  have hW : ∀ v o, o.done = false → ((m.funcs.getD f.toNat PFunc.zero).result = 0 → v = 0) → (stp (moreM m (callW g f)) (backF [W] d v o)).2 = ⟨true, o.trap, v, o.out, o.steps + 1, o.memory⟩ := by
    intro v o ho hv
    rw [hgd] at hv
    have hend : ∀ rs : List Int, (if d ≥ 0 then rg rs d else 0) = v → (stp (moreM m (callW g f)) ([] ++ [⟨(m.funcs.length : Int), rs, 0, 1, -1⟩], o)).2 = ⟨true, o.trap, v, o.out, o.steps + 1, o.memory⟩ := by
      intro rs hrs
      rw [stp_top _ _ _ _ ho]
      unfold stepF
      rw [hbl, if_pos (by simp)]
      unfold endF
      simp only [show ¬ (3 : Int) = 1 by omega, show ¬ (3 : Int) = 2 by omega, if_false, hrs]
      rfl
    unfold backF
    have g1 : [W].getLast? = some W := rfl
    simp only [g1]
    by_cases hr0 : g.result = 0
    · rw [if_neg (by simpa using hr0)] at hd
      subst hd
      rw [if_neg (by omega)]
      exact hend _ (by rw [if_neg (by omega), hv hr0])
    · rw [if_pos hr0] at hd
      subst hd
      have hnn := ht.nn
      rw [if_pos hnn]
      refine hend (W.regs.set g.params.toNat v) ?_
      rw [if_pos hnn]
      have := (callW_res g f ht hr0).has.2
      unfold rg
      rw [List.getD_eq_getElem?_getD, List.getElem?_set_self (by omega)]; rfl
  have key := adv_lf m hp hs (callW g f) W d f hW s.toNat (startC m f args) (start_good m hp f args hfa) ⟨fun a r e => by cases e; rfl, fun _ => rfl⟩ rfl (by have : (startC m f args).2.steps = 0 := rfl; omega)
  rw [show (s + 2).toNat = (s.toNat + 1) + 1 by omega]
  simp only [adv, hcall] at key ⊢
  -- the steps of the longer module
  have e2 : adv (moreM m (callW g f)) s.toNat (stp (moreM m (callW g f)) (lfC W d (startC m f args))) = adv (moreM m (callW g f)) 1 (adv (moreM m (callW g f)) s.toNat (lfC W d (startC m f args))) := by
    have := adv_add (moreM m (callW g f)) 1 s.toNat (lfC W d (startC m f args))
    rw [Nat.add_comm, adv_add] at this
    exact this.symm
  rcases key with ⟨k1, k2⟩ | ⟨k1, k2, k3⟩ | ⟨k1, k2, k3⟩
  · refine .inl ⟨k1, ?_⟩
    have hgn := start_good (moreM m (callW g f)) hpn (m.funcs.length : Int) args hfn
    obtain ⟨a1, _, a3, _, _⟩ := adv_ok (moreM m (callW g f)) hpn hsn (1 + s.toNat) _ hgn (by have : (startC (moreM m (callW g f)) (m.funcs.length : Int) args).2.steps = 0 := rfl; omega)
    have e3 : adv (moreM m (callW g f)) (1 + s.toNat) (startC (moreM m (callW g f)) (m.funcs.length : Int) args) = lfC W d (adv m s.toNat (startC m f args)) := by
      rw [adv_add]; simp only [adv, hcall, k2]
    rw [e3] at a1 a3
    have a3' : (lfC W d (adv m s.toNat (startC m f args))).2.steps ≤ 3000 := by
      have : (startC (moreM m (callW g f)) (m.funcs.length : Int) args).2.steps = 0 := rfl
      omega
    obtain ⟨_, _, b3, _⟩ := stp_ok (moreM m (callW g f)) hpn hsn _ a1 k1 (by omega)
    rw [e2, k2]
    exact b3
  · refine .inr (.inl ⟨k1, k2, ?_⟩)
    rw [e2]
    simp only [adv]
    have : (adv (moreM m (callW g f)) s.toNat (lfC W d (startC m f args))).2.done = true := by rw [k3]; exact k1
    unfold stp
    rw [if_pos this]; exact k3
  · exact .inr (.inr ⟨k1, k2, k3⟩)
theorem pure_runCalls (m : PModule) (f : Int) (args : List Int) (steps : Int) (h : wfModule m) (hf : inI64 f) (ha : okL inI64 args) (hs : inI64 steps) : fettlelaw04_RunCalls m f args steps = some true := by
  unfold fettlelaw04_RunCalls
  rw [up04]
  obtain ⟨b, hb, hsm⟩ := small_ok m
  rw [hb]
  simp only [Option.bind_some]
  by_cases hc : ((!b) = true ∨ len args > 300) ∨ len m.funcs > 31
  · rw [if_pos hc]
  rw [if_neg hc]
  simp only [not_or, len] at hc
  have hbt : b = true := by cases b <;> simp_all
  have hsm := hsm hbt
  have hal : args.length ≤ 300 := by omega
  have h31 : m.funcs.length ≤ 31 := by omega
  obtain ⟨s, hse, hs2⟩ := few_any steps
  rw [hse]
  simp only [Option.bind_some]
  obtain ⟨e, h1 | h1⟩ := run_any m hsm f args s hal
  · obtain ⟨hne, hr, _⟩ := h1
    rw [hr]
    simp only [Option.bind_some]
    rw [if_pos (.inl (.inl hne))]
    simp [hne]
  obtain ⟨_, hp, hfa, h0, hle, hr⟩ := h1
  have hs3 := hs2 hle h0
  have f0 := hfa.f0
  have f1 := hfa.f1
  rw [hr]
  simp only [Option.bind_some]
  rw [if_neg (by simp only [len]; simp; omega)]
  have hg : idx m.funcs f = some (m.funcs.getD f.toNat PFunc.zero) := idx_getD f0 f1
  have hgm : m.funcs.getD f.toNat PFunc.zero ∈ m.funcs := getD_mem (by omega)
  rw [hg]
  simp only [Option.bind_some]
  have key := calls_run m f args s _ hp hsm hg h31 hfa h0 hs3
  generalize m.funcs.getD f.toNat PFunc.zero = g at hg hgm key
  have ht := (hp.funcs g hgm).typed
  have t1 := ht.nn
  have t2 := ht.le
  have t3 := ht.few
  have hup : upto g.regs g.params = some (g.regs.take g.params.toNat) := by
    unfold upto; rw [if_pos ⟨t1, by omega⟩]
  have htl : (g.regs.take g.params.toNat).length ≤ 8 := by rw [List.length_take]; omega
  rw [hup]
  simp only [Option.bind_some, cat_nil (show (g.regs.take g.params.toNat).length ≤ 1000 by omega), fettlelaw04_RunCalls.jn101]
  have hmap : whl (fun (s : (List Int × Int)) => fettlelaw04_RunCalls.bd122 g s.1 s.2) FUEL (([] : List Int), 0) = some ((List.range g.params.toNat).map fun (i : Nat) => (i : Int)) :=
    whl_map (List.range g.params.toNat) (fun (i : Nat) => (i : Int)) (le_max (show (List.range g.params.toNat).length ≤ 10 by simp; omega) (by omega)) (fun i hi => by
      have hi' : i < g.params.toNat := by simpa using hi
      simp only [fettlelaw04_RunCalls.bd122]
      rw [if_pos (by omega), cat_one (by simp; omega)]
      simp only [Option.bind_some, List.getElem_range, w64_i hi' (show g.params.toNat ≤ 1000 by omega)]) (by
      simp only [fettlelaw04_RunCalls.bd122]
      rw [if_neg (by simp; omega)])
  rw [hmap]
  simp only [Option.bind_some]
  obtain ⟨o, hro, hcases⟩ := key
  have hol := adv_out_len m hp hsm f args hfa s.toNat (by omega)
  have hstl : (adv m s.toNat (startC m f args)).2.steps ≤ 1000 ∧ 0 ≤ (adv m s.toNat (startC m f args)).2.steps := by
    obtain ⟨a1, a2, a3, _, _⟩ := adv_ok m hp hsm s.toNat (startC m f args) (start_good m hp f args hfa) (by have : (startC m f args).2.steps = 0 := rfl; omega)
    have : (startC m f args).2.steps = 0 := rfl
    omega
  have hall : ∀ d : Int, (if ¬ g.result = 0 then g.params else (-1 : Int)) = d → fettlelaw04_RunCalls.jn145 m f args true s ((adv m s.toNat (startC m f args)).2, GErr.no) g ((List.range g.params.toNat).map fun (i : Nat) => (i : Int)) (callW g f).regs d d = some true := by
    intro d hd
    unfold fettlelaw04_RunCalls.jn145
    rw [copy_eq m hsm]
    simp only [Option.bind_some]
    rw [cat_one (by omega)]
    have hw : (⟨g.params, g.result, (callW g f).regs, [(⟨([] : List PPhi), [(⟨17, d, (List.range g.params.toNat).map fun (i : Nat) => (i : Int), 0, f⟩ : PInstr)], (⟨3, d, ([] : List Int)⟩ : PTerm)⟩ : PBlock)]⟩ : PFunc) = callW g f := by rw [← hd]; rfl
    rw [hw, w64_id ⟨by omega, by omega⟩]
    simp only [Option.bind_some]
    have hro' : run_Run (⟨m.funcs ++ [callW g f]⟩ : PModule) (len m.funcs) args (s + 2) = some (o, GErr.no) := hro
    rw [hro']
    simp only [Option.bind_some, not_true, if_false]
    generalize (adv m s.toNat (startC m f args)).2 = p at hcases hol hstl
    have hlong : p.out.length ≤ maxLen := by simp only [maxLen]; omega
    rcases hcases with ⟨k1, k2⟩ | ⟨k1, k2, k3⟩ | ⟨k1, k2, k3⟩
    · rw [k1]
      simp only [Bool.not_false, if_true, begins_eq _ _ hlong, Option.bind_some, decide_eq_true k2]
    · rw [k1]
      simp only [Bool.not_true, Bool.false_eq_true, if_false]
      rw [if_pos k2]
      subst k3
      unfold fettlelaw04_RunCalls.jn191
      simp only [tick, k1, and_self, if_true, alike_eq _ _ hlong, Option.bind_some, decide_true, true_and]
      rw [w64_id ⟨by omega, by omega⟩]
      simp
    · rw [k1]
      simp only [Bool.not_true, Bool.false_eq_true, if_false]
      rw [if_neg (by simpa using k2)]
      subst k3
      unfold fettlelaw04_RunCalls.jn191
      simp only [tick, k1, and_self, if_true, alike_eq _ _ hlong, Option.bind_some, decide_true, true_and]
      rw [w64_id ⟨by omega, by omega⟩]
      simp; omega
  unfold fettlelaw04_RunCalls.nx122
  by_cases hr0 : g.result = 0
  · rw [if_neg (by simpa using hr0)]
    have := hall (-1) (by rw [if_neg (by simpa using hr0)])
    have hwr : (callW g f).regs = g.regs.take g.params.toNat := by unfold callW; simp only [if_neg (show ¬ ¬ g.result = 0 by simpa using hr0)]
    rwa [hwr] at this
  · rw [if_pos hr0, cat_one (by omega)]
    simp only [Option.bind_some]
    have := hall g.params (by rw [if_pos hr0])
    have hwr : (callW g f).regs = g.regs.take g.params.toNat ++ [g.result] := by unfold callW; simp only [if_pos hr0]
    rwa [hwr] at this
end Go.Proofs.Ytoflleabpkgdpaa
