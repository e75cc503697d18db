/- Plain laws, part w-B: a run of the module with one function trimmed; the law GraphSame. No conditions. -/
import Derived.Test.YtoflleabpkgdpaaQwA
import Derived.Test.YtoflleabpkgdpaaS8
set_option linter.unusedVariables false
set_option linter.unusedSimpArgs false
set_option linter.unusedSectionVars false
namespace Go.Proofs.Ytoflleabpkgdpaa
open Go Go.Proofs

def trX (k : Int) (s : List Bool) (x : PFrame) : PFrame := if x.f = k then ⟨x.f, x.regs, rkI s x.block, x.at_, x.dst⟩ else x
def OkX (k : Int) (s : List Bool) (x : PFrame) : Prop := x.f = k → s.getD x.block.toNat false = true
theorem trX_regs (k : Int) (s : List Bool) (x : PFrame) : (trX k s x).regs = x.regs := by unfold trX; split <;> rfl
theorem trX_at (k : Int) (s : List Bool) (x : PFrame) : (trX k s x).at_ = x.at_ := by unfold trX; split <;> rfl
theorem trX_dst (k : Int) (s : List Bool) (x : PFrame) : (trX k s x).dst = x.dst := by unfold trX; split <;> rfl
theorem trX_to (k : Int) (s : List Bool) (x : PFrame) (r : List Int) : (trX k s x).regsTo r = trX k s (x.regsTo r) := by
  unfold trX PFrame.regsTo
  simp only
  split <;> rfl
theorem rkI_zero (s : List Bool) : rkI s 0 = 0 := by simp [rkI, rk]
theorem setAll_map (F : PPhi → PPhi) (hF : ∀ p, (F p).dst = p.dst) : ∀ (l : List PPhi) (v : List Int) (regs : List Int), setAll regs ((l.map F).zip v) = setAll regs (l.zip v)
  | [], v, regs => by simp
  | p :: l, [], regs => by simp
  | p :: l, y :: v, regs => by
    have := setAll_map F hF l v (regs.set p.dst.toNat y)
    simp only [setAll, List.map_cons, List.zip_cons_cons, List.foldl_cons, hF] at this ⊢
    exact this
section
variable {m : PModule} (hp : Proper m) {k : Nat} {f : PFunc} {s : List Bool} (hk : m.funcs[k]? = some f) (htr : Tr f s)
include hk
theorem tr_len : (trimM m (k : Int) (trimF f s)).funcs.length = m.funcs.length := by simp [trimM]
theorem tr_getD (j : Nat) : (trimM m (k : Int) (trimF f s)).funcs.getD j PFunc.zero = if j = k then trimF f s else m.funcs.getD j PFunc.zero := by
  have hkl := (List.getElem?_eq_some_iff.1 hk).1
  unfold trimM
  simp only [Int.toNat_natCast]
  rw [List.getD_eq_getElem?_getD, List.getD_eq_getElem?_getD, List.getElem?_set]
  by_cases h : j = k
  · rw [if_pos h, if_pos h.symm, if_pos hkl]; rfl
  · rw [if_neg h, if_neg (fun e => h e.symm)]
theorem getD_k : m.funcs.getD k PFunc.zero = f := by rw [List.getD_eq_getElem?_getD, hk]; rfl
theorem tr_like (j : Nat) : Like (m.funcs.getD j PFunc.zero) ((trimM m (k : Int) (trimF f s)).funcs.getD j PFunc.zero) := by
  rw [tr_getD hk]
  by_cases h : j = k
  · rw [if_pos h, h, getD_k hk]; exact ⟨rfl, rfl, rfl⟩
  · rw [if_neg h]; exact ⟨rfl, rfl, rfl⟩
theorem newF_tr (j : Int) (args : List Int) (d : Int) : newF (trimM m (k : Int) (trimF f s)) j args d = trX (k : Int) s (newF m j args d) := by
  have h := (tr_like (s := s) hk j.toNat).regs
  unfold newF
  rw [h]
  unfold trX
  split
  · simp only [rkI_zero]
  · rfl
theorem instr_tr (fs : List PFrame) (x : PFrame) (o : POutcome) (i : PInstr) (hx : OkX (k : Int) s x) (h0 : s.getD 0 false = true) :
    instrF (trimM m (k : Int) (trimF f s)) (fs.map (trX k s)) (trX k s x) o i = ((instrF m fs x o i).1.map (trX k s), (instrF m fs x o i).2) ∧ ((∀ y ∈ fs, OkX (k : Int) s y) → ∀ y ∈ (instrF m fs x o i).1, OkX (k : Int) s y) := by
  have hok : ∀ r, OkX (k : Int) s (x.regsTo r) := fun r => hx
  have hnew : ∀ j args d, OkX (k : Int) s (newF m j args d) := fun j args d _ => h0
  unfold instrF
  simp only [trX_regs, trX_to, newF_tr hk]
  by_cases c1 : i.op = 1
  · simp only [if_pos c1]; exact ⟨by simp, fun h y hy => (List.mem_append.1 hy).elim (h y) (fun e => by rw [List.mem_singleton.1 e]; exact hok _)⟩
  simp only [if_neg c1]
  by_cases c15 : i.op = 15
  · simp only [if_pos c15]
    split
    · exact ⟨by simp, fun h y hy => (List.mem_append.1 hy).elim (h y) (fun e => by rw [List.mem_singleton.1 e]; exact hok _)⟩
    · exact ⟨by simp, fun h y hy => (List.mem_append.1 hy).elim (h y) (fun e => by rw [List.mem_singleton.1 e]; exact hx)⟩
  simp only [if_neg c15]
  by_cases c16 : i.op = 16
  · simp only [if_pos c16]
    split
    · exact ⟨by simp, fun h y hy => (List.mem_append.1 hy).elim (h y) (fun e => by rw [List.mem_singleton.1 e]; exact hx)⟩
    · exact ⟨by simp, fun h y hy => (List.mem_append.1 hy).elim (h y) (fun e => by rw [List.mem_singleton.1 e]; exact hx)⟩
  simp only [if_neg c16]
  by_cases c18 : i.op = 18
  · simp only [if_pos c18]; exact ⟨by simp, fun h y hy => (List.mem_append.1 hy).elim (h y) (fun e => by rw [List.mem_singleton.1 e]; exact hx)⟩
  simp only [if_neg c18]
  by_cases c17 : i.op = 17
  · simp only [if_pos c17]
    exact ⟨by simp, fun h y hy => (List.mem_append.1 hy).elim (fun hy => (List.mem_append.1 hy).elim (h y) (fun e => by rw [List.mem_singleton.1 e]; exact hx)) (fun e => by rw [List.mem_singleton.1 e]; exact hnew _ _ _)⟩
  simp only [if_neg c17]
  split
  · exact ⟨by simp, fun h y hy => (List.mem_append.1 hy).elim (h y) (fun e => by rw [List.mem_singleton.1 e]; exact hok _)⟩
  · exact ⟨by simp, fun h y hy => (List.mem_append.1 hy).elim (h y) (fun e => by rw [List.mem_singleton.1 e]; exact hx)⟩
include hp htr
theorem edge_tr (b b' : Nat) (regs : List Int) (hb : b < f.blocks.length) (hsb : s.getD b false = true) (hm : (b' : Int) ∈ f.blocks[b].term.to) :
    edgeF (trimF f s) (rkI s (b : Int)) (rkI s (b' : Int)) regs = edgeF f (b : Int) (b' : Int) regs := by
  have hfm : f ∈ m.funcs := List.mem_of_getElem? hk
  have hf := hp.funcs f hfm
  have hl := htr.len
  obtain ⟨t0, t1⟩ := (htr.ends _ (List.getElem_mem hb)).to _ hm
  have hbl : b' < f.blocks.length := by omega
  have hs' := htr.clos b hb hsb _ hm
  simp only [Int.toNat_natCast] at hs'
  have hpr := mem_preds (f := f) (b := b) (t := b') hb hbl hm
  unfold edgeF
  have e1 : (trimF f s).blocks.getD (rkI s (b' : Int)).toNat PBlock.zero = trimB s (preds (nexts f) b') f.blocks[b'] := by
    simp only [rkI, Int.toNat_natCast]
    rw [List.getD_eq_getElem?_getD, trimF_get f s hl b' hbl hs']; rfl
  have e2 : f.blocks.getD ((b' : Int)).toNat PBlock.zero = f.blocks[b'] := by simp [List.getD_eq_getElem?_getD, hbl]
  simp only [e1, e2]
  have e3 : preds (nexts (trimF f s)) (rkI s (b' : Int)).toNat = ((preds (nexts f) b').filter fun x => s.getD x.toNat false).map (rkI s) := by
    simp only [rkI, Int.toNat_natCast]
    exact preds_trim htr b' hbl hs'
  rw [e3]
  have e4 : phiV regs (trimB s (preds (nexts f) b') f.blocks[b']).phis ((((preds (nexts f) b').filter fun x => s.getD x.toNat false).map (rkI s)).idxOf (rkI s (b : Int))) = phiV regs f.blocks[b'].phis ((preds (nexts f) ((b' : Int)).toNat).idxOf (b : Int)) := by
    unfold phiV trimB
    simp only [List.map_map, Int.toNat_natCast]
    apply List.map_congr_left
    intro p hpm
    have ha := hf.ahead b' hbl p hpm
    simp only [Function.comp, keptF, if_pos ha]
    rw [kept_at s (b : Int) (rkI s) (by simpa using hsb) p.args (preds (nexts f) b') ha hpr (fun y hy hys he => by
      obtain ⟨y0, y1⟩ := preds_in (nexts f) b' y hy
      rw [nexts_length] at y1
      simp only [rkI, Int.toNat_natCast] at he
      have := rk_inj s y.toNat b (by omega) (by omega) hys hsb (by omega)
      omega)]
  rw [e4]
  exact setAll_map (fun p => (⟨p.dst, keptF p.args (preds (nexts f) b') s⟩ : PPhi)) (fun _ => rfl) _ _ _
theorem to_tr (x : PFrame) (b : Int) (h : FrOk m x) (hx : OkX (k : Int) s x) (hb : b ∈ (blOf m x).term.to) :
    toF (trimM m (k : Int) (trimF f s)) (trX k s x) (if x.f = (k : Int) then renum (numF s) b else b) = trX k s (toF m x b) ∧ OkX (k : Int) s (toF m x b) := by
  have hl := htr.len
  by_cases hc : x.f = (k : Int)
  · have hfn : fnOf m x = f := by unfold fnOf; rw [hc, Int.toNat_natCast]; exact getD_k hk
    have hb0 := h.b0
    have hb1 := h.b1
    rw [hfn] at hb1
    obtain ⟨a, ha⟩ : ∃ a : Nat, x.block = (a : Int) := ⟨x.block.toNat, by omega⟩
    have hal : a < f.blocks.length := by omega
    have hbl : blOf m x = f.blocks[a] := by unfold blOf; rw [hfn, ha]; simp [List.getD_eq_getElem?_getD, hal]
    rw [hbl] at hb
    obtain ⟨t0, t1⟩ := (htr.ends _ (List.getElem_mem hal)).to _ hb
    obtain ⟨c, rfl⟩ : ∃ c : Nat, b = (c : Int) := ⟨b.toNat, by omega⟩
    have hsa : s.getD a false = true := by have := hx hc; rwa [ha, Int.toNat_natCast] at this
    have hsc := htr.clos a hal hsa _ hb
    simp only [Int.toNat_natCast] at hsc
    have hfn' : fnOf (trimM m (k : Int) (trimF f s)) (trX k s x) = trimF f s := by
      unfold fnOf trX
      rw [if_pos hc]
      simp only [hc, Int.toNat_natCast]
      rw [tr_getD hk, if_pos rfl]
    refine ⟨?_, fun _ => by simpa [toF] using hsc⟩
    rw [if_pos hc, renum_num s c (by omega) hsc]
    unfold toF
    rw [hfn', hfn]
    have e := edge_tr hp hk htr a c x.regs hal hsa hb
    unfold trX
    simp only [if_pos hc, ha]
    rw [show ((rk s c : Nat) : Int) = rkI s (c : Int) from rfl, e]
  · have hfn' : fnOf (trimM m (k : Int) (trimF f s)) x = fnOf m x := by
      unfold fnOf
      rw [tr_getD hk, if_neg]
      have := h.f0
      omega
    have hx' : trX (k : Int) s x = x := by unfold trX; rw [if_neg hc]
    refine ⟨?_, fun h2 => absurd h2 hc⟩
    rw [if_neg hc, hx']
    unfold toF
    rw [hfn']
    unfold trX
    simp only [if_neg hc]
theorem bl_tr (x : PFrame) (h : FrOk m x) (hx : OkX (k : Int) s x) : (blOf (trimM m (k : Int) (trimF f s)) (trX k s x)).ins = (blOf m x).ins ∧ (blOf (trimM m (k : Int) (trimF f s)) (trX k s x)).term = ⟨(blOf m x).term.kind, (blOf m x).term.arg, (blOf m x).term.to.map fun b => if x.f = (k : Int) then renum (numF s) b else b⟩ := by
  have hl := htr.len
  by_cases hc : x.f = (k : Int)
  · have hfn : fnOf m x = f := by unfold fnOf; rw [hc, Int.toNat_natCast]; exact getD_k hk
    have hb0 := h.b0
    have hb1 := h.b1
    rw [hfn] at hb1
    obtain ⟨a, ha⟩ : ∃ a : Nat, x.block = (a : Int) := ⟨x.block.toNat, by omega⟩
    have hal : a < f.blocks.length := by omega
    have hbl : blOf m x = f.blocks[a] := by unfold blOf; rw [hfn, ha]; simp [List.getD_eq_getElem?_getD, hal]
    have hsa : s.getD a false = true := by have := hx hc; rwa [ha, Int.toNat_natCast] at this
    have hbl' : blOf (trimM m (k : Int) (trimF f s)) (trX k s x) = trimB s (preds (nexts f) a) f.blocks[a] := by
      unfold blOf fnOf trX
      rw [if_pos hc]
      simp only [hc, Int.toNat_natCast, ha, rkI]
      rw [tr_getD hk, if_pos rfl, List.getD_eq_getElem?_getD, trimF_get f s hl a hal hsa]; rfl
    rw [hbl', hbl]
    refine ⟨rfl, ?_⟩
    simp only [trimB, if_pos hc]
  · have hx' : trX (k : Int) s x = x := by unfold trX; rw [if_neg hc]
    have hbl' : blOf (trimM m (k : Int) (trimF f s)) x = blOf m x := by
      unfold blOf fnOf
      rw [tr_getD hk, if_neg]
      have := h.f0
      omega
    rw [hx', hbl']
    refine ⟨rfl, ?_⟩
    simp only [if_neg hc, List.map_id']
theorem end_tr (fs : List PFrame) (x : PFrame) (o : POutcome) (h : Wf m fs x) (hall : ∀ y ∈ fs, OkX (k : Int) s y) (hx : OkX (k : Int) s x) (T : PTerm)
    (hT : T = ⟨(blOf m x).term.kind, (blOf m x).term.arg, (blOf m x).term.to.map fun b => if x.f = (k : Int) then renum (numF s) b else b⟩) :
    endF (trimM m (k : Int) (trimF f s)) (fs.map (trX k s)) (trX k s x) o T = ((endF m fs x o (blOf m x).term).1.map (trX k s), (endF m fs x o (blOf m x).term).2) ∧ ∀ y ∈ (endF m fs x o (blOf m x).term).1, OkX (k : Int) s y := by
  subst hT
  have hend := (hp.funcs _ h.top.fnm).ends _ h.top.blm
  have hto := fun b hb => to_tr hp hk htr x b h.top hx hb
  have hone : ∀ z, OkX (k : Int) s z → ∀ y ∈ fs ++ [z], OkX (k : Int) s y := fun z hz y hy => (List.mem_append.1 hy).elim (hall y) (fun e => by rw [List.mem_singleton.1 e]; exact hz)
  unfold endF
  simp only [trX_regs, trX_dst]
  by_cases k1 : (blOf m x).term.kind = 1
  · simp only [if_pos k1]
    have hex : ∃ a, (blOf m x).term.to = [a] := by
      rcases hend.kind with ⟨_, h⟩ | ⟨h, _⟩ | ⟨h, _⟩
      · exact h
      · omega
      · omega
    obtain ⟨a, ha⟩ := hex
    obtain ⟨e1, e2⟩ := hto a (by rw [ha]; simp)
    rw [ha]
    simp only [List.map_cons, List.map_nil, List.getD_cons_zero, e1, List.map_append]
    exact ⟨trivial, hone _ e2⟩
  simp only [if_neg k1]
  by_cases k2 : (blOf m x).term.kind = 2
  · simp only [if_pos k2]
    have hex : ∃ a b, (blOf m x).term.to = [a, b] := by
      rcases hend.kind with ⟨h, _⟩ | ⟨_, a, b, h, _⟩ | ⟨h, _⟩
      · omega
      · exact ⟨a, b, h⟩
      · omega
    obtain ⟨a, b, ha⟩ := hex
    obtain ⟨e1, e2⟩ := hto a (by rw [ha]; simp)
    obtain ⟨e3, e4⟩ := hto b (by rw [ha]; simp)
    rw [ha]
    simp only [List.map_cons, List.map_nil, List.getD_cons_zero, List.getD_cons_succ, e1, e3]
    split
    · simp only [List.map_append, List.map_cons, List.map_nil]; exact ⟨trivial, hone _ e2⟩
    · simp only [List.map_append, List.map_cons, List.map_nil]; exact ⟨trivial, hone _ e4⟩
  simp only [if_neg k2]
  generalize (if (blOf m x).term.arg ≥ 0 then rg x.regs (blOf m x).term.arg else 0) = v
  unfold backF
  rcases List.eq_nil_or_concat fs with h0 | ⟨gs, y, hy⟩
  · subst h0
    exact ⟨rfl, fun y hy => by simp at hy⟩
  · rw [List.concat_eq_append] at hy
    subst hy
    have g1 : (gs ++ [y]).getLast? = some y := List.getLast?_concat
    have g2 : ((gs ++ [y]).map (trX (k : Int) s)).getLast? = some (trX k s y) := by rw [List.map_append]; exact List.getLast?_concat
    have d1 : (gs ++ [y]).dropLast = gs := List.dropLast_concat
    have d2 : ((gs ++ [y]).map (trX (k : Int) s)).dropLast = gs.map (trX k s) := by rw [List.map_append]; exact List.dropLast_concat
    simp only [g1, g2, d1, d2, trX_regs, trX_to]
    split
    · refine ⟨by simp, fun z hz => ?_⟩
      rcases List.mem_append.1 hz with hz | hz
      · exact hall z (List.mem_append_left _ hz)
      · rw [List.mem_singleton.1 hz]; exact hall y (by simp)
    · exact ⟨rfl, hall⟩
theorem step_tr (fs : List PFrame) (x : PFrame) (o : POutcome) (h : Wf m fs x) (hall : ∀ y ∈ fs, OkX (k : Int) s y) (hx : OkX (k : Int) s x) :
    stepF (trimM m (k : Int) (trimF f s)) (fs.map (trX k s)) (trX k s x) o = ((stepF m fs x o).1.map (trX k s), (stepF m fs x o).2) ∧ ∀ y ∈ (stepF m fs x o).1, OkX (k : Int) s y := by
  obtain ⟨b1, b2⟩ := bl_tr hp hk htr x h.top hx
  unfold stepF
  rw [b1, trX_at]
  by_cases hc : x.at_ = ((blOf m x).ins.length : Int)
  · rw [if_pos hc, if_pos hc]
    exact end_tr hp hk htr fs x o h hall hx _ b2
  · rw [if_neg hc, if_neg hc]
    have e : (⟨(trX (k : Int) s x).f, (trX (k : Int) s x).regs, (trX (k : Int) s x).block, x.at_ + 1, (trX (k : Int) s x).dst⟩ : PFrame) = trX k s ⟨x.f, x.regs, x.block, x.at_ + 1, x.dst⟩ := by
      unfold trX
      simp only
      split <;> rfl
    rw [e]
    obtain ⟨i1, i2⟩ := instr_tr hk (s := s) fs ⟨x.f, x.regs, x.block, x.at_ + 1, x.dst⟩ o ((blOf m x).ins.getD x.at_.toNat PInstr.zero) hx htr.zero
    exact ⟨i1, i2 hall⟩
theorem adv_tr (hs : SmM m) : ∀ (j : Nat) (c : Cfg), Good m c → (∀ y ∈ c.1, OkX (k : Int) s y) → c.2.steps + j ≤ 5000000 → (adv (trimM m (k : Int) (trimF f s)) j (c.1.map (trX k s), c.2)).2 = (adv m j c).2 := by
  intro j
  induction j with
  | zero => intro c _ _ _; rfl
  | succ j ih =>
    intro c hg hall hl
    cases hd : c.2.done with
    | true => rw [adv_done m c hd, adv_done _ _ (show (c.1.map (trX (k : Int) s), c.2).2.done = true from hd)]
    | false =>
      obtain ⟨g1, g2, _, _⟩ := stp_ok m hp hs c hg hd (by omega)
      obtain ⟨fs, x, e1, hw, _⟩ := hg.fr hd
      obtain ⟨L, o⟩ := c
      simp only at e1 hd g1 g2 hl hall
      subst e1
      have hm : stp m (fs ++ [x], o) = stepF m fs x (tick o) := stp_top m fs x o hd
      obtain ⟨q1, q2⟩ := step_tr hp hk htr fs x (tick o) hw (fun y hy => hall y (List.mem_append_left _ hy)) (hall x (by simp))
      have hn : stp (trimM m (k : Int) (trimF f s)) ((fs ++ [x]).map (trX k s), o) = ((stepF m fs x (tick o)).1.map (trX k s), (stepF m fs x (tick o)).2) := by
        rw [List.map_append]
        show stp (trimM m (k : Int) (trimF f s)) (fs.map (trX k s) ++ [trX k s x], o) = _
        rw [stp_top _ _ _ _ hd, q1]
      simp only [adv]
      rw [hm] at g1 g2 ⊢
      rw [hn]
      have g2' : (stepF m fs x (tick o)).2.steps = o.steps + 1 := g2
      exact ih (stepF m fs x (tick o)) g1 q2 (by omega)
end
theorem same_run (m : PModule) (hp : Proper m) (hs : SmM m) (k : Nat) (f : PFunc) (s : List Bool) (hk : m.funcs[k]? = some f) (htr : Tr f s) (g : Int) (args : List Int) (steps : Int) (hl : args.length ≤ 300) :
    ∃ o e e', run_Run m g args steps = some (o, e) ∧ run_Run (trimM m (k : Int) (trimF f s)) g args steps = some (o, e') ∧ (e = GErr.no ↔ e' = GErr.no) ∧ o.out.length ≤ maxLen := by
  have hpn := trimM_proper m k f s hp hk htr
  have hsn := trimM_sm m k f s hs hk
  have hlk := tr_like (s := s) hk g.toNat
  have hfits : FitsA m g args ↔ FitsA (trimM m (k : Int) (trimF f s)) g args := by
    have hlen := tr_len (s := s) hk
    constructor
    · intro h
      exact ⟨h.f0, by rw [hlen]; exact h.f1, by rw [hlk.params]; exact h.len, fun i hi h2 => h.bools i hi (by rw [hlk.regs] at h2; exact h2)⟩
    · intro h
      exact ⟨h.f0, by rw [← hlen]; exact h.f1, by rw [← hlk.params]; exact h.len, fun i hi h2 => h.bools i hi (by rw [hlk.regs]; exact h2)⟩
  obtain ⟨e, h1 | h1⟩ := run_any m hs g args steps hl
  · obtain ⟨n1, n2, n3⟩ := h1
    obtain ⟨e', h2 | h2⟩ := run_any (trimM m (k : Int) (trimF f s)) hsn g args steps hl
    · obtain ⟨q1, q2, _⟩ := h2
      exact ⟨zeroO, e, e', n2, q2, ⟨fun h => absurd h n1, fun h => absurd h q1⟩, by simp [zeroO]⟩
    · obtain ⟨_, _, q3, q4, q5, _⟩ := h2
      exact absurd ⟨hp, hfits.2 q3, q4, q5⟩ n3
  · obtain ⟨_, _, n3, n4, n5, n6⟩ := h1
    obtain ⟨e', h2 | h2⟩ := run_any (trimM m (k : Int) (trimF f s)) hsn g args steps hl
    · exact absurd ⟨hpn, hfits.1 n3, n4, n5⟩ h2.2.2
    · obtain ⟨_, _, _, _, _, q6⟩ := h2
      have hst : startC (trimM m (k : Int) (trimF f s)) g args = ((startC m g args).1.map (trX k s), (startC m g args).2) := by
        unfold startC
        rw [newF_tr hk]; rfl
      have key := adv_tr hp hk htr hs steps.toNat (startC m g args) (start_good m hp g args n3) (fun y hy => by
        simp only [startC, List.mem_singleton] at hy
        subst hy
        exact fun _ => htr.zero) (by have : (startC m g args).2.steps = 0 := rfl; omega)
      rw [hst, key] at q6
      refine ⟨_, GErr.no, GErr.no, n6, q6, Iff.rfl, ?_⟩
      have := adv_out_len m hp hs g args n3 steps.toNat (by omega)
      simp only [maxLen]; omega
theorem pure_graphSame (m : PModule) (k g : Int) (args : List Int) (steps : Int) (h : wfModule m) (hk : inI64 k) (hg : inI64 g) (ha : okL inI64 args) (hs : inI64 steps) : fettlelaw05_GraphSame m k g args steps = some true := by
  unfold fettlelaw05_GraphSame
  rw [up05]
  obtain ⟨b, hb, hsm⟩ := small_ok m
  rw [hb]
  simp only [Option.bind_some]
  by_cases hc : (!b) = true ∨ len args > 20
  · rw [if_pos hc]
  rw [if_neg hc]
  simp only [not_or, len] at hc
  have hbt : b = true := by cases b <;> simp_all
  have hsm := hsm hbt
  obtain ⟨e, he1, he2⟩ := module_says m hsm
  rw [he1]
  simp only [Option.bind_some]
  by_cases hc2 : ((¬ e = GErr.no) ∨ k < 0) ∨ k ≥ len m.funcs
  · rw [if_pos hc2]
  rw [if_neg hc2]
  simp only [not_or, Classical.not_not, len] at hc2
  have hp := he2.1 hc2.1.1
  obtain ⟨q, rfl⟩ : ∃ q : Nat, k = (q : Int) := ⟨k.toNat, by omega⟩
  have hql : q < m.funcs.length := by omega
  have hkq : m.funcs[q]? = some m.funcs[q] := List.getElem?_eq_getElem hql
  have hfo := hp.funcs _ (List.getElem_mem hql)
  obtain ⟨s, htr, htm⟩ := tr_walked m.funcs[q] (hsm.2 _ (List.getElem_mem hql)) hfo.small.pos hfo.ends
  rw [copy_eq m hsm]
  simp only [Option.bind_some, idx_lt hql, htm]
  have key : ∀ c : Int, fettlelaw05_GraphSame.jn86 m (q : Int) g args true m (trimF m.funcs[q] s, numF s) c = some true := by
    intro c
    unfold fettlelaw05_GraphSame.jn86
    have hpn := trimM_proper m q m.funcs[q] s hp hkq htr
    have hsn := trimM_sm m q m.funcs[q] s hsm hkq
    obtain ⟨e2, hm1, hm2⟩ := module_says _ hsn
    obtain ⟨o, e3, e4, r1, r2, r3, r4⟩ := same_run m hp hsm q m.funcs[q] s hkq htr g args c (by omega)
    have ht : (⟨m.funcs.set ((q : Int)).toNat (trimF m.funcs[q] s)⟩ : PModule) = trimM m (q : Int) (trimF m.funcs[q] s) := rfl
    rw [ht, hm1, r1, r2]
    have he2' := hm2.2 hpn
    have hdec : ((decide (e3 = GErr.no)) == (decide (e4 = GErr.no))) = true := by
      by_cases h3 : e3 = GErr.no
      · simp [h3, r3.1 h3]
      · have h4 : ¬ e4 = GErr.no := fun h => h3 (r3.2 h)
        simp [h3, h4]
    simp only [Option.bind_some, he2', hdec, and_self, if_true, sameO_eq o o r4, decide_true]
  by_cases hst : steps > 1000
  · rw [if_pos hst]; exact key _
  · rw [if_neg hst]; exact key _
end Go.Proofs.Ytoflleabpkgdpaa
