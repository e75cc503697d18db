/- Plain laws, part w-A: the trimmed function's edges; a module with one function trimmed is proper. No conditions. -/
import Derived.Test.YtoflleabpkgdpaaQuK
import Derived.Test.YtoflleabpkgdpaaQvC
set_option linter.unusedVariables false
set_option linter.unusedSimpArgs false
set_option linter.unusedSectionVars false
namespace Go.Proofs.Ytoflleabpkgdpaa
open Go Go.Proofs

/-! ### What is reached -/
structure Tr (f : PFunc) (s : List Bool) : Prop where
  len : s.length = f.blocks.length
  zero : s.getD 0 false = true
  ends : ∀ B ∈ f.blocks, EndsOk f B.term
  clos : ∀ j (hj : j < f.blocks.length), s.getD j false = true → ∀ w ∈ f.blocks[j].term.to, s.getD w.toNat false = true
theorem tr_walked (f : PFunc) (hf : SmF f) (hpos : 1 ≤ f.blocks.length) (he : ∀ B ∈ f.blocks, EndsOk f B.term) : ∃ s, Tr f s ∧ graph_Trim f = some (trimF f s, numF s) := by
  obtain ⟨s, o, hw, _, h1⟩ := walked_any f hf
  obtain ⟨hV, hs0, _⟩ := h1 (by omega)
  have hl := hw.len
  refine ⟨s, ⟨hl, (sn_iff.1 hs0).2, he, fun j hj hsj w hwm => ?_⟩, trim_eq f hf hw⟩
  obtain ⟨w0, w1⟩ := (he _ (List.getElem_mem hj)).to w hwm
  have := hV.clos j w.toNat _ (sn_iff.2 ⟨by omega, hsj⟩) (by simp [hj]) (nexts_get f j hj) (by
    rw [mem_succs]; rw [Int.toNat_of_nonneg (by omega)]; exact ⟨hwm, by omega, w1⟩)
  exact (sn_iff.1 this).2

/-! ### Places -/
theorem rk_mono (s : List Bool) : ∀ (d i : Nat), i + d ≤ s.length → rk s i ≤ rk s (i + d)
  | 0, i, _ => Nat.le_refl _
  | d + 1, i, h => by
    have := rk_mono s d i (by omega)
    rw [show i + (d + 1) = (i + d) + 1 by omega, rk_succ s (i + d) (by omega)]
    omega
theorem rk_lt (s : List Bool) (i j : Nat) (hj : j ≤ s.length) (h : i < j) (hs : s.getD i false = true) : rk s i < rk s j := by
  have h1 := rk_succ s i (by omega)
  rw [if_pos hs] at h1
  have h2 := rk_mono s (j - (i + 1)) (i + 1) (by omega)
  rw [show i + 1 + (j - (i + 1)) = j by omega] at h2
  omega
theorem rk_inj (s : List Bool) (i j : Nat) (hi : i < s.length) (hj : j < s.length) (h1 : s.getD i false = true) (h2 : s.getD j false = true) (h : rk s i = rk s j) : i = j := by
  rcases Nat.lt_trichotomy i j with h3 | h3 | h3
  · have := rk_lt s i j (by omega) h3 h1; omega
  · exact h3
  · have := rk_lt s j i (by omega) h3 h2; omega
theorem range_rk (s : List Bool) : ∀ (n : Nat), n ≤ s.length → List.range (rk s n) = ((List.range n).filter fun j => s.getD j false).map (rk s)
  | 0, _ => by simp [rk]
  | n + 1, h => by
    have ih := range_rk s n (by omega)
    rw [List.range_succ, List.filter_append, List.map_append, ← ih, rk_succ s n (by omega)]
    by_cases hs : s.getD n false = true
    · rw [if_pos hs, List.range_succ]
      simp only [List.filter_cons, hs, if_true, List.filter_nil, List.map_cons, List.map_nil]
    · rw [if_neg hs]
      simp only [List.filter_cons, hs, if_false, Bool.false_eq_true, List.filter_nil, List.map_nil, List.append_nil, Nat.add_zero]
def rkI (s : List Bool) (b : Int) : Int := ((rk s b.toNat : Nat) : Int)
theorem trim_len {f : PFunc} {s : List Bool} (h : Tr f s) : (trimF f s).blocks.length = rk s s.length := by
  rw [trimF_len f s h.len, rk, List.take_length]
theorem nexts_trim {f : PFunc} {s : List Bool} (h : Tr f s) (j i : Nat) (hj : j < f.blocks.length) (hi : i < f.blocks.length) (hsj : s.getD j false = true) (hsi : s.getD i false = true) :
    (((rk s i : Nat) : Int) ∈ (nexts (trimF f s)).getD (rk s j) [] ↔ (i : Int) ∈ (nexts f).getD j []) := by
  have hg := trimF_get f s h.len j hj hsj
  obtain ⟨hgl, hge⟩ := List.getElem?_eq_some_iff.1 hg
  have hgi := (List.getElem?_eq_some_iff.1 (trimF_get f s h.len i hi hsi)).1
  rw [List.getD_eq_getElem?_getD, List.getD_eq_getElem?_getD, nexts_get _ _ hgl, nexts_get f j hj, hge]
  simp only [Option.getD_some, mem_succs, trimB, List.mem_map]
  have hl := h.len
  constructor
  · rintro ⟨⟨w, hw, he⟩, _⟩
    obtain ⟨w0, w1⟩ := (h.ends _ (List.getElem_mem hj)).to w hw
    have hws := h.clos j hj hsj w hw
    obtain ⟨x, rfl⟩ : ∃ x : Nat, w = (x : Int) := ⟨w.toNat, by omega⟩
    simp only [Int.toNat_natCast] at hws
    rw [renum_num s x (by omega) hws] at he
    have := rk_inj s x i (by omega) (by omega) hws hsi (by omega)
    subst this
    exact ⟨hw, by omega, by omega⟩
  · rintro ⟨hm, _⟩
    exact ⟨⟨(i : Int), hm, renum_num s i (by omega) hsi⟩, by omega, by omega⟩
theorem preds_trim {f : PFunc} {s : List Bool} (h : Tr f s) (i : Nat) (hi : i < f.blocks.length) (hsi : s.getD i false = true) :
    preds (nexts (trimF f s)) (rk s i) = ((preds (nexts f) i).filter fun x => s.getD x.toNat false).map (rkI s) := by
  have hl := h.len
  unfold preds
  rw [nexts_length, nexts_length, trim_len h, range_rk s s.length (Nat.le_refl _), List.filter_map, List.filter_map, List.filter_filter, List.map_map, List.map_map, List.filter_filter, hl]
  have : (List.range f.blocks.length).filter (fun a => ((fun j => decide (((rk s i : Nat) : Int) ∈ (nexts (trimF f s)).getD j [])) ∘ rk s) a && s.getD a false) = (List.range f.blocks.length).filter (fun a => ((fun x => s.getD x.toNat false) ∘ fun (j : Nat) => (j : Int)) a && decide ((i : Int) ∈ (nexts f).getD a [])) := by
    apply List.filter_congr
    intro a ha
    rw [List.mem_range] at ha
    simp only [Function.comp, Int.toNat_natCast]
    cases hs : s.getD a false with
    | false => simp
    | true =>
      have := nexts_trim h a i ha hi hs hsi
      simp only [Bool.and_true, Bool.true_and, this]
  rw [this]
  apply List.map_congr_left
  intro a _
  simp [rkI, Function.comp]
theorem kept_at (s : List Bool) (x : Int) (g : Int → Int) (hs : s.getD x.toNat false = true) : ∀ (args ah : List Int), args.length = ah.length → x ∈ ah → (∀ y ∈ ah, s.getD y.toNat false = true → g y = g x → y = x) →
    (((args.zip ah).filter fun p => s.getD p.2.toNat false).map (·.1)).getD (((ah.filter fun y => s.getD y.toNat false).map g).idxOf (g x)) 0 = args.getD (ah.idxOf x) 0
  | [], [], _, hm, _ => by simp at hm
  | a :: args, y :: ah, hl, hm, hi => by
    simp only [List.zip_cons_cons, List.filter_cons]
    by_cases hy : s.getD y.toNat false = true
    · simp only [hy, if_true, List.map_cons]
      by_cases hyx : y = x
      · subst hyx
        simp
      · have hgx : ¬ g y = g x := fun h => hyx (hi y (List.mem_cons_self ..) hy h)
        have hb1 : (g y == g x) = false := by simpa using hgx
        have hb2 : (y == x) = false := by simpa using hyx
        rw [List.idxOf_cons, List.idxOf_cons, hb1, hb2]
        simp only [cond_false, List.getD_cons_succ]
        exact kept_at s x g hs args ah (by simpa using hl) ((List.mem_cons.1 hm).resolve_left (fun h => hyx h.symm)) (fun z hz => hi z (List.mem_cons_of_mem _ hz))
    · have hyx : ¬ y = x := fun h => hy (by rw [h]; exact hs)
      have hb2 : (y == x) = false := by simpa using hyx
      simp only [hy, if_false, Bool.false_eq_true]
      rw [List.idxOf_cons, hb2]
      simp only [cond_false, List.getD_cons_succ]
      exact kept_at s x g hs args ah (by simpa using hl) ((List.mem_cons.1 hm).resolve_left (fun h => hyx h.symm)) (fun z hz => hi z (List.mem_cons_of_mem _ hz))
theorem kept_len (s : List Bool) : ∀ (args ah : List Int), args.length = ah.length → ((args.zip ah).filter fun p => s.getD p.2.toNat false).length = (ah.filter fun y => s.getD y.toNat false).length
  | [], [], _ => rfl
  | a :: args, y :: ah, hl => by
    have ih := kept_len s args ah (by simpa using hl)
    simp only [List.zip_cons_cons, List.filter_cons]
    split
    · simp only [List.length_cons, ih]
    · exact ih
theorem keptF_mem {args ah : List Int} {s : List Bool} {a : Int} (h : a ∈ keptF args ah s) : a ∈ args := by
  unfold keptF at h
  split at h
  · obtain ⟨p, hp, rfl⟩ := List.mem_map.1 h
    exact (List.of_mem_zip (List.mem_filter.1 hp).1).1
  · exact h

/-! ### The module -/
def trimM (m : PModule) (k : Int) (t : PFunc) : PModule := ⟨m.funcs.set k.toNat t⟩
structure Like (f t : PFunc) : Prop where
  params : t.params = f.params
  result : t.result = f.result
  regs : t.regs = f.regs
theorem like_trim (f : PFunc) (s : List Bool) : Like f (trimF f s) := ⟨rfl, rfl, rfl⟩
section
variable {m : PModule} {k : Nat} {f t : PFunc} (hk : m.funcs[k]? = some f) (hlk : Like f t)
include hk hlk
theorem trimM_idx {j : Int} {g : PFunc} (h : idx m.funcs j = some g) : ∃ g', idx (trimM m (k : Int) t).funcs j = some g' ∧ Like g g' := by
  obtain ⟨h0, h1, h2⟩ := idx_some h
  simp only [idx, if_pos h0, trimM, Int.toNat_natCast, List.getElem?_set]
  by_cases hj : k = j.toNat
  · rw [← hj, hk] at h2
    cases h2
    rw [if_pos hj, if_pos (by omega)]
    exact ⟨t, rfl, hlk⟩
  · rw [if_neg hj]
    exact ⟨g, h2, ⟨rfl, rfl, rfl⟩⟩
theorem trimM_ar {x : PInstr} {n r : Int} (h : arF m x = some (n, r)) : arF (trimM m (k : Int) t) x = some (n, r) := by
  unfold arF at h ⊢
  by_cases h1 : x.op = 2 ∨ x.op = 14
  · rwa [if_pos h1] at h ⊢
  rw [if_neg h1] at h ⊢
  by_cases h2 : x.op ≥ 3 ∧ x.op ≤ 13
  · rwa [if_pos h2] at h ⊢
  rw [if_neg h2] at h ⊢
  by_cases h3 : x.op = 1
  · rwa [if_pos h3] at h ⊢
  rw [if_neg h3] at h ⊢
  by_cases h4 : x.op = 15
  · rwa [if_pos h4] at h ⊢
  rw [if_neg h4] at h ⊢
  by_cases h5 : x.op = 18
  · rwa [if_pos h5] at h ⊢
  rw [if_neg h5] at h ⊢
  by_cases h6 : x.op = 16
  · rwa [if_pos h6] at h ⊢
  rw [if_neg h6] at h ⊢
  by_cases h7 : x.op = 17
  · rw [if_pos h7] at h ⊢
    cases hg : idx m.funcs x.fn with
    | none => rw [hg] at h; cases h
    | some g =>
      obtain ⟨g', e1, e2⟩ := trimM_idx hk hlk hg
      rw [hg] at h
      rw [e1]
      simp only [Option.map_some, e2.params, e2.result] at h ⊢
      exact h
  · rw [if_neg h7] at h; cases h
theorem trimM_fits {F : PFunc} {x : PInstr} (h : FitsOk m F x) : FitsOk (trimM m (k : Int) t) F x := by
  unfold FitsOk at h ⊢
  by_cases h7 : x.op = 17
  · simp only [h7] at h ⊢
    simp only [show ¬ (17 : Int) = 1 by omega, show ¬ (17 : Int) = 2 by omega, show ¬ ((17 : Int) = 12 ∨ (17 : Int) = 13) by omega, show ¬ (17 : Int) = 14 by omega, show ¬ ((17 : Int) = 18 ∨ (17 : Int) = 16) by omega, if_false, if_true] at h ⊢
    obtain ⟨g, hg⟩ := h
    obtain ⟨g', e1, e2⟩ := trimM_idx hk hlk hg.fn
    exact ⟨g', ⟨e1, by rw [e2.params]; exact hg.nn, by rw [e2.params, e2.regs]; exact hg.le, fun i hi => by rw [e2.regs]; exact hg.args i hi, by rw [e2.result]; exact hg.res⟩⟩
  · rw [if_neg h7] at h ⊢; exact h
theorem trimM_instr {F : PFunc} {x : PInstr} {n r : Int} (h : InstrOk m F x n r) : InstrOk (trimM m (k : Int) t) F x n r :=
  ⟨trimM_ar hk hlk h.ar, h.len, h.args, h.dst, h.none, h.imm, h.fn, trimM_fits hk hlk h.fits⟩
theorem trimM_func {F : PFunc} (h : FuncOk m F) : FuncOk (trimM m (k : Int) t) F :=
  ⟨h.small, h.typed, h.ends, h.ahead, fun B hB => ⟨(h.blocks B hB).phis, fun x hx => by obtain ⟨n, r, hi⟩ := (h.blocks B hB).ins x hx; exact ⟨n, r, trimM_instr hk hlk hi⟩, (h.blocks B hB).term⟩⟩
end
theorem tyR_like {f t : PFunc} (h : Like f t) {r q : Int} : tyR t r q ↔ tyR f r q := by unfold tyR; rw [h.regs]
theorem hasR_like {f t : PFunc} (h : Like f t) {r : Int} : hasR t r ↔ hasR f r := by unfold hasR; rw [h.regs]
theorem fits_like {m : PModule} {f t : PFunc} (h : Like f t) {x : PInstr} (hx : FitsOk m f x) : FitsOk m t x := by
  unfold FitsOk at hx ⊢
  simp only [tyR_like h, h.regs]
  by_cases h7 : x.op = 17
  · simp only [h7] at hx ⊢
    simp only [show ¬ (17 : Int) = 1 by omega, show ¬ (17 : Int) = 2 by omega, show ¬ ((17 : Int) = 12 ∨ (17 : Int) = 13) by omega, show ¬ (17 : Int) = 14 by omega, show ¬ ((17 : Int) = 18 ∨ (17 : Int) = 16) by omega, if_false, if_true] at hx ⊢
    obtain ⟨g, hg⟩ := hx
    exact ⟨g, ⟨hg.fn, hg.nn, hg.le, fun i hi => by obtain ⟨q, e1, e2⟩ := hg.args i hi; exact ⟨q, e1, (tyR_like h).2 e2⟩, hg.res.imp id (tyR_like h).2⟩⟩
  · rw [if_neg h7] at hx ⊢; exact hx
theorem instr_like {m : PModule} {f t : PFunc} (h : Like f t) {x : PInstr} {n r : Int} (hx : InstrOk m f x n r) : InstrOk m t x n r :=
  ⟨hx.ar, hx.len, fun a ha => (hasR_like h).2 (hx.args a ha), fun hr => (hasR_like h).2 (hx.dst hr), hx.none, hx.imm, hx.fn, fits_like h hx.fits⟩
theorem ins_trim (f : PFunc) (s : List Bool) (hl : s.length = f.blocks.length) : ∀ n, n ≤ f.blocks.length →
    (((List.range n).filterMap (trimAt f s)).map fun (B : PBlock) => B.phis.length + B.ins.length + 1).sum ≤ ((f.blocks.take n).map fun (B : PBlock) => B.phis.length + B.ins.length + 1).sum
  | 0, _ => by simp
  | n + 1, h => by
    have ih := ins_trim f s hl n (by omega)
    have hn : n < f.blocks.length := by omega
    rw [List.range_succ, List.filterMap_append, List.map_append, List.sum_append, List.take_succ_eq_append_getElem hn, List.map_append, List.sum_append]
    have : (([n].filterMap (trimAt f s)).map fun (B : PBlock) => B.phis.length + B.ins.length + 1).sum ≤ f.blocks[n].phis.length + f.blocks[n].ins.length + 1 := by
      simp only [List.filterMap_cons, List.filterMap_nil, trimAt, List.getElem?_eq_getElem hn]
      split <;> rename_i h
      · simp
      · split at h
        · cases h; simp [trimB]
        · cases h
    simp only [List.map_cons, List.map_nil, List.sum_cons, List.sum_nil, Nat.add_zero]
    exact Nat.add_le_add ih this
theorem trim_ok (m : PModule) (f : PFunc) (s : List Bool) (h : FuncOk m f) (htr : Tr f s) : FuncOk m (trimF f s) := by
  have hl := htr.len
  have hlk := like_trim f s
  have hpos := h.small.pos
  have hall : ∀ B ∈ (trimF f s).blocks, ∃ i, ∃ hi : i < f.blocks.length, s.getD i false = true ∧ B = trimB s (preds (nexts f) i) f.blocks[i] := fun B hB => by
    obtain ⟨q, hq, rfl⟩ := List.getElem_of_mem hB
    obtain ⟨i, hi, hs, rfl⟩ := trimF_all f s hl q hq
    have := trimF_get f s hl i hi hs
    rw [List.getElem?_eq_getElem hq] at this
    exact ⟨i, hi, hs, Option.some.inj this⟩
  have hrk := rk_le s s.length (Nat.le_refl _)
  have htl := trim_len htr
  refine ⟨⟨?_, ?_, h.small.regs, ?_⟩, ⟨h.typed.regs, h.typed.nn, h.typed.few, h.typed.le, h.typed.res⟩, fun B hB => ?_, fun q hq p hp => ?_, fun B hB => ?_⟩
  · have := rk_lt s 0 s.length (Nat.le_refl _) (by omega) htr.zero
    omega
  · have := h.small.blocks; omega
  · have := ins_trim f s hl f.blocks.length (Nat.le_refl _)
    have h2 := h.small.ins
    rw [List.take_length] at this
    unfold insCount at h2 ⊢
    exact Nat.le_trans this h2
  · obtain ⟨i, hi, hs, rfl⟩ := hall B hB
    have he := h.ends _ (List.getElem_mem hi)
    have hw : ∀ w ∈ f.blocks[i].term.to, renum (numF s) w = ((rk s w.toNat : Nat) : Int) ∧ 1 ≤ rk s w.toNat ∧ rk s w.toNat < rk s s.length := fun w hw => by
      obtain ⟨w0, w1⟩ := he.to w hw
      have hws := htr.clos i hi hs w hw
      have e := renum_num s w.toNat (by omega) hws
      rw [Int.toNat_of_nonneg (by omega)] at e
      refine ⟨e, ?_, rk_lt s _ _ (Nat.le_refl _) (by omega) hws⟩
      have := rk_lt s 0 w.toNat (by omega) (by omega) htr.zero
      omega
    refine ⟨fun x hx => ?_, ?_⟩
    · simp only [trimB, List.mem_map] at hx
      obtain ⟨w, hwm, rfl⟩ := hx
      obtain ⟨e1, e2, e3⟩ := hw w hwm
      rw [e1, htl]; omega
    · simp only [trimB]
      rcases he.kind with ⟨k1, a, ha⟩ | ⟨k2, a, b, ha, hab⟩ | ⟨k3, ha⟩
      · exact .inl ⟨k1, renum (numF s) a, by rw [ha]; rfl⟩
      · refine .inr (.inl ⟨k2, renum (numF s) a, renum (numF s) b, by rw [ha]; rfl, fun heq => hab ?_⟩)
        have ha' : a ∈ f.blocks[i].term.to := by rw [ha]; simp
        have hb' : b ∈ f.blocks[i].term.to := by rw [ha]; simp
        obtain ⟨a0, a1⟩ := he.to a ha'
        obtain ⟨b0, b1⟩ := he.to b hb'
        rw [(hw a ha').1, (hw b hb').1] at heq
        have := rk_inj s a.toNat b.toNat (by omega) (by omega) (htr.clos i hi hs a ha') (htr.clos i hi hs b hb') (by omega)
        omega
      · exact .inr (.inr ⟨k3, by rw [ha]; rfl⟩)
  · obtain ⟨i, hi, hs, rfl⟩ := trimF_all f s hl q hq
    have hg := trimF_get f s hl i hi hs
    rw [List.getElem?_eq_getElem hq] at hg
    have hg := Option.some.inj hg
    rw [hg] at hp
    simp only [trimB, List.mem_map] at hp
    obtain ⟨p0, hp0, rfl⟩ := hp
    have ha := h.ahead i hi p0 hp0
    rw [preds_trim htr i hi hs, List.length_map]
    simp only [keptF, if_pos ha, List.length_map]
    exact kept_len s _ _ ha
  · obtain ⟨i, hi, hs, rfl⟩ := hall B hB
    have hb := h.blocks _ (List.getElem_mem hi)
    refine ⟨fun p hp => ?_, fun x hx => ?_, ?_⟩
    · simp only [trimB, List.mem_map] at hp
      obtain ⟨p0, hp0, rfl⟩ := hp
      have := hb.phis p0 hp0
      exact ⟨this.dst, fun a ha => this.args a (keptF_mem ha), fun a ha => this.same a (keptF_mem ha)⟩
    · obtain ⟨n, r, hi⟩ := hb.ins x hx
      exact ⟨n, r, instr_like hlk hi⟩
    · exact hb.term
theorem trimM_proper (m : PModule) (k : Nat) (f : PFunc) (s : List Bool) (hp : Proper m) (hk : m.funcs[k]? = some f) (htr : Tr f s) : Proper (trimM m (k : Int) (trimF f s)) := by
  have hfm : f ∈ m.funcs := List.mem_of_getElem? hk
  refine ⟨by simp only [trimM, List.length_set]; exact hp.few, fun F hF => ?_⟩
  rcases List.mem_or_eq_of_mem_set hF with h | h
  · exact trimM_func hk (like_trim f s) (hp.funcs F h)
  · subst h
    exact trimM_func hk (like_trim f s) (trim_ok m f s (hp.funcs f hfm) htr)
theorem trimM_sm (m : PModule) (k : Nat) (f : PFunc) (s : List Bool) (hs : SmM m) (hk : m.funcs[k]? = some f) : SmM (trimM m (k : Int) (trimF f s)) := by
  have hfm : f ∈ m.funcs := List.mem_of_getElem? hk
  refine ⟨by simp only [trimM, List.length_set]; exact hs.1, fun F hF => ?_⟩
  rcases List.mem_or_eq_of_mem_set hF with h | h
  · exact hs.2 F h
  · subst h; exact trimF_small f (hs.2 f hfm) s
end Go.Proofs.Ytoflleabpkgdpaa
