/- Plain laws, part v-C: what a run comes to. No conditions. -/
import Derived.Test.YtoflleabpkgdpaaQvB
import Derived.Test.YtoflleabpkgdpaaOp
set_option linter.unusedVariables false
set_option linter.unusedSimpArgs false
namespace Go.Proofs.Ytoflleabpkgdpaa
open Go Go.Proofs

/-! ### Many steps -/
abbrev Cfg := List PFrame × POutcome
def zeroO : POutcome := ⟨false, 0, 0, [], 0, A64.zero⟩
def tick (o : POutcome) : POutcome := ⟨o.done, o.trap, o.value, o.out, o.steps + 1, o.memory⟩
def stp (m : PModule) (c : Cfg) : Cfg := if c.2.done = true then c else match c.1.getLast? with
  | some x => stepF m c.1.dropLast x (tick c.2)
  | none => c
def adv (m : PModule) : Nat → Cfg → Cfg
  | 0, c => c
  | n + 1, c => adv m n (stp m c)
theorem adv_done (m : PModule) (c : Cfg) (h : c.2.done = true) : ∀ n, adv m n c = c
  | 0 => rfl
  | n + 1 => by
    have : stp m c = c := by unfold stp; rw [if_pos h]
    rw [adv, this]; exact adv_done m c h n
structure Good (m : PModule) (c : Cfg) : Prop where
  s0 : 0 ≤ c.2.steps
  out : (c.2.out.length : Int) ≤ c.2.steps
  fr : c.2.done = false → ∃ fs x, c.1 = fs ++ [x] ∧ Wf m fs x ∧ (fs.length : Int) ≤ c.2.steps
theorem stp_top (m : PModule) (fs : List PFrame) (x : PFrame) (o : POutcome) (h : o.done = false) : stp m (fs ++ [x], o) = stepF m fs x (tick o) := by
  unfold stp
  simp [h]
theorem stp_ok (m : PModule) (hp : Proper m) (hs : SmM m) (c : Cfg) (h : Good m c) (hd : c.2.done = false) (hb : c.2.steps ≤ 5000000) :
    Good m (stp m c) ∧ (stp m c).2.steps = c.2.steps + 1 ∧ c.2.out <+: (stp m c).2.out ∧
      run_runner_step ⟨m, ahs m, c.1, tick c.2⟩ = some ((stp m c).1, (stp m c).2.done, (stp m c).2.trap, (stp m c).2.value, (stp m c).2.out, (stp m c).2.memory) := by
  obtain ⟨fr, o⟩ := c
  obtain ⟨fs, x, hfx, hw, hl⟩ := h.fr hd
  have h0 := h.s0
  have ho := h.out
  simp only at hfx hl h0 ho hd hb
  subst hfx
  rw [stp_top m fs x o hd]
  obtain ⟨e1, e2, e3, e4⟩ := step_eq m hp hs fs x (tick o) hw (by simp only [BIG]; omega) (by simp only [BIG, tick]; omega)
  have es : (stepF m fs x (tick o)).2.steps = o.steps + 1 := e2
  refine ⟨⟨by rw [es]; omega, ?_, fun hnd => ?_⟩, es, ?_, e1⟩
  · rw [es]
    rcases e4 with h | ⟨v, h⟩
    · rw [h]; simp only [tick]; omega
    · rw [h]; simp only [tick, List.length_append, List.length_singleton]; omega
  · rcases e3 with h | ⟨fs', x', h1, h2, h3⟩
    · rw [h] at hnd; cases hnd
    · exact ⟨fs', x', h1, h2, by rw [es]; omega⟩
  · rcases e4 with h | ⟨v, h⟩
    · rw [h]; exact List.prefix_refl _
    · rw [h]; exact List.prefix_append _ _
theorem adv_ok (m : PModule) (hp : Proper m) (hs : SmM m) : ∀ (n : Nat) (c : Cfg), Good m c → c.2.steps + n ≤ 5000000 →
    Good m (adv m n c) ∧ c.2.steps ≤ (adv m n c).2.steps ∧ (adv m n c).2.steps ≤ c.2.steps + n ∧ ((adv m n c).2.done = false → (adv m n c).2.steps = c.2.steps + n) ∧ c.2.out <+: (adv m n c).2.out
  | 0, c, h, _ => ⟨h, Int.le_refl _, by simp [adv], fun _ => by simp [adv], List.prefix_refl _⟩
  | n + 1, c, h, hb => by
    cases hd : c.2.done with
    | true =>
      rw [adv_done m c hd]
      exact ⟨h, Int.le_refl _, by omega, (fun h2 => by rw [hd] at h2; cases h2), List.prefix_refl _⟩
    | false =>
      obtain ⟨g1, g2, g3, _⟩ := stp_ok m hp hs c h hd (by omega)
      obtain ⟨i1, i2, i3, i4, i5⟩ := adv_ok m hp hs n (stp m c) g1 (by omega)
      rw [adv]
      exact ⟨i1, by omega, by omega, fun h2 => by have := i4 h2; omega, g3.trans i5⟩
abbrev tup (c : Cfg) : List PFrame × Bool × Int × Int × List Int × Int × A64 := (c.1, c.2.done, c.2.trap, c.2.value, c.2.out, c.2.steps, c.2.memory)
theorem run_loop (m : PModule) (hp : Proper m) (hs : SmM m) (lim : Int) (hl : lim ≤ 2000000) : ∀ (d : Nat) (c : Cfg) (k : Nat), Good m c → (lim - c.2.steps).toNat = d → d < k → c.2.steps ≤ 2000000 →
    whl (fun (s : (List PFrame × Bool × Int × Int × List Int × Int × A64)) => run_Run.bd63 m lim (ahs m) s.1 s.2.1 s.2.2.1 s.2.2.2.1 s.2.2.2.2.1 s.2.2.2.2.2.1 s.2.2.2.2.2.2) k (tup c) = some (tup (adv m d c)) := by
  intro d
  induction d with
  | zero =>
    intro c k h hd hk hb
    obtain ⟨k, rfl⟩ : ∃ q, k = q + 1 := ⟨k - 1, by omega⟩
    have : run_Run.bd63 m lim (ahs m) c.1 c.2.done c.2.trap c.2.value c.2.out c.2.steps c.2.memory = some (.ret (tup c)) := by
      unfold run_Run.bd63
      rw [if_neg (by omega)]
    simp only [whl, this, Option.bind_some, adv]
  | succ d ih =>
    intro c k h hd hk hb
    obtain ⟨k, rfl⟩ : ∃ q, k = q + 1 := ⟨k - 1, by omega⟩
    cases hdn : c.2.done with
    | true =>
      have : run_Run.bd63 m lim (ahs m) c.1 c.2.done c.2.trap c.2.value c.2.out c.2.steps c.2.memory = some (.ret (tup c)) := by
        unfold run_Run.bd63
        rw [if_neg (by rw [hdn]; simp)]
      rw [adv_done m c hdn]
      simp only [whl, this, Option.bind_some]
    | false =>
      obtain ⟨g1, g2, g3, g4⟩ := stp_ok m hp hs c h hdn (by omega)
      have h0 := h.s0
      have hw : w64 (c.2.steps + 1) = c.2.steps + 1 := w64_id ⟨by omega, by omega⟩
      have : run_Run.bd63 m lim (ahs m) c.1 c.2.done c.2.trap c.2.value c.2.out c.2.steps c.2.memory = some (.go (tup (stp m c))) := by
        unfold run_Run.bd63
        rw [if_pos ⟨by omega, by rw [hdn]; rfl⟩, hw]
        have g4' : run_runner_step (⟨(⟨m.funcs⟩ : PModule), ahs m, c.1, (⟨c.2.done, c.2.trap, c.2.value, c.2.out, c.2.steps + 1, c.2.memory⟩ : POutcome)⟩ : PRunner) = some ((stp m c).1, (stp m c).2.done, (stp m c).2.trap, (stp m c).2.value, (stp m c).2.out, (stp m c).2.memory) := g4
        rw [g4']
        simp only [Option.bind_some, tup, g2]
      simp only [whl, this, Option.bind_some]
      rw [ih (stp m c) k g1 (by omega) (by omega) (by omega)]; rfl

/-! ### Runs -/
structure FitsA (m : PModule) (f : Int) (args : List Int) : Prop where
  f0 : 0 ≤ f
  f1 : f < (m.funcs.length : Int)
  len : (args.length : Int) = (m.funcs.getD f.toNat PFunc.zero).params
  bools : ∀ i (hi : i < args.length), (m.funcs.getD f.toNat PFunc.zero).regs.getD i 0 = 2 → args[i] = 0 ∨ args[i] = 1
theorem fitsR_eq (m : PModule) (hp : Proper m) (f : Int) (args : List Int) (steps : Int) (hl : args.length ≤ 300) : ∃ b : Bool, run_fits m f args steps = some b ∧ (b = true ↔ FitsA m f args ∧ 0 ≤ steps ∧ steps ≤ 1048576) := by
  unfold run_fits
  by_cases h1 : f < 0 ∨ f ≥ len m.funcs
  · rw [if_pos h1]
    simp only [Option.bind_some, true_or, if_true]
    refine ⟨false, rfl, by simp, fun h => ?_⟩
    have := h.1.f0; have := h.1.f1
    simp only [len] at h1; omega
  rw [if_neg h1]
  simp only [not_or, len] at h1
  have hix : idx m.funcs f = some (m.funcs.getD f.toNat PFunc.zero) := idx_getD (by omega) (by omega)
  have hgm : m.funcs.getD f.toNat PFunc.zero ∈ m.funcs := getD_mem (by omega)
  have ht := (hp.funcs _ hgm).typed
  rw [hix]
  simp only [Option.bind_some, decide_eq_true_eq, len]
  generalize hg : m.funcs.getD f.toNat PFunc.zero = g at ht
  by_cases h2 : (¬ ((args.length : Nat) : Int) = g.params ∨ steps < 0) ∨ steps > 1048576
  · rw [if_pos h2]
    refine ⟨false, rfl, by simp, fun h => ?_⟩
    have h3 := h.1.len
    rw [hg] at h3
    omega
  rw [if_neg h2]
  simp only [not_or, Classical.not_not] at h2
  have hpr := ht.le
  rcases scan_ix args.length (le_max hl (by omega)) (fun i => ∀ a, args[i]? = some a → g.regs.getD i 0 = 2 → a = 0 ∨ a = 1) (fun e : Bool => e = false) (fun s => run_fits.bd63 m f args s) (fun i hi => by
    have hir : i < g.regs.length := by omega
    have hgr : g.regs.getD i 0 = g.regs[i] := by simp [List.getD_eq_getElem?_getD, hir]
    simp only [run_fits.bd63, len_lt, hi, if_true, idx_lt hi, hix, hg, idx_lt hir, Option.bind_some, w64_i hi (show args.length ≤ 1000 by omega)]
    by_cases hc : (g.regs[i] = 2 ∧ ¬ args[i] = 0) ∧ ¬ args[i] = 1
    · refine .inl ⟨false, by rw [if_pos hc], rfl, fun h => ?_⟩
      rcases h _ (List.getElem?_eq_getElem hi) (by rw [hgr]; exact hc.1.1) with h | h
      · exact hc.1.2 h
      · exact hc.2 h
    · refine .inr ⟨by rw [if_neg hc], fun a ha h2' => ?_⟩
      rw [List.getElem?_eq_getElem hi] at ha; cases ha
      rw [hgr] at h2'
      by_cases h0 : args[i] = 0
      · exact .inl h0
      · by_cases h1' : args[i] = 1
        · exact .inr h1'
        · exact absurd ⟨⟨h2', h0⟩, h1'⟩ hc) (by simp [run_fits.bd63, len]) with ⟨e, hw, rfl, hn⟩ | ⟨hw, hall⟩
  · rw [hw]
    refine ⟨false, rfl, by simp, fun h => (hn fun i hi a ha h2' => ?_).elim⟩
    obtain ⟨hi', he⟩ := List.getElem?_eq_some_iff.1 ha
    subst he
    exact h.1.bools i hi' (by rw [hg]; exact h2')
  · rw [hw]
    refine ⟨true, rfl, fun _ => ⟨⟨by omega, by omega, by rw [hg]; exact h2.1.1, fun i hi h3 => ?_⟩, by omega, by omega⟩, fun _ => rfl⟩
    rw [hg] at h3
    exact hall i hi _ (List.getElem?_eq_getElem hi) h3
def startC (m : PModule) (f : Int) (args : List Int) : Cfg := ([newF m f args (-1)], zeroO)
theorem start_good (m : PModule) (hp : Proper m) (f : Int) (args : List Int) (h : FitsA m f args) : Good m (startC m f args) := by
  have h0 := h.f0
  have h1 := h.f1
  have hgm : m.funcs.getD f.toNat PFunc.zero ∈ m.funcs := getD_mem (by omega)
  have hle := (hp.funcs _ hgm).typed.le
  have hlen := h.len
  refine ⟨Int.le_refl _, Int.le_refl _, fun _ => ⟨[], _, rfl, ⟨fun y hy => by simp at hy, newF_ok m hp f h0 h1 args _ (by omega), fun i a b e1 e2 => ?_⟩, Int.le_refl _⟩⟩
  have := (List.getElem?_eq_some_iff.1 e2).1
  simp at this
theorem ahs_eq (m : PModule) (hs : SmM m) : whl (fun (s : (List (List (List Int)) × Int)) => run_Run.bd42 m s.1 s.2) FUEL (([] : List (List (List Int))), 0) = some (ahs m) :=
  whl_map m.funcs (fun (f : PFunc) => aheads (nexts f)) (r := ahs m) (le_max hs.1 (by omega)) (fun i hi => by
    have hl := hs.1
    simp only [run_Run.bd42, len_lt, hi, if_true, idx_lt hi, Option.bind_some, checkAhead_eq _ (hs.2 _ (List.getElem_mem hi))]
    rw [cat_one (by simp; omega)]
    simp only [Option.bind_some, run_Run.jn108, w64_i hi (show m.funcs.length ≤ 1000 by omega)]) (by simp [run_Run.bd42, len, ahs])
theorem run_any (m : PModule) (hs : SmM m) (f : Int) (args : List Int) (steps : Int) (hl : args.length ≤ 300) :
    ∃ e, (e ≠ GErr.no ∧ run_Run m f args steps = some (zeroO, e) ∧ ¬ (Proper m ∧ FitsA m f args ∧ 0 ≤ steps ∧ steps ≤ 1048576)) ∨
      (e = GErr.no ∧ Proper m ∧ FitsA m f args ∧ 0 ≤ steps ∧ steps ≤ 1048576 ∧ run_Run m f args steps = some ((adv m steps.toNat (startC m f args)).2, GErr.no)) := by
  unfold run_Run
  obtain ⟨e, he1, he2⟩ := module_says m hs
  rw [he1]
  simp only [Option.bind_some]
  by_cases h : e = GErr.no
  · have hp := he2.1 h
    rw [if_neg (by simpa using h)]
    obtain ⟨b, hb1, hb2⟩ := fitsR_eq m hp f args steps hl
    rw [hb1]
    simp only [Option.bind_some]
    cases b with
    | false =>
      refine ⟨GErr.code 1, .inl ⟨by simp, by simp [zeroO], fun hh => ?_⟩⟩
      have := hb2.2 hh.2
      simp at this
    | true =>
      obtain ⟨hfa, h0, h1⟩ := hb2.1 rfl
      refine ⟨GErr.no, .inr ⟨rfl, hp, hfa, h0, h1, ?_⟩⟩
      simp only [Bool.not_true, Bool.false_eq_true, if_false, ahs_eq m hs, Option.bind_some, run_Run.nx42]
      have hix : idx m.funcs f = some (m.funcs.getD f.toNat PFunc.zero) := idx_getD hfa.f0 hfa.f1
      have hgm : m.funcs.getD f.toNat PFunc.zero ∈ m.funcs := getD_mem (by have := hfa.f0; have := hfa.f1; omega)
      have hgr := (hs.2 _ hgm).2.1
      have hmk : mkl (((m.funcs.getD f.toNat PFunc.zero).regs.length : Nat) : Int) (0 : Int) = some (List.replicate (m.funcs.getD f.toNat PFunc.zero).regs.length 0) := by
        generalize (m.funcs.getD f.toNat PFunc.zero).regs.length = q at hgr
        have h1 : q < LIM := by simp only [LIM]; omega
        simp [mkl, len, h1]
      have hen : run_runner_enter (⟨(⟨m.funcs⟩ : PModule), ahs m, ([] : List PFrame), (⟨false, 0, 0, [], 0, A64.zero⟩ : POutcome)⟩ : PRunner) f args (-1) = some [newF m f args (-1)] := by
        simp only [run_runner_enter, hix, Option.bind_some, len, hmk]
        rw [cat_one (by simp)]; rfl
      rw [hen]
      simp only [Option.bind_some]
      have hlp := run_loop m hp hs steps (by omega) steps.toNat (startC m f args) FUEL (start_good m hp f args hfa) (by simp [startC, zeroO]) (lt_FUEL (by simp only [maxLen]; omega)) (by simp [startC, zeroO])
      have e0 : tup (startC m f args) = ([newF m f args (-1)], false, 0, 0, ([] : List Int), 0, A64.zero) := rfl
      rw [e0] at hlp
      rw [hlp]
      simp only [Option.bind_some, run_Run.nx63]
  · rw [if_pos h]
    exact ⟨e, .inl ⟨h, rfl, fun hh => h (he2.2 hh.1)⟩⟩

/-! ### What was put out, outcomes held against each other -/
theorem begins_eq (a b : List Int) (hl : a.length ≤ maxLen) : fettleref04_Begins a b = some (decide (a <+: b)) := by
  unfold fettleref04_Begins
  by_cases hc : a.length ≤ b.length
  · rw [if_neg (by simp only [len]; omega)]
    have hscan := scan_ix a.length hl (fun i => a[i]? = b[i]?) (fun e : Bool => e = false) (fun s => fettleref04_Begins.bd22 a b s) (fun i hi => by
      have hib : i < b.length := by omega
      simp only [fettleref04_Begins.bd22, len_lt, hi, if_true, idx_lt hi, idx_lt hib, Option.bind_some, w64_at hi hl, List.getElem?_eq_getElem hi, List.getElem?_eq_getElem hib, Option.some.injEq]
      by_cases hq : a[i] = b[i]
      · exact .inr ⟨by rw [if_neg (by simpa using hq)], hq⟩
      · exact .inl ⟨false, by rw [if_pos hq], rfl, hq⟩) (by simp [fettleref04_Begins.bd22, len])
    have hiff : a <+: b ↔ ∀ i, i < a.length → a[i]? = b[i]? := by
      rw [List.prefix_iff_eq_take]
      constructor
      · intro h i hi
        rw [h, List.getElem?_take, if_pos hi]
      · intro h
        apply List.ext_getElem?
        intro i
        rcases Nat.lt_or_ge i a.length with hi | hi
        · rw [List.getElem?_take, if_pos hi]; exact h i hi
        · rw [List.getElem?_eq_none hi, List.getElem?_eq_none (by simp; omega)]
    rcases hscan with ⟨e, hw, rfl, hn⟩ | ⟨hw, hall⟩
    · rw [hw, decide_eq_false (fun h => hn (hiff.1 h))]; rfl
    · rw [hw, decide_eq_true (hiff.2 hall)]; rfl
  · rw [if_pos (by simp only [len]; omega), decide_eq_false (fun h => hc h.length_le)]
theorem alike_eq (a b : List Int) (hl : a.length ≤ maxLen) : fettleref04_Alike a b = some (decide (a = b)) := by
  unfold fettleref04_Alike
  by_cases hc : a.length = b.length
  · rw [if_pos (by simp only [len]; omega), begins_eq a b hl]
    simp only [Option.bind_some]
    have : a <+: b ↔ a = b := ⟨fun h => h.eq_of_length hc, fun h => h ▸ List.prefix_refl _⟩
    simp only [this]
  · rw [if_neg (by simp only [len]; omega)]
    have : ¬ a = b := fun h => hc (by rw [h])
    simp [this]
theorem sameO_eq (a b : POutcome) (hl : a.out.length ≤ maxLen) : fettleref04_Same a b = some (decide (a = b)) := by
  unfold fettleref04_Same
  by_cases hc : ((((a.done == b.done) = true ∧ a.trap = b.trap) ∧ a.value = b.value) ∧ a.steps = b.steps) ∧ a.memory = b.memory
  · rw [if_pos hc, alike_eq _ _ hl]
    obtain ⟨⟨⟨⟨h1, h2⟩, h3⟩, h4⟩, h5⟩ := hc
    have h1' : a.done = b.done := by simpa using h1
    by_cases h6 : a.out = b.out
    · have : a = b := by cases a; cases b; simp_all
      simp [h6, this]
    · have : a ≠ b := fun hq => h6 (by rw [hq])
      simp [h6, this]
  · rw [if_neg hc]
    have : a ≠ b := by rintro rfl; simp at hc
    simp [this]
theorem adv_out_len (m : PModule) (hp : Proper m) (hs : SmM m) (f : Int) (args : List Int) (h : FitsA m f args) (n : Nat) (hn : n ≤ 2000000) : (adv m n (startC m f args)).2.out.length ≤ 2000000 := by
  obtain ⟨g1, _, g3, _⟩ := adv_ok m hp hs n (startC m f args) (start_good m hp f args h) (by simp [startC, zeroO]; omega)
  have := g1.out
  have h0 : (startC m f args).2.steps = 0 := rfl
  omega
end Go.Proofs.Ytoflleabpkgdpaa
