/- Plain laws, part Q: what is asked of a proper module. No conditions. -/
import Derived.Test.YtoflleabpkgdpaaQuC
import Derived.Test.YtoflleabpkgdpaaS3
set_option linter.unusedVariables false
set_option linter.unusedSimpArgs false
namespace Go.Proofs.Ytoflleabpkgdpaa
open Go Go.Proofs

/-- A scan by index: what is amiss first is told, if anything. -/
theorem scan_ix {ρ : Type} (n : Nat) (hn : n ≤ maxLen) (P : Nat → Prop) (Q : ρ → Prop) (body : Int → Option (Ex (Ex ρ Unit) Int))
    (h : ∀ i, i < n → (∃ e, body (i : Int) = some (.ret (.ret e)) ∧ Q e ∧ ¬ P i) ∨ (body (i : Int) = some (.go ((i + 1 : Nat) : Int)) ∧ P i)) (he : body (n : Int) = some (.ret (.go ()))) :
    (∃ e, whl body FUEL 0 = some (.ret e) ∧ Q e ∧ ¬ ∀ i, i < n → P i) ∨ (whl body FUEL 0 = some (.go ()) ∧ ∀ i, i < n → P i) := by
  obtain ⟨r, hr, hR⟩ := whl_for (body := body) n (fun i s => s = (i : Int) ∧ ∀ j, j < i → P j) (fun r => (∃ e, r = .ret e ∧ Q e ∧ ¬ ∀ i, i < n → P i) ∨ (r = .go () ∧ ∀ i, i < n → P i)) hn
    (fun i s hi hI => by
      obtain ⟨rfl, hp⟩ := hI
      rcases h i hi with ⟨e, hb, hq, hnp⟩ | ⟨hb, hpi⟩
      · exact .inl ⟨_, hb, .inl ⟨e, rfl, hq, fun hall => hnp (hall i hi)⟩⟩
      · refine .inr ⟨_, hb, rfl, fun j hj => ?_⟩
        rcases Nat.lt_succ_iff_lt_or_eq.1 hj with h1 | rfl
        · exact hp j h1
        · exact hpi)
    (fun s hI => by
      obtain ⟨rfl, hp⟩ := hI
      exact ⟨_, he, .inr ⟨rfl, hp⟩⟩) (s0 := 0) ⟨rfl, fun j hj => by omega⟩
  rcases hR with ⟨e, rfl, hq, hn⟩ | ⟨rfl, hall⟩
  · exact .inl ⟨e, hr, hq, hn⟩
  · exact .inr ⟨hr, hall⟩
theorem scan_or {α ρ : Type} (xs : List α) (hl : xs.length ≤ maxLen) (P : α → Prop) (Q : ρ → Prop) (body : Int → Option (Ex (Ex ρ Unit) Int))
    (h : ∀ i (hi : i < xs.length), (∃ e, body (i : Int) = some (.ret (.ret e)) ∧ Q e ∧ ¬ P xs[i]) ∨ (body (i : Int) = some (.go ((i + 1 : Nat) : Int)) ∧ P xs[i])) (he : body (xs.length : Int) = some (.ret (.go ()))) :
    (∃ e, whl body FUEL 0 = some (.ret e) ∧ Q e ∧ ¬ ∀ x ∈ xs, P x) ∨ (whl body FUEL 0 = some (.go ()) ∧ ∀ x ∈ xs, P x) := by
  have := scan_ix xs.length hl (fun i => ∀ x, xs[i]? = some x → P x) Q body (fun i hi => by
    rcases h i hi with ⟨e, hb, hq, hn⟩ | ⟨hb, hp⟩
    · exact .inl ⟨e, hb, hq, fun hx => hn (hx _ (List.getElem?_eq_getElem hi))⟩
    · exact .inr ⟨hb, fun x hx => by rw [List.getElem?_eq_getElem hi] at hx; cases hx; exact hp⟩) he
  rcases this with ⟨e, hw, hq, hn⟩ | ⟨hw, hall⟩
  · refine .inl ⟨e, hw, hq, fun hx => hn fun i hi x hxi => hx x (List.mem_of_getElem? hxi)⟩
  · refine .inr ⟨hw, fun x hx => ?_⟩
    obtain ⟨i, hi, rfl⟩ := List.getElem_of_mem hx
    exact hall i hi _ (List.getElem?_eq_getElem hi)

/-! ### Registers and their types -/
def hasR (f : PFunc) (r : Int) : Prop := 0 ≤ r ∧ r < (f.regs.length : Int)
instance (f : PFunc) (r : Int) : Decidable (hasR f r) := by unfold hasR; infer_instance
def tyR (f : PFunc) (r t : Int) : Prop := idx f.regs r = some t
instance (f : PFunc) (r t : Int) : Decidable (tyR f r t) := by unfold tyR; infer_instance
theorem hasR.get {f : PFunc} {r : Int} (h : hasR f r) : ∃ k : Nat, r = k ∧ ∃ hk : k < f.regs.length, idx f.regs r = some f.regs[k] := by
  obtain ⟨h1, h2⟩ := h
  refine ⟨r.toNat, by omega, by omega, ?_⟩
  simp only [idx, if_pos h1]
  exact List.getElem?_eq_getElem _
theorem tyR.has {f : PFunc} {r t : Int} (h : tyR f r t) : hasR f r := by
  obtain ⟨h1, h2, _⟩ := idx_some h
  exact ⟨h1, by omega⟩
theorem has_eq (l : PLooker) (rs : List Int) (hl : rs.length ≤ maxLen) : check_looker_has l rs = some (decide (∀ r ∈ rs, hasR l.f r)) := by
  unfold check_looker_has slices_ContainsFunc_check_looker_has_1 slices_IndexFunc_check_looker_has_1
  rcases scan_or rs hl (fun r => hasR l.f r) (fun e : Int => 0 ≤ e) (fun s => slices_IndexFunc_check_looker_has_1.bd16 rs l s) (fun i hi => by
    simp only [slices_IndexFunc_check_looker_has_1.bd16, len_lt, hi, if_true, idx_lt hi, Option.bind_some, check_looker_has_1, w64_at hi hl]
    by_cases hc : rs[i] < 0 ∨ rs[i] ≥ len l.f.regs
    · refine .inl ⟨_, by rw [if_pos (by simpa using hc)], by omega, fun hh => ?_⟩
      obtain ⟨g1, g2⟩ := hh
      simp only [len] at hc; omega
    · refine .inr ⟨by rw [if_neg (by simpa using hc)], ?_⟩
      simp only [not_or, len] at hc
      exact ⟨by omega, by omega⟩) (by simp [slices_IndexFunc_check_looker_has_1.bd16, len]) with ⟨e, hw, he, hn⟩ | ⟨hw, hall⟩
  · rw [hw]
    simp only [Option.bind_some]
    rw [decide_eq_false hn]
    simp [he]
  · rw [hw]
    simp only [Option.bind_some, slices_IndexFunc_check_looker_has_1.nx16]
    rw [decide_eq_true hall]
    rfl
theorem are_eq (l : PLooker) (t : Int) (rs : List Int) (hl : rs.length ≤ maxLen) (hh : ∀ r ∈ rs, hasR l.f r) : check_looker_are l t rs = some (decide (∀ r ∈ rs, tyR l.f r t)) := by
  unfold check_looker_are slices_ContainsFunc_check_looker_are_1 slices_IndexFunc_check_looker_are_1
  rcases scan_or rs hl (fun r => tyR l.f r t) (fun e : Int => 0 ≤ e) (fun s => slices_IndexFunc_check_looker_are_1.bd16 rs l t s) (fun i hi => by
    obtain ⟨k, hk, hkl, hg⟩ := (hh _ (List.getElem_mem hi)).get
    simp only [slices_IndexFunc_check_looker_are_1.bd16, len_lt, hi, if_true, idx_lt hi, Option.bind_some, check_looker_are_1, hg, w64_at hi hl]
    by_cases hc : l.f.regs[k] = t
    · exact .inr ⟨by simp [hc], by unfold tyR; rw [hg, hc]⟩
    · refine .inl ⟨_, by simp [hc]; rfl, by omega, fun h => ?_⟩
      unfold tyR at h; rw [hg] at h; exact hc (Option.some.inj h)) (by simp [slices_IndexFunc_check_looker_are_1.bd16, len]) with ⟨e, hw, he, hn⟩ | ⟨hw, hall⟩
  · rw [hw]
    simp only [Option.bind_some]
    rw [decide_eq_false hn]
    simp [he]
  · rw [hw]
    simp only [Option.bind_some, slices_IndexFunc_check_looker_are_1.nx16]
    rw [decide_eq_true hall]
    rfl
theorem one_le : (1 : Nat) ≤ maxLen := by simp only [maxLen]; omega
theorem has1 (l : PLooker) (r : Int) : check_looker_has l [r] = some (decide (hasR l.f r)) := by
  rw [has_eq l [r] one_le]; congr 1; simp
theorem are1 (l : PLooker) (t r : Int) (h : hasR l.f r) : check_looker_are l t [r] = some (decide (tyR l.f r t)) := by
  rw [are_eq l t [r] one_le (by simpa using h)]; congr 1; simp

/-! ### What is told -/
def Says (o : Option GErr) (P : Prop) : Prop := ∃ e, o = some e ∧ (e = GErr.no ↔ P)
theorem Says.no {P : Prop} (h : P) : Says (some GErr.no) P := ⟨_, rfl, by simp [h]⟩
theorem Says.code {P : Prop} {c : Int} (h : ¬ P) : Says (some (GErr.code c)) P := ⟨_, rfl, by simp [h]⟩
structure PhiOk (f : PFunc) (p : PPhi) : Prop where
  dst : hasR f p.dst
  args : ∀ a ∈ p.args, hasR f a
  same : ∀ a ∈ p.args, idx f.regs a = idx f.regs p.dst
theorem phi_says (l : PLooker) (p : PPhi) (hl : p.args.length ≤ maxLen) : Says (check_looker_phi l p) (PhiOk l.f p) := by
  unfold check_looker_phi
  rw [has1]
  simp only [Option.bind_some]
  by_cases h1 : hasR l.f p.dst
  · rw [if_neg (by simp [h1]), has_eq l _ hl]
    simp only [Option.bind_some]
    by_cases h2 : ∀ a ∈ p.args, hasR l.f a
    · rw [decide_eq_true h2, if_neg (by simp)]
      obtain ⟨k, hk, hkl, hg⟩ := h1.get
      rw [hg]
      simp only [Option.bind_some]
      rw [are_eq l _ _ hl h2]
      simp only [Option.bind_some]
      by_cases h3 : ∀ r ∈ p.args, tyR l.f r l.f.regs[k]
      · rw [decide_eq_true h3, if_neg (by simp)]
        exact .no ⟨h1, h2, fun a ha => by rw [hg]; exact h3 a ha⟩
      · rw [decide_eq_false h3, if_pos (by simp)]
        exact .code fun h => h3 fun r hr => by unfold tyR; rw [h.same r hr, hg]
    · rw [decide_eq_false h2, if_pos (by simp)]
      exact .code fun h => h2 h.args
  · rw [if_pos (by simp [h1])]
    simp only [Option.bind_some, if_true]
    exact .code fun h => h1 h.dst

/-! ### Instructions -/
def arF (m : PModule) (x : PInstr) : Option (Int × Int) :=
  if x.op = 2 ∨ x.op = 14 then some (1, 1) else if x.op ≥ 3 ∧ x.op ≤ 13 then some (2, 1) else if x.op = 1 then some (0, 1) else if x.op = 15 then some (1, 1) else
  if x.op = 18 then some (1, 0) else if x.op = 16 then some (2, 0) else if x.op = 17 then (idx m.funcs x.fn).map (fun g => (g.params, g.result)) else none
theorem arity_eq (l : PLooker) (x : PInstr) : (∃ n t, arF l.m x = some (n, t) ∧ check_looker_arity l x = some (n, t, GErr.no)) ∨ (arF l.m x = none ∧ ∃ n t c, check_looker_arity l x = some (n, t, GErr.code c)) := by
  unfold check_looker_arity arF arith_Args
  by_cases h1 : x.op = 2 ∨ x.op = 14
  · rw [if_pos h1, if_pos h1]; exact .inl ⟨1, 1, rfl, rfl⟩
  rw [if_neg h1, if_neg h1]
  by_cases h2 : x.op ≥ 3 ∧ x.op ≤ 13
  · rw [if_pos h2, if_pos h2]; exact .inl ⟨2, 1, rfl, rfl⟩
  rw [if_neg h2, if_neg h2]
  simp only [Option.bind_some, Bool.false_eq_true, if_false]
  by_cases h3 : x.op = 1
  · rw [if_pos h3, if_pos h3]; exact .inl ⟨0, 1, rfl, rfl⟩
  rw [if_neg h3, if_neg h3]
  by_cases h4 : x.op = 15
  · rw [if_pos h4, if_pos h4]; exact .inl ⟨1, 1, rfl, rfl⟩
  rw [if_neg h4, if_neg h4]
  by_cases h5 : x.op = 18
  · rw [if_pos h5, if_pos h5]; exact .inl ⟨1, 0, rfl, rfl⟩
  rw [if_neg h5, if_neg h5]
  by_cases h6 : x.op = 16
  · rw [if_pos h6, if_pos h6]; exact .inl ⟨2, 0, rfl, rfl⟩
  rw [if_neg h6, if_neg h6]
  by_cases h7 : x.op = 17
  · rw [if_pos h7, if_pos h7]
    by_cases h8 : x.fn < 0 ∨ x.fn ≥ len l.m.funcs
    · rw [if_pos h8]
      refine .inr ⟨?_, 0, 0, 4, rfl⟩
      cases hx : idx l.m.funcs x.fn with
      | none => rfl
      | some g =>
        obtain ⟨g1, g2, _⟩ := idx_some hx
        simp only [len] at h8; omega
    · rw [if_neg h8]
      simp only [not_or, len] at h8
      obtain ⟨k, hk⟩ : ∃ k : Nat, x.fn = k := ⟨x.fn.toNat, by omega⟩
      rw [hk, idx_lt (show k < l.m.funcs.length by omega)]
      exact .inl ⟨_, _, rfl, rfl⟩
  rw [if_neg h7, if_neg h7]
  exact .inr ⟨rfl, 0, 0, 6, rfl⟩
structure CallOk (m : PModule) (f : PFunc) (x : PInstr) (g : PFunc) : Prop where
  fn : idx m.funcs x.fn = some g
  nn : 0 ≤ g.params
  le : g.params ≤ (g.regs.length : Int)
  args : ∀ i (hi : i < x.args.length), ∃ t, idx g.regs (i : Int) = some t ∧ tyR f x.args[i] t
  res : g.result = 0 ∨ tyR f x.dst g.result
def FitsOk (m : PModule) (f : PFunc) (x : PInstr) : Prop :=
  if x.op = 1 then tyR f x.dst 1 ∨ x.imm = 0 ∨ x.imm = 1
  else if x.op = 2 then ∃ a, idx x.args 0 = some a ∧ idx f.regs x.dst = idx f.regs a
  else if x.op = 12 ∨ x.op = 13 then (∀ a ∈ x.args, tyR f a 1) ∧ tyR f x.dst 2
  else if x.op = 14 then (∃ a, idx x.args 0 = some a ∧ tyR f a 2) ∧ tyR f x.dst 2
  else if x.op = 18 ∨ x.op = 16 then ∀ a ∈ x.args, tyR f a 1
  else if x.op = 17 then ∃ g, CallOk m f x g
  else (∀ a ∈ x.args, tyR f a 1) ∧ tyR f x.dst 1
structure InstrOk (m : PModule) (f : PFunc) (x : PInstr) (n t : Int) : Prop where
  ar : arF m x = some (n, t)
  len : (x.args.length : Int) = n
  args : ∀ a ∈ x.args, hasR f a
  dst : t ≠ 0 → hasR f x.dst
  none : t = 0 → x.dst = -1
  imm : x.op ≠ 1 → x.imm = 0
  fn : x.op ≠ 17 → x.fn = 0
  fits : FitsOk m f x
theorem call_eq (l : PLooker) (x : PInstr) (g : PFunc) (hl : x.args.length ≤ 300) (hg : idx l.m.funcs x.fn = some g) (hn : (x.args.length : Int) = g.params) (hargs : ∀ a ∈ x.args, hasR l.f a) (hdst : g.result ≠ 0 → hasR l.f x.dst) :
    ∃ b : Bool, check_looker_call l x = some b ∧ (b = true ↔ CallOk l.m l.f x g) := by
  unfold check_looker_call
  rw [hg]
  simp only [Option.bind_some]
  by_cases h1 : g.params < 0 ∨ g.params > len g.regs
  · rw [if_pos h1]
    refine ⟨false, rfl, by simp, fun h => ?_⟩
    have := h.nn; have := h.le
    simp only [len] at h1; omega
  rw [if_neg h1]
  simp only [not_or, len] at h1
  rcases scan_ix x.args.length (le_max hl (by omega)) (fun i => ∀ a, x.args[i]? = some a → ∃ t, idx g.regs (i : Int) = some t ∧ tyR l.f a t) (fun e : Bool => e = false) (fun s => check_looker_call.bd41 l x g s) (fun i hi => by
    have hir : i < g.regs.length := by omega
    simp only [check_looker_call.bd41, len_lt, hi, if_true, idx_lt hi, idx_lt hir, Option.bind_some, are1 l _ _ (hargs _ (List.getElem_mem hi)), w64_i hi (show x.args.length ≤ 1000 by omega)]
    by_cases hc : tyR l.f x.args[i] g.regs[i]
    · refine .inr ⟨by rw [if_neg (by simp [hc])], fun a ha => ?_⟩
      rw [List.getElem?_eq_getElem hi] at ha; cases ha
      exact ⟨_, rfl, hc⟩
    · refine .inl ⟨false, by rw [if_pos (by simp [hc])], rfl, fun h => ?_⟩
      obtain ⟨t, h1, h2⟩ := h _ (List.getElem?_eq_getElem hi)
      cases h1; exact hc h2) (by simp [check_looker_call.bd41, len]) with ⟨e, hw, rfl, hnot⟩ | ⟨hw, hall⟩
  · rw [hw]
    refine ⟨false, rfl, by simp, fun h => (hnot fun i hi a ha => ?_).elim⟩
    obtain ⟨hi', he⟩ := List.getElem?_eq_some_iff.1 ha
    subst he; exact h.args i hi'
  · rw [hw]
    simp only [Option.bind_some, check_looker_call.nx41]
    have hargs' : ∀ i (hi : i < x.args.length), ∃ t, idx g.regs (i : Int) = some t ∧ tyR l.f x.args[i] t := fun i hi => hall i hi _ (List.getElem?_eq_getElem hi)
    by_cases h2 : g.result = 0
    · rw [if_pos h2]
      exact ⟨true, rfl, by simp; exact ⟨hg, by omega, by omega, hargs', .inl h2⟩⟩
    · rw [if_neg h2, are1 l _ _ (hdst h2)]
      refine ⟨decide (tyR l.f x.dst g.result), rfl, ?_⟩
      rw [decide_eq_true_eq]
      exact ⟨fun h => ⟨hg, by omega, by omega, hargs', .inr h⟩, fun h => h.res.resolve_left h2⟩
theorem fits_eq (l : PLooker) (x : PInstr) (n t : Int) (hl : x.args.length ≤ 300) (har : arF l.m x = some (n, t)) (hn : (x.args.length : Int) = n) (hargs : ∀ a ∈ x.args, hasR l.f a) (hdst : t ≠ 0 → hasR l.f x.dst) :
    ∃ b : Bool, check_looker_fits l x = some b ∧ (b = true ↔ FitsOk l.m l.f x) := by
  unfold check_looker_fits FitsOk
  have hmx : x.args.length ≤ maxLen := le_max hl (by omega)
  by_cases h1 : x.op = 1
  · rw [if_pos h1, if_pos h1]
    have ht : t = 1 := by simp [arF, h1] at har; omega
    obtain ⟨k, hk, hkl, hg⟩ := (hdst (by omega)).get
    rw [hg]
    refine ⟨_, rfl, ?_⟩
    rw [decide_eq_true_eq, tyR, hg, or_assoc, Option.some.injEq]
  rw [if_neg h1, if_neg h1]
  by_cases h2 : x.op = 2
  · rw [if_pos h2, if_pos h2]
    have htn : n = 1 ∧ t = 1 := by simp [arF, h2] at har; omega
    have h0 : 0 < x.args.length := by omega
    obtain ⟨k, hk, hkl, hg⟩ := (hargs _ (List.getElem_mem h0)).get
    have hi0 : idx x.args 0 = some x.args[0] := idx_lt h0
    rw [hi0]
    simp only [Option.bind_some, hg, are1 l _ _ (hdst (by omega))]
    refine ⟨_, rfl, ?_⟩
    rw [decide_eq_true_eq]
    refine ⟨fun h => ⟨_, rfl, by rw [hg]; exact h⟩, ?_⟩
    rintro ⟨a, ha, hb⟩
    cases ha
    rw [hg] at hb; exact hb
  rw [if_neg h2, if_neg h2]
  have hj46 : (if x.op = 12 then check_looker_fits.jn46 l x (decide (x.op = 12)) else check_looker_fits.jn46 l x (decide (x.op = 13))) = check_looker_fits.jn46 l x (decide (x.op = 12 ∨ x.op = 13)) := by
    by_cases h : x.op = 12 <;> simp [h]
  rw [hj46]
  unfold check_looker_fits.jn46
  by_cases h3 : x.op = 12 ∨ x.op = 13
  · rw [decide_eq_true h3, if_pos rfl, if_pos h3, are_eq l _ _ hmx hargs]
    simp only [Option.bind_some]
    have ht : t = 1 := by
      have : x.op ≥ 3 ∧ x.op ≤ 13 := by omega
      have h14 : ¬ (x.op = 2 ∨ x.op = 14) := by omega
      simp only [arF, if_neg h14, if_pos this, Option.some.injEq, Prod.mk.injEq] at har
      omega
    by_cases h4 : ∀ r ∈ x.args, tyR l.f r 1
    · rw [decide_eq_true h4, if_pos rfl, are1 l _ _ (hdst (by omega))]
      refine ⟨_, rfl, ?_⟩
      rw [decide_eq_true_eq]
      exact ⟨fun h => ⟨h4, h⟩, fun h => h.2⟩
    · rw [decide_eq_false h4, if_neg (by simp)]
      exact ⟨false, rfl, by simp, fun h => (h4 h.1).elim⟩
  rw [decide_eq_false h3, if_neg (by simp), if_neg h3]
  by_cases h4 : x.op = 14
  · rw [if_pos h4, if_pos h4]
    have htn : n = 1 ∧ t = 1 := by simp [arF, h4] at har; omega
    have h0 : 0 < x.args.length := by omega
    have hi0 : idx x.args 0 = some x.args[0] := idx_lt h0
    have ha0 := hargs _ (List.getElem_mem h0)
    have hd0 := hdst (by omega)
    rw [hi0]
    simp only [Option.bind_some]
    rw [are_eq l _ [x.args[0], x.dst] (le_max (show ([x.args[0], x.dst] : List Int).length ≤ 2 by simp) (by omega)) (by simp; exact ⟨ha0, hd0⟩)]
    refine ⟨_, rfl, ?_⟩
    rw [decide_eq_true_eq]
    simp only [List.mem_cons, List.not_mem_nil, or_false, forall_eq_or_imp, forall_eq]
    exact ⟨fun h => ⟨⟨_, rfl, h.1⟩, h.2⟩, fun ⟨⟨a, ha, hb⟩, hc⟩ => by cases ha; exact ⟨hb, hc⟩⟩
  rw [if_neg h4, if_neg h4]
  have hj80 : (if x.op = 18 then check_looker_fits.jn80 l x (decide (x.op = 18)) else check_looker_fits.jn80 l x (decide (x.op = 16))) = check_looker_fits.jn80 l x (decide (x.op = 18 ∨ x.op = 16)) := by
    by_cases h : x.op = 18 <;> simp [h]
  rw [hj80]
  unfold check_looker_fits.jn80
  by_cases h5 : x.op = 18 ∨ x.op = 16
  · rw [decide_eq_true h5, if_pos rfl, if_pos h5, are_eq l _ _ hmx hargs]
    exact ⟨_, rfl, by rw [decide_eq_true_eq]⟩
  rw [decide_eq_false h5, if_neg (by simp), if_neg h5]
  by_cases h6 : x.op = 17
  · rw [if_pos h6, if_pos h6]
    have h6a : ¬ (x.op = 2 ∨ x.op = 14) := by omega
    have h6b : ¬ (x.op ≥ 3 ∧ x.op ≤ 13) := by omega
    have har' : (idx l.m.funcs x.fn).map (fun g => (g.params, g.result)) = some (n, t) := by
      simp only [arF, if_neg h6a, if_neg h6b, if_neg h1, if_pos h6] at har
      simpa [show ¬ x.op = 15 by omega, show ¬ x.op = 18 by omega, show ¬ x.op = 16 by omega] using har
    obtain ⟨g, hg, hg2⟩ := Option.map_eq_some_iff.1 har'
    simp only [Prod.mk.injEq] at hg2
    obtain ⟨b, hb1, hb2⟩ := call_eq l x g hl hg (by omega) hargs (fun h => hdst (by omega))
    rw [hb1]
    refine ⟨b, rfl, hb2.trans ⟨fun h => ⟨g, h⟩, fun ⟨g', h⟩ => ?_⟩⟩
    have := h.fn
    rw [hg] at this; cases this; exact h
  rw [if_neg h6, if_neg h6, are_eq l _ _ hmx hargs]
  simp only [Option.bind_some]
  have ht : t = 1 := by
    unfold arF at har
    by_cases c1 : x.op ≥ 3 ∧ x.op ≤ 13
    · have h14 : ¬ (x.op = 2 ∨ x.op = 14) := by omega
      simp only [if_neg h14, if_pos c1, Option.some.injEq, Prod.mk.injEq] at har; omega
    · have h14 : ¬ (x.op = 2 ∨ x.op = 14) := by omega
      simp only [if_neg h14, if_neg c1, if_neg h1, if_neg h6] at har
      by_cases c2 : x.op = 15
      · simp only [if_pos c2, Option.some.injEq, Prod.mk.injEq] at har; omega
      · simp [c2, show ¬ x.op = 18 by omega, show ¬ x.op = 16 by omega] at har
  by_cases h7 : ∀ r ∈ x.args, tyR l.f r 1
  · rw [decide_eq_true h7, if_pos rfl, are1 l _ _ (hdst (by omega))]
    refine ⟨_, rfl, ?_⟩
    rw [decide_eq_true_eq]
    exact ⟨fun h => ⟨h7, h⟩, fun h => h.2⟩
  · rw [decide_eq_false h7, if_neg (by simp)]
    exact ⟨false, rfl, by simp, fun h => (h7 h.1).elim⟩
theorem instr_says (l : PLooker) (x : PInstr) (hl : x.args.length ≤ 300) : Says (check_looker_instr l x) (∃ n t, InstrOk l.m l.f x n t) := by
  unfold check_looker_instr
  have hmx : x.args.length ≤ maxLen := le_max hl (by omega)
  rcases arity_eq l x with ⟨n, t, ha, hc⟩ | ⟨ha, n, t, c, hc⟩
  · rw [hc]
    simp only [Option.bind_some]
    rw [if_neg (by simp)]
    by_cases h1 : (x.args.length : Int) = n
    · rw [if_neg (by simp only [len]; omega), has_eq l _ hmx]
      simp only [Option.bind_some]
      by_cases h2 : ∀ r ∈ x.args, hasR l.f r
      · rw [decide_eq_true h2, if_neg (by simp)]
        by_cases h3 : t = 0
        · rw [if_neg (by simpa using h3)]
          simp only [Option.bind_some, Bool.false_eq_true, if_false]
          by_cases h4 : ((t = 0 ∧ ¬ x.dst = -1) ∨ (¬ x.op = 1 ∧ ¬ x.imm = 0)) ∨ (¬ x.op = 17 ∧ ¬ x.fn = 0)
          · rw [if_pos h4]
            simp only [Option.bind_some, if_true]
            refine .code ?_
            rintro ⟨n', t', h⟩
            have h5 := h.ar
            rw [ha] at h5
            simp only [Option.some.injEq, Prod.mk.injEq] at h5
            have := h.none; have := h.imm; have := h.fn
            omega
          · rw [if_neg h4]
            obtain ⟨b, hb1, hb2⟩ := fits_eq l x n t hl ha h1 h2 (fun h => absurd h3 h)
            rw [hb1]
            simp only [Option.bind_some]
            cases b with
            | true =>
              simp only [Bool.not_true, Bool.false_eq_true, if_false]
              exact .no ⟨n, t, ha, h1, h2, fun h => absurd h3 h, fun _ => by omega, fun h => by omega, fun h => by omega, hb2.1 rfl⟩
            | false =>
              simp only [Bool.not_false, if_true]
              exact .code fun ⟨n', t', h⟩ => by simpa using hb2.2 h.fits
        · rw [if_pos (by simpa using h3), has1]
          simp only [Option.bind_some]
          by_cases h3' : hasR l.f x.dst
          · rw [decide_eq_true h3']
            simp only [Bool.not_true, Bool.false_eq_true, if_false]
            by_cases h4 : ((t = 0 ∧ ¬ x.dst = -1) ∨ (¬ x.op = 1 ∧ ¬ x.imm = 0)) ∨ (¬ x.op = 17 ∧ ¬ x.fn = 0)
            · rw [if_pos h4]
              simp only [Option.bind_some, if_true]
              refine .code ?_
              rintro ⟨n', t', h⟩
              have h5 := h.ar
              rw [ha] at h5
              simp only [Option.some.injEq, Prod.mk.injEq] at h5
              have := h.none; have := h.imm; have := h.fn
              omega
            · rw [if_neg h4]
              obtain ⟨b, hb1, hb2⟩ := fits_eq l x n t hl ha h1 h2 (fun _ => h3')
              rw [hb1]
              simp only [Option.bind_some]
              cases b with
              | true =>
                simp only [Bool.not_true, Bool.false_eq_true, if_false]
                exact .no ⟨n, t, ha, h1, h2, fun _ => h3', fun h => absurd h h3, fun h => by omega, fun h => by omega, hb2.1 rfl⟩
              | false =>
                simp only [Bool.not_false, if_true]
                exact .code fun ⟨n', t', h⟩ => by simpa using hb2.2 h.fits
          · rw [decide_eq_false h3']
            simp only [Bool.not_false, if_true]
            refine .code ?_
            rintro ⟨n', t', h⟩
            have h5 := h.ar
            rw [ha] at h5
            simp only [Option.some.injEq, Prod.mk.injEq] at h5
            exact h3' (h.dst (by omega))
      · rw [decide_eq_false h2]
        simp only [Bool.not_false, if_true, Option.bind_some]
        exact .code fun ⟨n', t', h⟩ => h2 h.args
    · rw [if_pos (by simp only [len]; omega)]
      refine .code ?_
      rintro ⟨n', t', h⟩
      have h5 := h.ar
      rw [ha] at h5
      simp only [Option.some.injEq, Prod.mk.injEq] at h5
      have := h.len
      omega
  · rw [hc]
    simp only [Option.bind_some]
    rw [if_pos (by simp)]
    refine .code ?_
    rintro ⟨n', t', h⟩
    have h5 := h.ar
    rw [ha] at h5; cases h5

/-! ### Ends, blocks -/
def EndOk (f : PFunc) (t : PTerm) : Prop :=
  if t.kind = 1 ∨ (t.kind = 3 ∧ f.result = 0) then t.arg = -1 else tyR f t.arg (if t.kind = 3 then f.result else 2)
theorem end_says (l : PLooker) (t : PTerm) : Says (check_looker_end l t) (EndOk l.f t) := by
  unfold check_looker_end EndOk
  by_cases h1 : t.kind = 1 ∨ (t.kind = 3 ∧ l.f.result = 0)
  · rw [if_pos h1, if_pos h1]
    by_cases h2 : t.arg = -1
    · rw [if_neg (by simpa using h2)]; exact .no h2
    · rw [if_pos h2]; exact .code h2
  rw [if_neg h1, if_neg h1]
  have hj : (if t.kind = 3 then check_looker_end.jn33 l t l.f.result else check_looker_end.jn33 l t 2) = check_looker_end.jn33 l t (if t.kind = 3 then l.f.result else 2) := by split <;> rfl
  rw [hj]
  generalize (if t.kind = 3 then l.f.result else 2) = w
  unfold check_looker_end.jn33
  rw [has1]
  simp only [Option.bind_some]
  by_cases h2 : hasR l.f t.arg
  · rw [decide_eq_true h2, if_neg (by simp), are1 l _ _ h2]
    simp only [Option.bind_some]
    by_cases h3 : tyR l.f t.arg w
    · rw [decide_eq_true h3, if_neg (by simp)]; exact .no h3
    · rw [decide_eq_false h3, if_pos (by simp)]; exact .code h3
  · rw [decide_eq_false h2, if_pos (by simp)]
    exact .code fun h => h2 h.has
structure BlockOk (m : PModule) (f : PFunc) (B : PBlock) : Prop where
  phis : ∀ p ∈ B.phis, PhiOk f p
  ins : ∀ x ∈ B.ins, ∃ n t, InstrOk m f x n t
  term : EndOk f B.term
theorem block_says (l : PLooker) (B : PBlock) (hB : SmB B) : Says (check_looker_block l B) (BlockOk l.m l.f B) := by
  obtain ⟨b1, b2, b3, b4, b5⟩ := hB
  unfold check_looker_block
  rcases scan_or B.phis (le_max b2 (by omega)) (fun p => PhiOk l.f p) (fun e : GErr => e ≠ .no) (fun s => check_looker_block.bd17 l B s) (fun i hi => by
    obtain ⟨e, he1, he2⟩ := phi_says l B.phis[i] (le_max (b5 _ (List.getElem_mem hi)) (by omega))
    simp only [check_looker_block.bd17, len_lt, hi, if_true, idx_lt hi, Option.bind_some, he1, w64_i hi (show B.phis.length ≤ 1000 by omega)]
    by_cases h : e = GErr.no
    · exact .inr ⟨by rw [if_neg (by simpa using h)], he2.1 h⟩
    · exact .inl ⟨e, by rw [if_pos h], h, fun hp => h (he2.2 hp)⟩) (by simp [check_looker_block.bd17, len]) with ⟨e, hw, he, hn⟩ | ⟨hw, hall⟩
  · rw [hw]
    exact ⟨e, rfl, fun h => absurd h he, fun h => (hn h.phis).elim⟩
  rw [hw]
  simp only [Option.bind_some, check_looker_block.nx17]
  rcases scan_or B.ins (le_max b1 (by omega)) (fun x => ∃ n t, InstrOk l.m l.f x n t) (fun e : GErr => e ≠ .no) (fun s => check_looker_block.bd35 l B s) (fun i hi => by
    obtain ⟨e, he1, he2⟩ := instr_says l B.ins[i] (b4 _ (List.getElem_mem hi))
    simp only [check_looker_block.bd35, len_lt, hi, if_true, idx_lt hi, Option.bind_some, he1, w64_i hi (show B.ins.length ≤ 1000 by omega)]
    by_cases h : e = GErr.no
    · exact .inr ⟨by rw [if_neg (by simpa using h)], he2.1 h⟩
    · exact .inl ⟨e, by rw [if_pos h], h, fun hp => h (he2.2 hp)⟩) (by simp [check_looker_block.bd35, len]) with ⟨e, hw2, he, hn⟩ | ⟨hw2, hall2⟩
  · rw [hw2]
    exact ⟨e, rfl, fun h => absurd h he, fun h => (hn h.ins).elim⟩
  rw [hw2]
  simp only [Option.bind_some, check_looker_block.nx35]
  obtain ⟨e, he1, he2⟩ := end_says l B.term
  rw [he1]
  exact ⟨e, rfl, he2.trans ⟨fun h => ⟨hall, hall2, h⟩, fun h => h.term⟩⟩

/-! ### Functions and modules -/
def insCount (f : PFunc) : Nat := (f.blocks.map fun (B : PBlock) => B.phis.length + B.ins.length + 1).sum
structure SmallOk (f : PFunc) : Prop where
  pos : 1 ≤ f.blocks.length
  blocks : f.blocks.length ≤ 64
  regs : f.regs.length ≤ 256
  ins : insCount f ≤ 256
theorem sum_take (f : PFunc) (hf : SmF f) (i : Nat) (hi : i ≤ f.blocks.length) : ((f.blocks.take i).map fun (B : PBlock) => B.phis.length + B.ins.length + 1).sum ≤ 601 * i := by
  induction i with
  | zero => simp
  | succ i ih =>
    have hi' : i < f.blocks.length := by omega
    obtain ⟨b1, b2, _⟩ := hf.2.2.2 _ (List.getElem_mem hi')
    have := ih (by omega)
    rw [List.take_succ_eq_append_getElem hi', List.map_append, List.sum_append]
    simp only [List.map_cons, List.map_nil, List.sum_cons, List.sum_nil]
    omega
theorem small_eq (f : PFunc) (hf : SmF f) : ∃ b : Bool, check_small f = some b ∧ (b = true ↔ SmallOk f) := by
  unfold check_small
  have hrun := whl_run (body := fun (s : (Int × Int)) => check_small.bd19 f s.1 s.2) (r := ((insCount f : Nat) : Int)) f.blocks.length FUEL
    (fun i => ((((f.blocks.take i).map fun (B : PBlock) => B.phis.length + B.ins.length + 1).sum : Nat), (i : Int))) (fun i hi => by
      obtain ⟨b1, b2, _⟩ := hf.2.2.2 _ (List.getElem_mem hi)
      have hs := sum_take f hf i (by omega)
      have hn := hf.1
      simp only [check_small.bd19, len_lt, hi, if_true, idx_lt hi, Option.bind_some, w64_i hi (show f.blocks.length ≤ 1000 by omega), len]
      rw [List.take_succ_eq_append_getElem hi, List.map_append, List.sum_append]
      simp only [List.map_cons, List.map_nil, List.sum_cons, List.sum_nil]
      rw [w64_id (x := (f.blocks[i].phis.length : Int) + f.blocks[i].ins.length) ⟨by omega, by omega⟩, w64_id (x := (f.blocks[i].phis.length : Int) + f.blocks[i].ins.length + 1) ⟨by omega, by omega⟩, w64_id ⟨by omega, by omega⟩]
      congr 3) (by simp [check_small.bd19, len, insCount]) (lt_FUEL (le_max hf.1 (by omega)))
  simp only [List.take_zero, List.map_nil, List.sum_nil] at hrun
  have h00 : (((0 : Nat) : Int), ((0 : Nat) : Int)) = ((0 : Int), (0 : Int)) := rfl
  rw [h00] at hrun
  rw [hrun]
  simp only [Option.bind_some, check_small.nx19]
  refine ⟨_, rfl, ?_⟩
  rw [decide_eq_true_eq]
  simp only [len]
  exact ⟨fun h => ⟨by omega, by omega, by omega, by omega⟩, fun h => by have := h.pos; have := h.blocks; have := h.regs; have := h.ins; omega⟩
structure TypedOk (f : PFunc) : Prop where
  regs : ∀ t ∈ f.regs, t = 1 ∨ t = 2
  nn : 0 ≤ f.params
  few : f.params ≤ 8
  le : f.params ≤ (f.regs.length : Int)
  res : f.result = 0 ∨ f.result = 1 ∨ f.result = 2
theorem typed_eq (f : PFunc) (hf : SmF f) : ∃ b : Bool, check_typed f = some b ∧ (b = true ↔ TypedOk f) := by
  unfold check_typed slices_ContainsFunc_check_typed_1 slices_IndexFunc_check_typed_1
  have hl : f.regs.length ≤ maxLen := le_max hf.2.1 (by omega)
  rcases scan_or f.regs hl (fun t => t = 1 ∨ t = 2) (fun e : Int => 0 ≤ e) (fun s => slices_IndexFunc_check_typed_1.bd16 f.regs s) (fun i hi => by
    simp only [slices_IndexFunc_check_typed_1.bd16, len_lt, hi, if_true, idx_lt hi, Option.bind_some, check_typed_1, check_value, w64_at hi hl]
    by_cases hc : f.regs[i] = 1 ∨ f.regs[i] = 2
    · exact .inr ⟨by rw [if_neg (by simp [hc])], hc⟩
    · exact .inl ⟨_, by rw [if_pos (by simp [hc])], by omega, hc⟩) (by simp [slices_IndexFunc_check_typed_1.bd16, len]) with ⟨e, hw, he, hn⟩ | ⟨hw, hall⟩
  · rw [hw]
    simp only [Option.bind_some]
    rw [if_neg (by simp [he])]
    exact ⟨false, rfl, by simp, fun h => (hn h.regs).elim⟩
  rw [hw]
  simp only [Option.bind_some, slices_IndexFunc_check_typed_1.nx16, len]
  by_cases h1 : 0 ≤ f.params ∧ f.params ≤ 8 ∧ f.params ≤ (f.regs.length : Int)
  · rw [if_pos ⟨⟨⟨by simp, h1.1⟩, h1.2.1⟩, h1.2.2⟩]
    by_cases h2 : f.result = 0
    · rw [if_pos h2]
      exact ⟨true, rfl, by simp; exact ⟨hall, h1.1, h1.2.1, h1.2.2, .inl h2⟩⟩
    · rw [if_neg h2]
      refine ⟨_, rfl, ?_⟩
      rw [decide_eq_true_eq]
      exact ⟨fun h => ⟨hall, h1.1, h1.2.1, h1.2.2, .inr h⟩, fun h => h.res.resolve_left h2⟩
  · rw [if_neg (fun h => h1 ⟨h.1.1.2, h.1.2, h.2⟩)]
    exact ⟨false, rfl, by simp, fun h => (h1 ⟨h.nn, h.few, h.le⟩).elim⟩
structure EndsOk (f : PFunc) (t : PTerm) : Prop where
  to : ∀ x ∈ t.to, 1 ≤ x ∧ x < (f.blocks.length : Int)
  kind : (t.kind = 1 ∧ ∃ a, t.to = [a]) ∨ (t.kind = 2 ∧ ∃ a b, t.to = [a, b] ∧ a ≠ b) ∨ (t.kind = 3 ∧ t.to = [])
theorem ends_eq (f : PFunc) (t : PTerm) (hl : t.to.length ≤ 70) : ∃ b : Bool, check_ends f t = some b ∧ (b = true ↔ EndsOk f t) := by
  unfold check_ends
  rcases scan_or t.to (le_max hl (by omega)) (fun x => 1 ≤ x ∧ x < (f.blocks.length : Int)) (fun e : Bool => e = false) (fun s => check_ends.bd17 f t s) (fun i hi => by
    simp only [check_ends.bd17, len_lt, hi, if_true, idx_lt hi, Option.bind_some, w64_i hi (show t.to.length ≤ 1000 by omega)]
    by_cases hc : t.to[i] < 1 ∨ t.to[i] ≥ len f.blocks
    · exact .inl ⟨false, by rw [if_pos hc], rfl, fun h => by simp only [len] at hc; omega⟩
    · exact .inr ⟨by rw [if_neg hc], by simp only [len] at hc; omega⟩) (by simp [check_ends.bd17, len]) with ⟨e, hw, rfl, hn⟩ | ⟨hw, hall⟩
  · rw [hw]
    exact ⟨false, rfl, by simp, fun h => (hn h.to).elim⟩
  rw [hw]
  simp only [Option.bind_some, check_ends.nx17]
  by_cases h1 : t.kind = 1
  · rw [if_pos h1]
    refine ⟨_, rfl, ?_⟩
    rw [decide_eq_true_eq]
    constructor
    · intro h
      have : t.to.length = 1 := by simp only [len] at h; omega
      exact ⟨hall, .inl ⟨h1, List.length_eq_one_iff.1 this⟩⟩
    · intro h
      rcases h.kind with ⟨_, a, ha⟩ | ⟨h, _⟩ | ⟨h, _⟩
      · rw [ha]; rfl
      · omega
      · omega
  rw [if_neg h1]
  by_cases h2 : t.kind = 2
  · rw [if_pos h2]
    by_cases h3 : len t.to = 2
    · rw [if_pos h3]
      have hl2 : t.to.length = 2 := by simp only [len] at h3; omega
      obtain ⟨a, b, hab⟩ := len2 hl2
      rw [hab]
      refine ⟨decide (¬ a = b), by simp [idx], ?_⟩
      rw [decide_eq_true_eq]
      constructor
      · intro h; exact ⟨hall, .inr (.inl ⟨h2, a, b, hab, h⟩)⟩
      · intro h
        rcases h.kind with ⟨h, _⟩ | ⟨_, a', b', h', hne⟩ | ⟨h, _⟩
        · omega
        · rw [hab] at h'; cases h'; exact hne
        · omega
    · rw [if_neg h3]
      refine ⟨false, rfl, by simp, fun h => ?_⟩
      rcases h.kind with ⟨h, _⟩ | ⟨_, a', b', h', _⟩ | ⟨h, _⟩
      · omega
      · rw [h'] at h3; exact absurd rfl h3
      · omega
  rw [if_neg h2]
  refine ⟨_, rfl, ?_⟩
  rw [decide_eq_true_eq]
  constructor
  · intro h
    have : t.to.length = 0 := by have := h.2; simp only [len] at this; omega
    exact ⟨hall, .inr (.inr ⟨h.1, List.eq_nil_of_length_eq_zero this⟩)⟩
  · intro h
    rcases h.kind with ⟨h, _⟩ | ⟨h, _⟩ | ⟨h, hn⟩
    · omega
    · omega
    · exact ⟨h, by rw [hn]; rfl⟩
theorem preds_length (nx : List (List Int)) (t : Nat) : (preds nx t).length ≤ nx.length := by
  have h1 : ((List.range nx.length).filter fun j => decide ((t : Int) ∈ nx.getD j [])).length ≤ (List.range nx.length).length := List.length_filter_le _ _
  rw [List.length_range] at h1
  unfold preds
  rw [List.length_map]; exact h1
theorem checkAhead_eq (f : PFunc) (hf : SmF f) : check_Ahead f = some (aheads (nexts f)) := by
  obtain ⟨hn, _, _, hB⟩ := hf
  have hnl := nexts_length f
  unfold check_Ahead
  rw [show mkl (len f.blocks) ([] : List Int) = some (List.replicate f.blocks.length []) from mkl_rep (n := f.blocks.length) [] hn]
  simp only [Option.bind_some]
  have hrun := whl_run (body := fun (s : List (List Int) × Int) => check_Ahead.bd19 f s.1 s.2) (r := aheadTo (nexts f) (nexts f).length []) f.blocks.length FUEL
    (fun i => (aheadTo (nexts f) i [], (i : Int))) (fun i hi => by
      have hb3 := (hB _ (List.getElem_mem hi)).2.2.1
      simp only [check_Ahead.bd19, len_lt, hi, if_true, idx_lt hi, Option.bind_some]
      have hin := whl_run (body := fun (s : List (List Int) × Int) => check_Ahead.bd51 (i : Int) f.blocks[i] s.1 s.2) (r := aheadTo (nexts f) i f.blocks[i].term.to) f.blocks[i].term.to.length FUEL
        (fun k => (aheadTo (nexts f) i (f.blocks[i].term.to.take k), (k : Int))) (fun k hk => by
          have hal : (aheadTo (nexts f) i (f.blocks[i].term.to.take k)).length = f.blocks.length := by simp [aheadTo, hnl]
          simp only [check_Ahead.bd51, len_lt, hk, if_true, idx_lt hk, Option.bind_some]
          rw [List.take_succ_eq_append_getElem hk]
          generalize f.blocks[i].term.to[k] = x
          generalize f.blocks[i].term.to.take k = part at hal ⊢
          have same : ∀ t, t < (nexts f).length → ((t : Int) = x → (t : Int) ∈ part) → predsTo (nexts f) i (part ++ [x]) t = predsTo (nexts f) i part t := by
            intro t _ h
            unfold predsTo
            have : ((t : Int) ∈ part ++ [x]) ↔ (t : Int) ∈ part := by
              simp only [List.mem_append, List.mem_singleton]
              exact ⟨fun h' => h'.elim id h, .inl⟩
            simp only [this]
          by_cases h1 : x ≥ 0 ∧ x < len (aheadTo (nexts f) i part)
          · rw [if_pos h1]
            obtain ⟨q, rfl⟩ : ∃ q : Nat, x = (q : Int) := ⟨x.toNat, by omega⟩
            have hql : q < (nexts f).length := by simp only [len] at h1; omega
            have hidx : idx (aheadTo (nexts f) i part) ((q : Nat) : Int) = some (predsTo (nexts f) i part q) := by
              rw [idx_nat]; simp [aheadTo, hql]
            have hlen := predsTo_length (nexts f) i part q
            rw [hidx]
            simp only [Option.bind_some]
            rw [contains_eq _ _ (le_max (show (predsTo (nexts f) i part q).length ≤ 100 by omega) (by omega))]
            simp only [Option.bind_some]
            have hmem : (i : Int) ∈ predsTo (nexts f) i part q ↔ (q : Int) ∈ part := by
              unfold predsTo
              simp only [List.mem_append, List.mem_map, List.mem_filter, List.mem_range]
              constructor
              · rintro (⟨j, ⟨hj, _⟩, he⟩ | h)
                · omega
                · split at h
                  · assumption
                  · simp at h
              · intro h; exact .inr (by rw [if_pos h]; simp)
            by_cases h2 : (q : Int) ∈ part
            · rw [decide_eq_true (hmem.2 h2)]
              simp only [Bool.not_true, Bool.false_eq_true, if_false, check_Ahead.jn75, w64_i hk (show f.blocks[i].term.to.length ≤ 1000 by omega)]
              have : aheadTo (nexts f) i part = aheadTo (nexts f) i (part ++ [(q : Int)]) := by
                unfold aheadTo
                exact List.map_congr_left fun t ht => (same t (List.mem_range.1 ht) (fun h => by rw [h]; exact h2)).symm
              rw [this]
            · rw [decide_eq_false (fun h => h2 (hmem.1 h))]
              simp only [Bool.not_false, if_true, cat_one (show (predsTo (nexts f) i part q).length ≤ 1000 by omega), Option.bind_some, check_Ahead.jn75, w64_i hk (show f.blocks[i].term.to.length ≤ 1000 by omega), Int.toNat_natCast]
              have : (aheadTo (nexts f) i part).set q (predsTo (nexts f) i part q ++ [(i : Int)]) = aheadTo (nexts f) i (part ++ [(q : Int)]) := by
                apply List.ext_getElem (by simp [aheadTo])
                intro t g1 g2
                have ht : t < (nexts f).length := by simpa only [aheadTo, List.length_map, List.length_range] using g2
                rw [List.getElem_set]
                simp only [aheadTo, List.getElem_map, List.getElem_range]
                by_cases hqt : q = t
                · subst hqt
                  rw [if_pos rfl]
                  simp [predsTo, h2]
                · rw [if_neg hqt]
                  exact (same t ht (fun h => absurd (by omega) hqt)).symm
              rw [this]
          · rw [if_neg h1]
            simp only [Option.bind_some, Bool.false_eq_true, if_false, check_Ahead.jn75, w64_i hk (show f.blocks[i].term.to.length ≤ 1000 by omega)]
            have : aheadTo (nexts f) i part = aheadTo (nexts f) i (part ++ [x]) := by
              unfold aheadTo
              exact List.map_congr_left fun t ht => (same t (List.mem_range.1 ht) (fun h => by
                exfalso; apply h1
                have := List.mem_range.1 ht
                simp only [len]; omega)).symm
            rw [this]) (by simp [check_Ahead.bd51, len]) (lt_FUEL (le_max hb3 (by omega)))
      simp only [List.take_zero] at hin
      have h00 : (aheadTo (nexts f) i [], ((0 : Nat) : Int)) = (aheadTo (nexts f) i [], (0 : Int)) := rfl
      rw [h00] at hin
      rw [hin]
      simp only [Option.bind_some, check_Ahead.nx51, w64_i hi (show f.blocks.length ≤ 1000 by omega)]
      have : aheadTo (nexts f) i f.blocks[i].term.to = aheadTo (nexts f) (i + 1) [] := by
        unfold aheadTo
        apply List.map_congr_left
        intro t ht
        have ht' := List.mem_range.1 ht
        rw [← predsTo_next (nexts f) i t (by omega)]
        have hg : (nexts f).getD i [] = succs f.blocks.length f.blocks[i].term.to := by rw [List.getD_eq_getElem?_getD, nexts_get f i hi]; rfl
        unfold predsTo
        have : ((t : Int) ∈ (nexts f).getD i []) ↔ (t : Int) ∈ f.blocks[i].term.to := by
          rw [hg, mem_succs]
          exact ⟨fun h => h.1, fun h => ⟨h, by omega, by omega⟩⟩
        simp only [this]
      rw [this]) (by simp [check_Ahead.bd19, len, hnl]) (lt_FUEL (le_max hn (by omega)))
  have h0 : aheadTo (nexts f) 0 [] = List.replicate f.blocks.length [] := by
    apply List.ext_getElem (by simp [aheadTo, hnl])
    intro t h1 h2
    simp [aheadTo, predsTo]
  rw [h0] at hrun
  have h00 : (List.replicate f.blocks.length ([] : List Int), ((0 : Nat) : Int)) = (List.replicate f.blocks.length ([] : List Int), (0 : Int)) := rfl
  rw [h00] at hrun
  rw [hrun]
  simp only [Option.bind_some, check_Ahead.nx19]
  congr 1
  unfold aheadTo aheads
  exact List.map_congr_left fun t _ => predsTo_end _ t
structure FuncOk (m : PModule) (f : PFunc) : Prop where
  small : SmallOk f
  typed : TypedOk f
  ends : ∀ B ∈ f.blocks, EndsOk f B.term
  ahead : ∀ i (hi : i < f.blocks.length), ∀ p ∈ f.blocks[i].phis, p.args.length = (preds (nexts f) i).length
  blocks : ∀ B ∈ f.blocks, BlockOk m f B
theorem func_says (m : PModule) (k : Nat) (hk : k < m.funcs.length) (hf : SmF m.funcs[k]) : Says (check_Func m (k : Int)) (FuncOk m m.funcs[k]) := by
  obtain ⟨hn, hr, hp, hB⟩ := id hf
  unfold check_Func
  rw [if_neg (by simp only [len]; omega), idx_lt hk]
  simp only [Option.bind_some]
  generalize m.funcs[k] = f at *
  obtain ⟨b, hb1, hb2⟩ := small_eq f hf
  rw [hb1]
  simp only [Option.bind_some]
  cases b with
  | false => simp only [Bool.not_false, if_true]; exact .code fun h => by simpa using hb2.2 h.small
  | true =>
    simp only [Bool.not_true, Bool.false_eq_true, if_false]
    obtain ⟨c, hc1, hc2⟩ := typed_eq f hf
    rw [hc1]
    simp only [Option.bind_some]
    cases c with
    | false => simp only [Bool.not_false, if_true]; exact .code fun h => by simpa using hc2.2 h.typed
    | true =>
      simp only [Bool.not_true, Bool.false_eq_true, if_false]
      rcases scan_or f.blocks (le_max hn (by omega)) (fun (B : PBlock) => EndsOk f B.term) (fun e : GErr => e ≠ .no) (fun s => check_Func.bd52 f s) (fun i hi => by
        obtain ⟨d, hd1, hd2⟩ := ends_eq f f.blocks[i].term (hB _ (List.getElem_mem hi)).2.2.1
        simp only [check_Func.bd52, len_lt, hi, if_true, idx_lt hi, Option.bind_some, hd1, w64_i hi (show f.blocks.length ≤ 1000 by omega)]
        cases d with
        | false => exact .inl ⟨_, by simp; rfl, by simp, fun h => by simpa using hd2.2 h⟩
        | true => exact .inr ⟨by simp, hd2.1 rfl⟩) (by simp [check_Func.bd52, len]) with ⟨e, hw, he, hnot⟩ | ⟨hw, hends⟩
      · rw [hw]; exact ⟨e, rfl, fun h => absurd h he, fun h => (hnot h.ends).elim⟩
      rw [hw]
      simp only [Option.bind_some, check_Func.nx52, checkAhead_eq f hf]
      have hal : (aheads (nexts f)).length = f.blocks.length := by rw [aheads_length, nexts_length]
      rcases scan_ix (aheads (nexts f)).length (le_max (show (aheads (nexts f)).length ≤ 70 by omega) (by omega)) (fun i => ∀ hi : i < f.blocks.length, ∀ p ∈ f.blocks[i].phis, p.args.length = (preds (nexts f) i).length) (fun e : GErr => e ≠ .no) (fun s => check_Func.bd70 f (aheads (nexts f)) s) (fun i hi => by
        have hi' : i < f.blocks.length := by omega
        have hg : idx (aheads (nexts f)) (i : Int) = some (preds (nexts f) i) := by rw [idx_nat]; exact aheads_get _ _ (by rw [nexts_length]; exact hi')
        obtain ⟨b1, b2, b3, b4, b5⟩ := hB _ (List.getElem_mem hi')
        simp only [check_Func.bd70, len_lt, hi, if_true, hg, idx_lt hi', Option.bind_some]
        rcases scan_or f.blocks[i].phis (le_max b2 (by omega)) (fun p => p.args.length = (preds (nexts f) i).length) (fun e : GErr => e ≠ .no) (fun s => check_Func.bd140 (preds (nexts f) i) f.blocks[i] s) (fun j hj => by
          simp only [check_Func.bd140, len_lt, hj, if_true, idx_lt hj, Option.bind_some, w64_i hj (show f.blocks[i].phis.length ≤ 1000 by omega)]
          by_cases hc : f.blocks[i].phis[j].args.length = (preds (nexts f) i).length
          · exact .inr ⟨by rw [if_neg (by simp only [len]; omega)], hc⟩
          · exact .inl ⟨_, by rw [if_pos (by simp only [len]; omega)], by simp, hc⟩) (by simp [check_Func.bd140, len]) with ⟨e, hw2, he, hnot⟩ | ⟨hw2, hall⟩
        · rw [hw2]; exact .inl ⟨e, rfl, he, fun h => hnot (h hi')⟩
        · rw [hw2]; exact .inr ⟨by simp only [Option.bind_some, check_Func.nx140, w64_i hi (show (aheads (nexts f)).length ≤ 1000 by omega)], fun _ => hall⟩) (by simp [check_Func.bd70, len]) with ⟨e, hw2, he, hnot⟩ | ⟨hw2, hah⟩
      · rw [hw2]; exact ⟨e, rfl, fun h => absurd h he, fun h => (hnot fun i _ hi => h.ahead i hi).elim⟩
      rw [hw2]
      simp only [Option.bind_some, check_Func.nx70]
      rcases scan_or f.blocks (le_max hn (by omega)) (fun B => BlockOk m f B) (fun e : GErr => e ≠ .no) (fun s => check_Func.bd86 m f s) (fun i hi => by
        obtain ⟨e, he1, he2⟩ := block_says (⟨m, f⟩ : PLooker) f.blocks[i] (hB _ (List.getElem_mem hi))
        have he1' : check_looker_block (⟨(⟨m.funcs⟩ : PModule), (⟨f.params, f.result, f.regs, f.blocks⟩ : PFunc)⟩ : PLooker) f.blocks[i] = some e := he1
        simp only [check_Func.bd86, len_lt, hi, if_true, idx_lt hi, Option.bind_some, he1', w64_i hi (show f.blocks.length ≤ 1000 by omega)]
        by_cases h : e = GErr.no
        · exact .inr ⟨by rw [if_neg (by simpa using h)], he2.1 h⟩
        · exact .inl ⟨e, by rw [if_pos h], h, fun hp => h (he2.2 hp)⟩) (by simp [check_Func.bd86, len]) with ⟨e, hw3, he, hnot⟩ | ⟨hw3, hbl⟩
      · rw [hw3]; exact ⟨e, rfl, fun h => absurd h he, fun h => (hnot h.blocks).elim⟩
      rw [hw3]
      exact .no ⟨hb2.1 rfl, hc2.1 rfl, hends, fun i hi => hah i (by omega) hi, hbl⟩
structure Proper (m : PModule) : Prop where
  few : m.funcs.length ≤ 32
  funcs : ∀ f ∈ m.funcs, FuncOk m f
theorem module_says (m : PModule) (hm : SmM m) : Says (check_Module m) (Proper m) := by
  obtain ⟨hl, hf⟩ := hm
  unfold check_Module
  by_cases h : m.funcs.length ≤ 32
  · rw [if_neg (by simp only [len]; omega)]
    rcases scan_or m.funcs (le_max hl (by omega)) (fun f => FuncOk m f) (fun e : GErr => e ≠ .no) (fun s => check_Module.bd22 m s) (fun i hi => by
      obtain ⟨e, he1, he2⟩ := func_says m i hi (hf _ (List.getElem_mem hi))
      simp only [check_Module.bd22, len_lt, hi, if_true, Option.bind_some, he1, w64_i hi (show m.funcs.length ≤ 1000 by omega)]
      by_cases h : e = GErr.no
      · exact .inr ⟨by rw [if_neg (by simpa using h)], he2.1 h⟩
      · exact .inl ⟨_, by rw [if_pos h], by simp, fun hp => h (he2.2 hp)⟩) (by simp [check_Module.bd22, len]) with ⟨e, hw, he, hn⟩ | ⟨hw, hall⟩
    · rw [hw]; exact ⟨e, rfl, fun h => absurd h he, fun h => (hn h.funcs).elim⟩
    · rw [hw]; exact .no ⟨h, hall⟩
  · rw [if_pos (by simp only [len]; omega)]
    exact .code fun hp => h hp.few
/-- The registers that a block names are there. -/
structure RegsIn (k : Nat) (B : PBlock) : Prop where
  arg : B.term.arg < (k : Int)
  dst : ∀ x ∈ B.ins, x.dst < (k : Int)
  args : ∀ x ∈ B.ins, ∀ a ∈ x.args, 0 ≤ a ∧ a < (k : Int)
  phis : ∀ p ∈ B.phis, 0 ≤ p.dst ∧ p.dst < (k : Int)
  pargs : ∀ p ∈ B.phis, ∀ a ∈ p.args, 0 ≤ a ∧ a < (k : Int)
theorem BlockOk_regs {m : PModule} {f : PFunc} {B : PBlock} (h : BlockOk m f B) : RegsIn f.regs.length B := by
  refine ⟨?_, fun x hx => ?_, fun x hx a ha => ?_, fun p hp => (h.phis p hp).dst, fun p hp a ha => (h.phis p hp).args a ha⟩
  · have := h.term
    unfold EndOk at this
    split at this
    · omega
    · exact this.has.2
  · obtain ⟨n, t, hi⟩ := h.ins x hx
    by_cases ht : t = 0
    · have := hi.none ht; omega
    · exact (hi.dst ht).2
  · obtain ⟨n, t, hi⟩ := h.ins x hx
    exact hi.args a ha
theorem idx_in {α : Type} {xs : List α} {a : Int} (h0 : 0 ≤ a) (h1 : a < (xs.length : Int)) : ∃ y, idx xs a = some y ∧ xs[a.toNat]? = some y := by
  have hlt : a.toNat < xs.length := by omega
  refine ⟨xs[a.toNat], ?_, List.getElem?_eq_getElem hlt⟩
  simp only [idx, if_pos h0]
  exact List.getElem?_eq_getElem hlt
end Go.Proofs.Ytoflleabpkgdpaa
