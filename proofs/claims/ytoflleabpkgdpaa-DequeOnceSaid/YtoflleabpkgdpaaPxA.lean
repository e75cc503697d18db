/- Plain laws, part x-A: what a step of a deque's operation does. No conditions. -/
import Derived.Test.YtoflleabpkgdpaaK1
import Derived.Test.YtoflleabpkgdpaaPxZ
set_option linter.unusedVariables false
set_option linter.unusedSimpArgs false
namespace Go.Proofs.Ytoflleabpkgdpaa
open Go Go.Proofs

/-! ### Cells -/
def cget (c : A64) (n : Int) : Int := c.1.getD (n % 64).toNat 0
def cput (c : A64) (n v : Int) : A64 := c.put (n % 64) v
def Sml (n : Int) : Prop := -1000000 ≤ n ∧ n ≤ 1000000
theorem sml_w {n : Int} (h : Sml n) (k : Int) (hk : -1000 ≤ k ∧ k ≤ 1000) : w64 (n + k) = n + k := w64_id ⟨by have := h.1; omega, by have := h.2; omega⟩
theorem ci_eq (n : Int) : Int.tmod (w64 ((Int.tmod n 64) + 64)) 64 = n % 64 := by
  have h1 : -64 < Int.tmod n 64 ∧ Int.tmod n 64 < 64 := by
    have := Int.tmod_lt_of_pos n (show (0 : Int) < 64 by omega)
    have h2 := Int.lt_tmod_of_pos n (show (0 : Int) < 64 by omega)
    omega
  rw [w64_id ⟨by omega, by omega⟩, Int.tmod_eq_emod_of_nonneg (by omega)]
  have := Int.tmod_add_mul_tdiv n 64
  omega
theorem in64_ok (n : Int) : in64 (n % 64) = some () := by
  unfold in64
  rw [if_pos (by omega)]
theorem cget_get (c : A64) (n : Int) : A64.get c (n % 64) = some (cget c n) := by
  have h0 : 0 ≤ n % 64 := by omega
  have h1 : (n % 64).toNat < c.1.length := by rw [c.2]; omega
  simp only [A64.get, idx, if_pos h0, cget]
  rw [List.getD_eq_getElem?_getD, List.getElem?_eq_getElem h1]; rfl
theorem cget_put (c : A64) (n m v : Int) : cget (cput c n v) m = if n % 64 = m % 64 then v else cget c m := by
  have h1 : (m % 64).toNat < c.1.length := by rw [c.2]; omega
  unfold cget cput A64.put
  simp only
  rw [List.getD_eq_getElem?_getD, List.getElem?_set]
  by_cases h : n % 64 = m % 64
  · rw [if_pos (by rw [h]), if_pos (by rw [h]; exact h1), if_pos h]; rfl
  · rw [if_neg (by omega), if_neg h, List.getD_eq_getElem?_getD]
theorem cell_eq (bd : Nat) (n : Int) (R : Rgn) : deque_Deque_cell (some bd) n R = some (bd, n % 64) := by
  unfold deque_Deque_cell
  simp only [Option.bind_some, ci_eq, in64_ok]

/-! ### The region, seen from one deque and one operation -/
structure Vw (R0 R : Rgn) (bd bo : Nat) (y : QDeque) (x : QOp) : Prop where
  ds : look R.ds bd = some y
  os : look R.os bo = some x
  dso : ∀ c, c ≠ bd → look R.ds c = look R0.ds c
  oso : ∀ c, c ≠ bo → look R.os c = look R0.os c
  rs : R.rs = R0.rs
theorem Vw.set_os {R0 R : Rgn} {bd bo : Nat} {y : QDeque} {x : QOp} (h : Vw R0 R bd bo y x) (x' : QOp) : Vw R0 (R.set_os bo x') bd bo y x' :=
  ⟨h.ds, look_setL _ _ _ _ h.os, h.dso, fun c hc => (look_other bo c x' (fun e => hc e.symm) R.os).trans (h.oso c hc), h.rs⟩
theorem Vw.set_ds {R0 R : Rgn} {bd bo : Nat} {y : QDeque} {x : QOp} (h : Vw R0 R bd bo y x) (y' : QDeque) : Vw R0 (R.set_ds bd y') bd bo y' x :=
  ⟨look_setL _ _ _ _ h.ds, h.os, fun c hc => (look_other bd c y' (fun e => hc e.symm) R.ds).trans (h.dso c hc), h.oso, h.rs⟩
theorem Vw.refl {R : Rgn} {bd bo : Nat} {y : QDeque} {x : QOp} (h1 : look R.ds bd = some y) (h2 : look R.os bo = some x) : Vw R R bd bo y x := ⟨h1, h2, fun _ _ => rfl, fun _ _ => rfl, rfl⟩
theorem Vw.trans {R0 R1 R2 : Rgn} {bd bo : Nat} {y y' : QDeque} {x x' : QOp} (h : Vw R0 R1 bd bo y x) (k : Vw R1 R2 bd bo y' x') : Vw R0 R2 bd bo y' x' :=
  ⟨k.ds, k.os, fun c hc => (k.dso c hc).trans (h.dso c hc), fun c hc => (k.oso c hc).trans (h.oso c hc), k.rs.trans h.rs⟩

/-! ### A step -/
def core (y : QDeque) (x : QOp) : QDeque × QOp × Int :=
  if x.kind = 1 then
    if x.at_ = 0 then (y, ⟨x.d, x.kind, x.at_, x.t, y.bottom, x.x, x.got⟩, 0)
    else if x.at_ = 1 then (y, ⟨x.d, x.kind, x.at_, y.top, x.b, x.x, x.got⟩, if x.b - y.top ≥ 64 then 3 else 0)
    else if x.at_ = 2 then (⟨cput y.cells x.b x.x, y.top, y.bottom, y.owner⟩, x, 0)
    else (⟨y.cells, y.top, x.b + 1, y.owner⟩, x, 1)
  else if x.kind = 2 then
    if x.at_ = 0 then (⟨y.cells, y.top, y.bottom - 1, y.owner⟩, ⟨x.d, x.kind, x.at_, x.t, y.bottom - 1, x.x, x.got⟩, 0)
    else if x.at_ = 1 then (y, ⟨x.d, x.kind, if y.top > x.b then 9 else 19, y.top, x.b, x.x, x.got⟩, 0)
    else if x.at_ = 10 ∨ x.at_ = 50 then (⟨y.cells, y.top, x.b + 1, y.owner⟩, x, 2)
    else if x.at_ = 20 then
      if x.t < x.b then (y, ⟨x.d, x.kind, x.at_, x.t, x.b, cget y.cells x.b, x.got⟩, 1) else (y, ⟨x.d, x.kind, 29, x.t, x.b, cget y.cells x.b, x.got⟩, 0)
    else if x.at_ = 30 then
      if y.top = x.t then (⟨y.cells, y.top + 1, y.bottom, y.owner⟩, ⟨x.d, x.kind, 39, x.t, x.b, x.x, x.got⟩, 0) else (y, ⟨x.d, x.kind, 49, x.t, x.b, x.x, x.got⟩, 0)
    else (⟨y.cells, y.top, x.b + 1, y.owner⟩, x, 1)
  else
    if x.at_ = 0 then (y, ⟨x.d, x.kind, x.at_, y.top, x.b, x.x, x.got⟩, 0)
    else if x.at_ = 1 then (y, ⟨x.d, x.kind, x.at_, x.t, y.bottom, x.x, x.got⟩, if x.t ≥ y.bottom then 2 else 0)
    else if x.at_ = 2 then (y, ⟨x.d, x.kind, x.at_, x.t, x.b, cget y.cells x.t, x.got⟩, 0)
    else if y.top = x.t then (⟨y.cells, y.top + 1, y.bottom, y.owner⟩, x, 1) else (y, x, 4)
def stp (bo : Nat) (y : QDeque) (x : QOp) : QDeque × QOp :=
  let r := core y x
  (if ¬ r.2.2 = 0 ∧ r.1.owner = some bo then ⟨r.1.cells, r.1.top, r.1.bottom, none⟩ else r.1, ⟨r.2.1.d, r.2.1.kind, r.2.1.at_ + 1, r.2.1.t, r.2.1.b, r.2.1.x, r.2.2⟩)
structure SmS (y : QDeque) (x : QOp) : Prop where
  top : Sml y.top
  bottom : Sml y.bottom
  at_ : Sml x.at_
  t : Sml x.t
  b : Sml x.b
theorem push_core {R0 R : Rgn} {bd bo : Nat} {y : QDeque} {x : QOp} (h : Vw R0 R bd bo y x) (hs : SmS y x) (hk : x.kind = 1) :
    ∃ R', deque_Deque_push (some bd) (some bo) R = some ((core y x).2.2, R') ∧ Vw R0 R' bd bo (core y x).1 (core y x).2.1 := by
  have e1 : w64 (x.b + 1) = x.b + 1 := sml_w hs.b 1 (by omega)
  have e2 : w64 (x.b - y.top) = x.b - y.top := w64_id ⟨by have := hs.b.1; have := hs.top.2; omega, by have := hs.b.2; have := hs.top.1; omega⟩
  unfold deque_Deque_push core
  simp only [Option.bind_some, h.os, if_pos hk]
  by_cases c0 : x.at_ = 0
  · simp only [if_pos c0, h.ds, Option.bind_some, deque_Deque_push.jn6]; exact ⟨_, rfl, h.set_os _⟩
  simp only [if_neg c0]
  by_cases c1 : x.at_ = 1
  · simp only [if_pos c1, h.ds, Option.bind_some, e2, deque_Deque_push.jn6]
    by_cases c : x.b - y.top ≥ 64
    · rw [if_pos c, if_pos c]; exact ⟨_, rfl, h.set_os _⟩
    · rw [if_neg c, if_neg c]; exact ⟨_, rfl, h.set_os _⟩
  simp only [if_neg c1]
  by_cases c2 : x.at_ = 2
  · simp only [if_pos c2, cell_eq, Option.bind_some, h.ds, cget_get, deque_Deque_push.jn6]; exact ⟨_, rfl, h.set_ds _⟩
  · simp only [if_neg c2, h.ds, Option.bind_some, e1]; exact ⟨_, rfl, h.set_ds _⟩
theorem take_eq {R0 R : Rgn} {bd bo : Nat} {y : QDeque} {x : QOp} (h : Vw R0 R bd bo y x) (hs : SmS y x) (t : Int) :
    ∃ R', deque_Deque_take (some bd) t R = some (decide (y.top = t), R') ∧ Vw R0 R' bd bo (if y.top = t then ⟨y.cells, y.top + 1, y.bottom, y.owner⟩ else y) x := by
  have e1 : w64 (y.top + 1) = y.top + 1 := sml_w hs.top 1 (by omega)
  unfold deque_Deque_take
  simp only [Option.bind_some, h.ds]
  by_cases c : y.top = t
  · rw [if_neg (by simpa using c), if_pos c, decide_eq_true c, e1]; exact ⟨_, rfl, h.set_ds _⟩
  · rw [if_pos c, if_neg c, decide_eq_false c]; exact ⟨_, rfl, h⟩
theorem steal_core {R0 R : Rgn} {bd bo : Nat} {y : QDeque} {x : QOp} (h : Vw R0 R bd bo y x) (hs : SmS y x) (hk : ¬ x.kind = 1) (hk2 : ¬ x.kind = 2) :
    ∃ R', deque_Deque_steal (some bd) (some bo) R = some ((core y x).2.2, R') ∧ Vw R0 R' bd bo (core y x).1 (core y x).2.1 := by
  unfold deque_Deque_steal core
  simp only [Option.bind_some, h.os, if_neg hk, if_neg hk2]
  by_cases c0 : x.at_ = 0
  · simp only [if_pos c0, h.ds, Option.bind_some, deque_Deque_steal.jn6]; exact ⟨_, rfl, h.set_os _⟩
  simp only [if_neg c0]
  by_cases c1 : x.at_ = 1
  · simp only [if_pos c1, h.ds, Option.bind_some, deque_Deque_steal.jn6]
    by_cases c : x.t ≥ y.bottom
    · rw [if_pos c, if_pos c]; exact ⟨_, rfl, h.set_os _⟩
    · rw [if_neg c, if_neg c]; exact ⟨_, rfl, h.set_os _⟩
  simp only [if_neg c1]
  by_cases c2 : x.at_ = 2
  · simp only [if_pos c2, cell_eq, Option.bind_some, h.ds, cget_get, deque_Deque_steal.jn6]; exact ⟨_, rfl, h.set_os _⟩
  · simp only [if_neg c2]
    obtain ⟨R', t1, t2⟩ := take_eq h hs x.t
    rw [t1]
    simp only [Option.bind_some, decide_eq_true_eq]
    by_cases c : y.top = x.t
    · rw [if_pos c] at t2 ⊢; rw [if_pos c]; exact ⟨_, rfl, t2⟩
    · rw [if_neg c] at t2 ⊢; rw [if_neg c]; exact ⟨_, rfl, t2⟩
theorem pop_core {R0 R : Rgn} {bd bo : Nat} {y : QDeque} {x : QOp} (h : Vw R0 R bd bo y x) (hs : SmS y x) (hk : x.kind = 2) :
    ∃ R', deque_Deque_pop (some bd) (some bo) R = some ((core y x).2.2, R') ∧ Vw R0 R' bd bo (core y x).1 (core y x).2.1 := by
  have e1 : w64 (x.b + 1) = x.b + 1 := sml_w hs.b 1 (by omega)
  have e2 : w64 (y.bottom - 1) = y.bottom - 1 := sml_w hs.bottom (-1) (by omega)
  have k1 : ¬ x.kind = 1 := by omega
  unfold deque_Deque_pop core
  simp only [Option.bind_some, h.os, if_neg k1, if_pos hk]
  by_cases c0 : x.at_ = 0
  · simp only [if_pos c0, h.ds, Option.bind_some, deque_Deque_pop.jn6, e2]; exact ⟨_, rfl, (h.set_os _).set_ds _⟩
  simp only [if_neg c0]
  by_cases c1 : x.at_ = 1
  · simp only [if_pos c1, h.ds, Option.bind_some, deque_Deque_pop.jn6]
    by_cases c : y.top > x.b
    · rw [if_pos c, if_pos c]; exact ⟨_, rfl, ((h.set_os _).set_os _).set_os _⟩
    · rw [if_neg c, if_neg c]; exact ⟨_, rfl, (h.set_os _).set_os _⟩
  simp only [if_neg c1]
  have hjn : (if x.at_ = 10 then deque_Deque_pop.jn37 (some bd) (some bo) R x (decide (x.at_ = 10)) else deque_Deque_pop.jn37 (some bd) (some bo) R x (decide (x.at_ = 50))) = deque_Deque_pop.jn37 (some bd) (some bo) R x (decide (x.at_ = 10 ∨ x.at_ = 50)) := by
    by_cases c : x.at_ = 10 <;> simp [c]
  rw [hjn]
  unfold deque_Deque_pop.jn37
  simp only [decide_eq_true_eq, Option.bind_some, h.os, h.ds, e1]
  by_cases c2 : x.at_ = 10 ∨ x.at_ = 50
  · simp only [if_pos c2]; exact ⟨_, rfl, h.set_ds _⟩
  simp only [if_neg c2]
  by_cases c3 : x.at_ = 20
  · simp only [if_pos c3, cell_eq, Option.bind_some, h.ds, cget_get, deque_Deque_pop.jn6]
    by_cases c : x.t < x.b
    · rw [if_pos c, if_pos c]; exact ⟨_, rfl, h.set_os _⟩
    · rw [if_neg c, if_neg c]; exact ⟨_, rfl, (h.set_os _).set_os _⟩
  simp only [if_neg c3]
  by_cases c4 : x.at_ = 30
  · simp only [if_pos c4]
    obtain ⟨R', t1, t2⟩ := take_eq h hs x.t
    rw [t1]
    simp only [Option.bind_some, decide_eq_true_eq, t2.os, deque_Deque_pop.jn6]
    by_cases c : y.top = x.t
    · rw [if_pos c] at t2 ⊢; rw [if_pos c]; exact ⟨_, rfl, (t2.set_os _).set_os _⟩
    · rw [if_neg c] at t2 ⊢; rw [if_neg c]; exact ⟨_, rfl, t2.set_os _⟩
  · simp only [if_neg c4]; exact ⟨_, rfl, h.set_ds _⟩
theorem core_small {y : QDeque} {x : QOp} (hs : SmS y x) : w64 ((core y x).2.1.at_ + 1) = (core y x).2.1.at_ + 1 := by
  have h : (core y x).2.1.at_ = x.at_ ∨ (core y x).2.1.at_ = 9 ∨ (core y x).2.1.at_ = 19 ∨ (core y x).2.1.at_ = 29 ∨ (core y x).2.1.at_ = 39 ∨ (core y x).2.1.at_ = 49 := by
    unfold core
    repeat' split
    all_goals simp
  have := hs.at_.1
  have := hs.at_.2
  rcases h with h | h | h | h | h | h <;> rw [h] <;> exact w64_id ⟨by omega, by omega⟩
theorem core_owner (y : QDeque) (x : QOp) : (core y x).1.owner = y.owner := by
  unfold core
  repeat' split
  all_goals rfl
/-- A step of an operation that is under way. -/
theorem step_eq {R : Rgn} {bd bo : Nat} {y : QDeque} {x : QOp} (hy : look R.ds bd = some y) (hx : look R.os bo = some x) (hs : SmS y x) (hd : x.d = some bd) (hg : x.got = 0) (hown : ∀ c, y.owner = some c → ∃ z, look R.os c = some z) :
    ∃ R', deque_Deque_Step (some bd) (some bo) R = some (decide (¬ (stp bo y x).2.got = 0), GErr.no, R') ∧ Vw R R' bd bo (stp bo y x).1 (stp bo y x).2 := by
  have h0 : Vw R R bd bo y x := Vw.refl hy hx
  unfold deque_Deque_Step
  have he : eqP R.ds (some bd) (some bd) = some true := by
    unfold eqP okP
    simp [hy]
  simp only [Option.bind_some, hx, hd, he, show ¬ (some bo = (none : Option Nat)) by simp, if_false, not_true, decide_false, Bool.false_eq_true, hg]
  -- the core, and what follows it
  have hcore : ∀ f : Option (Int × Rgn), (∃ R', f = some ((core y x).2.2, R') ∧ Vw R R' bd bo (core y x).1 (core y x).2.1) →
      ∃ R', (f.bind fun x23 => (look (x23.2).os bo).bind fun x24 => deque_Deque_Step.jn8 (some bd) (some bo) (x23.2.set_os bo (⟨x24.d, x24.kind, x24.at_, x24.t, x24.b, x24.x, x23.1⟩ : QOp))) = some (decide (¬ (stp bo y x).2.got = 0), GErr.no, R') ∧ Vw R R' bd bo (stp bo y x).1 (stp bo y x).2 := by
    rintro f ⟨R1, rfl, h1⟩
    simp only [Option.bind_some, h1.os]
    have h2 := h1.set_os ⟨(core y x).2.1.d, (core y x).2.1.kind, (core y x).2.1.at_, (core y x).2.1.t, (core y x).2.1.b, (core y x).2.1.x, (core y x).2.2⟩
    unfold deque_Deque_Step.jn8
    simp only [Option.bind_some, h2.os, core_small hs]
    have h3 := h2.set_os ⟨(core y x).2.1.d, (core y x).2.1.kind, (core y x).2.1.at_ + 1, (core y x).2.1.t, (core y x).2.1.b, (core y x).2.1.x, (core y x).2.2⟩
    simp only [h3.ds, Option.bind_some]
    have hco := core_owner y x
    have heq : eqP ((R1.set_os bo ⟨(core y x).2.1.d, (core y x).2.1.kind, (core y x).2.1.at_, (core y x).2.1.t, (core y x).2.1.b, (core y x).2.1.x, (core y x).2.2⟩).set_os bo ⟨(core y x).2.1.d, (core y x).2.1.kind, (core y x).2.1.at_ + 1, (core y x).2.1.t, (core y x).2.1.b, (core y x).2.1.x, (core y x).2.2⟩).os (core y x).1.owner (some bo) = some (decide ((core y x).1.owner = some bo)) := by
      unfold eqP
      have ok1 : okP ((R1.set_os bo ⟨(core y x).2.1.d, (core y x).2.1.kind, (core y x).2.1.at_, (core y x).2.1.t, (core y x).2.1.b, (core y x).2.1.x, (core y x).2.2⟩).set_os bo ⟨(core y x).2.1.d, (core y x).2.1.kind, (core y x).2.1.at_ + 1, (core y x).2.1.t, (core y x).2.1.b, (core y x).2.1.x, (core y x).2.2⟩).os (core y x).1.owner = true := by
        rw [hco]
        cases ho : y.owner with
        | none => rfl
        | some c =>
          unfold okP
          simp only
          by_cases hc : c = bo
          · subst hc; rw [h3.os]; rfl
          · obtain ⟨z, hz⟩ := hown c ho
            rw [h3.oso c hc, hz]; rfl
      have ok2 : okP ((R1.set_os bo ⟨(core y x).2.1.d, (core y x).2.1.kind, (core y x).2.1.at_, (core y x).2.1.t, (core y x).2.1.b, (core y x).2.1.x, (core y x).2.2⟩).set_os bo ⟨(core y x).2.1.d, (core y x).2.1.kind, (core y x).2.1.at_ + 1, (core y x).2.1.t, (core y x).2.1.b, (core y x).2.1.x, (core y x).2.2⟩).os (some bo) = true := by
        unfold okP; simp only [h3.os]; rfl
      rw [if_pos ⟨ok1, ok2⟩]
    rw [heq]
    simp only [Option.bind_some]
    unfold stp
    simp only
    by_cases hg2 : (core y x).2.2 = 0
    · rw [if_neg (by simpa using hg2)]
      simp only [Option.bind_some, Bool.false_eq_true, if_false]
      unfold deque_Deque_Step.jn17
      simp only [Option.bind_some, h3.os]
      rw [if_neg (by simp [hg2])]
      exact ⟨_, rfl, h3⟩
    · rw [if_pos hg2]
      simp only [Option.bind_some, decide_eq_true_eq]
      by_cases ho : (core y x).1.owner = some bo
      · rw [if_pos ho, if_pos ⟨hg2, ho⟩]
        have h4 := h3.set_ds ⟨(core y x).1.cells, (core y x).1.top, (core y x).1.bottom, none⟩
        unfold deque_Deque_Step.jn17
        simp only [Option.bind_some, h4.os]
        exact ⟨_, rfl, h4⟩
      · rw [if_neg ho, if_neg (fun h => ho h.2)]
        unfold deque_Deque_Step.jn17
        simp only [Option.bind_some, h3.os]
        exact ⟨_, rfl, h3⟩
  by_cases k1 : x.kind = 1
  · rw [if_pos k1]; exact hcore _ (push_core h0 hs k1)
  rw [if_neg k1]
  by_cases k2 : x.kind = 2
  · rw [if_pos k2]; exact hcore _ (pop_core h0 hs k2)
  · rw [if_neg k2]; exact hcore _ (steal_core h0 hs k1 k2)
end Go.Proofs.Ytoflleabpkgdpaa
