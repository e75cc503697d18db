/- EffectKinds, the plain law. No conditions. -/
import Derived.Test.YtpomfbdbkejedaaPuB
import Derived.Test.YtpomfbdbkejedaaOp
set_option linter.unusedVariables false
set_option linter.unusedSimpArgs false
namespace Go.Proofs.Ytpomfbdbkejedaa
open Go Go.Proofs

theorem up_true : fettlelaw15_up = some true := by kernel_rfl
def qt (e : PEffect) : Bool := !(e.writes || e.outs || e.traps || e.turns)
theorem quiet1 (e : PEffect) : effect_Quiet e = some (qt e) := by
  obtain ⟨a, b, c, d, f⟩ := e
  cases b <;> cases c <;> cases d <;> cases f <;> rfl
theorem quiet2 (e : PEffect) : fettleref15_Quiet e = some (qt e) := by
  obtain ⟨a, b, c, d, f⟩ := e
  cases b <;> cases c <;> cases d <;> cases f <;> rfl
theorem still1 (e : PEffect) : effect_Still e = some (qt e && !e.reads) := by
  unfold effect_Still
  rw [quiet1]
  cases qt e <;> cases e.reads <;> rfl
theorem still2 (e : PEffect) : fettleref15_Still e = some (qt e && !e.reads) := by
  unfold fettleref15_Still
  rw [quiet2]
  cases qt e <;> cases e.reads <;> rfl
def isA (op : Int) : Bool := decide (2 ≤ op ∧ op ≤ 14)
theorem args1 (op : Int) : ∃ n, arith_Args op = some (n, isA op) := by
  by_cases h : 2 ≤ op ∧ op ≤ 14
  · have : op = 2 ∨ op = 3 ∨ op = 4 ∨ op = 5 ∨ op = 6 ∨ op = 7 ∨ op = 8 ∨ op = 9 ∨ op = 10 ∨ op = 11 ∨ op = 12 ∨ op = 13 ∨ op = 14 := by omega
    rcases this with rfl | rfl | rfl | rfl | rfl | rfl | rfl | rfl | rfl | rfl | rfl | rfl | rfl <;> exact ⟨_, rfl⟩
  · refine ⟨0, ?_⟩
    have e : isA op = false := by simp [isA]; omega
    rw [e]
    unfold arith_Args
    simp only [show ¬ op = 2 by omega, show ¬ op = 14 by omega, show ¬ op = 3 by omega, show ¬ op = 4 by omega, show ¬ op = 5 by omega, show ¬ op = 6 by omega, show ¬ op = 7 by omega, show ¬ op = 8 by omega, show ¬ op = 9 by omega, show ¬ op = 10 by omega, show ¬ op = 11 by omega, show ¬ op = 12 by omega, show ¬ op = 13 by omega, if_false, or_self]
    try (by_cases h3 : op ≥ 3 <;> by_cases h4 : op ≤ 13 <;> simp [h3, h4] <;> omega)
theorem args2 (op : Int) : ∃ n, fettleref01_Args op = some n ∧ (n > 0 ↔ isA op = true) := by
  by_cases h : 2 ≤ op ∧ op ≤ 14
  · have : op = 2 ∨ op = 3 ∨ op = 4 ∨ op = 5 ∨ op = 6 ∨ op = 7 ∨ op = 8 ∨ op = 9 ∨ op = 10 ∨ op = 11 ∨ op = 12 ∨ op = 13 ∨ op = 14 := by omega
    rcases this with rfl | rfl | rfl | rfl | rfl | rfl | rfl | rfl | rfl | rfl | rfl | rfl | rfl <;> exact ⟨_, rfl, by decide⟩
  · refine ⟨-1, ?_, ?_⟩
    · unfold fettleref01_Args fettleref01_Args.jn6 fettleref01_Args.jn11
      simp only [show ¬ op = 2 by omega, show ¬ op = 14 by omega, show ¬ op = 3 by omega, show ¬ op = 4 by omega, show ¬ op = 5 by omega, show ¬ op = 6 by omega, show ¬ op = 7 by omega, show ¬ op = 8 by omega, show ¬ op = 9 by omega, show ¬ op = 10 by omega, show ¬ op = 11 by omega, show ¬ op = 12 by omega, show ¬ op = 13 by omega, if_false, decide_false, Bool.false_eq_true]
    · simp [isA]; omega
def plainB (op : Int) : Bool := decide (op = 1) || (isA op && !decide (op = 11))
theorem plain1 (x : PInstr) : effect_plain x = some (plainB x.op) := by
  obtain ⟨n, h⟩ := args1 x.op
  unfold effect_plain
  rw [h]
  by_cases h1 : x.op = 1
  · simp [h1, plainB]
  · cases hA : isA x.op <;> by_cases h2 : x.op = 11 <;> simp [h1, h2, hA, plainB, arith_Traps]
def callB' (x : PInstr) (l : List PEffect) (p : PEffect → Bool) : Bool := match idx l x.fn with | some e => p e | none => false
theorem idx_none {α : Type} {l : List α} {i : Int} (h : ¬ (0 ≤ i ∧ i < (l.length : Int))) : idx l i = none := by
  unfold idx
  by_cases h0 : 0 ≤ i
  · rw [if_pos h0]; exact List.getElem?_eq_none (by omega)
  · rw [if_neg h0]
theorem idx_get {α : Type} {l : List α} {i : Int} (h : 0 ≤ i ∧ i < (l.length : Int)) : ∃ e, idx l i = some e := by
  unfold idx
  rw [if_pos h.1]
  exact ⟨l[i.toNat]'(by omega), List.getElem?_eq_getElem _⟩
def remB (x : PInstr) (l : List PEffect) (st : Bool) : Bool := plainB x.op || (decide (x.op = 17) && callB' x l fun e => qt e && !(st && e.reads))
theorem rem1 (x : PInstr) (l : List PEffect) : effect_Removable x l = some (remB x l false) := by
  unfold effect_Removable
  rw [plain1, Option.bind_some]
  cases hp : plainB x.op with
  | true => simp [remB, hp]
  | false =>
    by_cases h17 : x.op = 17
    · by_cases hf : 0 ≤ x.fn ∧ x.fn < (l.length : Int)
      · obtain ⟨e, he⟩ := idx_get hf
        have hc : ((x.op = 17 ∧ x.fn ≥ 0) ∧ x.fn < (len l)) := ⟨⟨h17, hf.1⟩, hf.2⟩
        simp only [Bool.false_eq_true, if_false, if_pos hc, he, Option.bind_some, quiet1]
        simp [remB, h17, callB', he, show plainB 17 = false from rfl]
      · have hc : ¬ ((x.op = 17 ∧ x.fn ≥ 0) ∧ x.fn < (len l)) := fun h => hf ⟨h.1.2, h.2⟩
        simp only [Bool.false_eq_true, if_false, if_neg hc, Option.bind_some]
        simp [remB, hp, callB', idx_none hf]
    · have hc : ¬ ((x.op = 17 ∧ x.fn ≥ 0) ∧ x.fn < (len l)) := fun h => h17 h.1.1
      simp only [Bool.false_eq_true, if_false, if_neg hc, Option.bind_some]
      simp [remB, hp, h17]
theorem fix1 (x : PInstr) (l : List PEffect) : effect_Fixed x l = some (remB x l true) := by
  unfold effect_Fixed
  rw [plain1, Option.bind_some]
  cases hp : plainB x.op with
  | true => simp [remB, hp]
  | false =>
    by_cases h17 : x.op = 17
    · by_cases hf : 0 ≤ x.fn ∧ x.fn < (l.length : Int)
      · obtain ⟨e, he⟩ := idx_get hf
        have hc : ((x.op = 17 ∧ x.fn ≥ 0) ∧ x.fn < (len l)) := ⟨⟨h17, hf.1⟩, hf.2⟩
        simp only [Bool.false_eq_true, if_false, if_pos hc, he, Option.bind_some, still1]
        simp [remB, h17, callB', he, show plainB 17 = false from rfl]
      · have hc : ¬ ((x.op = 17 ∧ x.fn ≥ 0) ∧ x.fn < (len l)) := fun h => hf ⟨h.1.2, h.2⟩
        simp only [Bool.false_eq_true, if_false, if_neg hc, Option.bind_some]
        simp [remB, hp, callB', idx_none hf]
    · have hc : ¬ ((x.op = 17 ∧ x.fn ≥ 0) ∧ x.fn < (len l)) := fun h => h17 h.1.1
      simp only [Bool.false_eq_true, if_false, if_neg hc, Option.bind_some]
      simp [remB, hp, h17]
theorem rem2 (x : PInstr) (l : List PEffect) (st : Bool) : fettleref15_Removable x l st = some (remB x l st) := by
  unfold fettleref15_Removable
  by_cases h17 : x.op = 17
  · rw [if_pos h17]
    have hp : plainB x.op = false := by rw [h17]; rfl
    by_cases hf : 0 ≤ x.fn ∧ x.fn < (l.length : Int)
    · obtain ⟨e, he⟩ := idx_get hf
      rw [if_neg (by simp only [len]; omega), he]
      simp only [Option.bind_some, quiet2, remB, hp, h17, callB', he, decide_true, Bool.true_and, Bool.false_or]
      cases qt e <;> cases st <;> cases e.reads <;> rfl
    · rw [if_pos (by simp only [len]; omega)]
      simp [remB, hp, callB', idx_none hf]
  · rw [if_neg h17]
    obtain ⟨n, h1, h2⟩ := args2 x.op
    by_cases e1 : x.op = 1
    · simp [e1, remB, plainB]
    · by_cases e11 : x.op = 11
      · simp [e11, remB, plainB, h17]
      · rw [h1]
        have : decide (n > 0) = isA x.op := by
          by_cases hn : n > 0
          · simp [hn, h2.1 hn]
          · have : isA x.op = false := by
              cases hA : isA x.op with
              | false => rfl
              | true => exact absurd (h2.2 hA) hn
            simp [hn, this]
        simp only [if_neg e1, e11, not_false_eq_true, if_true, Option.bind_some, this]
        simp [remB, plainB, e1, e11, h17]
theorem pure_effectKinds (x : PInstr) (l : List PEffect) (e : PEffect) {p q r : Prop} (_ : p) (_ : q) (_ : r) : fettlelaw15_EffectKinds x l e = some true := by
  unfold fettlelaw15_EffectKinds
  rw [up_true, Option.bind_some]
  by_cases hc : (len l) > 100 ∨ (len x.args) > 300
  · rw [if_pos hc]
  · rw [if_neg hc]
    simp only [quiet1, quiet2, still1, still2, rem1, rem2, fix1, Option.bind_some, beq_self_eq_true, Bool.not_true, Bool.false_eq_true, if_false, if_true]
end Go.Proofs.Ytpomfbdbkejedaa
