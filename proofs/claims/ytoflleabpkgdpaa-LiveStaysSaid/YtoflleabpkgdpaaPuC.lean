/- Plain laws, part C: which blocks a block leads to: both programs' Next. No conditions. -/
import Derived.Test.YtoflleabpkgdpaaPuB
set_option linter.unusedVariables false
set_option linter.unusedSimpArgs false
namespace Go.Proofs.Ytoflleabpkgdpaa
open Go

/-- One more block that is led to: in range, and once. -/
def addS (n : Nat) (acc : List Int) (t : Int) : List Int := if 0 ≤ t ∧ t < n ∧ t ∉ acc then acc ++ [t] else acc
def succs (n : Nat) (to : List Int) : List Int := to.foldl (addS n) []
theorem addS_length (n : Nat) (acc : List Int) (t : Int) : (addS n acc t).length ≤ acc.length + 1 := by
  unfold addS; split <;> simp
theorem foldl_addS_length (n : Nat) : ∀ (to acc : List Int), (to.foldl (addS n) acc).length ≤ acc.length + to.length
  | [], acc => by simp
  | t :: to, acc => by
    have h1 := foldl_addS_length n to (addS n acc t)
    have h2 := addS_length n acc t
    simp only [List.foldl_cons, List.length_cons]; omega
theorem addS_in (n : Nat) (acc : List Int) (t : Int) (h : ∀ x ∈ acc, 0 ≤ x ∧ x < n) : ∀ x ∈ addS n acc t, 0 ≤ x ∧ x < n := by
  unfold addS
  split
  · rename_i hc
    intro x hx
    rcases List.mem_append.1 hx with hx | hx
    · exact h x hx
    · simp at hx; subst hx; exact ⟨hc.1, hc.2.1⟩
  · exact h
theorem foldl_addS_in (n : Nat) : ∀ (to acc : List Int), (∀ x ∈ acc, 0 ≤ x ∧ x < n) → ∀ x ∈ to.foldl (addS n) acc, 0 ≤ x ∧ x < n
  | [], acc, h => h
  | t :: to, acc, h => foldl_addS_in n to _ (addS_in n acc t h)
theorem succs_in {n : Nat} {to : List Int} : ∀ x ∈ succs n to, 0 ≤ x ∧ x < n := foldl_addS_in n to [] (by simp)

/-- The inner loop of the reference: whether the block is told already, or is out of range. -/
theorem refNext_in (acc : List Int) (t : Int) (b0 : Bool) (hl : acc.length ≤ maxLen) :
    whl (fun (s : Bool × Int) => fettleref05_Next.bd72 acc t s.1 s.2) FUEL (b0, 0) = some (b0 || decide (t ∈ acc)) := by
  have := whl_run (body := fun (s : Bool × Int) => fettleref05_Next.bd72 acc t s.1 s.2) (r := b0 || decide (t ∈ acc)) acc.length FUEL
    (fun i => (b0 || decide (t ∈ acc.take i), (i : Int))) (fun i hi => by
      simp only [fettleref05_Next.bd72, len_lt, hi, if_true, idx_lt hi, Option.bind_some, w64_at hi hl, List.take_succ_eq_append_getElem hi, List.mem_append, List.mem_singleton]
      cases hb : (b0 || decide (t ∈ acc.take i)) with
      | true =>
        simp only [if_true, Option.bind_some]
        have : (b0 || decide (t ∈ List.take i acc ∨ t = acc[i])) = true := by
          simp only [Bool.or_eq_true, decide_eq_true_eq] at hb ⊢
          rcases hb with hb | hb
          · exact .inl hb
          · exact .inr (.inl hb)
        rw [this]
      | false =>
        simp only [Bool.or_eq_false_iff, decide_eq_false_iff_not] at hb
        simp only [Bool.false_eq_true, if_false, Option.bind_some, hb.1, Bool.false_or, hb.2, false_or, eq_comm (a := t)])
    (by simp [fettleref05_Next.bd72, len]) (lt_FUEL hl)
  simpa using this
theorem refNext_eq (f : PFunc) (b : Nat) (hb : b < f.blocks.length) (hn : f.blocks.length ≤ maxLen) (ht : (f.blocks[b]).term.to.length ≤ 70) :
    fettleref05_Next f b = some (succs f.blocks.length (f.blocks[b]).term.to) := by
  unfold fettleref05_Next
  have hrun := whl_run (body := fun (s : List Int × Int) => fettleref05_Next.bd18 f b s.1 s.2) (r := succs f.blocks.length (f.blocks[b]).term.to) (f.blocks[b]).term.to.length FUEL
    (fun i => (((f.blocks[b]).term.to.take i).foldl (addS f.blocks.length) [], (i : Int))) (fun i hi => by
      have hal : (((f.blocks[b]).term.to.take i).foldl (addS f.blocks.length) []).length ≤ 70 := by
        have := foldl_addS_length f.blocks.length ((f.blocks[b]).term.to.take i) []
        simp at this; omega
      simp only [fettleref05_Next.bd18, idx_lt hb, Option.bind_some, len_lt, hi, if_true, idx_lt hi, foldl_take _ _ _ hi]
      rw [refNext_in _ _ _ (by simp only [maxLen]; omega)]
      simp only [Option.bind_some, fettleref05_Next.nx72, fettleref05_Next.jn38, w64_at hi (show (f.blocks[b]).term.to.length ≤ maxLen by simp only [maxLen]; omega)]
      generalize ((f.blocks[b]).term.to.take i).foldl (addS f.blocks.length) [] = acc at hal
      generalize (f.blocks[b]).term.to[i] = t
      unfold addS
      by_cases hc : 0 ≤ t ∧ t < (f.blocks.length : Int) ∧ t ∉ acc
      · rw [if_pos hc]
        have h1 : (decide (t < 0 ∨ t ≥ len f.blocks) || decide (t ∈ acc)) = false := by
          simp only [Bool.or_eq_false_iff, decide_eq_false_iff_not, len]
          exact ⟨by omega, hc.2.2⟩
        rw [h1]
        have h2 : acc.length + 1 < LIM := by simp only [LIM]; omega
        simp [cat, h2]
      · rw [if_neg hc]
        have h1 : (decide (t < 0 ∨ t ≥ len f.blocks) || decide (t ∈ acc)) = true := by
          simp only [Bool.or_eq_true, decide_eq_true_eq, len]
          by_cases h2 : t ∈ acc
          · exact .inr h2
          · left
            by_cases h3 : t < 0
            · exact .inl h3
            · right
              by_cases h4 : t < (f.blocks.length : Int)
              · exact absurd ⟨by omega, h4, h2⟩ hc
              · omega
        rw [h1]
        simp) (by simp [fettleref05_Next.bd18, idx_lt hb, len, succs]) (lt_FUEL (by simp only [maxLen]; omega))
  simp only [List.take_zero, List.foldl_nil] at hrun
  have h0 : (([] : List Int), ((0 : Nat) : Int)) = (([] : List Int), (0 : Int)) := rfl
  rw [h0] at hrun
  rw [hrun]
  rfl
end Go.Proofs.Ytoflleabpkgdpaa
