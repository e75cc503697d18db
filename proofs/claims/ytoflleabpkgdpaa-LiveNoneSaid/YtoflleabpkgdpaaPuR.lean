/- Plain laws, part R: the blocks that lead to each, told by lists. No conditions. -/
import Derived.Test.YtoflleabpkgdpaaPuK
set_option linter.unusedVariables false
set_option linter.unusedSimpArgs false
namespace Go.Proofs.Ytoflleabpkgdpaa
open Go Go.Proofs

/-! ### The blocks that lead to each -/
def predsTo (nx : List (List Int)) (i : Nat) (part : List Int) (t : Nat) : List Int :=
  ((List.range i).filter fun j => decide ((t : Int) ∈ nx.getD j [])).map (fun j : Nat => (j : Int)) ++ (if (t : Int) ∈ part then [(i : Int)] else [])
def aheadTo (nx : List (List Int)) (i : Nat) (part : List Int) : List (List Int) := (List.range nx.length).map (predsTo nx i part)
def preds (nx : List (List Int)) (t : Nat) : List Int := ((List.range nx.length).filter fun j => decide ((t : Int) ∈ nx.getD j [])).map (fun j : Nat => (j : Int))
def aheads (nx : List (List Int)) : List (List Int) := (List.range nx.length).map (preds nx)
theorem aheads_length (nx : List (List Int)) : (aheads nx).length = nx.length := by simp [aheads]
theorem aheads_get (nx : List (List Int)) (t : Nat) (h : t < nx.length) : (aheads nx)[t]? = some (preds nx t) := by simp [aheads, h]
theorem predsTo_length (nx : List (List Int)) (i : Nat) (part : List Int) (t : Nat) : (predsTo nx i part t).length ≤ i + 1 := by
  unfold predsTo
  have h1 : ((List.range i).filter fun j => decide ((t : Int) ∈ nx.getD j [])).length ≤ (List.range i).length := List.length_filter_le _ _
  simp only [List.length_range] at h1
  rw [List.length_append, List.length_map]
  split <;> simp only [List.length_singleton, List.length_nil] <;> omega
theorem predsTo_next (nx : List (List Int)) (i t : Nat) (h : i < nx.length) : predsTo nx i (nx.getD i []) t = predsTo nx (i + 1) [] t := by
  unfold predsTo
  rw [List.range_succ, List.filter_append, List.map_append]
  by_cases hc : (t : Int) ∈ nx.getD i []
  · rw [if_pos hc, List.filter_cons_of_pos (by simpa using hc)]; simp
  · rw [if_neg hc, List.filter_cons_of_neg (by simpa using hc)]; simp
theorem predsTo_end (nx : List (List Int)) (t : Nat) : predsTo nx nx.length [] t = preds nx t := by simp [predsTo, preds]
theorem succs_nodup (n : Nat) (to : List Int) : (succs n to).Nodup := by
  have key : ∀ (to acc : List Int), acc.Nodup → (to.foldl (addS n) acc).Nodup := by
    intro to
    induction to with
    | nil => intro acc h; exact h
    | cons t to ih =>
      intro acc h
      refine ih _ ?_
      unfold addS
      split
      · rename_i hc
        rw [List.nodup_append]
        exact ⟨h, by simp, fun x hx y hy => by simp at hy; subst hy; exact fun he => hc.2.2 (he ▸ hx)⟩
      · exact h
  exact key to [] List.nodup_nil
theorem mem_foldl_addS (n : Nat) (x : Int) : ∀ (to acc : List Int), x ∈ to.foldl (addS n) acc ↔ x ∈ acc ∨ (x ∈ to ∧ 0 ≤ x ∧ x < n)
  | [], acc => by simp
  | t :: to, acc => by
    rw [List.foldl_cons, mem_foldl_addS n x to]
    unfold addS
    by_cases hc : 0 ≤ t ∧ t < (n : Int) ∧ t ∉ acc
    · rw [if_pos hc]
      simp only [List.mem_append, List.mem_cons, List.not_mem_nil, or_false]
      constructor
      · rintro ((h | rfl) | h)
        · exact .inl h
        · exact .inr ⟨.inl rfl, hc.1, hc.2.1⟩
        · exact .inr ⟨.inr h.1, h.2⟩
      · rintro (h | ⟨rfl | h, h2⟩)
        · exact .inl (.inl h)
        · exact .inl (.inr rfl)
        · exact .inr ⟨h, h2⟩
    · rw [if_neg hc]
      simp only [List.mem_cons]
      constructor
      · rintro (h | h)
        · exact .inl h
        · exact .inr ⟨.inr h.1, h.2⟩
      · rintro (h | ⟨rfl | h, h2⟩)
        · exact .inl h
        · by_cases hx : x ∈ acc
          · exact .inl hx
          · exact absurd ⟨h2.1, h2.2, hx⟩ hc
        · exact .inr ⟨h, h2⟩
theorem mem_succs {n : Nat} {x : Int} {to : List Int} : x ∈ succs n to ↔ x ∈ to ∧ 0 ≤ x ∧ x < n := by
  rw [succs, mem_foldl_addS]; simp
theorem nexts_get (f : PFunc) (v : Nat) (h : v < f.blocks.length) : (nexts f)[v]? = some (succs f.blocks.length f.blocks[v].term.to) := by simp [nexts, h]
theorem preds_in (nx : List (List Int)) (t : Nat) : ∀ x ∈ preds nx t, 0 ≤ x ∧ x < (nx.length : Int) := by
  intro x hx
  simp only [preds, List.mem_map, List.mem_filter, List.mem_range] at hx
  obtain ⟨j, ⟨hj, _⟩, rfl⟩ := hx
  omega
end Go.Proofs.Ytoflleabpkgdpaa
