/- Plain laws, part C: which blocks a block leads to, and which lead to it, told by lists. No conditions. -/
import Derived.Test.YtoflleabpkgdpaaQuB
set_option linter.unusedVariables false
set_option linter.unusedSimpArgs false
namespace Go.Proofs.Ytoflleabpkgdpaa
open Go Go.Proofs

/-- One more block that is led to: in range, and once. -/
def addS (n : Nat) (acc : List Int) (t : Int) : List Int := if 0 ≤ t ∧ t < n ∧ t ∉ acc then acc ++ [t] else acc
def succs (n : Nat) (to : List Int) : List Int := to.foldl (addS n) []
theorem addS_length (n : Nat) (acc : List Int) (t : Int) : (addS n acc t).length ≤ acc.length + 1 := by
  unfold addS; split <;> simp
theorem foldl_addS_length (n : Nat) : ∀ (to acc : List Int), (to.foldl (addS n) acc).length ≤ acc.length + to.length
  | [], acc => by simp
  | t :: to, acc => by
    have h1 := foldl_addS_length n to (addS n acc t)
    have h2 := addS_length n acc t
    simp only [List.foldl_cons, List.length_cons]; omega
theorem addS_in (n : Nat) (acc : List Int) (t : Int) (h : ∀ x ∈ acc, 0 ≤ x ∧ x < n) : ∀ x ∈ addS n acc t, 0 ≤ x ∧ x < n := by
  unfold addS
  split
  · rename_i hc
    intro x hx
    rcases List.mem_append.1 hx with hx | hx
    · exact h x hx
    · simp at hx; subst hx; exact ⟨hc.1, hc.2.1⟩
  · exact h
theorem foldl_addS_in (n : Nat) : ∀ (to acc : List Int), (∀ x ∈ acc, 0 ≤ x ∧ x < n) → ∀ x ∈ to.foldl (addS n) acc, 0 ≤ x ∧ x < n
  | [], acc, h => h
  | t :: to, acc, h => foldl_addS_in n to _ (addS_in n acc t h)
theorem succs_in {n : Nat} {to : List Int} : ∀ x ∈ succs n to, 0 ≤ x ∧ x < n := foldl_addS_in n to [] (by simp)
def nexts (f : PFunc) : List (List Int) := f.blocks.map fun (B : PBlock) => succs f.blocks.length B.term.to
theorem nexts_length (f : PFunc) : (nexts f).length = f.blocks.length := by simp [nexts]
theorem nexts_rows (f : PFunc) (ht : ∀ B ∈ f.blocks, B.term.to.length ≤ 70) : ∀ (v : Nat) (row : List Int), (nexts f)[v]? = some row → row.length ≤ 70 ∧ ∀ x ∈ row, 0 ≤ x ∧ x < ((nexts f).length : Int) := by
  intro v row h
  have hlt : v < f.blocks.length := by have := (List.getElem?_eq_some_iff.1 h).1; rwa [nexts_length] at this
  have hr : (nexts f)[v]? = some (succs f.blocks.length (f.blocks[v]).term.to) := by simp [nexts, hlt]
  rw [hr] at h; cases h
  refine ⟨?_, by rw [nexts_length]; exact succs_in⟩
  have h1 := foldl_addS_length f.blocks.length (f.blocks[v]).term.to []
  have h2 := ht _ (List.getElem_mem hlt)
  simp only [List.length_nil, Nat.zero_add] at h1
  exact Nat.le_trans h1 h2
def predsTo (nx : List (List Int)) (i : Nat) (part : List Int) (t : Nat) : List Int :=
  ((List.range i).filter fun j => decide ((t : Int) ∈ nx.getD j [])).map (fun j : Nat => (j : Int)) ++ (if (t : Int) ∈ part then [(i : Int)] else [])
def aheadTo (nx : List (List Int)) (i : Nat) (part : List Int) : List (List Int) := (List.range nx.length).map (predsTo nx i part)
def preds (nx : List (List Int)) (t : Nat) : List Int := ((List.range nx.length).filter fun j => decide ((t : Int) ∈ nx.getD j [])).map (fun j : Nat => (j : Int))
def aheads (nx : List (List Int)) : List (List Int) := (List.range nx.length).map (preds nx)
theorem aheads_length (nx : List (List Int)) : (aheads nx).length = nx.length := by simp [aheads]
theorem aheads_get (nx : List (List Int)) (t : Nat) (h : t < nx.length) : (aheads nx)[t]? = some (preds nx t) := by simp [aheads, h]
theorem predsTo_length (nx : List (List Int)) (i : Nat) (part : List Int) (t : Nat) : (predsTo nx i part t).length ≤ i + 1 := by
  unfold predsTo
  have h1 : ((List.range i).filter fun j => decide ((t : Int) ∈ nx.getD j [])).length ≤ (List.range i).length := List.length_filter_le _ _
  simp only [List.length_range] at h1
  rw [List.length_append, List.length_map]
  split <;> simp only [List.length_singleton, List.length_nil] <;> omega
theorem predsTo_next (nx : List (List Int)) (i t : Nat) (h : i < nx.length) : predsTo nx i (nx.getD i []) t = predsTo nx (i + 1) [] t := by
  unfold predsTo
  rw [List.range_succ, List.filter_append, List.map_append]
  by_cases hc : (t : Int) ∈ nx.getD i []
  · rw [if_pos hc, List.filter_cons_of_pos (by simpa using hc)]; simp
  · rw [if_neg hc, List.filter_cons_of_neg (by simpa using hc)]; simp
theorem predsTo_end (nx : List (List Int)) (t : Nat) : predsTo nx nx.length [] t = preds nx t := by simp [predsTo, preds]
theorem succs_nodup (n : Nat) (to : List Int) : (succs n to).Nodup := by
  have key : ∀ (to acc : List Int), acc.Nodup → (to.foldl (addS n) acc).Nodup := by
    intro to
    induction to with
    | nil => intro acc h; exact h
    | cons t to ih =>
      intro acc h
      refine ih _ ?_
      unfold addS
      split
      · rename_i hc
        rw [List.nodup_append]
        exact ⟨h, by simp, fun x hx y hy => by simp at hy; subst hy; exact fun he => hc.2.2 (he ▸ hx)⟩
      · exact h
  exact key to [] List.nodup_nil
theorem mem_foldl_addS (n : Nat) (x : Int) : ∀ (to acc : List Int), x ∈ to.foldl (addS n) acc ↔ x ∈ acc ∨ (x ∈ to ∧ 0 ≤ x ∧ x < n)
  | [], acc => by simp
  | t :: to, acc => by
    rw [List.foldl_cons, mem_foldl_addS n x to]
    unfold addS
    by_cases hc : 0 ≤ t ∧ t < (n : Int) ∧ t ∉ acc
    · rw [if_pos hc]
      simp only [List.mem_append, List.mem_cons, List.not_mem_nil, or_false]
      constructor
      · rintro ((h | rfl) | h)
        · exact .inl h
        · exact .inr ⟨.inl rfl, hc.1, hc.2.1⟩
        · exact .inr ⟨.inr h.1, h.2⟩
      · rintro (h | ⟨rfl | h, h2⟩)
        · exact .inl (.inl h)
        · exact .inl (.inr rfl)
        · exact .inr ⟨h, h2⟩
    · rw [if_neg hc]
      simp only [List.mem_cons]
      constructor
      · rintro (h | h)
        · exact .inl h
        · exact .inr ⟨.inr h.1, h.2⟩
      · rintro (h | ⟨rfl | h, h2⟩)
        · exact .inl h
        · by_cases hx : x ∈ acc
          · exact .inl hx
          · exact absurd ⟨h2.1, h2.2, hx⟩ hc
        · exact .inr ⟨h, h2⟩
theorem mem_succs {n : Nat} {x : Int} {to : List Int} : x ∈ succs n to ↔ x ∈ to ∧ 0 ≤ x ∧ x < n := by
  rw [succs, mem_foldl_addS]; simp
theorem nexts_get (f : PFunc) (v : Nat) (h : v < f.blocks.length) : (nexts f)[v]? = some (succs f.blocks.length f.blocks[v].term.to) := by simp [nexts, h]
theorem preds_in (nx : List (List Int)) (t : Nat) : ∀ x ∈ preds nx t, 0 ≤ x ∧ x < (nx.length : Int) := by
  intro x hx
  simp only [preds, List.mem_map, List.mem_filter, List.mem_range] at hx
  obtain ⟨j, ⟨hj, _⟩, rfl⟩ := hx
  omega
def cnt (s : List Bool) : Nat := s.count false
theorem cnt_mono : ∀ (s t : List Bool), s.length = t.length → (∀ v : Nat, s[v]? = some true → t[v]? = some true) → cnt t ≤ cnt s
  | [], t, hl, _ => by
    have : t = [] := List.eq_nil_of_length_eq_zero (by simpa using hl.symm)
    subst this; exact Nat.le_refl _
  | a :: s, [], hl, _ => by simp at hl
  | a :: s, b :: t, hl, h => by
    have ih := cnt_mono s t (by simpa using hl) (fun v hv => by simpa using h (v + 1) (by simpa using hv))
    have h0 := h 0
    simp only [cnt, List.count_cons] at ih ⊢
    cases a <;> cases b <;> simp_all <;> omega
theorem cnt_set : ∀ (s : List Bool) (v : Nat), s[v]? = some false → cnt (s.set v true) + 1 = cnt s
  | [], v, h => by simp at h
  | a :: s, 0, h => by simp at h; subst h; simp [cnt]
  | a :: s, v + 1, h => by
    have ih := cnt_set s v (by simpa using h)
    simp only [cnt, List.set_cons_succ, List.count_cons] at ih ⊢
    omega
theorem get_set (s : List Bool) (b v : Nat) (h : b < s.length) : (s.set b true)[v]? = if b = v then some true else s[v]? := by
  rw [List.getElem?_set]
  by_cases hbv : b = v
  · subst hbv; simp [h]
  · simp [hbv]
end Go.Proofs.Ytoflleabpkgdpaa
