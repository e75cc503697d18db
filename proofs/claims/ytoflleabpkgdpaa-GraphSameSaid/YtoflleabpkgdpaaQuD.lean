/- Plain laws, part D: both programs' Next. No conditions. -/
import Derived.Test.YtoflleabpkgdpaaQuC
import Derived.Test.YtoflleabpkgdpaaS6
set_option linter.unusedVariables false
set_option linter.unusedSimpArgs false
namespace Go.Proofs.Ytoflleabpkgdpaa
open Go Go.Proofs

theorem graphNext_in (B : PBlock) (next : List (List Int)) (i : Nat) (hi : i < next.length) (h0 : next[i] = []) (ht : B.term.to.length ≤ 70) :
    whl (fun (s : List (List Int) × Int) => graph_Next.bd51 i B s.1 s.2) FUEL (next, 0) = some (next.set i (succs next.length B.term.to)) := by
  have hrun := whl_run (body := fun (s : List (List Int) × Int) => graph_Next.bd51 i B s.1 s.2) (r := next.set i (succs next.length B.term.to)) B.term.to.length FUEL
    (fun j => (next.set i ((B.term.to.take j).foldl (addS next.length) []), (j : Int))) (fun j hj => by
      have hal : ((B.term.to.take j).foldl (addS next.length) []).length ≤ 70 := by
        have := foldl_addS_length next.length (B.term.to.take j) []
        simp at this; omega
      simp only [graph_Next.bd51, len_lt, hj, if_true, idx_lt hj, Option.bind_some, foldl_take _ _ _ hj, idx_set _ _ _ hi]
      rw [contains_eq _ _ (by simp only [maxLen]; omega)]
      simp only [Option.bind_some, graph_Next.jn75, w64_at hj (show B.term.to.length ≤ maxLen by simp only [maxLen]; omega)]
      generalize ((B.term.to.take j).foldl (addS next.length) []) = acc at hal
      generalize B.term.to[j] = t
      have h2 : acc.length + 1 < LIM := by simp only [LIM]; omega
      unfold addS
      by_cases h1 : t ≥ 0 ∧ t < len (next.set i acc)
      · rw [if_pos h1]
        simp only [len, List.length_set] at h1
        by_cases h3 : t ∈ acc
        · simp [h3]
        · have hc : 0 ≤ t ∧ t < (next.length : Int) ∧ t ∉ acc := ⟨h1.1, h1.2, h3⟩
          rw [if_pos hc]
          simp [h3, cat, h2, List.set_set]
      · rw [if_neg h1]
        simp only [len, List.length_set] at h1
        have hc : ¬ (0 ≤ t ∧ t < (next.length : Int) ∧ t ∉ acc) := fun hc => h1 ⟨hc.1, hc.2.1⟩
        rw [if_neg hc]
        simp) (by simp [graph_Next.bd51, len, succs]) (lt_FUEL (by simp only [maxLen]; omega))
  simp only [List.take_zero, List.foldl_nil] at hrun
  have hs : next.set i [] = next := by rw [← h0]; exact List.set_getElem_self hi
  rw [hs] at hrun
  exact hrun
theorem graphNext_eq (f : PFunc) (hn : f.blocks.length ≤ 70) (ht : ∀ B ∈ f.blocks, B.term.to.length ≤ 70) : graph_Next f = some (nexts f) := by
  unfold graph_Next
  have hmk : mkl (len f.blocks) ([] : List Int) = some (List.replicate f.blocks.length []) := by
    have h1 : f.blocks.length < LIM := by simp only [LIM]; omega
    simp [mkl, len, h1]
  rw [hmk]
  simp only [Option.bind_some]
  have hrun := whl_run (body := fun (s : List (List Int) × Int) => graph_Next.bd19 f s.1 s.2) (r := nexts f) f.blocks.length FUEL
    (fun i => ((f.blocks.take i).map (fun (B : PBlock) => succs f.blocks.length B.term.to) ++ List.replicate (f.blocks.length - i) [], (i : Int))) (fun i hi => by
      have hlA : ((f.blocks.take i).map (fun (B : PBlock) => succs f.blocks.length B.term.to)).length = i := by simp; omega
      have hl : ((f.blocks.take i).map (fun (B : PBlock) => succs f.blocks.length B.term.to) ++ List.replicate (f.blocks.length - i) []).length = f.blocks.length := by rw [List.length_append, hlA]; simp; omega
      simp only [graph_Next.bd19, len_lt, hi, if_true, idx_lt hi, Option.bind_some]
      rw [graphNext_in _ _ i (by rw [hl]; exact hi) (by rw [List.getElem_append_right (by omega)]; simp) (ht _ (List.getElem_mem hi))]
      simp only [Option.bind_some, graph_Next.nx51, w64_at hi (show f.blocks.length ≤ maxLen by simp only [maxLen]; omega), hl]
      have hs : ((f.blocks.take i).map (fun (B : PBlock) => succs f.blocks.length B.term.to) ++ List.replicate (f.blocks.length - i) []).set i (succs f.blocks.length f.blocks[i].term.to) =
          (f.blocks.take (i + 1)).map (fun (B : PBlock) => succs f.blocks.length B.term.to) ++ List.replicate (f.blocks.length - (i + 1)) [] := by
        rw [List.set_append_right _ _ (by omega), hlA, Nat.sub_self]
        obtain ⟨d, hd⟩ : ∃ d, f.blocks.length - i = d + 1 := ⟨f.blocks.length - i - 1, by omega⟩
        rw [hd, show f.blocks.length - (i + 1) = d by omega, List.take_succ_eq_append_getElem hi]
        simp only [List.replicate_succ, List.map_append, List.map_cons, List.map_nil, List.set_cons_zero, List.append_assoc, List.cons_append, List.nil_append]
      rw [hs]) (by simp [graph_Next.bd19, len, nexts]) (lt_FUEL (by simp only [maxLen]; omega))
  simp only [List.take_zero, List.map_nil, List.nil_append, Nat.sub_zero] at hrun
  have h0 : (List.replicate f.blocks.length ([] : List Int), ((0 : Nat) : Int)) = (List.replicate f.blocks.length ([] : List Int), (0 : Int)) := rfl
  rw [h0] at hrun
  rw [hrun]
  rfl
end Go.Proofs.Ytoflleabpkgdpaa
