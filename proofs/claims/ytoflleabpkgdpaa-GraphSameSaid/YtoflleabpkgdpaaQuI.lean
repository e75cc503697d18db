/- Plain laws, part I: the order, what is reached. No conditions. -/
import Derived.Test.YtoflleabpkgdpaaQuH
import Derived.Test.YtoflleabpkgdpaaOp
import Derived.KernelRfl
set_option linter.unusedVariables false
set_option linter.unusedSimpArgs false
namespace Go.Proofs.Ytoflleabpkgdpaa
open Go Go.Proofs

theorem up05 : fettlelaw05_up = some true := by kernel_rfl
theorem walked (f : PFunc) (hn : f.blocks.length ≤ 70) (ht : ∀ B ∈ f.blocks, B.term.to.length ≤ 70) (hpos : 0 < f.blocks.length) :
    ∃ s o, graph_order_1.it FUEL 0 (List.replicate f.blocks.length false) (nexts f) [] = some (s, o) ∧ V (nexts f) (· = 0) (List.replicate f.blocks.length false) [] s o ∧ sn s 0 ∧ o.length ≤ 70 := by
  have hc : cnt (List.replicate f.blocks.length false) = f.blocks.length := by simp [cnt]
  obtain ⟨s, o, h1, h2, h3⟩ := walk_ok (nexts f) (by rw [nexts_length]; exact hn) (nexts_rows f ht) FUEL 0 (List.replicate f.blocks.length false) [] (by simp [nexts_length]) (by simp [hpos])
    (by rw [hc]; exact lt_FUEL (by simp only [maxLen]; omega)) (by rw [hc]; simpa using hn)
  have hcnt := h2.cnt
  rw [hc] at hcnt
  simp only [List.length_nil] at hcnt
  exact ⟨s, o, h1, h2, h3, by omega⟩
theorem order_eq (f : PFunc) (hn : f.blocks.length ≤ 70) (ht : ∀ B ∈ f.blocks, B.term.to.length ≤ 70) (hpos : 0 < f.blocks.length) {s : List Bool} {o : List Int}
    (h : graph_order_1.it FUEL 0 (List.replicate f.blocks.length false) (nexts f) [] = some (s, o)) (ho : o.length ≤ 70) : graph_order f = some (o.reverse, s) := by
  unfold graph_order
  rw [graphNext_eq f hn ht]
  simp only [Option.bind_some, len, nexts_length, mkl_rep false hn]
  rw [if_pos (by omega)]
  unfold graph_order_1
  rw [h]
  simp only [Option.bind_some, graph_order.jn21, reverse_eq o ho]
theorem order_nil (f : PFunc) (h0 : f.blocks.length = 0) : graph_order f = some ([], []) := by
  have hb : f.blocks = [] := List.eq_nil_of_length_eq_zero h0
  unfold graph_order
  rw [graphNext_eq f (by omega) (by rw [hb]; simp)]
  have hx : nexts f = [] := by simp [nexts, hb]
  simp only [Option.bind_some, hx, len, List.length_nil]
  have := mkl_rep false (n := 0) (by omega)
  simp only [List.replicate_zero] at this
  rw [this]
  simp only [Option.bind_some]
  rw [if_neg (by omega)]
  simp only [graph_order.jn21, reverse_eq [] (by simp)]
  rfl
end Go.Proofs.Ytoflleabpkgdpaa
