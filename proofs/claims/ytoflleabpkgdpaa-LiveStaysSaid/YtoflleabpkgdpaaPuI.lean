/- Plain laws, part I: the order, what is reached, what is small; the law GraphNext. No conditions. -/
import Derived.Test.YtoflleabpkgdpaaPuH
import Derived.Test.YtoflleabpkgdpaaOp
import Derived.KernelRfl
set_option linter.unusedVariables false
set_option linter.unusedSimpArgs false
namespace Go.Proofs.Ytoflleabpkgdpaa
open Go Go.Proofs

theorem up05 : fettlelaw05_up = some true := by kernel_rfl

theorem nexts_rows (f : PFunc) (ht : ∀ B ∈ f.blocks, B.term.to.length ≤ 70) : ∀ (v : Nat) (row : List Int), (nexts f)[v]? = some row → row.length ≤ 70 ∧ ∀ x ∈ row, 0 ≤ x ∧ x < ((nexts f).length : Int) := by
  intro v row h
  have hlt : v < f.blocks.length := by have := (List.getElem?_eq_some_iff.1 h).1; rwa [nexts_length] at this
  have hr : (nexts f)[v]? = some (succs f.blocks.length (f.blocks[v]).term.to) := by simp [nexts, hlt]
  rw [hr] at h; cases h
  refine ⟨?_, by rw [nexts_length]; exact succs_in⟩
  have h1 := foldl_addS_length f.blocks.length (f.blocks[v]).term.to []
  have h2 := ht _ (List.getElem_mem hlt)
  simp only [List.length_nil, Nat.zero_add] at h1
  exact Nat.le_trans h1 h2
theorem mkl_rep {α : Type} {n : Nat} (z : α) (hn : n ≤ 70) : mkl (n : Int) z = some (List.replicate n z) := by
  have h1 : n < LIM := by simp only [LIM]; omega
  simp [mkl, h1]
theorem walked (f : PFunc) (hn : f.blocks.length ≤ 70) (ht : ∀ B ∈ f.blocks, B.term.to.length ≤ 70) (hpos : 0 < f.blocks.length) :
    ∃ s o, graph_order_1.it FUEL 0 (List.replicate f.blocks.length false) (nexts f) [] = some (s, o) ∧ V (nexts f) (· = 0) (List.replicate f.blocks.length false) [] s o ∧ sn s 0 ∧ o.length ≤ 70 := by
  have hc : cnt (List.replicate f.blocks.length false) = f.blocks.length := by simp [cnt]
  obtain ⟨s, o, h1, h2, h3⟩ := walk_ok (nexts f) (by rw [nexts_length]; exact hn) (nexts_rows f ht) FUEL 0 (List.replicate f.blocks.length false) [] (by simp [nexts_length]) (by simp [hpos])
    (by rw [hc]; exact lt_FUEL (by simp only [maxLen]; omega)) (by rw [hc]; simpa using hn)
  have hcnt := h2.cnt
  rw [hc] at hcnt
  simp only [List.length_nil] at hcnt
  exact ⟨s, o, h1, h2, h3, by omega⟩
theorem order_eq (f : PFunc) (hn : f.blocks.length ≤ 70) (ht : ∀ B ∈ f.blocks, B.term.to.length ≤ 70) (hpos : 0 < f.blocks.length) {s : List Bool} {o : List Int}
    (h : graph_order_1.it FUEL 0 (List.replicate f.blocks.length false) (nexts f) [] = some (s, o)) (ho : o.length ≤ 70) : graph_order f = some (o.reverse, s) := by
  unfold graph_order
  rw [graphNext_eq f hn ht]
  simp only [Option.bind_some, len, nexts_length, mkl_rep false hn]
  rw [if_pos (by omega)]
  unfold graph_order_1
  rw [h]
  simp only [Option.bind_some, graph_order.jn21, reverse_eq o ho]
theorem order_nil (f : PFunc) (h0 : f.blocks.length = 0) : graph_order f = some ([], []) := by
  have hb : f.blocks = [] := List.eq_nil_of_length_eq_zero h0
  unfold graph_order
  rw [graphNext_eq f (by omega) (by rw [hb]; simp)]
  have hx : nexts f = [] := by simp [nexts, hb]
  simp only [Option.bind_some, hx, len, List.length_nil]
  have := mkl_rep false (n := 0) (by omega)
  simp only [List.replicate_zero] at this
  rw [this]
  simp only [Option.bind_some]
  rw [if_neg (by omega)]
  simp only [graph_order.jn21, reverse_eq [] (by simp)]
  rfl
theorem refOrder_eq (f : PFunc) (hn : f.blocks.length ≤ 70) (ht : ∀ B ∈ f.blocks, B.term.to.length ≤ 70) (hpos : 0 < f.blocks.length) {s : List Bool} {o : List Int}
    (h : graph_order_1.it FUEL 0 (List.replicate f.blocks.length false) (nexts f) [] = some (s, o)) (ho : o.length ≤ 70) : fettleref05_Order f = some o.reverse := by
  unfold fettleref05_Order
  rw [if_neg (by simp only [len]; omega)]
  simp only [len, mkl_rep false hn, Option.bind_some]
  have hd : fettleref05_done f 0 (List.replicate f.blocks.length false) [] = some (o, s) := by
    unfold fettleref05_done
    rw [done_eq f hn ht FUEL 0 _ _ (by simp), h]; rfl
  rw [hd]
  simp only [Option.bind_some]
  have hrun := whl_run (body := fun (q : List Int × Int) => fettleref05_Order.bd33 (o, s) q.1 q.2) (r := o.reverse) o.length FUEL
    (fun i => (o.reverse.take i, (o.length : Int) - (i + 1 : Nat))) (fun i hi => by
      have hj : (o.length : Int) - ((i + 1 : Nat) : Int) = ((o.length - 1 - i : Nat) : Int) := by omega
      have hi' : i < o.reverse.length := by simpa using hi
      have e1 : w64 (((o.length - 1 - i : Nat) : Int) - 1) = (o.length : Int) - ((i + 1 + 1 : Nat) : Int) := by rw [w64_id ⟨by omega, by omega⟩]; omega
      have e2 : (o.reverse.take i).length + 1 < LIM := by simp only [LIM, List.length_take]; omega
      simp only [fettleref05_Order.bd33, hj]
      rw [if_pos (by omega)]
      simp only [idx_lt (show o.length - 1 - i < o.length by omega), Option.bind_some, e1, cat, List.length_singleton, if_pos e2]
      rw [List.take_succ_eq_append_getElem hi', List.getElem_reverse]) (by
      simp only [fettleref05_Order.bd33]
      rw [if_neg (by omega), List.take_of_length_le (by simp)]) (lt_FUEL (by simp only [maxLen]; omega))
  simp only [List.take_zero] at hrun
  have h0 : w64 ((o.length : Int) - 1) = (o.length : Int) - ((0 + 1 : Nat) : Int) := by rw [w64_id ⟨by omega, by omega⟩]; omega
  rw [h0, hrun]
  rfl
/-- What From marks is what the walk has seen. -/
theorem from_eq (f : PFunc) (hn : f.blocks.length ≤ 70) (ht : ∀ B ∈ f.blocks, B.term.to.length ≤ 70) (hpos : 0 < f.blocks.length) {s : List Bool} {o : List Int}
    (hV : V (nexts f) (· = 0) (List.replicate f.blocks.length false) [] s o) (hs0 : sn s 0) : fettleref05_From f 0 (-1) = some s := by
  unfold fettleref05_From
  simp only [len, mkl_rep false hn, Option.bind_some, List.length_replicate]
  rw [if_neg (by omega)]
  have hi : idx (List.replicate f.blocks.length false) 0 = some false := by
    have := idx_lt (xs := List.replicate f.blocks.length false) (i := 0) (by simpa using hpos)
    simpa using this
  rw [hi]
  simp only [Option.bind_some, Int.toNat_zero]
  have hl0 : ((List.replicate f.blocks.length false).set 0 true).length = f.blocks.length := by simp
  have h00 : sn ((List.replicate f.blocks.length false).set 0 true) 0 := by unfold sn; rw [get_set _ _ _ (by simpa using hpos), if_pos rfl]
  obtain ⟨z, h1, h2, h3⟩ := from_all f hn ht _ hl0 h00
  rw [h1]
  simp only [Option.bind_some, fettleref05_From.nx49, Option.some.injEq]
  have hfalse : ∀ v, v < f.blocks.length → (List.replicate f.blocks.length false)[v]? = some false := fun v hv => by simp [hv]
  have hsl : s.length = f.blocks.length := by rw [hV.len]; simp
  have hzl : z.length = f.blocks.length := h2.len.trans hl0
  have hclS : Closed (nexts f) (sn s) := fun v w row g1 g2 g3 => hV.clos v w row g1 (hfalse v (by rw [← hsl]; exact (List.getElem?_eq_some_iff.1 g1).1)) g2 g3
  have hin0 : ∀ v, sn ((List.replicate f.blocks.length false).set 0 true) v → v = 0 := fun v hv => by
    unfold sn at hv
    rw [get_set _ _ _ (by simpa using hpos)] at hv
    split at hv
    · rename_i he; exact he.symm
    · rw [List.getElem?_replicate] at hv; split at hv <;> simp at hv
  have hzs : ∀ v, sn z v → sn s v := h2.sound _ hclS (fun v hv => by rw [hin0 v hv]; exact hs0)
  have hz0 : sn z 0 := h2.mono 0 h00
  have hsz : ∀ v, sn s v → sn z v := fun v hv => by
    obtain ⟨r, rfl, hr⟩ := hV.reach v hv (hfalse v (by rw [← hsl]; exact (List.getElem?_eq_some_iff.1 hv).1))
    clear hv
    induction hr with
    | refl => exact hz0
    | step _ g5 g6 ih => exact h3 _ _ _ ih g5 g6
  apply List.ext_getElem?
  intro v
  rcases Nat.lt_or_ge v f.blocks.length with hv | hv
  · have a1 := hzs v
    have a2 := hsz v
    unfold sn at a1 a2
    rw [List.getElem?_eq_getElem (by omega)] at a1 a2 ⊢
    rw [List.getElem?_eq_getElem (by omega)] at a1 a2 ⊢
    cases h4 : z[v] <;> cases h5 : s[v] <;> simp_all
  · rw [List.getElem?_eq_none (by omega), List.getElem?_eq_none (by omega)]
end Go.Proofs.Ytoflleabpkgdpaa
