/- The framework, part Y: pointers as data, objects in a region, readings that leave open which blocks are fresh. No conditions. -/
import Derived.Test.YteaknconpkklhaaFwX
import Derived.LaidEqlPtr
set_option linter.unusedVariables false
set_option linter.unusedSimpArgs false
namespace Go.Proofs.Yteaknconpkklhaa
open Go
/-! ### Pointers as data: a block's number -/
/-! ### Objects in a row of blocks -/
/-- A block of a chunk, and what becomes of the chunk when its cells are written. -/
def Spl (F F' : FP) (b T : Nat) (cs cs' : List Value) : Prop := ∃ A B, F = A ++ (b, Obj.cells cs.toArray T (0, 0)) :: B ∧ F' = A ++ (b, Obj.cells cs'.toArray T (0, 0)) :: B
theorem Spl.cells {F F' : FP} {b T : Nat} {cs cs' : List Value} (h : Spl F F' b T cs cs') : CellsIn F b 0 cs := by
  obtain ⟨A, B, rfl, _⟩ := h
  exact ⟨_, _, _, List.mem_append_right _ (List.mem_cons_self ..), fun j v hv => by rw [Nat.zero_add, List.getElem?_toArray]; exact hv⟩
theorem Spl.left {F F' : FP} {b T : Nat} {cs cs' : List Value} (h : Spl F F' b T cs cs') (G : FP) : Spl (G ++ F) (G ++ F') b T cs cs' := by
  obtain ⟨A, B, rfl, rfl⟩ := h
  exact ⟨G ++ A, B, by simp, by simp⟩
theorem Spl.right {F F' : FP} {b T : Nat} {cs cs' : List Value} (h : Spl F F' b T cs cs') (G : FP) : Spl (F ++ G) (F' ++ G) b T cs cs' := by
  obtain ⟨A, B, rfl, rfl⟩ := h
  exact ⟨A, B ++ G, by simp, by simp⟩
section
variable {X : Cx} {Q : Post} {H : FP} {L : List FP} {e : Env} {ops : Array Oper} {rest : List Oper} {ty d : Nat} {pos : String} {af : Array Edge} {t t' E : TypeId} {x y : Operand} {v : Value}
end
/-! ### Readings that leave open which blocks are fresh -/
abbrev D (α : Type) : Type := (α → Prop) → Prop
end Go.Proofs.Yteaknconpkklhaa
