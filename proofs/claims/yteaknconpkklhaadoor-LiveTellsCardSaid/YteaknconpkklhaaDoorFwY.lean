/- The framework, part Y: pointers as data, objects in a region, readings that leave open which blocks are fresh. No conditions. -/
import Derived.Test.YteaknconpkklhaaDoorFwX
import Derived.LaidEqlPtr
set_option linter.unusedVariables false
set_option linter.unusedSimpArgs false
namespace Go.Proofs.YteaknconpkklhaaDoor
open Go
/-! ### Pointers as data: a block's number -/
def ptrV (p : Option Nat) : Value := .pointer (p.map fun b => ⟨b, 0, none⟩)
/-! ### Objects in a row of blocks -/
/-- A block of a chunk, and what becomes of the chunk when its cells are written. -/
def Spl (F F' : FP) (b T : Nat) (cs cs' : List Value) : Prop := ∃ A B, F = A ++ (b, Obj.cells cs.toArray T (0, 0)) :: B ∧ F' = A ++ (b, Obj.cells cs'.toArray T (0, 0)) :: B
theorem Spl.cells {F F' : FP} {b T : Nat} {cs cs' : List Value} (h : Spl F F' b T cs cs') : CellsIn F b 0 cs := by
  obtain ⟨A, B, rfl, _⟩ := h
  exact ⟨_, _, _, List.mem_append_right _ (List.mem_cons_self ..), fun j v hv => by rw [Nat.zero_add, List.getElem?_toArray]; exact hv⟩
theorem Spl.left {F F' : FP} {b T : Nat} {cs cs' : List Value} (h : Spl F F' b T cs cs') (G : FP) : Spl (G ++ F) (G ++ F') b T cs cs' := by
  obtain ⟨A, B, rfl, rfl⟩ := h
  exact ⟨G ++ A, B, by simp, by simp⟩
theorem Spl.right {F F' : FP} {b T : Nat} {cs cs' : List Value} (h : Spl F F' b T cs cs') (G : FP) : Spl (F ++ G) (F' ++ G) b T cs cs' := by
  obtain ⟨A, B, rfl, rfl⟩ := h
  exact ⟨A, B ++ G, by simp, by simp⟩
section
variable {X : Cx} {Q : Post} {H : FP} {L : List FP} {e : Env} {ops : Array Oper} {rest : List Oper} {ty d : Nat} {pos : String} {af : Array Edge} {t t' E : TypeId} {x y : Operand} {v : Value}
/-- Pointers held against nil. -/
theorem rv_eqlPN {p : Option Nat} (ht : X.P.underlying t = some (.pointer (X.P.pointee t))) (hx : evO e x = ptrV p) (hy : evO e y = ptrV none) : RV X H L e (.binOp .eql t x y t') (.bool (decide (p = none))) :=
  fun w _ _ _ _ _ _ => by
    have := run_eql_pointer_nil (P := X.P) w t (p.map fun b => ⟨b, 0, none⟩) ht
    cases p <;> simp_all [execOp, eqGuard, ptrV]
end
/-! ### Readings that leave open which blocks are fresh -/
abbrev D (α : Type) : Type := (α → Prop) → Prop
end Go.Proofs.YteaknconpkklhaaDoor
