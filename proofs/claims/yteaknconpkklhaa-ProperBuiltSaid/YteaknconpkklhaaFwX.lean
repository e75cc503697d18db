/- The framework, part X: rows of 64 numbers inside variables; bits, shifts, numbers turned to other kinds. No conditions. -/
import Derived.Test.YteaknconpkklhaaFwW
import Derived.ChangeKeysEq
set_option linter.unusedVariables false
set_option linter.unusedSimpArgs false
namespace Go.Proofs.Yteaknconpkklhaa
open Go
/-! ### 64 numbers -/
def A64 : Type := { l : List Int // l.length = 64 }
instance : DecidableEq A64 := inferInstanceAs (DecidableEq { l : List Int // l.length = 64 })
def A64.at_ (a : A64) (i : Nat) : Int := a.1.getD i 0
def A64.zero : A64 := ⟨List.replicate 64 0, by decide⟩
def A64.get (a : A64) (i : Int) : Option Int := idx a.1 i
def A64.put (a : A64) (i x : Int) : A64 := ⟨a.1.set i.toNat x, by rw [List.length_set]; exact a.2⟩
section
variable {X : Cx} {Q : Post} {H : FP} {L : List FP} {e : Env} {ops : Array Oper} {rest : List Oper} {ty : TypeId} {pos : String} {af : Array Edge} {t t' E : TypeId} {x y : Operand} {z : Value} {by_ : Nat}
/-! ### Bits, shifts, kinds -/
variable {m n : Int}
theorem TC.empty {c : Code} {F : FP} (h : TC X c Q H (F :: [] :: L) e) : TC X c Q H (F :: L) e := TC.perm (by simp) h
end
end Go.Proofs.Yteaknconpkklhaa
