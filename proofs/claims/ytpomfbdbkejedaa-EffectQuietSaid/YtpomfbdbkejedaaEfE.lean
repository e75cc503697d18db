/- By hand: effects held against each other. No conditions. -/
import Derived.Test.YtpomfbdbkejedaaTb
import Derived.Laws.StructEq
set_option linter.unusedVariables false
set_option linter.unusedSimpArgs false
namespace Go.Proofs.Ytpomfbdbkejedaa
open Go Go.Proofs

def effV (a : PEffect) : Array Value := #[.bool a.reads, .bool a.writes, .bool a.outs, .bool a.traps, .bool a.turns]
theorem eqIn34 (a b : PEffect) (w : World) : (Op.equalIn 10000 34 (.agg (effV a)) (.agg (effV b))).run Try.prog w = .ok (decide (a = b)) w := by
  have hS : Try.prog.underlying 34 = some (.struct (Try.prog.fieldsOf 34)) := by kernel_rfl
  have hp : Try.prog.stoodInHeld 34 = false := by kernel_rfl
  have u4 := Try.underlying4
  have a4 := Try.isAgg4
  have z4 := Try.sizeOf4
  simp only [effV]
  rw [show (10000 : Nat) = 9999 + 1 from rfl, run_equalIn_agg w 9999 34 _ _ hS hp]
  simp only [Program.fieldsOf, Try.underlying34]
  go_simp
  cases a; cases b
  simp only [PEffect.mk.injEq]
  rename_i a1 a2 a3 a4 a5 b1 b2 b3 b4 b5
  by_cases h1 : a1 = b1 <;> by_cases h2 : a2 = b2 <;> by_cases h3 : a3 = b3 <;> by_cases h4 : a4 = b4 <;> by_cases h5 : a5 = b5 <;> simp [h1, h2, h3, h4, h5]
section
variable {n : Nat} {E : World} {H : FP} {L : List FP} {e : Env} {x y : Operand} {t' : TypeId}
theorem eqS34 {a b : PEffect} (hx : evO e x = .agg (effV a)) (hy : evO e y = .agg (effV b)) : RV ⟨Try.prog, n, E⟩ H L e (.binOp .eql 34 x y t') (.bool (decide (a = b))) := by
  intro w _ _ _ _ _ _
  have hm : Try.prog.eqGuardType Try.prog.depth 34 = false := by kernel_rfl
  have hg := run_eqGuard_agg (P := Try.prog) w .eql 34 x y (effV a) (effV b) hm
  have hb := run_eql_struct (P := Try.prog) w 34 (effV a) (effV b)
  rw [eqIn34] at hb
  simp [execOp, hx, hy, hg, hb]
theorem neS34 {a b : PEffect} (hx : evO e x = .agg (effV a)) (hy : evO e y = .agg (effV b)) : RV ⟨Try.prog, n, E⟩ H L e (.binOp .neq 34 x y t') (.bool (decide (¬ a = b))) := by
  intro w _ _ _ _ _ _
  have hm : Try.prog.eqGuardType Try.prog.depth 34 = false := by kernel_rfl
  have hg := run_eqGuard_agg (P := Try.prog) w .neq 34 x y (effV a) (effV b) hm
  have hb := run_neq_struct (P := Try.prog) w 34 (effV a) (effV b)
  rw [eqIn34] at hb
  simp [execOp, hx, hy, hg, hb]
end
end Go.Proofs.Ytpomfbdbkejedaa
