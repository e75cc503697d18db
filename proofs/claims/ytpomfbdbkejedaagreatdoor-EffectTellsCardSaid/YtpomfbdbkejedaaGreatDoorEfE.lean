/- By hand: effects held against each other. No conditions. -/
import Derived.Test.YtpomfbdbkejedaaGreatDoorTb
import Derived.Laws.StructEq
set_option linter.unusedVariables false
set_option linter.unusedSimpArgs false
namespace Go.Proofs.YtpomfbdbkejedaaGreatDoor
open Go Go.Proofs

def effV (a : PEffect) : Array Value := #[.bool a.reads, .bool a.writes, .bool a.outs, .bool a.traps, .bool a.turns]
theorem eqIn37 (a b : PEffect) (w : World) : (Op.equalIn 10000 37 (.agg (effV a)) (.agg (effV b))).run Tryz.prog w = .ok (decide (a = b)) w := by
  have hS : Tryz.prog.underlying 37 = some (.struct (Tryz.prog.fieldsOf 37)) := by kernel_rfl
  have hp : Tryz.prog.stoodInHeld 37 = false := by kernel_rfl
  have u4 := Tryz.underlying4
  have a4 := Tryz.isAgg4
  have z4 := Tryz.sizeOf4
  simp only [effV]
  rw [show (10000 : Nat) = 9999 + 1 from rfl, run_equalIn_agg w 9999 37 _ _ hS hp]
  simp only [Program.fieldsOf, Tryz.underlying37]
  go_simp
  cases a; cases b
  simp only [PEffect.mk.injEq]
  rename_i a1 a2 a3 a4 a5 b1 b2 b3 b4 b5
  by_cases h1 : a1 = b1 <;> by_cases h2 : a2 = b2 <;> by_cases h3 : a3 = b3 <;> by_cases h4 : a4 = b4 <;> by_cases h5 : a5 = b5 <;> simp [h1, h2, h3, h4, h5]
section
variable {n : Nat} {E : World} {H : FP} {L : List FP} {e : Env} {x y : Operand} {t' : TypeId}
theorem eqS37 {a b : PEffect} (hx : evO e x = .agg (effV a)) (hy : evO e y = .agg (effV b)) : RV ⟨Tryz.prog, n, E⟩ H L e (.binOp .eql 37 x y t') (.bool (decide (a = b))) := by
  intro w _ _ _ _ _ _
  have hm : Tryz.prog.eqGuardType Tryz.prog.depth 37 = false := by kernel_rfl
  have hg := run_eqGuard_agg (P := Tryz.prog) w .eql 37 x y (effV a) (effV b) hm
  have hb := run_eql_struct (P := Tryz.prog) w 37 (effV a) (effV b)
  rw [eqIn37] at hb
  simp [execOp, hx, hy, hg, hb]
theorem neS37 {a b : PEffect} (hx : evO e x = .agg (effV a)) (hy : evO e y = .agg (effV b)) : RV ⟨Tryz.prog, n, E⟩ H L e (.binOp .neq 37 x y t') (.bool (decide (¬ a = b))) := by
  intro w _ _ _ _ _ _
  have hm : Tryz.prog.eqGuardType Tryz.prog.depth 37 = false := by kernel_rfl
  have hg := run_eqGuard_agg (P := Tryz.prog) w .neq 37 x y (effV a) (effV b) hm
  have hb := run_neq_struct (P := Tryz.prog) w 37 (effV a) (effV b)
  rw [eqIn37] at hb
  simp [execOp, hx, hy, hg, hb]
end
end Go.Proofs.YtpomfbdbkejedaaGreatDoor
