/- What the arguments of the laws read as: pure values, in range. No conditions. -/
import Derived.Test.YtoflleabpkgdpaaTb
import Derived.Test.YtoflleabpkgdpaaFwU
set_option linter.unusedVariables false
set_option linter.unusedSimpArgs false
namespace Go.Proofs.Ytoflleabpkgdpaa
open Go Go.Proofs
theorem opens_3 {w : World} : Opens Try.prog w 3 (kInt .i64) inI64 := opens_int Try.underlying3
def wfDeed (x : PDeed) : Prop := inI64 x.what ∧ inI64 x.v ∧ inI64 x.n
theorem opens_41 {w : World} : Opens Try.prog w 41 kDeed wfDeed := by
  intro H enc base spare held fuel cs x h
  obtain ⟨ys, n, rfl, rfl, hl, hxl, hf⟩ := DataW.trod_struct Try.underlying41 h
  have hn : cs.length = 3 := hl.trans (by kernel_rfl)
  obtain ⟨c0, c1, c2, rfl⟩ := len3 hn
  have g0 : DataW.trod enc Try.prog w base spare held n 3 (([c0, c1, c2].drop 0).take (Try.prog.cellsOf 3)) = ys[0]? := hf 0 _ rfl
  have s0 : Try.prog.cellsOf 3 = 1 := by kernel_rfl
  rw [s0] at g0
  have i0 : 0 < ys.length := by rw [hxl]; exact ltb rfl
  rw [List.getElem?_eq_getElem i0] at g0
  have g1 : DataW.trod enc Try.prog w base spare held n 3 (([c0, c1, c2].drop 1).take (Try.prog.cellsOf 3)) = ys[1]? := hf 1 _ rfl
  have s1 : Try.prog.cellsOf 3 = 1 := by kernel_rfl
  rw [s1] at g1
  have i1 : 1 < ys.length := by rw [hxl]; exact ltb rfl
  rw [List.getElem?_eq_getElem i1] at g1
  have g2 : DataW.trod enc Try.prog w base spare held n 3 (([c0, c1, c2].drop 2).take (Try.prog.cellsOf 3)) = ys[2]? := hf 2 _ rfl
  have s2 : Try.prog.cellsOf 3 = 1 := by kernel_rfl
  rw [s2] at g2
  have i2 : 2 < ys.length := by rw [hxl]; exact ltb rfl
  rw [List.getElem?_eq_getElem i2] at g2
  obtain ⟨a0, r0, w0⟩ := opens_3 _ _ _ _ _ _ _ _ g0
  have e0 : [c0] = [.int .i64 a0] := r0
  simp only [List.cons.injEq, and_true] at e0
  subst e0
  obtain ⟨a1, r1, w1⟩ := opens_3 _ _ _ _ _ _ _ _ g1
  have e1 : [c1] = [.int .i64 a1] := r1
  simp only [List.cons.injEq, and_true] at e1
  subst e1
  obtain ⟨a2, r2, w2⟩ := opens_3 _ _ _ _ _ _ _ _ g2
  have e2 : [c2] = [.int .i64 a2] := r2
  simp only [List.cons.injEq, and_true] at e2
  subst e2
  exact ⟨⟨a0, a1, a2⟩, rfl, ⟨w0, w1, w2⟩⟩
theorem opens_36 {w : World} : Opens Try.prog w 36 (kSl 41 kDeed) (okL wfDeed) := opens_slice Try.underlying36 (by kernel_rfl) (by decide) opens_41
end Go.Proofs.Ytoflleabpkgdpaa
