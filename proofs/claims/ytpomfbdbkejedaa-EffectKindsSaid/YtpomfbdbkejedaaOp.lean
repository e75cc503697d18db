/- What the arguments of the laws read as: pure values, in range. No conditions. -/
import Derived.Test.YtpomfbdbkejedaaTb
import Derived.Test.YtpomfbdbkejedaaFwU
set_option linter.unusedVariables false
set_option linter.unusedSimpArgs false
namespace Go.Proofs.Ytpomfbdbkejedaa
open Go Go.Proofs
theorem opens_4 {w : World} : Opens Try.prog w 4 kBool (fun _ => True) := opens_bool Try.underlying4
def wfEffect (x : PEffect) : Prop := (fun _ => True) x.reads ∧ (fun _ => True) x.writes ∧ (fun _ => True) x.outs ∧ (fun _ => True) x.traps ∧ (fun _ => True) x.turns
theorem opens_34 {w : World} : Opens Try.prog w 34 kEffect wfEffect := by
  intro H enc base spare held fuel cs x h
  obtain ⟨ys, n, rfl, rfl, hl, hxl, hf⟩ := DataW.trod_struct Try.underlying34 h
  have hn : cs.length = 5 := hl.trans (by kernel_rfl)
  obtain ⟨c0, c1, c2, c3, c4, rfl⟩ := len5 hn
  have g0 : DataW.trod enc Try.prog w base spare held n 4 (([c0, c1, c2, c3, c4].drop 0).take (Try.prog.cellsOf 4)) = ys[0]? := hf 0 _ rfl
  have s0 : Try.prog.cellsOf 4 = 1 := by kernel_rfl
  rw [s0] at g0
  have i0 : 0 < ys.length := by rw [hxl]; exact ltb rfl
  rw [List.getElem?_eq_getElem i0] at g0
  have g1 : DataW.trod enc Try.prog w base spare held n 4 (([c0, c1, c2, c3, c4].drop 1).take (Try.prog.cellsOf 4)) = ys[1]? := hf 1 _ rfl
  have s1 : Try.prog.cellsOf 4 = 1 := by kernel_rfl
  rw [s1] at g1
  have i1 : 1 < ys.length := by rw [hxl]; exact ltb rfl
  rw [List.getElem?_eq_getElem i1] at g1
  have g2 : DataW.trod enc Try.prog w base spare held n 4 (([c0, c1, c2, c3, c4].drop 2).take (Try.prog.cellsOf 4)) = ys[2]? := hf 2 _ rfl
  have s2 : Try.prog.cellsOf 4 = 1 := by kernel_rfl
  rw [s2] at g2
  have i2 : 2 < ys.length := by rw [hxl]; exact ltb rfl
  rw [List.getElem?_eq_getElem i2] at g2
  have g3 : DataW.trod enc Try.prog w base spare held n 4 (([c0, c1, c2, c3, c4].drop 3).take (Try.prog.cellsOf 4)) = ys[3]? := hf 3 _ rfl
  have s3 : Try.prog.cellsOf 4 = 1 := by kernel_rfl
  rw [s3] at g3
  have i3 : 3 < ys.length := by rw [hxl]; exact ltb rfl
  rw [List.getElem?_eq_getElem i3] at g3
  have g4 : DataW.trod enc Try.prog w base spare held n 4 (([c0, c1, c2, c3, c4].drop 4).take (Try.prog.cellsOf 4)) = ys[4]? := hf 4 _ rfl
  have s4 : Try.prog.cellsOf 4 = 1 := by kernel_rfl
  rw [s4] at g4
  have i4 : 4 < ys.length := by rw [hxl]; exact ltb rfl
  rw [List.getElem?_eq_getElem i4] at g4
  obtain ⟨a0, r0, w0⟩ := opens_4 _ _ _ _ _ _ _ _ g0
  have e0 : [c0] = [.bool a0] := r0
  simp only [List.cons.injEq, and_true] at e0
  subst e0
  obtain ⟨a1, r1, w1⟩ := opens_4 _ _ _ _ _ _ _ _ g1
  have e1 : [c1] = [.bool a1] := r1
  simp only [List.cons.injEq, and_true] at e1
  subst e1
  obtain ⟨a2, r2, w2⟩ := opens_4 _ _ _ _ _ _ _ _ g2
  have e2 : [c2] = [.bool a2] := r2
  simp only [List.cons.injEq, and_true] at e2
  subst e2
  obtain ⟨a3, r3, w3⟩ := opens_4 _ _ _ _ _ _ _ _ g3
  have e3 : [c3] = [.bool a3] := r3
  simp only [List.cons.injEq, and_true] at e3
  subst e3
  obtain ⟨a4, r4, w4⟩ := opens_4 _ _ _ _ _ _ _ _ g4
  have e4 : [c4] = [.bool a4] := r4
  simp only [List.cons.injEq, and_true] at e4
  subst e4
  exact ⟨⟨a0, a1, a2, a3, a4⟩, rfl, ⟨w0, w1, w2, w3, w4⟩⟩
theorem opens_28 {w : World} : Opens Try.prog w 28 (kSl 34 kEffect) (okL wfEffect) := opens_slice Try.underlying28 (by kernel_rfl) (by decide) opens_34
theorem opens_3 {w : World} : Opens Try.prog w 3 (kInt .i64) inI64 := opens_int Try.underlying3
theorem opens_36 {w : World} : Opens Try.prog w 36 (kSl 3 (kInt .i64)) (okL inI64) := opens_slice Try.underlying36 (by kernel_rfl) (by decide) opens_3
theorem opens_2 {w : World} : Opens Try.prog w 2 (kInt .i64) inI64 := opens_int Try.underlying2
def wfInstr (x : PInstr) : Prop := inI64 x.op ∧ inI64 x.dst ∧ (okL inI64) x.args ∧ inI64 x.imm ∧ inI64 x.fn
theorem opens_49 {w : World} : Opens Try.prog w 49 kInstr wfInstr := by
  intro H enc base spare held fuel cs x h
  obtain ⟨ys, n, rfl, rfl, hl, hxl, hf⟩ := DataW.trod_struct Try.underlying49 h
  have hn : cs.length = 5 := hl.trans (by kernel_rfl)
  obtain ⟨c0, c1, c2, c3, c4, rfl⟩ := len5 hn
  have g0 : DataW.trod enc Try.prog w base spare held n 3 (([c0, c1, c2, c3, c4].drop 0).take (Try.prog.cellsOf 3)) = ys[0]? := hf 0 _ rfl
  have s0 : Try.prog.cellsOf 3 = 1 := by kernel_rfl
  rw [s0] at g0
  have i0 : 0 < ys.length := by rw [hxl]; exact ltb rfl
  rw [List.getElem?_eq_getElem i0] at g0
  have g1 : DataW.trod enc Try.prog w base spare held n 3 (([c0, c1, c2, c3, c4].drop 1).take (Try.prog.cellsOf 3)) = ys[1]? := hf 1 _ rfl
  have s1 : Try.prog.cellsOf 3 = 1 := by kernel_rfl
  rw [s1] at g1
  have i1 : 1 < ys.length := by rw [hxl]; exact ltb rfl
  rw [List.getElem?_eq_getElem i1] at g1
  have g2 : DataW.trod enc Try.prog w base spare held n 36 (([c0, c1, c2, c3, c4].drop 2).take (Try.prog.cellsOf 36)) = ys[2]? := hf 2 _ rfl
  have s2 : Try.prog.cellsOf 36 = 1 := by kernel_rfl
  rw [s2] at g2
  have i2 : 2 < ys.length := by rw [hxl]; exact ltb rfl
  rw [List.getElem?_eq_getElem i2] at g2
  have g3 : DataW.trod enc Try.prog w base spare held n 2 (([c0, c1, c2, c3, c4].drop 3).take (Try.prog.cellsOf 2)) = ys[3]? := hf 3 _ rfl
  have s3 : Try.prog.cellsOf 2 = 1 := by kernel_rfl
  rw [s3] at g3
  have i3 : 3 < ys.length := by rw [hxl]; exact ltb rfl
  rw [List.getElem?_eq_getElem i3] at g3
  have g4 : DataW.trod enc Try.prog w base spare held n 3 (([c0, c1, c2, c3, c4].drop 4).take (Try.prog.cellsOf 3)) = ys[4]? := hf 4 _ rfl
  have s4 : Try.prog.cellsOf 3 = 1 := by kernel_rfl
  rw [s4] at g4
  have i4 : 4 < ys.length := by rw [hxl]; exact ltb rfl
  rw [List.getElem?_eq_getElem i4] at g4
  obtain ⟨a0, r0, w0⟩ := opens_3 _ _ _ _ _ _ _ _ g0
  have e0 : [c0] = [.int .i64 a0] := r0
  simp only [List.cons.injEq, and_true] at e0
  subst e0
  obtain ⟨a1, r1, w1⟩ := opens_3 _ _ _ _ _ _ _ _ g1
  have e1 : [c1] = [.int .i64 a1] := r1
  simp only [List.cons.injEq, and_true] at e1
  subst e1
  obtain ⟨a2, r2, w2⟩ := opens_36 _ _ _ _ _ _ _ _ g2
  obtain ⟨v2, q2, t2⟩ := r2
  have e2 : [c2] = [v2] := q2
  simp only [List.cons.injEq, and_true] at e2
  subst e2
  obtain ⟨a3, r3, w3⟩ := opens_2 _ _ _ _ _ _ _ _ g3
  have e3 : [c3] = [.int .i64 a3] := r3
  simp only [List.cons.injEq, and_true] at e3
  subst e3
  obtain ⟨a4, r4, w4⟩ := opens_3 _ _ _ _ _ _ _ _ g4
  have e4 : [c4] = [.int .i64 a4] := r4
  simp only [List.cons.injEq, and_true] at e4
  subst e4
  exact ⟨⟨a0, a1, a2, a3, a4⟩, ⟨_, rfl, t2⟩, ⟨w0, w1, w2, w3, w4⟩⟩
end Go.Proofs.Ytpomfbdbkejedaa
