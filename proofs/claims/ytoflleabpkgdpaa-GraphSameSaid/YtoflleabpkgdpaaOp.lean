/- What the arguments of the laws read as: pure values, in range. No conditions. -/
import Derived.Test.YtoflleabpkgdpaaTb
import Derived.Test.YtoflleabpkgdpaaFwU
set_option linter.unusedVariables false
set_option linter.unusedSimpArgs false
namespace Go.Proofs.Ytoflleabpkgdpaa
open Go Go.Proofs
theorem opens_3 {w : World} : Opens Try.prog w 3 (kInt .i64) inI64 := opens_int Try.underlying3
theorem opens_22 {w : World} : Opens Try.prog w 22 (kSl 3 (kInt .i64)) (okL inI64) := opens_slice Try.underlying22 (by kernel_rfl) (by decide) opens_3
def wfPhi (x : PPhi) : Prop := inI64 x.dst ∧ (okL inI64) x.args
theorem opens_131 {w : World} : Opens Try.prog w 131 kPhi wfPhi := by
  intro H enc base spare held fuel cs x h
  obtain ⟨ys, n, rfl, rfl, hl, hxl, hf⟩ := DataW.trod_struct Try.underlying131 h
  have hn : cs.length = 2 := hl.trans (by kernel_rfl)
  obtain ⟨c0, c1, rfl⟩ := len2 hn
  have g0 : DataW.trod enc Try.prog w base spare held n 3 (([c0, c1].drop 0).take (Try.prog.cellsOf 3)) = ys[0]? := hf 0 _ rfl
  have s0 : Try.prog.cellsOf 3 = 1 := by kernel_rfl
  rw [s0] at g0
  have i0 : 0 < ys.length := by rw [hxl]; exact ltb rfl
  rw [List.getElem?_eq_getElem i0] at g0
  have g1 : DataW.trod enc Try.prog w base spare held n 22 (([c0, c1].drop 1).take (Try.prog.cellsOf 22)) = ys[1]? := hf 1 _ rfl
  have s1 : Try.prog.cellsOf 22 = 1 := by kernel_rfl
  rw [s1] at g1
  have i1 : 1 < ys.length := by rw [hxl]; exact ltb rfl
  rw [List.getElem?_eq_getElem i1] at g1
  obtain ⟨a0, r0, w0⟩ := opens_3 _ _ _ _ _ _ _ _ g0
  have e0 : [c0] = [.int .i64 a0] := r0
  simp only [List.cons.injEq, and_true] at e0
  subst e0
  obtain ⟨a1, r1, w1⟩ := opens_22 _ _ _ _ _ _ _ _ g1
  obtain ⟨v1, q1, t1⟩ := r1
  have e1 : [c1] = [v1] := q1
  simp only [List.cons.injEq, and_true] at e1
  subst e1
  exact ⟨⟨a0, a1⟩, ⟨_, rfl, t1⟩, ⟨w0, w1⟩⟩
theorem opens_82 {w : World} : Opens Try.prog w 82 (kSl 131 kPhi) (okL wfPhi) := opens_slice Try.underlying82 (by kernel_rfl) (by decide) opens_131
theorem opens_2 {w : World} : Opens Try.prog w 2 (kInt .i64) inI64 := opens_int Try.underlying2
def wfInstr (x : PInstr) : Prop := inI64 x.op ∧ inI64 x.dst ∧ (okL inI64) x.args ∧ inI64 x.imm ∧ inI64 x.fn
theorem opens_87 {w : World} : Opens Try.prog w 87 kInstr wfInstr := by
  intro H enc base spare held fuel cs x h
  obtain ⟨ys, n, rfl, rfl, hl, hxl, hf⟩ := DataW.trod_struct Try.underlying87 h
  have hn : cs.length = 5 := hl.trans (by kernel_rfl)
  obtain ⟨c0, c1, c2, c3, c4, rfl⟩ := len5 hn
  have g0 : DataW.trod enc Try.prog w base spare held n 3 (([c0, c1, c2, c3, c4].drop 0).take (Try.prog.cellsOf 3)) = ys[0]? := hf 0 _ rfl
  have s0 : Try.prog.cellsOf 3 = 1 := by kernel_rfl
  rw [s0] at g0
  have i0 : 0 < ys.length := by rw [hxl]; exact ltb rfl
  rw [List.getElem?_eq_getElem i0] at g0
  have g1 : DataW.trod enc Try.prog w base spare held n 3 (([c0, c1, c2, c3, c4].drop 1).take (Try.prog.cellsOf 3)) = ys[1]? := hf 1 _ rfl
  have s1 : Try.prog.cellsOf 3 = 1 := by kernel_rfl
  rw [s1] at g1
  have i1 : 1 < ys.length := by rw [hxl]; exact ltb rfl
  rw [List.getElem?_eq_getElem i1] at g1
  have g2 : DataW.trod enc Try.prog w base spare held n 22 (([c0, c1, c2, c3, c4].drop 2).take (Try.prog.cellsOf 22)) = ys[2]? := hf 2 _ rfl
  have s2 : Try.prog.cellsOf 22 = 1 := by kernel_rfl
  rw [s2] at g2
  have i2 : 2 < ys.length := by rw [hxl]; exact ltb rfl
  rw [List.getElem?_eq_getElem i2] at g2
  have g3 : DataW.trod enc Try.prog w base spare held n 2 (([c0, c1, c2, c3, c4].drop 3).take (Try.prog.cellsOf 2)) = ys[3]? := hf 3 _ rfl
  have s3 : Try.prog.cellsOf 2 = 1 := by kernel_rfl
  rw [s3] at g3
  have i3 : 3 < ys.length := by rw [hxl]; exact ltb rfl
  rw [List.getElem?_eq_getElem i3] at g3
  have g4 : DataW.trod enc Try.prog w base spare held n 3 (([c0, c1, c2, c3, c4].drop 4).take (Try.prog.cellsOf 3)) = ys[4]? := hf 4 _ rfl
  have s4 : Try.prog.cellsOf 3 = 1 := by kernel_rfl
  rw [s4] at g4
  have i4 : 4 < ys.length := by rw [hxl]; exact ltb rfl
  rw [List.getElem?_eq_getElem i4] at g4
  obtain ⟨a0, r0, w0⟩ := opens_3 _ _ _ _ _ _ _ _ g0
  have e0 : [c0] = [.int .i64 a0] := r0
  simp only [List.cons.injEq, and_true] at e0
  subst e0
  obtain ⟨a1, r1, w1⟩ := opens_3 _ _ _ _ _ _ _ _ g1
  have e1 : [c1] = [.int .i64 a1] := r1
  simp only [List.cons.injEq, and_true] at e1
  subst e1
  obtain ⟨a2, r2, w2⟩ := opens_22 _ _ _ _ _ _ _ _ g2
  obtain ⟨v2, q2, t2⟩ := r2
  have e2 : [c2] = [v2] := q2
  simp only [List.cons.injEq, and_true] at e2
  subst e2
  obtain ⟨a3, r3, w3⟩ := opens_2 _ _ _ _ _ _ _ _ g3
  have e3 : [c3] = [.int .i64 a3] := r3
  simp only [List.cons.injEq, and_true] at e3
  subst e3
  obtain ⟨a4, r4, w4⟩ := opens_3 _ _ _ _ _ _ _ _ g4
  have e4 : [c4] = [.int .i64 a4] := r4
  simp only [List.cons.injEq, and_true] at e4
  subst e4
  exact ⟨⟨a0, a1, a2, a3, a4⟩, ⟨_, rfl, t2⟩, ⟨w0, w1, w2, w3, w4⟩⟩
theorem opens_83 {w : World} : Opens Try.prog w 83 (kSl 87 kInstr) (okL wfInstr) := opens_slice Try.underlying83 (by kernel_rfl) (by decide) opens_87
def wfTerm (x : PTerm) : Prop := inI64 x.kind ∧ inI64 x.arg ∧ (okL inI64) x.to
theorem opens_81 {w : World} : Opens Try.prog w 81 kTerm wfTerm := by
  intro H enc base spare held fuel cs x h
  obtain ⟨ys, n, rfl, rfl, hl, hxl, hf⟩ := DataW.trod_struct Try.underlying81 h
  have hn : cs.length = 3 := hl.trans (by kernel_rfl)
  obtain ⟨c0, c1, c2, rfl⟩ := len3 hn
  have g0 : DataW.trod enc Try.prog w base spare held n 3 (([c0, c1, c2].drop 0).take (Try.prog.cellsOf 3)) = ys[0]? := hf 0 _ rfl
  have s0 : Try.prog.cellsOf 3 = 1 := by kernel_rfl
  rw [s0] at g0
  have i0 : 0 < ys.length := by rw [hxl]; exact ltb rfl
  rw [List.getElem?_eq_getElem i0] at g0
  have g1 : DataW.trod enc Try.prog w base spare held n 3 (([c0, c1, c2].drop 1).take (Try.prog.cellsOf 3)) = ys[1]? := hf 1 _ rfl
  have s1 : Try.prog.cellsOf 3 = 1 := by kernel_rfl
  rw [s1] at g1
  have i1 : 1 < ys.length := by rw [hxl]; exact ltb rfl
  rw [List.getElem?_eq_getElem i1] at g1
  have g2 : DataW.trod enc Try.prog w base spare held n 22 (([c0, c1, c2].drop 2).take (Try.prog.cellsOf 22)) = ys[2]? := hf 2 _ rfl
  have s2 : Try.prog.cellsOf 22 = 1 := by kernel_rfl
  rw [s2] at g2
  have i2 : 2 < ys.length := by rw [hxl]; exact ltb rfl
  rw [List.getElem?_eq_getElem i2] at g2
  obtain ⟨a0, r0, w0⟩ := opens_3 _ _ _ _ _ _ _ _ g0
  have e0 : [c0] = [.int .i64 a0] := r0
  simp only [List.cons.injEq, and_true] at e0
  subst e0
  obtain ⟨a1, r1, w1⟩ := opens_3 _ _ _ _ _ _ _ _ g1
  have e1 : [c1] = [.int .i64 a1] := r1
  simp only [List.cons.injEq, and_true] at e1
  subst e1
  obtain ⟨a2, r2, w2⟩ := opens_22 _ _ _ _ _ _ _ _ g2
  obtain ⟨v2, q2, t2⟩ := r2
  have e2 : [c2] = [v2] := q2
  simp only [List.cons.injEq, and_true] at e2
  subst e2
  exact ⟨⟨a0, a1, a2⟩, ⟨_, rfl, t2⟩, ⟨w0, w1, w2⟩⟩
def wfBlock (x : PBlock) : Prop := (okL wfPhi) x.phis ∧ (okL wfInstr) x.ins ∧ wfTerm x.term
theorem opens_85 {w : World} : Opens Try.prog w 85 kBlock wfBlock := by
  intro H enc base spare held fuel cs x h
  obtain ⟨ys, n, rfl, rfl, hl, hxl, hf⟩ := DataW.trod_struct Try.underlying85 h
  have hn : cs.length = 5 := hl.trans (by kernel_rfl)
  obtain ⟨c0, c1, c2, c3, c4, rfl⟩ := len5 hn
  have g0 : DataW.trod enc Try.prog w base spare held n 82 (([c0, c1, c2, c3, c4].drop 0).take (Try.prog.cellsOf 82)) = ys[0]? := hf 0 _ rfl
  have s0 : Try.prog.cellsOf 82 = 1 := by kernel_rfl
  rw [s0] at g0
  have i0 : 0 < ys.length := by rw [hxl]; exact ltb rfl
  rw [List.getElem?_eq_getElem i0] at g0
  have g1 : DataW.trod enc Try.prog w base spare held n 83 (([c0, c1, c2, c3, c4].drop 1).take (Try.prog.cellsOf 83)) = ys[1]? := hf 1 _ rfl
  have s1 : Try.prog.cellsOf 83 = 1 := by kernel_rfl
  rw [s1] at g1
  have i1 : 1 < ys.length := by rw [hxl]; exact ltb rfl
  rw [List.getElem?_eq_getElem i1] at g1
  have g2 : DataW.trod enc Try.prog w base spare held n 81 (([c0, c1, c2, c3, c4].drop 2).take (Try.prog.cellsOf 81)) = ys[2]? := hf 2 _ rfl
  have s2 : Try.prog.cellsOf 81 = 3 := by kernel_rfl
  rw [s2] at g2
  have i2 : 2 < ys.length := by rw [hxl]; exact ltb rfl
  rw [List.getElem?_eq_getElem i2] at g2
  obtain ⟨a0, r0, w0⟩ := opens_82 _ _ _ _ _ _ _ _ g0
  obtain ⟨v0, q0, t0⟩ := r0
  have e0 : [c0] = [v0] := q0
  simp only [List.cons.injEq, and_true] at e0
  subst e0
  obtain ⟨a1, r1, w1⟩ := opens_83 _ _ _ _ _ _ _ _ g1
  obtain ⟨v1, q1, t1⟩ := r1
  have e1 : [c1] = [v1] := q1
  simp only [List.cons.injEq, and_true] at e1
  subst e1
  obtain ⟨a2, r2, w2⟩ := opens_81 _ _ _ _ _ _ _ _ g2
  obtain ⟨u2_2, q2, t2_2⟩ := r2
  have e2 : [c2, c3, c4] = [.int .i64 a2.kind, .int .i64 a2.arg, u2_2] := q2
  simp only [List.cons.injEq, and_true] at e2
  obtain ⟨rfl, rfl, rfl⟩ := e2
  exact ⟨⟨a0, a1, a2⟩, ⟨_, _, _, rfl, t0, t1, t2_2⟩, ⟨w0, w1, w2⟩⟩
theorem opens_23 {w : World} : Opens Try.prog w 23 (kSl 85 kBlock) (okL wfBlock) := opens_slice Try.underlying23 (by kernel_rfl) (by decide) opens_85
def wfFunc (x : PFunc) : Prop := inI64 x.params ∧ inI64 x.result ∧ (okL inI64) x.regs ∧ (okL wfBlock) x.blocks
theorem opens_25 {w : World} : Opens Try.prog w 25 kFunc wfFunc := by
  intro H enc base spare held fuel cs x h
  obtain ⟨ys, n, rfl, rfl, hl, hxl, hf⟩ := DataW.trod_struct Try.underlying25 h
  have hn : cs.length = 4 := hl.trans (by kernel_rfl)
  obtain ⟨c0, c1, c2, c3, rfl⟩ := len4 hn
  have g0 : DataW.trod enc Try.prog w base spare held n 3 (([c0, c1, c2, c3].drop 0).take (Try.prog.cellsOf 3)) = ys[0]? := hf 0 _ rfl
  have s0 : Try.prog.cellsOf 3 = 1 := by kernel_rfl
  rw [s0] at g0
  have i0 : 0 < ys.length := by rw [hxl]; exact ltb rfl
  rw [List.getElem?_eq_getElem i0] at g0
  have g1 : DataW.trod enc Try.prog w base spare held n 3 (([c0, c1, c2, c3].drop 1).take (Try.prog.cellsOf 3)) = ys[1]? := hf 1 _ rfl
  have s1 : Try.prog.cellsOf 3 = 1 := by kernel_rfl
  rw [s1] at g1
  have i1 : 1 < ys.length := by rw [hxl]; exact ltb rfl
  rw [List.getElem?_eq_getElem i1] at g1
  have g2 : DataW.trod enc Try.prog w base spare held n 22 (([c0, c1, c2, c3].drop 2).take (Try.prog.cellsOf 22)) = ys[2]? := hf 2 _ rfl
  have s2 : Try.prog.cellsOf 22 = 1 := by kernel_rfl
  rw [s2] at g2
  have i2 : 2 < ys.length := by rw [hxl]; exact ltb rfl
  rw [List.getElem?_eq_getElem i2] at g2
  have g3 : DataW.trod enc Try.prog w base spare held n 23 (([c0, c1, c2, c3].drop 3).take (Try.prog.cellsOf 23)) = ys[3]? := hf 3 _ rfl
  have s3 : Try.prog.cellsOf 23 = 1 := by kernel_rfl
  rw [s3] at g3
  have i3 : 3 < ys.length := by rw [hxl]; exact ltb rfl
  rw [List.getElem?_eq_getElem i3] at g3
  obtain ⟨a0, r0, w0⟩ := opens_3 _ _ _ _ _ _ _ _ g0
  have e0 : [c0] = [.int .i64 a0] := r0
  simp only [List.cons.injEq, and_true] at e0
  subst e0
  obtain ⟨a1, r1, w1⟩ := opens_3 _ _ _ _ _ _ _ _ g1
  have e1 : [c1] = [.int .i64 a1] := r1
  simp only [List.cons.injEq, and_true] at e1
  subst e1
  obtain ⟨a2, r2, w2⟩ := opens_22 _ _ _ _ _ _ _ _ g2
  obtain ⟨v2, q2, t2⟩ := r2
  have e2 : [c2] = [v2] := q2
  simp only [List.cons.injEq, and_true] at e2
  subst e2
  obtain ⟨a3, r3, w3⟩ := opens_23 _ _ _ _ _ _ _ _ g3
  obtain ⟨v3, q3, t3⟩ := r3
  have e3 : [c3] = [v3] := q3
  simp only [List.cons.injEq, and_true] at e3
  subst e3
  exact ⟨⟨a0, a1, a2, a3⟩, ⟨_, _, rfl, t2, t3⟩, ⟨w0, w1, w2, w3⟩⟩
theorem opens_88 {w : World} : Opens Try.prog w 88 (kSl 25 kFunc) (okL wfFunc) := opens_slice Try.underlying88 (by kernel_rfl) (by decide) opens_25
def wfModule (x : PModule) : Prop := (okL wfFunc) x.funcs
theorem opens_90 {w : World} : Opens Try.prog w 90 kModule wfModule := by
  intro H enc base spare held fuel cs x h
  obtain ⟨ys, n, rfl, rfl, hl, hxl, hf⟩ := DataW.trod_struct Try.underlying90 h
  have hn : cs.length = 1 := hl.trans (by kernel_rfl)
  obtain ⟨c0, rfl⟩ := len1 hn
  have g0 : DataW.trod enc Try.prog w base spare held n 88 (([c0].drop 0).take (Try.prog.cellsOf 88)) = ys[0]? := hf 0 _ rfl
  have s0 : Try.prog.cellsOf 88 = 1 := by kernel_rfl
  rw [s0] at g0
  have i0 : 0 < ys.length := by rw [hxl]; exact ltb rfl
  rw [List.getElem?_eq_getElem i0] at g0
  obtain ⟨a0, r0, w0⟩ := opens_88 _ _ _ _ _ _ _ _ g0
  obtain ⟨v0, q0, t0⟩ := r0
  have e0 : [c0] = [v0] := q0
  simp only [List.cons.injEq, and_true] at e0
  subst e0
  exact ⟨⟨a0⟩, ⟨_, rfl, t0⟩, w0⟩
theorem opens_100 {w : World} : Opens Try.prog w 100 (kSl 2 (kInt .i64)) (okL inI64) := opens_slice Try.underlying100 (by kernel_rfl) (by decide) opens_2
end Go.Proofs.Ytoflleabpkgdpaa
