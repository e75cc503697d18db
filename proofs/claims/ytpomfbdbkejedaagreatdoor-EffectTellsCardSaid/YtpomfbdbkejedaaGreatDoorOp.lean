/- What the arguments of the laws read as: pure values, in range. No conditions. -/
import Derived.Test.YtpomfbdbkejedaaGreatDoorTb
import Derived.Test.YtpomfbdbkejedaaGreatDoorFwU
set_option linter.unusedVariables false
set_option linter.unusedSimpArgs false
namespace Go.Proofs.YtpomfbdbkejedaaGreatDoor
open Go Go.Proofs
theorem opens_3 {w : World} : Opens Tryz.prog w 3 (kInt .i64) inI64 := opens_int Tryz.underlying3
theorem opens_38 {w : World} : Opens Tryz.prog w 38 (kSl 3 (kInt .i64)) (okL inI64) := opens_slice Tryz.underlying38 (by kernel_rfl) (by decide) opens_3
def wfPhi (x : PPhi) : Prop := inI64 x.dst ∧ (okL inI64) x.args
theorem opens_52 {w : World} : Opens Tryz.prog w 52 kPhi wfPhi := by
  intro H enc base spare held fuel cs x h
  obtain ⟨ys, n, rfl, rfl, hl, hxl, hf⟩ := DataW.trod_struct Tryz.underlying52 h
  have hn : cs.length = 2 := hl.trans (by kernel_rfl)
  obtain ⟨c0, c1, rfl⟩ := len2 hn
  have g0 : DataW.trod enc Tryz.prog w base spare held n 3 (([c0, c1].drop 0).take (Tryz.prog.cellsOf 3)) = ys[0]? := hf 0 _ rfl
  have s0 : Tryz.prog.cellsOf 3 = 1 := by kernel_rfl
  rw [s0] at g0
  have i0 : 0 < ys.length := by rw [hxl]; exact ltb rfl
  rw [List.getElem?_eq_getElem i0] at g0
  have g1 : DataW.trod enc Tryz.prog w base spare held n 38 (([c0, c1].drop 1).take (Tryz.prog.cellsOf 38)) = ys[1]? := hf 1 _ rfl
  have s1 : Tryz.prog.cellsOf 38 = 1 := by kernel_rfl
  rw [s1] at g1
  have i1 : 1 < ys.length := by rw [hxl]; exact ltb rfl
  rw [List.getElem?_eq_getElem i1] at g1
  obtain ⟨a0, r0, w0⟩ := opens_3 _ _ _ _ _ _ _ _ g0
  have e0 : [c0] = [.int .i64 a0] := r0
  simp only [List.cons.injEq, and_true] at e0
  subst e0
  obtain ⟨a1, r1, w1⟩ := opens_38 _ _ _ _ _ _ _ _ g1
  obtain ⟨v1, q1, t1⟩ := r1
  have e1 : [c1] = [v1] := q1
  simp only [List.cons.injEq, and_true] at e1
  subst e1
  exact ⟨⟨a0, a1⟩, ⟨_, rfl, t1⟩, ⟨w0, w1⟩⟩
theorem opens_41 {w : World} : Opens Tryz.prog w 41 (kSl 52 kPhi) (okL wfPhi) := opens_slice Tryz.underlying41 (by kernel_rfl) (by decide) opens_52
theorem opens_2 {w : World} : Opens Tryz.prog w 2 (kInt .i64) inI64 := opens_int Tryz.underlying2
def wfInstr (x : PInstr) : Prop := inI64 x.op ∧ inI64 x.dst ∧ (okL inI64) x.args ∧ inI64 x.imm ∧ inI64 x.fn
theorem opens_50 {w : World} : Opens Tryz.prog w 50 kInstr wfInstr := by
  intro H enc base spare held fuel cs x h
  obtain ⟨ys, n, rfl, rfl, hl, hxl, hf⟩ := DataW.trod_struct Tryz.underlying50 h
  have hn : cs.length = 5 := hl.trans (by kernel_rfl)
  obtain ⟨c0, c1, c2, c3, c4, rfl⟩ := len5 hn
  have g0 : DataW.trod enc Tryz.prog w base spare held n 3 (([c0, c1, c2, c3, c4].drop 0).take (Tryz.prog.cellsOf 3)) = ys[0]? := hf 0 _ rfl
  have s0 : Tryz.prog.cellsOf 3 = 1 := by kernel_rfl
  rw [s0] at g0
  have i0 : 0 < ys.length := by rw [hxl]; exact ltb rfl
  rw [List.getElem?_eq_getElem i0] at g0
  have g1 : DataW.trod enc Tryz.prog w base spare held n 3 (([c0, c1, c2, c3, c4].drop 1).take (Tryz.prog.cellsOf 3)) = ys[1]? := hf 1 _ rfl
  have s1 : Tryz.prog.cellsOf 3 = 1 := by kernel_rfl
  rw [s1] at g1
  have i1 : 1 < ys.length := by rw [hxl]; exact ltb rfl
  rw [List.getElem?_eq_getElem i1] at g1
  have g2 : DataW.trod enc Tryz.prog w base spare held n 38 (([c0, c1, c2, c3, c4].drop 2).take (Tryz.prog.cellsOf 38)) = ys[2]? := hf 2 _ rfl
  have s2 : Tryz.prog.cellsOf 38 = 1 := by kernel_rfl
  rw [s2] at g2
  have i2 : 2 < ys.length := by rw [hxl]; exact ltb rfl
  rw [List.getElem?_eq_getElem i2] at g2
  have g3 : DataW.trod enc Tryz.prog w base spare held n 2 (([c0, c1, c2, c3, c4].drop 3).take (Tryz.prog.cellsOf 2)) = ys[3]? := hf 3 _ rfl
  have s3 : Tryz.prog.cellsOf 2 = 1 := by kernel_rfl
  rw [s3] at g3
  have i3 : 3 < ys.length := by rw [hxl]; exact ltb rfl
  rw [List.getElem?_eq_getElem i3] at g3
  have g4 : DataW.trod enc Tryz.prog w base spare held n 3 (([c0, c1, c2, c3, c4].drop 4).take (Tryz.prog.cellsOf 3)) = ys[4]? := hf 4 _ rfl
  have s4 : Tryz.prog.cellsOf 3 = 1 := by kernel_rfl
  rw [s4] at g4
  have i4 : 4 < ys.length := by rw [hxl]; exact ltb rfl
  rw [List.getElem?_eq_getElem i4] at g4
  obtain ⟨a0, r0, w0⟩ := opens_3 _ _ _ _ _ _ _ _ g0
  have e0 : [c0] = [.int .i64 a0] := r0
  simp only [List.cons.injEq, and_true] at e0
  subst e0
  obtain ⟨a1, r1, w1⟩ := opens_3 _ _ _ _ _ _ _ _ g1
  have e1 : [c1] = [.int .i64 a1] := r1
  simp only [List.cons.injEq, and_true] at e1
  subst e1
  obtain ⟨a2, r2, w2⟩ := opens_38 _ _ _ _ _ _ _ _ g2
  obtain ⟨v2, q2, t2⟩ := r2
  have e2 : [c2] = [v2] := q2
  simp only [List.cons.injEq, and_true] at e2
  subst e2
  obtain ⟨a3, r3, w3⟩ := opens_2 _ _ _ _ _ _ _ _ g3
  have e3 : [c3] = [.int .i64 a3] := r3
  simp only [List.cons.injEq, and_true] at e3
  subst e3
  obtain ⟨a4, r4, w4⟩ := opens_3 _ _ _ _ _ _ _ _ g4
  have e4 : [c4] = [.int .i64 a4] := r4
  simp only [List.cons.injEq, and_true] at e4
  subst e4
  exact ⟨⟨a0, a1, a2, a3, a4⟩, ⟨_, rfl, t2⟩, ⟨w0, w1, w2, w3, w4⟩⟩
theorem opens_42 {w : World} : Opens Tryz.prog w 42 (kSl 50 kInstr) (okL wfInstr) := opens_slice Tryz.underlying42 (by kernel_rfl) (by decide) opens_50
def wfTerm (x : PTerm) : Prop := inI64 x.kind ∧ inI64 x.arg ∧ (okL inI64) x.to
theorem opens_40 {w : World} : Opens Tryz.prog w 40 kTerm wfTerm := by
  intro H enc base spare held fuel cs x h
  obtain ⟨ys, n, rfl, rfl, hl, hxl, hf⟩ := DataW.trod_struct Tryz.underlying40 h
  have hn : cs.length = 3 := hl.trans (by kernel_rfl)
  obtain ⟨c0, c1, c2, rfl⟩ := len3 hn
  have g0 : DataW.trod enc Tryz.prog w base spare held n 3 (([c0, c1, c2].drop 0).take (Tryz.prog.cellsOf 3)) = ys[0]? := hf 0 _ rfl
  have s0 : Tryz.prog.cellsOf 3 = 1 := by kernel_rfl
  rw [s0] at g0
  have i0 : 0 < ys.length := by rw [hxl]; exact ltb rfl
  rw [List.getElem?_eq_getElem i0] at g0
  have g1 : DataW.trod enc Tryz.prog w base spare held n 3 (([c0, c1, c2].drop 1).take (Tryz.prog.cellsOf 3)) = ys[1]? := hf 1 _ rfl
  have s1 : Tryz.prog.cellsOf 3 = 1 := by kernel_rfl
  rw [s1] at g1
  have i1 : 1 < ys.length := by rw [hxl]; exact ltb rfl
  rw [List.getElem?_eq_getElem i1] at g1
  have g2 : DataW.trod enc Tryz.prog w base spare held n 38 (([c0, c1, c2].drop 2).take (Tryz.prog.cellsOf 38)) = ys[2]? := hf 2 _ rfl
  have s2 : Tryz.prog.cellsOf 38 = 1 := by kernel_rfl
  rw [s2] at g2
  have i2 : 2 < ys.length := by rw [hxl]; exact ltb rfl
  rw [List.getElem?_eq_getElem i2] at g2
  obtain ⟨a0, r0, w0⟩ := opens_3 _ _ _ _ _ _ _ _ g0
  have e0 : [c0] = [.int .i64 a0] := r0
  simp only [List.cons.injEq, and_true] at e0
  subst e0
  obtain ⟨a1, r1, w1⟩ := opens_3 _ _ _ _ _ _ _ _ g1
  have e1 : [c1] = [.int .i64 a1] := r1
  simp only [List.cons.injEq, and_true] at e1
  subst e1
  obtain ⟨a2, r2, w2⟩ := opens_38 _ _ _ _ _ _ _ _ g2
  obtain ⟨v2, q2, t2⟩ := r2
  have e2 : [c2] = [v2] := q2
  simp only [List.cons.injEq, and_true] at e2
  subst e2
  exact ⟨⟨a0, a1, a2⟩, ⟨_, rfl, t2⟩, ⟨w0, w1, w2⟩⟩
def wfBlock (x : PBlock) : Prop := (okL wfPhi) x.phis ∧ (okL wfInstr) x.ins ∧ wfTerm x.term
theorem opens_44 {w : World} : Opens Tryz.prog w 44 kBlock wfBlock := by
  intro H enc base spare held fuel cs x h
  obtain ⟨ys, n, rfl, rfl, hl, hxl, hf⟩ := DataW.trod_struct Tryz.underlying44 h
  have hn : cs.length = 5 := hl.trans (by kernel_rfl)
  obtain ⟨c0, c1, c2, c3, c4, rfl⟩ := len5 hn
  have g0 : DataW.trod enc Tryz.prog w base spare held n 41 (([c0, c1, c2, c3, c4].drop 0).take (Tryz.prog.cellsOf 41)) = ys[0]? := hf 0 _ rfl
  have s0 : Tryz.prog.cellsOf 41 = 1 := by kernel_rfl
  rw [s0] at g0
  have i0 : 0 < ys.length := by rw [hxl]; exact ltb rfl
  rw [List.getElem?_eq_getElem i0] at g0
  have g1 : DataW.trod enc Tryz.prog w base spare held n 42 (([c0, c1, c2, c3, c4].drop 1).take (Tryz.prog.cellsOf 42)) = ys[1]? := hf 1 _ rfl
  have s1 : Tryz.prog.cellsOf 42 = 1 := by kernel_rfl
  rw [s1] at g1
  have i1 : 1 < ys.length := by rw [hxl]; exact ltb rfl
  rw [List.getElem?_eq_getElem i1] at g1
  have g2 : DataW.trod enc Tryz.prog w base spare held n 40 (([c0, c1, c2, c3, c4].drop 2).take (Tryz.prog.cellsOf 40)) = ys[2]? := hf 2 _ rfl
  have s2 : Tryz.prog.cellsOf 40 = 3 := by kernel_rfl
  rw [s2] at g2
  have i2 : 2 < ys.length := by rw [hxl]; exact ltb rfl
  rw [List.getElem?_eq_getElem i2] at g2
  obtain ⟨a0, r0, w0⟩ := opens_41 _ _ _ _ _ _ _ _ g0
  obtain ⟨v0, q0, t0⟩ := r0
  have e0 : [c0] = [v0] := q0
  simp only [List.cons.injEq, and_true] at e0
  subst e0
  obtain ⟨a1, r1, w1⟩ := opens_42 _ _ _ _ _ _ _ _ g1
  obtain ⟨v1, q1, t1⟩ := r1
  have e1 : [c1] = [v1] := q1
  simp only [List.cons.injEq, and_true] at e1
  subst e1
  obtain ⟨a2, r2, w2⟩ := opens_40 _ _ _ _ _ _ _ _ g2
  obtain ⟨u2_2, q2, t2_2⟩ := r2
  have e2 : [c2, c3, c4] = [.int .i64 a2.kind, .int .i64 a2.arg, u2_2] := q2
  simp only [List.cons.injEq, and_true] at e2
  obtain ⟨rfl, rfl, rfl⟩ := e2
  exact ⟨⟨a0, a1, a2⟩, ⟨_, _, _, rfl, t0, t1, t2_2⟩, ⟨w0, w1, w2⟩⟩
theorem opens_45 {w : World} : Opens Tryz.prog w 45 (kSl 44 kBlock) (okL wfBlock) := opens_slice Tryz.underlying45 (by kernel_rfl) (by decide) opens_44
def wfFunc (x : PFunc) : Prop := inI64 x.params ∧ inI64 x.result ∧ (okL inI64) x.regs ∧ (okL wfBlock) x.blocks
theorem opens_47 {w : World} : Opens Tryz.prog w 47 kFunc wfFunc := by
  intro H enc base spare held fuel cs x h
  obtain ⟨ys, n, rfl, rfl, hl, hxl, hf⟩ := DataW.trod_struct Tryz.underlying47 h
  have hn : cs.length = 4 := hl.trans (by kernel_rfl)
  obtain ⟨c0, c1, c2, c3, rfl⟩ := len4 hn
  have g0 : DataW.trod enc Tryz.prog w base spare held n 3 (([c0, c1, c2, c3].drop 0).take (Tryz.prog.cellsOf 3)) = ys[0]? := hf 0 _ rfl
  have s0 : Tryz.prog.cellsOf 3 = 1 := by kernel_rfl
  rw [s0] at g0
  have i0 : 0 < ys.length := by rw [hxl]; exact ltb rfl
  rw [List.getElem?_eq_getElem i0] at g0
  have g1 : DataW.trod enc Tryz.prog w base spare held n 3 (([c0, c1, c2, c3].drop 1).take (Tryz.prog.cellsOf 3)) = ys[1]? := hf 1 _ rfl
  have s1 : Tryz.prog.cellsOf 3 = 1 := by kernel_rfl
  rw [s1] at g1
  have i1 : 1 < ys.length := by rw [hxl]; exact ltb rfl
  rw [List.getElem?_eq_getElem i1] at g1
  have g2 : DataW.trod enc Tryz.prog w base spare held n 38 (([c0, c1, c2, c3].drop 2).take (Tryz.prog.cellsOf 38)) = ys[2]? := hf 2 _ rfl
  have s2 : Tryz.prog.cellsOf 38 = 1 := by kernel_rfl
  rw [s2] at g2
  have i2 : 2 < ys.length := by rw [hxl]; exact ltb rfl
  rw [List.getElem?_eq_getElem i2] at g2
  have g3 : DataW.trod enc Tryz.prog w base spare held n 45 (([c0, c1, c2, c3].drop 3).take (Tryz.prog.cellsOf 45)) = ys[3]? := hf 3 _ rfl
  have s3 : Tryz.prog.cellsOf 45 = 1 := by kernel_rfl
  rw [s3] at g3
  have i3 : 3 < ys.length := by rw [hxl]; exact ltb rfl
  rw [List.getElem?_eq_getElem i3] at g3
  obtain ⟨a0, r0, w0⟩ := opens_3 _ _ _ _ _ _ _ _ g0
  have e0 : [c0] = [.int .i64 a0] := r0
  simp only [List.cons.injEq, and_true] at e0
  subst e0
  obtain ⟨a1, r1, w1⟩ := opens_3 _ _ _ _ _ _ _ _ g1
  have e1 : [c1] = [.int .i64 a1] := r1
  simp only [List.cons.injEq, and_true] at e1
  subst e1
  obtain ⟨a2, r2, w2⟩ := opens_38 _ _ _ _ _ _ _ _ g2
  obtain ⟨v2, q2, t2⟩ := r2
  have e2 : [c2] = [v2] := q2
  simp only [List.cons.injEq, and_true] at e2
  subst e2
  obtain ⟨a3, r3, w3⟩ := opens_45 _ _ _ _ _ _ _ _ g3
  obtain ⟨v3, q3, t3⟩ := r3
  have e3 : [c3] = [v3] := q3
  simp only [List.cons.injEq, and_true] at e3
  subst e3
  exact ⟨⟨a0, a1, a2, a3⟩, ⟨_, _, rfl, t2, t3⟩, ⟨w0, w1, w2, w3⟩⟩
theorem opens_22 {w : World} : Opens Tryz.prog w 22 (kSl 47 kFunc) (okL wfFunc) := opens_slice Tryz.underlying22 (by kernel_rfl) (by decide) opens_47
def wfModule (x : PModule) : Prop := (okL wfFunc) x.funcs
theorem opens_24 {w : World} : Opens Tryz.prog w 24 kModule wfModule := by
  intro H enc base spare held fuel cs x h
  obtain ⟨ys, n, rfl, rfl, hl, hxl, hf⟩ := DataW.trod_struct Tryz.underlying24 h
  have hn : cs.length = 1 := hl.trans (by kernel_rfl)
  obtain ⟨c0, rfl⟩ := len1 hn
  have g0 : DataW.trod enc Tryz.prog w base spare held n 22 (([c0].drop 0).take (Tryz.prog.cellsOf 22)) = ys[0]? := hf 0 _ rfl
  have s0 : Tryz.prog.cellsOf 22 = 1 := by kernel_rfl
  rw [s0] at g0
  have i0 : 0 < ys.length := by rw [hxl]; exact ltb rfl
  rw [List.getElem?_eq_getElem i0] at g0
  obtain ⟨a0, r0, w0⟩ := opens_22 _ _ _ _ _ _ _ _ g0
  obtain ⟨v0, q0, t0⟩ := r0
  have e0 : [c0] = [v0] := q0
  simp only [List.cons.injEq, and_true] at e0
  subst e0
  exact ⟨⟨a0⟩, ⟨_, rfl, t0⟩, w0⟩
end Go.Proofs.YtpomfbdbkejedaaGreatDoor
