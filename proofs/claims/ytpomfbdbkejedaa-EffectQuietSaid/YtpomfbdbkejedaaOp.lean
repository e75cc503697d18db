/- What the arguments of the laws read as: pure values, in range. No conditions. -/
import Derived.Test.YtpomfbdbkejedaaTb
import Derived.Test.YtpomfbdbkejedaaFwU
set_option linter.unusedVariables false
set_option linter.unusedSimpArgs false
namespace Go.Proofs.Ytpomfbdbkejedaa
open Go Go.Proofs
theorem opens_3 {w : World} : Opens Try.prog w 3 (kInt .i64) inI64 := opens_int Try.underlying3
theorem opens_36 {w : World} : Opens Try.prog w 36 (kSl 3 (kInt .i64)) (okL inI64) := opens_slice Try.underlying36 (by kernel_rfl) (by decide) opens_3
def wfPhi (x : PPhi) : Prop := inI64 x.dst ∧ (okL inI64) x.args
theorem opens_62 {w : World} : Opens Try.prog w 62 kPhi wfPhi := by
  intro H enc base spare held fuel cs x h
  obtain ⟨ys, n, rfl, rfl, hl, hxl, hf⟩ := DataW.trod_struct Try.underlying62 h
  have hn : cs.length = 2 := hl.trans (by kernel_rfl)
  obtain ⟨c0, c1, rfl⟩ := len2 hn
  have g0 : DataW.trod enc Try.prog w base spare held n 3 (([c0, c1].drop 0).take (Try.prog.cellsOf 3)) = ys[0]? := hf 0 _ rfl
  have s0 : Try.prog.cellsOf 3 = 1 := by kernel_rfl
  rw [s0] at g0
  have i0 : 0 < ys.length := by rw [hxl]; exact ltb rfl
  rw [List.getElem?_eq_getElem i0] at g0
  have g1 : DataW.trod enc Try.prog w base spare held n 36 (([c0, c1].drop 1).take (Try.prog.cellsOf 36)) = ys[1]? := hf 1 _ rfl
  have s1 : Try.prog.cellsOf 36 = 1 := by kernel_rfl
  rw [s1] at g1
  have i1 : 1 < ys.length := by rw [hxl]; exact ltb rfl
  rw [List.getElem?_eq_getElem i1] at g1
  obtain ⟨a0, r0, w0⟩ := opens_3 _ _ _ _ _ _ _ _ g0
  have e0 : [c0] = [.int .i64 a0] := r0
  simp only [List.cons.injEq, and_true] at e0
  subst e0
  obtain ⟨a1, r1, w1⟩ := opens_36 _ _ _ _ _ _ _ _ g1
  obtain ⟨v1, q1, t1⟩ := r1
  have e1 : [c1] = [v1] := q1
  simp only [List.cons.injEq, and_true] at e1
  subst e1
  exact ⟨⟨a0, a1⟩, ⟨_, rfl, t1⟩, ⟨w0, w1⟩⟩
theorem opens_40 {w : World} : Opens Try.prog w 40 (kSl 62 kPhi) (okL wfPhi) := opens_slice Try.underlying40 (by kernel_rfl) (by decide) opens_62
theorem opens_2 {w : World} : Opens Try.prog w 2 (kInt .i64) inI64 := opens_int Try.underlying2
def wfInstr (x : PInstr) : Prop := inI64 x.op ∧ inI64 x.dst ∧ (okL inI64) x.args ∧ inI64 x.imm ∧ inI64 x.fn
theorem opens_49 {w : World} : Opens Try.prog w 49 kInstr wfInstr := by
  intro H enc base spare held fuel cs x h
  obtain ⟨ys, n, rfl, rfl, hl, hxl, hf⟩ := DataW.trod_struct Try.underlying49 h
  have hn : cs.length = 5 := hl.trans (by kernel_rfl)
  obtain ⟨c0, c1, c2, c3, c4, rfl⟩ := len5 hn
  have g0 : DataW.trod enc Try.prog w base spare held n 3 (([c0, c1, c2, c3, c4].drop 0).take (Try.prog.cellsOf 3)) = ys[0]? := hf 0 _ rfl
  have s0 : Try.prog.cellsOf 3 = 1 := by kernel_rfl
  rw [s0] at g0
  have i0 : 0 < ys.length := by rw [hxl]; exact ltb rfl
  rw [List.getElem?_eq_getElem i0] at g0
  have g1 : DataW.trod enc Try.prog w base spare held n 3 (([c0, c1, c2, c3, c4].drop 1).take (Try.prog.cellsOf 3)) = ys[1]? := hf 1 _ rfl
  have s1 : Try.prog.cellsOf 3 = 1 := by kernel_rfl
  rw [s1] at g1
  have i1 : 1 < ys.length := by rw [hxl]; exact ltb rfl
  rw [List.getElem?_eq_getElem i1] at g1
  have g2 : DataW.trod enc Try.prog w base spare held n 36 (([c0, c1, c2, c3, c4].drop 2).take (Try.prog.cellsOf 36)) = ys[2]? := hf 2 _ rfl
  have s2 : Try.prog.cellsOf 36 = 1 := by kernel_rfl
  rw [s2] at g2
  have i2 : 2 < ys.length := by rw [hxl]; exact ltb rfl
  rw [List.getElem?_eq_getElem i2] at g2
  have g3 : DataW.trod enc Try.prog w base spare held n 2 (([c0, c1, c2, c3, c4].drop 3).take (Try.prog.cellsOf 2)) = ys[3]? := hf 3 _ rfl
  have s3 : Try.prog.cellsOf 2 = 1 := by kernel_rfl
  rw [s3] at g3
  have i3 : 3 < ys.length := by rw [hxl]; exact ltb rfl
  rw [List.getElem?_eq_getElem i3] at g3
  have g4 : DataW.trod enc Try.prog w base spare held n 3 (([c0, c1, c2, c3, c4].drop 4).take (Try.prog.cellsOf 3)) = ys[4]? := hf 4 _ rfl
  have s4 : Try.prog.cellsOf 3 = 1 := by kernel_rfl
  rw [s4] at g4
  have i4 : 4 < ys.length := by rw [hxl]; exact ltb rfl
  rw [List.getElem?_eq_getElem i4] at g4
  obtain ⟨a0, r0, w0⟩ := opens_3 _ _ _ _ _ _ _ _ g0
  have e0 : [c0] = [.int .i64 a0] := r0
  simp only [List.cons.injEq, and_true] at e0
  subst e0
  obtain ⟨a1, r1, w1⟩ := opens_3 _ _ _ _ _ _ _ _ g1
  have e1 : [c1] = [.int .i64 a1] := r1
  simp only [List.cons.injEq, and_true] at e1
  subst e1
  obtain ⟨a2, r2, w2⟩ := opens_36 _ _ _ _ _ _ _ _ g2
  obtain ⟨v2, q2, t2⟩ := r2
  have e2 : [c2] = [v2] := q2
  simp only [List.cons.injEq, and_true] at e2
  subst e2
  obtain ⟨a3, r3, w3⟩ := opens_2 _ _ _ _ _ _ _ _ g3
  have e3 : [c3] = [.int .i64 a3] := r3
  simp only [List.cons.injEq, and_true] at e3
  subst e3
  obtain ⟨a4, r4, w4⟩ := opens_3 _ _ _ _ _ _ _ _ g4
  have e4 : [c4] = [.int .i64 a4] := r4
  simp only [List.cons.injEq, and_true] at e4
  subst e4
  exact ⟨⟨a0, a1, a2, a3, a4⟩, ⟨_, rfl, t2⟩, ⟨w0, w1, w2, w3, w4⟩⟩
theorem opens_41 {w : World} : Opens Try.prog w 41 (kSl 49 kInstr) (okL wfInstr) := opens_slice Try.underlying41 (by kernel_rfl) (by decide) opens_49
def wfTerm (x : PTerm) : Prop := inI64 x.kind ∧ inI64 x.arg ∧ (okL inI64) x.to
theorem opens_43 {w : World} : Opens Try.prog w 43 kTerm wfTerm := by
  intro H enc base spare held fuel cs x h
  obtain ⟨ys, n, rfl, rfl, hl, hxl, hf⟩ := DataW.trod_struct Try.underlying43 h
  have hn : cs.length = 3 := hl.trans (by kernel_rfl)
  obtain ⟨c0, c1, c2, rfl⟩ := len3 hn
  have g0 : DataW.trod enc Try.prog w base spare held n 3 (([c0, c1, c2].drop 0).take (Try.prog.cellsOf 3)) = ys[0]? := hf 0 _ rfl
  have s0 : Try.prog.cellsOf 3 = 1 := by kernel_rfl
  rw [s0] at g0
  have i0 : 0 < ys.length := by rw [hxl]; exact ltb rfl
  rw [List.getElem?_eq_getElem i0] at g0
  have g1 : DataW.trod enc Try.prog w base spare held n 3 (([c0, c1, c2].drop 1).take (Try.prog.cellsOf 3)) = ys[1]? := hf 1 _ rfl
  have s1 : Try.prog.cellsOf 3 = 1 := by kernel_rfl
  rw [s1] at g1
  have i1 : 1 < ys.length := by rw [hxl]; exact ltb rfl
  rw [List.getElem?_eq_getElem i1] at g1
  have g2 : DataW.trod enc Try.prog w base spare held n 36 (([c0, c1, c2].drop 2).take (Try.prog.cellsOf 36)) = ys[2]? := hf 2 _ rfl
  have s2 : Try.prog.cellsOf 36 = 1 := by kernel_rfl
  rw [s2] at g2
  have i2 : 2 < ys.length := by rw [hxl]; exact ltb rfl
  rw [List.getElem?_eq_getElem i2] at g2
  obtain ⟨a0, r0, w0⟩ := opens_3 _ _ _ _ _ _ _ _ g0
  have e0 : [c0] = [.int .i64 a0] := r0
  simp only [List.cons.injEq, and_true] at e0
  subst e0
  obtain ⟨a1, r1, w1⟩ := opens_3 _ _ _ _ _ _ _ _ g1
  have e1 : [c1] = [.int .i64 a1] := r1
  simp only [List.cons.injEq, and_true] at e1
  subst e1
  obtain ⟨a2, r2, w2⟩ := opens_36 _ _ _ _ _ _ _ _ g2
  obtain ⟨v2, q2, t2⟩ := r2
  have e2 : [c2] = [v2] := q2
  simp only [List.cons.injEq, and_true] at e2
  subst e2
  exact ⟨⟨a0, a1, a2⟩, ⟨_, rfl, t2⟩, ⟨w0, w1, w2⟩⟩
def wfBlock (x : PBlock) : Prop := (okL wfPhi) x.phis ∧ (okL wfInstr) x.ins ∧ wfTerm x.term
theorem opens_45 {w : World} : Opens Try.prog w 45 kBlock wfBlock := by
  intro H enc base spare held fuel cs x h
  obtain ⟨ys, n, rfl, rfl, hl, hxl, hf⟩ := DataW.trod_struct Try.underlying45 h
  have hn : cs.length = 5 := hl.trans (by kernel_rfl)
  obtain ⟨c0, c1, c2, c3, c4, rfl⟩ := len5 hn
  have g0 : DataW.trod enc Try.prog w base spare held n 40 (([c0, c1, c2, c3, c4].drop 0).take (Try.prog.cellsOf 40)) = ys[0]? := hf 0 _ rfl
  have s0 : Try.prog.cellsOf 40 = 1 := by kernel_rfl
  rw [s0] at g0
  have i0 : 0 < ys.length := by rw [hxl]; exact ltb rfl
  rw [List.getElem?_eq_getElem i0] at g0
  have g1 : DataW.trod enc Try.prog w base spare held n 41 (([c0, c1, c2, c3, c4].drop 1).take (Try.prog.cellsOf 41)) = ys[1]? := hf 1 _ rfl
  have s1 : Try.prog.cellsOf 41 = 1 := by kernel_rfl
  rw [s1] at g1
  have i1 : 1 < ys.length := by rw [hxl]; exact ltb rfl
  rw [List.getElem?_eq_getElem i1] at g1
  have g2 : DataW.trod enc Try.prog w base spare held n 43 (([c0, c1, c2, c3, c4].drop 2).take (Try.prog.cellsOf 43)) = ys[2]? := hf 2 _ rfl
  have s2 : Try.prog.cellsOf 43 = 3 := by kernel_rfl
  rw [s2] at g2
  have i2 : 2 < ys.length := by rw [hxl]; exact ltb rfl
  rw [List.getElem?_eq_getElem i2] at g2
  obtain ⟨a0, r0, w0⟩ := opens_40 _ _ _ _ _ _ _ _ g0
  obtain ⟨v0, q0, t0⟩ := r0
  have e0 : [c0] = [v0] := q0
  simp only [List.cons.injEq, and_true] at e0
  subst e0
  obtain ⟨a1, r1, w1⟩ := opens_41 _ _ _ _ _ _ _ _ g1
  obtain ⟨v1, q1, t1⟩ := r1
  have e1 : [c1] = [v1] := q1
  simp only [List.cons.injEq, and_true] at e1
  subst e1
  obtain ⟨a2, r2, w2⟩ := opens_43 _ _ _ _ _ _ _ _ g2
  obtain ⟨u2_2, q2, t2_2⟩ := r2
  have e2 : [c2, c3, c4] = [.int .i64 a2.kind, .int .i64 a2.arg, u2_2] := q2
  simp only [List.cons.injEq, and_true] at e2
  obtain ⟨rfl, rfl, rfl⟩ := e2
  exact ⟨⟨a0, a1, a2⟩, ⟨_, _, _, rfl, t0, t1, t2_2⟩, ⟨w0, w1, w2⟩⟩
theorem opens_37 {w : World} : Opens Try.prog w 37 (kSl 45 kBlock) (okL wfBlock) := opens_slice Try.underlying37 (by kernel_rfl) (by decide) opens_45
def wfFunc (x : PFunc) : Prop := inI64 x.params ∧ inI64 x.result ∧ (okL inI64) x.regs ∧ (okL wfBlock) x.blocks
theorem opens_39 {w : World} : Opens Try.prog w 39 kFunc wfFunc := by
  intro H enc base spare held fuel cs x h
  obtain ⟨ys, n, rfl, rfl, hl, hxl, hf⟩ := DataW.trod_struct Try.underlying39 h
  have hn : cs.length = 4 := hl.trans (by kernel_rfl)
  obtain ⟨c0, c1, c2, c3, rfl⟩ := len4 hn
  have g0 : DataW.trod enc Try.prog w base spare held n 3 (([c0, c1, c2, c3].drop 0).take (Try.prog.cellsOf 3)) = ys[0]? := hf 0 _ rfl
  have s0 : Try.prog.cellsOf 3 = 1 := by kernel_rfl
  rw [s0] at g0
  have i0 : 0 < ys.length := by rw [hxl]; exact ltb rfl
  rw [List.getElem?_eq_getElem i0] at g0
  have g1 : DataW.trod enc Try.prog w base spare held n 3 (([c0, c1, c2, c3].drop 1).take (Try.prog.cellsOf 3)) = ys[1]? := hf 1 _ rfl
  have s1 : Try.prog.cellsOf 3 = 1 := by kernel_rfl
  rw [s1] at g1
  have i1 : 1 < ys.length := by rw [hxl]; exact ltb rfl
  rw [List.getElem?_eq_getElem i1] at g1
  have g2 : DataW.trod enc Try.prog w base spare held n 36 (([c0, c1, c2, c3].drop 2).take (Try.prog.cellsOf 36)) = ys[2]? := hf 2 _ rfl
  have s2 : Try.prog.cellsOf 36 = 1 := by kernel_rfl
  rw [s2] at g2
  have i2 : 2 < ys.length := by rw [hxl]; exact ltb rfl
  rw [List.getElem?_eq_getElem i2] at g2
  have g3 : DataW.trod enc Try.prog w base spare held n 37 (([c0, c1, c2, c3].drop 3).take (Try.prog.cellsOf 37)) = ys[3]? := hf 3 _ rfl
  have s3 : Try.prog.cellsOf 37 = 1 := by kernel_rfl
  rw [s3] at g3
  have i3 : 3 < ys.length := by rw [hxl]; exact ltb rfl
  rw [List.getElem?_eq_getElem i3] at g3
  obtain ⟨a0, r0, w0⟩ := opens_3 _ _ _ _ _ _ _ _ g0
  have e0 : [c0] = [.int .i64 a0] := r0
  simp only [List.cons.injEq, and_true] at e0
  subst e0
  obtain ⟨a1, r1, w1⟩ := opens_3 _ _ _ _ _ _ _ _ g1
  have e1 : [c1] = [.int .i64 a1] := r1
  simp only [List.cons.injEq, and_true] at e1
  subst e1
  obtain ⟨a2, r2, w2⟩ := opens_36 _ _ _ _ _ _ _ _ g2
  obtain ⟨v2, q2, t2⟩ := r2
  have e2 : [c2] = [v2] := q2
  simp only [List.cons.injEq, and_true] at e2
  subst e2
  obtain ⟨a3, r3, w3⟩ := opens_37 _ _ _ _ _ _ _ _ g3
  obtain ⟨v3, q3, t3⟩ := r3
  have e3 : [c3] = [v3] := q3
  simp only [List.cons.injEq, and_true] at e3
  subst e3
  exact ⟨⟨a0, a1, a2, a3⟩, ⟨_, _, rfl, t2, t3⟩, ⟨w0, w1, w2, w3⟩⟩
theorem opens_22 {w : World} : Opens Try.prog w 22 (kSl 39 kFunc) (okL wfFunc) := opens_slice Try.underlying22 (by kernel_rfl) (by decide) opens_39
def wfModule (x : PModule) : Prop := (okL wfFunc) x.funcs
theorem opens_24 {w : World} : Opens Try.prog w 24 kModule wfModule := by
  intro H enc base spare held fuel cs x h
  obtain ⟨ys, n, rfl, rfl, hl, hxl, hf⟩ := DataW.trod_struct Try.underlying24 h
  have hn : cs.length = 1 := hl.trans (by kernel_rfl)
  obtain ⟨c0, rfl⟩ := len1 hn
  have g0 : DataW.trod enc Try.prog w base spare held n 22 (([c0].drop 0).take (Try.prog.cellsOf 22)) = ys[0]? := hf 0 _ rfl
  have s0 : Try.prog.cellsOf 22 = 1 := by kernel_rfl
  rw [s0] at g0
  have i0 : 0 < ys.length := by rw [hxl]; exact ltb rfl
  rw [List.getElem?_eq_getElem i0] at g0
  obtain ⟨a0, r0, w0⟩ := opens_22 _ _ _ _ _ _ _ _ g0
  obtain ⟨v0, q0, t0⟩ := r0
  have e0 : [c0] = [v0] := q0
  simp only [List.cons.injEq, and_true] at e0
  subst e0
  exact ⟨⟨a0⟩, ⟨_, rfl, t0⟩, w0⟩
theorem opens_4 {w : World} : Opens Try.prog w 4 kBool (fun _ => True) := opens_bool Try.underlying4
def wfEffect (x : PEffect) : Prop := (fun _ => True) x.reads ∧ (fun _ => True) x.writes ∧ (fun _ => True) x.outs ∧ (fun _ => True) x.traps ∧ (fun _ => True) x.turns
theorem opens_34 {w : World} : Opens Try.prog w 34 kEffect wfEffect := by
  intro H enc base spare held fuel cs x h
  obtain ⟨ys, n, rfl, rfl, hl, hxl, hf⟩ := DataW.trod_struct Try.underlying34 h
  have hn : cs.length = 5 := hl.trans (by kernel_rfl)
  obtain ⟨c0, c1, c2, c3, c4, rfl⟩ := len5 hn
  have g0 : DataW.trod enc Try.prog w base spare held n 4 (([c0, c1, c2, c3, c4].drop 0).take (Try.prog.cellsOf 4)) = ys[0]? := hf 0 _ rfl
  have s0 : Try.prog.cellsOf 4 = 1 := by kernel_rfl
  rw [s0] at g0
  have i0 : 0 < ys.length := by rw [hxl]; exact ltb rfl
  rw [List.getElem?_eq_getElem i0] at g0
  have g1 : DataW.trod enc Try.prog w base spare held n 4 (([c0, c1, c2, c3, c4].drop 1).take (Try.prog.cellsOf 4)) = ys[1]? := hf 1 _ rfl
  have s1 : Try.prog.cellsOf 4 = 1 := by kernel_rfl
  rw [s1] at g1
  have i1 : 1 < ys.length := by rw [hxl]; exact ltb rfl
  rw [List.getElem?_eq_getElem i1] at g1
  have g2 : DataW.trod enc Try.prog w base spare held n 4 (([c0, c1, c2, c3, c4].drop 2).take (Try.prog.cellsOf 4)) = ys[2]? := hf 2 _ rfl
  have s2 : Try.prog.cellsOf 4 = 1 := by kernel_rfl
  rw [s2] at g2
  have i2 : 2 < ys.length := by rw [hxl]; exact ltb rfl
  rw [List.getElem?_eq_getElem i2] at g2
  have g3 : DataW.trod enc Try.prog w base spare held n 4 (([c0, c1, c2, c3, c4].drop 3).take (Try.prog.cellsOf 4)) = ys[3]? := hf 3 _ rfl
  have s3 : Try.prog.cellsOf 4 = 1 := by kernel_rfl
  rw [s3] at g3
  have i3 : 3 < ys.length := by rw [hxl]; exact ltb rfl
  rw [List.getElem?_eq_getElem i3] at g3
  have g4 : DataW.trod enc Try.prog w base spare held n 4 (([c0, c1, c2, c3, c4].drop 4).take (Try.prog.cellsOf 4)) = ys[4]? := hf 4 _ rfl
  have s4 : Try.prog.cellsOf 4 = 1 := by kernel_rfl
  rw [s4] at g4
  have i4 : 4 < ys.length := by rw [hxl]; exact ltb rfl
  rw [List.getElem?_eq_getElem i4] at g4
  obtain ⟨a0, r0, w0⟩ := opens_4 _ _ _ _ _ _ _ _ g0
  have e0 : [c0] = [.bool a0] := r0
  simp only [List.cons.injEq, and_true] at e0
  subst e0
  obtain ⟨a1, r1, w1⟩ := opens_4 _ _ _ _ _ _ _ _ g1
  have e1 : [c1] = [.bool a1] := r1
  simp only [List.cons.injEq, and_true] at e1
  subst e1
  obtain ⟨a2, r2, w2⟩ := opens_4 _ _ _ _ _ _ _ _ g2
  have e2 : [c2] = [.bool a2] := r2
  simp only [List.cons.injEq, and_true] at e2
  subst e2
  obtain ⟨a3, r3, w3⟩ := opens_4 _ _ _ _ _ _ _ _ g3
  have e3 : [c3] = [.bool a3] := r3
  simp only [List.cons.injEq, and_true] at e3
  subst e3
  obtain ⟨a4, r4, w4⟩ := opens_4 _ _ _ _ _ _ _ _ g4
  have e4 : [c4] = [.bool a4] := r4
  simp only [List.cons.injEq, and_true] at e4
  subst e4
  exact ⟨⟨a0, a1, a2, a3, a4⟩, rfl, ⟨w0, w1, w2, w3, w4⟩⟩
theorem opens_28 {w : World} : Opens Try.prog w 28 (kSl 34 kEffect) (okL wfEffect) := opens_slice Try.underlying28 (by kernel_rfl) (by decide) opens_34
theorem opens_54 {w : World} : Opens Try.prog w 54 (kSl 2 (kInt .i64)) (okL inI64) := opens_slice Try.underlying54 (by kernel_rfl) (by decide) opens_2
end Go.Proofs.Ytpomfbdbkejedaa
