/- The walk through the program's functions: each one's pure reading, and that a call does what it says. No conditions. -/
import Derived.Test.YtoflleabpkgdpaaS4
set_option linter.unusedVariables false
set_option linter.unusedSimpArgs false
namespace Go.Proofs.Ytoflleabpkgdpaa
open Go Go.Proofs

/-! ### (*fettle/run.runner).end -/
abbrev run_runner_end.R (b1 : Nat) (a2 : PRunner) (v3 : Value) (v5 : Value) (v18 : Value) (r : List PFrame × Bool × Int) (v : Value) (A : List FP) : Prop := ∃ (w1 : Value) (G1 : FP), .tuple #[] = v ∧ A = [bx b1 141 (([v3, v5, w1, .bool r.2.1, .int .i64 a2.out.trap, .int .i64 r.2.2, v18, .int .i64 a2.out.steps] : List Value) ++ (arrC a2.out.memory ++ ([] : List Value))), G1] ∧ SlO 153 kFrame r.1 w1 G1
def run_runner_end.jn21 (a2 : PRunner) (x35 : List PFrame) : Option (List PFrame × Bool × Int) :=
  some (x35, a2.out.done, a2.out.value)
def run_runner_end.jn49 (a2 : PRunner) (a8 : PFrame) (x65 : Int) (x66 : List PFrame) : Option (List PFrame × Bool × Int) :=
  if (len x66) = 0 then
    some (x66, true, x65)
  else
    if a8.dst ≥ 0 then
      (idx x66 (w64 ((len x66) - 1))).bind fun x4071 =>
      (idx x4071.regs a8.dst).bind fun x6071 =>
      some ((x66.set ((w64 ((len x66) - 1))).toNat (⟨x4071.f, (x4071.regs.set (a8.dst).toNat x65), x4071.block, x4071.at_, x4071.dst⟩ : PFrame)), a2.out.done, a2.out.value)
    else
      some (x66, a2.out.done, a2.out.value)
def run_runner_end.jn40 (a2 : PRunner) (a8 : PFrame) (a9 : Int) (x65 : Int) : Option (List PFrame × Bool × Int) :=
  (upto (a2.frames.set (a9).toNat a8) (w64 ((len (a2.frames.set (a9).toNat a8)) - 1))).bind fun x11276 =>
  run_runner_end.jn49 a2 a8 x65 x11276
def run_runner_end (a2 : PRunner) (a8 : PFrame) (a9 : Int) (a21 : PTerm) : Option (List PFrame × Bool × Int) :=
  if a21.kind = 1 then
    (idx a21.to 0).bind fun x25 =>
    (run_runner_to a2 a8 a9 x25).bind fun x31 =>
    some (x31, a2.out.done, a2.out.value)
  else
    if a21.kind = 2 then
      (idx a8.regs a21.arg).bind fun x39 =>
      if ¬ x39 = 0 then
        (idx a21.to 0).bind fun x45 =>
        (run_runner_to a2 a8 a9 x45).bind fun x51 =>
        run_runner_end.jn21 a2 x51
      else
        (idx a21.to 1).bind fun x55 =>
        (run_runner_to a2 a8 a9 x55).bind fun x61 =>
        run_runner_end.jn21 a2 x61
    else
      if a21.arg ≥ 0 then
        (idx a8.regs a21.arg).bind fun x12876 =>
        run_runner_end.jn40 a2 a8 a9 x12876
      else
        run_runner_end.jn40 a2 a8 a9 0
set_option maxHeartbeats 4000000 in
theorem run_runner_end_ok {E : World} {H : FP} {w : World} {a2 : PRunner} {a8 : PFrame} {a9 : Int} {a21 : PTerm} {b1 : Nat} {v3 : Value} {v5 : Value} {v7 : Value} {b10 : Nat} {F11 : FP} {v14 : Value} {F15 : FP} {v18 : Value} {v22 : Value} {r : List PFrame × Bool × Int} (h4 : SlI kFunc H a2.m.funcs v3) (h6 : SlI (kSl 22 (kSl 3 (kInt .i64))) H a2.ahead v5) (h12 : Hole 153 kFrame a2.frames (a9).toNat v7 b10 [.int .i64 a8.f, v14, .int .i64 a8.block, .int .i64 a8.at_, .int .i64 a8.dst] F11) (h13 : 0 ≤ a9) (h16 : SlO 2 (kInt .i64) a8.regs v14 F15) (h19 : SlI (kInt .i64) H a2.out.out v18) (h23 : SlI (kInt .i64) H a21.to v22) (hp : run_runner_end a2 a8 a9 a21 = some r) (hst : St E H [bx b1 141 (([v3, v5, v7, .bool a2.out.done, .int .i64 a2.out.trap, .int .i64 a2.out.value, v18, .int .i64 a2.out.steps] : List Value) ++ (arrC a2.out.memory ++ ([] : List Value))), F11, F15] w) :
    Fn Try.prog 91 #[.pointer (some ⟨b1, 0, none⟩), .pointer (some ⟨b10, (a9).toNat * 5, none⟩), .agg #[.int .i64 a21.kind, .int .i64 a21.arg, v22]] w fun v w' => ∃ A, run_runner_end.R b1 a2 v3 v5 v18 r v A ∧ St E H A w' := by
  refine Fn.body (fn := Try.f91) (args := [.pointer (some ⟨b1, 0, none⟩), .pointer (some ⟨b10, (a9).toNat * 5, none⟩), .agg #[.int .i64 a21.kind, .int .i64 a21.arg, v22]]) E H [bx b1 141 (([v3, v5, v7, .bool a2.out.done, .int .i64 a2.out.trap, .int .i64 a2.out.value, v18, .int .i64 a2.out.steps] : List Value) ++ (arrC a2.out.memory ++ ([] : List Value))), F11, F15] [] 106 Try.func91 rfl rfl rfl rfl (leb rfl) hst ?_
  unfold run_runner_end at hp
  refine TC.seq fun K_1 hK_2 => ?_
  refine TC.region ?_
  refine TL.box (cs := [.int .i64 a21.kind, .int .i64 a21.arg, v22]) (v := .agg #[.int .i64 a21.kind, .int .i64 a21.arg, v22]) (ltb rfl) rfl rfl fun b24 => ?_
  refine TL.nil ?_
  refine TC.go hK_2 ?_
  refine TC.seq fun K_3 hK_4 => ?_
  refine TC.seq fun K_5 hK_6 => ?_
  refine TC.region ?_
  refine TL.v (ltb rfl) (rv_fa (b := b24) (o := 0) fa_81_0 rfl) ?_
  refine TL.v (ltb rfl) (rv_ld (v := .int .i64 a21.kind) (o := 0) (o' := 0) (j := 0) sc_3 rfl (Src.at_ 0 rfl) (bx_cells b24 81 _) rfl rfl) ?_
  refine TL.nil ?_
  refine TC.go hK_6 ?_
  refine TC.block ?_
  refine TC.seq fun K_7 hK_8 => ?_
  refine TC.region ?_
  refine TL.v (ltb rfl) (rv_eql (k := .i64) (m := a21.kind) (n := 1) rfl rfl) ?_
  refine TL.v (ltb rfl) (rv_as (v := .bool (decide (a21.kind = 1))) rfl) ?_
  refine TL.nil ?_
  refine TC.go hK_8 ?_
  by_cases hc_9 : a21.kind = 1
  · rw [if_pos hc_9] at hp
    refine TC.condT (bT hc_9) ?_
    refine TC.seq fun K_10 hK_11 => ?_
    refine TC.region ?_
    refine TL.v (ltb rfl) (rv_mv (v := .pointer (some ⟨b1, 0, none⟩)) rfl) ?_
    refine TL.v (ltb rfl) (rv_mv (v := .pointer (some ⟨b10, (a9).toNat * 5, none⟩)) rfl) ?_
    refine TL.v (ltb rfl) (rv_fa (b := b24) (o := 0) fa_81_2 rfl) ?_
    refine TL.v (ltb rfl) (rv_ld (v := v22) (o := 2) (o' := 0) (j := 2) sc_22 rfl (Src.at_ 0 rfl) (bx_cells b24 81 _) rfl rfl) ?_
    obtain ⟨x25, hx_12, hp⟩ := bind_some' hp
    refine TL.v3 (ltb rfl) (rv_ix 22 (.tmp 15) (.const (.int .i64 0)) (v := v22) (i := 0) Try.underlying22 inf_3 rfl rfl rfl h23 hx_12) fun b26 o27 c28 h29 h30 => ?_
    obtain rfl := h29
    refine TL.v (ltb rfl) (rv_ld (v := .int .i64 x25) (o := o27) (o' := o27) (j := 0) sc_3 rfl Src.H h30 rfl rfl) ?_
    refine TL.pk' [1, 1, 1, 0] (L' := [bx b1 141 (([v3, v5, v7, .bool a2.out.done, .int .i64 a2.out.trap, .int .i64 a2.out.value, v18, .int .i64 a2.out.steps] : List Value) ++ (arrC a2.out.memory ++ ([] : List Value))), F11, F15, bx b24 81 [.int .i64 a21.kind, .int .i64 a21.arg, v22]]) rfl ?_
    obtain ⟨x31, hy_13, hp⟩ := bind_some' hp
    refine TL.callC (vs := [.pointer (some ⟨b1, 0, none⟩), .pointer (some ⟨b10, (a9).toNat * 5, none⟩), .int .i64 x25]) (R := run_runner_to.R b1 a2 v3 v5 v18 x31) [bx b1 141 (([v3, v5, v7, .bool a2.out.done, .int .i64 a2.out.trap, .int .i64 a2.out.value, v18, .int .i64 a2.out.steps] : List Value) ++ (arrC a2.out.memory ++ ([] : List Value))), F11, F15] [bx b24 81 [.int .i64 a21.kind, .int .i64 a21.arg, v22]] rfl cb_97 (ltb rfl) (mc rfl (mc rfl (mc rfl m0))) (fun w hw => run_runner_to_ok (a2 := a2) (a8 := a8) (a9 := a9) (a21 := x25) (h4.mono subH) (h6.mono subH) h12 h13 h16 (h19.mono subH) hy_13 hw) fun v A' hR_14 => ?_
    obtain ⟨v32, F33, rfl, rfl, h34⟩ := hR_14
    refine TL.norm (L' := [bx b1 141 (([v3, v5, v32, .bool a2.out.done, .int .i64 a2.out.trap, .int .i64 a2.out.value, v18, .int .i64 a2.out.steps] : List Value) ++ (arrC a2.out.memory ++ ([] : List Value))), F33, bx b24 81 [.int .i64 a21.kind, .int .i64 a21.arg, v22]]) rfl ?_
    refine TL.nil ?_
    refine TC.go hK_11 ?_
    refine TC.ret ?_
    obtain rfl := Option.some.inj hp
    exact fun w hw => retOk ⟨v32, F33, rfl, rfl, h34⟩ (hw.pick [0, 0])
  · rw [if_neg hc_9] at hp
    refine TC.condF (bF hc_9) ?_
    refine TC.seq fun K_15 hK_16 => ?_
    refine TC.region ?_
    refine TL.v (ltb rfl) (rv_eql (k := .i64) (m := a21.kind) (n := 2) rfl rfl) ?_
    refine TL.v (ltb rfl) (rv_as (v := .bool (decide (a21.kind = 2))) rfl) ?_
    refine TL.nil ?_
    refine TC.go hK_16 ?_
    by_cases hc_17 : a21.kind = 2
    · rw [if_pos hc_17] at hp
      refine TC.condT (bT hc_17) ?_
      refine TC.seq fun K_18 hK_19 => ?_
      have hJ_21 : ∀ (x35 : List PFrame) (v36 : Value) (F37 : FP) (e_20 : Env) (h38 : SlO 153 kFrame x35 v36 F37) (hp : run_runner_end.jn21 a2 x35 = some r), ∀ w, St E H [bx b1 141 (([v3, v5, v36, .bool a2.out.done, .int .i64 a2.out.trap, .int .i64 a2.out.value, v18, .int .i64 a2.out.steps] : List Value) ++ (arrC a2.out.memory ++ ([] : List Value))), F37] w → K_18 e_20 w := by
        intro x35 v36 F37 e_20 h38 hp
        unfold run_runner_end.jn21 at hp
        refine TC.go hK_19 ?_
        refine TC.ret ?_
        obtain rfl := Option.some.inj hp
        exact fun w hw => retOk ⟨v36, F37, rfl, rfl, h38⟩ (hw.pick [0, 0])
      refine TC.seq fun K_22 hK_23 => ?_
      refine TC.quiet mix (by kernel_rfl) ?_
      refine QL.v (ltb rfl) (rv_mv (v := .pointer (some ⟨b10, (a9).toNat * 5, none⟩)) rfl) ?_
      refine QL.v (ltb rfl) (rv_nilCheck (a := ⟨b10, (a9).toNat * 5, none⟩) rfl) ?_
      refine QL.v (ltb rfl) (rv_fa (b := b10) (o := (a9).toNat * 5) fa_153_1 rfl) ?_
      refine QL.v (ltb rfl) (rv_ld (v := v14) (o := (a9).toNat * 5 + 1) (o' := (a9).toNat * 5) (j := 1) sc_100 rfl (Src.at_ 2 rfl) (Hole.cells h12) rfl rfl) ?_
      refine QL.v (ltb rfl) (rv_fa (b := b24) (o := 0) fa_81_1 rfl) ?_
      refine QL.v (ltb rfl) (rv_ld (v := .int .i64 a21.arg) (o := 1) (o' := 0) (j := 1) sc_3 rfl (Src.at_ 0 rfl) (bx_cells b24 81 _) rfl rfl) ?_
      obtain ⟨x39, hx_24, hp⟩ := bind_some' hp
      refine QL.v3 (ltb rfl) (rv_ix 100 (.tmp 24) (.tmp 26) (v := v14) (i := a21.arg) Try.underlying100 inf_2 rfl rfl rfl (h16).ro hx_24) fun b40 o41 c42 h43 h44 => ?_
      obtain rfl := h43
      refine QL.v (ltb rfl) (rv_ld (v := .int .i64 x39) (o := o41) (o' := o41) (j := 0) sc_2 rfl (Src.at_ 3 rfl) h44 rfl rfl) ?_
      refine QL.v (ltb rfl) (rv_neq (k := .i64) (m := x39) (n := 0) rfl rfl) ?_
      refine QL.nil ?_
      refine TC.go hK_23 ?_
      by_cases hc_25 : ¬ x39 = 0
      · rw [if_pos hc_25] at hp
        refine TC.condT (bT hc_25) ?_
        refine TC.region ?_
        refine TL.v (ltb rfl) (rv_mv (v := .pointer (some ⟨b1, 0, none⟩)) rfl) ?_
        refine TL.v (ltb rfl) (rv_mv (v := .pointer (some ⟨b10, (a9).toNat * 5, none⟩)) rfl) ?_
        refine TL.v (ltb rfl) (rv_fa (b := b24) (o := 0) fa_81_2 rfl) ?_
        refine TL.v (ltb rfl) (rv_ld (v := v22) (o := 2) (o' := 0) (j := 2) sc_22 rfl (Src.at_ 0 rfl) (bx_cells b24 81 _) rfl rfl) ?_
        obtain ⟨x45, hx_26, hp⟩ := bind_some' hp
        refine TL.v3 (ltb rfl) (rv_ix 22 (.tmp 33) (.const (.int .i64 0)) (v := v22) (i := 0) Try.underlying22 inf_3 rfl rfl rfl h23 hx_26) fun b46 o47 c48 h49 h50 => ?_
        obtain rfl := h49
        refine TL.v (ltb rfl) (rv_ld (v := .int .i64 x45) (o := o47) (o' := o47) (j := 0) sc_3 rfl Src.H h50 rfl rfl) ?_
        refine TL.pk' [1, 1, 1, 0] (L' := [bx b1 141 (([v3, v5, v7, .bool a2.out.done, .int .i64 a2.out.trap, .int .i64 a2.out.value, v18, .int .i64 a2.out.steps] : List Value) ++ (arrC a2.out.memory ++ ([] : List Value))), F11, F15, bx b24 81 [.int .i64 a21.kind, .int .i64 a21.arg, v22]]) rfl ?_
        obtain ⟨x51, hy_27, hp⟩ := bind_some' hp
        refine TL.callC (vs := [.pointer (some ⟨b1, 0, none⟩), .pointer (some ⟨b10, (a9).toNat * 5, none⟩), .int .i64 x45]) (R := run_runner_to.R b1 a2 v3 v5 v18 x51) [bx b1 141 (([v3, v5, v7, .bool a2.out.done, .int .i64 a2.out.trap, .int .i64 a2.out.value, v18, .int .i64 a2.out.steps] : List Value) ++ (arrC a2.out.memory ++ ([] : List Value))), F11, F15] [bx b24 81 [.int .i64 a21.kind, .int .i64 a21.arg, v22]] rfl cb_97 (ltb rfl) (mc rfl (mc rfl (mc rfl m0))) (fun w hw => run_runner_to_ok (a2 := a2) (a8 := a8) (a9 := a9) (a21 := x45) (h4.mono subH) (h6.mono subH) h12 h13 h16 (h19.mono subH) hy_27 hw) fun v A' hR_28 => ?_
        obtain ⟨v52, F53, rfl, rfl, h54⟩ := hR_28
        refine TL.norm (L' := [bx b1 141 (([v3, v5, v52, .bool a2.out.done, .int .i64 a2.out.trap, .int .i64 a2.out.value, v18, .int .i64 a2.out.steps] : List Value) ++ (arrC a2.out.memory ++ ([] : List Value))), F53, bx b24 81 [.int .i64 a21.kind, .int .i64 a21.arg, v22]]) rfl ?_
        refine TL.nil ?_
        refine fun w hw => hJ_21 x51 v52 F53 _ h54 hp w (hw.pick [0, 0])
      · rw [if_neg hc_25] at hp
        refine TC.condF (bF hc_25) ?_
        refine TC.region ?_
        refine TL.v (ltb rfl) (rv_mv (v := .pointer (some ⟨b1, 0, none⟩)) rfl) ?_
        refine TL.v (ltb rfl) (rv_mv (v := .pointer (some ⟨b10, (a9).toNat * 5, none⟩)) rfl) ?_
        refine TL.v (ltb rfl) (rv_fa (b := b24) (o := 0) fa_81_2 rfl) ?_
        refine TL.v (ltb rfl) (rv_ld (v := v22) (o := 2) (o' := 0) (j := 2) sc_22 rfl (Src.at_ 0 rfl) (bx_cells b24 81 _) rfl rfl) ?_
        obtain ⟨x55, hx_29, hp⟩ := bind_some' hp
        refine TL.v3 (ltb rfl) (rv_ix 22 (.tmp 40) (.const (.int .i64 1)) (v := v22) (i := 1) Try.underlying22 inf_3 rfl rfl rfl h23 hx_29) fun b56 o57 c58 h59 h60 => ?_
        obtain rfl := h59
        refine TL.v (ltb rfl) (rv_ld (v := .int .i64 x55) (o := o57) (o' := o57) (j := 0) sc_3 rfl Src.H h60 rfl rfl) ?_
        refine TL.pk' [1, 1, 1, 0] (L' := [bx b1 141 (([v3, v5, v7, .bool a2.out.done, .int .i64 a2.out.trap, .int .i64 a2.out.value, v18, .int .i64 a2.out.steps] : List Value) ++ (arrC a2.out.memory ++ ([] : List Value))), F11, F15, bx b24 81 [.int .i64 a21.kind, .int .i64 a21.arg, v22]]) rfl ?_
        obtain ⟨x61, hy_30, hp⟩ := bind_some' hp
        refine TL.callC (vs := [.pointer (some ⟨b1, 0, none⟩), .pointer (some ⟨b10, (a9).toNat * 5, none⟩), .int .i64 x55]) (R := run_runner_to.R b1 a2 v3 v5 v18 x61) [bx b1 141 (([v3, v5, v7, .bool a2.out.done, .int .i64 a2.out.trap, .int .i64 a2.out.value, v18, .int .i64 a2.out.steps] : List Value) ++ (arrC a2.out.memory ++ ([] : List Value))), F11, F15] [bx b24 81 [.int .i64 a21.kind, .int .i64 a21.arg, v22]] rfl cb_97 (ltb rfl) (mc rfl (mc rfl (mc rfl m0))) (fun w hw => run_runner_to_ok (a2 := a2) (a8 := a8) (a9 := a9) (a21 := x55) (h4.mono subH) (h6.mono subH) h12 h13 h16 (h19.mono subH) hy_30 hw) fun v A' hR_31 => ?_
        obtain ⟨v62, F63, rfl, rfl, h64⟩ := hR_31
        refine TL.norm (L' := [bx b1 141 (([v3, v5, v62, .bool a2.out.done, .int .i64 a2.out.trap, .int .i64 a2.out.value, v18, .int .i64 a2.out.steps] : List Value) ++ (arrC a2.out.memory ++ ([] : List Value))), F63, bx b24 81 [.int .i64 a21.kind, .int .i64 a21.arg, v22]]) rfl ?_
        refine TL.nil ?_
        refine fun w hw => hJ_21 x61 v62 F63 _ h64 hp w (hw.pick [0, 0])
    · rw [if_neg hc_17] at hp
      refine TC.condF (bF hc_17) ?_
      refine TC.skip ?_
      refine TC.go hK_4 ?_
      refine TC.seq fun K_32 hK_33 => ?_
      refine TC.region ?_
      refine TL.v (ltb rfl) (rv_as (v := .int .i64 0) rfl) ?_
      refine TL.nil ?_
      refine TC.go hK_33 ?_
      refine TC.seq fun K_34 hK_35 => ?_
      have hJ_40 : ∀ (x65 : Int) (e_36 : Env) (h_37 : e_36 0 = .pointer (some ⟨b1, 0, none⟩)) (h_38 : e_36 1 = .pointer (some ⟨b10, (a9).toNat * 5, none⟩)) (h_39 : e_36 6 = .int .i64 x65) (hp : run_runner_end.jn40 a2 a8 a9 x65 = some r), ∀ w, St E H [bx b1 141 (([v3, v5, v7, .bool a2.out.done, .int .i64 a2.out.trap, .int .i64 a2.out.value, v18, .int .i64 a2.out.steps] : List Value) ++ (arrC a2.out.memory ++ ([] : List Value))), F15, F11] w → K_34 e_36 w := by
        intro x65 e_36 h_37 h_38 h_39 hp
        unfold run_runner_end.jn40 at hp
        refine TC.go hK_35 ?_
        refine TC.seq fun K_41 hK_42 => ?_
        refine TC.region ?_
        refine TL.v (ltb rfl) (rv_mv (v := .pointer (some ⟨b10, (a9).toNat * 5, none⟩)) h_38) ?_
        refine TL.v (ltb rfl) (rv_nilCheck (a := ⟨b10, (a9).toNat * 5, none⟩) rfl) ?_
        refine TL.v (ltb rfl) (rv_fa (b := b10) (o := (a9).toNat * 5) fa_153_4 rfl) ?_
        refine TL.v (ltb rfl) (rv_ld (v := .int .i64 a8.dst) (o := (a9).toNat * 5 + 4) (o' := (a9).toNat * 5) (j := 4) sc_3 rfl (Src.at_ 2 rfl) (Hole.cells h12) rfl rfl) ?_
        refine TL.v (ltb rfl) (rv_as (v := .int .i64 a8.dst) rfl) ?_
        refine TL.nil ?_
        refine TC.go hK_42 ?_
        refine TC.seq fun K_43 hK_44 => ?_
        have hJ_49 : ∀ (x66 : List PFrame) (v67 : Value) (F68 : FP) (e_45 : Env) (h69 : SlO 153 kFrame x66 v67 F68) (h_46 : e_45 0 = .pointer (some ⟨b1, 0, none⟩)) (h_47 : e_45 6 = .int .i64 x65) (h_48 : e_45 7 = .int .i64 a8.dst) (hp : run_runner_end.jn49 a2 a8 x65 x66 = some r), ∀ w, St E H [bx b1 141 (([v3, v5, v67, .bool a2.out.done, .int .i64 a2.out.trap, .int .i64 a2.out.value, v18, .int .i64 a2.out.steps] : List Value) ++ (arrC a2.out.memory ++ ([] : List Value))), F68] w → K_43 e_45 w := by
          intro x66 v67 F68 e_45 h69 h_46 h_47 h_48 hp
          unfold run_runner_end.jn49 at hp
          refine TC.go hK_44 ?_
          refine TC.seq fun K_50 hK_51 => ?_
          refine TC.seq fun K_52 hK_53 => ?_
          refine TC.region ?_
          refine TL.v (ltb rfl) (rv_mv (v := .pointer (some ⟨b1, 0, none⟩)) h_46) ?_
          refine TL.v (ltb rfl) (rv_nilCheck (a := ⟨b1, 0, none⟩) rfl) ?_
          refine TL.v (ltb rfl) (rv_fa (b := b1) (o := 0) fa_141_2 rfl) ?_
          refine TL.v (ltb rfl) (rv_ld (v := v67) (o := 2) (o' := 0) (j := 2) sc_139 rfl (Src.at_ 0 rfl) (bx_cells b1 141 _) rfl rfl) ?_
          refine TL.v (ltb rfl) (rv_lenI (v := v67) Try.underlying139 rfl h69.ro) ?_
          refine TL.v (ltb rfl) (rv_eql (k := .i64) (m := (len x66)) (n := 0) rfl rfl) ?_
          refine TL.nil ?_
          refine TC.go hK_53 ?_
          by_cases hc_54 : (len x66) = 0
          · rw [if_pos hc_54] at hp
            refine TC.condT (bT hc_54) ?_
            refine TC.seq fun K_55 hK_56 => ?_
            refine TC.region ?_
            refine TL.v (ltb rfl) (rv_mv (v := .pointer (some ⟨b1, 0, none⟩)) h_46) ?_
            refine TL.v (ltb rfl) (rv_mv (v := .pointer (some ⟨b1, 0, none⟩)) h_46) ?_
            refine TL.v (ltb rfl) (rv_mv (v := .int .i64 x65) h_47) ?_
            refine TL.v (ltb rfl) (rv_nilCheck (a := ⟨b1, 0, none⟩) rfl) ?_
            refine TL.v (ltb rfl) (rv_fa (b := b1) (o := 0) fa_141_3 rfl) ?_
            refine TL.v (ltb rfl) (rv_fa (b := b1) (o := 3) fa_104_0 rfl) ?_
            refine TL.stB (ds := [.bool true]) (o := 3) (cs := (([v3, v5, v67, .bool a2.out.done, .int .i64 a2.out.trap, .int .i64 a2.out.value, v18, .int .i64 a2.out.steps] : List Value) ++ (arrC a2.out.memory ++ ([] : List Value)))) (b := b1) (u := .bool true) 0 rfl ms_4 rfl rfl rfl (oc rfl oc0) (leb rfl) ?_
            refine TL.norm (L' := [bx b1 141 (([v3, v5, v67, .bool true, .int .i64 a2.out.trap, .int .i64 a2.out.value, v18, .int .i64 a2.out.steps] : List Value) ++ (arrC a2.out.memory ++ ([] : List Value))), F68]) rfl ?_
            refine TL.v (ltb rfl) (rv_nilCheck (a := ⟨b1, 0, none⟩) rfl) ?_
            refine TL.v (ltb rfl) (rv_fa (b := b1) (o := 0) fa_141_3 rfl) ?_
            refine TL.v (ltb rfl) (rv_fa (b := b1) (o := 3) fa_104_2 rfl) ?_
            refine TL.stB (ds := [.int .i64 x65]) (o := 5) (cs := (([v3, v5, v67, .bool true, .int .i64 a2.out.trap, .int .i64 a2.out.value, v18, .int .i64 a2.out.steps] : List Value) ++ (arrC a2.out.memory ++ ([] : List Value)))) (b := b1) (u := .int .i64 x65) 0 rfl ms_2 rfl rfl rfl (oc rfl oc0) (leb rfl) ?_
            refine TL.norm (L' := [bx b1 141 (([v3, v5, v67, .bool true, .int .i64 a2.out.trap, .int .i64 x65, v18, .int .i64 a2.out.steps] : List Value) ++ (arrC a2.out.memory ++ ([] : List Value))), F68]) rfl ?_
            refine TL.nil ?_
            refine TC.go hK_56 ?_
            refine TC.ret ?_
            obtain rfl := Option.some.inj hp
            exact fun w hw => retOk ⟨v67, F68, rfl, rfl, h69⟩ (hw.pick [0, 0])
          · rw [if_neg hc_54] at hp
            refine TC.condF (bF hc_54) ?_
            refine TC.skip ?_
            refine TC.go hK_51 ?_
            refine TC.seq fun K_57 hK_58 => ?_
            refine TC.region ?_
            refine TL.v (ltb rfl) (rv_mv (v := .int .i64 a8.dst) h_48) ?_
            refine TL.v (ltb rfl) (rv_geq (k := .i64) (m := a8.dst) (n := 0) rfl rfl) ?_
            refine TL.nil ?_
            refine TC.go hK_58 ?_
            by_cases hc_59 : a8.dst ≥ 0
            · rw [if_pos hc_59] at hp
              refine TC.condT (bT hc_59) ?_
              refine TC.held ([bx b1 141 (([v3, v5, v67, .bool a2.out.done, .int .i64 a2.out.trap, .int .i64 a2.out.value, v18, .int .i64 a2.out.steps] : List Value) ++ (arrC a2.out.memory ++ ([] : List Value)))].flatten ++ H) mix (srcG 0 rfl srcG0) ?_
              refine HL.v 0 rfl trivial (by kernel_rfl) (by kernel_rfl) (by kernel_rfl) (ltb rfl) (rv_mv (v := .pointer (some ⟨b1, 0, none⟩)) h_46) ?_
              refine HL.v 1 rfl trivial (by kernel_rfl) (by kernel_rfl) (by kernel_rfl) (ltb rfl) (rv_nilCheck (a := ⟨b1, 0, none⟩) rfl) ?_
              refine HL.v 2 rfl trivial (by kernel_rfl) (by kernel_rfl) (by kernel_rfl) (ltb rfl) (rv_fa (b := b1) (o := 0) fa_141_2 rfl) ?_
              refine HL.v 3 rfl trivial (by kernel_rfl) (by kernel_rfl) (by kernel_rfl) (ltb rfl) (rv_ld (v := v67) (o := 2) (o' := 0) (j := 2) sc_139 rfl (srcInG 0 rfl) (bx_cells b1 141 _) rfl rfl) ?_
              refine HL.v 4 rfl trivial (by kernel_rfl) (by kernel_rfl) (by kernel_rfl) (ltb rfl) (rv_mv (v := .pointer (some ⟨b1, 0, none⟩)) h_46) ?_
              refine HL.v 5 rfl trivial (by kernel_rfl) (by kernel_rfl) (by kernel_rfl) (ltb rfl) (rv_nilCheck (a := ⟨b1, 0, none⟩) rfl) ?_
              refine HL.v 6 rfl trivial (by kernel_rfl) (by kernel_rfl) (by kernel_rfl) (ltb rfl) (rv_fa (b := b1) (o := 0) fa_141_2 rfl) ?_
              refine HL.v 7 rfl trivial (by kernel_rfl) (by kernel_rfl) (by kernel_rfl) (ltb rfl) (rv_ld (v := v67) (o := 2) (o' := 0) (j := 2) sc_139 rfl (srcInG 0 rfl) (bx_cells b1 141 _) rfl rfl) ?_
              refine HL.v 8 rfl trivial (by kernel_rfl) (by kernel_rfl) (by kernel_rfl) (ltb rfl) (rv_lenI (v := v67) Try.underlying139 rfl h69.ro) ?_
              refine HL.v 9 rfl trivial (by kernel_rfl) (by kernel_rfl) (by kernel_rfl) (ltb rfl) (rv_sub (k := .i64) (m := (len x66)) (n := 1) rfl rfl) ?_
              refine HL.v 13 rfl trivial (by kernel_rfl) (by kernel_rfl) (by kernel_rfl) (ltb rfl) (rv_mv (v := .int .i64 a8.dst) h_48) ?_
              refine HL.v 14 rfl trivial (by kernel_rfl) (by kernel_rfl) (by kernel_rfl) (ltb rfl) (rv_mv (v := .int .i64 x65) h_47) ?_
              refine HL.one 10 rfl (by kernel_rfl) fun K_60 hK_61 => ?_
              refine TL.pk' [1, 0] (L' := [F68, bx b1 141 (([v3, v5, v67, .bool a2.out.done, .int .i64 a2.out.trap, .int .i64 a2.out.value, v18, .int .i64 a2.out.steps] : List Value) ++ (arrC a2.out.memory ++ ([] : List Value)))]) rfl ?_
              obtain ⟨x4071, hx_62, hp⟩ := bind_some' hp
              refine TL.open_ h69 hx_62 fun b4072 c4073 F4074 F4075 h4076 h4077 => ?_
              obtain ⟨v4078, F4079, rfl, rfl, h4080⟩ := h4077
              have h4081 := (idx_some hx_62).1
              refine TL.v (ltb rfl) (rv_ixH Try.underlying139 inf_153 (v := v67) (i := (w64 ((len x66) - 1))) rfl rfl h4081 h4076) ?_
              refine TL.nil (hK_61 _ _ (srcG 2 rfl srcG0) ?_)
              refine HL.v 11 rfl trivial (by kernel_rfl) (by kernel_rfl) (by kernel_rfl) (ltb rfl) (rv_fa (b := b4072) (o := ((w64 ((len x66) - 1))).toNat * 5) fa_153_1 rfl) ?_
              refine HL.one 12 rfl (by kernel_rfl) fun K_63 hK_64 => ?_
              refine TL.v (ltb rfl) (rv_ld (v := v4078) (o := ((w64 ((len x66) - 1))).toNat * 5 + 1) (o' := ((w64 ((len x66) - 1))).toNat * 5) (j := 1) sc_100 rfl (Src.at_ 0 rfl) (Hole.cells h4076) rfl rfl) ?_
              refine TL.nil (hK_64 _ _ (srcG 2 rfl srcG0) ?_)
              obtain ⟨x6071, hx_65, hp⟩ := bind_some' hp
              refine HL.w2 15 rfl trivial (by kernel_rfl) (by kernel_rfl) (by kernel_rfl) (ltb rfl) (rv_ixO 100 (.tmp 102) (.tmp 103) (v := v4078) (i := a8.dst) Try.underlying100 inf_2 rfl rfl rfl h4080 (idx_some hx_65).1 (idx_some hx_65).2.1) fun b6072 o6073 h6074 => ?_
              refine HL.one 16 rfl (by kernel_rfl) fun K_66 hK_67 => ?_
              refine TL.pk' [1, 0, 0] (L' := [F4075, F4074, bx b1 141 (([v3, v5, v67, .bool a2.out.done, .int .i64 a2.out.trap, .int .i64 a2.out.value, v18, .int .i64 a2.out.steps] : List Value) ++ (arrC a2.out.memory ++ ([] : List Value)))]) rfl ?_
              refine TL.stE0 (ds := [.int .i64 x65]) (u := .int .i64 x65) (a := x65) h4080 h6074 ms_2 rfl rfl rfl ⟨rfl, rfl⟩ fun F6471 h6472 => ?_
              refine TL.nil (hK_67 _ _ (srcG 2 rfl srcG0) ?_)
              refine HL.done (by kernel_rfl) ?_
              refine W.pk' [1, 0, 0] (L' := [F4074, F6471, bx b1 141 (([v3, v5, v67, .bool a2.out.done, .int .i64 a2.out.trap, .int .i64 a2.out.value, v18, .int .i64 a2.out.steps] : List Value) ++ (arrC a2.out.memory ++ ([] : List Value)))]) rfl ?_
              refine W.shut (a := (⟨x4071.f, (x4071.regs.set (a8.dst).toNat x65), x4071.block, x4071.at_, x4071.dst⟩ : PFrame)) h4076 ⟨_, _, rfl, rfl, h6472⟩ fun F6871 h6872 => ?_
              obtain rfl := Option.some.inj hp
              exact fun w hw => retOk ⟨v67, F6871, rfl, rfl, h6872⟩ (hw.pick [1, 0])
            · rw [if_neg hc_59] at hp
              refine TC.condF (bF hc_59) ?_
              refine TC.skip ?_
              obtain rfl := Option.some.inj hp
              exact fun w hw => retOk ⟨v67, F68, rfl, rfl, h69⟩ (hw.pick [0, 0])
        refine TC.pk' [2, 1, 0] (L' := [F11, F15, bx b1 141 (([v3, v5, v7, .bool a2.out.done, .int .i64 a2.out.trap, .int .i64 a2.out.value, v18, .int .i64 a2.out.steps] : List Value) ++ (arrC a2.out.memory ++ ([] : List Value)))]) rfl ?_
        refine TC.shut (a := a8) h12 ⟨_, _, rfl, rfl, h16⟩ fun F6873 h6874 => ?_
        refine TC.held ([].flatten ++ H) mix srcG0 ?_
        refine HL.v 0 rfl trivial (by kernel_rfl) (by kernel_rfl) (by kernel_rfl) (ltb rfl) (rv_mv (v := .pointer (some ⟨b1, 0, none⟩)) h_37) ?_
        refine HL.v 1 rfl trivial (by kernel_rfl) (by kernel_rfl) (by kernel_rfl) (ltb rfl) (rv_mv (v := .pointer (some ⟨b1, 0, none⟩)) h_37) ?_
        refine HL.v 2 rfl trivial (by kernel_rfl) (by kernel_rfl) (by kernel_rfl) (ltb rfl) (rv_nilCheck (a := ⟨b1, 0, none⟩) rfl) ?_
        refine HL.v 3 rfl trivial (by kernel_rfl) (by kernel_rfl) (by kernel_rfl) (ltb rfl) (rv_fa (b := b1) (o := 0) fa_141_2 rfl) ?_
        refine HL.v 5 rfl trivial (by kernel_rfl) (by kernel_rfl) (by kernel_rfl) (ltb rfl) (rv_mv (v := .pointer (some ⟨b1, 0, none⟩)) h_37) ?_
        refine HL.v 6 rfl trivial (by kernel_rfl) (by kernel_rfl) (by kernel_rfl) (ltb rfl) (rv_nilCheck (a := ⟨b1, 0, none⟩) rfl) ?_
        refine HL.v 7 rfl trivial (by kernel_rfl) (by kernel_rfl) (by kernel_rfl) (ltb rfl) (rv_fa (b := b1) (o := 0) fa_141_2 rfl) ?_
        refine HL.all [4, 8] (by kernel_rfl) (by simp) (HL.al ⟨_, rfl, fun K_68 hK_69 => ?_⟩ (HL.al ⟨_, rfl, fun K_77 hK_78 => ?_⟩ HL.al0))
        · refine TL.v (ltb rfl) (rv_ld (v := v7) (o := 2) (o' := 0) (j := 2) sc_139 rfl (Src.at_ 1 rfl) (bx_cells b1 141 _) rfl rfl) ?_
          refine TL.nil (hK_69 _ _ srcG0 ?_)
          refine HL.one 8 rfl (by kernel_rfl) fun K_70 hK_71 => ?_
          refine TL.v (ltb rfl) (rv_ld (v := v7) (o := 2) (o' := 0) (j := 2) sc_139 rfl (Src.at_ 1 rfl) (bx_cells b1 141 _) rfl rfl) ?_
          refine TL.nil (hK_71 _ _ srcG0 ?_)
          refine HL.v 9 rfl trivial (by kernel_rfl) (by kernel_rfl) (by kernel_rfl) (ltb rfl) (rv_lenI (v := v7) Try.underlying139 rfl h6874.ro) ?_
          refine HL.v 10 rfl trivial (by kernel_rfl) (by kernel_rfl) (by kernel_rfl) (ltb rfl) (rv_sub (k := .i64) (m := (len (a2.frames.set (a9).toNat a8))) (n := 1) rfl rfl) ?_
          refine HL.one 11 rfl (by kernel_rfl) fun K_72 hK_73 => ?_
          obtain ⟨x11276, hz_74, hp⟩ := bind_some' hp
          refine TL.slOwn (v := v7) (m := (w64 ((len (a2.frames.set (a9).toNat a8)) - 1))) Try.underlying139 inf_153 rfl (ltb rfl) rfl rfl h6874 hz_74 fun v11277 F11278 h11279 => ?_
          refine TL.nil (hK_73 _ _ srcG0 ?_)
          refine HL.v 12 rfl trivial (by kernel_rfl) (by kernel_rfl) (by kernel_rfl) (ltb rfl) (rv_nilCheck (a := ⟨b1, 0, none⟩) rfl) ?_
          refine HL.v 13 rfl trivial (by kernel_rfl) (by kernel_rfl) (by kernel_rfl) (ltb rfl) (rv_fa (b := b1) (o := 0) fa_141_2 rfl) ?_
          refine HL.one 14 rfl (by kernel_rfl) fun K_75 hK_76 => ?_
          refine TL.stB (ds := [v11277]) (o := 2) (cs := (([v3, v5, v7, .bool a2.out.done, .int .i64 a2.out.trap, .int .i64 a2.out.value, v18, .int .i64 a2.out.steps] : List Value) ++ (arrC a2.out.memory ++ ([] : List Value)))) (b := b1) (u := v11277) 1 rfl ms_139 rfl rfl (SlO.cells h11279) (oc (h11279).one oc0) (leb rfl) ?_
          refine TL.norm (L' := [F11278, bx b1 141 (([v3, v5, v11277, .bool a2.out.done, .int .i64 a2.out.trap, .int .i64 a2.out.value, v18, .int .i64 a2.out.steps] : List Value) ++ (arrC a2.out.memory ++ ([] : List Value)))]) rfl ?_
          refine TL.nil (hK_76 _ _ srcG0 ?_)
          refine HL.done (by kernel_rfl) ?_
          refine fun w hw => hJ_49 x11276 v11277 F11278 _ h11279 ?_ ?_ ?_ hp w (hw.pick [1, 0])
          · exact h_37
          · exact h_39
          · exact rfl
        · refine TL.v (ltb rfl) (rv_ld (v := v7) (o := 2) (o' := 0) (j := 2) sc_139 rfl (Src.at_ 1 rfl) (bx_cells b1 141 _) rfl rfl) ?_
          refine TL.nil (hK_78 _ _ srcG0 ?_)
          refine HL.v 9 rfl trivial (by kernel_rfl) (by kernel_rfl) (by kernel_rfl) (ltb rfl) (rv_lenI (v := v7) Try.underlying139 rfl h6874.ro) ?_
          refine HL.v 10 rfl trivial (by kernel_rfl) (by kernel_rfl) (by kernel_rfl) (ltb rfl) (rv_sub (k := .i64) (m := (len (a2.frames.set (a9).toNat a8))) (n := 1) rfl rfl) ?_
          refine HL.one 4 rfl (by kernel_rfl) fun K_79 hK_80 => ?_
          refine TL.v (ltb rfl) (rv_ld (v := v7) (o := 2) (o' := 0) (j := 2) sc_139 rfl (Src.at_ 1 rfl) (bx_cells b1 141 _) rfl rfl) ?_
          refine TL.nil (hK_80 _ _ srcG0 ?_)
          refine HL.one 11 rfl (by kernel_rfl) fun K_81 hK_82 => ?_
          obtain ⟨x11276, hz_83, hp⟩ := bind_some' hp
          refine TL.slOwn (v := v7) (m := (w64 ((len (a2.frames.set (a9).toNat a8)) - 1))) Try.underlying139 inf_153 rfl (ltb rfl) rfl rfl h6874 hz_83 fun v11277 F11278 h11279 => ?_
          refine TL.nil (hK_82 _ _ srcG0 ?_)
          refine HL.v 12 rfl trivial (by kernel_rfl) (by kernel_rfl) (by kernel_rfl) (ltb rfl) (rv_nilCheck (a := ⟨b1, 0, none⟩) rfl) ?_
          refine HL.v 13 rfl trivial (by kernel_rfl) (by kernel_rfl) (by kernel_rfl) (ltb rfl) (rv_fa (b := b1) (o := 0) fa_141_2 rfl) ?_
          refine HL.one 14 rfl (by kernel_rfl) fun K_84 hK_85 => ?_
          refine TL.stB (ds := [v11277]) (o := 2) (cs := (([v3, v5, v7, .bool a2.out.done, .int .i64 a2.out.trap, .int .i64 a2.out.value, v18, .int .i64 a2.out.steps] : List Value) ++ (arrC a2.out.memory ++ ([] : List Value)))) (b := b1) (u := v11277) 1 rfl ms_139 rfl rfl (SlO.cells h11279) (oc (h11279).one oc0) (leb rfl) ?_
          refine TL.norm (L' := [F11278, bx b1 141 (([v3, v5, v11277, .bool a2.out.done, .int .i64 a2.out.trap, .int .i64 a2.out.value, v18, .int .i64 a2.out.steps] : List Value) ++ (arrC a2.out.memory ++ ([] : List Value)))]) rfl ?_
          refine TL.nil (hK_85 _ _ srcG0 ?_)
          refine HL.done (by kernel_rfl) ?_
          refine fun w hw => hJ_49 x11276 v11277 F11278 _ h11279 ?_ ?_ ?_ hp w (hw.pick [1, 0])
          · exact h_37
          · exact h_39
          · exact rfl
      refine TC.seq fun K_86 hK_87 => ?_
      refine TC.region ?_
      refine TL.v (ltb rfl) (rv_fa (b := b24) (o := 0) fa_81_1 rfl) ?_
      refine TL.v (ltb rfl) (rv_ld (v := .int .i64 a21.arg) (o := 1) (o' := 0) (j := 1) sc_3 rfl (Src.at_ 0 rfl) (bx_cells b24 81 _) rfl rfl) ?_
      refine TL.v (ltb rfl) (rv_geq (k := .i64) (m := a21.arg) (n := 0) rfl rfl) ?_
      refine TL.nil ?_
      refine TC.go hK_87 ?_
      by_cases hc_88 : a21.arg ≥ 0
      · rw [if_pos hc_88] at hp
        refine TC.condT (bT hc_88) ?_
        refine TC.quiet mix (by kernel_rfl) ?_
        refine QL.v (ltb rfl) (rv_mv (v := .pointer (some ⟨b10, (a9).toNat * 5, none⟩)) rfl) ?_
        refine QL.v (ltb rfl) (rv_nilCheck (a := ⟨b10, (a9).toNat * 5, none⟩) rfl) ?_
        refine QL.v (ltb rfl) (rv_fa (b := b10) (o := (a9).toNat * 5) fa_153_1 rfl) ?_
        refine QL.v (ltb rfl) (rv_ld (v := v14) (o := (a9).toNat * 5 + 1) (o' := (a9).toNat * 5) (j := 1) sc_100 rfl (Src.at_ 2 rfl) (Hole.cells h12) rfl rfl) ?_
        refine QL.v (ltb rfl) (rv_fa (b := b24) (o := 0) fa_81_1 rfl) ?_
        refine QL.v (ltb rfl) (rv_ld (v := .int .i64 a21.arg) (o := 1) (o' := 0) (j := 1) sc_3 rfl (Src.at_ 0 rfl) (bx_cells b24 81 _) rfl rfl) ?_
        obtain ⟨x12876, hx_89, hp⟩ := bind_some' hp
        refine QL.v3 (ltb rfl) (rv_ix 100 (.tmp 50) (.tmp 52) (v := v14) (i := a21.arg) Try.underlying100 inf_2 rfl rfl rfl (h16).ro hx_89) fun b12877 o12878 c12879 h12880 h12881 => ?_
        obtain rfl := h12880
        refine QL.v (ltb rfl) (rv_ld (v := .int .i64 x12876) (o := o12878) (o' := o12878) (j := 0) sc_2 rfl (Src.at_ 3 rfl) h12881 rfl rfl) ?_
        refine QL.v (ltb rfl) (rv_as (v := .int .i64 x12876) rfl) ?_
        refine QL.nil ?_
        refine fun w hw => hJ_40 x12876 _ ?_ ?_ ?_ hp w (hw.pick [1, 2, 1])
        · exact rfl
        · exact rfl
        · exact rfl
      · rw [if_neg hc_88] at hp
        refine TC.condF (bF hc_88) ?_
        refine TC.skip ?_
        refine fun w hw => hJ_40 0 _ ?_ ?_ ?_ hp w (hw.pick [1, 2, 1])
        · exact rfl
        · exact rfl
        · exact rfl

/-! ### (*fettle/run.runner).step -/
abbrev run_runner_step.R (b1 : Nat) (a2 : PRunner) (v3 : Value) (v5 : Value) (r : List PFrame × Bool × Int × Int × List Int × A64) (v : Value) (A : List FP) : Prop := ∃ (w1 : Value) (G1 : FP) (w2 : Value) (G2 : FP), .tuple #[] = v ∧ A = [bx b1 141 (([v3, v5, w1, .bool r.2.1, .int .i64 r.2.2.1, .int .i64 r.2.2.2.1, w2, .int .i64 a2.out.steps] : List Value) ++ (arrC r.2.2.2.2.2 ++ ([] : List Value))), G1, G2] ∧ SlO 153 kFrame r.1 w1 G1 ∧ SlO 2 (kInt .i64) r.2.2.2.2.1 w2 G2
def run_runner_step (a2 : PRunner) : Option (List PFrame × Bool × Int × Int × List Int × A64) :=
  (idx a2.frames (w64 ((len a2.frames) - 1))).bind fun x4015 =>
  (idx a2.m.funcs x4015.f).bind fun x8416 =>
  (idx x8416.blocks x4015.block).bind fun x11216 =>
  if x4015.at_ = (len x11216.ins) then
    (run_runner_end a2 x4015 (w64 ((len a2.frames) - 1)) x11216.term).bind fun x12816 =>
    some (x12816.1, x12816.2.1, a2.out.trap, x12816.2.2, a2.out.out, a2.out.memory)
  else
    (idx x11216.ins x4015.at_).bind fun x15221 =>
    (run_runner_instr a2 (⟨x4015.f, x4015.regs, x4015.block, (w64 (x4015.at_ + 1)), x4015.dst⟩ : PFrame) (w64 ((len a2.frames) - 1)) x15221).bind fun x16823 =>
    some (x16823.1, x16823.2.1, x16823.2.2.1, a2.out.value, x16823.2.2.2.1, x16823.2.2.2.2)
theorem run_runner_step_ok {E : World} {H : FP} {w : World} {a2 : PRunner} {b1 : Nat} {v3 : Value} {v5 : Value} {v7 : Value} {F8 : FP} {v10 : Value} {F11 : FP} {r : List PFrame × Bool × Int × Int × List Int × A64} (h4 : SlI kFunc H a2.m.funcs v3) (h6 : SlI (kSl 22 (kSl 3 (kInt .i64))) H a2.ahead v5) (h9 : SlO 153 kFrame a2.frames v7 F8) (h12 : SlO 2 (kInt .i64) a2.out.out v10 F11) (hp : run_runner_step a2 = some r) (hst : St E H [bx b1 141 (([v3, v5, v7, .bool a2.out.done, .int .i64 a2.out.trap, .int .i64 a2.out.value, v10, .int .i64 a2.out.steps] : List Value) ++ (arrC a2.out.memory ++ ([] : List Value))), F8, F11] w) :
    Fn Try.prog 83 #[.pointer (some ⟨b1, 0, none⟩)] w fun v w' => ∃ A, run_runner_step.R b1 a2 v3 v5 r v A ∧ St E H A w' := by
  refine Fn.body (fn := Try.f83) (args := [.pointer (some ⟨b1, 0, none⟩)]) E H [bx b1 141 (([v3, v5, v7, .bool a2.out.done, .int .i64 a2.out.trap, .int .i64 a2.out.value, v10, .int .i64 a2.out.steps] : List Value) ++ (arrC a2.out.memory ++ ([] : List Value))), F8, F11] [] 66 Try.func83 rfl rfl rfl rfl (leb rfl) hst ?_
  unfold run_runner_step at hp
  refine TC.seq fun K_1 hK_2 => ?_
  refine TC.held ([bx b1 141 (([v3, v5, v7, .bool a2.out.done, .int .i64 a2.out.trap, .int .i64 a2.out.value, v10, .int .i64 a2.out.steps] : List Value) ++ (arrC a2.out.memory ++ ([] : List Value))), F11].flatten ++ H) mix (srcG 0 rfl (srcG 2 rfl srcG0)) ?_
  refine HL.v 0 rfl trivial (by kernel_rfl) (by kernel_rfl) (by kernel_rfl) (ltb rfl) (rv_mv (v := .pointer (some ⟨b1, 0, none⟩)) rfl) ?_
  refine HL.v 1 rfl trivial (by kernel_rfl) (by kernel_rfl) (by kernel_rfl) (ltb rfl) (rv_nilCheck (a := ⟨b1, 0, none⟩) rfl) ?_
  refine HL.v 2 rfl trivial (by kernel_rfl) (by kernel_rfl) (by kernel_rfl) (ltb rfl) (rv_fa (b := b1) (o := 0) fa_141_2 rfl) ?_
  refine HL.v 3 rfl trivial (by kernel_rfl) (by kernel_rfl) (by kernel_rfl) (ltb rfl) (rv_ld (v := v7) (o := 2) (o' := 0) (j := 2) sc_139 rfl (srcInG 0 rfl) (bx_cells b1 141 _) rfl rfl) ?_
  refine HL.v 4 rfl trivial (by kernel_rfl) (by kernel_rfl) (by kernel_rfl) (ltb rfl) (rv_mv (v := .pointer (some ⟨b1, 0, none⟩)) rfl) ?_
  refine HL.v 5 rfl trivial (by kernel_rfl) (by kernel_rfl) (by kernel_rfl) (ltb rfl) (rv_nilCheck (a := ⟨b1, 0, none⟩) rfl) ?_
  refine HL.v 6 rfl trivial (by kernel_rfl) (by kernel_rfl) (by kernel_rfl) (ltb rfl) (rv_fa (b := b1) (o := 0) fa_141_2 rfl) ?_
  refine HL.v 7 rfl trivial (by kernel_rfl) (by kernel_rfl) (by kernel_rfl) (ltb rfl) (rv_ld (v := v7) (o := 2) (o' := 0) (j := 2) sc_139 rfl (srcInG 0 rfl) (bx_cells b1 141 _) rfl rfl) ?_
  refine HL.v 8 rfl trivial (by kernel_rfl) (by kernel_rfl) (by kernel_rfl) (ltb rfl) (rv_lenI (v := v7) Try.underlying139 rfl h9.ro) ?_
  refine HL.v 9 rfl trivial (by kernel_rfl) (by kernel_rfl) (by kernel_rfl) (ltb rfl) (rv_sub (k := .i64) (m := (len a2.frames)) (n := 1) rfl rfl) ?_
  refine HL.one 10 rfl (by kernel_rfl) fun K_3 hK_4 => ?_
  refine TL.pk' [1, 0, 0] (L' := [F8, bx b1 141 (([v3, v5, v7, .bool a2.out.done, .int .i64 a2.out.trap, .int .i64 a2.out.value, v10, .int .i64 a2.out.steps] : List Value) ++ (arrC a2.out.memory ++ ([] : List Value))), F11]) rfl ?_
  obtain ⟨x4015, hx_5, hp⟩ := bind_some' hp
  refine TL.open_ h9 hx_5 fun b4016 c4017 F4018 F4019 h4020 h4021 => ?_
  obtain ⟨v4022, F4023, rfl, rfl, h4024⟩ := h4021
  have h4025 := (idx_some hx_5).1
  refine TL.v (ltb rfl) (rv_ixH Try.underlying139 inf_153 (v := v7) (i := (w64 ((len a2.frames) - 1))) rfl rfl h4025 h4020) ?_
  refine TL.nil (hK_4 _ _ (srcG 2 rfl (srcG 3 rfl srcG0)) ?_)
  refine HL.v 11 rfl trivial (by kernel_rfl) (by kernel_rfl) (by kernel_rfl) (ltb rfl) (rv_as (v := .pointer (some ⟨b4016, ((w64 ((len a2.frames) - 1))).toNat * 5, none⟩)) rfl) ?_
  refine HL.done (by kernel_rfl) ?_
  refine TC.go hK_2 ?_
  refine TC.seq fun K_6 hK_7 => ?_
  refine TC.held ([F4018, F4019, bx b1 141 (([v3, v5, v7, .bool a2.out.done, .int .i64 a2.out.trap, .int .i64 a2.out.value, v10, .int .i64 a2.out.steps] : List Value) ++ (arrC a2.out.memory ++ ([] : List Value))), F11].flatten ++ H) mix (srcG 0 rfl (srcG 1 rfl (srcG 2 rfl (srcG 3 rfl srcG0)))) ?_
  refine HL.v 0 rfl trivial (by kernel_rfl) (by kernel_rfl) (by kernel_rfl) (ltb rfl) (rv_mv (v := .pointer (some ⟨b1, 0, none⟩)) rfl) ?_
  refine HL.v 1 rfl trivial (by kernel_rfl) (by kernel_rfl) (by kernel_rfl) (ltb rfl) (rv_nilCheck (a := ⟨b1, 0, none⟩) rfl) ?_
  refine HL.v 2 rfl trivial (by kernel_rfl) (by kernel_rfl) (by kernel_rfl) (ltb rfl) (rv_fa (b := b1) (o := 0) fa_141_0 rfl) ?_
  refine HL.v 3 rfl trivial (by kernel_rfl) (by kernel_rfl) (by kernel_rfl) (ltb rfl) (rv_fa (b := b1) (o := 0) fa_90_0 rfl) ?_
  refine HL.v 4 rfl trivial (by kernel_rfl) (by kernel_rfl) (by kernel_rfl) (ltb rfl) (rv_ld (v := v3) (o := 0) (o' := 0) (j := 0) sc_88 rfl (srcInG 2 rfl) (bx_cells b1 141 _) rfl rfl) ?_
  refine HL.v 5 rfl trivial (by kernel_rfl) (by kernel_rfl) (by kernel_rfl) (ltb rfl) (rv_mv (v := .pointer (some ⟨b4016, ((w64 ((len a2.frames) - 1))).toNat * 5, none⟩)) rfl) ?_
  refine HL.v 6 rfl trivial (by kernel_rfl) (by kernel_rfl) (by kernel_rfl) (ltb rfl) (rv_nilCheck (a := ⟨b4016, ((w64 ((len a2.frames) - 1))).toNat * 5, none⟩) rfl) ?_
  refine HL.v 7 rfl trivial (by kernel_rfl) (by kernel_rfl) (by kernel_rfl) (ltb rfl) (rv_fa (b := b4016) (o := ((w64 ((len a2.frames) - 1))).toNat * 5) fa_153_0 rfl) ?_
  refine HL.v 8 rfl trivial (by kernel_rfl) (by kernel_rfl) (by kernel_rfl) (ltb rfl) (rv_ld (v := .int .i64 x4015.f) (o := ((w64 ((len a2.frames) - 1))).toNat * 5) (o' := ((w64 ((len a2.frames) - 1))).toNat * 5) (j := 0) sc_3 rfl (srcInG 0 rfl) (Hole.cells h4020) rfl rfl) ?_
  obtain ⟨x8416, hx_8, hp⟩ := bind_some' hp
  refine HL.w3 9 rfl trivial (by kernel_rfl) (by kernel_rfl) (by kernel_rfl) (ltb rfl) (rv_ix 88 (.tmp 20) (.tmp 24) (v := v3) (i := x4015.f) Try.underlying88 inf_25 rfl rfl rfl h4 hx_8) fun b8417 o8418 c8419 h8420 h8421 => ?_
  obtain ⟨v8422, v8424, rfl, h8423, h8425⟩ := h8420
  refine HL.v 10 rfl trivial (by kernel_rfl) (by kernel_rfl) (by kernel_rfl) (ltb rfl) (rv_fa (b := b8417) (o := o8418) fa_25_3 rfl) ?_
  refine HL.v 11 rfl trivial (by kernel_rfl) (by kernel_rfl) (by kernel_rfl) (ltb rfl) (rv_ld (v := v8424) (o := o8418 + 3) (o' := o8418) (j := 3) sc_23 rfl srcInH h8421 rfl rfl) ?_
  refine HL.v 12 rfl trivial (by kernel_rfl) (by kernel_rfl) (by kernel_rfl) (ltb rfl) (rv_mv (v := .pointer (some ⟨b4016, ((w64 ((len a2.frames) - 1))).toNat * 5, none⟩)) rfl) ?_
  refine HL.v 13 rfl trivial (by kernel_rfl) (by kernel_rfl) (by kernel_rfl) (ltb rfl) (rv_nilCheck (a := ⟨b4016, ((w64 ((len a2.frames) - 1))).toNat * 5, none⟩) rfl) ?_
  refine HL.v 14 rfl trivial (by kernel_rfl) (by kernel_rfl) (by kernel_rfl) (ltb rfl) (rv_fa (b := b4016) (o := ((w64 ((len a2.frames) - 1))).toNat * 5) fa_153_2 rfl) ?_
  refine HL.v 15 rfl trivial (by kernel_rfl) (by kernel_rfl) (by kernel_rfl) (ltb rfl) (rv_ld (v := .int .i64 x4015.block) (o := ((w64 ((len a2.frames) - 1))).toNat * 5 + 2) (o' := ((w64 ((len a2.frames) - 1))).toNat * 5) (j := 2) sc_3 rfl (srcInG 0 rfl) (Hole.cells h4020) rfl rfl) ?_
  obtain ⟨x11216, hx_9, hp⟩ := bind_some' hp
  refine HL.w3 16 rfl trivial (by kernel_rfl) (by kernel_rfl) (by kernel_rfl) (ltb rfl) (rv_ix 23 (.tmp 27) (.tmp 31) (v := v8424) (i := x4015.block) Try.underlying23 inf_85 rfl rfl rfl h8425 hx_9) fun b11217 o11218 c11219 h11220 h11221 => ?_
  obtain ⟨v11222, v11224, v11226, rfl, h11223, h11225, h11227⟩ := h11220
  refine HL.v 17 rfl trivial (by kernel_rfl) (by kernel_rfl) (by kernel_rfl) (ltb rfl) (rv_lda (o := o11218) (o' := o11218) (j := 0) (ds := [v11222, v11224, .int .i64 x11216.term.kind, .int .i64 x11216.term.arg, v11226]) ag_85 rfl srcInH h11221 rfl rfl rfl) ?_
  refine HL.one 18 rfl (by kernel_rfl) fun K_10 hK_11 => ?_
  refine TL.alloc (cs := [.slice none 0 0, .slice none 0 0, .int .i64 0, .int .i64 0, .slice none 0 0]) inf_85 (ltb rfl) rfl fun b12016 => ?_
  refine TL.nil (hK_11 _ _ (srcG 1 rfl (srcG 2 rfl (srcG 3 rfl (srcG 4 rfl srcG0)))) ?_)
  refine HL.one 19 rfl (by kernel_rfl) fun K_12 hK_13 => ?_
  refine TL.stB (ds := [v11222, v11224, .int .i64 x11216.term.kind, .int .i64 x11216.term.arg, v11226]) (o := 0) (cs := [.slice none 0 0, .slice none 0 0, .int .i64 0, .int .i64 0, .slice none 0 0]) (b := b12016) (u := .agg #[v11222, v11224, .int .i64 x11216.term.kind, .int .i64 x11216.term.arg, v11226]) 0 rfl ms_85 rfl rfl rfl (oc (h11223).one (oc (h11225).one (oc rfl (oc rfl (oc (h11227).one oc0))))) (leb rfl) ?_
  refine TL.norm (L' := [bx b12016 85 [v11222, v11224, .int .i64 x11216.term.kind, .int .i64 x11216.term.arg, v11226], F4018, F4019, bx b1 141 (([v3, v5, v7, .bool a2.out.done, .int .i64 a2.out.trap, .int .i64 a2.out.value, v10, .int .i64 a2.out.steps] : List Value) ++ (arrC a2.out.memory ++ ([] : List Value))), F11]) rfl ?_
  refine TL.nil (hK_13 _ _ (srcG 1 rfl (srcG 2 rfl (srcG 3 rfl (srcG 4 rfl srcG0)))) ?_)
  refine HL.done (by kernel_rfl) ?_
  refine TC.go hK_7 ?_
  refine TC.seq fun K_14 hK_15 => ?_
  refine TC.seq fun K_16 hK_17 => ?_
  refine TC.quiet mix (by kernel_rfl) ?_
  refine QL.v (ltb rfl) (rv_mv (v := .pointer (some ⟨b4016, ((w64 ((len a2.frames) - 1))).toNat * 5, none⟩)) rfl) ?_
  refine QL.v (ltb rfl) (rv_nilCheck (a := ⟨b4016, ((w64 ((len a2.frames) - 1))).toNat * 5, none⟩) rfl) ?_
  refine QL.v (ltb rfl) (rv_fa (b := b4016) (o := ((w64 ((len a2.frames) - 1))).toNat * 5) fa_153_3 rfl) ?_
  refine QL.v (ltb rfl) (rv_ld (v := .int .i64 x4015.at_) (o := ((w64 ((len a2.frames) - 1))).toNat * 5 + 3) (o' := ((w64 ((len a2.frames) - 1))).toNat * 5) (j := 3) sc_3 rfl (Src.at_ 1 rfl) (Hole.cells h4020) rfl rfl) ?_
  refine QL.v (ltb rfl) (rv_fa (b := b12016) (o := 0) fa_85_1 rfl) ?_
  refine QL.v (ltb rfl) (rv_ld (v := v11224) (o := 1) (o' := 0) (j := 1) sc_83 rfl (Src.at_ 0 rfl) (bx_cells b12016 85 _) rfl rfl) ?_
  refine QL.v (ltb rfl) (rv_lenI (v := v11224) Try.underlying83 rfl h11225) ?_
  refine QL.v (ltb rfl) (rv_eql (k := .i64) (m := x4015.at_) (n := (len x11216.ins)) rfl rfl) ?_
  refine QL.nil ?_
  refine TC.go hK_17 ?_
  by_cases hc_18 : x4015.at_ = (len x11216.ins)
  · rw [if_pos hc_18] at hp
    refine TC.condT (bT hc_18) ?_
    refine TC.seq fun K_19 hK_20 => ?_
    refine TC.region ?_
    refine TL.v (ltb rfl) (rv_mv (v := .pointer (some ⟨b1, 0, none⟩)) rfl) ?_
    refine TL.v (ltb rfl) (rv_mv (v := .pointer (some ⟨b4016, ((w64 ((len a2.frames) - 1))).toNat * 5, none⟩)) rfl) ?_
    refine TL.v (ltb rfl) (rv_fa (b := b12016) (o := 0) fa_85_2 rfl) ?_
    refine TL.v (ltb rfl) (rv_lda (o := 2) (o' := 0) (j := 2) (ds := [.int .i64 x11216.term.kind, .int .i64 x11216.term.arg, v11226]) ag_81 rfl (Src.at_ 0 rfl) (bx_cells b12016 85 _) rfl rfl rfl) ?_
    refine TL.pk' [3, 1, 1, 0, 0] (L' := [bx b1 141 (([v3, v5, v7, .bool a2.out.done, .int .i64 a2.out.trap, .int .i64 a2.out.value, v10, .int .i64 a2.out.steps] : List Value) ++ (arrC a2.out.memory ++ ([] : List Value))), F4018, F4019, bx b12016 85 [v11222, v11224, .int .i64 x11216.term.kind, .int .i64 x11216.term.arg, v11226], F11]) rfl ?_
    obtain ⟨x12816, hy_21, hp⟩ := bind_some' hp
    refine TL.callC (vs := [.pointer (some ⟨b1, 0, none⟩), .pointer (some ⟨b4016, ((w64 ((len a2.frames) - 1))).toNat * 5, none⟩), .agg #[.int .i64 x11216.term.kind, .int .i64 x11216.term.arg, v11226]]) (R := run_runner_end.R b1 a2 v3 v5 v10 x12816) [bx b1 141 (([v3, v5, v7, .bool a2.out.done, .int .i64 a2.out.trap, .int .i64 a2.out.value, v10, .int .i64 a2.out.steps] : List Value) ++ (arrC a2.out.memory ++ ([] : List Value))), F4018, F4019] [bx b12016 85 [v11222, v11224, .int .i64 x11216.term.kind, .int .i64 x11216.term.arg, v11226], F11] rfl cb_91 (ltb rfl) (mc rfl (mc rfl (mc rfl m0))) (fun w hw => run_runner_end_ok (a2 := a2) (a8 := x4015) (a9 := (w64 ((len a2.frames) - 1))) (a21 := x11216.term) (h4.mono subH) (h6.mono subH) h4020 h4025 h4024 (h12.ro.mono (subB 1 rfl)) (h11227.mono subH) hy_21 hw) fun v A' hR_22 => ?_
    obtain ⟨v12817, F12818, rfl, rfl, h12819⟩ := hR_22
    refine TL.norm (L' := [bx b1 141 (([v3, v5, v12817, .bool x12816.2.1, .int .i64 a2.out.trap, .int .i64 x12816.2.2, v10, .int .i64 a2.out.steps] : List Value) ++ (arrC a2.out.memory ++ ([] : List Value))), F12818, bx b12016 85 [v11222, v11224, .int .i64 x11216.term.kind, .int .i64 x11216.term.arg, v11226], F11]) rfl ?_
    refine TL.nil ?_
    refine TC.go hK_20 ?_
    refine TC.ret ?_
    obtain rfl := Option.some.inj hp
    exact fun w hw => retOk ⟨v12817, F12818, v10, F11, rfl, rfl, h12819, h12⟩ (hw.pick [0, 0, 1])
  · rw [if_neg hc_18] at hp
    refine TC.condF (bF hc_18) ?_
    refine TC.skip ?_
    refine TC.go hK_15 ?_
    refine TC.seq fun K_23 hK_24 => ?_
    refine TC.held ([bx b12016 85 [v11222, v11224, .int .i64 x11216.term.kind, .int .i64 x11216.term.arg, v11226], F4018, F4019, bx b1 141 (([v3, v5, v7, .bool a2.out.done, .int .i64 a2.out.trap, .int .i64 a2.out.value, v10, .int .i64 a2.out.steps] : List Value) ++ (arrC a2.out.memory ++ ([] : List Value))), F11].flatten ++ H) mix (srcG 0 rfl (srcG 1 rfl (srcG 2 rfl (srcG 3 rfl (srcG 4 rfl srcG0))))) ?_
    refine HL.v 0 rfl trivial (by kernel_rfl) (by kernel_rfl) (by kernel_rfl) (ltb rfl) (rv_fa (b := b12016) (o := 0) fa_85_1 rfl) ?_
    refine HL.v 1 rfl trivial (by kernel_rfl) (by kernel_rfl) (by kernel_rfl) (ltb rfl) (rv_ld (v := v11224) (o := 1) (o' := 0) (j := 1) sc_83 rfl (srcInG 0 rfl) (bx_cells b12016 85 _) rfl rfl) ?_
    refine HL.v 2 rfl trivial (by kernel_rfl) (by kernel_rfl) (by kernel_rfl) (ltb rfl) (rv_mv (v := .pointer (some ⟨b4016, ((w64 ((len a2.frames) - 1))).toNat * 5, none⟩)) rfl) ?_
    refine HL.v 3 rfl trivial (by kernel_rfl) (by kernel_rfl) (by kernel_rfl) (ltb rfl) (rv_nilCheck (a := ⟨b4016, ((w64 ((len a2.frames) - 1))).toNat * 5, none⟩) rfl) ?_
    refine HL.v 4 rfl trivial (by kernel_rfl) (by kernel_rfl) (by kernel_rfl) (ltb rfl) (rv_fa (b := b4016) (o := ((w64 ((len a2.frames) - 1))).toNat * 5) fa_153_3 rfl) ?_
    refine HL.v 5 rfl trivial (by kernel_rfl) (by kernel_rfl) (by kernel_rfl) (ltb rfl) (rv_ld (v := .int .i64 x4015.at_) (o := ((w64 ((len a2.frames) - 1))).toNat * 5 + 3) (o' := ((w64 ((len a2.frames) - 1))).toNat * 5) (j := 3) sc_3 rfl (srcInG 1 rfl) (Hole.cells h4020) rfl rfl) ?_
    obtain ⟨x15221, hx_25, hp⟩ := bind_some' hp
    refine HL.w3 6 rfl trivial (by kernel_rfl) (by kernel_rfl) (by kernel_rfl) (ltb rfl) (rv_ix 83 (.tmp 48) (.tmp 52) (v := v11224) (i := x4015.at_) Try.underlying83 inf_87 rfl rfl rfl h11225 hx_25) fun b15222 o15223 c15224 h15225 h15226 => ?_
    obtain ⟨v15227, rfl, h15228⟩ := h15225
    refine HL.v 7 rfl trivial (by kernel_rfl) (by kernel_rfl) (by kernel_rfl) (ltb rfl) (rv_lda (o := o15223) (o' := o15223) (j := 0) (ds := [.int .i64 x15221.op, .int .i64 x15221.dst, v15227, .int .i64 x15221.imm, .int .i64 x15221.fn]) ag_87 rfl srcInH h15226 rfl rfl rfl) ?_
    refine HL.one 8 rfl (by kernel_rfl) fun K_26 hK_27 => ?_
    refine TL.alloc (cs := [.int .i64 0, .int .i64 0, .slice none 0 0, .int .i64 0, .int .i64 0]) inf_87 (ltb rfl) rfl fun b16021 => ?_
    refine TL.nil (hK_27 _ _ (srcG 1 rfl (srcG 2 rfl (srcG 3 rfl (srcG 4 rfl (srcG 5 rfl srcG0))))) ?_)
    refine HL.one 9 rfl (by kernel_rfl) fun K_28 hK_29 => ?_
    refine TL.stB (ds := [.int .i64 x15221.op, .int .i64 x15221.dst, v15227, .int .i64 x15221.imm, .int .i64 x15221.fn]) (o := 0) (cs := [.int .i64 0, .int .i64 0, .slice none 0 0, .int .i64 0, .int .i64 0]) (b := b16021) (u := .agg #[.int .i64 x15221.op, .int .i64 x15221.dst, v15227, .int .i64 x15221.imm, .int .i64 x15221.fn]) 0 rfl ms_87 rfl rfl rfl (oc rfl (oc rfl (oc (h15228).one (oc rfl (oc rfl oc0))))) (leb rfl) ?_
    refine TL.norm (L' := [bx b16021 87 [.int .i64 x15221.op, .int .i64 x15221.dst, v15227, .int .i64 x15221.imm, .int .i64 x15221.fn], bx b12016 85 [v11222, v11224, .int .i64 x11216.term.kind, .int .i64 x11216.term.arg, v11226], F4018, F4019, bx b1 141 (([v3, v5, v7, .bool a2.out.done, .int .i64 a2.out.trap, .int .i64 a2.out.value, v10, .int .i64 a2.out.steps] : List Value) ++ (arrC a2.out.memory ++ ([] : List Value))), F11]) rfl ?_
    refine TL.nil (hK_29 _ _ (srcG 1 rfl (srcG 2 rfl (srcG 3 rfl (srcG 4 rfl (srcG 5 rfl srcG0))))) ?_)
    refine HL.done (by kernel_rfl) ?_
    refine TC.go hK_24 ?_
    refine TC.seq fun K_30 hK_31 => ?_
    refine TC.region ?_
    refine TL.v (ltb rfl) (rv_mv (v := .pointer (some ⟨b4016, ((w64 ((len a2.frames) - 1))).toNat * 5, none⟩)) rfl) ?_
    refine TL.v (ltb rfl) (rv_nilCheck (a := ⟨b4016, ((w64 ((len a2.frames) - 1))).toNat * 5, none⟩) rfl) ?_
    refine TL.v (ltb rfl) (rv_fa (b := b4016) (o := ((w64 ((len a2.frames) - 1))).toNat * 5) fa_153_3 rfl) ?_
    refine TL.v (ltb rfl) (rv_ld (v := .int .i64 x4015.at_) (o := ((w64 ((len a2.frames) - 1))).toNat * 5 + 3) (o' := ((w64 ((len a2.frames) - 1))).toNat * 5) (j := 3) sc_3 rfl (Src.at_ 2 rfl) (Hole.cells h4020) rfl rfl) ?_
    refine TL.v (ltb rfl) (rv_add (k := .i64) (m := x4015.at_) (n := 1) rfl rfl) ?_
    refine TL.v (ltb rfl) (rv_nilCheck (a := ⟨b4016, ((w64 ((len a2.frames) - 1))).toNat * 5, none⟩) rfl) ?_
    refine TL.v (ltb rfl) (rv_fa (b := b4016) (o := ((w64 ((len a2.frames) - 1))).toNat * 5) fa_153_3 rfl) ?_
    refine TL.pk' [2, 0, 0, 0, 0, 0] (L' := [F4018, bx b16021 87 [.int .i64 x15221.op, .int .i64 x15221.dst, v15227, .int .i64 x15221.imm, .int .i64 x15221.fn], bx b12016 85 [v11222, v11224, .int .i64 x11216.term.kind, .int .i64 x11216.term.arg, v11226], F4019, bx b1 141 (([v3, v5, v7, .bool a2.out.done, .int .i64 a2.out.trap, .int .i64 a2.out.value, v10, .int .i64 a2.out.steps] : List Value) ++ (arrC a2.out.memory ++ ([] : List Value))), F11]) rfl ?_
    refine TL.stH (ds := [.int .i64 (w64 (x4015.at_ + 1))]) (o := 3) (o' := ((w64 ((len a2.frames) - 1))).toNat * 5 + 3) (u := .int .i64 (w64 (x4015.at_ + 1))) h4020 ms_3 rfl rfl rfl rfl (oc rfl oc0) (leb rfl) fun F16821 h16822 => ?_
    refine TL.nil ?_
    refine TC.go hK_31 ?_
    refine TC.region ?_
    refine TL.v (ltb rfl) (rv_mv (v := .pointer (some ⟨b1, 0, none⟩)) rfl) ?_
    refine TL.v (ltb rfl) (rv_mv (v := .pointer (some ⟨b4016, ((w64 ((len a2.frames) - 1))).toNat * 5, none⟩)) rfl) ?_
    refine TL.v (ltb rfl) (rv_lda (o := 0) (o' := 0) (j := 0) (ds := [.int .i64 x15221.op, .int .i64 x15221.dst, v15227, .int .i64 x15221.imm, .int .i64 x15221.fn]) ag_87 rfl (Src.at_ 1 rfl) (bx_cells b16021 87 _) rfl rfl rfl) ?_
    refine TL.pk' [4, 0, 2, 2, 0, 0] (L' := [bx b1 141 (([v3, v5, v7, .bool a2.out.done, .int .i64 a2.out.trap, .int .i64 a2.out.value, v10, .int .i64 a2.out.steps] : List Value) ++ (arrC a2.out.memory ++ ([] : List Value))), F16821, F4019, F11, bx b16021 87 [.int .i64 x15221.op, .int .i64 x15221.dst, v15227, .int .i64 x15221.imm, .int .i64 x15221.fn], bx b12016 85 [v11222, v11224, .int .i64 x11216.term.kind, .int .i64 x11216.term.arg, v11226]]) rfl ?_
    obtain ⟨x16823, hy_32, hp⟩ := bind_some' hp
    refine TL.callC (vs := [.pointer (some ⟨b1, 0, none⟩), .pointer (some ⟨b4016, ((w64 ((len a2.frames) - 1))).toNat * 5, none⟩), .agg #[.int .i64 x15221.op, .int .i64 x15221.dst, v15227, .int .i64 x15221.imm, .int .i64 x15221.fn]]) (R := run_runner_instr.R b1 a2 v3 v5 x16823) [bx b1 141 (([v3, v5, v7, .bool a2.out.done, .int .i64 a2.out.trap, .int .i64 a2.out.value, v10, .int .i64 a2.out.steps] : List Value) ++ (arrC a2.out.memory ++ ([] : List Value))), F16821, F4019, F11] [bx b16021 87 [.int .i64 x15221.op, .int .i64 x15221.dst, v15227, .int .i64 x15221.imm, .int .i64 x15221.fn], bx b12016 85 [v11222, v11224, .int .i64 x11216.term.kind, .int .i64 x11216.term.arg, v11226]] rfl cb_92 (ltb rfl) (mc rfl (mc rfl (mc rfl m0))) (fun w hw => run_runner_instr_ok (a2 := a2) (a8 := (⟨x4015.f, x4015.regs, x4015.block, (w64 (x4015.at_ + 1)), x4015.dst⟩ : PFrame)) (a9 := (w64 ((len a2.frames) - 1))) (a22 := x15221) (h4.mono subH) (h6.mono subH) h16822 h4025 h4024 h12 (h15228.mono subH) hy_32 hw) fun v A' hR_33 => ?_
    obtain ⟨v16824, F16825, v16827, F16828, rfl, rfl, h16826, h16829⟩ := hR_33
    refine TL.norm (L' := [bx b1 141 (([v3, v5, v16824, .bool x16823.2.1, .int .i64 x16823.2.2.1, .int .i64 a2.out.value, v16827, .int .i64 a2.out.steps] : List Value) ++ (arrC x16823.2.2.2.2 ++ ([] : List Value))), F16825, F16828, bx b16021 87 [.int .i64 x15221.op, .int .i64 x15221.dst, v15227, .int .i64 x15221.imm, .int .i64 x15221.fn], bx b12016 85 [v11222, v11224, .int .i64 x11216.term.kind, .int .i64 x11216.term.arg, v11226]]) rfl ?_
    refine TL.nil ?_
    obtain rfl := Option.some.inj hp
    exact fun w hw => retOk ⟨v16824, F16825, v16827, F16828, rfl, rfl, h16826, h16829⟩ (hw.pick [0, 0, 0])

/-! ### fettle/run.Run -/
abbrev run_Run.R (r : POutcome × GErr) (v : Value) (A : List FP) : Prop := ∃ (w1 : Value) (G1 : FP) (w2 : Value) (G2 : FP), .tuple #[.agg ((([.bool r.1.done, .int .i64 r.1.trap, .int .i64 r.1.value, w1, .int .i64 r.1.steps] : List Value) ++ (arrC r.1.memory ++ ([] : List Value)))).toArray, w2] = v ∧ A = [G1, G2] ∧ SlO 2 (kInt .i64) r.1.out w1 G1 ∧ ErO 72 143 145 r.2 w2 G2
def run_Run.nx63  (x47 : List PFrame) (x51 : Bool) (x52 : Int) (x53 : Int) (x54 : List Int) (x58 : Int) (x59 : A64) : Option (POutcome × GErr) :=
  some ((⟨x51, x52, x53, x54, x58, x59⟩ : POutcome), GErr.no)
def run_Run.bd63 (a1 : PModule) (a8 : Int) (x25 : List (List (List Int))) (x34 : List PFrame) (x38 : Bool) (x39 : Int) (x40 : Int) (x41 : List Int) (x45 : Int) (x46 : A64) : Option (Ex (List PFrame × Bool × Int × Int × List Int × Int × A64) (List PFrame × Bool × Int × Int × List Int × Int × A64)) :=
  if x45 < a8 ∧ (!x38) = true then
    (run_runner_step (⟨(⟨a1.funcs⟩ : PModule), x25, x34, (⟨x38, x39, x40, x41, (w64 (x45 + 1)), x46⟩ : POutcome)⟩ : PRunner)).bind fun x61 =>
    some (.go (x61.1, x61.2.1, x61.2.2.1, x61.2.2.2.1, x61.2.2.2.2.1, (w64 (x45 + 1)), x61.2.2.2.2.2))
  else
    some (.ret (x34, x38, x39, x40, x41, x45, x46))
def run_Run.nx42 (a1 : PModule) (a4 : Int) (a5 : List Int) (a8 : Int) (x25 : List (List (List Int))) : Option (POutcome × GErr) :=
  (run_runner_enter (⟨(⟨a1.funcs⟩ : PModule), x25, ([] : List PFrame), (⟨false, 0, 0, [], 0, A64.zero⟩ : POutcome)⟩ : PRunner) a4 a5 (-1)).bind fun x30 =>
  (whl (fun (s : (List PFrame × Bool × Int × Int × List Int × Int × A64)) => run_Run.bd63 a1 a8 x25 s.1 s.2.1 s.2.2.1 s.2.2.2.1 s.2.2.2.2.1 s.2.2.2.2.2.1 s.2.2.2.2.2.2) FUEL (x30, false, 0, 0, ([] : List Int), 0, A64.zero)).bind fun z =>
  run_Run.nx63 z.1 z.2.1 z.2.2.1 z.2.2.2.1 z.2.2.2.2.1 z.2.2.2.2.2.1 z.2.2.2.2.2.2
def run_Run.jn108 (x24 : Int) (x69 : List (List (List Int))) : Option (Ex (List (List (List Int))) (List (List (List Int)) × Int)) :=
  some (.go (x69, (w64 (x24 + 1))))
def run_Run.bd42 (a1 : PModule) (x20 : List (List (List Int))) (x24 : Int) : Option (Ex (List (List (List Int))) (List (List (List Int)) × Int)) :=
  if x24 < (len a1.funcs) then
    (idx a1.funcs x24).bind fun x73 =>
    (check_Ahead x73).bind fun x2485 =>
    (cat x20 [x2485]).bind fun x3285 =>
    run_Run.jn108 x24 x3285
  else
    some (.ret x20)
def run_Run (a1 : PModule) (a4 : Int) (a5 : List Int) (a8 : Int) : Option (POutcome × GErr) :=
  (check_Module a1).bind fun x11 =>
  if ¬ x11 = GErr.no then
    some ((⟨false, 0, 0, ([] : List Int), 0, A64.zero⟩ : POutcome), x11)
  else
    (run_fits a1 a4 a5 a8).bind fun x16 =>
    if (!x16) = true then
      some ((⟨false, 0, 0, ([] : List Int), 0, A64.zero⟩ : POutcome), (GErr.code 1))
    else
      (whl (fun (s : (List (List (List Int)) × Int)) => run_Run.bd42 a1 s.1 s.2) FUEL (([] : List (List (List Int))), 0)).bind fun z =>
      run_Run.nx42 a1 a4 a5 a8 z
set_option maxHeartbeats 4000000 in
theorem run_Run_ok {E : World} {H : FP} {w : World} {a1 : PModule} {a4 : Int} {a5 : List Int} {a8 : Int} {v2 : Value} {v6 : Value} {r : POutcome × GErr} (h3 : SlI kFunc H a1.funcs v2) (h7 : SlI (kInt .i64) H a5 v6) (hp : run_Run a1 a4 a5 a8 = some r) (hst : St E H [] w) :
    Fn Try.prog 55 #[.agg #[v2], .int .i64 a4, v6, .int .i64 a8] w fun v w' => ∃ A, run_Run.R r v A ∧ St E H A w' := by
  refine Fn.bodyV (fn := Try.f55) (args := [.agg #[v2], .int .i64 a4, v6, .int .i64 a8]) E H [] 84 Try.func55 rfl rfl (leb rfl) hst ?_
  unfold run_Run at hp
  refine TC.seq fun K_1 hK_2 => ?_
  refine TC.region ?_
  refine TL.box (cs := [v2]) (v := .agg #[v2]) (ltb rfl) rfl rfl fun b9 => ?_
  refine TL.alloc (cs := (([.bool false, .int .i64 0, .int .i64 0, .slice none 0 0, .int .i64 0] : List Value) ++ (arrC A64.zero ++ ([] : List Value)))) inf_104 (ltb rfl) rfl fun b10 => ?_
  refine TL.v (ltb rfl) (rv_as (v := .nilIface) rfl) ?_
  refine TL.nil ?_
  refine TC.go hK_2 ?_
  refine TC.seq fun K_3 hK_4 => ?_
  refine TC.seq fun K_5 hK_6 => ?_
  refine TC.region ?_
  refine TL.v (ltb rfl) (rv_lda (o := 0) (o' := 0) (j := 0) (ds := [v2]) ag_90 rfl (Src.at_ 1 rfl) (bx_cells b9 90 _) rfl rfl rfl) ?_
  obtain ⟨x11, hy_7, hp⟩ := bind_some' hp
  refine TL.callC (vs := [.agg #[v2]]) (R := check_Module.R x11) [] [bx b10 104 (([.bool false, .int .i64 0, .int .i64 0, .slice none 0 0, .int .i64 0] : List Value) ++ (arrC A64.zero ++ ([] : List Value))), bx b9 90 [v2]] rfl cb_59 (ltb rfl) (mc rfl m0) (fun w hw => check_Module_ok (a1 := a1) (h3.mono subH) hy_7 hw) fun v A' hR_8 => ?_
  obtain ⟨v12, F13, rfl, rfl, h14⟩ := hR_8
  refine TL.norm (L' := [F13, bx b10 104 (([.bool false, .int .i64 0, .int .i64 0, .slice none 0 0, .int .i64 0] : List Value) ++ (arrC A64.zero ++ ([] : List Value))), bx b9 90 [v2]]) rfl ?_
  refine TL.v (ltb rfl) (rv_as (v := v12) rfl) ?_
  refine TL.nil ?_
  refine TC.go hK_6 ?_
  refine TC.seq fun K_9 hK_10 => ?_
  refine TC.region ?_
  refine TL.v (ltb rfl) (rv_mv (v := v12) rfl) ?_
  refine TL.v (ltb rfl) (rv_neqEN ifc_49 h14 rfl) ?_
  refine TL.nil ?_
  refine TC.go hK_10 ?_
  by_cases hc_11 : ¬ x11 = GErr.no
  · rw [if_pos hc_11] at hp
    refine TC.condT (bT hc_11) ?_
    refine TC.seq fun K_12 hK_13 => ?_
    refine TC.region ?_
    refine TL.v (ltb rfl) (rv_bv (vs := []) (ds := (([.bool false, .int .i64 0, .int .i64 0, .slice none 0 0, .int .i64 0] : List Value) ++ (arrC A64.zero ++ ([] : List Value)))) p0 (fun w => by kernel_rfl)) ?_
    refine TL.v (ltb rfl) (rv_mv (v := v12) rfl) ?_
    refine TL.stB (ds := (([.bool false, .int .i64 0, .int .i64 0, .slice none 0 0, .int .i64 0] : List Value) ++ (arrC A64.zero ++ ([] : List Value)))) (o := 0) (cs := (([.bool false, .int .i64 0, .int .i64 0, .slice none 0 0, .int .i64 0] : List Value) ++ (arrC A64.zero ++ ([] : List Value)))) (b := b10) (u := .agg ((([.bool false, .int .i64 0, .int .i64 0, .slice none 0 0, .int .i64 0] : List Value) ++ (arrC A64.zero ++ ([] : List Value)))).toArray) 1 rfl ms_104 rfl rfl rfl (one_app (oc rfl (oc rfl (oc rfl (oc rfl (oc rfl oc0))))) (one_app (arr_one _) oc0)) (leb rfl) ?_
    refine TL.respell (b := b10) (T := 104) (cs := over (([.bool false, .int .i64 0, .int .i64 0, .slice none 0 0, .int .i64 0] : List Value) ++ (arrC A64.zero ++ ([] : List Value))) 0 (([.bool false, .int .i64 0, .int .i64 0, .slice none 0 0, .int .i64 0] : List Value) ++ (arrC A64.zero ++ ([] : List Value)))) (ds := (([.bool false, .int .i64 0, .int .i64 0, .slice none 0 0, .int .i64 0] : List Value) ++ (arrC A64.zero ++ ([] : List Value)))) 1 rfl (over_all rfl) ?_
    refine TL.norm (L' := [F13, bx b10 104 (([.bool false, .int .i64 0, .int .i64 0, .slice none 0 0, .int .i64 0] : List Value) ++ (arrC A64.zero ++ ([] : List Value))), bx b9 90 [v2]]) rfl ?_
    refine TL.v (ltb rfl) (rv_as (v := v12) rfl) ?_
    refine TL.nil ?_
    refine TC.go hK_13 ?_
    refine TC.ret ?_
    refine W.new0 ?_
    obtain rfl := Option.some.inj hp
    exact fun w hw => retC2 hw rfl rfl rfl ag_104 2 rfl rfl ⟨(.slice none 0 0), ([] : FP), v12, F13, rfl, rfl, (SlO.nil 2), h14⟩ (hw.pick [0, 0])
  · rw [if_neg hc_11] at hp
    refine TC.condF (bF hc_11) ?_
    refine TC.skip ?_
    refine TC.go hK_4 ?_
    refine TC.seq fun K_14 hK_15 => ?_
    refine TC.seq fun K_16 hK_17 => ?_
    refine TC.region ?_
    refine TL.v (ltb rfl) (rv_lda (o := 0) (o' := 0) (j := 0) (ds := [v2]) ag_90 rfl (Src.at_ 2 rfl) (bx_cells b9 90 _) rfl rfl rfl) ?_
    refine TL.v (ltb rfl) (rv_mv (v := .int .i64 a4) rfl) ?_
    refine TL.v (ltb rfl) (rv_mv (v := v6) rfl) ?_
    refine TL.v (ltb rfl) (rv_mv (v := .int .i64 a8) rfl) ?_
    obtain ⟨x16, hy_18, hp⟩ := bind_some' hp
    refine TL.callC (vs := [.agg #[v2], .int .i64 a4, v6, .int .i64 a8]) (R := run_fits.R x16) [] [F13, bx b10 104 (([.bool false, .int .i64 0, .int .i64 0, .slice none 0 0, .int .i64 0] : List Value) ++ (arrC A64.zero ++ ([] : List Value))), bx b9 90 [v2]] rfl cb_81 (ltb rfl) (mc rfl (mc rfl (mc rfl (mc rfl m0)))) (fun w hw => run_fits_ok (a1 := a1) (a4 := a4) (a5 := a5) (a8 := a8) (h3.mono subH) (h7.mono subH) hy_18 hw) fun v A' hR_19 => ?_
    obtain ⟨rfl, rfl⟩ := hR_19
    refine TL.norm (L' := [F13, bx b10 104 (([.bool false, .int .i64 0, .int .i64 0, .slice none 0 0, .int .i64 0] : List Value) ++ (arrC A64.zero ++ ([] : List Value))), bx b9 90 [v2]]) rfl ?_
    refine TL.v (ltb rfl) (rv_not (b := x16) rfl) ?_
    refine TL.nil ?_
    refine TC.go hK_17 ?_
    by_cases hc_20 : (!x16) = true
    · rw [if_pos hc_20] at hp
      refine TC.condT (bbT hc_20) ?_
      refine TC.seq fun K_21 hK_22 => ?_
      refine TC.region ?_
      refine TL.v (ltb rfl) (rv_bv (vs := []) (ds := (([.bool false, .int .i64 0, .int .i64 0, .slice none 0 0, .int .i64 0] : List Value) ++ (arrC A64.zero ++ ([] : List Value)))) p0 (fun w => by kernel_rfl)) ?_
      refine TL.v (ltb rfl) (rv_makeIface (v := .int .i64 1) Try.underlying72 (fun ms h => by cases h) rfl) ?_
      refine TL.stB (ds := (([.bool false, .int .i64 0, .int .i64 0, .slice none 0 0, .int .i64 0] : List Value) ++ (arrC A64.zero ++ ([] : List Value)))) (o := 0) (cs := (([.bool false, .int .i64 0, .int .i64 0, .slice none 0 0, .int .i64 0] : List Value) ++ (arrC A64.zero ++ ([] : List Value)))) (b := b10) (u := .agg ((([.bool false, .int .i64 0, .int .i64 0, .slice none 0 0, .int .i64 0] : List Value) ++ (arrC A64.zero ++ ([] : List Value)))).toArray) 1 rfl ms_104 rfl rfl rfl (one_app (oc rfl (oc rfl (oc rfl (oc rfl (oc rfl oc0))))) (one_app (arr_one _) oc0)) (leb rfl) ?_
      refine TL.respell (b := b10) (T := 104) (cs := over (([.bool false, .int .i64 0, .int .i64 0, .slice none 0 0, .int .i64 0] : List Value) ++ (arrC A64.zero ++ ([] : List Value))) 0 (([.bool false, .int .i64 0, .int .i64 0, .slice none 0 0, .int .i64 0] : List Value) ++ (arrC A64.zero ++ ([] : List Value)))) (ds := (([.bool false, .int .i64 0, .int .i64 0, .slice none 0 0, .int .i64 0] : List Value) ++ (arrC A64.zero ++ ([] : List Value)))) 1 rfl (over_all rfl) ?_
      refine TL.norm (L' := [F13, bx b10 104 (([.bool false, .int .i64 0, .int .i64 0, .slice none 0 0, .int .i64 0] : List Value) ++ (arrC A64.zero ++ ([] : List Value))), bx b9 90 [v2]]) rfl ?_
      refine TL.v (ltb rfl) (rv_as (v := .iface 72 (.int .i64 1)) rfl) ?_
      refine TL.nil ?_
      refine TC.go hK_22 ?_
      refine TC.ret ?_
      refine W.new0 ?_
      refine W.new0 ?_
      obtain rfl := Option.some.inj hp
      exact fun w hw => retC2 hw rfl rfl rfl ag_104 3 rfl rfl ⟨(.slice none 0 0), ([] : FP), (.iface 72 (.int .i64 1)), ([] : FP), rfl, rfl, (SlO.nil 2), (ErO.mk _ : ErO 72 143 145 (GErr.code 1) (.iface 72 (.int .i64 1)) [])⟩ (hw.pick [1, 0])
    · rw [if_neg hc_20] at hp
      refine TC.condF (bbF hc_20) ?_
      refine TC.skip ?_
      refine TC.go hK_15 ?_
      refine TC.seq fun K_23 hK_24 => ?_
      refine TC.region ?_
      refine TL.v (ltb rfl) (rv_lda (o := 0) (o' := 0) (j := 0) (ds := [v2]) ag_90 rfl (Src.at_ 2 rfl) (bx_cells b9 90 _) rfl rfl rfl) ?_
      refine TL.v (ltb rfl) (rv_bv (vs := [(0, .agg #[v2])]) (ds := (([v2, .slice none 0 0, .slice none 0 0, .bool false, .int .i64 0, .int .i64 0, .slice none 0 0, .int .i64 0] : List Value) ++ (arrC A64.zero ++ ([] : List Value)))) (pc rfl p0) (fun w => by kernel_rfl)) ?_
      refine TL.box (cs := (([v2, .slice none 0 0, .slice none 0 0, .bool false, .int .i64 0, .int .i64 0, .slice none 0 0, .int .i64 0] : List Value) ++ (arrC A64.zero ++ ([] : List Value)))) (v := .agg ((([v2, .slice none 0 0, .slice none 0 0, .bool false, .int .i64 0, .int .i64 0, .slice none 0 0, .int .i64 0] : List Value) ++ (arrC A64.zero ++ ([] : List Value)))).toArray) (ltb rfl) rfl rfl fun b19 => ?_
      refine TL.v (ltb rfl) (rv_as (v := .pointer (some ⟨b19, 0, none⟩)) rfl) ?_
      refine TL.nil ?_
      refine TC.go hK_24 ?_
      refine TC.seq fun K_25 hK_26 => ?_
      refine TC.seq fun K_27 hK_28 => ?_
      refine TC.region ?_
      refine TL.v (ltb rfl) (rv_fa (b := b9) (o := 0) fa_90_0 rfl) ?_
      refine TL.v (ltb rfl) (rv_ld (v := v2) (o := 0) (o' := 0) (j := 0) sc_88 rfl (Src.at_ 3 rfl) (bx_cells b9 90 _) rfl rfl) ?_
      refine TL.v (ltb rfl) (rv_lenI (v := v2) Try.underlying88 rfl h3) ?_
      refine TL.v (ltb rfl) (rv_mv (v := .int .i64 0) rfl) ?_
      refine TL.nil ?_
      refine TC.go hK_28 ?_
      refine TC.block ?_
      obtain ⟨z_38, hz_39, hr_40⟩ := bind_some' hp
      clear hp
      have hJ_90 : ∀ (x25 : List (List (List Int))) (v26 : Value) (F27 : FP) (e_43 : Env) (h28 : SlO 28 (kSl 22 (kSl 3 (kInt .i64))) x25 v26 F27) (h_44 : e_43 1 = .int .i64 a4) (h_45 : e_43 2 = v6) (h_46 : e_43 3 = .int .i64 a8) (h_47 : e_43 8 = .pointer (some ⟨b10, 0, none⟩)) (h_48 : e_43 11 = .pointer (some ⟨b19, 0, none⟩)) (hq_91 : x25 = z_38), ∀ w, St E H [bx b10 104 (([.bool false, .int .i64 0, .int .i64 0, .slice none 0 0, .int .i64 0] : List Value) ++ (arrC A64.zero ++ ([] : List Value))), bx b19 141 (([v2, v26, .slice none 0 0, .bool false, .int .i64 0, .int .i64 0, .slice none 0 0, .int .i64 0] : List Value) ++ (arrC A64.zero ++ ([] : List Value))), F27] w → K_25 e_43 w := by
        intro x25 v26 F27 e_43 h28 h_44 h_45 h_46 h_47 h_48 hq_91
        subst hq_91
        replace hp : run_Run.nx42 a1 a4 a5 a8 x25 = some r := hr_40
        unfold run_Run.nx42 at hp
        refine TC.go hK_26 ?_
        refine TC.seq fun K_49 hK_50 => ?_
        refine TC.region ?_
        refine TL.v (ltb rfl) (rv_mv (v := .pointer (some ⟨b19, 0, none⟩)) h_48) ?_
        refine TL.v (ltb rfl) (rv_mv (v := .int .i64 a4) h_44) ?_
        refine TL.v (ltb rfl) (rv_mv (v := v6) h_45) ?_
        refine TL.new0 ?_
        refine TL.pk' [2, 0, 0, 0] (L' := [bx b19 141 (([v2, v26, (.slice none 0 0), .bool false, .int .i64 0, .int .i64 0, .slice none 0 0, .int .i64 0] : List Value) ++ (arrC A64.zero ++ ([] : List Value))), ([] : FP), bx b10 104 (([.bool false, .int .i64 0, .int .i64 0, .slice none 0 0, .int .i64 0] : List Value) ++ (arrC A64.zero ++ ([] : List Value))), F27]) rfl ?_
        obtain ⟨x30, hy_51, hp⟩ := bind_some' hp
        refine TL.callC (vs := [.pointer (some ⟨b19, 0, none⟩), .int .i64 a4, v6, .int .i64 (-1)]) (R := run_runner_enter.R b19 (⟨(⟨a1.funcs⟩ : PModule), x25, ([] : List PFrame), (⟨false, 0, 0, [], 0, A64.zero⟩ : POutcome)⟩ : PRunner) v2 v26 (.slice none 0 0) x30) [bx b19 141 (([v2, v26, (.slice none 0 0), .bool false, .int .i64 0, .int .i64 0, .slice none 0 0, .int .i64 0] : List Value) ++ (arrC A64.zero ++ ([] : List Value))), ([] : FP)] [bx b10 104 (([.bool false, .int .i64 0, .int .i64 0, .slice none 0 0, .int .i64 0] : List Value) ++ (arrC A64.zero ++ ([] : List Value))), F27] rfl cb_82 (ltb rfl) (mc rfl (mc rfl (mc rfl (mc rfl m0)))) (fun w hw => run_runner_enter_ok (a2 := (⟨(⟨a1.funcs⟩ : PModule), x25, ([] : List PFrame), (⟨false, 0, 0, [], 0, A64.zero⟩ : POutcome)⟩ : PRunner)) (a13 := a4) (a14 := a5) (a17 := -1) (h3.mono subH) (h28.ro.mono (subB 1 rfl)) (SlO.nil 153) ((SlI.nil (G := H) none 0).mono subH) (h7.mono subH) hy_51 hw) fun v A' hR_52 => ?_
        obtain ⟨v31, F32, rfl, rfl, h33⟩ := hR_52
        refine TL.norm (L' := [bx b19 141 (([v2, v26, v31, .bool false, .int .i64 0, .int .i64 0, .slice none 0 0, .int .i64 0] : List Value) ++ (arrC A64.zero ++ ([] : List Value))), F32, bx b10 104 (([.bool false, .int .i64 0, .int .i64 0, .slice none 0 0, .int .i64 0] : List Value) ++ (arrC A64.zero ++ ([] : List Value))), F27]) rfl ?_
        refine TL.nil ?_
        refine TC.go hK_50 ?_
        refine TC.seq fun K_53 hK_54 => ?_
        refine TC.block ?_
        obtain ⟨z_59, hz_60, hr_61⟩ := bind_some' hp
        clear hp
        have hJ_69 : ∀ (x47 : List PFrame) (x51 : Bool) (x52 : Int) (x53 : Int) (x54 : List Int) (x58 : Int) (x59 : A64) (v48 : Value) (F49 : FP) (v55 : Value) (F56 : FP) (e_64 : Env) (h50 : SlO 153 kFrame x47 v48 F49) (h57 : SlO 2 (kInt .i64) x54 v55 F56) (h_65 : e_64 8 = .pointer (some ⟨b10, 0, none⟩)) (h_66 : e_64 11 = .pointer (some ⟨b19, 0, none⟩)) (hq_70 : (x47, x51, x52, x53, x54, x58, x59) = z_59), ∀ w, St E H [bx b10 104 (([.bool false, .int .i64 0, .int .i64 0, .slice none 0 0, .int .i64 0] : List Value) ++ (arrC A64.zero ++ ([] : List Value))), bx b19 141 (([v2, v26, v48, .bool x51, .int .i64 x52, .int .i64 x53, v55, .int .i64 x58] : List Value) ++ (arrC x59 ++ ([] : List Value))), F27, F49, F56] w → K_53 e_64 w := by
          intro x47 x51 x52 x53 x54 x58 x59 v48 F49 v55 F56 e_64 h50 h57 h_65 h_66 hq_70
          subst hq_70
          replace hp : run_Run.nx63 x47 x51 x52 x53 x54 x58 x59 = some r := hr_61
          unfold run_Run.nx63 at hp
          refine TC.go hK_54 ?_
          refine TC.seq fun K_67 hK_68 => ?_
          refine TC.region ?_
          refine TL.v (ltb rfl) (rv_mv (v := .pointer (some ⟨b19, 0, none⟩)) h_66) ?_
          refine TL.v (ltb rfl) (rv_nilCheck (a := ⟨b19, 0, none⟩) rfl) ?_
          refine TL.v (ltb rfl) (rv_fa (b := b19) (o := 0) fa_141_3 rfl) ?_
          refine TL.v (ltb rfl) (rv_lda (o := 3) (o' := 0) (j := 3) (ds := (([.bool x51, .int .i64 x52, .int .i64 x53, v55, .int .i64 x58] : List Value) ++ (arrC x59 ++ ([] : List Value)))) ag_104 rfl (Src.at_ 1 rfl) (bx_cells b19 141 _) rfl rfl rfl) ?_
          refine TL.stB (ds := (([.bool x51, .int .i64 x52, .int .i64 x53, v55, .int .i64 x58] : List Value) ++ (arrC x59 ++ ([] : List Value)))) (o := 0) (cs := (([.bool false, .int .i64 0, .int .i64 0, .slice none 0 0, .int .i64 0] : List Value) ++ (arrC A64.zero ++ ([] : List Value)))) (b := b10) (u := .agg ((([.bool x51, .int .i64 x52, .int .i64 x53, v55, .int .i64 x58] : List Value) ++ (arrC x59 ++ ([] : List Value)))).toArray) 0 rfl ms_104 h_65 rfl rfl (one_app (oc rfl (oc rfl (oc rfl (oc (h57).one (oc rfl oc0))))) (one_app (arr_one _) oc0)) (leb rfl) ?_
          refine TL.respell (b := b10) (T := 104) (cs := over (([.bool false, .int .i64 0, .int .i64 0, .slice none 0 0, .int .i64 0] : List Value) ++ (arrC A64.zero ++ ([] : List Value))) 0 (([.bool x51, .int .i64 x52, .int .i64 x53, v55, .int .i64 x58] : List Value) ++ (arrC x59 ++ ([] : List Value)))) (ds := (([.bool x51, .int .i64 x52, .int .i64 x53, v55, .int .i64 x58] : List Value) ++ (arrC x59 ++ ([] : List Value)))) 0 rfl (over_all rfl) ?_
          refine TL.norm (L' := [bx b10 104 (([.bool x51, .int .i64 x52, .int .i64 x53, v55, .int .i64 x58] : List Value) ++ (arrC x59 ++ ([] : List Value))), bx b19 141 (([v2, v26, v48, .bool x51, .int .i64 x52, .int .i64 x53, v55, .int .i64 x58] : List Value) ++ (arrC x59 ++ ([] : List Value))), F27, F49, F56]) rfl ?_
          refine TL.v (ltb rfl) (rv_as (v := .nilIface) rfl) ?_
          refine TL.nil ?_
          refine TC.go hK_68 ?_
          refine TC.ret ?_
          refine W.new0 ?_
          obtain rfl := Option.some.inj hp
          exact fun w hw => retC2 hw rfl h_65 rfl ag_104 1 rfl rfl ⟨v55, F56, .nilIface, ([] : FP), rfl, rfl, h57, (ErO.nil : ErO 72 143 145 GErr.no .nilIface [])⟩ (hw.pick [5, 0])
        refine W.new0 ?_
        refine TC.pk' [3, 1, 2, 1, 0] (L' := [bx b10 104 (([.bool false, .int .i64 0, .int .i64 0, .slice none 0 0, .int .i64 0] : List Value) ++ (arrC A64.zero ++ ([] : List Value))), bx b19 141 (([v2, v26, v31, .bool false, .int .i64 0, .int .i64 0, (.slice none 0 0), .int .i64 0] : List Value) ++ (arrC A64.zero ++ ([] : List Value))), F27, F32, ([] : FP)]) rfl ?_
        refine TC.loopW (r := z_59) (fun (s : (List PFrame × Bool × Int × Int × List Int × Int × A64)) (e_55 : Env) (L_89 : List FP) => ∃ (x34 : List PFrame) (x38 : Bool) (x39 : Int) (x40 : Int) (x41 : List Int) (x45 : Int) (x46 : A64) (v35 : Value) (F36 : FP) (v42 : Value) (F43 : FP), s = (x34, x38, x39, x40, x41, x45, x46) ∧ SlO 153 kFrame x34 v35 F36 ∧ SlO 2 (kInt .i64) x41 v42 F43 ∧ e_55 3 = .int .i64 a8 ∧ e_55 8 = .pointer (some ⟨b10, 0, none⟩) ∧ e_55 11 = .pointer (some ⟨b19, 0, none⟩) ∧ L_89 = [bx b10 104 (([.bool false, .int .i64 0, .int .i64 0, .slice none 0 0, .int .i64 0] : List Value) ++ (arrC A64.zero ++ ([] : List Value))), bx b19 141 (([v2, v26, v35, .bool x38, .int .i64 x39, .int .i64 x40, v42, .int .i64 x45] : List Value) ++ (arrC x46 ++ ([] : List Value))), F27, F36, F43]) ?_ FUEL _ _ _ hz_60 ⟨x30, false, 0, 0, ([] : List Int), 0, A64.zero, v31, F32, (.slice none 0 0), ([] : FP), rfl, h33, (SlO.nil 2), h_46, h_47, h_48, rfl⟩
        rintro s e_55 L_89 ⟨x34, x38, x39, x40, x41, x45, x46, v35, F36, v42, F43, rfl, h37, h44, h_56, h_57, h_58, rfl⟩ x_62 hp hx_63
        replace hp : run_Run.bd63 a1 a8 x25 x34 x38 x39 x40 x41 x45 x46 = some x_62 := hp
        unfold run_Run.bd63 at hp
        refine TC.seq fun K_71 hK_72 => ?_
        refine TC.seq fun K_73 hK_74 => ?_
        refine TC.region ?_
        refine TL.v (ltb rfl) (rv_mv (v := .pointer (some ⟨b19, 0, none⟩)) h_58) ?_
        refine TL.v (ltb rfl) (rv_nilCheck (a := ⟨b19, 0, none⟩) rfl) ?_
        refine TL.v (ltb rfl) (rv_fa (b := b19) (o := 0) fa_141_3 rfl) ?_
        refine TL.v (ltb rfl) (rv_fa (b := b19) (o := 3) fa_104_4 rfl) ?_
        refine TL.v (ltb rfl) (rv_ld (v := .int .i64 x45) (o := 7) (o' := 0) (j := 7) sc_3 rfl (Src.at_ 1 rfl) (bx_cells b19 141 _) rfl rfl) ?_
        refine TL.v (ltb rfl) (rv_mv (v := .int .i64 a8) h_56) ?_
        refine TL.v (ltb rfl) (rv_lss (k := .i64) (m := x45) (n := a8) rfl rfl) ?_
        refine TL.v (ltb rfl) (rv_mv (v := .bool (decide (x45 < a8))) rfl) ?_
        refine TL.cut 7 fun K_75 hK_76 => ?_
        have hJ_77 : ∀ e_79 : Env, e_79 3 = .int .i64 a8 → e_79 8 = .pointer (some ⟨b10, 0, none⟩) → e_79 11 = .pointer (some ⟨b19, 0, none⟩) → e_79 68 = .bool (decide (x45 < a8 ∧ (!x38) = true)) → ∀ w, St E H [bx b10 104 (([.bool false, .int .i64 0, .int .i64 0, .slice none 0 0, .int .i64 0] : List Value) ++ (arrC A64.zero ++ ([] : List Value))), bx b19 141 (([v2, v26, v35, .bool x38, .int .i64 x39, .int .i64 x40, v42, .int .i64 x45] : List Value) ++ (arrC x46 ++ ([] : List Value))), F27, F36, F43] w → K_75 e_79 w := by
          intro e_79 h_80 h_81 h_82 h_83
          refine TL.go hK_76 ?_
          refine TL.nil ?_
          refine TC.go hK_74 ?_
          by_cases hc_84 : x45 < a8 ∧ (!x38) = true
          · rw [if_pos hc_84] at hp
            refine TC.condT (h_83.trans (bT hc_84)) ?_
            refine TC.skip ?_
            refine TC.go hK_72 ?_
            refine TC.block ?_
            refine TC.seq fun K_85 hK_86 => ?_
            refine TC.region ?_
            refine TL.v (ltb rfl) (rv_mv (v := .pointer (some ⟨b19, 0, none⟩)) h_82) ?_
            refine TL.v (ltb rfl) (rv_nilCheck (a := ⟨b19, 0, none⟩) rfl) ?_
            refine TL.v (ltb rfl) (rv_fa (b := b19) (o := 0) fa_141_3 rfl) ?_
            refine TL.v (ltb rfl) (rv_fa (b := b19) (o := 3) fa_104_4 rfl) ?_
            refine TL.v (ltb rfl) (rv_ld (v := .int .i64 x45) (o := 7) (o' := 0) (j := 7) sc_3 rfl (Src.at_ 1 rfl) (bx_cells b19 141 _) rfl rfl) ?_
            refine TL.v (ltb rfl) (rv_add (k := .i64) (m := x45) (n := 1) rfl rfl) ?_
            refine TL.v (ltb rfl) (rv_nilCheck (a := ⟨b19, 0, none⟩) rfl) ?_
            refine TL.v (ltb rfl) (rv_fa (b := b19) (o := 0) fa_141_3 rfl) ?_
            refine TL.v (ltb rfl) (rv_fa (b := b19) (o := 3) fa_104_4 rfl) ?_
            refine TL.stB (ds := [.int .i64 (w64 (x45 + 1))]) (o := 7) (cs := (([v2, v26, v35, .bool x38, .int .i64 x39, .int .i64 x40, v42, .int .i64 x45] : List Value) ++ (arrC x46 ++ ([] : List Value)))) (b := b19) (u := .int .i64 (w64 (x45 + 1))) 1 rfl ms_3 rfl rfl rfl (oc rfl oc0) (leb rfl) ?_
            refine TL.norm (L' := [bx b10 104 (([.bool false, .int .i64 0, .int .i64 0, .slice none 0 0, .int .i64 0] : List Value) ++ (arrC A64.zero ++ ([] : List Value))), bx b19 141 (([v2, v26, v35, .bool x38, .int .i64 x39, .int .i64 x40, v42, .int .i64 (w64 (x45 + 1))] : List Value) ++ (arrC x46 ++ ([] : List Value))), F27, F36, F43]) rfl ?_
            refine TL.nil ?_
            refine TC.go hK_86 ?_
            refine TC.region ?_
            refine TL.v (ltb rfl) (rv_mv (v := .pointer (some ⟨b19, 0, none⟩)) h_82) ?_
            refine TL.pk' [1, 2, 2, 0, 0] (L' := [bx b19 141 (([v2, v26, v35, .bool x38, .int .i64 x39, .int .i64 x40, v42, .int .i64 (w64 (x45 + 1))] : List Value) ++ (arrC x46 ++ ([] : List Value))), F36, F43, bx b10 104 (([.bool false, .int .i64 0, .int .i64 0, .slice none 0 0, .int .i64 0] : List Value) ++ (arrC A64.zero ++ ([] : List Value))), F27]) rfl ?_
            obtain ⟨x61, hy_87, hp⟩ := bind_some' hp
            refine TL.callC (vs := [.pointer (some ⟨b19, 0, none⟩)]) (R := run_runner_step.R b19 (⟨(⟨a1.funcs⟩ : PModule), x25, x34, (⟨x38, x39, x40, x41, (w64 (x45 + 1)), x46⟩ : POutcome)⟩ : PRunner) v2 v26 x61) [bx b19 141 (([v2, v26, v35, .bool x38, .int .i64 x39, .int .i64 x40, v42, .int .i64 (w64 (x45 + 1))] : List Value) ++ (arrC x46 ++ ([] : List Value))), F36, F43] [bx b10 104 (([.bool false, .int .i64 0, .int .i64 0, .slice none 0 0, .int .i64 0] : List Value) ++ (arrC A64.zero ++ ([] : List Value))), F27] rfl cb_83 (ltb rfl) (mc rfl m0) (fun w hw => run_runner_step_ok (a2 := (⟨(⟨a1.funcs⟩ : PModule), x25, x34, (⟨x38, x39, x40, x41, (w64 (x45 + 1)), x46⟩ : POutcome)⟩ : PRunner)) (h3.mono subH) (h28.ro.mono (subB 1 rfl)) h37 h44 hy_87 hw) fun v A' hR_88 => ?_
            obtain ⟨v62, F63, v65, F66, rfl, rfl, h64, h67⟩ := hR_88
            refine TL.norm (L' := [bx b19 141 (([v2, v26, v62, .bool x61.2.1, .int .i64 x61.2.2.1, .int .i64 x61.2.2.2.1, v65, .int .i64 (w64 (x45 + 1))] : List Value) ++ (arrC x61.2.2.2.2.2 ++ ([] : List Value))), F63, F66, bx b10 104 (([.bool false, .int .i64 0, .int .i64 0, .slice none 0 0, .int .i64 0] : List Value) ++ (arrC A64.zero ++ ([] : List Value))), F27]) rfl ?_
            refine TL.nil ?_
            exact fun w hw => goOk hp ⟨x61.1, x61.2.1, x61.2.2.1, x61.2.2.2.1, x61.2.2.2.2.1, (w64 (x45 + 1)), x61.2.2.2.2.2, v62, F63, v65, F66, rfl, h64, h67, h_80, h_81, h_82, rfl⟩ (hw.pick [3, 0, 2, 0, 0])
          · rw [if_neg hc_84] at hp
            refine TC.condF (h_83.trans (bF hc_84)) ?_
            refine TC.exit ?_
            refine fun w hw => hJ_69 x34 x38 x39 x40 x41 x45 x46 v35 F36 v42 F43 _ h37 h44 ?_ ?_ (ex_ret hp hx_63) w (hw.pick [0, 0, 0, 0, 0])
            · exact h_81
            · exact h_82
        by_cases hc_78 : x45 < a8
        · refine TL.gyes true (yieldE_of rfl (bT hc_78)) rfl ?_
          refine TL.v (ltb rfl) (rv_mv (v := .pointer (some ⟨b19, 0, none⟩)) h_58) ?_
          refine TL.gyes true (yieldE_of rfl (bT hc_78)) rfl ?_
          refine TL.v (ltb rfl) (rv_nilCheck (a := ⟨b19, 0, none⟩) rfl) ?_
          refine TL.gyes true (yieldE_of rfl (bT hc_78)) rfl ?_
          refine TL.v (ltb rfl) (rv_fa (b := b19) (o := 0) fa_141_3 rfl) ?_
          refine TL.gyes true (yieldE_of rfl (bT hc_78)) rfl ?_
          refine TL.v (ltb rfl) (rv_fa (b := b19) (o := 3) fa_104_0 rfl) ?_
          refine TL.gyes true (yieldE_of rfl (bT hc_78)) rfl ?_
          refine TL.v (ltb rfl) (rv_ld (v := .bool x38) (o := 3) (o' := 0) (j := 3) sc_4 rfl (Src.at_ 1 rfl) (bx_cells b19 141 _) rfl rfl) ?_
          refine TL.gyes true (yieldE_of rfl (bT hc_78)) rfl ?_
          refine TL.v (ltb rfl) (rv_not (b := x38) rfl) ?_
          refine TL.v (ltb rfl) (rv_pickT true (bT hc_78) rfl (v := .bool (!x38)) rfl) ?_
          refine TL.nil (hJ_77 _ ?_ ?_ ?_ ?_)
          · exact h_56
          · exact h_57
          · exact h_58
          · exact (bAt' hc_78)
        · refine TL.gno false rfl (fun d hd => by cases hd; exact ltb rfl) (yieldE_of rfl (bF hc_78)) rfl ?_
          refine TL.gno false rfl (fun d hd => by cases hd; exact ltb rfl) (yieldE_of rfl (bF hc_78)) rfl ?_
          refine TL.gno false rfl (fun d hd => by cases hd; exact ltb rfl) (yieldE_of rfl (bF hc_78)) rfl ?_
          refine TL.gno false rfl (fun d hd => by cases hd; exact ltb rfl) (yieldE_of rfl (bF hc_78)) rfl ?_
          refine TL.gno false rfl (fun d hd => by cases hd; exact ltb rfl) (yieldE_of rfl (bF hc_78)) rfl ?_
          refine TL.gno false rfl (fun d hd => by cases hd; exact ltb rfl) (yieldE_of rfl (bF hc_78)) rfl ?_
          refine TL.v (ltb rfl) (rv_pickF false (bF hc_78) rfl (v := .bool false) rfl) ?_
          refine TL.nil (hJ_77 _ ?_ ?_ ?_ ?_)
          · exact h_56
          · exact h_57
          · exact h_58
          · exact (bAf hc_78)
      refine W.new0 ?_
      refine TC.pk' [3, 1, 0] (L' := [bx b10 104 (([.bool false, .int .i64 0, .int .i64 0, .slice none 0 0, .int .i64 0] : List Value) ++ (arrC A64.zero ++ ([] : List Value))), bx b19 141 (([v2, (.slice none 0 0), .slice none 0 0, .bool false, .int .i64 0, .int .i64 0, .slice none 0 0, .int .i64 0] : List Value) ++ (arrC A64.zero ++ ([] : List Value))), ([] : FP)]) rfl ?_
      refine TC.loopW (r := z_38) (fun (s : (List (List (List Int)) × Int)) (e_29 : Env) (L_147 : List FP) => ∃ (x20 : List (List (List Int))) (x24 : Int) (v21 : Value) (F22 : FP), s = (x20, x24) ∧ SlO 28 (kSl 22 (kSl 3 (kInt .i64))) x20 v21 F22 ∧ e_29 1 = .int .i64 a4 ∧ e_29 2 = v6 ∧ e_29 3 = .int .i64 a8 ∧ e_29 8 = .pointer (some ⟨b10, 0, none⟩) ∧ e_29 11 = .pointer (some ⟨b19, 0, none⟩) ∧ e_29 32 = v2 ∧ e_29 33 = .int .i64 (len a1.funcs) ∧ e_29 34 = .int .i64 x24 ∧ L_147 = [bx b10 104 (([.bool false, .int .i64 0, .int .i64 0, .slice none 0 0, .int .i64 0] : List Value) ++ (arrC A64.zero ++ ([] : List Value))), bx b19 141 (([v2, v21, .slice none 0 0, .bool false, .int .i64 0, .int .i64 0, .slice none 0 0, .int .i64 0] : List Value) ++ (arrC A64.zero ++ ([] : List Value))), F22]) ?_ FUEL _ _ _ hz_39 ⟨([] : List (List (List Int))), 0, (.slice none 0 0), ([] : FP), rfl, (SlO.nil 28), rfl, rfl, rfl, rfl, rfl, rfl, rfl, rfl, rfl⟩
      rintro s e_29 L_147 ⟨x20, x24, v21, F22, rfl, h23, h_30, h_31, h_32, h_33, h_34, h_35, h_36, h_37, rfl⟩ x_41 hp hx_42
      replace hp : run_Run.bd42 a1 x20 x24 = some x_41 := hp
      unfold run_Run.bd42 at hp
      refine TC.seq fun K_92 hK_93 => ?_
      refine TC.region ?_
      refine TL.v (ltb rfl) (rv_lss (k := .i64) (m := x24) (n := (len a1.funcs)) h_37 h_36) ?_
      refine TL.nil ?_
      refine TC.go hK_93 ?_
      refine TC.seq fun K_94 hK_95 => ?_
      by_cases hc_96 : x24 < (len a1.funcs)
      · rw [if_pos hc_96] at hp
        refine TC.condT (bT hc_96) ?_
        refine TC.skip ?_
        refine TC.go hK_95 ?_
        refine TC.seq fun K_97 hK_98 => ?_
        have hJ_108 : ∀ (x69 : List (List (List Int))) (v70 : Value) (F71 : FP) (e_99 : Env) (h72 : SlO 28 (kSl 22 (kSl 3 (kInt .i64))) x69 v70 F71) (h_100 : e_99 1 = .int .i64 a4) (h_101 : e_99 2 = v6) (h_102 : e_99 3 = .int .i64 a8) (h_103 : e_99 8 = .pointer (some ⟨b10, 0, none⟩)) (h_104 : e_99 11 = .pointer (some ⟨b19, 0, none⟩)) (h_105 : e_99 32 = v2) (h_106 : e_99 33 = .int .i64 (len a1.funcs)) (h_107 : e_99 34 = .int .i64 x24) (hp : run_Run.jn108 x24 x69 = some x_41), ∀ w, St E H [bx b10 104 (([.bool false, .int .i64 0, .int .i64 0, .slice none 0 0, .int .i64 0] : List Value) ++ (arrC A64.zero ++ ([] : List Value))), bx b19 141 (([v2, v70, .slice none 0 0, .bool false, .int .i64 0, .int .i64 0, .slice none 0 0, .int .i64 0] : List Value) ++ (arrC A64.zero ++ ([] : List Value))), F71] w → K_97 e_99 w := by
          intro x69 v70 F71 e_99 h72 h_100 h_101 h_102 h_103 h_104 h_105 h_106 h_107 hp
          unfold run_Run.jn108 at hp
          refine TC.go hK_98 ?_
          refine TC.region ?_
          refine TL.v (ltb rfl) (rv_add (k := .i64) (m := x24) (n := 1) h_107 rfl) ?_
          refine TL.v (ltb rfl) (rv_mv (v := .int .i64 (w64 (x24 + 1))) rfl) ?_
          refine TL.nil ?_
          exact fun w hw => goOk hp ⟨x69, (w64 (x24 + 1)), v70, F71, rfl, h72, h_100, h_101, h_102, h_103, h_104, h_105, h_106, rfl, rfl⟩ (hw.pick [0, 0, 0])
        refine TC.block ?_
        refine TC.seq fun K_109 hK_110 => ?_
        refine TC.region ?_
        obtain ⟨x73, hx_111, hp⟩ := bind_some' hp
        refine TL.v3 (ltb rfl) (rv_ix 88 (.tmp 32) (.tmp 34) (v := v2) (i := x24) Try.underlying88 inf_25 rfl h_35 h_37 h3 hx_111) fun b74 o75 c76 h77 h78 => ?_
        obtain ⟨v79, v81, rfl, h80, h82⟩ := h77
        refine TL.v (ltb rfl) (rv_lda (o := o75) (o' := o75) (j := 0) (ds := [.int .i64 x73.params, .int .i64 x73.result, v79, v81]) ag_25 rfl Src.H h78 rfl rfl rfl) ?_
        refine TL.alloc (cs := [.int .i64 0, .int .i64 0, .slice none 0 0, .slice none 0 0]) inf_25 (ltb rfl) rfl fun b83 => ?_
        refine TL.stB (ds := [.int .i64 x73.params, .int .i64 x73.result, v79, v81]) (o := 0) (cs := [.int .i64 0, .int .i64 0, .slice none 0 0, .slice none 0 0]) (b := b83) (u := .agg #[.int .i64 x73.params, .int .i64 x73.result, v79, v81]) 0 rfl ms_25 rfl rfl rfl (oc rfl (oc rfl (oc (h80).one (oc (h82).one oc0)))) (leb rfl) ?_
        refine TL.norm (L' := [bx b83 25 [.int .i64 x73.params, .int .i64 x73.result, v79, v81], bx b10 104 (([.bool false, .int .i64 0, .int .i64 0, .slice none 0 0, .int .i64 0] : List Value) ++ (arrC A64.zero ++ ([] : List Value))), bx b19 141 (([v2, v21, .slice none 0 0, .bool false, .int .i64 0, .int .i64 0, .slice none 0 0, .int .i64 0] : List Value) ++ (arrC A64.zero ++ ([] : List Value))), F22]) rfl ?_
        refine TL.nil ?_
        refine TC.go hK_110 ?_
        refine TC.held ([bx b83 25 [.int .i64 x73.params, .int .i64 x73.result, v79, v81], bx b10 104 (([.bool false, .int .i64 0, .int .i64 0, .slice none 0 0, .int .i64 0] : List Value) ++ (arrC A64.zero ++ ([] : List Value)))].flatten ++ H) mix (srcG 0 rfl (srcG 1 rfl srcG0)) ?_
        refine HL.v 0 rfl trivial (by kernel_rfl) (by kernel_rfl) (by kernel_rfl) (ltb rfl) (rv_mv (v := .pointer (some ⟨b19, 0, none⟩)) h_34) ?_
        refine HL.v 1 rfl trivial (by kernel_rfl) (by kernel_rfl) (by kernel_rfl) (ltb rfl) (rv_mv (v := .pointer (some ⟨b19, 0, none⟩)) h_34) ?_
        refine HL.v 2 rfl trivial (by kernel_rfl) (by kernel_rfl) (by kernel_rfl) (ltb rfl) (rv_nilCheck (a := ⟨b19, 0, none⟩) rfl) ?_
        refine HL.v 3 rfl trivial (by kernel_rfl) (by kernel_rfl) (by kernel_rfl) (ltb rfl) (rv_fa (b := b19) (o := 0) fa_141_1 rfl) ?_
        refine HL.v 5 rfl trivial (by kernel_rfl) (by kernel_rfl) (by kernel_rfl) (ltb rfl) (rv_lda (o := 0) (o' := 0) (j := 0) (ds := [.int .i64 x73.params, .int .i64 x73.result, v79, v81]) ag_25 rfl (srcInG 0 rfl) (bx_cells b83 25 _) rfl rfl rfl) ?_
        refine HL.all [4, 6] (by kernel_rfl) (by simp) (HL.al ⟨_, rfl, fun K_112 hK_113 => ?_⟩ (HL.al ⟨_, rfl, fun K_125 hK_126 => ?_⟩ HL.al0))
        · refine TL.v (ltb rfl) (rv_ld (v := v21) (o := 1) (o' := 0) (j := 1) sc_138 rfl (Src.at_ 2 rfl) (bx_cells b19 141 _) rfl rfl) ?_
          refine TL.nil (hK_113 _ _ (srcG 0 rfl (srcG 1 rfl srcG0)) ?_)
          refine HL.one 6 rfl (by kernel_rfl) fun K_114 hK_115 => ?_
          obtain ⟨x2485, hy_116, hp⟩ := bind_some' hp
          refine TL.callC (vs := [.agg #[.int .i64 x73.params, .int .i64 x73.result, v79, v81]]) (R := check_Ahead.R x2485) [] [bx b83 25 [.int .i64 x73.params, .int .i64 x73.result, v79, v81], bx b10 104 (([.bool false, .int .i64 0, .int .i64 0, .slice none 0 0, .int .i64 0] : List Value) ++ (arrC A64.zero ++ ([] : List Value))), bx b19 141 (([v2, v21, .slice none 0 0, .bool false, .int .i64 0, .int .i64 0, .slice none 0 0, .int .i64 0] : List Value) ++ (arrC A64.zero ++ ([] : List Value))), F22] rfl cb_78 (ltb rfl) (mc rfl m0) (fun w hw => check_Ahead_ok (a1 := x73) (h80.mono subH) (h82.mono subH) hy_116 hw) fun v A' hR_117 => ?_
          obtain ⟨v2486, F2487, rfl, rfl, h2488⟩ := hR_117
          refine TL.norm (L' := [F2487, bx b83 25 [.int .i64 x73.params, .int .i64 x73.result, v79, v81], bx b10 104 (([.bool false, .int .i64 0, .int .i64 0, .slice none 0 0, .int .i64 0] : List Value) ++ (arrC A64.zero ++ ([] : List Value))), bx b19 141 (([v2, v21, .slice none 0 0, .bool false, .int .i64 0, .int .i64 0, .slice none 0 0, .int .i64 0] : List Value) ++ (arrC A64.zero ++ ([] : List Value))), F22]) rfl ?_
          refine TL.nil (hK_115 _ _ (srcG 1 rfl (srcG 2 rfl srcG0)) ?_)
          refine HL.one 7 rfl (by kernel_rfl) fun K_118 hK_119 => ?_
          refine TL.bv (vs := [(0, v2486)]) (cs := [v2486]) (pc rfl p0) Try.underlying138 inf_28 (ltb rfl) (by decide) (by decide) (by obtain ⟨_, _, rfl⟩ := (h2488).len; kernel_rfl) fun b2885 => ?_
          refine TL.nil (hK_119 _ _ (srcG 2 rfl (srcG 3 rfl srcG0)) ?_)
          refine HL.one 8 rfl (by kernel_rfl) fun K_120 hK_121 => ?_
          refine TL.pk' [5, 0, 0, 0, 0, 0] (L' := [F22, bx b2885 28 [v2486], F2487, bx b83 25 [.int .i64 x73.params, .int .i64 x73.result, v79, v81], bx b10 104 (([.bool false, .int .i64 0, .int .i64 0, .slice none 0 0, .int .i64 0] : List Value) ++ (arrC A64.zero ++ ([] : List Value))), bx b19 141 (([v2, v21, .slice none 0 0, .bool false, .int .i64 0, .int .i64 0, .slice none 0 0, .int .i64 0] : List Value) ++ (arrC A64.zero ++ ([] : List Value)))]) rfl ?_
          refine TL.perm (L' := [F22, bx b2885 28 [v2486], F2487 ++ [], bx b83 25 [.int .i64 x73.params, .int .i64 x73.result, v79, v81], bx b10 104 (([.bool false, .int .i64 0, .int .i64 0, .slice none 0 0, .int .i64 0] : List Value) ++ (arrC A64.zero ++ ([] : List Value))), bx b19 141 (([v2, v21, .slice none 0 0, .bool false, .int .i64 0, .int .i64 0, .slice none 0 0, .int .i64 0] : List Value) ++ (arrC A64.zero ++ ([] : List Value)))]) (by simp) ?_
          obtain ⟨x3285, hz_122, hp⟩ := bind_some' hp
          refine TL.app Try.underlying138 inf_28 (ltb rfl) rfl (ltb rfl) rfl (leb rfl) rfl rfl h23 (RepL.to (RepL.cons (k := (kSl 22 (kSl 3 (kInt .i64)))) (x := x2485) ⟨_, rfl, h2488⟩ RepL.nil) rfl) rfl rfl hz_122 fun v3286 F3287 h3288 => ?_
          refine TL.nil (hK_121 _ _ (srcG 1 rfl (srcG 2 rfl srcG0)) ?_)
          refine HL.v 9 rfl trivial (by kernel_rfl) (by kernel_rfl) (by kernel_rfl) (ltb rfl) (rv_nilCheck (a := ⟨b19, 0, none⟩) rfl) ?_
          refine HL.v 10 rfl trivial (by kernel_rfl) (by kernel_rfl) (by kernel_rfl) (ltb rfl) (rv_fa (b := b19) (o := 0) fa_141_1 rfl) ?_
          refine HL.one 11 rfl (by kernel_rfl) fun K_123 hK_124 => ?_
          refine TL.stB (ds := [v3286]) (o := 1) (cs := (([v2, v21, .slice none 0 0, .bool false, .int .i64 0, .int .i64 0, .slice none 0 0, .int .i64 0] : List Value) ++ (arrC A64.zero ++ ([] : List Value)))) (b := b19) (u := v3286) 3 rfl ms_138 rfl rfl (SlO.cells h3288) (oc (h3288).one oc0) (leb rfl) ?_
          refine TL.norm (L' := [F3287, bx b83 25 [.int .i64 x73.params, .int .i64 x73.result, v79, v81], bx b10 104 (([.bool false, .int .i64 0, .int .i64 0, .slice none 0 0, .int .i64 0] : List Value) ++ (arrC A64.zero ++ ([] : List Value))), bx b19 141 (([v2, v3286, .slice none 0 0, .bool false, .int .i64 0, .int .i64 0, .slice none 0 0, .int .i64 0] : List Value) ++ (arrC A64.zero ++ ([] : List Value)))]) rfl ?_
          refine TL.nil (hK_124 _ _ (srcG 1 rfl (srcG 2 rfl srcG0)) ?_)
          refine HL.done (by kernel_rfl) ?_
          refine fun w hw => hJ_108 x3285 v3286 F3287 _ h3288 ?_ ?_ ?_ ?_ ?_ ?_ ?_ ?_ hp w (hw.pick [2, 2, 0])
          · exact h_30
          · exact h_31
          · exact h_32
          · exact h_33
          · exact h_34
          · exact h_35
          · exact h_36
          · exact h_37
        · obtain ⟨x2485, hy_127, hp⟩ := bind_some' hp
          refine TL.callC (vs := [.agg #[.int .i64 x73.params, .int .i64 x73.result, v79, v81]]) (R := check_Ahead.R x2485) [] [bx b83 25 [.int .i64 x73.params, .int .i64 x73.result, v79, v81], bx b10 104 (([.bool false, .int .i64 0, .int .i64 0, .slice none 0 0, .int .i64 0] : List Value) ++ (arrC A64.zero ++ ([] : List Value))), bx b19 141 (([v2, v21, .slice none 0 0, .bool false, .int .i64 0, .int .i64 0, .slice none 0 0, .int .i64 0] : List Value) ++ (arrC A64.zero ++ ([] : List Value))), F22] rfl cb_78 (ltb rfl) (mc rfl m0) (fun w hw => check_Ahead_ok (a1 := x73) (h80.mono subH) (h82.mono subH) hy_127 hw) fun v A' hR_128 => ?_
          obtain ⟨v2486, F2487, rfl, rfl, h2488⟩ := hR_128
          refine TL.norm (L' := [F2487, bx b83 25 [.int .i64 x73.params, .int .i64 x73.result, v79, v81], bx b10 104 (([.bool false, .int .i64 0, .int .i64 0, .slice none 0 0, .int .i64 0] : List Value) ++ (arrC A64.zero ++ ([] : List Value))), bx b19 141 (([v2, v21, .slice none 0 0, .bool false, .int .i64 0, .int .i64 0, .slice none 0 0, .int .i64 0] : List Value) ++ (arrC A64.zero ++ ([] : List Value))), F22]) rfl ?_
          refine TL.nil (hK_126 _ _ (srcG 1 rfl (srcG 2 rfl srcG0)) ?_)
          refine HL.all [4, 7] (by kernel_rfl) (by simp) (HL.al ⟨_, rfl, fun K_129 hK_130 => ?_⟩ (HL.al ⟨_, rfl, fun K_138 hK_139 => ?_⟩ HL.al0))
          · refine TL.v (ltb rfl) (rv_ld (v := v21) (o := 1) (o' := 0) (j := 1) sc_138 rfl (Src.at_ 3 rfl) (bx_cells b19 141 _) rfl rfl) ?_
            refine TL.nil (hK_130 _ _ (srcG 1 rfl (srcG 2 rfl srcG0)) ?_)
            refine HL.one 7 rfl (by kernel_rfl) fun K_131 hK_132 => ?_
            refine TL.bv (vs := [(0, v2486)]) (cs := [v2486]) (pc rfl p0) Try.underlying138 inf_28 (ltb rfl) (by decide) (by decide) (by obtain ⟨_, _, rfl⟩ := (h2488).len; kernel_rfl) fun b2885 => ?_
            refine TL.nil (hK_132 _ _ (srcG 2 rfl (srcG 3 rfl srcG0)) ?_)
            refine HL.one 8 rfl (by kernel_rfl) fun K_133 hK_134 => ?_
            refine TL.pk' [5, 0, 0, 0, 0, 0] (L' := [F22, bx b2885 28 [v2486], F2487, bx b83 25 [.int .i64 x73.params, .int .i64 x73.result, v79, v81], bx b10 104 (([.bool false, .int .i64 0, .int .i64 0, .slice none 0 0, .int .i64 0] : List Value) ++ (arrC A64.zero ++ ([] : List Value))), bx b19 141 (([v2, v21, .slice none 0 0, .bool false, .int .i64 0, .int .i64 0, .slice none 0 0, .int .i64 0] : List Value) ++ (arrC A64.zero ++ ([] : List Value)))]) rfl ?_
            refine TL.perm (L' := [F22, bx b2885 28 [v2486], F2487 ++ [], bx b83 25 [.int .i64 x73.params, .int .i64 x73.result, v79, v81], bx b10 104 (([.bool false, .int .i64 0, .int .i64 0, .slice none 0 0, .int .i64 0] : List Value) ++ (arrC A64.zero ++ ([] : List Value))), bx b19 141 (([v2, v21, .slice none 0 0, .bool false, .int .i64 0, .int .i64 0, .slice none 0 0, .int .i64 0] : List Value) ++ (arrC A64.zero ++ ([] : List Value)))]) (by simp) ?_
            obtain ⟨x3285, hz_135, hp⟩ := bind_some' hp
            refine TL.app Try.underlying138 inf_28 (ltb rfl) rfl (ltb rfl) rfl (leb rfl) rfl rfl h23 (RepL.to (RepL.cons (k := (kSl 22 (kSl 3 (kInt .i64)))) (x := x2485) ⟨_, rfl, h2488⟩ RepL.nil) rfl) rfl rfl hz_135 fun v3286 F3287 h3288 => ?_
            refine TL.nil (hK_134 _ _ (srcG 1 rfl (srcG 2 rfl srcG0)) ?_)
            refine HL.v 9 rfl trivial (by kernel_rfl) (by kernel_rfl) (by kernel_rfl) (ltb rfl) (rv_nilCheck (a := ⟨b19, 0, none⟩) rfl) ?_
            refine HL.v 10 rfl trivial (by kernel_rfl) (by kernel_rfl) (by kernel_rfl) (ltb rfl) (rv_fa (b := b19) (o := 0) fa_141_1 rfl) ?_
            refine HL.one 11 rfl (by kernel_rfl) fun K_136 hK_137 => ?_
            refine TL.stB (ds := [v3286]) (o := 1) (cs := (([v2, v21, .slice none 0 0, .bool false, .int .i64 0, .int .i64 0, .slice none 0 0, .int .i64 0] : List Value) ++ (arrC A64.zero ++ ([] : List Value)))) (b := b19) (u := v3286) 3 rfl ms_138 rfl rfl (SlO.cells h3288) (oc (h3288).one oc0) (leb rfl) ?_
            refine TL.norm (L' := [F3287, bx b83 25 [.int .i64 x73.params, .int .i64 x73.result, v79, v81], bx b10 104 (([.bool false, .int .i64 0, .int .i64 0, .slice none 0 0, .int .i64 0] : List Value) ++ (arrC A64.zero ++ ([] : List Value))), bx b19 141 (([v2, v3286, .slice none 0 0, .bool false, .int .i64 0, .int .i64 0, .slice none 0 0, .int .i64 0] : List Value) ++ (arrC A64.zero ++ ([] : List Value)))]) rfl ?_
            refine TL.nil (hK_137 _ _ (srcG 1 rfl (srcG 2 rfl srcG0)) ?_)
            refine HL.done (by kernel_rfl) ?_
            refine fun w hw => hJ_108 x3285 v3286 F3287 _ h3288 ?_ ?_ ?_ ?_ ?_ ?_ ?_ ?_ hp w (hw.pick [2, 2, 0])
            · exact h_30
            · exact h_31
            · exact h_32
            · exact h_33
            · exact h_34
            · exact h_35
            · exact h_36
            · exact h_37
          · refine TL.bv (vs := [(0, v2486)]) (cs := [v2486]) (pc rfl p0) Try.underlying138 inf_28 (ltb rfl) (by decide) (by decide) (by obtain ⟨_, _, rfl⟩ := (h2488).len; kernel_rfl) fun b2885 => ?_
            refine TL.nil (hK_139 _ _ (srcG 2 rfl (srcG 3 rfl srcG0)) ?_)
            refine HL.one 4 rfl (by kernel_rfl) fun K_140 hK_141 => ?_
            refine TL.v (ltb rfl) (rv_ld (v := v21) (o := 1) (o' := 0) (j := 1) sc_138 rfl (Src.at_ 4 rfl) (bx_cells b19 141 _) rfl rfl) ?_
            refine TL.nil (hK_141 _ _ (srcG 2 rfl (srcG 3 rfl srcG0)) ?_)
            refine HL.one 8 rfl (by kernel_rfl) fun K_142 hK_143 => ?_
            refine TL.pk' [5, 0, 0, 0, 0, 0] (L' := [F22, bx b2885 28 [v2486], F2487, bx b83 25 [.int .i64 x73.params, .int .i64 x73.result, v79, v81], bx b10 104 (([.bool false, .int .i64 0, .int .i64 0, .slice none 0 0, .int .i64 0] : List Value) ++ (arrC A64.zero ++ ([] : List Value))), bx b19 141 (([v2, v21, .slice none 0 0, .bool false, .int .i64 0, .int .i64 0, .slice none 0 0, .int .i64 0] : List Value) ++ (arrC A64.zero ++ ([] : List Value)))]) rfl ?_
            refine TL.perm (L' := [F22, bx b2885 28 [v2486], F2487 ++ [], bx b83 25 [.int .i64 x73.params, .int .i64 x73.result, v79, v81], bx b10 104 (([.bool false, .int .i64 0, .int .i64 0, .slice none 0 0, .int .i64 0] : List Value) ++ (arrC A64.zero ++ ([] : List Value))), bx b19 141 (([v2, v21, .slice none 0 0, .bool false, .int .i64 0, .int .i64 0, .slice none 0 0, .int .i64 0] : List Value) ++ (arrC A64.zero ++ ([] : List Value)))]) (by simp) ?_
            obtain ⟨x3285, hz_144, hp⟩ := bind_some' hp
            refine TL.app Try.underlying138 inf_28 (ltb rfl) rfl (ltb rfl) rfl (leb rfl) rfl rfl h23 (RepL.to (RepL.cons (k := (kSl 22 (kSl 3 (kInt .i64)))) (x := x2485) ⟨_, rfl, h2488⟩ RepL.nil) rfl) rfl rfl hz_144 fun v3286 F3287 h3288 => ?_
            refine TL.nil (hK_143 _ _ (srcG 1 rfl (srcG 2 rfl srcG0)) ?_)
            refine HL.v 9 rfl trivial (by kernel_rfl) (by kernel_rfl) (by kernel_rfl) (ltb rfl) (rv_nilCheck (a := ⟨b19, 0, none⟩) rfl) ?_
            refine HL.v 10 rfl trivial (by kernel_rfl) (by kernel_rfl) (by kernel_rfl) (ltb rfl) (rv_fa (b := b19) (o := 0) fa_141_1 rfl) ?_
            refine HL.one 11 rfl (by kernel_rfl) fun K_145 hK_146 => ?_
            refine TL.stB (ds := [v3286]) (o := 1) (cs := (([v2, v21, .slice none 0 0, .bool false, .int .i64 0, .int .i64 0, .slice none 0 0, .int .i64 0] : List Value) ++ (arrC A64.zero ++ ([] : List Value)))) (b := b19) (u := v3286) 3 rfl ms_138 rfl rfl (SlO.cells h3288) (oc (h3288).one oc0) (leb rfl) ?_
            refine TL.norm (L' := [F3287, bx b83 25 [.int .i64 x73.params, .int .i64 x73.result, v79, v81], bx b10 104 (([.bool false, .int .i64 0, .int .i64 0, .slice none 0 0, .int .i64 0] : List Value) ++ (arrC A64.zero ++ ([] : List Value))), bx b19 141 (([v2, v3286, .slice none 0 0, .bool false, .int .i64 0, .int .i64 0, .slice none 0 0, .int .i64 0] : List Value) ++ (arrC A64.zero ++ ([] : List Value)))]) rfl ?_
            refine TL.nil (hK_146 _ _ (srcG 1 rfl (srcG 2 rfl srcG0)) ?_)
            refine HL.done (by kernel_rfl) ?_
            refine fun w hw => hJ_108 x3285 v3286 F3287 _ h3288 ?_ ?_ ?_ ?_ ?_ ?_ ?_ ?_ hp w (hw.pick [2, 2, 0])
            · exact h_30
            · exact h_31
            · exact h_32
            · exact h_33
            · exact h_34
            · exact h_35
            · exact h_36
            · exact h_37
      · rw [if_neg hc_96] at hp
        refine TC.condF (bF hc_96) ?_
        refine TC.exit ?_
        refine fun w hw => hJ_90 x20 v21 F22 _ h23 ?_ ?_ ?_ ?_ ?_ (ex_ret hp hx_42) w (hw.pick [0, 0, 0])
        · exact h_30
        · exact h_31
        · exact h_32
        · exact h_33
        · exact h_34
end Go.Proofs.Ytoflleabpkgdpaa
