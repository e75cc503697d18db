/- The walk through the program's functions: each one's pure reading, and that a call does what it says. No conditions. -/
import Derived.Test.YtoflleabpkgdpaaGh
set_option linter.unusedVariables false
set_option linter.unusedSimpArgs false
namespace Go.Proofs.Ytoflleabpkgdpaa
open Go Go.Proofs

/-! ### (*fettle/check.looker).block -/
abbrev check_looker_block.R (r : GErr) (v : Value) (A : List FP) : Prop := ∃ (w1 : Value) (G1 : FP), w1 = v ∧ A = [G1] ∧ ErO 72 143 145 r w1 G1
def check_looker_block.nx35 (a2 : PLooker) (a11 : PBlock) : Option GErr :=
  (check_looker_end a2 a11.term).bind fun x21 =>
  some x21
def check_looker_block.bd35 (a2 : PLooker) (a11 : PBlock) (x20 : Int) : Option (Ex (Ex GErr Unit) Int) :=
  if x20 < (len a11.ins) then
    (idx a11.ins x20).bind fun x25 =>
    (check_looker_instr a2 x25).bind fun x34 =>
    if ¬ x34 = GErr.no then
      some (.ret (.ret x34))
    else
      some (.go (w64 (x20 + 1)))
  else
    some (.ret (.go ()))
def check_looker_block.nx17 (a2 : PLooker) (a11 : PBlock) : Option GErr :=
  (whl (fun (s : Int) => check_looker_block.bd35 a2 a11 s) FUEL 0).bind fun z =>
  match z with
    | .ret r => some r
    | .go p => check_looker_block.nx35 a2 a11
def check_looker_block.bd17 (a2 : PLooker) (a11 : PBlock) (x19 : Int) : Option (Ex (Ex GErr Unit) Int) :=
  if x19 < (len a11.phis) then
    (idx a11.phis x19).bind fun x38 =>
    (check_looker_phi a2 x38).bind fun x47 =>
    if ¬ x47 = GErr.no then
      some (.ret (.ret x47))
    else
      some (.go (w64 (x19 + 1)))
  else
    some (.ret (.go ()))
def check_looker_block (a2 : PLooker) (a11 : PBlock) : Option GErr :=
  (whl (fun (s : Int) => check_looker_block.bd17 a2 a11 s) FUEL 0).bind fun z =>
  match z with
    | .ret r => some r
    | .go p => check_looker_block.nx17 a2 a11
theorem check_looker_block_ok {E : World} {H : FP} {w : World} {a2 : PLooker} {a11 : PBlock} {b1 : Nat} {o3 : Nat} {v5 : Value} {v7 : Value} {v9 : Value} {v12 : Value} {v14 : Value} {v16 : Value} {r : GErr} (h4 : CellsIn H b1 o3 [v5, .int .i64 a2.f.params, .int .i64 a2.f.result, v7, v9]) (h6 : SlI kFunc H a2.m.funcs v5) (h8 : SlI (kInt .i64) H a2.f.regs v7) (h10 : SlI kBlock H a2.f.blocks v9) (h13 : SlI kPhi H a11.phis v12) (h15 : SlI kInstr H a11.ins v14) (h17 : SlI (kInt .i64) H a11.term.to v16) (hp : check_looker_block a2 a11 = some r) (hst : St E H [] w) :
    Fn Try.prog 96 #[.pointer (some ⟨b1, o3, none⟩), .agg #[v12, v14, .int .i64 a11.term.kind, .int .i64 a11.term.arg, v16]] w fun v w' => ∃ A, check_looker_block.R r v A ∧ St E H A w' := by
  refine Fn.body (fn := Try.f96) (args := [.pointer (some ⟨b1, o3, none⟩), .agg #[v12, v14, .int .i64 a11.term.kind, .int .i64 a11.term.arg, v16]]) E H [] [.tmp 4] 43 Try.func96 rfl rfl rfl rfl (leb rfl) hst ?_
  unfold check_looker_block at hp
  refine TC.seq fun K_1 hK_2 => ?_
  refine TC.region ?_
  refine TL.box (cs := [v12, v14, .int .i64 a11.term.kind, .int .i64 a11.term.arg, v16]) (v := .agg #[v12, v14, .int .i64 a11.term.kind, .int .i64 a11.term.arg, v16]) (ltb rfl) rfl rfl fun b18 => ?_
  refine TL.v (ltb rfl) (rv_as (v := .nilIface) rfl) ?_
  refine TL.nil ?_
  refine TC.go hK_2 ?_
  refine TC.seq fun K_3 hK_4 => ?_
  refine TC.seq fun K_5 hK_6 => ?_
  refine TC.region ?_
  refine TL.v (ltb rfl) (rv_fa (b := b18) (o := 0) fa_85_0 rfl) ?_
  refine TL.v (ltb rfl) (rv_ld (v := v12) (o := 0) (o' := 0) (j := 0) sc_82 rfl (Src.at_ 0 rfl) (bx_cells b18 85 _) rfl rfl) ?_
  refine TL.v (ltb rfl) (rv_lenI (v := v12) Try.underlying82 rfl h13) ?_
  refine TL.v (ltb rfl) (rv_mv (v := .int .i64 0) rfl) ?_
  refine TL.nil ?_
  refine TC.go hK_6 ?_
  refine TC.block ?_
  obtain ⟨z_13, hz_14, hr_15⟩ := bind_some' hp
  clear hp
  have hJ_65 : ∀ (e_18 : Env) (h_19 : e_18 0 = .pointer (some ⟨b1, o3, none⟩)) (h_20 : e_18 3 = .pointer (some ⟨b18, 0, none⟩)) (hq_66 : .go () = z_13), ∀ w, St E H [bx b18 85 [v12, v14, .int .i64 a11.term.kind, .int .i64 a11.term.arg, v16]] w → K_3 e_18 w := by
    intro e_18 h_19 h_20 hq_66
    subst hq_66
    replace hp : check_looker_block.nx17 a2 a11 = some r := hr_15
    unfold check_looker_block.nx17 at hp
    refine TC.go hK_4 ?_
    refine TC.seq fun K_21 hK_22 => ?_
    refine TC.seq fun K_23 hK_24 => ?_
    refine TC.region ?_
    refine TL.v (ltb rfl) (rv_fa (b := b18) (o := 0) fa_85_1 h_20) ?_
    refine TL.v (ltb rfl) (rv_ld (v := v14) (o := 1) (o' := 0) (j := 1) sc_83 rfl (Src.at_ 0 rfl) (bx_cells b18 85 _) rfl rfl) ?_
    refine TL.v (ltb rfl) (rv_lenI (v := v14) Try.underlying83 rfl h15) ?_
    refine TL.v (ltb rfl) (rv_mv (v := .int .i64 0) rfl) ?_
    refine TL.nil ?_
    refine TC.go hK_24 ?_
    refine TC.block ?_
    obtain ⟨z_31, hz_32, hr_33⟩ := bind_some' hp
    clear hp
    have hJ_43 : ∀ (e_36 : Env) (h_37 : e_36 0 = .pointer (some ⟨b1, o3, none⟩)) (h_38 : e_36 3 = .pointer (some ⟨b18, 0, none⟩)) (hq_44 : .go () = z_31), ∀ w, St E H [bx b18 85 [v12, v14, .int .i64 a11.term.kind, .int .i64 a11.term.arg, v16]] w → K_21 e_36 w := by
      intro e_36 h_37 h_38 hq_44
      subst hq_44
      replace hp : check_looker_block.nx35 a2 a11 = some r := hr_33
      unfold check_looker_block.nx35 at hp
      refine TC.go hK_22 ?_
      refine TC.seq fun K_39 hK_40 => ?_
      refine TC.region ?_
      refine TL.v (ltb rfl) (rv_mv (v := .pointer (some ⟨b1, o3, none⟩)) h_37) ?_
      refine TL.v (ltb rfl) (rv_fa (b := b18) (o := 0) fa_85_2 h_38) ?_
      refine TL.v (ltb rfl) (rv_lda (o := 2) (o' := 0) (j := 2) (ds := [.int .i64 a11.term.kind, .int .i64 a11.term.arg, v16]) ag_81 rfl (Src.at_ 0 rfl) (bx_cells b18 85 _) rfl rfl rfl) ?_
      obtain ⟨x21, hy_41, hp⟩ := bind_some' hp
      refine TL.callC (vs := [.pointer (some ⟨b1, o3, none⟩), .agg #[.int .i64 a11.term.kind, .int .i64 a11.term.arg, v16]]) (R := check_looker_end.R x21) [] [bx b18 85 [v12, v14, .int .i64 a11.term.kind, .int .i64 a11.term.arg, v16]] rfl cb_106 (ltb rfl) (mc rfl (mc rfl m0)) (fun w hw => check_looker_end_ok (a2 := a2) (a11 := a11.term) (h4.mono subH) (h6.mono subH) (h8.mono subH) (h10.mono subH) (h17.mono subH) hy_41 hw) fun v A' hR_42 => ?_
      obtain ⟨v22, F23, rfl, rfl, h24⟩ := hR_42
      refine TL.norm (L' := [F23, bx b18 85 [v12, v14, .int .i64 a11.term.kind, .int .i64 a11.term.arg, v16]]) rfl ?_
      refine TL.v (ltb rfl) (rv_as (v := v22) rfl) ?_
      refine TL.nil ?_
      refine TC.go hK_40 ?_
      refine TC.ret ?_
      obtain rfl := Option.some.inj hp
      exact fun w hw => retOk ⟨v22, F23, rfl, rfl, h24⟩ (hw.pick [0])
    refine TC.pk' [0] (L' := [bx b18 85 [v12, v14, .int .i64 a11.term.kind, .int .i64 a11.term.arg, v16]]) rfl ?_
    refine TC.loopW (r := z_31) (fun (x20 : Int) (e_25 : Env) (L_64 : List FP) => e_25 0 = .pointer (some ⟨b1, o3, none⟩) ∧ e_25 3 = .pointer (some ⟨b18, 0, none⟩) ∧ e_25 26 = v14 ∧ e_25 27 = .int .i64 (len a11.ins) ∧ e_25 28 = .int .i64 x20 ∧ L_64 = [bx b18 85 [v12, v14, .int .i64 a11.term.kind, .int .i64 a11.term.arg, v16]]) ?_ FUEL _ _ _ hz_32 ⟨h_19, h_20, rfl, rfl, rfl, rfl⟩
    rintro x20 e_25 L_64 ⟨h_26, h_27, h_28, h_29, h_30, rfl⟩ x_34 hp hx_35
    replace hp : check_looker_block.bd35 a2 a11 x20 = some x_34 := hp
    unfold check_looker_block.bd35 at hp
    refine TC.seq fun K_45 hK_46 => ?_
    refine TC.region ?_
    refine TL.v (ltb rfl) (rv_lss (k := .i64) (m := x20) (n := (len a11.ins)) h_30 h_29) ?_
    refine TL.nil ?_
    refine TC.go hK_46 ?_
    refine TC.seq fun K_47 hK_48 => ?_
    by_cases hc_49 : x20 < (len a11.ins)
    · rw [if_pos hc_49] at hp
      refine TC.condT (bT hc_49) ?_
      refine TC.skip ?_
      refine TC.go hK_48 ?_
      refine TC.seq fun K_50 hK_51 => ?_
      refine TC.block ?_
      refine TC.seq fun K_52 hK_53 => ?_
      refine TC.region ?_
      obtain ⟨x25, hx_54, hp⟩ := bind_some' hp
      refine TL.v3 (ltb rfl) (rv_ix 83 (.tmp 26) (.tmp 28) (v := v14) (i := x20) Try.underlying83 inf_87 rfl h_28 h_30 h15 hx_54) fun b26 o27 c28 h29 h30 => ?_
      obtain ⟨v31, rfl, h32⟩ := h29
      refine TL.v (ltb rfl) (rv_lda (o := o27) (o' := o27) (j := 0) (ds := [.int .i64 x25.op, .int .i64 x25.dst, v31, .int .i64 x25.imm, .int .i64 x25.fn]) ag_87 rfl Src.H h30 rfl rfl rfl) ?_
      refine TL.alloc (cs := [.int .i64 0, .int .i64 0, .slice none 0 0, .int .i64 0, .int .i64 0]) inf_87 (ltb rfl) rfl fun b33 => ?_
      refine TL.stB (ds := [.int .i64 x25.op, .int .i64 x25.dst, v31, .int .i64 x25.imm, .int .i64 x25.fn]) (o := 0) (cs := [.int .i64 0, .int .i64 0, .slice none 0 0, .int .i64 0, .int .i64 0]) (b := b33) (u := .agg #[.int .i64 x25.op, .int .i64 x25.dst, v31, .int .i64 x25.imm, .int .i64 x25.fn]) 0 rfl ms_87 rfl rfl rfl (oc rfl (oc rfl (oc (h32).one (oc rfl (oc rfl oc0))))) (leb rfl) ?_
      refine TL.norm (L' := [bx b33 87 [.int .i64 x25.op, .int .i64 x25.dst, v31, .int .i64 x25.imm, .int .i64 x25.fn], bx b18 85 [v12, v14, .int .i64 a11.term.kind, .int .i64 a11.term.arg, v16]]) rfl ?_
      refine TL.nil ?_
      refine TC.go hK_53 ?_
      refine TC.seq fun K_55 hK_56 => ?_
      refine TC.region ?_
      refine TL.v (ltb rfl) (rv_mv (v := .pointer (some ⟨b1, o3, none⟩)) h_26) ?_
      refine TL.v (ltb rfl) (rv_lda (o := 0) (o' := 0) (j := 0) (ds := [.int .i64 x25.op, .int .i64 x25.dst, v31, .int .i64 x25.imm, .int .i64 x25.fn]) ag_87 rfl (Src.at_ 0 rfl) (bx_cells b33 87 _) rfl rfl rfl) ?_
      obtain ⟨x34, hy_57, hp⟩ := bind_some' hp
      refine TL.callC (vs := [.pointer (some ⟨b1, o3, none⟩), .agg #[.int .i64 x25.op, .int .i64 x25.dst, v31, .int .i64 x25.imm, .int .i64 x25.fn]]) (R := check_looker_instr.R x34) [] [bx b33 87 [.int .i64 x25.op, .int .i64 x25.dst, v31, .int .i64 x25.imm, .int .i64 x25.fn], bx b18 85 [v12, v14, .int .i64 a11.term.kind, .int .i64 a11.term.arg, v16]] rfl cb_105 (ltb rfl) (mc rfl (mc rfl m0)) (fun w hw => check_looker_instr_ok (a2 := a2) (a11 := x25) (h4.mono subH) (h6.mono subH) (h8.mono subH) (h10.mono subH) (h32.mono subH) hy_57 hw) fun v A' hR_58 => ?_
      obtain ⟨v35, F36, rfl, rfl, h37⟩ := hR_58
      refine TL.norm (L' := [F36, bx b33 87 [.int .i64 x25.op, .int .i64 x25.dst, v31, .int .i64 x25.imm, .int .i64 x25.fn], bx b18 85 [v12, v14, .int .i64 a11.term.kind, .int .i64 a11.term.arg, v16]]) rfl ?_
      refine TL.v (ltb rfl) (rv_as (v := v35) rfl) ?_
      refine TL.nil ?_
      refine TC.go hK_56 ?_
      refine TC.seq fun K_59 hK_60 => ?_
      refine TC.region ?_
      refine TL.v (ltb rfl) (rv_mv (v := v35) rfl) ?_
      refine TL.v (ltb rfl) (rv_neqEN ifc_49 h37 rfl) ?_
      refine TL.nil ?_
      refine TC.go hK_60 ?_
      by_cases hc_61 : ¬ x34 = GErr.no
      · rw [if_pos hc_61] at hp
        refine TC.condT (bT hc_61) ?_
        refine TC.seq fun K_62 hK_63 => ?_
        refine TC.region ?_
        refine TL.v (ltb rfl) (rv_mv (v := v35) rfl) ?_
        refine TL.v (ltb rfl) (rv_as (v := v35) rfl) ?_
        refine TL.nil ?_
        refine TC.go hK_63 ?_
        refine TC.ret ?_
        obtain rfl := ex_ret hp hx_35
        obtain rfl := Option.some.inj hr_33
        exact fun w hw => retOk ⟨v35, F36, rfl, rfl, h37⟩ (hw.pick [0])
      · rw [if_neg hc_61] at hp
        refine TC.condF (bF hc_61) ?_
        refine TC.skip ?_
        refine TC.go hK_51 ?_
        refine TC.region ?_
        refine TL.v (ltb rfl) (rv_add (k := .i64) (m := x20) (n := 1) h_30 rfl) ?_
        refine TL.v (ltb rfl) (rv_mv (v := .int .i64 (w64 (x20 + 1))) rfl) ?_
        refine TL.nil ?_
        exact fun w hw => goOk hp ⟨h_26, h_27, h_28, h_29, rfl, rfl⟩ (hw.pick [2])
    · rw [if_neg hc_49] at hp
      refine TC.condF (bF hc_49) ?_
      refine TC.exit ?_
      refine fun w hw => hJ_43 _ ?_ ?_ (ex_ret hp hx_35) w (hw.pick [0])
      · exact h_26
      · exact h_27
  refine TC.pk' [0] (L' := [bx b18 85 [v12, v14, .int .i64 a11.term.kind, .int .i64 a11.term.arg, v16]]) rfl ?_
  refine TC.loopW (r := z_13) (fun (x19 : Int) (e_7 : Env) (L_86 : List FP) => e_7 0 = .pointer (some ⟨b1, o3, none⟩) ∧ e_7 3 = .pointer (some ⟨b18, 0, none⟩) ∧ e_7 12 = v12 ∧ e_7 13 = .int .i64 (len a11.phis) ∧ e_7 14 = .int .i64 x19 ∧ L_86 = [bx b18 85 [v12, v14, .int .i64 a11.term.kind, .int .i64 a11.term.arg, v16]]) ?_ FUEL _ _ _ hz_14 ⟨rfl, rfl, rfl, rfl, rfl, rfl⟩
  rintro x19 e_7 L_86 ⟨h_8, h_9, h_10, h_11, h_12, rfl⟩ x_16 hp hx_17
  replace hp : check_looker_block.bd17 a2 a11 x19 = some x_16 := hp
  unfold check_looker_block.bd17 at hp
  refine TC.seq fun K_67 hK_68 => ?_
  refine TC.region ?_
  refine TL.v (ltb rfl) (rv_lss (k := .i64) (m := x19) (n := (len a11.phis)) h_12 h_11) ?_
  refine TL.nil ?_
  refine TC.go hK_68 ?_
  refine TC.seq fun K_69 hK_70 => ?_
  by_cases hc_71 : x19 < (len a11.phis)
  · rw [if_pos hc_71] at hp
    refine TC.condT (bT hc_71) ?_
    refine TC.skip ?_
    refine TC.go hK_70 ?_
    refine TC.seq fun K_72 hK_73 => ?_
    refine TC.block ?_
    refine TC.seq fun K_74 hK_75 => ?_
    refine TC.region ?_
    obtain ⟨x38, hx_76, hp⟩ := bind_some' hp
    refine TL.v3 (ltb rfl) (rv_ix 82 (.tmp 12) (.tmp 14) (v := v12) (i := x19) Try.underlying82 inf_131 rfl h_10 h_12 h13 hx_76) fun b39 o40 c41 h42 h43 => ?_
    obtain ⟨v44, rfl, h45⟩ := h42
    refine TL.v (ltb rfl) (rv_lda (o := o40) (o' := o40) (j := 0) (ds := [.int .i64 x38.dst, v44]) ag_131 rfl Src.H h43 rfl rfl rfl) ?_
    refine TL.alloc (cs := [.int .i64 0, .slice none 0 0]) inf_131 (ltb rfl) rfl fun b46 => ?_
    refine TL.stB (ds := [.int .i64 x38.dst, v44]) (o := 0) (cs := [.int .i64 0, .slice none 0 0]) (b := b46) (u := .agg #[.int .i64 x38.dst, v44]) 0 rfl ms_131 rfl rfl rfl (oc rfl (oc (h45).one oc0)) (leb rfl) ?_
    refine TL.norm (L' := [bx b46 131 [.int .i64 x38.dst, v44], bx b18 85 [v12, v14, .int .i64 a11.term.kind, .int .i64 a11.term.arg, v16]]) rfl ?_
    refine TL.nil ?_
    refine TC.go hK_75 ?_
    refine TC.seq fun K_77 hK_78 => ?_
    refine TC.region ?_
    refine TL.v (ltb rfl) (rv_mv (v := .pointer (some ⟨b1, o3, none⟩)) h_8) ?_
    refine TL.v (ltb rfl) (rv_lda (o := 0) (o' := 0) (j := 0) (ds := [.int .i64 x38.dst, v44]) ag_131 rfl (Src.at_ 0 rfl) (bx_cells b46 131 _) rfl rfl rfl) ?_
    obtain ⟨x47, hy_79, hp⟩ := bind_some' hp
    refine TL.callC (vs := [.pointer (some ⟨b1, o3, none⟩), .agg #[.int .i64 x38.dst, v44]]) (R := check_looker_phi.R x47) [] [bx b46 131 [.int .i64 x38.dst, v44], bx b18 85 [v12, v14, .int .i64 a11.term.kind, .int .i64 a11.term.arg, v16]] rfl cb_104 (ltb rfl) (mc rfl (mc rfl m0)) (fun w hw => check_looker_phi_ok (a2 := a2) (a11 := x38) (h4.mono subH) (h6.mono subH) (h8.mono subH) (h10.mono subH) (h45.mono subH) hy_79 hw) fun v A' hR_80 => ?_
    obtain ⟨v48, F49, rfl, rfl, h50⟩ := hR_80
    refine TL.norm (L' := [F49, bx b46 131 [.int .i64 x38.dst, v44], bx b18 85 [v12, v14, .int .i64 a11.term.kind, .int .i64 a11.term.arg, v16]]) rfl ?_
    refine TL.v (ltb rfl) (rv_as (v := v48) rfl) ?_
    refine TL.nil ?_
    refine TC.go hK_78 ?_
    refine TC.seq fun K_81 hK_82 => ?_
    refine TC.region ?_
    refine TL.v (ltb rfl) (rv_mv (v := v48) rfl) ?_
    refine TL.v (ltb rfl) (rv_neqEN ifc_49 h50 rfl) ?_
    refine TL.nil ?_
    refine TC.go hK_82 ?_
    by_cases hc_83 : ¬ x47 = GErr.no
    · rw [if_pos hc_83] at hp
      refine TC.condT (bT hc_83) ?_
      refine TC.seq fun K_84 hK_85 => ?_
      refine TC.region ?_
      refine TL.v (ltb rfl) (rv_mv (v := v48) rfl) ?_
      refine TL.v (ltb rfl) (rv_as (v := v48) rfl) ?_
      refine TL.nil ?_
      refine TC.go hK_85 ?_
      refine TC.ret ?_
      obtain rfl := ex_ret hp hx_17
      obtain rfl := Option.some.inj hr_15
      exact fun w hw => retOk ⟨v48, F49, rfl, rfl, h50⟩ (hw.pick [0])
    · rw [if_neg hc_83] at hp
      refine TC.condF (bF hc_83) ?_
      refine TC.skip ?_
      refine TC.go hK_73 ?_
      refine TC.region ?_
      refine TL.v (ltb rfl) (rv_add (k := .i64) (m := x19) (n := 1) h_12 rfl) ?_
      refine TL.v (ltb rfl) (rv_mv (v := .int .i64 (w64 (x19 + 1))) rfl) ?_
      refine TL.nil ?_
      exact fun w hw => goOk hp ⟨h_8, h_9, h_10, h_11, rfl, rfl⟩ (hw.pick [2])
  · rw [if_neg hc_71] at hp
    refine TC.condF (bF hc_71) ?_
    refine TC.exit ?_
    refine fun w hw => hJ_65 _ ?_ ?_ (ex_ret hp hx_17) w (hw.pick [0])
    · exact h_8
    · exact h_9

/-! ### fettle/check.Func -/
abbrev check_Func.R (r : GErr) (v : Value) (A : List FP) : Prop := ∃ (w1 : Value) (G1 : FP), w1 = v ∧ A = [G1] ∧ ErO 72 143 145 r w1 G1
def check_Func.nx86  : Option GErr :=
  some GErr.no
def check_Func.bd86 (a1 : PModule) (x1608 : PFunc) (x3618 : Int) : Option (Ex (Ex GErr Unit) Int) :=
  if x3618 < (len x1608.blocks) then
    (idx x1608.blocks x3618).bind fun x3620 =>
    (check_looker_block (⟨(⟨a1.funcs⟩ : PModule), (⟨x1608.params, x1608.result, x1608.regs, x1608.blocks⟩ : PFunc)⟩ : PLooker) x3620).bind fun x3633 =>
    if ¬ x3633 = GErr.no then
      some (.ret (.ret x3633))
    else
      some (.go (w64 (x3618 + 1)))
  else
    some (.ret (.go ()))
def check_Func.nx70 (a1 : PModule) (x1608 : PFunc) : Option GErr :=
  (whl (fun (s : Int) => check_Func.bd86 a1 x1608 s) FUEL 0).bind fun z =>
  match z with
    | .ret r => some r
    | .go p => check_Func.nx86
def check_Func.nx140 (x3617 : Int) : Option (Ex (Ex GErr Unit) Int) :=
  some (.go (w64 (x3617 + 1)))
def check_Func.bd140 (x3637 : List Int) (x3645 : PBlock) (x3657 : Int) : Option (Ex (Ex GErr Unit) Int) :=
  if x3657 < (len x3645.phis) then
    (idx x3645.phis x3657).bind fun x3658 =>
    if ¬ (len x3658.args) = (len x3637) then
      some (.ret (.ret (GErr.code 6)))
    else
      some (.go (w64 (x3657 + 1)))
  else
    some (.ret (.go ()))
def check_Func.bd70 (x1608 : PFunc) (x3613 : List (List Int)) (x3617 : Int) : Option (Ex (Ex GErr Unit) Int) :=
  if x3617 < (len x3613) then
    (idx x3613 x3617).bind fun x3637 =>
    (idx x1608.blocks x3617).bind fun x3645 =>
    (whl (fun (s : Int) => check_Func.bd140 x3637 x3645 s) FUEL 0).bind fun z =>
    match z with
      | .ret r => some (.ret (.ret r))
      | .go p => check_Func.nx140 x3617
  else
    some (.ret (.go ()))
def check_Func.nx52 (a1 : PModule) (x1608 : PFunc) : Option GErr :=
  (check_Ahead x1608).bind fun x3613 =>
  (whl (fun (s : Int) => check_Func.bd70 x1608 x3613 s) FUEL 0).bind fun z =>
  match z with
    | .ret r => some r
    | .go p => check_Func.nx70 a1 x1608
def check_Func.bd52 (x1608 : PFunc) (x3612 : Int) : Option (Ex (Ex GErr Unit) Int) :=
  if x3612 < (len x1608.blocks) then
    (idx x1608.blocks x3612).bind fun x3668 =>
    (check_ends x1608 x3668.term).bind fun x3681 =>
    if (!x3681) = true then
      some (.ret (.ret (GErr.code 6)))
    else
      some (.go (w64 (x3612 + 1)))
  else
    some (.ret (.go ()))
def check_Func (a1 : PModule) (a4 : Int) : Option GErr :=
  if a4 < 0 ∨ a4 ≥ (len a1.funcs) then
    some (GErr.code 1)
  else
    (idx a1.funcs a4).bind fun x1608 =>
    (check_small x1608).bind fun x3608 =>
    if (!x3608) = true then
      some (GErr.code 5)
    else
      (check_typed x1608).bind fun x3610 =>
      if (!x3610) = true then
        some (GErr.code 3)
      else
        (whl (fun (s : Int) => check_Func.bd52 x1608 s) FUEL 0).bind fun z =>
        match z with
          | .ret r => some r
          | .go p => check_Func.nx52 a1 x1608
set_option maxHeartbeats 4000000 in
theorem check_Func_ok {E : World} {H : FP} {w : World} {a1 : PModule} {a4 : Int} {v2 : Value} {r : GErr} (h3 : SlI kFunc H a1.funcs v2) (hp : check_Func a1 a4 = some r) (hst : St E H [] w) :
    Fn Try.prog 84 #[.agg #[v2], .int .i64 a4] w fun v w' => ∃ A, check_Func.R r v A ∧ St E H A w' := by
  refine Fn.body (fn := Try.f84) (args := [.agg #[v2], .int .i64 a4]) E H [] [.tmp 4] 120 Try.func84 rfl rfl rfl rfl (leb rfl) hst ?_
  unfold check_Func at hp
  refine TC.seq fun K_1 hK_2 => ?_
  refine TC.region ?_
  refine TL.box (cs := [v2]) (v := .agg #[v2]) (ltb rfl) rfl rfl fun b5 => ?_
  refine TL.v (ltb rfl) (rv_as (v := .nilIface) rfl) ?_
  refine TL.nil ?_
  refine TC.go hK_2 ?_
  refine TC.seq fun K_3 hK_4 => ?_
  refine TC.seq fun K_5 hK_6 => ?_
  refine TC.region ?_
  refine TL.v (ltb rfl) (rv_mv (v := .int .i64 a4) rfl) ?_
  refine TL.v (ltb rfl) (rv_lss (k := .i64) (m := a4) (n := 0) rfl rfl) ?_
  refine TL.v (ltb rfl) (rv_mv (v := .bool (decide (a4 < 0))) rfl) ?_
  refine TL.cut 6 fun K_7 hK_8 => ?_
  have hJ_9 : ∀ e_11 : Env, e_11 1 = .int .i64 a4 → e_11 2 = .pointer (some ⟨b5, 0, none⟩) → e_11 23 = .bool (decide (a4 < 0 ∨ a4 ≥ (len a1.funcs))) → ∀ w, St E H [bx b5 90 [v2]] w → K_7 e_11 w := by
    intro e_11 h_12 h_13 h_14
    refine TL.go hK_8 ?_
    refine TL.nil ?_
    refine TC.go hK_6 ?_
    by_cases hc_15 : a4 < 0 ∨ a4 ≥ (len a1.funcs)
    · rw [if_pos hc_15] at hp
      refine TC.condT (h_14.trans (bT hc_15)) ?_
      refine TC.seq fun K_16 hK_17 => ?_
      refine TC.region ?_
      refine TL.v (ltb rfl) (rv_makeIface (v := .int .i64 1) Try.underlying72 (fun ms h => by cases h) rfl) ?_
      refine TL.v (ltb rfl) (rv_as (v := .iface 72 (.int .i64 1)) rfl) ?_
      refine TL.nil ?_
      refine TC.go hK_17 ?_
      refine TC.ret ?_
      refine W.new0 ?_
      obtain rfl := Option.some.inj hp
      exact fun w hw => retOk ⟨(.iface 72 (.int .i64 1)), ([] : FP), rfl, rfl, (ErO.mk _ : ErO 72 143 145 (GErr.code 1) (.iface 72 (.int .i64 1)) [])⟩ (hw.pick [0])
    · rw [if_neg hc_15] at hp
      refine TC.condF (h_14.trans (bF hc_15)) ?_
      refine TC.skip ?_
      refine TC.go hK_4 ?_
      refine TC.seq fun K_18 hK_19 => ?_
      refine TC.held ([bx b5 90 [v2]].flatten ++ H) mix (srcG 0 rfl srcG0) ?_
      refine HL.v 0 rfl trivial (by kernel_rfl) (by kernel_rfl) (by kernel_rfl) (ltb rfl) (rv_lda (o := 0) (o' := 0) (j := 0) (ds := [v2]) ag_90 h_13 (srcInG 0 rfl) (bx_cells b5 90 _) rfl rfl rfl) ?_
      refine HL.v 1 rfl trivial (by kernel_rfl) (by kernel_rfl) (by kernel_rfl) (ltb rfl) (rv_fa (b := b5) (o := 0) fa_90_0 h_13) ?_
      refine HL.v 2 rfl trivial (by kernel_rfl) (by kernel_rfl) (by kernel_rfl) (ltb rfl) (rv_ld (v := v2) (o := 0) (o' := 0) (j := 0) sc_88 rfl (srcInG 0 rfl) (bx_cells b5 90 _) rfl rfl) ?_
      refine HL.v 3 rfl trivial (by kernel_rfl) (by kernel_rfl) (by kernel_rfl) (ltb rfl) (rv_mv (v := .int .i64 a4) h_12) ?_
      obtain ⟨x1608, hx_20, hp⟩ := bind_some' hp
      refine HL.w3 4 rfl trivial (by kernel_rfl) (by kernel_rfl) (by kernel_rfl) (ltb rfl) (rv_ix 88 (.tmp 27) (.tmp 28) (v := v2) (i := a4) Try.underlying88 inf_25 rfl rfl rfl h3 hx_20) fun b1609 o1610 c1611 h1612 h1613 => ?_
      obtain ⟨v1614, v1616, rfl, h1615, h1617⟩ := h1612
      refine HL.v 5 rfl trivial (by kernel_rfl) (by kernel_rfl) (by kernel_rfl) (ltb rfl) (rv_lda (o := o1610) (o' := o1610) (j := 0) (ds := [.int .i64 x1608.params, .int .i64 x1608.result, v1614, v1616]) ag_25 rfl srcInH h1613 rfl rfl rfl) ?_
      refine HL.v 6 rfl trivial (by kernel_rfl) (by kernel_rfl) (by kernel_rfl) (ltb rfl) (rv_bv (vs := [(0, .agg #[v2]), (1, .agg #[.int .i64 x1608.params, .int .i64 x1608.result, v1614, v1616])]) (ds := [v2, .int .i64 x1608.params, .int .i64 x1608.result, v1614, v1616]) (pc rfl (pc rfl p0)) (fun w => by kernel_rfl)) ?_
      refine HL.one 7 rfl (by kernel_rfl) fun K_21 hK_22 => ?_
      refine TL.box (cs := [v2, .int .i64 x1608.params, .int .i64 x1608.result, v1614, v1616]) (v := .agg #[v2, .int .i64 x1608.params, .int .i64 x1608.result, v1614, v1616]) (ltb rfl) rfl rfl fun b2808 => ?_
      refine TL.nil (hK_22 _ _ (srcG 1 rfl srcG0) ?_)
      refine HL.v 8 rfl trivial (by kernel_rfl) (by kernel_rfl) (by kernel_rfl) (ltb rfl) (rv_as (v := .pointer (some ⟨b2808, 0, none⟩)) rfl) ?_
      refine HL.done (by kernel_rfl) ?_
      refine TC.go hK_19 ?_
      refine TC.seq fun K_23 hK_24 => ?_
      refine TC.block ?_
      refine TC.seq fun K_25 hK_26 => ?_
      refine TC.region ?_
      refine TL.v (ltb rfl) (rv_mv (v := .pointer (some ⟨b2808, 0, none⟩)) rfl) ?_
      refine TL.v (ltb rfl) (rv_nilCheck (a := ⟨b2808, 0, none⟩) rfl) ?_
      refine TL.v (ltb rfl) (rv_fa (b := b2808) (o := 0) fa_159_1 rfl) ?_
      refine TL.v (ltb rfl) (rv_lda (o := 1) (o' := 0) (j := 1) (ds := [.int .i64 x1608.params, .int .i64 x1608.result, v1614, v1616]) ag_25 rfl (Src.at_ 0 rfl) (bx_cells b2808 159 _) rfl rfl rfl) ?_
      obtain ⟨x3608, hy_27, hp⟩ := bind_some' hp
      refine TL.callC (vs := [.agg #[.int .i64 x1608.params, .int .i64 x1608.result, v1614, v1616]]) (R := check_small.R x3608) [] [bx b2808 159 [v2, .int .i64 x1608.params, .int .i64 x1608.result, v1614, v1616], bx b5 90 [v2]] rfl cb_93 (ltb rfl) (mc rfl m0) (fun w hw => check_small_ok (a1 := x1608) (h1615.mono subH) (h1617.mono subH) hy_27 hw) fun v A' hR_28 => ?_
      obtain ⟨rfl, rfl⟩ := hR_28
      refine TL.norm (L' := [bx b2808 159 [v2, .int .i64 x1608.params, .int .i64 x1608.result, v1614, v1616], bx b5 90 [v2]]) rfl ?_
      refine TL.v (ltb rfl) (rv_not (b := x3608) rfl) ?_
      refine TL.v (ltb rfl) (rv_as (v := .bool (!x3608)) rfl) ?_
      refine TL.nil ?_
      refine TC.go hK_26 ?_
      by_cases hc_29 : (!x3608) = true
      · rw [if_pos hc_29] at hp
        refine TC.condT (bbT hc_29) ?_
        refine TC.seq fun K_30 hK_31 => ?_
        refine TC.region ?_
        refine TL.v (ltb rfl) (rv_makeIface (v := .int .i64 5) Try.underlying72 (fun ms h => by cases h) rfl) ?_
        refine TL.v (ltb rfl) (rv_as (v := .iface 72 (.int .i64 5)) rfl) ?_
        refine TL.nil ?_
        refine TC.go hK_31 ?_
        refine TC.ret ?_
        refine W.new0 ?_
        obtain rfl := Option.some.inj hp
        exact fun w hw => retOk ⟨(.iface 72 (.int .i64 5)), ([] : FP), rfl, rfl, (ErO.mk _ : ErO 72 143 145 (GErr.code 5) (.iface 72 (.int .i64 5)) [])⟩ (hw.pick [0])
      · rw [if_neg hc_29] at hp
        refine TC.condF (bbF hc_29) ?_
        refine TC.seq fun K_32 hK_33 => ?_
        refine TC.region ?_
        refine TL.v (ltb rfl) (rv_mv (v := .pointer (some ⟨b2808, 0, none⟩)) rfl) ?_
        refine TL.v (ltb rfl) (rv_nilCheck (a := ⟨b2808, 0, none⟩) rfl) ?_
        refine TL.v (ltb rfl) (rv_fa (b := b2808) (o := 0) fa_159_1 rfl) ?_
        refine TL.v (ltb rfl) (rv_lda (o := 1) (o' := 0) (j := 1) (ds := [.int .i64 x1608.params, .int .i64 x1608.result, v1614, v1616]) ag_25 rfl (Src.at_ 0 rfl) (bx_cells b2808 159 _) rfl rfl rfl) ?_
        obtain ⟨x3610, hy_34, hp⟩ := bind_some' hp
        refine TL.callC (vs := [.agg #[.int .i64 x1608.params, .int .i64 x1608.result, v1614, v1616]]) (R := check_typed.R x3610) [] [bx b2808 159 [v2, .int .i64 x1608.params, .int .i64 x1608.result, v1614, v1616], bx b5 90 [v2]] rfl cb_94 (ltb rfl) (mc rfl m0) (fun w hw => check_typed_ok (a1 := x1608) (h1615.mono subH) (h1617.mono subH) hy_34 hw) fun v A' hR_35 => ?_
        obtain ⟨rfl, rfl⟩ := hR_35
        refine TL.norm (L' := [bx b2808 159 [v2, .int .i64 x1608.params, .int .i64 x1608.result, v1614, v1616], bx b5 90 [v2]]) rfl ?_
        refine TL.v (ltb rfl) (rv_not (b := x3610) rfl) ?_
        refine TL.v (ltb rfl) (rv_as (v := .bool (!x3610)) rfl) ?_
        refine TL.nil ?_
        refine TC.go hK_33 ?_
        by_cases hc_36 : (!x3610) = true
        · rw [if_pos hc_36] at hp
          refine TC.condT (bbT hc_36) ?_
          refine TC.seq fun K_37 hK_38 => ?_
          refine TC.region ?_
          refine TL.v (ltb rfl) (rv_makeIface (v := .int .i64 3) Try.underlying72 (fun ms h => by cases h) rfl) ?_
          refine TL.v (ltb rfl) (rv_as (v := .iface 72 (.int .i64 3)) rfl) ?_
          refine TL.nil ?_
          refine TC.go hK_38 ?_
          refine TC.ret ?_
          refine W.new0 ?_
          obtain rfl := Option.some.inj hp
          exact fun w hw => retOk ⟨(.iface 72 (.int .i64 3)), ([] : FP), rfl, rfl, (ErO.mk _ : ErO 72 143 145 (GErr.code 3) (.iface 72 (.int .i64 3)) [])⟩ (hw.pick [0])
        · rw [if_neg hc_36] at hp
          refine TC.condF (bbF hc_36) ?_
          refine TC.skip ?_
          refine TC.go hK_24 ?_
          refine TC.seq fun K_39 hK_40 => ?_
          refine TC.seq fun K_41 hK_42 => ?_
          refine TC.region ?_
          refine TL.v (ltb rfl) (rv_mv (v := .pointer (some ⟨b2808, 0, none⟩)) rfl) ?_
          refine TL.v (ltb rfl) (rv_nilCheck (a := ⟨b2808, 0, none⟩) rfl) ?_
          refine TL.v (ltb rfl) (rv_fa (b := b2808) (o := 0) fa_159_1 rfl) ?_
          refine TL.v (ltb rfl) (rv_fa (b := b2808) (o := 1) fa_25_3 rfl) ?_
          refine TL.v (ltb rfl) (rv_ld (v := v1616) (o := 4) (o' := 0) (j := 4) sc_23 rfl (Src.at_ 0 rfl) (bx_cells b2808 159 _) rfl rfl) ?_
          refine TL.v (ltb rfl) (rv_lenI (v := v1616) Try.underlying23 rfl h1617) ?_
          refine TL.v (ltb rfl) (rv_mv (v := .int .i64 0) rfl) ?_
          refine TL.nil ?_
          refine TC.go hK_42 ?_
          refine TC.block ?_
          obtain ⟨z_48, hz_49, hr_50⟩ := bind_some' hp
          clear hp
          have hJ_165 : ∀ (e_53 : Env) (h_54 : e_53 5 = .pointer (some ⟨b2808, 0, none⟩)) (hq_166 : .go () = z_48), ∀ w, St E H [bx b2808 159 [v2, .int .i64 x1608.params, .int .i64 x1608.result, v1614, v1616]] w → K_39 e_53 w := by
            intro e_53 h_54 hq_166
            subst hq_166
            replace hp : check_Func.nx52 a1 x1608 = some r := hr_50
            unfold check_Func.nx52 at hp
            refine TC.go hK_40 ?_
            refine TC.seq fun K_55 hK_56 => ?_
            refine TC.seq fun K_57 hK_58 => ?_
            refine TC.region ?_
            refine TL.v (ltb rfl) (rv_mv (v := .pointer (some ⟨b2808, 0, none⟩)) h_54) ?_
            refine TL.v (ltb rfl) (rv_nilCheck (a := ⟨b2808, 0, none⟩) rfl) ?_
            refine TL.v (ltb rfl) (rv_fa (b := b2808) (o := 0) fa_159_1 rfl) ?_
            refine TL.v (ltb rfl) (rv_lda (o := 1) (o' := 0) (j := 1) (ds := [.int .i64 x1608.params, .int .i64 x1608.result, v1614, v1616]) ag_25 rfl (Src.at_ 0 rfl) (bx_cells b2808 159 _) rfl rfl rfl) ?_
            obtain ⟨x3613, hy_59, hp⟩ := bind_some' hp
            refine TL.callC (vs := [.agg #[.int .i64 x1608.params, .int .i64 x1608.result, v1614, v1616]]) (R := check_Ahead.R x3613) [] [bx b2808 159 [v2, .int .i64 x1608.params, .int .i64 x1608.result, v1614, v1616]] rfl cb_78 (ltb rfl) (mc rfl m0) (fun w hw => check_Ahead_ok (a1 := x1608) (h1615.mono subH) (h1617.mono subH) hy_59 hw) fun v A' hR_60 => ?_
            obtain ⟨v3614, F3615, rfl, rfl, h3616⟩ := hR_60
            refine TL.norm (L' := [F3615, bx b2808 159 [v2, .int .i64 x1608.params, .int .i64 x1608.result, v1614, v1616]]) rfl ?_
            refine TL.v (ltb rfl) (rv_lenI (v := v3614) Try.underlying28 rfl h3616.ro) ?_
            refine TL.v (ltb rfl) (rv_mv (v := .int .i64 0) rfl) ?_
            refine TL.nil ?_
            refine TC.go hK_58 ?_
            refine TC.block ?_
            obtain ⟨z_66, hz_67, hr_68⟩ := bind_some' hp
            clear hp
            have hJ_112 : ∀ (e_71 : Env) (h_72 : e_71 5 = .pointer (some ⟨b2808, 0, none⟩)) (hq_113 : .go () = z_66), ∀ w, St E H [bx b2808 159 [v2, .int .i64 x1608.params, .int .i64 x1608.result, v1614, v1616]] w → K_55 e_71 w := by
              intro e_71 h_72 hq_113
              subst hq_113
              replace hp : check_Func.nx70 a1 x1608 = some r := hr_68
              unfold check_Func.nx70 at hp
              refine TC.go hK_56 ?_
              refine TC.seq fun K_73 hK_74 => ?_
              refine TC.seq fun K_75 hK_76 => ?_
              refine TC.region ?_
              refine TL.v (ltb rfl) (rv_mv (v := .pointer (some ⟨b2808, 0, none⟩)) h_72) ?_
              refine TL.v (ltb rfl) (rv_nilCheck (a := ⟨b2808, 0, none⟩) rfl) ?_
              refine TL.v (ltb rfl) (rv_fa (b := b2808) (o := 0) fa_159_1 rfl) ?_
              refine TL.v (ltb rfl) (rv_fa (b := b2808) (o := 1) fa_25_3 rfl) ?_
              refine TL.v (ltb rfl) (rv_ld (v := v1616) (o := 4) (o' := 0) (j := 4) sc_23 rfl (Src.at_ 0 rfl) (bx_cells b2808 159 _) rfl rfl) ?_
              refine TL.v (ltb rfl) (rv_lenI (v := v1616) Try.underlying23 rfl h1617) ?_
              refine TL.v (ltb rfl) (rv_mv (v := .int .i64 0) rfl) ?_
              refine TL.nil ?_
              refine TC.go hK_76 ?_
              refine TC.block ?_
              obtain ⟨z_82, hz_83, hr_84⟩ := bind_some' hp
              clear hp
              have hJ_90 : ∀ (e_87 : Env) (hq_91 : .go () = z_82), ∀ w, St E H [] w → K_73 e_87 w := by
                intro e_87 hq_91
                subst hq_91
                replace hp : check_Func.nx86 = some r := hr_84
                unfold check_Func.nx86 at hp
                refine TC.go hK_74 ?_
                refine TC.seq fun K_88 hK_89 => ?_
                refine TC.region ?_
                refine TL.v (ltb rfl) (rv_as (v := .nilIface) rfl) ?_
                refine TL.nil ?_
                refine TC.go hK_89 ?_
                refine TC.ret ?_
                refine W.new0 ?_
                obtain rfl := Option.some.inj hp
                exact fun w hw => retOk ⟨.nilIface, ([] : FP), rfl, rfl, (ErO.nil : ErO 72 143 145 GErr.no .nilIface [])⟩ (hw.pick [0])
              refine TC.pk' [0] (L' := [bx b2808 159 [v2, .int .i64 x1608.params, .int .i64 x1608.result, v1614, v1616]]) rfl ?_
              refine TC.loopW (r := z_82) (fun (x3618 : Int) (e_77 : Env) (L_111 : List FP) => e_77 5 = .pointer (some ⟨b2808, 0, none⟩) ∧ e_77 107 = v1616 ∧ e_77 108 = .int .i64 (len x1608.blocks) ∧ e_77 109 = .int .i64 x3618 ∧ L_111 = [bx b2808 159 [v2, .int .i64 x1608.params, .int .i64 x1608.result, v1614, v1616]]) ?_ FUEL _ _ _ hz_83 ⟨h_72, rfl, rfl, rfl, rfl⟩
              rintro x3618 e_77 L_111 ⟨h_78, h_79, h_80, h_81, rfl⟩ x_85 hp hx_86
              replace hp : check_Func.bd86 a1 x1608 x3618 = some x_85 := hp
              unfold check_Func.bd86 at hp
              refine TC.seq fun K_92 hK_93 => ?_
              refine TC.region ?_
              refine TL.v (ltb rfl) (rv_lss (k := .i64) (m := x3618) (n := (len x1608.blocks)) h_81 h_80) ?_
              refine TL.nil ?_
              refine TC.go hK_93 ?_
              refine TC.seq fun K_94 hK_95 => ?_
              by_cases hc_96 : x3618 < (len x1608.blocks)
              · rw [if_pos hc_96] at hp
                refine TC.condT (bT hc_96) ?_
                refine TC.skip ?_
                refine TC.go hK_95 ?_
                refine TC.seq fun K_97 hK_98 => ?_
                refine TC.block ?_
                refine TC.seq fun K_99 hK_100 => ?_
                refine TC.region ?_
                obtain ⟨x3620, hx_101, hp⟩ := bind_some' hp
                refine TL.v3 (ltb rfl) (rv_ix 23 (.tmp 107) (.tmp 109) (v := v1616) (i := x3618) Try.underlying23 inf_85 rfl h_79 h_81 h1617 hx_101) fun b3621 o3622 c3623 h3624 h3625 => ?_
                obtain ⟨v3626, v3628, v3630, rfl, h3627, h3629, h3631⟩ := h3624
                refine TL.v (ltb rfl) (rv_lda (o := o3622) (o' := o3622) (j := 0) (ds := [v3626, v3628, .int .i64 x3620.term.kind, .int .i64 x3620.term.arg, v3630]) ag_85 rfl Src.H h3625 rfl rfl rfl) ?_
                refine TL.alloc (cs := [.slice none 0 0, .slice none 0 0, .int .i64 0, .int .i64 0, .slice none 0 0]) inf_85 (ltb rfl) rfl fun b3632 => ?_
                refine TL.stB (ds := [v3626, v3628, .int .i64 x3620.term.kind, .int .i64 x3620.term.arg, v3630]) (o := 0) (cs := [.slice none 0 0, .slice none 0 0, .int .i64 0, .int .i64 0, .slice none 0 0]) (b := b3632) (u := .agg #[v3626, v3628, .int .i64 x3620.term.kind, .int .i64 x3620.term.arg, v3630]) 0 rfl ms_85 rfl rfl rfl (oc (h3627).one (oc (h3629).one (oc rfl (oc rfl (oc (h3631).one oc0))))) (leb rfl) ?_
                refine TL.norm (L' := [bx b3632 85 [v3626, v3628, .int .i64 x3620.term.kind, .int .i64 x3620.term.arg, v3630], bx b2808 159 [v2, .int .i64 x1608.params, .int .i64 x1608.result, v1614, v1616]]) rfl ?_
                refine TL.nil ?_
                refine TC.go hK_100 ?_
                refine TC.seq fun K_102 hK_103 => ?_
                refine TC.region ?_
                refine TL.v (ltb rfl) (rv_mv (v := .pointer (some ⟨b2808, 0, none⟩)) h_78) ?_
                refine TL.v (ltb rfl) (rv_lda (o := 0) (o' := 0) (j := 0) (ds := [v3626, v3628, .int .i64 x3620.term.kind, .int .i64 x3620.term.arg, v3630]) ag_85 rfl (Src.at_ 0 rfl) (bx_cells b3632 85 _) rfl rfl rfl) ?_
                obtain ⟨x3633, hy_104, hp⟩ := bind_some' hp
                refine TL.callC (vs := [.pointer (some ⟨b2808, 0, none⟩), .agg #[v3626, v3628, .int .i64 x3620.term.kind, .int .i64 x3620.term.arg, v3630]]) (R := check_looker_block.R x3633) [] [bx b3632 85 [v3626, v3628, .int .i64 x3620.term.kind, .int .i64 x3620.term.arg, v3630], bx b2808 159 [v2, .int .i64 x1608.params, .int .i64 x1608.result, v1614, v1616]] rfl cb_96 (ltb rfl) (mc rfl (mc rfl m0)) (fun w hw => check_looker_block_ok (a2 := (⟨(⟨a1.funcs⟩ : PModule), (⟨x1608.params, x1608.result, x1608.regs, x1608.blocks⟩ : PFunc)⟩ : PLooker)) (a11 := x3620) ((bx_cells b2808 159 _).mono (subB 1 rfl)) (h3.mono subH) (h1615.mono subH) (h1617.mono subH) (h3627.mono subH) (h3629.mono subH) (h3631.mono subH) hy_104 hw) fun v A' hR_105 => ?_
                obtain ⟨v3634, F3635, rfl, rfl, h3636⟩ := hR_105
                refine TL.norm (L' := [F3635, bx b3632 85 [v3626, v3628, .int .i64 x3620.term.kind, .int .i64 x3620.term.arg, v3630], bx b2808 159 [v2, .int .i64 x1608.params, .int .i64 x1608.result, v1614, v1616]]) rfl ?_
                refine TL.v (ltb rfl) (rv_as (v := v3634) rfl) ?_
                refine TL.nil ?_
                refine TC.go hK_103 ?_
                refine TC.seq fun K_106 hK_107 => ?_
                refine TC.region ?_
                refine TL.v (ltb rfl) (rv_mv (v := v3634) rfl) ?_
                refine TL.v (ltb rfl) (rv_neqEN ifc_49 h3636 rfl) ?_
                refine TL.nil ?_
                refine TC.go hK_107 ?_
                by_cases hc_108 : ¬ x3633 = GErr.no
                · rw [if_pos hc_108] at hp
                  refine TC.condT (bT hc_108) ?_
                  refine TC.seq fun K_109 hK_110 => ?_
                  refine TC.region ?_
                  refine TL.v (ltb rfl) (rv_mv (v := v3634) rfl) ?_
                  refine TL.v (ltb rfl) (rv_as (v := v3634) rfl) ?_
                  refine TL.nil ?_
                  refine TC.go hK_110 ?_
                  refine TC.ret ?_
                  obtain rfl := ex_ret hp hx_86
                  obtain rfl := Option.some.inj hr_84
                  exact fun w hw => retOk ⟨v3634, F3635, rfl, rfl, h3636⟩ (hw.pick [0])
                · rw [if_neg hc_108] at hp
                  refine TC.condF (bF hc_108) ?_
                  refine TC.skip ?_
                  refine TC.go hK_98 ?_
                  refine TC.region ?_
                  refine TL.v (ltb rfl) (rv_add (k := .i64) (m := x3618) (n := 1) h_81 rfl) ?_
                  refine TL.v (ltb rfl) (rv_mv (v := .int .i64 (w64 (x3618 + 1))) rfl) ?_
                  refine TL.nil ?_
                  exact fun w hw => goOk hp ⟨h_78, h_79, h_80, rfl, rfl⟩ (hw.pick [2])
              · rw [if_neg hc_96] at hp
                refine TC.condF (bF hc_96) ?_
                refine TC.exit ?_
                refine fun w hw => hJ_90 _ (ex_ret hp hx_86) w (hw.pick [])
            refine TC.pk' [1, 0] (L' := [bx b2808 159 [v2, .int .i64 x1608.params, .int .i64 x1608.result, v1614, v1616], F3615]) rfl ?_
            refine TC.loopW (r := z_66) (fun (x3617 : Int) (e_61 : Env) (L_164 : List FP) => e_61 5 = .pointer (some ⟨b2808, 0, none⟩) ∧ e_61 73 = v3614 ∧ e_61 74 = .int .i64 (len x3613) ∧ e_61 75 = .int .i64 x3617 ∧ L_164 = [bx b2808 159 [v2, .int .i64 x1608.params, .int .i64 x1608.result, v1614, v1616], F3615]) ?_ FUEL _ _ _ hz_67 ⟨h_54, rfl, rfl, rfl, rfl⟩
            rintro x3617 e_61 L_164 ⟨h_62, h_63, h_64, h_65, rfl⟩ x_69 hp hx_70
            replace hp : check_Func.bd70 x1608 x3613 x3617 = some x_69 := hp
            unfold check_Func.bd70 at hp
            refine TC.seq fun K_114 hK_115 => ?_
            refine TC.region ?_
            refine TL.v (ltb rfl) (rv_lss (k := .i64) (m := x3617) (n := (len x3613)) h_65 h_64) ?_
            refine TL.nil ?_
            refine TC.go hK_115 ?_
            refine TC.seq fun K_116 hK_117 => ?_
            by_cases hc_118 : x3617 < (len x3613)
            · rw [if_pos hc_118] at hp
              refine TC.condT (bT hc_118) ?_
              refine TC.skip ?_
              refine TC.go hK_117 ?_
              refine TC.seq fun K_119 hK_120 => ?_
              refine TC.block ?_
              refine TC.seq fun K_121 hK_122 => ?_
              refine TC.region ?_
              refine TL.v (ltb rfl) (rv_mv (v := .int .i64 x3617) h_65) ?_
              obtain ⟨x3637, hx_123, hp⟩ := bind_some' hp
              refine TL.v3 (ltb rfl) (rv_ix 28 (.tmp 73) (.tmp 75) (v := v3614) (i := x3617) Try.underlying28 inf_22 rfl h_63 h_65 (h3616).ro hx_123) fun b3638 o3639 c3640 h3641 h3642 => ?_
              obtain ⟨v3643, rfl, h3644⟩ := h3641
              refine TL.v (ltb rfl) (rv_ld (v := v3643) (o := o3639) (o' := o3639) (j := 0) sc_22 rfl (Src.at_ 1 rfl) h3642 rfl rfl) ?_
              refine TL.v (ltb rfl) (rv_as (v := .int .i64 x3617) rfl) ?_
              refine TL.v (ltb rfl) (rv_as (v := v3643) rfl) ?_
              refine TL.nil ?_
              refine TC.go hK_122 ?_
              refine TC.seq fun K_124 hK_125 => ?_
              refine TC.region ?_
              refine TL.v (ltb rfl) (rv_mv (v := .pointer (some ⟨b2808, 0, none⟩)) h_62) ?_
              refine TL.v (ltb rfl) (rv_nilCheck (a := ⟨b2808, 0, none⟩) rfl) ?_
              refine TL.v (ltb rfl) (rv_fa (b := b2808) (o := 0) fa_159_1 rfl) ?_
              refine TL.v (ltb rfl) (rv_fa (b := b2808) (o := 1) fa_25_3 rfl) ?_
              refine TL.v (ltb rfl) (rv_ld (v := v1616) (o := 4) (o' := 0) (j := 4) sc_23 rfl (Src.at_ 0 rfl) (bx_cells b2808 159 _) rfl rfl) ?_
              refine TL.v (ltb rfl) (rv_mv (v := .int .i64 x3617) rfl) ?_
              obtain ⟨x3645, hx_126, hp⟩ := bind_some' hp
              refine TL.v3 (ltb rfl) (rv_ix 23 (.tmp 84) (.tmp 85) (v := v1616) (i := x3617) Try.underlying23 inf_85 rfl rfl rfl h1617 hx_126) fun b3646 o3647 c3648 h3649 h3650 => ?_
              obtain ⟨v3651, v3653, v3655, rfl, h3652, h3654, h3656⟩ := h3649
              refine TL.v (ltb rfl) (rv_fa (b := b3646) (o := o3647) fa_85_0 rfl) ?_
              refine TL.v (ltb rfl) (rv_ld (v := v3651) (o := o3647) (o' := o3647) (j := 0) sc_82 rfl Src.H h3650 rfl rfl) ?_
              refine TL.v (ltb rfl) (rv_lenI (v := v3651) Try.underlying82 rfl h3652) ?_
              refine TL.v (ltb rfl) (rv_mv (v := .int .i64 0) rfl) ?_
              refine TL.nil ?_
              refine TC.go hK_125 ?_
              refine TC.block ?_
              obtain ⟨z_136, hz_137, hr_138⟩ := bind_some' hp
              clear hp
              have hJ_146 : ∀ (e_141 : Env) (h_142 : e_141 5 = .pointer (some ⟨b2808, 0, none⟩)) (h_143 : e_141 73 = v3614) (h_144 : e_141 74 = .int .i64 (len x3613)) (h_145 : e_141 75 = .int .i64 x3617) (hq_147 : .go () = z_136), ∀ w, St E H [bx b2808 159 [v2, .int .i64 x1608.params, .int .i64 x1608.result, v1614, v1616], F3615] w → K_119 e_141 w := by
                intro e_141 h_142 h_143 h_144 h_145 hq_147
                subst hq_147
                replace hp : check_Func.nx140 x3617 = some x_69 := hr_138
                unfold check_Func.nx140 at hp
                refine TC.go hK_120 ?_
                refine TC.region ?_
                refine TL.v (ltb rfl) (rv_add (k := .i64) (m := x3617) (n := 1) h_145 rfl) ?_
                refine TL.v (ltb rfl) (rv_mv (v := .int .i64 (w64 (x3617 + 1))) rfl) ?_
                refine TL.nil ?_
                exact fun w hw => goOk hp ⟨h_142, h_143, h_144, rfl, rfl⟩ (hw.pick [0, 0])
              refine TC.pk' [0, 0] (L' := [bx b2808 159 [v2, .int .i64 x1608.params, .int .i64 x1608.result, v1614, v1616], F3615]) rfl ?_
              refine TC.loopW (r := z_136) (fun (x3657 : Int) (e_127 : Env) (L_163 : List FP) => e_127 5 = .pointer (some ⟨b2808, 0, none⟩) ∧ e_127 9 = v3643 ∧ e_127 73 = v3614 ∧ e_127 74 = .int .i64 (len x3613) ∧ e_127 75 = .int .i64 x3617 ∧ e_127 88 = v3651 ∧ e_127 89 = .int .i64 (len x3645.phis) ∧ e_127 90 = .int .i64 x3657 ∧ L_163 = [bx b2808 159 [v2, .int .i64 x1608.params, .int .i64 x1608.result, v1614, v1616], F3615]) ?_ FUEL _ _ _ hz_137 ⟨h_62, rfl, h_63, h_64, h_65, rfl, rfl, rfl, rfl⟩
              rintro x3657 e_127 L_163 ⟨h_128, h_129, h_130, h_131, h_132, h_133, h_134, h_135, rfl⟩ x_139 hp hx_140
              replace hp : check_Func.bd140 x3637 x3645 x3657 = some x_139 := hp
              unfold check_Func.bd140 at hp
              refine TC.seq fun K_148 hK_149 => ?_
              refine TC.region ?_
              refine TL.v (ltb rfl) (rv_lss (k := .i64) (m := x3657) (n := (len x3645.phis)) h_135 h_134) ?_
              refine TL.nil ?_
              refine TC.go hK_149 ?_
              refine TC.seq fun K_150 hK_151 => ?_
              by_cases hc_152 : x3657 < (len x3645.phis)
              · rw [if_pos hc_152] at hp
                refine TC.condT (bT hc_152) ?_
                refine TC.skip ?_
                refine TC.go hK_151 ?_
                refine TC.seq fun K_153 hK_154 => ?_
                refine TC.block ?_
                refine TC.seq fun K_155 hK_156 => ?_
                refine TC.region ?_
                obtain ⟨x3658, hx_157, hp⟩ := bind_some' hp
                refine TL.v3 (ltb rfl) (rv_ix 82 (.tmp 88) (.tmp 90) (v := v3651) (i := x3657) Try.underlying82 inf_131 rfl h_133 h_135 h3652 hx_157) fun b3659 o3660 c3661 h3662 h3663 => ?_
                obtain ⟨v3664, rfl, h3665⟩ := h3662
                refine TL.v (ltb rfl) (rv_lda (o := o3660) (o' := o3660) (j := 0) (ds := [.int .i64 x3658.dst, v3664]) ag_131 rfl Src.H h3663 rfl rfl rfl) ?_
                refine TL.alloc (cs := [.int .i64 0, .slice none 0 0]) inf_131 (ltb rfl) rfl fun b3666 => ?_
                refine TL.stB (ds := [.int .i64 x3658.dst, v3664]) (o := 0) (cs := [.int .i64 0, .slice none 0 0]) (b := b3666) (u := .agg #[.int .i64 x3658.dst, v3664]) 0 rfl ms_131 rfl rfl rfl (oc rfl (oc (h3665).one oc0)) (leb rfl) ?_
                refine TL.norm (L' := [bx b3666 131 [.int .i64 x3658.dst, v3664], bx b2808 159 [v2, .int .i64 x1608.params, .int .i64 x1608.result, v1614, v1616], F3615]) rfl ?_
                refine TL.nil ?_
                refine TC.go hK_156 ?_
                refine TC.seq fun K_158 hK_159 => ?_
                refine TC.region ?_
                refine TL.v (ltb rfl) (rv_fa (b := b3666) (o := 0) fa_131_1 rfl) ?_
                refine TL.v (ltb rfl) (rv_ld (v := v3664) (o := 1) (o' := 0) (j := 1) sc_22 rfl (Src.at_ 0 rfl) (bx_cells b3666 131 _) rfl rfl) ?_
                refine TL.v (ltb rfl) (rv_lenI (v := v3664) Try.underlying22 rfl h3665) ?_
                refine TL.v (ltb rfl) (rv_mv (v := v3643) h_129) ?_
                refine TL.v (ltb rfl) (rv_lenI (v := v3643) Try.underlying22 rfl h3644) ?_
                refine TL.v (ltb rfl) (rv_neq (k := .i64) (m := (len x3658.args)) (n := (len x3637)) rfl rfl) ?_
                refine TL.nil ?_
                refine TC.go hK_159 ?_
                by_cases hc_160 : ¬ (len x3658.args) = (len x3637)
                · rw [if_pos hc_160] at hp
                  refine TC.condT (bT hc_160) ?_
                  refine TC.seq fun K_161 hK_162 => ?_
                  refine TC.region ?_
                  refine TL.v (ltb rfl) (rv_makeIface (v := .int .i64 6) Try.underlying72 (fun ms h => by cases h) rfl) ?_
                  refine TL.v (ltb rfl) (rv_as (v := .iface 72 (.int .i64 6)) rfl) ?_
                  refine TL.nil ?_
                  refine TC.go hK_162 ?_
                  refine TC.ret ?_
                  refine W.new0 ?_
                  obtain rfl := ex_ret hp hx_140
                  obtain rfl := ex_ret hr_138 hx_70
                  obtain rfl := Option.some.inj hr_68
                  exact fun w hw => retOk ⟨(.iface 72 (.int .i64 6)), ([] : FP), rfl, rfl, (ErO.mk _ : ErO 72 143 145 (GErr.code 6) (.iface 72 (.int .i64 6)) [])⟩ (hw.pick [0])
                · rw [if_neg hc_160] at hp
                  refine TC.condF (bF hc_160) ?_
                  refine TC.skip ?_
                  refine TC.go hK_154 ?_
                  refine TC.region ?_
                  refine TL.v (ltb rfl) (rv_add (k := .i64) (m := x3657) (n := 1) h_135 rfl) ?_
                  refine TL.v (ltb rfl) (rv_mv (v := .int .i64 (w64 (x3657 + 1))) rfl) ?_
                  refine TL.nil ?_
                  exact fun w hw => goOk hp ⟨h_128, h_129, h_130, h_131, h_132, h_133, h_134, rfl, rfl⟩ (hw.pick [1, 1])
              · rw [if_neg hc_152] at hp
                refine TC.condF (bF hc_152) ?_
                refine TC.exit ?_
                refine fun w hw => hJ_146 _ ?_ ?_ ?_ ?_ (ex_ret hp hx_140) w (hw.pick [0, 0])
                · exact h_128
                · exact h_130
                · exact h_131
                · exact h_132
            · rw [if_neg hc_118] at hp
              refine TC.condF (bF hc_118) ?_
              refine TC.exit ?_
              refine fun w hw => hJ_112 _ ?_ (ex_ret hp hx_70) w (hw.pick [0])
              · exact h_62
          refine TC.pk' [0] (L' := [bx b2808 159 [v2, .int .i64 x1608.params, .int .i64 x1608.result, v1614, v1616]]) rfl ?_
          refine TC.loopW (r := z_48) (fun (x3612 : Int) (e_43 : Env) (L_183 : List FP) => e_43 5 = .pointer (some ⟨b2808, 0, none⟩) ∧ e_43 53 = v1616 ∧ e_43 54 = .int .i64 (len x1608.blocks) ∧ e_43 55 = .int .i64 x3612 ∧ L_183 = [bx b2808 159 [v2, .int .i64 x1608.params, .int .i64 x1608.result, v1614, v1616]]) ?_ FUEL _ _ _ hz_49 ⟨rfl, rfl, rfl, rfl, rfl⟩
          rintro x3612 e_43 L_183 ⟨h_44, h_45, h_46, h_47, rfl⟩ x_51 hp hx_52
          replace hp : check_Func.bd52 x1608 x3612 = some x_51 := hp
          unfold check_Func.bd52 at hp
          refine TC.seq fun K_167 hK_168 => ?_
          refine TC.region ?_
          refine TL.v (ltb rfl) (rv_lss (k := .i64) (m := x3612) (n := (len x1608.blocks)) h_47 h_46) ?_
          refine TL.nil ?_
          refine TC.go hK_168 ?_
          refine TC.seq fun K_169 hK_170 => ?_
          by_cases hc_171 : x3612 < (len x1608.blocks)
          · rw [if_pos hc_171] at hp
            refine TC.condT (bT hc_171) ?_
            refine TC.skip ?_
            refine TC.go hK_170 ?_
            refine TC.seq fun K_172 hK_173 => ?_
            refine TC.block ?_
            refine TC.seq fun K_174 hK_175 => ?_
            refine TC.region ?_
            obtain ⟨x3668, hx_176, hp⟩ := bind_some' hp
            refine TL.v3 (ltb rfl) (rv_ix 23 (.tmp 53) (.tmp 55) (v := v1616) (i := x3612) Try.underlying23 inf_85 rfl h_45 h_47 h1617 hx_176) fun b3669 o3670 c3671 h3672 h3673 => ?_
            obtain ⟨v3674, v3676, v3678, rfl, h3675, h3677, h3679⟩ := h3672
            refine TL.v (ltb rfl) (rv_lda (o := o3670) (o' := o3670) (j := 0) (ds := [v3674, v3676, .int .i64 x3668.term.kind, .int .i64 x3668.term.arg, v3678]) ag_85 rfl Src.H h3673 rfl rfl rfl) ?_
            refine TL.alloc (cs := [.slice none 0 0, .slice none 0 0, .int .i64 0, .int .i64 0, .slice none 0 0]) inf_85 (ltb rfl) rfl fun b3680 => ?_
            refine TL.stB (ds := [v3674, v3676, .int .i64 x3668.term.kind, .int .i64 x3668.term.arg, v3678]) (o := 0) (cs := [.slice none 0 0, .slice none 0 0, .int .i64 0, .int .i64 0, .slice none 0 0]) (b := b3680) (u := .agg #[v3674, v3676, .int .i64 x3668.term.kind, .int .i64 x3668.term.arg, v3678]) 0 rfl ms_85 rfl rfl rfl (oc (h3675).one (oc (h3677).one (oc rfl (oc rfl (oc (h3679).one oc0))))) (leb rfl) ?_
            refine TL.norm (L' := [bx b3680 85 [v3674, v3676, .int .i64 x3668.term.kind, .int .i64 x3668.term.arg, v3678], bx b2808 159 [v2, .int .i64 x1608.params, .int .i64 x1608.result, v1614, v1616]]) rfl ?_
            refine TL.nil ?_
            refine TC.go hK_175 ?_
            refine TC.seq fun K_177 hK_178 => ?_
            refine TC.quiet mix (by kernel_rfl) ?_
            refine QL.v (ltb rfl) (rv_mv (v := .pointer (some ⟨b2808, 0, none⟩)) h_44) ?_
            refine QL.v (ltb rfl) (rv_nilCheck (a := ⟨b2808, 0, none⟩) rfl) ?_
            refine QL.v (ltb rfl) (rv_fa (b := b2808) (o := 0) fa_159_1 rfl) ?_
            refine QL.v (ltb rfl) (rv_lda (o := 1) (o' := 0) (j := 1) (ds := [.int .i64 x1608.params, .int .i64 x1608.result, v1614, v1616]) ag_25 rfl (Src.at_ 1 rfl) (bx_cells b2808 159 _) rfl rfl rfl) ?_
            refine QL.v (ltb rfl) (rv_fa (b := b3680) (o := 0) fa_85_2 rfl) ?_
            refine QL.v (ltb rfl) (rv_lda (o := 2) (o' := 0) (j := 2) (ds := [.int .i64 x3668.term.kind, .int .i64 x3668.term.arg, v3678]) ag_81 rfl (Src.at_ 0 rfl) (bx_cells b3680 85 _) rfl rfl rfl) ?_
            obtain ⟨x3681, hy_179, hp⟩ := bind_some' hp
            refine QL.callC (vs := [.agg #[.int .i64 x1608.params, .int .i64 x1608.result, v1614, v1616], .agg #[.int .i64 x3668.term.kind, .int .i64 x3668.term.arg, v3678]]) (R := check_ends.R x3681) (.bool x3681) cb_95 (ltb rfl) (mc rfl (mc rfl m0)) (fun w hw => check_ends_ok (a1 := x1608) (a6 := x3668.term) (h1615.mono subH) (h1617.mono subH) (h3679.mono subH) hy_179 hw) (fun u A' h => ⟨h.1.symm, h.2⟩) ?_
            refine QL.v (ltb rfl) (rv_not (b := x3681) rfl) ?_
            refine QL.nil ?_
            refine TC.go hK_178 ?_
            by_cases hc_180 : (!x3681) = true
            · rw [if_pos hc_180] at hp
              refine TC.condT (bbT hc_180) ?_
              refine TC.seq fun K_181 hK_182 => ?_
              refine TC.region ?_
              refine TL.v (ltb rfl) (rv_makeIface (v := .int .i64 6) Try.underlying72 (fun ms h => by cases h) rfl) ?_
              refine TL.v (ltb rfl) (rv_as (v := .iface 72 (.int .i64 6)) rfl) ?_
              refine TL.nil ?_
              refine TC.go hK_182 ?_
              refine TC.ret ?_
              refine W.new0 ?_
              obtain rfl := ex_ret hp hx_52
              obtain rfl := Option.some.inj hr_50
              exact fun w hw => retOk ⟨(.iface 72 (.int .i64 6)), ([] : FP), rfl, rfl, (ErO.mk _ : ErO 72 143 145 (GErr.code 6) (.iface 72 (.int .i64 6)) [])⟩ (hw.pick [0])
            · rw [if_neg hc_180] at hp
              refine TC.condF (bbF hc_180) ?_
              refine TC.skip ?_
              refine TC.go hK_173 ?_
              refine TC.region ?_
              refine TL.v (ltb rfl) (rv_add (k := .i64) (m := x3612) (n := 1) h_47 rfl) ?_
              refine TL.v (ltb rfl) (rv_mv (v := .int .i64 (w64 (x3612 + 1))) rfl) ?_
              refine TL.nil ?_
              exact fun w hw => goOk hp ⟨h_44, h_45, h_46, rfl, rfl⟩ (hw.pick [1])
          · rw [if_neg hc_171] at hp
            refine TC.condF (bF hc_171) ?_
            refine TC.exit ?_
            refine fun w hw => hJ_165 _ ?_ (ex_ret hp hx_52) w (hw.pick [0])
            · exact h_44
  by_cases hc_10 : a4 < 0
  · refine TL.gno true rfl (fun d hd => by cases hd; exact ltb rfl) (yieldE_of rfl (bT hc_10)) rfl ?_
    refine TL.gno true rfl (fun d hd => by cases hd; exact ltb rfl) (yieldE_of rfl (bT hc_10)) rfl ?_
    refine TL.gno true rfl (fun d hd => by cases hd; exact ltb rfl) (yieldE_of rfl (bT hc_10)) rfl ?_
    refine TL.gno true rfl (fun d hd => by cases hd; exact ltb rfl) (yieldE_of rfl (bT hc_10)) rfl ?_
    refine TL.gno true rfl (fun d hd => by cases hd; exact ltb rfl) (yieldE_of rfl (bT hc_10)) rfl ?_
    refine TL.v (ltb rfl) (rv_pickT true (bT hc_10) rfl (v := .bool true) rfl) ?_
    refine TL.nil (hJ_9 _ ?_ ?_ ?_)
    · exact rfl
    · exact rfl
    · exact (bOt hc_10)
  · refine TL.gyes false (yieldE_of rfl (bF hc_10)) rfl ?_
    refine TL.v (ltb rfl) (rv_mv (v := .int .i64 a4) rfl) ?_
    refine TL.gyes false (yieldE_of rfl (bF hc_10)) rfl ?_
    refine TL.v (ltb rfl) (rv_fa (b := b5) (o := 0) fa_90_0 rfl) ?_
    refine TL.gyes false (yieldE_of rfl (bF hc_10)) rfl ?_
    refine TL.v (ltb rfl) (rv_ld (v := v2) (o := 0) (o' := 0) (j := 0) sc_88 rfl (Src.at_ 0 rfl) (bx_cells b5 90 _) rfl rfl) ?_
    refine TL.gyes false (yieldE_of rfl (bF hc_10)) rfl ?_
    refine TL.v (ltb rfl) (rv_lenI (v := v2) Try.underlying88 rfl h3) ?_
    refine TL.gyes false (yieldE_of rfl (bF hc_10)) rfl ?_
    refine TL.v (ltb rfl) (rv_geq (k := .i64) (m := a4) (n := (len a1.funcs)) rfl rfl) ?_
    refine TL.v (ltb rfl) (rv_pickF false (bF hc_10) rfl (v := .bool (decide (a4 ≥ (len a1.funcs)))) rfl) ?_
    refine TL.nil (hJ_9 _ ?_ ?_ ?_)
    · exact rfl
    · exact rfl
    · exact (bOf hc_10)

/-! ### fettle/check.Module -/
abbrev check_Module.R (r : GErr) (v : Value) (A : List FP) : Prop := ∃ (w1 : Value) (G1 : FP), w1 = v ∧ A = [G1] ∧ ErO 72 143 145 r w1 G1
def check_Module.nx22  : Option GErr :=
  some GErr.no
def check_Module.bd22 (a1 : PModule) (x6 : Int) : Option (Ex (Ex GErr Unit) Int) :=
  if x6 < (len a1.funcs) then
    (check_Func a1 x6).bind fun x8 =>
    if ¬ x8 = GErr.no then
      some (.ret (.ret (GErr.spot x6 x8)))
    else
      some (.go (w64 (x6 + 1)))
  else
    some (.ret (.go ()))
def check_Module (a1 : PModule) : Option GErr :=
  if (len a1.funcs) > 32 then
    some (GErr.code 5)
  else
    (whl (fun (s : Int) => check_Module.bd22 a1 s) FUEL 0).bind fun z =>
    match z with
      | .ret r => some r
      | .go p => check_Module.nx22
theorem check_Module_ok {E : World} {H : FP} {w : World} {a1 : PModule} {v2 : Value} {r : GErr} (h3 : SlI kFunc H a1.funcs v2) (hp : check_Module a1 = some r) (hst : St E H [] w) :
    Fn Try.prog 59 #[.agg #[v2]] w fun v w' => ∃ A, check_Module.R r v A ∧ St E H A w' := by
  refine Fn.body (fn := Try.f59) (args := [.agg #[v2]]) E H [] [.tmp 2] 27 Try.func59 rfl rfl rfl rfl (leb rfl) hst ?_
  unfold check_Module at hp
  refine TC.seq fun K_1 hK_2 => ?_
  refine TC.region ?_
  refine TL.box (cs := [v2]) (v := .agg #[v2]) (ltb rfl) rfl rfl fun b4 => ?_
  refine TL.v (ltb rfl) (rv_as (v := .nilIface) rfl) ?_
  refine TL.nil ?_
  refine TC.go hK_2 ?_
  refine TC.seq fun K_3 hK_4 => ?_
  refine TC.seq fun K_5 hK_6 => ?_
  refine TC.region ?_
  refine TL.v (ltb rfl) (rv_fa (b := b4) (o := 0) fa_90_0 rfl) ?_
  refine TL.v (ltb rfl) (rv_ld (v := v2) (o := 0) (o' := 0) (j := 0) sc_88 rfl (Src.at_ 0 rfl) (bx_cells b4 90 _) rfl rfl) ?_
  refine TL.v (ltb rfl) (rv_lenI (v := v2) Try.underlying88 rfl h3) ?_
  refine TL.v (ltb rfl) (rv_gtr (k := .i64) (m := (len a1.funcs)) (n := 32) rfl rfl) ?_
  refine TL.nil ?_
  refine TC.go hK_6 ?_
  by_cases hc_7 : (len a1.funcs) > 32
  · rw [if_pos hc_7] at hp
    refine TC.condT (bT hc_7) ?_
    refine TC.seq fun K_8 hK_9 => ?_
    refine TC.region ?_
    refine TL.v (ltb rfl) (rv_makeIface (v := .int .i64 5) Try.underlying72 (fun ms h => by cases h) rfl) ?_
    refine TL.v (ltb rfl) (rv_as (v := .iface 72 (.int .i64 5)) rfl) ?_
    refine TL.nil ?_
    refine TC.go hK_9 ?_
    refine TC.ret ?_
    refine W.new0 ?_
    obtain rfl := Option.some.inj hp
    exact fun w hw => retOk ⟨(.iface 72 (.int .i64 5)), ([] : FP), rfl, rfl, (ErO.mk _ : ErO 72 143 145 (GErr.code 5) (.iface 72 (.int .i64 5)) [])⟩ (hw.pick [0])
  · rw [if_neg hc_7] at hp
    refine TC.condF (bF hc_7) ?_
    refine TC.skip ?_
    refine TC.go hK_4 ?_
    refine TC.seq fun K_10 hK_11 => ?_
    refine TC.seq fun K_12 hK_13 => ?_
    refine TC.region ?_
    refine TL.v (ltb rfl) (rv_fa (b := b4) (o := 0) fa_90_0 rfl) ?_
    refine TL.v (ltb rfl) (rv_ld (v := v2) (o := 0) (o' := 0) (j := 0) sc_88 rfl (Src.at_ 0 rfl) (bx_cells b4 90 _) rfl rfl) ?_
    refine TL.v (ltb rfl) (rv_lenI (v := v2) Try.underlying88 rfl h3) ?_
    refine TL.v (ltb rfl) (rv_mv (v := .int .i64 0) rfl) ?_
    refine TL.nil ?_
    refine TC.go hK_13 ?_
    refine TC.block ?_
    obtain ⟨z_18, hz_19, hr_20⟩ := bind_some' hp
    clear hp
    have hJ_26 : ∀ (e_23 : Env) (hq_27 : .go () = z_18), ∀ w, St E H [] w → K_10 e_23 w := by
      intro e_23 hq_27
      subst hq_27
      replace hp : check_Module.nx22 = some r := hr_20
      unfold check_Module.nx22 at hp
      refine TC.go hK_11 ?_
      refine TC.seq fun K_24 hK_25 => ?_
      refine TC.region ?_
      refine TL.v (ltb rfl) (rv_as (v := .nilIface) rfl) ?_
      refine TL.nil ?_
      refine TC.go hK_25 ?_
      refine TC.ret ?_
      refine W.new0 ?_
      obtain rfl := Option.some.inj hp
      exact fun w hw => retOk ⟨.nilIface, ([] : FP), rfl, rfl, (ErO.nil : ErO 72 143 145 GErr.no .nilIface [])⟩ (hw.pick [0])
    refine TC.pk' [0] (L' := [bx b4 90 [v2]]) rfl ?_
    refine TC.loopW (r := z_18) (fun (x6 : Int) (e_14 : Env) (L_46 : List FP) => e_14 1 = .pointer (some ⟨b4, 0, none⟩) ∧ e_14 12 = .int .i64 (len a1.funcs) ∧ e_14 13 = .int .i64 x6 ∧ L_46 = [bx b4 90 [v2]]) ?_ FUEL _ _ _ hz_19 ⟨rfl, rfl, rfl, rfl⟩
    rintro x6 e_14 L_46 ⟨h_15, h_16, h_17, rfl⟩ x_21 hp hx_22
    replace hp : check_Module.bd22 a1 x6 = some x_21 := hp
    unfold check_Module.bd22 at hp
    refine TC.seq fun K_28 hK_29 => ?_
    refine TC.region ?_
    refine TL.v (ltb rfl) (rv_lss (k := .i64) (m := x6) (n := (len a1.funcs)) h_17 h_16) ?_
    refine TL.nil ?_
    refine TC.go hK_29 ?_
    refine TC.seq fun K_30 hK_31 => ?_
    by_cases hc_32 : x6 < (len a1.funcs)
    · rw [if_pos hc_32] at hp
      refine TC.condT (bT hc_32) ?_
      refine TC.skip ?_
      refine TC.go hK_31 ?_
      refine TC.seq fun K_33 hK_34 => ?_
      refine TC.block ?_
      refine TC.seq fun K_35 hK_36 => ?_
      refine TC.region ?_
      refine TL.v (ltb rfl) (rv_mv (v := .int .i64 x6) h_17) ?_
      refine TL.v (ltb rfl) (rv_as (v := .int .i64 x6) rfl) ?_
      refine TL.nil ?_
      refine TC.go hK_36 ?_
      refine TC.seq fun K_37 hK_38 => ?_
      refine TC.region ?_
      refine TL.v (ltb rfl) (rv_lda (o := 0) (o' := 0) (j := 0) (ds := [v2]) ag_90 h_15 (Src.at_ 0 rfl) (bx_cells b4 90 _) rfl rfl rfl) ?_
      refine TL.v (ltb rfl) (rv_mv (v := .int .i64 x6) rfl) ?_
      obtain ⟨x8, hy_39, hp⟩ := bind_some' hp
      refine TL.callC (vs := [.agg #[v2], .int .i64 x6]) (R := check_Func.R x8) [] [bx b4 90 [v2]] rfl cb_84 (ltb rfl) (mc rfl (mc rfl m0)) (fun w hw => check_Func_ok (a1 := a1) (a4 := x6) (h3.mono subH) hy_39 hw) fun v A' hR_40 => ?_
      obtain ⟨v9, F10, rfl, rfl, h11⟩ := hR_40
      refine TL.norm (L' := [F10, bx b4 90 [v2]]) rfl ?_
      refine TL.v (ltb rfl) (rv_as (v := v9) rfl) ?_
      refine TL.nil ?_
      refine TC.go hK_38 ?_
      refine TC.seq fun K_41 hK_42 => ?_
      refine TC.region ?_
      refine TL.v (ltb rfl) (rv_mv (v := v9) rfl) ?_
      refine TL.v (ltb rfl) (rv_neqEN ifc_49 h11 rfl) ?_
      refine TL.nil ?_
      refine TC.go hK_42 ?_
      by_cases hc_43 : ¬ x8 = GErr.no
      · rw [if_pos hc_43] at hp
        refine TC.condT (bT hc_43) ?_
        refine TC.seq fun K_44 hK_45 => ?_
        refine TC.region ?_
        refine TL.v (ltb rfl) (rv_mv (v := .int .i64 x6) rfl) ?_
        refine TL.v (ltb rfl) (rv_mv (v := v9) rfl) ?_
        refine TL.v (ltb rfl) (rv_bv (vs := [(0, .int .i64 x6), (1, v9)]) (ds := [.int .i64 x6, v9]) (pc rfl (pc rfl p0)) (fun w => by rcases (h11).shp with rfl | ⟨_, _, rfl⟩ <;> kernel_rfl)) ?_
        refine TL.box (cs := [.int .i64 x6, v9]) (v := .agg #[.int .i64 x6, v9]) (ltb rfl) rfl rfl fun b12 => ?_
        refine TL.v (ltb rfl) (rv_makeIface (v := .pointer (some ⟨b12, 0, none⟩)) Try.underlying143 (fun ms h => by cases h) rfl) ?_
        refine TL.perm (L' := [bx b12 145 [.int .i64 x6, v9] ++ (F10), bx b4 90 [v2]]) (by simp) ?_
        refine TL.v (ltb rfl) (rv_as (v := (.iface 143 (.pointer (some ⟨b12, 0, none⟩)))) rfl) ?_
        refine TL.nil ?_
        refine TC.go hK_45 ?_
        refine TC.ret ?_
        obtain rfl := ex_ret hp hx_22
        obtain rfl := Option.some.inj hr_20
        exact fun w hw => retOk ⟨(.iface 143 (.pointer (some ⟨b12, 0, none⟩))), (bx b12 145 [.int .i64 x6, v9] ++ (F10)), rfl, rfl, (ErO.at_ x6 b12 h11)⟩ (hw.pick [0])
      · rw [if_neg hc_43] at hp
        refine TC.condF (bF hc_43) ?_
        refine TC.skip ?_
        refine TC.go hK_34 ?_
        refine TC.region ?_
        refine TL.v (ltb rfl) (rv_add (k := .i64) (m := x6) (n := 1) h_17 rfl) ?_
        refine TL.v (ltb rfl) (rv_mv (v := .int .i64 (w64 (x6 + 1))) rfl) ?_
        refine TL.nil ?_
        exact fun w hw => goOk hp ⟨h_15, h_16, rfl, rfl⟩ (hw.pick [1])
    · rw [if_neg hc_32] at hp
      refine TC.condF (bF hc_32) ?_
      refine TC.exit ?_
      refine fun w hw => hJ_26 _ (ex_ret hp hx_22) w (hw.pick [])

/-! ### fettle/live.has -/
abbrev live_has.R (r : GErr) (v : Value) (A : List FP) : Prop := ∃ (w1 : Value) (G1 : FP), w1 = v ∧ A = [G1] ∧ ErO 72 143 145 r w1 G1
def live_has (a1 : PModule) (a4 : Int) : Option GErr :=
  (check_Module a1).bind fun x6 =>
  if ¬ x6 = GErr.no then
    some x6
  else
    if a4 < 0 ∨ a4 ≥ (len a1.funcs) then
      some (GErr.code 1)
    else
      some GErr.no
theorem live_has_ok {E : World} {H : FP} {w : World} {a1 : PModule} {a4 : Int} {v2 : Value} {r : GErr} (h3 : SlI kFunc H a1.funcs v2) (hp : live_has a1 a4 = some r) (hst : St E H [] w) :
    Fn Try.prog 77 #[.agg #[v2], .int .i64 a4] w fun v w' => ∃ A, live_has.R r v A ∧ St E H A w' := by
  refine Fn.body (fn := Try.f77) (args := [.agg #[v2], .int .i64 a4]) E H [] [.tmp 4] 21 Try.func77 rfl rfl rfl rfl (leb rfl) hst ?_
  unfold live_has at hp
  refine TC.seq fun K_1 hK_2 => ?_
  refine TC.region ?_
  refine TL.box (cs := [v2]) (v := .agg #[v2]) (ltb rfl) rfl rfl fun b5 => ?_
  refine TL.v (ltb rfl) (rv_as (v := .nilIface) rfl) ?_
  refine TL.nil ?_
  refine TC.go hK_2 ?_
  refine TC.seq fun K_3 hK_4 => ?_
  refine TC.seq fun K_5 hK_6 => ?_
  refine TC.region ?_
  refine TL.v (ltb rfl) (rv_lda (o := 0) (o' := 0) (j := 0) (ds := [v2]) ag_90 rfl (Src.at_ 0 rfl) (bx_cells b5 90 _) rfl rfl rfl) ?_
  obtain ⟨x6, hy_7, hp⟩ := bind_some' hp
  refine TL.callC (vs := [.agg #[v2]]) (R := check_Module.R x6) [] [bx b5 90 [v2]] rfl cb_59 (ltb rfl) (mc rfl m0) (fun w hw => check_Module_ok (a1 := a1) (h3.mono subH) hy_7 hw) fun v A' hR_8 => ?_
  obtain ⟨v7, F8, rfl, rfl, h9⟩ := hR_8
  refine TL.norm (L' := [F8, bx b5 90 [v2]]) rfl ?_
  refine TL.v (ltb rfl) (rv_as (v := v7) rfl) ?_
  refine TL.nil ?_
  refine TC.go hK_6 ?_
  refine TC.seq fun K_9 hK_10 => ?_
  refine TC.region ?_
  refine TL.v (ltb rfl) (rv_mv (v := v7) rfl) ?_
  refine TL.v (ltb rfl) (rv_neqEN ifc_49 h9 rfl) ?_
  refine TL.nil ?_
  refine TC.go hK_10 ?_
  by_cases hc_11 : ¬ x6 = GErr.no
  · rw [if_pos hc_11] at hp
    refine TC.condT (bT hc_11) ?_
    refine TC.seq fun K_12 hK_13 => ?_
    refine TC.region ?_
    refine TL.v (ltb rfl) (rv_mv (v := v7) rfl) ?_
    refine TL.v (ltb rfl) (rv_as (v := v7) rfl) ?_
    refine TL.nil ?_
    refine TC.go hK_13 ?_
    refine TC.ret ?_
    obtain rfl := Option.some.inj hp
    exact fun w hw => retOk ⟨v7, F8, rfl, rfl, h9⟩ (hw.pick [0])
  · rw [if_neg hc_11] at hp
    refine TC.condF (bF hc_11) ?_
    refine TC.skip ?_
    refine TC.go hK_4 ?_
    refine TC.seq fun K_14 hK_15 => ?_
    refine TC.seq fun K_16 hK_17 => ?_
    refine TC.region ?_
    refine TL.v (ltb rfl) (rv_mv (v := .int .i64 a4) rfl) ?_
    refine TL.v (ltb rfl) (rv_lss (k := .i64) (m := a4) (n := 0) rfl rfl) ?_
    refine TL.v (ltb rfl) (rv_mv (v := .bool (decide (a4 < 0))) rfl) ?_
    refine TL.cut 6 fun K_18 hK_19 => ?_
    have hJ_20 : ∀ e_22 : Env, e_22 19 = .bool (decide (a4 < 0 ∨ a4 ≥ (len a1.funcs))) → ∀ w, St E H [F8, bx b5 90 [v2]] w → K_18 e_22 w := by
      intro e_22 h_23
      refine TL.go hK_19 ?_
      refine TL.nil ?_
      refine TC.go hK_17 ?_
      by_cases hc_24 : a4 < 0 ∨ a4 ≥ (len a1.funcs)
      · rw [if_pos hc_24] at hp
        refine TC.condT (h_23.trans (bT hc_24)) ?_
        refine TC.seq fun K_25 hK_26 => ?_
        refine TC.region ?_
        refine TL.v (ltb rfl) (rv_makeIface (v := .int .i64 1) Try.underlying72 (fun ms h => by cases h) rfl) ?_
        refine TL.v (ltb rfl) (rv_as (v := .iface 72 (.int .i64 1)) rfl) ?_
        refine TL.nil ?_
        refine TC.go hK_26 ?_
        refine TC.ret ?_
        refine W.new0 ?_
        obtain rfl := Option.some.inj hp
        exact fun w hw => retOk ⟨(.iface 72 (.int .i64 1)), ([] : FP), rfl, rfl, (ErO.mk _ : ErO 72 143 145 (GErr.code 1) (.iface 72 (.int .i64 1)) [])⟩ (hw.pick [0])
      · rw [if_neg hc_24] at hp
        refine TC.condF (h_23.trans (bF hc_24)) ?_
        refine TC.skip ?_
        refine TC.go hK_15 ?_
        refine TC.seq fun K_27 hK_28 => ?_
        refine TC.region ?_
        refine TL.v (ltb rfl) (rv_as (v := .nilIface) rfl) ?_
        refine TL.nil ?_
        refine TC.go hK_28 ?_
        refine TC.ret ?_
        refine W.new0 ?_
        obtain rfl := Option.some.inj hp
        exact fun w hw => retOk ⟨.nilIface, ([] : FP), rfl, rfl, (ErO.nil : ErO 72 143 145 GErr.no .nilIface [])⟩ (hw.pick [0])
    by_cases hc_21 : a4 < 0
    · refine TL.gno true rfl (fun d hd => by cases hd; exact ltb rfl) (yieldE_of rfl (bT hc_21)) rfl ?_
      refine TL.gno true rfl (fun d hd => by cases hd; exact ltb rfl) (yieldE_of rfl (bT hc_21)) rfl ?_
      refine TL.gno true rfl (fun d hd => by cases hd; exact ltb rfl) (yieldE_of rfl (bT hc_21)) rfl ?_
      refine TL.gno true rfl (fun d hd => by cases hd; exact ltb rfl) (yieldE_of rfl (bT hc_21)) rfl ?_
      refine TL.gno true rfl (fun d hd => by cases hd; exact ltb rfl) (yieldE_of rfl (bT hc_21)) rfl ?_
      refine TL.v (ltb rfl) (rv_pickT true (bT hc_21) rfl (v := .bool true) rfl) ?_
      refine TL.nil (hJ_20 _ ?_)
      · exact (bOt hc_21)
    · refine TL.gyes false (yieldE_of rfl (bF hc_21)) rfl ?_
      refine TL.v (ltb rfl) (rv_mv (v := .int .i64 a4) rfl) ?_
      refine TL.gyes false (yieldE_of rfl (bF hc_21)) rfl ?_
      refine TL.v (ltb rfl) (rv_fa (b := b5) (o := 0) fa_90_0 rfl) ?_
      refine TL.gyes false (yieldE_of rfl (bF hc_21)) rfl ?_
      refine TL.v (ltb rfl) (rv_ld (v := v2) (o := 0) (o' := 0) (j := 0) sc_88 rfl (Src.at_ 1 rfl) (bx_cells b5 90 _) rfl rfl) ?_
      refine TL.gyes false (yieldE_of rfl (bF hc_21)) rfl ?_
      refine TL.v (ltb rfl) (rv_lenI (v := v2) Try.underlying88 rfl h3) ?_
      refine TL.gyes false (yieldE_of rfl (bF hc_21)) rfl ?_
      refine TL.v (ltb rfl) (rv_geq (k := .i64) (m := a4) (n := (len a1.funcs)) rfl rfl) ?_
      refine TL.v (ltb rfl) (rv_pickF false (bF hc_21) rfl (v := .bool (decide (a4 ≥ (len a1.funcs)))) rfl) ?_
      refine TL.nil (hJ_20 _ ?_)
      · exact (bOf hc_21)

/-! ### fettle/live.Count -/
abbrev live_Count.R (r : List Int × GErr) (v : Value) (A : List FP) : Prop := ∃ (w1 : Value) (G1 : FP) (w2 : Value) (G2 : FP), .tuple #[w1, w2] = v ∧ A = [G1, G2] ∧ SlO 3 (kInt .i64) r.1 w1 G1 ∧ ErO 72 143 145 r.2 w2 G2
def live_Count.nx33  (x30 : List Int) : Option (List Int × GErr) :=
  some (x30, GErr.no)
def live_Count.jn52 (x29 : Int) (x34 : List Int) : Option (Ex (List Int) (List Int × Int)) :=
  some (.go (x34, (w64 (x29 + 1))))
def live_Count.nx97 (x29 : Int) (x37 : PBlock) (x61 : List Int) : Option (Ex (List Int) (List Int × Int)) :=
  if x37.term.arg ≥ 0 then
    (idx x61 x37.term.arg).bind fun x64 =>
    (idx x61 x37.term.arg).bind fun x70 =>
    live_Count.jn52 x29 (x61.set (x37.term.arg).toNat (w64 (x64 + 1)))
  else
    live_Count.jn52 x29 x61
def live_Count.nx139 (x60 : Int) (x89 : List Int) : Option (Ex (List Int) (List Int × Int)) :=
  some (.go (x89, (w64 (x60 + 1))))
def live_Count.bd139 (x76 : PInstr) (x85 : List Int) (x88 : Int) : Option (Ex (List Int) (List Int × Int)) :=
  if x88 < (len x76.args) then
    (idx x76.args x88).bind fun x92 =>
    (idx x85 x92).bind fun x98 =>
    (idx x85 x92).bind fun x104 =>
    some (.go ((x85.set (x92).toNat (w64 (x98 + 1))), (w64 (x88 + 1))))
  else
    some (.ret x85)
def live_Count.bd97 (x37 : PBlock) (x57 : List Int) (x60 : Int) : Option (Ex (List Int) (List Int × Int)) :=
  if x60 < (len x37.ins) then
    (idx x37.ins x60).bind fun x76 =>
    (whl (fun (s : (List Int × Int)) => live_Count.bd139 x76 s.1 s.2) FUEL (x57, 0)).bind fun z =>
    live_Count.nx139 x60 z
  else
    some (.ret x57)
def live_Count.nx73 (x29 : Int) (x37 : PBlock) (x54 : List Int) : Option (Ex (List Int) (List Int × Int)) :=
  (whl (fun (s : (List Int × Int)) => live_Count.bd97 x37 s.1 s.2) FUEL (x54, 0)).bind fun z =>
  live_Count.nx97 x29 x37 z
def live_Count.nx195 (x53 : Int) (x123 : List Int) : Option (Ex (List Int) (List Int × Int)) :=
  some (.go (x123, (w64 (x53 + 1))))
def live_Count.bd195 (x110 : PPhi) (x119 : List Int) (x122 : Int) : Option (Ex (List Int) (List Int × Int)) :=
  if x122 < (len x110.args) then
    (idx x110.args x122).bind fun x126 =>
    (idx x119 x126).bind fun x132 =>
    (idx x119 x126).bind fun x138 =>
    some (.go ((x119.set (x126).toNat (w64 (x132 + 1))), (w64 (x122 + 1))))
  else
    some (.ret x119)
def live_Count.bd73 (x37 : PBlock) (x50 : List Int) (x53 : Int) : Option (Ex (List Int) (List Int × Int)) :=
  if x53 < (len x37.phis) then
    (idx x37.phis x53).bind fun x110 =>
    (whl (fun (s : (List Int × Int)) => live_Count.bd195 x110 s.1 s.2) FUEL (x50, 0)).bind fun z =>
    live_Count.nx195 x53 z
  else
    some (.ret x50)
def live_Count.bd33 (x11 : PFunc) (x26 : List Int) (x29 : Int) : Option (Ex (List Int) (List Int × Int)) :=
  if x29 < (len x11.blocks) then
    (idx x11.blocks x29).bind fun x37 =>
    (whl (fun (s : (List Int × Int)) => live_Count.bd73 x37 s.1 s.2) FUEL (x26, 0)).bind fun z =>
    live_Count.nx73 x29 x37 z
  else
    some (.ret x26)
def live_Count (a1 : PModule) (a4 : Int) : Option (List Int × GErr) :=
  (live_has a1 a4).bind fun x6 =>
  if ¬ x6 = GErr.no then
    some (([] : List Int), x6)
  else
    (idx a1.funcs a4).bind fun x11 =>
    (mkl (len x11.regs) (0 : Int)).bind fun x22 =>
    (whl (fun (s : (List Int × Int)) => live_Count.bd33 x11 s.1 s.2) FUEL (x22, 0)).bind fun z =>
    live_Count.nx33 z
set_option maxHeartbeats 4000000 in
theorem live_Count_ok {E : World} {H : FP} {w : World} {a1 : PModule} {a4 : Int} {v2 : Value} {r : List Int × GErr} (h3 : SlI kFunc H a1.funcs v2) (hp : live_Count a1 a4 = some r) (hst : St E H [] w) :
    Fn Try.prog 51 #[.agg #[v2], .int .i64 a4] w fun v w' => ∃ A, live_Count.R r v A ∧ St E H A w' := by
  refine Fn.body (fn := Try.f51) (args := [.agg #[v2], .int .i64 a4]) E H [] [.tmp 4, .tmp 5] 99 Try.func51 rfl rfl rfl rfl (leb rfl) hst ?_
  unfold live_Count at hp
  refine TC.seq fun K_1 hK_2 => ?_
  refine TC.region ?_
  refine TL.box (cs := [v2]) (v := .agg #[v2]) (ltb rfl) rfl rfl fun b5 => ?_
  refine TL.v (ltb rfl) (rv_as (v := .slice none 0 0) rfl) ?_
  refine TL.v (ltb rfl) (rv_as (v := .nilIface) rfl) ?_
  refine TL.nil ?_
  refine TC.go hK_2 ?_
  refine TC.seq fun K_3 hK_4 => ?_
  refine TC.seq fun K_5 hK_6 => ?_
  refine TC.region ?_
  refine TL.v (ltb rfl) (rv_lda (o := 0) (o' := 0) (j := 0) (ds := [v2]) ag_90 rfl (Src.at_ 0 rfl) (bx_cells b5 90 _) rfl rfl rfl) ?_
  refine TL.v (ltb rfl) (rv_mv (v := .int .i64 a4) rfl) ?_
  obtain ⟨x6, hy_7, hp⟩ := bind_some' hp
  refine TL.callC (vs := [.agg #[v2], .int .i64 a4]) (R := live_has.R x6) [] [bx b5 90 [v2]] rfl cb_77 (ltb rfl) (mc rfl (mc rfl m0)) (fun w hw => live_has_ok (a1 := a1) (a4 := a4) (h3.mono subH) hy_7 hw) fun v A' hR_8 => ?_
  obtain ⟨v7, F8, rfl, rfl, h9⟩ := hR_8
  refine TL.norm (L' := [F8, bx b5 90 [v2]]) rfl ?_
  refine TL.v (ltb rfl) (rv_as (v := v7) rfl) ?_
  refine TL.nil ?_
  refine TC.go hK_6 ?_
  refine TC.seq fun K_9 hK_10 => ?_
  refine TC.region ?_
  refine TL.v (ltb rfl) (rv_mv (v := v7) rfl) ?_
  refine TL.v (ltb rfl) (rv_neqEN ifc_49 h9 rfl) ?_
  refine TL.nil ?_
  refine TC.go hK_10 ?_
  by_cases hc_11 : ¬ x6 = GErr.no
  · rw [if_pos hc_11] at hp
    refine TC.condT (bT hc_11) ?_
    refine TC.seq fun K_12 hK_13 => ?_
    refine TC.region ?_
    refine TL.v (ltb rfl) (rv_mv (v := v7) rfl) ?_
    refine TL.v (ltb rfl) (rv_as (v := .slice none 0 0) rfl) ?_
    refine TL.v (ltb rfl) (rv_as (v := v7) rfl) ?_
    refine TL.nil ?_
    refine TC.go hK_13 ?_
    refine TC.ret ?_
    refine W.new0 ?_
    obtain rfl := Option.some.inj hp
    exact fun w hw => retOk ⟨(.slice none 0 0), ([] : FP), v7, F8, (tu2 rfl rfl).symm, rfl, (SlO.nil 3), h9⟩ (hw.pick [0, 0])
  · rw [if_neg hc_11] at hp
    refine TC.condF (bF hc_11) ?_
    refine TC.skip ?_
    refine TC.go hK_4 ?_
    refine TC.seq fun K_14 hK_15 => ?_
    refine TC.region ?_
    refine TL.v (ltb rfl) (rv_fa (b := b5) (o := 0) fa_90_0 rfl) ?_
    refine TL.v (ltb rfl) (rv_ld (v := v2) (o := 0) (o' := 0) (j := 0) sc_88 rfl (Src.at_ 1 rfl) (bx_cells b5 90 _) rfl rfl) ?_
    refine TL.v (ltb rfl) (rv_mv (v := .int .i64 a4) rfl) ?_
    obtain ⟨x11, hx_16, hp⟩ := bind_some' hp
    refine TL.v3 (ltb rfl) (rv_ix 88 (.tmp 26) (.tmp 27) (v := v2) (i := a4) Try.underlying88 inf_25 rfl rfl rfl h3 hx_16) fun b12 o13 c14 h15 h16 => ?_
    obtain ⟨v17, v19, rfl, h18, h20⟩ := h15
    refine TL.v (ltb rfl) (rv_lda (o := o13) (o' := o13) (j := 0) (ds := [.int .i64 x11.params, .int .i64 x11.result, v17, v19]) ag_25 rfl Src.H h16 rfl rfl rfl) ?_
    refine TL.alloc (cs := [.int .i64 0, .int .i64 0, .slice none 0 0, .slice none 0 0]) inf_25 (ltb rfl) rfl fun b21 => ?_
    refine TL.stB (ds := [.int .i64 x11.params, .int .i64 x11.result, v17, v19]) (o := 0) (cs := [.int .i64 0, .int .i64 0, .slice none 0 0, .slice none 0 0]) (b := b21) (u := .agg #[.int .i64 x11.params, .int .i64 x11.result, v17, v19]) 0 rfl ms_25 rfl rfl rfl (oc rfl (oc rfl (oc (h18).one (oc (h20).one oc0)))) (leb rfl) ?_
    refine TL.norm (L' := [bx b21 25 [.int .i64 x11.params, .int .i64 x11.result, v17, v19], F8, bx b5 90 [v2]]) rfl ?_
    refine TL.nil ?_
    refine TC.go hK_15 ?_
    refine TC.seq fun K_17 hK_18 => ?_
    refine TC.region ?_
    refine TL.v (ltb rfl) (rv_fa (b := b21) (o := 0) fa_25_2 rfl) ?_
    refine TL.v (ltb rfl) (rv_ld (v := v17) (o := 2) (o' := 0) (j := 2) sc_22 rfl (Src.at_ 0 rfl) (bx_cells b21 25 _) rfl rfl) ?_
    refine TL.v (ltb rfl) (rv_lenI (v := v17) Try.underlying22 rfl h18) ?_
    obtain ⟨x22, hz_19, hp⟩ := bind_some' hp
    refine TL.mk (k := (kInt .i64)) (n := (len x11.regs)) (x0 := (0 : Int)) Try.underlying22 inf_3 (ltb rfl) (ltb rfl) rfl rfl (leb rfl) rfl ⟨rfl, rfl⟩ hz_19 fun v23 F24 h25 => ?_
    refine TL.v (ltb rfl) (rv_as (v := v23) rfl) ?_
    refine TL.nil ?_
    refine TC.go hK_18 ?_
    refine TC.seq fun K_20 hK_21 => ?_
    refine TC.seq fun K_22 hK_23 => ?_
    refine TC.region ?_
    refine TL.v (ltb rfl) (rv_fa (b := b21) (o := 0) fa_25_3 rfl) ?_
    refine TL.v (ltb rfl) (rv_ld (v := v19) (o := 3) (o' := 0) (j := 3) sc_23 rfl (Src.at_ 1 rfl) (bx_cells b21 25 _) rfl rfl) ?_
    refine TL.v (ltb rfl) (rv_lenI (v := v19) Try.underlying23 rfl h20) ?_
    refine TL.v (ltb rfl) (rv_mv (v := .int .i64 0) rfl) ?_
    refine TL.nil ?_
    refine TC.go hK_23 ?_
    refine TC.block ?_
    obtain ⟨z_29, hz_30, hr_31⟩ := bind_some' hp
    clear hp
    have hJ_38 : ∀ (x30 : List Int) (F31 : FP) (e_34 : Env) (h32 : SlO 3 (kInt .i64) x30 v23 F31) (h_35 : e_34 8 = v23) (hq_39 : x30 = z_29), ∀ w, St E H [F31] w → K_20 e_34 w := by
      intro x30 F31 e_34 h32 h_35 hq_39
      subst hq_39
      replace hp : live_Count.nx33 x30 = some r := hr_31
      unfold live_Count.nx33 at hp
      refine TC.go hK_21 ?_
      refine TC.seq fun K_36 hK_37 => ?_
      refine TC.region ?_
      refine TL.v (ltb rfl) (rv_mv (v := v23) h_35) ?_
      refine TL.v (ltb rfl) (rv_as (v := v23) rfl) ?_
      refine TL.v (ltb rfl) (rv_as (v := .nilIface) rfl) ?_
      refine TL.nil ?_
      refine TC.go hK_37 ?_
      refine TC.ret ?_
      refine W.new0 ?_
      obtain rfl := Option.some.inj hp
      exact fun w hw => retOk ⟨v23, F31, .nilIface, ([] : FP), (tu2 rfl rfl).symm, rfl, h32, (ErO.nil : ErO 72 143 145 GErr.no .nilIface [])⟩ (hw.pick [1, 0])
    refine TC.pk' [0] (L' := [F24]) rfl ?_
    refine TC.loopW (r := z_29) (fun (s : (List Int × Int)) (e_24 : Env) (L_221 : List FP) => ∃ (x26 : List Int) (x29 : Int) (F27 : FP), s = (x26, x29) ∧ SlO 3 (kInt .i64) x26 v23 F27 ∧ e_24 8 = v23 ∧ e_24 35 = v19 ∧ e_24 36 = .int .i64 (len x11.blocks) ∧ e_24 37 = .int .i64 x29 ∧ L_221 = [F27]) ?_ FUEL _ _ _ hz_30 ⟨x22, 0, F24, rfl, h25, rfl, rfl, rfl, rfl, rfl⟩
    rintro s e_24 L_221 ⟨x26, x29, F27, rfl, h28, h_25, h_26, h_27, h_28, rfl⟩ x_32 hp hx_33
    replace hp : live_Count.bd33 x11 x26 x29 = some x_32 := hp
    unfold live_Count.bd33 at hp
    refine TC.seq fun K_40 hK_41 => ?_
    refine TC.region ?_
    refine TL.v (ltb rfl) (rv_lss (k := .i64) (m := x29) (n := (len x11.blocks)) h_28 h_27) ?_
    refine TL.nil ?_
    refine TC.go hK_41 ?_
    refine TC.seq fun K_42 hK_43 => ?_
    by_cases hc_44 : x29 < (len x11.blocks)
    · rw [if_pos hc_44] at hp
      refine TC.condT (bT hc_44) ?_
      refine TC.skip ?_
      refine TC.go hK_43 ?_
      refine TC.seq fun K_45 hK_46 => ?_
      have hJ_52 : ∀ (x34 : List Int) (F35 : FP) (e_47 : Env) (h36 : SlO 3 (kInt .i64) x34 v23 F35) (h_48 : e_47 8 = v23) (h_49 : e_47 35 = v19) (h_50 : e_47 36 = .int .i64 (len x11.blocks)) (h_51 : e_47 37 = .int .i64 x29) (hp : live_Count.jn52 x29 x34 = some x_32), ∀ w, St E H [F35] w → K_45 e_47 w := by
        intro x34 F35 e_47 h36 h_48 h_49 h_50 h_51 hp
        unfold live_Count.jn52 at hp
        refine TC.go hK_46 ?_
        refine TC.region ?_
        refine TL.v (ltb rfl) (rv_add (k := .i64) (m := x29) (n := 1) h_51 rfl) ?_
        refine TL.v (ltb rfl) (rv_mv (v := .int .i64 (w64 (x29 + 1))) rfl) ?_
        refine TL.nil ?_
        exact fun w hw => goOk hp ⟨x34, (w64 (x29 + 1)), F35, rfl, h36, h_48, h_49, h_50, rfl, rfl⟩ (hw.pick [0])
      refine TC.block ?_
      refine TC.seq fun K_53 hK_54 => ?_
      refine TC.region ?_
      obtain ⟨x37, hx_55, hp⟩ := bind_some' hp
      refine TL.v3 (ltb rfl) (rv_ix 23 (.tmp 35) (.tmp 37) (v := v19) (i := x29) Try.underlying23 inf_85 rfl h_26 h_28 h20 hx_55) fun b38 o39 c40 h41 h42 => ?_
      obtain ⟨v43, v45, v47, rfl, h44, h46, h48⟩ := h41
      refine TL.v (ltb rfl) (rv_lda (o := o39) (o' := o39) (j := 0) (ds := [v43, v45, .int .i64 x37.term.kind, .int .i64 x37.term.arg, v47]) ag_85 rfl Src.H h42 rfl rfl rfl) ?_
      refine TL.alloc (cs := [.slice none 0 0, .slice none 0 0, .int .i64 0, .int .i64 0, .slice none 0 0]) inf_85 (ltb rfl) rfl fun b49 => ?_
      refine TL.stB (ds := [v43, v45, .int .i64 x37.term.kind, .int .i64 x37.term.arg, v47]) (o := 0) (cs := [.slice none 0 0, .slice none 0 0, .int .i64 0, .int .i64 0, .slice none 0 0]) (b := b49) (u := .agg #[v43, v45, .int .i64 x37.term.kind, .int .i64 x37.term.arg, v47]) 0 rfl ms_85 rfl rfl rfl (oc (h44).one (oc (h46).one (oc rfl (oc rfl (oc (h48).one oc0))))) (leb rfl) ?_
      refine TL.norm (L' := [bx b49 85 [v43, v45, .int .i64 x37.term.kind, .int .i64 x37.term.arg, v47], F27]) rfl ?_
      refine TL.nil ?_
      refine TC.go hK_54 ?_
      refine TC.seq fun K_56 hK_57 => ?_
      refine TC.seq fun K_58 hK_59 => ?_
      refine TC.region ?_
      refine TL.v (ltb rfl) (rv_fa (b := b49) (o := 0) fa_85_0 rfl) ?_
      refine TL.v (ltb rfl) (rv_ld (v := v43) (o := 0) (o' := 0) (j := 0) sc_82 rfl (Src.at_ 0 rfl) (bx_cells b49 85 _) rfl rfl) ?_
      refine TL.v (ltb rfl) (rv_lenI (v := v43) Try.underlying82 rfl h44) ?_
      refine TL.v (ltb rfl) (rv_mv (v := .int .i64 0) rfl) ?_
      refine TL.nil ?_
      refine TC.go hK_59 ?_
      refine TC.block ?_
      obtain ⟨z_69, hz_70, hr_71⟩ := bind_some' hp
      clear hp
      have hJ_165 : ∀ (x54 : List Int) (F55 : FP) (e_74 : Env) (h56 : SlO 3 (kInt .i64) x54 v23 F55) (h_75 : e_74 8 = v23) (h_76 : e_74 10 = .pointer (some ⟨b49, 0, none⟩)) (h_77 : e_74 35 = v19) (h_78 : e_74 36 = .int .i64 (len x11.blocks)) (h_79 : e_74 37 = .int .i64 x29) (hq_166 : x54 = z_69), ∀ w, St E H [F55, bx b49 85 [v43, v45, .int .i64 x37.term.kind, .int .i64 x37.term.arg, v47]] w → K_56 e_74 w := by
        intro x54 F55 e_74 h56 h_75 h_76 h_77 h_78 h_79 hq_166
        subst hq_166
        replace hp : live_Count.nx73 x29 x37 x54 = some x_32 := hr_71
        unfold live_Count.nx73 at hp
        refine TC.go hK_57 ?_
        refine TC.seq fun K_80 hK_81 => ?_
        refine TC.seq fun K_82 hK_83 => ?_
        refine TC.region ?_
        refine TL.v (ltb rfl) (rv_fa (b := b49) (o := 0) fa_85_1 h_76) ?_
        refine TL.v (ltb rfl) (rv_ld (v := v45) (o := 1) (o' := 0) (j := 1) sc_83 rfl (Src.at_ 1 rfl) (bx_cells b49 85 _) rfl rfl) ?_
        refine TL.v (ltb rfl) (rv_lenI (v := v45) Try.underlying83 rfl h46) ?_
        refine TL.v (ltb rfl) (rv_mv (v := .int .i64 0) rfl) ?_
        refine TL.nil ?_
        refine TC.go hK_83 ?_
        refine TC.block ?_
        obtain ⟨z_93, hz_94, hr_95⟩ := bind_some' hp
        clear hp
        have hJ_109 : ∀ (x61 : List Int) (F62 : FP) (e_98 : Env) (h63 : SlO 3 (kInt .i64) x61 v23 F62) (h_99 : e_98 8 = v23) (h_100 : e_98 10 = .pointer (some ⟨b49, 0, none⟩)) (h_101 : e_98 35 = v19) (h_102 : e_98 36 = .int .i64 (len x11.blocks)) (h_103 : e_98 37 = .int .i64 x29) (hq_110 : x61 = z_93), ∀ w, St E H [F62, bx b49 85 [v43, v45, .int .i64 x37.term.kind, .int .i64 x37.term.arg, v47]] w → K_80 e_98 w := by
          intro x61 F62 e_98 h63 h_99 h_100 h_101 h_102 h_103 hq_110
          subst hq_110
          replace hp : live_Count.nx97 x29 x37 x61 = some x_32 := hr_95
          unfold live_Count.nx97 at hp
          refine TC.go hK_81 ?_
          refine TC.seq fun K_104 hK_105 => ?_
          refine TC.region ?_
          refine TL.v (ltb rfl) (rv_fa (b := b49) (o := 0) fa_85_2 h_100) ?_
          refine TL.v (ltb rfl) (rv_fa (b := b49) (o := 2) fa_81_1 rfl) ?_
          refine TL.v (ltb rfl) (rv_ld (v := .int .i64 x37.term.arg) (o := 3) (o' := 0) (j := 3) sc_3 rfl (Src.at_ 1 rfl) (bx_cells b49 85 _) rfl rfl) ?_
          refine TL.v (ltb rfl) (rv_geq (k := .i64) (m := x37.term.arg) (n := 0) rfl rfl) ?_
          refine TL.nil ?_
          refine TC.go hK_105 ?_
          by_cases hc_106 : x37.term.arg ≥ 0
          · rw [if_pos hc_106] at hp
            refine TC.condT (bT hc_106) ?_
            refine TC.region ?_
            refine TL.v (ltb rfl) (rv_mv (v := v23) h_99) ?_
            refine TL.v (ltb rfl) (rv_fa (b := b49) (o := 0) fa_85_2 h_100) ?_
            refine TL.v (ltb rfl) (rv_fa (b := b49) (o := 2) fa_81_1 rfl) ?_
            refine TL.v (ltb rfl) (rv_ld (v := .int .i64 x37.term.arg) (o := 3) (o' := 0) (j := 3) sc_3 rfl (Src.at_ 1 rfl) (bx_cells b49 85 _) rfl rfl) ?_
            obtain ⟨x64, hx_107, hp⟩ := bind_some' hp
            refine TL.v3 (ltb rfl) (rv_ix 22 (.tmp 89) (.tmp 92) (v := v23) (i := x37.term.arg) Try.underlying22 inf_3 rfl rfl rfl (h63).ro hx_107) fun b65 o66 c67 h68 h69 => ?_
            obtain rfl := h68
            refine TL.v (ltb rfl) (rv_ld (v := .int .i64 x64) (o := o66) (o' := o66) (j := 0) sc_3 rfl (Src.at_ 0 rfl) h69 rfl rfl) ?_
            refine TL.v (ltb rfl) (rv_add (k := .i64) (m := x64) (n := 1) rfl rfl) ?_
            obtain ⟨x70, hx_108, hp⟩ := bind_some' hp
            refine TL.v2 (ltb rfl) (rv_ixO 22 (.tmp 89) (.tmp 92) (v := v23) (i := x37.term.arg) Try.underlying22 inf_3 rfl rfl rfl h63 (idx_some hx_108).1 (idx_some hx_108).2.1) fun b71 o72 h73 => ?_
            refine TL.stE0 (ds := [.int .i64 (w64 (x64 + 1))]) (u := .int .i64 (w64 (x64 + 1))) (a := (w64 (x64 + 1))) h63 h73 ms_3 rfl rfl rfl ⟨rfl, rfl⟩ fun F74 h75 => ?_
            refine TL.nil ?_
            refine fun w hw => hJ_52 (x61.set (x37.term.arg).toNat (w64 (x64 + 1))) F74 _ h75 ?_ ?_ ?_ ?_ hp w (hw.pick [0])
            · exact h_99
            · exact h_101
            · exact h_102
            · exact h_103
          · rw [if_neg hc_106] at hp
            refine TC.condF (bF hc_106) ?_
            refine TC.skip ?_
            refine fun w hw => hJ_52 x61 F62 _ h63 ?_ ?_ ?_ ?_ hp w (hw.pick [0])
            · exact h_99
            · exact h_101
            · exact h_102
            · exact h_103
        refine TC.pk' [0, 0] (L' := [F55, bx b49 85 [v43, v45, .int .i64 x37.term.kind, .int .i64 x37.term.arg, v47]]) rfl ?_
        refine TC.loopW (r := z_93) (fun (s : (List Int × Int)) (e_84 : Env) (L_164 : List FP) => ∃ (x57 : List Int) (x60 : Int) (F58 : FP), s = (x57, x60) ∧ SlO 3 (kInt .i64) x57 v23 F58 ∧ e_84 8 = v23 ∧ e_84 10 = .pointer (some ⟨b49, 0, none⟩) ∧ e_84 35 = v19 ∧ e_84 36 = .int .i64 (len x11.blocks) ∧ e_84 37 = .int .i64 x29 ∧ e_84 64 = v45 ∧ e_84 65 = .int .i64 (len x37.ins) ∧ e_84 66 = .int .i64 x60 ∧ L_164 = [F58, bx b49 85 [v43, v45, .int .i64 x37.term.kind, .int .i64 x37.term.arg, v47]]) ?_ FUEL _ _ _ hz_94 ⟨x54, 0, F55, rfl, h56, h_75, h_76, h_77, h_78, h_79, rfl, rfl, rfl, rfl⟩
        rintro s e_84 L_164 ⟨x57, x60, F58, rfl, h59, h_85, h_86, h_87, h_88, h_89, h_90, h_91, h_92, rfl⟩ x_96 hp hx_97
        replace hp : live_Count.bd97 x37 x57 x60 = some x_96 := hp
        unfold live_Count.bd97 at hp
        refine TC.seq fun K_111 hK_112 => ?_
        refine TC.region ?_
        refine TL.v (ltb rfl) (rv_lss (k := .i64) (m := x60) (n := (len x37.ins)) h_92 h_91) ?_
        refine TL.nil ?_
        refine TC.go hK_112 ?_
        refine TC.seq fun K_113 hK_114 => ?_
        by_cases hc_115 : x60 < (len x37.ins)
        · rw [if_pos hc_115] at hp
          refine TC.condT (bT hc_115) ?_
          refine TC.skip ?_
          refine TC.go hK_114 ?_
          refine TC.seq fun K_116 hK_117 => ?_
          refine TC.block ?_
          refine TC.seq fun K_118 hK_119 => ?_
          refine TC.region ?_
          obtain ⟨x76, hx_120, hp⟩ := bind_some' hp
          refine TL.v3 (ltb rfl) (rv_ix 83 (.tmp 64) (.tmp 66) (v := v45) (i := x60) Try.underlying83 inf_87 rfl h_90 h_92 h46 hx_120) fun b77 o78 c79 h80 h81 => ?_
          obtain ⟨v82, rfl, h83⟩ := h80
          refine TL.v (ltb rfl) (rv_lda (o := o78) (o' := o78) (j := 0) (ds := [.int .i64 x76.op, .int .i64 x76.dst, v82, .int .i64 x76.imm, .int .i64 x76.fn]) ag_87 rfl Src.H h81 rfl rfl rfl) ?_
          refine TL.alloc (cs := [.int .i64 0, .int .i64 0, .slice none 0 0, .int .i64 0, .int .i64 0]) inf_87 (ltb rfl) rfl fun b84 => ?_
          refine TL.stB (ds := [.int .i64 x76.op, .int .i64 x76.dst, v82, .int .i64 x76.imm, .int .i64 x76.fn]) (o := 0) (cs := [.int .i64 0, .int .i64 0, .slice none 0 0, .int .i64 0, .int .i64 0]) (b := b84) (u := .agg #[.int .i64 x76.op, .int .i64 x76.dst, v82, .int .i64 x76.imm, .int .i64 x76.fn]) 0 rfl ms_87 rfl rfl rfl (oc rfl (oc rfl (oc (h83).one (oc rfl (oc rfl oc0))))) (leb rfl) ?_
          refine TL.norm (L' := [bx b84 87 [.int .i64 x76.op, .int .i64 x76.dst, v82, .int .i64 x76.imm, .int .i64 x76.fn], F58, bx b49 85 [v43, v45, .int .i64 x37.term.kind, .int .i64 x37.term.arg, v47]]) rfl ?_
          refine TL.nil ?_
          refine TC.go hK_119 ?_
          refine TC.seq fun K_121 hK_122 => ?_
          refine TC.region ?_
          refine TL.v (ltb rfl) (rv_fa (b := b84) (o := 0) fa_87_2 rfl) ?_
          refine TL.v (ltb rfl) (rv_ld (v := v82) (o := 2) (o' := 0) (j := 2) sc_22 rfl (Src.at_ 0 rfl) (bx_cells b84 87 _) rfl rfl) ?_
          refine TL.v (ltb rfl) (rv_lenI (v := v82) Try.underlying22 rfl h83) ?_
          refine TL.v (ltb rfl) (rv_mv (v := .int .i64 0) rfl) ?_
          refine TL.nil ?_
          refine TC.go hK_122 ?_
          refine TC.block ?_
          obtain ⟨z_135, hz_136, hr_137⟩ := bind_some' hp
          clear hp
          have hJ_149 : ∀ (x89 : List Int) (F90 : FP) (e_140 : Env) (h91 : SlO 3 (kInt .i64) x89 v23 F90) (h_141 : e_140 8 = v23) (h_142 : e_140 10 = .pointer (some ⟨b49, 0, none⟩)) (h_143 : e_140 35 = v19) (h_144 : e_140 36 = .int .i64 (len x11.blocks)) (h_145 : e_140 37 = .int .i64 x29) (h_146 : e_140 64 = v45) (h_147 : e_140 65 = .int .i64 (len x37.ins)) (h_148 : e_140 66 = .int .i64 x60) (hq_150 : x89 = z_135), ∀ w, St E H [F90, bx b49 85 [v43, v45, .int .i64 x37.term.kind, .int .i64 x37.term.arg, v47]] w → K_116 e_140 w := by
            intro x89 F90 e_140 h91 h_141 h_142 h_143 h_144 h_145 h_146 h_147 h_148 hq_150
            subst hq_150
            replace hp : live_Count.nx139 x60 x89 = some x_96 := hr_137
            unfold live_Count.nx139 at hp
            refine TC.go hK_117 ?_
            refine TC.region ?_
            refine TL.v (ltb rfl) (rv_add (k := .i64) (m := x60) (n := 1) h_148 rfl) ?_
            refine TL.v (ltb rfl) (rv_mv (v := .int .i64 (w64 (x60 + 1))) rfl) ?_
            refine TL.nil ?_
            exact fun w hw => goOk hp ⟨x89, (w64 (x60 + 1)), F90, rfl, h91, h_141, h_142, h_143, h_144, h_145, h_146, h_147, rfl, rfl⟩ (hw.pick [0, 0])
          refine TC.pk' [1, 1] (L' := [F58, bx b49 85 [v43, v45, .int .i64 x37.term.kind, .int .i64 x37.term.arg, v47]]) rfl ?_
          refine TC.loopW (r := z_135) (fun (s : (List Int × Int)) (e_123 : Env) (L_163 : List FP) => ∃ (x85 : List Int) (x88 : Int) (F86 : FP), s = (x85, x88) ∧ SlO 3 (kInt .i64) x85 v23 F86 ∧ e_123 8 = v23 ∧ e_123 10 = .pointer (some ⟨b49, 0, none⟩) ∧ e_123 35 = v19 ∧ e_123 36 = .int .i64 (len x11.blocks) ∧ e_123 37 = .int .i64 x29 ∧ e_123 64 = v45 ∧ e_123 65 = .int .i64 (len x37.ins) ∧ e_123 66 = .int .i64 x60 ∧ e_123 71 = v82 ∧ e_123 72 = .int .i64 (len x76.args) ∧ e_123 73 = .int .i64 x88 ∧ L_163 = [F86, bx b49 85 [v43, v45, .int .i64 x37.term.kind, .int .i64 x37.term.arg, v47]]) ?_ FUEL _ _ _ hz_136 ⟨x57, 0, F58, rfl, h59, h_85, h_86, h_87, h_88, h_89, h_90, h_91, h_92, rfl, rfl, rfl, rfl⟩
          rintro s e_123 L_163 ⟨x85, x88, F86, rfl, h87, h_124, h_125, h_126, h_127, h_128, h_129, h_130, h_131, h_132, h_133, h_134, rfl⟩ x_138 hp hx_139
          replace hp : live_Count.bd139 x76 x85 x88 = some x_138 := hp
          unfold live_Count.bd139 at hp
          refine TC.seq fun K_151 hK_152 => ?_
          refine TC.region ?_
          refine TL.v (ltb rfl) (rv_lss (k := .i64) (m := x88) (n := (len x76.args)) h_134 h_133) ?_
          refine TL.nil ?_
          refine TC.go hK_152 ?_
          refine TC.seq fun K_153 hK_154 => ?_
          by_cases hc_155 : x88 < (len x76.args)
          · rw [if_pos hc_155] at hp
            refine TC.condT (bT hc_155) ?_
            refine TC.skip ?_
            refine TC.go hK_154 ?_
            refine TC.seq fun K_156 hK_157 => ?_
            refine TC.block ?_
            refine TC.seq fun K_158 hK_159 => ?_
            refine TC.region ?_
            obtain ⟨x92, hx_160, hp⟩ := bind_some' hp
            refine TL.v3 (ltb rfl) (rv_ix 22 (.tmp 71) (.tmp 73) (v := v82) (i := x88) Try.underlying22 inf_3 rfl h_132 h_134 h83 hx_160) fun b93 o94 c95 h96 h97 => ?_
            obtain rfl := h96
            refine TL.v (ltb rfl) (rv_ld (v := .int .i64 x92) (o := o94) (o' := o94) (j := 0) sc_3 rfl Src.H h97 rfl rfl) ?_
            refine TL.v (ltb rfl) (rv_as (v := .int .i64 x92) rfl) ?_
            refine TL.nil ?_
            refine TC.go hK_159 ?_
            refine TC.region ?_
            refine TL.v (ltb rfl) (rv_mv (v := v23) h_124) ?_
            refine TL.v (ltb rfl) (rv_mv (v := .int .i64 x92) rfl) ?_
            obtain ⟨x98, hx_161, hp⟩ := bind_some' hp
            refine TL.v3 (ltb rfl) (rv_ix 22 (.tmp 77) (.tmp 78) (v := v23) (i := x92) Try.underlying22 inf_3 rfl rfl rfl (h87).ro hx_161) fun b99 o100 c101 h102 h103 => ?_
            obtain rfl := h102
            refine TL.v (ltb rfl) (rv_ld (v := .int .i64 x98) (o := o100) (o' := o100) (j := 0) sc_3 rfl (Src.at_ 0 rfl) h103 rfl rfl) ?_
            refine TL.v (ltb rfl) (rv_add (k := .i64) (m := x98) (n := 1) rfl rfl) ?_
            obtain ⟨x104, hx_162, hp⟩ := bind_some' hp
            refine TL.v2 (ltb rfl) (rv_ixO 22 (.tmp 77) (.tmp 78) (v := v23) (i := x92) Try.underlying22 inf_3 rfl rfl rfl h87 (idx_some hx_162).1 (idx_some hx_162).2.1) fun b105 o106 h107 => ?_
            refine TL.stE0 (ds := [.int .i64 (w64 (x98 + 1))]) (u := .int .i64 (w64 (x98 + 1))) (a := (w64 (x98 + 1))) h87 h107 ms_3 rfl rfl rfl ⟨rfl, rfl⟩ fun F108 h109 => ?_
            refine TL.nil ?_
            refine TC.go hK_157 ?_
            refine TC.region ?_
            refine TL.v (ltb rfl) (rv_add (k := .i64) (m := x88) (n := 1) h_134 rfl) ?_
            refine TL.v (ltb rfl) (rv_mv (v := .int .i64 (w64 (x88 + 1))) rfl) ?_
            refine TL.nil ?_
            exact fun w hw => goOk hp ⟨(x85.set (x92).toNat (w64 (x98 + 1))), (w64 (x88 + 1)), F108, rfl, h109, h_124, h_125, h_126, h_127, h_128, h_129, h_130, h_131, h_132, h_133, rfl, rfl⟩ (hw.pick [0, 0])
          · rw [if_neg hc_155] at hp
            refine TC.condF (bF hc_155) ?_
            refine TC.exit ?_
            refine fun w hw => hJ_149 x85 F86 _ h87 ?_ ?_ ?_ ?_ ?_ ?_ ?_ ?_ (ex_ret hp hx_139) w (hw.pick [0, 0])
            · exact h_124
            · exact h_125
            · exact h_126
            · exact h_127
            · exact h_128
            · exact h_129
            · exact h_130
            · exact h_131
        · rw [if_neg hc_115] at hp
          refine TC.condF (bF hc_115) ?_
          refine TC.exit ?_
          refine fun w hw => hJ_109 x57 F58 _ h59 ?_ ?_ ?_ ?_ ?_ (ex_ret hp hx_97) w (hw.pick [0, 0])
          · exact h_85
          · exact h_86
          · exact h_87
          · exact h_88
          · exact h_89
      refine TC.pk' [1, 0] (L' := [F27, bx b49 85 [v43, v45, .int .i64 x37.term.kind, .int .i64 x37.term.arg, v47]]) rfl ?_
      refine TC.loopW (r := z_69) (fun (s : (List Int × Int)) (e_60 : Env) (L_220 : List FP) => ∃ (x50 : List Int) (x53 : Int) (F51 : FP), s = (x50, x53) ∧ SlO 3 (kInt .i64) x50 v23 F51 ∧ e_60 8 = v23 ∧ e_60 10 = .pointer (some ⟨b49, 0, none⟩) ∧ e_60 35 = v19 ∧ e_60 36 = .int .i64 (len x11.blocks) ∧ e_60 37 = .int .i64 x29 ∧ e_60 42 = v43 ∧ e_60 43 = .int .i64 (len x37.phis) ∧ e_60 44 = .int .i64 x53 ∧ L_220 = [F51, bx b49 85 [v43, v45, .int .i64 x37.term.kind, .int .i64 x37.term.arg, v47]]) ?_ FUEL _ _ _ hz_70 ⟨x26, 0, F27, rfl, h28, h_25, rfl, h_26, h_27, h_28, rfl, rfl, rfl, rfl⟩
      rintro s e_60 L_220 ⟨x50, x53, F51, rfl, h52, h_61, h_62, h_63, h_64, h_65, h_66, h_67, h_68, rfl⟩ x_72 hp hx_73
      replace hp : live_Count.bd73 x37 x50 x53 = some x_72 := hp
      unfold live_Count.bd73 at hp
      refine TC.seq fun K_167 hK_168 => ?_
      refine TC.region ?_
      refine TL.v (ltb rfl) (rv_lss (k := .i64) (m := x53) (n := (len x37.phis)) h_68 h_67) ?_
      refine TL.nil ?_
      refine TC.go hK_168 ?_
      refine TC.seq fun K_169 hK_170 => ?_
      by_cases hc_171 : x53 < (len x37.phis)
      · rw [if_pos hc_171] at hp
        refine TC.condT (bT hc_171) ?_
        refine TC.skip ?_
        refine TC.go hK_170 ?_
        refine TC.seq fun K_172 hK_173 => ?_
        refine TC.block ?_
        refine TC.seq fun K_174 hK_175 => ?_
        refine TC.region ?_
        obtain ⟨x110, hx_176, hp⟩ := bind_some' hp
        refine TL.v3 (ltb rfl) (rv_ix 82 (.tmp 42) (.tmp 44) (v := v43) (i := x53) Try.underlying82 inf_131 rfl h_66 h_68 h44 hx_176) fun b111 o112 c113 h114 h115 => ?_
        obtain ⟨v116, rfl, h117⟩ := h114
        refine TL.v (ltb rfl) (rv_lda (o := o112) (o' := o112) (j := 0) (ds := [.int .i64 x110.dst, v116]) ag_131 rfl Src.H h115 rfl rfl rfl) ?_
        refine TL.alloc (cs := [.int .i64 0, .slice none 0 0]) inf_131 (ltb rfl) rfl fun b118 => ?_
        refine TL.stB (ds := [.int .i64 x110.dst, v116]) (o := 0) (cs := [.int .i64 0, .slice none 0 0]) (b := b118) (u := .agg #[.int .i64 x110.dst, v116]) 0 rfl ms_131 rfl rfl rfl (oc rfl (oc (h117).one oc0)) (leb rfl) ?_
        refine TL.norm (L' := [bx b118 131 [.int .i64 x110.dst, v116], F51, bx b49 85 [v43, v45, .int .i64 x37.term.kind, .int .i64 x37.term.arg, v47]]) rfl ?_
        refine TL.nil ?_
        refine TC.go hK_175 ?_
        refine TC.seq fun K_177 hK_178 => ?_
        refine TC.region ?_
        refine TL.v (ltb rfl) (rv_fa (b := b118) (o := 0) fa_131_1 rfl) ?_
        refine TL.v (ltb rfl) (rv_ld (v := v116) (o := 1) (o' := 0) (j := 1) sc_22 rfl (Src.at_ 0 rfl) (bx_cells b118 131 _) rfl rfl) ?_
        refine TL.v (ltb rfl) (rv_lenI (v := v116) Try.underlying22 rfl h117) ?_
        refine TL.v (ltb rfl) (rv_mv (v := .int .i64 0) rfl) ?_
        refine TL.nil ?_
        refine TC.go hK_178 ?_
        refine TC.block ?_
        obtain ⟨z_191, hz_192, hr_193⟩ := bind_some' hp
        clear hp
        have hJ_205 : ∀ (x123 : List Int) (F124 : FP) (e_196 : Env) (h125 : SlO 3 (kInt .i64) x123 v23 F124) (h_197 : e_196 8 = v23) (h_198 : e_196 10 = .pointer (some ⟨b49, 0, none⟩)) (h_199 : e_196 35 = v19) (h_200 : e_196 36 = .int .i64 (len x11.blocks)) (h_201 : e_196 37 = .int .i64 x29) (h_202 : e_196 42 = v43) (h_203 : e_196 43 = .int .i64 (len x37.phis)) (h_204 : e_196 44 = .int .i64 x53) (hq_206 : x123 = z_191), ∀ w, St E H [F124, bx b49 85 [v43, v45, .int .i64 x37.term.kind, .int .i64 x37.term.arg, v47]] w → K_172 e_196 w := by
          intro x123 F124 e_196 h125 h_197 h_198 h_199 h_200 h_201 h_202 h_203 h_204 hq_206
          subst hq_206
          replace hp : live_Count.nx195 x53 x123 = some x_72 := hr_193
          unfold live_Count.nx195 at hp
          refine TC.go hK_173 ?_
          refine TC.region ?_
          refine TL.v (ltb rfl) (rv_add (k := .i64) (m := x53) (n := 1) h_204 rfl) ?_
          refine TL.v (ltb rfl) (rv_mv (v := .int .i64 (w64 (x53 + 1))) rfl) ?_
          refine TL.nil ?_
          exact fun w hw => goOk hp ⟨x123, (w64 (x53 + 1)), F124, rfl, h125, h_197, h_198, h_199, h_200, h_201, h_202, h_203, rfl, rfl⟩ (hw.pick [0, 0])
        refine TC.pk' [1, 1] (L' := [F51, bx b49 85 [v43, v45, .int .i64 x37.term.kind, .int .i64 x37.term.arg, v47]]) rfl ?_
        refine TC.loopW (r := z_191) (fun (s : (List Int × Int)) (e_179 : Env) (L_219 : List FP) => ∃ (x119 : List Int) (x122 : Int) (F120 : FP), s = (x119, x122) ∧ SlO 3 (kInt .i64) x119 v23 F120 ∧ e_179 8 = v23 ∧ e_179 10 = .pointer (some ⟨b49, 0, none⟩) ∧ e_179 35 = v19 ∧ e_179 36 = .int .i64 (len x11.blocks) ∧ e_179 37 = .int .i64 x29 ∧ e_179 42 = v43 ∧ e_179 43 = .int .i64 (len x37.phis) ∧ e_179 44 = .int .i64 x53 ∧ e_179 49 = v116 ∧ e_179 50 = .int .i64 (len x110.args) ∧ e_179 51 = .int .i64 x122 ∧ L_219 = [F120, bx b49 85 [v43, v45, .int .i64 x37.term.kind, .int .i64 x37.term.arg, v47]]) ?_ FUEL _ _ _ hz_192 ⟨x50, 0, F51, rfl, h52, h_61, h_62, h_63, h_64, h_65, h_66, h_67, h_68, rfl, rfl, rfl, rfl⟩
        rintro s e_179 L_219 ⟨x119, x122, F120, rfl, h121, h_180, h_181, h_182, h_183, h_184, h_185, h_186, h_187, h_188, h_189, h_190, rfl⟩ x_194 hp hx_195
        replace hp : live_Count.bd195 x110 x119 x122 = some x_194 := hp
        unfold live_Count.bd195 at hp
        refine TC.seq fun K_207 hK_208 => ?_
        refine TC.region ?_
        refine TL.v (ltb rfl) (rv_lss (k := .i64) (m := x122) (n := (len x110.args)) h_190 h_189) ?_
        refine TL.nil ?_
        refine TC.go hK_208 ?_
        refine TC.seq fun K_209 hK_210 => ?_
        by_cases hc_211 : x122 < (len x110.args)
        · rw [if_pos hc_211] at hp
          refine TC.condT (bT hc_211) ?_
          refine TC.skip ?_
          refine TC.go hK_210 ?_
          refine TC.seq fun K_212 hK_213 => ?_
          refine TC.block ?_
          refine TC.seq fun K_214 hK_215 => ?_
          refine TC.region ?_
          obtain ⟨x126, hx_216, hp⟩ := bind_some' hp
          refine TL.v3 (ltb rfl) (rv_ix 22 (.tmp 49) (.tmp 51) (v := v116) (i := x122) Try.underlying22 inf_3 rfl h_188 h_190 h117 hx_216) fun b127 o128 c129 h130 h131 => ?_
          obtain rfl := h130
          refine TL.v (ltb rfl) (rv_ld (v := .int .i64 x126) (o := o128) (o' := o128) (j := 0) sc_3 rfl Src.H h131 rfl rfl) ?_
          refine TL.v (ltb rfl) (rv_as (v := .int .i64 x126) rfl) ?_
          refine TL.nil ?_
          refine TC.go hK_215 ?_
          refine TC.region ?_
          refine TL.v (ltb rfl) (rv_mv (v := v23) h_180) ?_
          refine TL.v (ltb rfl) (rv_mv (v := .int .i64 x126) rfl) ?_
          obtain ⟨x132, hx_217, hp⟩ := bind_some' hp
          refine TL.v3 (ltb rfl) (rv_ix 22 (.tmp 55) (.tmp 56) (v := v23) (i := x126) Try.underlying22 inf_3 rfl rfl rfl (h121).ro hx_217) fun b133 o134 c135 h136 h137 => ?_
          obtain rfl := h136
          refine TL.v (ltb rfl) (rv_ld (v := .int .i64 x132) (o := o134) (o' := o134) (j := 0) sc_3 rfl (Src.at_ 0 rfl) h137 rfl rfl) ?_
          refine TL.v (ltb rfl) (rv_add (k := .i64) (m := x132) (n := 1) rfl rfl) ?_
          obtain ⟨x138, hx_218, hp⟩ := bind_some' hp
          refine TL.v2 (ltb rfl) (rv_ixO 22 (.tmp 55) (.tmp 56) (v := v23) (i := x126) Try.underlying22 inf_3 rfl rfl rfl h121 (idx_some hx_218).1 (idx_some hx_218).2.1) fun b139 o140 h141 => ?_
          refine TL.stE0 (ds := [.int .i64 (w64 (x132 + 1))]) (u := .int .i64 (w64 (x132 + 1))) (a := (w64 (x132 + 1))) h121 h141 ms_3 rfl rfl rfl ⟨rfl, rfl⟩ fun F142 h143 => ?_
          refine TL.nil ?_
          refine TC.go hK_213 ?_
          refine TC.region ?_
          refine TL.v (ltb rfl) (rv_add (k := .i64) (m := x122) (n := 1) h_190 rfl) ?_
          refine TL.v (ltb rfl) (rv_mv (v := .int .i64 (w64 (x122 + 1))) rfl) ?_
          refine TL.nil ?_
          exact fun w hw => goOk hp ⟨(x119.set (x126).toNat (w64 (x132 + 1))), (w64 (x122 + 1)), F142, rfl, h143, h_180, h_181, h_182, h_183, h_184, h_185, h_186, h_187, h_188, h_189, rfl, rfl⟩ (hw.pick [0, 0])
        · rw [if_neg hc_211] at hp
          refine TC.condF (bF hc_211) ?_
          refine TC.exit ?_
          refine fun w hw => hJ_205 x119 F120 _ h121 ?_ ?_ ?_ ?_ ?_ ?_ ?_ ?_ (ex_ret hp hx_195) w (hw.pick [0, 0])
          · exact h_180
          · exact h_181
          · exact h_182
          · exact h_183
          · exact h_184
          · exact h_185
          · exact h_186
          · exact h_187
      · rw [if_neg hc_171] at hp
        refine TC.condF (bF hc_171) ?_
        refine TC.exit ?_
        refine fun w hw => hJ_165 x50 F51 _ h52 ?_ ?_ ?_ ?_ ?_ (ex_ret hp hx_73) w (hw.pick [0, 0])
        · exact h_61
        · exact h_62
        · exact h_63
        · exact h_64
        · exact h_65
    · rw [if_neg hc_44] at hp
      refine TC.condF (bF hc_44) ?_
      refine TC.exit ?_
      refine fun w hw => hJ_38 x26 F27 _ h28 ?_ (ex_ret hp hx_33) w (hw.pick [0])
      · exact h_25

/-! ### fettle/live.Live -/
abbrev live_Live.R (r : List (List Bool) × List (List Bool) × GErr) (v : Value) (A : List FP) : Prop := ∃ (w1 : Value) (G1 : FP) (w2 : Value) (G2 : FP) (w3 : Value) (G3 : FP), .tuple #[w1, w2, w3] = v ∧ A = [G1, G2, G3] ∧ SlO 30 (kSl 4 kBool) r.1 w1 G1 ∧ SlO 30 (kSl 4 kBool) r.2.1 w2 G2 ∧ ErO 72 143 145 r.2.2 w3 G3
def live_Live.nx74  (x4839 : List (List Bool)) (x4842 : List (List Bool)) : Option (List (List Bool) × List (List Bool) × GErr) :=
  some (x4839, x4842, GErr.no)
def live_Live.nx104  (x4854 : List (List Bool)) (x4857 : List (List Bool)) (x4860 : Bool) : Option (Ex (List (List Bool) × List (List Bool)) (List (List Bool) × List (List Bool) × Bool)) :=
  some (.go (x4854, x4857, x4860))
def live_Live.nx169 (x4853 : Int) (x4874 : List (List Bool)) (x9684 : List (List Bool)) (x9687 : Bool) : Option (Ex (List (List Bool) × List (List Bool) × Bool) (List (List Bool) × List (List Bool) × Bool × Int)) :=
  some (.go (x9684, x4874, x9687, (w64 (x4853 - 1))))
def live_Live.jn196 (x9683 : Int) (x9688 : List (List Bool)) (x9691 : Bool) : Option (Ex (List (List Bool) × Bool) (List (List Bool) × Bool × Int)) :=
  some (.go (x9688, x9691, (w64 (x9683 + 1))))
def live_Live.bd169 (x4853 : Int) (x8479 : List Bool) (x9679 : List (List Bool)) (x9682 : Bool) (x9683 : Int) : Option (Ex (List (List Bool) × Bool) (List (List Bool) × Bool × Int)) :=
  if x9683 < (len x8479) then
    (idx x8479 x9683).bind fun x9692 =>
    (idx x9679 x4853).bind fun x9698 =>
    (idx x9698 x9683).bind fun x9706 =>
    if (!(x9692 == x9706)) = true then
      (idx x9679 x4853).bind fun x9712 =>
      (idx x9712 x9683).bind fun x9722 =>
      live_Live.jn196 x9683 (x9679.set (x4853).toNat (x9712.set (x9683).toNat x9692)) true
    else
      live_Live.jn196 x9683 x9679 x9682
  else
    some (.ret (x9679, x9682))
def live_Live.nx139 (x12 : PFunc) (x4846 : List (List Bool)) (x4853 : Int) (x4874 : List (List Bool)) (x4877 : Bool) : Option (Ex (List (List Bool) × List (List Bool) × Bool) (List (List Bool) × List (List Bool) × Bool × Int)) :=
  (idx x12.blocks x4853).bind fun x6079 =>
  (idx x4874 x4853).bind fun x7679 =>
  (live_begin x6079 x7679).bind fun x8479 =>
  (whl (fun (s : (List (List Bool) × Bool × Int)) => live_Live.bd169 x4853 x8479 s.1 s.2.1 s.2.2) FUEL (x4846, x4877, 0)).bind fun z =>
  live_Live.nx169 x4853 x4874 z.1 z.2
def live_Live.nx240 (x4873 : Int) (x9749 : List (List Bool)) (x9752 : Bool) : Option (Ex (List (List Bool) × Bool) (List (List Bool) × Bool × Int)) :=
  some (.go (x9749, x9752, (w64 (x4873 + 1))))
def live_Live.jn273 (x9748 : Int) (x9753 : List (List Bool)) (x9756 : Bool) : Option (Ex (List (List Bool) × Bool) (List (List Bool) × Bool × Int)) :=
  some (.go (x9753, x9756, (w64 (x9748 + 1))))
def live_Live.bd240 (x4853 : Int) (x9736 : List Bool) (x9744 : List (List Bool)) (x9747 : Bool) (x9748 : Int) : Option (Ex (List (List Bool) × Bool) (List (List Bool) × Bool × Int)) :=
  if x9748 < (len x9736) then
    (idx x9736 x9748).bind fun x9757 =>
    (if x9757 = true then (idx x9744 x4853).bind fun x9782 =>
    (idx x9782 x9748).bind fun x9790 =>
    some (!x9790) else some false).bind fun t9763 =>
    if t9763 = true then
      (idx x9744 x4853).bind fun x9764 =>
      (idx x9764 x9748).bind fun x9774 =>
      live_Live.jn273 x9748 (x9744.set (x4853).toNat (x9764.set (x9748).toNat true)) true
    else
      live_Live.jn273 x9748 x9744 x9747
  else
    some (.ret (x9744, x9747))
def live_Live.bd139 (x4846 : List (List Bool)) (x4853 : Int) (x4861 : List Int) (x4869 : List (List Bool)) (x4872 : Bool) (x4873 : Int) : Option (Ex (List (List Bool) × Bool) (List (List Bool) × Bool × Int)) :=
  if x4873 < (len x4861) then
    (idx x4861 x4873).bind fun x9730 =>
    (idx x4846 x9730).bind fun x9736 =>
    (whl (fun (s : (List (List Bool) × Bool × Int)) => live_Live.bd240 x4853 x9736 s.1 s.2.1 s.2.2) FUEL (x4869, x4872, 0)).bind fun z =>
    live_Live.nx240 x4873 z.1 z.2
  else
    some (.ret (x4869, x4872))
def live_Live.bd104 (x12 : PFunc) (x424 : List (List Int)) (x4846 : List (List Bool)) (x4849 : List (List Bool)) (x4852 : Bool) (x4853 : Int) : Option (Ex (List (List Bool) × List (List Bool) × Bool) (List (List Bool) × List (List Bool) × Bool × Int)) :=
  if x4853 ≥ 0 then
    (idx x424 x4853).bind fun x4861 =>
    (whl (fun (s : (List (List Bool) × Bool × Int)) => live_Live.bd139 x4846 x4853 x4861 s.1 s.2.1 s.2.2) FUEL (x4849, x4852, 0)).bind fun z =>
    live_Live.nx139 x12 x4846 x4853 z.1 z.2
  else
    some (.ret (x4846, x4849, x4852))
def live_Live.bd74 (x12 : PFunc) (x424 : List (List Int)) (x4832 : List (List Bool)) (x4835 : List (List Bool)) (x4838 : Bool) : Option (Ex (List (List Bool) × List (List Bool)) (List (List Bool) × List (List Bool) × Bool)) :=
  if x4838 = true then
    (whl (fun (s : (List (List Bool) × List (List Bool) × Bool × Int)) => live_Live.bd104 x12 x424 s.1 s.2.1 s.2.2.1 s.2.2.2) FUEL (x4832, x4835, false, (w64 ((len x12.blocks) - 1)))).bind fun z =>
    live_Live.nx104 z.1 z.2.1 z.2.2
  else
    some (.ret (x4832, x4835))
def live_Live.nx54 (x12 : PFunc) (x424 : List (List Int)) (x2825 : List (List Bool)) (x4829 : List (List Bool)) : Option (List (List Bool) × List (List Bool) × GErr) :=
  (whl (fun (s : (List (List Bool) × List (List Bool) × Bool)) => live_Live.bd74 x12 x424 s.1 s.2.1 s.2.2) FUEL (x2825, x4829, true)).bind fun z =>
  live_Live.nx74 z.1 z.2
def live_Live.nx339 (x4828 : Int) (x9813 : List (List Bool)) : Option (Ex (List (List Bool)) (List (List Bool) × Int)) :=
  some (.go (x9813, (w64 (x4828 + 1))))
def live_Live.nx383 (x9812 : Int) (x9829 : List (List Bool)) : Option (Ex (List (List Bool)) (List (List Bool) × Int)) :=
  some (.go (x9829, (w64 (x9812 + 1))))
def live_Live.bd383 (x1224 : List (List Int)) (x4828 : Int) (x9816 : PPhi) (x9825 : List (List Bool)) (x9828 : Int) : Option (Ex (List (List Bool)) (List (List Bool) × Int)) :=
  if x9828 < (len x9816.args) then
    (idx x9816.args x9828).bind fun x9832 =>
    (idx x1224 x4828).bind fun x9838 =>
    (idx x9838 x9828).bind fun x9846 =>
    (idx x9825 x9846).bind fun x9852 =>
    (idx x9852 x9832).bind fun x9862 =>
    some (.go ((x9825.set (x9846).toNat (x9852.set (x9832).toNat true)), (w64 (x9828 + 1))))
  else
    some (.ret x9825)
def live_Live.bd339 (x1224 : List (List Int)) (x4828 : Int) (x9796 : PBlock) (x9809 : List (List Bool)) (x9812 : Int) : Option (Ex (List (List Bool)) (List (List Bool) × Int)) :=
  if x9812 < (len x9796.phis) then
    (idx x9796.phis x9812).bind fun x9816 =>
    (whl (fun (s : (List (List Bool) × Int)) => live_Live.bd383 x1224 x4828 x9816 s.1 s.2) FUEL (x9809, 0)).bind fun z =>
    live_Live.nx383 x9812 z
  else
    some (.ret x9809)
def live_Live.bd54 (x12 : PFunc) (x1224 : List (List Int)) (x4825 : List (List Bool)) (x4828 : Int) : Option (Ex (List (List Bool)) (List (List Bool) × Int)) :=
  if x4828 < (len x12.blocks) then
    (idx x12.blocks x4828).bind fun x9796 =>
    (whl (fun (s : (List (List Bool) × Int)) => live_Live.bd339 x1224 x4828 x9796 s.1 s.2) FUEL (x4825, 0)).bind fun z =>
    live_Live.nx339 x4828 z
  else
    some (.ret x4825)
def live_Live (a1 : PModule) (a4 : Int) : Option (List (List Bool) × List (List Bool) × GErr) :=
  (live_has a1 a4).bind fun x6 =>
  if ¬ x6 = GErr.no then
    some (([] : List (List Bool)), ([] : List (List Bool)), x6)
  else
    (idx a1.funcs a4).bind fun x12 =>
    (graph_Next x12).bind fun x424 =>
    (check_Ahead x12).bind fun x1224 =>
    (live_table x12).bind fun x2825 =>
    (live_table x12).bind fun x3625 =>
    (whl (fun (s : (List (List Bool) × Int)) => live_Live.bd54 x12 x1224 s.1 s.2) FUEL (x3625, 0)).bind fun z =>
    live_Live.nx54 x12 x424 x2825 z
set_option maxHeartbeats 4000000 in
theorem live_Live_ok {E : World} {H : FP} {w : World} {a1 : PModule} {a4 : Int} {v2 : Value} {r : List (List Bool) × List (List Bool) × GErr} (h3 : SlI kFunc H a1.funcs v2) (hp : live_Live a1 a4 = some r) (hst : St E H [] w) :
    Fn Try.prog 50 #[.agg #[v2], .int .i64 a4] w fun v w' => ∃ A, live_Live.R r v A ∧ St E H A w' := by
  refine Fn.body (fn := Try.f50) (args := [.agg #[v2], .int .i64 a4]) E H [] [.tmp 4, .tmp 5, .tmp 6] 166 Try.func50 rfl rfl rfl rfl (leb rfl) hst ?_
  unfold live_Live at hp
  refine TC.seq fun K_1 hK_2 => ?_
  refine TC.region ?_
  refine TL.box (cs := [v2]) (v := .agg #[v2]) (ltb rfl) rfl rfl fun b5 => ?_
  refine TL.v (ltb rfl) (rv_as (v := .slice none 0 0) rfl) ?_
  refine TL.v (ltb rfl) (rv_as (v := .slice none 0 0) rfl) ?_
  refine TL.v (ltb rfl) (rv_as (v := .nilIface) rfl) ?_
  refine TL.nil ?_
  refine TC.go hK_2 ?_
  refine TC.seq fun K_3 hK_4 => ?_
  refine TC.seq fun K_5 hK_6 => ?_
  refine TC.region ?_
  refine TL.v (ltb rfl) (rv_lda (o := 0) (o' := 0) (j := 0) (ds := [v2]) ag_90 rfl (Src.at_ 0 rfl) (bx_cells b5 90 _) rfl rfl rfl) ?_
  refine TL.v (ltb rfl) (rv_mv (v := .int .i64 a4) rfl) ?_
  obtain ⟨x6, hy_7, hp⟩ := bind_some' hp
  refine TL.callC (vs := [.agg #[v2], .int .i64 a4]) (R := live_has.R x6) [] [bx b5 90 [v2]] rfl cb_77 (ltb rfl) (mc rfl (mc rfl m0)) (fun w hw => live_has_ok (a1 := a1) (a4 := a4) (h3.mono subH) hy_7 hw) fun v A' hR_8 => ?_
  obtain ⟨v7, F8, rfl, rfl, h9⟩ := hR_8
  refine TL.norm (L' := [F8, bx b5 90 [v2]]) rfl ?_
  refine TL.v (ltb rfl) (rv_as (v := v7) rfl) ?_
  refine TL.nil ?_
  refine TC.go hK_6 ?_
  refine TC.seq fun K_9 hK_10 => ?_
  refine TC.region ?_
  refine TL.v (ltb rfl) (rv_mv (v := v7) rfl) ?_
  refine TL.v (ltb rfl) (rv_neqEN ifc_49 h9 rfl) ?_
  refine TL.nil ?_
  refine TC.go hK_10 ?_
  by_cases hc_11 : ¬ x6 = GErr.no
  · rw [if_pos hc_11] at hp
    refine TC.condT (bT hc_11) ?_
    refine TC.seq fun K_12 hK_13 => ?_
    refine TC.region ?_
    refine TL.v (ltb rfl) (rv_mv (v := v7) rfl) ?_
    refine TL.v (ltb rfl) (rv_as (v := .slice none 0 0) rfl) ?_
    refine TL.v (ltb rfl) (rv_as (v := .slice none 0 0) rfl) ?_
    refine TL.v (ltb rfl) (rv_as (v := v7) rfl) ?_
    refine TL.nil ?_
    refine TC.go hK_13 ?_
    refine TC.ret ?_
    refine W.new0 ?_
    refine W.new0 ?_
    obtain rfl := Option.some.inj hp
    exact fun w hw => retOk ⟨(.slice none 0 0), ([] : FP), (.slice none 0 0), ([] : FP), v7, F8, (tu3 rfl rfl rfl).symm, rfl, (SlO.nil 30), (SlO.nil 30), h9⟩ (hw.pick [1, 0, 0])
  · rw [if_neg hc_11] at hp
    refine TC.condF (bF hc_11) ?_
    refine TC.skip ?_
    refine TC.go hK_4 ?_
    refine TC.seq fun K_14 hK_15 => ?_
    refine TC.region ?_
    refine TL.v (ltb rfl) (rv_fa (b := b5) (o := 0) fa_90_0 rfl) ?_
    refine TL.v (ltb rfl) (rv_ld (v := v2) (o := 0) (o' := 0) (j := 0) sc_88 rfl (Src.at_ 1 rfl) (bx_cells b5 90 _) rfl rfl) ?_
    refine TL.v (ltb rfl) (rv_mv (v := .int .i64 a4) rfl) ?_
    obtain ⟨x12, hx_16, hp⟩ := bind_some' hp
    refine TL.v3 (ltb rfl) (rv_ix 88 (.tmp 34) (.tmp 35) (v := v2) (i := a4) Try.underlying88 inf_25 rfl rfl rfl h3 hx_16) fun b13 o14 c15 h16 h17 => ?_
    obtain ⟨v18, v20, rfl, h19, h21⟩ := h16
    refine TL.v (ltb rfl) (rv_lda (o := o14) (o' := o14) (j := 0) (ds := [.int .i64 x12.params, .int .i64 x12.result, v18, v20]) ag_25 rfl Src.H h17 rfl rfl rfl) ?_
    refine TL.alloc (cs := [.int .i64 0, .int .i64 0, .slice none 0 0, .slice none 0 0]) inf_25 (ltb rfl) rfl fun b22 => ?_
    refine TL.stB (ds := [.int .i64 x12.params, .int .i64 x12.result, v18, v20]) (o := 0) (cs := [.int .i64 0, .int .i64 0, .slice none 0 0, .slice none 0 0]) (b := b22) (u := .agg #[.int .i64 x12.params, .int .i64 x12.result, v18, v20]) 0 rfl ms_25 rfl rfl rfl (oc rfl (oc rfl (oc (h19).one (oc (h21).one oc0)))) (leb rfl) ?_
    refine TL.norm (L' := [bx b22 25 [.int .i64 x12.params, .int .i64 x12.result, v18, v20], F8, bx b5 90 [v2]]) rfl ?_
    refine TL.nil ?_
    refine TC.go hK_15 ?_
    refine TC.seq fun K_17 hK_18 => ?_
    refine TC.held ([bx b22 25 [.int .i64 x12.params, .int .i64 x12.result, v18, v20], F8, bx b5 90 [v2]].flatten ++ H) mix (srcG 0 rfl (srcG 1 rfl (srcG 2 rfl srcG0))) ?_
    refine HL.v 0 rfl trivial (by kernel_rfl) (by kernel_rfl) (by kernel_rfl) (ltb rfl) (rv_lda (o := 0) (o' := 0) (j := 0) (ds := [.int .i64 x12.params, .int .i64 x12.result, v18, v20]) ag_25 rfl (srcInG 0 rfl) (bx_cells b22 25 _) rfl rfl rfl) ?_
    refine HL.v 2 rfl trivial (by kernel_rfl) (by kernel_rfl) (by kernel_rfl) (ltb rfl) (rv_lda (o := 0) (o' := 0) (j := 0) (ds := [.int .i64 x12.params, .int .i64 x12.result, v18, v20]) ag_25 rfl (srcInG 0 rfl) (bx_cells b22 25 _) rfl rfl rfl) ?_
    refine HL.one 1 rfl (by kernel_rfl) fun K_19 hK_20 => ?_
    obtain ⟨x424, hy_21, hp⟩ := bind_some' hp
    refine TL.callC (vs := [.agg #[.int .i64 x12.params, .int .i64 x12.result, v18, v20]]) (R := graph_Next.R x424) [] [bx b22 25 [.int .i64 x12.params, .int .i64 x12.result, v18, v20], F8, bx b5 90 [v2]] rfl cb_18 (ltb rfl) (mc rfl m0) (fun w hw => graph_Next_ok (a1 := x12) (h19.mono subH) (h21.mono subH) hy_21 hw) fun v A' hR_22 => ?_
    obtain ⟨v425, F426, rfl, rfl, h427⟩ := hR_22
    refine TL.norm (L' := [F426, bx b22 25 [.int .i64 x12.params, .int .i64 x12.result, v18, v20], F8, bx b5 90 [v2]]) rfl ?_
    refine TL.nil (hK_20 _ _ (srcG 1 rfl (srcG 2 rfl (srcG 3 rfl srcG0))) ?_)
    refine HL.one 3 rfl (by kernel_rfl) fun K_23 hK_24 => ?_
    obtain ⟨x1224, hy_25, hp⟩ := bind_some' hp
    refine TL.callC (vs := [.agg #[.int .i64 x12.params, .int .i64 x12.result, v18, v20]]) (R := check_Ahead.R x1224) [] [F426, bx b22 25 [.int .i64 x12.params, .int .i64 x12.result, v18, v20], F8, bx b5 90 [v2]] rfl cb_78 (ltb rfl) (mc rfl m0) (fun w hw => check_Ahead_ok (a1 := x12) (h19.mono subH) (h21.mono subH) hy_25 hw) fun v A' hR_26 => ?_
    obtain ⟨v1225, F1226, rfl, rfl, h1227⟩ := hR_26
    refine TL.norm (L' := [F1226, F426, bx b22 25 [.int .i64 x12.params, .int .i64 x12.result, v18, v20], F8, bx b5 90 [v2]]) rfl ?_
    refine TL.nil (hK_24 _ _ (srcG 2 rfl (srcG 3 rfl (srcG 4 rfl srcG0))) ?_)
    refine HL.v 4 rfl trivial (by kernel_rfl) (by kernel_rfl) (by kernel_rfl) (ltb rfl) (rv_as (v := v425) rfl) ?_
    refine HL.v 5 rfl trivial (by kernel_rfl) (by kernel_rfl) (by kernel_rfl) (ltb rfl) (rv_as (v := v1225) rfl) ?_
    refine HL.done (by kernel_rfl) ?_
    refine TC.go hK_18 ?_
    refine TC.seq fun K_27 hK_28 => ?_
    refine TC.held ([F1226, F426, bx b22 25 [.int .i64 x12.params, .int .i64 x12.result, v18, v20], F8, bx b5 90 [v2]].flatten ++ H) mix (srcG 0 rfl (srcG 1 rfl (srcG 2 rfl (srcG 3 rfl (srcG 4 rfl srcG0))))) ?_
    refine HL.v 0 rfl trivial (by kernel_rfl) (by kernel_rfl) (by kernel_rfl) (ltb rfl) (rv_lda (o := 0) (o' := 0) (j := 0) (ds := [.int .i64 x12.params, .int .i64 x12.result, v18, v20]) ag_25 rfl (srcInG 2 rfl) (bx_cells b22 25 _) rfl rfl rfl) ?_
    refine HL.v 2 rfl trivial (by kernel_rfl) (by kernel_rfl) (by kernel_rfl) (ltb rfl) (rv_lda (o := 0) (o' := 0) (j := 0) (ds := [.int .i64 x12.params, .int .i64 x12.result, v18, v20]) ag_25 rfl (srcInG 2 rfl) (bx_cells b22 25 _) rfl rfl rfl) ?_
    refine HL.one 1 rfl (by kernel_rfl) fun K_29 hK_30 => ?_
    obtain ⟨x2825, hy_31, hp⟩ := bind_some' hp
    refine TL.callC (vs := [.agg #[.int .i64 x12.params, .int .i64 x12.result, v18, v20]]) (R := live_table.R x2825) [] [F1226, F426, bx b22 25 [.int .i64 x12.params, .int .i64 x12.result, v18, v20], F8, bx b5 90 [v2]] rfl cb_79 (ltb rfl) (mc rfl m0) (fun w hw => live_table_ok (a1 := x12) (h19.mono subH) (h21.mono subH) hy_31 hw) fun v A' hR_32 => ?_
    obtain ⟨v2826, F2827, rfl, rfl, h2828⟩ := hR_32
    refine TL.norm (L' := [F2827, F1226, F426, bx b22 25 [.int .i64 x12.params, .int .i64 x12.result, v18, v20], F8, bx b5 90 [v2]]) rfl ?_
    refine TL.nil (hK_30 _ _ (srcG 1 rfl (srcG 2 rfl (srcG 3 rfl (srcG 4 rfl (srcG 5 rfl srcG0))))) ?_)
    refine HL.one 3 rfl (by kernel_rfl) fun K_33 hK_34 => ?_
    obtain ⟨x3625, hy_35, hp⟩ := bind_some' hp
    refine TL.callC (vs := [.agg #[.int .i64 x12.params, .int .i64 x12.result, v18, v20]]) (R := live_table.R x3625) [] [F2827, F1226, F426, bx b22 25 [.int .i64 x12.params, .int .i64 x12.result, v18, v20], F8, bx b5 90 [v2]] rfl cb_79 (ltb rfl) (mc rfl m0) (fun w hw => live_table_ok (a1 := x12) (h19.mono subH) (h21.mono subH) hy_35 hw) fun v A' hR_36 => ?_
    obtain ⟨v3626, F3627, rfl, rfl, h3628⟩ := hR_36
    refine TL.norm (L' := [F3627, F2827, F1226, F426, bx b22 25 [.int .i64 x12.params, .int .i64 x12.result, v18, v20], F8, bx b5 90 [v2]]) rfl ?_
    refine TL.nil (hK_34 _ _ (srcG 2 rfl (srcG 3 rfl (srcG 4 rfl (srcG 5 rfl (srcG 6 rfl srcG0))))) ?_)
    refine HL.v 4 rfl trivial (by kernel_rfl) (by kernel_rfl) (by kernel_rfl) (ltb rfl) (rv_as (v := v2826) rfl) ?_
    refine HL.v 5 rfl trivial (by kernel_rfl) (by kernel_rfl) (by kernel_rfl) (ltb rfl) (rv_as (v := v3626) rfl) ?_
    refine HL.done (by kernel_rfl) ?_
    refine TC.go hK_28 ?_
    refine TC.seq fun K_37 hK_38 => ?_
    refine TC.seq fun K_39 hK_40 => ?_
    refine TC.region ?_
    refine TL.v (ltb rfl) (rv_fa (b := b22) (o := 0) fa_25_3 rfl) ?_
    refine TL.v (ltb rfl) (rv_ld (v := v20) (o := 3) (o' := 0) (j := 3) sc_23 rfl (Src.at_ 4 rfl) (bx_cells b22 25 _) rfl rfl) ?_
    refine TL.v (ltb rfl) (rv_lenI (v := v20) Try.underlying23 rfl h21) ?_
    refine TL.v (ltb rfl) (rv_mv (v := .int .i64 0) rfl) ?_
    refine TL.nil ?_
    refine TC.go hK_40 ?_
    refine TC.block ?_
    obtain ⟨z_50, hz_51, hr_52⟩ := bind_some' hp
    clear hp
    have hJ_308 : ∀ (x4829 : List (List Bool)) (F4830 : FP) (e_55 : Env) (h4831 : SlO 30 (kSl 4 kBool) x4829 v3626 F4830) (h_56 : e_55 8 = .pointer (some ⟨b22, 0, none⟩)) (h_57 : e_55 9 = v425) (h_58 : e_55 11 = v2826) (h_59 : e_55 12 = v3626) (hq_309 : x4829 = z_50), ∀ w, St E H [bx b22 25 [.int .i64 x12.params, .int .i64 x12.result, v18, v20], F426, F2827, F4830] w → K_37 e_55 w := by
      intro x4829 F4830 e_55 h4831 h_56 h_57 h_58 h_59 hq_309
      subst hq_309
      replace hp : live_Live.nx54 x12 x424 x2825 x4829 = some r := hr_52
      unfold live_Live.nx54 at hp
      refine TC.go hK_38 ?_
      refine TC.seq fun K_60 hK_61 => ?_
      refine TC.seq fun K_62 hK_63 => ?_
      refine TC.region ?_
      refine TL.v (ltb rfl) (rv_as (v := .bool true) rfl) ?_
      refine TL.nil ?_
      refine TC.go hK_63 ?_
      refine TC.block ?_
      obtain ⟨z_70, hz_71, hr_72⟩ := bind_some' hp
      clear hp
      have hJ_80 : ∀ (x4839 : List (List Bool)) (x4842 : List (List Bool)) (F4840 : FP) (F4843 : FP) (e_75 : Env) (h4841 : SlO 30 (kSl 4 kBool) x4839 v2826 F4840) (h4844 : SlO 30 (kSl 4 kBool) x4842 v3626 F4843) (h_76 : e_75 11 = v2826) (h_77 : e_75 12 = v3626) (hq_81 : (x4839, x4842) = z_70), ∀ w, St E H [F4840, F4843] w → K_60 e_75 w := by
        intro x4839 x4842 F4840 F4843 e_75 h4841 h4844 h_76 h_77 hq_81
        subst hq_81
        replace hp : live_Live.nx74 x4839 x4842 = some r := hr_72
        unfold live_Live.nx74 at hp
        refine TC.go hK_61 ?_
        refine TC.seq fun K_78 hK_79 => ?_
        refine TC.region ?_
        refine TL.v (ltb rfl) (rv_mv (v := v2826) h_76) ?_
        refine TL.v (ltb rfl) (rv_mv (v := v3626) h_77) ?_
        refine TL.v (ltb rfl) (rv_as (v := v2826) rfl) ?_
        refine TL.v (ltb rfl) (rv_as (v := v3626) rfl) ?_
        refine TL.v (ltb rfl) (rv_as (v := .nilIface) rfl) ?_
        refine TL.nil ?_
        refine TC.go hK_79 ?_
        refine TC.ret ?_
        refine W.new0 ?_
        obtain rfl := Option.some.inj hp
        exact fun w hw => retOk ⟨v2826, F4840, v3626, F4843, .nilIface, ([] : FP), (tu3 rfl rfl rfl).symm, rfl, h4841, h4844, (ErO.nil : ErO 72 143 145 GErr.no .nilIface [])⟩ (hw.pick [1, 1, 0])
      refine TC.pk' [0, 0, 0, 0] (L' := [bx b22 25 [.int .i64 x12.params, .int .i64 x12.result, v18, v20], F426, F2827, F4830]) rfl ?_
      refine TC.loopW (r := z_70) (fun (s : (List (List Bool) × List (List Bool) × Bool)) (e_64 : Env) (L_307 : List FP) => ∃ (x4832 : List (List Bool)) (x4835 : List (List Bool)) (x4838 : Bool) (F4833 : FP) (F4836 : FP), s = (x4832, x4835, x4838) ∧ SlO 30 (kSl 4 kBool) x4832 v2826 F4833 ∧ SlO 30 (kSl 4 kBool) x4835 v3626 F4836 ∧ e_64 8 = .pointer (some ⟨b22, 0, none⟩) ∧ e_64 9 = v425 ∧ e_64 11 = v2826 ∧ e_64 12 = v3626 ∧ e_64 19 = .bool x4838 ∧ L_307 = [bx b22 25 [.int .i64 x12.params, .int .i64 x12.result, v18, v20], F426, F4833, F4836]) ?_ FUEL _ _ _ hz_71 ⟨x2825, x4829, true, F2827, F4830, rfl, h2828, h4831, h_56, h_57, h_58, h_59, rfl, rfl⟩
      rintro s e_64 L_307 ⟨x4832, x4835, x4838, F4833, F4836, rfl, h4834, h4837, h_65, h_66, h_67, h_68, h_69, rfl⟩ x_73 hp hx_74
      replace hp : live_Live.bd74 x12 x424 x4832 x4835 x4838 = some x_73 := hp
      unfold live_Live.bd74 at hp
      refine TC.seq fun K_82 hK_83 => ?_
      refine TC.seq fun K_84 hK_85 => ?_
      refine TC.region ?_
      refine TL.v (ltb rfl) (rv_mv (v := .bool x4838) h_69) ?_
      refine TL.nil ?_
      refine TC.go hK_85 ?_
      by_cases hc_86 : x4838 = true
      · rw [if_pos hc_86] at hp
        refine TC.condT (bbT hc_86) ?_
        refine TC.skip ?_
        refine TC.go hK_83 ?_
        refine TC.named fun K_87 hK_88 => ?_
        refine TC.block ?_
        refine TC.seq fun K_89 hK_90 => ?_
        refine TC.region ?_
        refine TL.v (ltb rfl) (rv_as (v := .bool false) rfl) ?_
        refine TL.nil ?_
        refine TC.go hK_90 ?_
        refine TC.seq fun K_91 hK_92 => ?_
        refine TC.region ?_
        refine TL.v (ltb rfl) (rv_fa (b := b22) (o := 0) fa_25_3 h_65) ?_
        refine TL.v (ltb rfl) (rv_ld (v := v20) (o := 3) (o' := 0) (j := 3) sc_23 rfl (Src.at_ 0 rfl) (bx_cells b22 25 _) rfl rfl) ?_
        refine TL.v (ltb rfl) (rv_lenI (v := v20) Try.underlying23 rfl h21) ?_
        refine TL.v (ltb rfl) (rv_sub (k := .i64) (m := (len x12.blocks)) (n := 1) rfl rfl) ?_
        refine TL.v (ltb rfl) (rv_as (v := .int .i64 (w64 ((len x12.blocks) - 1))) rfl) ?_
        refine TL.nil ?_
        refine TC.go hK_92 ?_
        refine TC.block ?_
        obtain ⟨z_100, hz_101, hr_102⟩ := bind_some' hp
        clear hp
        have hJ_111 : ∀ (x4854 : List (List Bool)) (x4857 : List (List Bool)) (x4860 : Bool) (F4855 : FP) (F4858 : FP) (e_105 : Env) (h4856 : SlO 30 (kSl 4 kBool) x4854 v2826 F4855) (h4859 : SlO 30 (kSl 4 kBool) x4857 v3626 F4858) (h_106 : e_105 8 = .pointer (some ⟨b22, 0, none⟩)) (h_107 : e_105 9 = v425) (h_108 : e_105 11 = v2826) (h_109 : e_105 12 = v3626) (h_110 : e_105 19 = .bool x4860) (hq_112 : (x4854, x4857, x4860) = z_100), ∀ w, St E H [bx b22 25 [.int .i64 x12.params, .int .i64 x12.result, v18, v20], F426, F4855, F4858] w → K_87 e_105 w := by
          intro x4854 x4857 x4860 F4855 F4858 e_105 h4856 h4859 h_106 h_107 h_108 h_109 h_110 hq_112
          subst hq_112
          replace hp : live_Live.nx104 x4854 x4857 x4860 = some x_73 := hr_102
          unfold live_Live.nx104 at hp
          refine viaK hK_88 ?_
          exact fun w hw => goOk hp ⟨x4854, x4857, x4860, F4855, F4858, rfl, h4856, h4859, h_106, h_107, h_108, h_109, h_110, rfl⟩ (hw.pick [0, 0, 0, 0])
        refine TC.pk' [0, 0, 0, 0] (L' := [bx b22 25 [.int .i64 x12.params, .int .i64 x12.result, v18, v20], F426, F4833, F4836]) rfl ?_
        refine TC.loopW (r := z_100) (fun (s : (List (List Bool) × List (List Bool) × Bool × Int)) (e_93 : Env) (L_306 : List FP) => ∃ (x4846 : List (List Bool)) (x4849 : List (List Bool)) (x4852 : Bool) (x4853 : Int) (F4847 : FP) (F4850 : FP), s = (x4846, x4849, x4852, x4853) ∧ SlO 30 (kSl 4 kBool) x4846 v2826 F4847 ∧ SlO 30 (kSl 4 kBool) x4849 v3626 F4850 ∧ e_93 8 = .pointer (some ⟨b22, 0, none⟩) ∧ e_93 9 = v425 ∧ e_93 11 = v2826 ∧ e_93 12 = v3626 ∧ e_93 19 = .bool x4852 ∧ e_93 20 = .int .i64 x4853 ∧ L_306 = [bx b22 25 [.int .i64 x12.params, .int .i64 x12.result, v18, v20], F426, F4847, F4850]) ?_ FUEL _ _ _ hz_101 ⟨x4832, x4835, false, (w64 ((len x12.blocks) - 1)), F4833, F4836, rfl, h4834, h4837, h_65, h_66, h_67, h_68, rfl, rfl, rfl⟩
        rintro s e_93 L_306 ⟨x4846, x4849, x4852, x4853, F4847, F4850, rfl, h4848, h4851, h_94, h_95, h_96, h_97, h_98, h_99, rfl⟩ x_103 hp hx_104
        replace hp : live_Live.bd104 x12 x424 x4846 x4849 x4852 x4853 = some x_103 := hp
        unfold live_Live.bd104 at hp
        refine TC.seq fun K_113 hK_114 => ?_
        refine TC.seq fun K_115 hK_116 => ?_
        refine TC.region ?_
        refine TL.v (ltb rfl) (rv_mv (v := .int .i64 x4853) h_99) ?_
        refine TL.v (ltb rfl) (rv_geq (k := .i64) (m := x4853) (n := 0) rfl rfl) ?_
        refine TL.nil ?_
        refine TC.go hK_116 ?_
        by_cases hc_117 : x4853 ≥ 0
        · rw [if_pos hc_117] at hp
          refine TC.condT (bT hc_117) ?_
          refine TC.skip ?_
          refine TC.go hK_114 ?_
          refine TC.seq fun K_118 hK_119 => ?_
          refine TC.block ?_
          refine TC.seq fun K_120 hK_121 => ?_
          refine TC.seq fun K_122 hK_123 => ?_
          refine TC.region ?_
          refine TL.v (ltb rfl) (rv_mv (v := v425) h_95) ?_
          refine TL.v (ltb rfl) (rv_mv (v := .int .i64 x4853) h_99) ?_
          obtain ⟨x4861, hx_124, hp⟩ := bind_some' hp
          refine TL.v3 (ltb rfl) (rv_ix 28 (.tmp 93) (.tmp 94) (v := v425) (i := x4853) Try.underlying28 inf_22 rfl rfl rfl (h427).ro hx_124) fun b4862 o4863 c4864 h4865 h4866 => ?_
          obtain ⟨v4867, rfl, h4868⟩ := h4865
          refine TL.v (ltb rfl) (rv_ld (v := v4867) (o := o4863) (o' := o4863) (j := 0) sc_22 rfl (Src.at_ 1 rfl) h4866 rfl rfl) ?_
          refine TL.v (ltb rfl) (rv_lenI (v := v4867) Try.underlying22 rfl h4868) ?_
          refine TL.v (ltb rfl) (rv_mv (v := .int .i64 0) rfl) ?_
          refine TL.nil ?_
          refine TC.go hK_123 ?_
          refine TC.block ?_
          obtain ⟨z_135, hz_136, hr_137⟩ := bind_some' hp
          clear hp
          have hJ_208 : ∀ (x4874 : List (List Bool)) (x4877 : Bool) (F4875 : FP) (e_140 : Env) (h4876 : SlO 30 (kSl 4 kBool) x4874 v3626 F4875) (h_141 : e_140 8 = .pointer (some ⟨b22, 0, none⟩)) (h_142 : e_140 9 = v425) (h_143 : e_140 11 = v2826) (h_144 : e_140 12 = v3626) (h_145 : e_140 19 = .bool x4877) (h_146 : e_140 20 = .int .i64 x4853) (hq_209 : (x4874, x4877) = z_135), ∀ w, St E H [bx b22 25 [.int .i64 x12.params, .int .i64 x12.result, v18, v20], F426, F4847, F4875] w → K_120 e_140 w := by
            intro x4874 x4877 F4875 e_140 h4876 h_141 h_142 h_143 h_144 h_145 h_146 hq_209
            subst hq_209
            replace hp : live_Live.nx139 x12 x4846 x4853 x4874 x4877 = some x_103 := hr_137
            unfold live_Live.nx139 at hp
            refine TC.go hK_121 ?_
            refine TC.seq fun K_147 hK_148 => ?_
            refine TC.held ([bx b22 25 [.int .i64 x12.params, .int .i64 x12.result, v18, v20], F426, F4847, F4875].flatten ++ H) mix (srcG 0 rfl (srcG 1 rfl (srcG 2 rfl (srcG 3 rfl srcG0)))) ?_
            refine HL.v 0 rfl trivial (by kernel_rfl) (by kernel_rfl) (by kernel_rfl) (ltb rfl) (rv_fa (b := b22) (o := 0) fa_25_3 h_141) ?_
            refine HL.v 1 rfl trivial (by kernel_rfl) (by kernel_rfl) (by kernel_rfl) (ltb rfl) (rv_ld (v := v20) (o := 3) (o' := 0) (j := 3) sc_23 rfl (srcInG 0 rfl) (bx_cells b22 25 _) rfl rfl) ?_
            refine HL.v 2 rfl trivial (by kernel_rfl) (by kernel_rfl) (by kernel_rfl) (ltb rfl) (rv_mv (v := .int .i64 x4853) h_146) ?_
            obtain ⟨x6079, hx_149, hp⟩ := bind_some' hp
            refine HL.w3 3 rfl trivial (by kernel_rfl) (by kernel_rfl) (by kernel_rfl) (ltb rfl) (rv_ix 23 (.tmp 132) (.tmp 133) (v := v20) (i := x4853) Try.underlying23 inf_85 rfl rfl rfl h21 hx_149) fun b6080 o6081 c6082 h6083 h6084 => ?_
            obtain ⟨v6085, v6087, v6089, rfl, h6086, h6088, h6090⟩ := h6083
            refine HL.v 4 rfl trivial (by kernel_rfl) (by kernel_rfl) (by kernel_rfl) (ltb rfl) (rv_lda (o := o6081) (o' := o6081) (j := 0) (ds := [v6085, v6087, .int .i64 x6079.term.kind, .int .i64 x6079.term.arg, v6089]) ag_85 rfl srcInH h6084 rfl rfl rfl) ?_
            refine HL.v 5 rfl trivial (by kernel_rfl) (by kernel_rfl) (by kernel_rfl) (ltb rfl) (rv_mv (v := v3626) h_144) ?_
            refine HL.v 6 rfl trivial (by kernel_rfl) (by kernel_rfl) (by kernel_rfl) (ltb rfl) (rv_mv (v := .int .i64 x4853) h_146) ?_
            obtain ⟨x7679, hx_150, hp⟩ := bind_some' hp
            refine HL.w3 7 rfl trivial (by kernel_rfl) (by kernel_rfl) (by kernel_rfl) (ltb rfl) (rv_ix 93 (.tmp 136) (.tmp 137) (v := v3626) (i := x4853) Try.underlying93 inf_30 rfl rfl rfl (h4876).ro hx_150) fun b7680 o7681 c7682 h7683 h7684 => ?_
            obtain ⟨v7685, rfl, h7686⟩ := h7683
            refine HL.v 8 rfl trivial (by kernel_rfl) (by kernel_rfl) (by kernel_rfl) (ltb rfl) (rv_ld (v := v7685) (o := o7681) (o' := o7681) (j := 0) sc_30 rfl (srcInG 3 rfl) h7684 rfl rfl) ?_
            refine HL.v 11 rfl trivial (by kernel_rfl) (by kernel_rfl) (by kernel_rfl) (ltb rfl) (rv_mv (v := .int .i64 0) rfl) ?_
            refine HL.one 9 rfl (by kernel_rfl) fun K_151 hK_152 => ?_
            obtain ⟨x8479, hy_153, hp⟩ := bind_some' hp
            refine TL.callC (vs := [.agg #[v6085, v6087, .int .i64 x6079.term.kind, .int .i64 x6079.term.arg, v6089], v7685]) (R := live_begin.R x8479) [] [bx b22 25 [.int .i64 x12.params, .int .i64 x12.result, v18, v20], F426, F4847, F4875] rfl cb_80 (ltb rfl) (mc rfl (mc rfl m0)) (fun w hw => live_begin_ok (a1 := x6079) (a8 := x7679) (h6086.mono subH) (h6088.mono subH) (h6090.mono subH) (h7686.mono (subB 3 rfl)) hy_153 hw) fun v A' hR_154 => ?_
            obtain ⟨v8480, F8481, rfl, rfl, h8482⟩ := hR_154
            refine TL.norm (L' := [F8481, bx b22 25 [.int .i64 x12.params, .int .i64 x12.result, v18, v20], F426, F4847, F4875]) rfl ?_
            refine TL.nil (hK_152 _ _ (srcG 1 rfl (srcG 2 rfl (srcG 3 rfl (srcG 4 rfl srcG0)))) ?_)
            refine HL.v 10 rfl trivial (by kernel_rfl) (by kernel_rfl) (by kernel_rfl) (ltb rfl) (rv_lenI (v := v8480) Try.underlying30 rfl h8482.ro) ?_
            refine HL.done (by kernel_rfl) ?_
            refine TC.go hK_148 ?_
            refine TC.block ?_
            obtain ⟨z_165, hz_166, hr_167⟩ := bind_some' hp
            clear hp
            have hJ_177 : ∀ (x9684 : List (List Bool)) (x9687 : Bool) (F9685 : FP) (e_170 : Env) (h9686 : SlO 30 (kSl 4 kBool) x9684 v2826 F9685) (h_171 : e_170 8 = .pointer (some ⟨b22, 0, none⟩)) (h_172 : e_170 9 = v425) (h_173 : e_170 11 = v2826) (h_174 : e_170 12 = v3626) (h_175 : e_170 19 = .bool x9687) (h_176 : e_170 20 = .int .i64 x4853) (hq_178 : (x9684, x9687) = z_165), ∀ w, St E H [bx b22 25 [.int .i64 x12.params, .int .i64 x12.result, v18, v20], F426, F9685, F4875] w → K_118 e_170 w := by
              intro x9684 x9687 F9685 e_170 h9686 h_171 h_172 h_173 h_174 h_175 h_176 hq_178
              subst hq_178
              replace hp : live_Live.nx169 x4853 x4874 x9684 x9687 = some x_103 := hr_167
              unfold live_Live.nx169 at hp
              refine TC.go hK_119 ?_
              refine TC.region ?_
              refine TL.v (ltb rfl) (rv_mv (v := .int .i64 x4853) h_176) ?_
              refine TL.v (ltb rfl) (rv_sub (k := .i64) (m := x4853) (n := 1) rfl rfl) ?_
              refine TL.v (ltb rfl) (rv_as (v := .int .i64 (w64 (x4853 - 1))) rfl) ?_
              refine TL.nil ?_
              exact fun w hw => goOk hp ⟨x9684, x4874, x9687, (w64 (x4853 - 1)), F9685, F4875, rfl, h9686, h4876, h_171, h_172, h_173, h_174, h_175, rfl, rfl⟩ (hw.pick [0, 0, 0, 0])
            refine TC.pk' [1, 1, 1, 1, 0] (L' := [bx b22 25 [.int .i64 x12.params, .int .i64 x12.result, v18, v20], F426, F4847, F4875, F8481]) rfl ?_
            refine TC.loopW (r := z_165) (fun (s : (List (List Bool) × Bool × Int)) (e_155 : Env) (L_207 : List FP) => ∃ (x9679 : List (List Bool)) (x9682 : Bool) (x9683 : Int) (F9680 : FP), s = (x9679, x9682, x9683) ∧ SlO 30 (kSl 4 kBool) x9679 v2826 F9680 ∧ e_155 8 = .pointer (some ⟨b22, 0, none⟩) ∧ e_155 9 = v425 ∧ e_155 11 = v2826 ∧ e_155 12 = v3626 ∧ e_155 19 = .bool x9682 ∧ e_155 20 = .int .i64 x4853 ∧ e_155 140 = v8480 ∧ e_155 141 = .int .i64 (len x8479) ∧ e_155 142 = .int .i64 x9683 ∧ L_207 = [bx b22 25 [.int .i64 x12.params, .int .i64 x12.result, v18, v20], F426, F9680, F4875, F8481]) ?_ FUEL _ _ _ hz_166 ⟨x4846, x4877, 0, F4847, rfl, h4848, h_141, h_142, h_143, h_144, h_145, h_146, rfl, rfl, rfl, rfl⟩
            rintro s e_155 L_207 ⟨x9679, x9682, x9683, F9680, rfl, h9681, h_156, h_157, h_158, h_159, h_160, h_161, h_162, h_163, h_164, rfl⟩ x_168 hp hx_169
            replace hp : live_Live.bd169 x4853 x8479 x9679 x9682 x9683 = some x_168 := hp
            unfold live_Live.bd169 at hp
            refine TC.seq fun K_179 hK_180 => ?_
            refine TC.region ?_
            refine TL.v (ltb rfl) (rv_lss (k := .i64) (m := x9683) (n := (len x8479)) h_164 h_163) ?_
            refine TL.nil ?_
            refine TC.go hK_180 ?_
            refine TC.seq fun K_181 hK_182 => ?_
            by_cases hc_183 : x9683 < (len x8479)
            · rw [if_pos hc_183] at hp
              refine TC.condT (bT hc_183) ?_
              refine TC.skip ?_
              refine TC.go hK_182 ?_
              refine TC.seq fun K_184 hK_185 => ?_
              have hJ_196 : ∀ (x9688 : List (List Bool)) (x9691 : Bool) (F9689 : FP) (e_186 : Env) (h9690 : SlO 30 (kSl 4 kBool) x9688 v2826 F9689) (h_187 : e_186 8 = .pointer (some ⟨b22, 0, none⟩)) (h_188 : e_186 9 = v425) (h_189 : e_186 11 = v2826) (h_190 : e_186 12 = v3626) (h_191 : e_186 19 = .bool x9691) (h_192 : e_186 20 = .int .i64 x4853) (h_193 : e_186 140 = v8480) (h_194 : e_186 141 = .int .i64 (len x8479)) (h_195 : e_186 142 = .int .i64 x9683) (hp : live_Live.jn196 x9683 x9688 x9691 = some x_168), ∀ w, St E H [bx b22 25 [.int .i64 x12.params, .int .i64 x12.result, v18, v20], F426, F9689, F4875, F8481] w → K_184 e_186 w := by
                intro x9688 x9691 F9689 e_186 h9690 h_187 h_188 h_189 h_190 h_191 h_192 h_193 h_194 h_195 hp
                unfold live_Live.jn196 at hp
                refine TC.go hK_185 ?_
                refine TC.region ?_
                refine TL.v (ltb rfl) (rv_add (k := .i64) (m := x9683) (n := 1) h_195 rfl) ?_
                refine TL.v (ltb rfl) (rv_mv (v := .int .i64 (w64 (x9683 + 1))) rfl) ?_
                refine TL.nil ?_
                exact fun w hw => goOk hp ⟨x9688, x9691, (w64 (x9683 + 1)), F9689, rfl, h9690, h_187, h_188, h_189, h_190, h_191, h_192, h_193, h_194, rfl, rfl⟩ (hw.pick [0, 0, 0, 0, 0])
              refine TC.block ?_
              refine TC.seq fun K_197 hK_198 => ?_
              refine TC.region ?_
              refine TL.v (ltb rfl) (rv_mv (v := .int .i64 x9683) h_164) ?_
              obtain ⟨x9692, hx_199, hp⟩ := bind_some' hp
              refine TL.v3 (ltb rfl) (rv_ix 30 (.tmp 140) (.tmp 142) (v := v8480) (i := x9683) Try.underlying30 inf_4 rfl h_162 h_164 (h8482).ro hx_199) fun b9693 o9694 c9695 h9696 h9697 => ?_
              obtain rfl := h9696
              refine TL.v (ltb rfl) (rv_ld (v := .bool x9692) (o := o9694) (o' := o9694) (j := 0) sc_4 rfl (Src.at_ 4 rfl) h9697 rfl rfl) ?_
              refine TL.v (ltb rfl) (rv_as (v := .int .i64 x9683) rfl) ?_
              refine TL.v (ltb rfl) (rv_as (v := .bool x9692) rfl) ?_
              refine TL.nil ?_
              refine TC.go hK_198 ?_
              refine TC.seq fun K_200 hK_201 => ?_
              refine TC.region ?_
              refine TL.v (ltb rfl) (rv_mv (v := .bool x9692) rfl) ?_
              refine TL.v (ltb rfl) (rv_mv (v := v2826) h_158) ?_
              refine TL.v (ltb rfl) (rv_mv (v := .int .i64 x4853) h_161) ?_
              obtain ⟨x9698, hx_202, hp⟩ := bind_some' hp
              refine TL.v3 (ltb rfl) (rv_ix 93 (.tmp 148) (.tmp 149) (v := v2826) (i := x4853) Try.underlying93 inf_30 rfl rfl rfl (h9681).ro hx_202) fun b9699 o9700 c9701 h9702 h9703 => ?_
              obtain ⟨v9704, rfl, h9705⟩ := h9702
              refine TL.v (ltb rfl) (rv_ld (v := v9704) (o := o9700) (o' := o9700) (j := 0) sc_30 rfl (Src.at_ 2 rfl) h9703 rfl rfl) ?_
              refine TL.v (ltb rfl) (rv_mv (v := .int .i64 x9683) rfl) ?_
              obtain ⟨x9706, hx_203, hp⟩ := bind_some' hp
              refine TL.v3 (ltb rfl) (rv_ix 30 (.tmp 151) (.tmp 152) (v := v9704) (i := x9683) Try.underlying30 inf_4 rfl rfl rfl h9705 hx_203) fun b9707 o9708 c9709 h9710 h9711 => ?_
              obtain rfl := h9710
              refine TL.v (ltb rfl) (rv_ld (v := .bool x9706) (o := o9708) (o' := o9708) (j := 0) sc_4 rfl (Src.at_ 2 rfl) h9711 rfl rfl) ?_
              refine TL.v (ltb rfl) (rv_neqB (b := x9692) (c := x9706) Try.underlying4 rfl rfl) ?_
              refine TL.nil ?_
              refine TC.go hK_201 ?_
              by_cases hc_204 : (!(x9692 == x9706)) = true
              · rw [if_pos hc_204] at hp
                refine TC.condT (bbT hc_204) ?_
                refine TC.region ?_
                refine TL.v (ltb rfl) (rv_mv (v := v2826) h_158) ?_
                refine TL.v (ltb rfl) (rv_mv (v := .int .i64 x4853) h_161) ?_
                refine TL.pk' [2, 0, 0, 0, 0] (L' := [F9680, bx b22 25 [.int .i64 x12.params, .int .i64 x12.result, v18, v20], F426, F4875, F8481]) rfl ?_
                obtain ⟨x9712, hx_205, hp⟩ := bind_some' hp
                refine TL.open_ h9681 hx_205 fun b9713 c9714 F9715 F9716 h9717 h9718 => ?_
                obtain ⟨v9719, rfl, h9720⟩ := h9718
                have h9721 := (idx_some hx_205).1
                refine TL.v (ltb rfl) (rv_ixH Try.underlying93 inf_30 (v := v2826) (i := x4853) rfl rfl h9721 h9717) ?_
                refine TL.v (ltb rfl) (rv_ld (v := v9719) (o := (x4853).toNat * 1) (o' := (x4853).toNat * 1) (j := 0) sc_30 rfl (Src.at_ 0 rfl) (Hole.cells h9717) rfl rfl) ?_
                refine TL.v (ltb rfl) (rv_mv (v := .int .i64 x9683) rfl) ?_
                refine TL.v (ltb rfl) (rv_mv (v := .bool x9692) rfl) ?_
                obtain ⟨x9722, hx_206, hp⟩ := bind_some' hp
                refine TL.v2 (ltb rfl) (rv_ixO 30 (.tmp 159) (.tmp 160) (v := v9719) (i := x9683) Try.underlying30 inf_4 rfl rfl rfl h9720 (idx_some hx_206).1 (idx_some hx_206).2.1) fun b9723 o9724 h9725 => ?_
                refine TL.pk' [1, 0, 0, 0, 0, 0] (L' := [F9716, F9715, bx b22 25 [.int .i64 x12.params, .int .i64 x12.result, v18, v20], F426, F4875, F8481]) rfl ?_
                refine TL.stE0 (ds := [.bool x9692]) (u := .bool x9692) (a := x9692) h9720 h9725 ms_4 rfl rfl rfl ⟨rfl, rfl⟩ fun F9726 h9727 => ?_
                refine TL.v (ltb rfl) (rv_as (v := .bool true) rfl) ?_
                refine TL.nil ?_
                refine W.pk' [1, 0, 0, 0, 0, 0] (L' := [F9715, F9726, bx b22 25 [.int .i64 x12.params, .int .i64 x12.result, v18, v20], F426, F4875, F8481]) rfl ?_
                refine W.shut (a := (x9712.set (x9683).toNat x9692)) h9717 ⟨_, rfl, h9727⟩ fun F9728 h9729 => ?_
                refine fun w hw => hJ_196 (x9679.set (x4853).toNat (x9712.set (x9683).toNat x9692)) true F9728 _ h9729 ?_ ?_ ?_ ?_ ?_ ?_ ?_ ?_ ?_ hp w (hw.pick [1, 1, 0, 0, 0])
                · exact h_156
                · exact h_157
                · exact h_158
                · exact h_159
                · exact rfl
                · exact h_161
                · exact h_162
                · exact h_163
                · exact h_164
              · rw [if_neg hc_204] at hp
                refine TC.condF (bbF hc_204) ?_
                refine TC.skip ?_
                refine fun w hw => hJ_196 x9679 x9682 F9680 _ h9681 ?_ ?_ ?_ ?_ ?_ ?_ ?_ ?_ ?_ hp w (hw.pick [0, 0, 0, 0, 0])
                · exact h_156
                · exact h_157
                · exact h_158
                · exact h_159
                · exact h_160
                · exact h_161
                · exact h_162
                · exact h_163
                · exact h_164
            · rw [if_neg hc_183] at hp
              refine TC.condF (bF hc_183) ?_
              refine TC.exit ?_
              refine fun w hw => hJ_177 x9679 x9682 F9680 _ h9681 ?_ ?_ ?_ ?_ ?_ ?_ (ex_ret hp hx_169) w (hw.pick [0, 0, 0, 0])
              · exact h_156
              · exact h_157
              · exact h_158
              · exact h_159
              · exact h_160
              · exact h_161
          refine TC.pk' [0, 0, 0, 0] (L' := [bx b22 25 [.int .i64 x12.params, .int .i64 x12.result, v18, v20], F426, F4847, F4850]) rfl ?_
          refine TC.loopW (r := z_135) (fun (s : (List (List Bool) × Bool × Int)) (e_125 : Env) (L_305 : List FP) => ∃ (x4869 : List (List Bool)) (x4872 : Bool) (x4873 : Int) (F4870 : FP), s = (x4869, x4872, x4873) ∧ SlO 30 (kSl 4 kBool) x4869 v3626 F4870 ∧ e_125 8 = .pointer (some ⟨b22, 0, none⟩) ∧ e_125 9 = v425 ∧ e_125 11 = v2826 ∧ e_125 12 = v3626 ∧ e_125 19 = .bool x4872 ∧ e_125 20 = .int .i64 x4853 ∧ e_125 96 = v4867 ∧ e_125 97 = .int .i64 (len x4861) ∧ e_125 98 = .int .i64 x4873 ∧ L_305 = [bx b22 25 [.int .i64 x12.params, .int .i64 x12.result, v18, v20], F426, F4847, F4870]) ?_ FUEL _ _ _ hz_136 ⟨x4849, x4852, 0, F4850, rfl, h4851, h_94, h_95, h_96, h_97, h_98, h_99, rfl, rfl, rfl, rfl⟩
          rintro s e_125 L_305 ⟨x4869, x4872, x4873, F4870, rfl, h4871, h_126, h_127, h_128, h_129, h_130, h_131, h_132, h_133, h_134, rfl⟩ x_138 hp hx_139
          replace hp : live_Live.bd139 x4846 x4853 x4861 x4869 x4872 x4873 = some x_138 := hp
          unfold live_Live.bd139 at hp
          refine TC.seq fun K_210 hK_211 => ?_
          refine TC.region ?_
          refine TL.v (ltb rfl) (rv_lss (k := .i64) (m := x4873) (n := (len x4861)) h_134 h_133) ?_
          refine TL.nil ?_
          refine TC.go hK_211 ?_
          refine TC.seq fun K_212 hK_213 => ?_
          by_cases hc_214 : x4873 < (len x4861)
          · rw [if_pos hc_214] at hp
            refine TC.condT (bT hc_214) ?_
            refine TC.skip ?_
            refine TC.go hK_213 ?_
            refine TC.seq fun K_215 hK_216 => ?_
            refine TC.block ?_
            refine TC.seq fun K_217 hK_218 => ?_
            refine TC.region ?_
            obtain ⟨x9730, hx_219, hp⟩ := bind_some' hp
            refine TL.v3 (ltb rfl) (rv_ix 22 (.tmp 96) (.tmp 98) (v := v4867) (i := x4873) Try.underlying22 inf_3 rfl h_132 h_134 h4868 hx_219) fun b9731 o9732 c9733 h9734 h9735 => ?_
            obtain rfl := h9734
            refine TL.v (ltb rfl) (rv_ld (v := .int .i64 x9730) (o := o9732) (o' := o9732) (j := 0) sc_3 rfl (Src.at_ 1 rfl) h9735 rfl rfl) ?_
            refine TL.v (ltb rfl) (rv_as (v := .int .i64 x9730) rfl) ?_
            refine TL.nil ?_
            refine TC.go hK_218 ?_
            refine TC.seq fun K_220 hK_221 => ?_
            refine TC.region ?_
            refine TL.v (ltb rfl) (rv_mv (v := v2826) h_128) ?_
            refine TL.v (ltb rfl) (rv_mv (v := .int .i64 x9730) rfl) ?_
            obtain ⟨x9736, hx_222, hp⟩ := bind_some' hp
            refine TL.v3 (ltb rfl) (rv_ix 93 (.tmp 102) (.tmp 103) (v := v2826) (i := x9730) Try.underlying93 inf_30 rfl rfl rfl (h4848).ro hx_222) fun b9737 o9738 c9739 h9740 h9741 => ?_
            obtain ⟨v9742, rfl, h9743⟩ := h9740
            refine TL.v (ltb rfl) (rv_ld (v := v9742) (o := o9738) (o' := o9738) (j := 0) sc_30 rfl (Src.at_ 2 rfl) h9741 rfl rfl) ?_
            refine TL.v (ltb rfl) (rv_lenI (v := v9742) Try.underlying30 rfl h9743) ?_
            refine TL.v (ltb rfl) (rv_mv (v := .int .i64 0) rfl) ?_
            refine TL.nil ?_
            refine TC.go hK_221 ?_
            refine TC.block ?_
            obtain ⟨z_236, hz_237, hr_238⟩ := bind_some' hp
            clear hp
            have hJ_251 : ∀ (x9749 : List (List Bool)) (x9752 : Bool) (F9750 : FP) (e_241 : Env) (h9751 : SlO 30 (kSl 4 kBool) x9749 v3626 F9750) (h_242 : e_241 8 = .pointer (some ⟨b22, 0, none⟩)) (h_243 : e_241 9 = v425) (h_244 : e_241 11 = v2826) (h_245 : e_241 12 = v3626) (h_246 : e_241 19 = .bool x9752) (h_247 : e_241 20 = .int .i64 x4853) (h_248 : e_241 96 = v4867) (h_249 : e_241 97 = .int .i64 (len x4861)) (h_250 : e_241 98 = .int .i64 x4873) (hq_252 : (x9749, x9752) = z_236), ∀ w, St E H [bx b22 25 [.int .i64 x12.params, .int .i64 x12.result, v18, v20], F426, F4847, F9750] w → K_215 e_241 w := by
              intro x9749 x9752 F9750 e_241 h9751 h_242 h_243 h_244 h_245 h_246 h_247 h_248 h_249 h_250 hq_252
              subst hq_252
              replace hp : live_Live.nx240 x4873 x9749 x9752 = some x_138 := hr_238
              unfold live_Live.nx240 at hp
              refine TC.go hK_216 ?_
              refine TC.region ?_
              refine TL.v (ltb rfl) (rv_add (k := .i64) (m := x4873) (n := 1) h_250 rfl) ?_
              refine TL.v (ltb rfl) (rv_mv (v := .int .i64 (w64 (x4873 + 1))) rfl) ?_
              refine TL.nil ?_
              exact fun w hw => goOk hp ⟨x9749, x9752, (w64 (x4873 + 1)), F9750, rfl, h9751, h_242, h_243, h_244, h_245, h_246, h_247, h_248, h_249, rfl, rfl⟩ (hw.pick [0, 0, 0, 0])
            refine TC.pk' [0, 0, 0, 0] (L' := [bx b22 25 [.int .i64 x12.params, .int .i64 x12.result, v18, v20], F426, F4847, F4870]) rfl ?_
            refine TC.loopW (r := z_236) (fun (s : (List (List Bool) × Bool × Int)) (e_223 : Env) (L_304 : List FP) => ∃ (x9744 : List (List Bool)) (x9747 : Bool) (x9748 : Int) (F9745 : FP), s = (x9744, x9747, x9748) ∧ SlO 30 (kSl 4 kBool) x9744 v3626 F9745 ∧ e_223 8 = .pointer (some ⟨b22, 0, none⟩) ∧ e_223 9 = v425 ∧ e_223 11 = v2826 ∧ e_223 12 = v3626 ∧ e_223 19 = .bool x9747 ∧ e_223 20 = .int .i64 x4853 ∧ e_223 96 = v4867 ∧ e_223 97 = .int .i64 (len x4861) ∧ e_223 98 = .int .i64 x4873 ∧ e_223 105 = v9742 ∧ e_223 106 = .int .i64 (len x9736) ∧ e_223 107 = .int .i64 x9748 ∧ L_304 = [bx b22 25 [.int .i64 x12.params, .int .i64 x12.result, v18, v20], F426, F4847, F9745]) ?_ FUEL _ _ _ hz_237 ⟨x4869, x4872, 0, F4870, rfl, h4871, h_126, h_127, h_128, h_129, h_130, h_131, h_132, h_133, h_134, rfl, rfl, rfl, rfl⟩
            rintro s e_223 L_304 ⟨x9744, x9747, x9748, F9745, rfl, h9746, h_224, h_225, h_226, h_227, h_228, h_229, h_230, h_231, h_232, h_233, h_234, h_235, rfl⟩ x_239 hp hx_240
            replace hp : live_Live.bd240 x4853 x9736 x9744 x9747 x9748 = some x_239 := hp
            unfold live_Live.bd240 at hp
            refine TC.seq fun K_253 hK_254 => ?_
            refine TC.region ?_
            refine TL.v (ltb rfl) (rv_lss (k := .i64) (m := x9748) (n := (len x9736)) h_235 h_234) ?_
            refine TL.nil ?_
            refine TC.go hK_254 ?_
            refine TC.seq fun K_255 hK_256 => ?_
            by_cases hc_257 : x9748 < (len x9736)
            · rw [if_pos hc_257] at hp
              refine TC.condT (bT hc_257) ?_
              refine TC.skip ?_
              refine TC.go hK_256 ?_
              refine TC.seq fun K_258 hK_259 => ?_
              have hJ_273 : ∀ (x9753 : List (List Bool)) (x9756 : Bool) (F9754 : FP) (e_260 : Env) (h9755 : SlO 30 (kSl 4 kBool) x9753 v3626 F9754) (h_261 : e_260 8 = .pointer (some ⟨b22, 0, none⟩)) (h_262 : e_260 9 = v425) (h_263 : e_260 11 = v2826) (h_264 : e_260 12 = v3626) (h_265 : e_260 19 = .bool x9756) (h_266 : e_260 20 = .int .i64 x4853) (h_267 : e_260 96 = v4867) (h_268 : e_260 97 = .int .i64 (len x4861)) (h_269 : e_260 98 = .int .i64 x4873) (h_270 : e_260 105 = v9742) (h_271 : e_260 106 = .int .i64 (len x9736)) (h_272 : e_260 107 = .int .i64 x9748) (hp : live_Live.jn273 x9748 x9753 x9756 = some x_239), ∀ w, St E H [bx b22 25 [.int .i64 x12.params, .int .i64 x12.result, v18, v20], F426, F4847, F9754] w → K_258 e_260 w := by
                intro x9753 x9756 F9754 e_260 h9755 h_261 h_262 h_263 h_264 h_265 h_266 h_267 h_268 h_269 h_270 h_271 h_272 hp
                unfold live_Live.jn273 at hp
                refine TC.go hK_259 ?_
                refine TC.region ?_
                refine TL.v (ltb rfl) (rv_add (k := .i64) (m := x9748) (n := 1) h_272 rfl) ?_
                refine TL.v (ltb rfl) (rv_mv (v := .int .i64 (w64 (x9748 + 1))) rfl) ?_
                refine TL.nil ?_
                exact fun w hw => goOk hp ⟨x9753, x9756, (w64 (x9748 + 1)), F9754, rfl, h9755, h_261, h_262, h_263, h_264, h_265, h_266, h_267, h_268, h_269, h_270, h_271, rfl, rfl⟩ (hw.pick [0, 0, 0, 0])
              refine TC.block ?_
              refine TC.seq fun K_274 hK_275 => ?_
              refine TC.region ?_
              refine TL.v (ltb rfl) (rv_mv (v := .int .i64 x9748) h_235) ?_
              obtain ⟨x9757, hx_276, hp⟩ := bind_some' hp
              refine TL.v3 (ltb rfl) (rv_ix 30 (.tmp 105) (.tmp 107) (v := v9742) (i := x9748) Try.underlying30 inf_4 rfl h_233 h_235 h9743 hx_276) fun b9758 o9759 c9760 h9761 h9762 => ?_
              obtain rfl := h9761
              refine TL.v (ltb rfl) (rv_ld (v := .bool x9757) (o := o9759) (o' := o9759) (j := 0) sc_4 rfl (Src.at_ 2 rfl) h9762 rfl rfl) ?_
              refine TL.v (ltb rfl) (rv_as (v := .int .i64 x9748) rfl) ?_
              refine TL.v (ltb rfl) (rv_as (v := .bool x9757) rfl) ?_
              refine TL.nil ?_
              refine TC.go hK_275 ?_
              refine TC.seq fun K_277 hK_278 => ?_
              refine TC.region ?_
              refine TL.v (ltb rfl) (rv_mv (v := .bool x9757) rfl) ?_
              refine TL.v (ltb rfl) (rv_mv (v := .bool x9757) rfl) ?_
              obtain ⟨t9763, ht_301, hp⟩ := bind_some' hp
              refine TL.cut 9 fun K_279 hK_280 => ?_
              have hJ_281 : ∀ e_283 : Env, e_283 8 = .pointer (some ⟨b22, 0, none⟩) → e_283 9 = v425 → e_283 11 = v2826 → e_283 12 = v3626 → e_283 19 = .bool x9747 → e_283 20 = .int .i64 x4853 → e_283 23 = .int .i64 x9748 → e_283 96 = v4867 → e_283 97 = .int .i64 (len x4861) → e_283 98 = .int .i64 x4873 → e_283 105 = v9742 → e_283 106 = .int .i64 (len x9736) → e_283 107 = .int .i64 x9748 → e_283 122 = .bool t9763 → ∀ w, St E H [bx b22 25 [.int .i64 x12.params, .int .i64 x12.result, v18, v20], F426, F4847, F9745] w → K_279 e_283 w := by
                intro e_283 h_284 h_285 h_286 h_287 h_288 h_289 h_290 h_291 h_292 h_293 h_294 h_295 h_296 h_297
                refine TL.go hK_280 ?_
                refine TL.nil ?_
                refine TC.go hK_278 ?_
                by_cases hc_298 : t9763 = true
                · rw [if_pos hc_298] at hp
                  refine TC.condT (h_297.trans (bbT hc_298)) ?_
                  refine TC.region ?_
                  refine TL.v (ltb rfl) (rv_mv (v := v3626) h_287) ?_
                  refine TL.v (ltb rfl) (rv_mv (v := .int .i64 x4853) h_289) ?_
                  refine TL.pk' [3, 0, 0, 0] (L' := [F9745, bx b22 25 [.int .i64 x12.params, .int .i64 x12.result, v18, v20], F426, F4847]) rfl ?_
                  obtain ⟨x9764, hx_299, hp⟩ := bind_some' hp
                  refine TL.open_ h9746 hx_299 fun b9765 c9766 F9767 F9768 h9769 h9770 => ?_
                  obtain ⟨v9771, rfl, h9772⟩ := h9770
                  have h9773 := (idx_some hx_299).1
                  refine TL.v (ltb rfl) (rv_ixH Try.underlying93 inf_30 (v := v3626) (i := x4853) rfl rfl h9773 h9769) ?_
                  refine TL.v (ltb rfl) (rv_ld (v := v9771) (o := (x4853).toNat * 1) (o' := (x4853).toNat * 1) (j := 0) sc_30 rfl (Src.at_ 0 rfl) (Hole.cells h9769) rfl rfl) ?_
                  refine TL.v (ltb rfl) (rv_mv (v := .int .i64 x9748) h_290) ?_
                  obtain ⟨x9774, hx_300, hp⟩ := bind_some' hp
                  refine TL.v2 (ltb rfl) (rv_ixO 30 (.tmp 126) (.tmp 127) (v := v9771) (i := x9748) Try.underlying30 inf_4 rfl rfl rfl h9772 (idx_some hx_300).1 (idx_some hx_300).2.1) fun b9775 o9776 h9777 => ?_
                  refine TL.pk' [1, 0, 0, 0, 0] (L' := [F9768, F9767, bx b22 25 [.int .i64 x12.params, .int .i64 x12.result, v18, v20], F426, F4847]) rfl ?_
                  refine TL.stE0 (ds := [.bool true]) (u := .bool true) (a := true) h9772 h9777 ms_4 rfl rfl rfl ⟨rfl, rfl⟩ fun F9778 h9779 => ?_
                  refine TL.v (ltb rfl) (rv_as (v := .bool true) rfl) ?_
                  refine TL.nil ?_
                  refine W.pk' [1, 0, 0, 0, 0] (L' := [F9767, F9778, bx b22 25 [.int .i64 x12.params, .int .i64 x12.result, v18, v20], F426, F4847]) rfl ?_
                  refine W.shut (a := (x9764.set (x9748).toNat true)) h9769 ⟨_, rfl, h9779⟩ fun F9780 h9781 => ?_
                  refine fun w hw => hJ_273 (x9744.set (x4853).toNat (x9764.set (x9748).toNat true)) true F9780 _ h9781 ?_ ?_ ?_ ?_ ?_ ?_ ?_ ?_ ?_ ?_ ?_ ?_ hp w (hw.pick [1, 1, 1, 0])
                  · exact h_284
                  · exact h_285
                  · exact h_286
                  · exact h_287
                  · exact rfl
                  · exact h_289
                  · exact h_291
                  · exact h_292
                  · exact h_293
                  · exact h_294
                  · exact h_295
                  · exact h_296
                · rw [if_neg hc_298] at hp
                  refine TC.condF (h_297.trans (bbF hc_298)) ?_
                  refine TC.skip ?_
                  refine fun w hw => hJ_273 x9744 x9747 F9745 _ h9746 ?_ ?_ ?_ ?_ ?_ ?_ ?_ ?_ ?_ ?_ ?_ ?_ hp w (hw.pick [0, 0, 0, 0])
                  · exact h_284
                  · exact h_285
                  · exact h_286
                  · exact h_287
                  · exact h_288
                  · exact h_289
                  · exact h_291
                  · exact h_292
                  · exact h_293
                  · exact h_294
                  · exact h_295
                  · exact h_296
              clear hp
              have hp := ht_301
              clear ht_301
              by_cases hc_282 : x9757 = true
              · rw [if_pos hc_282] at hp
                refine TL.gyes true (yieldE_of rfl (bbT hc_282)) rfl ?_
                refine TL.v (ltb rfl) (rv_mv (v := v3626) h_227) ?_
                refine TL.gyes true (yieldE_of rfl (bbT hc_282)) rfl ?_
                refine TL.v (ltb rfl) (rv_mv (v := .int .i64 x4853) h_229) ?_
                refine TL.gyes true (yieldE_of rfl (bbT hc_282)) rfl ?_
                obtain ⟨x9782, hx_302, hp⟩ := bind_some' hp
                refine TL.v3 (ltb rfl) (rv_ix 93 (.tmp 114) (.tmp 115) (v := v3626) (i := x4853) Try.underlying93 inf_30 rfl rfl rfl (h9746).ro hx_302) fun b9783 o9784 c9785 h9786 h9787 => ?_
                obtain ⟨v9788, rfl, h9789⟩ := h9786
                refine TL.gyes true (yieldE_of rfl (bbT hc_282)) rfl ?_
                refine TL.v (ltb rfl) (rv_ld (v := v9788) (o := o9784) (o' := o9784) (j := 0) sc_30 rfl (Src.at_ 3 rfl) h9787 rfl rfl) ?_
                refine TL.gyes true (yieldE_of rfl (bbT hc_282)) rfl ?_
                refine TL.v (ltb rfl) (rv_mv (v := .int .i64 x9748) rfl) ?_
                refine TL.gyes true (yieldE_of rfl (bbT hc_282)) rfl ?_
                obtain ⟨x9790, hx_303, hp⟩ := bind_some' hp
                refine TL.v3 (ltb rfl) (rv_ix 30 (.tmp 117) (.tmp 118) (v := v9788) (i := x9748) Try.underlying30 inf_4 rfl rfl rfl h9789 hx_303) fun b9791 o9792 c9793 h9794 h9795 => ?_
                obtain rfl := h9794
                refine TL.gyes true (yieldE_of rfl (bbT hc_282)) rfl ?_
                refine TL.v (ltb rfl) (rv_ld (v := .bool x9790) (o := o9792) (o' := o9792) (j := 0) sc_4 rfl (Src.at_ 3 rfl) h9795 rfl rfl) ?_
                refine TL.gyes true (yieldE_of rfl (bbT hc_282)) rfl ?_
                refine TL.v (ltb rfl) (rv_not (b := x9790) rfl) ?_
                refine TL.v (ltb rfl) (rv_pickT true (bbT hc_282) rfl (v := .bool (!x9790)) rfl) ?_
                obtain rfl := Option.some.inj hp
                refine TL.nil (hJ_281 _ ?_ ?_ ?_ ?_ ?_ ?_ ?_ ?_ ?_ ?_ ?_ ?_ ?_ ?_)
                · exact h_224
                · exact h_225
                · exact h_226
                · exact h_227
                · exact h_228
                · exact h_229
                · exact rfl
                · exact h_230
                · exact h_231
                · exact h_232
                · exact h_233
                · exact h_234
                · exact h_235
                · exact rfl
              · rw [if_neg hc_282] at hp
                refine TL.gno false rfl (fun d hd => by cases hd; exact ltb rfl) (yieldE_of rfl (bbF hc_282)) rfl ?_
                refine TL.gno false rfl (fun d hd => by cases hd; exact ltb rfl) (yieldE_of rfl (bbF hc_282)) rfl ?_
                refine TL.gno false rfl (fun d hd => by cases hd; exact ltb rfl) (yieldE_of rfl (bbF hc_282)) rfl ?_
                refine TL.gno false rfl (fun d hd => by cases hd; exact ltb rfl) (yieldE_of rfl (bbF hc_282)) rfl ?_
                refine TL.gno false rfl (fun d hd => by cases hd; exact ltb rfl) (yieldE_of rfl (bbF hc_282)) rfl ?_
                refine TL.gno false rfl (fun d hd => by cases hd; exact ltb rfl) (yieldE_of rfl (bbF hc_282)) rfl ?_
                refine TL.gno false rfl (fun d hd => by cases hd; exact ltb rfl) (yieldE_of rfl (bbF hc_282)) rfl ?_
                refine TL.gno false rfl (fun d hd => by cases hd; exact ltb rfl) (yieldE_of rfl (bbF hc_282)) rfl ?_
                refine TL.v (ltb rfl) (rv_pickF false (bbF hc_282) rfl (v := .bool false) rfl) ?_
                obtain rfl := Option.some.inj hp
                refine TL.nil (hJ_281 _ ?_ ?_ ?_ ?_ ?_ ?_ ?_ ?_ ?_ ?_ ?_ ?_ ?_ ?_)
                · exact h_224
                · exact h_225
                · exact h_226
                · exact h_227
                · exact h_228
                · exact h_229
                · exact rfl
                · exact h_230
                · exact h_231
                · exact h_232
                · exact h_233
                · exact h_234
                · exact h_235
                · exact rfl
            · rw [if_neg hc_257] at hp
              refine TC.condF (bF hc_257) ?_
              refine TC.exit ?_
              refine fun w hw => hJ_251 x9744 x9747 F9745 _ h9746 ?_ ?_ ?_ ?_ ?_ ?_ ?_ ?_ ?_ (ex_ret hp hx_240) w (hw.pick [0, 0, 0, 0])
              · exact h_224
              · exact h_225
              · exact h_226
              · exact h_227
              · exact h_228
              · exact h_229
              · exact h_230
              · exact h_231
              · exact h_232
          · rw [if_neg hc_214] at hp
            refine TC.condF (bF hc_214) ?_
            refine TC.exit ?_
            refine fun w hw => hJ_208 x4869 x4872 F4870 _ h4871 ?_ ?_ ?_ ?_ ?_ ?_ (ex_ret hp hx_139) w (hw.pick [0, 0, 0, 0])
            · exact h_126
            · exact h_127
            · exact h_128
            · exact h_129
            · exact h_130
            · exact h_131
        · rw [if_neg hc_117] at hp
          refine TC.condF (bF hc_117) ?_
          refine TC.exit ?_
          refine fun w hw => hJ_111 x4846 x4849 x4852 F4847 F4850 _ h4848 h4851 ?_ ?_ ?_ ?_ ?_ (ex_ret hp hx_104) w (hw.pick [0, 0, 0, 0])
          · exact h_94
          · exact h_95
          · exact h_96
          · exact h_97
          · exact h_98
      · rw [if_neg hc_86] at hp
        refine TC.condF (bbF hc_86) ?_
        refine TC.exit ?_
        refine fun w hw => hJ_80 x4832 x4835 F4833 F4836 _ h4834 h4837 ?_ ?_ (ex_ret hp hx_74) w (hw.pick [2, 2])
        · exact h_67
        · exact h_68
    refine TC.pk' [4, 3, 2, 1, 0] (L' := [bx b22 25 [.int .i64 x12.params, .int .i64 x12.result, v18, v20], F426, F1226, F2827, F3627]) rfl ?_
    refine TC.loopW (r := z_50) (fun (s : (List (List Bool) × Int)) (e_41 : Env) (L_415 : List FP) => ∃ (x4825 : List (List Bool)) (x4828 : Int) (F4826 : FP), s = (x4825, x4828) ∧ SlO 30 (kSl 4 kBool) x4825 v3626 F4826 ∧ e_41 8 = .pointer (some ⟨b22, 0, none⟩) ∧ e_41 9 = v425 ∧ e_41 10 = v1225 ∧ e_41 11 = v2826 ∧ e_41 12 = v3626 ∧ e_41 47 = v20 ∧ e_41 48 = .int .i64 (len x12.blocks) ∧ e_41 49 = .int .i64 x4828 ∧ L_415 = [bx b22 25 [.int .i64 x12.params, .int .i64 x12.result, v18, v20], F426, F1226, F2827, F4826]) ?_ FUEL _ _ _ hz_51 ⟨x3625, 0, F3627, rfl, h3628, rfl, rfl, rfl, rfl, rfl, rfl, rfl, rfl, rfl⟩
    rintro s e_41 L_415 ⟨x4825, x4828, F4826, rfl, h4827, h_42, h_43, h_44, h_45, h_46, h_47, h_48, h_49, rfl⟩ x_53 hp hx_54
    replace hp : live_Live.bd54 x12 x1224 x4825 x4828 = some x_53 := hp
    unfold live_Live.bd54 at hp
    refine TC.seq fun K_310 hK_311 => ?_
    refine TC.region ?_
    refine TL.v (ltb rfl) (rv_lss (k := .i64) (m := x4828) (n := (len x12.blocks)) h_49 h_48) ?_
    refine TL.nil ?_
    refine TC.go hK_311 ?_
    refine TC.seq fun K_312 hK_313 => ?_
    by_cases hc_314 : x4828 < (len x12.blocks)
    · rw [if_pos hc_314] at hp
      refine TC.condT (bT hc_314) ?_
      refine TC.skip ?_
      refine TC.go hK_313 ?_
      refine TC.seq fun K_315 hK_316 => ?_
      refine TC.block ?_
      refine TC.seq fun K_317 hK_318 => ?_
      refine TC.region ?_
      refine TL.v (ltb rfl) (rv_mv (v := .int .i64 x4828) h_49) ?_
      obtain ⟨x9796, hx_319, hp⟩ := bind_some' hp
      refine TL.v3 (ltb rfl) (rv_ix 23 (.tmp 47) (.tmp 49) (v := v20) (i := x4828) Try.underlying23 inf_85 rfl h_47 h_49 h21 hx_319) fun b9797 o9798 c9799 h9800 h9801 => ?_
      obtain ⟨v9802, v9804, v9806, rfl, h9803, h9805, h9807⟩ := h9800
      refine TL.v (ltb rfl) (rv_lda (o := o9798) (o' := o9798) (j := 0) (ds := [v9802, v9804, .int .i64 x9796.term.kind, .int .i64 x9796.term.arg, v9806]) ag_85 rfl Src.H h9801 rfl rfl rfl) ?_
      refine TL.alloc (cs := [.slice none 0 0, .slice none 0 0, .int .i64 0, .int .i64 0, .slice none 0 0]) inf_85 (ltb rfl) rfl fun b9808 => ?_
      refine TL.v (ltb rfl) (rv_as (v := .int .i64 x4828) rfl) ?_
      refine TL.stB (ds := [v9802, v9804, .int .i64 x9796.term.kind, .int .i64 x9796.term.arg, v9806]) (o := 0) (cs := [.slice none 0 0, .slice none 0 0, .int .i64 0, .int .i64 0, .slice none 0 0]) (b := b9808) (u := .agg #[v9802, v9804, .int .i64 x9796.term.kind, .int .i64 x9796.term.arg, v9806]) 0 rfl ms_85 rfl rfl rfl (oc (h9803).one (oc (h9805).one (oc rfl (oc rfl (oc (h9807).one oc0))))) (leb rfl) ?_
      refine TL.norm (L' := [bx b9808 85 [v9802, v9804, .int .i64 x9796.term.kind, .int .i64 x9796.term.arg, v9806], bx b22 25 [.int .i64 x12.params, .int .i64 x12.result, v18, v20], F426, F1226, F2827, F4826]) rfl ?_
      refine TL.nil ?_
      refine TC.go hK_318 ?_
      refine TC.seq fun K_320 hK_321 => ?_
      refine TC.region ?_
      refine TL.v (ltb rfl) (rv_fa (b := b9808) (o := 0) fa_85_0 rfl) ?_
      refine TL.v (ltb rfl) (rv_ld (v := v9802) (o := 0) (o' := 0) (j := 0) sc_82 rfl (Src.at_ 0 rfl) (bx_cells b9808 85 _) rfl rfl) ?_
      refine TL.v (ltb rfl) (rv_lenI (v := v9802) Try.underlying82 rfl h9803) ?_
      refine TL.v (ltb rfl) (rv_mv (v := .int .i64 0) rfl) ?_
      refine TL.nil ?_
      refine TC.go hK_321 ?_
      refine TC.block ?_
      obtain ⟨z_335, hz_336, hr_337⟩ := bind_some' hp
      clear hp
      have hJ_349 : ∀ (x9813 : List (List Bool)) (F9814 : FP) (e_340 : Env) (h9815 : SlO 30 (kSl 4 kBool) x9813 v3626 F9814) (h_341 : e_340 8 = .pointer (some ⟨b22, 0, none⟩)) (h_342 : e_340 9 = v425) (h_343 : e_340 10 = v1225) (h_344 : e_340 11 = v2826) (h_345 : e_340 12 = v3626) (h_346 : e_340 47 = v20) (h_347 : e_340 48 = .int .i64 (len x12.blocks)) (h_348 : e_340 49 = .int .i64 x4828) (hq_350 : x9813 = z_335), ∀ w, St E H [bx b22 25 [.int .i64 x12.params, .int .i64 x12.result, v18, v20], F426, F1226, F2827, F9814] w → K_315 e_340 w := by
        intro x9813 F9814 e_340 h9815 h_341 h_342 h_343 h_344 h_345 h_346 h_347 h_348 hq_350
        subst hq_350
        replace hp : live_Live.nx339 x4828 x9813 = some x_53 := hr_337
        unfold live_Live.nx339 at hp
        refine TC.go hK_316 ?_
        refine TC.region ?_
        refine TL.v (ltb rfl) (rv_add (k := .i64) (m := x4828) (n := 1) h_348 rfl) ?_
        refine TL.v (ltb rfl) (rv_mv (v := .int .i64 (w64 (x4828 + 1))) rfl) ?_
        refine TL.nil ?_
        exact fun w hw => goOk hp ⟨x9813, (w64 (x4828 + 1)), F9814, rfl, h9815, h_341, h_342, h_343, h_344, h_345, h_346, h_347, rfl, rfl⟩ (hw.pick [0, 0, 0, 0, 0])
      refine TC.pk' [1, 1, 1, 1, 1] (L' := [bx b22 25 [.int .i64 x12.params, .int .i64 x12.result, v18, v20], F426, F1226, F2827, F4826]) rfl ?_
      refine TC.loopW (r := z_335) (fun (s : (List (List Bool) × Int)) (e_322 : Env) (L_414 : List FP) => ∃ (x9809 : List (List Bool)) (x9812 : Int) (F9810 : FP), s = (x9809, x9812) ∧ SlO 30 (kSl 4 kBool) x9809 v3626 F9810 ∧ e_322 8 = .pointer (some ⟨b22, 0, none⟩) ∧ e_322 9 = v425 ∧ e_322 10 = v1225 ∧ e_322 11 = v2826 ∧ e_322 12 = v3626 ∧ e_322 13 = .int .i64 x4828 ∧ e_322 47 = v20 ∧ e_322 48 = .int .i64 (len x12.blocks) ∧ e_322 49 = .int .i64 x4828 ∧ e_322 55 = v9802 ∧ e_322 56 = .int .i64 (len x9796.phis) ∧ e_322 57 = .int .i64 x9812 ∧ L_414 = [bx b22 25 [.int .i64 x12.params, .int .i64 x12.result, v18, v20], F426, F1226, F2827, F9810]) ?_ FUEL _ _ _ hz_336 ⟨x4825, 0, F4826, rfl, h4827, h_42, h_43, h_44, h_45, h_46, rfl, h_47, h_48, h_49, rfl, rfl, rfl, rfl⟩
      rintro s e_322 L_414 ⟨x9809, x9812, F9810, rfl, h9811, h_323, h_324, h_325, h_326, h_327, h_328, h_329, h_330, h_331, h_332, h_333, h_334, rfl⟩ x_338 hp hx_339
      replace hp : live_Live.bd339 x1224 x4828 x9796 x9809 x9812 = some x_338 := hp
      unfold live_Live.bd339 at hp
      refine TC.seq fun K_351 hK_352 => ?_
      refine TC.region ?_
      refine TL.v (ltb rfl) (rv_lss (k := .i64) (m := x9812) (n := (len x9796.phis)) h_334 h_333) ?_
      refine TL.nil ?_
      refine TC.go hK_352 ?_
      refine TC.seq fun K_353 hK_354 => ?_
      by_cases hc_355 : x9812 < (len x9796.phis)
      · rw [if_pos hc_355] at hp
        refine TC.condT (bT hc_355) ?_
        refine TC.skip ?_
        refine TC.go hK_354 ?_
        refine TC.seq fun K_356 hK_357 => ?_
        refine TC.block ?_
        refine TC.seq fun K_358 hK_359 => ?_
        refine TC.region ?_
        obtain ⟨x9816, hx_360, hp⟩ := bind_some' hp
        refine TL.v3 (ltb rfl) (rv_ix 82 (.tmp 55) (.tmp 57) (v := v9802) (i := x9812) Try.underlying82 inf_131 rfl h_332 h_334 h9803 hx_360) fun b9817 o9818 c9819 h9820 h9821 => ?_
        obtain ⟨v9822, rfl, h9823⟩ := h9820
        refine TL.v (ltb rfl) (rv_lda (o := o9818) (o' := o9818) (j := 0) (ds := [.int .i64 x9816.dst, v9822]) ag_131 rfl Src.H h9821 rfl rfl rfl) ?_
        refine TL.alloc (cs := [.int .i64 0, .slice none 0 0]) inf_131 (ltb rfl) rfl fun b9824 => ?_
        refine TL.stB (ds := [.int .i64 x9816.dst, v9822]) (o := 0) (cs := [.int .i64 0, .slice none 0 0]) (b := b9824) (u := .agg #[.int .i64 x9816.dst, v9822]) 0 rfl ms_131 rfl rfl rfl (oc rfl (oc (h9823).one oc0)) (leb rfl) ?_
        refine TL.norm (L' := [bx b9824 131 [.int .i64 x9816.dst, v9822], bx b22 25 [.int .i64 x12.params, .int .i64 x12.result, v18, v20], F426, F1226, F2827, F9810]) rfl ?_
        refine TL.nil ?_
        refine TC.go hK_359 ?_
        refine TC.seq fun K_361 hK_362 => ?_
        refine TC.region ?_
        refine TL.v (ltb rfl) (rv_fa (b := b9824) (o := 0) fa_131_1 rfl) ?_
        refine TL.v (ltb rfl) (rv_ld (v := v9822) (o := 1) (o' := 0) (j := 1) sc_22 rfl (Src.at_ 0 rfl) (bx_cells b9824 131 _) rfl rfl) ?_
        refine TL.v (ltb rfl) (rv_lenI (v := v9822) Try.underlying22 rfl h9823) ?_
        refine TL.v (ltb rfl) (rv_mv (v := .int .i64 0) rfl) ?_
        refine TL.nil ?_
        refine TC.go hK_362 ?_
        refine TC.block ?_
        obtain ⟨z_379, hz_380, hr_381⟩ := bind_some' hp
        clear hp
        have hJ_397 : ∀ (x9829 : List (List Bool)) (F9830 : FP) (e_384 : Env) (h9831 : SlO 30 (kSl 4 kBool) x9829 v3626 F9830) (h_385 : e_384 8 = .pointer (some ⟨b22, 0, none⟩)) (h_386 : e_384 9 = v425) (h_387 : e_384 10 = v1225) (h_388 : e_384 11 = v2826) (h_389 : e_384 12 = v3626) (h_390 : e_384 13 = .int .i64 x4828) (h_391 : e_384 47 = v20) (h_392 : e_384 48 = .int .i64 (len x12.blocks)) (h_393 : e_384 49 = .int .i64 x4828) (h_394 : e_384 55 = v9802) (h_395 : e_384 56 = .int .i64 (len x9796.phis)) (h_396 : e_384 57 = .int .i64 x9812) (hq_398 : x9829 = z_379), ∀ w, St E H [bx b22 25 [.int .i64 x12.params, .int .i64 x12.result, v18, v20], F426, F1226, F2827, F9830] w → K_356 e_384 w := by
          intro x9829 F9830 e_384 h9831 h_385 h_386 h_387 h_388 h_389 h_390 h_391 h_392 h_393 h_394 h_395 h_396 hq_398
          subst hq_398
          replace hp : live_Live.nx383 x9812 x9829 = some x_338 := hr_381
          unfold live_Live.nx383 at hp
          refine TC.go hK_357 ?_
          refine TC.region ?_
          refine TL.v (ltb rfl) (rv_add (k := .i64) (m := x9812) (n := 1) h_396 rfl) ?_
          refine TL.v (ltb rfl) (rv_mv (v := .int .i64 (w64 (x9812 + 1))) rfl) ?_
          refine TL.nil ?_
          exact fun w hw => goOk hp ⟨x9829, (w64 (x9812 + 1)), F9830, rfl, h9831, h_385, h_386, h_387, h_388, h_389, h_390, h_391, h_392, h_393, h_394, h_395, rfl, rfl⟩ (hw.pick [0, 0, 0, 0, 0])
        refine TC.pk' [1, 1, 1, 1, 1] (L' := [bx b22 25 [.int .i64 x12.params, .int .i64 x12.result, v18, v20], F426, F1226, F2827, F9810]) rfl ?_
        refine TC.loopW (r := z_379) (fun (s : (List (List Bool) × Int)) (e_363 : Env) (L_413 : List FP) => ∃ (x9825 : List (List Bool)) (x9828 : Int) (F9826 : FP), s = (x9825, x9828) ∧ SlO 30 (kSl 4 kBool) x9825 v3626 F9826 ∧ e_363 8 = .pointer (some ⟨b22, 0, none⟩) ∧ e_363 9 = v425 ∧ e_363 10 = v1225 ∧ e_363 11 = v2826 ∧ e_363 12 = v3626 ∧ e_363 13 = .int .i64 x4828 ∧ e_363 47 = v20 ∧ e_363 48 = .int .i64 (len x12.blocks) ∧ e_363 49 = .int .i64 x4828 ∧ e_363 55 = v9802 ∧ e_363 56 = .int .i64 (len x9796.phis) ∧ e_363 57 = .int .i64 x9812 ∧ e_363 62 = v9822 ∧ e_363 63 = .int .i64 (len x9816.args) ∧ e_363 64 = .int .i64 x9828 ∧ L_413 = [bx b22 25 [.int .i64 x12.params, .int .i64 x12.result, v18, v20], F426, F1226, F2827, F9826]) ?_ FUEL _ _ _ hz_380 ⟨x9809, 0, F9810, rfl, h9811, h_323, h_324, h_325, h_326, h_327, h_328, h_329, h_330, h_331, h_332, h_333, h_334, rfl, rfl, rfl, rfl⟩
        rintro s e_363 L_413 ⟨x9825, x9828, F9826, rfl, h9827, h_364, h_365, h_366, h_367, h_368, h_369, h_370, h_371, h_372, h_373, h_374, h_375, h_376, h_377, h_378, rfl⟩ x_382 hp hx_383
        replace hp : live_Live.bd383 x1224 x4828 x9816 x9825 x9828 = some x_382 := hp
        unfold live_Live.bd383 at hp
        refine TC.seq fun K_399 hK_400 => ?_
        refine TC.region ?_
        refine TL.v (ltb rfl) (rv_lss (k := .i64) (m := x9828) (n := (len x9816.args)) h_378 h_377) ?_
        refine TL.nil ?_
        refine TC.go hK_400 ?_
        refine TC.seq fun K_401 hK_402 => ?_
        by_cases hc_403 : x9828 < (len x9816.args)
        · rw [if_pos hc_403] at hp
          refine TC.condT (bT hc_403) ?_
          refine TC.skip ?_
          refine TC.go hK_402 ?_
          refine TC.seq fun K_404 hK_405 => ?_
          refine TC.block ?_
          refine TC.seq fun K_406 hK_407 => ?_
          refine TC.region ?_
          refine TL.v (ltb rfl) (rv_mv (v := .int .i64 x9828) h_378) ?_
          obtain ⟨x9832, hx_408, hp⟩ := bind_some' hp
          refine TL.v3 (ltb rfl) (rv_ix 22 (.tmp 62) (.tmp 64) (v := v9822) (i := x9828) Try.underlying22 inf_3 rfl h_376 h_378 h9823 hx_408) fun b9833 o9834 c9835 h9836 h9837 => ?_
          obtain rfl := h9836
          refine TL.v (ltb rfl) (rv_ld (v := .int .i64 x9832) (o := o9834) (o' := o9834) (j := 0) sc_3 rfl Src.H h9837 rfl rfl) ?_
          refine TL.v (ltb rfl) (rv_as (v := .int .i64 x9828) rfl) ?_
          refine TL.v (ltb rfl) (rv_as (v := .int .i64 x9832) rfl) ?_
          refine TL.nil ?_
          refine TC.go hK_407 ?_
          refine TC.region ?_
          refine TL.v (ltb rfl) (rv_mv (v := v3626) h_368) ?_
          refine TL.v (ltb rfl) (rv_mv (v := v1225) h_366) ?_
          refine TL.v (ltb rfl) (rv_mv (v := .int .i64 x4828) h_369) ?_
          obtain ⟨x9838, hx_409, hp⟩ := bind_some' hp
          refine TL.v3 (ltb rfl) (rv_ix 28 (.tmp 70) (.tmp 71) (v := v1225) (i := x4828) Try.underlying28 inf_22 rfl rfl rfl (h1227).ro hx_409) fun b9839 o9840 c9841 h9842 h9843 => ?_
          obtain ⟨v9844, rfl, h9845⟩ := h9842
          refine TL.v (ltb rfl) (rv_ld (v := v9844) (o := o9840) (o' := o9840) (j := 0) sc_22 rfl (Src.at_ 2 rfl) h9843 rfl rfl) ?_
          refine TL.v (ltb rfl) (rv_mv (v := .int .i64 x9828) rfl) ?_
          obtain ⟨x9846, hx_410, hp⟩ := bind_some' hp
          refine TL.v3 (ltb rfl) (rv_ix 22 (.tmp 73) (.tmp 74) (v := v9844) (i := x9828) Try.underlying22 inf_3 rfl rfl rfl h9845 hx_410) fun b9847 o9848 c9849 h9850 h9851 => ?_
          obtain rfl := h9850
          refine TL.v (ltb rfl) (rv_ld (v := .int .i64 x9846) (o := o9848) (o' := o9848) (j := 0) sc_3 rfl (Src.at_ 2 rfl) h9851 rfl rfl) ?_
          refine TL.pk' [4, 0, 0, 0, 0] (L' := [F9826, bx b22 25 [.int .i64 x12.params, .int .i64 x12.result, v18, v20], F426, F1226, F2827]) rfl ?_
          obtain ⟨x9852, hx_411, hp⟩ := bind_some' hp
          refine TL.open_ h9827 hx_411 fun b9853 c9854 F9855 F9856 h9857 h9858 => ?_
          obtain ⟨v9859, rfl, h9860⟩ := h9858
          have h9861 := (idx_some hx_411).1
          refine TL.v (ltb rfl) (rv_ixH Try.underlying93 inf_30 (v := v3626) (i := x9846) rfl rfl h9861 h9857) ?_
          refine TL.v (ltb rfl) (rv_ld (v := v9859) (o := (x9846).toNat * 1) (o' := (x9846).toNat * 1) (j := 0) sc_30 rfl (Src.at_ 0 rfl) (Hole.cells h9857) rfl rfl) ?_
          refine TL.v (ltb rfl) (rv_mv (v := .int .i64 x9832) rfl) ?_
          obtain ⟨x9862, hx_412, hp⟩ := bind_some' hp
          refine TL.v2 (ltb rfl) (rv_ixO 30 (.tmp 78) (.tmp 79) (v := v9859) (i := x9832) Try.underlying30 inf_4 rfl rfl rfl h9860 (idx_some hx_412).1 (idx_some hx_412).2.1) fun b9863 o9864 h9865 => ?_
          refine TL.pk' [1, 0, 0, 0, 0, 0] (L' := [F9856, F9855, bx b22 25 [.int .i64 x12.params, .int .i64 x12.result, v18, v20], F426, F1226, F2827]) rfl ?_
          refine TL.stE0 (ds := [.bool true]) (u := .bool true) (a := true) h9860 h9865 ms_4 rfl rfl rfl ⟨rfl, rfl⟩ fun F9866 h9867 => ?_
          refine TL.nil ?_
          refine TC.go hK_405 ?_
          refine TC.region ?_
          refine TL.v (ltb rfl) (rv_add (k := .i64) (m := x9828) (n := 1) h_378 rfl) ?_
          refine TL.v (ltb rfl) (rv_mv (v := .int .i64 (w64 (x9828 + 1))) rfl) ?_
          refine TL.nil ?_
          refine W.pk' [1, 0, 0, 0, 0, 0] (L' := [F9855, F9866, bx b22 25 [.int .i64 x12.params, .int .i64 x12.result, v18, v20], F426, F1226, F2827]) rfl ?_
          refine W.shut (a := (x9852.set (x9832).toNat true)) h9857 ⟨_, rfl, h9867⟩ fun F9868 h9869 => ?_
          exact fun w hw => goOk hp ⟨(x9825.set (x9846).toNat (x9852.set (x9832).toNat true)), (w64 (x9828 + 1)), F9868, rfl, h9869, h_364, h_365, h_366, h_367, h_368, h_369, h_370, h_371, h_372, h_373, h_374, h_375, h_376, h_377, rfl, rfl⟩ (hw.pick [1, 1, 1, 1, 0])
        · rw [if_neg hc_403] at hp
          refine TC.condF (bF hc_403) ?_
          refine TC.exit ?_
          refine fun w hw => hJ_397 x9825 F9826 _ h9827 ?_ ?_ ?_ ?_ ?_ ?_ ?_ ?_ ?_ ?_ ?_ ?_ (ex_ret hp hx_383) w (hw.pick [0, 0, 0, 0, 0])
          · exact h_364
          · exact h_365
          · exact h_366
          · exact h_367
          · exact h_368
          · exact h_369
          · exact h_370
          · exact h_371
          · exact h_372
          · exact h_373
          · exact h_374
          · exact h_375
      · rw [if_neg hc_355] at hp
        refine TC.condF (bF hc_355) ?_
        refine TC.exit ?_
        refine fun w hw => hJ_349 x9809 F9810 _ h9811 ?_ ?_ ?_ ?_ ?_ ?_ ?_ ?_ (ex_ret hp hx_339) w (hw.pick [0, 0, 0, 0, 0])
        · exact h_323
        · exact h_324
        · exact h_325
        · exact h_326
        · exact h_327
        · exact h_329
        · exact h_330
        · exact h_331
    · rw [if_neg hc_314] at hp
      refine TC.condF (bF hc_314) ?_
      refine TC.exit ?_
      refine fun w hw => hJ_308 x4825 F4826 _ h4827 ?_ ?_ ?_ ?_ (ex_ret hp hx_54) w (hw.pick [0, 0, 1, 1])
      · exact h_42
      · exact h_43
      · exact h_45
      · exact h_46
end Go.Proofs.Ytoflleabpkgdpaa
