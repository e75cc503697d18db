/- The walk through the program's functions: each one's pure reading, and that a call does what it says. No conditions. -/
import Derived.Test.YtoflleabpkgdpaaS2
set_option linter.unusedVariables false
set_option linter.unusedSimpArgs false
namespace Go.Proofs.Ytoflleabpkgdpaa
open Go Go.Proofs

/-! ### (*fettle/check.looker).block -/
abbrev check_looker_block.R (r : GErr) (v : Value) (A : List FP) : Prop := ∃ (w1 : Value) (G1 : FP), w1 = v ∧ A = [G1] ∧ ErO 72 143 145 r w1 G1
def check_looker_block.nx35 (a2 : PLooker) (a11 : PBlock) : Option GErr :=
  (check_looker_end a2 a11.term).bind fun x21 =>
  some x21
def check_looker_block.bd35 (a2 : PLooker) (a11 : PBlock) (x20 : Int) : Option (Ex (Ex GErr Unit) Int) :=
  if x20 < (len a11.ins) then
    (idx a11.ins x20).bind fun x25 =>
    (check_looker_instr a2 x25).bind fun x34 =>
    if ¬ x34 = GErr.no then
      some (.ret (.ret x34))
    else
      some (.go (w64 (x20 + 1)))
  else
    some (.ret (.go ()))
def check_looker_block.nx17 (a2 : PLooker) (a11 : PBlock) : Option GErr :=
  (whl (fun (s : Int) => check_looker_block.bd35 a2 a11 s) FUEL 0).bind fun z =>
  match z with
    | .ret r => some r
    | .go p => check_looker_block.nx35 a2 a11
def check_looker_block.bd17 (a2 : PLooker) (a11 : PBlock) (x19 : Int) : Option (Ex (Ex GErr Unit) Int) :=
  if x19 < (len a11.phis) then
    (idx a11.phis x19).bind fun x38 =>
    (check_looker_phi a2 x38).bind fun x47 =>
    if ¬ x47 = GErr.no then
      some (.ret (.ret x47))
    else
      some (.go (w64 (x19 + 1)))
  else
    some (.ret (.go ()))
def check_looker_block (a2 : PLooker) (a11 : PBlock) : Option GErr :=
  (whl (fun (s : Int) => check_looker_block.bd17 a2 a11 s) FUEL 0).bind fun z =>
  match z with
    | .ret r => some r
    | .go p => check_looker_block.nx17 a2 a11
theorem check_looker_block_ok {E : World} {H : FP} {w : World} {a2 : PLooker} {a11 : PBlock} {b1 : Nat} {o3 : Nat} {v5 : Value} {v7 : Value} {v9 : Value} {v12 : Value} {v14 : Value} {v16 : Value} {r : GErr} (h4 : CellsIn H b1 o3 [v5, .int .i64 a2.f.params, .int .i64 a2.f.result, v7, v9]) (h6 : SlI kFunc H a2.m.funcs v5) (h8 : SlI (kInt .i64) H a2.f.regs v7) (h10 : SlI kBlock H a2.f.blocks v9) (h13 : SlI kPhi H a11.phis v12) (h15 : SlI kInstr H a11.ins v14) (h17 : SlI (kInt .i64) H a11.term.to v16) (hp : check_looker_block a2 a11 = some r) (hst : St E H [] w) :
    Fn Try.prog 96 #[.pointer (some ⟨b1, o3, none⟩), .agg #[v12, v14, .int .i64 a11.term.kind, .int .i64 a11.term.arg, v16]] w fun v w' => ∃ A, check_looker_block.R r v A ∧ St E H A w' := by
  refine Fn.body (fn := Try.f96) (args := [.pointer (some ⟨b1, o3, none⟩), .agg #[v12, v14, .int .i64 a11.term.kind, .int .i64 a11.term.arg, v16]]) E H [] [.tmp 4] 43 Try.func96 rfl rfl rfl rfl (leb rfl) hst ?_
  unfold check_looker_block at hp
  refine TC.seq fun K_1 hK_2 => ?_
  refine TC.region ?_
  refine TL.box (cs := [v12, v14, .int .i64 a11.term.kind, .int .i64 a11.term.arg, v16]) (v := .agg #[v12, v14, .int .i64 a11.term.kind, .int .i64 a11.term.arg, v16]) (ltb rfl) rfl rfl fun b18 => ?_
  refine TL.v (ltb rfl) (rv_as (v := .nilIface) rfl) ?_
  refine TL.nil ?_
  refine TC.go hK_2 ?_
  refine TC.seq fun K_3 hK_4 => ?_
  refine TC.seq fun K_5 hK_6 => ?_
  refine TC.region ?_
  refine TL.v (ltb rfl) (rv_fa (b := b18) (o := 0) fa_85_0 rfl) ?_
  refine TL.v (ltb rfl) (rv_ld (v := v12) (o := 0) (o' := 0) (j := 0) sc_82 rfl (Src.at_ 0 rfl) (bx_cells b18 85 _) rfl rfl) ?_
  refine TL.v (ltb rfl) (rv_lenI (v := v12) Try.underlying82 rfl h13) ?_
  refine TL.v (ltb rfl) (rv_mv (v := .int .i64 0) rfl) ?_
  refine TL.nil ?_
  refine TC.go hK_6 ?_
  refine TC.block ?_
  obtain ⟨z_13, hz_14, hr_15⟩ := bind_some' hp
  clear hp
  have hJ_65 : ∀ (e_18 : Env) (h_19 : e_18 0 = .pointer (some ⟨b1, o3, none⟩)) (h_20 : e_18 3 = .pointer (some ⟨b18, 0, none⟩)) (hq_66 : .go () = z_13), ∀ w, St E H [bx b18 85 [v12, v14, .int .i64 a11.term.kind, .int .i64 a11.term.arg, v16]] w → K_3 e_18 w := by
    intro e_18 h_19 h_20 hq_66
    subst hq_66
    replace hp : check_looker_block.nx17 a2 a11 = some r := hr_15
    unfold check_looker_block.nx17 at hp
    refine TC.go hK_4 ?_
    refine TC.seq fun K_21 hK_22 => ?_
    refine TC.seq fun K_23 hK_24 => ?_
    refine TC.region ?_
    refine TL.v (ltb rfl) (rv_fa (b := b18) (o := 0) fa_85_1 h_20) ?_
    refine TL.v (ltb rfl) (rv_ld (v := v14) (o := 1) (o' := 0) (j := 1) sc_83 rfl (Src.at_ 0 rfl) (bx_cells b18 85 _) rfl rfl) ?_
    refine TL.v (ltb rfl) (rv_lenI (v := v14) Try.underlying83 rfl h15) ?_
    refine TL.v (ltb rfl) (rv_mv (v := .int .i64 0) rfl) ?_
    refine TL.nil ?_
    refine TC.go hK_24 ?_
    refine TC.block ?_
    obtain ⟨z_31, hz_32, hr_33⟩ := bind_some' hp
    clear hp
    have hJ_43 : ∀ (e_36 : Env) (h_37 : e_36 0 = .pointer (some ⟨b1, o3, none⟩)) (h_38 : e_36 3 = .pointer (some ⟨b18, 0, none⟩)) (hq_44 : .go () = z_31), ∀ w, St E H [bx b18 85 [v12, v14, .int .i64 a11.term.kind, .int .i64 a11.term.arg, v16]] w → K_21 e_36 w := by
      intro e_36 h_37 h_38 hq_44
      subst hq_44
      replace hp : check_looker_block.nx35 a2 a11 = some r := hr_33
      unfold check_looker_block.nx35 at hp
      refine TC.go hK_22 ?_
      refine TC.seq fun K_39 hK_40 => ?_
      refine TC.region ?_
      refine TL.v (ltb rfl) (rv_mv (v := .pointer (some ⟨b1, o3, none⟩)) h_37) ?_
      refine TL.v (ltb rfl) (rv_fa (b := b18) (o := 0) fa_85_2 h_38) ?_
      refine TL.v (ltb rfl) (rv_lda (o := 2) (o' := 0) (j := 2) (ds := [.int .i64 a11.term.kind, .int .i64 a11.term.arg, v16]) ag_81 rfl (Src.at_ 0 rfl) (bx_cells b18 85 _) rfl rfl rfl) ?_
      obtain ⟨x21, hy_41, hp⟩ := bind_some' hp
      refine TL.callC (vs := [.pointer (some ⟨b1, o3, none⟩), .agg #[.int .i64 a11.term.kind, .int .i64 a11.term.arg, v16]]) (R := check_looker_end.R x21) [] [bx b18 85 [v12, v14, .int .i64 a11.term.kind, .int .i64 a11.term.arg, v16]] rfl cb_106 (ltb rfl) (mc rfl (mc rfl m0)) (fun w hw => check_looker_end_ok (a2 := a2) (a11 := a11.term) (h4.mono subH) (h6.mono subH) (h8.mono subH) (h10.mono subH) (h17.mono subH) hy_41 hw) fun v A' hR_42 => ?_
      obtain ⟨v22, F23, rfl, rfl, h24⟩ := hR_42
      refine TL.norm (L' := [F23, bx b18 85 [v12, v14, .int .i64 a11.term.kind, .int .i64 a11.term.arg, v16]]) rfl ?_
      refine TL.v (ltb rfl) (rv_as (v := v22) rfl) ?_
      refine TL.nil ?_
      refine TC.go hK_40 ?_
      refine TC.ret ?_
      obtain rfl := Option.some.inj hp
      exact fun w hw => retOk ⟨v22, F23, rfl, rfl, h24⟩ (hw.pick [0])
    refine TC.pk' [0] (L' := [bx b18 85 [v12, v14, .int .i64 a11.term.kind, .int .i64 a11.term.arg, v16]]) rfl ?_
    refine TC.loopW (r := z_31) (fun (x20 : Int) (e_25 : Env) (L_64 : List FP) => e_25 0 = .pointer (some ⟨b1, o3, none⟩) ∧ e_25 3 = .pointer (some ⟨b18, 0, none⟩) ∧ e_25 26 = v14 ∧ e_25 27 = .int .i64 (len a11.ins) ∧ e_25 28 = .int .i64 x20 ∧ L_64 = [bx b18 85 [v12, v14, .int .i64 a11.term.kind, .int .i64 a11.term.arg, v16]]) ?_ FUEL _ _ _ hz_32 ⟨h_19, h_20, rfl, rfl, rfl, rfl⟩
    rintro x20 e_25 L_64 ⟨h_26, h_27, h_28, h_29, h_30, rfl⟩ x_34 hp hx_35
    replace hp : check_looker_block.bd35 a2 a11 x20 = some x_34 := hp
    unfold check_looker_block.bd35 at hp
    refine TC.seq fun K_45 hK_46 => ?_
    refine TC.region ?_
    refine TL.v (ltb rfl) (rv_lss (k := .i64) (m := x20) (n := (len a11.ins)) h_30 h_29) ?_
    refine TL.nil ?_
    refine TC.go hK_46 ?_
    refine TC.seq fun K_47 hK_48 => ?_
    by_cases hc_49 : x20 < (len a11.ins)
    · rw [if_pos hc_49] at hp
      refine TC.condT (bT hc_49) ?_
      refine TC.skip ?_
      refine TC.go hK_48 ?_
      refine TC.seq fun K_50 hK_51 => ?_
      refine TC.block ?_
      refine TC.seq fun K_52 hK_53 => ?_
      refine TC.region ?_
      obtain ⟨x25, hx_54, hp⟩ := bind_some' hp
      refine TL.v3 (ltb rfl) (rv_ix 83 (.tmp 26) (.tmp 28) (v := v14) (i := x20) Try.underlying83 inf_87 rfl h_28 h_30 h15 hx_54) fun b26 o27 c28 h29 h30 => ?_
      obtain ⟨v31, rfl, h32⟩ := h29
      refine TL.v (ltb rfl) (rv_lda (o := o27) (o' := o27) (j := 0) (ds := [.int .i64 x25.op, .int .i64 x25.dst, v31, .int .i64 x25.imm, .int .i64 x25.fn]) ag_87 rfl Src.H h30 rfl rfl rfl) ?_
      refine TL.alloc (cs := [.int .i64 0, .int .i64 0, .slice none 0 0, .int .i64 0, .int .i64 0]) inf_87 (ltb rfl) rfl fun b33 => ?_
      refine TL.stB (ds := [.int .i64 x25.op, .int .i64 x25.dst, v31, .int .i64 x25.imm, .int .i64 x25.fn]) (o := 0) (cs := [.int .i64 0, .int .i64 0, .slice none 0 0, .int .i64 0, .int .i64 0]) (b := b33) (u := .agg #[.int .i64 x25.op, .int .i64 x25.dst, v31, .int .i64 x25.imm, .int .i64 x25.fn]) 0 rfl ms_87 rfl rfl rfl (oc rfl (oc rfl (oc (h32).one (oc rfl (oc rfl oc0))))) (leb rfl) ?_
      refine TL.norm (L' := [bx b33 87 [.int .i64 x25.op, .int .i64 x25.dst, v31, .int .i64 x25.imm, .int .i64 x25.fn], bx b18 85 [v12, v14, .int .i64 a11.term.kind, .int .i64 a11.term.arg, v16]]) rfl ?_
      refine TL.nil ?_
      refine TC.go hK_53 ?_
      refine TC.seq fun K_55 hK_56 => ?_
      refine TC.region ?_
      refine TL.v (ltb rfl) (rv_mv (v := .pointer (some ⟨b1, o3, none⟩)) h_26) ?_
      refine TL.v (ltb rfl) (rv_lda (o := 0) (o' := 0) (j := 0) (ds := [.int .i64 x25.op, .int .i64 x25.dst, v31, .int .i64 x25.imm, .int .i64 x25.fn]) ag_87 rfl (Src.at_ 0 rfl) (bx_cells b33 87 _) rfl rfl rfl) ?_
      obtain ⟨x34, hy_57, hp⟩ := bind_some' hp
      refine TL.callC (vs := [.pointer (some ⟨b1, o3, none⟩), .agg #[.int .i64 x25.op, .int .i64 x25.dst, v31, .int .i64 x25.imm, .int .i64 x25.fn]]) (R := check_looker_instr.R x34) [] [bx b33 87 [.int .i64 x25.op, .int .i64 x25.dst, v31, .int .i64 x25.imm, .int .i64 x25.fn], bx b18 85 [v12, v14, .int .i64 a11.term.kind, .int .i64 a11.term.arg, v16]] rfl cb_105 (ltb rfl) (mc rfl (mc rfl m0)) (fun w hw => check_looker_instr_ok (a2 := a2) (a11 := x25) (h4.mono subH) (h6.mono subH) (h8.mono subH) (h10.mono subH) (h32.mono subH) hy_57 hw) fun v A' hR_58 => ?_
      obtain ⟨v35, F36, rfl, rfl, h37⟩ := hR_58
      refine TL.norm (L' := [F36, bx b33 87 [.int .i64 x25.op, .int .i64 x25.dst, v31, .int .i64 x25.imm, .int .i64 x25.fn], bx b18 85 [v12, v14, .int .i64 a11.term.kind, .int .i64 a11.term.arg, v16]]) rfl ?_
      refine TL.v (ltb rfl) (rv_as (v := v35) rfl) ?_
      refine TL.nil ?_
      refine TC.go hK_56 ?_
      refine TC.seq fun K_59 hK_60 => ?_
      refine TC.region ?_
      refine TL.v (ltb rfl) (rv_mv (v := v35) rfl) ?_
      refine TL.v (ltb rfl) (rv_neqEN ifc_49 h37 rfl) ?_
      refine TL.nil ?_
      refine TC.go hK_60 ?_
      by_cases hc_61 : ¬ x34 = GErr.no
      · rw [if_pos hc_61] at hp
        refine TC.condT (bT hc_61) ?_
        refine TC.seq fun K_62 hK_63 => ?_
        refine TC.region ?_
        refine TL.v (ltb rfl) (rv_mv (v := v35) rfl) ?_
        refine TL.v (ltb rfl) (rv_as (v := v35) rfl) ?_
        refine TL.nil ?_
        refine TC.go hK_63 ?_
        refine TC.ret ?_
        obtain rfl := ex_ret hp hx_35
        obtain rfl := Option.some.inj hr_33
        exact fun w hw => retOk ⟨v35, F36, rfl, rfl, h37⟩ (hw.pick [0])
      · rw [if_neg hc_61] at hp
        refine TC.condF (bF hc_61) ?_
        refine TC.skip ?_
        refine TC.go hK_51 ?_
        refine TC.region ?_
        refine TL.v (ltb rfl) (rv_add (k := .i64) (m := x20) (n := 1) h_30 rfl) ?_
        refine TL.v (ltb rfl) (rv_mv (v := .int .i64 (w64 (x20 + 1))) rfl) ?_
        refine TL.nil ?_
        exact fun w hw => goOk hp ⟨h_26, h_27, h_28, h_29, rfl, rfl⟩ (hw.pick [2])
    · rw [if_neg hc_49] at hp
      refine TC.condF (bF hc_49) ?_
      refine TC.exit ?_
      refine fun w hw => hJ_43 _ ?_ ?_ (ex_ret hp hx_35) w (hw.pick [0])
      · exact h_26
      · exact h_27
  refine TC.pk' [0] (L' := [bx b18 85 [v12, v14, .int .i64 a11.term.kind, .int .i64 a11.term.arg, v16]]) rfl ?_
  refine TC.loopW (r := z_13) (fun (x19 : Int) (e_7 : Env) (L_86 : List FP) => e_7 0 = .pointer (some ⟨b1, o3, none⟩) ∧ e_7 3 = .pointer (some ⟨b18, 0, none⟩) ∧ e_7 12 = v12 ∧ e_7 13 = .int .i64 (len a11.phis) ∧ e_7 14 = .int .i64 x19 ∧ L_86 = [bx b18 85 [v12, v14, .int .i64 a11.term.kind, .int .i64 a11.term.arg, v16]]) ?_ FUEL _ _ _ hz_14 ⟨rfl, rfl, rfl, rfl, rfl, rfl⟩
  rintro x19 e_7 L_86 ⟨h_8, h_9, h_10, h_11, h_12, rfl⟩ x_16 hp hx_17
  replace hp : check_looker_block.bd17 a2 a11 x19 = some x_16 := hp
  unfold check_looker_block.bd17 at hp
  refine TC.seq fun K_67 hK_68 => ?_
  refine TC.region ?_
  refine TL.v (ltb rfl) (rv_lss (k := .i64) (m := x19) (n := (len a11.phis)) h_12 h_11) ?_
  refine TL.nil ?_
  refine TC.go hK_68 ?_
  refine TC.seq fun K_69 hK_70 => ?_
  by_cases hc_71 : x19 < (len a11.phis)
  · rw [if_pos hc_71] at hp
    refine TC.condT (bT hc_71) ?_
    refine TC.skip ?_
    refine TC.go hK_70 ?_
    refine TC.seq fun K_72 hK_73 => ?_
    refine TC.block ?_
    refine TC.seq fun K_74 hK_75 => ?_
    refine TC.region ?_
    obtain ⟨x38, hx_76, hp⟩ := bind_some' hp
    refine TL.v3 (ltb rfl) (rv_ix 82 (.tmp 12) (.tmp 14) (v := v12) (i := x19) Try.underlying82 inf_131 rfl h_10 h_12 h13 hx_76) fun b39 o40 c41 h42 h43 => ?_
    obtain ⟨v44, rfl, h45⟩ := h42
    refine TL.v (ltb rfl) (rv_lda (o := o40) (o' := o40) (j := 0) (ds := [.int .i64 x38.dst, v44]) ag_131 rfl Src.H h43 rfl rfl rfl) ?_
    refine TL.alloc (cs := [.int .i64 0, .slice none 0 0]) inf_131 (ltb rfl) rfl fun b46 => ?_
    refine TL.stB (ds := [.int .i64 x38.dst, v44]) (o := 0) (cs := [.int .i64 0, .slice none 0 0]) (b := b46) (u := .agg #[.int .i64 x38.dst, v44]) 0 rfl ms_131 rfl rfl rfl (oc rfl (oc (h45).one oc0)) (leb rfl) ?_
    refine TL.norm (L' := [bx b46 131 [.int .i64 x38.dst, v44], bx b18 85 [v12, v14, .int .i64 a11.term.kind, .int .i64 a11.term.arg, v16]]) rfl ?_
    refine TL.nil ?_
    refine TC.go hK_75 ?_
    refine TC.seq fun K_77 hK_78 => ?_
    refine TC.region ?_
    refine TL.v (ltb rfl) (rv_mv (v := .pointer (some ⟨b1, o3, none⟩)) h_8) ?_
    refine TL.v (ltb rfl) (rv_lda (o := 0) (o' := 0) (j := 0) (ds := [.int .i64 x38.dst, v44]) ag_131 rfl (Src.at_ 0 rfl) (bx_cells b46 131 _) rfl rfl rfl) ?_
    obtain ⟨x47, hy_79, hp⟩ := bind_some' hp
    refine TL.callC (vs := [.pointer (some ⟨b1, o3, none⟩), .agg #[.int .i64 x38.dst, v44]]) (R := check_looker_phi.R x47) [] [bx b46 131 [.int .i64 x38.dst, v44], bx b18 85 [v12, v14, .int .i64 a11.term.kind, .int .i64 a11.term.arg, v16]] rfl cb_104 (ltb rfl) (mc rfl (mc rfl m0)) (fun w hw => check_looker_phi_ok (a2 := a2) (a11 := x38) (h4.mono subH) (h6.mono subH) (h8.mono subH) (h10.mono subH) (h45.mono subH) hy_79 hw) fun v A' hR_80 => ?_
    obtain ⟨v48, F49, rfl, rfl, h50⟩ := hR_80
    refine TL.norm (L' := [F49, bx b46 131 [.int .i64 x38.dst, v44], bx b18 85 [v12, v14, .int .i64 a11.term.kind, .int .i64 a11.term.arg, v16]]) rfl ?_
    refine TL.v (ltb rfl) (rv_as (v := v48) rfl) ?_
    refine TL.nil ?_
    refine TC.go hK_78 ?_
    refine TC.seq fun K_81 hK_82 => ?_
    refine TC.region ?_
    refine TL.v (ltb rfl) (rv_mv (v := v48) rfl) ?_
    refine TL.v (ltb rfl) (rv_neqEN ifc_49 h50 rfl) ?_
    refine TL.nil ?_
    refine TC.go hK_82 ?_
    by_cases hc_83 : ¬ x47 = GErr.no
    · rw [if_pos hc_83] at hp
      refine TC.condT (bT hc_83) ?_
      refine TC.seq fun K_84 hK_85 => ?_
      refine TC.region ?_
      refine TL.v (ltb rfl) (rv_mv (v := v48) rfl) ?_
      refine TL.v (ltb rfl) (rv_as (v := v48) rfl) ?_
      refine TL.nil ?_
      refine TC.go hK_85 ?_
      refine TC.ret ?_
      obtain rfl := ex_ret hp hx_17
      obtain rfl := Option.some.inj hr_15
      exact fun w hw => retOk ⟨v48, F49, rfl, rfl, h50⟩ (hw.pick [0])
    · rw [if_neg hc_83] at hp
      refine TC.condF (bF hc_83) ?_
      refine TC.skip ?_
      refine TC.go hK_73 ?_
      refine TC.region ?_
      refine TL.v (ltb rfl) (rv_add (k := .i64) (m := x19) (n := 1) h_12 rfl) ?_
      refine TL.v (ltb rfl) (rv_mv (v := .int .i64 (w64 (x19 + 1))) rfl) ?_
      refine TL.nil ?_
      exact fun w hw => goOk hp ⟨h_8, h_9, h_10, h_11, rfl, rfl⟩ (hw.pick [2])
  · rw [if_neg hc_71] at hp
    refine TC.condF (bF hc_71) ?_
    refine TC.exit ?_
    refine fun w hw => hJ_65 _ ?_ ?_ (ex_ret hp hx_17) w (hw.pick [0])
    · exact h_8
    · exact h_9

/-! ### fettle/check.Func -/
abbrev check_Func.R (r : GErr) (v : Value) (A : List FP) : Prop := ∃ (w1 : Value) (G1 : FP), w1 = v ∧ A = [G1] ∧ ErO 72 143 145 r w1 G1
def check_Func.nx86  : Option GErr :=
  some GErr.no
def check_Func.bd86 (a1 : PModule) (x1608 : PFunc) (x3618 : Int) : Option (Ex (Ex GErr Unit) Int) :=
  if x3618 < (len x1608.blocks) then
    (idx x1608.blocks x3618).bind fun x3620 =>
    (check_looker_block (⟨(⟨a1.funcs⟩ : PModule), (⟨x1608.params, x1608.result, x1608.regs, x1608.blocks⟩ : PFunc)⟩ : PLooker) x3620).bind fun x3633 =>
    if ¬ x3633 = GErr.no then
      some (.ret (.ret x3633))
    else
      some (.go (w64 (x3618 + 1)))
  else
    some (.ret (.go ()))
def check_Func.nx70 (a1 : PModule) (x1608 : PFunc) : Option GErr :=
  (whl (fun (s : Int) => check_Func.bd86 a1 x1608 s) FUEL 0).bind fun z =>
  match z with
    | .ret r => some r
    | .go p => check_Func.nx86
def check_Func.nx140 (x3617 : Int) : Option (Ex (Ex GErr Unit) Int) :=
  some (.go (w64 (x3617 + 1)))
def check_Func.bd140 (x3637 : List Int) (x3645 : PBlock) (x3657 : Int) : Option (Ex (Ex GErr Unit) Int) :=
  if x3657 < (len x3645.phis) then
    (idx x3645.phis x3657).bind fun x3658 =>
    if ¬ (len x3658.args) = (len x3637) then
      some (.ret (.ret (GErr.code 6)))
    else
      some (.go (w64 (x3657 + 1)))
  else
    some (.ret (.go ()))
def check_Func.bd70 (x1608 : PFunc) (x3613 : List (List Int)) (x3617 : Int) : Option (Ex (Ex GErr Unit) Int) :=
  if x3617 < (len x3613) then
    (idx x3613 x3617).bind fun x3637 =>
    (idx x1608.blocks x3617).bind fun x3645 =>
    (whl (fun (s : Int) => check_Func.bd140 x3637 x3645 s) FUEL 0).bind fun z =>
    match z with
      | .ret r => some (.ret (.ret r))
      | .go p => check_Func.nx140 x3617
  else
    some (.ret (.go ()))
def check_Func.nx52 (a1 : PModule) (x1608 : PFunc) : Option GErr :=
  (check_Ahead x1608).bind fun x3613 =>
  (whl (fun (s : Int) => check_Func.bd70 x1608 x3613 s) FUEL 0).bind fun z =>
  match z with
    | .ret r => some r
    | .go p => check_Func.nx70 a1 x1608
def check_Func.bd52 (x1608 : PFunc) (x3612 : Int) : Option (Ex (Ex GErr Unit) Int) :=
  if x3612 < (len x1608.blocks) then
    (idx x1608.blocks x3612).bind fun x3668 =>
    (check_ends x1608 x3668.term).bind fun x3681 =>
    if (!x3681) = true then
      some (.ret (.ret (GErr.code 6)))
    else
      some (.go (w64 (x3612 + 1)))
  else
    some (.ret (.go ()))
def check_Func (a1 : PModule) (a4 : Int) : Option GErr :=
  if a4 < 0 ∨ a4 ≥ (len a1.funcs) then
    some (GErr.code 1)
  else
    (idx a1.funcs a4).bind fun x1608 =>
    (check_small x1608).bind fun x3608 =>
    if (!x3608) = true then
      some (GErr.code 5)
    else
      (check_typed x1608).bind fun x3610 =>
      if (!x3610) = true then
        some (GErr.code 3)
      else
        (whl (fun (s : Int) => check_Func.bd52 x1608 s) FUEL 0).bind fun z =>
        match z with
          | .ret r => some r
          | .go p => check_Func.nx52 a1 x1608
set_option maxHeartbeats 4000000 in
theorem check_Func_ok {E : World} {H : FP} {w : World} {a1 : PModule} {a4 : Int} {v2 : Value} {r : GErr} (h3 : SlI kFunc H a1.funcs v2) (hp : check_Func a1 a4 = some r) (hst : St E H [] w) :
    Fn Try.prog 84 #[.agg #[v2], .int .i64 a4] w fun v w' => ∃ A, check_Func.R r v A ∧ St E H A w' := by
  refine Fn.body (fn := Try.f84) (args := [.agg #[v2], .int .i64 a4]) E H [] [.tmp 4] 120 Try.func84 rfl rfl rfl rfl (leb rfl) hst ?_
  unfold check_Func at hp
  refine TC.seq fun K_1 hK_2 => ?_
  refine TC.region ?_
  refine TL.box (cs := [v2]) (v := .agg #[v2]) (ltb rfl) rfl rfl fun b5 => ?_
  refine TL.v (ltb rfl) (rv_as (v := .nilIface) rfl) ?_
  refine TL.nil ?_
  refine TC.go hK_2 ?_
  refine TC.seq fun K_3 hK_4 => ?_
  refine TC.seq fun K_5 hK_6 => ?_
  refine TC.region ?_
  refine TL.v (ltb rfl) (rv_mv (v := .int .i64 a4) rfl) ?_
  refine TL.v (ltb rfl) (rv_lss (k := .i64) (m := a4) (n := 0) rfl rfl) ?_
  refine TL.v (ltb rfl) (rv_mv (v := .bool (decide (a4 < 0))) rfl) ?_
  refine TL.cut 6 fun K_7 hK_8 => ?_
  have hJ_9 : ∀ e_11 : Env, e_11 1 = .int .i64 a4 → e_11 2 = .pointer (some ⟨b5, 0, none⟩) → e_11 23 = .bool (decide (a4 < 0 ∨ a4 ≥ (len a1.funcs))) → ∀ w, St E H [bx b5 90 [v2]] w → K_7 e_11 w := by
    intro e_11 h_12 h_13 h_14
    refine TL.go hK_8 ?_
    refine TL.nil ?_
    refine TC.go hK_6 ?_
    by_cases hc_15 : a4 < 0 ∨ a4 ≥ (len a1.funcs)
    · rw [if_pos hc_15] at hp
      refine TC.condT (h_14.trans (bT hc_15)) ?_
      refine TC.seq fun K_16 hK_17 => ?_
      refine TC.region ?_
      refine TL.v (ltb rfl) (rv_makeIface (v := .int .i64 1) Try.underlying72 (fun ms h => by cases h) rfl) ?_
      refine TL.v (ltb rfl) (rv_as (v := .iface 72 (.int .i64 1)) rfl) ?_
      refine TL.nil ?_
      refine TC.go hK_17 ?_
      refine TC.ret ?_
      refine W.new0 ?_
      obtain rfl := Option.some.inj hp
      exact fun w hw => retOk ⟨(.iface 72 (.int .i64 1)), ([] : FP), rfl, rfl, (ErO.mk _ : ErO 72 143 145 (GErr.code 1) (.iface 72 (.int .i64 1)) [])⟩ (hw.pick [0])
    · rw [if_neg hc_15] at hp
      refine TC.condF (h_14.trans (bF hc_15)) ?_
      refine TC.skip ?_
      refine TC.go hK_4 ?_
      refine TC.seq fun K_18 hK_19 => ?_
      refine TC.held ([bx b5 90 [v2]].flatten ++ H) mix (srcG 0 rfl srcG0) ?_
      refine HL.v 0 rfl trivial (by kernel_rfl) (by kernel_rfl) (by kernel_rfl) (ltb rfl) (rv_lda (o := 0) (o' := 0) (j := 0) (ds := [v2]) ag_90 h_13 (srcInG 0 rfl) (bx_cells b5 90 _) rfl rfl rfl) ?_
      refine HL.v 1 rfl trivial (by kernel_rfl) (by kernel_rfl) (by kernel_rfl) (ltb rfl) (rv_fa (b := b5) (o := 0) fa_90_0 h_13) ?_
      refine HL.v 2 rfl trivial (by kernel_rfl) (by kernel_rfl) (by kernel_rfl) (ltb rfl) (rv_ld (v := v2) (o := 0) (o' := 0) (j := 0) sc_88 rfl (srcInG 0 rfl) (bx_cells b5 90 _) rfl rfl) ?_
      refine HL.v 3 rfl trivial (by kernel_rfl) (by kernel_rfl) (by kernel_rfl) (ltb rfl) (rv_mv (v := .int .i64 a4) h_12) ?_
      obtain ⟨x1608, hx_20, hp⟩ := bind_some' hp
      refine HL.w3 4 rfl trivial (by kernel_rfl) (by kernel_rfl) (by kernel_rfl) (ltb rfl) (rv_ix 88 (.tmp 27) (.tmp 28) (v := v2) (i := a4) Try.underlying88 inf_25 rfl rfl rfl h3 hx_20) fun b1609 o1610 c1611 h1612 h1613 => ?_
      obtain ⟨v1614, v1616, rfl, h1615, h1617⟩ := h1612
      refine HL.v 5 rfl trivial (by kernel_rfl) (by kernel_rfl) (by kernel_rfl) (ltb rfl) (rv_lda (o := o1610) (o' := o1610) (j := 0) (ds := [.int .i64 x1608.params, .int .i64 x1608.result, v1614, v1616]) ag_25 rfl srcInH h1613 rfl rfl rfl) ?_
      refine HL.v 6 rfl trivial (by kernel_rfl) (by kernel_rfl) (by kernel_rfl) (ltb rfl) (rv_bv (vs := [(0, .agg #[v2]), (1, .agg #[.int .i64 x1608.params, .int .i64 x1608.result, v1614, v1616])]) (ds := [v2, .int .i64 x1608.params, .int .i64 x1608.result, v1614, v1616]) (pc rfl (pc rfl p0)) (fun w => by kernel_rfl)) ?_
      refine HL.one 7 rfl (by kernel_rfl) fun K_21 hK_22 => ?_
      refine TL.box (cs := [v2, .int .i64 x1608.params, .int .i64 x1608.result, v1614, v1616]) (v := .agg #[v2, .int .i64 x1608.params, .int .i64 x1608.result, v1614, v1616]) (ltb rfl) rfl rfl fun b2808 => ?_
      refine TL.nil (hK_22 _ _ (srcG 1 rfl srcG0) ?_)
      refine HL.v 8 rfl trivial (by kernel_rfl) (by kernel_rfl) (by kernel_rfl) (ltb rfl) (rv_as (v := .pointer (some ⟨b2808, 0, none⟩)) rfl) ?_
      refine HL.done (by kernel_rfl) ?_
      refine TC.go hK_19 ?_
      refine TC.seq fun K_23 hK_24 => ?_
      refine TC.block ?_
      refine TC.seq fun K_25 hK_26 => ?_
      refine TC.region ?_
      refine TL.v (ltb rfl) (rv_mv (v := .pointer (some ⟨b2808, 0, none⟩)) rfl) ?_
      refine TL.v (ltb rfl) (rv_nilCheck (a := ⟨b2808, 0, none⟩) rfl) ?_
      refine TL.v (ltb rfl) (rv_fa (b := b2808) (o := 0) fa_159_1 rfl) ?_
      refine TL.v (ltb rfl) (rv_lda (o := 1) (o' := 0) (j := 1) (ds := [.int .i64 x1608.params, .int .i64 x1608.result, v1614, v1616]) ag_25 rfl (Src.at_ 0 rfl) (bx_cells b2808 159 _) rfl rfl rfl) ?_
      obtain ⟨x3608, hy_27, hp⟩ := bind_some' hp
      refine TL.callC (vs := [.agg #[.int .i64 x1608.params, .int .i64 x1608.result, v1614, v1616]]) (R := check_small.R x3608) [] [bx b2808 159 [v2, .int .i64 x1608.params, .int .i64 x1608.result, v1614, v1616], bx b5 90 [v2]] rfl cb_93 (ltb rfl) (mc rfl m0) (fun w hw => check_small_ok (a1 := x1608) (h1615.mono subH) (h1617.mono subH) hy_27 hw) fun v A' hR_28 => ?_
      obtain ⟨rfl, rfl⟩ := hR_28
      refine TL.norm (L' := [bx b2808 159 [v2, .int .i64 x1608.params, .int .i64 x1608.result, v1614, v1616], bx b5 90 [v2]]) rfl ?_
      refine TL.v (ltb rfl) (rv_not (b := x3608) rfl) ?_
      refine TL.v (ltb rfl) (rv_as (v := .bool (!x3608)) rfl) ?_
      refine TL.nil ?_
      refine TC.go hK_26 ?_
      by_cases hc_29 : (!x3608) = true
      · rw [if_pos hc_29] at hp
        refine TC.condT (bbT hc_29) ?_
        refine TC.seq fun K_30 hK_31 => ?_
        refine TC.region ?_
        refine TL.v (ltb rfl) (rv_makeIface (v := .int .i64 5) Try.underlying72 (fun ms h => by cases h) rfl) ?_
        refine TL.v (ltb rfl) (rv_as (v := .iface 72 (.int .i64 5)) rfl) ?_
        refine TL.nil ?_
        refine TC.go hK_31 ?_
        refine TC.ret ?_
        refine W.new0 ?_
        obtain rfl := Option.some.inj hp
        exact fun w hw => retOk ⟨(.iface 72 (.int .i64 5)), ([] : FP), rfl, rfl, (ErO.mk _ : ErO 72 143 145 (GErr.code 5) (.iface 72 (.int .i64 5)) [])⟩ (hw.pick [0])
      · rw [if_neg hc_29] at hp
        refine TC.condF (bbF hc_29) ?_
        refine TC.seq fun K_32 hK_33 => ?_
        refine TC.region ?_
        refine TL.v (ltb rfl) (rv_mv (v := .pointer (some ⟨b2808, 0, none⟩)) rfl) ?_
        refine TL.v (ltb rfl) (rv_nilCheck (a := ⟨b2808, 0, none⟩) rfl) ?_
        refine TL.v (ltb rfl) (rv_fa (b := b2808) (o := 0) fa_159_1 rfl) ?_
        refine TL.v (ltb rfl) (rv_lda (o := 1) (o' := 0) (j := 1) (ds := [.int .i64 x1608.params, .int .i64 x1608.result, v1614, v1616]) ag_25 rfl (Src.at_ 0 rfl) (bx_cells b2808 159 _) rfl rfl rfl) ?_
        obtain ⟨x3610, hy_34, hp⟩ := bind_some' hp
        refine TL.callC (vs := [.agg #[.int .i64 x1608.params, .int .i64 x1608.result, v1614, v1616]]) (R := check_typed.R x3610) [] [bx b2808 159 [v2, .int .i64 x1608.params, .int .i64 x1608.result, v1614, v1616], bx b5 90 [v2]] rfl cb_94 (ltb rfl) (mc rfl m0) (fun w hw => check_typed_ok (a1 := x1608) (h1615.mono subH) (h1617.mono subH) hy_34 hw) fun v A' hR_35 => ?_
        obtain ⟨rfl, rfl⟩ := hR_35
        refine TL.norm (L' := [bx b2808 159 [v2, .int .i64 x1608.params, .int .i64 x1608.result, v1614, v1616], bx b5 90 [v2]]) rfl ?_
        refine TL.v (ltb rfl) (rv_not (b := x3610) rfl) ?_
        refine TL.v (ltb rfl) (rv_as (v := .bool (!x3610)) rfl) ?_
        refine TL.nil ?_
        refine TC.go hK_33 ?_
        by_cases hc_36 : (!x3610) = true
        · rw [if_pos hc_36] at hp
          refine TC.condT (bbT hc_36) ?_
          refine TC.seq fun K_37 hK_38 => ?_
          refine TC.region ?_
          refine TL.v (ltb rfl) (rv_makeIface (v := .int .i64 3) Try.underlying72 (fun ms h => by cases h) rfl) ?_
          refine TL.v (ltb rfl) (rv_as (v := .iface 72 (.int .i64 3)) rfl) ?_
          refine TL.nil ?_
          refine TC.go hK_38 ?_
          refine TC.ret ?_
          refine W.new0 ?_
          obtain rfl := Option.some.inj hp
          exact fun w hw => retOk ⟨(.iface 72 (.int .i64 3)), ([] : FP), rfl, rfl, (ErO.mk _ : ErO 72 143 145 (GErr.code 3) (.iface 72 (.int .i64 3)) [])⟩ (hw.pick [0])
        · rw [if_neg hc_36] at hp
          refine TC.condF (bbF hc_36) ?_
          refine TC.skip ?_
          refine TC.go hK_24 ?_
          refine TC.seq fun K_39 hK_40 => ?_
          refine TC.seq fun K_41 hK_42 => ?_
          refine TC.region ?_
          refine TL.v (ltb rfl) (rv_mv (v := .pointer (some ⟨b2808, 0, none⟩)) rfl) ?_
          refine TL.v (ltb rfl) (rv_nilCheck (a := ⟨b2808, 0, none⟩) rfl) ?_
          refine TL.v (ltb rfl) (rv_fa (b := b2808) (o := 0) fa_159_1 rfl) ?_
          refine TL.v (ltb rfl) (rv_fa (b := b2808) (o := 1) fa_25_3 rfl) ?_
          refine TL.v (ltb rfl) (rv_ld (v := v1616) (o := 4) (o' := 0) (j := 4) sc_23 rfl (Src.at_ 0 rfl) (bx_cells b2808 159 _) rfl rfl) ?_
          refine TL.v (ltb rfl) (rv_lenI (v := v1616) Try.underlying23 rfl h1617) ?_
          refine TL.v (ltb rfl) (rv_mv (v := .int .i64 0) rfl) ?_
          refine TL.nil ?_
          refine TC.go hK_42 ?_
          refine TC.block ?_
          obtain ⟨z_48, hz_49, hr_50⟩ := bind_some' hp
          clear hp
          have hJ_165 : ∀ (e_53 : Env) (h_54 : e_53 5 = .pointer (some ⟨b2808, 0, none⟩)) (hq_166 : .go () = z_48), ∀ w, St E H [bx b2808 159 [v2, .int .i64 x1608.params, .int .i64 x1608.result, v1614, v1616]] w → K_39 e_53 w := by
            intro e_53 h_54 hq_166
            subst hq_166
            replace hp : check_Func.nx52 a1 x1608 = some r := hr_50
            unfold check_Func.nx52 at hp
            refine TC.go hK_40 ?_
            refine TC.seq fun K_55 hK_56 => ?_
            refine TC.seq fun K_57 hK_58 => ?_
            refine TC.region ?_
            refine TL.v (ltb rfl) (rv_mv (v := .pointer (some ⟨b2808, 0, none⟩)) h_54) ?_
            refine TL.v (ltb rfl) (rv_nilCheck (a := ⟨b2808, 0, none⟩) rfl) ?_
            refine TL.v (ltb rfl) (rv_fa (b := b2808) (o := 0) fa_159_1 rfl) ?_
            refine TL.v (ltb rfl) (rv_lda (o := 1) (o' := 0) (j := 1) (ds := [.int .i64 x1608.params, .int .i64 x1608.result, v1614, v1616]) ag_25 rfl (Src.at_ 0 rfl) (bx_cells b2808 159 _) rfl rfl rfl) ?_
            obtain ⟨x3613, hy_59, hp⟩ := bind_some' hp
            refine TL.callC (vs := [.agg #[.int .i64 x1608.params, .int .i64 x1608.result, v1614, v1616]]) (R := check_Ahead.R x3613) [] [bx b2808 159 [v2, .int .i64 x1608.params, .int .i64 x1608.result, v1614, v1616]] rfl cb_78 (ltb rfl) (mc rfl m0) (fun w hw => check_Ahead_ok (a1 := x1608) (h1615.mono subH) (h1617.mono subH) hy_59 hw) fun v A' hR_60 => ?_
            obtain ⟨v3614, F3615, rfl, rfl, h3616⟩ := hR_60
            refine TL.norm (L' := [F3615, bx b2808 159 [v2, .int .i64 x1608.params, .int .i64 x1608.result, v1614, v1616]]) rfl ?_
            refine TL.v (ltb rfl) (rv_lenI (v := v3614) Try.underlying28 rfl h3616.ro) ?_
            refine TL.v (ltb rfl) (rv_mv (v := .int .i64 0) rfl) ?_
            refine TL.nil ?_
            refine TC.go hK_58 ?_
            refine TC.block ?_
            obtain ⟨z_66, hz_67, hr_68⟩ := bind_some' hp
            clear hp
            have hJ_112 : ∀ (e_71 : Env) (h_72 : e_71 5 = .pointer (some ⟨b2808, 0, none⟩)) (hq_113 : .go () = z_66), ∀ w, St E H [bx b2808 159 [v2, .int .i64 x1608.params, .int .i64 x1608.result, v1614, v1616]] w → K_55 e_71 w := by
              intro e_71 h_72 hq_113
              subst hq_113
              replace hp : check_Func.nx70 a1 x1608 = some r := hr_68
              unfold check_Func.nx70 at hp
              refine TC.go hK_56 ?_
              refine TC.seq fun K_73 hK_74 => ?_
              refine TC.seq fun K_75 hK_76 => ?_
              refine TC.region ?_
              refine TL.v (ltb rfl) (rv_mv (v := .pointer (some ⟨b2808, 0, none⟩)) h_72) ?_
              refine TL.v (ltb rfl) (rv_nilCheck (a := ⟨b2808, 0, none⟩) rfl) ?_
              refine TL.v (ltb rfl) (rv_fa (b := b2808) (o := 0) fa_159_1 rfl) ?_
              refine TL.v (ltb rfl) (rv_fa (b := b2808) (o := 1) fa_25_3 rfl) ?_
              refine TL.v (ltb rfl) (rv_ld (v := v1616) (o := 4) (o' := 0) (j := 4) sc_23 rfl (Src.at_ 0 rfl) (bx_cells b2808 159 _) rfl rfl) ?_
              refine TL.v (ltb rfl) (rv_lenI (v := v1616) Try.underlying23 rfl h1617) ?_
              refine TL.v (ltb rfl) (rv_mv (v := .int .i64 0) rfl) ?_
              refine TL.nil ?_
              refine TC.go hK_76 ?_
              refine TC.block ?_
              obtain ⟨z_82, hz_83, hr_84⟩ := bind_some' hp
              clear hp
              have hJ_90 : ∀ (e_87 : Env) (hq_91 : .go () = z_82), ∀ w, St E H [] w → K_73 e_87 w := by
                intro e_87 hq_91
                subst hq_91
                replace hp : check_Func.nx86 = some r := hr_84
                unfold check_Func.nx86 at hp
                refine TC.go hK_74 ?_
                refine TC.seq fun K_88 hK_89 => ?_
                refine TC.region ?_
                refine TL.v (ltb rfl) (rv_as (v := .nilIface) rfl) ?_
                refine TL.nil ?_
                refine TC.go hK_89 ?_
                refine TC.ret ?_
                refine W.new0 ?_
                obtain rfl := Option.some.inj hp
                exact fun w hw => retOk ⟨.nilIface, ([] : FP), rfl, rfl, (ErO.nil : ErO 72 143 145 GErr.no .nilIface [])⟩ (hw.pick [0])
              refine TC.pk' [0] (L' := [bx b2808 159 [v2, .int .i64 x1608.params, .int .i64 x1608.result, v1614, v1616]]) rfl ?_
              refine TC.loopW (r := z_82) (fun (x3618 : Int) (e_77 : Env) (L_111 : List FP) => e_77 5 = .pointer (some ⟨b2808, 0, none⟩) ∧ e_77 107 = v1616 ∧ e_77 108 = .int .i64 (len x1608.blocks) ∧ e_77 109 = .int .i64 x3618 ∧ L_111 = [bx b2808 159 [v2, .int .i64 x1608.params, .int .i64 x1608.result, v1614, v1616]]) ?_ FUEL _ _ _ hz_83 ⟨h_72, rfl, rfl, rfl, rfl⟩
              rintro x3618 e_77 L_111 ⟨h_78, h_79, h_80, h_81, rfl⟩ x_85 hp hx_86
              replace hp : check_Func.bd86 a1 x1608 x3618 = some x_85 := hp
              unfold check_Func.bd86 at hp
              refine TC.seq fun K_92 hK_93 => ?_
              refine TC.region ?_
              refine TL.v (ltb rfl) (rv_lss (k := .i64) (m := x3618) (n := (len x1608.blocks)) h_81 h_80) ?_
              refine TL.nil ?_
              refine TC.go hK_93 ?_
              refine TC.seq fun K_94 hK_95 => ?_
              by_cases hc_96 : x3618 < (len x1608.blocks)
              · rw [if_pos hc_96] at hp
                refine TC.condT (bT hc_96) ?_
                refine TC.skip ?_
                refine TC.go hK_95 ?_
                refine TC.seq fun K_97 hK_98 => ?_
                refine TC.block ?_
                refine TC.seq fun K_99 hK_100 => ?_
                refine TC.region ?_
                obtain ⟨x3620, hx_101, hp⟩ := bind_some' hp
                refine TL.v3 (ltb rfl) (rv_ix 23 (.tmp 107) (.tmp 109) (v := v1616) (i := x3618) Try.underlying23 inf_85 rfl h_79 h_81 h1617 hx_101) fun b3621 o3622 c3623 h3624 h3625 => ?_
                obtain ⟨v3626, v3628, v3630, rfl, h3627, h3629, h3631⟩ := h3624
                refine TL.v (ltb rfl) (rv_lda (o := o3622) (o' := o3622) (j := 0) (ds := [v3626, v3628, .int .i64 x3620.term.kind, .int .i64 x3620.term.arg, v3630]) ag_85 rfl Src.H h3625 rfl rfl rfl) ?_
                refine TL.alloc (cs := [.slice none 0 0, .slice none 0 0, .int .i64 0, .int .i64 0, .slice none 0 0]) inf_85 (ltb rfl) rfl fun b3632 => ?_
                refine TL.stB (ds := [v3626, v3628, .int .i64 x3620.term.kind, .int .i64 x3620.term.arg, v3630]) (o := 0) (cs := [.slice none 0 0, .slice none 0 0, .int .i64 0, .int .i64 0, .slice none 0 0]) (b := b3632) (u := .agg #[v3626, v3628, .int .i64 x3620.term.kind, .int .i64 x3620.term.arg, v3630]) 0 rfl ms_85 rfl rfl rfl (oc (h3627).one (oc (h3629).one (oc rfl (oc rfl (oc (h3631).one oc0))))) (leb rfl) ?_
                refine TL.norm (L' := [bx b3632 85 [v3626, v3628, .int .i64 x3620.term.kind, .int .i64 x3620.term.arg, v3630], bx b2808 159 [v2, .int .i64 x1608.params, .int .i64 x1608.result, v1614, v1616]]) rfl ?_
                refine TL.nil ?_
                refine TC.go hK_100 ?_
                refine TC.seq fun K_102 hK_103 => ?_
                refine TC.region ?_
                refine TL.v (ltb rfl) (rv_mv (v := .pointer (some ⟨b2808, 0, none⟩)) h_78) ?_
                refine TL.v (ltb rfl) (rv_lda (o := 0) (o' := 0) (j := 0) (ds := [v3626, v3628, .int .i64 x3620.term.kind, .int .i64 x3620.term.arg, v3630]) ag_85 rfl (Src.at_ 0 rfl) (bx_cells b3632 85 _) rfl rfl rfl) ?_
                obtain ⟨x3633, hy_104, hp⟩ := bind_some' hp
                refine TL.callC (vs := [.pointer (some ⟨b2808, 0, none⟩), .agg #[v3626, v3628, .int .i64 x3620.term.kind, .int .i64 x3620.term.arg, v3630]]) (R := check_looker_block.R x3633) [] [bx b3632 85 [v3626, v3628, .int .i64 x3620.term.kind, .int .i64 x3620.term.arg, v3630], bx b2808 159 [v2, .int .i64 x1608.params, .int .i64 x1608.result, v1614, v1616]] rfl cb_96 (ltb rfl) (mc rfl (mc rfl m0)) (fun w hw => check_looker_block_ok (a2 := (⟨(⟨a1.funcs⟩ : PModule), (⟨x1608.params, x1608.result, x1608.regs, x1608.blocks⟩ : PFunc)⟩ : PLooker)) (a11 := x3620) ((bx_cells b2808 159 _).mono (subB 1 rfl)) (h3.mono subH) (h1615.mono subH) (h1617.mono subH) (h3627.mono subH) (h3629.mono subH) (h3631.mono subH) hy_104 hw) fun v A' hR_105 => ?_
                obtain ⟨v3634, F3635, rfl, rfl, h3636⟩ := hR_105
                refine TL.norm (L' := [F3635, bx b3632 85 [v3626, v3628, .int .i64 x3620.term.kind, .int .i64 x3620.term.arg, v3630], bx b2808 159 [v2, .int .i64 x1608.params, .int .i64 x1608.result, v1614, v1616]]) rfl ?_
                refine TL.v (ltb rfl) (rv_as (v := v3634) rfl) ?_
                refine TL.nil ?_
                refine TC.go hK_103 ?_
                refine TC.seq fun K_106 hK_107 => ?_
                refine TC.region ?_
                refine TL.v (ltb rfl) (rv_mv (v := v3634) rfl) ?_
                refine TL.v (ltb rfl) (rv_neqEN ifc_49 h3636 rfl) ?_
                refine TL.nil ?_
                refine TC.go hK_107 ?_
                by_cases hc_108 : ¬ x3633 = GErr.no
                · rw [if_pos hc_108] at hp
                  refine TC.condT (bT hc_108) ?_
                  refine TC.seq fun K_109 hK_110 => ?_
                  refine TC.region ?_
                  refine TL.v (ltb rfl) (rv_mv (v := v3634) rfl) ?_
                  refine TL.v (ltb rfl) (rv_as (v := v3634) rfl) ?_
                  refine TL.nil ?_
                  refine TC.go hK_110 ?_
                  refine TC.ret ?_
                  obtain rfl := ex_ret hp hx_86
                  obtain rfl := Option.some.inj hr_84
                  exact fun w hw => retOk ⟨v3634, F3635, rfl, rfl, h3636⟩ (hw.pick [0])
                · rw [if_neg hc_108] at hp
                  refine TC.condF (bF hc_108) ?_
                  refine TC.skip ?_
                  refine TC.go hK_98 ?_
                  refine TC.region ?_
                  refine TL.v (ltb rfl) (rv_add (k := .i64) (m := x3618) (n := 1) h_81 rfl) ?_
                  refine TL.v (ltb rfl) (rv_mv (v := .int .i64 (w64 (x3618 + 1))) rfl) ?_
                  refine TL.nil ?_
                  exact fun w hw => goOk hp ⟨h_78, h_79, h_80, rfl, rfl⟩ (hw.pick [2])
              · rw [if_neg hc_96] at hp
                refine TC.condF (bF hc_96) ?_
                refine TC.exit ?_
                refine fun w hw => hJ_90 _ (ex_ret hp hx_86) w (hw.pick [])
            refine TC.pk' [1, 0] (L' := [bx b2808 159 [v2, .int .i64 x1608.params, .int .i64 x1608.result, v1614, v1616], F3615]) rfl ?_
            refine TC.loopW (r := z_66) (fun (x3617 : Int) (e_61 : Env) (L_164 : List FP) => e_61 5 = .pointer (some ⟨b2808, 0, none⟩) ∧ e_61 73 = v3614 ∧ e_61 74 = .int .i64 (len x3613) ∧ e_61 75 = .int .i64 x3617 ∧ L_164 = [bx b2808 159 [v2, .int .i64 x1608.params, .int .i64 x1608.result, v1614, v1616], F3615]) ?_ FUEL _ _ _ hz_67 ⟨h_54, rfl, rfl, rfl, rfl⟩
            rintro x3617 e_61 L_164 ⟨h_62, h_63, h_64, h_65, rfl⟩ x_69 hp hx_70
            replace hp : check_Func.bd70 x1608 x3613 x3617 = some x_69 := hp
            unfold check_Func.bd70 at hp
            refine TC.seq fun K_114 hK_115 => ?_
            refine TC.region ?_
            refine TL.v (ltb rfl) (rv_lss (k := .i64) (m := x3617) (n := (len x3613)) h_65 h_64) ?_
            refine TL.nil ?_
            refine TC.go hK_115 ?_
            refine TC.seq fun K_116 hK_117 => ?_
            by_cases hc_118 : x3617 < (len x3613)
            · rw [if_pos hc_118] at hp
              refine TC.condT (bT hc_118) ?_
              refine TC.skip ?_
              refine TC.go hK_117 ?_
              refine TC.seq fun K_119 hK_120 => ?_
              refine TC.block ?_
              refine TC.seq fun K_121 hK_122 => ?_
              refine TC.region ?_
              refine TL.v (ltb rfl) (rv_mv (v := .int .i64 x3617) h_65) ?_
              obtain ⟨x3637, hx_123, hp⟩ := bind_some' hp
              refine TL.v3 (ltb rfl) (rv_ix 28 (.tmp 73) (.tmp 75) (v := v3614) (i := x3617) Try.underlying28 inf_22 rfl h_63 h_65 (h3616).ro hx_123) fun b3638 o3639 c3640 h3641 h3642 => ?_
              obtain ⟨v3643, rfl, h3644⟩ := h3641
              refine TL.v (ltb rfl) (rv_ld (v := v3643) (o := o3639) (o' := o3639) (j := 0) sc_22 rfl (Src.at_ 1 rfl) h3642 rfl rfl) ?_
              refine TL.v (ltb rfl) (rv_as (v := .int .i64 x3617) rfl) ?_
              refine TL.v (ltb rfl) (rv_as (v := v3643) rfl) ?_
              refine TL.nil ?_
              refine TC.go hK_122 ?_
              refine TC.seq fun K_124 hK_125 => ?_
              refine TC.region ?_
              refine TL.v (ltb rfl) (rv_mv (v := .pointer (some ⟨b2808, 0, none⟩)) h_62) ?_
              refine TL.v (ltb rfl) (rv_nilCheck (a := ⟨b2808, 0, none⟩) rfl) ?_
              refine TL.v (ltb rfl) (rv_fa (b := b2808) (o := 0) fa_159_1 rfl) ?_
              refine TL.v (ltb rfl) (rv_fa (b := b2808) (o := 1) fa_25_3 rfl) ?_
              refine TL.v (ltb rfl) (rv_ld (v := v1616) (o := 4) (o' := 0) (j := 4) sc_23 rfl (Src.at_ 0 rfl) (bx_cells b2808 159 _) rfl rfl) ?_
              refine TL.v (ltb rfl) (rv_mv (v := .int .i64 x3617) rfl) ?_
              obtain ⟨x3645, hx_126, hp⟩ := bind_some' hp
              refine TL.v3 (ltb rfl) (rv_ix 23 (.tmp 84) (.tmp 85) (v := v1616) (i := x3617) Try.underlying23 inf_85 rfl rfl rfl h1617 hx_126) fun b3646 o3647 c3648 h3649 h3650 => ?_
              obtain ⟨v3651, v3653, v3655, rfl, h3652, h3654, h3656⟩ := h3649
              refine TL.v (ltb rfl) (rv_fa (b := b3646) (o := o3647) fa_85_0 rfl) ?_
              refine TL.v (ltb rfl) (rv_ld (v := v3651) (o := o3647) (o' := o3647) (j := 0) sc_82 rfl Src.H h3650 rfl rfl) ?_
              refine TL.v (ltb rfl) (rv_lenI (v := v3651) Try.underlying82 rfl h3652) ?_
              refine TL.v (ltb rfl) (rv_mv (v := .int .i64 0) rfl) ?_
              refine TL.nil ?_
              refine TC.go hK_125 ?_
              refine TC.block ?_
              obtain ⟨z_136, hz_137, hr_138⟩ := bind_some' hp
              clear hp
              have hJ_146 : ∀ (e_141 : Env) (h_142 : e_141 5 = .pointer (some ⟨b2808, 0, none⟩)) (h_143 : e_141 73 = v3614) (h_144 : e_141 74 = .int .i64 (len x3613)) (h_145 : e_141 75 = .int .i64 x3617) (hq_147 : .go () = z_136), ∀ w, St E H [bx b2808 159 [v2, .int .i64 x1608.params, .int .i64 x1608.result, v1614, v1616], F3615] w → K_119 e_141 w := by
                intro e_141 h_142 h_143 h_144 h_145 hq_147
                subst hq_147
                replace hp : check_Func.nx140 x3617 = some x_69 := hr_138
                unfold check_Func.nx140 at hp
                refine TC.go hK_120 ?_
                refine TC.region ?_
                refine TL.v (ltb rfl) (rv_add (k := .i64) (m := x3617) (n := 1) h_145 rfl) ?_
                refine TL.v (ltb rfl) (rv_mv (v := .int .i64 (w64 (x3617 + 1))) rfl) ?_
                refine TL.nil ?_
                exact fun w hw => goOk hp ⟨h_142, h_143, h_144, rfl, rfl⟩ (hw.pick [0, 0])
              refine TC.pk' [0, 0] (L' := [bx b2808 159 [v2, .int .i64 x1608.params, .int .i64 x1608.result, v1614, v1616], F3615]) rfl ?_
              refine TC.loopW (r := z_136) (fun (x3657 : Int) (e_127 : Env) (L_163 : List FP) => e_127 5 = .pointer (some ⟨b2808, 0, none⟩) ∧ e_127 9 = v3643 ∧ e_127 73 = v3614 ∧ e_127 74 = .int .i64 (len x3613) ∧ e_127 75 = .int .i64 x3617 ∧ e_127 88 = v3651 ∧ e_127 89 = .int .i64 (len x3645.phis) ∧ e_127 90 = .int .i64 x3657 ∧ L_163 = [bx b2808 159 [v2, .int .i64 x1608.params, .int .i64 x1608.result, v1614, v1616], F3615]) ?_ FUEL _ _ _ hz_137 ⟨h_62, rfl, h_63, h_64, h_65, rfl, rfl, rfl, rfl⟩
              rintro x3657 e_127 L_163 ⟨h_128, h_129, h_130, h_131, h_132, h_133, h_134, h_135, rfl⟩ x_139 hp hx_140
              replace hp : check_Func.bd140 x3637 x3645 x3657 = some x_139 := hp
              unfold check_Func.bd140 at hp
              refine TC.seq fun K_148 hK_149 => ?_
              refine TC.region ?_
              refine TL.v (ltb rfl) (rv_lss (k := .i64) (m := x3657) (n := (len x3645.phis)) h_135 h_134) ?_
              refine TL.nil ?_
              refine TC.go hK_149 ?_
              refine TC.seq fun K_150 hK_151 => ?_
              by_cases hc_152 : x3657 < (len x3645.phis)
              · rw [if_pos hc_152] at hp
                refine TC.condT (bT hc_152) ?_
                refine TC.skip ?_
                refine TC.go hK_151 ?_
                refine TC.seq fun K_153 hK_154 => ?_
                refine TC.block ?_
                refine TC.seq fun K_155 hK_156 => ?_
                refine TC.region ?_
                obtain ⟨x3658, hx_157, hp⟩ := bind_some' hp
                refine TL.v3 (ltb rfl) (rv_ix 82 (.tmp 88) (.tmp 90) (v := v3651) (i := x3657) Try.underlying82 inf_131 rfl h_133 h_135 h3652 hx_157) fun b3659 o3660 c3661 h3662 h3663 => ?_
                obtain ⟨v3664, rfl, h3665⟩ := h3662
                refine TL.v (ltb rfl) (rv_lda (o := o3660) (o' := o3660) (j := 0) (ds := [.int .i64 x3658.dst, v3664]) ag_131 rfl Src.H h3663 rfl rfl rfl) ?_
                refine TL.alloc (cs := [.int .i64 0, .slice none 0 0]) inf_131 (ltb rfl) rfl fun b3666 => ?_
                refine TL.stB (ds := [.int .i64 x3658.dst, v3664]) (o := 0) (cs := [.int .i64 0, .slice none 0 0]) (b := b3666) (u := .agg #[.int .i64 x3658.dst, v3664]) 0 rfl ms_131 rfl rfl rfl (oc rfl (oc (h3665).one oc0)) (leb rfl) ?_
                refine TL.norm (L' := [bx b3666 131 [.int .i64 x3658.dst, v3664], bx b2808 159 [v2, .int .i64 x1608.params, .int .i64 x1608.result, v1614, v1616], F3615]) rfl ?_
                refine TL.nil ?_
                refine TC.go hK_156 ?_
                refine TC.seq fun K_158 hK_159 => ?_
                refine TC.region ?_
                refine TL.v (ltb rfl) (rv_fa (b := b3666) (o := 0) fa_131_1 rfl) ?_
                refine TL.v (ltb rfl) (rv_ld (v := v3664) (o := 1) (o' := 0) (j := 1) sc_22 rfl (Src.at_ 0 rfl) (bx_cells b3666 131 _) rfl rfl) ?_
                refine TL.v (ltb rfl) (rv_lenI (v := v3664) Try.underlying22 rfl h3665) ?_
                refine TL.v (ltb rfl) (rv_mv (v := v3643) h_129) ?_
                refine TL.v (ltb rfl) (rv_lenI (v := v3643) Try.underlying22 rfl h3644) ?_
                refine TL.v (ltb rfl) (rv_neq (k := .i64) (m := (len x3658.args)) (n := (len x3637)) rfl rfl) ?_
                refine TL.nil ?_
                refine TC.go hK_159 ?_
                by_cases hc_160 : ¬ (len x3658.args) = (len x3637)
                · rw [if_pos hc_160] at hp
                  refine TC.condT (bT hc_160) ?_
                  refine TC.seq fun K_161 hK_162 => ?_
                  refine TC.region ?_
                  refine TL.v (ltb rfl) (rv_makeIface (v := .int .i64 6) Try.underlying72 (fun ms h => by cases h) rfl) ?_
                  refine TL.v (ltb rfl) (rv_as (v := .iface 72 (.int .i64 6)) rfl) ?_
                  refine TL.nil ?_
                  refine TC.go hK_162 ?_
                  refine TC.ret ?_
                  refine W.new0 ?_
                  obtain rfl := ex_ret hp hx_140
                  obtain rfl := ex_ret hr_138 hx_70
                  obtain rfl := Option.some.inj hr_68
                  exact fun w hw => retOk ⟨(.iface 72 (.int .i64 6)), ([] : FP), rfl, rfl, (ErO.mk _ : ErO 72 143 145 (GErr.code 6) (.iface 72 (.int .i64 6)) [])⟩ (hw.pick [0])
                · rw [if_neg hc_160] at hp
                  refine TC.condF (bF hc_160) ?_
                  refine TC.skip ?_
                  refine TC.go hK_154 ?_
                  refine TC.region ?_
                  refine TL.v (ltb rfl) (rv_add (k := .i64) (m := x3657) (n := 1) h_135 rfl) ?_
                  refine TL.v (ltb rfl) (rv_mv (v := .int .i64 (w64 (x3657 + 1))) rfl) ?_
                  refine TL.nil ?_
                  exact fun w hw => goOk hp ⟨h_128, h_129, h_130, h_131, h_132, h_133, h_134, rfl, rfl⟩ (hw.pick [1, 1])
              · rw [if_neg hc_152] at hp
                refine TC.condF (bF hc_152) ?_
                refine TC.exit ?_
                refine fun w hw => hJ_146 _ ?_ ?_ ?_ ?_ (ex_ret hp hx_140) w (hw.pick [0, 0])
                · exact h_128
                · exact h_130
                · exact h_131
                · exact h_132
            · rw [if_neg hc_118] at hp
              refine TC.condF (bF hc_118) ?_
              refine TC.exit ?_
              refine fun w hw => hJ_112 _ ?_ (ex_ret hp hx_70) w (hw.pick [0])
              · exact h_62
          refine TC.pk' [0] (L' := [bx b2808 159 [v2, .int .i64 x1608.params, .int .i64 x1608.result, v1614, v1616]]) rfl ?_
          refine TC.loopW (r := z_48) (fun (x3612 : Int) (e_43 : Env) (L_183 : List FP) => e_43 5 = .pointer (some ⟨b2808, 0, none⟩) ∧ e_43 53 = v1616 ∧ e_43 54 = .int .i64 (len x1608.blocks) ∧ e_43 55 = .int .i64 x3612 ∧ L_183 = [bx b2808 159 [v2, .int .i64 x1608.params, .int .i64 x1608.result, v1614, v1616]]) ?_ FUEL _ _ _ hz_49 ⟨rfl, rfl, rfl, rfl, rfl⟩
          rintro x3612 e_43 L_183 ⟨h_44, h_45, h_46, h_47, rfl⟩ x_51 hp hx_52
          replace hp : check_Func.bd52 x1608 x3612 = some x_51 := hp
          unfold check_Func.bd52 at hp
          refine TC.seq fun K_167 hK_168 => ?_
          refine TC.region ?_
          refine TL.v (ltb rfl) (rv_lss (k := .i64) (m := x3612) (n := (len x1608.blocks)) h_47 h_46) ?_
          refine TL.nil ?_
          refine TC.go hK_168 ?_
          refine TC.seq fun K_169 hK_170 => ?_
          by_cases hc_171 : x3612 < (len x1608.blocks)
          · rw [if_pos hc_171] at hp
            refine TC.condT (bT hc_171) ?_
            refine TC.skip ?_
            refine TC.go hK_170 ?_
            refine TC.seq fun K_172 hK_173 => ?_
            refine TC.block ?_
            refine TC.seq fun K_174 hK_175 => ?_
            refine TC.region ?_
            obtain ⟨x3668, hx_176, hp⟩ := bind_some' hp
            refine TL.v3 (ltb rfl) (rv_ix 23 (.tmp 53) (.tmp 55) (v := v1616) (i := x3612) Try.underlying23 inf_85 rfl h_45 h_47 h1617 hx_176) fun b3669 o3670 c3671 h3672 h3673 => ?_
            obtain ⟨v3674, v3676, v3678, rfl, h3675, h3677, h3679⟩ := h3672
            refine TL.v (ltb rfl) (rv_lda (o := o3670) (o' := o3670) (j := 0) (ds := [v3674, v3676, .int .i64 x3668.term.kind, .int .i64 x3668.term.arg, v3678]) ag_85 rfl Src.H h3673 rfl rfl rfl) ?_
            refine TL.alloc (cs := [.slice none 0 0, .slice none 0 0, .int .i64 0, .int .i64 0, .slice none 0 0]) inf_85 (ltb rfl) rfl fun b3680 => ?_
            refine TL.stB (ds := [v3674, v3676, .int .i64 x3668.term.kind, .int .i64 x3668.term.arg, v3678]) (o := 0) (cs := [.slice none 0 0, .slice none 0 0, .int .i64 0, .int .i64 0, .slice none 0 0]) (b := b3680) (u := .agg #[v3674, v3676, .int .i64 x3668.term.kind, .int .i64 x3668.term.arg, v3678]) 0 rfl ms_85 rfl rfl rfl (oc (h3675).one (oc (h3677).one (oc rfl (oc rfl (oc (h3679).one oc0))))) (leb rfl) ?_
            refine TL.norm (L' := [bx b3680 85 [v3674, v3676, .int .i64 x3668.term.kind, .int .i64 x3668.term.arg, v3678], bx b2808 159 [v2, .int .i64 x1608.params, .int .i64 x1608.result, v1614, v1616]]) rfl ?_
            refine TL.nil ?_
            refine TC.go hK_175 ?_
            refine TC.seq fun K_177 hK_178 => ?_
            refine TC.quiet mix (by kernel_rfl) ?_
            refine QL.v (ltb rfl) (rv_mv (v := .pointer (some ⟨b2808, 0, none⟩)) h_44) ?_
            refine QL.v (ltb rfl) (rv_nilCheck (a := ⟨b2808, 0, none⟩) rfl) ?_
            refine QL.v (ltb rfl) (rv_fa (b := b2808) (o := 0) fa_159_1 rfl) ?_
            refine QL.v (ltb rfl) (rv_lda (o := 1) (o' := 0) (j := 1) (ds := [.int .i64 x1608.params, .int .i64 x1608.result, v1614, v1616]) ag_25 rfl (Src.at_ 1 rfl) (bx_cells b2808 159 _) rfl rfl rfl) ?_
            refine QL.v (ltb rfl) (rv_fa (b := b3680) (o := 0) fa_85_2 rfl) ?_
            refine QL.v (ltb rfl) (rv_lda (o := 2) (o' := 0) (j := 2) (ds := [.int .i64 x3668.term.kind, .int .i64 x3668.term.arg, v3678]) ag_81 rfl (Src.at_ 0 rfl) (bx_cells b3680 85 _) rfl rfl rfl) ?_
            obtain ⟨x3681, hy_179, hp⟩ := bind_some' hp
            refine QL.callC (vs := [.agg #[.int .i64 x1608.params, .int .i64 x1608.result, v1614, v1616], .agg #[.int .i64 x3668.term.kind, .int .i64 x3668.term.arg, v3678]]) (R := check_ends.R x3681) (.bool x3681) cb_95 (ltb rfl) (mc rfl (mc rfl m0)) (fun w hw => check_ends_ok (a1 := x1608) (a6 := x3668.term) (h1615.mono subH) (h1617.mono subH) (h3679.mono subH) hy_179 hw) (fun u A' h => ⟨h.1.symm, h.2⟩) ?_
            refine QL.v (ltb rfl) (rv_not (b := x3681) rfl) ?_
            refine QL.nil ?_
            refine TC.go hK_178 ?_
            by_cases hc_180 : (!x3681) = true
            · rw [if_pos hc_180] at hp
              refine TC.condT (bbT hc_180) ?_
              refine TC.seq fun K_181 hK_182 => ?_
              refine TC.region ?_
              refine TL.v (ltb rfl) (rv_makeIface (v := .int .i64 6) Try.underlying72 (fun ms h => by cases h) rfl) ?_
              refine TL.v (ltb rfl) (rv_as (v := .iface 72 (.int .i64 6)) rfl) ?_
              refine TL.nil ?_
              refine TC.go hK_182 ?_
              refine TC.ret ?_
              refine W.new0 ?_
              obtain rfl := ex_ret hp hx_52
              obtain rfl := Option.some.inj hr_50
              exact fun w hw => retOk ⟨(.iface 72 (.int .i64 6)), ([] : FP), rfl, rfl, (ErO.mk _ : ErO 72 143 145 (GErr.code 6) (.iface 72 (.int .i64 6)) [])⟩ (hw.pick [0])
            · rw [if_neg hc_180] at hp
              refine TC.condF (bbF hc_180) ?_
              refine TC.skip ?_
              refine TC.go hK_173 ?_
              refine TC.region ?_
              refine TL.v (ltb rfl) (rv_add (k := .i64) (m := x3612) (n := 1) h_47 rfl) ?_
              refine TL.v (ltb rfl) (rv_mv (v := .int .i64 (w64 (x3612 + 1))) rfl) ?_
              refine TL.nil ?_
              exact fun w hw => goOk hp ⟨h_44, h_45, h_46, rfl, rfl⟩ (hw.pick [1])
          · rw [if_neg hc_171] at hp
            refine TC.condF (bF hc_171) ?_
            refine TC.exit ?_
            refine fun w hw => hJ_165 _ ?_ (ex_ret hp hx_52) w (hw.pick [0])
            · exact h_44
  by_cases hc_10 : a4 < 0
  · refine TL.gno true rfl (fun d hd => by cases hd; exact ltb rfl) (yieldE_of rfl (bT hc_10)) rfl ?_
    refine TL.gno true rfl (fun d hd => by cases hd; exact ltb rfl) (yieldE_of rfl (bT hc_10)) rfl ?_
    refine TL.gno true rfl (fun d hd => by cases hd; exact ltb rfl) (yieldE_of rfl (bT hc_10)) rfl ?_
    refine TL.gno true rfl (fun d hd => by cases hd; exact ltb rfl) (yieldE_of rfl (bT hc_10)) rfl ?_
    refine TL.gno true rfl (fun d hd => by cases hd; exact ltb rfl) (yieldE_of rfl (bT hc_10)) rfl ?_
    refine TL.v (ltb rfl) (rv_pickT true (bT hc_10) rfl (v := .bool true) rfl) ?_
    refine TL.nil (hJ_9 _ ?_ ?_ ?_)
    · exact rfl
    · exact rfl
    · exact (bOt hc_10)
  · refine TL.gyes false (yieldE_of rfl (bF hc_10)) rfl ?_
    refine TL.v (ltb rfl) (rv_mv (v := .int .i64 a4) rfl) ?_
    refine TL.gyes false (yieldE_of rfl (bF hc_10)) rfl ?_
    refine TL.v (ltb rfl) (rv_fa (b := b5) (o := 0) fa_90_0 rfl) ?_
    refine TL.gyes false (yieldE_of rfl (bF hc_10)) rfl ?_
    refine TL.v (ltb rfl) (rv_ld (v := v2) (o := 0) (o' := 0) (j := 0) sc_88 rfl (Src.at_ 0 rfl) (bx_cells b5 90 _) rfl rfl) ?_
    refine TL.gyes false (yieldE_of rfl (bF hc_10)) rfl ?_
    refine TL.v (ltb rfl) (rv_lenI (v := v2) Try.underlying88 rfl h3) ?_
    refine TL.gyes false (yieldE_of rfl (bF hc_10)) rfl ?_
    refine TL.v (ltb rfl) (rv_geq (k := .i64) (m := a4) (n := (len a1.funcs)) rfl rfl) ?_
    refine TL.v (ltb rfl) (rv_pickF false (bF hc_10) rfl (v := .bool (decide (a4 ≥ (len a1.funcs)))) rfl) ?_
    refine TL.nil (hJ_9 _ ?_ ?_ ?_)
    · exact rfl
    · exact rfl
    · exact (bOf hc_10)

/-! ### fettle/check.Module -/
abbrev check_Module.R (r : GErr) (v : Value) (A : List FP) : Prop := ∃ (w1 : Value) (G1 : FP), w1 = v ∧ A = [G1] ∧ ErO 72 143 145 r w1 G1
def check_Module.nx22  : Option GErr :=
  some GErr.no
def check_Module.bd22 (a1 : PModule) (x6 : Int) : Option (Ex (Ex GErr Unit) Int) :=
  if x6 < (len a1.funcs) then
    (check_Func a1 x6).bind fun x8 =>
    if ¬ x8 = GErr.no then
      some (.ret (.ret (GErr.spot x6 x8)))
    else
      some (.go (w64 (x6 + 1)))
  else
    some (.ret (.go ()))
def check_Module (a1 : PModule) : Option GErr :=
  if (len a1.funcs) > 32 then
    some (GErr.code 5)
  else
    (whl (fun (s : Int) => check_Module.bd22 a1 s) FUEL 0).bind fun z =>
    match z with
      | .ret r => some r
      | .go p => check_Module.nx22
theorem check_Module_ok {E : World} {H : FP} {w : World} {a1 : PModule} {v2 : Value} {r : GErr} (h3 : SlI kFunc H a1.funcs v2) (hp : check_Module a1 = some r) (hst : St E H [] w) :
    Fn Try.prog 59 #[.agg #[v2]] w fun v w' => ∃ A, check_Module.R r v A ∧ St E H A w' := by
  refine Fn.body (fn := Try.f59) (args := [.agg #[v2]]) E H [] [.tmp 2] 27 Try.func59 rfl rfl rfl rfl (leb rfl) hst ?_
  unfold check_Module at hp
  refine TC.seq fun K_1 hK_2 => ?_
  refine TC.region ?_
  refine TL.box (cs := [v2]) (v := .agg #[v2]) (ltb rfl) rfl rfl fun b4 => ?_
  refine TL.v (ltb rfl) (rv_as (v := .nilIface) rfl) ?_
  refine TL.nil ?_
  refine TC.go hK_2 ?_
  refine TC.seq fun K_3 hK_4 => ?_
  refine TC.seq fun K_5 hK_6 => ?_
  refine TC.region ?_
  refine TL.v (ltb rfl) (rv_fa (b := b4) (o := 0) fa_90_0 rfl) ?_
  refine TL.v (ltb rfl) (rv_ld (v := v2) (o := 0) (o' := 0) (j := 0) sc_88 rfl (Src.at_ 0 rfl) (bx_cells b4 90 _) rfl rfl) ?_
  refine TL.v (ltb rfl) (rv_lenI (v := v2) Try.underlying88 rfl h3) ?_
  refine TL.v (ltb rfl) (rv_gtr (k := .i64) (m := (len a1.funcs)) (n := 32) rfl rfl) ?_
  refine TL.nil ?_
  refine TC.go hK_6 ?_
  by_cases hc_7 : (len a1.funcs) > 32
  · rw [if_pos hc_7] at hp
    refine TC.condT (bT hc_7) ?_
    refine TC.seq fun K_8 hK_9 => ?_
    refine TC.region ?_
    refine TL.v (ltb rfl) (rv_makeIface (v := .int .i64 5) Try.underlying72 (fun ms h => by cases h) rfl) ?_
    refine TL.v (ltb rfl) (rv_as (v := .iface 72 (.int .i64 5)) rfl) ?_
    refine TL.nil ?_
    refine TC.go hK_9 ?_
    refine TC.ret ?_
    refine W.new0 ?_
    obtain rfl := Option.some.inj hp
    exact fun w hw => retOk ⟨(.iface 72 (.int .i64 5)), ([] : FP), rfl, rfl, (ErO.mk _ : ErO 72 143 145 (GErr.code 5) (.iface 72 (.int .i64 5)) [])⟩ (hw.pick [0])
  · rw [if_neg hc_7] at hp
    refine TC.condF (bF hc_7) ?_
    refine TC.skip ?_
    refine TC.go hK_4 ?_
    refine TC.seq fun K_10 hK_11 => ?_
    refine TC.seq fun K_12 hK_13 => ?_
    refine TC.region ?_
    refine TL.v (ltb rfl) (rv_fa (b := b4) (o := 0) fa_90_0 rfl) ?_
    refine TL.v (ltb rfl) (rv_ld (v := v2) (o := 0) (o' := 0) (j := 0) sc_88 rfl (Src.at_ 0 rfl) (bx_cells b4 90 _) rfl rfl) ?_
    refine TL.v (ltb rfl) (rv_lenI (v := v2) Try.underlying88 rfl h3) ?_
    refine TL.v (ltb rfl) (rv_mv (v := .int .i64 0) rfl) ?_
    refine TL.nil ?_
    refine TC.go hK_13 ?_
    refine TC.block ?_
    obtain ⟨z_18, hz_19, hr_20⟩ := bind_some' hp
    clear hp
    have hJ_26 : ∀ (e_23 : Env) (hq_27 : .go () = z_18), ∀ w, St E H [] w → K_10 e_23 w := by
      intro e_23 hq_27
      subst hq_27
      replace hp : check_Module.nx22 = some r := hr_20
      unfold check_Module.nx22 at hp
      refine TC.go hK_11 ?_
      refine TC.seq fun K_24 hK_25 => ?_
      refine TC.region ?_
      refine TL.v (ltb rfl) (rv_as (v := .nilIface) rfl) ?_
      refine TL.nil ?_
      refine TC.go hK_25 ?_
      refine TC.ret ?_
      refine W.new0 ?_
      obtain rfl := Option.some.inj hp
      exact fun w hw => retOk ⟨.nilIface, ([] : FP), rfl, rfl, (ErO.nil : ErO 72 143 145 GErr.no .nilIface [])⟩ (hw.pick [0])
    refine TC.pk' [0] (L' := [bx b4 90 [v2]]) rfl ?_
    refine TC.loopW (r := z_18) (fun (x6 : Int) (e_14 : Env) (L_46 : List FP) => e_14 1 = .pointer (some ⟨b4, 0, none⟩) ∧ e_14 12 = .int .i64 (len a1.funcs) ∧ e_14 13 = .int .i64 x6 ∧ L_46 = [bx b4 90 [v2]]) ?_ FUEL _ _ _ hz_19 ⟨rfl, rfl, rfl, rfl⟩
    rintro x6 e_14 L_46 ⟨h_15, h_16, h_17, rfl⟩ x_21 hp hx_22
    replace hp : check_Module.bd22 a1 x6 = some x_21 := hp
    unfold check_Module.bd22 at hp
    refine TC.seq fun K_28 hK_29 => ?_
    refine TC.region ?_
    refine TL.v (ltb rfl) (rv_lss (k := .i64) (m := x6) (n := (len a1.funcs)) h_17 h_16) ?_
    refine TL.nil ?_
    refine TC.go hK_29 ?_
    refine TC.seq fun K_30 hK_31 => ?_
    by_cases hc_32 : x6 < (len a1.funcs)
    · rw [if_pos hc_32] at hp
      refine TC.condT (bT hc_32) ?_
      refine TC.skip ?_
      refine TC.go hK_31 ?_
      refine TC.seq fun K_33 hK_34 => ?_
      refine TC.block ?_
      refine TC.seq fun K_35 hK_36 => ?_
      refine TC.region ?_
      refine TL.v (ltb rfl) (rv_mv (v := .int .i64 x6) h_17) ?_
      refine TL.v (ltb rfl) (rv_as (v := .int .i64 x6) rfl) ?_
      refine TL.nil ?_
      refine TC.go hK_36 ?_
      refine TC.seq fun K_37 hK_38 => ?_
      refine TC.region ?_
      refine TL.v (ltb rfl) (rv_lda (o := 0) (o' := 0) (j := 0) (ds := [v2]) ag_90 h_15 (Src.at_ 0 rfl) (bx_cells b4 90 _) rfl rfl rfl) ?_
      refine TL.v (ltb rfl) (rv_mv (v := .int .i64 x6) rfl) ?_
      obtain ⟨x8, hy_39, hp⟩ := bind_some' hp
      refine TL.callC (vs := [.agg #[v2], .int .i64 x6]) (R := check_Func.R x8) [] [bx b4 90 [v2]] rfl cb_84 (ltb rfl) (mc rfl (mc rfl m0)) (fun w hw => check_Func_ok (a1 := a1) (a4 := x6) (h3.mono subH) hy_39 hw) fun v A' hR_40 => ?_
      obtain ⟨v9, F10, rfl, rfl, h11⟩ := hR_40
      refine TL.norm (L' := [F10, bx b4 90 [v2]]) rfl ?_
      refine TL.v (ltb rfl) (rv_as (v := v9) rfl) ?_
      refine TL.nil ?_
      refine TC.go hK_38 ?_
      refine TC.seq fun K_41 hK_42 => ?_
      refine TC.region ?_
      refine TL.v (ltb rfl) (rv_mv (v := v9) rfl) ?_
      refine TL.v (ltb rfl) (rv_neqEN ifc_49 h11 rfl) ?_
      refine TL.nil ?_
      refine TC.go hK_42 ?_
      by_cases hc_43 : ¬ x8 = GErr.no
      · rw [if_pos hc_43] at hp
        refine TC.condT (bT hc_43) ?_
        refine TC.seq fun K_44 hK_45 => ?_
        refine TC.region ?_
        refine TL.v (ltb rfl) (rv_mv (v := .int .i64 x6) rfl) ?_
        refine TL.v (ltb rfl) (rv_mv (v := v9) rfl) ?_
        refine TL.v (ltb rfl) (rv_bv (vs := [(0, .int .i64 x6), (1, v9)]) (ds := [.int .i64 x6, v9]) (pc rfl (pc rfl p0)) (fun w => by rcases (h11).shp with rfl | ⟨_, _, rfl⟩ <;> kernel_rfl)) ?_
        refine TL.box (cs := [.int .i64 x6, v9]) (v := .agg #[.int .i64 x6, v9]) (ltb rfl) rfl rfl fun b12 => ?_
        refine TL.v (ltb rfl) (rv_makeIface (v := .pointer (some ⟨b12, 0, none⟩)) Try.underlying143 (fun ms h => by cases h) rfl) ?_
        refine TL.perm (L' := [bx b12 145 [.int .i64 x6, v9] ++ (F10), bx b4 90 [v2]]) (by simp) ?_
        refine TL.v (ltb rfl) (rv_as (v := (.iface 143 (.pointer (some ⟨b12, 0, none⟩)))) rfl) ?_
        refine TL.nil ?_
        refine TC.go hK_45 ?_
        refine TC.ret ?_
        obtain rfl := ex_ret hp hx_22
        obtain rfl := Option.some.inj hr_20
        exact fun w hw => retOk ⟨(.iface 143 (.pointer (some ⟨b12, 0, none⟩))), (bx b12 145 [.int .i64 x6, v9] ++ (F10)), rfl, rfl, (ErO.at_ x6 b12 h11)⟩ (hw.pick [0])
      · rw [if_neg hc_43] at hp
        refine TC.condF (bF hc_43) ?_
        refine TC.skip ?_
        refine TC.go hK_34 ?_
        refine TC.region ?_
        refine TL.v (ltb rfl) (rv_add (k := .i64) (m := x6) (n := 1) h_17 rfl) ?_
        refine TL.v (ltb rfl) (rv_mv (v := .int .i64 (w64 (x6 + 1))) rfl) ?_
        refine TL.nil ?_
        exact fun w hw => goOk hp ⟨h_15, h_16, rfl, rfl⟩ (hw.pick [1])
    · rw [if_neg hc_32] at hp
      refine TC.condF (bF hc_32) ?_
      refine TC.exit ?_
      refine fun w hw => hJ_26 _ (ex_ret hp hx_22) w (hw.pick [])
end Go.Proofs.Ytoflleabpkgdpaa
