/- The walk through the program's functions: each one's pure reading, and that a call does what it says. No conditions. -/
import Derived.Test.YtoflleabpkgdpaaS5
import Derived.Test.YtoflleabpkgdpaaS7
set_option linter.unusedVariables false
set_option linter.unusedSimpArgs false
namespace Go.Proofs.Ytoflleabpkgdpaa
open Go Go.Proofs

/-! ### fettle/fettlelaw05.GraphSame -/
abbrev fettlelaw05_GraphSame.R (r : Bool) (v : Value) (A : List FP) : Prop := .bool r = v ∧ A = []
def fettlelaw05_GraphSame.jn86 (a1 : PModule) (a4 : Int) (a5 : Int) (a6 : List Int) (x11 : Bool) (x17 : PModule) (x32 : PFunc × List Int) (x49 : Int) : Option Bool :=
  (check_Module (⟨(x17.funcs.set (a4).toNat x32.1)⟩ : PModule)).bind fun x50 =>
  (run_Run a1 a5 a6 x49).bind fun x54 =>
  (run_Run (⟨(x17.funcs.set (a4).toNat x32.1)⟩ : PModule) a5 a6 x49).bind fun x62 =>
  (if (x11 = true ∧ x50 = GErr.no) ∧ (((decide (x54.2 = GErr.no)) == (decide (x62.2 = GErr.no))) = true) then (fettleref04_Same x54.1 x62.1).bind fun x71 =>
  some x71 else some false).bind fun t70 =>
  some t70
def fettlelaw05_GraphSame (a1 : PModule) (a4 : Int) (a5 : Int) (a6 : List Int) (a9 : Int) : Option Bool :=
  (fettlelaw05_up).bind fun x11 =>
  (fettleref02_Small a1).bind fun x12 =>
  if (!x12) = true ∨ (len a6) > 20 then
    some x11
  else
    (check_Module a1).bind fun x13 =>
    if ((¬ x13 = GErr.no) ∨ a4 < 0) ∨ a4 ≥ (len a1.funcs) then
      some x11
    else
      (fettleref02_Copy a1).bind fun x17 =>
      (idx x17.funcs a4).bind fun x22 =>
      (graph_Trim x22).bind fun x32 =>
      (idx x17.funcs a4).bind fun x43 =>
      if a9 > 1000 then
        fettlelaw05_GraphSame.jn86 a1 a4 a5 a6 x11 x17 x32 (Int.tmod a9 1000)
      else
        fettlelaw05_GraphSame.jn86 a1 a4 a5 a6 x11 x17 x32 a9
set_option maxHeartbeats 4000000 in
theorem fettlelaw05_GraphSame_ok {E : World} {H : FP} {w : World} {a1 : PModule} {a4 : Int} {a5 : Int} {a6 : List Int} {a9 : Int} {v2 : Value} {v7 : Value} {r : Bool} (h3 : SlI kFunc H a1.funcs v2) (h8 : SlI (kInt .i64) H a6 v7) (hp : fettlelaw05_GraphSame a1 a4 a5 a6 a9 = some r) (hst : St E H [] w) :
    Fn Try.prog 15 #[.agg #[v2], .int .i64 a4, .int .i64 a5, v7, .int .i64 a9] w fun v w' => ∃ A, fettlelaw05_GraphSame.R r v A ∧ St E H A w' := by
  refine Fn.body (fn := Try.f15) (args := [.agg #[v2], .int .i64 a4, .int .i64 a5, v7, .int .i64 a9]) E H [] [.tmp 10] 104 Try.func15 rfl rfl rfl rfl (leb rfl) hst ?_
  unfold fettlelaw05_GraphSame at hp
  refine TC.seq fun K_1 hK_2 => ?_
  refine TC.region ?_
  refine TL.box (cs := [v2]) (v := .agg #[v2]) (ltb rfl) rfl rfl fun b10 => ?_
  refine TL.v (ltb rfl) (rv_as (v := .bool false) rfl) ?_
  refine TL.nil ?_
  refine TC.go hK_2 ?_
  refine TC.seq fun K_3 hK_4 => ?_
  refine TC.region ?_
  obtain ⟨x11, hy_5, hp⟩ := bind_some' hp
  refine TL.callC (vs := []) (R := fettlelaw05_up.R x11) [] [bx b10 90 [v2]] rfl cb_16 (ltb rfl) m0 (fun w hw => fettlelaw05_up_ok hy_5 hw) fun v A' hR_6 => ?_
  obtain ⟨rfl, rfl⟩ := hR_6
  refine TL.norm (L' := [bx b10 90 [v2]]) rfl ?_
  refine TL.v (ltb rfl) (rv_as (v := .bool x11) rfl) ?_
  refine TL.nil ?_
  refine TC.go hK_4 ?_
  refine TC.seq fun K_7 hK_8 => ?_
  refine TC.region ?_
  refine TL.v (ltb rfl) (rv_lda (o := 0) (o' := 0) (j := 0) (ds := [v2]) ag_90 rfl (Src.at_ 0 rfl) (bx_cells b10 90 _) rfl rfl rfl) ?_
  obtain ⟨x12, hy_9, hp⟩ := bind_some' hp
  refine TL.callC (vs := [.agg #[v2]]) (R := fettleref02_Small.R x12) [] [bx b10 90 [v2]] rfl cb_48 (ltb rfl) (mc rfl m0) (fun w hw => fettleref02_Small_ok (a1 := a1) (h3.mono subH) hy_9 hw) fun v A' hR_10 => ?_
  obtain ⟨rfl, rfl⟩ := hR_10
  refine TL.norm (L' := [bx b10 90 [v2]]) rfl ?_
  refine TL.v (ltb rfl) (rv_as (v := .bool x12) rfl) ?_
  refine TL.nil ?_
  refine TC.go hK_8 ?_
  refine TC.seq fun K_11 hK_12 => ?_
  refine TC.seq fun K_13 hK_14 => ?_
  refine TC.region ?_
  refine TL.v (ltb rfl) (rv_mv (v := .bool x12) rfl) ?_
  refine TL.v (ltb rfl) (rv_not (b := x12) rfl) ?_
  refine TL.v (ltb rfl) (rv_mv (v := .bool (!x12)) rfl) ?_
  refine TL.cut 4 fun K_15 hK_16 => ?_
  have hJ_17 : ∀ e_19 : Env, e_19 1 = .int .i64 a4 → e_19 2 = .int .i64 a5 → e_19 3 = v7 → e_19 4 = .int .i64 a9 → e_19 5 = .pointer (some ⟨b10, 0, none⟩) → e_19 11 = .bool x11 → e_19 31 = .bool (decide ((!x12) = true ∨ (len a6) > 20)) → ∀ w, St E H [bx b10 90 [v2]] w → K_15 e_19 w := by
    intro e_19 h_20 h_21 h_22 h_23 h_24 h_25 h_26
    refine TL.go hK_16 ?_
    refine TL.nil ?_
    refine TC.go hK_14 ?_
    by_cases hc_27 : (!x12) = true ∨ (len a6) > 20
    · rw [if_pos hc_27] at hp
      refine TC.condT (h_26.trans (bT hc_27)) ?_
      refine TC.seq fun K_28 hK_29 => ?_
      refine TC.region ?_
      refine TL.v (ltb rfl) (rv_mv (v := .bool x11) h_25) ?_
      refine TL.v (ltb rfl) (rv_as (v := .bool x11) rfl) ?_
      refine TL.nil ?_
      refine TC.go hK_29 ?_
      refine TC.ret ?_
      obtain rfl := Option.some.inj hp
      exact fun w hw => retOk ⟨rfl, rfl⟩ (hw.pick [])
    · rw [if_neg hc_27] at hp
      refine TC.condF (h_26.trans (bF hc_27)) ?_
      refine TC.skip ?_
      refine TC.go hK_12 ?_
      refine TC.seq fun K_30 hK_31 => ?_
      refine TC.region ?_
      refine TL.v (ltb rfl) (rv_lda (o := 0) (o' := 0) (j := 0) (ds := [v2]) ag_90 h_24 (Src.at_ 0 rfl) (bx_cells b10 90 _) rfl rfl rfl) ?_
      obtain ⟨x13, hy_32, hp⟩ := bind_some' hp
      refine TL.callC (vs := [.agg #[v2]]) (R := check_Module.R x13) [] [bx b10 90 [v2]] rfl cb_59 (ltb rfl) (mc rfl m0) (fun w hw => check_Module_ok (a1 := a1) (h3.mono subH) hy_32 hw) fun v A' hR_33 => ?_
      obtain ⟨v14, F15, rfl, rfl, h16⟩ := hR_33
      refine TL.norm (L' := [F15, bx b10 90 [v2]]) rfl ?_
      refine TL.v (ltb rfl) (rv_as (v := v14) rfl) ?_
      refine TL.nil ?_
      refine TC.go hK_31 ?_
      refine TC.seq fun K_34 hK_35 => ?_
      refine TC.seq fun K_36 hK_37 => ?_
      refine TC.region ?_
      refine TL.v (ltb rfl) (rv_mv (v := v14) rfl) ?_
      refine TL.v (ltb rfl) (rv_neqEN ifc_49 h16 rfl) ?_
      refine TL.v (ltb rfl) (rv_mv (v := .bool (decide (¬ x13 = GErr.no))) rfl) ?_
      refine TL.cut 3 fun K_38 hK_39 => ?_
      have hJ_40 : ∀ e_42 : Env, e_42 1 = .int .i64 a4 → e_42 2 = .int .i64 a5 → e_42 3 = v7 → e_42 4 = .int .i64 a9 → e_42 5 = .pointer (some ⟨b10, 0, none⟩) → e_42 11 = .bool x11 → e_42 40 = .bool (decide ((¬ x13 = GErr.no) ∨ a4 < 0)) → ∀ w, St E H [F15, bx b10 90 [v2]] w → K_38 e_42 w := by
        intro e_42 h_43 h_44 h_45 h_46 h_47 h_48 h_49
        refine TL.go hK_39 ?_
        refine TL.v (ltb rfl) (rv_mv (v := .bool (decide ((¬ x13 = GErr.no) ∨ a4 < 0))) h_49) ?_
        refine TL.cut 6 fun K_50 hK_51 => ?_
        have hJ_52 : ∀ e_54 : Env, e_54 1 = .int .i64 a4 → e_54 2 = .int .i64 a5 → e_54 3 = v7 → e_54 4 = .int .i64 a9 → e_54 5 = .pointer (some ⟨b10, 0, none⟩) → e_54 11 = .bool x11 → e_54 47 = .bool (decide (((¬ x13 = GErr.no) ∨ a4 < 0) ∨ a4 ≥ (len a1.funcs))) → ∀ w, St E H [F15, bx b10 90 [v2]] w → K_50 e_54 w := by
          intro e_54 h_55 h_56 h_57 h_58 h_59 h_60 h_61
          refine TL.go hK_51 ?_
          refine TL.nil ?_
          refine TC.go hK_37 ?_
          by_cases hc_62 : ((¬ x13 = GErr.no) ∨ a4 < 0) ∨ a4 ≥ (len a1.funcs)
          · rw [if_pos hc_62] at hp
            refine TC.condT (h_61.trans (bT hc_62)) ?_
            refine TC.seq fun K_63 hK_64 => ?_
            refine TC.region ?_
            refine TL.v (ltb rfl) (rv_mv (v := .bool x11) h_60) ?_
            refine TL.v (ltb rfl) (rv_as (v := .bool x11) rfl) ?_
            refine TL.nil ?_
            refine TC.go hK_64 ?_
            refine TC.ret ?_
            obtain rfl := Option.some.inj hp
            exact fun w hw => retOk ⟨rfl, rfl⟩ (hw.pick [])
          · rw [if_neg hc_62] at hp
            refine TC.condF (h_61.trans (bF hc_62)) ?_
            refine TC.skip ?_
            refine TC.go hK_35 ?_
            refine TC.seq fun K_65 hK_66 => ?_
            refine TC.region ?_
            refine TL.v (ltb rfl) (rv_lda (o := 0) (o' := 0) (j := 0) (ds := [v2]) ag_90 h_59 (Src.at_ 1 rfl) (bx_cells b10 90 _) rfl rfl rfl) ?_
            obtain ⟨x17, hy_67, hp⟩ := bind_some' hp
            refine TL.callC (vs := [.agg #[v2]]) (R := fettleref02_Copy.R x17) [] [F15, bx b10 90 [v2]] rfl cb_49 (ltb rfl) (mc rfl m0) (fun w hw => fettleref02_Copy_ok (a1 := a1) (h3.mono subH) hy_67 hw) fun v A' hR_68 => ?_
            obtain ⟨v18, F19, rfl, rfl, h20⟩ := hR_68
            refine TL.norm (L' := [F19, F15, bx b10 90 [v2]]) rfl ?_
            refine TL.alloc (cs := [.slice none 0 0]) inf_90 (ltb rfl) rfl fun b21 => ?_
            refine TL.stB (ds := [v18]) (o := 0) (cs := [.slice none 0 0]) (b := b21) (u := .agg #[v18]) 0 rfl ms_90 rfl rfl rfl (oc (h20).one oc0) (leb rfl) ?_
            refine TL.norm (L' := [bx b21 90 [v18], F19, F15, bx b10 90 [v2]]) rfl ?_
            refine TL.nil ?_
            refine TC.go hK_66 ?_
            refine TC.seq fun K_69 hK_70 => ?_
            refine TC.region ?_
            refine TL.v (ltb rfl) (rv_fa (b := b21) (o := 0) fa_90_0 rfl) ?_
            refine TL.v (ltb rfl) (rv_ld (v := v18) (o := 0) (o' := 0) (j := 0) sc_88 rfl (Src.at_ 0 rfl) (bx_cells b21 90 _) rfl rfl) ?_
            refine TL.v (ltb rfl) (rv_mv (v := .int .i64 a4) h_55) ?_
            obtain ⟨x22, hx_71, hp⟩ := bind_some' hp
            refine TL.v3 (ltb rfl) (rv_ix 88 (.tmp 53) (.tmp 54) (v := v18) (i := a4) Try.underlying88 inf_25 rfl rfl rfl (h20).ro hx_71) fun b23 o24 c25 h26 h27 => ?_
            obtain ⟨v28, v30, rfl, h29, h31⟩ := h26
            refine TL.v (ltb rfl) (rv_lda (o := o24) (o' := o24) (j := 0) (ds := [.int .i64 x22.params, .int .i64 x22.result, v28, v30]) ag_25 rfl (Src.at_ 1 rfl) h27 rfl rfl rfl) ?_
            obtain ⟨x32, hy_72, hp⟩ := bind_some' hp
            refine TL.callC (vs := [.agg #[.int .i64 x22.params, .int .i64 x22.result, v28, v30]]) (R := graph_Trim.R x32) [] [bx b21 90 [v18], F19, F15, bx b10 90 [v2]] rfl cb_42 (ltb rfl) (mc rfl m0) (fun w hw => graph_Trim_ok (a1 := x22) (h29.mono (subB 1 rfl)) (h31.mono (subB 1 rfl)) hy_72 hw) fun v A' hR_73 => ?_
            obtain ⟨v33, F34, v36, F37, v39, F40, rfl, rfl, h35, h38, h41⟩ := hR_73
            refine TL.norm (L' := [F34, F37, F40, bx b21 90 [v18], F19, F15, bx b10 90 [v2]]) rfl ?_
            refine TL.v (ltb rfl) (rv_mv (v := .tuple #[.agg #[.int .i64 x32.1.params, .int .i64 x32.1.result, v33, v36], v39]) rfl) ?_
            refine TL.v (ltb rfl) (rv_extract (vs := #[.agg #[.int .i64 x32.1.params, .int .i64 x32.1.result, v33, v36], v39]) (v := .agg #[.int .i64 x32.1.params, .int .i64 x32.1.result, v33, v36]) rfl rfl) ?_
            refine TL.v (ltb rfl) (rv_extract (vs := #[.agg #[.int .i64 x32.1.params, .int .i64 x32.1.result, v33, v36], v39]) (v := v39) rfl rfl) ?_
            refine TL.alloc (cs := [.int .i64 0, .int .i64 0, .slice none 0 0, .slice none 0 0]) inf_25 (ltb rfl) rfl fun b42 => ?_
            refine TL.stB (ds := [.int .i64 x32.1.params, .int .i64 x32.1.result, v33, v36]) (o := 0) (cs := [.int .i64 0, .int .i64 0, .slice none 0 0, .slice none 0 0]) (b := b42) (u := .agg #[.int .i64 x32.1.params, .int .i64 x32.1.result, v33, v36]) 0 rfl ms_25 rfl rfl rfl (oc rfl (oc rfl (oc (h35).one (oc (h38).one oc0)))) (leb rfl) ?_
            refine TL.norm (L' := [bx b42 25 [.int .i64 x32.1.params, .int .i64 x32.1.result, v33, v36], F34, F37, F40, bx b21 90 [v18], F19, F15, bx b10 90 [v2]]) rfl ?_
            refine TL.v (ltb rfl) (rv_as (v := v39) rfl) ?_
            refine TL.nil ?_
            refine TC.go hK_70 ?_
            refine TC.seq fun K_74 hK_75 => ?_
            refine TC.region ?_
            refine TL.v (ltb rfl) (rv_fa (b := b21) (o := 0) fa_90_0 rfl) ?_
            refine TL.v (ltb rfl) (rv_ld (v := v18) (o := 0) (o' := 0) (j := 0) sc_88 rfl (Src.at_ 4 rfl) (bx_cells b21 90 _) rfl rfl) ?_
            refine TL.v (ltb rfl) (rv_mv (v := .int .i64 a4) h_55) ?_
            refine TL.v (ltb rfl) (rv_lda (o := 0) (o' := 0) (j := 0) (ds := [.int .i64 x32.1.params, .int .i64 x32.1.result, v33, v36]) ag_25 rfl (Src.at_ 0 rfl) (bx_cells b42 25 _) rfl rfl rfl) ?_
            obtain ⟨x43, hx_76, hp⟩ := bind_some' hp
            refine TL.v2 (ltb rfl) (rv_ixO 88 (.tmp 61) (.tmp 62) (v := v18) (i := a4) Try.underlying88 inf_25 rfl rfl rfl h20 (idx_some hx_76).1 (idx_some hx_76).2.1) fun b44 o45 h46 => ?_
            refine TL.pk' [5, 1, 1, 0, 0, 0, 0, 0] (L' := [F19, F34, F37, bx b42 25 [.int .i64 x32.1.params, .int .i64 x32.1.result, v33, v36], F40, bx b21 90 [v18], F15, bx b10 90 [v2]]) rfl ?_
            refine TL.perm (L' := [F19, F34 ++ (F37), bx b42 25 [.int .i64 x32.1.params, .int .i64 x32.1.result, v33, v36], F40, bx b21 90 [v18], F15, bx b10 90 [v2]]) (by simp) ?_
            refine TL.stE (ds := [.int .i64 x32.1.params, .int .i64 x32.1.result, v33, v36]) (u := .agg #[.int .i64 x32.1.params, .int .i64 x32.1.result, v33, v36]) (a := x32.1) h20 h46 ms_25 rfl rfl rfl ⟨_, _, _, _, rfl, rfl, h35, h38⟩ fun F47 h48 => ?_
            refine TL.nil ?_
            refine TC.go hK_75 ?_
            refine TC.seq fun K_77 hK_78 => ?_
            have hJ_86 : ∀ (x49 : Int) (e_79 : Env) (h_80 : e_79 2 = .int .i64 a5) (h_81 : e_79 3 = v7) (h_82 : e_79 4 = .int .i64 x49) (h_83 : e_79 5 = .pointer (some ⟨b10, 0, none⟩)) (h_84 : e_79 11 = .bool x11) (h_85 : e_79 14 = .pointer (some ⟨b21, 0, none⟩)) (hp : fettlelaw05_GraphSame.jn86 a1 a4 a5 a6 x11 x17 x32 x49 = some r), ∀ w, St E H [bx b10 90 [v2], bx b21 90 [v18], F47] w → K_77 e_79 w := by
              intro x49 e_79 h_80 h_81 h_82 h_83 h_84 h_85 hp
              unfold fettlelaw05_GraphSame.jn86 at hp
              refine TC.go hK_78 ?_
              refine TC.seq fun K_87 hK_88 => ?_
              refine TC.region ?_
              refine TL.v (ltb rfl) (rv_lda (o := 0) (o' := 0) (j := 0) (ds := [v18]) ag_90 h_85 (Src.at_ 1 rfl) (bx_cells b21 90 _) rfl rfl rfl) ?_
              obtain ⟨x50, hy_89, hp⟩ := bind_some' hp
              refine TL.callC (vs := [.agg #[v18]]) (R := check_Module.R x50) [] [bx b10 90 [v2], bx b21 90 [v18], F47] rfl cb_59 (ltb rfl) (mc rfl m0) (fun w hw => check_Module_ok (a1 := (⟨(x17.funcs.set (a4).toNat x32.1)⟩ : PModule)) (h48.ro.mono (subB 2 rfl)) hy_89 hw) fun v A' hR_90 => ?_
              obtain ⟨v51, F52, rfl, rfl, h53⟩ := hR_90
              refine TL.norm (L' := [F52, bx b10 90 [v2], bx b21 90 [v18], F47]) rfl ?_
              refine TL.v (ltb rfl) (rv_as (v := v51) rfl) ?_
              refine TL.nil ?_
              refine TC.go hK_88 ?_
              refine TC.seq fun K_91 hK_92 => ?_
              refine TC.region ?_
              refine TL.v (ltb rfl) (rv_lda (o := 0) (o' := 0) (j := 0) (ds := [v2]) ag_90 h_83 (Src.at_ 1 rfl) (bx_cells b10 90 _) rfl rfl rfl) ?_
              refine TL.v (ltb rfl) (rv_mv (v := .int .i64 a5) h_80) ?_
              refine TL.v (ltb rfl) (rv_mv (v := v7) h_81) ?_
              refine TL.v (ltb rfl) (rv_mv (v := .int .i64 x49) h_82) ?_
              obtain ⟨x54, hy_93, hp⟩ := bind_some' hp
              refine TL.callC (vs := [.agg #[v2], .int .i64 a5, v7, .int .i64 x49]) (R := run_Run.R x54) [] [F52, bx b10 90 [v2], bx b21 90 [v18], F47] rfl cb_55 (ltb rfl) (mc rfl (mc rfl (mc rfl (mc rfl m0)))) (fun w hw => run_Run_ok (a1 := a1) (a4 := a5) (a5 := a6) (a8 := x49) (h3.mono subH) (h8.mono subH) hy_93 hw) fun v A' hR_94 => ?_
              obtain ⟨v55, F56, v58, F59, rfl, rfl, h57, h60⟩ := hR_94
              refine TL.norm (L' := [F56, F59, F52, bx b10 90 [v2], bx b21 90 [v18], F47]) rfl ?_
              refine TL.v (ltb rfl) (rv_mv (v := .tuple #[.agg ((([.bool x54.1.done, .int .i64 x54.1.trap, .int .i64 x54.1.value, v55, .int .i64 x54.1.steps] : List Value) ++ (arrC x54.1.memory ++ ([] : List Value)))).toArray, v58]) rfl) ?_
              refine TL.v (ltb rfl) (rv_extract (vs := #[.agg ((([.bool x54.1.done, .int .i64 x54.1.trap, .int .i64 x54.1.value, v55, .int .i64 x54.1.steps] : List Value) ++ (arrC x54.1.memory ++ ([] : List Value)))).toArray, v58]) (v := .agg ((([.bool x54.1.done, .int .i64 x54.1.trap, .int .i64 x54.1.value, v55, .int .i64 x54.1.steps] : List Value) ++ (arrC x54.1.memory ++ ([] : List Value)))).toArray) rfl rfl) ?_
              refine TL.v (ltb rfl) (rv_extract (vs := #[.agg ((([.bool x54.1.done, .int .i64 x54.1.trap, .int .i64 x54.1.value, v55, .int .i64 x54.1.steps] : List Value) ++ (arrC x54.1.memory ++ ([] : List Value)))).toArray, v58]) (v := v58) rfl rfl) ?_
              refine TL.alloc (cs := (([.bool false, .int .i64 0, .int .i64 0, .slice none 0 0, .int .i64 0] : List Value) ++ (arrC A64.zero ++ ([] : List Value)))) inf_104 (ltb rfl) rfl fun b61 => ?_
              refine TL.stB (ds := (([.bool x54.1.done, .int .i64 x54.1.trap, .int .i64 x54.1.value, v55, .int .i64 x54.1.steps] : List Value) ++ (arrC x54.1.memory ++ ([] : List Value)))) (o := 0) (cs := (([.bool false, .int .i64 0, .int .i64 0, .slice none 0 0, .int .i64 0] : List Value) ++ (arrC A64.zero ++ ([] : List Value)))) (b := b61) (u := .agg ((([.bool x54.1.done, .int .i64 x54.1.trap, .int .i64 x54.1.value, v55, .int .i64 x54.1.steps] : List Value) ++ (arrC x54.1.memory ++ ([] : List Value)))).toArray) 0 rfl ms_104 rfl rfl rfl (one_app (oc rfl (oc rfl (oc rfl (oc (h57).one (oc rfl oc0))))) (one_app (arr_one _) oc0)) (leb rfl) ?_
              refine TL.respell (b := b61) (T := 104) (cs := over (([.bool false, .int .i64 0, .int .i64 0, .slice none 0 0, .int .i64 0] : List Value) ++ (arrC A64.zero ++ ([] : List Value))) 0 (([.bool x54.1.done, .int .i64 x54.1.trap, .int .i64 x54.1.value, v55, .int .i64 x54.1.steps] : List Value) ++ (arrC x54.1.memory ++ ([] : List Value)))) (ds := (([.bool x54.1.done, .int .i64 x54.1.trap, .int .i64 x54.1.value, v55, .int .i64 x54.1.steps] : List Value) ++ (arrC x54.1.memory ++ ([] : List Value)))) 0 rfl (over_all rfl) ?_
              refine TL.norm (L' := [bx b61 104 (([.bool x54.1.done, .int .i64 x54.1.trap, .int .i64 x54.1.value, v55, .int .i64 x54.1.steps] : List Value) ++ (arrC x54.1.memory ++ ([] : List Value))), F56, F59, F52, bx b10 90 [v2], bx b21 90 [v18], F47]) rfl ?_
              refine TL.v (ltb rfl) (rv_as (v := v58) rfl) ?_
              refine TL.nil ?_
              refine TC.go hK_92 ?_
              refine TC.seq fun K_95 hK_96 => ?_
              refine TC.region ?_
              refine TL.v (ltb rfl) (rv_lda (o := 0) (o' := 0) (j := 0) (ds := [v18]) ag_90 h_85 (Src.at_ 5 rfl) (bx_cells b21 90 _) rfl rfl rfl) ?_
              refine TL.v (ltb rfl) (rv_mv (v := .int .i64 a5) h_80) ?_
              refine TL.v (ltb rfl) (rv_mv (v := v7) h_81) ?_
              refine TL.v (ltb rfl) (rv_mv (v := .int .i64 x49) h_82) ?_
              obtain ⟨x62, hy_97, hp⟩ := bind_some' hp
              refine TL.callC (vs := [.agg #[v18], .int .i64 a5, v7, .int .i64 x49]) (R := run_Run.R x62) [] [bx b61 104 (([.bool x54.1.done, .int .i64 x54.1.trap, .int .i64 x54.1.value, v55, .int .i64 x54.1.steps] : List Value) ++ (arrC x54.1.memory ++ ([] : List Value))), F56, F59, F52, bx b10 90 [v2], bx b21 90 [v18], F47] rfl cb_55 (ltb rfl) (mc rfl (mc rfl (mc rfl (mc rfl m0)))) (fun w hw => run_Run_ok (a1 := (⟨(x17.funcs.set (a4).toNat x32.1)⟩ : PModule)) (a4 := a5) (a5 := a6) (a8 := x49) (h48.ro.mono (subB 6 rfl)) (h8.mono subH) hy_97 hw) fun v A' hR_98 => ?_
              obtain ⟨v63, F64, v66, F67, rfl, rfl, h65, h68⟩ := hR_98
              refine TL.norm (L' := [F64, F67, bx b61 104 (([.bool x54.1.done, .int .i64 x54.1.trap, .int .i64 x54.1.value, v55, .int .i64 x54.1.steps] : List Value) ++ (arrC x54.1.memory ++ ([] : List Value))), F56, F59, F52, bx b10 90 [v2], bx b21 90 [v18], F47]) rfl ?_
              refine TL.v (ltb rfl) (rv_mv (v := .tuple #[.agg ((([.bool x62.1.done, .int .i64 x62.1.trap, .int .i64 x62.1.value, v63, .int .i64 x62.1.steps] : List Value) ++ (arrC x62.1.memory ++ ([] : List Value)))).toArray, v66]) rfl) ?_
              refine TL.v (ltb rfl) (rv_extract (vs := #[.agg ((([.bool x62.1.done, .int .i64 x62.1.trap, .int .i64 x62.1.value, v63, .int .i64 x62.1.steps] : List Value) ++ (arrC x62.1.memory ++ ([] : List Value)))).toArray, v66]) (v := .agg ((([.bool x62.1.done, .int .i64 x62.1.trap, .int .i64 x62.1.value, v63, .int .i64 x62.1.steps] : List Value) ++ (arrC x62.1.memory ++ ([] : List Value)))).toArray) rfl rfl) ?_
              refine TL.v (ltb rfl) (rv_extract (vs := #[.agg ((([.bool x62.1.done, .int .i64 x62.1.trap, .int .i64 x62.1.value, v63, .int .i64 x62.1.steps] : List Value) ++ (arrC x62.1.memory ++ ([] : List Value)))).toArray, v66]) (v := v66) rfl rfl) ?_
              refine TL.alloc (cs := (([.bool false, .int .i64 0, .int .i64 0, .slice none 0 0, .int .i64 0] : List Value) ++ (arrC A64.zero ++ ([] : List Value)))) inf_104 (ltb rfl) rfl fun b69 => ?_
              refine TL.stB (ds := (([.bool x62.1.done, .int .i64 x62.1.trap, .int .i64 x62.1.value, v63, .int .i64 x62.1.steps] : List Value) ++ (arrC x62.1.memory ++ ([] : List Value)))) (o := 0) (cs := (([.bool false, .int .i64 0, .int .i64 0, .slice none 0 0, .int .i64 0] : List Value) ++ (arrC A64.zero ++ ([] : List Value)))) (b := b69) (u := .agg ((([.bool x62.1.done, .int .i64 x62.1.trap, .int .i64 x62.1.value, v63, .int .i64 x62.1.steps] : List Value) ++ (arrC x62.1.memory ++ ([] : List Value)))).toArray) 0 rfl ms_104 rfl rfl rfl (one_app (oc rfl (oc rfl (oc rfl (oc (h65).one (oc rfl oc0))))) (one_app (arr_one _) oc0)) (leb rfl) ?_
              refine TL.respell (b := b69) (T := 104) (cs := over (([.bool false, .int .i64 0, .int .i64 0, .slice none 0 0, .int .i64 0] : List Value) ++ (arrC A64.zero ++ ([] : List Value))) 0 (([.bool x62.1.done, .int .i64 x62.1.trap, .int .i64 x62.1.value, v63, .int .i64 x62.1.steps] : List Value) ++ (arrC x62.1.memory ++ ([] : List Value)))) (ds := (([.bool x62.1.done, .int .i64 x62.1.trap, .int .i64 x62.1.value, v63, .int .i64 x62.1.steps] : List Value) ++ (arrC x62.1.memory ++ ([] : List Value)))) 0 rfl (over_all rfl) ?_
              refine TL.norm (L' := [bx b69 104 (([.bool x62.1.done, .int .i64 x62.1.trap, .int .i64 x62.1.value, v63, .int .i64 x62.1.steps] : List Value) ++ (arrC x62.1.memory ++ ([] : List Value))), F64, F67, bx b61 104 (([.bool x54.1.done, .int .i64 x54.1.trap, .int .i64 x54.1.value, v55, .int .i64 x54.1.steps] : List Value) ++ (arrC x54.1.memory ++ ([] : List Value))), F56, F59, F52, bx b10 90 [v2], bx b21 90 [v18], F47]) rfl ?_
              refine TL.v (ltb rfl) (rv_as (v := v66) rfl) ?_
              refine TL.nil ?_
              refine TC.go hK_96 ?_
              refine TC.seq fun K_99 hK_100 => ?_
              refine TC.quiet mix (by kernel_rfl) ?_
              refine QL.v (ltb rfl) (rv_mv (v := .bool x11) h_84) ?_
              refine QL.v (ltb rfl) (rv_mv (v := .bool x11) rfl) ?_
              refine QL.cut 3 fun K_101 hK_102 => ?_
              have hJ_103 : ∀ e_105 : Env, e_105 18 = .pointer (some ⟨b61, 0, none⟩) → e_105 19 = v58 → e_105 20 = .pointer (some ⟨b69, 0, none⟩) → e_105 21 = v66 → e_105 91 = .bool (decide (x11 = true ∧ x50 = GErr.no)) → K_101 e_105 := by
                intro e_105 h_106 h_107 h_108 h_109 h_110
                refine hK_102 _ ?_
                refine QL.v (ltb rfl) (rv_mv (v := .bool (decide (x11 = true ∧ x50 = GErr.no))) h_110) ?_
                refine QL.cut 6 fun K_111 hK_112 => ?_
                have hJ_113 : ∀ e_115 : Env, e_115 18 = .pointer (some ⟨b61, 0, none⟩) → e_115 20 = .pointer (some ⟨b69, 0, none⟩) → e_115 98 = .bool (decide ((x11 = true ∧ x50 = GErr.no) ∧ (((decide (x54.2 = GErr.no)) == (decide (x62.2 = GErr.no))) = true))) → K_111 e_115 := by
                  intro e_115 h_116 h_117 h_118
                  refine hK_112 _ ?_
                  refine QL.v (ltb rfl) (rv_mv (v := .bool (decide ((x11 = true ∧ x50 = GErr.no) ∧ (((decide (x54.2 = GErr.no)) == (decide (x62.2 = GErr.no))) = true)))) h_118) ?_
                  obtain ⟨t70, ht_125, hp⟩ := bind_some' hp
                  refine QL.cut 4 fun K_119 hK_120 => ?_
                  have hJ_121 : ∀ e_123 : Env, e_123 103 = .bool t70 → K_119 e_123 := by
                    intro e_123 h_124
                    refine hK_120 _ ?_
                    refine QL.v (ltb rfl) (rv_as (v := .bool t70) h_124) ?_
                    refine QL.nil ?_
                    refine TC.go hK_100 ?_
                    refine TC.ret ?_
                    obtain rfl := Option.some.inj hp
                    exact fun w hw => retOk ⟨rfl, rfl⟩ (hw.pick [])
                  clear hp
                  have hp := ht_125
                  clear ht_125
                  by_cases hc_122 : (x11 = true ∧ x50 = GErr.no) ∧ (((decide (x54.2 = GErr.no)) == (decide (x62.2 = GErr.no))) = true)
                  · rw [if_pos hc_122] at hp
                    refine QL.gyes true (yieldE_of rfl (bT hc_122)) rfl ?_
                    refine QL.v (ltb rfl) (rv_lda (o := 0) (o' := 0) (j := 0) (ds := (([.bool x54.1.done, .int .i64 x54.1.trap, .int .i64 x54.1.value, v55, .int .i64 x54.1.steps] : List Value) ++ (arrC x54.1.memory ++ ([] : List Value)))) ag_104 h_116 (Src.at_ 3 rfl) (bx_cells b61 104 _) rfl rfl rfl) ?_
                    refine QL.gyes true (yieldE_of rfl (bT hc_122)) rfl ?_
                    refine QL.v (ltb rfl) (rv_lda (o := 0) (o' := 0) (j := 0) (ds := (([.bool x62.1.done, .int .i64 x62.1.trap, .int .i64 x62.1.value, v63, .int .i64 x62.1.steps] : List Value) ++ (arrC x62.1.memory ++ ([] : List Value)))) ag_104 h_117 (Src.at_ 0 rfl) (bx_cells b69 104 _) rfl rfl rfl) ?_
                    refine QL.gyes true (yieldE_of rfl (bT hc_122)) rfl ?_
                    obtain ⟨x71, hy_126, hp⟩ := bind_some' hp
                    refine QL.callC (vs := [.agg ((([.bool x54.1.done, .int .i64 x54.1.trap, .int .i64 x54.1.value, v55, .int .i64 x54.1.steps] : List Value) ++ (arrC x54.1.memory ++ ([] : List Value)))).toArray, .agg ((([.bool x62.1.done, .int .i64 x62.1.trap, .int .i64 x62.1.value, v63, .int .i64 x62.1.steps] : List Value) ++ (arrC x62.1.memory ++ ([] : List Value)))).toArray]) (R := fettleref04_Same.R x71) (.bool x71) cb_56 (ltb rfl) (mc rfl (mc rfl m0)) (fun w hw => fettleref04_Same_ok (a1 := x54.1) (a4 := x62.1) (h57.ro.mono (subB 4 rfl)) (h65.ro.mono (subB 1 rfl)) hy_126 hw) (fun u A' h => ⟨h.1.symm, h.2⟩) ?_
                    refine QL.v (ltb rfl) (rv_pickT true (bT hc_122) rfl (v := .bool x71) rfl) ?_
                    obtain rfl := Option.some.inj hp
                    refine QL.nil (hJ_121 _ ?_)
                    · exact rfl
                  · rw [if_neg hc_122] at hp
                    refine QL.gno false rfl (fun d hd => by cases hd; exact ltb rfl) (yieldE_of rfl (bF hc_122)) rfl ?_
                    refine QL.gno false rfl (fun d hd => by cases hd; exact ltb rfl) (yieldE_of rfl (bF hc_122)) rfl ?_
                    refine QL.gno false rfl (fun d hd => by cases hd; exact ltb rfl) (yieldE_of rfl (bF hc_122)) rfl ?_
                    refine QL.v (ltb rfl) (rv_pickF false (bF hc_122) rfl (v := .bool false) rfl) ?_
                    obtain rfl := Option.some.inj hp
                    refine QL.nil (hJ_121 _ ?_)
                    · exact rfl
                by_cases hc_114 : x11 = true ∧ x50 = GErr.no
                · refine QL.gyes true (yieldE_of rfl (bT hc_114)) rfl ?_
                  refine QL.v (ltb rfl) (rv_mv (v := v58) h_107) ?_
                  refine QL.gyes true (yieldE_of rfl (bT hc_114)) rfl ?_
                  refine QL.v (ltb rfl) (rv_eqlEN ifc_49 h60 rfl) ?_
                  refine QL.gyes true (yieldE_of rfl (bT hc_114)) rfl ?_
                  refine QL.v (ltb rfl) (rv_mv (v := v66) h_109) ?_
                  refine QL.gyes true (yieldE_of rfl (bT hc_114)) rfl ?_
                  refine QL.v (ltb rfl) (rv_eqlEN ifc_49 h68 rfl) ?_
                  refine QL.gyes true (yieldE_of rfl (bT hc_114)) rfl ?_
                  refine QL.v (ltb rfl) (rv_eqlB (b := (decide (x54.2 = GErr.no))) (c := (decide (x62.2 = GErr.no))) Try.underlying4 rfl rfl) ?_
                  refine QL.v (ltb rfl) (rv_pickT true (bT hc_114) rfl (v := .bool ((decide (x54.2 = GErr.no)) == (decide (x62.2 = GErr.no)))) rfl) ?_
                  refine QL.nil (hJ_113 _ ?_ ?_ ?_)
                  · exact h_106
                  · exact h_108
                  · exact (bAt' hc_114)
                · refine QL.gno false rfl (fun d hd => by cases hd; exact ltb rfl) (yieldE_of rfl (bF hc_114)) rfl ?_
                  refine QL.gno false rfl (fun d hd => by cases hd; exact ltb rfl) (yieldE_of rfl (bF hc_114)) rfl ?_
                  refine QL.gno false rfl (fun d hd => by cases hd; exact ltb rfl) (yieldE_of rfl (bF hc_114)) rfl ?_
                  refine QL.gno false rfl (fun d hd => by cases hd; exact ltb rfl) (yieldE_of rfl (bF hc_114)) rfl ?_
                  refine QL.gno false rfl (fun d hd => by cases hd; exact ltb rfl) (yieldE_of rfl (bF hc_114)) rfl ?_
                  refine QL.v (ltb rfl) (rv_pickF false (bF hc_114) rfl (v := .bool false) rfl) ?_
                  refine QL.nil (hJ_113 _ ?_ ?_ ?_)
                  · exact h_106
                  · exact h_108
                  · exact (bAf hc_114)
              by_cases hc_104 : x11 = true
              · refine QL.gyes true (yieldE_of rfl (bbT hc_104)) rfl ?_
                refine QL.v (ltb rfl) (rv_mv (v := v51) rfl) ?_
                refine QL.gyes true (yieldE_of rfl (bbT hc_104)) rfl ?_
                refine QL.v (ltb rfl) (rv_eqlEN ifc_49 h53 rfl) ?_
                refine QL.v (ltb rfl) (rv_pickT true (bbT hc_104) rfl (v := .bool (decide (x50 = GErr.no))) rfl) ?_
                refine QL.nil (hJ_103 _ ?_ ?_ ?_ ?_ ?_)
                · exact rfl
                · exact rfl
                · exact rfl
                · exact rfl
                · exact (bAt hc_104)
              · refine QL.gno false rfl (fun d hd => by cases hd; exact ltb rfl) (yieldE_of rfl (bbF hc_104)) rfl ?_
                refine QL.gno false rfl (fun d hd => by cases hd; exact ltb rfl) (yieldE_of rfl (bbF hc_104)) rfl ?_
                refine QL.v (ltb rfl) (rv_pickF false (bbF hc_104) rfl (v := .bool false) rfl) ?_
                refine QL.nil (hJ_103 _ ?_ ?_ ?_ ?_ ?_)
                · exact rfl
                · exact rfl
                · exact rfl
                · exact rfl
                · exact (bAf hc_104)
            refine TC.seq fun K_127 hK_128 => ?_
            refine TC.region ?_
            refine TL.v (ltb rfl) (rv_mv (v := .int .i64 a9) h_58) ?_
            refine TL.v (ltb rfl) (rv_gtr (k := .i64) (m := a9) (n := 1000) rfl rfl) ?_
            refine TL.nil ?_
            refine TC.go hK_128 ?_
            by_cases hc_129 : a9 > 1000
            · rw [if_pos hc_129] at hp
              refine TC.condT (bT hc_129) ?_
              refine TC.region ?_
              refine TL.v (ltb rfl) (rv_mv (v := .int .i64 a9) h_58) ?_
              refine TL.v (ltb rfl) (rv_rem (k := .i64) (m := a9) (n := 1000) rfl rfl (by decide)) ?_
              refine TL.v (ltb rfl) (rv_as (v := .int .i64 (Int.tmod a9 1000)) rfl) ?_
              refine TL.nil ?_
              refine fun w hw => hJ_86 (Int.tmod a9 1000) _ ?_ ?_ ?_ ?_ ?_ ?_ hp w (hw.pick [5, 3, 0])
              · exact h_56
              · exact h_57
              · exact rfl
              · exact h_59
              · exact h_60
              · exact rfl
            · rw [if_neg hc_129] at hp
              refine TC.condF (bF hc_129) ?_
              refine TC.skip ?_
              refine fun w hw => hJ_86 a9 _ ?_ ?_ ?_ ?_ ?_ ?_ hp w (hw.pick [5, 3, 0])
              · exact h_56
              · exact h_57
              · exact h_58
              · exact h_59
              · exact h_60
              · exact rfl
        by_cases hc_53 : (¬ x13 = GErr.no) ∨ a4 < 0
        · refine TL.gno true rfl (fun d hd => by cases hd; exact ltb rfl) (yieldE_of rfl (bT hc_53)) rfl ?_
          refine TL.gno true rfl (fun d hd => by cases hd; exact ltb rfl) (yieldE_of rfl (bT hc_53)) rfl ?_
          refine TL.gno true rfl (fun d hd => by cases hd; exact ltb rfl) (yieldE_of rfl (bT hc_53)) rfl ?_
          refine TL.gno true rfl (fun d hd => by cases hd; exact ltb rfl) (yieldE_of rfl (bT hc_53)) rfl ?_
          refine TL.gno true rfl (fun d hd => by cases hd; exact ltb rfl) (yieldE_of rfl (bT hc_53)) rfl ?_
          refine TL.v (ltb rfl) (rv_pickT true (bT hc_53) rfl (v := .bool true) rfl) ?_
          refine TL.nil (hJ_52 _ ?_ ?_ ?_ ?_ ?_ ?_ ?_)
          · exact h_43
          · exact h_44
          · exact h_45
          · exact h_46
          · exact h_47
          · exact h_48
          · exact (bOt hc_53)
        · refine TL.gyes false (yieldE_of rfl (bF hc_53)) rfl ?_
          refine TL.v (ltb rfl) (rv_mv (v := .int .i64 a4) h_43) ?_
          refine TL.gyes false (yieldE_of rfl (bF hc_53)) rfl ?_
          refine TL.v (ltb rfl) (rv_fa (b := b10) (o := 0) fa_90_0 h_47) ?_
          refine TL.gyes false (yieldE_of rfl (bF hc_53)) rfl ?_
          refine TL.v (ltb rfl) (rv_ld (v := v2) (o := 0) (o' := 0) (j := 0) sc_88 rfl (Src.at_ 1 rfl) (bx_cells b10 90 _) rfl rfl) ?_
          refine TL.gyes false (yieldE_of rfl (bF hc_53)) rfl ?_
          refine TL.v (ltb rfl) (rv_lenI (v := v2) Try.underlying88 rfl h3) ?_
          refine TL.gyes false (yieldE_of rfl (bF hc_53)) rfl ?_
          refine TL.v (ltb rfl) (rv_geq (k := .i64) (m := a4) (n := (len a1.funcs)) rfl rfl) ?_
          refine TL.v (ltb rfl) (rv_pickF false (bF hc_53) rfl (v := .bool (decide (a4 ≥ (len a1.funcs)))) rfl) ?_
          refine TL.nil (hJ_52 _ ?_ ?_ ?_ ?_ ?_ ?_ ?_)
          · exact h_43
          · exact h_44
          · exact h_45
          · exact h_46
          · exact h_47
          · exact h_48
          · exact (bOf hc_53)
      by_cases hc_41 : ¬ x13 = GErr.no
      · refine TL.gno true rfl (fun d hd => by cases hd; exact ltb rfl) (yieldE_of rfl (bT hc_41)) rfl ?_
        refine TL.gno true rfl (fun d hd => by cases hd; exact ltb rfl) (yieldE_of rfl (bT hc_41)) rfl ?_
        refine TL.v (ltb rfl) (rv_pickT true (bT hc_41) rfl (v := .bool true) rfl) ?_
        refine TL.nil (hJ_40 _ ?_ ?_ ?_ ?_ ?_ ?_ ?_)
        · exact h_20
        · exact h_21
        · exact h_22
        · exact h_23
        · exact h_24
        · exact h_25
        · exact (bOt hc_41)
      · refine TL.gyes false (yieldE_of rfl (bF hc_41)) rfl ?_
        refine TL.v (ltb rfl) (rv_mv (v := .int .i64 a4) h_20) ?_
        refine TL.gyes false (yieldE_of rfl (bF hc_41)) rfl ?_
        refine TL.v (ltb rfl) (rv_lss (k := .i64) (m := a4) (n := 0) rfl rfl) ?_
        refine TL.v (ltb rfl) (rv_pickF false (bF hc_41) rfl (v := .bool (decide (a4 < 0))) rfl) ?_
        refine TL.nil (hJ_40 _ ?_ ?_ ?_ ?_ ?_ ?_ ?_)
        · exact h_20
        · exact h_21
        · exact h_22
        · exact h_23
        · exact h_24
        · exact h_25
        · exact (bOf hc_41)
  by_cases hc_18 : (!x12) = true
  · refine TL.gno true rfl (fun d hd => by cases hd; exact ltb rfl) (yieldE_of rfl (bbT hc_18)) rfl ?_
    refine TL.gno true rfl (fun d hd => by cases hd; exact ltb rfl) (yieldE_of rfl (bbT hc_18)) rfl ?_
    refine TL.gno true rfl (fun d hd => by cases hd; exact ltb rfl) (yieldE_of rfl (bbT hc_18)) rfl ?_
    refine TL.v (ltb rfl) (rv_pickT true (bbT hc_18) rfl (v := .bool true) rfl) ?_
    refine TL.nil (hJ_17 _ ?_ ?_ ?_ ?_ ?_ ?_ ?_)
    · exact rfl
    · exact rfl
    · exact rfl
    · exact rfl
    · exact rfl
    · exact rfl
    · exact (bOt hc_18)
  · refine TL.gyes false (yieldE_of rfl (bbF hc_18)) rfl ?_
    refine TL.v (ltb rfl) (rv_mv (v := v7) rfl) ?_
    refine TL.gyes false (yieldE_of rfl (bbF hc_18)) rfl ?_
    refine TL.v (ltb rfl) (rv_lenI (v := v7) Try.underlying100 rfl h8) ?_
    refine TL.gyes false (yieldE_of rfl (bbF hc_18)) rfl ?_
    refine TL.v (ltb rfl) (rv_gtr (k := .i64) (m := (len a6)) (n := 20) rfl rfl) ?_
    refine TL.v (ltb rfl) (rv_pickF false (bbF hc_18) rfl (v := .bool (decide ((len a6) > 20))) rfl) ?_
    refine TL.nil (hJ_17 _ ?_ ?_ ?_ ?_ ?_ ?_ ?_)
    · exact rfl
    · exact rfl
    · exact rfl
    · exact rfl
    · exact rfl
    · exact rfl
    · exact (bOf hc_18)
end Go.Proofs.Ytoflleabpkgdpaa
