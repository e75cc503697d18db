/- The walk through the program's functions: each one's pure reading, and that a call does what it says. No conditions. -/
import Derived.Test.YtoflleabpkgdpaaR2
set_option linter.unusedVariables false
set_option linter.unusedSimpArgs false
namespace Go.Proofs.Ytoflleabpkgdpaa
open Go Go.Proofs

/-! ### fettle/fettlelaw04.RunMore -/
abbrev fettlelaw04_RunMore.R (r : Bool) (v : Value) (A : List FP) : Prop := .bool r = v ∧ A = []
def fettlelaw04_RunMore.jn55 (a1 : PModule) (a4 : Int) (a5 : List Int) (x11 : Bool) (x13 : Int) (x14 : POutcome × GErr) (x22 : Int) : Option Bool :=
  (run_Run a1 a4 a5 (w64 (x13 + (Int.tmod x22 500)))).bind fun x23 =>
  (run_Run a1 a4 a5 0).bind fun x31 =>
  (if (¬ x23.2 = GErr.no) ∨ (¬ x31.2 = GErr.no) then some true else (fettleref04_Same x31.1 (⟨false, 0, 0, [], 0, A64.zero⟩ : POutcome)).bind fun x44 =>
  some (!x44)).bind fun t39 =>
  if (t39 = true ∨ x14.1.steps > x13) ∨ x23.1.steps < x14.1.steps then
    some false
  else
    if x14.1.done = true then
      (if x11 = true then (fettleref04_Same x14.1 x23.1).bind fun x41 =>
      some x41 else some false).bind fun t40 =>
      some t40
    else
      (if x11 = true ∧ x14.1.steps = x13 then (fettleref04_Begins x14.1.out x23.1.out).bind fun x43 =>
      some x43 else some false).bind fun t42 =>
      some t42
def fettlelaw04_RunMore (a1 : PModule) (a4 : Int) (a5 : List Int) (a8 : Int) (a9 : Int) : Option Bool :=
  (fettlelaw04_up).bind fun x11 =>
  (fettleref02_Small a1).bind fun x12 =>
  if (!x12) = true ∨ (len a5) > 300 then
    some x11
  else
    (fettlelaw04_few a8).bind fun x13 =>
    (run_Run a1 a4 a5 x13).bind fun x14 =>
    if ¬ x14.2 = GErr.no then
      some x11
    else
      if a9 < 0 then
        fettlelaw04_RunMore.jn55 a1 a4 a5 x11 x13 x14 (w64 (0 - (w64 (a9 + 1))))
      else
        fettlelaw04_RunMore.jn55 a1 a4 a5 x11 x13 x14 a9
set_option maxHeartbeats 4000000 in
theorem fettlelaw04_RunMore_ok {E : World} {H : FP} {w : World} {a1 : PModule} {a4 : Int} {a5 : List Int} {a8 : Int} {a9 : Int} {v2 : Value} {v6 : Value} {r : Bool} (h3 : SlI kFunc H a1.funcs v2) (h7 : SlI (kInt .i64) H a5 v6) (hp : fettlelaw04_RunMore a1 a4 a5 a8 a9 = some r) (hst : St E H [] w) :
    Fn Try.prog 12 #[.agg #[v2], .int .i64 a4, v6, .int .i64 a8, .int .i64 a9] w fun v w' => ∃ A, fettlelaw04_RunMore.R r v A ∧ St E H A w' := by
  refine Fn.body (fn := Try.f12) (args := [.agg #[v2], .int .i64 a4, v6, .int .i64 a8, .int .i64 a9]) E H [] [.tmp 10] 113 Try.func12 rfl rfl rfl rfl (leb rfl) hst ?_
  unfold fettlelaw04_RunMore at hp
  refine TC.seq fun K_1 hK_2 => ?_
  refine TC.region ?_
  refine TL.box (cs := [v2]) (v := .agg #[v2]) (ltb rfl) rfl rfl fun b10 => ?_
  refine TL.v (ltb rfl) (rv_as (v := .bool false) rfl) ?_
  refine TL.nil ?_
  refine TC.go hK_2 ?_
  refine TC.seq fun K_3 hK_4 => ?_
  refine TC.region ?_
  obtain ⟨x11, hy_5, hp⟩ := bind_some' hp
  refine TL.callC (vs := []) (R := fettlelaw04_up.R x11) [] [bx b10 90 [v2]] rfl cb_53 (ltb rfl) m0 (fun w hw => fettlelaw04_up_ok hy_5 hw) fun v A' hR_6 => ?_
  obtain ⟨rfl, rfl⟩ := hR_6
  refine TL.norm (L' := [bx b10 90 [v2]]) rfl ?_
  refine TL.v (ltb rfl) (rv_as (v := .bool x11) rfl) ?_
  refine TL.nil ?_
  refine TC.go hK_4 ?_
  refine TC.seq fun K_7 hK_8 => ?_
  refine TC.region ?_
  refine TL.v (ltb rfl) (rv_lda (o := 0) (o' := 0) (j := 0) (ds := [v2]) ag_90 rfl (Src.at_ 0 rfl) (bx_cells b10 90 _) rfl rfl rfl) ?_
  obtain ⟨x12, hy_9, hp⟩ := bind_some' hp
  refine TL.callC (vs := [.agg #[v2]]) (R := fettleref02_Small.R x12) [] [bx b10 90 [v2]] rfl cb_48 (ltb rfl) (mc rfl m0) (fun w hw => fettleref02_Small_ok (a1 := a1) (h3.mono subH) hy_9 hw) fun v A' hR_10 => ?_
  obtain ⟨rfl, rfl⟩ := hR_10
  refine TL.norm (L' := [bx b10 90 [v2]]) rfl ?_
  refine TL.v (ltb rfl) (rv_as (v := .bool x12) rfl) ?_
  refine TL.nil ?_
  refine TC.go hK_8 ?_
  refine TC.seq fun K_11 hK_12 => ?_
  refine TC.seq fun K_13 hK_14 => ?_
  refine TC.region ?_
  refine TL.v (ltb rfl) (rv_mv (v := .bool x12) rfl) ?_
  refine TL.v (ltb rfl) (rv_not (b := x12) rfl) ?_
  refine TL.v (ltb rfl) (rv_mv (v := .bool (!x12)) rfl) ?_
  refine TL.cut 4 fun K_15 hK_16 => ?_
  have hJ_17 : ∀ e_19 : Env, e_19 1 = .int .i64 a4 → e_19 2 = v6 → e_19 3 = .int .i64 a8 → e_19 4 = .int .i64 a9 → e_19 5 = .pointer (some ⟨b10, 0, none⟩) → e_19 11 = .bool x11 → e_19 28 = .bool (decide ((!x12) = true ∨ (len a5) > 300)) → ∀ w, St E H [bx b10 90 [v2]] w → K_15 e_19 w := by
    intro e_19 h_20 h_21 h_22 h_23 h_24 h_25 h_26
    refine TL.go hK_16 ?_
    refine TL.nil ?_
    refine TC.go hK_14 ?_
    by_cases hc_27 : (!x12) = true ∨ (len a5) > 300
    · rw [if_pos hc_27] at hp
      refine TC.condT (h_26.trans (bT hc_27)) ?_
      refine TC.seq fun K_28 hK_29 => ?_
      refine TC.region ?_
      refine TL.v (ltb rfl) (rv_mv (v := .bool x11) h_25) ?_
      refine TL.v (ltb rfl) (rv_as (v := .bool x11) rfl) ?_
      refine TL.nil ?_
      refine TC.go hK_29 ?_
      refine TC.ret ?_
      obtain rfl := Option.some.inj hp
      exact fun w hw => retOk ⟨rfl, rfl⟩ (hw.pick [])
    · rw [if_neg hc_27] at hp
      refine TC.condF (h_26.trans (bF hc_27)) ?_
      refine TC.skip ?_
      refine TC.go hK_12 ?_
      refine TC.seq fun K_30 hK_31 => ?_
      refine TC.region ?_
      refine TL.v (ltb rfl) (rv_mv (v := .int .i64 a8) h_22) ?_
      obtain ⟨x13, hy_32, hp⟩ := bind_some' hp
      refine TL.callC (vs := [.int .i64 a8]) (R := fettlelaw04_few.R x13) [] [bx b10 90 [v2]] rfl cb_54 (ltb rfl) (mc rfl m0) (fun w hw => fettlelaw04_few_ok (a1 := a8) hy_32 hw) fun v A' hR_33 => ?_
      obtain ⟨rfl, rfl⟩ := hR_33
      refine TL.norm (L' := [bx b10 90 [v2]]) rfl ?_
      refine TL.v (ltb rfl) (rv_as (v := .int .i64 x13) rfl) ?_
      refine TL.nil ?_
      refine TC.go hK_31 ?_
      refine TC.seq fun K_34 hK_35 => ?_
      refine TC.region ?_
      refine TL.v (ltb rfl) (rv_lda (o := 0) (o' := 0) (j := 0) (ds := [v2]) ag_90 h_24 (Src.at_ 0 rfl) (bx_cells b10 90 _) rfl rfl rfl) ?_
      refine TL.v (ltb rfl) (rv_mv (v := .int .i64 a4) h_20) ?_
      refine TL.v (ltb rfl) (rv_mv (v := v6) h_21) ?_
      refine TL.v (ltb rfl) (rv_mv (v := .int .i64 x13) rfl) ?_
      obtain ⟨x14, hy_36, hp⟩ := bind_some' hp
      refine TL.callC (vs := [.agg #[v2], .int .i64 a4, v6, .int .i64 x13]) (R := run_Run.R x14) [] [bx b10 90 [v2]] rfl cb_55 (ltb rfl) (mc rfl (mc rfl (mc rfl (mc rfl m0)))) (fun w hw => run_Run_ok (a1 := a1) (a4 := a4) (a5 := a5) (a8 := x13) (h3.mono subH) (h7.mono subH) hy_36 hw) fun v A' hR_37 => ?_
      obtain ⟨v15, F16, v18, F19, rfl, rfl, h17, h20⟩ := hR_37
      refine TL.norm (L' := [F16, F19, bx b10 90 [v2]]) rfl ?_
      refine TL.v (ltb rfl) (rv_mv (v := .tuple #[.agg ((([.bool x14.1.done, .int .i64 x14.1.trap, .int .i64 x14.1.value, v15, .int .i64 x14.1.steps] : List Value) ++ (arrC x14.1.memory ++ ([] : List Value)))).toArray, v18]) rfl) ?_
      refine TL.v (ltb rfl) (rv_extract (vs := #[.agg ((([.bool x14.1.done, .int .i64 x14.1.trap, .int .i64 x14.1.value, v15, .int .i64 x14.1.steps] : List Value) ++ (arrC x14.1.memory ++ ([] : List Value)))).toArray, v18]) (v := .agg ((([.bool x14.1.done, .int .i64 x14.1.trap, .int .i64 x14.1.value, v15, .int .i64 x14.1.steps] : List Value) ++ (arrC x14.1.memory ++ ([] : List Value)))).toArray) rfl rfl) ?_
      refine TL.v (ltb rfl) (rv_extract (vs := #[.agg ((([.bool x14.1.done, .int .i64 x14.1.trap, .int .i64 x14.1.value, v15, .int .i64 x14.1.steps] : List Value) ++ (arrC x14.1.memory ++ ([] : List Value)))).toArray, v18]) (v := v18) rfl rfl) ?_
      refine TL.alloc (cs := (([.bool false, .int .i64 0, .int .i64 0, .slice none 0 0, .int .i64 0] : List Value) ++ (arrC A64.zero ++ ([] : List Value)))) inf_104 (ltb rfl) rfl fun b21 => ?_
      refine TL.stB (ds := (([.bool x14.1.done, .int .i64 x14.1.trap, .int .i64 x14.1.value, v15, .int .i64 x14.1.steps] : List Value) ++ (arrC x14.1.memory ++ ([] : List Value)))) (o := 0) (cs := (([.bool false, .int .i64 0, .int .i64 0, .slice none 0 0, .int .i64 0] : List Value) ++ (arrC A64.zero ++ ([] : List Value)))) (b := b21) (u := .agg ((([.bool x14.1.done, .int .i64 x14.1.trap, .int .i64 x14.1.value, v15, .int .i64 x14.1.steps] : List Value) ++ (arrC x14.1.memory ++ ([] : List Value)))).toArray) 0 rfl ms_104 rfl rfl rfl (one_app (oc rfl (oc rfl (oc rfl (oc (h17).one (oc rfl oc0))))) (one_app (arr_one _) oc0)) (leb rfl) ?_
      refine TL.respell (b := b21) (T := 104) (cs := over (([.bool false, .int .i64 0, .int .i64 0, .slice none 0 0, .int .i64 0] : List Value) ++ (arrC A64.zero ++ ([] : List Value))) 0 (([.bool x14.1.done, .int .i64 x14.1.trap, .int .i64 x14.1.value, v15, .int .i64 x14.1.steps] : List Value) ++ (arrC x14.1.memory ++ ([] : List Value)))) (ds := (([.bool x14.1.done, .int .i64 x14.1.trap, .int .i64 x14.1.value, v15, .int .i64 x14.1.steps] : List Value) ++ (arrC x14.1.memory ++ ([] : List Value)))) 0 rfl (over_all rfl) ?_
      refine TL.norm (L' := [bx b21 104 (([.bool x14.1.done, .int .i64 x14.1.trap, .int .i64 x14.1.value, v15, .int .i64 x14.1.steps] : List Value) ++ (arrC x14.1.memory ++ ([] : List Value))), F16, F19, bx b10 90 [v2]]) rfl ?_
      refine TL.v (ltb rfl) (rv_as (v := v18) rfl) ?_
      refine TL.nil ?_
      refine TC.go hK_35 ?_
      refine TC.seq fun K_38 hK_39 => ?_
      refine TC.seq fun K_40 hK_41 => ?_
      refine TC.region ?_
      refine TL.v (ltb rfl) (rv_mv (v := v18) rfl) ?_
      refine TL.v (ltb rfl) (rv_neqEN ifc_49 h20 rfl) ?_
      refine TL.nil ?_
      refine TC.go hK_41 ?_
      by_cases hc_42 : ¬ x14.2 = GErr.no
      · rw [if_pos hc_42] at hp
        refine TC.condT (bT hc_42) ?_
        refine TC.seq fun K_43 hK_44 => ?_
        refine TC.region ?_
        refine TL.v (ltb rfl) (rv_mv (v := .bool x11) h_25) ?_
        refine TL.v (ltb rfl) (rv_as (v := .bool x11) rfl) ?_
        refine TL.nil ?_
        refine TC.go hK_44 ?_
        refine TC.ret ?_
        obtain rfl := Option.some.inj hp
        exact fun w hw => retOk ⟨rfl, rfl⟩ (hw.pick [])
      · rw [if_neg hc_42] at hp
        refine TC.condF (bF hc_42) ?_
        refine TC.skip ?_
        refine TC.go hK_39 ?_
        refine TC.seq fun K_45 hK_46 => ?_
        have hJ_55 : ∀ (x22 : Int) (e_47 : Env) (h_48 : e_47 1 = .int .i64 a4) (h_49 : e_47 2 = v6) (h_50 : e_47 3 = .int .i64 x13) (h_51 : e_47 4 = .int .i64 x22) (h_52 : e_47 5 = .pointer (some ⟨b10, 0, none⟩)) (h_53 : e_47 11 = .bool x11) (h_54 : e_47 13 = .pointer (some ⟨b21, 0, none⟩)) (hp : fettlelaw04_RunMore.jn55 a1 a4 a5 x11 x13 x14 x22 = some r), ∀ w, St E H [bx b10 90 [v2], bx b21 104 (([.bool x14.1.done, .int .i64 x14.1.trap, .int .i64 x14.1.value, v15, .int .i64 x14.1.steps] : List Value) ++ (arrC x14.1.memory ++ ([] : List Value))), F16] w → K_45 e_47 w := by
          intro x22 e_47 h_48 h_49 h_50 h_51 h_52 h_53 h_54 hp
          unfold fettlelaw04_RunMore.jn55 at hp
          refine TC.go hK_46 ?_
          refine TC.seq fun K_56 hK_57 => ?_
          refine TC.region ?_
          refine TL.v (ltb rfl) (rv_lda (o := 0) (o' := 0) (j := 0) (ds := [v2]) ag_90 h_52 (Src.at_ 0 rfl) (bx_cells b10 90 _) rfl rfl rfl) ?_
          refine TL.v (ltb rfl) (rv_mv (v := .int .i64 a4) h_48) ?_
          refine TL.v (ltb rfl) (rv_mv (v := v6) h_49) ?_
          refine TL.v (ltb rfl) (rv_mv (v := .int .i64 x13) h_50) ?_
          refine TL.v (ltb rfl) (rv_mv (v := .int .i64 x22) h_51) ?_
          refine TL.v (ltb rfl) (rv_rem (k := .i64) (m := x22) (n := 500) rfl rfl (by decide)) ?_
          refine TL.v (ltb rfl) (rv_add (k := .i64) (m := x13) (n := (Int.tmod x22 500)) rfl rfl) ?_
          obtain ⟨x23, hy_58, hp⟩ := bind_some' hp
          refine TL.callC (vs := [.agg #[v2], .int .i64 a4, v6, .int .i64 (w64 (x13 + (Int.tmod x22 500)))]) (R := run_Run.R x23) [] [bx b10 90 [v2], bx b21 104 (([.bool x14.1.done, .int .i64 x14.1.trap, .int .i64 x14.1.value, v15, .int .i64 x14.1.steps] : List Value) ++ (arrC x14.1.memory ++ ([] : List Value))), F16] rfl cb_55 (ltb rfl) (mc rfl (mc rfl (mc rfl (mc rfl m0)))) (fun w hw => run_Run_ok (a1 := a1) (a4 := a4) (a5 := a5) (a8 := (w64 (x13 + (Int.tmod x22 500)))) (h3.mono subH) (h7.mono subH) hy_58 hw) fun v A' hR_59 => ?_
          obtain ⟨v24, F25, v27, F28, rfl, rfl, h26, h29⟩ := hR_59
          refine TL.norm (L' := [F25, F28, bx b10 90 [v2], bx b21 104 (([.bool x14.1.done, .int .i64 x14.1.trap, .int .i64 x14.1.value, v15, .int .i64 x14.1.steps] : List Value) ++ (arrC x14.1.memory ++ ([] : List Value))), F16]) rfl ?_
          refine TL.v (ltb rfl) (rv_mv (v := .tuple #[.agg ((([.bool x23.1.done, .int .i64 x23.1.trap, .int .i64 x23.1.value, v24, .int .i64 x23.1.steps] : List Value) ++ (arrC x23.1.memory ++ ([] : List Value)))).toArray, v27]) rfl) ?_
          refine TL.v (ltb rfl) (rv_extract (vs := #[.agg ((([.bool x23.1.done, .int .i64 x23.1.trap, .int .i64 x23.1.value, v24, .int .i64 x23.1.steps] : List Value) ++ (arrC x23.1.memory ++ ([] : List Value)))).toArray, v27]) (v := .agg ((([.bool x23.1.done, .int .i64 x23.1.trap, .int .i64 x23.1.value, v24, .int .i64 x23.1.steps] : List Value) ++ (arrC x23.1.memory ++ ([] : List Value)))).toArray) rfl rfl) ?_
          refine TL.v (ltb rfl) (rv_extract (vs := #[.agg ((([.bool x23.1.done, .int .i64 x23.1.trap, .int .i64 x23.1.value, v24, .int .i64 x23.1.steps] : List Value) ++ (arrC x23.1.memory ++ ([] : List Value)))).toArray, v27]) (v := v27) rfl rfl) ?_
          refine TL.alloc (cs := (([.bool false, .int .i64 0, .int .i64 0, .slice none 0 0, .int .i64 0] : List Value) ++ (arrC A64.zero ++ ([] : List Value)))) inf_104 (ltb rfl) rfl fun b30 => ?_
          refine TL.stB (ds := (([.bool x23.1.done, .int .i64 x23.1.trap, .int .i64 x23.1.value, v24, .int .i64 x23.1.steps] : List Value) ++ (arrC x23.1.memory ++ ([] : List Value)))) (o := 0) (cs := (([.bool false, .int .i64 0, .int .i64 0, .slice none 0 0, .int .i64 0] : List Value) ++ (arrC A64.zero ++ ([] : List Value)))) (b := b30) (u := .agg ((([.bool x23.1.done, .int .i64 x23.1.trap, .int .i64 x23.1.value, v24, .int .i64 x23.1.steps] : List Value) ++ (arrC x23.1.memory ++ ([] : List Value)))).toArray) 0 rfl ms_104 rfl rfl rfl (one_app (oc rfl (oc rfl (oc rfl (oc (h26).one (oc rfl oc0))))) (one_app (arr_one _) oc0)) (leb rfl) ?_
          refine TL.respell (b := b30) (T := 104) (cs := over (([.bool false, .int .i64 0, .int .i64 0, .slice none 0 0, .int .i64 0] : List Value) ++ (arrC A64.zero ++ ([] : List Value))) 0 (([.bool x23.1.done, .int .i64 x23.1.trap, .int .i64 x23.1.value, v24, .int .i64 x23.1.steps] : List Value) ++ (arrC x23.1.memory ++ ([] : List Value)))) (ds := (([.bool x23.1.done, .int .i64 x23.1.trap, .int .i64 x23.1.value, v24, .int .i64 x23.1.steps] : List Value) ++ (arrC x23.1.memory ++ ([] : List Value)))) 0 rfl (over_all rfl) ?_
          refine TL.norm (L' := [bx b30 104 (([.bool x23.1.done, .int .i64 x23.1.trap, .int .i64 x23.1.value, v24, .int .i64 x23.1.steps] : List Value) ++ (arrC x23.1.memory ++ ([] : List Value))), F25, F28, bx b10 90 [v2], bx b21 104 (([.bool x14.1.done, .int .i64 x14.1.trap, .int .i64 x14.1.value, v15, .int .i64 x14.1.steps] : List Value) ++ (arrC x14.1.memory ++ ([] : List Value))), F16]) rfl ?_
          refine TL.v (ltb rfl) (rv_as (v := v27) rfl) ?_
          refine TL.nil ?_
          refine TC.go hK_57 ?_
          refine TC.seq fun K_60 hK_61 => ?_
          refine TC.region ?_
          refine TL.v (ltb rfl) (rv_lda (o := 0) (o' := 0) (j := 0) (ds := [v2]) ag_90 h_52 (Src.at_ 3 rfl) (bx_cells b10 90 _) rfl rfl rfl) ?_
          refine TL.v (ltb rfl) (rv_mv (v := .int .i64 a4) h_48) ?_
          refine TL.v (ltb rfl) (rv_mv (v := v6) h_49) ?_
          obtain ⟨x31, hy_62, hp⟩ := bind_some' hp
          refine TL.callC (vs := [.agg #[v2], .int .i64 a4, v6, .int .i64 0]) (R := run_Run.R x31) [] [bx b30 104 (([.bool x23.1.done, .int .i64 x23.1.trap, .int .i64 x23.1.value, v24, .int .i64 x23.1.steps] : List Value) ++ (arrC x23.1.memory ++ ([] : List Value))), F25, F28, bx b10 90 [v2], bx b21 104 (([.bool x14.1.done, .int .i64 x14.1.trap, .int .i64 x14.1.value, v15, .int .i64 x14.1.steps] : List Value) ++ (arrC x14.1.memory ++ ([] : List Value))), F16] rfl cb_55 (ltb rfl) (mc rfl (mc rfl (mc rfl (mc rfl m0)))) (fun w hw => run_Run_ok (a1 := a1) (a4 := a4) (a5 := a5) (a8 := 0) (h3.mono subH) (h7.mono subH) hy_62 hw) fun v A' hR_63 => ?_
          obtain ⟨v32, F33, v35, F36, rfl, rfl, h34, h37⟩ := hR_63
          refine TL.norm (L' := [F33, F36, bx b30 104 (([.bool x23.1.done, .int .i64 x23.1.trap, .int .i64 x23.1.value, v24, .int .i64 x23.1.steps] : List Value) ++ (arrC x23.1.memory ++ ([] : List Value))), F25, F28, bx b10 90 [v2], bx b21 104 (([.bool x14.1.done, .int .i64 x14.1.trap, .int .i64 x14.1.value, v15, .int .i64 x14.1.steps] : List Value) ++ (arrC x14.1.memory ++ ([] : List Value))), F16]) rfl ?_
          refine TL.v (ltb rfl) (rv_mv (v := .tuple #[.agg ((([.bool x31.1.done, .int .i64 x31.1.trap, .int .i64 x31.1.value, v32, .int .i64 x31.1.steps] : List Value) ++ (arrC x31.1.memory ++ ([] : List Value)))).toArray, v35]) rfl) ?_
          refine TL.v (ltb rfl) (rv_extract (vs := #[.agg ((([.bool x31.1.done, .int .i64 x31.1.trap, .int .i64 x31.1.value, v32, .int .i64 x31.1.steps] : List Value) ++ (arrC x31.1.memory ++ ([] : List Value)))).toArray, v35]) (v := .agg ((([.bool x31.1.done, .int .i64 x31.1.trap, .int .i64 x31.1.value, v32, .int .i64 x31.1.steps] : List Value) ++ (arrC x31.1.memory ++ ([] : List Value)))).toArray) rfl rfl) ?_
          refine TL.v (ltb rfl) (rv_extract (vs := #[.agg ((([.bool x31.1.done, .int .i64 x31.1.trap, .int .i64 x31.1.value, v32, .int .i64 x31.1.steps] : List Value) ++ (arrC x31.1.memory ++ ([] : List Value)))).toArray, v35]) (v := v35) rfl rfl) ?_
          refine TL.alloc (cs := (([.bool false, .int .i64 0, .int .i64 0, .slice none 0 0, .int .i64 0] : List Value) ++ (arrC A64.zero ++ ([] : List Value)))) inf_104 (ltb rfl) rfl fun b38 => ?_
          refine TL.stB (ds := (([.bool x31.1.done, .int .i64 x31.1.trap, .int .i64 x31.1.value, v32, .int .i64 x31.1.steps] : List Value) ++ (arrC x31.1.memory ++ ([] : List Value)))) (o := 0) (cs := (([.bool false, .int .i64 0, .int .i64 0, .slice none 0 0, .int .i64 0] : List Value) ++ (arrC A64.zero ++ ([] : List Value)))) (b := b38) (u := .agg ((([.bool x31.1.done, .int .i64 x31.1.trap, .int .i64 x31.1.value, v32, .int .i64 x31.1.steps] : List Value) ++ (arrC x31.1.memory ++ ([] : List Value)))).toArray) 0 rfl ms_104 rfl rfl rfl (one_app (oc rfl (oc rfl (oc rfl (oc (h34).one (oc rfl oc0))))) (one_app (arr_one _) oc0)) (leb rfl) ?_
          refine TL.respell (b := b38) (T := 104) (cs := over (([.bool false, .int .i64 0, .int .i64 0, .slice none 0 0, .int .i64 0] : List Value) ++ (arrC A64.zero ++ ([] : List Value))) 0 (([.bool x31.1.done, .int .i64 x31.1.trap, .int .i64 x31.1.value, v32, .int .i64 x31.1.steps] : List Value) ++ (arrC x31.1.memory ++ ([] : List Value)))) (ds := (([.bool x31.1.done, .int .i64 x31.1.trap, .int .i64 x31.1.value, v32, .int .i64 x31.1.steps] : List Value) ++ (arrC x31.1.memory ++ ([] : List Value)))) 0 rfl (over_all rfl) ?_
          refine TL.norm (L' := [bx b38 104 (([.bool x31.1.done, .int .i64 x31.1.trap, .int .i64 x31.1.value, v32, .int .i64 x31.1.steps] : List Value) ++ (arrC x31.1.memory ++ ([] : List Value))), F33, F36, bx b30 104 (([.bool x23.1.done, .int .i64 x23.1.trap, .int .i64 x23.1.value, v24, .int .i64 x23.1.steps] : List Value) ++ (arrC x23.1.memory ++ ([] : List Value))), F25, F28, bx b10 90 [v2], bx b21 104 (([.bool x14.1.done, .int .i64 x14.1.trap, .int .i64 x14.1.value, v15, .int .i64 x14.1.steps] : List Value) ++ (arrC x14.1.memory ++ ([] : List Value))), F16]) rfl ?_
          refine TL.v (ltb rfl) (rv_as (v := v35) rfl) ?_
          refine TL.nil ?_
          refine TC.go hK_61 ?_
          refine TC.seq fun K_64 hK_65 => ?_
          refine TC.seq fun K_66 hK_67 => ?_
          refine TC.region ?_
          refine TL.v (ltb rfl) (rv_mv (v := v27) rfl) ?_
          refine TL.v (ltb rfl) (rv_neqEN ifc_49 h29 rfl) ?_
          refine TL.v (ltb rfl) (rv_mv (v := .bool (decide (¬ x23.2 = GErr.no))) rfl) ?_
          refine TL.cut 3 fun K_68 hK_69 => ?_
          have hJ_70 : ∀ e_72 : Env, e_72 3 = .int .i64 x13 → e_72 11 = .bool x11 → e_72 13 = .pointer (some ⟨b21, 0, none⟩) → e_72 15 = .pointer (some ⟨b30, 0, none⟩) → e_72 17 = .pointer (some ⟨b38, 0, none⟩) → e_72 71 = .bool (decide ((¬ x23.2 = GErr.no) ∨ (¬ x31.2 = GErr.no))) → ∀ w, St E H [bx b38 104 (([.bool x31.1.done, .int .i64 x31.1.trap, .int .i64 x31.1.value, v32, .int .i64 x31.1.steps] : List Value) ++ (arrC x31.1.memory ++ ([] : List Value))), F33, F36, bx b30 104 (([.bool x23.1.done, .int .i64 x23.1.trap, .int .i64 x23.1.value, v24, .int .i64 x23.1.steps] : List Value) ++ (arrC x23.1.memory ++ ([] : List Value))), F25, F28, bx b10 90 [v2], bx b21 104 (([.bool x14.1.done, .int .i64 x14.1.trap, .int .i64 x14.1.value, v15, .int .i64 x14.1.steps] : List Value) ++ (arrC x14.1.memory ++ ([] : List Value))), F16] w → K_68 e_72 w := by
            intro e_72 h_73 h_74 h_75 h_76 h_77 h_78
            refine TL.go hK_69 ?_
            refine TL.v (ltb rfl) (rv_mv (v := .bool (decide ((¬ x23.2 = GErr.no) ∨ (¬ x31.2 = GErr.no)))) h_78) ?_
            obtain ⟨t39, ht_147, hp⟩ := bind_some' hp
            refine TL.cut 5 fun K_79 hK_80 => ?_
            have hJ_81 : ∀ e_83 : Env, e_83 3 = .int .i64 x13 → e_83 11 = .bool x11 → e_83 13 = .pointer (some ⟨b21, 0, none⟩) → e_83 15 = .pointer (some ⟨b30, 0, none⟩) → e_83 77 = .bool t39 → ∀ w, St E H [bx b38 104 (([.bool x31.1.done, .int .i64 x31.1.trap, .int .i64 x31.1.value, v32, .int .i64 x31.1.steps] : List Value) ++ (arrC x31.1.memory ++ ([] : List Value))), F33, F36, bx b30 104 (([.bool x23.1.done, .int .i64 x23.1.trap, .int .i64 x23.1.value, v24, .int .i64 x23.1.steps] : List Value) ++ (arrC x23.1.memory ++ ([] : List Value))), F25, F28, bx b10 90 [v2], bx b21 104 (([.bool x14.1.done, .int .i64 x14.1.trap, .int .i64 x14.1.value, v15, .int .i64 x14.1.steps] : List Value) ++ (arrC x14.1.memory ++ ([] : List Value))), F16] w → K_79 e_83 w := by
              intro e_83 h_84 h_85 h_86 h_87 h_88
              refine TL.go hK_80 ?_
              refine TL.v (ltb rfl) (rv_mv (v := .bool t39) h_88) ?_
              refine TL.cut 5 fun K_89 hK_90 => ?_
              have hJ_91 : ∀ e_93 : Env, e_93 3 = .int .i64 x13 → e_93 11 = .bool x11 → e_93 13 = .pointer (some ⟨b21, 0, none⟩) → e_93 15 = .pointer (some ⟨b30, 0, none⟩) → e_93 83 = .bool (decide (t39 = true ∨ x14.1.steps > x13)) → ∀ w, St E H [bx b38 104 (([.bool x31.1.done, .int .i64 x31.1.trap, .int .i64 x31.1.value, v32, .int .i64 x31.1.steps] : List Value) ++ (arrC x31.1.memory ++ ([] : List Value))), F33, F36, bx b30 104 (([.bool x23.1.done, .int .i64 x23.1.trap, .int .i64 x23.1.value, v24, .int .i64 x23.1.steps] : List Value) ++ (arrC x23.1.memory ++ ([] : List Value))), F25, F28, bx b10 90 [v2], bx b21 104 (([.bool x14.1.done, .int .i64 x14.1.trap, .int .i64 x14.1.value, v15, .int .i64 x14.1.steps] : List Value) ++ (arrC x14.1.memory ++ ([] : List Value))), F16] w → K_89 e_93 w := by
                intro e_93 h_94 h_95 h_96 h_97 h_98
                refine TL.go hK_90 ?_
                refine TL.v (ltb rfl) (rv_mv (v := .bool (decide (t39 = true ∨ x14.1.steps > x13))) h_98) ?_
                refine TL.cut 6 fun K_99 hK_100 => ?_
                have hJ_101 : ∀ e_103 : Env, e_103 3 = .int .i64 x13 → e_103 11 = .bool x11 → e_103 13 = .pointer (some ⟨b21, 0, none⟩) → e_103 15 = .pointer (some ⟨b30, 0, none⟩) → e_103 90 = .bool (decide ((t39 = true ∨ x14.1.steps > x13) ∨ x23.1.steps < x14.1.steps)) → ∀ w, St E H [bx b38 104 (([.bool x31.1.done, .int .i64 x31.1.trap, .int .i64 x31.1.value, v32, .int .i64 x31.1.steps] : List Value) ++ (arrC x31.1.memory ++ ([] : List Value))), F33, F36, bx b30 104 (([.bool x23.1.done, .int .i64 x23.1.trap, .int .i64 x23.1.value, v24, .int .i64 x23.1.steps] : List Value) ++ (arrC x23.1.memory ++ ([] : List Value))), F25, F28, bx b10 90 [v2], bx b21 104 (([.bool x14.1.done, .int .i64 x14.1.trap, .int .i64 x14.1.value, v15, .int .i64 x14.1.steps] : List Value) ++ (arrC x14.1.memory ++ ([] : List Value))), F16] w → K_99 e_103 w := by
                  intro e_103 h_104 h_105 h_106 h_107 h_108
                  refine TL.go hK_100 ?_
                  refine TL.nil ?_
                  refine TC.go hK_67 ?_
                  by_cases hc_109 : (t39 = true ∨ x14.1.steps > x13) ∨ x23.1.steps < x14.1.steps
                  · rw [if_pos hc_109] at hp
                    refine TC.condT (h_108.trans (bT hc_109)) ?_
                    refine TC.seq fun K_110 hK_111 => ?_
                    refine TC.region ?_
                    refine TL.v (ltb rfl) (rv_as (v := .bool false) rfl) ?_
                    refine TL.nil ?_
                    refine TC.go hK_111 ?_
                    refine TC.ret ?_
                    obtain rfl := Option.some.inj hp
                    exact fun w hw => retOk ⟨rfl, rfl⟩ (hw.pick [])
                  · rw [if_neg hc_109] at hp
                    refine TC.condF (h_108.trans (bF hc_109)) ?_
                    refine TC.skip ?_
                    refine TC.go hK_65 ?_
                    refine TC.seq fun K_112 hK_113 => ?_
                    refine TC.seq fun K_114 hK_115 => ?_
                    refine TC.region ?_
                    refine TL.v (ltb rfl) (rv_fa (b := b21) (o := 0) fa_104_0 h_106) ?_
                    refine TL.v (ltb rfl) (rv_ld (v := .bool x14.1.done) (o := 0) (o' := 0) (j := 0) sc_4 rfl (Src.at_ 7 rfl) (bx_cells b21 104 _) rfl rfl) ?_
                    refine TL.nil ?_
                    refine TC.go hK_115 ?_
                    by_cases hc_116 : x14.1.done = true
                    · rw [if_pos hc_116] at hp
                      refine TC.condT (bbT hc_116) ?_
                      refine TC.seq fun K_117 hK_118 => ?_
                      refine TC.region ?_
                      refine TL.v (ltb rfl) (rv_mv (v := .bool x11) h_105) ?_
                      refine TL.v (ltb rfl) (rv_mv (v := .bool x11) rfl) ?_
                      obtain ⟨t40, ht_125, hp⟩ := bind_some' hp
                      refine TL.cut 4 fun K_119 hK_120 => ?_
                      have hJ_121 : ∀ e_123 : Env, e_123 98 = .bool t40 → ∀ w, St E H [bx b38 104 (([.bool x31.1.done, .int .i64 x31.1.trap, .int .i64 x31.1.value, v32, .int .i64 x31.1.steps] : List Value) ++ (arrC x31.1.memory ++ ([] : List Value))), F33, F36, bx b30 104 (([.bool x23.1.done, .int .i64 x23.1.trap, .int .i64 x23.1.value, v24, .int .i64 x23.1.steps] : List Value) ++ (arrC x23.1.memory ++ ([] : List Value))), F25, F28, bx b10 90 [v2], bx b21 104 (([.bool x14.1.done, .int .i64 x14.1.trap, .int .i64 x14.1.value, v15, .int .i64 x14.1.steps] : List Value) ++ (arrC x14.1.memory ++ ([] : List Value))), F16] w → K_119 e_123 w := by
                        intro e_123 h_124
                        refine TL.go hK_120 ?_
                        refine TL.v (ltb rfl) (rv_as (v := .bool t40) h_124) ?_
                        refine TL.nil ?_
                        refine TC.go hK_118 ?_
                        refine TC.ret ?_
                        obtain rfl := Option.some.inj hp
                        exact fun w hw => retOk ⟨rfl, rfl⟩ (hw.pick [])
                      clear hp
                      have hp := ht_125
                      clear ht_125
                      by_cases hc_122 : x11 = true
                      · rw [if_pos hc_122] at hp
                        refine TL.gyes true (yieldE_of rfl (bbT hc_122)) rfl ?_
                        refine TL.v (ltb rfl) (rv_lda (o := 0) (o' := 0) (j := 0) (ds := (([.bool x14.1.done, .int .i64 x14.1.trap, .int .i64 x14.1.value, v15, .int .i64 x14.1.steps] : List Value) ++ (arrC x14.1.memory ++ ([] : List Value)))) ag_104 h_106 (Src.at_ 7 rfl) (bx_cells b21 104 _) rfl rfl rfl) ?_
                        refine TL.gyes true (yieldE_of rfl (bbT hc_122)) rfl ?_
                        refine TL.v (ltb rfl) (rv_lda (o := 0) (o' := 0) (j := 0) (ds := (([.bool x23.1.done, .int .i64 x23.1.trap, .int .i64 x23.1.value, v24, .int .i64 x23.1.steps] : List Value) ++ (arrC x23.1.memory ++ ([] : List Value)))) ag_104 h_107 (Src.at_ 3 rfl) (bx_cells b30 104 _) rfl rfl rfl) ?_
                        refine TL.gyes true (yieldE_of rfl (bbT hc_122)) rfl ?_
                        obtain ⟨x41, hy_126, hp⟩ := bind_some' hp
                        refine TL.callC (vs := [.agg ((([.bool x14.1.done, .int .i64 x14.1.trap, .int .i64 x14.1.value, v15, .int .i64 x14.1.steps] : List Value) ++ (arrC x14.1.memory ++ ([] : List Value)))).toArray, .agg ((([.bool x23.1.done, .int .i64 x23.1.trap, .int .i64 x23.1.value, v24, .int .i64 x23.1.steps] : List Value) ++ (arrC x23.1.memory ++ ([] : List Value)))).toArray]) (R := fettleref04_Same.R x41) [] [bx b38 104 (([.bool x31.1.done, .int .i64 x31.1.trap, .int .i64 x31.1.value, v32, .int .i64 x31.1.steps] : List Value) ++ (arrC x31.1.memory ++ ([] : List Value))), F33, F36, bx b30 104 (([.bool x23.1.done, .int .i64 x23.1.trap, .int .i64 x23.1.value, v24, .int .i64 x23.1.steps] : List Value) ++ (arrC x23.1.memory ++ ([] : List Value))), F25, F28, bx b10 90 [v2], bx b21 104 (([.bool x14.1.done, .int .i64 x14.1.trap, .int .i64 x14.1.value, v15, .int .i64 x14.1.steps] : List Value) ++ (arrC x14.1.memory ++ ([] : List Value))), F16] rfl cb_56 (ltb rfl) (mc rfl (mc rfl m0)) (fun w hw => fettleref04_Same_ok (a1 := x14.1) (a4 := x23.1) (h17.ro.mono (subB 8 rfl)) (h26.ro.mono (subB 4 rfl)) hy_126 hw) fun v A' hR_127 => ?_
                        obtain ⟨rfl, rfl⟩ := hR_127
                        refine TL.norm (L' := [bx b38 104 (([.bool x31.1.done, .int .i64 x31.1.trap, .int .i64 x31.1.value, v32, .int .i64 x31.1.steps] : List Value) ++ (arrC x31.1.memory ++ ([] : List Value))), F33, F36, bx b30 104 (([.bool x23.1.done, .int .i64 x23.1.trap, .int .i64 x23.1.value, v24, .int .i64 x23.1.steps] : List Value) ++ (arrC x23.1.memory ++ ([] : List Value))), F25, F28, bx b10 90 [v2], bx b21 104 (([.bool x14.1.done, .int .i64 x14.1.trap, .int .i64 x14.1.value, v15, .int .i64 x14.1.steps] : List Value) ++ (arrC x14.1.memory ++ ([] : List Value))), F16]) rfl ?_
                        refine TL.v (ltb rfl) (rv_pickT true (bbT hc_122) rfl (v := .bool x41) rfl) ?_
                        obtain rfl := Option.some.inj hp
                        refine TL.nil (hJ_121 _ ?_)
                        · exact rfl
                      · rw [if_neg hc_122] at hp
                        refine TL.gno false rfl (fun d hd => by cases hd; exact ltb rfl) (yieldE_of rfl (bbF hc_122)) rfl ?_
                        refine TL.gno false rfl (fun d hd => by cases hd; exact ltb rfl) (yieldE_of rfl (bbF hc_122)) rfl ?_
                        refine TL.gno false rfl (fun d hd => by cases hd; exact ltb rfl) (yieldE_of rfl (bbF hc_122)) rfl ?_
                        refine TL.v (ltb rfl) (rv_pickF false (bbF hc_122) rfl (v := .bool false) rfl) ?_
                        obtain rfl := Option.some.inj hp
                        refine TL.nil (hJ_121 _ ?_)
                        · exact rfl
                    · rw [if_neg hc_116] at hp
                      refine TC.condF (bbF hc_116) ?_
                      refine TC.skip ?_
                      refine TC.go hK_113 ?_
                      refine TC.seq fun K_128 hK_129 => ?_
                      refine TC.region ?_
                      refine TL.v (ltb rfl) (rv_mv (v := .bool x11) h_105) ?_
                      refine TL.v (ltb rfl) (rv_mv (v := .bool x11) rfl) ?_
                      refine TL.cut 5 fun K_130 hK_131 => ?_
                      have hJ_132 : ∀ e_134 : Env, e_134 13 = .pointer (some ⟨b21, 0, none⟩) → e_134 15 = .pointer (some ⟨b30, 0, none⟩) → e_134 105 = .bool (decide (x11 = true ∧ x14.1.steps = x13)) → ∀ w, St E H [bx b38 104 (([.bool x31.1.done, .int .i64 x31.1.trap, .int .i64 x31.1.value, v32, .int .i64 x31.1.steps] : List Value) ++ (arrC x31.1.memory ++ ([] : List Value))), F33, F36, bx b30 104 (([.bool x23.1.done, .int .i64 x23.1.trap, .int .i64 x23.1.value, v24, .int .i64 x23.1.steps] : List Value) ++ (arrC x23.1.memory ++ ([] : List Value))), F25, F28, bx b10 90 [v2], bx b21 104 (([.bool x14.1.done, .int .i64 x14.1.trap, .int .i64 x14.1.value, v15, .int .i64 x14.1.steps] : List Value) ++ (arrC x14.1.memory ++ ([] : List Value))), F16] w → K_130 e_134 w := by
                        intro e_134 h_135 h_136 h_137
                        refine TL.go hK_131 ?_
                        refine TL.v (ltb rfl) (rv_mv (v := .bool (decide (x11 = true ∧ x14.1.steps = x13))) h_137) ?_
                        obtain ⟨t42, ht_144, hp⟩ := bind_some' hp
                        refine TL.cut 6 fun K_138 hK_139 => ?_
                        have hJ_140 : ∀ e_142 : Env, e_142 112 = .bool t42 → ∀ w, St E H [bx b38 104 (([.bool x31.1.done, .int .i64 x31.1.trap, .int .i64 x31.1.value, v32, .int .i64 x31.1.steps] : List Value) ++ (arrC x31.1.memory ++ ([] : List Value))), F33, F36, bx b30 104 (([.bool x23.1.done, .int .i64 x23.1.trap, .int .i64 x23.1.value, v24, .int .i64 x23.1.steps] : List Value) ++ (arrC x23.1.memory ++ ([] : List Value))), F25, F28, bx b10 90 [v2], bx b21 104 (([.bool x14.1.done, .int .i64 x14.1.trap, .int .i64 x14.1.value, v15, .int .i64 x14.1.steps] : List Value) ++ (arrC x14.1.memory ++ ([] : List Value))), F16] w → K_138 e_142 w := by
                          intro e_142 h_143
                          refine TL.go hK_139 ?_
                          refine TL.v (ltb rfl) (rv_as (v := .bool t42) h_143) ?_
                          refine TL.nil ?_
                          refine TC.go hK_129 ?_
                          refine TC.ret ?_
                          obtain rfl := Option.some.inj hp
                          exact fun w hw => retOk ⟨rfl, rfl⟩ (hw.pick [])
                        clear hp
                        have hp := ht_144
                        clear ht_144
                        by_cases hc_141 : x11 = true ∧ x14.1.steps = x13
                        · rw [if_pos hc_141] at hp
                          refine TL.gyes true (yieldE_of rfl (bT hc_141)) rfl ?_
                          refine TL.v (ltb rfl) (rv_fa (b := b21) (o := 0) fa_104_3 h_135) ?_
                          refine TL.gyes true (yieldE_of rfl (bT hc_141)) rfl ?_
                          refine TL.v (ltb rfl) (rv_ld (v := v15) (o := 3) (o' := 0) (j := 3) sc_100 rfl (Src.at_ 7 rfl) (bx_cells b21 104 _) rfl rfl) ?_
                          refine TL.gyes true (yieldE_of rfl (bT hc_141)) rfl ?_
                          refine TL.v (ltb rfl) (rv_fa (b := b30) (o := 0) fa_104_3 h_136) ?_
                          refine TL.gyes true (yieldE_of rfl (bT hc_141)) rfl ?_
                          refine TL.v (ltb rfl) (rv_ld (v := v24) (o := 3) (o' := 0) (j := 3) sc_100 rfl (Src.at_ 3 rfl) (bx_cells b30 104 _) rfl rfl) ?_
                          refine TL.gyes true (yieldE_of rfl (bT hc_141)) rfl ?_
                          obtain ⟨x43, hy_145, hp⟩ := bind_some' hp
                          refine TL.callC (vs := [v15, v24]) (R := fettleref04_Begins.R x43) [] [bx b38 104 (([.bool x31.1.done, .int .i64 x31.1.trap, .int .i64 x31.1.value, v32, .int .i64 x31.1.steps] : List Value) ++ (arrC x31.1.memory ++ ([] : List Value))), F33, F36, bx b30 104 (([.bool x23.1.done, .int .i64 x23.1.trap, .int .i64 x23.1.value, v24, .int .i64 x23.1.steps] : List Value) ++ (arrC x23.1.memory ++ ([] : List Value))), F25, F28, bx b10 90 [v2], bx b21 104 (([.bool x14.1.done, .int .i64 x14.1.trap, .int .i64 x14.1.value, v15, .int .i64 x14.1.steps] : List Value) ++ (arrC x14.1.memory ++ ([] : List Value))), F16] rfl cb_57 (ltb rfl) (mc rfl (mc rfl m0)) (fun w hw => fettleref04_Begins_ok (a1 := x14.1.out) (a4 := x23.1.out) (h17.ro.mono (subB 8 rfl)) (h26.ro.mono (subB 4 rfl)) hy_145 hw) fun v A' hR_146 => ?_
                          obtain ⟨rfl, rfl⟩ := hR_146
                          refine TL.norm (L' := [bx b38 104 (([.bool x31.1.done, .int .i64 x31.1.trap, .int .i64 x31.1.value, v32, .int .i64 x31.1.steps] : List Value) ++ (arrC x31.1.memory ++ ([] : List Value))), F33, F36, bx b30 104 (([.bool x23.1.done, .int .i64 x23.1.trap, .int .i64 x23.1.value, v24, .int .i64 x23.1.steps] : List Value) ++ (arrC x23.1.memory ++ ([] : List Value))), F25, F28, bx b10 90 [v2], bx b21 104 (([.bool x14.1.done, .int .i64 x14.1.trap, .int .i64 x14.1.value, v15, .int .i64 x14.1.steps] : List Value) ++ (arrC x14.1.memory ++ ([] : List Value))), F16]) rfl ?_
                          refine TL.v (ltb rfl) (rv_pickT true (bT hc_141) rfl (v := .bool x43) rfl) ?_
                          obtain rfl := Option.some.inj hp
                          refine TL.nil (hJ_140 _ ?_)
                          · exact rfl
                        · rw [if_neg hc_141] at hp
                          refine TL.gno false rfl (fun d hd => by cases hd; exact ltb rfl) (yieldE_of rfl (bF hc_141)) rfl ?_
                          refine TL.gno false rfl (fun d hd => by cases hd; exact ltb rfl) (yieldE_of rfl (bF hc_141)) rfl ?_
                          refine TL.gno false rfl (fun d hd => by cases hd; exact ltb rfl) (yieldE_of rfl (bF hc_141)) rfl ?_
                          refine TL.gno false rfl (fun d hd => by cases hd; exact ltb rfl) (yieldE_of rfl (bF hc_141)) rfl ?_
                          refine TL.gno false rfl (fun d hd => by cases hd; exact ltb rfl) (yieldE_of rfl (bF hc_141)) rfl ?_
                          refine TL.v (ltb rfl) (rv_pickF false (bF hc_141) rfl (v := .bool false) rfl) ?_
                          obtain rfl := Option.some.inj hp
                          refine TL.nil (hJ_140 _ ?_)
                          · exact rfl
                      by_cases hc_133 : x11 = true
                      · refine TL.gyes true (yieldE_of rfl (bbT hc_133)) rfl ?_
                        refine TL.v (ltb rfl) (rv_fa (b := b21) (o := 0) fa_104_4 h_106) ?_
                        refine TL.gyes true (yieldE_of rfl (bbT hc_133)) rfl ?_
                        refine TL.v (ltb rfl) (rv_ld (v := .int .i64 x14.1.steps) (o := 4) (o' := 0) (j := 4) sc_3 rfl (Src.at_ 7 rfl) (bx_cells b21 104 _) rfl rfl) ?_
                        refine TL.gyes true (yieldE_of rfl (bbT hc_133)) rfl ?_
                        refine TL.v (ltb rfl) (rv_mv (v := .int .i64 x13) h_104) ?_
                        refine TL.gyes true (yieldE_of rfl (bbT hc_133)) rfl ?_
                        refine TL.v (ltb rfl) (rv_eql (k := .i64) (m := x14.1.steps) (n := x13) rfl rfl) ?_
                        refine TL.v (ltb rfl) (rv_pickT true (bbT hc_133) rfl (v := .bool (decide (x14.1.steps = x13))) rfl) ?_
                        refine TL.nil (hJ_132 _ ?_ ?_ ?_)
                        · exact h_106
                        · exact h_107
                        · exact (bAt hc_133)
                      · refine TL.gno false rfl (fun d hd => by cases hd; exact ltb rfl) (yieldE_of rfl (bbF hc_133)) rfl ?_
                        refine TL.gno false rfl (fun d hd => by cases hd; exact ltb rfl) (yieldE_of rfl (bbF hc_133)) rfl ?_
                        refine TL.gno false rfl (fun d hd => by cases hd; exact ltb rfl) (yieldE_of rfl (bbF hc_133)) rfl ?_
                        refine TL.gno false rfl (fun d hd => by cases hd; exact ltb rfl) (yieldE_of rfl (bbF hc_133)) rfl ?_
                        refine TL.v (ltb rfl) (rv_pickF false (bbF hc_133) rfl (v := .bool false) rfl) ?_
                        refine TL.nil (hJ_132 _ ?_ ?_ ?_)
                        · exact h_106
                        · exact h_107
                        · exact (bAf hc_133)
                by_cases hc_102 : t39 = true ∨ x14.1.steps > x13
                · refine TL.gno true rfl (fun d hd => by cases hd; exact ltb rfl) (yieldE_of rfl (bT hc_102)) rfl ?_
                  refine TL.gno true rfl (fun d hd => by cases hd; exact ltb rfl) (yieldE_of rfl (bT hc_102)) rfl ?_
                  refine TL.gno true rfl (fun d hd => by cases hd; exact ltb rfl) (yieldE_of rfl (bT hc_102)) rfl ?_
                  refine TL.gno true rfl (fun d hd => by cases hd; exact ltb rfl) (yieldE_of rfl (bT hc_102)) rfl ?_
                  refine TL.gno true rfl (fun d hd => by cases hd; exact ltb rfl) (yieldE_of rfl (bT hc_102)) rfl ?_
                  refine TL.v (ltb rfl) (rv_pickT true (bT hc_102) rfl (v := .bool true) rfl) ?_
                  refine TL.nil (hJ_101 _ ?_ ?_ ?_ ?_ ?_)
                  · exact h_94
                  · exact h_95
                  · exact h_96
                  · exact h_97
                  · exact (bOt hc_102)
                · refine TL.gyes false (yieldE_of rfl (bF hc_102)) rfl ?_
                  refine TL.v (ltb rfl) (rv_fa (b := b30) (o := 0) fa_104_4 h_97) ?_
                  refine TL.gyes false (yieldE_of rfl (bF hc_102)) rfl ?_
                  refine TL.v (ltb rfl) (rv_ld (v := .int .i64 x23.1.steps) (o := 4) (o' := 0) (j := 4) sc_3 rfl (Src.at_ 3 rfl) (bx_cells b30 104 _) rfl rfl) ?_
                  refine TL.gyes false (yieldE_of rfl (bF hc_102)) rfl ?_
                  refine TL.v (ltb rfl) (rv_fa (b := b21) (o := 0) fa_104_4 h_96) ?_
                  refine TL.gyes false (yieldE_of rfl (bF hc_102)) rfl ?_
                  refine TL.v (ltb rfl) (rv_ld (v := .int .i64 x14.1.steps) (o := 4) (o' := 0) (j := 4) sc_3 rfl (Src.at_ 7 rfl) (bx_cells b21 104 _) rfl rfl) ?_
                  refine TL.gyes false (yieldE_of rfl (bF hc_102)) rfl ?_
                  refine TL.v (ltb rfl) (rv_lss (k := .i64) (m := x23.1.steps) (n := x14.1.steps) rfl rfl) ?_
                  refine TL.v (ltb rfl) (rv_pickF false (bF hc_102) rfl (v := .bool (decide (x23.1.steps < x14.1.steps))) rfl) ?_
                  refine TL.nil (hJ_101 _ ?_ ?_ ?_ ?_ ?_)
                  · exact h_94
                  · exact h_95
                  · exact h_96
                  · exact h_97
                  · exact (bOf hc_102)
              by_cases hc_92 : t39 = true
              · refine TL.gno true rfl (fun d hd => by cases hd; exact ltb rfl) (yieldE_of rfl (bbT hc_92)) rfl ?_
                refine TL.gno true rfl (fun d hd => by cases hd; exact ltb rfl) (yieldE_of rfl (bbT hc_92)) rfl ?_
                refine TL.gno true rfl (fun d hd => by cases hd; exact ltb rfl) (yieldE_of rfl (bbT hc_92)) rfl ?_
                refine TL.gno true rfl (fun d hd => by cases hd; exact ltb rfl) (yieldE_of rfl (bbT hc_92)) rfl ?_
                refine TL.v (ltb rfl) (rv_pickT true (bbT hc_92) rfl (v := .bool true) rfl) ?_
                refine TL.nil (hJ_91 _ ?_ ?_ ?_ ?_ ?_)
                · exact h_84
                · exact h_85
                · exact h_86
                · exact h_87
                · exact (bOt hc_92)
              · refine TL.gyes false (yieldE_of rfl (bbF hc_92)) rfl ?_
                refine TL.v (ltb rfl) (rv_fa (b := b21) (o := 0) fa_104_4 h_86) ?_
                refine TL.gyes false (yieldE_of rfl (bbF hc_92)) rfl ?_
                refine TL.v (ltb rfl) (rv_ld (v := .int .i64 x14.1.steps) (o := 4) (o' := 0) (j := 4) sc_3 rfl (Src.at_ 7 rfl) (bx_cells b21 104 _) rfl rfl) ?_
                refine TL.gyes false (yieldE_of rfl (bbF hc_92)) rfl ?_
                refine TL.v (ltb rfl) (rv_mv (v := .int .i64 x13) h_84) ?_
                refine TL.gyes false (yieldE_of rfl (bbF hc_92)) rfl ?_
                refine TL.v (ltb rfl) (rv_gtr (k := .i64) (m := x14.1.steps) (n := x13) rfl rfl) ?_
                refine TL.v (ltb rfl) (rv_pickF false (bbF hc_92) rfl (v := .bool (decide (x14.1.steps > x13))) rfl) ?_
                refine TL.nil (hJ_91 _ ?_ ?_ ?_ ?_ ?_)
                · exact h_84
                · exact h_85
                · exact h_86
                · exact h_87
                · exact (bOf hc_92)
            clear hp
            have hp := ht_147
            clear ht_147
            by_cases hc_82 : (¬ x23.2 = GErr.no) ∨ (¬ x31.2 = GErr.no)
            · rw [if_pos hc_82] at hp
              refine TL.gno true rfl (fun d hd => by cases hd; exact ltb rfl) (yieldE_of rfl (bT hc_82)) rfl ?_
              refine TL.gno true rfl (fun d hd => by cases hd; exact ltb rfl) (yieldE_of rfl (bT hc_82)) rfl ?_
              refine TL.gno true rfl (fun d hd => by cases hd; exact ltb rfl) (yieldE_of rfl (bT hc_82)) rfl ?_
              refine TL.gno true rfl (fun d hd => by cases hd; exact ltb rfl) (yieldE_of rfl (bT hc_82)) rfl ?_
              refine TL.v (ltb rfl) (rv_pickT true (bT hc_82) rfl (v := .bool true) rfl) ?_
              obtain rfl := Option.some.inj hp
              refine TL.nil (hJ_81 _ ?_ ?_ ?_ ?_ ?_)
              · exact h_73
              · exact h_74
              · exact h_75
              · exact h_76
              · exact rfl
            · rw [if_neg hc_82] at hp
              refine TL.gyes false (yieldE_of rfl (bF hc_82)) rfl ?_
              refine TL.v (ltb rfl) (rv_lda (o := 0) (o' := 0) (j := 0) (ds := (([.bool x31.1.done, .int .i64 x31.1.trap, .int .i64 x31.1.value, v32, .int .i64 x31.1.steps] : List Value) ++ (arrC x31.1.memory ++ ([] : List Value)))) ag_104 h_77 (Src.at_ 0 rfl) (bx_cells b38 104 _) rfl rfl rfl) ?_
              refine TL.gyes false (yieldE_of rfl (bF hc_82)) rfl ?_
              refine TL.v (ltb rfl) (rv_bv (vs := []) (ds := (([.bool false, .int .i64 0, .int .i64 0, .slice none 0 0, .int .i64 0] : List Value) ++ (arrC A64.zero ++ ([] : List Value)))) p0 (fun w => by kernel_rfl)) ?_
              refine TL.gyes false (yieldE_of rfl (bF hc_82)) rfl ?_
              obtain ⟨x44, hy_148, hp⟩ := bind_some' hp
              refine TL.callC (vs := [.agg ((([.bool x31.1.done, .int .i64 x31.1.trap, .int .i64 x31.1.value, v32, .int .i64 x31.1.steps] : List Value) ++ (arrC x31.1.memory ++ ([] : List Value)))).toArray, .agg ((([.bool false, .int .i64 0, .int .i64 0, .slice none 0 0, .int .i64 0] : List Value) ++ (arrC A64.zero ++ ([] : List Value)))).toArray]) (R := fettleref04_Same.R x44) [] [bx b38 104 (([.bool x31.1.done, .int .i64 x31.1.trap, .int .i64 x31.1.value, v32, .int .i64 x31.1.steps] : List Value) ++ (arrC x31.1.memory ++ ([] : List Value))), F33, F36, bx b30 104 (([.bool x23.1.done, .int .i64 x23.1.trap, .int .i64 x23.1.value, v24, .int .i64 x23.1.steps] : List Value) ++ (arrC x23.1.memory ++ ([] : List Value))), F25, F28, bx b10 90 [v2], bx b21 104 (([.bool x14.1.done, .int .i64 x14.1.trap, .int .i64 x14.1.value, v15, .int .i64 x14.1.steps] : List Value) ++ (arrC x14.1.memory ++ ([] : List Value))), F16] rfl cb_56 (ltb rfl) (mc rfl (mc rfl m0)) (fun w hw => fettleref04_Same_ok (a1 := x31.1) (a4 := (⟨false, 0, 0, [], 0, A64.zero⟩ : POutcome)) (h34.ro.mono (subB 1 rfl)) ((SlI.nil (G := H) none 0).mono subH) hy_148 hw) fun v A' hR_149 => ?_
              obtain ⟨rfl, rfl⟩ := hR_149
              refine TL.norm (L' := [bx b38 104 (([.bool x31.1.done, .int .i64 x31.1.trap, .int .i64 x31.1.value, v32, .int .i64 x31.1.steps] : List Value) ++ (arrC x31.1.memory ++ ([] : List Value))), F33, F36, bx b30 104 (([.bool x23.1.done, .int .i64 x23.1.trap, .int .i64 x23.1.value, v24, .int .i64 x23.1.steps] : List Value) ++ (arrC x23.1.memory ++ ([] : List Value))), F25, F28, bx b10 90 [v2], bx b21 104 (([.bool x14.1.done, .int .i64 x14.1.trap, .int .i64 x14.1.value, v15, .int .i64 x14.1.steps] : List Value) ++ (arrC x14.1.memory ++ ([] : List Value))), F16]) rfl ?_
              refine TL.gyes false (yieldE_of rfl (bF hc_82)) rfl ?_
              refine TL.v (ltb rfl) (rv_not (b := x44) rfl) ?_
              refine TL.v (ltb rfl) (rv_pickF false (bF hc_82) rfl (v := .bool (!x44)) rfl) ?_
              obtain rfl := Option.some.inj hp
              refine TL.nil (hJ_81 _ ?_ ?_ ?_ ?_ ?_)
              · exact h_73
              · exact h_74
              · exact h_75
              · exact h_76
              · exact rfl
          by_cases hc_71 : ¬ x23.2 = GErr.no
          · refine TL.gno true rfl (fun d hd => by cases hd; exact ltb rfl) (yieldE_of rfl (bT hc_71)) rfl ?_
            refine TL.gno true rfl (fun d hd => by cases hd; exact ltb rfl) (yieldE_of rfl (bT hc_71)) rfl ?_
            refine TL.v (ltb rfl) (rv_pickT true (bT hc_71) rfl (v := .bool true) rfl) ?_
            refine TL.nil (hJ_70 _ ?_ ?_ ?_ ?_ ?_ ?_)
            · exact h_50
            · exact h_53
            · exact h_54
            · exact rfl
            · exact rfl
            · exact (bOt hc_71)
          · refine TL.gyes false (yieldE_of rfl (bF hc_71)) rfl ?_
            refine TL.v (ltb rfl) (rv_mv (v := v35) rfl) ?_
            refine TL.gyes false (yieldE_of rfl (bF hc_71)) rfl ?_
            refine TL.v (ltb rfl) (rv_neqEN ifc_49 h37 rfl) ?_
            refine TL.v (ltb rfl) (rv_pickF false (bF hc_71) rfl (v := .bool (decide (¬ x31.2 = GErr.no))) rfl) ?_
            refine TL.nil (hJ_70 _ ?_ ?_ ?_ ?_ ?_ ?_)
            · exact h_50
            · exact h_53
            · exact h_54
            · exact rfl
            · exact rfl
            · exact (bOf hc_71)
        refine TC.seq fun K_150 hK_151 => ?_
        refine TC.region ?_
        refine TL.v (ltb rfl) (rv_mv (v := .int .i64 a9) h_23) ?_
        refine TL.v (ltb rfl) (rv_lss (k := .i64) (m := a9) (n := 0) rfl rfl) ?_
        refine TL.nil ?_
        refine TC.go hK_151 ?_
        by_cases hc_152 : a9 < 0
        · rw [if_pos hc_152] at hp
          refine TC.condT (bT hc_152) ?_
          refine TC.region ?_
          refine TL.v (ltb rfl) (rv_mv (v := .int .i64 a9) h_23) ?_
          refine TL.v (ltb rfl) (rv_add (k := .i64) (m := a9) (n := 1) rfl rfl) ?_
          refine TL.v (ltb rfl) (rv_neg (k := .i64) (m := (w64 (a9 + 1))) rfl) ?_
          refine TL.v (ltb rfl) (rv_as (v := .int .i64 (w64 (0 - (w64 (a9 + 1))))) rfl) ?_
          refine TL.nil ?_
          refine fun w hw => hJ_55 (w64 (0 - (w64 (a9 + 1)))) _ ?_ ?_ ?_ ?_ ?_ ?_ ?_ hp w (hw.pick [3, 0, 0])
          · exact h_20
          · exact h_21
          · exact rfl
          · exact rfl
          · exact h_24
          · exact h_25
          · exact rfl
        · rw [if_neg hc_152] at hp
          refine TC.condF (bF hc_152) ?_
          refine TC.skip ?_
          refine fun w hw => hJ_55 a9 _ ?_ ?_ ?_ ?_ ?_ ?_ ?_ hp w (hw.pick [3, 0, 0])
          · exact h_20
          · exact h_21
          · exact rfl
          · exact h_23
          · exact h_24
          · exact h_25
          · exact rfl
  by_cases hc_18 : (!x12) = true
  · refine TL.gno true rfl (fun d hd => by cases hd; exact ltb rfl) (yieldE_of rfl (bbT hc_18)) rfl ?_
    refine TL.gno true rfl (fun d hd => by cases hd; exact ltb rfl) (yieldE_of rfl (bbT hc_18)) rfl ?_
    refine TL.gno true rfl (fun d hd => by cases hd; exact ltb rfl) (yieldE_of rfl (bbT hc_18)) rfl ?_
    refine TL.v (ltb rfl) (rv_pickT true (bbT hc_18) rfl (v := .bool true) rfl) ?_
    refine TL.nil (hJ_17 _ ?_ ?_ ?_ ?_ ?_ ?_ ?_)
    · exact rfl
    · exact rfl
    · exact rfl
    · exact rfl
    · exact rfl
    · exact rfl
    · exact (bOt hc_18)
  · refine TL.gyes false (yieldE_of rfl (bbF hc_18)) rfl ?_
    refine TL.v (ltb rfl) (rv_mv (v := v6) rfl) ?_
    refine TL.gyes false (yieldE_of rfl (bbF hc_18)) rfl ?_
    refine TL.v (ltb rfl) (rv_lenI (v := v6) Try.underlying100 rfl h7) ?_
    refine TL.gyes false (yieldE_of rfl (bbF hc_18)) rfl ?_
    refine TL.v (ltb rfl) (rv_gtr (k := .i64) (m := (len a5)) (n := 300) rfl rfl) ?_
    refine TL.v (ltb rfl) (rv_pickF false (bbF hc_18) rfl (v := .bool (decide ((len a5) > 300))) rfl) ?_
    refine TL.nil (hJ_17 _ ?_ ?_ ?_ ?_ ?_ ?_ ?_)
    · exact rfl
    · exact rfl
    · exact rfl
    · exact rfl
    · exact rfl
    · exact rfl
    · exact (bOf hc_18)
end Go.Proofs.Ytoflleabpkgdpaa
