/- The walk through the program's functions: each one's pure reading, and that a call does what it says. No conditions. -/
import Derived.Test.YtoflleabpkgdpaaR2
set_option linter.unusedVariables false
set_option linter.unusedSimpArgs false
namespace Go.Proofs.Ytoflleabpkgdpaa
open Go Go.Proofs

/-! ### fettle/fettlelaw04.RunCalls -/
abbrev fettlelaw04_RunCalls.R (r : Bool) (v : Value) (A : List FP) : Prop := .bool r = v ∧ A = []
def fettlelaw04_RunCalls.jn191 (x10 : Bool) (x13 : POutcome × GErr) (x72 : POutcome × GErr) (x82 : Int) : Option Bool :=
  (if (((x10 = true ∧ x72.1.done = true) ∧ x72.1.trap = x13.1.trap) ∧ x72.1.value = x13.1.value) ∧ x72.1.memory = x13.1.memory then (fettleref04_Alike x13.1.out x72.1.out).bind fun x84 =>
  some x84 else some false).bind fun t83 =>
  some (decide (t83 = true ∧ x72.1.steps = (w64 (x13.1.steps + x82))))
def fettlelaw04_RunCalls.jn145 (a1 : PModule) (a4 : Int) (a5 : List Int) (x10 : Bool) (x12 : Int) (x13 : POutcome × GErr) (x21 : PFunc) (x43 : List Int) (x48 : List Int) (x52 : Int) (x53 : Int) : Option Bool :=
  (fettleref02_Copy a1).bind fun x62 =>
  (cat x62.funcs [(⟨x21.params, x21.result, x48, [(⟨([] : List PPhi), [(⟨17, x52, x43, 0, a4⟩ : PInstr)], (⟨3, x53, ([] : List Int)⟩ : PTerm)⟩ : PBlock)]⟩ : PFunc)]).bind fun x68 =>
  (run_Run (⟨x68⟩ : PModule) (len a1.funcs) a5 (w64 (x12 + 2))).bind fun x72 =>
  if ¬ x72.2 = GErr.no then
    some false
  else
    if (!x13.1.done) = true then
      (if x10 = true then (fettleref04_Begins x13.1.out x72.1.out).bind fun x81 =>
      some x81 else some false).bind fun t80 =>
      some t80
    else
      if ¬ x13.1.trap = 0 then
        fettlelaw04_RunCalls.jn191 x10 x13 x72 1
      else
        fettlelaw04_RunCalls.jn191 x10 x13 x72 2
def fettlelaw04_RunCalls.nx122 (a1 : PModule) (a4 : Int) (a5 : List Int) (x10 : Bool) (x12 : Int) (x13 : POutcome × GErr) (x21 : PFunc) (x33 : List Int) (x43 : List Int) : Option Bool :=
  if ¬ x21.result = 0 then
    (cat x33 [x21.result]).bind fun x86 =>
    fettlelaw04_RunCalls.jn145 a1 a4 a5 x10 x12 x13 x21 x43 x86 x21.params x21.params
  else
    fettlelaw04_RunCalls.jn145 a1 a4 a5 x10 x12 x13 x21 x43 x33 (-1) (-1)
def fettlelaw04_RunCalls.bd122 (x21 : PFunc) (x38 : List Int) (x42 : Int) : Option (Ex (List Int) (List Int × Int)) :=
  if x42 < x21.params then
    (cat x38 [x42]).bind fun x91 =>
    some (.go (x91, (w64 (x42 + 1))))
  else
    some (.ret x38)
def fettlelaw04_RunCalls.jn101 (a1 : PModule) (a4 : Int) (a5 : List Int) (x10 : Bool) (x12 : Int) (x13 : POutcome × GErr) (x21 : PFunc) (x33 : List Int) : Option Bool :=
  (whl (fun (s : (List Int × Int)) => fettlelaw04_RunCalls.bd122 x21 s.1 s.2) FUEL (([] : List Int), 0)).bind fun z =>
  fettlelaw04_RunCalls.nx122 a1 a4 a5 x10 x12 x13 x21 x33 z
def fettlelaw04_RunCalls (a1 : PModule) (a4 : Int) (a5 : List Int) (a8 : Int) : Option Bool :=
  (fettlelaw04_up).bind fun x10 =>
  (fettleref02_Small a1).bind fun x11 =>
  if ((!x11) = true ∨ (len a5) > 300) ∨ (len a1.funcs) > 31 then
    some x10
  else
    (fettlelaw04_few a8).bind fun x12 =>
    (run_Run a1 a4 a5 x12).bind fun x13 =>
    if ((¬ x13.2 = GErr.no) ∨ a4 < 0) ∨ a4 ≥ (len a1.funcs) then
      some (decide (x10 = true ∧ (¬ x13.2 = GErr.no)))
    else
      (idx a1.funcs a4).bind fun x21 =>
      (upto x21.regs x21.params).bind fun x3697 =>
      (cat ([] : List Int) x3697).bind fun x4097 =>
      fettlelaw04_RunCalls.jn101 a1 a4 a5 x10 x12 x13 x21 x4097
set_option maxHeartbeats 4000000 in
theorem fettlelaw04_RunCalls_ok {E : World} {H : FP} {w : World} {a1 : PModule} {a4 : Int} {a5 : List Int} {a8 : Int} {v2 : Value} {v6 : Value} {r : Bool} (h3 : SlI kFunc H a1.funcs v2) (h7 : SlI (kInt .i64) H a5 v6) (hp : fettlelaw04_RunCalls a1 a4 a5 a8 = some r) (hst : St E H [] w) :
    Fn Try.prog 14 #[.agg #[v2], .int .i64 a4, v6, .int .i64 a8] w fun v w' => ∃ A, fettlelaw04_RunCalls.R r v A ∧ St E H A w' := by
  refine Fn.body (fn := Try.f14) (args := [.agg #[v2], .int .i64 a4, v6, .int .i64 a8]) E H [] [.tmp 8] 198 Try.func14 rfl rfl rfl rfl (leb rfl) hst ?_
  unfold fettlelaw04_RunCalls at hp
  refine TC.seq fun K_1 hK_2 => ?_
  refine TC.region ?_
  refine TL.box (cs := [v2]) (v := .agg #[v2]) (ltb rfl) rfl rfl fun b9 => ?_
  refine TL.v (ltb rfl) (rv_as (v := .bool false) rfl) ?_
  refine TL.nil ?_
  refine TC.go hK_2 ?_
  refine TC.seq fun K_3 hK_4 => ?_
  refine TC.region ?_
  obtain ⟨x10, hy_5, hp⟩ := bind_some' hp
  refine TL.callC (vs := []) (R := fettlelaw04_up.R x10) [] [bx b9 90 [v2]] rfl cb_53 (ltb rfl) m0 (fun w hw => fettlelaw04_up_ok hy_5 hw) fun v A' hR_6 => ?_
  obtain ⟨rfl, rfl⟩ := hR_6
  refine TL.norm (L' := [bx b9 90 [v2]]) rfl ?_
  refine TL.v (ltb rfl) (rv_as (v := .bool x10) rfl) ?_
  refine TL.nil ?_
  refine TC.go hK_4 ?_
  refine TC.seq fun K_7 hK_8 => ?_
  refine TC.region ?_
  refine TL.v (ltb rfl) (rv_lda (o := 0) (o' := 0) (j := 0) (ds := [v2]) ag_90 rfl (Src.at_ 0 rfl) (bx_cells b9 90 _) rfl rfl rfl) ?_
  obtain ⟨x11, hy_9, hp⟩ := bind_some' hp
  refine TL.callC (vs := [.agg #[v2]]) (R := fettleref02_Small.R x11) [] [bx b9 90 [v2]] rfl cb_48 (ltb rfl) (mc rfl m0) (fun w hw => fettleref02_Small_ok (a1 := a1) (h3.mono subH) hy_9 hw) fun v A' hR_10 => ?_
  obtain ⟨rfl, rfl⟩ := hR_10
  refine TL.norm (L' := [bx b9 90 [v2]]) rfl ?_
  refine TL.v (ltb rfl) (rv_as (v := .bool x11) rfl) ?_
  refine TL.nil ?_
  refine TC.go hK_8 ?_
  refine TC.seq fun K_11 hK_12 => ?_
  refine TC.seq fun K_13 hK_14 => ?_
  refine TC.region ?_
  refine TL.v (ltb rfl) (rv_mv (v := .bool x11) rfl) ?_
  refine TL.v (ltb rfl) (rv_not (b := x11) rfl) ?_
  refine TL.v (ltb rfl) (rv_mv (v := .bool (!x11)) rfl) ?_
  refine TL.cut 4 fun K_15 hK_16 => ?_
  have hJ_17 : ∀ e_19 : Env, e_19 1 = .int .i64 a4 → e_19 2 = v6 → e_19 3 = .int .i64 a8 → e_19 4 = .pointer (some ⟨b9, 0, none⟩) → e_19 9 = .bool x10 → e_19 31 = .bool (decide ((!x11) = true ∨ (len a5) > 300)) → ∀ w, St E H [bx b9 90 [v2]] w → K_15 e_19 w := by
    intro e_19 h_20 h_21 h_22 h_23 h_24 h_25
    refine TL.go hK_16 ?_
    refine TL.v (ltb rfl) (rv_mv (v := .bool (decide ((!x11) = true ∨ (len a5) > 300))) h_25) ?_
    refine TL.cut 5 fun K_26 hK_27 => ?_
    have hJ_28 : ∀ e_30 : Env, e_30 1 = .int .i64 a4 → e_30 2 = v6 → e_30 3 = .int .i64 a8 → e_30 4 = .pointer (some ⟨b9, 0, none⟩) → e_30 9 = .bool x10 → e_30 37 = .bool (decide (((!x11) = true ∨ (len a5) > 300) ∨ (len a1.funcs) > 31)) → ∀ w, St E H [bx b9 90 [v2]] w → K_26 e_30 w := by
      intro e_30 h_31 h_32 h_33 h_34 h_35 h_36
      refine TL.go hK_27 ?_
      refine TL.nil ?_
      refine TC.go hK_14 ?_
      by_cases hc_37 : ((!x11) = true ∨ (len a5) > 300) ∨ (len a1.funcs) > 31
      · rw [if_pos hc_37] at hp
        refine TC.condT (h_36.trans (bT hc_37)) ?_
        refine TC.seq fun K_38 hK_39 => ?_
        refine TC.region ?_
        refine TL.v (ltb rfl) (rv_mv (v := .bool x10) h_35) ?_
        refine TL.v (ltb rfl) (rv_as (v := .bool x10) rfl) ?_
        refine TL.nil ?_
        refine TC.go hK_39 ?_
        refine TC.ret ?_
        obtain rfl := Option.some.inj hp
        exact fun w hw => retOk ⟨rfl, rfl⟩ (hw.pick [])
      · rw [if_neg hc_37] at hp
        refine TC.condF (h_36.trans (bF hc_37)) ?_
        refine TC.skip ?_
        refine TC.go hK_12 ?_
        refine TC.seq fun K_40 hK_41 => ?_
        refine TC.region ?_
        refine TL.v (ltb rfl) (rv_mv (v := .int .i64 a8) h_33) ?_
        obtain ⟨x12, hy_42, hp⟩ := bind_some' hp
        refine TL.callC (vs := [.int .i64 a8]) (R := fettlelaw04_few.R x12) [] [bx b9 90 [v2]] rfl cb_54 (ltb rfl) (mc rfl m0) (fun w hw => fettlelaw04_few_ok (a1 := a8) hy_42 hw) fun v A' hR_43 => ?_
        obtain ⟨rfl, rfl⟩ := hR_43
        refine TL.norm (L' := [bx b9 90 [v2]]) rfl ?_
        refine TL.v (ltb rfl) (rv_as (v := .int .i64 x12) rfl) ?_
        refine TL.nil ?_
        refine TC.go hK_41 ?_
        refine TC.seq fun K_44 hK_45 => ?_
        refine TC.region ?_
        refine TL.v (ltb rfl) (rv_lda (o := 0) (o' := 0) (j := 0) (ds := [v2]) ag_90 h_34 (Src.at_ 0 rfl) (bx_cells b9 90 _) rfl rfl rfl) ?_
        refine TL.v (ltb rfl) (rv_mv (v := .int .i64 a4) h_31) ?_
        refine TL.v (ltb rfl) (rv_mv (v := v6) h_32) ?_
        refine TL.v (ltb rfl) (rv_mv (v := .int .i64 x12) rfl) ?_
        obtain ⟨x13, hy_46, hp⟩ := bind_some' hp
        refine TL.callC (vs := [.agg #[v2], .int .i64 a4, v6, .int .i64 x12]) (R := run_Run.R x13) [] [bx b9 90 [v2]] rfl cb_55 (ltb rfl) (mc rfl (mc rfl (mc rfl (mc rfl m0)))) (fun w hw => run_Run_ok (a1 := a1) (a4 := a4) (a5 := a5) (a8 := x12) (h3.mono subH) (h7.mono subH) hy_46 hw) fun v A' hR_47 => ?_
        obtain ⟨v14, F15, v17, F18, rfl, rfl, h16, h19⟩ := hR_47
        refine TL.norm (L' := [F15, F18, bx b9 90 [v2]]) rfl ?_
        refine TL.v (ltb rfl) (rv_mv (v := .tuple #[.agg ((([.bool x13.1.done, .int .i64 x13.1.trap, .int .i64 x13.1.value, v14, .int .i64 x13.1.steps] : List Value) ++ (arrC x13.1.memory ++ ([] : List Value)))).toArray, v17]) rfl) ?_
        refine TL.v (ltb rfl) (rv_extract (vs := #[.agg ((([.bool x13.1.done, .int .i64 x13.1.trap, .int .i64 x13.1.value, v14, .int .i64 x13.1.steps] : List Value) ++ (arrC x13.1.memory ++ ([] : List Value)))).toArray, v17]) (v := .agg ((([.bool x13.1.done, .int .i64 x13.1.trap, .int .i64 x13.1.value, v14, .int .i64 x13.1.steps] : List Value) ++ (arrC x13.1.memory ++ ([] : List Value)))).toArray) rfl rfl) ?_
        refine TL.v (ltb rfl) (rv_extract (vs := #[.agg ((([.bool x13.1.done, .int .i64 x13.1.trap, .int .i64 x13.1.value, v14, .int .i64 x13.1.steps] : List Value) ++ (arrC x13.1.memory ++ ([] : List Value)))).toArray, v17]) (v := v17) rfl rfl) ?_
        refine TL.alloc (cs := (([.bool false, .int .i64 0, .int .i64 0, .slice none 0 0, .int .i64 0] : List Value) ++ (arrC A64.zero ++ ([] : List Value)))) inf_104 (ltb rfl) rfl fun b20 => ?_
        refine TL.stB (ds := (([.bool x13.1.done, .int .i64 x13.1.trap, .int .i64 x13.1.value, v14, .int .i64 x13.1.steps] : List Value) ++ (arrC x13.1.memory ++ ([] : List Value)))) (o := 0) (cs := (([.bool false, .int .i64 0, .int .i64 0, .slice none 0 0, .int .i64 0] : List Value) ++ (arrC A64.zero ++ ([] : List Value)))) (b := b20) (u := .agg ((([.bool x13.1.done, .int .i64 x13.1.trap, .int .i64 x13.1.value, v14, .int .i64 x13.1.steps] : List Value) ++ (arrC x13.1.memory ++ ([] : List Value)))).toArray) 0 rfl ms_104 rfl rfl rfl (one_app (oc rfl (oc rfl (oc rfl (oc (h16).one (oc rfl oc0))))) (one_app (arr_one _) oc0)) (leb rfl) ?_
        refine TL.respell (b := b20) (T := 104) (cs := over (([.bool false, .int .i64 0, .int .i64 0, .slice none 0 0, .int .i64 0] : List Value) ++ (arrC A64.zero ++ ([] : List Value))) 0 (([.bool x13.1.done, .int .i64 x13.1.trap, .int .i64 x13.1.value, v14, .int .i64 x13.1.steps] : List Value) ++ (arrC x13.1.memory ++ ([] : List Value)))) (ds := (([.bool x13.1.done, .int .i64 x13.1.trap, .int .i64 x13.1.value, v14, .int .i64 x13.1.steps] : List Value) ++ (arrC x13.1.memory ++ ([] : List Value)))) 0 rfl (over_all rfl) ?_
        refine TL.norm (L' := [bx b20 104 (([.bool x13.1.done, .int .i64 x13.1.trap, .int .i64 x13.1.value, v14, .int .i64 x13.1.steps] : List Value) ++ (arrC x13.1.memory ++ ([] : List Value))), F15, F18, bx b9 90 [v2]]) rfl ?_
        refine TL.v (ltb rfl) (rv_as (v := v17) rfl) ?_
        refine TL.nil ?_
        refine TC.go hK_45 ?_
        refine TC.seq fun K_48 hK_49 => ?_
        refine TC.seq fun K_50 hK_51 => ?_
        refine TC.region ?_
        refine TL.v (ltb rfl) (rv_mv (v := v17) rfl) ?_
        refine TL.v (ltb rfl) (rv_neqEN ifc_49 h19 rfl) ?_
        refine TL.v (ltb rfl) (rv_mv (v := .bool (decide (¬ x13.2 = GErr.no))) rfl) ?_
        refine TL.cut 3 fun K_52 hK_53 => ?_
        have hJ_54 : ∀ e_56 : Env, e_56 1 = .int .i64 a4 → e_56 2 = v6 → e_56 3 = .int .i64 x12 → e_56 4 = .pointer (some ⟨b9, 0, none⟩) → e_56 9 = .bool x10 → e_56 11 = .pointer (some ⟨b20, 0, none⟩) → e_56 12 = v17 → e_56 54 = .bool (decide ((¬ x13.2 = GErr.no) ∨ a4 < 0)) → ∀ w, St E H [bx b20 104 (([.bool x13.1.done, .int .i64 x13.1.trap, .int .i64 x13.1.value, v14, .int .i64 x13.1.steps] : List Value) ++ (arrC x13.1.memory ++ ([] : List Value))), F15, F18, bx b9 90 [v2]] w → K_52 e_56 w := by
          intro e_56 h_57 h_58 h_59 h_60 h_61 h_62 h_63 h_64
          refine TL.go hK_53 ?_
          refine TL.v (ltb rfl) (rv_mv (v := .bool (decide ((¬ x13.2 = GErr.no) ∨ a4 < 0))) h_64) ?_
          refine TL.cut 6 fun K_65 hK_66 => ?_
          have hJ_67 : ∀ e_69 : Env, e_69 1 = .int .i64 a4 → e_69 2 = v6 → e_69 3 = .int .i64 x12 → e_69 4 = .pointer (some ⟨b9, 0, none⟩) → e_69 9 = .bool x10 → e_69 11 = .pointer (some ⟨b20, 0, none⟩) → e_69 12 = v17 → e_69 61 = .bool (decide (((¬ x13.2 = GErr.no) ∨ a4 < 0) ∨ a4 ≥ (len a1.funcs))) → ∀ w, St E H [bx b20 104 (([.bool x13.1.done, .int .i64 x13.1.trap, .int .i64 x13.1.value, v14, .int .i64 x13.1.steps] : List Value) ++ (arrC x13.1.memory ++ ([] : List Value))), F15, F18, bx b9 90 [v2]] w → K_65 e_69 w := by
            intro e_69 h_70 h_71 h_72 h_73 h_74 h_75 h_76 h_77
            refine TL.go hK_66 ?_
            refine TL.nil ?_
            refine TC.go hK_51 ?_
            by_cases hc_78 : ((¬ x13.2 = GErr.no) ∨ a4 < 0) ∨ a4 ≥ (len a1.funcs)
            · rw [if_pos hc_78] at hp
              refine TC.condT (h_77.trans (bT hc_78)) ?_
              refine TC.seq fun K_79 hK_80 => ?_
              refine TC.region ?_
              refine TL.v (ltb rfl) (rv_mv (v := .bool x10) h_74) ?_
              refine TL.v (ltb rfl) (rv_mv (v := .bool x10) rfl) ?_
              refine TL.cut 3 fun K_81 hK_82 => ?_
              have hJ_83 : ∀ e_85 : Env, e_85 66 = .bool (decide (x10 = true ∧ (¬ x13.2 = GErr.no))) → ∀ w, St E H [bx b20 104 (([.bool x13.1.done, .int .i64 x13.1.trap, .int .i64 x13.1.value, v14, .int .i64 x13.1.steps] : List Value) ++ (arrC x13.1.memory ++ ([] : List Value))), F15, F18, bx b9 90 [v2]] w → K_81 e_85 w := by
                intro e_85 h_86
                refine TL.go hK_82 ?_
                refine TL.v (ltb rfl) (rv_as (v := .bool (decide (x10 = true ∧ (¬ x13.2 = GErr.no)))) h_86) ?_
                refine TL.nil ?_
                refine TC.go hK_80 ?_
                refine TC.ret ?_
                obtain rfl := Option.some.inj hp
                exact fun w hw => retOk ⟨rfl, rfl⟩ (hw.pick [])
              by_cases hc_84 : x10 = true
              · refine TL.gyes true (yieldE_of rfl (bbT hc_84)) rfl ?_
                refine TL.v (ltb rfl) (rv_mv (v := v17) h_76) ?_
                refine TL.gyes true (yieldE_of rfl (bbT hc_84)) rfl ?_
                refine TL.v (ltb rfl) (rv_neqEN ifc_49 h19 rfl) ?_
                refine TL.v (ltb rfl) (rv_pickT true (bbT hc_84) rfl (v := .bool (decide (¬ x13.2 = GErr.no))) rfl) ?_
                refine TL.nil (hJ_83 _ ?_)
                · exact (bAt hc_84)
              · refine TL.gno false rfl (fun d hd => by cases hd; exact ltb rfl) (yieldE_of rfl (bbF hc_84)) rfl ?_
                refine TL.gno false rfl (fun d hd => by cases hd; exact ltb rfl) (yieldE_of rfl (bbF hc_84)) rfl ?_
                refine TL.v (ltb rfl) (rv_pickF false (bbF hc_84) rfl (v := .bool false) rfl) ?_
                refine TL.nil (hJ_83 _ ?_)
                · exact (bAf hc_84)
            · rw [if_neg hc_78] at hp
              refine TC.condF (h_77.trans (bF hc_78)) ?_
              refine TC.skip ?_
              refine TC.go hK_49 ?_
              refine TC.seq fun K_87 hK_88 => ?_
              refine TC.region ?_
              refine TL.v (ltb rfl) (rv_fa (b := b9) (o := 0) fa_90_0 h_73) ?_
              refine TL.v (ltb rfl) (rv_ld (v := v2) (o := 0) (o' := 0) (j := 0) sc_88 rfl (Src.at_ 3 rfl) (bx_cells b9 90 _) rfl rfl) ?_
              refine TL.v (ltb rfl) (rv_mv (v := .int .i64 a4) h_70) ?_
              obtain ⟨x21, hx_89, hp⟩ := bind_some' hp
              refine TL.v3 (ltb rfl) (rv_ix 88 (.tmp 68) (.tmp 69) (v := v2) (i := a4) Try.underlying88 inf_25 rfl rfl rfl h3 hx_89) fun b22 o23 c24 h25 h26 => ?_
              obtain ⟨v27, v29, rfl, h28, h30⟩ := h25
              refine TL.v (ltb rfl) (rv_lda (o := o23) (o' := o23) (j := 0) (ds := [.int .i64 x21.params, .int .i64 x21.result, v27, v29]) ag_25 rfl Src.H h26 rfl rfl rfl) ?_
              refine TL.alloc (cs := [.int .i64 0, .int .i64 0, .slice none 0 0, .slice none 0 0]) inf_25 (ltb rfl) rfl fun b31 => ?_
              refine TL.stB (ds := [.int .i64 x21.params, .int .i64 x21.result, v27, v29]) (o := 0) (cs := [.int .i64 0, .int .i64 0, .slice none 0 0, .slice none 0 0]) (b := b31) (u := .agg #[.int .i64 x21.params, .int .i64 x21.result, v27, v29]) 0 rfl ms_25 rfl rfl rfl (oc rfl (oc rfl (oc (h28).one (oc (h30).one oc0)))) (leb rfl) ?_
              refine TL.norm (L' := [bx b31 25 [.int .i64 x21.params, .int .i64 x21.result, v27, v29], bx b20 104 (([.bool x13.1.done, .int .i64 x13.1.trap, .int .i64 x13.1.value, v14, .int .i64 x13.1.steps] : List Value) ++ (arrC x13.1.memory ++ ([] : List Value))), F15, F18, bx b9 90 [v2]]) rfl ?_
              refine TL.nil ?_
              refine TC.go hK_88 ?_
              refine TC.seq fun K_90 hK_91 => ?_
              have hJ_101 : ∀ (x33 : List Int) (b32 : Nat) (v34 : Value) (F35 : FP) (e_92 : Env) (h36 : SlO 3 (kInt .i64) x33 v34 F35) (h_93 : e_92 1 = .int .i64 a4) (h_94 : e_92 2 = v6) (h_95 : e_92 3 = .int .i64 x12) (h_96 : e_92 4 = .pointer (some ⟨b9, 0, none⟩)) (h_97 : e_92 9 = .bool x10) (h_98 : e_92 11 = .pointer (some ⟨b20, 0, none⟩)) (h_99 : e_92 13 = .pointer (some ⟨b31, 0, none⟩)) (h_100 : e_92 14 = .pointer (some ⟨b32, 0, none⟩)) (hp : fettlelaw04_RunCalls.jn101 a1 a4 a5 x10 x12 x13 x21 x33 = some r), ∀ w, St E H [bx b9 90 [v2], bx b20 104 (([.bool x13.1.done, .int .i64 x13.1.trap, .int .i64 x13.1.value, v14, .int .i64 x13.1.steps] : List Value) ++ (arrC x13.1.memory ++ ([] : List Value))), F15, bx b31 25 [.int .i64 x21.params, .int .i64 x21.result, v27, v29], bx b32 25 [.int .i64 x21.params, .int .i64 x21.result, v34, .slice none 0 0], F35] w → K_90 e_92 w := by
                intro x33 b32 v34 F35 e_92 h36 h_93 h_94 h_95 h_96 h_97 h_98 h_99 h_100 hp
                unfold fettlelaw04_RunCalls.jn101 at hp
                refine TC.go hK_91 ?_
                refine TC.seq fun K_102 hK_103 => ?_
                refine TC.region ?_
                refine TL.v (ltb rfl) (rv_mv (v := .int .i64 a4) h_93) ?_
                refine TL.v (ltb rfl) (rv_bv (vs := [(0, .int .i64 17), (1, .int .i64 (-1)), (4, .int .i64 a4)]) (ds := [.int .i64 17, .int .i64 (-1), .slice none 0 0, .int .i64 0, .int .i64 a4]) (pc rfl (pc rfl (pc rfl p0))) (fun w => by kernel_rfl)) ?_
                refine TL.alloc (cs := [.int .i64 0, .int .i64 0, .slice none 0 0, .int .i64 0, .int .i64 0]) inf_87 (ltb rfl) rfl fun b37 => ?_
                refine TL.stB (ds := [.int .i64 17, .int .i64 (-1), .slice none 0 0, .int .i64 0, .int .i64 a4]) (o := 0) (cs := [.int .i64 0, .int .i64 0, .slice none 0 0, .int .i64 0, .int .i64 0]) (b := b37) (u := .agg #[.int .i64 17, .int .i64 (-1), .slice none 0 0, .int .i64 0, .int .i64 a4]) 0 rfl ms_87 rfl rfl rfl (oc rfl (oc rfl (oc rfl (oc rfl (oc rfl oc0))))) (leb rfl) ?_
                refine TL.norm (L' := [bx b37 87 [.int .i64 17, .int .i64 (-1), .slice none 0 0, .int .i64 0, .int .i64 a4], bx b9 90 [v2], bx b20 104 (([.bool x13.1.done, .int .i64 x13.1.trap, .int .i64 x13.1.value, v14, .int .i64 x13.1.steps] : List Value) ++ (arrC x13.1.memory ++ ([] : List Value))), F15, bx b31 25 [.int .i64 x21.params, .int .i64 x21.result, v27, v29], bx b32 25 [.int .i64 x21.params, .int .i64 x21.result, v34, .slice none 0 0], F35]) rfl ?_
                refine TL.nil ?_
                refine TC.go hK_103 ?_
                refine TC.seq fun K_104 hK_105 => ?_
                refine TC.seq fun K_106 hK_107 => ?_
                refine TC.region ?_
                refine TL.v (ltb rfl) (rv_as (v := .int .i64 0) rfl) ?_
                refine TL.nil ?_
                refine TC.go hK_107 ?_
                refine TC.block ?_
                obtain ⟨z_118, hz_119, hr_120⟩ := bind_some' hp
                clear hp
                have hJ_259 : ∀ (x43 : List Int) (v44 : Value) (F45 : FP) (e_123 : Env) (h46 : SlO 3 (kInt .i64) x43 v44 F45) (h_124 : e_123 2 = v6) (h_125 : e_123 3 = .int .i64 x12) (h_126 : e_123 4 = .pointer (some ⟨b9, 0, none⟩)) (h_127 : e_123 9 = .bool x10) (h_128 : e_123 11 = .pointer (some ⟨b20, 0, none⟩)) (h_129 : e_123 13 = .pointer (some ⟨b31, 0, none⟩)) (h_130 : e_123 14 = .pointer (some ⟨b32, 0, none⟩)) (h_131 : e_123 15 = .pointer (some ⟨b37, 0, none⟩)) (hq_260 : x43 = z_118), ∀ w, St E H [bx b9 90 [v2], bx b20 104 (([.bool x13.1.done, .int .i64 x13.1.trap, .int .i64 x13.1.value, v14, .int .i64 x13.1.steps] : List Value) ++ (arrC x13.1.memory ++ ([] : List Value))), F15, bx b31 25 [.int .i64 x21.params, .int .i64 x21.result, v27, v29], bx b32 25 [.int .i64 x21.params, .int .i64 x21.result, v34, .slice none 0 0], F35, bx b37 87 [.int .i64 17, .int .i64 (-1), v44, .int .i64 0, .int .i64 a4], F45] w → K_104 e_123 w := by
                  intro x43 v44 F45 e_123 h46 h_124 h_125 h_126 h_127 h_128 h_129 h_130 h_131 hq_260
                  subst hq_260
                  replace hp : fettlelaw04_RunCalls.nx122 a1 a4 a5 x10 x12 x13 x21 x33 x43 = some r := hr_120
                  unfold fettlelaw04_RunCalls.nx122 at hp
                  refine TC.go hK_105 ?_
                  refine TC.seq fun K_132 hK_133 => ?_
                  refine TC.region ?_
                  refine TL.v (ltb rfl) (rv_bv (vs := [(0, .int .i64 3), (1, .int .i64 (-1))]) (ds := [.int .i64 3, .int .i64 (-1), .slice none 0 0]) (pc rfl (pc rfl p0)) (fun w => by kernel_rfl)) ?_
                  refine TL.alloc (cs := [.int .i64 0, .int .i64 0, .slice none 0 0]) inf_81 (ltb rfl) rfl fun b47 => ?_
                  refine TL.stB (ds := [.int .i64 3, .int .i64 (-1), .slice none 0 0]) (o := 0) (cs := [.int .i64 0, .int .i64 0, .slice none 0 0]) (b := b47) (u := .agg #[.int .i64 3, .int .i64 (-1), .slice none 0 0]) 0 rfl ms_81 rfl rfl rfl (oc rfl (oc rfl (oc rfl oc0))) (leb rfl) ?_
                  refine TL.norm (L' := [bx b47 81 [.int .i64 3, .int .i64 (-1), .slice none 0 0], bx b9 90 [v2], bx b20 104 (([.bool x13.1.done, .int .i64 x13.1.trap, .int .i64 x13.1.value, v14, .int .i64 x13.1.steps] : List Value) ++ (arrC x13.1.memory ++ ([] : List Value))), F15, bx b31 25 [.int .i64 x21.params, .int .i64 x21.result, v27, v29], bx b32 25 [.int .i64 x21.params, .int .i64 x21.result, v34, .slice none 0 0], F35, bx b37 87 [.int .i64 17, .int .i64 (-1), v44, .int .i64 0, .int .i64 a4], F45]) rfl ?_
                  refine TL.nil ?_
                  refine TC.go hK_133 ?_
                  refine TC.seq fun K_134 hK_135 => ?_
                  have hJ_145 : ∀ (x48 : List Int) (x52 : Int) (x53 : Int) (v49 : Value) (F50 : FP) (e_136 : Env) (h51 : SlO 3 (kInt .i64) x48 v49 F50) (h_137 : e_136 2 = v6) (h_138 : e_136 3 = .int .i64 x12) (h_139 : e_136 4 = .pointer (some ⟨b9, 0, none⟩)) (h_140 : e_136 9 = .bool x10) (h_141 : e_136 11 = .pointer (some ⟨b20, 0, none⟩)) (h_142 : e_136 14 = .pointer (some ⟨b32, 0, none⟩)) (h_143 : e_136 15 = .pointer (some ⟨b37, 0, none⟩)) (h_144 : e_136 17 = .pointer (some ⟨b47, 0, none⟩)) (hp : fettlelaw04_RunCalls.jn145 a1 a4 a5 x10 x12 x13 x21 x43 x48 x52 x53 = some r), ∀ w, St E H [bx b9 90 [v2], bx b20 104 (([.bool x13.1.done, .int .i64 x13.1.trap, .int .i64 x13.1.value, v14, .int .i64 x13.1.steps] : List Value) ++ (arrC x13.1.memory ++ ([] : List Value))), F15, bx b32 25 [.int .i64 x21.params, .int .i64 x21.result, v49, .slice none 0 0], F50, bx b37 87 [.int .i64 17, .int .i64 x52, v44, .int .i64 0, .int .i64 a4], F45, bx b47 81 [.int .i64 3, .int .i64 x53, .slice none 0 0]] w → K_134 e_136 w := by
                    intro x48 x52 x53 v49 F50 e_136 h51 h_137 h_138 h_139 h_140 h_141 h_142 h_143 h_144 hp
                    unfold fettlelaw04_RunCalls.jn145 at hp
                    refine TC.go hK_135 ?_
                    refine TC.seq fun K_146 hK_147 => ?_
                    refine TC.region ?_
                    refine TL.v (ltb rfl) (rv_lda (o := 0) (o' := 0) (j := 0) (ds := [.int .i64 17, .int .i64 x52, v44, .int .i64 0, .int .i64 a4]) ag_87 h_143 (Src.at_ 5 rfl) (bx_cells b37 87 _) rfl rfl rfl) ?_
                    refine TL.bv (vs := [(0, .agg #[.int .i64 17, .int .i64 x52, v44, .int .i64 0, .int .i64 a4])]) (cs := [.int .i64 17, .int .i64 x52, v44, .int .i64 0, .int .i64 a4]) (pc rfl p0) Try.underlying83 inf_87 (ltb rfl) (by decide) (by decide) (by kernel_rfl) fun b54 => ?_
                    refine TL.v (ltb rfl) (rv_lda (o := 0) (o' := 0) (j := 0) (ds := [.int .i64 3, .int .i64 x53, .slice none 0 0]) ag_81 h_144 (Src.at_ 8 rfl) (bx_cells b47 81 _) rfl rfl rfl) ?_
                    refine TL.v (ltb rfl) (rv_bv (vs := [(1, .slice (some ⟨b54, 0, none⟩) 1 1), (2, .agg #[.int .i64 3, .int .i64 x53, .slice none 0 0])]) (ds := [.slice none 0 0, .slice (some ⟨b54, 0, none⟩) 1 1, .int .i64 3, .int .i64 x53, .slice none 0 0]) (pc rfl (pc rfl p0)) (fun w => by kernel_rfl)) ?_
                    refine TL.bv (vs := [(0, .agg #[.slice none 0 0, .slice (some ⟨b54, 0, none⟩) 1 1, .int .i64 3, .int .i64 x53, .slice none 0 0])]) (cs := [.slice none 0 0, .slice (some ⟨b54, 0, none⟩) 1 1, .int .i64 3, .int .i64 x53, .slice none 0 0]) (pc rfl p0) Try.underlying23 inf_85 (ltb rfl) (by decide) (by decide) (by kernel_rfl) fun b55 => ?_
                    refine TL.v (ltb rfl) (rv_fa (b := b32) (o := 0) fa_25_3 h_142) ?_
                    refine TL.new0 ?_
                    refine TL.pk' [2, 8, 0, 0, 0, 0, 0, 0, 0, 0, 0] (L' := [bx b54 87 [.int .i64 17, .int .i64 x52, v44, .int .i64 0, .int .i64 a4], F45, ([] : FP), bx b55 85 [.slice none 0 0, .slice (some ⟨b54, 0, none⟩) 1 1, .int .i64 3, .int .i64 x53, .slice none 0 0], bx b9 90 [v2], bx b20 104 (([.bool x13.1.done, .int .i64 x13.1.trap, .int .i64 x13.1.value, v14, .int .i64 x13.1.steps] : List Value) ++ (arrC x13.1.memory ++ ([] : List Value))), F15, bx b32 25 [.int .i64 x21.params, .int .i64 x21.result, v49, .slice none 0 0], F50, bx b37 87 [.int .i64 17, .int .i64 x52, v44, .int .i64 0, .int .i64 a4], bx b47 81 [.int .i64 3, .int .i64 x53, .slice none 0 0]]) rfl ?_
                    refine TL.perm (L' := [bx b54 87 [.int .i64 17, .int .i64 x52, v44, .int .i64 0, .int .i64 a4], F45 ++ [], ([] : FP), bx b55 85 [.slice none 0 0, .slice (some ⟨b54, 0, none⟩) 1 1, .int .i64 3, .int .i64 x53, .slice none 0 0], bx b9 90 [v2], bx b20 104 (([.bool x13.1.done, .int .i64 x13.1.trap, .int .i64 x13.1.value, v14, .int .i64 x13.1.steps] : List Value) ++ (arrC x13.1.memory ++ ([] : List Value))), F15, bx b32 25 [.int .i64 x21.params, .int .i64 x21.result, v49, .slice none 0 0], F50, bx b37 87 [.int .i64 17, .int .i64 x52, v44, .int .i64 0, .int .i64 a4], bx b47 81 [.int .i64 3, .int .i64 x53, .slice none 0 0]]) (by simp) ?_
                    refine TL.litOwn (n := 1) (xs := [(⟨17, x52, x43, 0, a4⟩ : PInstr)]) (RepL.to (RepL.cons (k := kInstr) (x := (⟨17, x52, x43, 0, a4⟩ : PInstr)) ⟨_, _, rfl, rfl, h46⟩ RepL.nil) rfl) rfl rfl (ltb rfl) fun F57 h58 => ?_
                    refine TL.new0 ?_
                    refine TL.pk' [3, 2, 1, 0, 0, 0, 0, 0, 0, 0, 0] (L' := [bx b55 85 [(.slice none 0 0), (.slice (some ⟨b54, 0, none⟩) 1 1), .int .i64 3, .int .i64 x53, (.slice none 0 0)], ([] : FP), F57, ([] : FP), bx b9 90 [v2], bx b20 104 (([.bool x13.1.done, .int .i64 x13.1.trap, .int .i64 x13.1.value, v14, .int .i64 x13.1.steps] : List Value) ++ (arrC x13.1.memory ++ ([] : List Value))), F15, bx b32 25 [.int .i64 x21.params, .int .i64 x21.result, v49, .slice none 0 0], F50, bx b37 87 [.int .i64 17, .int .i64 x52, v44, .int .i64 0, .int .i64 a4], bx b47 81 [.int .i64 3, .int .i64 x53, .slice none 0 0]]) rfl ?_
                    refine TL.perm (L' := [bx b55 85 [(.slice none 0 0), (.slice (some ⟨b54, 0, none⟩) 1 1), .int .i64 3, .int .i64 x53, (.slice none 0 0)], ([] : FP) ++ (F57 ++ (([] : FP))) ++ [], bx b9 90 [v2], bx b20 104 (([.bool x13.1.done, .int .i64 x13.1.trap, .int .i64 x13.1.value, v14, .int .i64 x13.1.steps] : List Value) ++ (arrC x13.1.memory ++ ([] : List Value))), F15, bx b32 25 [.int .i64 x21.params, .int .i64 x21.result, v49, .slice none 0 0], F50, bx b37 87 [.int .i64 17, .int .i64 x52, v44, .int .i64 0, .int .i64 a4], bx b47 81 [.int .i64 3, .int .i64 x53, .slice none 0 0]]) (by simp) ?_
                    refine TL.litOwn (n := 1) (xs := [(⟨([] : List PPhi), [(⟨17, x52, x43, 0, a4⟩ : PInstr)], (⟨3, x53, ([] : List Int)⟩ : PTerm)⟩ : PBlock)]) (RepL.to (RepL.cons (k := kBlock) (x := (⟨([] : List PPhi), [(⟨17, x52, x43, 0, a4⟩ : PInstr)], (⟨3, x53, ([] : List Int)⟩ : PTerm)⟩ : PBlock)) ⟨_, _, _, _, _, _, rfl, rfl, (SlO.nil 131), h58, (SlO.nil 3)⟩ RepL.nil) rfl) rfl rfl (ltb rfl) fun F60 h61 => ?_
                    refine TL.stB (ds := [(.slice (some ⟨b55, 0, none⟩) 1 1)]) (o := 3) (cs := [.int .i64 x21.params, .int .i64 x21.result, v49, .slice none 0 0]) (b := b32) (u := (.slice (some ⟨b55, 0, none⟩) 1 1)) 4 rfl ms_23 rfl rfl (SlO.cells h61) (oc (h61).one oc0) (leb rfl) ?_
                    refine TL.norm (L' := [F60, bx b9 90 [v2], bx b20 104 (([.bool x13.1.done, .int .i64 x13.1.trap, .int .i64 x13.1.value, v14, .int .i64 x13.1.steps] : List Value) ++ (arrC x13.1.memory ++ ([] : List Value))), F15, bx b32 25 [.int .i64 x21.params, .int .i64 x21.result, v49, (.slice (some ⟨b55, 0, none⟩) 1 1)], F50, bx b37 87 [.int .i64 17, .int .i64 x52, v44, .int .i64 0, .int .i64 a4], bx b47 81 [.int .i64 3, .int .i64 x53, .slice none 0 0]]) rfl ?_
                    refine TL.nil ?_
                    refine TC.go hK_147 ?_
                    refine TC.seq fun K_148 hK_149 => ?_
                    refine TC.region ?_
                    refine TL.v (ltb rfl) (rv_lda (o := 0) (o' := 0) (j := 0) (ds := [v2]) ag_90 h_139 (Src.at_ 1 rfl) (bx_cells b9 90 _) rfl rfl rfl) ?_
                    obtain ⟨x62, hy_150, hp⟩ := bind_some' hp
                    refine TL.callC (vs := [.agg #[v2]]) (R := fettleref02_Copy.R x62) [] [F60, bx b9 90 [v2], bx b20 104 (([.bool x13.1.done, .int .i64 x13.1.trap, .int .i64 x13.1.value, v14, .int .i64 x13.1.steps] : List Value) ++ (arrC x13.1.memory ++ ([] : List Value))), F15, bx b32 25 [.int .i64 x21.params, .int .i64 x21.result, v49, (.slice (some ⟨b55, 0, none⟩) 1 1)], F50, bx b37 87 [.int .i64 17, .int .i64 x52, v44, .int .i64 0, .int .i64 a4], bx b47 81 [.int .i64 3, .int .i64 x53, .slice none 0 0]] rfl cb_49 (ltb rfl) (mc rfl m0) (fun w hw => fettleref02_Copy_ok (a1 := a1) (h3.mono subH) hy_150 hw) fun v A' hR_151 => ?_
                    obtain ⟨v63, F64, rfl, rfl, h65⟩ := hR_151
                    refine TL.norm (L' := [F64, F60, bx b9 90 [v2], bx b20 104 (([.bool x13.1.done, .int .i64 x13.1.trap, .int .i64 x13.1.value, v14, .int .i64 x13.1.steps] : List Value) ++ (arrC x13.1.memory ++ ([] : List Value))), F15, bx b32 25 [.int .i64 x21.params, .int .i64 x21.result, v49, (.slice (some ⟨b55, 0, none⟩) 1 1)], F50, bx b37 87 [.int .i64 17, .int .i64 x52, v44, .int .i64 0, .int .i64 a4], bx b47 81 [.int .i64 3, .int .i64 x53, .slice none 0 0]]) rfl ?_
                    refine TL.alloc (cs := [.slice none 0 0]) inf_90 (ltb rfl) rfl fun b66 => ?_
                    refine TL.stB (ds := [v63]) (o := 0) (cs := [.slice none 0 0]) (b := b66) (u := .agg #[v63]) 0 rfl ms_90 rfl rfl rfl (oc (h65).one oc0) (leb rfl) ?_
                    refine TL.norm (L' := [bx b66 90 [v63], F64, F60, bx b9 90 [v2], bx b20 104 (([.bool x13.1.done, .int .i64 x13.1.trap, .int .i64 x13.1.value, v14, .int .i64 x13.1.steps] : List Value) ++ (arrC x13.1.memory ++ ([] : List Value))), F15, bx b32 25 [.int .i64 x21.params, .int .i64 x21.result, v49, (.slice (some ⟨b55, 0, none⟩) 1 1)], F50, bx b37 87 [.int .i64 17, .int .i64 x52, v44, .int .i64 0, .int .i64 a4], bx b47 81 [.int .i64 3, .int .i64 x53, .slice none 0 0]]) rfl ?_
                    refine TL.nil ?_
                    refine TC.go hK_149 ?_
                    refine TC.seq fun K_152 hK_153 => ?_
                    refine TC.region ?_
                    refine TL.v (ltb rfl) (rv_fa (b := b66) (o := 0) fa_90_0 rfl) ?_
                    refine TL.v (ltb rfl) (rv_ld (v := v63) (o := 0) (o' := 0) (j := 0) sc_88 rfl (Src.at_ 0 rfl) (bx_cells b66 90 _) rfl rfl) ?_
                    refine TL.v (ltb rfl) (rv_lda (o := 0) (o' := 0) (j := 0) (ds := [.int .i64 x21.params, .int .i64 x21.result, v49, (.slice (some ⟨b55, 0, none⟩) 1 1)]) ag_25 h_142 (Src.at_ 6 rfl) (bx_cells b32 25 _) rfl rfl rfl) ?_
                    refine TL.bv (vs := [(0, .agg #[.int .i64 x21.params, .int .i64 x21.result, v49, (.slice (some ⟨b55, 0, none⟩) 1 1)])]) (cs := [.int .i64 x21.params, .int .i64 x21.result, v49, (.slice (some ⟨b55, 0, none⟩) 1 1)]) (pc rfl p0) Try.underlying88 inf_25 (ltb rfl) (by decide) (by decide) (by kernel_rfl) fun b67 => ?_
                    refine TL.pk' [2, 0, 6, 1, 0, 0, 0, 0, 0, 0, 0] (L' := [F64, bx b67 25 [.int .i64 x21.params, .int .i64 x21.result, v49, (.slice (some ⟨b55, 0, none⟩) 1 1)], F50, F60, bx b66 90 [v63], bx b9 90 [v2], bx b20 104 (([.bool x13.1.done, .int .i64 x13.1.trap, .int .i64 x13.1.value, v14, .int .i64 x13.1.steps] : List Value) ++ (arrC x13.1.memory ++ ([] : List Value))), F15, bx b32 25 [.int .i64 x21.params, .int .i64 x21.result, v49, (.slice (some ⟨b55, 0, none⟩) 1 1)], bx b37 87 [.int .i64 17, .int .i64 x52, v44, .int .i64 0, .int .i64 a4], bx b47 81 [.int .i64 3, .int .i64 x53, .slice none 0 0]]) rfl ?_
                    refine TL.perm (L' := [F64, bx b67 25 [.int .i64 x21.params, .int .i64 x21.result, v49, (.slice (some ⟨b55, 0, none⟩) 1 1)], F50 ++ (F60) ++ [], bx b66 90 [v63], bx b9 90 [v2], bx b20 104 (([.bool x13.1.done, .int .i64 x13.1.trap, .int .i64 x13.1.value, v14, .int .i64 x13.1.steps] : List Value) ++ (arrC x13.1.memory ++ ([] : List Value))), F15, bx b32 25 [.int .i64 x21.params, .int .i64 x21.result, v49, (.slice (some ⟨b55, 0, none⟩) 1 1)], bx b37 87 [.int .i64 17, .int .i64 x52, v44, .int .i64 0, .int .i64 a4], bx b47 81 [.int .i64 3, .int .i64 x53, .slice none 0 0]]) (by simp) ?_
                    obtain ⟨x68, hz_154, hp⟩ := bind_some' hp
                    refine TL.app Try.underlying88 inf_25 (ltb rfl) rfl (ltb rfl) rfl (leb rfl) rfl rfl h65 (RepL.to (RepL.cons (k := kFunc) (x := (⟨x21.params, x21.result, x48, [(⟨([] : List PPhi), [(⟨17, x52, x43, 0, a4⟩ : PInstr)], (⟨3, x53, ([] : List Int)⟩ : PTerm)⟩ : PBlock)]⟩ : PFunc)) ⟨_, _, _, _, rfl, rfl, h51, h61⟩ RepL.nil) rfl) rfl rfl hz_154 fun v69 F70 h71 => ?_
                    refine TL.v (ltb rfl) (rv_fa (b := b66) (o := 0) fa_90_0 rfl) ?_
                    refine TL.stB (ds := [v69]) (o := 0) (cs := [v63]) (b := b66) (u := v69) 1 rfl ms_88 rfl rfl (SlO.cells h71) (oc (h71).one oc0) (leb rfl) ?_
                    refine TL.norm (L' := [F70, bx b66 90 [v69], bx b9 90 [v2], bx b20 104 (([.bool x13.1.done, .int .i64 x13.1.trap, .int .i64 x13.1.value, v14, .int .i64 x13.1.steps] : List Value) ++ (arrC x13.1.memory ++ ([] : List Value))), F15, bx b32 25 [.int .i64 x21.params, .int .i64 x21.result, v49, (.slice (some ⟨b55, 0, none⟩) 1 1)], bx b37 87 [.int .i64 17, .int .i64 x52, v44, .int .i64 0, .int .i64 a4], bx b47 81 [.int .i64 3, .int .i64 x53, .slice none 0 0]]) rfl ?_
                    refine TL.nil ?_
                    refine TC.go hK_153 ?_
                    refine TC.seq fun K_155 hK_156 => ?_
                    refine TC.region ?_
                    refine TL.v (ltb rfl) (rv_lda (o := 0) (o' := 0) (j := 0) (ds := [v69]) ag_90 rfl (Src.at_ 1 rfl) (bx_cells b66 90 _) rfl rfl rfl) ?_
                    refine TL.v (ltb rfl) (rv_fa (b := b9) (o := 0) fa_90_0 h_139) ?_
                    refine TL.v (ltb rfl) (rv_ld (v := v2) (o := 0) (o' := 0) (j := 0) sc_88 rfl (Src.at_ 2 rfl) (bx_cells b9 90 _) rfl rfl) ?_
                    refine TL.v (ltb rfl) (rv_lenI (v := v2) Try.underlying88 rfl h3) ?_
                    refine TL.v (ltb rfl) (rv_mv (v := v6) h_137) ?_
                    refine TL.v (ltb rfl) (rv_mv (v := .int .i64 x12) h_138) ?_
                    refine TL.v (ltb rfl) (rv_add (k := .i64) (m := x12) (n := 2) rfl rfl) ?_
                    obtain ⟨x72, hy_157, hp⟩ := bind_some' hp
                    refine TL.callC (vs := [.agg #[v69], .int .i64 (len a1.funcs), v6, .int .i64 (w64 (x12 + 2))]) (R := run_Run.R x72) [] [F70, bx b66 90 [v69], bx b9 90 [v2], bx b20 104 (([.bool x13.1.done, .int .i64 x13.1.trap, .int .i64 x13.1.value, v14, .int .i64 x13.1.steps] : List Value) ++ (arrC x13.1.memory ++ ([] : List Value))), F15, bx b32 25 [.int .i64 x21.params, .int .i64 x21.result, v49, (.slice (some ⟨b55, 0, none⟩) 1 1)], bx b37 87 [.int .i64 17, .int .i64 x52, v44, .int .i64 0, .int .i64 a4], bx b47 81 [.int .i64 3, .int .i64 x53, .slice none 0 0]] rfl cb_55 (ltb rfl) (mc rfl (mc rfl (mc rfl (mc rfl m0)))) (fun w hw => run_Run_ok (a1 := (⟨x68⟩ : PModule)) (a4 := (len a1.funcs)) (a5 := a5) (a8 := (w64 (x12 + 2))) (h71.ro.mono (subB 0 rfl)) (h7.mono subH) hy_157 hw) fun v A' hR_158 => ?_
                    obtain ⟨v73, F74, v76, F77, rfl, rfl, h75, h78⟩ := hR_158
                    refine TL.norm (L' := [F74, F77, F70, bx b66 90 [v69], bx b9 90 [v2], bx b20 104 (([.bool x13.1.done, .int .i64 x13.1.trap, .int .i64 x13.1.value, v14, .int .i64 x13.1.steps] : List Value) ++ (arrC x13.1.memory ++ ([] : List Value))), F15, bx b32 25 [.int .i64 x21.params, .int .i64 x21.result, v49, (.slice (some ⟨b55, 0, none⟩) 1 1)], bx b37 87 [.int .i64 17, .int .i64 x52, v44, .int .i64 0, .int .i64 a4], bx b47 81 [.int .i64 3, .int .i64 x53, .slice none 0 0]]) rfl ?_
                    refine TL.v (ltb rfl) (rv_mv (v := .tuple #[.agg ((([.bool x72.1.done, .int .i64 x72.1.trap, .int .i64 x72.1.value, v73, .int .i64 x72.1.steps] : List Value) ++ (arrC x72.1.memory ++ ([] : List Value)))).toArray, v76]) rfl) ?_
                    refine TL.v (ltb rfl) (rv_extract (vs := #[.agg ((([.bool x72.1.done, .int .i64 x72.1.trap, .int .i64 x72.1.value, v73, .int .i64 x72.1.steps] : List Value) ++ (arrC x72.1.memory ++ ([] : List Value)))).toArray, v76]) (v := .agg ((([.bool x72.1.done, .int .i64 x72.1.trap, .int .i64 x72.1.value, v73, .int .i64 x72.1.steps] : List Value) ++ (arrC x72.1.memory ++ ([] : List Value)))).toArray) rfl rfl) ?_
                    refine TL.v (ltb rfl) (rv_extract (vs := #[.agg ((([.bool x72.1.done, .int .i64 x72.1.trap, .int .i64 x72.1.value, v73, .int .i64 x72.1.steps] : List Value) ++ (arrC x72.1.memory ++ ([] : List Value)))).toArray, v76]) (v := v76) rfl rfl) ?_
                    refine TL.alloc (cs := (([.bool false, .int .i64 0, .int .i64 0, .slice none 0 0, .int .i64 0] : List Value) ++ (arrC A64.zero ++ ([] : List Value)))) inf_104 (ltb rfl) rfl fun b79 => ?_
                    refine TL.stB (ds := (([.bool x72.1.done, .int .i64 x72.1.trap, .int .i64 x72.1.value, v73, .int .i64 x72.1.steps] : List Value) ++ (arrC x72.1.memory ++ ([] : List Value)))) (o := 0) (cs := (([.bool false, .int .i64 0, .int .i64 0, .slice none 0 0, .int .i64 0] : List Value) ++ (arrC A64.zero ++ ([] : List Value)))) (b := b79) (u := .agg ((([.bool x72.1.done, .int .i64 x72.1.trap, .int .i64 x72.1.value, v73, .int .i64 x72.1.steps] : List Value) ++ (arrC x72.1.memory ++ ([] : List Value)))).toArray) 0 rfl ms_104 rfl rfl rfl (one_app (oc rfl (oc rfl (oc rfl (oc (h75).one (oc rfl oc0))))) (one_app (arr_one _) oc0)) (leb rfl) ?_
                    refine TL.respell (b := b79) (T := 104) (cs := over (([.bool false, .int .i64 0, .int .i64 0, .slice none 0 0, .int .i64 0] : List Value) ++ (arrC A64.zero ++ ([] : List Value))) 0 (([.bool x72.1.done, .int .i64 x72.1.trap, .int .i64 x72.1.value, v73, .int .i64 x72.1.steps] : List Value) ++ (arrC x72.1.memory ++ ([] : List Value)))) (ds := (([.bool x72.1.done, .int .i64 x72.1.trap, .int .i64 x72.1.value, v73, .int .i64 x72.1.steps] : List Value) ++ (arrC x72.1.memory ++ ([] : List Value)))) 0 rfl (over_all rfl) ?_
                    refine TL.norm (L' := [bx b79 104 (([.bool x72.1.done, .int .i64 x72.1.trap, .int .i64 x72.1.value, v73, .int .i64 x72.1.steps] : List Value) ++ (arrC x72.1.memory ++ ([] : List Value))), F74, F77, F70, bx b66 90 [v69], bx b9 90 [v2], bx b20 104 (([.bool x13.1.done, .int .i64 x13.1.trap, .int .i64 x13.1.value, v14, .int .i64 x13.1.steps] : List Value) ++ (arrC x13.1.memory ++ ([] : List Value))), F15, bx b32 25 [.int .i64 x21.params, .int .i64 x21.result, v49, (.slice (some ⟨b55, 0, none⟩) 1 1)], bx b37 87 [.int .i64 17, .int .i64 x52, v44, .int .i64 0, .int .i64 a4], bx b47 81 [.int .i64 3, .int .i64 x53, .slice none 0 0]]) rfl ?_
                    refine TL.v (ltb rfl) (rv_as (v := v76) rfl) ?_
                    refine TL.nil ?_
                    refine TC.go hK_156 ?_
                    refine TC.seq fun K_159 hK_160 => ?_
                    refine TC.seq fun K_161 hK_162 => ?_
                    refine TC.region ?_
                    refine TL.v (ltb rfl) (rv_mv (v := v76) rfl) ?_
                    refine TL.v (ltb rfl) (rv_neqEN ifc_49 h78 rfl) ?_
                    refine TL.nil ?_
                    refine TC.go hK_162 ?_
                    by_cases hc_163 : ¬ x72.2 = GErr.no
                    · rw [if_pos hc_163] at hp
                      refine TC.condT (bT hc_163) ?_
                      refine TC.seq fun K_164 hK_165 => ?_
                      refine TC.region ?_
                      refine TL.v (ltb rfl) (rv_as (v := .bool false) rfl) ?_
                      refine TL.nil ?_
                      refine TC.go hK_165 ?_
                      refine TC.ret ?_
                      obtain rfl := Option.some.inj hp
                      exact fun w hw => retOk ⟨rfl, rfl⟩ (hw.pick [])
                    · rw [if_neg hc_163] at hp
                      refine TC.condF (bF hc_163) ?_
                      refine TC.skip ?_
                      refine TC.go hK_160 ?_
                      refine TC.seq fun K_166 hK_167 => ?_
                      refine TC.seq fun K_168 hK_169 => ?_
                      refine TC.region ?_
                      refine TL.v (ltb rfl) (rv_fa (b := b20) (o := 0) fa_104_0 h_141) ?_
                      refine TL.v (ltb rfl) (rv_ld (v := .bool x13.1.done) (o := 0) (o' := 0) (j := 0) sc_4 rfl (Src.at_ 6 rfl) (bx_cells b20 104 _) rfl rfl) ?_
                      refine TL.v (ltb rfl) (rv_not (b := x13.1.done) rfl) ?_
                      refine TL.nil ?_
                      refine TC.go hK_169 ?_
                      by_cases hc_170 : (!x13.1.done) = true
                      · rw [if_pos hc_170] at hp
                        refine TC.condT (bbT hc_170) ?_
                        refine TC.seq fun K_171 hK_172 => ?_
                        refine TC.region ?_
                        refine TL.v (ltb rfl) (rv_mv (v := .bool x10) h_140) ?_
                        refine TL.v (ltb rfl) (rv_mv (v := .bool x10) rfl) ?_
                        obtain ⟨t80, ht_179, hp⟩ := bind_some' hp
                        refine TL.cut 6 fun K_173 hK_174 => ?_
                        have hJ_175 : ∀ e_177 : Env, e_177 152 = .bool t80 → ∀ w, St E H [bx b79 104 (([.bool x72.1.done, .int .i64 x72.1.trap, .int .i64 x72.1.value, v73, .int .i64 x72.1.steps] : List Value) ++ (arrC x72.1.memory ++ ([] : List Value))), F74, F77, F70, bx b66 90 [v69], bx b9 90 [v2], bx b20 104 (([.bool x13.1.done, .int .i64 x13.1.trap, .int .i64 x13.1.value, v14, .int .i64 x13.1.steps] : List Value) ++ (arrC x13.1.memory ++ ([] : List Value))), F15, bx b32 25 [.int .i64 x21.params, .int .i64 x21.result, v49, (.slice (some ⟨b55, 0, none⟩) 1 1)], bx b37 87 [.int .i64 17, .int .i64 x52, v44, .int .i64 0, .int .i64 a4], bx b47 81 [.int .i64 3, .int .i64 x53, .slice none 0 0]] w → K_173 e_177 w := by
                          intro e_177 h_178
                          refine TL.go hK_174 ?_
                          refine TL.v (ltb rfl) (rv_as (v := .bool t80) h_178) ?_
                          refine TL.nil ?_
                          refine TC.go hK_172 ?_
                          refine TC.ret ?_
                          obtain rfl := Option.some.inj hp
                          exact fun w hw => retOk ⟨rfl, rfl⟩ (hw.pick [])
                        clear hp
                        have hp := ht_179
                        clear ht_179
                        by_cases hc_176 : x10 = true
                        · rw [if_pos hc_176] at hp
                          refine TL.gyes true (yieldE_of rfl (bbT hc_176)) rfl ?_
                          refine TL.v (ltb rfl) (rv_fa (b := b20) (o := 0) fa_104_3 h_141) ?_
                          refine TL.gyes true (yieldE_of rfl (bbT hc_176)) rfl ?_
                          refine TL.v (ltb rfl) (rv_ld (v := v14) (o := 3) (o' := 0) (j := 3) sc_100 rfl (Src.at_ 6 rfl) (bx_cells b20 104 _) rfl rfl) ?_
                          refine TL.gyes true (yieldE_of rfl (bbT hc_176)) rfl ?_
                          refine TL.v (ltb rfl) (rv_fa (b := b79) (o := 0) fa_104_3 rfl) ?_
                          refine TL.gyes true (yieldE_of rfl (bbT hc_176)) rfl ?_
                          refine TL.v (ltb rfl) (rv_ld (v := v73) (o := 3) (o' := 0) (j := 3) sc_100 rfl (Src.at_ 0 rfl) (bx_cells b79 104 _) rfl rfl) ?_
                          refine TL.gyes true (yieldE_of rfl (bbT hc_176)) rfl ?_
                          obtain ⟨x81, hy_180, hp⟩ := bind_some' hp
                          refine TL.callC (vs := [v14, v73]) (R := fettleref04_Begins.R x81) [] [bx b79 104 (([.bool x72.1.done, .int .i64 x72.1.trap, .int .i64 x72.1.value, v73, .int .i64 x72.1.steps] : List Value) ++ (arrC x72.1.memory ++ ([] : List Value))), F74, F77, F70, bx b66 90 [v69], bx b9 90 [v2], bx b20 104 (([.bool x13.1.done, .int .i64 x13.1.trap, .int .i64 x13.1.value, v14, .int .i64 x13.1.steps] : List Value) ++ (arrC x13.1.memory ++ ([] : List Value))), F15, bx b32 25 [.int .i64 x21.params, .int .i64 x21.result, v49, (.slice (some ⟨b55, 0, none⟩) 1 1)], bx b37 87 [.int .i64 17, .int .i64 x52, v44, .int .i64 0, .int .i64 a4], bx b47 81 [.int .i64 3, .int .i64 x53, .slice none 0 0]] rfl cb_57 (ltb rfl) (mc rfl (mc rfl m0)) (fun w hw => fettleref04_Begins_ok (a1 := x13.1.out) (a4 := x72.1.out) (h16.ro.mono (subB 7 rfl)) (h75.ro.mono (subB 1 rfl)) hy_180 hw) fun v A' hR_181 => ?_
                          obtain ⟨rfl, rfl⟩ := hR_181
                          refine TL.norm (L' := [bx b79 104 (([.bool x72.1.done, .int .i64 x72.1.trap, .int .i64 x72.1.value, v73, .int .i64 x72.1.steps] : List Value) ++ (arrC x72.1.memory ++ ([] : List Value))), F74, F77, F70, bx b66 90 [v69], bx b9 90 [v2], bx b20 104 (([.bool x13.1.done, .int .i64 x13.1.trap, .int .i64 x13.1.value, v14, .int .i64 x13.1.steps] : List Value) ++ (arrC x13.1.memory ++ ([] : List Value))), F15, bx b32 25 [.int .i64 x21.params, .int .i64 x21.result, v49, (.slice (some ⟨b55, 0, none⟩) 1 1)], bx b37 87 [.int .i64 17, .int .i64 x52, v44, .int .i64 0, .int .i64 a4], bx b47 81 [.int .i64 3, .int .i64 x53, .slice none 0 0]]) rfl ?_
                          refine TL.v (ltb rfl) (rv_pickT true (bbT hc_176) rfl (v := .bool x81) rfl) ?_
                          obtain rfl := Option.some.inj hp
                          refine TL.nil (hJ_175 _ ?_)
                          · exact rfl
                        · rw [if_neg hc_176] at hp
                          refine TL.gno false rfl (fun d hd => by cases hd; exact ltb rfl) (yieldE_of rfl (bbF hc_176)) rfl ?_
                          refine TL.gno false rfl (fun d hd => by cases hd; exact ltb rfl) (yieldE_of rfl (bbF hc_176)) rfl ?_
                          refine TL.gno false rfl (fun d hd => by cases hd; exact ltb rfl) (yieldE_of rfl (bbF hc_176)) rfl ?_
                          refine TL.gno false rfl (fun d hd => by cases hd; exact ltb rfl) (yieldE_of rfl (bbF hc_176)) rfl ?_
                          refine TL.gno false rfl (fun d hd => by cases hd; exact ltb rfl) (yieldE_of rfl (bbF hc_176)) rfl ?_
                          refine TL.v (ltb rfl) (rv_pickF false (bbF hc_176) rfl (v := .bool false) rfl) ?_
                          obtain rfl := Option.some.inj hp
                          refine TL.nil (hJ_175 _ ?_)
                          · exact rfl
                      · rw [if_neg hc_170] at hp
                        refine TC.condF (bbF hc_170) ?_
                        refine TC.skip ?_
                        refine TC.go hK_167 ?_
                        refine TC.seq fun K_182 hK_183 => ?_
                        refine TC.region ?_
                        refine TL.v (ltb rfl) (rv_as (v := .int .i64 2) rfl) ?_
                        refine TL.nil ?_
                        refine TC.go hK_183 ?_
                        refine TC.seq fun K_184 hK_185 => ?_
                        have hJ_191 : ∀ (x82 : Int) (e_186 : Env) (h_187 : e_186 9 = .bool x10) (h_188 : e_186 11 = .pointer (some ⟨b20, 0, none⟩)) (h_189 : e_186 19 = .pointer (some ⟨b79, 0, none⟩)) (h_190 : e_186 21 = .int .i64 x82) (hp : fettlelaw04_RunCalls.jn191 x10 x13 x72 x82 = some r), ∀ w, St E H [bx b20 104 (([.bool x13.1.done, .int .i64 x13.1.trap, .int .i64 x13.1.value, v14, .int .i64 x13.1.steps] : List Value) ++ (arrC x13.1.memory ++ ([] : List Value))), F15, bx b79 104 (([.bool x72.1.done, .int .i64 x72.1.trap, .int .i64 x72.1.value, v73, .int .i64 x72.1.steps] : List Value) ++ (arrC x72.1.memory ++ ([] : List Value))), F74] w → K_184 e_186 w := by
                          intro x82 e_186 h_187 h_188 h_189 h_190 hp
                          unfold fettlelaw04_RunCalls.jn191 at hp
                          refine TC.go hK_185 ?_
                          refine TC.seq fun K_192 hK_193 => ?_
                          refine TC.region ?_
                          refine TL.v (ltb rfl) (rv_mv (v := .bool x10) h_187) ?_
                          refine TL.v (ltb rfl) (rv_mv (v := .bool x10) rfl) ?_
                          refine TL.cut 3 fun K_194 hK_195 => ?_
                          have hJ_196 : ∀ e_198 : Env, e_198 11 = .pointer (some ⟨b20, 0, none⟩) → e_198 19 = .pointer (some ⟨b79, 0, none⟩) → e_198 21 = .int .i64 x82 → e_198 160 = .bool (decide (x10 = true ∧ x72.1.done = true)) → ∀ w, St E H [bx b20 104 (([.bool x13.1.done, .int .i64 x13.1.trap, .int .i64 x13.1.value, v14, .int .i64 x13.1.steps] : List Value) ++ (arrC x13.1.memory ++ ([] : List Value))), F15, bx b79 104 (([.bool x72.1.done, .int .i64 x72.1.trap, .int .i64 x72.1.value, v73, .int .i64 x72.1.steps] : List Value) ++ (arrC x72.1.memory ++ ([] : List Value))), F74] w → K_194 e_198 w := by
                            intro e_198 h_199 h_200 h_201 h_202
                            refine TL.go hK_195 ?_
                            refine TL.v (ltb rfl) (rv_mv (v := .bool (decide (x10 = true ∧ x72.1.done = true))) h_202) ?_
                            refine TL.cut 6 fun K_203 hK_204 => ?_
                            have hJ_205 : ∀ e_207 : Env, e_207 11 = .pointer (some ⟨b20, 0, none⟩) → e_207 19 = .pointer (some ⟨b79, 0, none⟩) → e_207 21 = .int .i64 x82 → e_207 167 = .bool (decide ((x10 = true ∧ x72.1.done = true) ∧ x72.1.trap = x13.1.trap)) → ∀ w, St E H [bx b20 104 (([.bool x13.1.done, .int .i64 x13.1.trap, .int .i64 x13.1.value, v14, .int .i64 x13.1.steps] : List Value) ++ (arrC x13.1.memory ++ ([] : List Value))), F15, bx b79 104 (([.bool x72.1.done, .int .i64 x72.1.trap, .int .i64 x72.1.value, v73, .int .i64 x72.1.steps] : List Value) ++ (arrC x72.1.memory ++ ([] : List Value))), F74] w → K_203 e_207 w := by
                              intro e_207 h_208 h_209 h_210 h_211
                              refine TL.go hK_204 ?_
                              refine TL.v (ltb rfl) (rv_mv (v := .bool (decide ((x10 = true ∧ x72.1.done = true) ∧ x72.1.trap = x13.1.trap))) h_211) ?_
                              refine TL.cut 6 fun K_212 hK_213 => ?_
                              have hJ_214 : ∀ e_216 : Env, e_216 11 = .pointer (some ⟨b20, 0, none⟩) → e_216 19 = .pointer (some ⟨b79, 0, none⟩) → e_216 21 = .int .i64 x82 → e_216 174 = .bool (decide (((x10 = true ∧ x72.1.done = true) ∧ x72.1.trap = x13.1.trap) ∧ x72.1.value = x13.1.value)) → ∀ w, St E H [bx b20 104 (([.bool x13.1.done, .int .i64 x13.1.trap, .int .i64 x13.1.value, v14, .int .i64 x13.1.steps] : List Value) ++ (arrC x13.1.memory ++ ([] : List Value))), F15, bx b79 104 (([.bool x72.1.done, .int .i64 x72.1.trap, .int .i64 x72.1.value, v73, .int .i64 x72.1.steps] : List Value) ++ (arrC x72.1.memory ++ ([] : List Value))), F74] w → K_212 e_216 w := by
                                intro e_216 h_217 h_218 h_219 h_220
                                refine TL.go hK_213 ?_
                                refine TL.v (ltb rfl) (rv_mv (v := .bool (decide (((x10 = true ∧ x72.1.done = true) ∧ x72.1.trap = x13.1.trap) ∧ x72.1.value = x13.1.value))) h_220) ?_
                                refine TL.cut 6 fun K_221 hK_222 => ?_
                                have hJ_223 : ∀ e_225 : Env, e_225 11 = .pointer (some ⟨b20, 0, none⟩) → e_225 19 = .pointer (some ⟨b79, 0, none⟩) → e_225 21 = .int .i64 x82 → e_225 181 = .bool (decide ((((x10 = true ∧ x72.1.done = true) ∧ x72.1.trap = x13.1.trap) ∧ x72.1.value = x13.1.value) ∧ x72.1.memory = x13.1.memory)) → ∀ w, St E H [bx b20 104 (([.bool x13.1.done, .int .i64 x13.1.trap, .int .i64 x13.1.value, v14, .int .i64 x13.1.steps] : List Value) ++ (arrC x13.1.memory ++ ([] : List Value))), F15, bx b79 104 (([.bool x72.1.done, .int .i64 x72.1.trap, .int .i64 x72.1.value, v73, .int .i64 x72.1.steps] : List Value) ++ (arrC x72.1.memory ++ ([] : List Value))), F74] w → K_221 e_225 w := by
                                  intro e_225 h_226 h_227 h_228 h_229
                                  refine TL.go hK_222 ?_
                                  refine TL.v (ltb rfl) (rv_mv (v := .bool (decide ((((x10 = true ∧ x72.1.done = true) ∧ x72.1.trap = x13.1.trap) ∧ x72.1.value = x13.1.value) ∧ x72.1.memory = x13.1.memory))) h_229) ?_
                                  obtain ⟨t83, ht_245, hp⟩ := bind_some' hp
                                  refine TL.cut 6 fun K_230 hK_231 => ?_
                                  have hJ_232 : ∀ e_234 : Env, e_234 11 = .pointer (some ⟨b20, 0, none⟩) → e_234 19 = .pointer (some ⟨b79, 0, none⟩) → e_234 21 = .int .i64 x82 → e_234 188 = .bool t83 → ∀ w, St E H [bx b20 104 (([.bool x13.1.done, .int .i64 x13.1.trap, .int .i64 x13.1.value, v14, .int .i64 x13.1.steps] : List Value) ++ (arrC x13.1.memory ++ ([] : List Value))), F15, bx b79 104 (([.bool x72.1.done, .int .i64 x72.1.trap, .int .i64 x72.1.value, v73, .int .i64 x72.1.steps] : List Value) ++ (arrC x72.1.memory ++ ([] : List Value))), F74] w → K_230 e_234 w := by
                                    intro e_234 h_235 h_236 h_237 h_238
                                    refine TL.go hK_231 ?_
                                    refine TL.v (ltb rfl) (rv_mv (v := .bool t83) h_238) ?_
                                    refine TL.cut 8 fun K_239 hK_240 => ?_
                                    have hJ_241 : ∀ e_243 : Env, e_243 197 = .bool (decide (t83 = true ∧ x72.1.steps = (w64 (x13.1.steps + x82)))) → ∀ w, St E H [bx b20 104 (([.bool x13.1.done, .int .i64 x13.1.trap, .int .i64 x13.1.value, v14, .int .i64 x13.1.steps] : List Value) ++ (arrC x13.1.memory ++ ([] : List Value))), F15, bx b79 104 (([.bool x72.1.done, .int .i64 x72.1.trap, .int .i64 x72.1.value, v73, .int .i64 x72.1.steps] : List Value) ++ (arrC x72.1.memory ++ ([] : List Value))), F74] w → K_239 e_243 w := by
                                      intro e_243 h_244
                                      refine TL.go hK_240 ?_
                                      refine TL.v (ltb rfl) (rv_as (v := .bool (decide (t83 = true ∧ x72.1.steps = (w64 (x13.1.steps + x82))))) h_244) ?_
                                      refine TL.nil ?_
                                      refine TC.go hK_193 ?_
                                      refine TC.ret ?_
                                      obtain rfl := Option.some.inj hp
                                      exact fun w hw => retOk ⟨rfl, rfl⟩ (hw.pick [])
                                    by_cases hc_242 : t83 = true
                                    · refine TL.gyes true (yieldE_of rfl (bbT hc_242)) rfl ?_
                                      refine TL.v (ltb rfl) (rv_fa (b := b79) (o := 0) fa_104_4 h_236) ?_
                                      refine TL.gyes true (yieldE_of rfl (bbT hc_242)) rfl ?_
                                      refine TL.v (ltb rfl) (rv_ld (v := .int .i64 x72.1.steps) (o := 4) (o' := 0) (j := 4) sc_3 rfl (Src.at_ 2 rfl) (bx_cells b79 104 _) rfl rfl) ?_
                                      refine TL.gyes true (yieldE_of rfl (bbT hc_242)) rfl ?_
                                      refine TL.v (ltb rfl) (rv_fa (b := b20) (o := 0) fa_104_4 h_235) ?_
                                      refine TL.gyes true (yieldE_of rfl (bbT hc_242)) rfl ?_
                                      refine TL.v (ltb rfl) (rv_ld (v := .int .i64 x13.1.steps) (o := 4) (o' := 0) (j := 4) sc_3 rfl (Src.at_ 0 rfl) (bx_cells b20 104 _) rfl rfl) ?_
                                      refine TL.gyes true (yieldE_of rfl (bbT hc_242)) rfl ?_
                                      refine TL.v (ltb rfl) (rv_mv (v := .int .i64 x82) h_237) ?_
                                      refine TL.gyes true (yieldE_of rfl (bbT hc_242)) rfl ?_
                                      refine TL.v (ltb rfl) (rv_add (k := .i64) (m := x13.1.steps) (n := x82) rfl rfl) ?_
                                      refine TL.gyes true (yieldE_of rfl (bbT hc_242)) rfl ?_
                                      refine TL.v (ltb rfl) (rv_eql (k := .i64) (m := x72.1.steps) (n := (w64 (x13.1.steps + x82))) rfl rfl) ?_
                                      refine TL.v (ltb rfl) (rv_pickT true (bbT hc_242) rfl (v := .bool (decide (x72.1.steps = (w64 (x13.1.steps + x82))))) rfl) ?_
                                      refine TL.nil (hJ_241 _ ?_)
                                      · exact (bAt hc_242)
                                    · refine TL.gno false rfl (fun d hd => by cases hd; exact ltb rfl) (yieldE_of rfl (bbF hc_242)) rfl ?_
                                      refine TL.gno false rfl (fun d hd => by cases hd; exact ltb rfl) (yieldE_of rfl (bbF hc_242)) rfl ?_
                                      refine TL.gno false rfl (fun d hd => by cases hd; exact ltb rfl) (yieldE_of rfl (bbF hc_242)) rfl ?_
                                      refine TL.gno false rfl (fun d hd => by cases hd; exact ltb rfl) (yieldE_of rfl (bbF hc_242)) rfl ?_
                                      refine TL.gno false rfl (fun d hd => by cases hd; exact ltb rfl) (yieldE_of rfl (bbF hc_242)) rfl ?_
                                      refine TL.gno false rfl (fun d hd => by cases hd; exact ltb rfl) (yieldE_of rfl (bbF hc_242)) rfl ?_
                                      refine TL.gno false rfl (fun d hd => by cases hd; exact ltb rfl) (yieldE_of rfl (bbF hc_242)) rfl ?_
                                      refine TL.v (ltb rfl) (rv_pickF false (bbF hc_242) rfl (v := .bool false) rfl) ?_
                                      refine TL.nil (hJ_241 _ ?_)
                                      · exact (bAf hc_242)
                                  clear hp
                                  have hp := ht_245
                                  clear ht_245
                                  by_cases hc_233 : (((x10 = true ∧ x72.1.done = true) ∧ x72.1.trap = x13.1.trap) ∧ x72.1.value = x13.1.value) ∧ x72.1.memory = x13.1.memory
                                  · rw [if_pos hc_233] at hp
                                    refine TL.gyes true (yieldE_of rfl (bT hc_233)) rfl ?_
                                    refine TL.v (ltb rfl) (rv_fa (b := b20) (o := 0) fa_104_3 h_226) ?_
                                    refine TL.gyes true (yieldE_of rfl (bT hc_233)) rfl ?_
                                    refine TL.v (ltb rfl) (rv_ld (v := v14) (o := 3) (o' := 0) (j := 3) sc_100 rfl (Src.at_ 0 rfl) (bx_cells b20 104 _) rfl rfl) ?_
                                    refine TL.gyes true (yieldE_of rfl (bT hc_233)) rfl ?_
                                    refine TL.v (ltb rfl) (rv_fa (b := b79) (o := 0) fa_104_3 h_227) ?_
                                    refine TL.gyes true (yieldE_of rfl (bT hc_233)) rfl ?_
                                    refine TL.v (ltb rfl) (rv_ld (v := v73) (o := 3) (o' := 0) (j := 3) sc_100 rfl (Src.at_ 2 rfl) (bx_cells b79 104 _) rfl rfl) ?_
                                    refine TL.gyes true (yieldE_of rfl (bT hc_233)) rfl ?_
                                    obtain ⟨x84, hy_246, hp⟩ := bind_some' hp
                                    refine TL.callC (vs := [v14, v73]) (R := fettleref04_Alike.R x84) [] [bx b20 104 (([.bool x13.1.done, .int .i64 x13.1.trap, .int .i64 x13.1.value, v14, .int .i64 x13.1.steps] : List Value) ++ (arrC x13.1.memory ++ ([] : List Value))), F15, bx b79 104 (([.bool x72.1.done, .int .i64 x72.1.trap, .int .i64 x72.1.value, v73, .int .i64 x72.1.steps] : List Value) ++ (arrC x72.1.memory ++ ([] : List Value))), F74] rfl cb_58 (ltb rfl) (mc rfl (mc rfl m0)) (fun w hw => fettleref04_Alike_ok (a1 := x13.1.out) (a4 := x72.1.out) (h16.ro.mono (subB 1 rfl)) (h75.ro.mono (subB 3 rfl)) hy_246 hw) fun v A' hR_247 => ?_
                                    obtain ⟨rfl, rfl⟩ := hR_247
                                    refine TL.norm (L' := [bx b20 104 (([.bool x13.1.done, .int .i64 x13.1.trap, .int .i64 x13.1.value, v14, .int .i64 x13.1.steps] : List Value) ++ (arrC x13.1.memory ++ ([] : List Value))), F15, bx b79 104 (([.bool x72.1.done, .int .i64 x72.1.trap, .int .i64 x72.1.value, v73, .int .i64 x72.1.steps] : List Value) ++ (arrC x72.1.memory ++ ([] : List Value))), F74]) rfl ?_
                                    refine TL.v (ltb rfl) (rv_pickT true (bT hc_233) rfl (v := .bool x84) rfl) ?_
                                    obtain rfl := Option.some.inj hp
                                    refine TL.nil (hJ_232 _ ?_ ?_ ?_ ?_)
                                    · exact h_226
                                    · exact h_227
                                    · exact h_228
                                    · exact rfl
                                  · rw [if_neg hc_233] at hp
                                    refine TL.gno false rfl (fun d hd => by cases hd; exact ltb rfl) (yieldE_of rfl (bF hc_233)) rfl ?_
                                    refine TL.gno false rfl (fun d hd => by cases hd; exact ltb rfl) (yieldE_of rfl (bF hc_233)) rfl ?_
                                    refine TL.gno false rfl (fun d hd => by cases hd; exact ltb rfl) (yieldE_of rfl (bF hc_233)) rfl ?_
                                    refine TL.gno false rfl (fun d hd => by cases hd; exact ltb rfl) (yieldE_of rfl (bF hc_233)) rfl ?_
                                    refine TL.gno false rfl (fun d hd => by cases hd; exact ltb rfl) (yieldE_of rfl (bF hc_233)) rfl ?_
                                    refine TL.v (ltb rfl) (rv_pickF false (bF hc_233) rfl (v := .bool false) rfl) ?_
                                    obtain rfl := Option.some.inj hp
                                    refine TL.nil (hJ_232 _ ?_ ?_ ?_ ?_)
                                    · exact h_226
                                    · exact h_227
                                    · exact h_228
                                    · exact rfl
                                by_cases hc_224 : ((x10 = true ∧ x72.1.done = true) ∧ x72.1.trap = x13.1.trap) ∧ x72.1.value = x13.1.value
                                · refine TL.gyes true (yieldE_of rfl (bT hc_224)) rfl ?_
                                  refine TL.v (ltb rfl) (rv_fa (b := b79) (o := 0) fa_104_5 h_218) ?_
                                  refine TL.gyes true (yieldE_of rfl (bT hc_224)) rfl ?_
                                  refine TL.v (ltb rfl) (rv_lda (o := 5) (o' := 0) (j := 5) (ds := (arrC x72.1.memory ++ ([] : List Value))) ag_102 rfl (Src.at_ 2 rfl) (bx_cells b79 104 _) rfl rfl rfl) ?_
                                  refine TL.gyes true (yieldE_of rfl (bT hc_224)) rfl ?_
                                  refine TL.v (ltb rfl) (rv_fa (b := b20) (o := 0) fa_104_5 h_217) ?_
                                  refine TL.gyes true (yieldE_of rfl (bT hc_224)) rfl ?_
                                  refine TL.v (ltb rfl) (rv_lda (o := 5) (o' := 0) (j := 5) (ds := (arrC x13.1.memory ++ ([] : List Value))) ag_102 rfl (Src.at_ 0 rfl) (bx_cells b20 104 _) rfl rfl rfl) ?_
                                  refine TL.gyes true (yieldE_of rfl (bT hc_224)) rfl ?_
                                  refine TL.v (ltb rfl) (rv_eqlA al_102 inf_2 ac_102 ap_102 Try.underlying2 aq_102 (show _ = Value.agg (arrC x72.1.memory).toArray from rfl) (show _ = Value.agg (arrC x13.1.memory).toArray from rfl)) ?_
                                  refine TL.v (ltb rfl) (rv_pickT true (bT hc_224) rfl (v := .bool (decide (x72.1.memory = x13.1.memory))) rfl) ?_
                                  refine TL.nil (hJ_223 _ ?_ ?_ ?_ ?_)
                                  · exact h_217
                                  · exact h_218
                                  · exact h_219
                                  · exact (bAt hc_224)
                                · refine TL.gno false rfl (fun d hd => by cases hd; exact ltb rfl) (yieldE_of rfl (bF hc_224)) rfl ?_
                                  refine TL.gno false rfl (fun d hd => by cases hd; exact ltb rfl) (yieldE_of rfl (bF hc_224)) rfl ?_
                                  refine TL.gno false rfl (fun d hd => by cases hd; exact ltb rfl) (yieldE_of rfl (bF hc_224)) rfl ?_
                                  refine TL.gno false rfl (fun d hd => by cases hd; exact ltb rfl) (yieldE_of rfl (bF hc_224)) rfl ?_
                                  refine TL.gno false rfl (fun d hd => by cases hd; exact ltb rfl) (yieldE_of rfl (bF hc_224)) rfl ?_
                                  refine TL.v (ltb rfl) (rv_pickF false (bF hc_224) rfl (v := .bool false) rfl) ?_
                                  refine TL.nil (hJ_223 _ ?_ ?_ ?_ ?_)
                                  · exact h_217
                                  · exact h_218
                                  · exact h_219
                                  · exact (bAf hc_224)
                              by_cases hc_215 : (x10 = true ∧ x72.1.done = true) ∧ x72.1.trap = x13.1.trap
                              · refine TL.gyes true (yieldE_of rfl (bT hc_215)) rfl ?_
                                refine TL.v (ltb rfl) (rv_fa (b := b79) (o := 0) fa_104_2 h_209) ?_
                                refine TL.gyes true (yieldE_of rfl (bT hc_215)) rfl ?_
                                refine TL.v (ltb rfl) (rv_ld (v := .int .i64 x72.1.value) (o := 2) (o' := 0) (j := 2) sc_2 rfl (Src.at_ 2 rfl) (bx_cells b79 104 _) rfl rfl) ?_
                                refine TL.gyes true (yieldE_of rfl (bT hc_215)) rfl ?_
                                refine TL.v (ltb rfl) (rv_fa (b := b20) (o := 0) fa_104_2 h_208) ?_
                                refine TL.gyes true (yieldE_of rfl (bT hc_215)) rfl ?_
                                refine TL.v (ltb rfl) (rv_ld (v := .int .i64 x13.1.value) (o := 2) (o' := 0) (j := 2) sc_2 rfl (Src.at_ 0 rfl) (bx_cells b20 104 _) rfl rfl) ?_
                                refine TL.gyes true (yieldE_of rfl (bT hc_215)) rfl ?_
                                refine TL.v (ltb rfl) (rv_eql (k := .i64) (m := x72.1.value) (n := x13.1.value) rfl rfl) ?_
                                refine TL.v (ltb rfl) (rv_pickT true (bT hc_215) rfl (v := .bool (decide (x72.1.value = x13.1.value))) rfl) ?_
                                refine TL.nil (hJ_214 _ ?_ ?_ ?_ ?_)
                                · exact h_208
                                · exact h_209
                                · exact h_210
                                · exact (bAt hc_215)
                              · refine TL.gno false rfl (fun d hd => by cases hd; exact ltb rfl) (yieldE_of rfl (bF hc_215)) rfl ?_
                                refine TL.gno false rfl (fun d hd => by cases hd; exact ltb rfl) (yieldE_of rfl (bF hc_215)) rfl ?_
                                refine TL.gno false rfl (fun d hd => by cases hd; exact ltb rfl) (yieldE_of rfl (bF hc_215)) rfl ?_
                                refine TL.gno false rfl (fun d hd => by cases hd; exact ltb rfl) (yieldE_of rfl (bF hc_215)) rfl ?_
                                refine TL.gno false rfl (fun d hd => by cases hd; exact ltb rfl) (yieldE_of rfl (bF hc_215)) rfl ?_
                                refine TL.v (ltb rfl) (rv_pickF false (bF hc_215) rfl (v := .bool false) rfl) ?_
                                refine TL.nil (hJ_214 _ ?_ ?_ ?_ ?_)
                                · exact h_208
                                · exact h_209
                                · exact h_210
                                · exact (bAf hc_215)
                            by_cases hc_206 : x10 = true ∧ x72.1.done = true
                            · refine TL.gyes true (yieldE_of rfl (bT hc_206)) rfl ?_
                              refine TL.v (ltb rfl) (rv_fa (b := b79) (o := 0) fa_104_1 h_200) ?_
                              refine TL.gyes true (yieldE_of rfl (bT hc_206)) rfl ?_
                              refine TL.v (ltb rfl) (rv_ld (v := .int .i64 x72.1.trap) (o := 1) (o' := 0) (j := 1) sc_3 rfl (Src.at_ 2 rfl) (bx_cells b79 104 _) rfl rfl) ?_
                              refine TL.gyes true (yieldE_of rfl (bT hc_206)) rfl ?_
                              refine TL.v (ltb rfl) (rv_fa (b := b20) (o := 0) fa_104_1 h_199) ?_
                              refine TL.gyes true (yieldE_of rfl (bT hc_206)) rfl ?_
                              refine TL.v (ltb rfl) (rv_ld (v := .int .i64 x13.1.trap) (o := 1) (o' := 0) (j := 1) sc_3 rfl (Src.at_ 0 rfl) (bx_cells b20 104 _) rfl rfl) ?_
                              refine TL.gyes true (yieldE_of rfl (bT hc_206)) rfl ?_
                              refine TL.v (ltb rfl) (rv_eql (k := .i64) (m := x72.1.trap) (n := x13.1.trap) rfl rfl) ?_
                              refine TL.v (ltb rfl) (rv_pickT true (bT hc_206) rfl (v := .bool (decide (x72.1.trap = x13.1.trap))) rfl) ?_
                              refine TL.nil (hJ_205 _ ?_ ?_ ?_ ?_)
                              · exact h_199
                              · exact h_200
                              · exact h_201
                              · exact (bAt hc_206)
                            · refine TL.gno false rfl (fun d hd => by cases hd; exact ltb rfl) (yieldE_of rfl (bF hc_206)) rfl ?_
                              refine TL.gno false rfl (fun d hd => by cases hd; exact ltb rfl) (yieldE_of rfl (bF hc_206)) rfl ?_
                              refine TL.gno false rfl (fun d hd => by cases hd; exact ltb rfl) (yieldE_of rfl (bF hc_206)) rfl ?_
                              refine TL.gno false rfl (fun d hd => by cases hd; exact ltb rfl) (yieldE_of rfl (bF hc_206)) rfl ?_
                              refine TL.gno false rfl (fun d hd => by cases hd; exact ltb rfl) (yieldE_of rfl (bF hc_206)) rfl ?_
                              refine TL.v (ltb rfl) (rv_pickF false (bF hc_206) rfl (v := .bool false) rfl) ?_
                              refine TL.nil (hJ_205 _ ?_ ?_ ?_ ?_)
                              · exact h_199
                              · exact h_200
                              · exact h_201
                              · exact (bAf hc_206)
                          by_cases hc_197 : x10 = true
                          · refine TL.gyes true (yieldE_of rfl (bbT hc_197)) rfl ?_
                            refine TL.v (ltb rfl) (rv_fa (b := b79) (o := 0) fa_104_0 h_189) ?_
                            refine TL.gyes true (yieldE_of rfl (bbT hc_197)) rfl ?_
                            refine TL.v (ltb rfl) (rv_ld (v := .bool x72.1.done) (o := 0) (o' := 0) (j := 0) sc_4 rfl (Src.at_ 2 rfl) (bx_cells b79 104 _) rfl rfl) ?_
                            refine TL.v (ltb rfl) (rv_pickT true (bbT hc_197) rfl (v := .bool x72.1.done) rfl) ?_
                            refine TL.nil (hJ_196 _ ?_ ?_ ?_ ?_)
                            · exact h_188
                            · exact h_189
                            · exact h_190
                            · exact (bAt' hc_197)
                          · refine TL.gno false rfl (fun d hd => by cases hd; exact ltb rfl) (yieldE_of rfl (bbF hc_197)) rfl ?_
                            refine TL.gno false rfl (fun d hd => by cases hd; exact ltb rfl) (yieldE_of rfl (bbF hc_197)) rfl ?_
                            refine TL.v (ltb rfl) (rv_pickF false (bbF hc_197) rfl (v := .bool false) rfl) ?_
                            refine TL.nil (hJ_196 _ ?_ ?_ ?_ ?_)
                            · exact h_188
                            · exact h_189
                            · exact h_190
                            · exact (bAf hc_197)
                        refine TC.seq fun K_248 hK_249 => ?_
                        refine TC.region ?_
                        refine TL.v (ltb rfl) (rv_fa (b := b20) (o := 0) fa_104_1 h_141) ?_
                        refine TL.v (ltb rfl) (rv_ld (v := .int .i64 x13.1.trap) (o := 1) (o' := 0) (j := 1) sc_3 rfl (Src.at_ 6 rfl) (bx_cells b20 104 _) rfl rfl) ?_
                        refine TL.v (ltb rfl) (rv_neq (k := .i64) (m := x13.1.trap) (n := 0) rfl rfl) ?_
                        refine TL.nil ?_
                        refine TC.go hK_249 ?_
                        by_cases hc_250 : ¬ x13.1.trap = 0
                        · rw [if_pos hc_250] at hp
                          refine TC.condT (bT hc_250) ?_
                          refine TC.region ?_
                          refine TL.v (ltb rfl) (rv_as (v := .int .i64 1) rfl) ?_
                          refine TL.nil ?_
                          refine fun w hw => hJ_191 1 _ ?_ ?_ ?_ ?_ hp w (hw.pick [6, 6, 0, 0])
                          · exact h_140
                          · exact h_141
                          · exact rfl
                          · exact rfl
                        · rw [if_neg hc_250] at hp
                          refine TC.condF (bF hc_250) ?_
                          refine TC.skip ?_
                          refine fun w hw => hJ_191 2 _ ?_ ?_ ?_ ?_ hp w (hw.pick [6, 6, 0, 0])
                          · exact h_140
                          · exact h_141
                          · exact rfl
                          · exact rfl
                  refine TC.seq fun K_251 hK_252 => ?_
                  refine TC.region ?_
                  refine TL.v (ltb rfl) (rv_fa (b := b31) (o := 0) fa_25_1 h_129) ?_
                  refine TL.v (ltb rfl) (rv_ld (v := .int .i64 x21.result) (o := 1) (o' := 0) (j := 1) sc_3 rfl (Src.at_ 4 rfl) (bx_cells b31 25 _) rfl rfl) ?_
                  refine TL.v (ltb rfl) (rv_neq (k := .i64) (m := x21.result) (n := 0) rfl rfl) ?_
                  refine TL.nil ?_
                  refine TC.go hK_252 ?_
                  by_cases hc_253 : ¬ x21.result = 0
                  · rw [if_pos hc_253] at hp
                    refine TC.condT (bT hc_253) ?_
                    refine TC.seq fun K_254 hK_255 => ?_
                    refine TC.region ?_
                    refine TL.v (ltb rfl) (rv_fa (b := b32) (o := 0) fa_25_2 h_130) ?_
                    refine TL.v (ltb rfl) (rv_ld (v := v34) (o := 2) (o' := 0) (j := 2) sc_22 rfl (Src.at_ 5 rfl) (bx_cells b32 25 _) rfl rfl) ?_
                    refine TL.v (ltb rfl) (rv_fa (b := b31) (o := 0) fa_25_1 h_129) ?_
                    refine TL.v (ltb rfl) (rv_ld (v := .int .i64 x21.result) (o := 1) (o' := 0) (j := 1) sc_3 rfl (Src.at_ 4 rfl) (bx_cells b31 25 _) rfl rfl) ?_
                    refine TL.bv (vs := [(0, .int .i64 x21.result)]) (cs := [.int .i64 x21.result]) (pc rfl p0) Try.underlying22 inf_3 (ltb rfl) (by decide) (by decide) (by kernel_rfl) fun b85 => ?_
                    refine TL.pk' [7, 0, 0, 0, 0, 0, 0, 0, 0, 0] (L' := [F35, bx b85 3 [.int .i64 x21.result], bx b47 81 [.int .i64 3, .int .i64 (-1), .slice none 0 0], bx b9 90 [v2], bx b20 104 (([.bool x13.1.done, .int .i64 x13.1.trap, .int .i64 x13.1.value, v14, .int .i64 x13.1.steps] : List Value) ++ (arrC x13.1.memory ++ ([] : List Value))), F15, bx b31 25 [.int .i64 x21.params, .int .i64 x21.result, v27, v29], bx b32 25 [.int .i64 x21.params, .int .i64 x21.result, v34, .slice none 0 0], bx b37 87 [.int .i64 17, .int .i64 (-1), v44, .int .i64 0, .int .i64 a4], F45]) rfl ?_
                    refine TL.perm (L' := [F35, bx b85 3 [.int .i64 x21.result], [], bx b47 81 [.int .i64 3, .int .i64 (-1), .slice none 0 0], bx b9 90 [v2], bx b20 104 (([.bool x13.1.done, .int .i64 x13.1.trap, .int .i64 x13.1.value, v14, .int .i64 x13.1.steps] : List Value) ++ (arrC x13.1.memory ++ ([] : List Value))), F15, bx b31 25 [.int .i64 x21.params, .int .i64 x21.result, v27, v29], bx b32 25 [.int .i64 x21.params, .int .i64 x21.result, v34, .slice none 0 0], bx b37 87 [.int .i64 17, .int .i64 (-1), v44, .int .i64 0, .int .i64 a4], F45]) (by simp) ?_
                    obtain ⟨x86, hz_256, hp⟩ := bind_some' hp
                    refine TL.app Try.underlying22 inf_3 (ltb rfl) rfl (ltb rfl) rfl (leb rfl) rfl rfl h36 (RepL.to (RepL.cons (k := (kInt .i64)) (x := x21.result) ⟨rfl, rfl⟩ RepL.nil) rfl) rfl rfl hz_256 fun v87 F88 h89 => ?_
                    refine TL.v (ltb rfl) (rv_fa (b := b32) (o := 0) fa_25_2 h_130) ?_
                    refine TL.stB (ds := [v87]) (o := 2) (cs := [.int .i64 x21.params, .int .i64 x21.result, v34, .slice none 0 0]) (b := b32) (u := v87) 6 rfl ms_22 rfl rfl (SlO.cells h89) (oc (h89).one oc0) (leb rfl) ?_
                    refine TL.norm (L' := [F88, bx b47 81 [.int .i64 3, .int .i64 (-1), .slice none 0 0], bx b9 90 [v2], bx b20 104 (([.bool x13.1.done, .int .i64 x13.1.trap, .int .i64 x13.1.value, v14, .int .i64 x13.1.steps] : List Value) ++ (arrC x13.1.memory ++ ([] : List Value))), F15, bx b31 25 [.int .i64 x21.params, .int .i64 x21.result, v27, v29], bx b32 25 [.int .i64 x21.params, .int .i64 x21.result, v87, .slice none 0 0], bx b37 87 [.int .i64 17, .int .i64 (-1), v44, .int .i64 0, .int .i64 a4], F45]) rfl ?_
                    refine TL.nil ?_
                    refine TC.go hK_255 ?_
                    refine TC.seq fun K_257 hK_258 => ?_
                    refine TC.region ?_
                    refine TL.v (ltb rfl) (rv_fa (b := b31) (o := 0) fa_25_0 h_129) ?_
                    refine TL.v (ltb rfl) (rv_ld (v := .int .i64 x21.params) (o := 0) (o' := 0) (j := 0) sc_3 rfl (Src.at_ 5 rfl) (bx_cells b31 25 _) rfl rfl) ?_
                    refine TL.v (ltb rfl) (rv_fa (b := b37) (o := 0) fa_87_1 h_131) ?_
                    refine TL.stB (ds := [.int .i64 x21.params]) (o := 1) (cs := [.int .i64 17, .int .i64 (-1), v44, .int .i64 0, .int .i64 a4]) (b := b37) (u := .int .i64 x21.params) 7 rfl ms_3 rfl rfl rfl (oc rfl oc0) (leb rfl) ?_
                    refine TL.norm (L' := [F88, bx b47 81 [.int .i64 3, .int .i64 (-1), .slice none 0 0], bx b9 90 [v2], bx b20 104 (([.bool x13.1.done, .int .i64 x13.1.trap, .int .i64 x13.1.value, v14, .int .i64 x13.1.steps] : List Value) ++ (arrC x13.1.memory ++ ([] : List Value))), F15, bx b31 25 [.int .i64 x21.params, .int .i64 x21.result, v27, v29], bx b32 25 [.int .i64 x21.params, .int .i64 x21.result, v87, .slice none 0 0], bx b37 87 [.int .i64 17, .int .i64 x21.params, v44, .int .i64 0, .int .i64 a4], F45]) rfl ?_
                    refine TL.nil ?_
                    refine TC.go hK_258 ?_
                    refine TC.region ?_
                    refine TL.v (ltb rfl) (rv_fa (b := b31) (o := 0) fa_25_0 h_129) ?_
                    refine TL.v (ltb rfl) (rv_ld (v := .int .i64 x21.params) (o := 0) (o' := 0) (j := 0) sc_3 rfl (Src.at_ 5 rfl) (bx_cells b31 25 _) rfl rfl) ?_
                    refine TL.v (ltb rfl) (rv_fa (b := b47) (o := 0) fa_81_1 rfl) ?_
                    refine TL.stB (ds := [.int .i64 x21.params]) (o := 1) (cs := [.int .i64 3, .int .i64 (-1), .slice none 0 0]) (b := b47) (u := .int .i64 x21.params) 1 rfl ms_3 rfl rfl rfl (oc rfl oc0) (leb rfl) ?_
                    refine TL.norm (L' := [F88, bx b47 81 [.int .i64 3, .int .i64 x21.params, .slice none 0 0], bx b9 90 [v2], bx b20 104 (([.bool x13.1.done, .int .i64 x13.1.trap, .int .i64 x13.1.value, v14, .int .i64 x13.1.steps] : List Value) ++ (arrC x13.1.memory ++ ([] : List Value))), F15, bx b31 25 [.int .i64 x21.params, .int .i64 x21.result, v27, v29], bx b32 25 [.int .i64 x21.params, .int .i64 x21.result, v87, .slice none 0 0], bx b37 87 [.int .i64 17, .int .i64 x21.params, v44, .int .i64 0, .int .i64 a4], F45]) rfl ?_
                    refine TL.nil ?_
                    refine fun w hw => hJ_145 x86 x21.params x21.params v87 F88 _ h89 ?_ ?_ ?_ ?_ ?_ ?_ ?_ ?_ hp w (hw.pick [2, 2, 2, 3, 0, 2, 2, 0])
                    · exact h_124
                    · exact h_125
                    · exact h_126
                    · exact h_127
                    · exact h_128
                    · exact h_130
                    · exact h_131
                    · exact rfl
                  · rw [if_neg hc_253] at hp
                    refine TC.condF (bF hc_253) ?_
                    refine TC.skip ?_
                    refine fun w hw => hJ_145 x33 (-1) (-1) v34 F35 _ h36 ?_ ?_ ?_ ?_ ?_ ?_ ?_ ?_ hp w (hw.pick [1, 1, 1, 2, 2, 2, 2, 0])
                    · exact h_124
                    · exact h_125
                    · exact h_126
                    · exact h_127
                    · exact h_128
                    · exact h_130
                    · exact h_131
                    · exact rfl
                refine W.new0 ?_
                refine TC.pk' [2, 2, 2, 2, 2, 2, 1, 0] (L' := [bx b9 90 [v2], bx b20 104 (([.bool x13.1.done, .int .i64 x13.1.trap, .int .i64 x13.1.value, v14, .int .i64 x13.1.steps] : List Value) ++ (arrC x13.1.memory ++ ([] : List Value))), F15, bx b31 25 [.int .i64 x21.params, .int .i64 x21.result, v27, v29], bx b32 25 [.int .i64 x21.params, .int .i64 x21.result, v34, .slice none 0 0], F35, bx b37 87 [.int .i64 17, .int .i64 (-1), (.slice none 0 0), .int .i64 0, .int .i64 a4], ([] : FP)]) rfl ?_
                refine TC.loopW (r := z_118) (fun (s : (List Int × Int)) (e_108 : Env) (L_269 : List FP) => ∃ (x38 : List Int) (x42 : Int) (v39 : Value) (F40 : FP), s = (x38, x42) ∧ SlO 3 (kInt .i64) x38 v39 F40 ∧ e_108 2 = v6 ∧ e_108 3 = .int .i64 x12 ∧ e_108 4 = .pointer (some ⟨b9, 0, none⟩) ∧ e_108 9 = .bool x10 ∧ e_108 11 = .pointer (some ⟨b20, 0, none⟩) ∧ e_108 13 = .pointer (some ⟨b31, 0, none⟩) ∧ e_108 14 = .pointer (some ⟨b32, 0, none⟩) ∧ e_108 15 = .pointer (some ⟨b37, 0, none⟩) ∧ e_108 16 = .int .i64 x42 ∧ L_269 = [bx b9 90 [v2], bx b20 104 (([.bool x13.1.done, .int .i64 x13.1.trap, .int .i64 x13.1.value, v14, .int .i64 x13.1.steps] : List Value) ++ (arrC x13.1.memory ++ ([] : List Value))), F15, bx b31 25 [.int .i64 x21.params, .int .i64 x21.result, v27, v29], bx b32 25 [.int .i64 x21.params, .int .i64 x21.result, v34, .slice none 0 0], F35, bx b37 87 [.int .i64 17, .int .i64 (-1), v39, .int .i64 0, .int .i64 a4], F40]) ?_ FUEL _ _ _ hz_119 ⟨([] : List Int), 0, (.slice none 0 0), ([] : FP), rfl, (SlO.nil 3), h_94, h_95, h_96, h_97, h_98, h_99, h_100, rfl, rfl, rfl⟩
                rintro s e_108 L_269 ⟨x38, x42, v39, F40, rfl, h41, h_109, h_110, h_111, h_112, h_113, h_114, h_115, h_116, h_117, rfl⟩ x_121 hp hx_122
                replace hp : fettlelaw04_RunCalls.bd122 x21 x38 x42 = some x_121 := hp
                unfold fettlelaw04_RunCalls.bd122 at hp
                refine TC.seq fun K_261 hK_262 => ?_
                refine TC.seq fun K_263 hK_264 => ?_
                refine TC.region ?_
                refine TL.v (ltb rfl) (rv_mv (v := .int .i64 x42) h_117) ?_
                refine TL.v (ltb rfl) (rv_fa (b := b31) (o := 0) fa_25_0 h_114) ?_
                refine TL.v (ltb rfl) (rv_ld (v := .int .i64 x21.params) (o := 0) (o' := 0) (j := 0) sc_3 rfl (Src.at_ 3 rfl) (bx_cells b31 25 _) rfl rfl) ?_
                refine TL.v (ltb rfl) (rv_lss (k := .i64) (m := x42) (n := x21.params) rfl rfl) ?_
                refine TL.nil ?_
                refine TC.go hK_264 ?_
                by_cases hc_265 : x42 < x21.params
                · rw [if_pos hc_265] at hp
                  refine TC.condT (bT hc_265) ?_
                  refine TC.skip ?_
                  refine TC.go hK_262 ?_
                  refine TC.seq fun K_266 hK_267 => ?_
                  refine TC.block ?_
                  refine TC.region ?_
                  refine TL.v (ltb rfl) (rv_fa (b := b37) (o := 0) fa_87_2 h_116) ?_
                  refine TL.v (ltb rfl) (rv_ld (v := v39) (o := 2) (o' := 0) (j := 2) sc_22 rfl (Src.at_ 6 rfl) (bx_cells b37 87 _) rfl rfl) ?_
                  refine TL.v (ltb rfl) (rv_mv (v := .int .i64 x42) h_117) ?_
                  refine TL.bv (vs := [(0, .int .i64 x42)]) (cs := [.int .i64 x42]) (pc rfl p0) Try.underlying22 inf_3 (ltb rfl) (by decide) (by decide) (by kernel_rfl) fun b90 => ?_
                  refine TL.pk' [8, 0, 0, 0, 0, 0, 0, 0, 0] (L' := [F40, bx b90 3 [.int .i64 x42], bx b9 90 [v2], bx b20 104 (([.bool x13.1.done, .int .i64 x13.1.trap, .int .i64 x13.1.value, v14, .int .i64 x13.1.steps] : List Value) ++ (arrC x13.1.memory ++ ([] : List Value))), F15, bx b31 25 [.int .i64 x21.params, .int .i64 x21.result, v27, v29], bx b32 25 [.int .i64 x21.params, .int .i64 x21.result, v34, .slice none 0 0], F35, bx b37 87 [.int .i64 17, .int .i64 (-1), v39, .int .i64 0, .int .i64 a4]]) rfl ?_
                  refine TL.perm (L' := [F40, bx b90 3 [.int .i64 x42], [], bx b9 90 [v2], bx b20 104 (([.bool x13.1.done, .int .i64 x13.1.trap, .int .i64 x13.1.value, v14, .int .i64 x13.1.steps] : List Value) ++ (arrC x13.1.memory ++ ([] : List Value))), F15, bx b31 25 [.int .i64 x21.params, .int .i64 x21.result, v27, v29], bx b32 25 [.int .i64 x21.params, .int .i64 x21.result, v34, .slice none 0 0], F35, bx b37 87 [.int .i64 17, .int .i64 (-1), v39, .int .i64 0, .int .i64 a4]]) (by simp) ?_
                  obtain ⟨x91, hz_268, hp⟩ := bind_some' hp
                  refine TL.app Try.underlying22 inf_3 (ltb rfl) rfl (ltb rfl) rfl (leb rfl) rfl rfl h41 (RepL.to (RepL.cons (k := (kInt .i64)) (x := x42) ⟨rfl, rfl⟩ RepL.nil) rfl) rfl rfl hz_268 fun v92 F93 h94 => ?_
                  refine TL.v (ltb rfl) (rv_fa (b := b37) (o := 0) fa_87_2 h_116) ?_
                  refine TL.stB (ds := [v92]) (o := 2) (cs := [.int .i64 17, .int .i64 (-1), v39, .int .i64 0, .int .i64 a4]) (b := b37) (u := v92) 7 rfl ms_22 rfl rfl (SlO.cells h94) (oc (h94).one oc0) (leb rfl) ?_
                  refine TL.norm (L' := [F93, bx b9 90 [v2], bx b20 104 (([.bool x13.1.done, .int .i64 x13.1.trap, .int .i64 x13.1.value, v14, .int .i64 x13.1.steps] : List Value) ++ (arrC x13.1.memory ++ ([] : List Value))), F15, bx b31 25 [.int .i64 x21.params, .int .i64 x21.result, v27, v29], bx b32 25 [.int .i64 x21.params, .int .i64 x21.result, v34, .slice none 0 0], F35, bx b37 87 [.int .i64 17, .int .i64 (-1), v92, .int .i64 0, .int .i64 a4]]) rfl ?_
                  refine TL.nil ?_
                  refine TC.go hK_267 ?_
                  refine TC.region ?_
                  refine TL.v (ltb rfl) (rv_mv (v := .int .i64 x42) h_117) ?_
                  refine TL.v (ltb rfl) (rv_add (k := .i64) (m := x42) (n := 1) rfl rfl) ?_
                  refine TL.v (ltb rfl) (rv_as (v := .int .i64 (w64 (x42 + 1))) rfl) ?_
                  refine TL.nil ?_
                  exact fun w hw => goOk hp ⟨x91, (w64 (x42 + 1)), v92, F93, rfl, h94, h_109, h_110, h_111, h_112, h_113, h_114, h_115, h_116, rfl, rfl⟩ (hw.pick [1, 1, 1, 1, 1, 1, 1, 0])
                · rw [if_neg hc_265] at hp
                  refine TC.condF (bF hc_265) ?_
                  refine TC.exit ?_
                  refine fun w hw => hJ_259 x38 v39 F40 _ h41 ?_ ?_ ?_ ?_ ?_ ?_ ?_ ?_ (ex_ret hp hx_122) w (hw.pick [0, 0, 0, 0, 0, 0, 0, 0])
                  · exact h_109
                  · exact h_110
                  · exact h_111
                  · exact h_112
                  · exact h_113
                  · exact h_114
                  · exact h_115
                  · exact h_116
              refine TC.held ([bx b31 25 [.int .i64 x21.params, .int .i64 x21.result, v27, v29], bx b20 104 (([.bool x13.1.done, .int .i64 x13.1.trap, .int .i64 x13.1.value, v14, .int .i64 x13.1.steps] : List Value) ++ (arrC x13.1.memory ++ ([] : List Value))), F15, F18, bx b9 90 [v2]].flatten ++ H) mix (srcG 0 rfl (srcG 1 rfl (srcG 2 rfl (srcG 3 rfl (srcG 4 rfl srcG0))))) ?_
              refine HL.v 0 rfl trivial (by kernel_rfl) (by kernel_rfl) (by kernel_rfl) (ltb rfl) (rv_fa (b := b31) (o := 0) fa_25_0 rfl) ?_
              refine HL.v 1 rfl trivial (by kernel_rfl) (by kernel_rfl) (by kernel_rfl) (ltb rfl) (rv_ld (v := .int .i64 x21.params) (o := 0) (o' := 0) (j := 0) sc_3 rfl (srcInG 0 rfl) (bx_cells b31 25 _) rfl rfl) ?_
              refine HL.v 2 rfl trivial (by kernel_rfl) (by kernel_rfl) (by kernel_rfl) (ltb rfl) (rv_fa (b := b31) (o := 0) fa_25_1 rfl) ?_
              refine HL.v 3 rfl trivial (by kernel_rfl) (by kernel_rfl) (by kernel_rfl) (ltb rfl) (rv_ld (v := .int .i64 x21.result) (o := 1) (o' := 0) (j := 1) sc_3 rfl (srcInG 0 rfl) (bx_cells b31 25 _) rfl rfl) ?_
              refine HL.v 5 rfl trivial (by kernel_rfl) (by kernel_rfl) (by kernel_rfl) (ltb rfl) (rv_fa (b := b31) (o := 0) fa_25_2 rfl) ?_
              refine HL.v 6 rfl trivial (by kernel_rfl) (by kernel_rfl) (by kernel_rfl) (ltb rfl) (rv_ld (v := v27) (o := 2) (o' := 0) (j := 2) sc_22 rfl (srcInG 0 rfl) (bx_cells b31 25 _) rfl rfl) ?_
              refine HL.v 7 rfl trivial (by kernel_rfl) (by kernel_rfl) (by kernel_rfl) (ltb rfl) (rv_fa (b := b31) (o := 0) fa_25_0 rfl) ?_
              refine HL.v 8 rfl trivial (by kernel_rfl) (by kernel_rfl) (by kernel_rfl) (ltb rfl) (rv_ld (v := .int .i64 x21.params) (o := 0) (o' := 0) (j := 0) sc_3 rfl (srcInG 0 rfl) (bx_cells b31 25 _) rfl rfl) ?_
              obtain ⟨x3697, hz_270, hp⟩ := bind_some' hp
              refine HL.w1 9 rfl trivial (by kernel_rfl) (by kernel_rfl) (by kernel_rfl) (ltb rfl) (rv_slTo 22 (.tmp 78) (.tmp 80) (v := v27) (m := x21.params) Try.underlying22 inf_3 rfl rfl rfl h28 hz_270) fun v3698 h3699 => ?_
              refine HL.all [4, 12] (by kernel_rfl) (by simp) (HL.al ⟨_, rfl, fun K_271 hK_272 => ?_⟩ (HL.al ⟨_, rfl, fun K_287 hK_288 => ?_⟩ HL.al0))
              · refine TL.bs0 Try.underlying22 inf_3 (ltb rfl) fun b1697 => ?_
                refine TL.nil (hK_272 _ _ (srcG 1 rfl (srcG 2 rfl (srcG 3 rfl (srcG 4 rfl (srcG 5 rfl srcG0))))) ?_)
                refine HL.all [10, 12] (by kernel_rfl) (by simp) (HL.al ⟨_, rfl, fun K_273 hK_274 => ?_⟩ (HL.al ⟨_, rfl, fun K_280 hK_281 => ?_⟩ HL.al0))
                · obtain ⟨x4097, hz_275, hp⟩ := bind_some' hp
                  refine TL.appI (u := v3698) (fInt .i64) Try.underlying22 inf_3 (ltb rfl) rfl (ltb rfl) rfl (leb rfl) rfl rfl (SlO.lit0 (k := (kInt .i64)) b1697) h3699 Src.H hz_275 fun v4098 F4099 h4100 => ?_
                  refine TL.nil (hK_274 _ _ (srcG 1 rfl (srcG 2 rfl (srcG 3 rfl (srcG 4 rfl (srcG 5 rfl srcG0))))) ?_)
                  refine HL.v 11 rfl trivial (by kernel_rfl) (by kernel_rfl) (by kernel_rfl) (ltb rfl) (rv_bv (vs := [(0, .int .i64 x21.params), (1, .int .i64 x21.result), (2, v4098)]) (ds := [.int .i64 x21.params, .int .i64 x21.result, v4098, .slice none 0 0]) (pc rfl (pc rfl (pc rfl p0))) (fun w => by obtain ⟨_, _, rfl⟩ := (h4100).len; kernel_rfl)) ?_
                  refine HL.one 12 rfl (by kernel_rfl) fun K_276 hK_277 => ?_
                  refine TL.alloc (cs := [.int .i64 0, .int .i64 0, .slice none 0 0, .slice none 0 0]) inf_25 (ltb rfl) rfl fun b4897 => ?_
                  refine TL.nil (hK_277 _ _ (srcG 2 rfl (srcG 3 rfl (srcG 4 rfl (srcG 5 rfl (srcG 6 rfl srcG0))))) ?_)
                  refine HL.one 13 rfl (by kernel_rfl) fun K_278 hK_279 => ?_
                  refine TL.stB (ds := [.int .i64 x21.params, .int .i64 x21.result, v4098, .slice none 0 0]) (o := 0) (cs := [.int .i64 0, .int .i64 0, .slice none 0 0, .slice none 0 0]) (b := b4897) (u := .agg #[.int .i64 x21.params, .int .i64 x21.result, v4098, .slice none 0 0]) 0 rfl ms_25 rfl rfl rfl (oc rfl (oc rfl (oc (h4100).one (oc rfl oc0)))) (leb rfl) ?_
                  refine TL.norm (L' := [bx b4897 25 [.int .i64 x21.params, .int .i64 x21.result, v4098, .slice none 0 0], F4099, bx b31 25 [.int .i64 x21.params, .int .i64 x21.result, v27, v29], bx b20 104 (([.bool x13.1.done, .int .i64 x13.1.trap, .int .i64 x13.1.value, v14, .int .i64 x13.1.steps] : List Value) ++ (arrC x13.1.memory ++ ([] : List Value))), F15, F18, bx b9 90 [v2]]) rfl ?_
                  refine TL.nil (hK_279 _ _ (srcG 2 rfl (srcG 3 rfl (srcG 4 rfl (srcG 5 rfl (srcG 6 rfl srcG0))))) ?_)
                  refine HL.done (by kernel_rfl) ?_
                  refine fun w hw => hJ_101 x4097 b4897 v4098 F4099 _ h4100 ?_ ?_ ?_ ?_ ?_ ?_ ?_ ?_ hp w (hw.pick [6, 3, 3, 2, 0, 0])
                  · exact h_70
                  · exact h_71
                  · exact h_72
                  · exact h_73
                  · exact h_74
                  · exact h_75
                  · exact rfl
                  · exact rfl
                · refine TL.alloc (cs := [.int .i64 0, .int .i64 0, .slice none 0 0, .slice none 0 0]) inf_25 (ltb rfl) rfl fun b4897 => ?_
                  refine TL.nil (hK_281 _ _ (srcG 2 rfl (srcG 3 rfl (srcG 4 rfl (srcG 5 rfl (srcG 6 rfl srcG0))))) ?_)
                  refine HL.one 10 rfl (by kernel_rfl) fun K_282 hK_283 => ?_
                  refine TL.pk' [1, 0, 0, 0, 0, 0, 0] (L' := [(bx b1697 3 []), bx b4897 25 [.int .i64 0, .int .i64 0, .slice none 0 0, .slice none 0 0], bx b31 25 [.int .i64 x21.params, .int .i64 x21.result, v27, v29], bx b20 104 (([.bool x13.1.done, .int .i64 x13.1.trap, .int .i64 x13.1.value, v14, .int .i64 x13.1.steps] : List Value) ++ (arrC x13.1.memory ++ ([] : List Value))), F15, F18, bx b9 90 [v2]]) rfl ?_
                  obtain ⟨x4097, hz_284, hp⟩ := bind_some' hp
                  refine TL.appI (u := v3698) (fInt .i64) Try.underlying22 inf_3 (ltb rfl) rfl (ltb rfl) rfl (leb rfl) rfl rfl (SlO.lit0 (k := (kInt .i64)) b1697) h3699 Src.H hz_284 fun v4098 F4099 h4100 => ?_
                  refine TL.nil (hK_283 _ _ (srcG 2 rfl (srcG 3 rfl (srcG 4 rfl (srcG 5 rfl (srcG 6 rfl srcG0))))) ?_)
                  refine HL.v 11 rfl trivial (by kernel_rfl) (by kernel_rfl) (by kernel_rfl) (ltb rfl) (rv_bv (vs := [(0, .int .i64 x21.params), (1, .int .i64 x21.result), (2, v4098)]) (ds := [.int .i64 x21.params, .int .i64 x21.result, v4098, .slice none 0 0]) (pc rfl (pc rfl (pc rfl p0))) (fun w => by obtain ⟨_, _, rfl⟩ := (h4100).len; kernel_rfl)) ?_
                  refine HL.one 13 rfl (by kernel_rfl) fun K_285 hK_286 => ?_
                  refine TL.stB (ds := [.int .i64 x21.params, .int .i64 x21.result, v4098, .slice none 0 0]) (o := 0) (cs := [.int .i64 0, .int .i64 0, .slice none 0 0, .slice none 0 0]) (b := b4897) (u := .agg #[.int .i64 x21.params, .int .i64 x21.result, v4098, .slice none 0 0]) 1 rfl ms_25 rfl rfl rfl (oc rfl (oc rfl (oc (h4100).one (oc rfl oc0)))) (leb rfl) ?_
                  refine TL.norm (L' := [F4099, bx b4897 25 [.int .i64 x21.params, .int .i64 x21.result, v4098, .slice none 0 0], bx b31 25 [.int .i64 x21.params, .int .i64 x21.result, v27, v29], bx b20 104 (([.bool x13.1.done, .int .i64 x13.1.trap, .int .i64 x13.1.value, v14, .int .i64 x13.1.steps] : List Value) ++ (arrC x13.1.memory ++ ([] : List Value))), F15, F18, bx b9 90 [v2]]) rfl ?_
                  refine TL.nil (hK_286 _ _ (srcG 2 rfl (srcG 3 rfl (srcG 4 rfl (srcG 5 rfl (srcG 6 rfl srcG0))))) ?_)
                  refine HL.done (by kernel_rfl) ?_
                  refine fun w hw => hJ_101 x4097 b4897 v4098 F4099 _ h4100 ?_ ?_ ?_ ?_ ?_ ?_ ?_ ?_ hp w (hw.pick [6, 3, 3, 2, 1, 0])
                  · exact h_70
                  · exact h_71
                  · exact h_72
                  · exact h_73
                  · exact h_74
                  · exact h_75
                  · exact rfl
                  · exact rfl
              · refine TL.alloc (cs := [.int .i64 0, .int .i64 0, .slice none 0 0, .slice none 0 0]) inf_25 (ltb rfl) rfl fun b4897 => ?_
                refine TL.nil (hK_288 _ _ (srcG 1 rfl (srcG 2 rfl (srcG 3 rfl (srcG 4 rfl (srcG 5 rfl srcG0))))) ?_)
                refine HL.one 4 rfl (by kernel_rfl) fun K_289 hK_290 => ?_
                refine TL.bs0 Try.underlying22 inf_3 (ltb rfl) fun b1697 => ?_
                refine TL.nil (hK_290 _ _ (srcG 2 rfl (srcG 3 rfl (srcG 4 rfl (srcG 5 rfl (srcG 6 rfl srcG0))))) ?_)
                refine HL.one 10 rfl (by kernel_rfl) fun K_291 hK_292 => ?_
                obtain ⟨x4097, hz_293, hp⟩ := bind_some' hp
                refine TL.appI (u := v3698) (fInt .i64) Try.underlying22 inf_3 (ltb rfl) rfl (ltb rfl) rfl (leb rfl) rfl rfl (SlO.lit0 (k := (kInt .i64)) b1697) h3699 Src.H hz_293 fun v4098 F4099 h4100 => ?_
                refine TL.nil (hK_292 _ _ (srcG 2 rfl (srcG 3 rfl (srcG 4 rfl (srcG 5 rfl (srcG 6 rfl srcG0))))) ?_)
                refine HL.v 11 rfl trivial (by kernel_rfl) (by kernel_rfl) (by kernel_rfl) (ltb rfl) (rv_bv (vs := [(0, .int .i64 x21.params), (1, .int .i64 x21.result), (2, v4098)]) (ds := [.int .i64 x21.params, .int .i64 x21.result, v4098, .slice none 0 0]) (pc rfl (pc rfl (pc rfl p0))) (fun w => by obtain ⟨_, _, rfl⟩ := (h4100).len; kernel_rfl)) ?_
                refine HL.one 13 rfl (by kernel_rfl) fun K_294 hK_295 => ?_
                refine TL.stB (ds := [.int .i64 x21.params, .int .i64 x21.result, v4098, .slice none 0 0]) (o := 0) (cs := [.int .i64 0, .int .i64 0, .slice none 0 0, .slice none 0 0]) (b := b4897) (u := .agg #[.int .i64 x21.params, .int .i64 x21.result, v4098, .slice none 0 0]) 1 rfl ms_25 rfl rfl rfl (oc rfl (oc rfl (oc (h4100).one (oc rfl oc0)))) (leb rfl) ?_
                refine TL.norm (L' := [F4099, bx b4897 25 [.int .i64 x21.params, .int .i64 x21.result, v4098, .slice none 0 0], bx b31 25 [.int .i64 x21.params, .int .i64 x21.result, v27, v29], bx b20 104 (([.bool x13.1.done, .int .i64 x13.1.trap, .int .i64 x13.1.value, v14, .int .i64 x13.1.steps] : List Value) ++ (arrC x13.1.memory ++ ([] : List Value))), F15, F18, bx b9 90 [v2]]) rfl ?_
                refine TL.nil (hK_295 _ _ (srcG 2 rfl (srcG 3 rfl (srcG 4 rfl (srcG 5 rfl (srcG 6 rfl srcG0))))) ?_)
                refine HL.done (by kernel_rfl) ?_
                refine fun w hw => hJ_101 x4097 b4897 v4098 F4099 _ h4100 ?_ ?_ ?_ ?_ ?_ ?_ ?_ ?_ hp w (hw.pick [6, 3, 3, 2, 1, 0])
                · exact h_70
                · exact h_71
                · exact h_72
                · exact h_73
                · exact h_74
                · exact h_75
                · exact rfl
                · exact rfl
          by_cases hc_68 : (¬ x13.2 = GErr.no) ∨ a4 < 0
          · refine TL.gno true rfl (fun d hd => by cases hd; exact ltb rfl) (yieldE_of rfl (bT hc_68)) rfl ?_
            refine TL.gno true rfl (fun d hd => by cases hd; exact ltb rfl) (yieldE_of rfl (bT hc_68)) rfl ?_
            refine TL.gno true rfl (fun d hd => by cases hd; exact ltb rfl) (yieldE_of rfl (bT hc_68)) rfl ?_
            refine TL.gno true rfl (fun d hd => by cases hd; exact ltb rfl) (yieldE_of rfl (bT hc_68)) rfl ?_
            refine TL.gno true rfl (fun d hd => by cases hd; exact ltb rfl) (yieldE_of rfl (bT hc_68)) rfl ?_
            refine TL.v (ltb rfl) (rv_pickT true (bT hc_68) rfl (v := .bool true) rfl) ?_
            refine TL.nil (hJ_67 _ ?_ ?_ ?_ ?_ ?_ ?_ ?_ ?_)
            · exact h_57
            · exact h_58
            · exact h_59
            · exact h_60
            · exact h_61
            · exact h_62
            · exact h_63
            · exact (bOt hc_68)
          · refine TL.gyes false (yieldE_of rfl (bF hc_68)) rfl ?_
            refine TL.v (ltb rfl) (rv_mv (v := .int .i64 a4) h_57) ?_
            refine TL.gyes false (yieldE_of rfl (bF hc_68)) rfl ?_
            refine TL.v (ltb rfl) (rv_fa (b := b9) (o := 0) fa_90_0 h_60) ?_
            refine TL.gyes false (yieldE_of rfl (bF hc_68)) rfl ?_
            refine TL.v (ltb rfl) (rv_ld (v := v2) (o := 0) (o' := 0) (j := 0) sc_88 rfl (Src.at_ 3 rfl) (bx_cells b9 90 _) rfl rfl) ?_
            refine TL.gyes false (yieldE_of rfl (bF hc_68)) rfl ?_
            refine TL.v (ltb rfl) (rv_lenI (v := v2) Try.underlying88 rfl h3) ?_
            refine TL.gyes false (yieldE_of rfl (bF hc_68)) rfl ?_
            refine TL.v (ltb rfl) (rv_geq (k := .i64) (m := a4) (n := (len a1.funcs)) rfl rfl) ?_
            refine TL.v (ltb rfl) (rv_pickF false (bF hc_68) rfl (v := .bool (decide (a4 ≥ (len a1.funcs)))) rfl) ?_
            refine TL.nil (hJ_67 _ ?_ ?_ ?_ ?_ ?_ ?_ ?_ ?_)
            · exact h_57
            · exact h_58
            · exact h_59
            · exact h_60
            · exact h_61
            · exact h_62
            · exact h_63
            · exact (bOf hc_68)
        by_cases hc_55 : ¬ x13.2 = GErr.no
        · refine TL.gno true rfl (fun d hd => by cases hd; exact ltb rfl) (yieldE_of rfl (bT hc_55)) rfl ?_
          refine TL.gno true rfl (fun d hd => by cases hd; exact ltb rfl) (yieldE_of rfl (bT hc_55)) rfl ?_
          refine TL.v (ltb rfl) (rv_pickT true (bT hc_55) rfl (v := .bool true) rfl) ?_
          refine TL.nil (hJ_54 _ ?_ ?_ ?_ ?_ ?_ ?_ ?_ ?_)
          · exact h_31
          · exact h_32
          · exact rfl
          · exact h_34
          · exact h_35
          · exact rfl
          · exact rfl
          · exact (bOt hc_55)
        · refine TL.gyes false (yieldE_of rfl (bF hc_55)) rfl ?_
          refine TL.v (ltb rfl) (rv_mv (v := .int .i64 a4) h_31) ?_
          refine TL.gyes false (yieldE_of rfl (bF hc_55)) rfl ?_
          refine TL.v (ltb rfl) (rv_lss (k := .i64) (m := a4) (n := 0) rfl rfl) ?_
          refine TL.v (ltb rfl) (rv_pickF false (bF hc_55) rfl (v := .bool (decide (a4 < 0))) rfl) ?_
          refine TL.nil (hJ_54 _ ?_ ?_ ?_ ?_ ?_ ?_ ?_ ?_)
          · exact h_31
          · exact h_32
          · exact rfl
          · exact h_34
          · exact h_35
          · exact rfl
          · exact rfl
          · exact (bOf hc_55)
    by_cases hc_29 : (!x11) = true ∨ (len a5) > 300
    · refine TL.gno true rfl (fun d hd => by cases hd; exact ltb rfl) (yieldE_of rfl (bT hc_29)) rfl ?_
      refine TL.gno true rfl (fun d hd => by cases hd; exact ltb rfl) (yieldE_of rfl (bT hc_29)) rfl ?_
      refine TL.gno true rfl (fun d hd => by cases hd; exact ltb rfl) (yieldE_of rfl (bT hc_29)) rfl ?_
      refine TL.gno true rfl (fun d hd => by cases hd; exact ltb rfl) (yieldE_of rfl (bT hc_29)) rfl ?_
      refine TL.v (ltb rfl) (rv_pickT true (bT hc_29) rfl (v := .bool true) rfl) ?_
      refine TL.nil (hJ_28 _ ?_ ?_ ?_ ?_ ?_ ?_)
      · exact h_20
      · exact h_21
      · exact h_22
      · exact h_23
      · exact h_24
      · exact (bOt hc_29)
    · refine TL.gyes false (yieldE_of rfl (bF hc_29)) rfl ?_
      refine TL.v (ltb rfl) (rv_fa (b := b9) (o := 0) fa_90_0 h_23) ?_
      refine TL.gyes false (yieldE_of rfl (bF hc_29)) rfl ?_
      refine TL.v (ltb rfl) (rv_ld (v := v2) (o := 0) (o' := 0) (j := 0) sc_88 rfl (Src.at_ 0 rfl) (bx_cells b9 90 _) rfl rfl) ?_
      refine TL.gyes false (yieldE_of rfl (bF hc_29)) rfl ?_
      refine TL.v (ltb rfl) (rv_lenI (v := v2) Try.underlying88 rfl h3) ?_
      refine TL.gyes false (yieldE_of rfl (bF hc_29)) rfl ?_
      refine TL.v (ltb rfl) (rv_gtr (k := .i64) (m := (len a1.funcs)) (n := 31) rfl rfl) ?_
      refine TL.v (ltb rfl) (rv_pickF false (bF hc_29) rfl (v := .bool (decide ((len a1.funcs) > 31))) rfl) ?_
      refine TL.nil (hJ_28 _ ?_ ?_ ?_ ?_ ?_ ?_)
      · exact h_20
      · exact h_21
      · exact h_22
      · exact h_23
      · exact h_24
      · exact (bOf hc_29)
  by_cases hc_18 : (!x11) = true
  · refine TL.gno true rfl (fun d hd => by cases hd; exact ltb rfl) (yieldE_of rfl (bbT hc_18)) rfl ?_
    refine TL.gno true rfl (fun d hd => by cases hd; exact ltb rfl) (yieldE_of rfl (bbT hc_18)) rfl ?_
    refine TL.gno true rfl (fun d hd => by cases hd; exact ltb rfl) (yieldE_of rfl (bbT hc_18)) rfl ?_
    refine TL.v (ltb rfl) (rv_pickT true (bbT hc_18) rfl (v := .bool true) rfl) ?_
    refine TL.nil (hJ_17 _ ?_ ?_ ?_ ?_ ?_ ?_)
    · exact rfl
    · exact rfl
    · exact rfl
    · exact rfl
    · exact rfl
    · exact (bOt hc_18)
  · refine TL.gyes false (yieldE_of rfl (bbF hc_18)) rfl ?_
    refine TL.v (ltb rfl) (rv_mv (v := v6) rfl) ?_
    refine TL.gyes false (yieldE_of rfl (bbF hc_18)) rfl ?_
    refine TL.v (ltb rfl) (rv_lenI (v := v6) Try.underlying100 rfl h7) ?_
    refine TL.gyes false (yieldE_of rfl (bbF hc_18)) rfl ?_
    refine TL.v (ltb rfl) (rv_gtr (k := .i64) (m := (len a5)) (n := 300) rfl rfl) ?_
    refine TL.v (ltb rfl) (rv_pickF false (bbF hc_18) rfl (v := .bool (decide ((len a5) > 300))) rfl) ?_
    refine TL.nil (hJ_17 _ ?_ ?_ ?_ ?_ ?_ ?_)
    · exact rfl
    · exact rfl
    · exact rfl
    · exact rfl
    · exact rfl
    · exact (bOf hc_18)
end Go.Proofs.Ytoflleabpkgdpaa
