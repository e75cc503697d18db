/- The walk through the program's functions: each one's pure reading, and that a call does what it says. No conditions. -/
import Derived.Test.YtoflleabpkgdpaaR2
set_option linter.unusedVariables false
set_option linter.unusedSimpArgs false
namespace Go.Proofs.Ytoflleabpkgdpaa
open Go Go.Proofs

/-! ### fettle/fettlelaw04.RunStays -/
abbrev fettlelaw04_RunStays.R (r : Bool) (v : Value) (A : List FP) : Prop := .bool r = v ∧ A = []
def fettlelaw04_RunStays.nx95 (a1 : PModule) (a4 : Int) (a5 : List Int) (x10 : Bool) (x12 : Int) (x13 : PModule) (x23 : POutcome × GErr) (x33 : List Int) (x41 : List Int) : Option Bool :=
  (run_Run a1 a4 a5 x12).bind fun x44 =>
  (if x10 = true then (fettleref02_Same x13 a1).bind fun x55 =>
  some x55 else some false).bind fun t52 =>
  (if t52 = true ∧ (((decide (x23.2 = GErr.no)) == (decide (x44.2 = GErr.no))) = true) then (fettleref04_Alike x33 x44.1.out).bind fun x54 =>
  some x54 else some false).bind fun t53 =>
  some (decide ((t53 = true ∧ x23.1.steps = x44.1.steps) ∧ x23.1.memory = x44.1.memory))
def fettlelaw04_RunStays.bd95  (x37 : List Int) (x40 : Int) : Option (Ex (List Int) (List Int × Int)) :=
  if x40 < (len x37) then
    (idx x37 x40).bind fun x2457 =>
    (idx x37 x40).bind fun x3657 =>
    some (.go ((x37.set (x40).toNat (w64 (x2457 + 1))), (w64 (x40 + 1))))
  else
    some (.ret x37)
def fettlelaw04_RunStays.nx63 (a1 : PModule) (a4 : Int) (a5 : List Int) (x10 : Bool) (x12 : Int) (x13 : PModule) (x23 : POutcome × GErr) : Option Bool :=
  (cat ([] : List Int) x23.1.out).bind fun x33 =>
  (whl (fun (s : (List Int × Int)) => fettlelaw04_RunStays.bd95 s.1 s.2) FUEL (x23.1.out, 0)).bind fun z =>
  fettlelaw04_RunStays.nx95 a1 a4 a5 x10 x12 x13 x23 x33 z
def fettlelaw04_RunStays.bd63 (a5 : List Int) (x19 : List Int) (x31 : Int) : Option (Ex (Ex Bool Unit) Int) :=
  if x31 < (len x19) then
    (idx x19 x31).bind fun x4457 =>
    (idx a5 x31).bind fun x4463 =>
    if ¬ x4457 = x4463 then
      some (.ret (.ret false))
    else
      some (.go (w64 (x31 + 1)))
  else
    some (.ret (.go ()))
def fettlelaw04_RunStays (a1 : PModule) (a4 : Int) (a5 : List Int) (a8 : Int) : Option Bool :=
  (fettlelaw04_up).bind fun x10 =>
  (fettleref02_Small a1).bind fun x11 =>
  if (!x11) = true ∨ (len a5) > 300 then
    some x10
  else
    (fettlelaw04_few a8).bind fun x12 =>
    (fettleref02_Copy a1).bind fun x13 =>
    (cat ([] : List Int) a5).bind fun x19 =>
    (run_Run x13 a4 x19 x12).bind fun x23 =>
    (whl (fun (s : Int) => fettlelaw04_RunStays.bd63 a5 x19 s) FUEL 0).bind fun z =>
    match z with
      | .ret r => some r
      | .go p => fettlelaw04_RunStays.nx63 a1 a4 a5 x10 x12 x13 x23
set_option maxHeartbeats 4000000 in
theorem fettlelaw04_RunStays_ok {E : World} {H : FP} {w : World} {a1 : PModule} {a4 : Int} {a5 : List Int} {a8 : Int} {v2 : Value} {v6 : Value} {r : Bool} (h3 : SlI kFunc H a1.funcs v2) (h7 : SlI (kInt .i64) H a5 v6) (hp : fettlelaw04_RunStays a1 a4 a5 a8 = some r) (hst : St E H [] w) :
    Fn Try.prog 13 #[.agg #[v2], .int .i64 a4, v6, .int .i64 a8] w fun v w' => ∃ A, fettlelaw04_RunStays.R r v A ∧ St E H A w' := by
  refine Fn.body (fn := Try.f13) (args := [.agg #[v2], .int .i64 a4, v6, .int .i64 a8]) E H [] [.tmp 8] 123 Try.func13 rfl rfl rfl rfl (leb rfl) hst ?_
  unfold fettlelaw04_RunStays at hp
  refine TC.seq fun K_1 hK_2 => ?_
  refine TC.region ?_
  refine TL.box (cs := [v2]) (v := .agg #[v2]) (ltb rfl) rfl rfl fun b9 => ?_
  refine TL.v (ltb rfl) (rv_as (v := .bool false) rfl) ?_
  refine TL.nil ?_
  refine TC.go hK_2 ?_
  refine TC.seq fun K_3 hK_4 => ?_
  refine TC.region ?_
  obtain ⟨x10, hy_5, hp⟩ := bind_some' hp
  refine TL.callC (vs := []) (R := fettlelaw04_up.R x10) [] [bx b9 90 [v2]] rfl cb_53 (ltb rfl) m0 (fun w hw => fettlelaw04_up_ok hy_5 hw) fun v A' hR_6 => ?_
  obtain ⟨rfl, rfl⟩ := hR_6
  refine TL.norm (L' := [bx b9 90 [v2]]) rfl ?_
  refine TL.v (ltb rfl) (rv_as (v := .bool x10) rfl) ?_
  refine TL.nil ?_
  refine TC.go hK_4 ?_
  refine TC.seq fun K_7 hK_8 => ?_
  refine TC.region ?_
  refine TL.v (ltb rfl) (rv_lda (o := 0) (o' := 0) (j := 0) (ds := [v2]) ag_90 rfl (Src.at_ 0 rfl) (bx_cells b9 90 _) rfl rfl rfl) ?_
  obtain ⟨x11, hy_9, hp⟩ := bind_some' hp
  refine TL.callC (vs := [.agg #[v2]]) (R := fettleref02_Small.R x11) [] [bx b9 90 [v2]] rfl cb_48 (ltb rfl) (mc rfl m0) (fun w hw => fettleref02_Small_ok (a1 := a1) (h3.mono subH) hy_9 hw) fun v A' hR_10 => ?_
  obtain ⟨rfl, rfl⟩ := hR_10
  refine TL.norm (L' := [bx b9 90 [v2]]) rfl ?_
  refine TL.v (ltb rfl) (rv_as (v := .bool x11) rfl) ?_
  refine TL.nil ?_
  refine TC.go hK_8 ?_
  refine TC.seq fun K_11 hK_12 => ?_
  refine TC.seq fun K_13 hK_14 => ?_
  refine TC.region ?_
  refine TL.v (ltb rfl) (rv_mv (v := .bool x11) rfl) ?_
  refine TL.v (ltb rfl) (rv_not (b := x11) rfl) ?_
  refine TL.v (ltb rfl) (rv_mv (v := .bool (!x11)) rfl) ?_
  refine TL.cut 4 fun K_15 hK_16 => ?_
  have hJ_17 : ∀ e_19 : Env, e_19 1 = .int .i64 a4 → e_19 2 = v6 → e_19 3 = .int .i64 a8 → e_19 4 = .pointer (some ⟨b9, 0, none⟩) → e_19 9 = .bool x10 → e_19 29 = .bool (decide ((!x11) = true ∨ (len a5) > 300)) → ∀ w, St E H [bx b9 90 [v2]] w → K_15 e_19 w := by
    intro e_19 h_20 h_21 h_22 h_23 h_24 h_25
    refine TL.go hK_16 ?_
    refine TL.nil ?_
    refine TC.go hK_14 ?_
    by_cases hc_26 : (!x11) = true ∨ (len a5) > 300
    · rw [if_pos hc_26] at hp
      refine TC.condT (h_25.trans (bT hc_26)) ?_
      refine TC.seq fun K_27 hK_28 => ?_
      refine TC.region ?_
      refine TL.v (ltb rfl) (rv_mv (v := .bool x10) h_24) ?_
      refine TL.v (ltb rfl) (rv_as (v := .bool x10) rfl) ?_
      refine TL.nil ?_
      refine TC.go hK_28 ?_
      refine TC.ret ?_
      obtain rfl := Option.some.inj hp
      exact fun w hw => retOk ⟨rfl, rfl⟩ (hw.pick [])
    · rw [if_neg hc_26] at hp
      refine TC.condF (h_25.trans (bF hc_26)) ?_
      refine TC.skip ?_
      refine TC.go hK_12 ?_
      refine TC.seq fun K_29 hK_30 => ?_
      refine TC.region ?_
      refine TL.v (ltb rfl) (rv_mv (v := .int .i64 a8) h_22) ?_
      obtain ⟨x12, hy_31, hp⟩ := bind_some' hp
      refine TL.callC (vs := [.int .i64 a8]) (R := fettlelaw04_few.R x12) [] [bx b9 90 [v2]] rfl cb_54 (ltb rfl) (mc rfl m0) (fun w hw => fettlelaw04_few_ok (a1 := a8) hy_31 hw) fun v A' hR_32 => ?_
      obtain ⟨rfl, rfl⟩ := hR_32
      refine TL.norm (L' := [bx b9 90 [v2]]) rfl ?_
      refine TL.v (ltb rfl) (rv_as (v := .int .i64 x12) rfl) ?_
      refine TL.nil ?_
      refine TC.go hK_30 ?_
      refine TC.seq fun K_33 hK_34 => ?_
      refine TC.region ?_
      refine TL.v (ltb rfl) (rv_lda (o := 0) (o' := 0) (j := 0) (ds := [v2]) ag_90 h_23 (Src.at_ 0 rfl) (bx_cells b9 90 _) rfl rfl rfl) ?_
      obtain ⟨x13, hy_35, hp⟩ := bind_some' hp
      refine TL.callC (vs := [.agg #[v2]]) (R := fettleref02_Copy.R x13) [] [bx b9 90 [v2]] rfl cb_49 (ltb rfl) (mc rfl m0) (fun w hw => fettleref02_Copy_ok (a1 := a1) (h3.mono subH) hy_35 hw) fun v A' hR_36 => ?_
      obtain ⟨v14, F15, rfl, rfl, h16⟩ := hR_36
      refine TL.norm (L' := [F15, bx b9 90 [v2]]) rfl ?_
      refine TL.alloc (cs := [.slice none 0 0]) inf_90 (ltb rfl) rfl fun b17 => ?_
      refine TL.stB (ds := [v14]) (o := 0) (cs := [.slice none 0 0]) (b := b17) (u := .agg #[v14]) 0 rfl ms_90 rfl rfl rfl (oc (h16).one oc0) (leb rfl) ?_
      refine TL.norm (L' := [bx b17 90 [v14], F15, bx b9 90 [v2]]) rfl ?_
      refine TL.nil ?_
      refine TC.go hK_34 ?_
      refine TC.seq fun K_37 hK_38 => ?_
      refine TC.region ?_
      refine TL.bs0 Try.underlying100 inf_2 (ltb rfl) fun b18 => ?_
      refine TL.v (ltb rfl) (rv_mv (v := v6) h_21) ?_
      obtain ⟨x19, hz_39, hp⟩ := bind_some' hp
      refine TL.appI (u := v6) (fInt .i64) Try.underlying100 inf_2 (ltb rfl) rfl (ltb rfl) rfl (leb rfl) rfl rfl (SlO.lit0 (k := (kInt .i64)) b18) h7 Src.H hz_39 fun v20 F21 h22 => ?_
      refine TL.v (ltb rfl) (rv_as (v := v20) rfl) ?_
      refine TL.nil ?_
      refine TC.go hK_38 ?_
      refine TC.seq fun K_40 hK_41 => ?_
      refine TC.region ?_
      refine TL.v (ltb rfl) (rv_lda (o := 0) (o' := 0) (j := 0) (ds := [v14]) ag_90 rfl (Src.at_ 1 rfl) (bx_cells b17 90 _) rfl rfl rfl) ?_
      refine TL.v (ltb rfl) (rv_mv (v := .int .i64 a4) h_20) ?_
      refine TL.v (ltb rfl) (rv_mv (v := v20) rfl) ?_
      refine TL.v (ltb rfl) (rv_mv (v := .int .i64 x12) rfl) ?_
      obtain ⟨x23, hy_42, hp⟩ := bind_some' hp
      refine TL.callC (vs := [.agg #[v14], .int .i64 a4, v20, .int .i64 x12]) (R := run_Run.R x23) [] [F21, bx b17 90 [v14], F15, bx b9 90 [v2]] rfl cb_55 (ltb rfl) (mc rfl (mc rfl (mc rfl (mc rfl m0)))) (fun w hw => run_Run_ok (a1 := x13) (a4 := a4) (a5 := x19) (a8 := x12) (h16.ro.mono (subB 2 rfl)) (h22.ro.mono (subB 0 rfl)) hy_42 hw) fun v A' hR_43 => ?_
      obtain ⟨v24, F25, v27, F28, rfl, rfl, h26, h29⟩ := hR_43
      refine TL.norm (L' := [F25, F28, F21, bx b17 90 [v14], F15, bx b9 90 [v2]]) rfl ?_
      refine TL.v (ltb rfl) (rv_mv (v := .tuple #[.agg ((([.bool x23.1.done, .int .i64 x23.1.trap, .int .i64 x23.1.value, v24, .int .i64 x23.1.steps] : List Value) ++ (arrC x23.1.memory ++ ([] : List Value)))).toArray, v27]) rfl) ?_
      refine TL.v (ltb rfl) (rv_extract (vs := #[.agg ((([.bool x23.1.done, .int .i64 x23.1.trap, .int .i64 x23.1.value, v24, .int .i64 x23.1.steps] : List Value) ++ (arrC x23.1.memory ++ ([] : List Value)))).toArray, v27]) (v := .agg ((([.bool x23.1.done, .int .i64 x23.1.trap, .int .i64 x23.1.value, v24, .int .i64 x23.1.steps] : List Value) ++ (arrC x23.1.memory ++ ([] : List Value)))).toArray) rfl rfl) ?_
      refine TL.v (ltb rfl) (rv_extract (vs := #[.agg ((([.bool x23.1.done, .int .i64 x23.1.trap, .int .i64 x23.1.value, v24, .int .i64 x23.1.steps] : List Value) ++ (arrC x23.1.memory ++ ([] : List Value)))).toArray, v27]) (v := v27) rfl rfl) ?_
      refine TL.alloc (cs := (([.bool false, .int .i64 0, .int .i64 0, .slice none 0 0, .int .i64 0] : List Value) ++ (arrC A64.zero ++ ([] : List Value)))) inf_104 (ltb rfl) rfl fun b30 => ?_
      refine TL.stB (ds := (([.bool x23.1.done, .int .i64 x23.1.trap, .int .i64 x23.1.value, v24, .int .i64 x23.1.steps] : List Value) ++ (arrC x23.1.memory ++ ([] : List Value)))) (o := 0) (cs := (([.bool false, .int .i64 0, .int .i64 0, .slice none 0 0, .int .i64 0] : List Value) ++ (arrC A64.zero ++ ([] : List Value)))) (b := b30) (u := .agg ((([.bool x23.1.done, .int .i64 x23.1.trap, .int .i64 x23.1.value, v24, .int .i64 x23.1.steps] : List Value) ++ (arrC x23.1.memory ++ ([] : List Value)))).toArray) 0 rfl ms_104 rfl rfl rfl (one_app (oc rfl (oc rfl (oc rfl (oc (h26).one (oc rfl oc0))))) (one_app (arr_one _) oc0)) (leb rfl) ?_
      refine TL.respell (b := b30) (T := 104) (cs := over (([.bool false, .int .i64 0, .int .i64 0, .slice none 0 0, .int .i64 0] : List Value) ++ (arrC A64.zero ++ ([] : List Value))) 0 (([.bool x23.1.done, .int .i64 x23.1.trap, .int .i64 x23.1.value, v24, .int .i64 x23.1.steps] : List Value) ++ (arrC x23.1.memory ++ ([] : List Value)))) (ds := (([.bool x23.1.done, .int .i64 x23.1.trap, .int .i64 x23.1.value, v24, .int .i64 x23.1.steps] : List Value) ++ (arrC x23.1.memory ++ ([] : List Value)))) 0 rfl (over_all rfl) ?_
      refine TL.norm (L' := [bx b30 104 (([.bool x23.1.done, .int .i64 x23.1.trap, .int .i64 x23.1.value, v24, .int .i64 x23.1.steps] : List Value) ++ (arrC x23.1.memory ++ ([] : List Value))), F25, F28, F21, bx b17 90 [v14], F15, bx b9 90 [v2]]) rfl ?_
      refine TL.v (ltb rfl) (rv_as (v := v27) rfl) ?_
      refine TL.nil ?_
      refine TC.go hK_41 ?_
      refine TC.seq fun K_44 hK_45 => ?_
      refine TC.seq fun K_46 hK_47 => ?_
      refine TC.region ?_
      refine TL.v (ltb rfl) (rv_as (v := .int .i64 0) rfl) ?_
      refine TL.nil ?_
      refine TC.go hK_47 ?_
      refine TC.block ?_
      obtain ⟨z_59, hz_60, hr_61⟩ := bind_some' hp
      clear hp
      have hJ_174 : ∀ (e_64 : Env) (h_65 : e_64 1 = .int .i64 a4) (h_66 : e_64 2 = v6) (h_67 : e_64 3 = .int .i64 x12) (h_68 : e_64 4 = .pointer (some ⟨b9, 0, none⟩)) (h_69 : e_64 9 = .bool x10) (h_70 : e_64 11 = .pointer (some ⟨b17, 0, none⟩)) (h_71 : e_64 13 = .pointer (some ⟨b30, 0, none⟩)) (h_72 : e_64 14 = v27) (hq_175 : .go () = z_59), ∀ w, St E H [bx b9 90 [v2], bx b17 90 [v14], F15, bx b30 104 (([.bool x23.1.done, .int .i64 x23.1.trap, .int .i64 x23.1.value, v24, .int .i64 x23.1.steps] : List Value) ++ (arrC x23.1.memory ++ ([] : List Value))), F25, F28] w → K_44 e_64 w := by
        intro e_64 h_65 h_66 h_67 h_68 h_69 h_70 h_71 h_72 hq_175
        subst hq_175
        replace hp : fettlelaw04_RunStays.nx63 a1 a4 a5 x10 x12 x13 x23 = some r := hr_61
        unfold fettlelaw04_RunStays.nx63 at hp
        refine TC.go hK_45 ?_
        refine TC.seq fun K_73 hK_74 => ?_
        refine TC.region ?_
        refine TL.bs0 Try.underlying100 inf_2 (ltb rfl) fun b32 => ?_
        refine TL.v (ltb rfl) (rv_fa (b := b30) (o := 0) fa_104_3 h_71) ?_
        refine TL.v (ltb rfl) (rv_ld (v := v24) (o := 3) (o' := 0) (j := 3) sc_100 rfl (Src.at_ 4 rfl) (bx_cells b30 104 _) rfl rfl) ?_
        obtain ⟨x33, hz_75, hp⟩ := bind_some' hp
        refine TL.appI (u := v24) (fInt .i64) Try.underlying100 inf_2 (ltb rfl) rfl (ltb rfl) rfl (leb rfl) rfl rfl (SlO.lit0 (k := (kInt .i64)) b32) h26.ro (Src.at_ 5 rfl) hz_75 fun v34 F35 h36 => ?_
        refine TL.v (ltb rfl) (rv_as (v := v34) rfl) ?_
        refine TL.nil ?_
        refine TC.go hK_74 ?_
        refine TC.seq fun K_76 hK_77 => ?_
        refine TC.seq fun K_78 hK_79 => ?_
        refine TC.region ?_
        refine TL.v (ltb rfl) (rv_as (v := .int .i64 0) rfl) ?_
        refine TL.nil ?_
        refine TC.go hK_79 ?_
        refine TC.block ?_
        obtain ⟨z_91, hz_92, hr_93⟩ := bind_some' hp
        clear hp
        have hJ_158 : ∀ (x41 : List Int) (F42 : FP) (e_96 : Env) (h43 : SlO 2 (kInt .i64) x41 v24 F42) (h_97 : e_96 1 = .int .i64 a4) (h_98 : e_96 2 = v6) (h_99 : e_96 3 = .int .i64 x12) (h_100 : e_96 4 = .pointer (some ⟨b9, 0, none⟩)) (h_101 : e_96 9 = .bool x10) (h_102 : e_96 11 = .pointer (some ⟨b17, 0, none⟩)) (h_103 : e_96 13 = .pointer (some ⟨b30, 0, none⟩)) (h_104 : e_96 14 = v27) (h_105 : e_96 16 = v34) (hq_159 : x41 = z_91), ∀ w, St E H [bx b9 90 [v2], bx b17 90 [v14], F15, bx b30 104 (([.bool x23.1.done, .int .i64 x23.1.trap, .int .i64 x23.1.value, v24, .int .i64 x23.1.steps] : List Value) ++ (arrC x23.1.memory ++ ([] : List Value))), F42, F28, F35] w → K_76 e_96 w := by
          intro x41 F42 e_96 h43 h_97 h_98 h_99 h_100 h_101 h_102 h_103 h_104 h_105 hq_159
          subst hq_159
          replace hp : fettlelaw04_RunStays.nx95 a1 a4 a5 x10 x12 x13 x23 x33 x41 = some r := hr_93
          unfold fettlelaw04_RunStays.nx95 at hp
          refine TC.go hK_77 ?_
          refine TC.seq fun K_106 hK_107 => ?_
          refine TC.region ?_
          refine TL.v (ltb rfl) (rv_lda (o := 0) (o' := 0) (j := 0) (ds := [v2]) ag_90 h_100 (Src.at_ 0 rfl) (bx_cells b9 90 _) rfl rfl rfl) ?_
          refine TL.v (ltb rfl) (rv_mv (v := .int .i64 a4) h_97) ?_
          refine TL.v (ltb rfl) (rv_mv (v := v6) h_98) ?_
          refine TL.v (ltb rfl) (rv_mv (v := .int .i64 x12) h_99) ?_
          obtain ⟨x44, hy_108, hp⟩ := bind_some' hp
          refine TL.callC (vs := [.agg #[v2], .int .i64 a4, v6, .int .i64 x12]) (R := run_Run.R x44) [] [bx b9 90 [v2], bx b17 90 [v14], F15, bx b30 104 (([.bool x23.1.done, .int .i64 x23.1.trap, .int .i64 x23.1.value, v24, .int .i64 x23.1.steps] : List Value) ++ (arrC x23.1.memory ++ ([] : List Value))), F42, F28, F35] rfl cb_55 (ltb rfl) (mc rfl (mc rfl (mc rfl (mc rfl m0)))) (fun w hw => run_Run_ok (a1 := a1) (a4 := a4) (a5 := a5) (a8 := x12) (h3.mono subH) (h7.mono subH) hy_108 hw) fun v A' hR_109 => ?_
          obtain ⟨v45, F46, v48, F49, rfl, rfl, h47, h50⟩ := hR_109
          refine TL.norm (L' := [F46, F49, bx b9 90 [v2], bx b17 90 [v14], F15, bx b30 104 (([.bool x23.1.done, .int .i64 x23.1.trap, .int .i64 x23.1.value, v24, .int .i64 x23.1.steps] : List Value) ++ (arrC x23.1.memory ++ ([] : List Value))), F42, F28, F35]) rfl ?_
          refine TL.v (ltb rfl) (rv_mv (v := .tuple #[.agg ((([.bool x44.1.done, .int .i64 x44.1.trap, .int .i64 x44.1.value, v45, .int .i64 x44.1.steps] : List Value) ++ (arrC x44.1.memory ++ ([] : List Value)))).toArray, v48]) rfl) ?_
          refine TL.v (ltb rfl) (rv_extract (vs := #[.agg ((([.bool x44.1.done, .int .i64 x44.1.trap, .int .i64 x44.1.value, v45, .int .i64 x44.1.steps] : List Value) ++ (arrC x44.1.memory ++ ([] : List Value)))).toArray, v48]) (v := .agg ((([.bool x44.1.done, .int .i64 x44.1.trap, .int .i64 x44.1.value, v45, .int .i64 x44.1.steps] : List Value) ++ (arrC x44.1.memory ++ ([] : List Value)))).toArray) rfl rfl) ?_
          refine TL.v (ltb rfl) (rv_extract (vs := #[.agg ((([.bool x44.1.done, .int .i64 x44.1.trap, .int .i64 x44.1.value, v45, .int .i64 x44.1.steps] : List Value) ++ (arrC x44.1.memory ++ ([] : List Value)))).toArray, v48]) (v := v48) rfl rfl) ?_
          refine TL.alloc (cs := (([.bool false, .int .i64 0, .int .i64 0, .slice none 0 0, .int .i64 0] : List Value) ++ (arrC A64.zero ++ ([] : List Value)))) inf_104 (ltb rfl) rfl fun b51 => ?_
          refine TL.stB (ds := (([.bool x44.1.done, .int .i64 x44.1.trap, .int .i64 x44.1.value, v45, .int .i64 x44.1.steps] : List Value) ++ (arrC x44.1.memory ++ ([] : List Value)))) (o := 0) (cs := (([.bool false, .int .i64 0, .int .i64 0, .slice none 0 0, .int .i64 0] : List Value) ++ (arrC A64.zero ++ ([] : List Value)))) (b := b51) (u := .agg ((([.bool x44.1.done, .int .i64 x44.1.trap, .int .i64 x44.1.value, v45, .int .i64 x44.1.steps] : List Value) ++ (arrC x44.1.memory ++ ([] : List Value)))).toArray) 0 rfl ms_104 rfl rfl rfl (one_app (oc rfl (oc rfl (oc rfl (oc (h47).one (oc rfl oc0))))) (one_app (arr_one _) oc0)) (leb rfl) ?_
          refine TL.respell (b := b51) (T := 104) (cs := over (([.bool false, .int .i64 0, .int .i64 0, .slice none 0 0, .int .i64 0] : List Value) ++ (arrC A64.zero ++ ([] : List Value))) 0 (([.bool x44.1.done, .int .i64 x44.1.trap, .int .i64 x44.1.value, v45, .int .i64 x44.1.steps] : List Value) ++ (arrC x44.1.memory ++ ([] : List Value)))) (ds := (([.bool x44.1.done, .int .i64 x44.1.trap, .int .i64 x44.1.value, v45, .int .i64 x44.1.steps] : List Value) ++ (arrC x44.1.memory ++ ([] : List Value)))) 0 rfl (over_all rfl) ?_
          refine TL.norm (L' := [bx b51 104 (([.bool x44.1.done, .int .i64 x44.1.trap, .int .i64 x44.1.value, v45, .int .i64 x44.1.steps] : List Value) ++ (arrC x44.1.memory ++ ([] : List Value))), F46, F49, bx b9 90 [v2], bx b17 90 [v14], F15, bx b30 104 (([.bool x23.1.done, .int .i64 x23.1.trap, .int .i64 x23.1.value, v24, .int .i64 x23.1.steps] : List Value) ++ (arrC x23.1.memory ++ ([] : List Value))), F42, F28, F35]) rfl ?_
          refine TL.v (ltb rfl) (rv_as (v := v48) rfl) ?_
          refine TL.nil ?_
          refine TC.go hK_107 ?_
          refine TC.seq fun K_110 hK_111 => ?_
          refine TC.quiet mix (by kernel_rfl) ?_
          refine QL.v (ltb rfl) (rv_mv (v := .bool x10) h_101) ?_
          refine QL.v (ltb rfl) (rv_mv (v := .bool x10) rfl) ?_
          obtain ⟨t52, ht_156, hp⟩ := bind_some' hp
          refine QL.cut 4 fun K_112 hK_113 => ?_
          have hJ_114 : ∀ e_116 : Env, e_116 13 = .pointer (some ⟨b30, 0, none⟩) → e_116 14 = v27 → e_116 16 = v34 → e_116 18 = .pointer (some ⟨b51, 0, none⟩) → e_116 19 = v48 → e_116 95 = .bool t52 → K_112 e_116 := by
            intro e_116 h_117 h_118 h_119 h_120 h_121 h_122
            refine hK_113 _ ?_
            refine QL.v (ltb rfl) (rv_mv (v := .bool t52) h_122) ?_
            refine QL.cut 6 fun K_123 hK_124 => ?_
            have hJ_125 : ∀ e_127 : Env, e_127 13 = .pointer (some ⟨b30, 0, none⟩) → e_127 16 = v34 → e_127 18 = .pointer (some ⟨b51, 0, none⟩) → e_127 102 = .bool (decide (t52 = true ∧ (((decide (x23.2 = GErr.no)) == (decide (x44.2 = GErr.no))) = true))) → K_123 e_127 := by
              intro e_127 h_128 h_129 h_130 h_131
              refine hK_124 _ ?_
              refine QL.v (ltb rfl) (rv_mv (v := .bool (decide (t52 = true ∧ (((decide (x23.2 = GErr.no)) == (decide (x44.2 = GErr.no))) = true)))) h_131) ?_
              obtain ⟨t53, ht_154, hp⟩ := bind_some' hp
              refine QL.cut 5 fun K_132 hK_133 => ?_
              have hJ_134 : ∀ e_136 : Env, e_136 13 = .pointer (some ⟨b30, 0, none⟩) → e_136 18 = .pointer (some ⟨b51, 0, none⟩) → e_136 108 = .bool t53 → K_132 e_136 := by
                intro e_136 h_137 h_138 h_139
                refine hK_133 _ ?_
                refine QL.v (ltb rfl) (rv_mv (v := .bool t53) h_139) ?_
                refine QL.cut 6 fun K_140 hK_141 => ?_
                have hJ_142 : ∀ e_144 : Env, e_144 13 = .pointer (some ⟨b30, 0, none⟩) → e_144 18 = .pointer (some ⟨b51, 0, none⟩) → e_144 115 = .bool (decide (t53 = true ∧ x23.1.steps = x44.1.steps)) → K_140 e_144 := by
                  intro e_144 h_145 h_146 h_147
                  refine hK_141 _ ?_
                  refine QL.v (ltb rfl) (rv_mv (v := .bool (decide (t53 = true ∧ x23.1.steps = x44.1.steps))) h_147) ?_
                  refine QL.cut 6 fun K_148 hK_149 => ?_
                  have hJ_150 : ∀ e_152 : Env, e_152 122 = .bool (decide ((t53 = true ∧ x23.1.steps = x44.1.steps) ∧ x23.1.memory = x44.1.memory)) → K_148 e_152 := by
                    intro e_152 h_153
                    refine hK_149 _ ?_
                    refine QL.v (ltb rfl) (rv_as (v := .bool (decide ((t53 = true ∧ x23.1.steps = x44.1.steps) ∧ x23.1.memory = x44.1.memory))) h_153) ?_
                    refine QL.nil ?_
                    refine TC.go hK_111 ?_
                    refine TC.ret ?_
                    obtain rfl := Option.some.inj hp
                    exact fun w hw => retOk ⟨rfl, rfl⟩ (hw.pick [])
                  by_cases hc_151 : t53 = true ∧ x23.1.steps = x44.1.steps
                  · refine QL.gyes true (yieldE_of rfl (bT hc_151)) rfl ?_
                    refine QL.v (ltb rfl) (rv_fa (b := b30) (o := 0) fa_104_5 h_145) ?_
                    refine QL.gyes true (yieldE_of rfl (bT hc_151)) rfl ?_
                    refine QL.v (ltb rfl) (rv_lda (o := 5) (o' := 0) (j := 5) (ds := (arrC x23.1.memory ++ ([] : List Value))) ag_102 rfl (Src.at_ 6 rfl) (bx_cells b30 104 _) rfl rfl rfl) ?_
                    refine QL.gyes true (yieldE_of rfl (bT hc_151)) rfl ?_
                    refine QL.v (ltb rfl) (rv_fa (b := b51) (o := 0) fa_104_5 h_146) ?_
                    refine QL.gyes true (yieldE_of rfl (bT hc_151)) rfl ?_
                    refine QL.v (ltb rfl) (rv_lda (o := 5) (o' := 0) (j := 5) (ds := (arrC x44.1.memory ++ ([] : List Value))) ag_102 rfl (Src.at_ 0 rfl) (bx_cells b51 104 _) rfl rfl rfl) ?_
                    refine QL.gyes true (yieldE_of rfl (bT hc_151)) rfl ?_
                    refine QL.v (ltb rfl) (rv_eqlA al_102 inf_2 ac_102 ap_102 Try.underlying2 aq_102 (show _ = Value.agg (arrC x23.1.memory).toArray from rfl) (show _ = Value.agg (arrC x44.1.memory).toArray from rfl)) ?_
                    refine QL.v (ltb rfl) (rv_pickT true (bT hc_151) rfl (v := .bool (decide (x23.1.memory = x44.1.memory))) rfl) ?_
                    refine QL.nil (hJ_150 _ ?_)
                    · exact (bAt hc_151)
                  · refine QL.gno false rfl (fun d hd => by cases hd; exact ltb rfl) (yieldE_of rfl (bF hc_151)) rfl ?_
                    refine QL.gno false rfl (fun d hd => by cases hd; exact ltb rfl) (yieldE_of rfl (bF hc_151)) rfl ?_
                    refine QL.gno false rfl (fun d hd => by cases hd; exact ltb rfl) (yieldE_of rfl (bF hc_151)) rfl ?_
                    refine QL.gno false rfl (fun d hd => by cases hd; exact ltb rfl) (yieldE_of rfl (bF hc_151)) rfl ?_
                    refine QL.gno false rfl (fun d hd => by cases hd; exact ltb rfl) (yieldE_of rfl (bF hc_151)) rfl ?_
                    refine QL.v (ltb rfl) (rv_pickF false (bF hc_151) rfl (v := .bool false) rfl) ?_
                    refine QL.nil (hJ_150 _ ?_)
                    · exact (bAf hc_151)
                by_cases hc_143 : t53 = true
                · refine QL.gyes true (yieldE_of rfl (bbT hc_143)) rfl ?_
                  refine QL.v (ltb rfl) (rv_fa (b := b30) (o := 0) fa_104_4 h_137) ?_
                  refine QL.gyes true (yieldE_of rfl (bbT hc_143)) rfl ?_
                  refine QL.v (ltb rfl) (rv_ld (v := .int .i64 x23.1.steps) (o := 4) (o' := 0) (j := 4) sc_3 rfl (Src.at_ 6 rfl) (bx_cells b30 104 _) rfl rfl) ?_
                  refine QL.gyes true (yieldE_of rfl (bbT hc_143)) rfl ?_
                  refine QL.v (ltb rfl) (rv_fa (b := b51) (o := 0) fa_104_4 h_138) ?_
                  refine QL.gyes true (yieldE_of rfl (bbT hc_143)) rfl ?_
                  refine QL.v (ltb rfl) (rv_ld (v := .int .i64 x44.1.steps) (o := 4) (o' := 0) (j := 4) sc_3 rfl (Src.at_ 0 rfl) (bx_cells b51 104 _) rfl rfl) ?_
                  refine QL.gyes true (yieldE_of rfl (bbT hc_143)) rfl ?_
                  refine QL.v (ltb rfl) (rv_eql (k := .i64) (m := x23.1.steps) (n := x44.1.steps) rfl rfl) ?_
                  refine QL.v (ltb rfl) (rv_pickT true (bbT hc_143) rfl (v := .bool (decide (x23.1.steps = x44.1.steps))) rfl) ?_
                  refine QL.nil (hJ_142 _ ?_ ?_ ?_)
                  · exact h_137
                  · exact h_138
                  · exact (bAt hc_143)
                · refine QL.gno false rfl (fun d hd => by cases hd; exact ltb rfl) (yieldE_of rfl (bbF hc_143)) rfl ?_
                  refine QL.gno false rfl (fun d hd => by cases hd; exact ltb rfl) (yieldE_of rfl (bbF hc_143)) rfl ?_
                  refine QL.gno false rfl (fun d hd => by cases hd; exact ltb rfl) (yieldE_of rfl (bbF hc_143)) rfl ?_
                  refine QL.gno false rfl (fun d hd => by cases hd; exact ltb rfl) (yieldE_of rfl (bbF hc_143)) rfl ?_
                  refine QL.gno false rfl (fun d hd => by cases hd; exact ltb rfl) (yieldE_of rfl (bbF hc_143)) rfl ?_
                  refine QL.v (ltb rfl) (rv_pickF false (bbF hc_143) rfl (v := .bool false) rfl) ?_
                  refine QL.nil (hJ_142 _ ?_ ?_ ?_)
                  · exact h_137
                  · exact h_138
                  · exact (bAf hc_143)
              clear hp
              have hp := ht_154
              clear ht_154
              by_cases hc_135 : t52 = true ∧ (((decide (x23.2 = GErr.no)) == (decide (x44.2 = GErr.no))) = true)
              · rw [if_pos hc_135] at hp
                refine QL.gyes true (yieldE_of rfl (bT hc_135)) rfl ?_
                refine QL.v (ltb rfl) (rv_mv (v := v34) h_129) ?_
                refine QL.gyes true (yieldE_of rfl (bT hc_135)) rfl ?_
                refine QL.v (ltb rfl) (rv_fa (b := b51) (o := 0) fa_104_3 h_130) ?_
                refine QL.gyes true (yieldE_of rfl (bT hc_135)) rfl ?_
                refine QL.v (ltb rfl) (rv_ld (v := v45) (o := 3) (o' := 0) (j := 3) sc_100 rfl (Src.at_ 0 rfl) (bx_cells b51 104 _) rfl rfl) ?_
                refine QL.gyes true (yieldE_of rfl (bT hc_135)) rfl ?_
                obtain ⟨x54, hy_155, hp⟩ := bind_some' hp
                refine QL.callC (vs := [v34, v45]) (R := fettleref04_Alike.R x54) (.bool x54) cb_58 (ltb rfl) (mc rfl (mc rfl m0)) (fun w hw => fettleref04_Alike_ok (a1 := x33) (a4 := x44.1.out) (h36.ro.mono (subB 9 rfl)) (h47.ro.mono (subB 1 rfl)) hy_155 hw) (fun u A' h => ⟨h.1.symm, h.2⟩) ?_
                refine QL.v (ltb rfl) (rv_pickT true (bT hc_135) rfl (v := .bool x54) rfl) ?_
                obtain rfl := Option.some.inj hp
                refine QL.nil (hJ_134 _ ?_ ?_ ?_)
                · exact h_128
                · exact h_130
                · exact rfl
              · rw [if_neg hc_135] at hp
                refine QL.gno false rfl (fun d hd => by cases hd; exact ltb rfl) (yieldE_of rfl (bF hc_135)) rfl ?_
                refine QL.gno false rfl (fun d hd => by cases hd; exact ltb rfl) (yieldE_of rfl (bF hc_135)) rfl ?_
                refine QL.gno false rfl (fun d hd => by cases hd; exact ltb rfl) (yieldE_of rfl (bF hc_135)) rfl ?_
                refine QL.gno false rfl (fun d hd => by cases hd; exact ltb rfl) (yieldE_of rfl (bF hc_135)) rfl ?_
                refine QL.v (ltb rfl) (rv_pickF false (bF hc_135) rfl (v := .bool false) rfl) ?_
                obtain rfl := Option.some.inj hp
                refine QL.nil (hJ_134 _ ?_ ?_ ?_)
                · exact h_128
                · exact h_130
                · exact rfl
            by_cases hc_126 : t52 = true
            · refine QL.gyes true (yieldE_of rfl (bbT hc_126)) rfl ?_
              refine QL.v (ltb rfl) (rv_mv (v := v27) h_118) ?_
              refine QL.gyes true (yieldE_of rfl (bbT hc_126)) rfl ?_
              refine QL.v (ltb rfl) (rv_eqlEN ifc_49 h29 rfl) ?_
              refine QL.gyes true (yieldE_of rfl (bbT hc_126)) rfl ?_
              refine QL.v (ltb rfl) (rv_mv (v := v48) h_121) ?_
              refine QL.gyes true (yieldE_of rfl (bbT hc_126)) rfl ?_
              refine QL.v (ltb rfl) (rv_eqlEN ifc_49 h50 rfl) ?_
              refine QL.gyes true (yieldE_of rfl (bbT hc_126)) rfl ?_
              refine QL.v (ltb rfl) (rv_eqlB (b := (decide (x23.2 = GErr.no))) (c := (decide (x44.2 = GErr.no))) Try.underlying4 rfl rfl) ?_
              refine QL.v (ltb rfl) (rv_pickT true (bbT hc_126) rfl (v := .bool ((decide (x23.2 = GErr.no)) == (decide (x44.2 = GErr.no)))) rfl) ?_
              refine QL.nil (hJ_125 _ ?_ ?_ ?_ ?_)
              · exact h_117
              · exact h_119
              · exact h_120
              · exact (bAt' hc_126)
            · refine QL.gno false rfl (fun d hd => by cases hd; exact ltb rfl) (yieldE_of rfl (bbF hc_126)) rfl ?_
              refine QL.gno false rfl (fun d hd => by cases hd; exact ltb rfl) (yieldE_of rfl (bbF hc_126)) rfl ?_
              refine QL.gno false rfl (fun d hd => by cases hd; exact ltb rfl) (yieldE_of rfl (bbF hc_126)) rfl ?_
              refine QL.gno false rfl (fun d hd => by cases hd; exact ltb rfl) (yieldE_of rfl (bbF hc_126)) rfl ?_
              refine QL.gno false rfl (fun d hd => by cases hd; exact ltb rfl) (yieldE_of rfl (bbF hc_126)) rfl ?_
              refine QL.v (ltb rfl) (rv_pickF false (bbF hc_126) rfl (v := .bool false) rfl) ?_
              refine QL.nil (hJ_125 _ ?_ ?_ ?_ ?_)
              · exact h_117
              · exact h_119
              · exact h_120
              · exact (bAf hc_126)
          clear hp
          have hp := ht_156
          clear ht_156
          by_cases hc_115 : x10 = true
          · rw [if_pos hc_115] at hp
            refine QL.gyes true (yieldE_of rfl (bbT hc_115)) rfl ?_
            refine QL.v (ltb rfl) (rv_lda (o := 0) (o' := 0) (j := 0) (ds := [v14]) ag_90 h_102 (Src.at_ 4 rfl) (bx_cells b17 90 _) rfl rfl rfl) ?_
            refine QL.gyes true (yieldE_of rfl (bbT hc_115)) rfl ?_
            refine QL.v (ltb rfl) (rv_lda (o := 0) (o' := 0) (j := 0) (ds := [v2]) ag_90 h_100 (Src.at_ 3 rfl) (bx_cells b9 90 _) rfl rfl rfl) ?_
            refine QL.gyes true (yieldE_of rfl (bbT hc_115)) rfl ?_
            obtain ⟨x55, hy_157, hp⟩ := bind_some' hp
            refine QL.callC (vs := [.agg #[v14], .agg #[v2]]) (R := fettleref02_Same.R x55) (.bool x55) cb_52 (ltb rfl) (mc rfl (mc rfl m0)) (fun w hw => fettleref02_Same_ok (a1 := x13) (a4 := a1) (h16.ro.mono (subB 5 rfl)) (h3.mono subH) hy_157 hw) (fun u A' h => ⟨h.1.symm, h.2⟩) ?_
            refine QL.v (ltb rfl) (rv_pickT true (bbT hc_115) rfl (v := .bool x55) rfl) ?_
            obtain rfl := Option.some.inj hp
            refine QL.nil (hJ_114 _ ?_ ?_ ?_ ?_ ?_ ?_)
            · exact h_103
            · exact h_104
            · exact h_105
            · exact rfl
            · exact rfl
            · exact rfl
          · rw [if_neg hc_115] at hp
            refine QL.gno false rfl (fun d hd => by cases hd; exact ltb rfl) (yieldE_of rfl (bbF hc_115)) rfl ?_
            refine QL.gno false rfl (fun d hd => by cases hd; exact ltb rfl) (yieldE_of rfl (bbF hc_115)) rfl ?_
            refine QL.gno false rfl (fun d hd => by cases hd; exact ltb rfl) (yieldE_of rfl (bbF hc_115)) rfl ?_
            refine QL.v (ltb rfl) (rv_pickF false (bbF hc_115) rfl (v := .bool false) rfl) ?_
            obtain rfl := Option.some.inj hp
            refine QL.nil (hJ_114 _ ?_ ?_ ?_ ?_ ?_ ?_)
            · exact h_103
            · exact h_104
            · exact h_105
            · exact rfl
            · exact rfl
            · exact rfl
        refine TC.pk' [1, 1, 1, 1, 1, 1, 0] (L' := [bx b9 90 [v2], bx b17 90 [v14], F15, bx b30 104 (([.bool x23.1.done, .int .i64 x23.1.trap, .int .i64 x23.1.value, v24, .int .i64 x23.1.steps] : List Value) ++ (arrC x23.1.memory ++ ([] : List Value))), F25, F28, F35]) rfl ?_
        refine TC.loopW (r := z_91) (fun (s : (List Int × Int)) (e_80 : Env) (L_173 : List FP) => ∃ (x37 : List Int) (x40 : Int) (F38 : FP), s = (x37, x40) ∧ SlO 2 (kInt .i64) x37 v24 F38 ∧ e_80 1 = .int .i64 a4 ∧ e_80 2 = v6 ∧ e_80 3 = .int .i64 x12 ∧ e_80 4 = .pointer (some ⟨b9, 0, none⟩) ∧ e_80 9 = .bool x10 ∧ e_80 11 = .pointer (some ⟨b17, 0, none⟩) ∧ e_80 13 = .pointer (some ⟨b30, 0, none⟩) ∧ e_80 14 = v27 ∧ e_80 16 = v34 ∧ e_80 17 = .int .i64 x40 ∧ L_173 = [bx b9 90 [v2], bx b17 90 [v14], F15, bx b30 104 (([.bool x23.1.done, .int .i64 x23.1.trap, .int .i64 x23.1.value, v24, .int .i64 x23.1.steps] : List Value) ++ (arrC x23.1.memory ++ ([] : List Value))), F38, F28, F35]) ?_ FUEL _ _ _ hz_92 ⟨x23.1.out, 0, F25, rfl, h26, h_65, h_66, h_67, h_68, h_69, h_70, h_71, h_72, rfl, rfl, rfl⟩
        rintro s e_80 L_173 ⟨x37, x40, F38, rfl, h39, h_81, h_82, h_83, h_84, h_85, h_86, h_87, h_88, h_89, h_90, rfl⟩ x_94 hp hx_95
        replace hp : fettlelaw04_RunStays.bd95 x37 x40 = some x_94 := hp
        unfold fettlelaw04_RunStays.bd95 at hp
        refine TC.seq fun K_160 hK_161 => ?_
        refine TC.seq fun K_162 hK_163 => ?_
        refine TC.region ?_
        refine TL.v (ltb rfl) (rv_mv (v := .int .i64 x40) h_90) ?_
        refine TL.v (ltb rfl) (rv_fa (b := b30) (o := 0) fa_104_3 h_87) ?_
        refine TL.v (ltb rfl) (rv_ld (v := v24) (o := 3) (o' := 0) (j := 3) sc_100 rfl (Src.at_ 3 rfl) (bx_cells b30 104 _) rfl rfl) ?_
        refine TL.v (ltb rfl) (rv_lenI (v := v24) Try.underlying100 rfl h39.ro) ?_
        refine TL.v (ltb rfl) (rv_lss (k := .i64) (m := x40) (n := (len x37)) rfl rfl) ?_
        refine TL.nil ?_
        refine TC.go hK_163 ?_
        by_cases hc_164 : x40 < (len x37)
        · rw [if_pos hc_164] at hp
          refine TC.condT (bT hc_164) ?_
          refine TC.skip ?_
          refine TC.go hK_161 ?_
          refine TC.seq fun K_165 hK_166 => ?_
          refine TC.block ?_
          refine TC.held ([bx b9 90 [v2], bx b17 90 [v14], F15, bx b30 104 (([.bool x23.1.done, .int .i64 x23.1.trap, .int .i64 x23.1.value, v24, .int .i64 x23.1.steps] : List Value) ++ (arrC x23.1.memory ++ ([] : List Value))), F28, F35].flatten ++ H) mix (srcG 0 rfl (srcG 1 rfl (srcG 2 rfl (srcG 3 rfl (srcG 5 rfl (srcG 6 rfl srcG0)))))) ?_
          refine HL.v 0 rfl trivial (by kernel_rfl) (by kernel_rfl) (by kernel_rfl) (ltb rfl) (rv_fa (b := b30) (o := 0) fa_104_3 h_87) ?_
          refine HL.v 1 rfl trivial (by kernel_rfl) (by kernel_rfl) (by kernel_rfl) (ltb rfl) (rv_ld (v := v24) (o := 3) (o' := 0) (j := 3) sc_100 rfl (srcInG 3 rfl) (bx_cells b30 104 _) rfl rfl) ?_
          refine HL.v 2 rfl trivial (by kernel_rfl) (by kernel_rfl) (by kernel_rfl) (ltb rfl) (rv_mv (v := .int .i64 x40) h_90) ?_
          refine HL.v 3 rfl trivial (by kernel_rfl) (by kernel_rfl) (by kernel_rfl) (ltb rfl) (rv_fa (b := b30) (o := 0) fa_104_3 h_87) ?_
          refine HL.v 4 rfl trivial (by kernel_rfl) (by kernel_rfl) (by kernel_rfl) (ltb rfl) (rv_ld (v := v24) (o := 3) (o' := 0) (j := 3) sc_100 rfl (srcInG 3 rfl) (bx_cells b30 104 _) rfl rfl) ?_
          refine HL.v 5 rfl trivial (by kernel_rfl) (by kernel_rfl) (by kernel_rfl) (ltb rfl) (rv_mv (v := .int .i64 x40) h_90) ?_
          obtain ⟨x2457, hx_167, hp⟩ := bind_some' hp
          refine HL.w3 6 rfl trivial (by kernel_rfl) (by kernel_rfl) (by kernel_rfl) (ltb rfl) (rv_ix 100 (.tmp 76) (.tmp 77) (v := v24) (i := x40) Try.underlying100 inf_2 rfl rfl rfl (h39).ro hx_167) fun b2458 o2459 c2460 h2461 h2462 => ?_
          obtain rfl := h2461
          refine HL.one 7 rfl (by kernel_rfl) fun K_168 hK_169 => ?_
          refine TL.v (ltb rfl) (rv_ld (v := .int .i64 x2457) (o := o2459) (o' := o2459) (j := 0) sc_2 rfl (Src.at_ 4 rfl) h2462 rfl rfl) ?_
          refine TL.nil (hK_169 _ _ (srcG 0 rfl (srcG 1 rfl (srcG 2 rfl (srcG 3 rfl (srcG 5 rfl (srcG 6 rfl srcG0)))))) ?_)
          refine HL.v 8 rfl trivial (by kernel_rfl) (by kernel_rfl) (by kernel_rfl) (ltb rfl) (rv_add (k := .i64) (m := x2457) (n := 1) rfl rfl) ?_
          obtain ⟨x3657, hx_170, hp⟩ := bind_some' hp
          refine HL.w2 9 rfl trivial (by kernel_rfl) (by kernel_rfl) (by kernel_rfl) (ltb rfl) (rv_ixO 100 (.tmp 73) (.tmp 74) (v := v24) (i := x40) Try.underlying100 inf_2 rfl rfl rfl h39 (idx_some hx_170).1 (idx_some hx_170).2.1) fun b3658 o3659 h3660 => ?_
          refine HL.one 10 rfl (by kernel_rfl) fun K_171 hK_172 => ?_
          refine TL.pk' [4, 0, 0, 0, 0, 0, 0] (L' := [F38, bx b9 90 [v2], bx b17 90 [v14], F15, bx b30 104 (([.bool x23.1.done, .int .i64 x23.1.trap, .int .i64 x23.1.value, v24, .int .i64 x23.1.steps] : List Value) ++ (arrC x23.1.memory ++ ([] : List Value))), F28, F35]) rfl ?_
          refine TL.stE0 (ds := [.int .i64 (w64 (x2457 + 1))]) (u := .int .i64 (w64 (x2457 + 1))) (a := (w64 (x2457 + 1))) h39 h3660 ms_2 rfl rfl rfl ⟨rfl, rfl⟩ fun F4057 h4058 => ?_
          refine TL.nil (hK_172 _ _ (srcG 1 rfl (srcG 2 rfl (srcG 3 rfl (srcG 4 rfl (srcG 5 rfl (srcG 6 rfl srcG0)))))) ?_)
          refine HL.done (by kernel_rfl) ?_
          refine TC.go hK_166 ?_
          refine TC.region ?_
          refine TL.v (ltb rfl) (rv_mv (v := .int .i64 x40) h_90) ?_
          refine TL.v (ltb rfl) (rv_add (k := .i64) (m := x40) (n := 1) rfl rfl) ?_
          refine TL.v (ltb rfl) (rv_as (v := .int .i64 (w64 (x40 + 1))) rfl) ?_
          refine TL.nil ?_
          exact fun w hw => goOk hp ⟨(x37.set (x40).toNat (w64 (x2457 + 1))), (w64 (x40 + 1)), F4057, rfl, h4058, h_81, h_82, h_83, h_84, h_85, h_86, h_87, h_88, h_89, rfl, rfl⟩ (hw.pick [1, 1, 1, 1, 0, 0, 0])
        · rw [if_neg hc_164] at hp
          refine TC.condF (bF hc_164) ?_
          refine TC.exit ?_
          refine fun w hw => hJ_158 x37 F38 _ h39 ?_ ?_ ?_ ?_ ?_ ?_ ?_ ?_ ?_ (ex_ret hp hx_95) w (hw.pick [0, 0, 0, 0, 0, 0, 0])
          · exact h_81
          · exact h_82
          · exact h_83
          · exact h_84
          · exact h_85
          · exact h_86
          · exact h_87
          · exact h_88
          · exact h_89
      refine TC.pk' [6, 4, 4, 3, 0, 0, 0] (L' := [bx b9 90 [v2], bx b17 90 [v14], F15, F21, bx b30 104 (([.bool x23.1.done, .int .i64 x23.1.trap, .int .i64 x23.1.value, v24, .int .i64 x23.1.steps] : List Value) ++ (arrC x23.1.memory ++ ([] : List Value))), F25, F28]) rfl ?_
      refine TC.loopW (r := z_59) (fun (x31 : Int) (e_48 : Env) (L_190 : List FP) => e_48 1 = .int .i64 a4 ∧ e_48 2 = v6 ∧ e_48 3 = .int .i64 x12 ∧ e_48 4 = .pointer (some ⟨b9, 0, none⟩) ∧ e_48 9 = .bool x10 ∧ e_48 11 = .pointer (some ⟨b17, 0, none⟩) ∧ e_48 12 = v20 ∧ e_48 13 = .pointer (some ⟨b30, 0, none⟩) ∧ e_48 14 = v27 ∧ e_48 15 = .int .i64 x31 ∧ L_190 = [bx b9 90 [v2], bx b17 90 [v14], F15, F21, bx b30 104 (([.bool x23.1.done, .int .i64 x23.1.trap, .int .i64 x23.1.value, v24, .int .i64 x23.1.steps] : List Value) ++ (arrC x23.1.memory ++ ([] : List Value))), F25, F28]) ?_ FUEL _ _ _ hz_60 ⟨h_20, h_21, rfl, h_23, h_24, rfl, rfl, rfl, rfl, rfl, rfl⟩
      rintro x31 e_48 L_190 ⟨h_49, h_50, h_51, h_52, h_53, h_54, h_55, h_56, h_57, h_58, rfl⟩ x_62 hp hx_63
      replace hp : fettlelaw04_RunStays.bd63 a5 x19 x31 = some x_62 := hp
      unfold fettlelaw04_RunStays.bd63 at hp
      refine TC.seq fun K_176 hK_177 => ?_
      refine TC.seq fun K_178 hK_179 => ?_
      refine TC.region ?_
      refine TL.v (ltb rfl) (rv_mv (v := .int .i64 x31) h_58) ?_
      refine TL.v (ltb rfl) (rv_mv (v := v20) h_55) ?_
      refine TL.v (ltb rfl) (rv_lenI (v := v20) Try.underlying100 rfl h22.ro) ?_
      refine TL.v (ltb rfl) (rv_lss (k := .i64) (m := x31) (n := (len x19)) rfl rfl) ?_
      refine TL.nil ?_
      refine TC.go hK_179 ?_
      by_cases hc_180 : x31 < (len x19)
      · rw [if_pos hc_180] at hp
        refine TC.condT (bT hc_180) ?_
        refine TC.skip ?_
        refine TC.go hK_177 ?_
        refine TC.seq fun K_181 hK_182 => ?_
        refine TC.block ?_
        refine TC.seq fun K_183 hK_184 => ?_
        refine TC.quiet mix (by kernel_rfl) ?_
        refine QL.v (ltb rfl) (rv_mv (v := v20) h_55) ?_
        refine QL.v (ltb rfl) (rv_mv (v := .int .i64 x31) h_58) ?_
        obtain ⟨x4457, hx_185, hp⟩ := bind_some' hp
        refine QL.v3 (ltb rfl) (rv_ix 100 (.tmp 52) (.tmp 53) (v := v20) (i := x31) Try.underlying100 inf_2 rfl rfl rfl (h22).ro hx_185) fun b4458 o4459 c4460 h4461 h4462 => ?_
        obtain rfl := h4461
        refine QL.v (ltb rfl) (rv_ld (v := .int .i64 x4457) (o := o4459) (o' := o4459) (j := 0) sc_2 rfl (Src.at_ 3 rfl) h4462 rfl rfl) ?_
        refine QL.v (ltb rfl) (rv_mv (v := v6) h_50) ?_
        refine QL.v (ltb rfl) (rv_mv (v := .int .i64 x31) h_58) ?_
        obtain ⟨x4463, hx_186, hp⟩ := bind_some' hp
        refine QL.v3 (ltb rfl) (rv_ix 100 (.tmp 56) (.tmp 57) (v := v6) (i := x31) Try.underlying100 inf_2 rfl rfl rfl h7 hx_186) fun b4464 o4465 c4466 h4467 h4468 => ?_
        obtain rfl := h4467
        refine QL.v (ltb rfl) (rv_ld (v := .int .i64 x4463) (o := o4465) (o' := o4465) (j := 0) sc_2 rfl Src.H h4468 rfl rfl) ?_
        refine QL.v (ltb rfl) (rv_neq (k := .i64) (m := x4457) (n := x4463) rfl rfl) ?_
        refine QL.nil ?_
        refine TC.go hK_184 ?_
        by_cases hc_187 : ¬ x4457 = x4463
        · rw [if_pos hc_187] at hp
          refine TC.condT (bT hc_187) ?_
          refine TC.seq fun K_188 hK_189 => ?_
          refine TC.region ?_
          refine TL.v (ltb rfl) (rv_as (v := .bool false) rfl) ?_
          refine TL.nil ?_
          refine TC.go hK_189 ?_
          refine TC.ret ?_
          obtain rfl := ex_ret hp hx_63
          obtain rfl := Option.some.inj hr_61
          exact fun w hw => retOk ⟨rfl, rfl⟩ (hw.pick [])
        · rw [if_neg hc_187] at hp
          refine TC.condF (bF hc_187) ?_
          refine TC.skip ?_
          refine TC.go hK_182 ?_
          refine TC.region ?_
          refine TL.v (ltb rfl) (rv_mv (v := .int .i64 x31) h_58) ?_
          refine TL.v (ltb rfl) (rv_add (k := .i64) (m := x31) (n := 1) rfl rfl) ?_
          refine TL.v (ltb rfl) (rv_as (v := .int .i64 (w64 (x31 + 1))) rfl) ?_
          refine TL.nil ?_
          exact fun w hw => goOk hp ⟨h_49, h_50, h_51, h_52, h_53, h_54, h_55, h_56, h_57, rfl, rfl⟩ (hw.pick [0, 0, 0, 0, 0, 0, 0])
      · rw [if_neg hc_180] at hp
        refine TC.condF (bF hc_180) ?_
        refine TC.exit ?_
        refine fun w hw => hJ_174 _ ?_ ?_ ?_ ?_ ?_ ?_ ?_ ?_ (ex_ret hp hx_63) w (hw.pick [0, 0, 0, 1, 1, 1])
        · exact h_49
        · exact h_50
        · exact h_51
        · exact h_52
        · exact h_53
        · exact h_54
        · exact h_56
        · exact h_57
  by_cases hc_18 : (!x11) = true
  · refine TL.gno true rfl (fun d hd => by cases hd; exact ltb rfl) (yieldE_of rfl (bbT hc_18)) rfl ?_
    refine TL.gno true rfl (fun d hd => by cases hd; exact ltb rfl) (yieldE_of rfl (bbT hc_18)) rfl ?_
    refine TL.gno true rfl (fun d hd => by cases hd; exact ltb rfl) (yieldE_of rfl (bbT hc_18)) rfl ?_
    refine TL.v (ltb rfl) (rv_pickT true (bbT hc_18) rfl (v := .bool true) rfl) ?_
    refine TL.nil (hJ_17 _ ?_ ?_ ?_ ?_ ?_ ?_)
    · exact rfl
    · exact rfl
    · exact rfl
    · exact rfl
    · exact rfl
    · exact (bOt hc_18)
  · refine TL.gyes false (yieldE_of rfl (bbF hc_18)) rfl ?_
    refine TL.v (ltb rfl) (rv_mv (v := v6) rfl) ?_
    refine TL.gyes false (yieldE_of rfl (bbF hc_18)) rfl ?_
    refine TL.v (ltb rfl) (rv_lenI (v := v6) Try.underlying100 rfl h7) ?_
    refine TL.gyes false (yieldE_of rfl (bbF hc_18)) rfl ?_
    refine TL.v (ltb rfl) (rv_gtr (k := .i64) (m := (len a5)) (n := 300) rfl rfl) ?_
    refine TL.v (ltb rfl) (rv_pickF false (bbF hc_18) rfl (v := .bool (decide ((len a5) > 300))) rfl) ?_
    refine TL.nil (hJ_17 _ ?_ ?_ ?_ ?_ ?_ ?_)
    · exact rfl
    · exact rfl
    · exact rfl
    · exact rfl
    · exact rfl
    · exact (bOf hc_18)
end Go.Proofs.Ytoflleabpkgdpaa
