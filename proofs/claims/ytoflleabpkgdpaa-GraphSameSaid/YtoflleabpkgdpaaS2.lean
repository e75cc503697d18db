/- The walk through the program's functions: each one's pure reading, and that a call does what it says. No conditions. -/
import Derived.Test.YtoflleabpkgdpaaS1
set_option linter.unusedVariables false
set_option linter.unusedSimpArgs false
namespace Go.Proofs.Ytoflleabpkgdpaa
open Go Go.Proofs

/-! ### fettle/check.Ahead -/
abbrev check_Ahead.R (r : List (List Int)) (v : Value) (A : List FP) : Prop := ∃ (w1 : Value) (G1 : FP), w1 = v ∧ A = [G1] ∧ SlO 22 (kSl 3 (kInt .i64)) r w1 G1
def check_Ahead.nx19  (x15 : List (List Int)) : Option (List (List Int)) :=
  some x15
def check_Ahead.nx51 (x14 : Int) (x35 : List (List Int)) : Option (Ex (List (List Int)) (List (List Int) × Int)) :=
  some (.go (x35, (w64 (x14 + 1))))
def check_Ahead.jn75 (x34 : Int) (x38 : List (List Int)) : Option (Ex (List (List Int)) (List (List Int) × Int)) :=
  some (.go (x38, (w64 (x34 + 1))))
def check_Ahead.bd51 (x14 : Int) (x18 : PBlock) (x31 : List (List Int)) (x34 : Int) : Option (Ex (List (List Int)) (List (List Int) × Int)) :=
  if x34 < (len x18.term.to) then
    (idx x18.term.to x34).bind fun x41 =>
    (if x41 ≥ 0 ∧ x41 < (len x31) then (idx x31 x41).bind fun x68 =>
    (slices_Contains x68 x14).bind fun x76 =>
    some (!x76) else some false).bind fun t47 =>
    if t47 = true then
      (idx x31 x41).bind fun x48 =>
      (cat x48 [x14]).bind fun x59 =>
      check_Ahead.jn75 x34 (x31.set (x41).toNat x59)
    else
      check_Ahead.jn75 x34 x31
  else
    some (.ret x31)
def check_Ahead.bd19 (a1 : PFunc) (x11 : List (List Int)) (x14 : Int) : Option (Ex (List (List Int)) (List (List Int) × Int)) :=
  if x14 < (len a1.blocks) then
    (idx a1.blocks x14).bind fun x18 =>
    (whl (fun (s : (List (List Int) × Int)) => check_Ahead.bd51 x14 x18 s.1 s.2) FUEL (x11, 0)).bind fun z =>
    check_Ahead.nx51 x14 z
  else
    some (.ret x11)
def check_Ahead (a1 : PFunc) : Option (List (List Int)) :=
  (mkl (len a1.blocks) ([] : List Int)).bind fun x7 =>
  (whl (fun (s : (List (List Int) × Int)) => check_Ahead.bd19 a1 s.1 s.2) FUEL (x7, 0)).bind fun z =>
  check_Ahead.nx19 z
theorem check_Ahead_ok {E : World} {H : FP} {w : World} {a1 : PFunc} {v2 : Value} {v4 : Value} {r : List (List Int)} (h3 : SlI (kInt .i64) H a1.regs v2) (h5 : SlI kBlock H a1.blocks v4) (hp : check_Ahead a1 = some r) (hst : St E H [] w) :
    Fn Try.prog 78 #[.agg #[.int .i64 a1.params, .int .i64 a1.result, v2, v4]] w fun v w' => ∃ A, check_Ahead.R r v A ∧ St E H A w' := by
  refine Fn.body (fn := Try.f78) (args := [.agg #[.int .i64 a1.params, .int .i64 a1.result, v2, v4]]) E H [] [.tmp 2] 58 Try.func78 rfl rfl rfl rfl (leb rfl) hst ?_
  unfold check_Ahead at hp
  refine TC.seq fun K_1 hK_2 => ?_
  refine TC.region ?_
  refine TL.box (cs := [.int .i64 a1.params, .int .i64 a1.result, v2, v4]) (v := .agg #[.int .i64 a1.params, .int .i64 a1.result, v2, v4]) (ltb rfl) rfl rfl fun b6 => ?_
  refine TL.v (ltb rfl) (rv_as (v := .slice none 0 0) rfl) ?_
  refine TL.nil ?_
  refine TC.go hK_2 ?_
  refine TC.seq fun K_3 hK_4 => ?_
  refine TC.region ?_
  refine TL.v (ltb rfl) (rv_fa (b := b6) (o := 0) fa_25_3 rfl) ?_
  refine TL.v (ltb rfl) (rv_ld (v := v4) (o := 3) (o' := 0) (j := 3) sc_23 rfl (Src.at_ 0 rfl) (bx_cells b6 25 _) rfl rfl) ?_
  refine TL.v (ltb rfl) (rv_lenI (v := v4) Try.underlying23 rfl h5) ?_
  obtain ⟨x7, hz_5, hp⟩ := bind_some' hp
  refine TL.mk (k := (kSl 3 (kInt .i64))) (n := (len a1.blocks)) (x0 := ([] : List Int)) Try.underlying28 inf_22 (ltb rfl) (ltb rfl) rfl rfl (leb rfl) rfl ⟨_, rfl, SlO.nil 3⟩ hz_5 fun v8 F9 h10 => ?_
  refine TL.v (ltb rfl) (rv_as (v := v8) rfl) ?_
  refine TL.nil ?_
  refine TC.go hK_4 ?_
  refine TC.seq fun K_6 hK_7 => ?_
  refine TC.seq fun K_8 hK_9 => ?_
  refine TC.region ?_
  refine TL.v (ltb rfl) (rv_fa (b := b6) (o := 0) fa_25_3 rfl) ?_
  refine TL.v (ltb rfl) (rv_ld (v := v4) (o := 3) (o' := 0) (j := 3) sc_23 rfl (Src.at_ 1 rfl) (bx_cells b6 25 _) rfl rfl) ?_
  refine TL.v (ltb rfl) (rv_lenI (v := v4) Try.underlying23 rfl h5) ?_
  refine TL.v (ltb rfl) (rv_mv (v := .int .i64 0) rfl) ?_
  refine TL.nil ?_
  refine TC.go hK_9 ?_
  refine TC.block ?_
  obtain ⟨z_15, hz_16, hr_17⟩ := bind_some' hp
  clear hp
  have hJ_24 : ∀ (x15 : List (List Int)) (F16 : FP) (e_20 : Env) (h17 : SlO 22 (kSl 3 (kInt .i64)) x15 v8 F16) (h_21 : e_20 3 = v8) (hq_25 : x15 = z_15), ∀ w, St E H [F16] w → K_6 e_20 w := by
    intro x15 F16 e_20 h17 h_21 hq_25
    subst hq_25
    replace hp : check_Ahead.nx19 x15 = some r := hr_17
    unfold check_Ahead.nx19 at hp
    refine TC.go hK_7 ?_
    refine TC.seq fun K_22 hK_23 => ?_
    refine TC.region ?_
    refine TL.v (ltb rfl) (rv_mv (v := v8) h_21) ?_
    refine TL.v (ltb rfl) (rv_as (v := v8) rfl) ?_
    refine TL.nil ?_
    refine TC.go hK_23 ?_
    refine TC.ret ?_
    obtain rfl := Option.some.inj hp
    exact fun w hw => retOk ⟨v8, F16, rfl, rfl, h17⟩ (hw.pick [0])
  refine TC.pk' [0] (L' := [F9]) rfl ?_
  refine TC.loopW (r := z_15) (fun (s : (List (List Int) × Int)) (e_10 : Env) (L_120 : List FP) => ∃ (x11 : List (List Int)) (x14 : Int) (F12 : FP), s = (x11, x14) ∧ SlO 22 (kSl 3 (kInt .i64)) x11 v8 F12 ∧ e_10 3 = v8 ∧ e_10 13 = v4 ∧ e_10 14 = .int .i64 (len a1.blocks) ∧ e_10 15 = .int .i64 x14 ∧ L_120 = [F12]) ?_ FUEL _ _ _ hz_16 ⟨x7, 0, F9, rfl, h10, rfl, rfl, rfl, rfl, rfl⟩
  rintro s e_10 L_120 ⟨x11, x14, F12, rfl, h13, h_11, h_12, h_13, h_14, rfl⟩ x_18 hp hx_19
  replace hp : check_Ahead.bd19 a1 x11 x14 = some x_18 := hp
  unfold check_Ahead.bd19 at hp
  refine TC.seq fun K_26 hK_27 => ?_
  refine TC.region ?_
  refine TL.v (ltb rfl) (rv_lss (k := .i64) (m := x14) (n := (len a1.blocks)) h_14 h_13) ?_
  refine TL.nil ?_
  refine TC.go hK_27 ?_
  refine TC.seq fun K_28 hK_29 => ?_
  by_cases hc_30 : x14 < (len a1.blocks)
  · rw [if_pos hc_30] at hp
    refine TC.condT (bT hc_30) ?_
    refine TC.skip ?_
    refine TC.go hK_29 ?_
    refine TC.seq fun K_31 hK_32 => ?_
    refine TC.block ?_
    refine TC.seq fun K_33 hK_34 => ?_
    refine TC.region ?_
    refine TL.v (ltb rfl) (rv_mv (v := .int .i64 x14) h_14) ?_
    obtain ⟨x18, hx_35, hp⟩ := bind_some' hp
    refine TL.v3 (ltb rfl) (rv_ix 23 (.tmp 13) (.tmp 15) (v := v4) (i := x14) Try.underlying23 inf_85 rfl h_12 h_14 h5 hx_35) fun b19 o20 c21 h22 h23 => ?_
    obtain ⟨v24, v26, v28, rfl, h25, h27, h29⟩ := h22
    refine TL.v (ltb rfl) (rv_lda (o := o20) (o' := o20) (j := 0) (ds := [v24, v26, .int .i64 x18.term.kind, .int .i64 x18.term.arg, v28]) ag_85 rfl Src.H h23 rfl rfl rfl) ?_
    refine TL.alloc (cs := [.slice none 0 0, .slice none 0 0, .int .i64 0, .int .i64 0, .slice none 0 0]) inf_85 (ltb rfl) rfl fun b30 => ?_
    refine TL.v (ltb rfl) (rv_as (v := .int .i64 x14) rfl) ?_
    refine TL.stB (ds := [v24, v26, .int .i64 x18.term.kind, .int .i64 x18.term.arg, v28]) (o := 0) (cs := [.slice none 0 0, .slice none 0 0, .int .i64 0, .int .i64 0, .slice none 0 0]) (b := b30) (u := .agg #[v24, v26, .int .i64 x18.term.kind, .int .i64 x18.term.arg, v28]) 0 rfl ms_85 rfl rfl rfl (oc (h25).one (oc (h27).one (oc rfl (oc rfl (oc (h29).one oc0))))) (leb rfl) ?_
    refine TL.norm (L' := [bx b30 85 [v24, v26, .int .i64 x18.term.kind, .int .i64 x18.term.arg, v28], F12]) rfl ?_
    refine TL.nil ?_
    refine TC.go hK_34 ?_
    refine TC.seq fun K_36 hK_37 => ?_
    refine TC.region ?_
    refine TL.v (ltb rfl) (rv_fa (b := b30) (o := 0) fa_85_2 rfl) ?_
    refine TL.v (ltb rfl) (rv_fa (b := b30) (o := 2) fa_81_2 rfl) ?_
    refine TL.v (ltb rfl) (rv_ld (v := v28) (o := 4) (o' := 0) (j := 4) sc_22 rfl (Src.at_ 0 rfl) (bx_cells b30 85 _) rfl rfl) ?_
    refine TL.v (ltb rfl) (rv_lenI (v := v28) Try.underlying22 rfl h29) ?_
    refine TL.v (ltb rfl) (rv_mv (v := .int .i64 0) rfl) ?_
    refine TL.nil ?_
    refine TC.go hK_37 ?_
    refine TC.block ?_
    obtain ⟨z_47, hz_48, hr_49⟩ := bind_some' hp
    clear hp
    have hJ_57 : ∀ (x35 : List (List Int)) (F36 : FP) (e_52 : Env) (h37 : SlO 22 (kSl 3 (kInt .i64)) x35 v8 F36) (h_53 : e_52 3 = v8) (h_54 : e_52 13 = v4) (h_55 : e_52 14 = .int .i64 (len a1.blocks)) (h_56 : e_52 15 = .int .i64 x14) (hq_58 : x35 = z_47), ∀ w, St E H [F36] w → K_31 e_52 w := by
      intro x35 F36 e_52 h37 h_53 h_54 h_55 h_56 hq_58
      subst hq_58
      replace hp : check_Ahead.nx51 x14 x35 = some x_18 := hr_49
      unfold check_Ahead.nx51 at hp
      refine TC.go hK_32 ?_
      refine TC.region ?_
      refine TL.v (ltb rfl) (rv_add (k := .i64) (m := x14) (n := 1) h_56 rfl) ?_
      refine TL.v (ltb rfl) (rv_mv (v := .int .i64 (w64 (x14 + 1))) rfl) ?_
      refine TL.nil ?_
      exact fun w hw => goOk hp ⟨x35, (w64 (x14 + 1)), F36, rfl, h37, h_53, h_54, h_55, rfl, rfl⟩ (hw.pick [0])
    refine TC.pk' [1] (L' := [F12]) rfl ?_
    refine TC.loopW (r := z_47) (fun (s : (List (List Int) × Int)) (e_38 : Env) (L_119 : List FP) => ∃ (x31 : List (List Int)) (x34 : Int) (F32 : FP), s = (x31, x34) ∧ SlO 22 (kSl 3 (kInt .i64)) x31 v8 F32 ∧ e_38 3 = v8 ∧ e_38 4 = .int .i64 x14 ∧ e_38 13 = v4 ∧ e_38 14 = .int .i64 (len a1.blocks) ∧ e_38 15 = .int .i64 x14 ∧ e_38 22 = v28 ∧ e_38 23 = .int .i64 (len x18.term.to) ∧ e_38 24 = .int .i64 x34 ∧ L_119 = [F32]) ?_ FUEL _ _ _ hz_48 ⟨x11, 0, F12, rfl, h13, h_11, rfl, h_12, h_13, h_14, rfl, rfl, rfl, rfl⟩
    rintro s e_38 L_119 ⟨x31, x34, F32, rfl, h33, h_39, h_40, h_41, h_42, h_43, h_44, h_45, h_46, rfl⟩ x_50 hp hx_51
    replace hp : check_Ahead.bd51 x14 x18 x31 x34 = some x_50 := hp
    unfold check_Ahead.bd51 at hp
    refine TC.seq fun K_59 hK_60 => ?_
    refine TC.region ?_
    refine TL.v (ltb rfl) (rv_lss (k := .i64) (m := x34) (n := (len x18.term.to)) h_46 h_45) ?_
    refine TL.nil ?_
    refine TC.go hK_60 ?_
    refine TC.seq fun K_61 hK_62 => ?_
    by_cases hc_63 : x34 < (len x18.term.to)
    · rw [if_pos hc_63] at hp
      refine TC.condT (bT hc_63) ?_
      refine TC.skip ?_
      refine TC.go hK_62 ?_
      refine TC.seq fun K_64 hK_65 => ?_
      have hJ_75 : ∀ (x38 : List (List Int)) (F39 : FP) (e_66 : Env) (h40 : SlO 22 (kSl 3 (kInt .i64)) x38 v8 F39) (h_67 : e_66 3 = v8) (h_68 : e_66 4 = .int .i64 x14) (h_69 : e_66 13 = v4) (h_70 : e_66 14 = .int .i64 (len a1.blocks)) (h_71 : e_66 15 = .int .i64 x14) (h_72 : e_66 22 = v28) (h_73 : e_66 23 = .int .i64 (len x18.term.to)) (h_74 : e_66 24 = .int .i64 x34) (hp : check_Ahead.jn75 x34 x38 = some x_50), ∀ w, St E H [F39] w → K_64 e_66 w := by
        intro x38 F39 e_66 h40 h_67 h_68 h_69 h_70 h_71 h_72 h_73 h_74 hp
        unfold check_Ahead.jn75 at hp
        refine TC.go hK_65 ?_
        refine TC.region ?_
        refine TL.v (ltb rfl) (rv_add (k := .i64) (m := x34) (n := 1) h_74 rfl) ?_
        refine TL.v (ltb rfl) (rv_mv (v := .int .i64 (w64 (x34 + 1))) rfl) ?_
        refine TL.nil ?_
        exact fun w hw => goOk hp ⟨x38, (w64 (x34 + 1)), F39, rfl, h40, h_67, h_68, h_69, h_70, h_71, h_72, h_73, rfl, rfl⟩ (hw.pick [0])
      refine TC.block ?_
      refine TC.seq fun K_76 hK_77 => ?_
      refine TC.region ?_
      obtain ⟨x41, hx_78, hp⟩ := bind_some' hp
      refine TL.v3 (ltb rfl) (rv_ix 22 (.tmp 22) (.tmp 24) (v := v28) (i := x34) Try.underlying22 inf_3 rfl h_44 h_46 h29 hx_78) fun b42 o43 c44 h45 h46 => ?_
      obtain rfl := h45
      refine TL.v (ltb rfl) (rv_ld (v := .int .i64 x41) (o := o43) (o' := o43) (j := 0) sc_3 rfl Src.H h46 rfl rfl) ?_
      refine TL.v (ltb rfl) (rv_as (v := .int .i64 x41) rfl) ?_
      refine TL.nil ?_
      refine TC.go hK_77 ?_
      refine TC.seq fun K_79 hK_80 => ?_
      refine TC.region ?_
      refine TL.v (ltb rfl) (rv_mv (v := .int .i64 x41) rfl) ?_
      refine TL.v (ltb rfl) (rv_geq (k := .i64) (m := x41) (n := 0) rfl rfl) ?_
      refine TL.v (ltb rfl) (rv_mv (v := .bool (decide (x41 ≥ 0))) rfl) ?_
      refine TL.cut 5 fun K_81 hK_82 => ?_
      have hJ_83 : ∀ e_85 : Env, e_85 3 = v8 → e_85 4 = .int .i64 x14 → e_85 7 = .int .i64 x41 → e_85 13 = v4 → e_85 14 = .int .i64 (len a1.blocks) → e_85 15 = .int .i64 x14 → e_85 22 = v28 → e_85 23 = .int .i64 (len x18.term.to) → e_85 24 = .int .i64 x34 → e_85 35 = .bool (decide (x41 ≥ 0 ∧ x41 < (len x31))) → ∀ w, St E H [F32] w → K_81 e_85 w := by
        intro e_85 h_86 h_87 h_88 h_89 h_90 h_91 h_92 h_93 h_94 h_95
        refine TL.go hK_82 ?_
        refine TL.v (ltb rfl) (rv_mv (v := .bool (decide (x41 ≥ 0 ∧ x41 < (len x31)))) h_95) ?_
        obtain ⟨t47, ht_115, hp⟩ := bind_some' hp
        refine TL.cut 8 fun K_96 hK_97 => ?_
        have hJ_98 : ∀ e_100 : Env, e_100 3 = v8 → e_100 4 = .int .i64 x14 → e_100 7 = .int .i64 x41 → e_100 13 = v4 → e_100 14 = .int .i64 (len a1.blocks) → e_100 15 = .int .i64 x14 → e_100 22 = v28 → e_100 23 = .int .i64 (len x18.term.to) → e_100 24 = .int .i64 x34 → e_100 44 = .bool t47 → ∀ w, St E H [F32] w → K_96 e_100 w := by
          intro e_100 h_101 h_102 h_103 h_104 h_105 h_106 h_107 h_108 h_109 h_110
          refine TL.go hK_97 ?_
          refine TL.nil ?_
          refine TC.go hK_80 ?_
          by_cases hc_111 : t47 = true
          · rw [if_pos hc_111] at hp
            refine TC.condT (h_110.trans (bbT hc_111)) ?_
            refine TC.region ?_
            refine TL.v (ltb rfl) (rv_mv (v := v8) h_101) ?_
            refine TL.v (ltb rfl) (rv_mv (v := .int .i64 x41) h_103) ?_
            refine TL.v (ltb rfl) (rv_mv (v := v8) h_101) ?_
            refine TL.v (ltb rfl) (rv_mv (v := .int .i64 x41) h_103) ?_
            obtain ⟨x48, hx_112, hp⟩ := bind_some' hp
            refine TL.open_ h33 hx_112 fun b49 c50 F51 F52 h53 h54 => ?_
            obtain ⟨v55, rfl, h56⟩ := h54
            have h57 := (idx_some hx_112).1
            refine TL.v (ltb rfl) (rv_ixH Try.underlying28 inf_22 (v := v8) (i := x41) rfl rfl h57 h53) ?_
            refine TL.v (ltb rfl) (rv_ld (v := v55) (o := (x41).toNat * 1) (o' := (x41).toNat * 1) (j := 0) sc_22 rfl (Src.at_ 0 rfl) (Hole.cells h53) rfl rfl) ?_
            refine TL.v (ltb rfl) (rv_mv (v := .int .i64 x14) h_102) ?_
            refine TL.bv (vs := [(0, .int .i64 x14)]) (cs := [.int .i64 x14]) (pc rfl p0) Try.underlying22 inf_3 (ltb rfl) (by decide) (by decide) (by kernel_rfl) fun b58 => ?_
            refine TL.pk' [2, 0, 0] (L' := [F52, bx b58 3 [.int .i64 x14], F51]) rfl ?_
            refine TL.perm (L' := [F52, bx b58 3 [.int .i64 x14], [], F51]) (by simp) ?_
            obtain ⟨x59, hz_113, hp⟩ := bind_some' hp
            refine TL.app Try.underlying22 inf_3 (ltb rfl) rfl (ltb rfl) rfl (leb rfl) rfl rfl h56 (RepL.to (RepL.cons (k := (kInt .i64)) (x := x14) ⟨rfl, rfl⟩ RepL.nil) rfl) rfl rfl hz_113 fun v60 F61 h62 => ?_
            refine TL.v (ltb rfl) (rv_ixH Try.underlying28 inf_22 (v := v8) (i := x41) rfl rfl h57 h53) ?_
            refine TL.pk' [1, 0] (L' := [F51, F61]) rfl ?_
            refine TL.stH (ds := [v60]) (o := 0) (o' := (x41).toNat * 1) (u := v60) h53 ms_22 rfl rfl rfl (SlO.cells h62) (oc (h62).one oc0) (leb rfl) fun F64 h65 => ?_
            refine TL.nil ?_
            refine W.shut (a := x59) h65 ⟨_, rfl, h62⟩ fun F66 h67 => ?_
            refine fun w hw => hJ_75 (x31.set (x41).toNat x59) F66 _ h67 ?_ ?_ ?_ ?_ ?_ ?_ ?_ ?_ hp w (hw.pick [0])
            · exact h_101
            · exact h_102
            · exact h_104
            · exact h_105
            · exact h_106
            · exact h_107
            · exact h_108
            · exact h_109
          · rw [if_neg hc_111] at hp
            refine TC.condF (h_110.trans (bbF hc_111)) ?_
            refine TC.skip ?_
            refine fun w hw => hJ_75 x31 F32 _ h33 ?_ ?_ ?_ ?_ ?_ ?_ ?_ ?_ hp w (hw.pick [0])
            · exact h_101
            · exact h_102
            · exact h_104
            · exact h_105
            · exact h_106
            · exact h_107
            · exact h_108
            · exact h_109
        clear hp
        have hp := ht_115
        clear ht_115
        by_cases hc_99 : x41 ≥ 0 ∧ x41 < (len x31)
        · rw [if_pos hc_99] at hp
          refine TL.gyes true (yieldE_of rfl (bT hc_99)) rfl ?_
          refine TL.v (ltb rfl) (rv_mv (v := v8) h_86) ?_
          refine TL.gyes true (yieldE_of rfl (bT hc_99)) rfl ?_
          refine TL.v (ltb rfl) (rv_mv (v := .int .i64 x41) h_88) ?_
          refine TL.gyes true (yieldE_of rfl (bT hc_99)) rfl ?_
          obtain ⟨x68, hx_116, hp⟩ := bind_some' hp
          refine TL.v3 (ltb rfl) (rv_ix 28 (.tmp 37) (.tmp 38) (v := v8) (i := x41) Try.underlying28 inf_22 rfl rfl rfl (h33).ro hx_116) fun b69 o70 c71 h72 h73 => ?_
          obtain ⟨v74, rfl, h75⟩ := h72
          refine TL.gyes true (yieldE_of rfl (bT hc_99)) rfl ?_
          refine TL.v (ltb rfl) (rv_ld (v := v74) (o := o70) (o' := o70) (j := 0) sc_22 rfl (Src.at_ 0 rfl) h73 rfl rfl) ?_
          refine TL.gyes true (yieldE_of rfl (bT hc_99)) rfl ?_
          refine TL.v (ltb rfl) (rv_mv (v := .int .i64 x14) h_87) ?_
          refine TL.gyes true (yieldE_of rfl (bT hc_99)) rfl ?_
          obtain ⟨x76, hy_117, hp⟩ := bind_some' hp
          refine TL.callC (vs := [v74, .int .i64 x14]) (R := slices_Contains.R x76) [] [F32] rfl cb_60 (ltb rfl) (mc rfl (mc rfl m0)) (fun w hw => slices_Contains_ok (a1 := x68) (a4 := x14) (h75.mono (subB 0 rfl)) hy_117 hw) fun v A' hR_118 => ?_
          obtain ⟨rfl, rfl⟩ := hR_118
          refine TL.norm (L' := [F32]) rfl ?_
          refine TL.gyes true (yieldE_of rfl (bT hc_99)) rfl ?_
          refine TL.v (ltb rfl) (rv_not (b := x76) rfl) ?_
          refine TL.v (ltb rfl) (rv_pickT true (bT hc_99) rfl (v := .bool (!x76)) rfl) ?_
          obtain rfl := Option.some.inj hp
          refine TL.nil (hJ_98 _ ?_ ?_ ?_ ?_ ?_ ?_ ?_ ?_ ?_ ?_)
          · exact h_86
          · exact h_87
          · exact h_88
          · exact h_89
          · exact h_90
          · exact h_91
          · exact h_92
          · exact h_93
          · exact h_94
          · exact rfl
        · rw [if_neg hc_99] at hp
          refine TL.gno false rfl (fun d hd => by cases hd; exact ltb rfl) (yieldE_of rfl (bF hc_99)) rfl ?_
          refine TL.gno false rfl (fun d hd => by cases hd; exact ltb rfl) (yieldE_of rfl (bF hc_99)) rfl ?_
          refine TL.gno false rfl (fun d hd => by cases hd; exact ltb rfl) (yieldE_of rfl (bF hc_99)) rfl ?_
          refine TL.gno false rfl (fun d hd => by cases hd; exact ltb rfl) (yieldE_of rfl (bF hc_99)) rfl ?_
          refine TL.gno false rfl (fun d hd => by cases hd; exact ltb rfl) (yieldE_of rfl (bF hc_99)) rfl ?_
          refine TL.gno false rfl (fun d hd => by cases hd; exact ltb rfl) (yieldE_of rfl (bF hc_99)) rfl ?_
          refine TL.gno false rfl (fun d hd => by cases hd; exact ltb rfl) (yieldE_of rfl (bF hc_99)) rfl ?_
          refine TL.v (ltb rfl) (rv_pickF false (bF hc_99) rfl (v := .bool false) rfl) ?_
          obtain rfl := Option.some.inj hp
          refine TL.nil (hJ_98 _ ?_ ?_ ?_ ?_ ?_ ?_ ?_ ?_ ?_ ?_)
          · exact h_86
          · exact h_87
          · exact h_88
          · exact h_89
          · exact h_90
          · exact h_91
          · exact h_92
          · exact h_93
          · exact h_94
          · exact rfl
      by_cases hc_84 : x41 ≥ 0
      · refine TL.gyes true (yieldE_of rfl (bT hc_84)) rfl ?_
        refine TL.v (ltb rfl) (rv_mv (v := .int .i64 x41) rfl) ?_
        refine TL.gyes true (yieldE_of rfl (bT hc_84)) rfl ?_
        refine TL.v (ltb rfl) (rv_mv (v := v8) h_39) ?_
        refine TL.gyes true (yieldE_of rfl (bT hc_84)) rfl ?_
        refine TL.v (ltb rfl) (rv_lenI (v := v8) Try.underlying28 rfl h33.ro) ?_
        refine TL.gyes true (yieldE_of rfl (bT hc_84)) rfl ?_
        refine TL.v (ltb rfl) (rv_lss (k := .i64) (m := x41) (n := (len x31)) rfl rfl) ?_
        refine TL.v (ltb rfl) (rv_pickT true (bT hc_84) rfl (v := .bool (decide (x41 < (len x31)))) rfl) ?_
        refine TL.nil (hJ_83 _ ?_ ?_ ?_ ?_ ?_ ?_ ?_ ?_ ?_ ?_)
        · exact h_39
        · exact h_40
        · exact rfl
        · exact h_41
        · exact h_42
        · exact h_43
        · exact h_44
        · exact h_45
        · exact h_46
        · exact (bAt hc_84)
      · refine TL.gno false rfl (fun d hd => by cases hd; exact ltb rfl) (yieldE_of rfl (bF hc_84)) rfl ?_
        refine TL.gno false rfl (fun d hd => by cases hd; exact ltb rfl) (yieldE_of rfl (bF hc_84)) rfl ?_
        refine TL.gno false rfl (fun d hd => by cases hd; exact ltb rfl) (yieldE_of rfl (bF hc_84)) rfl ?_
        refine TL.gno false rfl (fun d hd => by cases hd; exact ltb rfl) (yieldE_of rfl (bF hc_84)) rfl ?_
        refine TL.v (ltb rfl) (rv_pickF false (bF hc_84) rfl (v := .bool false) rfl) ?_
        refine TL.nil (hJ_83 _ ?_ ?_ ?_ ?_ ?_ ?_ ?_ ?_ ?_ ?_)
        · exact h_39
        · exact h_40
        · exact rfl
        · exact h_41
        · exact h_42
        · exact h_43
        · exact h_44
        · exact h_45
        · exact h_46
        · exact (bAf hc_84)
    · rw [if_neg hc_63] at hp
      refine TC.condF (bF hc_63) ?_
      refine TC.exit ?_
      refine fun w hw => hJ_57 x31 F32 _ h33 ?_ ?_ ?_ ?_ (ex_ret hp hx_51) w (hw.pick [0])
      · exact h_39
      · exact h_41
      · exact h_42
      · exact h_43
  · rw [if_neg hc_30] at hp
    refine TC.condF (bF hc_30) ?_
    refine TC.exit ?_
    refine fun w hw => hJ_24 x11 F12 _ h13 ?_ (ex_ret hp hx_19) w (hw.pick [0])
    · exact h_11

/-! ### fettle/check.value -/
abbrev check_value.R (r : Bool) (v : Value) (A : List FP) : Prop := .bool r = v ∧ A = []
def check_value (a1 : Int) : Option Bool :=
  some (decide (a1 = 1 ∨ a1 = 2))
theorem check_value_ok {E : World} {H : FP} {w : World} {a1 : Int} {r : Bool}  (hp : check_value a1 = some r) (hst : St E H [] w) :
    Fn Try.prog 102 #[.int .i64 a1] w fun v w' => ∃ A, check_value.R r v A ∧ St E H A w' := by
  refine Fn.body (fn := Try.f102) (args := [.int .i64 a1]) E H [] [.tmp 2] 9 Try.func102 rfl rfl rfl rfl (leb rfl) hst ?_
  unfold check_value at hp
  refine TC.seq fun K_1 hK_2 => ?_
  refine TC.region ?_
  refine TL.v (ltb rfl) (rv_as (v := .bool false) rfl) ?_
  refine TL.nil ?_
  refine TC.go hK_2 ?_
  refine TC.seq fun K_3 hK_4 => ?_
  refine TC.region ?_
  refine TL.v (ltb rfl) (rv_mv (v := .int .i64 a1) rfl) ?_
  refine TL.v (ltb rfl) (rv_eql (k := .i64) (m := a1) (n := 1) rfl rfl) ?_
  refine TL.v (ltb rfl) (rv_mv (v := .bool (decide (a1 = 1))) rfl) ?_
  refine TL.cut 3 fun K_5 hK_6 => ?_
  have hJ_7 : ∀ e_9 : Env, e_9 8 = .bool (decide (a1 = 1 ∨ a1 = 2)) → ∀ w, St E H [] w → K_5 e_9 w := by
    intro e_9 h_10
    refine TL.go hK_6 ?_
    refine TL.v (ltb rfl) (rv_as (v := .bool (decide (a1 = 1 ∨ a1 = 2))) h_10) ?_
    refine TL.nil ?_
    refine TC.go hK_4 ?_
    refine TC.ret ?_
    obtain rfl := Option.some.inj hp
    exact fun w hw => retOk ⟨rfl, rfl⟩ (hw.pick [])
  by_cases hc_8 : a1 = 1
  · refine TL.gno true rfl (fun d hd => by cases hd; exact ltb rfl) (yieldE_of rfl (bT hc_8)) rfl ?_
    refine TL.gno true rfl (fun d hd => by cases hd; exact ltb rfl) (yieldE_of rfl (bT hc_8)) rfl ?_
    refine TL.v (ltb rfl) (rv_pickT true (bT hc_8) rfl (v := .bool true) rfl) ?_
    refine TL.nil (hJ_7 _ ?_)
    · exact (bOt hc_8)
  · refine TL.gyes false (yieldE_of rfl (bF hc_8)) rfl ?_
    refine TL.v (ltb rfl) (rv_mv (v := .int .i64 a1) rfl) ?_
    refine TL.gyes false (yieldE_of rfl (bF hc_8)) rfl ?_
    refine TL.v (ltb rfl) (rv_eql (k := .i64) (m := a1) (n := 2) rfl rfl) ?_
    refine TL.v (ltb rfl) (rv_pickF false (bF hc_8) rfl (v := .bool (decide (a1 = 2))) rfl) ?_
    refine TL.nil (hJ_7 _ ?_)
    · exact (bOf hc_8)

/-! ### fettle/check.typed$1 -/
abbrev check_typed_1.R (r : Bool) (v : Value) (A : List FP) : Prop := .bool r = v ∧ A = []
def check_typed_1 (a1 : Int) : Option Bool :=
  (check_value a1).bind fun x2 =>
  some (!x2)
theorem check_typed_1_ok {E : World} {H : FP} {w : World} {a1 : Int} {r : Bool}  (hp : check_typed_1 a1 = some r) (hst : St E H [] w) :
    Fn Try.prog 101 #[.int .i64 a1] w fun v w' => ∃ A, check_typed_1.R r v A ∧ St E H A w' := by
  refine Fn.body (fn := Try.f101) (args := [.int .i64 a1]) E H [] [.tmp 2] 6 Try.func101 rfl rfl rfl rfl (leb rfl) hst ?_
  unfold check_typed_1 at hp
  refine TC.seq fun K_1 hK_2 => ?_
  refine TC.region ?_
  refine TL.v (ltb rfl) (rv_as (v := .bool false) rfl) ?_
  refine TL.nil ?_
  refine TC.go hK_2 ?_
  refine TC.seq fun K_3 hK_4 => ?_
  refine TC.region ?_
  refine TL.v (ltb rfl) (rv_mv (v := .int .i64 a1) rfl) ?_
  obtain ⟨x2, hy_5, hp⟩ := bind_some' hp
  refine TL.callC (vs := [.int .i64 a1]) (R := check_value.R x2) [] [] rfl cb_102 (ltb rfl) (mc rfl m0) (fun w hw => check_value_ok (a1 := a1) hy_5 hw) fun v A' hR_6 => ?_
  obtain ⟨rfl, rfl⟩ := hR_6
  refine TL.norm (L' := []) rfl ?_
  refine TL.v (ltb rfl) (rv_not (b := x2) rfl) ?_
  refine TL.v (ltb rfl) (rv_as (v := .bool (!x2)) rfl) ?_
  refine TL.nil ?_
  refine TC.go hK_4 ?_
  refine TC.ret ?_
  obtain rfl := Option.some.inj hp
  exact fun w hw => retOk ⟨rfl, rfl⟩ (hw.pick [])

/-! ### slices.IndexFunc[[]int,int] -/
abbrev slices_IndexFunc_check_typed_1.R (r : Int) (v : Value) (A : List FP) : Prop := .int .i64 r = v ∧ A = []
def slices_IndexFunc_check_typed_1.nx16  : Option Int :=
  some (-1)
def slices_IndexFunc_check_typed_1.bd16 (a1 : List Int) (x5 : Int) : Option (Ex (Ex Int Unit) Int) :=
  if x5 < (len a1) then
    (idx a1 x5).bind fun x6 =>
    (check_typed_1 x6).bind fun x12 =>
    if x12 = true then
      some (.ret (.ret x5))
    else
      some (.go (w64 (x5 + 1)))
  else
    some (.ret (.go ()))
def slices_IndexFunc_check_typed_1 (a1 : List Int) : Option Int :=
  (whl (fun (s : Int) => slices_IndexFunc_check_typed_1.bd16 a1 s) FUEL 0).bind fun z =>
  match z with
    | .ret r => some r
    | .go p => slices_IndexFunc_check_typed_1.nx16
theorem slices_IndexFunc_check_typed_1_ok {E : World} {H : FP} {w : World} {a1 : List Int} {v2 : Value} {r : Int} (h3 : SlI (kInt .i64) H a1 v2) (hp : slices_IndexFunc_check_typed_1 a1 = some r) (hst : St E H [] w) :
    Fn Try.prog 109 #[v2, .func (.func 101) #[] #[]] w fun v w' => ∃ A, slices_IndexFunc_check_typed_1.R r v A ∧ St E H A w' := by
  refine Fn.body (fn := Try.f109) (args := [v2, .func (.func 101) #[] #[]]) E H [] [.tmp 4] 19 Try.func109 rfl rfl rfl rfl (leb rfl) hst ?_
  unfold slices_IndexFunc_check_typed_1 at hp
  refine TC.seq fun K_1 hK_2 => ?_
  refine TC.region ?_
  refine TL.v (ltb rfl) (rv_as (v := .int .i64 0) rfl) ?_
  refine TL.nil ?_
  refine TC.go hK_2 ?_
  refine TC.seq fun K_3 hK_4 => ?_
  refine TC.seq fun K_5 hK_6 => ?_
  refine TC.region ?_
  refine TL.v (ltb rfl) (rv_mv (v := v2) rfl) ?_
  refine TL.v (ltb rfl) (rv_lenI (v := v2) Try.underlying22 rfl h3) ?_
  refine TL.v (ltb rfl) (rv_mv (v := .int .i64 0) rfl) ?_
  refine TL.nil ?_
  refine TC.go hK_6 ?_
  refine TC.block ?_
  obtain ⟨z_12, hz_13, hr_14⟩ := bind_some' hp
  clear hp
  have hJ_20 : ∀ (e_17 : Env) (hq_21 : .go () = z_12), ∀ w, St E H [] w → K_3 e_17 w := by
    intro e_17 hq_21
    subst hq_21
    replace hp : slices_IndexFunc_check_typed_1.nx16 = some r := hr_14
    unfold slices_IndexFunc_check_typed_1.nx16 at hp
    refine TC.go hK_4 ?_
    refine TC.seq fun K_18 hK_19 => ?_
    refine TC.region ?_
    refine TL.v (ltb rfl) (rv_as (v := .int .i64 (-1)) rfl) ?_
    refine TL.nil ?_
    refine TC.go hK_19 ?_
    refine TC.ret ?_
    obtain rfl := Option.some.inj hp
    exact fun w hw => retOk ⟨rfl, rfl⟩ (hw.pick [])
  refine TC.pk' [] (L' := []) rfl ?_
  refine TC.loopW (r := z_12) (fun (x5 : Int) (e_7 : Env) (L_39 : List FP) => e_7 0 = v2 ∧ e_7 1 = .func (.func 101) #[] #[] ∧ e_7 7 = .int .i64 (len a1) ∧ e_7 8 = .int .i64 x5 ∧ L_39 = []) ?_ FUEL _ _ _ hz_13 ⟨rfl, rfl, rfl, rfl, rfl⟩
  rintro x5 e_7 L_39 ⟨h_8, h_9, h_10, h_11, rfl⟩ x_15 hp hx_16
  replace hp : slices_IndexFunc_check_typed_1.bd16 a1 x5 = some x_15 := hp
  unfold slices_IndexFunc_check_typed_1.bd16 at hp
  refine TC.seq fun K_22 hK_23 => ?_
  refine TC.region ?_
  refine TL.v (ltb rfl) (rv_lss (k := .i64) (m := x5) (n := (len a1)) h_11 h_10) ?_
  refine TL.nil ?_
  refine TC.go hK_23 ?_
  refine TC.seq fun K_24 hK_25 => ?_
  by_cases hc_26 : x5 < (len a1)
  · rw [if_pos hc_26] at hp
    refine TC.condT (bT hc_26) ?_
    refine TC.skip ?_
    refine TC.go hK_25 ?_
    refine TC.seq fun K_27 hK_28 => ?_
    refine TC.block ?_
    refine TC.seq fun K_29 hK_30 => ?_
    refine TC.region ?_
    refine TL.v (ltb rfl) (rv_mv (v := .int .i64 x5) h_11) ?_
    refine TL.v (ltb rfl) (rv_as (v := .int .i64 x5) rfl) ?_
    refine TL.nil ?_
    refine TC.go hK_30 ?_
    refine TC.seq fun K_31 hK_32 => ?_
    refine TC.region ?_
    refine TL.v (ltb rfl) (rv_mv (v := .func (.func 101) #[] #[]) h_9) ?_
    refine TL.v (ltb rfl) (rv_mv (v := v2) h_8) ?_
    refine TL.v (ltb rfl) (rv_mv (v := .int .i64 x5) rfl) ?_
    obtain ⟨x6, hx_33, hp⟩ := bind_some' hp
    refine TL.v3 (ltb rfl) (rv_ix 22 (.tmp 12) (.tmp 13) (v := v2) (i := x5) Try.underlying22 inf_3 rfl rfl rfl h3 hx_33) fun b7 o8 c9 h10 h11 => ?_
    obtain rfl := h10
    refine TL.v (ltb rfl) (rv_ld (v := .int .i64 x6) (o := o8) (o' := o8) (j := 0) sc_3 rfl Src.H h11 rfl rfl) ?_
    obtain ⟨x12, hy_34, hp⟩ := bind_some' hp
    refine TL.callvC (vs := [.int .i64 x6]) (caps := []) (R := check_typed_1.R x12) [] [] rfl cb_101 (ltb rfl) rfl (mc rfl m0) (fun w hw => check_typed_1_ok (a1 := x6) hy_34 hw) fun v A' hR_35 => ?_
    obtain ⟨rfl, rfl⟩ := hR_35
    refine TL.norm (L' := []) rfl ?_
    refine TL.nil ?_
    refine TC.go hK_32 ?_
    by_cases hc_36 : x12 = true
    · rw [if_pos hc_36] at hp
      refine TC.condT (bbT hc_36) ?_
      refine TC.seq fun K_37 hK_38 => ?_
      refine TC.region ?_
      refine TL.v (ltb rfl) (rv_mv (v := .int .i64 x5) rfl) ?_
      refine TL.v (ltb rfl) (rv_as (v := .int .i64 x5) rfl) ?_
      refine TL.nil ?_
      refine TC.go hK_38 ?_
      refine TC.ret ?_
      obtain rfl := ex_ret hp hx_16
      obtain rfl := Option.some.inj hr_14
      exact fun w hw => retOk ⟨rfl, rfl⟩ (hw.pick [])
    · rw [if_neg hc_36] at hp
      refine TC.condF (bbF hc_36) ?_
      refine TC.skip ?_
      refine TC.go hK_28 ?_
      refine TC.region ?_
      refine TL.v (ltb rfl) (rv_add (k := .i64) (m := x5) (n := 1) h_11 rfl) ?_
      refine TL.v (ltb rfl) (rv_mv (v := .int .i64 (w64 (x5 + 1))) rfl) ?_
      refine TL.nil ?_
      exact fun w hw => goOk hp ⟨h_8, h_9, h_10, rfl, rfl⟩ (hw.pick [])
  · rw [if_neg hc_26] at hp
    refine TC.condF (bF hc_26) ?_
    refine TC.exit ?_
    refine fun w hw => hJ_20 _ (ex_ret hp hx_16) w (hw.pick [])

/-! ### slices.ContainsFunc[[]int,int] -/
abbrev slices_ContainsFunc_check_typed_1.R (r : Bool) (v : Value) (A : List FP) : Prop := .bool r = v ∧ A = []
def slices_ContainsFunc_check_typed_1 (a1 : List Int) : Option Bool :=
  (slices_IndexFunc_check_typed_1 a1).bind fun x5 =>
  some (decide (x5 ≥ 0))
theorem slices_ContainsFunc_check_typed_1_ok {E : World} {H : FP} {w : World} {a1 : List Int} {v2 : Value} {r : Bool} (h3 : SlI (kInt .i64) H a1 v2) (hp : slices_ContainsFunc_check_typed_1 a1 = some r) (hst : St E H [] w) :
    Fn Try.prog 103 #[v2, .func (.func 101) #[] #[]] w fun v w' => ∃ A, slices_ContainsFunc_check_typed_1.R r v A ∧ St E H A w' := by
  refine Fn.body (fn := Try.f103) (args := [v2, .func (.func 101) #[] #[]]) E H [] [.tmp 4] 9 Try.func103 rfl rfl rfl rfl (leb rfl) hst ?_
  unfold slices_ContainsFunc_check_typed_1 at hp
  refine TC.seq fun K_1 hK_2 => ?_
  refine TC.region ?_
  refine TL.v (ltb rfl) (rv_as (v := .bool false) rfl) ?_
  refine TL.nil ?_
  refine TC.go hK_2 ?_
  refine TC.seq fun K_3 hK_4 => ?_
  refine TC.region ?_
  refine TL.v (ltb rfl) (rv_mv (v := v2) rfl) ?_
  refine TL.v (ltb rfl) (rv_mv (v := .func (.func 101) #[] #[]) rfl) ?_
  obtain ⟨x5, hy_5, hp⟩ := bind_some' hp
  refine TL.callC (vs := [v2, .func (.func 101) #[] #[]]) (R := slices_IndexFunc_check_typed_1.R x5) [] [] rfl cb_109 (ltb rfl) (mc rfl (mc rfl m0)) (fun w hw => slices_IndexFunc_check_typed_1_ok (a1 := a1) (h3.mono subH) hy_5 hw) fun v A' hR_6 => ?_
  obtain ⟨rfl, rfl⟩ := hR_6
  refine TL.norm (L' := []) rfl ?_
  refine TL.v (ltb rfl) (rv_geq (k := .i64) (m := x5) (n := 0) rfl rfl) ?_
  refine TL.v (ltb rfl) (rv_as (v := .bool (decide (x5 ≥ 0))) rfl) ?_
  refine TL.nil ?_
  refine TC.go hK_4 ?_
  refine TC.ret ?_
  obtain rfl := Option.some.inj hp
  exact fun w hw => retOk ⟨rfl, rfl⟩ (hw.pick [])

/-! ### fettle/check.small -/
abbrev check_small.R (r : Bool) (v : Value) (A : List FP) : Prop := .bool r = v ∧ A = []
def check_small.nx19 (a1 : PFunc) (x9 : Int) : Option Bool :=
  some (decide ((((len a1.blocks) ≥ 1 ∧ (len a1.blocks) ≤ 64) ∧ (len a1.regs) ≤ 256) ∧ x9 ≤ 256))
def check_small.bd19 (a1 : PFunc) (x7 : Int) (x8 : Int) : Option (Ex Int (Int × Int)) :=
  if x8 < (len a1.blocks) then
    (idx a1.blocks x8).bind fun x10 =>
    some (.go ((w64 (x7 + (w64 ((w64 ((len x10.phis) + (len x10.ins))) + 1)))), (w64 (x8 + 1))))
  else
    some (.ret x7)
def check_small (a1 : PFunc) : Option Bool :=
  (whl (fun (s : (Int × Int)) => check_small.bd19 a1 s.1 s.2) FUEL (0, 0)).bind fun z =>
  check_small.nx19 a1 z
theorem check_small_ok {E : World} {H : FP} {w : World} {a1 : PFunc} {v2 : Value} {v4 : Value} {r : Bool} (h3 : SlI (kInt .i64) H a1.regs v2) (h5 : SlI kBlock H a1.blocks v4) (hp : check_small a1 = some r) (hst : St E H [] w) :
    Fn Try.prog 93 #[.agg #[.int .i64 a1.params, .int .i64 a1.result, v2, v4]] w fun v w' => ∃ A, check_small.R r v A ∧ St E H A w' := by
  refine Fn.body (fn := Try.f93) (args := [.agg #[.int .i64 a1.params, .int .i64 a1.result, v2, v4]]) E H [] [.tmp 2] 44 Try.func93 rfl rfl rfl rfl (leb rfl) hst ?_
  unfold check_small at hp
  refine TC.seq fun K_1 hK_2 => ?_
  refine TC.region ?_
  refine TL.box (cs := [.int .i64 a1.params, .int .i64 a1.result, v2, v4]) (v := .agg #[.int .i64 a1.params, .int .i64 a1.result, v2, v4]) (ltb rfl) rfl rfl fun b6 => ?_
  refine TL.v (ltb rfl) (rv_as (v := .bool false) rfl) ?_
  refine TL.nil ?_
  refine TC.go hK_2 ?_
  refine TC.seq fun K_3 hK_4 => ?_
  refine TC.region ?_
  refine TL.v (ltb rfl) (rv_as (v := .int .i64 0) rfl) ?_
  refine TL.nil ?_
  refine TC.go hK_4 ?_
  refine TC.seq fun K_5 hK_6 => ?_
  refine TC.seq fun K_7 hK_8 => ?_
  refine TC.region ?_
  refine TL.v (ltb rfl) (rv_fa (b := b6) (o := 0) fa_25_3 rfl) ?_
  refine TL.v (ltb rfl) (rv_ld (v := v4) (o := 3) (o' := 0) (j := 3) sc_23 rfl (Src.at_ 0 rfl) (bx_cells b6 25 _) rfl rfl) ?_
  refine TL.v (ltb rfl) (rv_lenI (v := v4) Try.underlying23 rfl h5) ?_
  refine TL.v (ltb rfl) (rv_mv (v := .int .i64 0) rfl) ?_
  refine TL.nil ?_
  refine TC.go hK_8 ?_
  refine TC.block ?_
  obtain ⟨z_15, hz_16, hr_17⟩ := bind_some' hp
  clear hp
  have hJ_46 : ∀ (x9 : Int) (e_20 : Env) (h_21 : e_20 1 = .pointer (some ⟨b6, 0, none⟩)) (h_22 : e_20 3 = .int .i64 x9) (hq_47 : x9 = z_15), ∀ w, St E H [bx b6 25 [.int .i64 a1.params, .int .i64 a1.result, v2, v4]] w → K_5 e_20 w := by
    intro x9 e_20 h_21 h_22 hq_47
    subst hq_47
    replace hp : check_small.nx19 a1 x9 = some r := hr_17
    unfold check_small.nx19 at hp
    refine TC.go hK_6 ?_
    refine TC.seq fun K_23 hK_24 => ?_
    refine TC.region ?_
    refine TL.v (ltb rfl) (rv_fa (b := b6) (o := 0) fa_25_3 h_21) ?_
    refine TL.v (ltb rfl) (rv_ld (v := v4) (o := 3) (o' := 0) (j := 3) sc_23 rfl (Src.at_ 0 rfl) (bx_cells b6 25 _) rfl rfl) ?_
    refine TL.v (ltb rfl) (rv_lenI (v := v4) Try.underlying23 rfl h5) ?_
    refine TL.v (ltb rfl) (rv_geq (k := .i64) (m := (len a1.blocks)) (n := 1) rfl rfl) ?_
    refine TL.v (ltb rfl) (rv_mv (v := .bool (decide ((len a1.blocks) ≥ 1))) rfl) ?_
    refine TL.cut 5 fun K_25 hK_26 => ?_
    have hJ_27 : ∀ e_29 : Env, e_29 1 = .pointer (some ⟨b6, 0, none⟩) → e_29 3 = .int .i64 x9 → e_29 33 = .bool (decide ((len a1.blocks) ≥ 1 ∧ (len a1.blocks) ≤ 64)) → ∀ w, St E H [bx b6 25 [.int .i64 a1.params, .int .i64 a1.result, v2, v4]] w → K_25 e_29 w := by
      intro e_29 h_30 h_31 h_32
      refine TL.go hK_26 ?_
      refine TL.v (ltb rfl) (rv_mv (v := .bool (decide ((len a1.blocks) ≥ 1 ∧ (len a1.blocks) ≤ 64))) h_32) ?_
      refine TL.cut 5 fun K_33 hK_34 => ?_
      have hJ_35 : ∀ e_37 : Env, e_37 3 = .int .i64 x9 → e_37 39 = .bool (decide (((len a1.blocks) ≥ 1 ∧ (len a1.blocks) ≤ 64) ∧ (len a1.regs) ≤ 256)) → ∀ w, St E H [bx b6 25 [.int .i64 a1.params, .int .i64 a1.result, v2, v4]] w → K_33 e_37 w := by
        intro e_37 h_38 h_39
        refine TL.go hK_34 ?_
        refine TL.v (ltb rfl) (rv_mv (v := .bool (decide (((len a1.blocks) ≥ 1 ∧ (len a1.blocks) ≤ 64) ∧ (len a1.regs) ≤ 256))) h_39) ?_
        refine TL.cut 3 fun K_40 hK_41 => ?_
        have hJ_42 : ∀ e_44 : Env, e_44 43 = .bool (decide ((((len a1.blocks) ≥ 1 ∧ (len a1.blocks) ≤ 64) ∧ (len a1.regs) ≤ 256) ∧ x9 ≤ 256)) → ∀ w, St E H [bx b6 25 [.int .i64 a1.params, .int .i64 a1.result, v2, v4]] w → K_40 e_44 w := by
          intro e_44 h_45
          refine TL.go hK_41 ?_
          refine TL.v (ltb rfl) (rv_as (v := .bool (decide ((((len a1.blocks) ≥ 1 ∧ (len a1.blocks) ≤ 64) ∧ (len a1.regs) ≤ 256) ∧ x9 ≤ 256))) h_45) ?_
          refine TL.nil ?_
          refine TC.go hK_24 ?_
          refine TC.ret ?_
          obtain rfl := Option.some.inj hp
          exact fun w hw => retOk ⟨rfl, rfl⟩ (hw.pick [])
        by_cases hc_43 : ((len a1.blocks) ≥ 1 ∧ (len a1.blocks) ≤ 64) ∧ (len a1.regs) ≤ 256
        · refine TL.gyes true (yieldE_of rfl (bT hc_43)) rfl ?_
          refine TL.v (ltb rfl) (rv_mv (v := .int .i64 x9) h_38) ?_
          refine TL.gyes true (yieldE_of rfl (bT hc_43)) rfl ?_
          refine TL.v (ltb rfl) (rv_leq (k := .i64) (m := x9) (n := 256) rfl rfl) ?_
          refine TL.v (ltb rfl) (rv_pickT true (bT hc_43) rfl (v := .bool (decide (x9 ≤ 256))) rfl) ?_
          refine TL.nil (hJ_42 _ ?_)
          · exact (bAt hc_43)
        · refine TL.gno false rfl (fun d hd => by cases hd; exact ltb rfl) (yieldE_of rfl (bF hc_43)) rfl ?_
          refine TL.gno false rfl (fun d hd => by cases hd; exact ltb rfl) (yieldE_of rfl (bF hc_43)) rfl ?_
          refine TL.v (ltb rfl) (rv_pickF false (bF hc_43) rfl (v := .bool false) rfl) ?_
          refine TL.nil (hJ_42 _ ?_)
          · exact (bAf hc_43)
      by_cases hc_36 : (len a1.blocks) ≥ 1 ∧ (len a1.blocks) ≤ 64
      · refine TL.gyes true (yieldE_of rfl (bT hc_36)) rfl ?_
        refine TL.v (ltb rfl) (rv_fa (b := b6) (o := 0) fa_25_2 h_30) ?_
        refine TL.gyes true (yieldE_of rfl (bT hc_36)) rfl ?_
        refine TL.v (ltb rfl) (rv_ld (v := v2) (o := 2) (o' := 0) (j := 2) sc_22 rfl (Src.at_ 0 rfl) (bx_cells b6 25 _) rfl rfl) ?_
        refine TL.gyes true (yieldE_of rfl (bT hc_36)) rfl ?_
        refine TL.v (ltb rfl) (rv_lenI (v := v2) Try.underlying22 rfl h3) ?_
        refine TL.gyes true (yieldE_of rfl (bT hc_36)) rfl ?_
        refine TL.v (ltb rfl) (rv_leq (k := .i64) (m := (len a1.regs)) (n := 256) rfl rfl) ?_
        refine TL.v (ltb rfl) (rv_pickT true (bT hc_36) rfl (v := .bool (decide ((len a1.regs) ≤ 256))) rfl) ?_
        refine TL.nil (hJ_35 _ ?_ ?_)
        · exact h_31
        · exact (bAt hc_36)
      · refine TL.gno false rfl (fun d hd => by cases hd; exact ltb rfl) (yieldE_of rfl (bF hc_36)) rfl ?_
        refine TL.gno false rfl (fun d hd => by cases hd; exact ltb rfl) (yieldE_of rfl (bF hc_36)) rfl ?_
        refine TL.gno false rfl (fun d hd => by cases hd; exact ltb rfl) (yieldE_of rfl (bF hc_36)) rfl ?_
        refine TL.gno false rfl (fun d hd => by cases hd; exact ltb rfl) (yieldE_of rfl (bF hc_36)) rfl ?_
        refine TL.v (ltb rfl) (rv_pickF false (bF hc_36) rfl (v := .bool false) rfl) ?_
        refine TL.nil (hJ_35 _ ?_ ?_)
        · exact h_31
        · exact (bAf hc_36)
    by_cases hc_28 : (len a1.blocks) ≥ 1
    · refine TL.gyes true (yieldE_of rfl (bT hc_28)) rfl ?_
      refine TL.v (ltb rfl) (rv_fa (b := b6) (o := 0) fa_25_3 h_21) ?_
      refine TL.gyes true (yieldE_of rfl (bT hc_28)) rfl ?_
      refine TL.v (ltb rfl) (rv_ld (v := v4) (o := 3) (o' := 0) (j := 3) sc_23 rfl (Src.at_ 0 rfl) (bx_cells b6 25 _) rfl rfl) ?_
      refine TL.gyes true (yieldE_of rfl (bT hc_28)) rfl ?_
      refine TL.v (ltb rfl) (rv_lenI (v := v4) Try.underlying23 rfl h5) ?_
      refine TL.gyes true (yieldE_of rfl (bT hc_28)) rfl ?_
      refine TL.v (ltb rfl) (rv_leq (k := .i64) (m := (len a1.blocks)) (n := 64) rfl rfl) ?_
      refine TL.v (ltb rfl) (rv_pickT true (bT hc_28) rfl (v := .bool (decide ((len a1.blocks) ≤ 64))) rfl) ?_
      refine TL.nil (hJ_27 _ ?_ ?_ ?_)
      · exact h_21
      · exact h_22
      · exact (bAt hc_28)
    · refine TL.gno false rfl (fun d hd => by cases hd; exact ltb rfl) (yieldE_of rfl (bF hc_28)) rfl ?_
      refine TL.gno false rfl (fun d hd => by cases hd; exact ltb rfl) (yieldE_of rfl (bF hc_28)) rfl ?_
      refine TL.gno false rfl (fun d hd => by cases hd; exact ltb rfl) (yieldE_of rfl (bF hc_28)) rfl ?_
      refine TL.gno false rfl (fun d hd => by cases hd; exact ltb rfl) (yieldE_of rfl (bF hc_28)) rfl ?_
      refine TL.v (ltb rfl) (rv_pickF false (bF hc_28) rfl (v := .bool false) rfl) ?_
      refine TL.nil (hJ_27 _ ?_ ?_ ?_)
      · exact h_21
      · exact h_22
      · exact (bAf hc_28)
  refine TC.pk' [0] (L' := [bx b6 25 [.int .i64 a1.params, .int .i64 a1.result, v2, v4]]) rfl ?_
  refine TC.loopW (r := z_15) (fun (s : (Int × Int)) (e_9 : Env) (L_58 : List FP) => ∃ (x7 : Int) (x8 : Int), s = (x7, x8) ∧ e_9 1 = .pointer (some ⟨b6, 0, none⟩) ∧ e_9 3 = .int .i64 x7 ∧ e_9 7 = v4 ∧ e_9 8 = .int .i64 (len a1.blocks) ∧ e_9 9 = .int .i64 x8 ∧ L_58 = [bx b6 25 [.int .i64 a1.params, .int .i64 a1.result, v2, v4]]) ?_ FUEL _ _ _ hz_16 ⟨0, 0, rfl, rfl, rfl, rfl, rfl, rfl, rfl⟩
  rintro s e_9 L_58 ⟨x7, x8, rfl, h_10, h_11, h_12, h_13, h_14, rfl⟩ x_18 hp hx_19
  replace hp : check_small.bd19 a1 x7 x8 = some x_18 := hp
  unfold check_small.bd19 at hp
  refine TC.seq fun K_48 hK_49 => ?_
  refine TC.region ?_
  refine TL.v (ltb rfl) (rv_lss (k := .i64) (m := x8) (n := (len a1.blocks)) h_14 h_13) ?_
  refine TL.nil ?_
  refine TC.go hK_49 ?_
  refine TC.seq fun K_50 hK_51 => ?_
  by_cases hc_52 : x8 < (len a1.blocks)
  · rw [if_pos hc_52] at hp
    refine TC.condT (bT hc_52) ?_
    refine TC.skip ?_
    refine TC.go hK_51 ?_
    refine TC.seq fun K_53 hK_54 => ?_
    refine TC.block ?_
    refine TC.seq fun K_55 hK_56 => ?_
    refine TC.region ?_
    obtain ⟨x10, hx_57, hp⟩ := bind_some' hp
    refine TL.v3 (ltb rfl) (rv_ix 23 (.tmp 7) (.tmp 9) (v := v4) (i := x8) Try.underlying23 inf_85 rfl h_12 h_14 h5 hx_57) fun b11 o12 c13 h14 h15 => ?_
    obtain ⟨v16, v18, v20, rfl, h17, h19, h21⟩ := h14
    refine TL.v (ltb rfl) (rv_lda (o := o12) (o' := o12) (j := 0) (ds := [v16, v18, .int .i64 x10.term.kind, .int .i64 x10.term.arg, v20]) ag_85 rfl Src.H h15 rfl rfl rfl) ?_
    refine TL.alloc (cs := [.slice none 0 0, .slice none 0 0, .int .i64 0, .int .i64 0, .slice none 0 0]) inf_85 (ltb rfl) rfl fun b22 => ?_
    refine TL.stB (ds := [v16, v18, .int .i64 x10.term.kind, .int .i64 x10.term.arg, v20]) (o := 0) (cs := [.slice none 0 0, .slice none 0 0, .int .i64 0, .int .i64 0, .slice none 0 0]) (b := b22) (u := .agg #[v16, v18, .int .i64 x10.term.kind, .int .i64 x10.term.arg, v20]) 0 rfl ms_85 rfl rfl rfl (oc (h17).one (oc (h19).one (oc rfl (oc rfl (oc (h21).one oc0))))) (leb rfl) ?_
    refine TL.norm (L' := [bx b22 85 [v16, v18, .int .i64 x10.term.kind, .int .i64 x10.term.arg, v20], bx b6 25 [.int .i64 a1.params, .int .i64 a1.result, v2, v4]]) rfl ?_
    refine TL.nil ?_
    refine TC.go hK_56 ?_
    refine TC.region ?_
    refine TL.v (ltb rfl) (rv_mv (v := .int .i64 x7) h_11) ?_
    refine TL.v (ltb rfl) (rv_fa (b := b22) (o := 0) fa_85_0 rfl) ?_
    refine TL.v (ltb rfl) (rv_ld (v := v16) (o := 0) (o' := 0) (j := 0) sc_82 rfl (Src.at_ 0 rfl) (bx_cells b22 85 _) rfl rfl) ?_
    refine TL.v (ltb rfl) (rv_lenI (v := v16) Try.underlying82 rfl h17) ?_
    refine TL.v (ltb rfl) (rv_fa (b := b22) (o := 0) fa_85_1 rfl) ?_
    refine TL.v (ltb rfl) (rv_ld (v := v18) (o := 1) (o' := 0) (j := 1) sc_83 rfl (Src.at_ 0 rfl) (bx_cells b22 85 _) rfl rfl) ?_
    refine TL.v (ltb rfl) (rv_lenI (v := v18) Try.underlying83 rfl h19) ?_
    refine TL.v (ltb rfl) (rv_add (k := .i64) (m := (len x10.phis)) (n := (len x10.ins)) rfl rfl) ?_
    refine TL.v (ltb rfl) (rv_add (k := .i64) (m := (w64 ((len x10.phis) + (len x10.ins)))) (n := 1) rfl rfl) ?_
    refine TL.v (ltb rfl) (rv_add (k := .i64) (m := x7) (n := (w64 ((w64 ((len x10.phis) + (len x10.ins))) + 1))) rfl rfl) ?_
    refine TL.v (ltb rfl) (rv_as (v := .int .i64 (w64 (x7 + (w64 ((w64 ((len x10.phis) + (len x10.ins))) + 1))))) rfl) ?_
    refine TL.nil ?_
    refine TC.go hK_54 ?_
    refine TC.region ?_
    refine TL.v (ltb rfl) (rv_add (k := .i64) (m := x8) (n := 1) h_14 rfl) ?_
    refine TL.v (ltb rfl) (rv_mv (v := .int .i64 (w64 (x8 + 1))) rfl) ?_
    refine TL.nil ?_
    exact fun w hw => goOk hp ⟨(w64 (x7 + (w64 ((w64 ((len x10.phis) + (len x10.ins))) + 1)))), (w64 (x8 + 1)), rfl, h_10, rfl, h_12, h_13, rfl, rfl⟩ (hw.pick [1])
  · rw [if_neg hc_52] at hp
    refine TC.condF (bF hc_52) ?_
    refine TC.exit ?_
    refine fun w hw => hJ_46 x7 _ ?_ ?_ (ex_ret hp hx_19) w (hw.pick [0])
    · exact h_10
    · exact h_11

/-! ### fettle/check.typed -/
abbrev check_typed.R (r : Bool) (v : Value) (A : List FP) : Prop := .bool r = v ∧ A = []
def check_typed (a1 : PFunc) : Option Bool :=
  (slices_ContainsFunc_check_typed_1 a1.regs).bind fun x7 =>
  (if (((!x7) = true ∧ a1.params ≥ 0) ∧ a1.params ≤ 8) ∧ a1.params ≤ (len a1.regs) then (if a1.result = 0 then some true else (check_value a1.result).bind fun x10 =>
  some x10).bind fun t9 =>
  some t9 else some false).bind fun t8 =>
  some t8
theorem check_typed_ok {E : World} {H : FP} {w : World} {a1 : PFunc} {v2 : Value} {v4 : Value} {r : Bool} (h3 : SlI (kInt .i64) H a1.regs v2) (h5 : SlI kBlock H a1.blocks v4) (hp : check_typed a1 = some r) (hst : St E H [] w) :
    Fn Try.prog 94 #[.agg #[.int .i64 a1.params, .int .i64 a1.result, v2, v4]] w fun v w' => ∃ A, check_typed.R r v A ∧ St E H A w' := by
  refine Fn.body (fn := Try.f94) (args := [.agg #[.int .i64 a1.params, .int .i64 a1.result, v2, v4]]) E H [] [.tmp 2] 37 Try.func94 rfl rfl rfl rfl (leb rfl) hst ?_
  unfold check_typed at hp
  refine TC.seq fun K_1 hK_2 => ?_
  refine TC.region ?_
  refine TL.box (cs := [.int .i64 a1.params, .int .i64 a1.result, v2, v4]) (v := .agg #[.int .i64 a1.params, .int .i64 a1.result, v2, v4]) (ltb rfl) rfl rfl fun b6 => ?_
  refine TL.v (ltb rfl) (rv_as (v := .bool false) rfl) ?_
  refine TL.nil ?_
  refine TC.go hK_2 ?_
  refine TC.seq fun K_3 hK_4 => ?_
  refine TC.region ?_
  refine TL.v (ltb rfl) (rv_as (v := .func (.func 101) #[] #[]) rfl) ?_
  refine TL.nil ?_
  refine TC.go hK_4 ?_
  refine TC.seq fun K_5 hK_6 => ?_
  refine TC.region ?_
  refine TL.v (ltb rfl) (rv_fa (b := b6) (o := 0) fa_25_2 rfl) ?_
  refine TL.v (ltb rfl) (rv_ld (v := v2) (o := 2) (o' := 0) (j := 2) sc_22 rfl (Src.at_ 0 rfl) (bx_cells b6 25 _) rfl rfl) ?_
  refine TL.v (ltb rfl) (rv_mv (v := .func (.func 101) #[] #[]) rfl) ?_
  obtain ⟨x7, hy_7, hp⟩ := bind_some' hp
  refine TL.callC (vs := [v2, .func (.func 101) #[] #[]]) (R := slices_ContainsFunc_check_typed_1.R x7) [] [bx b6 25 [.int .i64 a1.params, .int .i64 a1.result, v2, v4]] rfl cb_103 (ltb rfl) (mc rfl (mc rfl m0)) (fun w hw => slices_ContainsFunc_check_typed_1_ok (a1 := a1.regs) (h3.mono subH) hy_7 hw) fun v A' hR_8 => ?_
  obtain ⟨rfl, rfl⟩ := hR_8
  refine TL.norm (L' := [bx b6 25 [.int .i64 a1.params, .int .i64 a1.result, v2, v4]]) rfl ?_
  refine TL.v (ltb rfl) (rv_not (b := x7) rfl) ?_
  refine TL.v (ltb rfl) (rv_mv (v := .bool (!x7)) rfl) ?_
  refine TL.cut 4 fun K_9 hK_10 => ?_
  have hJ_11 : ∀ e_13 : Env, e_13 1 = .pointer (some ⟨b6, 0, none⟩) → e_13 13 = .bool (decide ((!x7) = true ∧ a1.params ≥ 0)) → ∀ w, St E H [bx b6 25 [.int .i64 a1.params, .int .i64 a1.result, v2, v4]] w → K_9 e_13 w := by
    intro e_13 h_14 h_15
    refine TL.go hK_10 ?_
    refine TL.v (ltb rfl) (rv_mv (v := .bool (decide ((!x7) = true ∧ a1.params ≥ 0))) h_15) ?_
    refine TL.cut 4 fun K_16 hK_17 => ?_
    have hJ_18 : ∀ e_20 : Env, e_20 1 = .pointer (some ⟨b6, 0, none⟩) → e_20 18 = .bool (decide (((!x7) = true ∧ a1.params ≥ 0) ∧ a1.params ≤ 8)) → ∀ w, St E H [bx b6 25 [.int .i64 a1.params, .int .i64 a1.result, v2, v4]] w → K_16 e_20 w := by
      intro e_20 h_21 h_22
      refine TL.go hK_17 ?_
      refine TL.v (ltb rfl) (rv_mv (v := .bool (decide (((!x7) = true ∧ a1.params ≥ 0) ∧ a1.params ≤ 8))) h_22) ?_
      refine TL.cut 7 fun K_23 hK_24 => ?_
      have hJ_25 : ∀ e_27 : Env, e_27 1 = .pointer (some ⟨b6, 0, none⟩) → e_27 26 = .bool (decide ((((!x7) = true ∧ a1.params ≥ 0) ∧ a1.params ≤ 8) ∧ a1.params ≤ (len a1.regs))) → ∀ w, St E H [bx b6 25 [.int .i64 a1.params, .int .i64 a1.result, v2, v4]] w → K_23 e_27 w := by
        intro e_27 h_28 h_29
        refine TL.go hK_24 ?_
        refine TL.v (ltb rfl) (rv_mv (v := .bool (decide ((((!x7) = true ∧ a1.params ≥ 0) ∧ a1.params ≤ 8) ∧ a1.params ≤ (len a1.regs)))) h_29) ?_
        obtain ⟨t8, ht_36, hp⟩ := bind_some' hp
        refine TL.cut 9 fun K_30 hK_31 => ?_
        have hJ_32 : ∀ e_34 : Env, e_34 36 = .bool t8 → ∀ w, St E H [bx b6 25 [.int .i64 a1.params, .int .i64 a1.result, v2, v4]] w → K_30 e_34 w := by
          intro e_34 h_35
          refine TL.go hK_31 ?_
          refine TL.v (ltb rfl) (rv_as (v := .bool t8) h_35) ?_
          refine TL.nil ?_
          refine TC.go hK_6 ?_
          refine TC.ret ?_
          obtain rfl := Option.some.inj hp
          exact fun w hw => retOk ⟨rfl, rfl⟩ (hw.pick [])
        clear hp
        have hp := ht_36
        clear ht_36
        by_cases hc_33 : (((!x7) = true ∧ a1.params ≥ 0) ∧ a1.params ≤ 8) ∧ a1.params ≤ (len a1.regs)
        · rw [if_pos hc_33] at hp
          refine TL.gyes true (yieldE_of rfl (bT hc_33)) rfl ?_
          refine TL.v (ltb rfl) (rv_fa (b := b6) (o := 0) fa_25_1 h_28) ?_
          refine TL.gyes true (yieldE_of rfl (bT hc_33)) rfl ?_
          refine TL.v (ltb rfl) (rv_ld (v := .int .i64 a1.result) (o := 1) (o' := 0) (j := 1) sc_3 rfl (Src.at_ 0 rfl) (bx_cells b6 25 _) rfl rfl) ?_
          refine TL.gyes true (yieldE_of rfl (bT hc_33)) rfl ?_
          refine TL.v (ltb rfl) (rv_eql (k := .i64) (m := a1.result) (n := 0) rfl rfl) ?_
          refine TL.gyes true (yieldE_of rfl (bT hc_33)) rfl ?_
          refine TL.v (ltb rfl) (rv_mv (v := .bool (decide (a1.result = 0))) rfl) ?_
          obtain ⟨t9, ht_44, hp⟩ := bind_some' hp
          refine TL.cut 4 fun K_37 hK_38 => ?_
          have hJ_39 : ∀ e_41 : Env, e_41 27 = .bool (decide ((((!x7) = true ∧ a1.params ≥ 0) ∧ a1.params ≤ 8) ∧ a1.params ≤ (len a1.regs))) → e_41 35 = .bool t9 → ∀ w, St E H [bx b6 25 [.int .i64 a1.params, .int .i64 a1.result, v2, v4]] w → K_37 e_41 w := by
            intro e_41 h_42 h_43
            refine TL.go hK_38 ?_
            refine TL.v (ltb rfl) (rv_pickT true (h_42.trans (bT hc_33)) rfl (v := .bool t9) h_43) ?_
            obtain rfl := Option.some.inj hp
            refine TL.nil (hJ_32 _ ?_)
            · exact rfl
          clear hp
          have hp := ht_44
          clear ht_44
          by_cases hc_40 : a1.result = 0
          · rw [if_pos hc_40] at hp
            refine TL.gno true rfl (fun d hd => by cases hd; exact ltb rfl) (yieldE_of rfl (bT hc_40)) rfl ?_
            refine TL.gno true rfl (fun d hd => by cases hd; exact ltb rfl) (yieldE_of rfl (bT hc_40)) rfl ?_
            refine TL.gno true rfl (fun d hd => by cases hd; exact ltb rfl) (yieldE_of rfl (bT hc_40)) rfl ?_
            refine TL.gyes true (yieldE_of rfl (bT hc_33)) rfl ?_
            refine TL.v (ltb rfl) (rv_pickT true (bT hc_40) rfl (v := .bool true) rfl) ?_
            obtain rfl := Option.some.inj hp
            refine TL.nil (hJ_39 _ ?_ ?_)
            · exact rfl
            · exact rfl
          · rw [if_neg hc_40] at hp
            refine TL.gyes false (yieldE_of rfl (bF hc_40)) rfl ?_
            refine TL.v (ltb rfl) (rv_fa (b := b6) (o := 0) fa_25_1 h_28) ?_
            refine TL.gyes false (yieldE_of rfl (bF hc_40)) rfl ?_
            refine TL.v (ltb rfl) (rv_ld (v := .int .i64 a1.result) (o := 1) (o' := 0) (j := 1) sc_3 rfl (Src.at_ 0 rfl) (bx_cells b6 25 _) rfl rfl) ?_
            refine TL.gyes false (yieldE_of rfl (bF hc_40)) rfl ?_
            obtain ⟨x10, hy_45, hp⟩ := bind_some' hp
            refine TL.callC (vs := [.int .i64 a1.result]) (R := check_value.R x10) [] [bx b6 25 [.int .i64 a1.params, .int .i64 a1.result, v2, v4]] rfl cb_102 (ltb rfl) (mc rfl m0) (fun w hw => check_value_ok (a1 := a1.result) hy_45 hw) fun v A' hR_46 => ?_
            obtain ⟨rfl, rfl⟩ := hR_46
            refine TL.norm (L' := [bx b6 25 [.int .i64 a1.params, .int .i64 a1.result, v2, v4]]) rfl ?_
            refine TL.gyes true (yieldE_of rfl (bT hc_33)) rfl ?_
            refine TL.v (ltb rfl) (rv_pickF false (bF hc_40) rfl (v := .bool x10) rfl) ?_
            obtain rfl := Option.some.inj hp
            refine TL.nil (hJ_39 _ ?_ ?_)
            · exact rfl
            · exact rfl
        · rw [if_neg hc_33] at hp
          refine TL.gno false rfl (fun d hd => by cases hd; exact ltb rfl) (yieldE_of rfl (bF hc_33)) rfl ?_
          refine TL.gno false rfl (fun d hd => by cases hd; exact ltb rfl) (yieldE_of rfl (bF hc_33)) rfl ?_
          refine TL.gno false rfl (fun d hd => by cases hd; exact ltb rfl) (yieldE_of rfl (bF hc_33)) rfl ?_
          refine TL.gno false rfl (fun d hd => by cases hd; exact ltb rfl) (yieldE_of rfl (bF hc_33)) rfl ?_
          refine TL.gnon rfl (fun d hd => by cases hd; exact ltb rfl) (yieldE_un rfl rfl) ?_
          refine TL.gnon rfl (fun d hd => by cases hd; exact ltb rfl) (yieldE_un rfl rfl) ?_
          refine TL.gnon rfl (fun d hd => by cases hd; exact ltb rfl) (yieldE_un rfl rfl) ?_
          refine TL.gno false rfl (fun d hd => by cases hd; exact ltb rfl) (yieldE_of rfl (bF hc_33)) rfl ?_
          refine TL.v (ltb rfl) (rv_pickF false (bF hc_33) rfl (v := .bool false) rfl) ?_
          obtain rfl := Option.some.inj hp
          refine TL.nil (hJ_32 _ ?_)
          · exact rfl
      by_cases hc_26 : ((!x7) = true ∧ a1.params ≥ 0) ∧ a1.params ≤ 8
      · refine TL.gyes true (yieldE_of rfl (bT hc_26)) rfl ?_
        refine TL.v (ltb rfl) (rv_fa (b := b6) (o := 0) fa_25_0 h_21) ?_
        refine TL.gyes true (yieldE_of rfl (bT hc_26)) rfl ?_
        refine TL.v (ltb rfl) (rv_ld (v := .int .i64 a1.params) (o := 0) (o' := 0) (j := 0) sc_3 rfl (Src.at_ 0 rfl) (bx_cells b6 25 _) rfl rfl) ?_
        refine TL.gyes true (yieldE_of rfl (bT hc_26)) rfl ?_
        refine TL.v (ltb rfl) (rv_fa (b := b6) (o := 0) fa_25_2 h_21) ?_
        refine TL.gyes true (yieldE_of rfl (bT hc_26)) rfl ?_
        refine TL.v (ltb rfl) (rv_ld (v := v2) (o := 2) (o' := 0) (j := 2) sc_22 rfl (Src.at_ 0 rfl) (bx_cells b6 25 _) rfl rfl) ?_
        refine TL.gyes true (yieldE_of rfl (bT hc_26)) rfl ?_
        refine TL.v (ltb rfl) (rv_lenI (v := v2) Try.underlying22 rfl h3) ?_
        refine TL.gyes true (yieldE_of rfl (bT hc_26)) rfl ?_
        refine TL.v (ltb rfl) (rv_leq (k := .i64) (m := a1.params) (n := (len a1.regs)) rfl rfl) ?_
        refine TL.v (ltb rfl) (rv_pickT true (bT hc_26) rfl (v := .bool (decide (a1.params ≤ (len a1.regs)))) rfl) ?_
        refine TL.nil (hJ_25 _ ?_ ?_)
        · exact h_21
        · exact (bAt hc_26)
      · refine TL.gno false rfl (fun d hd => by cases hd; exact ltb rfl) (yieldE_of rfl (bF hc_26)) rfl ?_
        refine TL.gno false rfl (fun d hd => by cases hd; exact ltb rfl) (yieldE_of rfl (bF hc_26)) rfl ?_
        refine TL.gno false rfl (fun d hd => by cases hd; exact ltb rfl) (yieldE_of rfl (bF hc_26)) rfl ?_
        refine TL.gno false rfl (fun d hd => by cases hd; exact ltb rfl) (yieldE_of rfl (bF hc_26)) rfl ?_
        refine TL.gno false rfl (fun d hd => by cases hd; exact ltb rfl) (yieldE_of rfl (bF hc_26)) rfl ?_
        refine TL.gno false rfl (fun d hd => by cases hd; exact ltb rfl) (yieldE_of rfl (bF hc_26)) rfl ?_
        refine TL.v (ltb rfl) (rv_pickF false (bF hc_26) rfl (v := .bool false) rfl) ?_
        refine TL.nil (hJ_25 _ ?_ ?_)
        · exact h_21
        · exact (bAf hc_26)
    by_cases hc_19 : (!x7) = true ∧ a1.params ≥ 0
    · refine TL.gyes true (yieldE_of rfl (bT hc_19)) rfl ?_
      refine TL.v (ltb rfl) (rv_fa (b := b6) (o := 0) fa_25_0 h_14) ?_
      refine TL.gyes true (yieldE_of rfl (bT hc_19)) rfl ?_
      refine TL.v (ltb rfl) (rv_ld (v := .int .i64 a1.params) (o := 0) (o' := 0) (j := 0) sc_3 rfl (Src.at_ 0 rfl) (bx_cells b6 25 _) rfl rfl) ?_
      refine TL.gyes true (yieldE_of rfl (bT hc_19)) rfl ?_
      refine TL.v (ltb rfl) (rv_leq (k := .i64) (m := a1.params) (n := 8) rfl rfl) ?_
      refine TL.v (ltb rfl) (rv_pickT true (bT hc_19) rfl (v := .bool (decide (a1.params ≤ 8))) rfl) ?_
      refine TL.nil (hJ_18 _ ?_ ?_)
      · exact h_14
      · exact (bAt hc_19)
    · refine TL.gno false rfl (fun d hd => by cases hd; exact ltb rfl) (yieldE_of rfl (bF hc_19)) rfl ?_
      refine TL.gno false rfl (fun d hd => by cases hd; exact ltb rfl) (yieldE_of rfl (bF hc_19)) rfl ?_
      refine TL.gno false rfl (fun d hd => by cases hd; exact ltb rfl) (yieldE_of rfl (bF hc_19)) rfl ?_
      refine TL.v (ltb rfl) (rv_pickF false (bF hc_19) rfl (v := .bool false) rfl) ?_
      refine TL.nil (hJ_18 _ ?_ ?_)
      · exact h_14
      · exact (bAf hc_19)
  by_cases hc_12 : (!x7) = true
  · refine TL.gyes true (yieldE_of rfl (bbT hc_12)) rfl ?_
    refine TL.v (ltb rfl) (rv_fa (b := b6) (o := 0) fa_25_0 rfl) ?_
    refine TL.gyes true (yieldE_of rfl (bbT hc_12)) rfl ?_
    refine TL.v (ltb rfl) (rv_ld (v := .int .i64 a1.params) (o := 0) (o' := 0) (j := 0) sc_3 rfl (Src.at_ 0 rfl) (bx_cells b6 25 _) rfl rfl) ?_
    refine TL.gyes true (yieldE_of rfl (bbT hc_12)) rfl ?_
    refine TL.v (ltb rfl) (rv_geq (k := .i64) (m := a1.params) (n := 0) rfl rfl) ?_
    refine TL.v (ltb rfl) (rv_pickT true (bbT hc_12) rfl (v := .bool (decide (a1.params ≥ 0))) rfl) ?_
    refine TL.nil (hJ_11 _ ?_ ?_)
    · exact rfl
    · exact (bAt hc_12)
  · refine TL.gno false rfl (fun d hd => by cases hd; exact ltb rfl) (yieldE_of rfl (bbF hc_12)) rfl ?_
    refine TL.gno false rfl (fun d hd => by cases hd; exact ltb rfl) (yieldE_of rfl (bbF hc_12)) rfl ?_
    refine TL.gno false rfl (fun d hd => by cases hd; exact ltb rfl) (yieldE_of rfl (bbF hc_12)) rfl ?_
    refine TL.v (ltb rfl) (rv_pickF false (bbF hc_12) rfl (v := .bool false) rfl) ?_
    refine TL.nil (hJ_11 _ ?_ ?_)
    · exact rfl
    · exact (bAf hc_12)

/-! ### fettle/check.ends -/
abbrev check_ends.R (r : Bool) (v : Value) (A : List FP) : Prop := .bool r = v ∧ A = []
def check_ends.nx17 (a6 : PTerm) : Option Bool :=
  if a6.kind = 1 then
    some (decide ((len a6.to) = 1))
  else
    if a6.kind = 2 then
      (if (len a6.to) = 2 then (idx a6.to 0).bind fun x13 =>
      (idx a6.to 1).bind fun x19 =>
      some (decide (¬ x13 = x19)) else some false).bind fun t12 =>
      some t12
    else
      some (decide (a6.kind = 3 ∧ (len a6.to) = 0))
def check_ends.bd17 (a1 : PFunc) (a6 : PTerm) (x11 : Int) : Option (Ex (Ex Bool Unit) Int) :=
  if x11 < (len a6.to) then
    (idx a6.to x11).bind fun x25 =>
    if x25 < 1 ∨ x25 ≥ (len a1.blocks) then
      some (.ret (.ret false))
    else
      some (.go (w64 (x11 + 1)))
  else
    some (.ret (.go ()))
def check_ends (a1 : PFunc) (a6 : PTerm) : Option Bool :=
  (whl (fun (s : Int) => check_ends.bd17 a1 a6 s) FUEL 0).bind fun z =>
  match z with
    | .ret r => some r
    | .go p => check_ends.nx17 a6
theorem check_ends_ok {E : World} {H : FP} {w : World} {a1 : PFunc} {a6 : PTerm} {v2 : Value} {v4 : Value} {v7 : Value} {r : Bool} (h3 : SlI (kInt .i64) H a1.regs v2) (h5 : SlI kBlock H a1.blocks v4) (h8 : SlI (kInt .i64) H a6.to v7) (hp : check_ends a1 a6 = some r) (hst : St E H [] w) :
    Fn Try.prog 95 #[.agg #[.int .i64 a1.params, .int .i64 a1.result, v2, v4], .agg #[.int .i64 a6.kind, .int .i64 a6.arg, v7]] w fun v w' => ∃ A, check_ends.R r v A ∧ St E H A w' := by
  refine Fn.body (fn := Try.f95) (args := [.agg #[.int .i64 a1.params, .int .i64 a1.result, v2, v4], .agg #[.int .i64 a6.kind, .int .i64 a6.arg, v7]]) E H [] [.tmp 4] 58 Try.func95 rfl rfl rfl rfl (leb rfl) hst ?_
  unfold check_ends at hp
  refine TC.seq fun K_1 hK_2 => ?_
  refine TC.region ?_
  refine TL.box (cs := [.int .i64 a1.params, .int .i64 a1.result, v2, v4]) (v := .agg #[.int .i64 a1.params, .int .i64 a1.result, v2, v4]) (ltb rfl) rfl rfl fun b9 => ?_
  refine TL.box (cs := [.int .i64 a6.kind, .int .i64 a6.arg, v7]) (v := .agg #[.int .i64 a6.kind, .int .i64 a6.arg, v7]) (ltb rfl) rfl rfl fun b10 => ?_
  refine TL.v (ltb rfl) (rv_as (v := .bool false) rfl) ?_
  refine TL.nil ?_
  refine TC.go hK_2 ?_
  refine TC.seq fun K_3 hK_4 => ?_
  refine TC.seq fun K_5 hK_6 => ?_
  refine TC.region ?_
  refine TL.v (ltb rfl) (rv_fa (b := b10) (o := 0) fa_81_2 rfl) ?_
  refine TL.v (ltb rfl) (rv_ld (v := v7) (o := 2) (o' := 0) (j := 2) sc_22 rfl (Src.at_ 0 rfl) (bx_cells b10 81 _) rfl rfl) ?_
  refine TL.v (ltb rfl) (rv_lenI (v := v7) Try.underlying22 rfl h8) ?_
  refine TL.v (ltb rfl) (rv_mv (v := .int .i64 0) rfl) ?_
  refine TL.nil ?_
  refine TC.go hK_6 ?_
  refine TC.block ?_
  obtain ⟨z_13, hz_14, hr_15⟩ := bind_some' hp
  clear hp
  have hJ_51 : ∀ (e_18 : Env) (h_19 : e_18 3 = .pointer (some ⟨b10, 0, none⟩)) (hq_52 : .go () = z_13), ∀ w, St E H [bx b10 81 [.int .i64 a6.kind, .int .i64 a6.arg, v7]] w → K_3 e_18 w := by
    intro e_18 h_19 hq_52
    subst hq_52
    replace hp : check_ends.nx17 a6 = some r := hr_15
    unfold check_ends.nx17 at hp
    refine TC.go hK_4 ?_
    refine TC.seq fun K_20 hK_21 => ?_
    refine TC.seq fun K_22 hK_23 => ?_
    refine TC.region ?_
    refine TL.v (ltb rfl) (rv_fa (b := b10) (o := 0) fa_81_0 h_19) ?_
    refine TL.v (ltb rfl) (rv_ld (v := .int .i64 a6.kind) (o := 0) (o' := 0) (j := 0) sc_3 rfl (Src.at_ 0 rfl) (bx_cells b10 81 _) rfl rfl) ?_
    refine TL.nil ?_
    refine TC.go hK_23 ?_
    refine TC.block ?_
    refine TC.seq fun K_24 hK_25 => ?_
    refine TC.region ?_
    refine TL.v (ltb rfl) (rv_eql (k := .i64) (m := a6.kind) (n := 1) rfl rfl) ?_
    refine TL.v (ltb rfl) (rv_as (v := .bool (decide (a6.kind = 1))) rfl) ?_
    refine TL.nil ?_
    refine TC.go hK_25 ?_
    by_cases hc_26 : a6.kind = 1
    · rw [if_pos hc_26] at hp
      refine TC.condT (bT hc_26) ?_
      refine TC.seq fun K_27 hK_28 => ?_
      refine TC.region ?_
      refine TL.v (ltb rfl) (rv_fa (b := b10) (o := 0) fa_81_2 h_19) ?_
      refine TL.v (ltb rfl) (rv_ld (v := v7) (o := 2) (o' := 0) (j := 2) sc_22 rfl (Src.at_ 0 rfl) (bx_cells b10 81 _) rfl rfl) ?_
      refine TL.v (ltb rfl) (rv_lenI (v := v7) Try.underlying22 rfl h8) ?_
      refine TL.v (ltb rfl) (rv_eql (k := .i64) (m := (len a6.to)) (n := 1) rfl rfl) ?_
      refine TL.v (ltb rfl) (rv_as (v := .bool (decide ((len a6.to) = 1))) rfl) ?_
      refine TL.nil ?_
      refine TC.go hK_28 ?_
      refine TC.ret ?_
      obtain rfl := Option.some.inj hp
      exact fun w hw => retOk ⟨rfl, rfl⟩ (hw.pick [])
    · rw [if_neg hc_26] at hp
      refine TC.condF (bF hc_26) ?_
      refine TC.seq fun K_29 hK_30 => ?_
      refine TC.region ?_
      refine TL.v (ltb rfl) (rv_eql (k := .i64) (m := a6.kind) (n := 2) rfl rfl) ?_
      refine TL.v (ltb rfl) (rv_as (v := .bool (decide (a6.kind = 2))) rfl) ?_
      refine TL.nil ?_
      refine TC.go hK_30 ?_
      by_cases hc_31 : a6.kind = 2
      · rw [if_pos hc_31] at hp
        refine TC.condT (bT hc_31) ?_
        refine TC.seq fun K_32 hK_33 => ?_
        refine TC.quiet mix (by kernel_rfl) ?_
        refine QL.v (ltb rfl) (rv_fa (b := b10) (o := 0) fa_81_2 h_19) ?_
        refine QL.v (ltb rfl) (rv_ld (v := v7) (o := 2) (o' := 0) (j := 2) sc_22 rfl (Src.at_ 0 rfl) (bx_cells b10 81 _) rfl rfl) ?_
        refine QL.v (ltb rfl) (rv_lenI (v := v7) Try.underlying22 rfl h8) ?_
        refine QL.v (ltb rfl) (rv_eql (k := .i64) (m := (len a6.to)) (n := 2) rfl rfl) ?_
        refine QL.v (ltb rfl) (rv_mv (v := .bool (decide ((len a6.to) = 2))) rfl) ?_
        obtain ⟨t12, ht_40, hp⟩ := bind_some' hp
        refine QL.cut 10 fun K_34 hK_35 => ?_
        have hJ_36 : ∀ e_38 : Env, e_38 48 = .bool t12 → K_34 e_38 := by
          intro e_38 h_39
          refine hK_35 _ ?_
          refine QL.v (ltb rfl) (rv_as (v := .bool t12) h_39) ?_
          refine QL.nil ?_
          refine TC.go hK_33 ?_
          refine TC.ret ?_
          obtain rfl := Option.some.inj hp
          exact fun w hw => retOk ⟨rfl, rfl⟩ (hw.pick [])
        clear hp
        have hp := ht_40
        clear ht_40
        by_cases hc_37 : (len a6.to) = 2
        · rw [if_pos hc_37] at hp
          refine QL.gyes true (yieldE_of rfl (bT hc_37)) rfl ?_
          refine QL.v (ltb rfl) (rv_fa (b := b10) (o := 0) fa_81_2 h_19) ?_
          refine QL.gyes true (yieldE_of rfl (bT hc_37)) rfl ?_
          refine QL.v (ltb rfl) (rv_ld (v := v7) (o := 2) (o' := 0) (j := 2) sc_22 rfl (Src.at_ 0 rfl) (bx_cells b10 81 _) rfl rfl) ?_
          refine QL.gyes true (yieldE_of rfl (bT hc_37)) rfl ?_
          obtain ⟨x13, hx_41, hp⟩ := bind_some' hp
          refine QL.v3 (ltb rfl) (rv_ix 22 (.tmp 40) (.const (.int .i64 0)) (v := v7) (i := 0) Try.underlying22 inf_3 rfl rfl rfl h8 hx_41) fun b14 o15 c16 h17 h18 => ?_
          obtain rfl := h17
          refine QL.gyes true (yieldE_of rfl (bT hc_37)) rfl ?_
          refine QL.v (ltb rfl) (rv_ld (v := .int .i64 x13) (o := o15) (o' := o15) (j := 0) sc_3 rfl Src.H h18 rfl rfl) ?_
          refine QL.gyes true (yieldE_of rfl (bT hc_37)) rfl ?_
          refine QL.v (ltb rfl) (rv_fa (b := b10) (o := 0) fa_81_2 h_19) ?_
          refine QL.gyes true (yieldE_of rfl (bT hc_37)) rfl ?_
          refine QL.v (ltb rfl) (rv_ld (v := v7) (o := 2) (o' := 0) (j := 2) sc_22 rfl (Src.at_ 0 rfl) (bx_cells b10 81 _) rfl rfl) ?_
          refine QL.gyes true (yieldE_of rfl (bT hc_37)) rfl ?_
          obtain ⟨x19, hx_42, hp⟩ := bind_some' hp
          refine QL.v3 (ltb rfl) (rv_ix 22 (.tmp 44) (.const (.int .i64 1)) (v := v7) (i := 1) Try.underlying22 inf_3 rfl rfl rfl h8 hx_42) fun b20 o21 c22 h23 h24 => ?_
          obtain rfl := h23
          refine QL.gyes true (yieldE_of rfl (bT hc_37)) rfl ?_
          refine QL.v (ltb rfl) (rv_ld (v := .int .i64 x19) (o := o21) (o' := o21) (j := 0) sc_3 rfl Src.H h24 rfl rfl) ?_
          refine QL.gyes true (yieldE_of rfl (bT hc_37)) rfl ?_
          refine QL.v (ltb rfl) (rv_neq (k := .i64) (m := x13) (n := x19) rfl rfl) ?_
          refine QL.v (ltb rfl) (rv_pickT true (bT hc_37) rfl (v := .bool (decide (¬ x13 = x19))) rfl) ?_
          obtain rfl := Option.some.inj hp
          refine QL.nil (hJ_36 _ ?_)
          · exact rfl
        · rw [if_neg hc_37] at hp
          refine QL.gno false rfl (fun d hd => by cases hd; exact ltb rfl) (yieldE_of rfl (bF hc_37)) rfl ?_
          refine QL.gno false rfl (fun d hd => by cases hd; exact ltb rfl) (yieldE_of rfl (bF hc_37)) rfl ?_
          refine QL.gno false rfl (fun d hd => by cases hd; exact ltb rfl) (yieldE_of rfl (bF hc_37)) rfl ?_
          refine QL.gno false rfl (fun d hd => by cases hd; exact ltb rfl) (yieldE_of rfl (bF hc_37)) rfl ?_
          refine QL.gno false rfl (fun d hd => by cases hd; exact ltb rfl) (yieldE_of rfl (bF hc_37)) rfl ?_
          refine QL.gno false rfl (fun d hd => by cases hd; exact ltb rfl) (yieldE_of rfl (bF hc_37)) rfl ?_
          refine QL.gno false rfl (fun d hd => by cases hd; exact ltb rfl) (yieldE_of rfl (bF hc_37)) rfl ?_
          refine QL.gno false rfl (fun d hd => by cases hd; exact ltb rfl) (yieldE_of rfl (bF hc_37)) rfl ?_
          refine QL.gno false rfl (fun d hd => by cases hd; exact ltb rfl) (yieldE_of rfl (bF hc_37)) rfl ?_
          refine QL.v (ltb rfl) (rv_pickF false (bF hc_37) rfl (v := .bool false) rfl) ?_
          obtain rfl := Option.some.inj hp
          refine QL.nil (hJ_36 _ ?_)
          · exact rfl
      · rw [if_neg hc_31] at hp
        refine TC.condF (bF hc_31) ?_
        refine TC.skip ?_
        refine TC.go hK_21 ?_
        refine TC.seq fun K_43 hK_44 => ?_
        refine TC.region ?_
        refine TL.v (ltb rfl) (rv_fa (b := b10) (o := 0) fa_81_0 h_19) ?_
        refine TL.v (ltb rfl) (rv_ld (v := .int .i64 a6.kind) (o := 0) (o' := 0) (j := 0) sc_3 rfl (Src.at_ 0 rfl) (bx_cells b10 81 _) rfl rfl) ?_
        refine TL.v (ltb rfl) (rv_eql (k := .i64) (m := a6.kind) (n := 3) rfl rfl) ?_
        refine TL.v (ltb rfl) (rv_mv (v := .bool (decide (a6.kind = 3))) rfl) ?_
        refine TL.cut 5 fun K_45 hK_46 => ?_
        have hJ_47 : ∀ e_49 : Env, e_49 57 = .bool (decide (a6.kind = 3 ∧ (len a6.to) = 0)) → ∀ w, St E H [bx b10 81 [.int .i64 a6.kind, .int .i64 a6.arg, v7]] w → K_45 e_49 w := by
          intro e_49 h_50
          refine TL.go hK_46 ?_
          refine TL.v (ltb rfl) (rv_as (v := .bool (decide (a6.kind = 3 ∧ (len a6.to) = 0))) h_50) ?_
          refine TL.nil ?_
          refine TC.go hK_44 ?_
          refine TC.ret ?_
          obtain rfl := Option.some.inj hp
          exact fun w hw => retOk ⟨rfl, rfl⟩ (hw.pick [])
        by_cases hc_48 : a6.kind = 3
        · refine TL.gyes true (yieldE_of rfl (bT hc_48)) rfl ?_
          refine TL.v (ltb rfl) (rv_fa (b := b10) (o := 0) fa_81_2 h_19) ?_
          refine TL.gyes true (yieldE_of rfl (bT hc_48)) rfl ?_
          refine TL.v (ltb rfl) (rv_ld (v := v7) (o := 2) (o' := 0) (j := 2) sc_22 rfl (Src.at_ 0 rfl) (bx_cells b10 81 _) rfl rfl) ?_
          refine TL.gyes true (yieldE_of rfl (bT hc_48)) rfl ?_
          refine TL.v (ltb rfl) (rv_lenI (v := v7) Try.underlying22 rfl h8) ?_
          refine TL.gyes true (yieldE_of rfl (bT hc_48)) rfl ?_
          refine TL.v (ltb rfl) (rv_eql (k := .i64) (m := (len a6.to)) (n := 0) rfl rfl) ?_
          refine TL.v (ltb rfl) (rv_pickT true (bT hc_48) rfl (v := .bool (decide ((len a6.to) = 0))) rfl) ?_
          refine TL.nil (hJ_47 _ ?_)
          · exact (bAt hc_48)
        · refine TL.gno false rfl (fun d hd => by cases hd; exact ltb rfl) (yieldE_of rfl (bF hc_48)) rfl ?_
          refine TL.gno false rfl (fun d hd => by cases hd; exact ltb rfl) (yieldE_of rfl (bF hc_48)) rfl ?_
          refine TL.gno false rfl (fun d hd => by cases hd; exact ltb rfl) (yieldE_of rfl (bF hc_48)) rfl ?_
          refine TL.gno false rfl (fun d hd => by cases hd; exact ltb rfl) (yieldE_of rfl (bF hc_48)) rfl ?_
          refine TL.v (ltb rfl) (rv_pickF false (bF hc_48) rfl (v := .bool false) rfl) ?_
          refine TL.nil (hJ_47 _ ?_)
          · exact (bAf hc_48)
  refine TC.pk' [1, 0] (L' := [bx b9 25 [.int .i64 a1.params, .int .i64 a1.result, v2, v4], bx b10 81 [.int .i64 a6.kind, .int .i64 a6.arg, v7]]) rfl ?_
  refine TC.loopW (r := z_13) (fun (x11 : Int) (e_7 : Env) (L_79 : List FP) => e_7 2 = .pointer (some ⟨b9, 0, none⟩) ∧ e_7 3 = .pointer (some ⟨b10, 0, none⟩) ∧ e_7 8 = v7 ∧ e_7 9 = .int .i64 (len a6.to) ∧ e_7 10 = .int .i64 x11 ∧ L_79 = [bx b9 25 [.int .i64 a1.params, .int .i64 a1.result, v2, v4], bx b10 81 [.int .i64 a6.kind, .int .i64 a6.arg, v7]]) ?_ FUEL _ _ _ hz_14 ⟨rfl, rfl, rfl, rfl, rfl, rfl⟩
  rintro x11 e_7 L_79 ⟨h_8, h_9, h_10, h_11, h_12, rfl⟩ x_16 hp hx_17
  replace hp : check_ends.bd17 a1 a6 x11 = some x_16 := hp
  unfold check_ends.bd17 at hp
  refine TC.seq fun K_53 hK_54 => ?_
  refine TC.region ?_
  refine TL.v (ltb rfl) (rv_lss (k := .i64) (m := x11) (n := (len a6.to)) h_12 h_11) ?_
  refine TL.nil ?_
  refine TC.go hK_54 ?_
  refine TC.seq fun K_55 hK_56 => ?_
  by_cases hc_57 : x11 < (len a6.to)
  · rw [if_pos hc_57] at hp
    refine TC.condT (bT hc_57) ?_
    refine TC.skip ?_
    refine TC.go hK_56 ?_
    refine TC.seq fun K_58 hK_59 => ?_
    refine TC.block ?_
    refine TC.seq fun K_60 hK_61 => ?_
    refine TC.region ?_
    obtain ⟨x25, hx_62, hp⟩ := bind_some' hp
    refine TL.v3 (ltb rfl) (rv_ix 22 (.tmp 8) (.tmp 10) (v := v7) (i := x11) Try.underlying22 inf_3 rfl h_10 h_12 h8 hx_62) fun b26 o27 c28 h29 h30 => ?_
    obtain rfl := h29
    refine TL.v (ltb rfl) (rv_ld (v := .int .i64 x25) (o := o27) (o' := o27) (j := 0) sc_3 rfl Src.H h30 rfl rfl) ?_
    refine TL.v (ltb rfl) (rv_as (v := .int .i64 x25) rfl) ?_
    refine TL.nil ?_
    refine TC.go hK_61 ?_
    refine TC.seq fun K_63 hK_64 => ?_
    refine TC.region ?_
    refine TL.v (ltb rfl) (rv_mv (v := .int .i64 x25) rfl) ?_
    refine TL.v (ltb rfl) (rv_lss (k := .i64) (m := x25) (n := 1) rfl rfl) ?_
    refine TL.v (ltb rfl) (rv_mv (v := .bool (decide (x25 < 1))) rfl) ?_
    refine TL.cut 6 fun K_65 hK_66 => ?_
    have hJ_67 : ∀ e_69 : Env, e_69 2 = .pointer (some ⟨b9, 0, none⟩) → e_69 3 = .pointer (some ⟨b10, 0, none⟩) → e_69 8 = v7 → e_69 9 = .int .i64 (len a6.to) → e_69 10 = .int .i64 x11 → e_69 22 = .bool (decide (x25 < 1 ∨ x25 ≥ (len a1.blocks))) → ∀ w, St E H [bx b9 25 [.int .i64 a1.params, .int .i64 a1.result, v2, v4], bx b10 81 [.int .i64 a6.kind, .int .i64 a6.arg, v7]] w → K_65 e_69 w := by
      intro e_69 h_70 h_71 h_72 h_73 h_74 h_75
      refine TL.go hK_66 ?_
      refine TL.nil ?_
      refine TC.go hK_64 ?_
      by_cases hc_76 : x25 < 1 ∨ x25 ≥ (len a1.blocks)
      · rw [if_pos hc_76] at hp
        refine TC.condT (h_75.trans (bT hc_76)) ?_
        refine TC.seq fun K_77 hK_78 => ?_
        refine TC.region ?_
        refine TL.v (ltb rfl) (rv_as (v := .bool false) rfl) ?_
        refine TL.nil ?_
        refine TC.go hK_78 ?_
        refine TC.ret ?_
        obtain rfl := ex_ret hp hx_17
        obtain rfl := Option.some.inj hr_15
        exact fun w hw => retOk ⟨rfl, rfl⟩ (hw.pick [])
      · rw [if_neg hc_76] at hp
        refine TC.condF (h_75.trans (bF hc_76)) ?_
        refine TC.skip ?_
        refine TC.go hK_59 ?_
        refine TC.region ?_
        refine TL.v (ltb rfl) (rv_add (k := .i64) (m := x11) (n := 1) h_74 rfl) ?_
        refine TL.v (ltb rfl) (rv_mv (v := .int .i64 (w64 (x11 + 1))) rfl) ?_
        refine TL.nil ?_
        exact fun w hw => goOk hp ⟨h_70, h_71, h_72, h_73, rfl, rfl⟩ (hw.pick [0, 0])
    by_cases hc_68 : x25 < 1
    · refine TL.gno true rfl (fun d hd => by cases hd; exact ltb rfl) (yieldE_of rfl (bT hc_68)) rfl ?_
      refine TL.gno true rfl (fun d hd => by cases hd; exact ltb rfl) (yieldE_of rfl (bT hc_68)) rfl ?_
      refine TL.gno true rfl (fun d hd => by cases hd; exact ltb rfl) (yieldE_of rfl (bT hc_68)) rfl ?_
      refine TL.gno true rfl (fun d hd => by cases hd; exact ltb rfl) (yieldE_of rfl (bT hc_68)) rfl ?_
      refine TL.gno true rfl (fun d hd => by cases hd; exact ltb rfl) (yieldE_of rfl (bT hc_68)) rfl ?_
      refine TL.v (ltb rfl) (rv_pickT true (bT hc_68) rfl (v := .bool true) rfl) ?_
      refine TL.nil (hJ_67 _ ?_ ?_ ?_ ?_ ?_ ?_)
      · exact h_8
      · exact h_9
      · exact h_10
      · exact h_11
      · exact h_12
      · exact (bOt hc_68)
    · refine TL.gyes false (yieldE_of rfl (bF hc_68)) rfl ?_
      refine TL.v (ltb rfl) (rv_mv (v := .int .i64 x25) rfl) ?_
      refine TL.gyes false (yieldE_of rfl (bF hc_68)) rfl ?_
      refine TL.v (ltb rfl) (rv_fa (b := b9) (o := 0) fa_25_3 h_8) ?_
      refine TL.gyes false (yieldE_of rfl (bF hc_68)) rfl ?_
      refine TL.v (ltb rfl) (rv_ld (v := v4) (o := 3) (o' := 0) (j := 3) sc_23 rfl (Src.at_ 0 rfl) (bx_cells b9 25 _) rfl rfl) ?_
      refine TL.gyes false (yieldE_of rfl (bF hc_68)) rfl ?_
      refine TL.v (ltb rfl) (rv_lenI (v := v4) Try.underlying23 rfl h5) ?_
      refine TL.gyes false (yieldE_of rfl (bF hc_68)) rfl ?_
      refine TL.v (ltb rfl) (rv_geq (k := .i64) (m := x25) (n := (len a1.blocks)) rfl rfl) ?_
      refine TL.v (ltb rfl) (rv_pickF false (bF hc_68) rfl (v := .bool (decide (x25 ≥ (len a1.blocks)))) rfl) ?_
      refine TL.nil (hJ_67 _ ?_ ?_ ?_ ?_ ?_ ?_)
      · exact h_8
      · exact h_9
      · exact h_10
      · exact h_11
      · exact h_12
      · exact (bOf hc_68)
  · rw [if_neg hc_57] at hp
    refine TC.condF (bF hc_57) ?_
    refine TC.exit ?_
    refine fun w hw => hJ_51 _ ?_ (ex_ret hp hx_17) w (hw.pick [1])
    · exact h_9

/-! ### (*fettle/check.looker).has$1 -/
abbrev check_looker_has_1.R (r : Bool) (v : Value) (A : List FP) : Prop := .bool r = v ∧ A = []
def check_looker_has_1 (a1 : Int) (a5 : PLooker) : Option Bool :=
  some (decide (a1 < 0 ∨ a1 ≥ (len a5.f.regs)))
theorem check_looker_has_1_ok {E : World} {H : FP} {w : World} {a1 : Int} {a5 : PLooker} {b2 : Nat} {o3 : Nat} {b6 : Nat} {o7 : Nat} {v9 : Value} {v11 : Value} {v13 : Value} {r : Bool} (h4 : CellsIn H b2 o3 [.pointer (some ⟨b6, o7, none⟩)]) (h8 : CellsIn H b6 o7 [v9, .int .i64 a5.f.params, .int .i64 a5.f.result, v11, v13]) (h10 : SlI kFunc H a5.m.funcs v9) (h12 : SlI (kInt .i64) H a5.f.regs v11) (h14 : SlI kBlock H a5.f.blocks v13) (hp : check_looker_has_1 a1 a5 = some r) (hst : St E H [] w) :
    Fn Try.prog 114 #[.int .i64 a1, .pointer (some ⟨b2, o3, none⟩)] w fun v w' => ∃ A, check_looker_has_1.R r v A ∧ St E H A w' := by
  refine Fn.body (fn := Try.f114) (args := [.int .i64 a1, .pointer (some ⟨b2, o3, none⟩)]) E H [] [.tmp 3] 16 Try.func114 rfl rfl rfl rfl (leb rfl) hst ?_
  unfold check_looker_has_1 at hp
  refine TC.seq fun K_1 hK_2 => ?_
  refine TC.region ?_
  refine TL.v (ltb rfl) (rv_as (v := .bool false) rfl) ?_
  refine TL.nil ?_
  refine TC.go hK_2 ?_
  refine TC.seq fun K_3 hK_4 => ?_
  refine TC.region ?_
  refine TL.v (ltb rfl) (rv_mv (v := .int .i64 a1) rfl) ?_
  refine TL.v (ltb rfl) (rv_lss (k := .i64) (m := a1) (n := 0) rfl rfl) ?_
  refine TL.v (ltb rfl) (rv_mv (v := .bool (decide (a1 < 0))) rfl) ?_
  refine TL.cut 9 fun K_5 hK_6 => ?_
  have hJ_7 : ∀ e_9 : Env, e_9 15 = .bool (decide (a1 < 0 ∨ a1 ≥ (len a5.f.regs))) → ∀ w, St E H [] w → K_5 e_9 w := by
    intro e_9 h_10
    refine TL.go hK_6 ?_
    refine TL.v (ltb rfl) (rv_as (v := .bool (decide (a1 < 0 ∨ a1 ≥ (len a5.f.regs)))) h_10) ?_
    refine TL.nil ?_
    refine TC.go hK_4 ?_
    refine TC.ret ?_
    obtain rfl := Option.some.inj hp
    exact fun w hw => retOk ⟨rfl, rfl⟩ (hw.pick [])
  by_cases hc_8 : a1 < 0
  · refine TL.gno true rfl (fun d hd => by cases hd; exact ltb rfl) (yieldE_of rfl (bT hc_8)) rfl ?_
    refine TL.gno true rfl (fun d hd => by cases hd; exact ltb rfl) (yieldE_of rfl (bT hc_8)) rfl ?_
    refine TL.gno true rfl (fun d hd => by cases hd; exact ltb rfl) (yieldE_of rfl (bT hc_8)) rfl ?_
    refine TL.gno true rfl (fun d hd => by cases hd; exact ltb rfl) (yieldE_of rfl (bT hc_8)) rfl ?_
    refine TL.gno true rfl (fun d hd => by cases hd; exact ltb rfl) (yieldE_of rfl (bT hc_8)) rfl ?_
    refine TL.gno true rfl (fun d hd => by cases hd; exact ltb rfl) (yieldE_of rfl (bT hc_8)) rfl ?_
    refine TL.gno true rfl (fun d hd => by cases hd; exact ltb rfl) (yieldE_of rfl (bT hc_8)) rfl ?_
    refine TL.gno true rfl (fun d hd => by cases hd; exact ltb rfl) (yieldE_of rfl (bT hc_8)) rfl ?_
    refine TL.v (ltb rfl) (rv_pickT true (bT hc_8) rfl (v := .bool true) rfl) ?_
    refine TL.nil (hJ_7 _ ?_)
    · exact (bOt hc_8)
  · refine TL.gyes false (yieldE_of rfl (bF hc_8)) rfl ?_
    refine TL.v (ltb rfl) (rv_mv (v := .int .i64 a1) rfl) ?_
    refine TL.gyes false (yieldE_of rfl (bF hc_8)) rfl ?_
    refine TL.v (ltb rfl) (rv_ld (v := .pointer (some ⟨b6, o7, none⟩)) (o := o3) (o' := o3) (j := 0) sc_157 rfl Src.H h4 rfl rfl) ?_
    refine TL.gyes false (yieldE_of rfl (bF hc_8)) rfl ?_
    refine TL.v (ltb rfl) (rv_nilCheck (a := ⟨b6, o7, none⟩) rfl) ?_
    refine TL.gyes false (yieldE_of rfl (bF hc_8)) rfl ?_
    refine TL.v (ltb rfl) (rv_fa (b := b6) (o := o7) fa_159_1 rfl) ?_
    refine TL.gyes false (yieldE_of rfl (bF hc_8)) rfl ?_
    refine TL.v (ltb rfl) (rv_fa (b := b6) (o := o7 + 1) fa_25_2 rfl) ?_
    refine TL.gyes false (yieldE_of rfl (bF hc_8)) rfl ?_
    refine TL.v (ltb rfl) (rv_ld (v := v11) (o := o7 + 3) (o' := o7) (j := 3) sc_22 rfl Src.H h8 rfl rfl) ?_
    refine TL.gyes false (yieldE_of rfl (bF hc_8)) rfl ?_
    refine TL.v (ltb rfl) (rv_lenI (v := v11) Try.underlying22 rfl h12) ?_
    refine TL.gyes false (yieldE_of rfl (bF hc_8)) rfl ?_
    refine TL.v (ltb rfl) (rv_geq (k := .i64) (m := a1) (n := (len a5.f.regs)) rfl rfl) ?_
    refine TL.v (ltb rfl) (rv_pickF false (bF hc_8) rfl (v := .bool (decide (a1 ≥ (len a5.f.regs)))) rfl) ?_
    refine TL.nil (hJ_7 _ ?_)
    · exact (bOf hc_8)

/-! ### (*fettle/check.looker).are$1 -/
abbrev check_looker_are_1.R (r : Bool) (v : Value) (A : List FP) : Prop := .bool r = v ∧ A = []
def check_looker_are_1 (a1 : Int) (a5 : PLooker) (a16 : Int) : Option Bool :=
  (idx a5.f.regs a1).bind fun x19 =>
  some (decide (¬ x19 = a16))
theorem check_looker_are_1_ok {E : World} {H : FP} {w : World} {a1 : Int} {a5 : PLooker} {a16 : Int} {b2 : Nat} {o3 : Nat} {b6 : Nat} {o7 : Nat} {v9 : Value} {v11 : Value} {v13 : Value} {b15 : Nat} {o17 : Nat} {r : Bool} (h4 : CellsIn H b2 o3 [.pointer (some ⟨b6, o7, none⟩)]) (h8 : CellsIn H b6 o7 [v9, .int .i64 a5.f.params, .int .i64 a5.f.result, v11, v13]) (h10 : SlI kFunc H a5.m.funcs v9) (h12 : SlI (kInt .i64) H a5.f.regs v11) (h14 : SlI kBlock H a5.f.blocks v13) (h18 : CellsIn H b15 o17 [.int .i64 a16]) (hp : check_looker_are_1 a1 a5 a16 = some r) (hst : St E H [] w) :
    Fn Try.prog 115 #[.int .i64 a1, .pointer (some ⟨b2, o3, none⟩), .pointer (some ⟨b15, o17, none⟩)] w fun v w' => ∃ A, check_looker_are_1.R r v A ∧ St E H A w' := by
  refine Fn.body (fn := Try.f115) (args := [.int .i64 a1, .pointer (some ⟨b2, o3, none⟩), .pointer (some ⟨b15, o17, none⟩)]) E H [] [.tmp 4] 15 Try.func115 rfl rfl rfl rfl (leb rfl) hst ?_
  unfold check_looker_are_1 at hp
  refine TC.seq fun K_1 hK_2 => ?_
  refine TC.region ?_
  refine TL.v (ltb rfl) (rv_as (v := .bool false) rfl) ?_
  refine TL.nil ?_
  refine TC.go hK_2 ?_
  refine TC.seq fun K_3 hK_4 => ?_
  refine TC.quiet mix (by kernel_rfl) ?_
  refine QL.v (ltb rfl) (rv_ld (v := .pointer (some ⟨b6, o7, none⟩)) (o := o3) (o' := o3) (j := 0) sc_157 rfl Src.H h4 rfl rfl) ?_
  refine QL.v (ltb rfl) (rv_nilCheck (a := ⟨b6, o7, none⟩) rfl) ?_
  refine QL.v (ltb rfl) (rv_fa (b := b6) (o := o7) fa_159_1 rfl) ?_
  refine QL.v (ltb rfl) (rv_fa (b := b6) (o := o7 + 1) fa_25_2 rfl) ?_
  refine QL.v (ltb rfl) (rv_ld (v := v11) (o := o7 + 3) (o' := o7) (j := 3) sc_22 rfl Src.H h8 rfl rfl) ?_
  refine QL.v (ltb rfl) (rv_mv (v := .int .i64 a1) rfl) ?_
  obtain ⟨x19, hx_5, hp⟩ := bind_some' hp
  refine QL.v3 (ltb rfl) (rv_ix 22 (.tmp 9) (.tmp 10) (v := v11) (i := a1) Try.underlying22 inf_3 rfl rfl rfl h12 hx_5) fun b20 o21 c22 h23 h24 => ?_
  obtain rfl := h23
  refine QL.v (ltb rfl) (rv_ld (v := .int .i64 x19) (o := o21) (o' := o21) (j := 0) sc_3 rfl Src.H h24 rfl rfl) ?_
  refine QL.v (ltb rfl) (rv_ld (v := .int .i64 a16) (o := o17) (o' := o17) (j := 0) sc_3 rfl Src.H h18 rfl rfl) ?_
  refine QL.v (ltb rfl) (rv_neq (k := .i64) (m := x19) (n := a16) rfl rfl) ?_
  refine QL.v (ltb rfl) (rv_as (v := .bool (decide (¬ x19 = a16))) rfl) ?_
  refine QL.nil ?_
  refine TC.go hK_4 ?_
  refine TC.ret ?_
  obtain rfl := Option.some.inj hp
  exact fun w hw => retOk ⟨rfl, rfl⟩ (hw.pick [])

/-! ### slices.IndexFunc[[]int,int] -/
abbrev slices_IndexFunc_check_looker_has_1.R (r : Int) (v : Value) (A : List FP) : Prop := .int .i64 r = v ∧ A = []
def slices_IndexFunc_check_looker_has_1.nx16  : Option Int :=
  some (-1)
def slices_IndexFunc_check_looker_has_1.bd16 (a1 : List Int) (a8 : PLooker) (x18 : Int) : Option (Ex (Ex Int Unit) Int) :=
  if x18 < (len a1) then
    (idx a1 x18).bind fun x19 =>
    (check_looker_has_1 x19 a8).bind fun x25 =>
    if x25 = true then
      some (.ret (.ret x18))
    else
      some (.go (w64 (x18 + 1)))
  else
    some (.ret (.go ()))
def slices_IndexFunc_check_looker_has_1 (a1 : List Int) (a8 : PLooker) : Option Int :=
  (whl (fun (s : Int) => slices_IndexFunc_check_looker_has_1.bd16 a1 a8 s) FUEL 0).bind fun z =>
  match z with
    | .ret r => some r
    | .go p => slices_IndexFunc_check_looker_has_1.nx16
theorem slices_IndexFunc_check_looker_has_1_ok {E : World} {H : FP} {w : World} {a1 : List Int} {a8 : PLooker} {v2 : Value} {b5 : Nat} {o6 : Nat} {b9 : Nat} {o10 : Nat} {v12 : Value} {v14 : Value} {v16 : Value} {r : Int} (h3 : SlI (kInt .i64) H a1 v2) (h7 : CellsIn H b5 o6 [.pointer (some ⟨b9, o10, none⟩)]) (h11 : CellsIn H b9 o10 [v12, .int .i64 a8.f.params, .int .i64 a8.f.result, v14, v16]) (h13 : SlI kFunc H a8.m.funcs v12) (h15 : SlI (kInt .i64) H a8.f.regs v14) (h17 : SlI kBlock H a8.f.blocks v16) (hp : slices_IndexFunc_check_looker_has_1 a1 a8 = some r) (hst : St E H [] w) :
    Fn Try.prog 109 #[v2, .func (.func 114) #[] #[.pointer (some ⟨b5, o6, none⟩)]] w fun v w' => ∃ A, slices_IndexFunc_check_looker_has_1.R r v A ∧ St E H A w' := by
  refine Fn.body (fn := Try.f109) (args := [v2, .func (.func 114) #[] #[.pointer (some ⟨b5, o6, none⟩)]]) E H [] [.tmp 4] 19 Try.func109 rfl rfl rfl rfl (leb rfl) hst ?_
  unfold slices_IndexFunc_check_looker_has_1 at hp
  refine TC.seq fun K_1 hK_2 => ?_
  refine TC.region ?_
  refine TL.v (ltb rfl) (rv_as (v := .int .i64 0) rfl) ?_
  refine TL.nil ?_
  refine TC.go hK_2 ?_
  refine TC.seq fun K_3 hK_4 => ?_
  refine TC.seq fun K_5 hK_6 => ?_
  refine TC.region ?_
  refine TL.v (ltb rfl) (rv_mv (v := v2) rfl) ?_
  refine TL.v (ltb rfl) (rv_lenI (v := v2) Try.underlying22 rfl h3) ?_
  refine TL.v (ltb rfl) (rv_mv (v := .int .i64 0) rfl) ?_
  refine TL.nil ?_
  refine TC.go hK_6 ?_
  refine TC.block ?_
  obtain ⟨z_12, hz_13, hr_14⟩ := bind_some' hp
  clear hp
  have hJ_20 : ∀ (e_17 : Env) (hq_21 : .go () = z_12), ∀ w, St E H [] w → K_3 e_17 w := by
    intro e_17 hq_21
    subst hq_21
    replace hp : slices_IndexFunc_check_looker_has_1.nx16 = some r := hr_14
    unfold slices_IndexFunc_check_looker_has_1.nx16 at hp
    refine TC.go hK_4 ?_
    refine TC.seq fun K_18 hK_19 => ?_
    refine TC.region ?_
    refine TL.v (ltb rfl) (rv_as (v := .int .i64 (-1)) rfl) ?_
    refine TL.nil ?_
    refine TC.go hK_19 ?_
    refine TC.ret ?_
    obtain rfl := Option.some.inj hp
    exact fun w hw => retOk ⟨rfl, rfl⟩ (hw.pick [])
  refine TC.pk' [] (L' := []) rfl ?_
  refine TC.loopW (r := z_12) (fun (x18 : Int) (e_7 : Env) (L_39 : List FP) => e_7 0 = v2 ∧ e_7 1 = .func (.func 114) #[] #[.pointer (some ⟨b5, o6, none⟩)] ∧ e_7 7 = .int .i64 (len a1) ∧ e_7 8 = .int .i64 x18 ∧ L_39 = []) ?_ FUEL _ _ _ hz_13 ⟨rfl, rfl, rfl, rfl, rfl⟩
  rintro x18 e_7 L_39 ⟨h_8, h_9, h_10, h_11, rfl⟩ x_15 hp hx_16
  replace hp : slices_IndexFunc_check_looker_has_1.bd16 a1 a8 x18 = some x_15 := hp
  unfold slices_IndexFunc_check_looker_has_1.bd16 at hp
  refine TC.seq fun K_22 hK_23 => ?_
  refine TC.region ?_
  refine TL.v (ltb rfl) (rv_lss (k := .i64) (m := x18) (n := (len a1)) h_11 h_10) ?_
  refine TL.nil ?_
  refine TC.go hK_23 ?_
  refine TC.seq fun K_24 hK_25 => ?_
  by_cases hc_26 : x18 < (len a1)
  · rw [if_pos hc_26] at hp
    refine TC.condT (bT hc_26) ?_
    refine TC.skip ?_
    refine TC.go hK_25 ?_
    refine TC.seq fun K_27 hK_28 => ?_
    refine TC.block ?_
    refine TC.seq fun K_29 hK_30 => ?_
    refine TC.region ?_
    refine TL.v (ltb rfl) (rv_mv (v := .int .i64 x18) h_11) ?_
    refine TL.v (ltb rfl) (rv_as (v := .int .i64 x18) rfl) ?_
    refine TL.nil ?_
    refine TC.go hK_30 ?_
    refine TC.seq fun K_31 hK_32 => ?_
    refine TC.region ?_
    refine TL.v (ltb rfl) (rv_mv (v := .func (.func 114) #[] #[.pointer (some ⟨b5, o6, none⟩)]) h_9) ?_
    refine TL.v (ltb rfl) (rv_mv (v := v2) h_8) ?_
    refine TL.v (ltb rfl) (rv_mv (v := .int .i64 x18) rfl) ?_
    obtain ⟨x19, hx_33, hp⟩ := bind_some' hp
    refine TL.v3 (ltb rfl) (rv_ix 22 (.tmp 12) (.tmp 13) (v := v2) (i := x18) Try.underlying22 inf_3 rfl rfl rfl h3 hx_33) fun b20 o21 c22 h23 h24 => ?_
    obtain rfl := h23
    refine TL.v (ltb rfl) (rv_ld (v := .int .i64 x19) (o := o21) (o' := o21) (j := 0) sc_3 rfl Src.H h24 rfl rfl) ?_
    obtain ⟨x25, hy_34, hp⟩ := bind_some' hp
    refine TL.callvC (vs := [.int .i64 x19]) (caps := [.pointer (some ⟨b5, o6, none⟩)]) (R := check_looker_has_1.R x25) [] [] rfl cb_114 (ltb rfl) rfl (mc rfl m0) (fun w hw => check_looker_has_1_ok (a1 := x19) (a5 := a8) (h7.mono subH) (h11.mono subH) (h13.mono subH) (h15.mono subH) (h17.mono subH) hy_34 hw) fun v A' hR_35 => ?_
    obtain ⟨rfl, rfl⟩ := hR_35
    refine TL.norm (L' := []) rfl ?_
    refine TL.nil ?_
    refine TC.go hK_32 ?_
    by_cases hc_36 : x25 = true
    · rw [if_pos hc_36] at hp
      refine TC.condT (bbT hc_36) ?_
      refine TC.seq fun K_37 hK_38 => ?_
      refine TC.region ?_
      refine TL.v (ltb rfl) (rv_mv (v := .int .i64 x18) rfl) ?_
      refine TL.v (ltb rfl) (rv_as (v := .int .i64 x18) rfl) ?_
      refine TL.nil ?_
      refine TC.go hK_38 ?_
      refine TC.ret ?_
      obtain rfl := ex_ret hp hx_16
      obtain rfl := Option.some.inj hr_14
      exact fun w hw => retOk ⟨rfl, rfl⟩ (hw.pick [])
    · rw [if_neg hc_36] at hp
      refine TC.condF (bbF hc_36) ?_
      refine TC.skip ?_
      refine TC.go hK_28 ?_
      refine TC.region ?_
      refine TL.v (ltb rfl) (rv_add (k := .i64) (m := x18) (n := 1) h_11 rfl) ?_
      refine TL.v (ltb rfl) (rv_mv (v := .int .i64 (w64 (x18 + 1))) rfl) ?_
      refine TL.nil ?_
      exact fun w hw => goOk hp ⟨h_8, h_9, h_10, rfl, rfl⟩ (hw.pick [])
  · rw [if_neg hc_26] at hp
    refine TC.condF (bF hc_26) ?_
    refine TC.exit ?_
    refine fun w hw => hJ_20 _ (ex_ret hp hx_16) w (hw.pick [])

/-! ### slices.ContainsFunc[[]int,int] -/
abbrev slices_ContainsFunc_check_looker_has_1.R (r : Bool) (v : Value) (A : List FP) : Prop := .bool r = v ∧ A = []
def slices_ContainsFunc_check_looker_has_1 (a1 : List Int) (a8 : PLooker) : Option Bool :=
  (slices_IndexFunc_check_looker_has_1 a1 a8).bind fun x18 =>
  some (decide (x18 ≥ 0))
theorem slices_ContainsFunc_check_looker_has_1_ok {E : World} {H : FP} {w : World} {a1 : List Int} {a8 : PLooker} {v2 : Value} {b5 : Nat} {o6 : Nat} {b9 : Nat} {o10 : Nat} {v12 : Value} {v14 : Value} {v16 : Value} {r : Bool} (h3 : SlI (kInt .i64) H a1 v2) (h7 : CellsIn H b5 o6 [.pointer (some ⟨b9, o10, none⟩)]) (h11 : CellsIn H b9 o10 [v12, .int .i64 a8.f.params, .int .i64 a8.f.result, v14, v16]) (h13 : SlI kFunc H a8.m.funcs v12) (h15 : SlI (kInt .i64) H a8.f.regs v14) (h17 : SlI kBlock H a8.f.blocks v16) (hp : slices_ContainsFunc_check_looker_has_1 a1 a8 = some r) (hst : St E H [] w) :
    Fn Try.prog 103 #[v2, .func (.func 114) #[] #[.pointer (some ⟨b5, o6, none⟩)]] w fun v w' => ∃ A, slices_ContainsFunc_check_looker_has_1.R r v A ∧ St E H A w' := by
  refine Fn.body (fn := Try.f103) (args := [v2, .func (.func 114) #[] #[.pointer (some ⟨b5, o6, none⟩)]]) E H [] [.tmp 4] 9 Try.func103 rfl rfl rfl rfl (leb rfl) hst ?_
  unfold slices_ContainsFunc_check_looker_has_1 at hp
  refine TC.seq fun K_1 hK_2 => ?_
  refine TC.region ?_
  refine TL.v (ltb rfl) (rv_as (v := .bool false) rfl) ?_
  refine TL.nil ?_
  refine TC.go hK_2 ?_
  refine TC.seq fun K_3 hK_4 => ?_
  refine TC.region ?_
  refine TL.v (ltb rfl) (rv_mv (v := v2) rfl) ?_
  refine TL.v (ltb rfl) (rv_mv (v := .func (.func 114) #[] #[.pointer (some ⟨b5, o6, none⟩)]) rfl) ?_
  obtain ⟨x18, hy_5, hp⟩ := bind_some' hp
  refine TL.callC (vs := [v2, .func (.func 114) #[] #[.pointer (some ⟨b5, o6, none⟩)]]) (R := slices_IndexFunc_check_looker_has_1.R x18) [] [] rfl cb_109 (ltb rfl) (mc rfl (mc rfl m0)) (fun w hw => slices_IndexFunc_check_looker_has_1_ok (a1 := a1) (a8 := a8) (h3.mono subH) (h7.mono subH) (h11.mono subH) (h13.mono subH) (h15.mono subH) (h17.mono subH) hy_5 hw) fun v A' hR_6 => ?_
  obtain ⟨rfl, rfl⟩ := hR_6
  refine TL.norm (L' := []) rfl ?_
  refine TL.v (ltb rfl) (rv_geq (k := .i64) (m := x18) (n := 0) rfl rfl) ?_
  refine TL.v (ltb rfl) (rv_as (v := .bool (decide (x18 ≥ 0))) rfl) ?_
  refine TL.nil ?_
  refine TC.go hK_4 ?_
  refine TC.ret ?_
  obtain rfl := Option.some.inj hp
  exact fun w hw => retOk ⟨rfl, rfl⟩ (hw.pick [])

/-! ### slices.IndexFunc[[]int,int] -/
abbrev slices_IndexFunc_check_looker_are_1.R (r : Int) (v : Value) (A : List FP) : Prop := .int .i64 r = v ∧ A = []
def slices_IndexFunc_check_looker_are_1.nx16  : Option Int :=
  some (-1)
def slices_IndexFunc_check_looker_are_1.bd16 (a1 : List Int) (a8 : PLooker) (a19 : Int) (x22 : Int) : Option (Ex (Ex Int Unit) Int) :=
  if x22 < (len a1) then
    (idx a1 x22).bind fun x23 =>
    (check_looker_are_1 x23 a8 a19).bind fun x29 =>
    if x29 = true then
      some (.ret (.ret x22))
    else
      some (.go (w64 (x22 + 1)))
  else
    some (.ret (.go ()))
def slices_IndexFunc_check_looker_are_1 (a1 : List Int) (a8 : PLooker) (a19 : Int) : Option Int :=
  (whl (fun (s : Int) => slices_IndexFunc_check_looker_are_1.bd16 a1 a8 a19 s) FUEL 0).bind fun z =>
  match z with
    | .ret r => some r
    | .go p => slices_IndexFunc_check_looker_are_1.nx16
theorem slices_IndexFunc_check_looker_are_1_ok {E : World} {H : FP} {w : World} {a1 : List Int} {a8 : PLooker} {a19 : Int} {v2 : Value} {b5 : Nat} {o6 : Nat} {b9 : Nat} {o10 : Nat} {v12 : Value} {v14 : Value} {v16 : Value} {b18 : Nat} {o20 : Nat} {r : Int} (h3 : SlI (kInt .i64) H a1 v2) (h7 : CellsIn H b5 o6 [.pointer (some ⟨b9, o10, none⟩)]) (h11 : CellsIn H b9 o10 [v12, .int .i64 a8.f.params, .int .i64 a8.f.result, v14, v16]) (h13 : SlI kFunc H a8.m.funcs v12) (h15 : SlI (kInt .i64) H a8.f.regs v14) (h17 : SlI kBlock H a8.f.blocks v16) (h21 : CellsIn H b18 o20 [.int .i64 a19]) (hp : slices_IndexFunc_check_looker_are_1 a1 a8 a19 = some r) (hst : St E H [] w) :
    Fn Try.prog 109 #[v2, .func (.func 115) #[] #[.pointer (some ⟨b5, o6, none⟩), .pointer (some ⟨b18, o20, none⟩)]] w fun v w' => ∃ A, slices_IndexFunc_check_looker_are_1.R r v A ∧ St E H A w' := by
  refine Fn.body (fn := Try.f109) (args := [v2, .func (.func 115) #[] #[.pointer (some ⟨b5, o6, none⟩), .pointer (some ⟨b18, o20, none⟩)]]) E H [] [.tmp 4] 19 Try.func109 rfl rfl rfl rfl (leb rfl) hst ?_
  unfold slices_IndexFunc_check_looker_are_1 at hp
  refine TC.seq fun K_1 hK_2 => ?_
  refine TC.region ?_
  refine TL.v (ltb rfl) (rv_as (v := .int .i64 0) rfl) ?_
  refine TL.nil ?_
  refine TC.go hK_2 ?_
  refine TC.seq fun K_3 hK_4 => ?_
  refine TC.seq fun K_5 hK_6 => ?_
  refine TC.region ?_
  refine TL.v (ltb rfl) (rv_mv (v := v2) rfl) ?_
  refine TL.v (ltb rfl) (rv_lenI (v := v2) Try.underlying22 rfl h3) ?_
  refine TL.v (ltb rfl) (rv_mv (v := .int .i64 0) rfl) ?_
  refine TL.nil ?_
  refine TC.go hK_6 ?_
  refine TC.block ?_
  obtain ⟨z_12, hz_13, hr_14⟩ := bind_some' hp
  clear hp
  have hJ_20 : ∀ (e_17 : Env) (hq_21 : .go () = z_12), ∀ w, St E H [] w → K_3 e_17 w := by
    intro e_17 hq_21
    subst hq_21
    replace hp : slices_IndexFunc_check_looker_are_1.nx16 = some r := hr_14
    unfold slices_IndexFunc_check_looker_are_1.nx16 at hp
    refine TC.go hK_4 ?_
    refine TC.seq fun K_18 hK_19 => ?_
    refine TC.region ?_
    refine TL.v (ltb rfl) (rv_as (v := .int .i64 (-1)) rfl) ?_
    refine TL.nil ?_
    refine TC.go hK_19 ?_
    refine TC.ret ?_
    obtain rfl := Option.some.inj hp
    exact fun w hw => retOk ⟨rfl, rfl⟩ (hw.pick [])
  refine TC.pk' [] (L' := []) rfl ?_
  refine TC.loopW (r := z_12) (fun (x22 : Int) (e_7 : Env) (L_39 : List FP) => e_7 0 = v2 ∧ e_7 1 = .func (.func 115) #[] #[.pointer (some ⟨b5, o6, none⟩), .pointer (some ⟨b18, o20, none⟩)] ∧ e_7 7 = .int .i64 (len a1) ∧ e_7 8 = .int .i64 x22 ∧ L_39 = []) ?_ FUEL _ _ _ hz_13 ⟨rfl, rfl, rfl, rfl, rfl⟩
  rintro x22 e_7 L_39 ⟨h_8, h_9, h_10, h_11, rfl⟩ x_15 hp hx_16
  replace hp : slices_IndexFunc_check_looker_are_1.bd16 a1 a8 a19 x22 = some x_15 := hp
  unfold slices_IndexFunc_check_looker_are_1.bd16 at hp
  refine TC.seq fun K_22 hK_23 => ?_
  refine TC.region ?_
  refine TL.v (ltb rfl) (rv_lss (k := .i64) (m := x22) (n := (len a1)) h_11 h_10) ?_
  refine TL.nil ?_
  refine TC.go hK_23 ?_
  refine TC.seq fun K_24 hK_25 => ?_
  by_cases hc_26 : x22 < (len a1)
  · rw [if_pos hc_26] at hp
    refine TC.condT (bT hc_26) ?_
    refine TC.skip ?_
    refine TC.go hK_25 ?_
    refine TC.seq fun K_27 hK_28 => ?_
    refine TC.block ?_
    refine TC.seq fun K_29 hK_30 => ?_
    refine TC.region ?_
    refine TL.v (ltb rfl) (rv_mv (v := .int .i64 x22) h_11) ?_
    refine TL.v (ltb rfl) (rv_as (v := .int .i64 x22) rfl) ?_
    refine TL.nil ?_
    refine TC.go hK_30 ?_
    refine TC.seq fun K_31 hK_32 => ?_
    refine TC.region ?_
    refine TL.v (ltb rfl) (rv_mv (v := .func (.func 115) #[] #[.pointer (some ⟨b5, o6, none⟩), .pointer (some ⟨b18, o20, none⟩)]) h_9) ?_
    refine TL.v (ltb rfl) (rv_mv (v := v2) h_8) ?_
    refine TL.v (ltb rfl) (rv_mv (v := .int .i64 x22) rfl) ?_
    obtain ⟨x23, hx_33, hp⟩ := bind_some' hp
    refine TL.v3 (ltb rfl) (rv_ix 22 (.tmp 12) (.tmp 13) (v := v2) (i := x22) Try.underlying22 inf_3 rfl rfl rfl h3 hx_33) fun b24 o25 c26 h27 h28 => ?_
    obtain rfl := h27
    refine TL.v (ltb rfl) (rv_ld (v := .int .i64 x23) (o := o25) (o' := o25) (j := 0) sc_3 rfl Src.H h28 rfl rfl) ?_
    obtain ⟨x29, hy_34, hp⟩ := bind_some' hp
    refine TL.callvC (vs := [.int .i64 x23]) (caps := [.pointer (some ⟨b5, o6, none⟩), .pointer (some ⟨b18, o20, none⟩)]) (R := check_looker_are_1.R x29) [] [] rfl cb_115 (ltb rfl) rfl (mc rfl m0) (fun w hw => check_looker_are_1_ok (a1 := x23) (a5 := a8) (a16 := a19) (h7.mono subH) (h11.mono subH) (h13.mono subH) (h15.mono subH) (h17.mono subH) (h21.mono subH) hy_34 hw) fun v A' hR_35 => ?_
    obtain ⟨rfl, rfl⟩ := hR_35
    refine TL.norm (L' := []) rfl ?_
    refine TL.nil ?_
    refine TC.go hK_32 ?_
    by_cases hc_36 : x29 = true
    · rw [if_pos hc_36] at hp
      refine TC.condT (bbT hc_36) ?_
      refine TC.seq fun K_37 hK_38 => ?_
      refine TC.region ?_
      refine TL.v (ltb rfl) (rv_mv (v := .int .i64 x22) rfl) ?_
      refine TL.v (ltb rfl) (rv_as (v := .int .i64 x22) rfl) ?_
      refine TL.nil ?_
      refine TC.go hK_38 ?_
      refine TC.ret ?_
      obtain rfl := ex_ret hp hx_16
      obtain rfl := Option.some.inj hr_14
      exact fun w hw => retOk ⟨rfl, rfl⟩ (hw.pick [])
    · rw [if_neg hc_36] at hp
      refine TC.condF (bbF hc_36) ?_
      refine TC.skip ?_
      refine TC.go hK_28 ?_
      refine TC.region ?_
      refine TL.v (ltb rfl) (rv_add (k := .i64) (m := x22) (n := 1) h_11 rfl) ?_
      refine TL.v (ltb rfl) (rv_mv (v := .int .i64 (w64 (x22 + 1))) rfl) ?_
      refine TL.nil ?_
      exact fun w hw => goOk hp ⟨h_8, h_9, h_10, rfl, rfl⟩ (hw.pick [])
  · rw [if_neg hc_26] at hp
    refine TC.condF (bF hc_26) ?_
    refine TC.exit ?_
    refine fun w hw => hJ_20 _ (ex_ret hp hx_16) w (hw.pick [])

/-! ### slices.ContainsFunc[[]int,int] -/
abbrev slices_ContainsFunc_check_looker_are_1.R (r : Bool) (v : Value) (A : List FP) : Prop := .bool r = v ∧ A = []
def slices_ContainsFunc_check_looker_are_1 (a1 : List Int) (a8 : PLooker) (a19 : Int) : Option Bool :=
  (slices_IndexFunc_check_looker_are_1 a1 a8 a19).bind fun x22 =>
  some (decide (x22 ≥ 0))
theorem slices_ContainsFunc_check_looker_are_1_ok {E : World} {H : FP} {w : World} {a1 : List Int} {a8 : PLooker} {a19 : Int} {v2 : Value} {b5 : Nat} {o6 : Nat} {b9 : Nat} {o10 : Nat} {v12 : Value} {v14 : Value} {v16 : Value} {b18 : Nat} {o20 : Nat} {r : Bool} (h3 : SlI (kInt .i64) H a1 v2) (h7 : CellsIn H b5 o6 [.pointer (some ⟨b9, o10, none⟩)]) (h11 : CellsIn H b9 o10 [v12, .int .i64 a8.f.params, .int .i64 a8.f.result, v14, v16]) (h13 : SlI kFunc H a8.m.funcs v12) (h15 : SlI (kInt .i64) H a8.f.regs v14) (h17 : SlI kBlock H a8.f.blocks v16) (h21 : CellsIn H b18 o20 [.int .i64 a19]) (hp : slices_ContainsFunc_check_looker_are_1 a1 a8 a19 = some r) (hst : St E H [] w) :
    Fn Try.prog 103 #[v2, .func (.func 115) #[] #[.pointer (some ⟨b5, o6, none⟩), .pointer (some ⟨b18, o20, none⟩)]] w fun v w' => ∃ A, slices_ContainsFunc_check_looker_are_1.R r v A ∧ St E H A w' := by
  refine Fn.body (fn := Try.f103) (args := [v2, .func (.func 115) #[] #[.pointer (some ⟨b5, o6, none⟩), .pointer (some ⟨b18, o20, none⟩)]]) E H [] [.tmp 4] 9 Try.func103 rfl rfl rfl rfl (leb rfl) hst ?_
  unfold slices_ContainsFunc_check_looker_are_1 at hp
  refine TC.seq fun K_1 hK_2 => ?_
  refine TC.region ?_
  refine TL.v (ltb rfl) (rv_as (v := .bool false) rfl) ?_
  refine TL.nil ?_
  refine TC.go hK_2 ?_
  refine TC.seq fun K_3 hK_4 => ?_
  refine TC.region ?_
  refine TL.v (ltb rfl) (rv_mv (v := v2) rfl) ?_
  refine TL.v (ltb rfl) (rv_mv (v := .func (.func 115) #[] #[.pointer (some ⟨b5, o6, none⟩), .pointer (some ⟨b18, o20, none⟩)]) rfl) ?_
  obtain ⟨x22, hy_5, hp⟩ := bind_some' hp
  refine TL.callC (vs := [v2, .func (.func 115) #[] #[.pointer (some ⟨b5, o6, none⟩), .pointer (some ⟨b18, o20, none⟩)]]) (R := slices_IndexFunc_check_looker_are_1.R x22) [] [] rfl cb_109 (ltb rfl) (mc rfl (mc rfl m0)) (fun w hw => slices_IndexFunc_check_looker_are_1_ok (a1 := a1) (a8 := a8) (a19 := a19) (h3.mono subH) (h7.mono subH) (h11.mono subH) (h13.mono subH) (h15.mono subH) (h17.mono subH) (h21.mono subH) hy_5 hw) fun v A' hR_6 => ?_
  obtain ⟨rfl, rfl⟩ := hR_6
  refine TL.norm (L' := []) rfl ?_
  refine TL.v (ltb rfl) (rv_geq (k := .i64) (m := x22) (n := 0) rfl rfl) ?_
  refine TL.v (ltb rfl) (rv_as (v := .bool (decide (x22 ≥ 0))) rfl) ?_
  refine TL.nil ?_
  refine TC.go hK_4 ?_
  refine TC.ret ?_
  obtain rfl := Option.some.inj hp
  exact fun w hw => retOk ⟨rfl, rfl⟩ (hw.pick [])

/-! ### (*fettle/check.looker).has -/
abbrev check_looker_has.R (r : Bool) (v : Value) (A : List FP) : Prop := .bool r = v ∧ A = []
def check_looker_has (a2 : PLooker) (a11 : List Int) : Option Bool :=
  (slices_ContainsFunc_check_looker_has_1 a11 a2).bind fun x15 =>
  some (!x15)
theorem check_looker_has_ok {E : World} {H : FP} {w : World} {a2 : PLooker} {a11 : List Int} {b1 : Nat} {o3 : Nat} {v5 : Value} {v7 : Value} {v9 : Value} {v12 : Value} {r : Bool} (h4 : CellsIn H b1 o3 [v5, .int .i64 a2.f.params, .int .i64 a2.f.result, v7, v9]) (h6 : SlI kFunc H a2.m.funcs v5) (h8 : SlI (kInt .i64) H a2.f.regs v7) (h10 : SlI kBlock H a2.f.blocks v9) (h13 : SlI (kInt .i64) H a11 v12) (hp : check_looker_has a2 a11 = some r) (hst : St E H [] w) :
    Fn Try.prog 110 #[.pointer (some ⟨b1, o3, none⟩), v12] w fun v w' => ∃ A, check_looker_has.R r v A ∧ St E H A w' := by
  refine Fn.body (fn := Try.f110) (args := [.pointer (some ⟨b1, o3, none⟩), v12]) E H [] [.tmp 4] 9 Try.func110 rfl rfl rfl rfl (leb rfl) hst ?_
  unfold check_looker_has at hp
  refine TC.seq fun K_1 hK_2 => ?_
  refine TC.region ?_
  refine TL.box (cs := [.pointer (some ⟨b1, o3, none⟩)]) (v := .pointer (some ⟨b1, o3, none⟩)) (ltb rfl) rfl rfl fun b14 => ?_
  refine TL.v (ltb rfl) (rv_as (v := .bool false) rfl) ?_
  refine TL.nil ?_
  refine TC.go hK_2 ?_
  refine TC.seq fun K_3 hK_4 => ?_
  refine TC.region ?_
  refine TL.v (ltb rfl) (rv_mv (v := v12) rfl) ?_
  refine TL.v (ltb rfl) (rv_makeFunc (vs := [.pointer (some ⟨b14, 0, none⟩)]) (mc rfl m0)) ?_
  obtain ⟨x15, hy_5, hp⟩ := bind_some' hp
  refine TL.callC (vs := [v12, .func (.func 114) #[] #[.pointer (some ⟨b14, 0, none⟩)]]) (R := slices_ContainsFunc_check_looker_has_1.R x15) [] [bx b14 157 [.pointer (some ⟨b1, o3, none⟩)]] rfl cb_103 (ltb rfl) (mc rfl (mc rfl m0)) (fun w hw => slices_ContainsFunc_check_looker_has_1_ok (a1 := a11) (a8 := a2) (h13.mono subH) ((bx_cells b14 157 _).mono (subB 0 rfl)) (h4.mono subH) (h6.mono subH) (h8.mono subH) (h10.mono subH) hy_5 hw) fun v A' hR_6 => ?_
  obtain ⟨rfl, rfl⟩ := hR_6
  refine TL.norm (L' := [bx b14 157 [.pointer (some ⟨b1, o3, none⟩)]]) rfl ?_
  refine TL.v (ltb rfl) (rv_not (b := x15) rfl) ?_
  refine TL.v (ltb rfl) (rv_as (v := .bool (!x15)) rfl) ?_
  refine TL.nil ?_
  refine TC.go hK_4 ?_
  refine TC.ret ?_
  obtain rfl := Option.some.inj hp
  exact fun w hw => retOk ⟨rfl, rfl⟩ (hw.pick [])

/-! ### (*fettle/check.looker).are -/
abbrev check_looker_are.R (r : Bool) (v : Value) (A : List FP) : Prop := .bool r = v ∧ A = []
def check_looker_are (a2 : PLooker) (a11 : Int) (a12 : List Int) : Option Bool :=
  (slices_ContainsFunc_check_looker_are_1 a12 a2 a11).bind fun x17 =>
  some (!x17)
theorem check_looker_are_ok {E : World} {H : FP} {w : World} {a2 : PLooker} {a11 : Int} {a12 : List Int} {b1 : Nat} {o3 : Nat} {v5 : Value} {v7 : Value} {v9 : Value} {v13 : Value} {r : Bool} (h4 : CellsIn H b1 o3 [v5, .int .i64 a2.f.params, .int .i64 a2.f.result, v7, v9]) (h6 : SlI kFunc H a2.m.funcs v5) (h8 : SlI (kInt .i64) H a2.f.regs v7) (h10 : SlI kBlock H a2.f.blocks v9) (h14 : SlI (kInt .i64) H a12 v13) (hp : check_looker_are a2 a11 a12 = some r) (hst : St E H [] w) :
    Fn Try.prog 111 #[.pointer (some ⟨b1, o3, none⟩), .int .i64 a11, v13] w fun v w' => ∃ A, check_looker_are.R r v A ∧ St E H A w' := by
  refine Fn.body (fn := Try.f111) (args := [.pointer (some ⟨b1, o3, none⟩), .int .i64 a11, v13]) E H [] [.tmp 6] 11 Try.func111 rfl rfl rfl rfl (leb rfl) hst ?_
  unfold check_looker_are at hp
  refine TC.seq fun K_1 hK_2 => ?_
  refine TC.region ?_
  refine TL.box (cs := [.pointer (some ⟨b1, o3, none⟩)]) (v := .pointer (some ⟨b1, o3, none⟩)) (ltb rfl) rfl rfl fun b15 => ?_
  refine TL.box (cs := [.int .i64 a11]) (v := .int .i64 a11) (ltb rfl) rfl rfl fun b16 => ?_
  refine TL.v (ltb rfl) (rv_as (v := .bool false) rfl) ?_
  refine TL.nil ?_
  refine TC.go hK_2 ?_
  refine TC.seq fun K_3 hK_4 => ?_
  refine TC.region ?_
  refine TL.v (ltb rfl) (rv_mv (v := v13) rfl) ?_
  refine TL.v (ltb rfl) (rv_makeFunc (vs := [.pointer (some ⟨b15, 0, none⟩), .pointer (some ⟨b16, 0, none⟩)]) (mc rfl (mc rfl m0))) ?_
  obtain ⟨x17, hy_5, hp⟩ := bind_some' hp
  refine TL.callC (vs := [v13, .func (.func 115) #[] #[.pointer (some ⟨b15, 0, none⟩), .pointer (some ⟨b16, 0, none⟩)]]) (R := slices_ContainsFunc_check_looker_are_1.R x17) [] [bx b16 3 [.int .i64 a11], bx b15 157 [.pointer (some ⟨b1, o3, none⟩)]] rfl cb_103 (ltb rfl) (mc rfl (mc rfl m0)) (fun w hw => slices_ContainsFunc_check_looker_are_1_ok (a1 := a12) (a8 := a2) (a19 := a11) (h14.mono subH) ((bx_cells b15 157 _).mono (subB 1 rfl)) (h4.mono subH) (h6.mono subH) (h8.mono subH) (h10.mono subH) ((bx_cells b16 3 _).mono (subB 0 rfl)) hy_5 hw) fun v A' hR_6 => ?_
  obtain ⟨rfl, rfl⟩ := hR_6
  refine TL.norm (L' := [bx b16 3 [.int .i64 a11], bx b15 157 [.pointer (some ⟨b1, o3, none⟩)]]) rfl ?_
  refine TL.v (ltb rfl) (rv_not (b := x17) rfl) ?_
  refine TL.v (ltb rfl) (rv_as (v := .bool (!x17)) rfl) ?_
  refine TL.nil ?_
  refine TC.go hK_4 ?_
  refine TC.ret ?_
  obtain rfl := Option.some.inj hp
  exact fun w hw => retOk ⟨rfl, rfl⟩ (hw.pick [])

/-! ### (*fettle/check.looker).phi -/
abbrev check_looker_phi.R (r : GErr) (v : Value) (A : List FP) : Prop := ∃ (w1 : Value) (G1 : FP), w1 = v ∧ A = [G1] ∧ ErO 72 143 145 r w1 G1
def check_looker_phi (a2 : PLooker) (a11 : PPhi) : Option GErr :=
  (check_looker_has a2 ([a11.dst])).bind fun x18 =>
  (if (!x18) = true then some true else (check_looker_has a2 a11.args).bind fun x30 =>
  some (!x30)).bind fun t19 =>
  if t19 = true then
    some (GErr.code 4)
  else
    (idx a2.f.regs a11.dst).bind fun x21 =>
    (check_looker_are a2 x21 a11.args).bind fun x27 =>
    if (!x27) = true then
      some (GErr.code 3)
    else
      some GErr.no
theorem check_looker_phi_ok {E : World} {H : FP} {w : World} {a2 : PLooker} {a11 : PPhi} {b1 : Nat} {o3 : Nat} {v5 : Value} {v7 : Value} {v9 : Value} {v12 : Value} {r : GErr} (h4 : CellsIn H b1 o3 [v5, .int .i64 a2.f.params, .int .i64 a2.f.result, v7, v9]) (h6 : SlI kFunc H a2.m.funcs v5) (h8 : SlI (kInt .i64) H a2.f.regs v7) (h10 : SlI kBlock H a2.f.blocks v9) (h13 : SlI (kInt .i64) H a11.args v12) (hp : check_looker_phi a2 a11 = some r) (hst : St E H [] w) :
    Fn Try.prog 104 #[.pointer (some ⟨b1, o3, none⟩), .agg #[.int .i64 a11.dst, v12]] w fun v w' => ∃ A, check_looker_phi.R r v A ∧ St E H A w' := by
  refine Fn.body (fn := Try.f104) (args := [.pointer (some ⟨b1, o3, none⟩), .agg #[.int .i64 a11.dst, v12]]) E H [] [.tmp 4] 36 Try.func104 rfl rfl rfl rfl (leb rfl) hst ?_
  unfold check_looker_phi at hp
  refine TC.seq fun K_1 hK_2 => ?_
  refine TC.region ?_
  refine TL.box (cs := [.int .i64 a11.dst, v12]) (v := .agg #[.int .i64 a11.dst, v12]) (ltb rfl) rfl rfl fun b14 => ?_
  refine TL.v (ltb rfl) (rv_as (v := .nilIface) rfl) ?_
  refine TL.nil ?_
  refine TC.go hK_2 ?_
  refine TC.seq fun K_3 hK_4 => ?_
  refine TC.block ?_
  refine TC.seq fun K_5 hK_6 => ?_
  refine TC.region ?_
  refine TL.v (ltb rfl) (rv_mv (v := .pointer (some ⟨b1, o3, none⟩)) rfl) ?_
  refine TL.v (ltb rfl) (rv_fa (b := b14) (o := 0) fa_131_0 rfl) ?_
  refine TL.v (ltb rfl) (rv_ld (v := .int .i64 a11.dst) (o := 0) (o' := 0) (j := 0) sc_3 rfl (Src.at_ 0 rfl) (bx_cells b14 131 _) rfl rfl) ?_
  refine TL.bv (vs := [(0, .int .i64 a11.dst)]) (cs := [.int .i64 a11.dst]) (pc rfl p0) Try.underlying22 inf_3 (ltb rfl) (by decide) (by decide) (by kernel_rfl) fun b15 => ?_
  refine TL.perm (L' := [bx b15 3 [.int .i64 a11.dst], [], bx b14 131 [.int .i64 a11.dst, v12]]) (by simp) ?_
  refine TL.litOwn (n := 1) (xs := [a11.dst]) (RepL.to (RepL.cons (k := (kInt .i64)) (x := a11.dst) ⟨rfl, rfl⟩ RepL.nil) rfl) rfl rfl (ltb rfl) fun F16 h17 => ?_
  obtain ⟨x18, hy_7, hp⟩ := bind_some' hp
  refine TL.callC (vs := [.pointer (some ⟨b1, o3, none⟩), (.slice (some ⟨b15, 0, none⟩) 1 1)]) (R := check_looker_has.R x18) [] [F16, bx b14 131 [.int .i64 a11.dst, v12]] rfl cb_110 (ltb rfl) (mc rfl (mc rfl m0)) (fun w hw => check_looker_has_ok (a2 := a2) (a11 := [a11.dst]) (h4.mono subH) (h6.mono subH) (h8.mono subH) (h10.mono subH) (h17.ro.mono (subB 0 rfl)) hy_7 hw) fun v A' hR_8 => ?_
  obtain ⟨rfl, rfl⟩ := hR_8
  refine TL.norm (L' := [F16, bx b14 131 [.int .i64 a11.dst, v12]]) rfl ?_
  refine TL.v (ltb rfl) (rv_not (b := x18) rfl) ?_
  refine TL.v (ltb rfl) (rv_mv (v := .bool (!x18)) rfl) ?_
  obtain ⟨t19, ht_29, hp⟩ := bind_some' hp
  refine TL.cut 6 fun K_9 hK_10 => ?_
  have hJ_11 : ∀ e_13 : Env, e_13 0 = .pointer (some ⟨b1, o3, none⟩) → e_13 3 = .pointer (some ⟨b14, 0, none⟩) → e_13 18 = .bool t19 → ∀ w, St E H [F16, bx b14 131 [.int .i64 a11.dst, v12]] w → K_9 e_13 w := by
    intro e_13 h_14 h_15 h_16
    refine TL.go hK_10 ?_
    refine TL.v (ltb rfl) (rv_as (v := .bool t19) h_16) ?_
    refine TL.nil ?_
    refine TC.go hK_6 ?_
    by_cases hc_17 : t19 = true
    · rw [if_pos hc_17] at hp
      refine TC.condT (bbT hc_17) ?_
      refine TC.seq fun K_18 hK_19 => ?_
      refine TC.region ?_
      refine TL.v (ltb rfl) (rv_makeIface (v := .int .i64 4) Try.underlying72 (fun ms h => by cases h) rfl) ?_
      refine TL.v (ltb rfl) (rv_as (v := .iface 72 (.int .i64 4)) rfl) ?_
      refine TL.nil ?_
      refine TC.go hK_19 ?_
      refine TC.ret ?_
      refine W.new0 ?_
      obtain rfl := Option.some.inj hp
      exact fun w hw => retOk ⟨(.iface 72 (.int .i64 4)), ([] : FP), rfl, rfl, (ErO.mk _ : ErO 72 143 145 (GErr.code 4) (.iface 72 (.int .i64 4)) [])⟩ (hw.pick [0])
    · rw [if_neg hc_17] at hp
      refine TC.condF (bbF hc_17) ?_
      refine TC.seq fun K_20 hK_21 => ?_
      refine TC.quiet mix (by kernel_rfl) ?_
      refine QL.v (ltb rfl) (rv_mv (v := .pointer (some ⟨b1, o3, none⟩)) h_14) ?_
      refine QL.v (ltb rfl) (rv_mv (v := .pointer (some ⟨b1, o3, none⟩)) h_14) ?_
      refine QL.v (ltb rfl) (rv_nilCheck (a := ⟨b1, o3, none⟩) rfl) ?_
      refine QL.v (ltb rfl) (rv_fa (b := b1) (o := o3) fa_159_1 rfl) ?_
      refine QL.v (ltb rfl) (rv_fa (b := b1) (o := o3 + 1) fa_25_2 rfl) ?_
      refine QL.v (ltb rfl) (rv_ld (v := v7) (o := o3 + 3) (o' := o3) (j := 3) sc_22 rfl Src.H h4 rfl rfl) ?_
      refine QL.v (ltb rfl) (rv_fa (b := b14) (o := 0) fa_131_0 h_15) ?_
      refine QL.v (ltb rfl) (rv_ld (v := .int .i64 a11.dst) (o := 0) (o' := 0) (j := 0) sc_3 rfl (Src.at_ 1 rfl) (bx_cells b14 131 _) rfl rfl) ?_
      obtain ⟨x21, hx_22, hp⟩ := bind_some' hp
      refine QL.v3 (ltb rfl) (rv_ix 22 (.tmp 26) (.tmp 28) (v := v7) (i := a11.dst) Try.underlying22 inf_3 rfl rfl rfl h8 hx_22) fun b22 o23 c24 h25 h26 => ?_
      obtain rfl := h25
      refine QL.v (ltb rfl) (rv_ld (v := .int .i64 x21) (o := o23) (o' := o23) (j := 0) sc_3 rfl Src.H h26 rfl rfl) ?_
      refine QL.v (ltb rfl) (rv_fa (b := b14) (o := 0) fa_131_1 h_15) ?_
      refine QL.v (ltb rfl) (rv_ld (v := v12) (o := 1) (o' := 0) (j := 1) sc_22 rfl (Src.at_ 1 rfl) (bx_cells b14 131 _) rfl rfl) ?_
      obtain ⟨x27, hy_23, hp⟩ := bind_some' hp
      refine QL.callC (vs := [.pointer (some ⟨b1, o3, none⟩), .int .i64 x21, v12]) (R := check_looker_are.R x27) (.bool x27) cb_111 (ltb rfl) (mc rfl (mc rfl (mc rfl m0))) (fun w hw => check_looker_are_ok (a2 := a2) (a11 := x21) (a12 := a11.args) (h4.mono subH) (h6.mono subH) (h8.mono subH) (h10.mono subH) (h13.mono subH) hy_23 hw) (fun u A' h => ⟨h.1.symm, h.2⟩) ?_
      refine QL.v (ltb rfl) (rv_not (b := x27) rfl) ?_
      refine QL.v (ltb rfl) (rv_as (v := .bool (!x27)) rfl) ?_
      refine QL.nil ?_
      refine TC.go hK_21 ?_
      by_cases hc_24 : (!x27) = true
      · rw [if_pos hc_24] at hp
        refine TC.condT (bbT hc_24) ?_
        refine TC.seq fun K_25 hK_26 => ?_
        refine TC.region ?_
        refine TL.v (ltb rfl) (rv_makeIface (v := .int .i64 3) Try.underlying72 (fun ms h => by cases h) rfl) ?_
        refine TL.v (ltb rfl) (rv_as (v := .iface 72 (.int .i64 3)) rfl) ?_
        refine TL.nil ?_
        refine TC.go hK_26 ?_
        refine TC.ret ?_
        refine W.new0 ?_
        obtain rfl := Option.some.inj hp
        exact fun w hw => retOk ⟨(.iface 72 (.int .i64 3)), ([] : FP), rfl, rfl, (ErO.mk _ : ErO 72 143 145 (GErr.code 3) (.iface 72 (.int .i64 3)) [])⟩ (hw.pick [0])
      · rw [if_neg hc_24] at hp
        refine TC.condF (bbF hc_24) ?_
        refine TC.skip ?_
        refine TC.go hK_4 ?_
        refine TC.seq fun K_27 hK_28 => ?_
        refine TC.region ?_
        refine TL.v (ltb rfl) (rv_as (v := .nilIface) rfl) ?_
        refine TL.nil ?_
        refine TC.go hK_28 ?_
        refine TC.ret ?_
        refine W.new0 ?_
        obtain rfl := Option.some.inj hp
        exact fun w hw => retOk ⟨.nilIface, ([] : FP), rfl, rfl, (ErO.nil : ErO 72 143 145 GErr.no .nilIface [])⟩ (hw.pick [0])
  clear hp
  have hp := ht_29
  clear ht_29
  by_cases hc_12 : (!x18) = true
  · rw [if_pos hc_12] at hp
    refine TL.gno true rfl (fun d hd => by cases hd; exact ltb rfl) (yieldE_of rfl (bbT hc_12)) rfl ?_
    refine TL.gno true rfl (fun d hd => by cases hd; exact ltb rfl) (yieldE_of rfl (bbT hc_12)) rfl ?_
    refine TL.gno true rfl (fun d hd => by cases hd; exact ltb rfl) (yieldE_of rfl (bbT hc_12)) rfl ?_
    refine TL.gno true rfl (fun d hd => by cases hd; exact ltb rfl) (yieldE_of rfl (bbT hc_12)) rfl ?_
    refine TL.gno true rfl (fun d hd => by cases hd; exact ltb rfl) (yieldE_of rfl (bbT hc_12)) rfl ?_
    refine TL.v (ltb rfl) (rv_pickT true (bbT hc_12) rfl (v := .bool true) rfl) ?_
    obtain rfl := Option.some.inj hp
    refine TL.nil (hJ_11 _ ?_ ?_ ?_)
    · exact rfl
    · exact rfl
    · exact rfl
  · rw [if_neg hc_12] at hp
    refine TL.gyes false (yieldE_of rfl (bbF hc_12)) rfl ?_
    refine TL.v (ltb rfl) (rv_mv (v := .pointer (some ⟨b1, o3, none⟩)) rfl) ?_
    refine TL.gyes false (yieldE_of rfl (bbF hc_12)) rfl ?_
    refine TL.v (ltb rfl) (rv_fa (b := b14) (o := 0) fa_131_1 rfl) ?_
    refine TL.gyes false (yieldE_of rfl (bbF hc_12)) rfl ?_
    refine TL.v (ltb rfl) (rv_ld (v := v12) (o := 1) (o' := 0) (j := 1) sc_22 rfl (Src.at_ 1 rfl) (bx_cells b14 131 _) rfl rfl) ?_
    refine TL.gyes false (yieldE_of rfl (bbF hc_12)) rfl ?_
    obtain ⟨x30, hy_30, hp⟩ := bind_some' hp
    refine TL.callC (vs := [.pointer (some ⟨b1, o3, none⟩), v12]) (R := check_looker_has.R x30) [] [F16, bx b14 131 [.int .i64 a11.dst, v12]] rfl cb_110 (ltb rfl) (mc rfl (mc rfl m0)) (fun w hw => check_looker_has_ok (a2 := a2) (a11 := a11.args) (h4.mono subH) (h6.mono subH) (h8.mono subH) (h10.mono subH) (h13.mono subH) hy_30 hw) fun v A' hR_31 => ?_
    obtain ⟨rfl, rfl⟩ := hR_31
    refine TL.norm (L' := [F16, bx b14 131 [.int .i64 a11.dst, v12]]) rfl ?_
    refine TL.gyes false (yieldE_of rfl (bbF hc_12)) rfl ?_
    refine TL.v (ltb rfl) (rv_not (b := x30) rfl) ?_
    refine TL.v (ltb rfl) (rv_pickF false (bbF hc_12) rfl (v := .bool (!x30)) rfl) ?_
    obtain rfl := Option.some.inj hp
    refine TL.nil (hJ_11 _ ?_ ?_ ?_)
    · exact rfl
    · exact rfl
    · exact rfl

/-! ### fettle/arith.Args -/
abbrev arith_Args.R (r : Int × Bool) (v : Value) (A : List FP) : Prop := .tuple #[.int .i64 r.1, .bool r.2] = v ∧ A = []
def arith_Args (a1 : Int) : Option (Int × Bool) :=
  if a1 = 2 ∨ a1 = 14 then
    some (1, true)
  else
    if a1 ≥ 3 ∧ a1 ≤ 13 then
      some (2, true)
    else
      some (0, false)
theorem arith_Args_ok {E : World} {H : FP} {w : World} {a1 : Int} {r : Int × Bool}  (hp : arith_Args a1 = some r) (hst : St E H [] w) :
    Fn Try.prog 107 #[.int .i64 a1] w fun v w' => ∃ A, arith_Args.R r v A ∧ St E H A w' := by
  refine Fn.body (fn := Try.f107) (args := [.int .i64 a1]) E H [] [.tmp 2, .tmp 3] 18 Try.func107 rfl rfl rfl rfl (leb rfl) hst ?_
  unfold arith_Args at hp
  refine TC.seq fun K_1 hK_2 => ?_
  refine TC.region ?_
  refine TL.v (ltb rfl) (rv_as (v := .int .i64 0) rfl) ?_
  refine TL.v (ltb rfl) (rv_as (v := .bool false) rfl) ?_
  refine TL.nil ?_
  refine TC.go hK_2 ?_
  refine TC.seq fun K_3 hK_4 => ?_
  refine TC.block ?_
  refine TC.seq fun K_5 hK_6 => ?_
  refine TC.region ?_
  refine TL.v (ltb rfl) (rv_mv (v := .int .i64 a1) rfl) ?_
  refine TL.v (ltb rfl) (rv_eql (k := .i64) (m := a1) (n := 2) rfl rfl) ?_
  refine TL.v (ltb rfl) (rv_mv (v := .bool (decide (a1 = 2))) rfl) ?_
  refine TL.cut 3 fun K_7 hK_8 => ?_
  have hJ_9 : ∀ e_11 : Env, e_11 0 = .int .i64 a1 → e_11 10 = .bool (decide (a1 = 2 ∨ a1 = 14)) → ∀ w, St E H [] w → K_7 e_11 w := by
    intro e_11 h_12 h_13
    refine TL.go hK_8 ?_
    refine TL.v (ltb rfl) (rv_as (v := .bool (decide (a1 = 2 ∨ a1 = 14))) h_13) ?_
    refine TL.nil ?_
    refine TC.go hK_6 ?_
    by_cases hc_14 : a1 = 2 ∨ a1 = 14
    · rw [if_pos hc_14] at hp
      refine TC.condT (bT hc_14) ?_
      refine TC.seq fun K_15 hK_16 => ?_
      refine TC.region ?_
      refine TL.v (ltb rfl) (rv_as (v := .int .i64 1) rfl) ?_
      refine TL.v (ltb rfl) (rv_as (v := .bool true) rfl) ?_
      refine TL.nil ?_
      refine TC.go hK_16 ?_
      refine TC.ret ?_
      obtain rfl := Option.some.inj hp
      exact fun w hw => retOk ⟨(tu2 rfl rfl).symm, rfl⟩ (hw.pick [])
    · rw [if_neg hc_14] at hp
      refine TC.condF (bF hc_14) ?_
      refine TC.seq fun K_17 hK_18 => ?_
      refine TC.region ?_
      refine TL.v (ltb rfl) (rv_mv (v := .int .i64 a1) h_12) ?_
      refine TL.v (ltb rfl) (rv_geq (k := .i64) (m := a1) (n := 3) rfl rfl) ?_
      refine TL.v (ltb rfl) (rv_mv (v := .bool (decide (a1 ≥ 3))) rfl) ?_
      refine TL.cut 3 fun K_19 hK_20 => ?_
      have hJ_21 : ∀ e_23 : Env, e_23 17 = .bool (decide (a1 ≥ 3 ∧ a1 ≤ 13)) → ∀ w, St E H [] w → K_19 e_23 w := by
        intro e_23 h_24
        refine TL.go hK_20 ?_
        refine TL.v (ltb rfl) (rv_as (v := .bool (decide (a1 ≥ 3 ∧ a1 ≤ 13))) h_24) ?_
        refine TL.nil ?_
        refine TC.go hK_18 ?_
        by_cases hc_25 : a1 ≥ 3 ∧ a1 ≤ 13
        · rw [if_pos hc_25] at hp
          refine TC.condT (bT hc_25) ?_
          refine TC.seq fun K_26 hK_27 => ?_
          refine TC.region ?_
          refine TL.v (ltb rfl) (rv_as (v := .int .i64 2) rfl) ?_
          refine TL.v (ltb rfl) (rv_as (v := .bool true) rfl) ?_
          refine TL.nil ?_
          refine TC.go hK_27 ?_
          refine TC.ret ?_
          obtain rfl := Option.some.inj hp
          exact fun w hw => retOk ⟨(tu2 rfl rfl).symm, rfl⟩ (hw.pick [])
        · rw [if_neg hc_25] at hp
          refine TC.condF (bF hc_25) ?_
          refine TC.skip ?_
          refine TC.go hK_4 ?_
          refine TC.seq fun K_28 hK_29 => ?_
          refine TC.region ?_
          refine TL.v (ltb rfl) (rv_as (v := .int .i64 0) rfl) ?_
          refine TL.v (ltb rfl) (rv_as (v := .bool false) rfl) ?_
          refine TL.nil ?_
          refine TC.go hK_29 ?_
          refine TC.ret ?_
          obtain rfl := Option.some.inj hp
          exact fun w hw => retOk ⟨(tu2 rfl rfl).symm, rfl⟩ (hw.pick [])
      by_cases hc_22 : a1 ≥ 3
      · refine TL.gyes true (yieldE_of rfl (bT hc_22)) rfl ?_
        refine TL.v (ltb rfl) (rv_mv (v := .int .i64 a1) h_12) ?_
        refine TL.gyes true (yieldE_of rfl (bT hc_22)) rfl ?_
        refine TL.v (ltb rfl) (rv_leq (k := .i64) (m := a1) (n := 13) rfl rfl) ?_
        refine TL.v (ltb rfl) (rv_pickT true (bT hc_22) rfl (v := .bool (decide (a1 ≤ 13))) rfl) ?_
        refine TL.nil (hJ_21 _ ?_)
        · exact (bAt hc_22)
      · refine TL.gno false rfl (fun d hd => by cases hd; exact ltb rfl) (yieldE_of rfl (bF hc_22)) rfl ?_
        refine TL.gno false rfl (fun d hd => by cases hd; exact ltb rfl) (yieldE_of rfl (bF hc_22)) rfl ?_
        refine TL.v (ltb rfl) (rv_pickF false (bF hc_22) rfl (v := .bool false) rfl) ?_
        refine TL.nil (hJ_21 _ ?_)
        · exact (bAf hc_22)
  by_cases hc_10 : a1 = 2
  · refine TL.gno true rfl (fun d hd => by cases hd; exact ltb rfl) (yieldE_of rfl (bT hc_10)) rfl ?_
    refine TL.gno true rfl (fun d hd => by cases hd; exact ltb rfl) (yieldE_of rfl (bT hc_10)) rfl ?_
    refine TL.v (ltb rfl) (rv_pickT true (bT hc_10) rfl (v := .bool true) rfl) ?_
    refine TL.nil (hJ_9 _ ?_ ?_)
    · exact rfl
    · exact (bOt hc_10)
  · refine TL.gyes false (yieldE_of rfl (bF hc_10)) rfl ?_
    refine TL.v (ltb rfl) (rv_mv (v := .int .i64 a1) rfl) ?_
    refine TL.gyes false (yieldE_of rfl (bF hc_10)) rfl ?_
    refine TL.v (ltb rfl) (rv_eql (k := .i64) (m := a1) (n := 14) rfl rfl) ?_
    refine TL.v (ltb rfl) (rv_pickF false (bF hc_10) rfl (v := .bool (decide (a1 = 14))) rfl) ?_
    refine TL.nil (hJ_9 _ ?_ ?_)
    · exact rfl
    · exact (bOf hc_10)

/-! ### (*fettle/check.looker).arity -/
abbrev check_looker_arity.R (r : Int × Int × GErr) (v : Value) (A : List FP) : Prop := ∃ (w1 : Value) (G1 : FP), .tuple #[.int .i64 r.1, .int .i64 r.2.1, w1] = v ∧ A = [G1] ∧ ErO 72 143 145 r.2.2 w1 G1
def check_looker_arity (a2 : PLooker) (a11 : PInstr) : Option (Int × Int × GErr) :=
  (arith_Args a11.op).bind fun x15 =>
  if x15.2 = true then
    some (x15.1, 1, GErr.no)
  else
    if a11.op = 1 then
      some (0, 1, GErr.no)
    else
      if a11.op = 15 then
        some (1, 1, GErr.no)
      else
        if a11.op = 18 then
          some (1, 0, GErr.no)
        else
          if a11.op = 16 then
            some (2, 0, GErr.no)
          else
            if a11.op = 17 then
              if a11.fn < 0 ∨ a11.fn ≥ (len a2.m.funcs) then
                some (0, 0, (GErr.code 4))
              else
                (idx a2.m.funcs a11.fn).bind fun x2823 =>
                some (x2823.params, x2823.result, GErr.no)
            else
              some (0, 0, (GErr.code 6))
theorem check_looker_arity_ok {E : World} {H : FP} {w : World} {a2 : PLooker} {a11 : PInstr} {b1 : Nat} {o3 : Nat} {v5 : Value} {v7 : Value} {v9 : Value} {v12 : Value} {r : Int × Int × GErr} (h4 : CellsIn H b1 o3 [v5, .int .i64 a2.f.params, .int .i64 a2.f.result, v7, v9]) (h6 : SlI kFunc H a2.m.funcs v5) (h8 : SlI (kInt .i64) H a2.f.regs v7) (h10 : SlI kBlock H a2.f.blocks v9) (h13 : SlI (kInt .i64) H a11.args v12) (hp : check_looker_arity a2 a11 = some r) (hst : St E H [] w) :
    Fn Try.prog 112 #[.pointer (some ⟨b1, o3, none⟩), .agg #[.int .i64 a11.op, .int .i64 a11.dst, v12, .int .i64 a11.imm, .int .i64 a11.fn]] w fun v w' => ∃ A, check_looker_arity.R r v A ∧ St E H A w' := by
  refine Fn.body (fn := Try.f112) (args := [.pointer (some ⟨b1, o3, none⟩), .agg #[.int .i64 a11.op, .int .i64 a11.dst, v12, .int .i64 a11.imm, .int .i64 a11.fn]]) E H [] [.tmp 4, .tmp 5, .tmp 6] 59 Try.func112 rfl rfl rfl rfl (leb rfl) hst ?_
  unfold check_looker_arity at hp
  refine TC.seq fun K_1 hK_2 => ?_
  refine TC.region ?_
  refine TL.box (cs := [.int .i64 a11.op, .int .i64 a11.dst, v12, .int .i64 a11.imm, .int .i64 a11.fn]) (v := .agg #[.int .i64 a11.op, .int .i64 a11.dst, v12, .int .i64 a11.imm, .int .i64 a11.fn]) (ltb rfl) rfl rfl fun b14 => ?_
  refine TL.v (ltb rfl) (rv_as (v := .int .i64 0) rfl) ?_
  refine TL.v (ltb rfl) (rv_as (v := .int .i64 0) rfl) ?_
  refine TL.v (ltb rfl) (rv_as (v := .nilIface) rfl) ?_
  refine TL.nil ?_
  refine TC.go hK_2 ?_
  refine TC.seq fun K_3 hK_4 => ?_
  refine TC.seq fun K_5 hK_6 => ?_
  refine TC.region ?_
  refine TL.v (ltb rfl) (rv_fa (b := b14) (o := 0) fa_87_0 rfl) ?_
  refine TL.v (ltb rfl) (rv_ld (v := .int .i64 a11.op) (o := 0) (o' := 0) (j := 0) sc_3 rfl (Src.at_ 0 rfl) (bx_cells b14 87 _) rfl rfl) ?_
  obtain ⟨x15, hy_7, hp⟩ := bind_some' hp
  refine TL.callC (vs := [.int .i64 a11.op]) (R := arith_Args.R x15) [] [bx b14 87 [.int .i64 a11.op, .int .i64 a11.dst, v12, .int .i64 a11.imm, .int .i64 a11.fn]] rfl cb_107 (ltb rfl) (mc rfl m0) (fun w hw => arith_Args_ok (a1 := a11.op) hy_7 hw) fun v A' hR_8 => ?_
  obtain ⟨rfl, rfl⟩ := hR_8
  refine TL.norm (L' := [bx b14 87 [.int .i64 a11.op, .int .i64 a11.dst, v12, .int .i64 a11.imm, .int .i64 a11.fn]]) rfl ?_
  refine TL.v (ltb rfl) (rv_mv (v := .tuple #[.int .i64 x15.1, .bool x15.2]) rfl) ?_
  refine TL.v (ltb rfl) (rv_extract (vs := #[.int .i64 x15.1, .bool x15.2]) (v := .int .i64 x15.1) rfl rfl) ?_
  refine TL.v (ltb rfl) (rv_extract (vs := #[.int .i64 x15.1, .bool x15.2]) (v := .bool x15.2) rfl rfl) ?_
  refine TL.v (ltb rfl) (rv_as (v := .int .i64 x15.1) rfl) ?_
  refine TL.v (ltb rfl) (rv_as (v := .bool x15.2) rfl) ?_
  refine TL.nil ?_
  refine TC.go hK_6 ?_
  refine TC.seq fun K_9 hK_10 => ?_
  refine TC.region ?_
  refine TL.v (ltb rfl) (rv_mv (v := .bool x15.2) rfl) ?_
  refine TL.nil ?_
  refine TC.go hK_10 ?_
  by_cases hc_11 : x15.2 = true
  · rw [if_pos hc_11] at hp
    refine TC.condT (bbT hc_11) ?_
    refine TC.seq fun K_12 hK_13 => ?_
    refine TC.region ?_
    refine TL.v (ltb rfl) (rv_mv (v := .int .i64 x15.1) rfl) ?_
    refine TL.v (ltb rfl) (rv_as (v := .int .i64 x15.1) rfl) ?_
    refine TL.v (ltb rfl) (rv_as (v := .int .i64 1) rfl) ?_
    refine TL.v (ltb rfl) (rv_as (v := .nilIface) rfl) ?_
    refine TL.nil ?_
    refine TC.go hK_13 ?_
    refine TC.ret ?_
    refine W.new0 ?_
    obtain rfl := Option.some.inj hp
    exact fun w hw => retOk ⟨.nilIface, ([] : FP), (tu3 rfl rfl rfl).symm, rfl, (ErO.nil : ErO 72 143 145 GErr.no .nilIface [])⟩ (hw.pick [0])
  · rw [if_neg hc_11] at hp
    refine TC.condF (bbF hc_11) ?_
    refine TC.skip ?_
    refine TC.go hK_4 ?_
    refine TC.seq fun K_14 hK_15 => ?_
    refine TC.seq fun K_16 hK_17 => ?_
    refine TC.region ?_
    refine TL.v (ltb rfl) (rv_fa (b := b14) (o := 0) fa_87_0 rfl) ?_
    refine TL.v (ltb rfl) (rv_ld (v := .int .i64 a11.op) (o := 0) (o' := 0) (j := 0) sc_3 rfl (Src.at_ 0 rfl) (bx_cells b14 87 _) rfl rfl) ?_
    refine TL.nil ?_
    refine TC.go hK_17 ?_
    refine TC.block ?_
    refine TC.seq fun K_18 hK_19 => ?_
    refine TC.region ?_
    refine TL.v (ltb rfl) (rv_eql (k := .i64) (m := a11.op) (n := 1) rfl rfl) ?_
    refine TL.v (ltb rfl) (rv_as (v := .bool (decide (a11.op = 1))) rfl) ?_
    refine TL.nil ?_
    refine TC.go hK_19 ?_
    by_cases hc_20 : a11.op = 1
    · rw [if_pos hc_20] at hp
      refine TC.condT (bT hc_20) ?_
      refine TC.seq fun K_21 hK_22 => ?_
      refine TC.region ?_
      refine TL.v (ltb rfl) (rv_as (v := .int .i64 0) rfl) ?_
      refine TL.v (ltb rfl) (rv_as (v := .int .i64 1) rfl) ?_
      refine TL.v (ltb rfl) (rv_as (v := .nilIface) rfl) ?_
      refine TL.nil ?_
      refine TC.go hK_22 ?_
      refine TC.ret ?_
      refine W.new0 ?_
      obtain rfl := Option.some.inj hp
      exact fun w hw => retOk ⟨.nilIface, ([] : FP), (tu3 rfl rfl rfl).symm, rfl, (ErO.nil : ErO 72 143 145 GErr.no .nilIface [])⟩ (hw.pick [0])
    · rw [if_neg hc_20] at hp
      refine TC.condF (bF hc_20) ?_
      refine TC.seq fun K_23 hK_24 => ?_
      refine TC.region ?_
      refine TL.v (ltb rfl) (rv_eql (k := .i64) (m := a11.op) (n := 15) rfl rfl) ?_
      refine TL.v (ltb rfl) (rv_as (v := .bool (decide (a11.op = 15))) rfl) ?_
      refine TL.nil ?_
      refine TC.go hK_24 ?_
      by_cases hc_25 : a11.op = 15
      · rw [if_pos hc_25] at hp
        refine TC.condT (bT hc_25) ?_
        refine TC.seq fun K_26 hK_27 => ?_
        refine TC.region ?_
        refine TL.v (ltb rfl) (rv_as (v := .int .i64 1) rfl) ?_
        refine TL.v (ltb rfl) (rv_as (v := .int .i64 1) rfl) ?_
        refine TL.v (ltb rfl) (rv_as (v := .nilIface) rfl) ?_
        refine TL.nil ?_
        refine TC.go hK_27 ?_
        refine TC.ret ?_
        refine W.new0 ?_
        obtain rfl := Option.some.inj hp
        exact fun w hw => retOk ⟨.nilIface, ([] : FP), (tu3 rfl rfl rfl).symm, rfl, (ErO.nil : ErO 72 143 145 GErr.no .nilIface [])⟩ (hw.pick [0])
      · rw [if_neg hc_25] at hp
        refine TC.condF (bF hc_25) ?_
        refine TC.seq fun K_28 hK_29 => ?_
        refine TC.region ?_
        refine TL.v (ltb rfl) (rv_eql (k := .i64) (m := a11.op) (n := 18) rfl rfl) ?_
        refine TL.v (ltb rfl) (rv_as (v := .bool (decide (a11.op = 18))) rfl) ?_
        refine TL.nil ?_
        refine TC.go hK_29 ?_
        by_cases hc_30 : a11.op = 18
        · rw [if_pos hc_30] at hp
          refine TC.condT (bT hc_30) ?_
          refine TC.seq fun K_31 hK_32 => ?_
          refine TC.region ?_
          refine TL.v (ltb rfl) (rv_as (v := .int .i64 1) rfl) ?_
          refine TL.v (ltb rfl) (rv_as (v := .int .i64 0) rfl) ?_
          refine TL.v (ltb rfl) (rv_as (v := .nilIface) rfl) ?_
          refine TL.nil ?_
          refine TC.go hK_32 ?_
          refine TC.ret ?_
          refine W.new0 ?_
          obtain rfl := Option.some.inj hp
          exact fun w hw => retOk ⟨.nilIface, ([] : FP), (tu3 rfl rfl rfl).symm, rfl, (ErO.nil : ErO 72 143 145 GErr.no .nilIface [])⟩ (hw.pick [0])
        · rw [if_neg hc_30] at hp
          refine TC.condF (bF hc_30) ?_
          refine TC.seq fun K_33 hK_34 => ?_
          refine TC.region ?_
          refine TL.v (ltb rfl) (rv_eql (k := .i64) (m := a11.op) (n := 16) rfl rfl) ?_
          refine TL.v (ltb rfl) (rv_as (v := .bool (decide (a11.op = 16))) rfl) ?_
          refine TL.nil ?_
          refine TC.go hK_34 ?_
          by_cases hc_35 : a11.op = 16
          · rw [if_pos hc_35] at hp
            refine TC.condT (bT hc_35) ?_
            refine TC.seq fun K_36 hK_37 => ?_
            refine TC.region ?_
            refine TL.v (ltb rfl) (rv_as (v := .int .i64 2) rfl) ?_
            refine TL.v (ltb rfl) (rv_as (v := .int .i64 0) rfl) ?_
            refine TL.v (ltb rfl) (rv_as (v := .nilIface) rfl) ?_
            refine TL.nil ?_
            refine TC.go hK_37 ?_
            refine TC.ret ?_
            refine W.new0 ?_
            obtain rfl := Option.some.inj hp
            exact fun w hw => retOk ⟨.nilIface, ([] : FP), (tu3 rfl rfl rfl).symm, rfl, (ErO.nil : ErO 72 143 145 GErr.no .nilIface [])⟩ (hw.pick [0])
          · rw [if_neg hc_35] at hp
            refine TC.condF (bF hc_35) ?_
            refine TC.seq fun K_38 hK_39 => ?_
            refine TC.region ?_
            refine TL.v (ltb rfl) (rv_eql (k := .i64) (m := a11.op) (n := 17) rfl rfl) ?_
            refine TL.v (ltb rfl) (rv_as (v := .bool (decide (a11.op = 17))) rfl) ?_
            refine TL.nil ?_
            refine TC.go hK_39 ?_
            by_cases hc_40 : a11.op = 17
            · rw [if_pos hc_40] at hp
              refine TC.condT (bT hc_40) ?_
              refine TC.seq fun K_41 hK_42 => ?_
              refine TC.seq fun K_43 hK_44 => ?_
              refine TC.quiet mix (by kernel_rfl) ?_
              refine QL.v (ltb rfl) (rv_fa (b := b14) (o := 0) fa_87_4 rfl) ?_
              refine QL.v (ltb rfl) (rv_ld (v := .int .i64 a11.fn) (o := 4) (o' := 0) (j := 4) sc_3 rfl (Src.at_ 0 rfl) (bx_cells b14 87 _) rfl rfl) ?_
              refine QL.v (ltb rfl) (rv_lss (k := .i64) (m := a11.fn) (n := 0) rfl rfl) ?_
              refine QL.v (ltb rfl) (rv_mv (v := .bool (decide (a11.fn < 0))) rfl) ?_
              refine QL.cut 10 fun K_45 hK_46 => ?_
              have hJ_47 : ∀ e_49 : Env, e_49 0 = .pointer (some ⟨b1, o3, none⟩) → e_49 3 = .pointer (some ⟨b14, 0, none⟩) → e_49 43 = .bool (decide (a11.fn < 0 ∨ a11.fn ≥ (len a2.m.funcs))) → K_45 e_49 := by
                intro e_49 h_50 h_51 h_52
                refine hK_46 _ ?_
                refine QL.nil ?_
                refine TC.go hK_44 ?_
                by_cases hc_53 : a11.fn < 0 ∨ a11.fn ≥ (len a2.m.funcs)
                · rw [if_pos hc_53] at hp
                  refine TC.condT (h_52.trans (bT hc_53)) ?_
                  refine TC.seq fun K_54 hK_55 => ?_
                  refine TC.region ?_
                  refine TL.v (ltb rfl) (rv_makeIface (v := .int .i64 4) Try.underlying72 (fun ms h => by cases h) rfl) ?_
                  refine TL.v (ltb rfl) (rv_as (v := .int .i64 0) rfl) ?_
                  refine TL.v (ltb rfl) (rv_as (v := .int .i64 0) rfl) ?_
                  refine TL.v (ltb rfl) (rv_as (v := .iface 72 (.int .i64 4)) rfl) ?_
                  refine TL.nil ?_
                  refine TC.go hK_55 ?_
                  refine TC.ret ?_
                  refine W.new0 ?_
                  obtain rfl := Option.some.inj hp
                  exact fun w hw => retOk ⟨(.iface 72 (.int .i64 4)), ([] : FP), (tu3 rfl rfl rfl).symm, rfl, (ErO.mk _ : ErO 72 143 145 (GErr.code 4) (.iface 72 (.int .i64 4)) [])⟩ (hw.pick [0])
                · rw [if_neg hc_53] at hp
                  refine TC.condF (h_52.trans (bF hc_53)) ?_
                  refine TC.skip ?_
                  refine TC.go hK_42 ?_
                  refine TC.seq fun K_56 hK_57 => ?_
                  refine TC.held ([bx b14 87 [.int .i64 a11.op, .int .i64 a11.dst, v12, .int .i64 a11.imm, .int .i64 a11.fn]].flatten ++ H) mix (srcG 0 rfl srcG0) ?_
                  refine HL.v 0 rfl trivial (by kernel_rfl) (by kernel_rfl) (by kernel_rfl) (ltb rfl) (rv_mv (v := .pointer (some ⟨b1, o3, none⟩)) h_50) ?_
                  refine HL.v 1 rfl trivial (by kernel_rfl) (by kernel_rfl) (by kernel_rfl) (ltb rfl) (rv_nilCheck (a := ⟨b1, o3, none⟩) rfl) ?_
                  refine HL.v 2 rfl trivial (by kernel_rfl) (by kernel_rfl) (by kernel_rfl) (ltb rfl) (rv_fa (b := b1) (o := o3) fa_159_0 rfl) ?_
                  refine HL.v 3 rfl trivial (by kernel_rfl) (by kernel_rfl) (by kernel_rfl) (ltb rfl) (rv_fa (b := b1) (o := o3) fa_90_0 rfl) ?_
                  refine HL.v 4 rfl trivial (by kernel_rfl) (by kernel_rfl) (by kernel_rfl) (ltb rfl) (rv_ld (v := v5) (o := o3) (o' := o3) (j := 0) sc_88 rfl srcInH h4 rfl rfl) ?_
                  refine HL.v 5 rfl trivial (by kernel_rfl) (by kernel_rfl) (by kernel_rfl) (ltb rfl) (rv_fa (b := b14) (o := 0) fa_87_4 h_51) ?_
                  refine HL.v 6 rfl trivial (by kernel_rfl) (by kernel_rfl) (by kernel_rfl) (ltb rfl) (rv_ld (v := .int .i64 a11.fn) (o := 4) (o' := 0) (j := 4) sc_3 rfl (srcInG 0 rfl) (bx_cells b14 87 _) rfl rfl) ?_
                  obtain ⟨x2823, hx_58, hp⟩ := bind_some' hp
                  refine HL.w3 7 rfl trivial (by kernel_rfl) (by kernel_rfl) (by kernel_rfl) (ltb rfl) (rv_ix 88 (.tmp 49) (.tmp 51) (v := v5) (i := a11.fn) Try.underlying88 inf_25 rfl rfl rfl h6 hx_58) fun b2824 o2825 c2826 h2827 h2828 => ?_
                  obtain ⟨v2829, v2831, rfl, h2830, h2832⟩ := h2827
                  refine HL.v 8 rfl trivial (by kernel_rfl) (by kernel_rfl) (by kernel_rfl) (ltb rfl) (rv_lda (o := o2825) (o' := o2825) (j := 0) (ds := [.int .i64 x2823.params, .int .i64 x2823.result, v2829, v2831]) ag_25 rfl srcInH h2828 rfl rfl rfl) ?_
                  refine HL.one 9 rfl (by kernel_rfl) fun K_59 hK_60 => ?_
                  refine TL.alloc (cs := [.int .i64 0, .int .i64 0, .slice none 0 0, .slice none 0 0]) inf_25 (ltb rfl) rfl fun b3623 => ?_
                  refine TL.nil (hK_60 _ _ (srcG 1 rfl srcG0) ?_)
                  refine HL.one 10 rfl (by kernel_rfl) fun K_61 hK_62 => ?_
                  refine TL.stB (ds := [.int .i64 x2823.params, .int .i64 x2823.result, v2829, v2831]) (o := 0) (cs := [.int .i64 0, .int .i64 0, .slice none 0 0, .slice none 0 0]) (b := b3623) (u := .agg #[.int .i64 x2823.params, .int .i64 x2823.result, v2829, v2831]) 0 rfl ms_25 rfl rfl rfl (oc rfl (oc rfl (oc (h2830).one (oc (h2832).one oc0)))) (leb rfl) ?_
                  refine TL.norm (L' := [bx b3623 25 [.int .i64 x2823.params, .int .i64 x2823.result, v2829, v2831], bx b14 87 [.int .i64 a11.op, .int .i64 a11.dst, v12, .int .i64 a11.imm, .int .i64 a11.fn]]) rfl ?_
                  refine TL.nil (hK_62 _ _ (srcG 1 rfl srcG0) ?_)
                  refine HL.done (by kernel_rfl) ?_
                  refine TC.go hK_57 ?_
                  refine TC.seq fun K_63 hK_64 => ?_
                  refine TC.quiet mix (by kernel_rfl) ?_
                  refine QL.v (ltb rfl) (rv_fa (b := b3623) (o := 0) fa_25_0 rfl) ?_
                  refine QL.v (ltb rfl) (rv_ld (v := .int .i64 x2823.params) (o := 0) (o' := 0) (j := 0) sc_3 rfl (Src.at_ 0 rfl) (bx_cells b3623 25 _) rfl rfl) ?_
                  refine QL.v (ltb rfl) (rv_fa (b := b3623) (o := 0) fa_25_1 rfl) ?_
                  refine QL.v (ltb rfl) (rv_ld (v := .int .i64 x2823.result) (o := 1) (o' := 0) (j := 1) sc_3 rfl (Src.at_ 0 rfl) (bx_cells b3623 25 _) rfl rfl) ?_
                  refine QL.v (ltb rfl) (rv_as (v := .int .i64 x2823.params) rfl) ?_
                  refine QL.v (ltb rfl) (rv_as (v := .int .i64 x2823.result) rfl) ?_
                  refine QL.v (ltb rfl) (rv_as (v := .nilIface) rfl) ?_
                  refine QL.nil ?_
                  refine TC.go hK_64 ?_
                  refine TC.ret ?_
                  refine W.new0 ?_
                  obtain rfl := Option.some.inj hp
                  exact fun w hw => retOk ⟨.nilIface, ([] : FP), (tu3 rfl rfl rfl).symm, rfl, (ErO.nil : ErO 72 143 145 GErr.no .nilIface [])⟩ (hw.pick [0])
              by_cases hc_48 : a11.fn < 0
              · refine QL.gno true rfl (fun d hd => by cases hd; exact ltb rfl) (yieldE_of rfl (bT hc_48)) rfl ?_
                refine QL.gno true rfl (fun d hd => by cases hd; exact ltb rfl) (yieldE_of rfl (bT hc_48)) rfl ?_
                refine QL.gno true rfl (fun d hd => by cases hd; exact ltb rfl) (yieldE_of rfl (bT hc_48)) rfl ?_
                refine QL.gno true rfl (fun d hd => by cases hd; exact ltb rfl) (yieldE_of rfl (bT hc_48)) rfl ?_
                refine QL.gno true rfl (fun d hd => by cases hd; exact ltb rfl) (yieldE_of rfl (bT hc_48)) rfl ?_
                refine QL.gno true rfl (fun d hd => by cases hd; exact ltb rfl) (yieldE_of rfl (bT hc_48)) rfl ?_
                refine QL.gno true rfl (fun d hd => by cases hd; exact ltb rfl) (yieldE_of rfl (bT hc_48)) rfl ?_
                refine QL.gno true rfl (fun d hd => by cases hd; exact ltb rfl) (yieldE_of rfl (bT hc_48)) rfl ?_
                refine QL.gno true rfl (fun d hd => by cases hd; exact ltb rfl) (yieldE_of rfl (bT hc_48)) rfl ?_
                refine QL.v (ltb rfl) (rv_pickT true (bT hc_48) rfl (v := .bool true) rfl) ?_
                refine QL.nil (hJ_47 _ ?_ ?_ ?_)
                · exact rfl
                · exact rfl
                · exact (bOt hc_48)
              · refine QL.gyes false (yieldE_of rfl (bF hc_48)) rfl ?_
                refine QL.v (ltb rfl) (rv_fa (b := b14) (o := 0) fa_87_4 rfl) ?_
                refine QL.gyes false (yieldE_of rfl (bF hc_48)) rfl ?_
                refine QL.v (ltb rfl) (rv_ld (v := .int .i64 a11.fn) (o := 4) (o' := 0) (j := 4) sc_3 rfl (Src.at_ 0 rfl) (bx_cells b14 87 _) rfl rfl) ?_
                refine QL.gyes false (yieldE_of rfl (bF hc_48)) rfl ?_
                refine QL.v (ltb rfl) (rv_mv (v := .pointer (some ⟨b1, o3, none⟩)) rfl) ?_
                refine QL.gyes false (yieldE_of rfl (bF hc_48)) rfl ?_
                refine QL.v (ltb rfl) (rv_nilCheck (a := ⟨b1, o3, none⟩) rfl) ?_
                refine QL.gyes false (yieldE_of rfl (bF hc_48)) rfl ?_
                refine QL.v (ltb rfl) (rv_fa (b := b1) (o := o3) fa_159_0 rfl) ?_
                refine QL.gyes false (yieldE_of rfl (bF hc_48)) rfl ?_
                refine QL.v (ltb rfl) (rv_fa (b := b1) (o := o3) fa_90_0 rfl) ?_
                refine QL.gyes false (yieldE_of rfl (bF hc_48)) rfl ?_
                refine QL.v (ltb rfl) (rv_ld (v := v5) (o := o3) (o' := o3) (j := 0) sc_88 rfl Src.H h4 rfl rfl) ?_
                refine QL.gyes false (yieldE_of rfl (bF hc_48)) rfl ?_
                refine QL.v (ltb rfl) (rv_lenI (v := v5) Try.underlying88 rfl h6) ?_
                refine QL.gyes false (yieldE_of rfl (bF hc_48)) rfl ?_
                refine QL.v (ltb rfl) (rv_geq (k := .i64) (m := a11.fn) (n := (len a2.m.funcs)) rfl rfl) ?_
                refine QL.v (ltb rfl) (rv_pickF false (bF hc_48) rfl (v := .bool (decide (a11.fn ≥ (len a2.m.funcs)))) rfl) ?_
                refine QL.nil (hJ_47 _ ?_ ?_ ?_)
                · exact rfl
                · exact rfl
                · exact (bOf hc_48)
            · rw [if_neg hc_40] at hp
              refine TC.condF (bF hc_40) ?_
              refine TC.skip ?_
              refine TC.go hK_15 ?_
              refine TC.seq fun K_65 hK_66 => ?_
              refine TC.region ?_
              refine TL.v (ltb rfl) (rv_makeIface (v := .int .i64 6) Try.underlying72 (fun ms h => by cases h) rfl) ?_
              refine TL.v (ltb rfl) (rv_as (v := .int .i64 0) rfl) ?_
              refine TL.v (ltb rfl) (rv_as (v := .int .i64 0) rfl) ?_
              refine TL.v (ltb rfl) (rv_as (v := .iface 72 (.int .i64 6)) rfl) ?_
              refine TL.nil ?_
              refine TC.go hK_66 ?_
              refine TC.ret ?_
              refine W.new0 ?_
              obtain rfl := Option.some.inj hp
              exact fun w hw => retOk ⟨(.iface 72 (.int .i64 6)), ([] : FP), (tu3 rfl rfl rfl).symm, rfl, (ErO.mk _ : ErO 72 143 145 (GErr.code 6) (.iface 72 (.int .i64 6)) [])⟩ (hw.pick [0])

/-! ### (*fettle/check.looker).call -/
abbrev check_looker_call.R (r : Bool) (v : Value) (A : List FP) : Prop := .bool r = v ∧ A = []
def check_looker_call.nx41 (a2 : PLooker) (a11 : PInstr) (x2816 : PFunc) : Option Bool :=
  (if x2816.result = 0 then some true else (check_looker_are a2 x2816.result ([a11.dst])).bind fun x4421 =>
  some x4421).bind fun t4417 =>
  some t4417
def check_looker_call.bd41 (a2 : PLooker) (a11 : PInstr) (x2816 : PFunc) (x4416 : Int) : Option (Ex (Ex Bool Unit) Int) :=
  if x4416 < (len a11.args) then
    (idx a11.args x4416).bind fun x4422 =>
    (idx x2816.regs x4416).bind fun x4428 =>
    (check_looker_are a2 x4428 ([x4422])).bind fun x4437 =>
    if (!x4437) = true then
      some (.ret (.ret false))
    else
      some (.go (w64 (x4416 + 1)))
  else
    some (.ret (.go ()))
def check_looker_call (a2 : PLooker) (a11 : PInstr) : Option Bool :=
  (idx a2.m.funcs a11.fn).bind fun x2816 =>
  if x2816.params < 0 ∨ x2816.params > (len x2816.regs) then
    some false
  else
    (whl (fun (s : Int) => check_looker_call.bd41 a2 a11 x2816 s) FUEL 0).bind fun z =>
    match z with
      | .ret r => some r
      | .go p => check_looker_call.nx41 a2 a11 x2816
theorem check_looker_call_ok {E : World} {H : FP} {w : World} {a2 : PLooker} {a11 : PInstr} {b1 : Nat} {o3 : Nat} {v5 : Value} {v7 : Value} {v9 : Value} {v12 : Value} {r : Bool} (h4 : CellsIn H b1 o3 [v5, .int .i64 a2.f.params, .int .i64 a2.f.result, v7, v9]) (h6 : SlI kFunc H a2.m.funcs v5) (h8 : SlI (kInt .i64) H a2.f.regs v7) (h10 : SlI kBlock H a2.f.blocks v9) (h13 : SlI (kInt .i64) H a11.args v12) (hp : check_looker_call a2 a11 = some r) (hst : St E H [] w) :
    Fn Try.prog 116 #[.pointer (some ⟨b1, o3, none⟩), .agg #[.int .i64 a11.op, .int .i64 a11.dst, v12, .int .i64 a11.imm, .int .i64 a11.fn]] w fun v w' => ∃ A, check_looker_call.R r v A ∧ St E H A w' := by
  refine Fn.body (fn := Try.f116) (args := [.pointer (some ⟨b1, o3, none⟩), .agg #[.int .i64 a11.op, .int .i64 a11.dst, v12, .int .i64 a11.imm, .int .i64 a11.fn]]) E H [] [.tmp 4] 59 Try.func116 rfl rfl rfl rfl (leb rfl) hst ?_
  unfold check_looker_call at hp
  refine TC.seq fun K_1 hK_2 => ?_
  refine TC.region ?_
  refine TL.box (cs := [.int .i64 a11.op, .int .i64 a11.dst, v12, .int .i64 a11.imm, .int .i64 a11.fn]) (v := .agg #[.int .i64 a11.op, .int .i64 a11.dst, v12, .int .i64 a11.imm, .int .i64 a11.fn]) (ltb rfl) rfl rfl fun b14 => ?_
  refine TL.v (ltb rfl) (rv_as (v := .bool false) rfl) ?_
  refine TL.nil ?_
  refine TC.go hK_2 ?_
  refine TC.seq fun K_3 hK_4 => ?_
  refine TC.held ([bx b14 87 [.int .i64 a11.op, .int .i64 a11.dst, v12, .int .i64 a11.imm, .int .i64 a11.fn]].flatten ++ H) mix (srcG 0 rfl srcG0) ?_
  refine HL.v 0 rfl trivial (by kernel_rfl) (by kernel_rfl) (by kernel_rfl) (ltb rfl) (rv_mv (v := .pointer (some ⟨b1, o3, none⟩)) rfl) ?_
  refine HL.v 1 rfl trivial (by kernel_rfl) (by kernel_rfl) (by kernel_rfl) (ltb rfl) (rv_nilCheck (a := ⟨b1, o3, none⟩) rfl) ?_
  refine HL.v 2 rfl trivial (by kernel_rfl) (by kernel_rfl) (by kernel_rfl) (ltb rfl) (rv_fa (b := b1) (o := o3) fa_159_0 rfl) ?_
  refine HL.v 3 rfl trivial (by kernel_rfl) (by kernel_rfl) (by kernel_rfl) (ltb rfl) (rv_fa (b := b1) (o := o3) fa_90_0 rfl) ?_
  refine HL.v 4 rfl trivial (by kernel_rfl) (by kernel_rfl) (by kernel_rfl) (ltb rfl) (rv_ld (v := v5) (o := o3) (o' := o3) (j := 0) sc_88 rfl srcInH h4 rfl rfl) ?_
  refine HL.v 5 rfl trivial (by kernel_rfl) (by kernel_rfl) (by kernel_rfl) (ltb rfl) (rv_fa (b := b14) (o := 0) fa_87_4 rfl) ?_
  refine HL.v 6 rfl trivial (by kernel_rfl) (by kernel_rfl) (by kernel_rfl) (ltb rfl) (rv_ld (v := .int .i64 a11.fn) (o := 4) (o' := 0) (j := 4) sc_3 rfl (srcInG 0 rfl) (bx_cells b14 87 _) rfl rfl) ?_
  obtain ⟨x2816, hx_5, hp⟩ := bind_some' hp
  refine HL.w3 7 rfl trivial (by kernel_rfl) (by kernel_rfl) (by kernel_rfl) (ltb rfl) (rv_ix 88 (.tmp 12) (.tmp 14) (v := v5) (i := a11.fn) Try.underlying88 inf_25 rfl rfl rfl h6 hx_5) fun b2817 o2818 c2819 h2820 h2821 => ?_
  obtain ⟨v2822, v2824, rfl, h2823, h2825⟩ := h2820
  refine HL.v 8 rfl trivial (by kernel_rfl) (by kernel_rfl) (by kernel_rfl) (ltb rfl) (rv_lda (o := o2818) (o' := o2818) (j := 0) (ds := [.int .i64 x2816.params, .int .i64 x2816.result, v2822, v2824]) ag_25 rfl srcInH h2821 rfl rfl rfl) ?_
  refine HL.one 9 rfl (by kernel_rfl) fun K_6 hK_7 => ?_
  refine TL.alloc (cs := [.int .i64 0, .int .i64 0, .slice none 0 0, .slice none 0 0]) inf_25 (ltb rfl) rfl fun b3616 => ?_
  refine TL.nil (hK_7 _ _ (srcG 1 rfl srcG0) ?_)
  refine HL.one 10 rfl (by kernel_rfl) fun K_8 hK_9 => ?_
  refine TL.stB (ds := [.int .i64 x2816.params, .int .i64 x2816.result, v2822, v2824]) (o := 0) (cs := [.int .i64 0, .int .i64 0, .slice none 0 0, .slice none 0 0]) (b := b3616) (u := .agg #[.int .i64 x2816.params, .int .i64 x2816.result, v2822, v2824]) 0 rfl ms_25 rfl rfl rfl (oc rfl (oc rfl (oc (h2823).one (oc (h2825).one oc0)))) (leb rfl) ?_
  refine TL.norm (L' := [bx b3616 25 [.int .i64 x2816.params, .int .i64 x2816.result, v2822, v2824], bx b14 87 [.int .i64 a11.op, .int .i64 a11.dst, v12, .int .i64 a11.imm, .int .i64 a11.fn]]) rfl ?_
  refine TL.nil (hK_9 _ _ (srcG 1 rfl srcG0) ?_)
  refine HL.done (by kernel_rfl) ?_
  refine TC.go hK_4 ?_
  refine TC.seq fun K_10 hK_11 => ?_
  refine TC.seq fun K_12 hK_13 => ?_
  refine TC.region ?_
  refine TL.v (ltb rfl) (rv_fa (b := b3616) (o := 0) fa_25_0 rfl) ?_
  refine TL.v (ltb rfl) (rv_ld (v := .int .i64 x2816.params) (o := 0) (o' := 0) (j := 0) sc_3 rfl (Src.at_ 0 rfl) (bx_cells b3616 25 _) rfl rfl) ?_
  refine TL.v (ltb rfl) (rv_lss (k := .i64) (m := x2816.params) (n := 0) rfl rfl) ?_
  refine TL.v (ltb rfl) (rv_mv (v := .bool (decide (x2816.params < 0))) rfl) ?_
  refine TL.cut 7 fun K_14 hK_15 => ?_
  have hJ_16 : ∀ e_18 : Env, e_18 0 = .pointer (some ⟨b1, o3, none⟩) → e_18 3 = .pointer (some ⟨b14, 0, none⟩) → e_18 5 = .pointer (some ⟨b3616, 0, none⟩) → e_18 27 = .bool (decide (x2816.params < 0 ∨ x2816.params > (len x2816.regs))) → ∀ w, St E H [bx b3616 25 [.int .i64 x2816.params, .int .i64 x2816.result, v2822, v2824], bx b14 87 [.int .i64 a11.op, .int .i64 a11.dst, v12, .int .i64 a11.imm, .int .i64 a11.fn]] w → K_14 e_18 w := by
    intro e_18 h_19 h_20 h_21 h_22
    refine TL.go hK_15 ?_
    refine TL.nil ?_
    refine TC.go hK_13 ?_
    by_cases hc_23 : x2816.params < 0 ∨ x2816.params > (len x2816.regs)
    · rw [if_pos hc_23] at hp
      refine TC.condT (h_22.trans (bT hc_23)) ?_
      refine TC.seq fun K_24 hK_25 => ?_
      refine TC.region ?_
      refine TL.v (ltb rfl) (rv_as (v := .bool false) rfl) ?_
      refine TL.nil ?_
      refine TC.go hK_25 ?_
      refine TC.ret ?_
      obtain rfl := Option.some.inj hp
      exact fun w hw => retOk ⟨rfl, rfl⟩ (hw.pick [])
    · rw [if_neg hc_23] at hp
      refine TC.condF (h_22.trans (bF hc_23)) ?_
      refine TC.skip ?_
      refine TC.go hK_11 ?_
      refine TC.seq fun K_26 hK_27 => ?_
      refine TC.seq fun K_28 hK_29 => ?_
      refine TC.region ?_
      refine TL.v (ltb rfl) (rv_fa (b := b14) (o := 0) fa_87_2 h_20) ?_
      refine TL.v (ltb rfl) (rv_ld (v := v12) (o := 2) (o' := 0) (j := 2) sc_22 rfl (Src.at_ 1 rfl) (bx_cells b14 87 _) rfl rfl) ?_
      refine TL.v (ltb rfl) (rv_lenI (v := v12) Try.underlying22 rfl h13) ?_
      refine TL.v (ltb rfl) (rv_mv (v := .int .i64 0) rfl) ?_
      refine TL.nil ?_
      refine TC.go hK_29 ?_
      refine TC.block ?_
      obtain ⟨z_37, hz_38, hr_39⟩ := bind_some' hp
      clear hp
      have hJ_57 : ∀ (e_42 : Env) (h_43 : e_42 0 = .pointer (some ⟨b1, o3, none⟩)) (h_44 : e_42 3 = .pointer (some ⟨b14, 0, none⟩)) (h_45 : e_42 5 = .pointer (some ⟨b3616, 0, none⟩)) (hq_58 : .go () = z_37), ∀ w, St E H [bx b14 87 [.int .i64 a11.op, .int .i64 a11.dst, v12, .int .i64 a11.imm, .int .i64 a11.fn], bx b3616 25 [.int .i64 x2816.params, .int .i64 x2816.result, v2822, v2824]] w → K_26 e_42 w := by
        intro e_42 h_43 h_44 h_45 hq_58
        subst hq_58
        replace hp : check_looker_call.nx41 a2 a11 x2816 = some r := hr_39
        unfold check_looker_call.nx41 at hp
        refine TC.go hK_27 ?_
        refine TC.seq fun K_46 hK_47 => ?_
        refine TC.region ?_
        refine TL.v (ltb rfl) (rv_fa (b := b3616) (o := 0) fa_25_1 h_45) ?_
        refine TL.v (ltb rfl) (rv_ld (v := .int .i64 x2816.result) (o := 1) (o' := 0) (j := 1) sc_3 rfl (Src.at_ 1 rfl) (bx_cells b3616 25 _) rfl rfl) ?_
        refine TL.v (ltb rfl) (rv_eql (k := .i64) (m := x2816.result) (n := 0) rfl rfl) ?_
        refine TL.v (ltb rfl) (rv_mv (v := .bool (decide (x2816.result = 0))) rfl) ?_
        obtain ⟨t4417, ht_54, hp⟩ := bind_some' hp
        refine TL.cut 8 fun K_48 hK_49 => ?_
        have hJ_50 : ∀ e_52 : Env, e_52 58 = .bool t4417 → ∀ w, St E H [bx b14 87 [.int .i64 a11.op, .int .i64 a11.dst, v12, .int .i64 a11.imm, .int .i64 a11.fn], bx b3616 25 [.int .i64 x2816.params, .int .i64 x2816.result, v2822, v2824]] w → K_48 e_52 w := by
          intro e_52 h_53
          refine TL.go hK_49 ?_
          refine TL.v (ltb rfl) (rv_as (v := .bool t4417) h_53) ?_
          refine TL.nil ?_
          refine TC.go hK_47 ?_
          refine TC.ret ?_
          obtain rfl := Option.some.inj hp
          exact fun w hw => retOk ⟨rfl, rfl⟩ (hw.pick [])
        clear hp
        have hp := ht_54
        clear ht_54
        by_cases hc_51 : x2816.result = 0
        · rw [if_pos hc_51] at hp
          refine TL.gno true rfl (fun d hd => by cases hd; exact ltb rfl) (yieldE_of rfl (bT hc_51)) rfl ?_
          refine TL.gno true rfl (fun d hd => by cases hd; exact ltb rfl) (yieldE_of rfl (bT hc_51)) rfl ?_
          refine TL.gno true rfl (fun d hd => by cases hd; exact ltb rfl) (yieldE_of rfl (bT hc_51)) rfl ?_
          refine TL.gno true rfl (fun d hd => by cases hd; exact ltb rfl) (yieldE_of rfl (bT hc_51)) rfl ?_
          refine TL.gno true rfl (fun d hd => by cases hd; exact ltb rfl) (yieldE_of rfl (bT hc_51)) rfl ?_
          refine TL.gno true rfl (fun d hd => by cases hd; exact ltb rfl) (yieldE_of rfl (bT hc_51)) rfl ?_
          refine TL.gno true rfl (fun d hd => by cases hd; exact ltb rfl) (yieldE_of rfl (bT hc_51)) rfl ?_
          refine TL.v (ltb rfl) (rv_pickT true (bT hc_51) rfl (v := .bool true) rfl) ?_
          obtain rfl := Option.some.inj hp
          refine TL.nil (hJ_50 _ ?_)
          · exact rfl
        · rw [if_neg hc_51] at hp
          refine TL.gyes false (yieldE_of rfl (bF hc_51)) rfl ?_
          refine TL.v (ltb rfl) (rv_mv (v := .pointer (some ⟨b1, o3, none⟩)) h_43) ?_
          refine TL.gyes false (yieldE_of rfl (bF hc_51)) rfl ?_
          refine TL.v (ltb rfl) (rv_fa (b := b3616) (o := 0) fa_25_1 h_45) ?_
          refine TL.gyes false (yieldE_of rfl (bF hc_51)) rfl ?_
          refine TL.v (ltb rfl) (rv_ld (v := .int .i64 x2816.result) (o := 1) (o' := 0) (j := 1) sc_3 rfl (Src.at_ 1 rfl) (bx_cells b3616 25 _) rfl rfl) ?_
          refine TL.gyes false (yieldE_of rfl (bF hc_51)) rfl ?_
          refine TL.v (ltb rfl) (rv_fa (b := b14) (o := 0) fa_87_1 h_44) ?_
          refine TL.gyes false (yieldE_of rfl (bF hc_51)) rfl ?_
          refine TL.v (ltb rfl) (rv_ld (v := .int .i64 a11.dst) (o := 1) (o' := 0) (j := 1) sc_3 rfl (Src.at_ 0 rfl) (bx_cells b14 87 _) rfl rfl) ?_
          refine TL.gyes false (yieldE_of rfl (bF hc_51)) rfl ?_
          refine TL.bv (vs := [(0, .int .i64 a11.dst)]) (cs := [.int .i64 a11.dst]) (pc rfl p0) Try.underlying22 inf_3 (ltb rfl) (by decide) (by decide) (by kernel_rfl) fun b4418 => ?_
          refine TL.gyes false (yieldE_of rfl (bF hc_51)) rfl ?_
          refine TL.perm (L' := [bx b4418 3 [.int .i64 a11.dst], [], bx b14 87 [.int .i64 a11.op, .int .i64 a11.dst, v12, .int .i64 a11.imm, .int .i64 a11.fn], bx b3616 25 [.int .i64 x2816.params, .int .i64 x2816.result, v2822, v2824]]) (by simp) ?_
          refine TL.litOwn (n := 1) (xs := [a11.dst]) (RepL.to (RepL.cons (k := (kInt .i64)) (x := a11.dst) ⟨rfl, rfl⟩ RepL.nil) rfl) rfl rfl (ltb rfl) fun F4419 h4420 => ?_
          obtain ⟨x4421, hy_55, hp⟩ := bind_some' hp
          refine TL.callC (vs := [.pointer (some ⟨b1, o3, none⟩), .int .i64 x2816.result, (.slice (some ⟨b4418, 0, none⟩) 1 1)]) (R := check_looker_are.R x4421) [] [F4419, bx b14 87 [.int .i64 a11.op, .int .i64 a11.dst, v12, .int .i64 a11.imm, .int .i64 a11.fn], bx b3616 25 [.int .i64 x2816.params, .int .i64 x2816.result, v2822, v2824]] rfl cb_111 (ltb rfl) (mc rfl (mc rfl (mc rfl m0))) (fun w hw => check_looker_are_ok (a2 := a2) (a11 := x2816.result) (a12 := [a11.dst]) (h4.mono subH) (h6.mono subH) (h8.mono subH) (h10.mono subH) (h4420.ro.mono (subB 0 rfl)) hy_55 hw) fun v A' hR_56 => ?_
          obtain ⟨rfl, rfl⟩ := hR_56
          refine TL.norm (L' := [F4419, bx b14 87 [.int .i64 a11.op, .int .i64 a11.dst, v12, .int .i64 a11.imm, .int .i64 a11.fn], bx b3616 25 [.int .i64 x2816.params, .int .i64 x2816.result, v2822, v2824]]) rfl ?_
          refine TL.v (ltb rfl) (rv_pickF false (bF hc_51) rfl (v := .bool x4421) rfl) ?_
          refine TL.pk' [1, 1] (L' := [bx b14 87 [.int .i64 a11.op, .int .i64 a11.dst, v12, .int .i64 a11.imm, .int .i64 a11.fn], bx b3616 25 [.int .i64 x2816.params, .int .i64 x2816.result, v2822, v2824]]) rfl ?_
          obtain rfl := Option.some.inj hp
          refine TL.nil (hJ_50 _ ?_)
          · exact rfl
      refine TC.pk' [1, 0] (L' := [bx b14 87 [.int .i64 a11.op, .int .i64 a11.dst, v12, .int .i64 a11.imm, .int .i64 a11.fn], bx b3616 25 [.int .i64 x2816.params, .int .i64 x2816.result, v2822, v2824]]) rfl ?_
      refine TC.loopW (r := z_37) (fun (x4416 : Int) (e_30 : Env) (L_77 : List FP) => e_30 0 = .pointer (some ⟨b1, o3, none⟩) ∧ e_30 3 = .pointer (some ⟨b14, 0, none⟩) ∧ e_30 5 = .pointer (some ⟨b3616, 0, none⟩) ∧ e_30 29 = v12 ∧ e_30 30 = .int .i64 (len a11.args) ∧ e_30 31 = .int .i64 x4416 ∧ L_77 = [bx b14 87 [.int .i64 a11.op, .int .i64 a11.dst, v12, .int .i64 a11.imm, .int .i64 a11.fn], bx b3616 25 [.int .i64 x2816.params, .int .i64 x2816.result, v2822, v2824]]) ?_ FUEL _ _ _ hz_38 ⟨h_19, h_20, h_21, rfl, rfl, rfl, rfl⟩
      rintro x4416 e_30 L_77 ⟨h_31, h_32, h_33, h_34, h_35, h_36, rfl⟩ x_40 hp hx_41
      replace hp : check_looker_call.bd41 a2 a11 x2816 x4416 = some x_40 := hp
      unfold check_looker_call.bd41 at hp
      refine TC.seq fun K_59 hK_60 => ?_
      refine TC.region ?_
      refine TL.v (ltb rfl) (rv_lss (k := .i64) (m := x4416) (n := (len a11.args)) h_36 h_35) ?_
      refine TL.nil ?_
      refine TC.go hK_60 ?_
      refine TC.seq fun K_61 hK_62 => ?_
      by_cases hc_63 : x4416 < (len a11.args)
      · rw [if_pos hc_63] at hp
        refine TC.condT (bT hc_63) ?_
        refine TC.skip ?_
        refine TC.go hK_62 ?_
        refine TC.seq fun K_64 hK_65 => ?_
        refine TC.block ?_
        refine TC.seq fun K_66 hK_67 => ?_
        refine TC.region ?_
        refine TL.v (ltb rfl) (rv_mv (v := .int .i64 x4416) h_36) ?_
        obtain ⟨x4422, hx_68, hp⟩ := bind_some' hp
        refine TL.v3 (ltb rfl) (rv_ix 22 (.tmp 29) (.tmp 31) (v := v12) (i := x4416) Try.underlying22 inf_3 rfl h_34 h_36 h13 hx_68) fun b4423 o4424 c4425 h4426 h4427 => ?_
        obtain rfl := h4426
        refine TL.v (ltb rfl) (rv_ld (v := .int .i64 x4422) (o := o4424) (o' := o4424) (j := 0) sc_3 rfl Src.H h4427 rfl rfl) ?_
        refine TL.v (ltb rfl) (rv_as (v := .int .i64 x4416) rfl) ?_
        refine TL.v (ltb rfl) (rv_as (v := .int .i64 x4422) rfl) ?_
        refine TL.nil ?_
        refine TC.go hK_67 ?_
        refine TC.seq fun K_69 hK_70 => ?_
        refine TC.region ?_
        refine TL.v (ltb rfl) (rv_mv (v := .pointer (some ⟨b1, o3, none⟩)) h_31) ?_
        refine TL.v (ltb rfl) (rv_fa (b := b3616) (o := 0) fa_25_2 h_33) ?_
        refine TL.v (ltb rfl) (rv_ld (v := v2822) (o := 2) (o' := 0) (j := 2) sc_22 rfl (Src.at_ 1 rfl) (bx_cells b3616 25 _) rfl rfl) ?_
        refine TL.v (ltb rfl) (rv_mv (v := .int .i64 x4416) rfl) ?_
        obtain ⟨x4428, hx_71, hp⟩ := bind_some' hp
        refine TL.v3 (ltb rfl) (rv_ix 22 (.tmp 38) (.tmp 39) (v := v2822) (i := x4416) Try.underlying22 inf_3 rfl rfl rfl h2823 hx_71) fun b4429 o4430 c4431 h4432 h4433 => ?_
        obtain rfl := h4432
        refine TL.v (ltb rfl) (rv_ld (v := .int .i64 x4428) (o := o4430) (o' := o4430) (j := 0) sc_3 rfl Src.H h4433 rfl rfl) ?_
        refine TL.v (ltb rfl) (rv_mv (v := .int .i64 x4422) rfl) ?_
        refine TL.bv (vs := [(0, .int .i64 x4422)]) (cs := [.int .i64 x4422]) (pc rfl p0) Try.underlying22 inf_3 (ltb rfl) (by decide) (by decide) (by kernel_rfl) fun b4434 => ?_
        refine TL.perm (L' := [bx b4434 3 [.int .i64 x4422], [], bx b14 87 [.int .i64 a11.op, .int .i64 a11.dst, v12, .int .i64 a11.imm, .int .i64 a11.fn], bx b3616 25 [.int .i64 x2816.params, .int .i64 x2816.result, v2822, v2824]]) (by simp) ?_
        refine TL.litOwn (n := 1) (xs := [x4422]) (RepL.to (RepL.cons (k := (kInt .i64)) (x := x4422) ⟨rfl, rfl⟩ RepL.nil) rfl) rfl rfl (ltb rfl) fun F4435 h4436 => ?_
        obtain ⟨x4437, hy_72, hp⟩ := bind_some' hp
        refine TL.callC (vs := [.pointer (some ⟨b1, o3, none⟩), .int .i64 x4428, (.slice (some ⟨b4434, 0, none⟩) 1 1)]) (R := check_looker_are.R x4437) [] [F4435, bx b14 87 [.int .i64 a11.op, .int .i64 a11.dst, v12, .int .i64 a11.imm, .int .i64 a11.fn], bx b3616 25 [.int .i64 x2816.params, .int .i64 x2816.result, v2822, v2824]] rfl cb_111 (ltb rfl) (mc rfl (mc rfl (mc rfl m0))) (fun w hw => check_looker_are_ok (a2 := a2) (a11 := x4428) (a12 := [x4422]) (h4.mono subH) (h6.mono subH) (h8.mono subH) (h10.mono subH) (h4436.ro.mono (subB 0 rfl)) hy_72 hw) fun v A' hR_73 => ?_
        obtain ⟨rfl, rfl⟩ := hR_73
        refine TL.norm (L' := [F4435, bx b14 87 [.int .i64 a11.op, .int .i64 a11.dst, v12, .int .i64 a11.imm, .int .i64 a11.fn], bx b3616 25 [.int .i64 x2816.params, .int .i64 x2816.result, v2822, v2824]]) rfl ?_
        refine TL.v (ltb rfl) (rv_not (b := x4437) rfl) ?_
        refine TL.nil ?_
        refine TC.go hK_70 ?_
        by_cases hc_74 : (!x4437) = true
        · rw [if_pos hc_74] at hp
          refine TC.condT (bbT hc_74) ?_
          refine TC.seq fun K_75 hK_76 => ?_
          refine TC.region ?_
          refine TL.v (ltb rfl) (rv_as (v := .bool false) rfl) ?_
          refine TL.nil ?_
          refine TC.go hK_76 ?_
          refine TC.ret ?_
          obtain rfl := ex_ret hp hx_41
          obtain rfl := Option.some.inj hr_39
          exact fun w hw => retOk ⟨rfl, rfl⟩ (hw.pick [])
        · rw [if_neg hc_74] at hp
          refine TC.condF (bbF hc_74) ?_
          refine TC.skip ?_
          refine TC.go hK_65 ?_
          refine TC.region ?_
          refine TL.v (ltb rfl) (rv_add (k := .i64) (m := x4416) (n := 1) h_36 rfl) ?_
          refine TL.v (ltb rfl) (rv_mv (v := .int .i64 (w64 (x4416 + 1))) rfl) ?_
          refine TL.nil ?_
          exact fun w hw => goOk hp ⟨h_31, h_32, h_33, h_34, h_35, rfl, rfl⟩ (hw.pick [1, 1])
      · rw [if_neg hc_63] at hp
        refine TC.condF (bF hc_63) ?_
        refine TC.exit ?_
        refine fun w hw => hJ_57 _ ?_ ?_ ?_ (ex_ret hp hx_41) w (hw.pick [0, 0])
        · exact h_31
        · exact h_32
        · exact h_33
  by_cases hc_17 : x2816.params < 0
  · refine TL.gno true rfl (fun d hd => by cases hd; exact ltb rfl) (yieldE_of rfl (bT hc_17)) rfl ?_
    refine TL.gno true rfl (fun d hd => by cases hd; exact ltb rfl) (yieldE_of rfl (bT hc_17)) rfl ?_
    refine TL.gno true rfl (fun d hd => by cases hd; exact ltb rfl) (yieldE_of rfl (bT hc_17)) rfl ?_
    refine TL.gno true rfl (fun d hd => by cases hd; exact ltb rfl) (yieldE_of rfl (bT hc_17)) rfl ?_
    refine TL.gno true rfl (fun d hd => by cases hd; exact ltb rfl) (yieldE_of rfl (bT hc_17)) rfl ?_
    refine TL.gno true rfl (fun d hd => by cases hd; exact ltb rfl) (yieldE_of rfl (bT hc_17)) rfl ?_
    refine TL.v (ltb rfl) (rv_pickT true (bT hc_17) rfl (v := .bool true) rfl) ?_
    refine TL.nil (hJ_16 _ ?_ ?_ ?_ ?_)
    · exact rfl
    · exact rfl
    · exact rfl
    · exact (bOt hc_17)
  · refine TL.gyes false (yieldE_of rfl (bF hc_17)) rfl ?_
    refine TL.v (ltb rfl) (rv_fa (b := b3616) (o := 0) fa_25_0 rfl) ?_
    refine TL.gyes false (yieldE_of rfl (bF hc_17)) rfl ?_
    refine TL.v (ltb rfl) (rv_ld (v := .int .i64 x2816.params) (o := 0) (o' := 0) (j := 0) sc_3 rfl (Src.at_ 0 rfl) (bx_cells b3616 25 _) rfl rfl) ?_
    refine TL.gyes false (yieldE_of rfl (bF hc_17)) rfl ?_
    refine TL.v (ltb rfl) (rv_fa (b := b3616) (o := 0) fa_25_2 rfl) ?_
    refine TL.gyes false (yieldE_of rfl (bF hc_17)) rfl ?_
    refine TL.v (ltb rfl) (rv_ld (v := v2822) (o := 2) (o' := 0) (j := 2) sc_22 rfl (Src.at_ 0 rfl) (bx_cells b3616 25 _) rfl rfl) ?_
    refine TL.gyes false (yieldE_of rfl (bF hc_17)) rfl ?_
    refine TL.v (ltb rfl) (rv_lenI (v := v2822) Try.underlying22 rfl h2823) ?_
    refine TL.gyes false (yieldE_of rfl (bF hc_17)) rfl ?_
    refine TL.v (ltb rfl) (rv_gtr (k := .i64) (m := x2816.params) (n := (len x2816.regs)) rfl rfl) ?_
    refine TL.v (ltb rfl) (rv_pickF false (bF hc_17) rfl (v := .bool (decide (x2816.params > (len x2816.regs)))) rfl) ?_
    refine TL.nil (hJ_16 _ ?_ ?_ ?_ ?_)
    · exact rfl
    · exact rfl
    · exact rfl
    · exact (bOf hc_17)

/-! ### (*fettle/check.looker).fits -/
abbrev check_looker_fits.R (r : Bool) (v : Value) (A : List FP) : Prop := .bool r = v ∧ A = []
def check_looker_fits.jn80 (a2 : PLooker) (a11 : PInstr) (x10830 : Bool) : Option Bool :=
  if x10830 = true then
    (check_looker_are a2 1 a11.args).bind fun x10831 =>
    some x10831
  else
    if a11.op = 17 then
      (check_looker_call a2 a11).bind fun x10832 =>
      some x10832
    else
      (check_looker_are a2 1 a11.args).bind fun x10833 =>
      (if x10833 = true then (check_looker_are a2 1 ([a11.dst])).bind fun x10838 =>
      some x10838 else some false).bind fun t10834 =>
      some t10834
def check_looker_fits.jn46 (a2 : PLooker) (a11 : PInstr) (x6822 : Bool) : Option Bool :=
  if x6822 = true then
    (check_looker_are a2 1 a11.args).bind fun x6823 =>
    (if x6823 = true then (check_looker_are a2 2 ([a11.dst])).bind fun x6828 =>
    some x6828 else some false).bind fun t6824 =>
    some t6824
  else
    if a11.op = 14 then
      (idx a11.args 0).bind fun x8030 =>
      (check_looker_are a2 2 ([x8030, a11.dst])).bind fun x10032 =>
      some x10032
    else
      if a11.op = 18 then
        check_looker_fits.jn80 a2 a11 (decide (a11.op = 18))
      else
        check_looker_fits.jn80 a2 a11 (decide (a11.op = 16))
def check_looker_fits (a2 : PLooker) (a11 : PInstr) : Option Bool :=
  if a11.op = 1 then
    (idx a2.f.regs a11.dst).bind fun x15 =>
    some (decide ((x15 = 1 ∨ a11.imm = 0) ∨ a11.imm = 1))
  else
    if a11.op = 2 then
      (idx a11.args 0).bind fun x3222 =>
      (idx a2.f.regs x3222).bind fun x4022 =>
      (check_looker_are a2 x4022 ([a11.dst])).bind fun x6024 =>
      some x6024
    else
      if a11.op = 12 then
        check_looker_fits.jn46 a2 a11 (decide (a11.op = 12))
      else
        check_looker_fits.jn46 a2 a11 (decide (a11.op = 13))
set_option maxHeartbeats 4000000 in
theorem check_looker_fits_ok {E : World} {H : FP} {w : World} {a2 : PLooker} {a11 : PInstr} {b1 : Nat} {o3 : Nat} {v5 : Value} {v7 : Value} {v9 : Value} {v12 : Value} {r : Bool} (h4 : CellsIn H b1 o3 [v5, .int .i64 a2.f.params, .int .i64 a2.f.result, v7, v9]) (h6 : SlI kFunc H a2.m.funcs v5) (h8 : SlI (kInt .i64) H a2.f.regs v7) (h10 : SlI kBlock H a2.f.blocks v9) (h13 : SlI (kInt .i64) H a11.args v12) (hp : check_looker_fits a2 a11 = some r) (hst : St E H [] w) :
    Fn Try.prog 113 #[.pointer (some ⟨b1, o3, none⟩), .agg #[.int .i64 a11.op, .int .i64 a11.dst, v12, .int .i64 a11.imm, .int .i64 a11.fn]] w fun v w' => ∃ A, check_looker_fits.R r v A ∧ St E H A w' := by
  refine Fn.body (fn := Try.f113) (args := [.pointer (some ⟨b1, o3, none⟩), .agg #[.int .i64 a11.op, .int .i64 a11.dst, v12, .int .i64 a11.imm, .int .i64 a11.fn]]) E H [] [.tmp 4] 95 Try.func113 rfl rfl rfl rfl (leb rfl) hst ?_
  unfold check_looker_fits at hp
  refine TC.seq fun K_1 hK_2 => ?_
  refine TC.region ?_
  refine TL.box (cs := [.int .i64 a11.op, .int .i64 a11.dst, v12, .int .i64 a11.imm, .int .i64 a11.fn]) (v := .agg #[.int .i64 a11.op, .int .i64 a11.dst, v12, .int .i64 a11.imm, .int .i64 a11.fn]) (ltb rfl) rfl rfl fun b14 => ?_
  refine TL.v (ltb rfl) (rv_as (v := .bool false) rfl) ?_
  refine TL.nil ?_
  refine TC.go hK_2 ?_
  refine TC.seq fun K_3 hK_4 => ?_
  refine TC.seq fun K_5 hK_6 => ?_
  refine TC.region ?_
  refine TL.v (ltb rfl) (rv_fa (b := b14) (o := 0) fa_87_0 rfl) ?_
  refine TL.v (ltb rfl) (rv_ld (v := .int .i64 a11.op) (o := 0) (o' := 0) (j := 0) sc_3 rfl (Src.at_ 0 rfl) (bx_cells b14 87 _) rfl rfl) ?_
  refine TL.nil ?_
  refine TC.go hK_6 ?_
  refine TC.block ?_
  refine TC.seq fun K_7 hK_8 => ?_
  refine TC.region ?_
  refine TL.v (ltb rfl) (rv_eql (k := .i64) (m := a11.op) (n := 1) rfl rfl) ?_
  refine TL.v (ltb rfl) (rv_as (v := .bool (decide (a11.op = 1))) rfl) ?_
  refine TL.nil ?_
  refine TC.go hK_8 ?_
  by_cases hc_9 : a11.op = 1
  · rw [if_pos hc_9] at hp
    refine TC.condT (bT hc_9) ?_
    refine TC.seq fun K_10 hK_11 => ?_
    refine TC.quiet mix (by kernel_rfl) ?_
    refine QL.v (ltb rfl) (rv_mv (v := .pointer (some ⟨b1, o3, none⟩)) rfl) ?_
    refine QL.v (ltb rfl) (rv_nilCheck (a := ⟨b1, o3, none⟩) rfl) ?_
    refine QL.v (ltb rfl) (rv_fa (b := b1) (o := o3) fa_159_1 rfl) ?_
    refine QL.v (ltb rfl) (rv_fa (b := b1) (o := o3 + 1) fa_25_2 rfl) ?_
    refine QL.v (ltb rfl) (rv_ld (v := v7) (o := o3 + 3) (o' := o3) (j := 3) sc_22 rfl Src.H h4 rfl rfl) ?_
    refine QL.v (ltb rfl) (rv_fa (b := b14) (o := 0) fa_87_1 rfl) ?_
    refine QL.v (ltb rfl) (rv_ld (v := .int .i64 a11.dst) (o := 1) (o' := 0) (j := 1) sc_3 rfl (Src.at_ 0 rfl) (bx_cells b14 87 _) rfl rfl) ?_
    obtain ⟨x15, hx_12, hp⟩ := bind_some' hp
    refine QL.v3 (ltb rfl) (rv_ix 22 (.tmp 13) (.tmp 15) (v := v7) (i := a11.dst) Try.underlying22 inf_3 rfl rfl rfl h8 hx_12) fun b16 o17 c18 h19 h20 => ?_
    obtain rfl := h19
    refine QL.v (ltb rfl) (rv_ld (v := .int .i64 x15) (o := o17) (o' := o17) (j := 0) sc_3 rfl Src.H h20 rfl rfl) ?_
    refine QL.v (ltb rfl) (rv_eql (k := .i64) (m := x15) (n := 1) rfl rfl) ?_
    refine QL.v (ltb rfl) (rv_mv (v := .bool (decide (x15 = 1))) rfl) ?_
    refine QL.cut 4 fun K_13 hK_14 => ?_
    have hJ_15 : ∀ e_17 : Env, e_17 3 = .pointer (some ⟨b14, 0, none⟩) → e_17 23 = .bool (decide (x15 = 1 ∨ a11.imm = 0)) → K_13 e_17 := by
      intro e_17 h_18 h_19
      refine hK_14 _ ?_
      refine QL.v (ltb rfl) (rv_mv (v := .bool (decide (x15 = 1 ∨ a11.imm = 0))) h_19) ?_
      refine QL.cut 4 fun K_20 hK_21 => ?_
      have hJ_22 : ∀ e_24 : Env, e_24 28 = .bool (decide ((x15 = 1 ∨ a11.imm = 0) ∨ a11.imm = 1)) → K_20 e_24 := by
        intro e_24 h_25
        refine hK_21 _ ?_
        refine QL.v (ltb rfl) (rv_as (v := .bool (decide ((x15 = 1 ∨ a11.imm = 0) ∨ a11.imm = 1))) h_25) ?_
        refine QL.nil ?_
        refine TC.go hK_11 ?_
        refine TC.ret ?_
        obtain rfl := Option.some.inj hp
        exact fun w hw => retOk ⟨rfl, rfl⟩ (hw.pick [])
      by_cases hc_23 : x15 = 1 ∨ a11.imm = 0
      · refine QL.gno true rfl (fun d hd => by cases hd; exact ltb rfl) (yieldE_of rfl (bT hc_23)) rfl ?_
        refine QL.gno true rfl (fun d hd => by cases hd; exact ltb rfl) (yieldE_of rfl (bT hc_23)) rfl ?_
        refine QL.gno true rfl (fun d hd => by cases hd; exact ltb rfl) (yieldE_of rfl (bT hc_23)) rfl ?_
        refine QL.v (ltb rfl) (rv_pickT true (bT hc_23) rfl (v := .bool true) rfl) ?_
        refine QL.nil (hJ_22 _ ?_)
        · exact (bOt hc_23)
      · refine QL.gyes false (yieldE_of rfl (bF hc_23)) rfl ?_
        refine QL.v (ltb rfl) (rv_fa (b := b14) (o := 0) fa_87_3 h_18) ?_
        refine QL.gyes false (yieldE_of rfl (bF hc_23)) rfl ?_
        refine QL.v (ltb rfl) (rv_ld (v := .int .i64 a11.imm) (o := 3) (o' := 0) (j := 3) sc_2 rfl (Src.at_ 0 rfl) (bx_cells b14 87 _) rfl rfl) ?_
        refine QL.gyes false (yieldE_of rfl (bF hc_23)) rfl ?_
        refine QL.v (ltb rfl) (rv_eql (k := .i64) (m := a11.imm) (n := 1) rfl rfl) ?_
        refine QL.v (ltb rfl) (rv_pickF false (bF hc_23) rfl (v := .bool (decide (a11.imm = 1))) rfl) ?_
        refine QL.nil (hJ_22 _ ?_)
        · exact (bOf hc_23)
    by_cases hc_16 : x15 = 1
    · refine QL.gno true rfl (fun d hd => by cases hd; exact ltb rfl) (yieldE_of rfl (bT hc_16)) rfl ?_
      refine QL.gno true rfl (fun d hd => by cases hd; exact ltb rfl) (yieldE_of rfl (bT hc_16)) rfl ?_
      refine QL.gno true rfl (fun d hd => by cases hd; exact ltb rfl) (yieldE_of rfl (bT hc_16)) rfl ?_
      refine QL.v (ltb rfl) (rv_pickT true (bT hc_16) rfl (v := .bool true) rfl) ?_
      refine QL.nil (hJ_15 _ ?_ ?_)
      · exact rfl
      · exact (bOt hc_16)
    · refine QL.gyes false (yieldE_of rfl (bF hc_16)) rfl ?_
      refine QL.v (ltb rfl) (rv_fa (b := b14) (o := 0) fa_87_3 rfl) ?_
      refine QL.gyes false (yieldE_of rfl (bF hc_16)) rfl ?_
      refine QL.v (ltb rfl) (rv_ld (v := .int .i64 a11.imm) (o := 3) (o' := 0) (j := 3) sc_2 rfl (Src.at_ 0 rfl) (bx_cells b14 87 _) rfl rfl) ?_
      refine QL.gyes false (yieldE_of rfl (bF hc_16)) rfl ?_
      refine QL.v (ltb rfl) (rv_eql (k := .i64) (m := a11.imm) (n := 0) rfl rfl) ?_
      refine QL.v (ltb rfl) (rv_pickF false (bF hc_16) rfl (v := .bool (decide (a11.imm = 0))) rfl) ?_
      refine QL.nil (hJ_15 _ ?_ ?_)
      · exact rfl
      · exact (bOf hc_16)
  · rw [if_neg hc_9] at hp
    refine TC.condF (bF hc_9) ?_
    refine TC.seq fun K_26 hK_27 => ?_
    refine TC.region ?_
    refine TL.v (ltb rfl) (rv_eql (k := .i64) (m := a11.op) (n := 2) rfl rfl) ?_
    refine TL.v (ltb rfl) (rv_as (v := .bool (decide (a11.op = 2))) rfl) ?_
    refine TL.nil ?_
    refine TC.go hK_27 ?_
    by_cases hc_28 : a11.op = 2
    · rw [if_pos hc_28] at hp
      refine TC.condT (bT hc_28) ?_
      refine TC.seq fun K_29 hK_30 => ?_
      refine TC.held ([bx b14 87 [.int .i64 a11.op, .int .i64 a11.dst, v12, .int .i64 a11.imm, .int .i64 a11.fn]].flatten ++ H) mix (srcG 0 rfl srcG0) ?_
      refine HL.v 0 rfl trivial (by kernel_rfl) (by kernel_rfl) (by kernel_rfl) (ltb rfl) (rv_mv (v := .pointer (some ⟨b1, o3, none⟩)) rfl) ?_
      refine HL.v 1 rfl trivial (by kernel_rfl) (by kernel_rfl) (by kernel_rfl) (ltb rfl) (rv_mv (v := .pointer (some ⟨b1, o3, none⟩)) rfl) ?_
      refine HL.v 2 rfl trivial (by kernel_rfl) (by kernel_rfl) (by kernel_rfl) (ltb rfl) (rv_nilCheck (a := ⟨b1, o3, none⟩) rfl) ?_
      refine HL.v 3 rfl trivial (by kernel_rfl) (by kernel_rfl) (by kernel_rfl) (ltb rfl) (rv_fa (b := b1) (o := o3) fa_159_1 rfl) ?_
      refine HL.v 4 rfl trivial (by kernel_rfl) (by kernel_rfl) (by kernel_rfl) (ltb rfl) (rv_fa (b := b1) (o := o3 + 1) fa_25_2 rfl) ?_
      refine HL.v 5 rfl trivial (by kernel_rfl) (by kernel_rfl) (by kernel_rfl) (ltb rfl) (rv_ld (v := v7) (o := o3 + 3) (o' := o3) (j := 3) sc_22 rfl srcInH h4 rfl rfl) ?_
      refine HL.v 6 rfl trivial (by kernel_rfl) (by kernel_rfl) (by kernel_rfl) (ltb rfl) (rv_fa (b := b14) (o := 0) fa_87_2 rfl) ?_
      refine HL.v 7 rfl trivial (by kernel_rfl) (by kernel_rfl) (by kernel_rfl) (ltb rfl) (rv_ld (v := v12) (o := 2) (o' := 0) (j := 2) sc_22 rfl (srcInG 0 rfl) (bx_cells b14 87 _) rfl rfl) ?_
      obtain ⟨x3222, hx_31, hp⟩ := bind_some' hp
      refine HL.w3 8 rfl trivial (by kernel_rfl) (by kernel_rfl) (by kernel_rfl) (ltb rfl) (rv_ix 22 (.tmp 38) (.const (.int .i64 0)) (v := v12) (i := 0) Try.underlying22 inf_3 rfl rfl rfl h13 hx_31) fun b3223 o3224 c3225 h3226 h3227 => ?_
      obtain rfl := h3226
      refine HL.v 9 rfl trivial (by kernel_rfl) (by kernel_rfl) (by kernel_rfl) (ltb rfl) (rv_ld (v := .int .i64 x3222) (o := o3224) (o' := o3224) (j := 0) sc_3 rfl srcInH h3227 rfl rfl) ?_
      obtain ⟨x4022, hx_32, hp⟩ := bind_some' hp
      refine HL.w3 10 rfl trivial (by kernel_rfl) (by kernel_rfl) (by kernel_rfl) (ltb rfl) (rv_ix 22 (.tmp 36) (.tmp 40) (v := v7) (i := x3222) Try.underlying22 inf_3 rfl rfl rfl h8 hx_32) fun b4023 o4024 c4025 h4026 h4027 => ?_
      obtain rfl := h4026
      refine HL.v 11 rfl trivial (by kernel_rfl) (by kernel_rfl) (by kernel_rfl) (ltb rfl) (rv_ld (v := .int .i64 x4022) (o := o4024) (o' := o4024) (j := 0) sc_3 rfl srcInH h4027 rfl rfl) ?_
      refine HL.v 12 rfl trivial (by kernel_rfl) (by kernel_rfl) (by kernel_rfl) (ltb rfl) (rv_fa (b := b14) (o := 0) fa_87_1 rfl) ?_
      refine HL.v 13 rfl trivial (by kernel_rfl) (by kernel_rfl) (by kernel_rfl) (ltb rfl) (rv_ld (v := .int .i64 a11.dst) (o := 1) (o' := 0) (j := 1) sc_3 rfl (srcInG 0 rfl) (bx_cells b14 87 _) rfl rfl) ?_
      refine HL.one 14 rfl (by kernel_rfl) fun K_33 hK_34 => ?_
      refine TL.bv (vs := [(0, .int .i64 a11.dst)]) (cs := [.int .i64 a11.dst]) (pc rfl p0) Try.underlying22 inf_3 (ltb rfl) (by decide) (by decide) (by kernel_rfl) fun b5622 => ?_
      refine TL.nil (hK_34 _ _ (srcG 1 rfl srcG0) ?_)
      refine HL.one 15 rfl (by kernel_rfl) fun K_35 hK_36 => ?_
      refine TL.perm (L' := [bx b5622 3 [.int .i64 a11.dst], [], bx b14 87 [.int .i64 a11.op, .int .i64 a11.dst, v12, .int .i64 a11.imm, .int .i64 a11.fn]]) (by simp) ?_
      refine TL.litOwn (n := 1) (xs := [a11.dst]) (RepL.to (RepL.cons (k := (kInt .i64)) (x := a11.dst) ⟨rfl, rfl⟩ RepL.nil) rfl) rfl rfl (ltb rfl) fun F6022 h6023 => ?_
      obtain ⟨x6024, hy_37, hp⟩ := bind_some' hp
      refine TL.callC (vs := [.pointer (some ⟨b1, o3, none⟩), .int .i64 x4022, (.slice (some ⟨b5622, 0, none⟩) 1 1)]) (R := check_looker_are.R x6024) [] [F6022, bx b14 87 [.int .i64 a11.op, .int .i64 a11.dst, v12, .int .i64 a11.imm, .int .i64 a11.fn]] rfl cb_111 (ltb rfl) (mc rfl (mc rfl (mc rfl m0))) (fun w hw => check_looker_are_ok (a2 := a2) (a11 := x4022) (a12 := [a11.dst]) (h4.mono subH) (h6.mono subH) (h8.mono subH) (h10.mono subH) (h6023.ro.mono (subB 0 rfl)) hy_37 hw) fun v A' hR_38 => ?_
      obtain ⟨rfl, rfl⟩ := hR_38
      refine TL.norm (L' := [F6022, bx b14 87 [.int .i64 a11.op, .int .i64 a11.dst, v12, .int .i64 a11.imm, .int .i64 a11.fn]]) rfl ?_
      refine TL.nil (hK_36 _ _ (srcG 1 rfl srcG0) ?_)
      refine HL.v 16 rfl trivial (by kernel_rfl) (by kernel_rfl) (by kernel_rfl) (ltb rfl) (rv_as (v := .bool x6024) rfl) ?_
      refine HL.done (by kernel_rfl) ?_
      refine TC.go hK_30 ?_
      refine TC.ret ?_
      obtain rfl := Option.some.inj hp
      exact fun w hw => retOk ⟨rfl, rfl⟩ (hw.pick [])
    · rw [if_neg hc_28] at hp
      refine TC.condF (bF hc_28) ?_
      refine TC.seq fun K_39 hK_40 => ?_
      have hJ_46 : ∀ (x6822 : Bool) (e_41 : Env) (h_42 : e_41 0 = .pointer (some ⟨b1, o3, none⟩)) (h_43 : e_41 3 = .pointer (some ⟨b14, 0, none⟩)) (h_44 : e_41 6 = .int .i64 a11.op) (h_45 : e_41 47 = .bool x6822) (hp : check_looker_fits.jn46 a2 a11 x6822 = some r), ∀ w, St E H [bx b14 87 [.int .i64 a11.op, .int .i64 a11.dst, v12, .int .i64 a11.imm, .int .i64 a11.fn]] w → K_39 e_41 w := by
        intro x6822 e_41 h_42 h_43 h_44 h_45 hp
        unfold check_looker_fits.jn46 at hp
        refine TC.go hK_40 ?_
        by_cases hc_47 : x6822 = true
        · rw [if_pos hc_47] at hp
          refine TC.condT (h_45.trans (bbT hc_47)) ?_
          refine TC.seq fun K_48 hK_49 => ?_
          refine TC.region ?_
          refine TL.v (ltb rfl) (rv_mv (v := .pointer (some ⟨b1, o3, none⟩)) h_42) ?_
          refine TL.v (ltb rfl) (rv_fa (b := b14) (o := 0) fa_87_2 h_43) ?_
          refine TL.v (ltb rfl) (rv_ld (v := v12) (o := 2) (o' := 0) (j := 2) sc_22 rfl (Src.at_ 0 rfl) (bx_cells b14 87 _) rfl rfl) ?_
          obtain ⟨x6823, hy_50, hp⟩ := bind_some' hp
          refine TL.callC (vs := [.pointer (some ⟨b1, o3, none⟩), .int .i64 1, v12]) (R := check_looker_are.R x6823) [] [bx b14 87 [.int .i64 a11.op, .int .i64 a11.dst, v12, .int .i64 a11.imm, .int .i64 a11.fn]] rfl cb_111 (ltb rfl) (mc rfl (mc rfl (mc rfl m0))) (fun w hw => check_looker_are_ok (a2 := a2) (a11 := 1) (a12 := a11.args) (h4.mono subH) (h6.mono subH) (h8.mono subH) (h10.mono subH) (h13.mono subH) hy_50 hw) fun v A' hR_51 => ?_
          obtain ⟨rfl, rfl⟩ := hR_51
          refine TL.norm (L' := [bx b14 87 [.int .i64 a11.op, .int .i64 a11.dst, v12, .int .i64 a11.imm, .int .i64 a11.fn]]) rfl ?_
          refine TL.v (ltb rfl) (rv_mv (v := .bool x6823) rfl) ?_
          obtain ⟨t6824, ht_58, hp⟩ := bind_some' hp
          refine TL.cut 6 fun K_52 hK_53 => ?_
          have hJ_54 : ∀ e_56 : Env, e_56 60 = .bool t6824 → ∀ w, St E H [bx b14 87 [.int .i64 a11.op, .int .i64 a11.dst, v12, .int .i64 a11.imm, .int .i64 a11.fn]] w → K_52 e_56 w := by
            intro e_56 h_57
            refine TL.go hK_53 ?_
            refine TL.v (ltb rfl) (rv_as (v := .bool t6824) h_57) ?_
            refine TL.nil ?_
            refine TC.go hK_49 ?_
            refine TC.ret ?_
            obtain rfl := Option.some.inj hp
            exact fun w hw => retOk ⟨rfl, rfl⟩ (hw.pick [])
          clear hp
          have hp := ht_58
          clear ht_58
          by_cases hc_55 : x6823 = true
          · rw [if_pos hc_55] at hp
            refine TL.gyes true (yieldE_of rfl (bbT hc_55)) rfl ?_
            refine TL.v (ltb rfl) (rv_mv (v := .pointer (some ⟨b1, o3, none⟩)) h_42) ?_
            refine TL.gyes true (yieldE_of rfl (bbT hc_55)) rfl ?_
            refine TL.v (ltb rfl) (rv_fa (b := b14) (o := 0) fa_87_1 h_43) ?_
            refine TL.gyes true (yieldE_of rfl (bbT hc_55)) rfl ?_
            refine TL.v (ltb rfl) (rv_ld (v := .int .i64 a11.dst) (o := 1) (o' := 0) (j := 1) sc_3 rfl (Src.at_ 0 rfl) (bx_cells b14 87 _) rfl rfl) ?_
            refine TL.gyes true (yieldE_of rfl (bbT hc_55)) rfl ?_
            refine TL.bv (vs := [(0, .int .i64 a11.dst)]) (cs := [.int .i64 a11.dst]) (pc rfl p0) Try.underlying22 inf_3 (ltb rfl) (by decide) (by decide) (by kernel_rfl) fun b6825 => ?_
            refine TL.gyes true (yieldE_of rfl (bbT hc_55)) rfl ?_
            refine TL.perm (L' := [bx b6825 3 [.int .i64 a11.dst], [], bx b14 87 [.int .i64 a11.op, .int .i64 a11.dst, v12, .int .i64 a11.imm, .int .i64 a11.fn]]) (by simp) ?_
            refine TL.litOwn (n := 1) (xs := [a11.dst]) (RepL.to (RepL.cons (k := (kInt .i64)) (x := a11.dst) ⟨rfl, rfl⟩ RepL.nil) rfl) rfl rfl (ltb rfl) fun F6826 h6827 => ?_
            obtain ⟨x6828, hy_59, hp⟩ := bind_some' hp
            refine TL.callC (vs := [.pointer (some ⟨b1, o3, none⟩), .int .i64 2, (.slice (some ⟨b6825, 0, none⟩) 1 1)]) (R := check_looker_are.R x6828) [] [F6826, bx b14 87 [.int .i64 a11.op, .int .i64 a11.dst, v12, .int .i64 a11.imm, .int .i64 a11.fn]] rfl cb_111 (ltb rfl) (mc rfl (mc rfl (mc rfl m0))) (fun w hw => check_looker_are_ok (a2 := a2) (a11 := 2) (a12 := [a11.dst]) (h4.mono subH) (h6.mono subH) (h8.mono subH) (h10.mono subH) (h6827.ro.mono (subB 0 rfl)) hy_59 hw) fun v A' hR_60 => ?_
            obtain ⟨rfl, rfl⟩ := hR_60
            refine TL.norm (L' := [F6826, bx b14 87 [.int .i64 a11.op, .int .i64 a11.dst, v12, .int .i64 a11.imm, .int .i64 a11.fn]]) rfl ?_
            refine TL.v (ltb rfl) (rv_pickT true (bbT hc_55) rfl (v := .bool x6828) rfl) ?_
            refine TL.pk' [1] (L' := [bx b14 87 [.int .i64 a11.op, .int .i64 a11.dst, v12, .int .i64 a11.imm, .int .i64 a11.fn]]) rfl ?_
            obtain rfl := Option.some.inj hp
            refine TL.nil (hJ_54 _ ?_)
            · exact rfl
          · rw [if_neg hc_55] at hp
            refine TL.gno false rfl (fun d hd => by cases hd; exact ltb rfl) (yieldE_of rfl (bbF hc_55)) rfl ?_
            refine TL.gno false rfl (fun d hd => by cases hd; exact ltb rfl) (yieldE_of rfl (bbF hc_55)) rfl ?_
            refine TL.gno false rfl (fun d hd => by cases hd; exact ltb rfl) (yieldE_of rfl (bbF hc_55)) rfl ?_
            refine TL.gno false rfl (fun d hd => by cases hd; exact ltb rfl) (yieldE_of rfl (bbF hc_55)) rfl ?_
            refine TL.gno false rfl (fun d hd => by cases hd; exact ltb rfl) (yieldE_of rfl (bbF hc_55)) rfl ?_
            refine TL.v (ltb rfl) (rv_pickF false (bbF hc_55) rfl (v := .bool false) rfl) ?_
            obtain rfl := Option.some.inj hp
            refine TL.nil (hJ_54 _ ?_)
            · exact rfl
        · rw [if_neg hc_47] at hp
          refine TC.condF (h_45.trans (bbF hc_47)) ?_
          refine TC.seq fun K_61 hK_62 => ?_
          refine TC.region ?_
          refine TL.v (ltb rfl) (rv_eql (k := .i64) (m := a11.op) (n := 14) h_44 rfl) ?_
          refine TL.v (ltb rfl) (rv_as (v := .bool (decide (a11.op = 14))) rfl) ?_
          refine TL.nil ?_
          refine TC.go hK_62 ?_
          by_cases hc_63 : a11.op = 14
          · rw [if_pos hc_63] at hp
            refine TC.condT (bT hc_63) ?_
            refine TC.seq fun K_64 hK_65 => ?_
            refine TC.held ([bx b14 87 [.int .i64 a11.op, .int .i64 a11.dst, v12, .int .i64 a11.imm, .int .i64 a11.fn]].flatten ++ H) mix (srcG 0 rfl srcG0) ?_
            refine HL.v 0 rfl trivial (by kernel_rfl) (by kernel_rfl) (by kernel_rfl) (ltb rfl) (rv_mv (v := .pointer (some ⟨b1, o3, none⟩)) h_42) ?_
            refine HL.v 1 rfl trivial (by kernel_rfl) (by kernel_rfl) (by kernel_rfl) (ltb rfl) (rv_fa (b := b14) (o := 0) fa_87_2 h_43) ?_
            refine HL.v 2 rfl trivial (by kernel_rfl) (by kernel_rfl) (by kernel_rfl) (ltb rfl) (rv_ld (v := v12) (o := 2) (o' := 0) (j := 2) sc_22 rfl (srcInG 0 rfl) (bx_cells b14 87 _) rfl rfl) ?_
            obtain ⟨x8030, hx_66, hp⟩ := bind_some' hp
            refine HL.w3 3 rfl trivial (by kernel_rfl) (by kernel_rfl) (by kernel_rfl) (ltb rfl) (rv_ix 22 (.tmp 65) (.const (.int .i64 0)) (v := v12) (i := 0) Try.underlying22 inf_3 rfl rfl rfl h13 hx_66) fun b8031 o8032 c8033 h8034 h8035 => ?_
            obtain rfl := h8034
            refine HL.v 4 rfl trivial (by kernel_rfl) (by kernel_rfl) (by kernel_rfl) (ltb rfl) (rv_ld (v := .int .i64 x8030) (o := o8032) (o' := o8032) (j := 0) sc_3 rfl srcInH h8035 rfl rfl) ?_
            refine HL.v 5 rfl trivial (by kernel_rfl) (by kernel_rfl) (by kernel_rfl) (ltb rfl) (rv_fa (b := b14) (o := 0) fa_87_1 h_43) ?_
            refine HL.v 6 rfl trivial (by kernel_rfl) (by kernel_rfl) (by kernel_rfl) (ltb rfl) (rv_ld (v := .int .i64 a11.dst) (o := 1) (o' := 0) (j := 1) sc_3 rfl (srcInG 0 rfl) (bx_cells b14 87 _) rfl rfl) ?_
            refine HL.one 7 rfl (by kernel_rfl) fun K_67 hK_68 => ?_
            refine TL.bv (vs := [(0, .int .i64 x8030), (1, .int .i64 a11.dst)]) (cs := [.int .i64 x8030, .int .i64 a11.dst]) (pc rfl (pc rfl p0)) Try.underlying22 inf_3 (ltb rfl) (by decide) (by decide) (by kernel_rfl) fun b9630 => ?_
            refine TL.nil (hK_68 _ _ (srcG 1 rfl srcG0) ?_)
            refine HL.one 8 rfl (by kernel_rfl) fun K_69 hK_70 => ?_
            refine TL.perm (L' := [bx b9630 3 [.int .i64 x8030, .int .i64 a11.dst], [], bx b14 87 [.int .i64 a11.op, .int .i64 a11.dst, v12, .int .i64 a11.imm, .int .i64 a11.fn]]) (by simp) ?_
            refine TL.litOwn (n := 2) (xs := [x8030, a11.dst]) (RepL.to (RepL.cons (k := (kInt .i64)) (x := x8030) ⟨rfl, rfl⟩ (RepL.cons (k := (kInt .i64)) (x := a11.dst) ⟨rfl, rfl⟩ RepL.nil)) rfl) rfl rfl (ltb rfl) fun F10030 h10031 => ?_
            obtain ⟨x10032, hy_71, hp⟩ := bind_some' hp
            refine TL.callC (vs := [.pointer (some ⟨b1, o3, none⟩), .int .i64 2, (.slice (some ⟨b9630, 0, none⟩) 2 2)]) (R := check_looker_are.R x10032) [] [F10030, bx b14 87 [.int .i64 a11.op, .int .i64 a11.dst, v12, .int .i64 a11.imm, .int .i64 a11.fn]] rfl cb_111 (ltb rfl) (mc rfl (mc rfl (mc rfl m0))) (fun w hw => check_looker_are_ok (a2 := a2) (a11 := 2) (a12 := [x8030, a11.dst]) (h4.mono subH) (h6.mono subH) (h8.mono subH) (h10.mono subH) (h10031.ro.mono (subB 0 rfl)) hy_71 hw) fun v A' hR_72 => ?_
            obtain ⟨rfl, rfl⟩ := hR_72
            refine TL.norm (L' := [F10030, bx b14 87 [.int .i64 a11.op, .int .i64 a11.dst, v12, .int .i64 a11.imm, .int .i64 a11.fn]]) rfl ?_
            refine TL.nil (hK_70 _ _ (srcG 1 rfl srcG0) ?_)
            refine HL.v 9 rfl trivial (by kernel_rfl) (by kernel_rfl) (by kernel_rfl) (ltb rfl) (rv_as (v := .bool x10032) rfl) ?_
            refine HL.done (by kernel_rfl) ?_
            refine TC.go hK_65 ?_
            refine TC.ret ?_
            obtain rfl := Option.some.inj hp
            exact fun w hw => retOk ⟨rfl, rfl⟩ (hw.pick [])
          · rw [if_neg hc_63] at hp
            refine TC.condF (bF hc_63) ?_
            refine TC.seq fun K_73 hK_74 => ?_
            have hJ_80 : ∀ (x10830 : Bool) (e_75 : Env) (h_76 : e_75 0 = .pointer (some ⟨b1, o3, none⟩)) (h_77 : e_75 3 = .pointer (some ⟨b14, 0, none⟩)) (h_78 : e_75 6 = .int .i64 a11.op) (h_79 : e_75 72 = .bool x10830) (hp : check_looker_fits.jn80 a2 a11 x10830 = some r), ∀ w, St E H [bx b14 87 [.int .i64 a11.op, .int .i64 a11.dst, v12, .int .i64 a11.imm, .int .i64 a11.fn]] w → K_73 e_75 w := by
              intro x10830 e_75 h_76 h_77 h_78 h_79 hp
              unfold check_looker_fits.jn80 at hp
              refine TC.go hK_74 ?_
              by_cases hc_81 : x10830 = true
              · rw [if_pos hc_81] at hp
                refine TC.condT (h_79.trans (bbT hc_81)) ?_
                refine TC.seq fun K_82 hK_83 => ?_
                refine TC.region ?_
                refine TL.v (ltb rfl) (rv_mv (v := .pointer (some ⟨b1, o3, none⟩)) h_76) ?_
                refine TL.v (ltb rfl) (rv_fa (b := b14) (o := 0) fa_87_2 h_77) ?_
                refine TL.v (ltb rfl) (rv_ld (v := v12) (o := 2) (o' := 0) (j := 2) sc_22 rfl (Src.at_ 0 rfl) (bx_cells b14 87 _) rfl rfl) ?_
                obtain ⟨x10831, hy_84, hp⟩ := bind_some' hp
                refine TL.callC (vs := [.pointer (some ⟨b1, o3, none⟩), .int .i64 1, v12]) (R := check_looker_are.R x10831) [] [bx b14 87 [.int .i64 a11.op, .int .i64 a11.dst, v12, .int .i64 a11.imm, .int .i64 a11.fn]] rfl cb_111 (ltb rfl) (mc rfl (mc rfl (mc rfl m0))) (fun w hw => check_looker_are_ok (a2 := a2) (a11 := 1) (a12 := a11.args) (h4.mono subH) (h6.mono subH) (h8.mono subH) (h10.mono subH) (h13.mono subH) hy_84 hw) fun v A' hR_85 => ?_
                obtain ⟨rfl, rfl⟩ := hR_85
                refine TL.norm (L' := [bx b14 87 [.int .i64 a11.op, .int .i64 a11.dst, v12, .int .i64 a11.imm, .int .i64 a11.fn]]) rfl ?_
                refine TL.v (ltb rfl) (rv_as (v := .bool x10831) rfl) ?_
                refine TL.nil ?_
                refine TC.go hK_83 ?_
                refine TC.ret ?_
                obtain rfl := Option.some.inj hp
                exact fun w hw => retOk ⟨rfl, rfl⟩ (hw.pick [])
              · rw [if_neg hc_81] at hp
                refine TC.condF (h_79.trans (bbF hc_81)) ?_
                refine TC.seq fun K_86 hK_87 => ?_
                refine TC.region ?_
                refine TL.v (ltb rfl) (rv_eql (k := .i64) (m := a11.op) (n := 17) h_78 rfl) ?_
                refine TL.v (ltb rfl) (rv_as (v := .bool (decide (a11.op = 17))) rfl) ?_
                refine TL.nil ?_
                refine TC.go hK_87 ?_
                by_cases hc_88 : a11.op = 17
                · rw [if_pos hc_88] at hp
                  refine TC.condT (bT hc_88) ?_
                  refine TC.seq fun K_89 hK_90 => ?_
                  refine TC.region ?_
                  refine TL.v (ltb rfl) (rv_mv (v := .pointer (some ⟨b1, o3, none⟩)) h_76) ?_
                  refine TL.v (ltb rfl) (rv_lda (o := 0) (o' := 0) (j := 0) (ds := [.int .i64 a11.op, .int .i64 a11.dst, v12, .int .i64 a11.imm, .int .i64 a11.fn]) ag_87 h_77 (Src.at_ 0 rfl) (bx_cells b14 87 _) rfl rfl rfl) ?_
                  obtain ⟨x10832, hy_91, hp⟩ := bind_some' hp
                  refine TL.callC (vs := [.pointer (some ⟨b1, o3, none⟩), .agg #[.int .i64 a11.op, .int .i64 a11.dst, v12, .int .i64 a11.imm, .int .i64 a11.fn]]) (R := check_looker_call.R x10832) [] [bx b14 87 [.int .i64 a11.op, .int .i64 a11.dst, v12, .int .i64 a11.imm, .int .i64 a11.fn]] rfl cb_116 (ltb rfl) (mc rfl (mc rfl m0)) (fun w hw => check_looker_call_ok (a2 := a2) (a11 := a11) (h4.mono subH) (h6.mono subH) (h8.mono subH) (h10.mono subH) (h13.mono subH) hy_91 hw) fun v A' hR_92 => ?_
                  obtain ⟨rfl, rfl⟩ := hR_92
                  refine TL.norm (L' := [bx b14 87 [.int .i64 a11.op, .int .i64 a11.dst, v12, .int .i64 a11.imm, .int .i64 a11.fn]]) rfl ?_
                  refine TL.v (ltb rfl) (rv_as (v := .bool x10832) rfl) ?_
                  refine TL.nil ?_
                  refine TC.go hK_90 ?_
                  refine TC.ret ?_
                  obtain rfl := Option.some.inj hp
                  exact fun w hw => retOk ⟨rfl, rfl⟩ (hw.pick [])
                · rw [if_neg hc_88] at hp
                  refine TC.condF (bF hc_88) ?_
                  refine TC.skip ?_
                  refine TC.go hK_4 ?_
                  refine TC.seq fun K_93 hK_94 => ?_
                  refine TC.region ?_
                  refine TL.v (ltb rfl) (rv_mv (v := .pointer (some ⟨b1, o3, none⟩)) h_76) ?_
                  refine TL.v (ltb rfl) (rv_fa (b := b14) (o := 0) fa_87_2 h_77) ?_
                  refine TL.v (ltb rfl) (rv_ld (v := v12) (o := 2) (o' := 0) (j := 2) sc_22 rfl (Src.at_ 0 rfl) (bx_cells b14 87 _) rfl rfl) ?_
                  obtain ⟨x10833, hy_95, hp⟩ := bind_some' hp
                  refine TL.callC (vs := [.pointer (some ⟨b1, o3, none⟩), .int .i64 1, v12]) (R := check_looker_are.R x10833) [] [bx b14 87 [.int .i64 a11.op, .int .i64 a11.dst, v12, .int .i64 a11.imm, .int .i64 a11.fn]] rfl cb_111 (ltb rfl) (mc rfl (mc rfl (mc rfl m0))) (fun w hw => check_looker_are_ok (a2 := a2) (a11 := 1) (a12 := a11.args) (h4.mono subH) (h6.mono subH) (h8.mono subH) (h10.mono subH) (h13.mono subH) hy_95 hw) fun v A' hR_96 => ?_
                  obtain ⟨rfl, rfl⟩ := hR_96
                  refine TL.norm (L' := [bx b14 87 [.int .i64 a11.op, .int .i64 a11.dst, v12, .int .i64 a11.imm, .int .i64 a11.fn]]) rfl ?_
                  refine TL.v (ltb rfl) (rv_mv (v := .bool x10833) rfl) ?_
                  obtain ⟨t10834, ht_103, hp⟩ := bind_some' hp
                  refine TL.cut 6 fun K_97 hK_98 => ?_
                  have hJ_99 : ∀ e_101 : Env, e_101 94 = .bool t10834 → ∀ w, St E H [bx b14 87 [.int .i64 a11.op, .int .i64 a11.dst, v12, .int .i64 a11.imm, .int .i64 a11.fn]] w → K_97 e_101 w := by
                    intro e_101 h_102
                    refine TL.go hK_98 ?_
                    refine TL.v (ltb rfl) (rv_as (v := .bool t10834) h_102) ?_
                    refine TL.nil ?_
                    refine TC.go hK_94 ?_
                    refine TC.ret ?_
                    obtain rfl := Option.some.inj hp
                    exact fun w hw => retOk ⟨rfl, rfl⟩ (hw.pick [])
                  clear hp
                  have hp := ht_103
                  clear ht_103
                  by_cases hc_100 : x10833 = true
                  · rw [if_pos hc_100] at hp
                    refine TL.gyes true (yieldE_of rfl (bbT hc_100)) rfl ?_
                    refine TL.v (ltb rfl) (rv_mv (v := .pointer (some ⟨b1, o3, none⟩)) h_76) ?_
                    refine TL.gyes true (yieldE_of rfl (bbT hc_100)) rfl ?_
                    refine TL.v (ltb rfl) (rv_fa (b := b14) (o := 0) fa_87_1 h_77) ?_
                    refine TL.gyes true (yieldE_of rfl (bbT hc_100)) rfl ?_
                    refine TL.v (ltb rfl) (rv_ld (v := .int .i64 a11.dst) (o := 1) (o' := 0) (j := 1) sc_3 rfl (Src.at_ 0 rfl) (bx_cells b14 87 _) rfl rfl) ?_
                    refine TL.gyes true (yieldE_of rfl (bbT hc_100)) rfl ?_
                    refine TL.bv (vs := [(0, .int .i64 a11.dst)]) (cs := [.int .i64 a11.dst]) (pc rfl p0) Try.underlying22 inf_3 (ltb rfl) (by decide) (by decide) (by kernel_rfl) fun b10835 => ?_
                    refine TL.gyes true (yieldE_of rfl (bbT hc_100)) rfl ?_
                    refine TL.perm (L' := [bx b10835 3 [.int .i64 a11.dst], [], bx b14 87 [.int .i64 a11.op, .int .i64 a11.dst, v12, .int .i64 a11.imm, .int .i64 a11.fn]]) (by simp) ?_
                    refine TL.litOwn (n := 1) (xs := [a11.dst]) (RepL.to (RepL.cons (k := (kInt .i64)) (x := a11.dst) ⟨rfl, rfl⟩ RepL.nil) rfl) rfl rfl (ltb rfl) fun F10836 h10837 => ?_
                    obtain ⟨x10838, hy_104, hp⟩ := bind_some' hp
                    refine TL.callC (vs := [.pointer (some ⟨b1, o3, none⟩), .int .i64 1, (.slice (some ⟨b10835, 0, none⟩) 1 1)]) (R := check_looker_are.R x10838) [] [F10836, bx b14 87 [.int .i64 a11.op, .int .i64 a11.dst, v12, .int .i64 a11.imm, .int .i64 a11.fn]] rfl cb_111 (ltb rfl) (mc rfl (mc rfl (mc rfl m0))) (fun w hw => check_looker_are_ok (a2 := a2) (a11 := 1) (a12 := [a11.dst]) (h4.mono subH) (h6.mono subH) (h8.mono subH) (h10.mono subH) (h10837.ro.mono (subB 0 rfl)) hy_104 hw) fun v A' hR_105 => ?_
                    obtain ⟨rfl, rfl⟩ := hR_105
                    refine TL.norm (L' := [F10836, bx b14 87 [.int .i64 a11.op, .int .i64 a11.dst, v12, .int .i64 a11.imm, .int .i64 a11.fn]]) rfl ?_
                    refine TL.v (ltb rfl) (rv_pickT true (bbT hc_100) rfl (v := .bool x10838) rfl) ?_
                    refine TL.pk' [1] (L' := [bx b14 87 [.int .i64 a11.op, .int .i64 a11.dst, v12, .int .i64 a11.imm, .int .i64 a11.fn]]) rfl ?_
                    obtain rfl := Option.some.inj hp
                    refine TL.nil (hJ_99 _ ?_)
                    · exact rfl
                  · rw [if_neg hc_100] at hp
                    refine TL.gno false rfl (fun d hd => by cases hd; exact ltb rfl) (yieldE_of rfl (bbF hc_100)) rfl ?_
                    refine TL.gno false rfl (fun d hd => by cases hd; exact ltb rfl) (yieldE_of rfl (bbF hc_100)) rfl ?_
                    refine TL.gno false rfl (fun d hd => by cases hd; exact ltb rfl) (yieldE_of rfl (bbF hc_100)) rfl ?_
                    refine TL.gno false rfl (fun d hd => by cases hd; exact ltb rfl) (yieldE_of rfl (bbF hc_100)) rfl ?_
                    refine TL.gno false rfl (fun d hd => by cases hd; exact ltb rfl) (yieldE_of rfl (bbF hc_100)) rfl ?_
                    refine TL.v (ltb rfl) (rv_pickF false (bbF hc_100) rfl (v := .bool false) rfl) ?_
                    obtain rfl := Option.some.inj hp
                    refine TL.nil (hJ_99 _ ?_)
                    · exact rfl
            refine TC.seq fun K_106 hK_107 => ?_
            refine TC.region ?_
            refine TL.v (ltb rfl) (rv_eql (k := .i64) (m := a11.op) (n := 18) h_44 rfl) ?_
            refine TL.v (ltb rfl) (rv_as (v := .bool (decide (a11.op = 18))) rfl) ?_
            refine TL.nil ?_
            refine TC.go hK_107 ?_
            by_cases hc_108 : a11.op = 18
            · rw [if_pos hc_108] at hp
              refine TC.condT (bT hc_108) ?_
              refine TC.skip ?_
              refine fun w hw => hJ_80 (decide (a11.op = 18)) _ ?_ ?_ ?_ ?_ hp w (hw.pick [0])
              · exact h_42
              · exact h_43
              · exact h_44
              · exact rfl
            · rw [if_neg hc_108] at hp
              refine TC.condF (bF hc_108) ?_
              refine TC.region ?_
              refine TL.v (ltb rfl) (rv_eql (k := .i64) (m := a11.op) (n := 16) h_44 rfl) ?_
              refine TL.v (ltb rfl) (rv_as (v := .bool (decide (a11.op = 16))) rfl) ?_
              refine TL.nil ?_
              refine fun w hw => hJ_80 (decide (a11.op = 16)) _ ?_ ?_ ?_ ?_ hp w (hw.pick [0])
              · exact h_42
              · exact h_43
              · exact h_44
              · exact rfl
      refine TC.seq fun K_109 hK_110 => ?_
      refine TC.region ?_
      refine TL.v (ltb rfl) (rv_eql (k := .i64) (m := a11.op) (n := 12) rfl rfl) ?_
      refine TL.v (ltb rfl) (rv_as (v := .bool (decide (a11.op = 12))) rfl) ?_
      refine TL.nil ?_
      refine TC.go hK_110 ?_
      by_cases hc_111 : a11.op = 12
      · rw [if_pos hc_111] at hp
        refine TC.condT (bT hc_111) ?_
        refine TC.skip ?_
        refine fun w hw => hJ_46 (decide (a11.op = 12)) _ ?_ ?_ ?_ ?_ hp w (hw.pick [0])
        · exact rfl
        · exact rfl
        · exact rfl
        · exact rfl
      · rw [if_neg hc_111] at hp
        refine TC.condF (bF hc_111) ?_
        refine TC.region ?_
        refine TL.v (ltb rfl) (rv_eql (k := .i64) (m := a11.op) (n := 13) rfl rfl) ?_
        refine TL.v (ltb rfl) (rv_as (v := .bool (decide (a11.op = 13))) rfl) ?_
        refine TL.nil ?_
        refine fun w hw => hJ_46 (decide (a11.op = 13)) _ ?_ ?_ ?_ ?_ hp w (hw.pick [0])
        · exact rfl
        · exact rfl
        · exact rfl
        · exact rfl

/-! ### (*fettle/check.looker).instr -/
abbrev check_looker_instr.R (r : GErr) (v : Value) (A : List FP) : Prop := ∃ (w1 : Value) (G1 : FP), w1 = v ∧ A = [G1] ∧ ErO 72 143 145 r w1 G1
def check_looker_instr (a2 : PLooker) (a11 : PInstr) : Option GErr :=
  (check_looker_arity a2 a11).bind fun x15 =>
  if ¬ x15.2.2 = GErr.no then
    some x15.2.2
  else
    if ¬ (len a11.args) = x15.1 then
      some (GErr.code 6)
    else
      (check_looker_has a2 a11.args).bind fun x20 =>
      (if (!x20) = true then some true else (if ¬ (x15.2.1 = 0) then (check_looker_has a2 ([a11.dst])).bind fun x31 =>
      some (!x31) else some false).bind fun t27 =>
      some t27).bind fun t21 =>
      if t21 = true then
        some (GErr.code 4)
      else
        (if ((x15.2.1 = 0 ∧ (¬ a11.dst = -1)) ∨ ((¬ a11.op = 1) ∧ (¬ a11.imm = 0))) ∨ ((¬ a11.op = 17) ∧ (¬ a11.fn = 0)) then some true else (check_looker_fits a2 a11).bind fun x26 =>
        some (!x26)).bind fun t23 =>
        if t23 = true then
          some (GErr.code 3)
        else
          some GErr.no
set_option maxHeartbeats 4000000 in
theorem check_looker_instr_ok {E : World} {H : FP} {w : World} {a2 : PLooker} {a11 : PInstr} {b1 : Nat} {o3 : Nat} {v5 : Value} {v7 : Value} {v9 : Value} {v12 : Value} {r : GErr} (h4 : CellsIn H b1 o3 [v5, .int .i64 a2.f.params, .int .i64 a2.f.result, v7, v9]) (h6 : SlI kFunc H a2.m.funcs v5) (h8 : SlI (kInt .i64) H a2.f.regs v7) (h10 : SlI kBlock H a2.f.blocks v9) (h13 : SlI (kInt .i64) H a11.args v12) (hp : check_looker_instr a2 a11 = some r) (hst : St E H [] w) :
    Fn Try.prog 105 #[.pointer (some ⟨b1, o3, none⟩), .agg #[.int .i64 a11.op, .int .i64 a11.dst, v12, .int .i64 a11.imm, .int .i64 a11.fn]] w fun v w' => ∃ A, check_looker_instr.R r v A ∧ St E H A w' := by
  refine Fn.body (fn := Try.f105) (args := [.pointer (some ⟨b1, o3, none⟩), .agg #[.int .i64 a11.op, .int .i64 a11.dst, v12, .int .i64 a11.imm, .int .i64 a11.fn]]) E H [] [.tmp 4] 82 Try.func105 rfl rfl rfl rfl (leb rfl) hst ?_
  unfold check_looker_instr at hp
  refine TC.seq fun K_1 hK_2 => ?_
  refine TC.region ?_
  refine TL.box (cs := [.int .i64 a11.op, .int .i64 a11.dst, v12, .int .i64 a11.imm, .int .i64 a11.fn]) (v := .agg #[.int .i64 a11.op, .int .i64 a11.dst, v12, .int .i64 a11.imm, .int .i64 a11.fn]) (ltb rfl) rfl rfl fun b14 => ?_
  refine TL.v (ltb rfl) (rv_as (v := .nilIface) rfl) ?_
  refine TL.nil ?_
  refine TC.go hK_2 ?_
  refine TC.seq fun K_3 hK_4 => ?_
  refine TC.region ?_
  refine TL.v (ltb rfl) (rv_mv (v := .pointer (some ⟨b1, o3, none⟩)) rfl) ?_
  refine TL.v (ltb rfl) (rv_lda (o := 0) (o' := 0) (j := 0) (ds := [.int .i64 a11.op, .int .i64 a11.dst, v12, .int .i64 a11.imm, .int .i64 a11.fn]) ag_87 rfl (Src.at_ 0 rfl) (bx_cells b14 87 _) rfl rfl rfl) ?_
  obtain ⟨x15, hy_5, hp⟩ := bind_some' hp
  refine TL.callC (vs := [.pointer (some ⟨b1, o3, none⟩), .agg #[.int .i64 a11.op, .int .i64 a11.dst, v12, .int .i64 a11.imm, .int .i64 a11.fn]]) (R := check_looker_arity.R x15) [] [bx b14 87 [.int .i64 a11.op, .int .i64 a11.dst, v12, .int .i64 a11.imm, .int .i64 a11.fn]] rfl cb_112 (ltb rfl) (mc rfl (mc rfl m0)) (fun w hw => check_looker_arity_ok (a2 := a2) (a11 := a11) (h4.mono subH) (h6.mono subH) (h8.mono subH) (h10.mono subH) (h13.mono subH) hy_5 hw) fun v A' hR_6 => ?_
  obtain ⟨v16, F17, rfl, rfl, h18⟩ := hR_6
  refine TL.norm (L' := [F17, bx b14 87 [.int .i64 a11.op, .int .i64 a11.dst, v12, .int .i64 a11.imm, .int .i64 a11.fn]]) rfl ?_
  refine TL.v (ltb rfl) (rv_mv (v := .tuple #[.int .i64 x15.1, .int .i64 x15.2.1, v16]) rfl) ?_
  refine TL.v (ltb rfl) (rv_extract (vs := #[.int .i64 x15.1, .int .i64 x15.2.1, v16]) (v := .int .i64 x15.1) rfl rfl) ?_
  refine TL.v (ltb rfl) (rv_extract (vs := #[.int .i64 x15.1, .int .i64 x15.2.1, v16]) (v := .int .i64 x15.2.1) rfl rfl) ?_
  refine TL.v (ltb rfl) (rv_extract (vs := #[.int .i64 x15.1, .int .i64 x15.2.1, v16]) (v := v16) rfl rfl) ?_
  refine TL.v (ltb rfl) (rv_as (v := .int .i64 x15.1) rfl) ?_
  refine TL.v (ltb rfl) (rv_as (v := .int .i64 x15.2.1) rfl) ?_
  refine TL.v (ltb rfl) (rv_as (v := v16) rfl) ?_
  refine TL.nil ?_
  refine TC.go hK_4 ?_
  refine TC.seq fun K_7 hK_8 => ?_
  refine TC.region ?_
  refine TL.v (ltb rfl) (rv_mv (v := .int .i64 x15.2.1) rfl) ?_
  refine TL.v (ltb rfl) (rv_eql (k := .i64) (m := x15.2.1) (n := 0) rfl rfl) ?_
  refine TL.v (ltb rfl) (rv_as (v := .bool (decide (x15.2.1 = 0))) rfl) ?_
  refine TL.nil ?_
  refine TC.go hK_8 ?_
  refine TC.seq fun K_9 hK_10 => ?_
  refine TC.block ?_
  refine TC.seq fun K_11 hK_12 => ?_
  refine TC.region ?_
  refine TL.v (ltb rfl) (rv_mv (v := v16) rfl) ?_
  refine TL.v (ltb rfl) (rv_neqEN ifc_49 h18 rfl) ?_
  refine TL.v (ltb rfl) (rv_as (v := .bool (decide (¬ x15.2.2 = GErr.no))) rfl) ?_
  refine TL.nil ?_
  refine TC.go hK_12 ?_
  by_cases hc_13 : ¬ x15.2.2 = GErr.no
  · rw [if_pos hc_13] at hp
    refine TC.condT (bT hc_13) ?_
    refine TC.seq fun K_14 hK_15 => ?_
    refine TC.region ?_
    refine TL.v (ltb rfl) (rv_mv (v := v16) rfl) ?_
    refine TL.v (ltb rfl) (rv_as (v := v16) rfl) ?_
    refine TL.nil ?_
    refine TC.go hK_15 ?_
    refine TC.ret ?_
    obtain rfl := Option.some.inj hp
    exact fun w hw => retOk ⟨v16, F17, rfl, rfl, h18⟩ (hw.pick [0])
  · rw [if_neg hc_13] at hp
    refine TC.condF (bF hc_13) ?_
    refine TC.seq fun K_16 hK_17 => ?_
    refine TC.region ?_
    refine TL.v (ltb rfl) (rv_fa (b := b14) (o := 0) fa_87_2 rfl) ?_
    refine TL.v (ltb rfl) (rv_ld (v := v12) (o := 2) (o' := 0) (j := 2) sc_22 rfl (Src.at_ 1 rfl) (bx_cells b14 87 _) rfl rfl) ?_
    refine TL.v (ltb rfl) (rv_lenI (v := v12) Try.underlying22 rfl h13) ?_
    refine TL.v (ltb rfl) (rv_mv (v := .int .i64 x15.1) rfl) ?_
    refine TL.v (ltb rfl) (rv_neq (k := .i64) (m := (len a11.args)) (n := x15.1) rfl rfl) ?_
    refine TL.v (ltb rfl) (rv_as (v := .bool (decide (¬ (len a11.args) = x15.1))) rfl) ?_
    refine TL.nil ?_
    refine TC.go hK_17 ?_
    by_cases hc_18 : ¬ (len a11.args) = x15.1
    · rw [if_pos hc_18] at hp
      refine TC.condT (bT hc_18) ?_
      refine TC.seq fun K_19 hK_20 => ?_
      refine TC.region ?_
      refine TL.v (ltb rfl) (rv_makeIface (v := .int .i64 6) Try.underlying72 (fun ms h => by cases h) rfl) ?_
      refine TL.v (ltb rfl) (rv_as (v := .iface 72 (.int .i64 6)) rfl) ?_
      refine TL.nil ?_
      refine TC.go hK_20 ?_
      refine TC.ret ?_
      refine W.new0 ?_
      obtain rfl := Option.some.inj hp
      exact fun w hw => retOk ⟨(.iface 72 (.int .i64 6)), ([] : FP), rfl, rfl, (ErO.mk _ : ErO 72 143 145 (GErr.code 6) (.iface 72 (.int .i64 6)) [])⟩ (hw.pick [0])
    · rw [if_neg hc_18] at hp
      refine TC.condF (bF hc_18) ?_
      refine TC.seq fun K_21 hK_22 => ?_
      refine TC.region ?_
      refine TL.v (ltb rfl) (rv_mv (v := .pointer (some ⟨b1, o3, none⟩)) rfl) ?_
      refine TL.v (ltb rfl) (rv_fa (b := b14) (o := 0) fa_87_2 rfl) ?_
      refine TL.v (ltb rfl) (rv_ld (v := v12) (o := 2) (o' := 0) (j := 2) sc_22 rfl (Src.at_ 1 rfl) (bx_cells b14 87 _) rfl rfl) ?_
      obtain ⟨x20, hy_23, hp⟩ := bind_some' hp
      refine TL.callC (vs := [.pointer (some ⟨b1, o3, none⟩), v12]) (R := check_looker_has.R x20) [] [F17, bx b14 87 [.int .i64 a11.op, .int .i64 a11.dst, v12, .int .i64 a11.imm, .int .i64 a11.fn]] rfl cb_110 (ltb rfl) (mc rfl (mc rfl m0)) (fun w hw => check_looker_has_ok (a2 := a2) (a11 := a11.args) (h4.mono subH) (h6.mono subH) (h8.mono subH) (h10.mono subH) (h13.mono subH) hy_23 hw) fun v A' hR_24 => ?_
      obtain ⟨rfl, rfl⟩ := hR_24
      refine TL.norm (L' := [F17, bx b14 87 [.int .i64 a11.op, .int .i64 a11.dst, v12, .int .i64 a11.imm, .int .i64 a11.fn]]) rfl ?_
      refine TL.v (ltb rfl) (rv_not (b := x20) rfl) ?_
      refine TL.v (ltb rfl) (rv_mv (v := .bool (!x20)) rfl) ?_
      obtain ⟨t21, ht_95, hp⟩ := bind_some' hp
      refine TL.cut 11 fun K_25 hK_26 => ?_
      have hJ_27 : ∀ e_29 : Env, e_29 0 = .pointer (some ⟨b1, o3, none⟩) → e_29 3 = .pointer (some ⟨b14, 0, none⟩) → e_29 8 = .bool (decide (x15.2.1 = 0)) → e_29 46 = .bool t21 → ∀ w, St E H [F17, bx b14 87 [.int .i64 a11.op, .int .i64 a11.dst, v12, .int .i64 a11.imm, .int .i64 a11.fn]] w → K_25 e_29 w := by
        intro e_29 h_30 h_31 h_32 h_33
        refine TL.go hK_26 ?_
        refine TL.v (ltb rfl) (rv_as (v := .bool t21) h_33) ?_
        refine TL.nil ?_
        refine TC.go hK_22 ?_
        by_cases hc_34 : t21 = true
        · rw [if_pos hc_34] at hp
          refine TC.condT (bbT hc_34) ?_
          refine TC.seq fun K_35 hK_36 => ?_
          refine TC.region ?_
          refine TL.v (ltb rfl) (rv_makeIface (v := .int .i64 4) Try.underlying72 (fun ms h => by cases h) rfl) ?_
          refine TL.v (ltb rfl) (rv_as (v := .iface 72 (.int .i64 4)) rfl) ?_
          refine TL.nil ?_
          refine TC.go hK_36 ?_
          refine TC.ret ?_
          refine W.new0 ?_
          obtain rfl := Option.some.inj hp
          exact fun w hw => retOk ⟨(.iface 72 (.int .i64 4)), ([] : FP), rfl, rfl, (ErO.mk _ : ErO 72 143 145 (GErr.code 4) (.iface 72 (.int .i64 4)) [])⟩ (hw.pick [0])
        · rw [if_neg hc_34] at hp
          refine TC.condF (bbF hc_34) ?_
          refine TC.seq fun K_37 hK_38 => ?_
          refine TC.region ?_
          refine TL.v (ltb rfl) (rv_mv (v := .bool (decide (x15.2.1 = 0))) h_32) ?_
          refine TL.v (ltb rfl) (rv_mv (v := .bool (decide (x15.2.1 = 0))) rfl) ?_
          refine TL.cut 4 fun K_39 hK_40 => ?_
          have hJ_41 : ∀ e_43 : Env, e_43 0 = .pointer (some ⟨b1, o3, none⟩) → e_43 3 = .pointer (some ⟨b14, 0, none⟩) → e_43 54 = .bool (decide (x15.2.1 = 0 ∧ (¬ a11.dst = -1))) → ∀ w, St E H [F17, bx b14 87 [.int .i64 a11.op, .int .i64 a11.dst, v12, .int .i64 a11.imm, .int .i64 a11.fn]] w → K_39 e_43 w := by
            intro e_43 h_44 h_45 h_46
            refine TL.go hK_40 ?_
            refine TL.v (ltb rfl) (rv_mv (v := .bool (decide (x15.2.1 = 0 ∧ (¬ a11.dst = -1)))) h_46) ?_
            refine TL.cut 9 fun K_47 hK_48 => ?_
            have hJ_49 : ∀ e_51 : Env, e_51 0 = .pointer (some ⟨b1, o3, none⟩) → e_51 3 = .pointer (some ⟨b14, 0, none⟩) → e_51 64 = .bool (decide ((x15.2.1 = 0 ∧ (¬ a11.dst = -1)) ∨ ((¬ a11.op = 1) ∧ (¬ a11.imm = 0)))) → ∀ w, St E H [F17, bx b14 87 [.int .i64 a11.op, .int .i64 a11.dst, v12, .int .i64 a11.imm, .int .i64 a11.fn]] w → K_47 e_51 w := by
              intro e_51 h_52 h_53 h_54
              refine TL.go hK_48 ?_
              refine TL.v (ltb rfl) (rv_mv (v := .bool (decide ((x15.2.1 = 0 ∧ (¬ a11.dst = -1)) ∨ ((¬ a11.op = 1) ∧ (¬ a11.imm = 0))))) h_54) ?_
              refine TL.cut 9 fun K_55 hK_56 => ?_
              have hJ_57 : ∀ e_59 : Env, e_59 0 = .pointer (some ⟨b1, o3, none⟩) → e_59 3 = .pointer (some ⟨b14, 0, none⟩) → e_59 74 = .bool (decide (((x15.2.1 = 0 ∧ (¬ a11.dst = -1)) ∨ ((¬ a11.op = 1) ∧ (¬ a11.imm = 0))) ∨ ((¬ a11.op = 17) ∧ (¬ a11.fn = 0)))) → ∀ w, St E H [F17, bx b14 87 [.int .i64 a11.op, .int .i64 a11.dst, v12, .int .i64 a11.imm, .int .i64 a11.fn]] w → K_55 e_59 w := by
                intro e_59 h_60 h_61 h_62
                refine TL.go hK_56 ?_
                refine TL.v (ltb rfl) (rv_mv (v := .bool (decide (((x15.2.1 = 0 ∧ (¬ a11.dst = -1)) ∨ ((¬ a11.op = 1) ∧ (¬ a11.imm = 0))) ∨ ((¬ a11.op = 17) ∧ (¬ a11.fn = 0))))) h_62) ?_
                obtain ⟨t23, ht_74, hp⟩ := bind_some' hp
                refine TL.cut 5 fun K_63 hK_64 => ?_
                have hJ_65 : ∀ e_67 : Env, e_67 80 = .bool t23 → ∀ w, St E H [F17, bx b14 87 [.int .i64 a11.op, .int .i64 a11.dst, v12, .int .i64 a11.imm, .int .i64 a11.fn]] w → K_63 e_67 w := by
                  intro e_67 h_68
                  refine TL.go hK_64 ?_
                  refine TL.v (ltb rfl) (rv_as (v := .bool t23) h_68) ?_
                  refine TL.nil ?_
                  refine TC.go hK_38 ?_
                  by_cases hc_69 : t23 = true
                  · rw [if_pos hc_69] at hp
                    refine TC.condT (bbT hc_69) ?_
                    refine TC.seq fun K_70 hK_71 => ?_
                    refine TC.region ?_
                    refine TL.v (ltb rfl) (rv_makeIface (v := .int .i64 3) Try.underlying72 (fun ms h => by cases h) rfl) ?_
                    refine TL.v (ltb rfl) (rv_as (v := .iface 72 (.int .i64 3)) rfl) ?_
                    refine TL.nil ?_
                    refine TC.go hK_71 ?_
                    refine TC.ret ?_
                    refine W.new0 ?_
                    obtain rfl := Option.some.inj hp
                    exact fun w hw => retOk ⟨(.iface 72 (.int .i64 3)), ([] : FP), rfl, rfl, (ErO.mk _ : ErO 72 143 145 (GErr.code 3) (.iface 72 (.int .i64 3)) [])⟩ (hw.pick [0])
                  · rw [if_neg hc_69] at hp
                    refine TC.condF (bbF hc_69) ?_
                    refine TC.skip ?_
                    refine TC.go hK_10 ?_
                    refine TC.seq fun K_72 hK_73 => ?_
                    refine TC.region ?_
                    refine TL.v (ltb rfl) (rv_as (v := .nilIface) rfl) ?_
                    refine TL.nil ?_
                    refine TC.go hK_73 ?_
                    refine TC.ret ?_
                    refine W.new0 ?_
                    obtain rfl := Option.some.inj hp
                    exact fun w hw => retOk ⟨.nilIface, ([] : FP), rfl, rfl, (ErO.nil : ErO 72 143 145 GErr.no .nilIface [])⟩ (hw.pick [0])
                clear hp
                have hp := ht_74
                clear ht_74
                by_cases hc_66 : ((x15.2.1 = 0 ∧ (¬ a11.dst = -1)) ∨ ((¬ a11.op = 1) ∧ (¬ a11.imm = 0))) ∨ ((¬ a11.op = 17) ∧ (¬ a11.fn = 0))
                · rw [if_pos hc_66] at hp
                  refine TL.gno true rfl (fun d hd => by cases hd; exact ltb rfl) (yieldE_of rfl (bT hc_66)) rfl ?_
                  refine TL.gno true rfl (fun d hd => by cases hd; exact ltb rfl) (yieldE_of rfl (bT hc_66)) rfl ?_
                  refine TL.gno true rfl (fun d hd => by cases hd; exact ltb rfl) (yieldE_of rfl (bT hc_66)) rfl ?_
                  refine TL.gno true rfl (fun d hd => by cases hd; exact ltb rfl) (yieldE_of rfl (bT hc_66)) rfl ?_
                  refine TL.v (ltb rfl) (rv_pickT true (bT hc_66) rfl (v := .bool true) rfl) ?_
                  obtain rfl := Option.some.inj hp
                  refine TL.nil (hJ_65 _ ?_)
                  · exact rfl
                · rw [if_neg hc_66] at hp
                  refine TL.gyes false (yieldE_of rfl (bF hc_66)) rfl ?_
                  refine TL.v (ltb rfl) (rv_mv (v := .pointer (some ⟨b1, o3, none⟩)) h_60) ?_
                  refine TL.gyes false (yieldE_of rfl (bF hc_66)) rfl ?_
                  refine TL.v (ltb rfl) (rv_lda (o := 0) (o' := 0) (j := 0) (ds := [.int .i64 a11.op, .int .i64 a11.dst, v12, .int .i64 a11.imm, .int .i64 a11.fn]) ag_87 h_61 (Src.at_ 1 rfl) (bx_cells b14 87 _) rfl rfl rfl) ?_
                  refine TL.gyes false (yieldE_of rfl (bF hc_66)) rfl ?_
                  obtain ⟨x26, hy_75, hp⟩ := bind_some' hp
                  refine TL.callC (vs := [.pointer (some ⟨b1, o3, none⟩), .agg #[.int .i64 a11.op, .int .i64 a11.dst, v12, .int .i64 a11.imm, .int .i64 a11.fn]]) (R := check_looker_fits.R x26) [] [F17, bx b14 87 [.int .i64 a11.op, .int .i64 a11.dst, v12, .int .i64 a11.imm, .int .i64 a11.fn]] rfl cb_113 (ltb rfl) (mc rfl (mc rfl m0)) (fun w hw => check_looker_fits_ok (a2 := a2) (a11 := a11) (h4.mono subH) (h6.mono subH) (h8.mono subH) (h10.mono subH) (h13.mono subH) hy_75 hw) fun v A' hR_76 => ?_
                  obtain ⟨rfl, rfl⟩ := hR_76
                  refine TL.norm (L' := [F17, bx b14 87 [.int .i64 a11.op, .int .i64 a11.dst, v12, .int .i64 a11.imm, .int .i64 a11.fn]]) rfl ?_
                  refine TL.gyes false (yieldE_of rfl (bF hc_66)) rfl ?_
                  refine TL.v (ltb rfl) (rv_not (b := x26) rfl) ?_
                  refine TL.v (ltb rfl) (rv_pickF false (bF hc_66) rfl (v := .bool (!x26)) rfl) ?_
                  obtain rfl := Option.some.inj hp
                  refine TL.nil (hJ_65 _ ?_)
                  · exact rfl
              by_cases hc_58 : (x15.2.1 = 0 ∧ (¬ a11.dst = -1)) ∨ ((¬ a11.op = 1) ∧ (¬ a11.imm = 0))
              · refine TL.gno true rfl (fun d hd => by cases hd; exact ltb rfl) (yieldE_of rfl (bT hc_58)) rfl ?_
                refine TL.gno true rfl (fun d hd => by cases hd; exact ltb rfl) (yieldE_of rfl (bT hc_58)) rfl ?_
                refine TL.gno true rfl (fun d hd => by cases hd; exact ltb rfl) (yieldE_of rfl (bT hc_58)) rfl ?_
                refine TL.gno true rfl (fun d hd => by cases hd; exact ltb rfl) (yieldE_of rfl (bT hc_58)) rfl ?_
                refine TL.gnon rfl (fun d hd => by cases hd; exact ltb rfl) (yieldE_un rfl rfl) ?_
                refine TL.gnon rfl (fun d hd => by cases hd; exact ltb rfl) (yieldE_un rfl rfl) ?_
                refine TL.gnon rfl (fun d hd => by cases hd; exact ltb rfl) (yieldE_un rfl rfl) ?_
                refine TL.gno true rfl (fun d hd => by cases hd; exact ltb rfl) (yieldE_of rfl (bT hc_58)) rfl ?_
                refine TL.v (ltb rfl) (rv_pickT true (bT hc_58) rfl (v := .bool true) rfl) ?_
                refine TL.nil (hJ_57 _ ?_ ?_ ?_)
                · exact h_52
                · exact h_53
                · exact (bOt hc_58)
              · refine TL.gyes false (yieldE_of rfl (bF hc_58)) rfl ?_
                refine TL.v (ltb rfl) (rv_fa (b := b14) (o := 0) fa_87_0 h_53) ?_
                refine TL.gyes false (yieldE_of rfl (bF hc_58)) rfl ?_
                refine TL.v (ltb rfl) (rv_ld (v := .int .i64 a11.op) (o := 0) (o' := 0) (j := 0) sc_3 rfl (Src.at_ 1 rfl) (bx_cells b14 87 _) rfl rfl) ?_
                refine TL.gyes false (yieldE_of rfl (bF hc_58)) rfl ?_
                refine TL.v (ltb rfl) (rv_neq (k := .i64) (m := a11.op) (n := 17) rfl rfl) ?_
                refine TL.gyes false (yieldE_of rfl (bF hc_58)) rfl ?_
                refine TL.v (ltb rfl) (rv_mv (v := .bool (decide (¬ a11.op = 17))) rfl) ?_
                refine TL.cut 4 fun K_77 hK_78 => ?_
                have hJ_79 : ∀ e_81 : Env, e_81 0 = .pointer (some ⟨b1, o3, none⟩) → e_81 3 = .pointer (some ⟨b14, 0, none⟩) → e_81 65 = .bool (decide ((x15.2.1 = 0 ∧ (¬ a11.dst = -1)) ∨ ((¬ a11.op = 1) ∧ (¬ a11.imm = 0)))) → e_81 73 = .bool (decide ((¬ a11.op = 17) ∧ (¬ a11.fn = 0))) → ∀ w, St E H [F17, bx b14 87 [.int .i64 a11.op, .int .i64 a11.dst, v12, .int .i64 a11.imm, .int .i64 a11.fn]] w → K_77 e_81 w := by
                  intro e_81 h_82 h_83 h_84 h_85
                  refine TL.go hK_78 ?_
                  refine TL.v (ltb rfl) (rv_pickF false (h_84.trans (bF hc_58)) rfl (v := .bool (decide ((¬ a11.op = 17) ∧ (¬ a11.fn = 0)))) h_85) ?_
                  refine TL.nil (hJ_57 _ ?_ ?_ ?_)
                  · exact h_82
                  · exact h_83
                  · exact (bOf hc_58)
                by_cases hc_80 : ¬ a11.op = 17
                · refine TL.gyes true (yieldE_of rfl (bT hc_80)) rfl ?_
                  refine TL.v (ltb rfl) (rv_fa (b := b14) (o := 0) fa_87_4 h_53) ?_
                  refine TL.gyes true (yieldE_of rfl (bT hc_80)) rfl ?_
                  refine TL.v (ltb rfl) (rv_ld (v := .int .i64 a11.fn) (o := 4) (o' := 0) (j := 4) sc_3 rfl (Src.at_ 1 rfl) (bx_cells b14 87 _) rfl rfl) ?_
                  refine TL.gyes true (yieldE_of rfl (bT hc_80)) rfl ?_
                  refine TL.v (ltb rfl) (rv_neq (k := .i64) (m := a11.fn) (n := 0) rfl rfl) ?_
                  refine TL.gyes false (yieldE_of rfl (bF hc_58)) rfl ?_
                  refine TL.v (ltb rfl) (rv_pickT true (bT hc_80) rfl (v := .bool (decide (¬ a11.fn = 0))) rfl) ?_
                  refine TL.nil (hJ_79 _ ?_ ?_ ?_ ?_)
                  · exact h_52
                  · exact h_53
                  · exact rfl
                  · exact (bAt hc_80)
                · refine TL.gno false rfl (fun d hd => by cases hd; exact ltb rfl) (yieldE_of rfl (bF hc_80)) rfl ?_
                  refine TL.gno false rfl (fun d hd => by cases hd; exact ltb rfl) (yieldE_of rfl (bF hc_80)) rfl ?_
                  refine TL.gno false rfl (fun d hd => by cases hd; exact ltb rfl) (yieldE_of rfl (bF hc_80)) rfl ?_
                  refine TL.gyes false (yieldE_of rfl (bF hc_58)) rfl ?_
                  refine TL.v (ltb rfl) (rv_pickF false (bF hc_80) rfl (v := .bool false) rfl) ?_
                  refine TL.nil (hJ_79 _ ?_ ?_ ?_ ?_)
                  · exact h_52
                  · exact h_53
                  · exact rfl
                  · exact (bAf hc_80)
            by_cases hc_50 : x15.2.1 = 0 ∧ (¬ a11.dst = -1)
            · refine TL.gno true rfl (fun d hd => by cases hd; exact ltb rfl) (yieldE_of rfl (bT hc_50)) rfl ?_
              refine TL.gno true rfl (fun d hd => by cases hd; exact ltb rfl) (yieldE_of rfl (bT hc_50)) rfl ?_
              refine TL.gno true rfl (fun d hd => by cases hd; exact ltb rfl) (yieldE_of rfl (bT hc_50)) rfl ?_
              refine TL.gno true rfl (fun d hd => by cases hd; exact ltb rfl) (yieldE_of rfl (bT hc_50)) rfl ?_
              refine TL.gnon rfl (fun d hd => by cases hd; exact ltb rfl) (yieldE_un rfl rfl) ?_
              refine TL.gnon rfl (fun d hd => by cases hd; exact ltb rfl) (yieldE_un rfl rfl) ?_
              refine TL.gnon rfl (fun d hd => by cases hd; exact ltb rfl) (yieldE_un rfl rfl) ?_
              refine TL.gno true rfl (fun d hd => by cases hd; exact ltb rfl) (yieldE_of rfl (bT hc_50)) rfl ?_
              refine TL.v (ltb rfl) (rv_pickT true (bT hc_50) rfl (v := .bool true) rfl) ?_
              refine TL.nil (hJ_49 _ ?_ ?_ ?_)
              · exact h_44
              · exact h_45
              · exact (bOt hc_50)
            · refine TL.gyes false (yieldE_of rfl (bF hc_50)) rfl ?_
              refine TL.v (ltb rfl) (rv_fa (b := b14) (o := 0) fa_87_0 h_45) ?_
              refine TL.gyes false (yieldE_of rfl (bF hc_50)) rfl ?_
              refine TL.v (ltb rfl) (rv_ld (v := .int .i64 a11.op) (o := 0) (o' := 0) (j := 0) sc_3 rfl (Src.at_ 1 rfl) (bx_cells b14 87 _) rfl rfl) ?_
              refine TL.gyes false (yieldE_of rfl (bF hc_50)) rfl ?_
              refine TL.v (ltb rfl) (rv_neq (k := .i64) (m := a11.op) (n := 1) rfl rfl) ?_
              refine TL.gyes false (yieldE_of rfl (bF hc_50)) rfl ?_
              refine TL.v (ltb rfl) (rv_mv (v := .bool (decide (¬ a11.op = 1))) rfl) ?_
              refine TL.cut 4 fun K_86 hK_87 => ?_
              have hJ_88 : ∀ e_90 : Env, e_90 0 = .pointer (some ⟨b1, o3, none⟩) → e_90 3 = .pointer (some ⟨b14, 0, none⟩) → e_90 55 = .bool (decide (x15.2.1 = 0 ∧ (¬ a11.dst = -1))) → e_90 63 = .bool (decide ((¬ a11.op = 1) ∧ (¬ a11.imm = 0))) → ∀ w, St E H [F17, bx b14 87 [.int .i64 a11.op, .int .i64 a11.dst, v12, .int .i64 a11.imm, .int .i64 a11.fn]] w → K_86 e_90 w := by
                intro e_90 h_91 h_92 h_93 h_94
                refine TL.go hK_87 ?_
                refine TL.v (ltb rfl) (rv_pickF false (h_93.trans (bF hc_50)) rfl (v := .bool (decide ((¬ a11.op = 1) ∧ (¬ a11.imm = 0)))) h_94) ?_
                refine TL.nil (hJ_49 _ ?_ ?_ ?_)
                · exact h_91
                · exact h_92
                · exact (bOf hc_50)
              by_cases hc_89 : ¬ a11.op = 1
              · refine TL.gyes true (yieldE_of rfl (bT hc_89)) rfl ?_
                refine TL.v (ltb rfl) (rv_fa (b := b14) (o := 0) fa_87_3 h_45) ?_
                refine TL.gyes true (yieldE_of rfl (bT hc_89)) rfl ?_
                refine TL.v (ltb rfl) (rv_ld (v := .int .i64 a11.imm) (o := 3) (o' := 0) (j := 3) sc_2 rfl (Src.at_ 1 rfl) (bx_cells b14 87 _) rfl rfl) ?_
                refine TL.gyes true (yieldE_of rfl (bT hc_89)) rfl ?_
                refine TL.v (ltb rfl) (rv_neq (k := .i64) (m := a11.imm) (n := 0) rfl rfl) ?_
                refine TL.gyes false (yieldE_of rfl (bF hc_50)) rfl ?_
                refine TL.v (ltb rfl) (rv_pickT true (bT hc_89) rfl (v := .bool (decide (¬ a11.imm = 0))) rfl) ?_
                refine TL.nil (hJ_88 _ ?_ ?_ ?_ ?_)
                · exact h_44
                · exact h_45
                · exact rfl
                · exact (bAt hc_89)
              · refine TL.gno false rfl (fun d hd => by cases hd; exact ltb rfl) (yieldE_of rfl (bF hc_89)) rfl ?_
                refine TL.gno false rfl (fun d hd => by cases hd; exact ltb rfl) (yieldE_of rfl (bF hc_89)) rfl ?_
                refine TL.gno false rfl (fun d hd => by cases hd; exact ltb rfl) (yieldE_of rfl (bF hc_89)) rfl ?_
                refine TL.gyes false (yieldE_of rfl (bF hc_50)) rfl ?_
                refine TL.v (ltb rfl) (rv_pickF false (bF hc_89) rfl (v := .bool false) rfl) ?_
                refine TL.nil (hJ_88 _ ?_ ?_ ?_ ?_)
                · exact h_44
                · exact h_45
                · exact rfl
                · exact (bAf hc_89)
          by_cases hc_42 : x15.2.1 = 0
          · refine TL.gyes true (yieldE_of rfl (bT hc_42)) rfl ?_
            refine TL.v (ltb rfl) (rv_fa (b := b14) (o := 0) fa_87_1 h_31) ?_
            refine TL.gyes true (yieldE_of rfl (bT hc_42)) rfl ?_
            refine TL.v (ltb rfl) (rv_ld (v := .int .i64 a11.dst) (o := 1) (o' := 0) (j := 1) sc_3 rfl (Src.at_ 1 rfl) (bx_cells b14 87 _) rfl rfl) ?_
            refine TL.gyes true (yieldE_of rfl (bT hc_42)) rfl ?_
            refine TL.v (ltb rfl) (rv_neq (k := .i64) (m := a11.dst) (n := -1) rfl rfl) ?_
            refine TL.v (ltb rfl) (rv_pickT true (bT hc_42) rfl (v := .bool (decide (¬ a11.dst = -1))) rfl) ?_
            refine TL.nil (hJ_41 _ ?_ ?_ ?_)
            · exact h_30
            · exact h_31
            · exact (bAt hc_42)
          · refine TL.gno false rfl (fun d hd => by cases hd; exact ltb rfl) (yieldE_of rfl (bF hc_42)) rfl ?_
            refine TL.gno false rfl (fun d hd => by cases hd; exact ltb rfl) (yieldE_of rfl (bF hc_42)) rfl ?_
            refine TL.gno false rfl (fun d hd => by cases hd; exact ltb rfl) (yieldE_of rfl (bF hc_42)) rfl ?_
            refine TL.v (ltb rfl) (rv_pickF false (bF hc_42) rfl (v := .bool false) rfl) ?_
            refine TL.nil (hJ_41 _ ?_ ?_ ?_)
            · exact h_30
            · exact h_31
            · exact (bAf hc_42)
      clear hp
      have hp := ht_95
      clear ht_95
      by_cases hc_28 : (!x20) = true
      · rw [if_pos hc_28] at hp
        refine TL.gno true rfl (fun d hd => by cases hd; exact ltb rfl) (yieldE_of rfl (bbT hc_28)) rfl ?_
        refine TL.gno true rfl (fun d hd => by cases hd; exact ltb rfl) (yieldE_of rfl (bbT hc_28)) rfl ?_
        refine TL.gno true rfl (fun d hd => by cases hd; exact ltb rfl) (yieldE_of rfl (bbT hc_28)) rfl ?_
        refine TL.gnon rfl (fun d hd => by cases hd; exact ltb rfl) (yieldE_un rfl rfl) ?_
        refine TL.gnon rfl (fun d hd => by cases hd; exact ltb rfl) (yieldE_un rfl rfl) ?_
        refine TL.gnon rfl (fun d hd => by cases hd; exact ltb rfl) (yieldE_un rfl rfl) ?_
        refine TL.gnon rfl (fun d hd => by cases hd; exact ltb rfl) (yieldE_un rfl rfl) ?_
        refine TL.gnon rfl (fun d hd => by cases hd; exact ltb rfl) (yieldE_un rfl rfl) ?_
        refine TL.gnon rfl (fun d hd => by cases hd; exact ltb rfl) (yieldE_un rfl rfl) ?_
        refine TL.gno true rfl (fun d hd => by cases hd; exact ltb rfl) (yieldE_of rfl (bbT hc_28)) rfl ?_
        refine TL.v (ltb rfl) (rv_pickT true (bbT hc_28) rfl (v := .bool true) rfl) ?_
        obtain rfl := Option.some.inj hp
        refine TL.nil (hJ_27 _ ?_ ?_ ?_ ?_)
        · exact rfl
        · exact rfl
        · exact rfl
        · exact rfl
      · rw [if_neg hc_28] at hp
        refine TL.gyes false (yieldE_of rfl (bbF hc_28)) rfl ?_
        refine TL.v (ltb rfl) (rv_mv (v := .bool (decide (x15.2.1 = 0))) rfl) ?_
        refine TL.gyes false (yieldE_of rfl (bbF hc_28)) rfl ?_
        refine TL.v (ltb rfl) (rv_notD (p := x15.2.1 = 0) rfl) ?_
        refine TL.gyes false (yieldE_of rfl (bbF hc_28)) rfl ?_
        refine TL.v (ltb rfl) (rv_mv (v := .bool (decide (¬ (x15.2.1 = 0)))) rfl) ?_
        obtain ⟨t27, ht_106, hp⟩ := bind_some' hp
        refine TL.cut 7 fun K_96 hK_97 => ?_
        have hJ_98 : ∀ e_100 : Env, e_100 0 = .pointer (some ⟨b1, o3, none⟩) → e_100 3 = .pointer (some ⟨b14, 0, none⟩) → e_100 8 = .bool (decide (x15.2.1 = 0)) → e_100 35 = .bool (!x20) → e_100 45 = .bool t27 → ∀ w, St E H [F17, bx b14 87 [.int .i64 a11.op, .int .i64 a11.dst, v12, .int .i64 a11.imm, .int .i64 a11.fn]] w → K_96 e_100 w := by
          intro e_100 h_101 h_102 h_103 h_104 h_105
          refine TL.go hK_97 ?_
          refine TL.v (ltb rfl) (rv_pickF false (h_104.trans (bbF hc_28)) rfl (v := .bool t27) h_105) ?_
          obtain rfl := Option.some.inj hp
          refine TL.nil (hJ_27 _ ?_ ?_ ?_ ?_)
          · exact h_101
          · exact h_102
          · exact h_103
          · exact rfl
        clear hp
        have hp := ht_106
        clear ht_106
        by_cases hc_99 : ¬ (x15.2.1 = 0)
        · rw [if_pos hc_99] at hp
          refine TL.gyes true (yieldE_of rfl (bT hc_99)) rfl ?_
          refine TL.v (ltb rfl) (rv_mv (v := .pointer (some ⟨b1, o3, none⟩)) rfl) ?_
          refine TL.gyes true (yieldE_of rfl (bT hc_99)) rfl ?_
          refine TL.v (ltb rfl) (rv_fa (b := b14) (o := 0) fa_87_1 rfl) ?_
          refine TL.gyes true (yieldE_of rfl (bT hc_99)) rfl ?_
          refine TL.v (ltb rfl) (rv_ld (v := .int .i64 a11.dst) (o := 1) (o' := 0) (j := 1) sc_3 rfl (Src.at_ 1 rfl) (bx_cells b14 87 _) rfl rfl) ?_
          refine TL.gyes true (yieldE_of rfl (bT hc_99)) rfl ?_
          refine TL.bv (vs := [(0, .int .i64 a11.dst)]) (cs := [.int .i64 a11.dst]) (pc rfl p0) Try.underlying22 inf_3 (ltb rfl) (by decide) (by decide) (by kernel_rfl) fun b28 => ?_
          refine TL.gyes true (yieldE_of rfl (bT hc_99)) rfl ?_
          refine TL.perm (L' := [bx b28 3 [.int .i64 a11.dst], [], F17, bx b14 87 [.int .i64 a11.op, .int .i64 a11.dst, v12, .int .i64 a11.imm, .int .i64 a11.fn]]) (by simp) ?_
          refine TL.litOwn (n := 1) (xs := [a11.dst]) (RepL.to (RepL.cons (k := (kInt .i64)) (x := a11.dst) ⟨rfl, rfl⟩ RepL.nil) rfl) rfl rfl (ltb rfl) fun F29 h30 => ?_
          obtain ⟨x31, hy_107, hp⟩ := bind_some' hp
          refine TL.callC (vs := [.pointer (some ⟨b1, o3, none⟩), (.slice (some ⟨b28, 0, none⟩) 1 1)]) (R := check_looker_has.R x31) [] [F29, F17, bx b14 87 [.int .i64 a11.op, .int .i64 a11.dst, v12, .int .i64 a11.imm, .int .i64 a11.fn]] rfl cb_110 (ltb rfl) (mc rfl (mc rfl m0)) (fun w hw => check_looker_has_ok (a2 := a2) (a11 := [a11.dst]) (h4.mono subH) (h6.mono subH) (h8.mono subH) (h10.mono subH) (h30.ro.mono (subB 0 rfl)) hy_107 hw) fun v A' hR_108 => ?_
          obtain ⟨rfl, rfl⟩ := hR_108
          refine TL.norm (L' := [F29, F17, bx b14 87 [.int .i64 a11.op, .int .i64 a11.dst, v12, .int .i64 a11.imm, .int .i64 a11.fn]]) rfl ?_
          refine TL.gyes true (yieldE_of rfl (bT hc_99)) rfl ?_
          refine TL.v (ltb rfl) (rv_not (b := x31) rfl) ?_
          refine TL.gyes false (yieldE_of rfl (bbF hc_28)) rfl ?_
          refine TL.v (ltb rfl) (rv_pickT true (bT hc_99) rfl (v := .bool (!x31)) rfl) ?_
          refine TL.pk' [1, 1] (L' := [F17, bx b14 87 [.int .i64 a11.op, .int .i64 a11.dst, v12, .int .i64 a11.imm, .int .i64 a11.fn]]) rfl ?_
          obtain rfl := Option.some.inj hp
          refine TL.nil (hJ_98 _ ?_ ?_ ?_ ?_ ?_)
          · exact rfl
          · exact rfl
          · exact rfl
          · exact rfl
          · exact rfl
        · rw [if_neg hc_99] at hp
          refine TL.gno false rfl (fun d hd => by cases hd; exact ltb rfl) (yieldE_of rfl (bF hc_99)) rfl ?_
          refine TL.gno false rfl (fun d hd => by cases hd; exact ltb rfl) (yieldE_of rfl (bF hc_99)) rfl ?_
          refine TL.gno false rfl (fun d hd => by cases hd; exact ltb rfl) (yieldE_of rfl (bF hc_99)) rfl ?_
          refine TL.gno false rfl (fun d hd => by cases hd; exact ltb rfl) (yieldE_of rfl (bF hc_99)) rfl ?_
          refine TL.gno false rfl (fun d hd => by cases hd; exact ltb rfl) (yieldE_of rfl (bF hc_99)) rfl ?_
          refine TL.gno false rfl (fun d hd => by cases hd; exact ltb rfl) (yieldE_of rfl (bF hc_99)) rfl ?_
          refine TL.gyes false (yieldE_of rfl (bbF hc_28)) rfl ?_
          refine TL.v (ltb rfl) (rv_pickF false (bF hc_99) rfl (v := .bool false) rfl) ?_
          obtain rfl := Option.some.inj hp
          refine TL.nil (hJ_98 _ ?_ ?_ ?_ ?_ ?_)
          · exact rfl
          · exact rfl
          · exact rfl
          · exact rfl
          · exact rfl

/-! ### (*fettle/check.looker).end -/
abbrev check_looker_end.R (r : GErr) (v : Value) (A : List FP) : Prop := ∃ (w1 : Value) (G1 : FP), w1 = v ∧ A = [G1] ∧ ErO 72 143 145 r w1 G1
def check_looker_end.jn33 (a2 : PLooker) (a11 : PTerm) (x17 : Int) : Option GErr :=
  (check_looker_has a2 ([a11.arg])).bind fun x21 =>
  if (!x21) = true then
    some (GErr.code 4)
  else
    (check_looker_are a2 x17 ([a11.arg])).bind fun x26 =>
    if (!x26) = true then
      some (GErr.code 3)
    else
      some GErr.no
def check_looker_end (a2 : PLooker) (a11 : PTerm) : Option GErr :=
  if a11.kind = 1 ∨ (a11.kind = 3 ∧ a2.f.result = 0) then
    if ¬ a11.arg = -1 then
      some (GErr.code 3)
    else
      some GErr.no
  else
    if a11.kind = 3 then
      check_looker_end.jn33 a2 a11 a2.f.result
    else
      check_looker_end.jn33 a2 a11 2
theorem check_looker_end_ok {E : World} {H : FP} {w : World} {a2 : PLooker} {a11 : PTerm} {b1 : Nat} {o3 : Nat} {v5 : Value} {v7 : Value} {v9 : Value} {v12 : Value} {r : GErr} (h4 : CellsIn H b1 o3 [v5, .int .i64 a2.f.params, .int .i64 a2.f.result, v7, v9]) (h6 : SlI kFunc H a2.m.funcs v5) (h8 : SlI (kInt .i64) H a2.f.regs v7) (h10 : SlI kBlock H a2.f.blocks v9) (h13 : SlI (kInt .i64) H a11.to v12) (hp : check_looker_end a2 a11 = some r) (hst : St E H [] w) :
    Fn Try.prog 106 #[.pointer (some ⟨b1, o3, none⟩), .agg #[.int .i64 a11.kind, .int .i64 a11.arg, v12]] w fun v w' => ∃ A, check_looker_end.R r v A ∧ St E H A w' := by
  refine Fn.body (fn := Try.f106) (args := [.pointer (some ⟨b1, o3, none⟩), .agg #[.int .i64 a11.kind, .int .i64 a11.arg, v12]]) E H [] [.tmp 4] 51 Try.func106 rfl rfl rfl rfl (leb rfl) hst ?_
  unfold check_looker_end at hp
  refine TC.seq fun K_1 hK_2 => ?_
  refine TC.region ?_
  refine TL.box (cs := [.int .i64 a11.kind, .int .i64 a11.arg, v12]) (v := .agg #[.int .i64 a11.kind, .int .i64 a11.arg, v12]) (ltb rfl) rfl rfl fun b14 => ?_
  refine TL.v (ltb rfl) (rv_as (v := .nilIface) rfl) ?_
  refine TL.nil ?_
  refine TC.go hK_2 ?_
  refine TC.seq fun K_3 hK_4 => ?_
  refine TC.seq fun K_5 hK_6 => ?_
  refine TC.region ?_
  refine TL.v (ltb rfl) (rv_fa (b := b14) (o := 0) fa_81_0 rfl) ?_
  refine TL.v (ltb rfl) (rv_ld (v := .int .i64 a11.kind) (o := 0) (o' := 0) (j := 0) sc_3 rfl (Src.at_ 0 rfl) (bx_cells b14 81 _) rfl rfl) ?_
  refine TL.v (ltb rfl) (rv_eql (k := .i64) (m := a11.kind) (n := 1) rfl rfl) ?_
  refine TL.v (ltb rfl) (rv_mv (v := .bool (decide (a11.kind = 1))) rfl) ?_
  refine TL.cut 12 fun K_7 hK_8 => ?_
  have hJ_9 : ∀ e_11 : Env, e_11 0 = .pointer (some ⟨b1, o3, none⟩) → e_11 3 = .pointer (some ⟨b14, 0, none⟩) → e_11 21 = .bool (decide (a11.kind = 1 ∨ (a11.kind = 3 ∧ a2.f.result = 0))) → ∀ w, St E H [bx b14 81 [.int .i64 a11.kind, .int .i64 a11.arg, v12]] w → K_7 e_11 w := by
    intro e_11 h_12 h_13 h_14
    refine TL.go hK_8 ?_
    refine TL.nil ?_
    refine TC.go hK_6 ?_
    by_cases hc_15 : a11.kind = 1 ∨ (a11.kind = 3 ∧ a2.f.result = 0)
    · rw [if_pos hc_15] at hp
      refine TC.condT (h_14.trans (bT hc_15)) ?_
      refine TC.seq fun K_16 hK_17 => ?_
      refine TC.seq fun K_18 hK_19 => ?_
      refine TC.region ?_
      refine TL.v (ltb rfl) (rv_fa (b := b14) (o := 0) fa_81_1 h_13) ?_
      refine TL.v (ltb rfl) (rv_ld (v := .int .i64 a11.arg) (o := 1) (o' := 0) (j := 1) sc_3 rfl (Src.at_ 0 rfl) (bx_cells b14 81 _) rfl rfl) ?_
      refine TL.v (ltb rfl) (rv_neq (k := .i64) (m := a11.arg) (n := -1) rfl rfl) ?_
      refine TL.nil ?_
      refine TC.go hK_19 ?_
      by_cases hc_20 : ¬ a11.arg = -1
      · rw [if_pos hc_20] at hp
        refine TC.condT (bT hc_20) ?_
        refine TC.seq fun K_21 hK_22 => ?_
        refine TC.region ?_
        refine TL.v (ltb rfl) (rv_makeIface (v := .int .i64 3) Try.underlying72 (fun ms h => by cases h) rfl) ?_
        refine TL.v (ltb rfl) (rv_as (v := .iface 72 (.int .i64 3)) rfl) ?_
        refine TL.nil ?_
        refine TC.go hK_22 ?_
        refine TC.ret ?_
        refine W.new0 ?_
        obtain rfl := Option.some.inj hp
        exact fun w hw => retOk ⟨(.iface 72 (.int .i64 3)), ([] : FP), rfl, rfl, (ErO.mk _ : ErO 72 143 145 (GErr.code 3) (.iface 72 (.int .i64 3)) [])⟩ (hw.pick [0])
      · rw [if_neg hc_20] at hp
        refine TC.condF (bF hc_20) ?_
        refine TC.skip ?_
        refine TC.go hK_17 ?_
        refine TC.seq fun K_23 hK_24 => ?_
        refine TC.region ?_
        refine TL.v (ltb rfl) (rv_as (v := .nilIface) rfl) ?_
        refine TL.nil ?_
        refine TC.go hK_24 ?_
        refine TC.ret ?_
        refine W.new0 ?_
        obtain rfl := Option.some.inj hp
        exact fun w hw => retOk ⟨.nilIface, ([] : FP), rfl, rfl, (ErO.nil : ErO 72 143 145 GErr.no .nilIface [])⟩ (hw.pick [0])
    · rw [if_neg hc_15] at hp
      refine TC.condF (h_14.trans (bF hc_15)) ?_
      refine TC.skip ?_
      refine TC.go hK_4 ?_
      refine TC.seq fun K_25 hK_26 => ?_
      refine TC.region ?_
      refine TL.v (ltb rfl) (rv_as (v := .int .i64 2) rfl) ?_
      refine TL.nil ?_
      refine TC.go hK_26 ?_
      refine TC.seq fun K_27 hK_28 => ?_
      have hJ_33 : ∀ (x17 : Int) (e_29 : Env) (h_30 : e_29 0 = .pointer (some ⟨b1, o3, none⟩)) (h_31 : e_29 3 = .pointer (some ⟨b14, 0, none⟩)) (h_32 : e_29 5 = .int .i64 x17) (hp : check_looker_end.jn33 a2 a11 x17 = some r), ∀ w, St E H [bx b14 81 [.int .i64 a11.kind, .int .i64 a11.arg, v12]] w → K_27 e_29 w := by
        intro x17 e_29 h_30 h_31 h_32 hp
        unfold check_looker_end.jn33 at hp
        refine TC.go hK_28 ?_
        refine TC.seq fun K_34 hK_35 => ?_
        refine TC.block ?_
        refine TC.seq fun K_36 hK_37 => ?_
        refine TC.region ?_
        refine TL.v (ltb rfl) (rv_mv (v := .pointer (some ⟨b1, o3, none⟩)) h_30) ?_
        refine TL.v (ltb rfl) (rv_fa (b := b14) (o := 0) fa_81_1 h_31) ?_
        refine TL.v (ltb rfl) (rv_ld (v := .int .i64 a11.arg) (o := 1) (o' := 0) (j := 1) sc_3 rfl (Src.at_ 0 rfl) (bx_cells b14 81 _) rfl rfl) ?_
        refine TL.bv (vs := [(0, .int .i64 a11.arg)]) (cs := [.int .i64 a11.arg]) (pc rfl p0) Try.underlying22 inf_3 (ltb rfl) (by decide) (by decide) (by kernel_rfl) fun b18 => ?_
        refine TL.perm (L' := [bx b18 3 [.int .i64 a11.arg], [], bx b14 81 [.int .i64 a11.kind, .int .i64 a11.arg, v12]]) (by simp) ?_
        refine TL.litOwn (n := 1) (xs := [a11.arg]) (RepL.to (RepL.cons (k := (kInt .i64)) (x := a11.arg) ⟨rfl, rfl⟩ RepL.nil) rfl) rfl rfl (ltb rfl) fun F19 h20 => ?_
        obtain ⟨x21, hy_38, hp⟩ := bind_some' hp
        refine TL.callC (vs := [.pointer (some ⟨b1, o3, none⟩), (.slice (some ⟨b18, 0, none⟩) 1 1)]) (R := check_looker_has.R x21) [] [F19, bx b14 81 [.int .i64 a11.kind, .int .i64 a11.arg, v12]] rfl cb_110 (ltb rfl) (mc rfl (mc rfl m0)) (fun w hw => check_looker_has_ok (a2 := a2) (a11 := [a11.arg]) (h4.mono subH) (h6.mono subH) (h8.mono subH) (h10.mono subH) (h20.ro.mono (subB 0 rfl)) hy_38 hw) fun v A' hR_39 => ?_
        obtain ⟨rfl, rfl⟩ := hR_39
        refine TL.norm (L' := [F19, bx b14 81 [.int .i64 a11.kind, .int .i64 a11.arg, v12]]) rfl ?_
        refine TL.v (ltb rfl) (rv_not (b := x21) rfl) ?_
        refine TL.v (ltb rfl) (rv_as (v := .bool (!x21)) rfl) ?_
        refine TL.nil ?_
        refine TC.go hK_37 ?_
        by_cases hc_40 : (!x21) = true
        · rw [if_pos hc_40] at hp
          refine TC.condT (bbT hc_40) ?_
          refine TC.seq fun K_41 hK_42 => ?_
          refine TC.region ?_
          refine TL.v (ltb rfl) (rv_makeIface (v := .int .i64 4) Try.underlying72 (fun ms h => by cases h) rfl) ?_
          refine TL.v (ltb rfl) (rv_as (v := .iface 72 (.int .i64 4)) rfl) ?_
          refine TL.nil ?_
          refine TC.go hK_42 ?_
          refine TC.ret ?_
          refine W.new0 ?_
          obtain rfl := Option.some.inj hp
          exact fun w hw => retOk ⟨(.iface 72 (.int .i64 4)), ([] : FP), rfl, rfl, (ErO.mk _ : ErO 72 143 145 (GErr.code 4) (.iface 72 (.int .i64 4)) [])⟩ (hw.pick [0])
        · rw [if_neg hc_40] at hp
          refine TC.condF (bbF hc_40) ?_
          refine TC.seq fun K_43 hK_44 => ?_
          refine TC.region ?_
          refine TL.v (ltb rfl) (rv_mv (v := .pointer (some ⟨b1, o3, none⟩)) h_30) ?_
          refine TL.v (ltb rfl) (rv_mv (v := .int .i64 x17) h_32) ?_
          refine TL.v (ltb rfl) (rv_fa (b := b14) (o := 0) fa_81_1 h_31) ?_
          refine TL.v (ltb rfl) (rv_ld (v := .int .i64 a11.arg) (o := 1) (o' := 0) (j := 1) sc_3 rfl (Src.at_ 1 rfl) (bx_cells b14 81 _) rfl rfl) ?_
          refine TL.bv (vs := [(0, .int .i64 a11.arg)]) (cs := [.int .i64 a11.arg]) (pc rfl p0) Try.underlying22 inf_3 (ltb rfl) (by decide) (by decide) (by kernel_rfl) fun b23 => ?_
          refine TL.perm (L' := [bx b23 3 [.int .i64 a11.arg], [], F19, bx b14 81 [.int .i64 a11.kind, .int .i64 a11.arg, v12]]) (by simp) ?_
          refine TL.litOwn (n := 1) (xs := [a11.arg]) (RepL.to (RepL.cons (k := (kInt .i64)) (x := a11.arg) ⟨rfl, rfl⟩ RepL.nil) rfl) rfl rfl (ltb rfl) fun F24 h25 => ?_
          obtain ⟨x26, hy_45, hp⟩ := bind_some' hp
          refine TL.callC (vs := [.pointer (some ⟨b1, o3, none⟩), .int .i64 x17, (.slice (some ⟨b23, 0, none⟩) 1 1)]) (R := check_looker_are.R x26) [] [F24, F19, bx b14 81 [.int .i64 a11.kind, .int .i64 a11.arg, v12]] rfl cb_111 (ltb rfl) (mc rfl (mc rfl (mc rfl m0))) (fun w hw => check_looker_are_ok (a2 := a2) (a11 := x17) (a12 := [a11.arg]) (h4.mono subH) (h6.mono subH) (h8.mono subH) (h10.mono subH) (h25.ro.mono (subB 0 rfl)) hy_45 hw) fun v A' hR_46 => ?_
          obtain ⟨rfl, rfl⟩ := hR_46
          refine TL.norm (L' := [F24, F19, bx b14 81 [.int .i64 a11.kind, .int .i64 a11.arg, v12]]) rfl ?_
          refine TL.v (ltb rfl) (rv_not (b := x26) rfl) ?_
          refine TL.v (ltb rfl) (rv_as (v := .bool (!x26)) rfl) ?_
          refine TL.nil ?_
          refine TC.go hK_44 ?_
          by_cases hc_47 : (!x26) = true
          · rw [if_pos hc_47] at hp
            refine TC.condT (bbT hc_47) ?_
            refine TC.seq fun K_48 hK_49 => ?_
            refine TC.region ?_
            refine TL.v (ltb rfl) (rv_makeIface (v := .int .i64 3) Try.underlying72 (fun ms h => by cases h) rfl) ?_
            refine TL.v (ltb rfl) (rv_as (v := .iface 72 (.int .i64 3)) rfl) ?_
            refine TL.nil ?_
            refine TC.go hK_49 ?_
            refine TC.ret ?_
            refine W.new0 ?_
            obtain rfl := Option.some.inj hp
            exact fun w hw => retOk ⟨(.iface 72 (.int .i64 3)), ([] : FP), rfl, rfl, (ErO.mk _ : ErO 72 143 145 (GErr.code 3) (.iface 72 (.int .i64 3)) [])⟩ (hw.pick [0])
          · rw [if_neg hc_47] at hp
            refine TC.condF (bbF hc_47) ?_
            refine TC.skip ?_
            refine TC.go hK_35 ?_
            refine TC.seq fun K_50 hK_51 => ?_
            refine TC.region ?_
            refine TL.v (ltb rfl) (rv_as (v := .nilIface) rfl) ?_
            refine TL.nil ?_
            refine TC.go hK_51 ?_
            refine TC.ret ?_
            refine W.new0 ?_
            obtain rfl := Option.some.inj hp
            exact fun w hw => retOk ⟨.nilIface, ([] : FP), rfl, rfl, (ErO.nil : ErO 72 143 145 GErr.no .nilIface [])⟩ (hw.pick [0])
      refine TC.seq fun K_52 hK_53 => ?_
      refine TC.region ?_
      refine TL.v (ltb rfl) (rv_fa (b := b14) (o := 0) fa_81_0 h_13) ?_
      refine TL.v (ltb rfl) (rv_ld (v := .int .i64 a11.kind) (o := 0) (o' := 0) (j := 0) sc_3 rfl (Src.at_ 0 rfl) (bx_cells b14 81 _) rfl rfl) ?_
      refine TL.v (ltb rfl) (rv_eql (k := .i64) (m := a11.kind) (n := 3) rfl rfl) ?_
      refine TL.nil ?_
      refine TC.go hK_53 ?_
      by_cases hc_54 : a11.kind = 3
      · rw [if_pos hc_54] at hp
        refine TC.condT (bT hc_54) ?_
        refine TC.region ?_
        refine TL.v (ltb rfl) (rv_mv (v := .pointer (some ⟨b1, o3, none⟩)) h_12) ?_
        refine TL.v (ltb rfl) (rv_nilCheck (a := ⟨b1, o3, none⟩) rfl) ?_
        refine TL.v (ltb rfl) (rv_fa (b := b1) (o := o3) fa_159_1 rfl) ?_
        refine TL.v (ltb rfl) (rv_fa (b := b1) (o := o3 + 1) fa_25_1 rfl) ?_
        refine TL.v (ltb rfl) (rv_ld (v := .int .i64 a2.f.result) (o := o3 + 2) (o' := o3) (j := 2) sc_3 rfl Src.H h4 rfl rfl) ?_
        refine TL.v (ltb rfl) (rv_as (v := .int .i64 a2.f.result) rfl) ?_
        refine TL.nil ?_
        refine fun w hw => hJ_33 a2.f.result _ ?_ ?_ ?_ hp w (hw.pick [0])
        · exact h_12
        · exact h_13
        · exact rfl
      · rw [if_neg hc_54] at hp
        refine TC.condF (bF hc_54) ?_
        refine TC.skip ?_
        refine fun w hw => hJ_33 2 _ ?_ ?_ ?_ hp w (hw.pick [0])
        · exact h_12
        · exact h_13
        · exact rfl
  by_cases hc_10 : a11.kind = 1
  · refine TL.gno true rfl (fun d hd => by cases hd; exact ltb rfl) (yieldE_of rfl (bT hc_10)) rfl ?_
    refine TL.gno true rfl (fun d hd => by cases hd; exact ltb rfl) (yieldE_of rfl (bT hc_10)) rfl ?_
    refine TL.gno true rfl (fun d hd => by cases hd; exact ltb rfl) (yieldE_of rfl (bT hc_10)) rfl ?_
    refine TL.gno true rfl (fun d hd => by cases hd; exact ltb rfl) (yieldE_of rfl (bT hc_10)) rfl ?_
    refine TL.gnon rfl (fun d hd => by cases hd; exact ltb rfl) (yieldE_un rfl rfl) ?_
    refine TL.gnon rfl (fun d hd => by cases hd; exact ltb rfl) (yieldE_un rfl rfl) ?_
    refine TL.gnon rfl (fun d hd => by cases hd; exact ltb rfl) (yieldE_un rfl rfl) ?_
    refine TL.gnon rfl (fun d hd => by cases hd; exact ltb rfl) (yieldE_un rfl rfl) ?_
    refine TL.gnon rfl (fun d hd => by cases hd; exact ltb rfl) (yieldE_un rfl rfl) ?_
    refine TL.gnon rfl (fun d hd => by cases hd; exact ltb rfl) (yieldE_un rfl rfl) ?_
    refine TL.gno true rfl (fun d hd => by cases hd; exact ltb rfl) (yieldE_of rfl (bT hc_10)) rfl ?_
    refine TL.v (ltb rfl) (rv_pickT true (bT hc_10) rfl (v := .bool true) rfl) ?_
    refine TL.nil (hJ_9 _ ?_ ?_ ?_)
    · exact rfl
    · exact rfl
    · exact (bOt hc_10)
  · refine TL.gyes false (yieldE_of rfl (bF hc_10)) rfl ?_
    refine TL.v (ltb rfl) (rv_fa (b := b14) (o := 0) fa_81_0 rfl) ?_
    refine TL.gyes false (yieldE_of rfl (bF hc_10)) rfl ?_
    refine TL.v (ltb rfl) (rv_ld (v := .int .i64 a11.kind) (o := 0) (o' := 0) (j := 0) sc_3 rfl (Src.at_ 0 rfl) (bx_cells b14 81 _) rfl rfl) ?_
    refine TL.gyes false (yieldE_of rfl (bF hc_10)) rfl ?_
    refine TL.v (ltb rfl) (rv_eql (k := .i64) (m := a11.kind) (n := 3) rfl rfl) ?_
    refine TL.gyes false (yieldE_of rfl (bF hc_10)) rfl ?_
    refine TL.v (ltb rfl) (rv_mv (v := .bool (decide (a11.kind = 3))) rfl) ?_
    refine TL.cut 7 fun K_55 hK_56 => ?_
    have hJ_57 : ∀ e_59 : Env, e_59 0 = .pointer (some ⟨b1, o3, none⟩) → e_59 3 = .pointer (some ⟨b14, 0, none⟩) → e_59 9 = .bool (decide (a11.kind = 1)) → e_59 20 = .bool (decide (a11.kind = 3 ∧ a2.f.result = 0)) → ∀ w, St E H [bx b14 81 [.int .i64 a11.kind, .int .i64 a11.arg, v12]] w → K_55 e_59 w := by
      intro e_59 h_60 h_61 h_62 h_63
      refine TL.go hK_56 ?_
      refine TL.v (ltb rfl) (rv_pickF false (h_62.trans (bF hc_10)) rfl (v := .bool (decide (a11.kind = 3 ∧ a2.f.result = 0))) h_63) ?_
      refine TL.nil (hJ_9 _ ?_ ?_ ?_)
      · exact h_60
      · exact h_61
      · exact (bOf hc_10)
    by_cases hc_58 : a11.kind = 3
    · refine TL.gyes true (yieldE_of rfl (bT hc_58)) rfl ?_
      refine TL.v (ltb rfl) (rv_mv (v := .pointer (some ⟨b1, o3, none⟩)) rfl) ?_
      refine TL.gyes true (yieldE_of rfl (bT hc_58)) rfl ?_
      refine TL.v (ltb rfl) (rv_nilCheck (a := ⟨b1, o3, none⟩) rfl) ?_
      refine TL.gyes true (yieldE_of rfl (bT hc_58)) rfl ?_
      refine TL.v (ltb rfl) (rv_fa (b := b1) (o := o3) fa_159_1 rfl) ?_
      refine TL.gyes true (yieldE_of rfl (bT hc_58)) rfl ?_
      refine TL.v (ltb rfl) (rv_fa (b := b1) (o := o3 + 1) fa_25_1 rfl) ?_
      refine TL.gyes true (yieldE_of rfl (bT hc_58)) rfl ?_
      refine TL.v (ltb rfl) (rv_ld (v := .int .i64 a2.f.result) (o := o3 + 2) (o' := o3) (j := 2) sc_3 rfl Src.H h4 rfl rfl) ?_
      refine TL.gyes true (yieldE_of rfl (bT hc_58)) rfl ?_
      refine TL.v (ltb rfl) (rv_eql (k := .i64) (m := a2.f.result) (n := 0) rfl rfl) ?_
      refine TL.gyes false (yieldE_of rfl (bF hc_10)) rfl ?_
      refine TL.v (ltb rfl) (rv_pickT true (bT hc_58) rfl (v := .bool (decide (a2.f.result = 0))) rfl) ?_
      refine TL.nil (hJ_57 _ ?_ ?_ ?_ ?_)
      · exact rfl
      · exact rfl
      · exact rfl
      · exact (bAt hc_58)
    · refine TL.gno false rfl (fun d hd => by cases hd; exact ltb rfl) (yieldE_of rfl (bF hc_58)) rfl ?_
      refine TL.gno false rfl (fun d hd => by cases hd; exact ltb rfl) (yieldE_of rfl (bF hc_58)) rfl ?_
      refine TL.gno false rfl (fun d hd => by cases hd; exact ltb rfl) (yieldE_of rfl (bF hc_58)) rfl ?_
      refine TL.gno false rfl (fun d hd => by cases hd; exact ltb rfl) (yieldE_of rfl (bF hc_58)) rfl ?_
      refine TL.gno false rfl (fun d hd => by cases hd; exact ltb rfl) (yieldE_of rfl (bF hc_58)) rfl ?_
      refine TL.gno false rfl (fun d hd => by cases hd; exact ltb rfl) (yieldE_of rfl (bF hc_58)) rfl ?_
      refine TL.gyes false (yieldE_of rfl (bF hc_10)) rfl ?_
      refine TL.v (ltb rfl) (rv_pickF false (bF hc_58) rfl (v := .bool false) rfl) ?_
      refine TL.nil (hJ_57 _ ?_ ?_ ?_ ?_)
      · exact rfl
      · exact rfl
      · exact rfl
      · exact (bAf hc_58)
end Go.Proofs.Ytoflleabpkgdpaa
