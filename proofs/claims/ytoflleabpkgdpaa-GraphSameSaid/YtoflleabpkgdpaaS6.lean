/- The walk through the program's functions: each one's pure reading, and that a call does what it says. No conditions. -/
import Derived.Test.YtoflleabpkgdpaaS1
set_option linter.unusedVariables false
set_option linter.unusedSimpArgs false
namespace Go.Proofs.Ytoflleabpkgdpaa
open Go Go.Proofs

/-! ### fettle/graph.Next -/
abbrev graph_Next.R (r : List (List Int)) (v : Value) (A : List FP) : Prop := ∃ (w1 : Value) (G1 : FP), w1 = v ∧ A = [G1] ∧ SlO 22 (kSl 3 (kInt .i64)) r w1 G1
def graph_Next.nx19  (x15 : List (List Int)) : Option (List (List Int)) :=
  some x15
def graph_Next.nx51 (x14 : Int) (x35 : List (List Int)) : Option (Ex (List (List Int)) (List (List Int) × Int)) :=
  some (.go (x35, (w64 (x14 + 1))))
def graph_Next.jn75 (x34 : Int) (x38 : List (List Int)) : Option (Ex (List (List Int)) (List (List Int) × Int)) :=
  some (.go (x38, (w64 (x34 + 1))))
def graph_Next.bd51 (x14 : Int) (x18 : PBlock) (x31 : List (List Int)) (x34 : Int) : Option (Ex (List (List Int)) (List (List Int) × Int)) :=
  if x34 < (len x18.term.to) then
    (idx x18.term.to x34).bind fun x41 =>
    (if x41 ≥ 0 ∧ x41 < (len x31) then (idx x31 x14).bind fun x68 =>
    (slices_Contains x68 x41).bind fun x76 =>
    some (!x76) else some false).bind fun t47 =>
    if t47 = true then
      (idx x31 x14).bind fun x48 =>
      (cat x48 [x41]).bind fun x59 =>
      graph_Next.jn75 x34 (x31.set (x14).toNat x59)
    else
      graph_Next.jn75 x34 x31
  else
    some (.ret x31)
def graph_Next.bd19 (a1 : PFunc) (x11 : List (List Int)) (x14 : Int) : Option (Ex (List (List Int)) (List (List Int) × Int)) :=
  if x14 < (len a1.blocks) then
    (idx a1.blocks x14).bind fun x18 =>
    (whl (fun (s : (List (List Int) × Int)) => graph_Next.bd51 x14 x18 s.1 s.2) FUEL (x11, 0)).bind fun z =>
    graph_Next.nx51 x14 z
  else
    some (.ret x11)
def graph_Next (a1 : PFunc) : Option (List (List Int)) :=
  (mkl (len a1.blocks) ([] : List Int)).bind fun x7 =>
  (whl (fun (s : (List (List Int) × Int)) => graph_Next.bd19 a1 s.1 s.2) FUEL (x7, 0)).bind fun z =>
  graph_Next.nx19 z
theorem graph_Next_ok {E : World} {H : FP} {w : World} {a1 : PFunc} {v2 : Value} {v4 : Value} {r : List (List Int)} (h3 : SlI (kInt .i64) H a1.regs v2) (h5 : SlI kBlock H a1.blocks v4) (hp : graph_Next a1 = some r) (hst : St E H [] w) :
    Fn Try.prog 18 #[.agg #[.int .i64 a1.params, .int .i64 a1.result, v2, v4]] w fun v w' => ∃ A, graph_Next.R r v A ∧ St E H A w' := by
  refine Fn.body (fn := Try.f18) (args := [.agg #[.int .i64 a1.params, .int .i64 a1.result, v2, v4]]) E H [] [.tmp 2] 58 Try.func18 rfl rfl rfl rfl (leb rfl) hst ?_
  unfold graph_Next at hp
  refine TC.seq fun K_1 hK_2 => ?_
  refine TC.region ?_
  refine TL.box (cs := [.int .i64 a1.params, .int .i64 a1.result, v2, v4]) (v := .agg #[.int .i64 a1.params, .int .i64 a1.result, v2, v4]) (ltb rfl) rfl rfl fun b6 => ?_
  refine TL.v (ltb rfl) (rv_as (v := .slice none 0 0) rfl) ?_
  refine TL.nil ?_
  refine TC.go hK_2 ?_
  refine TC.seq fun K_3 hK_4 => ?_
  refine TC.region ?_
  refine TL.v (ltb rfl) (rv_fa (b := b6) (o := 0) fa_25_3 rfl) ?_
  refine TL.v (ltb rfl) (rv_ld (v := v4) (o := 3) (o' := 0) (j := 3) sc_23 rfl (Src.at_ 0 rfl) (bx_cells b6 25 _) rfl rfl) ?_
  refine TL.v (ltb rfl) (rv_lenI (v := v4) Try.underlying23 rfl h5) ?_
  obtain ⟨x7, hz_5, hp⟩ := bind_some' hp
  refine TL.mk (k := (kSl 3 (kInt .i64))) (n := (len a1.blocks)) (x0 := ([] : List Int)) Try.underlying28 inf_22 (ltb rfl) (ltb rfl) rfl rfl (leb rfl) rfl ⟨_, rfl, SlO.nil 3⟩ hz_5 fun v8 F9 h10 => ?_
  refine TL.v (ltb rfl) (rv_as (v := v8) rfl) ?_
  refine TL.nil ?_
  refine TC.go hK_4 ?_
  refine TC.seq fun K_6 hK_7 => ?_
  refine TC.seq fun K_8 hK_9 => ?_
  refine TC.region ?_
  refine TL.v (ltb rfl) (rv_fa (b := b6) (o := 0) fa_25_3 rfl) ?_
  refine TL.v (ltb rfl) (rv_ld (v := v4) (o := 3) (o' := 0) (j := 3) sc_23 rfl (Src.at_ 1 rfl) (bx_cells b6 25 _) rfl rfl) ?_
  refine TL.v (ltb rfl) (rv_lenI (v := v4) Try.underlying23 rfl h5) ?_
  refine TL.v (ltb rfl) (rv_mv (v := .int .i64 0) rfl) ?_
  refine TL.nil ?_
  refine TC.go hK_9 ?_
  refine TC.block ?_
  obtain ⟨z_15, hz_16, hr_17⟩ := bind_some' hp
  clear hp
  have hJ_24 : ∀ (x15 : List (List Int)) (F16 : FP) (e_20 : Env) (h17 : SlO 22 (kSl 3 (kInt .i64)) x15 v8 F16) (h_21 : e_20 3 = v8) (hq_25 : x15 = z_15), ∀ w, St E H [F16] w → K_6 e_20 w := by
    intro x15 F16 e_20 h17 h_21 hq_25
    subst hq_25
    replace hp : graph_Next.nx19 x15 = some r := hr_17
    unfold graph_Next.nx19 at hp
    refine TC.go hK_7 ?_
    refine TC.seq fun K_22 hK_23 => ?_
    refine TC.region ?_
    refine TL.v (ltb rfl) (rv_mv (v := v8) h_21) ?_
    refine TL.v (ltb rfl) (rv_as (v := v8) rfl) ?_
    refine TL.nil ?_
    refine TC.go hK_23 ?_
    refine TC.ret ?_
    obtain rfl := Option.some.inj hp
    exact fun w hw => retOk ⟨v8, F16, rfl, rfl, h17⟩ (hw.pick [0])
  refine TC.pk' [0] (L' := [F9]) rfl ?_
  refine TC.loopW (r := z_15) (fun (s : (List (List Int) × Int)) (e_10 : Env) (L_120 : List FP) => ∃ (x11 : List (List Int)) (x14 : Int) (F12 : FP), s = (x11, x14) ∧ SlO 22 (kSl 3 (kInt .i64)) x11 v8 F12 ∧ e_10 3 = v8 ∧ e_10 13 = v4 ∧ e_10 14 = .int .i64 (len a1.blocks) ∧ e_10 15 = .int .i64 x14 ∧ L_120 = [F12]) ?_ FUEL _ _ _ hz_16 ⟨x7, 0, F9, rfl, h10, rfl, rfl, rfl, rfl, rfl⟩
  rintro s e_10 L_120 ⟨x11, x14, F12, rfl, h13, h_11, h_12, h_13, h_14, rfl⟩ x_18 hp hx_19
  replace hp : graph_Next.bd19 a1 x11 x14 = some x_18 := hp
  unfold graph_Next.bd19 at hp
  refine TC.seq fun K_26 hK_27 => ?_
  refine TC.region ?_
  refine TL.v (ltb rfl) (rv_lss (k := .i64) (m := x14) (n := (len a1.blocks)) h_14 h_13) ?_
  refine TL.nil ?_
  refine TC.go hK_27 ?_
  refine TC.seq fun K_28 hK_29 => ?_
  by_cases hc_30 : x14 < (len a1.blocks)
  · rw [if_pos hc_30] at hp
    refine TC.condT (bT hc_30) ?_
    refine TC.skip ?_
    refine TC.go hK_29 ?_
    refine TC.seq fun K_31 hK_32 => ?_
    refine TC.block ?_
    refine TC.seq fun K_33 hK_34 => ?_
    refine TC.region ?_
    refine TL.v (ltb rfl) (rv_mv (v := .int .i64 x14) h_14) ?_
    obtain ⟨x18, hx_35, hp⟩ := bind_some' hp
    refine TL.v3 (ltb rfl) (rv_ix 23 (.tmp 13) (.tmp 15) (v := v4) (i := x14) Try.underlying23 inf_85 rfl h_12 h_14 h5 hx_35) fun b19 o20 c21 h22 h23 => ?_
    obtain ⟨v24, v26, v28, rfl, h25, h27, h29⟩ := h22
    refine TL.v (ltb rfl) (rv_lda (o := o20) (o' := o20) (j := 0) (ds := [v24, v26, .int .i64 x18.term.kind, .int .i64 x18.term.arg, v28]) ag_85 rfl Src.H h23 rfl rfl rfl) ?_
    refine TL.alloc (cs := [.slice none 0 0, .slice none 0 0, .int .i64 0, .int .i64 0, .slice none 0 0]) inf_85 (ltb rfl) rfl fun b30 => ?_
    refine TL.v (ltb rfl) (rv_as (v := .int .i64 x14) rfl) ?_
    refine TL.stB (ds := [v24, v26, .int .i64 x18.term.kind, .int .i64 x18.term.arg, v28]) (o := 0) (cs := [.slice none 0 0, .slice none 0 0, .int .i64 0, .int .i64 0, .slice none 0 0]) (b := b30) (u := .agg #[v24, v26, .int .i64 x18.term.kind, .int .i64 x18.term.arg, v28]) 0 rfl ms_85 rfl rfl rfl (oc (h25).one (oc (h27).one (oc rfl (oc rfl (oc (h29).one oc0))))) (leb rfl) ?_
    refine TL.norm (L' := [bx b30 85 [v24, v26, .int .i64 x18.term.kind, .int .i64 x18.term.arg, v28], F12]) rfl ?_
    refine TL.nil ?_
    refine TC.go hK_34 ?_
    refine TC.seq fun K_36 hK_37 => ?_
    refine TC.region ?_
    refine TL.v (ltb rfl) (rv_fa (b := b30) (o := 0) fa_85_2 rfl) ?_
    refine TL.v (ltb rfl) (rv_fa (b := b30) (o := 2) fa_81_2 rfl) ?_
    refine TL.v (ltb rfl) (rv_ld (v := v28) (o := 4) (o' := 0) (j := 4) sc_22 rfl (Src.at_ 0 rfl) (bx_cells b30 85 _) rfl rfl) ?_
    refine TL.v (ltb rfl) (rv_lenI (v := v28) Try.underlying22 rfl h29) ?_
    refine TL.v (ltb rfl) (rv_mv (v := .int .i64 0) rfl) ?_
    refine TL.nil ?_
    refine TC.go hK_37 ?_
    refine TC.block ?_
    obtain ⟨z_47, hz_48, hr_49⟩ := bind_some' hp
    clear hp
    have hJ_57 : ∀ (x35 : List (List Int)) (F36 : FP) (e_52 : Env) (h37 : SlO 22 (kSl 3 (kInt .i64)) x35 v8 F36) (h_53 : e_52 3 = v8) (h_54 : e_52 13 = v4) (h_55 : e_52 14 = .int .i64 (len a1.blocks)) (h_56 : e_52 15 = .int .i64 x14) (hq_58 : x35 = z_47), ∀ w, St E H [F36] w → K_31 e_52 w := by
      intro x35 F36 e_52 h37 h_53 h_54 h_55 h_56 hq_58
      subst hq_58
      replace hp : graph_Next.nx51 x14 x35 = some x_18 := hr_49
      unfold graph_Next.nx51 at hp
      refine TC.go hK_32 ?_
      refine TC.region ?_
      refine TL.v (ltb rfl) (rv_add (k := .i64) (m := x14) (n := 1) h_56 rfl) ?_
      refine TL.v (ltb rfl) (rv_mv (v := .int .i64 (w64 (x14 + 1))) rfl) ?_
      refine TL.nil ?_
      exact fun w hw => goOk hp ⟨x35, (w64 (x14 + 1)), F36, rfl, h37, h_53, h_54, h_55, rfl, rfl⟩ (hw.pick [0])
    refine TC.pk' [1] (L' := [F12]) rfl ?_
    refine TC.loopW (r := z_47) (fun (s : (List (List Int) × Int)) (e_38 : Env) (L_119 : List FP) => ∃ (x31 : List (List Int)) (x34 : Int) (F32 : FP), s = (x31, x34) ∧ SlO 22 (kSl 3 (kInt .i64)) x31 v8 F32 ∧ e_38 3 = v8 ∧ e_38 4 = .int .i64 x14 ∧ e_38 13 = v4 ∧ e_38 14 = .int .i64 (len a1.blocks) ∧ e_38 15 = .int .i64 x14 ∧ e_38 22 = v28 ∧ e_38 23 = .int .i64 (len x18.term.to) ∧ e_38 24 = .int .i64 x34 ∧ L_119 = [F32]) ?_ FUEL _ _ _ hz_48 ⟨x11, 0, F12, rfl, h13, h_11, rfl, h_12, h_13, h_14, rfl, rfl, rfl, rfl⟩
    rintro s e_38 L_119 ⟨x31, x34, F32, rfl, h33, h_39, h_40, h_41, h_42, h_43, h_44, h_45, h_46, rfl⟩ x_50 hp hx_51
    replace hp : graph_Next.bd51 x14 x18 x31 x34 = some x_50 := hp
    unfold graph_Next.bd51 at hp
    refine TC.seq fun K_59 hK_60 => ?_
    refine TC.region ?_
    refine TL.v (ltb rfl) (rv_lss (k := .i64) (m := x34) (n := (len x18.term.to)) h_46 h_45) ?_
    refine TL.nil ?_
    refine TC.go hK_60 ?_
    refine TC.seq fun K_61 hK_62 => ?_
    by_cases hc_63 : x34 < (len x18.term.to)
    · rw [if_pos hc_63] at hp
      refine TC.condT (bT hc_63) ?_
      refine TC.skip ?_
      refine TC.go hK_62 ?_
      refine TC.seq fun K_64 hK_65 => ?_
      have hJ_75 : ∀ (x38 : List (List Int)) (F39 : FP) (e_66 : Env) (h40 : SlO 22 (kSl 3 (kInt .i64)) x38 v8 F39) (h_67 : e_66 3 = v8) (h_68 : e_66 4 = .int .i64 x14) (h_69 : e_66 13 = v4) (h_70 : e_66 14 = .int .i64 (len a1.blocks)) (h_71 : e_66 15 = .int .i64 x14) (h_72 : e_66 22 = v28) (h_73 : e_66 23 = .int .i64 (len x18.term.to)) (h_74 : e_66 24 = .int .i64 x34) (hp : graph_Next.jn75 x34 x38 = some x_50), ∀ w, St E H [F39] w → K_64 e_66 w := by
        intro x38 F39 e_66 h40 h_67 h_68 h_69 h_70 h_71 h_72 h_73 h_74 hp
        unfold graph_Next.jn75 at hp
        refine TC.go hK_65 ?_
        refine TC.region ?_
        refine TL.v (ltb rfl) (rv_add (k := .i64) (m := x34) (n := 1) h_74 rfl) ?_
        refine TL.v (ltb rfl) (rv_mv (v := .int .i64 (w64 (x34 + 1))) rfl) ?_
        refine TL.nil ?_
        exact fun w hw => goOk hp ⟨x38, (w64 (x34 + 1)), F39, rfl, h40, h_67, h_68, h_69, h_70, h_71, h_72, h_73, rfl, rfl⟩ (hw.pick [0])
      refine TC.block ?_
      refine TC.seq fun K_76 hK_77 => ?_
      refine TC.region ?_
      obtain ⟨x41, hx_78, hp⟩ := bind_some' hp
      refine TL.v3 (ltb rfl) (rv_ix 22 (.tmp 22) (.tmp 24) (v := v28) (i := x34) Try.underlying22 inf_3 rfl h_44 h_46 h29 hx_78) fun b42 o43 c44 h45 h46 => ?_
      obtain rfl := h45
      refine TL.v (ltb rfl) (rv_ld (v := .int .i64 x41) (o := o43) (o' := o43) (j := 0) sc_3 rfl Src.H h46 rfl rfl) ?_
      refine TL.v (ltb rfl) (rv_as (v := .int .i64 x41) rfl) ?_
      refine TL.nil ?_
      refine TC.go hK_77 ?_
      refine TC.seq fun K_79 hK_80 => ?_
      refine TC.region ?_
      refine TL.v (ltb rfl) (rv_mv (v := .int .i64 x41) rfl) ?_
      refine TL.v (ltb rfl) (rv_geq (k := .i64) (m := x41) (n := 0) rfl rfl) ?_
      refine TL.v (ltb rfl) (rv_mv (v := .bool (decide (x41 ≥ 0))) rfl) ?_
      refine TL.cut 5 fun K_81 hK_82 => ?_
      have hJ_83 : ∀ e_85 : Env, e_85 3 = v8 → e_85 4 = .int .i64 x14 → e_85 7 = .int .i64 x41 → e_85 13 = v4 → e_85 14 = .int .i64 (len a1.blocks) → e_85 15 = .int .i64 x14 → e_85 22 = v28 → e_85 23 = .int .i64 (len x18.term.to) → e_85 24 = .int .i64 x34 → e_85 35 = .bool (decide (x41 ≥ 0 ∧ x41 < (len x31))) → ∀ w, St E H [F32] w → K_81 e_85 w := by
        intro e_85 h_86 h_87 h_88 h_89 h_90 h_91 h_92 h_93 h_94 h_95
        refine TL.go hK_82 ?_
        refine TL.v (ltb rfl) (rv_mv (v := .bool (decide (x41 ≥ 0 ∧ x41 < (len x31)))) h_95) ?_
        obtain ⟨t47, ht_115, hp⟩ := bind_some' hp
        refine TL.cut 8 fun K_96 hK_97 => ?_
        have hJ_98 : ∀ e_100 : Env, e_100 3 = v8 → e_100 4 = .int .i64 x14 → e_100 7 = .int .i64 x41 → e_100 13 = v4 → e_100 14 = .int .i64 (len a1.blocks) → e_100 15 = .int .i64 x14 → e_100 22 = v28 → e_100 23 = .int .i64 (len x18.term.to) → e_100 24 = .int .i64 x34 → e_100 44 = .bool t47 → ∀ w, St E H [F32] w → K_96 e_100 w := by
          intro e_100 h_101 h_102 h_103 h_104 h_105 h_106 h_107 h_108 h_109 h_110
          refine TL.go hK_97 ?_
          refine TL.nil ?_
          refine TC.go hK_80 ?_
          by_cases hc_111 : t47 = true
          · rw [if_pos hc_111] at hp
            refine TC.condT (h_110.trans (bbT hc_111)) ?_
            refine TC.region ?_
            refine TL.v (ltb rfl) (rv_mv (v := v8) h_101) ?_
            refine TL.v (ltb rfl) (rv_mv (v := .int .i64 x14) h_102) ?_
            refine TL.v (ltb rfl) (rv_mv (v := v8) h_101) ?_
            refine TL.v (ltb rfl) (rv_mv (v := .int .i64 x14) h_102) ?_
            obtain ⟨x48, hx_112, hp⟩ := bind_some' hp
            refine TL.open_ h33 hx_112 fun b49 c50 F51 F52 h53 h54 => ?_
            obtain ⟨v55, rfl, h56⟩ := h54
            have h57 := (idx_some hx_112).1
            refine TL.v (ltb rfl) (rv_ixH Try.underlying28 inf_22 (v := v8) (i := x14) rfl rfl h57 h53) ?_
            refine TL.v (ltb rfl) (rv_ld (v := v55) (o := (x14).toNat * 1) (o' := (x14).toNat * 1) (j := 0) sc_22 rfl (Src.at_ 0 rfl) (Hole.cells h53) rfl rfl) ?_
            refine TL.v (ltb rfl) (rv_mv (v := .int .i64 x41) h_103) ?_
            refine TL.bv (vs := [(0, .int .i64 x41)]) (cs := [.int .i64 x41]) (pc rfl p0) Try.underlying22 inf_3 (ltb rfl) (by decide) (by decide) (by kernel_rfl) fun b58 => ?_
            refine TL.pk' [2, 0, 0] (L' := [F52, bx b58 3 [.int .i64 x41], F51]) rfl ?_
            refine TL.perm (L' := [F52, bx b58 3 [.int .i64 x41], [], F51]) (by simp) ?_
            obtain ⟨x59, hz_113, hp⟩ := bind_some' hp
            refine TL.app Try.underlying22 inf_3 (ltb rfl) rfl (ltb rfl) rfl (leb rfl) rfl rfl h56 (RepL.to (RepL.cons (k := (kInt .i64)) (x := x41) ⟨rfl, rfl⟩ RepL.nil) rfl) rfl rfl hz_113 fun v60 F61 h62 => ?_
            refine TL.v (ltb rfl) (rv_ixH Try.underlying28 inf_22 (v := v8) (i := x14) rfl rfl h57 h53) ?_
            refine TL.pk' [1, 0] (L' := [F51, F61]) rfl ?_
            refine TL.stH (ds := [v60]) (o := 0) (o' := (x14).toNat * 1) (u := v60) h53 ms_22 rfl rfl rfl (SlO.cells h62) (oc (h62).one oc0) (leb rfl) fun F64 h65 => ?_
            refine TL.nil ?_
            refine W.shut (a := x59) h65 ⟨_, rfl, h62⟩ fun F66 h67 => ?_
            refine fun w hw => hJ_75 (x31.set (x14).toNat x59) F66 _ h67 ?_ ?_ ?_ ?_ ?_ ?_ ?_ ?_ hp w (hw.pick [0])
            · exact h_101
            · exact h_102
            · exact h_104
            · exact h_105
            · exact h_106
            · exact h_107
            · exact h_108
            · exact h_109
          · rw [if_neg hc_111] at hp
            refine TC.condF (h_110.trans (bbF hc_111)) ?_
            refine TC.skip ?_
            refine fun w hw => hJ_75 x31 F32 _ h33 ?_ ?_ ?_ ?_ ?_ ?_ ?_ ?_ hp w (hw.pick [0])
            · exact h_101
            · exact h_102
            · exact h_104
            · exact h_105
            · exact h_106
            · exact h_107
            · exact h_108
            · exact h_109
        clear hp
        have hp := ht_115
        clear ht_115
        by_cases hc_99 : x41 ≥ 0 ∧ x41 < (len x31)
        · rw [if_pos hc_99] at hp
          refine TL.gyes true (yieldE_of rfl (bT hc_99)) rfl ?_
          refine TL.v (ltb rfl) (rv_mv (v := v8) h_86) ?_
          refine TL.gyes true (yieldE_of rfl (bT hc_99)) rfl ?_
          refine TL.v (ltb rfl) (rv_mv (v := .int .i64 x14) h_87) ?_
          refine TL.gyes true (yieldE_of rfl (bT hc_99)) rfl ?_
          obtain ⟨x68, hx_116, hp⟩ := bind_some' hp
          refine TL.v3 (ltb rfl) (rv_ix 28 (.tmp 37) (.tmp 38) (v := v8) (i := x14) Try.underlying28 inf_22 rfl rfl rfl (h33).ro hx_116) fun b69 o70 c71 h72 h73 => ?_
          obtain ⟨v74, rfl, h75⟩ := h72
          refine TL.gyes true (yieldE_of rfl (bT hc_99)) rfl ?_
          refine TL.v (ltb rfl) (rv_ld (v := v74) (o := o70) (o' := o70) (j := 0) sc_22 rfl (Src.at_ 0 rfl) h73 rfl rfl) ?_
          refine TL.gyes true (yieldE_of rfl (bT hc_99)) rfl ?_
          refine TL.v (ltb rfl) (rv_mv (v := .int .i64 x41) h_88) ?_
          refine TL.gyes true (yieldE_of rfl (bT hc_99)) rfl ?_
          obtain ⟨x76, hy_117, hp⟩ := bind_some' hp
          refine TL.callC (vs := [v74, .int .i64 x41]) (R := slices_Contains.R x76) [] [F32] rfl cb_60 (ltb rfl) (mc rfl (mc rfl m0)) (fun w hw => slices_Contains_ok (a1 := x68) (a4 := x41) (h75.mono (subB 0 rfl)) hy_117 hw) fun v A' hR_118 => ?_
          obtain ⟨rfl, rfl⟩ := hR_118
          refine TL.norm (L' := [F32]) rfl ?_
          refine TL.gyes true (yieldE_of rfl (bT hc_99)) rfl ?_
          refine TL.v (ltb rfl) (rv_not (b := x76) rfl) ?_
          refine TL.v (ltb rfl) (rv_pickT true (bT hc_99) rfl (v := .bool (!x76)) rfl) ?_
          obtain rfl := Option.some.inj hp
          refine TL.nil (hJ_98 _ ?_ ?_ ?_ ?_ ?_ ?_ ?_ ?_ ?_ ?_)
          · exact h_86
          · exact h_87
          · exact h_88
          · exact h_89
          · exact h_90
          · exact h_91
          · exact h_92
          · exact h_93
          · exact h_94
          · exact rfl
        · rw [if_neg hc_99] at hp
          refine TL.gno false rfl (fun d hd => by cases hd; exact ltb rfl) (yieldE_of rfl (bF hc_99)) rfl ?_
          refine TL.gno false rfl (fun d hd => by cases hd; exact ltb rfl) (yieldE_of rfl (bF hc_99)) rfl ?_
          refine TL.gno false rfl (fun d hd => by cases hd; exact ltb rfl) (yieldE_of rfl (bF hc_99)) rfl ?_
          refine TL.gno false rfl (fun d hd => by cases hd; exact ltb rfl) (yieldE_of rfl (bF hc_99)) rfl ?_
          refine TL.gno false rfl (fun d hd => by cases hd; exact ltb rfl) (yieldE_of rfl (bF hc_99)) rfl ?_
          refine TL.gno false rfl (fun d hd => by cases hd; exact ltb rfl) (yieldE_of rfl (bF hc_99)) rfl ?_
          refine TL.gno false rfl (fun d hd => by cases hd; exact ltb rfl) (yieldE_of rfl (bF hc_99)) rfl ?_
          refine TL.v (ltb rfl) (rv_pickF false (bF hc_99) rfl (v := .bool false) rfl) ?_
          obtain rfl := Option.some.inj hp
          refine TL.nil (hJ_98 _ ?_ ?_ ?_ ?_ ?_ ?_ ?_ ?_ ?_ ?_)
          · exact h_86
          · exact h_87
          · exact h_88
          · exact h_89
          · exact h_90
          · exact h_91
          · exact h_92
          · exact h_93
          · exact h_94
          · exact rfl
      by_cases hc_84 : x41 ≥ 0
      · refine TL.gyes true (yieldE_of rfl (bT hc_84)) rfl ?_
        refine TL.v (ltb rfl) (rv_mv (v := .int .i64 x41) rfl) ?_
        refine TL.gyes true (yieldE_of rfl (bT hc_84)) rfl ?_
        refine TL.v (ltb rfl) (rv_mv (v := v8) h_39) ?_
        refine TL.gyes true (yieldE_of rfl (bT hc_84)) rfl ?_
        refine TL.v (ltb rfl) (rv_lenI (v := v8) Try.underlying28 rfl h33.ro) ?_
        refine TL.gyes true (yieldE_of rfl (bT hc_84)) rfl ?_
        refine TL.v (ltb rfl) (rv_lss (k := .i64) (m := x41) (n := (len x31)) rfl rfl) ?_
        refine TL.v (ltb rfl) (rv_pickT true (bT hc_84) rfl (v := .bool (decide (x41 < (len x31)))) rfl) ?_
        refine TL.nil (hJ_83 _ ?_ ?_ ?_ ?_ ?_ ?_ ?_ ?_ ?_ ?_)
        · exact h_39
        · exact h_40
        · exact rfl
        · exact h_41
        · exact h_42
        · exact h_43
        · exact h_44
        · exact h_45
        · exact h_46
        · exact (bAt hc_84)
      · refine TL.gno false rfl (fun d hd => by cases hd; exact ltb rfl) (yieldE_of rfl (bF hc_84)) rfl ?_
        refine TL.gno false rfl (fun d hd => by cases hd; exact ltb rfl) (yieldE_of rfl (bF hc_84)) rfl ?_
        refine TL.gno false rfl (fun d hd => by cases hd; exact ltb rfl) (yieldE_of rfl (bF hc_84)) rfl ?_
        refine TL.gno false rfl (fun d hd => by cases hd; exact ltb rfl) (yieldE_of rfl (bF hc_84)) rfl ?_
        refine TL.v (ltb rfl) (rv_pickF false (bF hc_84) rfl (v := .bool false) rfl) ?_
        refine TL.nil (hJ_83 _ ?_ ?_ ?_ ?_ ?_ ?_ ?_ ?_ ?_ ?_)
        · exact h_39
        · exact h_40
        · exact rfl
        · exact h_41
        · exact h_42
        · exact h_43
        · exact h_44
        · exact h_45
        · exact h_46
        · exact (bAf hc_84)
    · rw [if_neg hc_63] at hp
      refine TC.condF (bF hc_63) ?_
      refine TC.exit ?_
      refine fun w hw => hJ_57 x31 F32 _ h33 ?_ ?_ ?_ ?_ (ex_ret hp hx_51) w (hw.pick [0])
      · exact h_39
      · exact h_41
      · exact h_42
      · exact h_43
  · rw [if_neg hc_30] at hp
    refine TC.condF (bF hc_30) ?_
    refine TC.exit ?_
    refine fun w hw => hJ_24 x11 F12 _ h13 ?_ (ex_ret hp hx_19) w (hw.pick [0])
    · exact h_11

/-! ### fettle/graph.order$1 -/
abbrev graph_order_1.R (b2 : Nat) (b17 : Nat) (r : List Bool × List Int) (v : Value) (A : List FP) : Prop := ∃ (w1 : Value) (G1 : FP) (w2 : Value) (G2 : FP), .tuple #[] = v ∧ A = [bx b2 30 [w1], G1, bx b17 22 [w2], G2] ∧ SlO 4 kBool r.1 w1 G1 ∧ SlO 3 (kInt .i64) r.2 w2 G2
def graph_order_1.nx21 (a1 : Int) (x46 : List Bool) (x50 : List Int) : Option (List Bool × List Int) :=
  (cat x50 [a1]).bind fun x55 =>
  some (x46, x55)
def graph_order_1.jn43 (x45 : Int) (x59 : List Bool) (x63 : List Int) : Option (Ex (List Bool × List Int) (List Bool × List Int × Int)) :=
  some (.go (x59, x63, (w64 (x45 + 1))))
def graph_order_1.bd21 (a9 : List (List Int)) (rec : Int → (List Bool) → (List (List Int)) → (List Int) → Option (List Bool × List Int)) (x29 : List Int) (x37 : List Bool) (x41 : List Int) (x45 : Int) : Option (Ex (List Bool × List Int) (List Bool × List Int × Int)) :=
  if x45 < (len x29) then
    (idx x29 x45).bind fun x67 =>
    (idx x37 x67).bind fun x73 =>
    if (!x73) = true then
      (rec x67 x37 a9 x41).bind fun x79 =>
      graph_order_1.jn43 x45 x79.1 x79.2
    else
      graph_order_1.jn43 x45 x37 x41
  else
    some (.ret (x37, x41))
def graph_order_1.body (rec : Int → (List Bool) → (List (List Int)) → (List Int) → Option (List Bool × List Int)) (a1 : Int) (a3 : List Bool) (a9 : List (List Int)) (a18 : List Int) : Option (List Bool × List Int) :=
  (idx a3 a1).bind fun x23 =>
  (idx a9 a1).bind fun x29 =>
  (whl (fun (s : (List Bool × List Int × Int)) => graph_order_1.bd21 a9 rec x29 s.1 s.2.1 s.2.2) FUEL ((a3.set (a1).toNat true), a18, 0)).bind fun z =>
  graph_order_1.nx21 a1 z.1 z.2
theorem graph_order_1.body_ok {rec : Int → (List Bool) → (List (List Int)) → (List Int) → Option (List Bool × List Int)} (hrec : ∀ (E : World) (H : FP) (w : World) (a1 : Int) (a3 : List Bool) (a9 : List (List Int)) (a18 : List Int) (b2 : Nat) (v4 : Value) (F5 : FP) (b8 : Nat) (o10 : Nat) (v12 : Value) (b14 : Nat) (o15 : Nat) (b17 : Nat) (v19 : Value) (F20 : FP) (r : List Bool × List Int) (h6 : SlO 4 kBool a3 v4 F5) (h11 : CellsIn H b8 o10 [v12]) (h13 : SlI (kSl 3 (kInt .i64)) H a9 v12) (h16 : CellsIn H b14 o15 [.func (.func 86) #[] #[.pointer (some ⟨b2, 0, none⟩), .pointer (some ⟨b8, o10, none⟩), .pointer (some ⟨b14, o15, none⟩), .pointer (some ⟨b17, 0, none⟩)]]) (h21 : SlO 3 (kInt .i64) a18 v19 F20), rec a1 a3 a9 a18 = some r → St E H [bx b2 30 [v4], F5, bx b17 22 [v19], F20] w →
    Fn Try.prog 86 #[.int .i64 a1, .pointer (some ⟨b2, 0, none⟩), .pointer (some ⟨b8, o10, none⟩), .pointer (some ⟨b14, o15, none⟩), .pointer (some ⟨b17, 0, none⟩)] w fun v w' => ∃ A, graph_order_1.R b2 b17 r v A ∧ St E H A w')
    {E : World} {H : FP} {w : World} {a1 : Int} {a3 : List Bool} {a9 : List (List Int)} {a18 : List Int} {b2 : Nat} {v4 : Value} {F5 : FP} {b8 : Nat} {o10 : Nat} {v12 : Value} {b14 : Nat} {o15 : Nat} {b17 : Nat} {v19 : Value} {F20 : FP} {r : List Bool × List Int} (h6 : SlO 4 kBool a3 v4 F5) (h11 : CellsIn H b8 o10 [v12]) (h13 : SlI (kSl 3 (kInt .i64)) H a9 v12) (h16 : CellsIn H b14 o15 [.func (.func 86) #[] #[.pointer (some ⟨b2, 0, none⟩), .pointer (some ⟨b8, o10, none⟩), .pointer (some ⟨b14, o15, none⟩), .pointer (some ⟨b17, 0, none⟩)]]) (h21 : SlO 3 (kInt .i64) a18 v19 F20) (hp : graph_order_1.body rec a1 a3 a9 a18 = some r) (hst : St E H [bx b2 30 [v4], F5, bx b17 22 [v19], F20] w) :
    Fn Try.prog 86 #[.int .i64 a1, .pointer (some ⟨b2, 0, none⟩), .pointer (some ⟨b8, o10, none⟩), .pointer (some ⟨b14, o15, none⟩), .pointer (some ⟨b17, 0, none⟩)] w fun v w' => ∃ A, graph_order_1.R b2 b17 r v A ∧ St E H A w' := by
  refine Fn.body (fn := Try.f86) (args := [.int .i64 a1, .pointer (some ⟨b2, 0, none⟩), .pointer (some ⟨b8, o10, none⟩), .pointer (some ⟨b14, o15, none⟩), .pointer (some ⟨b17, 0, none⟩)]) E H [bx b2 30 [v4], F5, bx b17 22 [v19], F20] [] 33 Try.func86 rfl rfl rfl rfl (leb rfl) hst ?_
  unfold graph_order_1.body at hp
  refine TC.seq fun K_1 hK_2 => ?_
  refine TC.region ?_
  refine TL.v (ltb rfl) (rv_ld (v := v4) (o := 0) (o' := 0) (j := 0) sc_30 rfl (Src.at_ 0 rfl) (bx_cells b2 30 _) rfl rfl) ?_
  refine TL.v (ltb rfl) (rv_mv (v := .int .i64 a1) rfl) ?_
  obtain ⟨x23, hx_3, hp⟩ := bind_some' hp
  refine TL.v2 (ltb rfl) (rv_ixO 30 (.tmp 8) (.tmp 9) (v := v4) (i := a1) Try.underlying30 inf_4 rfl rfl rfl h6 (idx_some hx_3).1 (idx_some hx_3).2.1) fun b24 o25 h26 => ?_
  refine TL.pk' [1, 0, 0, 0] (L' := [F5, bx b2 30 [v4], bx b17 22 [v19], F20]) rfl ?_
  refine TL.stE0 (ds := [.bool true]) (u := .bool true) (a := true) h6 h26 ms_4 rfl rfl rfl ⟨rfl, rfl⟩ fun F27 h28 => ?_
  refine TL.nil ?_
  refine TC.go hK_2 ?_
  refine TC.seq fun K_4 hK_5 => ?_
  refine TC.seq fun K_6 hK_7 => ?_
  refine TC.region ?_
  refine TL.v (ltb rfl) (rv_ld (v := v12) (o := o10) (o' := o10) (j := 0) sc_28 rfl Src.H h11 rfl rfl) ?_
  refine TL.v (ltb rfl) (rv_mv (v := .int .i64 a1) rfl) ?_
  obtain ⟨x29, hx_8, hp⟩ := bind_some' hp
  refine TL.v3 (ltb rfl) (rv_ix 28 (.tmp 11) (.tmp 12) (v := v12) (i := a1) Try.underlying28 inf_22 rfl rfl rfl h13 hx_8) fun b30 o31 c32 h33 h34 => ?_
  obtain ⟨v35, rfl, h36⟩ := h33
  refine TL.v (ltb rfl) (rv_ld (v := v35) (o := o31) (o' := o31) (j := 0) sc_22 rfl Src.H h34 rfl rfl) ?_
  refine TL.v (ltb rfl) (rv_lenI (v := v35) Try.underlying22 rfl h36) ?_
  refine TL.v (ltb rfl) (rv_mv (v := .int .i64 0) rfl) ?_
  refine TL.nil ?_
  refine TC.go hK_7 ?_
  refine TC.block ?_
  obtain ⟨z_17, hz_18, hr_19⟩ := bind_some' hp
  clear hp
  have hJ_26 : ∀ (x46 : List Bool) (x50 : List Int) (v47 : Value) (F48 : FP) (v51 : Value) (F52 : FP) (e_22 : Env) (h49 : SlO 4 kBool x46 v47 F48) (h53 : SlO 3 (kInt .i64) x50 v51 F52) (h_23 : e_22 0 = .int .i64 a1) (h_24 : e_22 4 = .pointer (some ⟨b17, 0, none⟩)) (hq_27 : (x46, x50) = z_17), ∀ w, St E H [bx b2 30 [v47], F48, bx b17 22 [v51], F52] w → K_4 e_22 w := by
    intro x46 x50 v47 F48 v51 F52 e_22 h49 h53 h_23 h_24 hq_27
    subst hq_27
    replace hp : graph_order_1.nx21 a1 x46 x50 = some r := hr_19
    unfold graph_order_1.nx21 at hp
    refine TC.go hK_5 ?_
    refine TC.region ?_
    refine TL.v (ltb rfl) (rv_ld (v := v51) (o := 0) (o' := 0) (j := 0) sc_22 h_24 (Src.at_ 2 rfl) (bx_cells b17 22 _) rfl rfl) ?_
    refine TL.v (ltb rfl) (rv_mv (v := .int .i64 a1) h_23) ?_
    refine TL.bv (vs := [(0, .int .i64 a1)]) (cs := [.int .i64 a1]) (pc rfl p0) Try.underlying22 inf_3 (ltb rfl) (by decide) (by decide) (by kernel_rfl) fun b54 => ?_
    refine TL.pk' [4, 0, 0, 0, 0] (L' := [F52, bx b54 3 [.int .i64 a1], bx b2 30 [v47], F48, bx b17 22 [v51]]) rfl ?_
    refine TL.perm (L' := [F52, bx b54 3 [.int .i64 a1], [], bx b2 30 [v47], F48, bx b17 22 [v51]]) (by simp) ?_
    obtain ⟨x55, hz_25, hp⟩ := bind_some' hp
    refine TL.app Try.underlying22 inf_3 (ltb rfl) rfl (ltb rfl) rfl (leb rfl) rfl rfl h53 (RepL.to (RepL.cons (k := (kInt .i64)) (x := a1) ⟨rfl, rfl⟩ RepL.nil) rfl) rfl rfl hz_25 fun v56 F57 h58 => ?_
    refine TL.stB (ds := [v56]) (o := 0) (cs := [v51]) (b := b17) (u := v56) 3 rfl ms_22 h_24 rfl (SlO.cells h58) (oc (h58).one oc0) (leb rfl) ?_
    refine TL.norm (L' := [F57, bx b2 30 [v47], F48, bx b17 22 [v56]]) rfl ?_
    refine TL.nil ?_
    obtain rfl := Option.some.inj hp
    exact fun w hw => retOk ⟨v47, F48, v56, F57, rfl, rfl, h49, h58⟩ (hw.pick [1, 1, 1, 0])
  refine TC.pk' [1, 0, 0, 0] (L' := [bx b2 30 [v4], F27, bx b17 22 [v19], F20]) rfl ?_
  refine TC.loopW (r := z_17) (fun (s : (List Bool × List Int × Int)) (e_9 : Env) (L_53 : List FP) => ∃ (x37 : List Bool) (x41 : List Int) (x45 : Int) (v38 : Value) (F39 : FP) (v42 : Value) (F43 : FP), s = (x37, x41, x45) ∧ SlO 4 kBool x37 v38 F39 ∧ SlO 3 (kInt .i64) x41 v42 F43 ∧ e_9 0 = .int .i64 a1 ∧ e_9 1 = .pointer (some ⟨b2, 0, none⟩) ∧ e_9 3 = .pointer (some ⟨b14, o15, none⟩) ∧ e_9 4 = .pointer (some ⟨b17, 0, none⟩) ∧ e_9 14 = v35 ∧ e_9 15 = .int .i64 (len x29) ∧ e_9 16 = .int .i64 x45 ∧ L_53 = [bx b2 30 [v38], F39, bx b17 22 [v42], F43]) ?_ FUEL _ _ _ hz_18 ⟨(a3.set (a1).toNat true), a18, 0, v4, F27, v19, F20, rfl, h28, h21, rfl, rfl, rfl, rfl, rfl, rfl, rfl, rfl⟩
  rintro s e_9 L_53 ⟨x37, x41, x45, v38, F39, v42, F43, rfl, h40, h44, h_10, h_11, h_12, h_13, h_14, h_15, h_16, rfl⟩ x_20 hp hx_21
  replace hp : graph_order_1.bd21 a9 rec x29 x37 x41 x45 = some x_20 := hp
  unfold graph_order_1.bd21 at hp
  refine TC.seq fun K_28 hK_29 => ?_
  refine TC.region ?_
  refine TL.v (ltb rfl) (rv_lss (k := .i64) (m := x45) (n := (len x29)) h_16 h_15) ?_
  refine TL.nil ?_
  refine TC.go hK_29 ?_
  refine TC.seq fun K_30 hK_31 => ?_
  by_cases hc_32 : x45 < (len x29)
  · rw [if_pos hc_32] at hp
    refine TC.condT (bT hc_32) ?_
    refine TC.skip ?_
    refine TC.go hK_31 ?_
    refine TC.seq fun K_33 hK_34 => ?_
    have hJ_43 : ∀ (x59 : List Bool) (x63 : List Int) (v60 : Value) (F61 : FP) (v64 : Value) (F65 : FP) (e_35 : Env) (h62 : SlO 4 kBool x59 v60 F61) (h66 : SlO 3 (kInt .i64) x63 v64 F65) (h_36 : e_35 0 = .int .i64 a1) (h_37 : e_35 1 = .pointer (some ⟨b2, 0, none⟩)) (h_38 : e_35 3 = .pointer (some ⟨b14, o15, none⟩)) (h_39 : e_35 4 = .pointer (some ⟨b17, 0, none⟩)) (h_40 : e_35 14 = v35) (h_41 : e_35 15 = .int .i64 (len x29)) (h_42 : e_35 16 = .int .i64 x45) (hp : graph_order_1.jn43 x45 x59 x63 = some x_20), ∀ w, St E H [bx b2 30 [v60], F61, bx b17 22 [v64], F65] w → K_33 e_35 w := by
      intro x59 x63 v60 F61 v64 F65 e_35 h62 h66 h_36 h_37 h_38 h_39 h_40 h_41 h_42 hp
      unfold graph_order_1.jn43 at hp
      refine TC.go hK_34 ?_
      refine TC.region ?_
      refine TL.v (ltb rfl) (rv_add (k := .i64) (m := x45) (n := 1) h_42 rfl) ?_
      refine TL.v (ltb rfl) (rv_mv (v := .int .i64 (w64 (x45 + 1))) rfl) ?_
      refine TL.nil ?_
      exact fun w hw => goOk hp ⟨x59, x63, (w64 (x45 + 1)), v60, F61, v64, F65, rfl, h62, h66, h_36, h_37, h_38, h_39, h_40, h_41, rfl, rfl⟩ (hw.pick [0, 0, 0, 0])
    refine TC.block ?_
    refine TC.seq fun K_44 hK_45 => ?_
    refine TC.region ?_
    obtain ⟨x67, hx_46, hp⟩ := bind_some' hp
    refine TL.v3 (ltb rfl) (rv_ix 22 (.tmp 14) (.tmp 16) (v := v35) (i := x45) Try.underlying22 inf_3 rfl h_14 h_16 h36 hx_46) fun b68 o69 c70 h71 h72 => ?_
    obtain rfl := h71
    refine TL.v (ltb rfl) (rv_ld (v := .int .i64 x67) (o := o69) (o' := o69) (j := 0) sc_3 rfl Src.H h72 rfl rfl) ?_
    refine TL.v (ltb rfl) (rv_as (v := .int .i64 x67) rfl) ?_
    refine TL.nil ?_
    refine TC.go hK_45 ?_
    refine TC.seq fun K_47 hK_48 => ?_
    refine TC.region ?_
    refine TL.v (ltb rfl) (rv_ld (v := v38) (o := 0) (o' := 0) (j := 0) sc_30 h_11 (Src.at_ 0 rfl) (bx_cells b2 30 _) rfl rfl) ?_
    refine TL.v (ltb rfl) (rv_mv (v := .int .i64 x67) rfl) ?_
    obtain ⟨x73, hx_49, hp⟩ := bind_some' hp
    refine TL.v3 (ltb rfl) (rv_ix 30 (.tmp 20) (.tmp 21) (v := v38) (i := x67) Try.underlying30 inf_4 rfl rfl rfl (h40).ro hx_49) fun b74 o75 c76 h77 h78 => ?_
    obtain rfl := h77
    refine TL.v (ltb rfl) (rv_ld (v := .bool x73) (o := o75) (o' := o75) (j := 0) sc_4 rfl (Src.at_ 1 rfl) h78 rfl rfl) ?_
    refine TL.v (ltb rfl) (rv_not (b := x73) rfl) ?_
    refine TL.nil ?_
    refine TC.go hK_48 ?_
    by_cases hc_50 : (!x73) = true
    · rw [if_pos hc_50] at hp
      refine TC.condT (bbT hc_50) ?_
      refine TC.region ?_
      refine TL.v (ltb rfl) (rv_ld (v := .func (.func 86) #[] #[.pointer (some ⟨b2, 0, none⟩), .pointer (some ⟨b8, o10, none⟩), .pointer (some ⟨b14, o15, none⟩), .pointer (some ⟨b17, 0, none⟩)]) (o := o15) (o' := o15) (j := 0) sc_147 h_12 Src.H h16 rfl rfl) ?_
      refine TL.v (ltb rfl) (rv_mv (v := .int .i64 x67) rfl) ?_
      obtain ⟨x79, hy_51, hp⟩ := bind_some' hp
      refine TL.callvC (vs := [.int .i64 x67]) (caps := [.pointer (some ⟨b2, 0, none⟩), .pointer (some ⟨b8, o10, none⟩), .pointer (some ⟨b14, o15, none⟩), .pointer (some ⟨b17, 0, none⟩)]) (R := graph_order_1.R b2 b17 x79) [bx b2 30 [v38], F39, bx b17 22 [v42], F43] [] rfl cb_86 (ltb rfl) rfl (mc rfl m0) (fun w hw => hrec _ _ _ x67 x37 a9 x41 _ _ _ _ _ _ _ _ _ _ _ _ h40 (h11.mono subH) (h13.mono subH) (h16.mono subH) h44 hy_51 hw) fun v A' hR_52 => ?_
      obtain ⟨v80, F81, v83, F84, rfl, rfl, h82, h85⟩ := hR_52
      refine TL.norm (L' := [bx b2 30 [v80], F81, bx b17 22 [v83], F84]) rfl ?_
      refine TL.nil ?_
      refine fun w hw => hJ_43 x79.1 x79.2 v80 F81 v83 F84 _ h82 h85 ?_ ?_ ?_ ?_ ?_ ?_ ?_ hp w (hw.pick [0, 0, 0, 0])
      · exact h_10
      · exact h_11
      · exact h_12
      · exact h_13
      · exact h_14
      · exact h_15
      · exact h_16
    · rw [if_neg hc_50] at hp
      refine TC.condF (bbF hc_50) ?_
      refine TC.skip ?_
      refine fun w hw => hJ_43 x37 x41 v38 F39 v42 F43 _ h40 h44 ?_ ?_ ?_ ?_ ?_ ?_ ?_ hp w (hw.pick [0, 0, 0, 0])
      · exact h_10
      · exact h_11
      · exact h_12
      · exact h_13
      · exact h_14
      · exact h_15
      · exact h_16
  · rw [if_neg hc_32] at hp
    refine TC.condF (bF hc_32) ?_
    refine TC.exit ?_
    refine fun w hw => hJ_26 x37 x41 v38 F39 v42 F43 _ h40 h44 ?_ ?_ (ex_ret hp hx_21) w (hw.pick [0, 0, 0, 0])
    · exact h_10
    · exact h_13
def graph_order_1.it : Nat → Int → (List Bool) → (List (List Int)) → (List Int) → Option (List Bool × List Int)
  | 0 => fun _ _ _ _ => none
  | n + 1 => graph_order_1.body (graph_order_1.it n)
theorem graph_order_1.it_ok (n : Nat) : ∀ (E : World) (H : FP) (w : World) (a1 : Int) (a3 : List Bool) (a9 : List (List Int)) (a18 : List Int) (b2 : Nat) (v4 : Value) (F5 : FP) (b8 : Nat) (o10 : Nat) (v12 : Value) (b14 : Nat) (o15 : Nat) (b17 : Nat) (v19 : Value) (F20 : FP) (r : List Bool × List Int) (h6 : SlO 4 kBool a3 v4 F5) (h11 : CellsIn H b8 o10 [v12]) (h13 : SlI (kSl 3 (kInt .i64)) H a9 v12) (h16 : CellsIn H b14 o15 [.func (.func 86) #[] #[.pointer (some ⟨b2, 0, none⟩), .pointer (some ⟨b8, o10, none⟩), .pointer (some ⟨b14, o15, none⟩), .pointer (some ⟨b17, 0, none⟩)]]) (h21 : SlO 3 (kInt .i64) a18 v19 F20), graph_order_1.it n a1 a3 a9 a18 = some r → St E H [bx b2 30 [v4], F5, bx b17 22 [v19], F20] w →
    Fn Try.prog 86 #[.int .i64 a1, .pointer (some ⟨b2, 0, none⟩), .pointer (some ⟨b8, o10, none⟩), .pointer (some ⟨b14, o15, none⟩), .pointer (some ⟨b17, 0, none⟩)] w fun v w' => ∃ A, graph_order_1.R b2 b17 r v A ∧ St E H A w' := by
  induction n with
  | zero => intro E H w a1 a3 a9 a18 b2 v4 F5 b8 o10 v12 b14 o15 b17 v19 F20 r h6 h11 h13 h16 h21 hp; exact absurd hp (by simp [graph_order_1.it])
  | succ n ih => intro E H w a1 a3 a9 a18 b2 v4 F5 b8 o10 v12 b14 o15 b17 v19 F20 r h6 h11 h13 h16 h21 hp hst; exact graph_order_1.body_ok ih h6 h11 h13 h16 h21 hp hst
def graph_order_1 (a1 : Int) (a3 : List Bool) (a9 : List (List Int)) (a18 : List Int) : Option (List Bool × List Int) := graph_order_1.it FUEL a1 a3 a9 a18
theorem graph_order_1_ok {E : World} {H : FP} {w : World} {a1 : Int} {a3 : List Bool} {a9 : List (List Int)} {a18 : List Int} {b2 : Nat} {v4 : Value} {F5 : FP} {b8 : Nat} {o10 : Nat} {v12 : Value} {b14 : Nat} {o15 : Nat} {b17 : Nat} {v19 : Value} {F20 : FP} {r : List Bool × List Int} (h6 : SlO 4 kBool a3 v4 F5) (h11 : CellsIn H b8 o10 [v12]) (h13 : SlI (kSl 3 (kInt .i64)) H a9 v12) (h16 : CellsIn H b14 o15 [.func (.func 86) #[] #[.pointer (some ⟨b2, 0, none⟩), .pointer (some ⟨b8, o10, none⟩), .pointer (some ⟨b14, o15, none⟩), .pointer (some ⟨b17, 0, none⟩)]]) (h21 : SlO 3 (kInt .i64) a18 v19 F20) (hp : graph_order_1 a1 a3 a9 a18 = some r) (hst : St E H [bx b2 30 [v4], F5, bx b17 22 [v19], F20] w) :
    Fn Try.prog 86 #[.int .i64 a1, .pointer (some ⟨b2, 0, none⟩), .pointer (some ⟨b8, o10, none⟩), .pointer (some ⟨b14, o15, none⟩), .pointer (some ⟨b17, 0, none⟩)] w fun v w' => ∃ A, graph_order_1.R b2 b17 r v A ∧ St E H A w' :=
  graph_order_1.it_ok FUEL _ _ _ _ _ _ _ _ _ _ _ _ _ _ _ _ _ _ _ h6 h11 h13 h16 h21 hp hst

/-! ### slices.Reverse[[]int,int] -/
abbrev slices_Reverse.R (v2 : Value) (r : List Int) (v : Value) (A : List FP) : Prop := ∃ (G1 : FP), .tuple #[] = v ∧ A = [G1] ∧ SlO 3 (kInt .i64) r v2 G1
def slices_Reverse.nx13  (x10 : List Int) : Option (List Int) :=
  some x10
def slices_Reverse.jn28 (x8 : Int) (x9 : Int) (x13 : List Int) : Option (Ex (List Int) (List Int × Int × Int)) :=
  some (.go (x13, (w64 (x8 + 1)), (w64 (x9 - 1))))
def slices_Reverse.bd13  (x5 : List Int) (x8 : Int) (x9 : Int) : Option (Ex (List Int) (List Int × Int × Int)) :=
  if x8 < x9 then
    (idx x5 x9).bind fun x2417 =>
    (idx x5 x8).bind fun x4017 =>
    (idx x5 x8).bind fun x4817 =>
    (idx (x5.set (x8).toNat x2417) x9).bind fun x5617 =>
    slices_Reverse.jn28 x8 x9 ((x5.set (x8).toNat x2417).set (x9).toNat x4017)
  else
    some (.ret x5)
def slices_Reverse (a1 : List Int) : Option (List Int) :=
  (whl (fun (s : (List Int × Int × Int)) => slices_Reverse.bd13 s.1 s.2.1 s.2.2) FUEL (a1, 0, (w64 ((len a1) - 1)))).bind fun z =>
  slices_Reverse.nx13 z
theorem slices_Reverse_ok {E : World} {H : FP} {w : World} {a1 : List Int} {v2 : Value} {F3 : FP} {r : List Int} (h4 : SlO 3 (kInt .i64) a1 v2 F3) (hp : slices_Reverse a1 = some r) (hst : St E H [F3] w) :
    Fn Try.prog 87 #[v2] w fun v w' => ∃ A, slices_Reverse.R v2 r v A ∧ St E H A w' := by
  refine Fn.body (fn := Try.f87) (args := [v2]) E H [F3] [] 28 Try.func87 rfl rfl rfl rfl (leb rfl) hst ?_
  unfold slices_Reverse at hp
  refine TC.seq fun K_1 hK_2 => ?_
  refine TC.region ?_
  refine TL.v (ltb rfl) (rv_mv (v := v2) rfl) ?_
  refine TL.v (ltb rfl) (rv_lenI (v := v2) Try.underlying22 rfl h4.ro) ?_
  refine TL.v (ltb rfl) (rv_sub (k := .i64) (m := (len a1)) (n := 1) rfl rfl) ?_
  refine TL.v (ltb rfl) (rv_as (v := .int .i64 0) rfl) ?_
  refine TL.v (ltb rfl) (rv_as (v := .int .i64 (w64 ((len a1) - 1))) rfl) ?_
  refine TL.nil ?_
  refine TC.go hK_2 ?_
  refine TC.named fun K_3 hK_4 => ?_
  refine TC.block ?_
  obtain ⟨z_9, hz_10, hr_11⟩ := bind_some' hp
  clear hp
  have hJ_15 : ∀ (x10 : List Int) (F11 : FP) (e_14 : Env) (h12 : SlO 3 (kInt .i64) x10 v2 F11) (hq_16 : x10 = z_9), ∀ w, St E H [F11] w → K_3 e_14 w := by
    intro x10 F11 e_14 h12 hq_16
    subst hq_16
    replace hp : slices_Reverse.nx13 x10 = some r := hr_11
    unfold slices_Reverse.nx13 at hp
    refine viaK hK_4 ?_
    obtain rfl := Option.some.inj hp
    exact fun w hw => retOk ⟨F11, rfl, rfl, h12⟩ (hw.pick [0])
  refine TC.pk' [0] (L' := [F3]) rfl ?_
  refine TC.loopW (r := z_9) (fun (s : (List Int × Int × Int)) (e_5 : Env) (L_51 : List FP) => ∃ (x5 : List Int) (x8 : Int) (x9 : Int) (F6 : FP), s = (x5, x8, x9) ∧ SlO 3 (kInt .i64) x5 v2 F6 ∧ e_5 0 = v2 ∧ e_5 2 = .int .i64 x8 ∧ e_5 3 = .int .i64 x9 ∧ L_51 = [F6]) ?_ FUEL _ _ _ hz_10 ⟨a1, 0, (w64 ((len a1) - 1)), F3, rfl, h4, rfl, rfl, rfl, rfl⟩
  rintro s e_5 L_51 ⟨x5, x8, x9, F6, rfl, h7, h_6, h_7, h_8, rfl⟩ x_12 hp hx_13
  replace hp : slices_Reverse.bd13 x5 x8 x9 = some x_12 := hp
  unfold slices_Reverse.bd13 at hp
  refine TC.seq fun K_17 hK_18 => ?_
  refine TC.seq fun K_19 hK_20 => ?_
  refine TC.region ?_
  refine TL.v (ltb rfl) (rv_mv (v := .int .i64 x8) h_7) ?_
  refine TL.v (ltb rfl) (rv_mv (v := .int .i64 x9) h_8) ?_
  refine TL.v (ltb rfl) (rv_lss (k := .i64) (m := x8) (n := x9) rfl rfl) ?_
  refine TL.nil ?_
  refine TC.go hK_20 ?_
  by_cases hc_21 : x8 < x9
  · rw [if_pos hc_21] at hp
    refine TC.condT (bT hc_21) ?_
    refine TC.skip ?_
    refine TC.go hK_18 ?_
    refine TC.seq fun K_22 hK_23 => ?_
    have hJ_28 : ∀ (x13 : List Int) (F14 : FP) (e_24 : Env) (h15 : SlO 3 (kInt .i64) x13 v2 F14) (h_25 : e_24 0 = v2) (h_26 : e_24 2 = .int .i64 x8) (h_27 : e_24 3 = .int .i64 x9) (hp : slices_Reverse.jn28 x8 x9 x13 = some x_12), ∀ w, St E H [F14] w → K_22 e_24 w := by
      intro x13 F14 e_24 h15 h_25 h_26 h_27 hp
      unfold slices_Reverse.jn28 at hp
      refine TC.go hK_23 ?_
      refine TC.region ?_
      refine TL.v (ltb rfl) (rv_mv (v := .int .i64 x8) h_26) ?_
      refine TL.v (ltb rfl) (rv_add (k := .i64) (m := x8) (n := 1) rfl rfl) ?_
      refine TL.v (ltb rfl) (rv_mv (v := .int .i64 x9) h_27) ?_
      refine TL.v (ltb rfl) (rv_sub (k := .i64) (m := x9) (n := 1) rfl rfl) ?_
      refine TL.v (ltb rfl) (rv_as (v := .int .i64 (w64 (x8 + 1))) rfl) ?_
      refine TL.v (ltb rfl) (rv_as (v := .int .i64 (w64 (x9 - 1))) rfl) ?_
      refine TL.nil ?_
      exact fun w hw => goOk hp ⟨x13, (w64 (x8 + 1)), (w64 (x9 - 1)), F14, rfl, h15, h_25, rfl, rfl, rfl⟩ (hw.pick [0])
    refine TC.block ?_
    refine TC.held ([].flatten ++ H) mix srcG0 ?_
    refine HL.v 0 rfl trivial (by kernel_rfl) (by kernel_rfl) (by kernel_rfl) (ltb rfl) (rv_mv (v := v2) h_6) ?_
    refine HL.v 1 rfl trivial (by kernel_rfl) (by kernel_rfl) (by kernel_rfl) (ltb rfl) (rv_mv (v := .int .i64 x8) h_7) ?_
    refine HL.v 2 rfl trivial (by kernel_rfl) (by kernel_rfl) (by kernel_rfl) (ltb rfl) (rv_mv (v := v2) h_6) ?_
    refine HL.v 3 rfl trivial (by kernel_rfl) (by kernel_rfl) (by kernel_rfl) (ltb rfl) (rv_mv (v := .int .i64 x9) h_8) ?_
    refine HL.v 4 rfl trivial (by kernel_rfl) (by kernel_rfl) (by kernel_rfl) (ltb rfl) (rv_mv (v := v2) h_6) ?_
    refine HL.v 5 rfl trivial (by kernel_rfl) (by kernel_rfl) (by kernel_rfl) (ltb rfl) (rv_mv (v := .int .i64 x9) h_8) ?_
    obtain ⟨x2417, hx_29, hp⟩ := bind_some' hp
    refine HL.w3 6 rfl trivial (by kernel_rfl) (by kernel_rfl) (by kernel_rfl) (ltb rfl) (rv_ix 22 (.tmp 18) (.tmp 19) (v := v2) (i := x9) Try.underlying22 inf_3 rfl rfl rfl (h7).ro hx_29) fun b2418 o2419 c2420 h2421 h2422 => ?_
    obtain rfl := h2421
    refine HL.v 8 rfl trivial (by kernel_rfl) (by kernel_rfl) (by kernel_rfl) (ltb rfl) (rv_mv (v := v2) h_6) ?_
    refine HL.v 9 rfl trivial (by kernel_rfl) (by kernel_rfl) (by kernel_rfl) (ltb rfl) (rv_mv (v := .int .i64 x8) h_7) ?_
    obtain ⟨x4017, hx_30, hp⟩ := bind_some' hp
    refine HL.w3 10 rfl trivial (by kernel_rfl) (by kernel_rfl) (by kernel_rfl) (ltb rfl) (rv_ix 22 (.tmp 22) (.tmp 23) (v := v2) (i := x8) Try.underlying22 inf_3 rfl rfl rfl (h7).ro hx_30) fun b4018 o4019 c4020 h4021 h4022 => ?_
    obtain rfl := h4021
    refine HL.all [7, 11] (by kernel_rfl) (by simp) (HL.al ⟨_, rfl, fun K_31 hK_32 => ?_⟩ (HL.al ⟨_, rfl, fun K_41 hK_42 => ?_⟩ HL.al0))
    · refine TL.v (ltb rfl) (rv_ld (v := .int .i64 x2417) (o := o2419) (o' := o2419) (j := 0) sc_3 rfl (Src.at_ 0 rfl) h2422 rfl rfl) ?_
      refine TL.nil (hK_32 _ _ srcG0 ?_)
      refine HL.one 11 rfl (by kernel_rfl) fun K_33 hK_34 => ?_
      refine TL.v (ltb rfl) (rv_ld (v := .int .i64 x4017) (o := o4019) (o' := o4019) (j := 0) sc_3 rfl (Src.at_ 0 rfl) h4022 rfl rfl) ?_
      refine TL.nil (hK_34 _ _ srcG0 ?_)
      obtain ⟨x4817, hx_35, hp⟩ := bind_some' hp
      refine HL.w2 12 rfl trivial (by kernel_rfl) (by kernel_rfl) (by kernel_rfl) (ltb rfl) (rv_ixO 22 (.tmp 14) (.tmp 15) (v := v2) (i := x8) Try.underlying22 inf_3 rfl rfl rfl h7 (idx_some hx_35).1 (idx_some hx_35).2.1) fun b4818 o4819 h4820 => ?_
      refine HL.one 13 rfl (by kernel_rfl) fun K_36 hK_37 => ?_
      refine TL.stE0 (ds := [.int .i64 x2417]) (u := .int .i64 x2417) (a := x2417) h7 h4820 ms_3 rfl rfl rfl ⟨rfl, rfl⟩ fun F5217 h5218 => ?_
      refine TL.nil (hK_37 _ _ srcG0 ?_)
      obtain ⟨x5617, hx_38, hp⟩ := bind_some' hp
      refine HL.w2 14 rfl trivial (by kernel_rfl) (by kernel_rfl) (by kernel_rfl) (ltb rfl) (rv_ixO 22 (.tmp 16) (.tmp 17) (v := v2) (i := x9) Try.underlying22 inf_3 rfl rfl rfl h5218 (idx_some hx_38).1 (idx_some hx_38).2.1) fun b5618 o5619 h5620 => ?_
      refine HL.one 15 rfl (by kernel_rfl) fun K_39 hK_40 => ?_
      refine TL.stE0 (ds := [.int .i64 x4017]) (u := .int .i64 x4017) (a := x4017) h5218 h5620 ms_3 rfl rfl rfl ⟨rfl, rfl⟩ fun F6017 h6018 => ?_
      refine TL.nil (hK_40 _ _ srcG0 ?_)
      refine HL.done (by kernel_rfl) ?_
      refine fun w hw => hJ_28 ((x5.set (x8).toNat x2417).set (x9).toNat x4017) F6017 _ h6018 ?_ ?_ ?_ hp w (hw.pick [0])
      · exact h_6
      · exact h_7
      · exact h_8
    · refine TL.v (ltb rfl) (rv_ld (v := .int .i64 x4017) (o := o4019) (o' := o4019) (j := 0) sc_3 rfl (Src.at_ 0 rfl) h4022 rfl rfl) ?_
      refine TL.nil (hK_42 _ _ srcG0 ?_)
      refine HL.one 7 rfl (by kernel_rfl) fun K_43 hK_44 => ?_
      refine TL.v (ltb rfl) (rv_ld (v := .int .i64 x2417) (o := o2419) (o' := o2419) (j := 0) sc_3 rfl (Src.at_ 0 rfl) h2422 rfl rfl) ?_
      refine TL.nil (hK_44 _ _ srcG0 ?_)
      obtain ⟨x4817, hx_45, hp⟩ := bind_some' hp
      refine HL.w2 12 rfl trivial (by kernel_rfl) (by kernel_rfl) (by kernel_rfl) (ltb rfl) (rv_ixO 22 (.tmp 14) (.tmp 15) (v := v2) (i := x8) Try.underlying22 inf_3 rfl rfl rfl h7 (idx_some hx_45).1 (idx_some hx_45).2.1) fun b4818 o4819 h4820 => ?_
      refine HL.one 13 rfl (by kernel_rfl) fun K_46 hK_47 => ?_
      refine TL.stE0 (ds := [.int .i64 x2417]) (u := .int .i64 x2417) (a := x2417) h7 h4820 ms_3 rfl rfl rfl ⟨rfl, rfl⟩ fun F5217 h5218 => ?_
      refine TL.nil (hK_47 _ _ srcG0 ?_)
      obtain ⟨x5617, hx_48, hp⟩ := bind_some' hp
      refine HL.w2 14 rfl trivial (by kernel_rfl) (by kernel_rfl) (by kernel_rfl) (ltb rfl) (rv_ixO 22 (.tmp 16) (.tmp 17) (v := v2) (i := x9) Try.underlying22 inf_3 rfl rfl rfl h5218 (idx_some hx_48).1 (idx_some hx_48).2.1) fun b5618 o5619 h5620 => ?_
      refine HL.one 15 rfl (by kernel_rfl) fun K_49 hK_50 => ?_
      refine TL.stE0 (ds := [.int .i64 x4017]) (u := .int .i64 x4017) (a := x4017) h5218 h5620 ms_3 rfl rfl rfl ⟨rfl, rfl⟩ fun F6017 h6018 => ?_
      refine TL.nil (hK_50 _ _ srcG0 ?_)
      refine HL.done (by kernel_rfl) ?_
      refine fun w hw => hJ_28 ((x5.set (x8).toNat x2417).set (x9).toNat x4017) F6017 _ h6018 ?_ ?_ ?_ hp w (hw.pick [0])
      · exact h_6
      · exact h_7
      · exact h_8
  · rw [if_neg hc_21] at hp
    refine TC.condF (bF hc_21) ?_
    refine TC.exit ?_
    refine fun w hw => hJ_15 x5 F6 _ h7 (ex_ret hp hx_13) w (hw.pick [0])

/-! ### fettle/graph.order -/
abbrev graph_order.R (r : List Int × List Bool) (v : Value) (A : List FP) : Prop := ∃ (w1 : Value) (G1 : FP) (w2 : Value) (G2 : FP), .tuple #[w1, w2] = v ∧ A = [G1, G2] ∧ SlO 3 (kInt .i64) r.1 w1 G1 ∧ SlO 4 kBool r.2 w2 G2
def graph_order.jn21  (x19 : List Bool) (x23 : List Int) : Option (List Int × List Bool) :=
  (slices_Reverse x23).bind fun x27 =>
  some (x27, x19)
def graph_order (a1 : PFunc) : Option (List Int × List Bool) :=
  (graph_Next a1).bind fun x7 =>
  (mkl (len x7) false).bind fun x12 =>
  if (len x7) > 0 then
    (graph_order_1 0 x12 x7 ([] : List Int)).bind fun x31 =>
    graph_order.jn21 x31.1 x31.2
  else
    graph_order.jn21 x12 ([] : List Int)
theorem graph_order_ok {E : World} {H : FP} {w : World} {a1 : PFunc} {v2 : Value} {v4 : Value} {r : List Int × List Bool} (h3 : SlI (kInt .i64) H a1.regs v2) (h5 : SlI kBlock H a1.blocks v4) (hp : graph_order a1 = some r) (hst : St E H [] w) :
    Fn Try.prog 61 #[.agg #[.int .i64 a1.params, .int .i64 a1.result, v2, v4]] w fun v w' => ∃ A, graph_order.R r v A ∧ St E H A w' := by
  refine Fn.body (fn := Try.f61) (args := [.agg #[.int .i64 a1.params, .int .i64 a1.result, v2, v4]]) E H [] [.tmp 2, .tmp 3] 23 Try.func61 rfl rfl rfl rfl (leb rfl) hst ?_
  unfold graph_order at hp
  refine TC.seq fun K_1 hK_2 => ?_
  refine TC.region ?_
  refine TL.box (cs := [.int .i64 a1.params, .int .i64 a1.result, v2, v4]) (v := .agg #[.int .i64 a1.params, .int .i64 a1.result, v2, v4]) (ltb rfl) rfl rfl fun b6 => ?_
  refine TL.v (ltb rfl) (rv_as (v := .slice none 0 0) rfl) ?_
  refine TL.v (ltb rfl) (rv_as (v := .slice none 0 0) rfl) ?_
  refine TL.nil ?_
  refine TC.go hK_2 ?_
  refine TC.seq fun K_3 hK_4 => ?_
  refine TC.region ?_
  refine TL.v (ltb rfl) (rv_lda (o := 0) (o' := 0) (j := 0) (ds := [.int .i64 a1.params, .int .i64 a1.result, v2, v4]) ag_25 rfl (Src.at_ 0 rfl) (bx_cells b6 25 _) rfl rfl rfl) ?_
  obtain ⟨x7, hy_5, hp⟩ := bind_some' hp
  refine TL.callC (vs := [.agg #[.int .i64 a1.params, .int .i64 a1.result, v2, v4]]) (R := graph_Next.R x7) [] [bx b6 25 [.int .i64 a1.params, .int .i64 a1.result, v2, v4]] rfl cb_18 (ltb rfl) (mc rfl m0) (fun w hw => graph_Next_ok (a1 := a1) (h3.mono subH) (h5.mono subH) hy_5 hw) fun v A' hR_6 => ?_
  obtain ⟨v8, F9, rfl, rfl, h10⟩ := hR_6
  refine TL.norm (L' := [F9, bx b6 25 [.int .i64 a1.params, .int .i64 a1.result, v2, v4]]) rfl ?_
  refine TL.alloc (cs := [.slice none 0 0]) inf_28 (ltb rfl) rfl fun b11 => ?_
  refine TL.stB (ds := [v8]) (o := 0) (cs := [.slice none 0 0]) (b := b11) (u := v8) 0 rfl ms_28 rfl rfl (SlO.cells h10) (oc (h10).one oc0) (leb rfl) ?_
  refine TL.norm (L' := [bx b11 28 [v8], F9, bx b6 25 [.int .i64 a1.params, .int .i64 a1.result, v2, v4]]) rfl ?_
  refine TL.nil ?_
  refine TC.go hK_4 ?_
  refine TC.seq fun K_7 hK_8 => ?_
  refine TC.region ?_
  refine TL.v (ltb rfl) (rv_ld (v := v8) (o := 0) (o' := 0) (j := 0) sc_28 rfl (Src.at_ 0 rfl) (bx_cells b11 28 _) rfl rfl) ?_
  refine TL.v (ltb rfl) (rv_lenI (v := v8) Try.underlying28 rfl h10.ro) ?_
  obtain ⟨x12, hz_9, hp⟩ := bind_some' hp
  refine TL.mk (k := kBool) (n := (len x7)) (x0 := false) Try.underlying30 inf_4 (ltb rfl) (ltb rfl) rfl rfl (leb rfl) rfl ⟨rfl, rfl⟩ hz_9 fun v13 F14 h15 => ?_
  refine TL.alloc (cs := [.slice none 0 0]) inf_30 (ltb rfl) rfl fun b16 => ?_
  refine TL.stB (ds := [v13]) (o := 0) (cs := [.slice none 0 0]) (b := b16) (u := v13) 0 rfl ms_30 rfl rfl (SlO.cells h15) (oc (h15).one oc0) (leb rfl) ?_
  refine TL.norm (L' := [bx b16 30 [v13], F14, bx b11 28 [v8], F9, bx b6 25 [.int .i64 a1.params, .int .i64 a1.result, v2, v4]]) rfl ?_
  refine TL.nil ?_
  refine TC.go hK_8 ?_
  refine TC.seq fun K_10 hK_11 => ?_
  refine TC.region ?_
  refine TL.alloc (cs := [.slice none 0 0]) inf_22 (ltb rfl) rfl fun b17 => ?_
  refine TL.nil ?_
  refine TC.go hK_11 ?_
  refine TC.seq fun K_12 hK_13 => ?_
  refine TC.region ?_
  refine TL.alloc (cs := [.nilFunc]) inf_147 (ltb rfl) rfl fun b18 => ?_
  refine TL.nil ?_
  refine TC.go hK_13 ?_
  refine TC.seq fun K_14 hK_15 => ?_
  refine TC.region ?_
  refine TL.v (ltb rfl) (rv_makeFunc (vs := [.pointer (some ⟨b16, 0, none⟩), .pointer (some ⟨b11, 0, none⟩), .pointer (some ⟨b18, 0, none⟩), .pointer (some ⟨b17, 0, none⟩)]) (mc rfl (mc rfl (mc rfl (mc rfl m0))))) ?_
  refine TL.stB (ds := [.func (.func 86) #[] #[.pointer (some ⟨b16, 0, none⟩), .pointer (some ⟨b11, 0, none⟩), .pointer (some ⟨b18, 0, none⟩), .pointer (some ⟨b17, 0, none⟩)]]) (o := 0) (cs := [.nilFunc]) (b := b18) (u := .func (.func 86) #[] #[.pointer (some ⟨b16, 0, none⟩), .pointer (some ⟨b11, 0, none⟩), .pointer (some ⟨b18, 0, none⟩), .pointer (some ⟨b17, 0, none⟩)]) 0 rfl ms_147 rfl rfl rfl (oc rfl oc0) (leb rfl) ?_
  refine TL.norm (L' := [bx b18 147 [.func (.func 86) #[] #[.pointer (some ⟨b16, 0, none⟩), .pointer (some ⟨b11, 0, none⟩), .pointer (some ⟨b18, 0, none⟩), .pointer (some ⟨b17, 0, none⟩)]], bx b17 22 [.slice none 0 0], bx b16 30 [v13], F14, bx b11 28 [v8], F9, bx b6 25 [.int .i64 a1.params, .int .i64 a1.result, v2, v4]]) rfl ?_
  refine TL.nil ?_
  refine TC.go hK_15 ?_
  refine TC.seq fun K_16 hK_17 => ?_
  have hJ_21 : ∀ (x19 : List Bool) (x23 : List Int) (v20 : Value) (F21 : FP) (v24 : Value) (F25 : FP) (e_18 : Env) (h22 : SlO 4 kBool x19 v20 F21) (h26 : SlO 3 (kInt .i64) x23 v24 F25) (h_19 : e_18 5 = .pointer (some ⟨b16, 0, none⟩)) (h_20 : e_18 6 = .pointer (some ⟨b17, 0, none⟩)) (hp : graph_order.jn21 x19 x23 = some r), ∀ w, St E H [bx b16 30 [v20], F21, bx b17 22 [v24], F25] w → K_16 e_18 w := by
    intro x19 x23 v20 F21 v24 F25 e_18 h22 h26 h_19 h_20 hp
    unfold graph_order.jn21 at hp
    refine TC.go hK_17 ?_
    refine TC.seq fun K_22 hK_23 => ?_
    refine TC.region ?_
    refine TL.v (ltb rfl) (rv_ld (v := v24) (o := 0) (o' := 0) (j := 0) sc_22 h_20 (Src.at_ 2 rfl) (bx_cells b17 22 _) rfl rfl) ?_
    refine TL.pk' [3, 0, 0, 0] (L' := [F25, bx b16 30 [v20], F21, bx b17 22 [v24]]) rfl ?_
    obtain ⟨x27, hy_24, hp⟩ := bind_some' hp
    refine TL.callC (vs := [v24]) (R := slices_Reverse.R v24 x27) [F25] [bx b16 30 [v20], F21, bx b17 22 [v24]] rfl cb_87 (ltb rfl) (mc rfl m0) (fun w hw => slices_Reverse_ok (a1 := x23) h26 hy_24 hw) fun v A' hR_25 => ?_
    obtain ⟨F28, rfl, rfl, h29⟩ := hR_25
    refine TL.norm (L' := [F28, bx b16 30 [v20], F21, bx b17 22 [v24]]) rfl ?_
    refine TL.nil ?_
    refine TC.go hK_23 ?_
    refine TC.seq fun K_26 hK_27 => ?_
    refine TC.quiet mix (by kernel_rfl) ?_
    refine QL.v (ltb rfl) (rv_ld (v := v24) (o := 0) (o' := 0) (j := 0) sc_22 h_20 (Src.at_ 3 rfl) (bx_cells b17 22 _) rfl rfl) ?_
    refine QL.v (ltb rfl) (rv_ld (v := v20) (o := 0) (o' := 0) (j := 0) sc_30 h_19 (Src.at_ 1 rfl) (bx_cells b16 30 _) rfl rfl) ?_
    refine QL.v (ltb rfl) (rv_as (v := v24) rfl) ?_
    refine QL.v (ltb rfl) (rv_as (v := v20) rfl) ?_
    refine QL.nil ?_
    refine TC.go hK_27 ?_
    refine TC.ret ?_
    obtain rfl := Option.some.inj hp
    exact fun w hw => retOk ⟨v24, F28, v20, F21, (tu2 rfl rfl).symm, rfl, h29, h22⟩ (hw.pick [0, 1])
  refine TC.seq fun K_28 hK_29 => ?_
  refine TC.region ?_
  refine TL.v (ltb rfl) (rv_ld (v := v8) (o := 0) (o' := 0) (j := 0) sc_28 rfl (Src.at_ 4 rfl) (bx_cells b11 28 _) rfl rfl) ?_
  refine TL.v (ltb rfl) (rv_lenI (v := v8) Try.underlying28 rfl h10.ro) ?_
  refine TL.v (ltb rfl) (rv_gtr (k := .i64) (m := (len x7)) (n := 0) rfl rfl) ?_
  refine TL.nil ?_
  refine TC.go hK_29 ?_
  by_cases hc_30 : (len x7) > 0
  · rw [if_pos hc_30] at hp
    refine TC.condT (bT hc_30) ?_
    refine TC.region ?_
    refine TL.v (ltb rfl) (rv_ld (v := .func (.func 86) #[] #[.pointer (some ⟨b16, 0, none⟩), .pointer (some ⟨b11, 0, none⟩), .pointer (some ⟨b18, 0, none⟩), .pointer (some ⟨b17, 0, none⟩)]) (o := 0) (o' := 0) (j := 0) sc_147 rfl (Src.at_ 0 rfl) (bx_cells b18 147 _) rfl rfl) ?_
    refine TL.new0 ?_
    refine TL.pk' [3, 3, 2, 0, 0, 0, 0, 0] (L' := [bx b16 30 [v13], F14, bx b17 22 [(.slice none 0 0)], ([] : FP), bx b18 147 [.func (.func 86) #[] #[.pointer (some ⟨b16, 0, none⟩), .pointer (some ⟨b11, 0, none⟩), .pointer (some ⟨b18, 0, none⟩), .pointer (some ⟨b17, 0, none⟩)]], bx b11 28 [v8], F9, bx b6 25 [.int .i64 a1.params, .int .i64 a1.result, v2, v4]]) rfl ?_
    obtain ⟨x31, hy_31, hp⟩ := bind_some' hp
    refine TL.callvC (vs := [.int .i64 0]) (caps := [.pointer (some ⟨b16, 0, none⟩), .pointer (some ⟨b11, 0, none⟩), .pointer (some ⟨b18, 0, none⟩), .pointer (some ⟨b17, 0, none⟩)]) (R := graph_order_1.R b16 b17 x31) [bx b16 30 [v13], F14, bx b17 22 [(.slice none 0 0)], ([] : FP)] [bx b18 147 [.func (.func 86) #[] #[.pointer (some ⟨b16, 0, none⟩), .pointer (some ⟨b11, 0, none⟩), .pointer (some ⟨b18, 0, none⟩), .pointer (some ⟨b17, 0, none⟩)]], bx b11 28 [v8], F9, bx b6 25 [.int .i64 a1.params, .int .i64 a1.result, v2, v4]] rfl cb_86 (ltb rfl) rfl (mc rfl m0) (fun w hw => graph_order_1_ok (a1 := 0) (a3 := x12) (a9 := x7) (a18 := ([] : List Int)) h15 ((bx_cells b11 28 _).mono (subB 1 rfl)) (h10.ro.mono (subB 2 rfl)) ((bx_cells b18 147 _).mono (subB 0 rfl)) (SlO.nil 3) hy_31 hw) fun v A' hR_32 => ?_
    obtain ⟨v32, F33, v35, F36, rfl, rfl, h34, h37⟩ := hR_32
    refine TL.norm (L' := [bx b16 30 [v32], F33, bx b17 22 [v35], F36, bx b18 147 [.func (.func 86) #[] #[.pointer (some ⟨b16, 0, none⟩), .pointer (some ⟨b11, 0, none⟩), .pointer (some ⟨b18, 0, none⟩), .pointer (some ⟨b17, 0, none⟩)]], bx b11 28 [v8], F9, bx b6 25 [.int .i64 a1.params, .int .i64 a1.result, v2, v4]]) rfl ?_
    refine TL.nil ?_
    refine fun w hw => hJ_21 x31.1 x31.2 v32 F33 v35 F36 _ h34 h37 ?_ ?_ hp w (hw.pick [0, 0, 0, 0])
    · exact rfl
    · exact rfl
  · rw [if_neg hc_30] at hp
    refine TC.condF (bF hc_30) ?_
    refine TC.skip ?_
    refine W.new0 ?_
    refine fun w hw => hJ_21 x12 ([] : List Int) v13 F14 (.slice none 0 0) ([] : FP) _ h15 (SlO.nil 3) ?_ ?_ hp w (hw.pick [3, 3, 2, 0])
    · exact rfl
    · exact rfl

/-! ### fettle/graph.Reached -/
abbrev graph_Reached.R (r : List Bool) (v : Value) (A : List FP) : Prop := ∃ (w1 : Value) (G1 : FP), w1 = v ∧ A = [G1] ∧ SlO 4 kBool r w1 G1
def graph_Reached (a1 : PFunc) : Option (List Bool) :=
  (graph_order a1).bind fun x7 =>
  some x7.2
theorem graph_Reached_ok {E : World} {H : FP} {w : World} {a1 : PFunc} {v2 : Value} {v4 : Value} {r : List Bool} (h3 : SlI (kInt .i64) H a1.regs v2) (h5 : SlI kBlock H a1.blocks v4) (hp : graph_Reached a1 = some r) (hst : St E H [] w) :
    Fn Try.prog 19 #[.agg #[.int .i64 a1.params, .int .i64 a1.result, v2, v4]] w fun v w' => ∃ A, graph_Reached.R r v A ∧ St E H A w' := by
  refine Fn.body (fn := Try.f19) (args := [.agg #[.int .i64 a1.params, .int .i64 a1.result, v2, v4]]) E H [] [.tmp 2] 11 Try.func19 rfl rfl rfl rfl (leb rfl) hst ?_
  unfold graph_Reached at hp
  refine TC.seq fun K_1 hK_2 => ?_
  refine TC.region ?_
  refine TL.box (cs := [.int .i64 a1.params, .int .i64 a1.result, v2, v4]) (v := .agg #[.int .i64 a1.params, .int .i64 a1.result, v2, v4]) (ltb rfl) rfl rfl fun b6 => ?_
  refine TL.v (ltb rfl) (rv_as (v := .slice none 0 0) rfl) ?_
  refine TL.nil ?_
  refine TC.go hK_2 ?_
  refine TC.seq fun K_3 hK_4 => ?_
  refine TC.region ?_
  refine TL.v (ltb rfl) (rv_lda (o := 0) (o' := 0) (j := 0) (ds := [.int .i64 a1.params, .int .i64 a1.result, v2, v4]) ag_25 rfl (Src.at_ 0 rfl) (bx_cells b6 25 _) rfl rfl rfl) ?_
  obtain ⟨x7, hy_5, hp⟩ := bind_some' hp
  refine TL.callC (vs := [.agg #[.int .i64 a1.params, .int .i64 a1.result, v2, v4]]) (R := graph_order.R x7) [] [bx b6 25 [.int .i64 a1.params, .int .i64 a1.result, v2, v4]] rfl cb_61 (ltb rfl) (mc rfl m0) (fun w hw => graph_order_ok (a1 := a1) (h3.mono subH) (h5.mono subH) hy_5 hw) fun v A' hR_6 => ?_
  obtain ⟨v8, F9, v11, F12, rfl, rfl, h10, h13⟩ := hR_6
  refine TL.norm (L' := [F9, F12, bx b6 25 [.int .i64 a1.params, .int .i64 a1.result, v2, v4]]) rfl ?_
  refine TL.v (ltb rfl) (rv_mv (v := .tuple #[v8, v11]) rfl) ?_
  refine TL.v (ltb rfl) (rv_extract (vs := #[v8, v11]) (v := v8) rfl rfl) ?_
  refine TL.v (ltb rfl) (rv_extract (vs := #[v8, v11]) (v := v11) rfl rfl) ?_
  refine TL.v (ltb rfl) (rv_as (v := v8) rfl) ?_
  refine TL.v (ltb rfl) (rv_as (v := v11) rfl) ?_
  refine TL.nil ?_
  refine TC.go hK_4 ?_
  refine TC.seq fun K_7 hK_8 => ?_
  refine TC.region ?_
  refine TL.v (ltb rfl) (rv_mv (v := v11) rfl) ?_
  refine TL.v (ltb rfl) (rv_as (v := v11) rfl) ?_
  refine TL.nil ?_
  refine TC.go hK_8 ?_
  refine TC.ret ?_
  obtain rfl := Option.some.inj hp
  exact fun w hw => retOk ⟨v11, F12, rfl, rfl, h13⟩ (hw.pick [1])

/-! ### fettle/graph.Order -/
abbrev graph_Order.R (r : List Int) (v : Value) (A : List FP) : Prop := ∃ (w1 : Value) (G1 : FP), w1 = v ∧ A = [G1] ∧ SlO 3 (kInt .i64) r w1 G1
def graph_Order (a1 : PFunc) : Option (List Int) :=
  (graph_order a1).bind fun x7 =>
  some x7.1
theorem graph_Order_ok {E : World} {H : FP} {w : World} {a1 : PFunc} {v2 : Value} {v4 : Value} {r : List Int} (h3 : SlI (kInt .i64) H a1.regs v2) (h5 : SlI kBlock H a1.blocks v4) (hp : graph_Order a1 = some r) (hst : St E H [] w) :
    Fn Try.prog 20 #[.agg #[.int .i64 a1.params, .int .i64 a1.result, v2, v4]] w fun v w' => ∃ A, graph_Order.R r v A ∧ St E H A w' := by
  refine Fn.body (fn := Try.f20) (args := [.agg #[.int .i64 a1.params, .int .i64 a1.result, v2, v4]]) E H [] [.tmp 2] 11 Try.func20 rfl rfl rfl rfl (leb rfl) hst ?_
  unfold graph_Order at hp
  refine TC.seq fun K_1 hK_2 => ?_
  refine TC.region ?_
  refine TL.box (cs := [.int .i64 a1.params, .int .i64 a1.result, v2, v4]) (v := .agg #[.int .i64 a1.params, .int .i64 a1.result, v2, v4]) (ltb rfl) rfl rfl fun b6 => ?_
  refine TL.v (ltb rfl) (rv_as (v := .slice none 0 0) rfl) ?_
  refine TL.nil ?_
  refine TC.go hK_2 ?_
  refine TC.seq fun K_3 hK_4 => ?_
  refine TC.region ?_
  refine TL.v (ltb rfl) (rv_lda (o := 0) (o' := 0) (j := 0) (ds := [.int .i64 a1.params, .int .i64 a1.result, v2, v4]) ag_25 rfl (Src.at_ 0 rfl) (bx_cells b6 25 _) rfl rfl rfl) ?_
  obtain ⟨x7, hy_5, hp⟩ := bind_some' hp
  refine TL.callC (vs := [.agg #[.int .i64 a1.params, .int .i64 a1.result, v2, v4]]) (R := graph_order.R x7) [] [bx b6 25 [.int .i64 a1.params, .int .i64 a1.result, v2, v4]] rfl cb_61 (ltb rfl) (mc rfl m0) (fun w hw => graph_order_ok (a1 := a1) (h3.mono subH) (h5.mono subH) hy_5 hw) fun v A' hR_6 => ?_
  obtain ⟨v8, F9, v11, F12, rfl, rfl, h10, h13⟩ := hR_6
  refine TL.norm (L' := [F9, F12, bx b6 25 [.int .i64 a1.params, .int .i64 a1.result, v2, v4]]) rfl ?_
  refine TL.v (ltb rfl) (rv_mv (v := .tuple #[v8, v11]) rfl) ?_
  refine TL.v (ltb rfl) (rv_extract (vs := #[v8, v11]) (v := v8) rfl rfl) ?_
  refine TL.v (ltb rfl) (rv_extract (vs := #[v8, v11]) (v := v11) rfl rfl) ?_
  refine TL.v (ltb rfl) (rv_as (v := v8) rfl) ?_
  refine TL.v (ltb rfl) (rv_as (v := v11) rfl) ?_
  refine TL.nil ?_
  refine TC.go hK_4 ?_
  refine TC.seq fun K_7 hK_8 => ?_
  refine TC.region ?_
  refine TL.v (ltb rfl) (rv_mv (v := v8) rfl) ?_
  refine TL.v (ltb rfl) (rv_as (v := v8) rfl) ?_
  refine TL.nil ?_
  refine TC.go hK_8 ?_
  refine TC.ret ?_
  obtain rfl := Option.some.inj hp
  exact fun w hw => retOk ⟨v8, F9, rfl, rfl, h10⟩ (hw.pick [0])

/-! ### fettle/fettlelaw05.up -/
abbrev fettlelaw05_up.R (r : Bool) (v : Value) (A : List FP) : Prop := .bool r = v ∧ A = []
def fettlelaw05_up.jn9  (x13 : List PBlock) : Option Bool :=
  (graph_Order (⟨0, 0, [], x13⟩ : PFunc)).bind fun x16 =>
  (if (len x16) = 3 then (idx x16 0).bind fun x35 =>
  some (decide (x35 = 0)) else some false).bind fun t20 =>
  (if t20 = true then (idx x16 1).bind fun x29 =>
  some (decide (x29 = 2)) else some false).bind fun t21 =>
  (if t21 = true then (idx x16 2).bind fun x23 =>
  some (decide (x23 = 1)) else some false).bind fun t22 =>
  some t22
def fettlelaw05_up  : Option Bool :=
  (idx ([(⟨2, 0, [2, 1]⟩ : PTerm), (⟨3, 0, ([] : List Int)⟩ : PTerm), (⟨1, 0, [1]⟩ : PTerm)]) 0).bind fun x442 =>
  (idx ([(⟨2, 0, [2, 1]⟩ : PTerm), (⟨3, 0, ([] : List Int)⟩ : PTerm), (⟨1, 0, [1]⟩ : PTerm)]) 1).bind fun x2042 =>
  (idx ([(⟨2, 0, [2, 1]⟩ : PTerm), (⟨3, 0, ([] : List Int)⟩ : PTerm), (⟨1, 0, [1]⟩ : PTerm)]) 2).bind fun x3642 =>
  fettlelaw05_up.jn9 ([(⟨[], [], (⟨x442.kind, x442.arg, x442.to⟩ : PTerm)⟩ : PBlock), (⟨[], [], (⟨x2042.kind, x2042.arg, x2042.to⟩ : PTerm)⟩ : PBlock), (⟨[], [], (⟨x3642.kind, x3642.arg, x3642.to⟩ : PTerm)⟩ : PBlock)])
theorem fettlelaw05_up_ok {E : World} {H : FP} {w : World} {r : Bool}  (hp : fettlelaw05_up = some r) (hst : St E H [] w) :
    Fn Try.prog 16 #[] w fun v w' => ∃ A, fettlelaw05_up.R r v A ∧ St E H A w' := by
  refine Fn.body (fn := Try.f16) (args := []) E H [] [.tmp 0] 47 Try.func16 rfl rfl rfl rfl (leb rfl) hst ?_
  unfold fettlelaw05_up at hp
  refine TC.seq fun K_1 hK_2 => ?_
  refine TC.region ?_
  refine TL.v (ltb rfl) (rv_as (v := .bool false) rfl) ?_
  refine TL.nil ?_
  refine TC.go hK_2 ?_
  refine TC.seq fun K_3 hK_4 => ?_
  refine TC.region ?_
  refine TL.bv (vs := [(0, .int .i64 2), (1, .int .i64 1)]) (cs := [.int .i64 2, .int .i64 1]) (pc rfl (pc rfl p0)) Try.underlying22 inf_3 (ltb rfl) (by decide) (by decide) (by kernel_rfl) fun b1 => ?_
  refine TL.v (ltb rfl) (rv_bv (vs := [(0, .int .i64 2), (2, .slice (some ⟨b1, 0, none⟩) 2 2)]) (ds := [.int .i64 2, .int .i64 0, .slice (some ⟨b1, 0, none⟩) 2 2]) (pc rfl (pc rfl p0)) (fun w => by kernel_rfl)) ?_
  refine TL.v (ltb rfl) (rv_bv (vs := [(0, .int .i64 3)]) (ds := [.int .i64 3, .int .i64 0, .slice none 0 0]) (pc rfl p0) (fun w => by kernel_rfl)) ?_
  refine TL.bv (vs := [(0, .int .i64 1)]) (cs := [.int .i64 1]) (pc rfl p0) Try.underlying22 inf_3 (ltb rfl) (by decide) (by decide) (by kernel_rfl) fun b2 => ?_
  refine TL.v (ltb rfl) (rv_bv (vs := [(0, .int .i64 1), (2, .slice (some ⟨b2, 0, none⟩) 1 1)]) (ds := [.int .i64 1, .int .i64 0, .slice (some ⟨b2, 0, none⟩) 1 1]) (pc rfl (pc rfl p0)) (fun w => by kernel_rfl)) ?_
  refine TL.bv (vs := [(0, .agg #[.int .i64 2, .int .i64 0, .slice (some ⟨b1, 0, none⟩) 2 2]), (1, .agg #[.int .i64 3, .int .i64 0, .slice none 0 0]), (2, .agg #[.int .i64 1, .int .i64 0, .slice (some ⟨b2, 0, none⟩) 1 1])]) (cs := [.int .i64 2, .int .i64 0, .slice (some ⟨b1, 0, none⟩) 2 2, .int .i64 3, .int .i64 0, .slice none 0 0, .int .i64 1, .int .i64 0, .slice (some ⟨b2, 0, none⟩) 1 1]) (pc rfl (pc rfl (pc rfl p0))) Try.underlying113 inf_81 (ltb rfl) (by decide) (by decide) (by kernel_rfl) fun b3 => ?_
  refine TL.v (ltb rfl) (rv_as (v := .slice (some ⟨b3, 0, none⟩) 3 3) rfl) ?_
  refine TL.nil ?_
  refine W.pk' [2, 0, 0] (L' := [bx b1 3 [.int .i64 2, .int .i64 1], bx b3 81 [.int .i64 2, .int .i64 0, .slice (some ⟨b1, 0, none⟩) 2 2, .int .i64 3, .int .i64 0, .slice none 0 0, .int .i64 1, .int .i64 0, .slice (some ⟨b2, 0, none⟩) 1 1], bx b2 3 [.int .i64 1]]) rfl ?_
  refine W.perm (L' := [bx b1 3 [.int .i64 2, .int .i64 1], [], bx b3 81 [.int .i64 2, .int .i64 0, .slice (some ⟨b1, 0, none⟩) 2 2, .int .i64 3, .int .i64 0, .slice none 0 0, .int .i64 1, .int .i64 0, .slice (some ⟨b2, 0, none⟩) 1 1], bx b2 3 [.int .i64 1]]) (by simp) ?_
  refine W.litOwn (n := 2) (xs := [2, 1]) (RepL.to (RepL.cons (k := (kInt .i64)) (x := 2) ⟨rfl, rfl⟩ (RepL.cons (k := (kInt .i64)) (x := 1) ⟨rfl, rfl⟩ RepL.nil)) rfl) rfl rfl (ltb rfl) fun F4 h5 => ?_
  refine W.new0 ?_
  refine W.pk' [3, 0, 0, 0] (L' := [bx b2 3 [.int .i64 1], ([] : FP), F4, bx b3 81 [.int .i64 2, .int .i64 0, (.slice (some ⟨b1, 0, none⟩) 2 2), .int .i64 3, .int .i64 0, .slice none 0 0, .int .i64 1, .int .i64 0, .slice (some ⟨b2, 0, none⟩) 1 1]]) rfl ?_
  refine W.perm (L' := [bx b2 3 [.int .i64 1], [], ([] : FP), F4, bx b3 81 [.int .i64 2, .int .i64 0, (.slice (some ⟨b1, 0, none⟩) 2 2), .int .i64 3, .int .i64 0, .slice none 0 0, .int .i64 1, .int .i64 0, .slice (some ⟨b2, 0, none⟩) 1 1]]) (by simp) ?_
  refine W.litOwn (n := 1) (xs := [1]) (RepL.to (RepL.cons (k := (kInt .i64)) (x := 1) ⟨rfl, rfl⟩ RepL.nil) rfl) rfl rfl (ltb rfl) fun F7 h8 => ?_
  refine W.pk' [3, 2, 1, 0] (L' := [bx b3 81 [.int .i64 2, .int .i64 0, (.slice (some ⟨b1, 0, none⟩) 2 2), .int .i64 3, .int .i64 0, (.slice none 0 0), .int .i64 1, .int .i64 0, (.slice (some ⟨b2, 0, none⟩) 1 1)], F4, ([] : FP), F7]) rfl ?_
  refine W.perm (L' := [bx b3 81 [.int .i64 2, .int .i64 0, (.slice (some ⟨b1, 0, none⟩) 2 2), .int .i64 3, .int .i64 0, (.slice none 0 0), .int .i64 1, .int .i64 0, (.slice (some ⟨b2, 0, none⟩) 1 1)], F4 ++ (([] : FP) ++ (F7 ++ []))]) (by simp) ?_
  refine W.litOwn (n := 3) (xs := [(⟨2, 0, [2, 1]⟩ : PTerm), (⟨3, 0, ([] : List Int)⟩ : PTerm), (⟨1, 0, [1]⟩ : PTerm)]) (RepL.to (RepL.cons (k := kTerm) (x := (⟨2, 0, [2, 1]⟩ : PTerm)) ⟨_, _, rfl, rfl, h5⟩ (RepL.cons (k := kTerm) (x := (⟨3, 0, ([] : List Int)⟩ : PTerm)) ⟨_, _, rfl, rfl, (SlO.nil 3)⟩ (RepL.cons (k := kTerm) (x := (⟨1, 0, [1]⟩ : PTerm)) ⟨_, _, rfl, rfl, h8⟩ RepL.nil))) rfl) rfl rfl (ltb rfl) fun F9 h10 => ?_
  refine TC.go hK_4 ?_
  refine TC.seq fun K_5 hK_6 => ?_
  have hJ_9 : ∀ (x13 : List PBlock) (b11 : Nat) (F12 : FP) (v14 : Value) (e_7 : Env) (h15 : SlI kBlock (F12 ++ (F9 ++ H)) x13 v14) (h_8 : e_7 2 = .pointer (some ⟨b11, 0, none⟩)) (hp : fettlelaw05_up.jn9 x13 = some r), ∀ w, St E H [bx b11 25 [.int .i64 0, .int .i64 0, .slice none 0 0, v14], F12, F9] w → K_5 e_7 w := by
    intro x13 b11 F12 v14 e_7 h15 h_8 hp
    unfold fettlelaw05_up.jn9 at hp
    refine TC.go hK_6 ?_
    refine TC.seq fun K_10 hK_11 => ?_
    refine TC.region ?_
    refine TL.v (ltb rfl) (rv_lda (o := 0) (o' := 0) (j := 0) (ds := [.int .i64 0, .int .i64 0, .slice none 0 0, v14]) ag_25 h_8 (Src.at_ 0 rfl) (bx_cells b11 25 _) rfl rfl rfl) ?_
    obtain ⟨x16, hy_12, hp⟩ := bind_some' hp
    refine TL.callC (vs := [.agg #[.int .i64 0, .int .i64 0, .slice none 0 0, v14]]) (R := graph_Order.R x16) [] [bx b11 25 [.int .i64 0, .int .i64 0, .slice none 0 0, v14], F12, F9] rfl cb_20 (ltb rfl) (mc rfl m0) (fun w hw => graph_Order_ok (a1 := (⟨0, 0, [], x13⟩ : PFunc)) ((SlI.nil (G := H) none 0).mono subH) (h15.mono (subO (subB 1 rfl) (subO (subB 2 rfl) subH))) hy_12 hw) fun v A' hR_13 => ?_
    obtain ⟨v17, F18, rfl, rfl, h19⟩ := hR_13
    refine TL.norm (L' := [F18, bx b11 25 [.int .i64 0, .int .i64 0, .slice none 0 0, v14], F12, F9]) rfl ?_
    refine TL.v (ltb rfl) (rv_as (v := v17) rfl) ?_
    refine TL.nil ?_
    refine TC.go hK_11 ?_
    refine TC.seq fun K_14 hK_15 => ?_
    refine TC.region ?_
    refine TL.v (ltb rfl) (rv_mv (v := v17) rfl) ?_
    refine TL.v (ltb rfl) (rv_lenI (v := v17) Try.underlying22 rfl h19.ro) ?_
    refine TL.v (ltb rfl) (rv_eql (k := .i64) (m := (len x16)) (n := 3) rfl rfl) ?_
    refine TL.v (ltb rfl) (rv_mv (v := .bool (decide ((len x16) = 3))) rfl) ?_
    obtain ⟨t20, ht_40, hp⟩ := bind_some' hp
    refine TL.cut 5 fun K_16 hK_17 => ?_
    have hJ_18 : ∀ e_20 : Env, e_20 3 = v17 → e_20 34 = .bool t20 → ∀ w, St E H [F18, bx b11 25 [.int .i64 0, .int .i64 0, .slice none 0 0, v14], F12, F9] w → K_16 e_20 w := by
      intro e_20 h_21 h_22
      refine TL.go hK_17 ?_
      refine TL.v (ltb rfl) (rv_mv (v := .bool t20) h_22) ?_
      obtain ⟨t21, ht_38, hp⟩ := bind_some' hp
      refine TL.cut 5 fun K_23 hK_24 => ?_
      have hJ_25 : ∀ e_27 : Env, e_27 3 = v17 → e_27 40 = .bool t21 → ∀ w, St E H [F18, bx b11 25 [.int .i64 0, .int .i64 0, .slice none 0 0, v14], F12, F9] w → K_23 e_27 w := by
        intro e_27 h_28 h_29
        refine TL.go hK_24 ?_
        refine TL.v (ltb rfl) (rv_mv (v := .bool t21) h_29) ?_
        obtain ⟨t22, ht_36, hp⟩ := bind_some' hp
        refine TL.cut 5 fun K_30 hK_31 => ?_
        have hJ_32 : ∀ e_34 : Env, e_34 46 = .bool t22 → ∀ w, St E H [F18, bx b11 25 [.int .i64 0, .int .i64 0, .slice none 0 0, v14], F12, F9] w → K_30 e_34 w := by
          intro e_34 h_35
          refine TL.go hK_31 ?_
          refine TL.v (ltb rfl) (rv_as (v := .bool t22) h_35) ?_
          refine TL.nil ?_
          refine TC.go hK_15 ?_
          refine TC.ret ?_
          obtain rfl := Option.some.inj hp
          exact fun w hw => retOk ⟨rfl, rfl⟩ (hw.pick [])
        clear hp
        have hp := ht_36
        clear ht_36
        by_cases hc_33 : t21 = true
        · rw [if_pos hc_33] at hp
          refine TL.gyes true (yieldE_of rfl (bbT hc_33)) rfl ?_
          refine TL.v (ltb rfl) (rv_mv (v := v17) h_28) ?_
          refine TL.gyes true (yieldE_of rfl (bbT hc_33)) rfl ?_
          obtain ⟨x23, hx_37, hp⟩ := bind_some' hp
          refine TL.v3 (ltb rfl) (rv_ix 22 (.tmp 42) (.const (.int .i64 2)) (v := v17) (i := 2) Try.underlying22 inf_3 rfl rfl rfl (h19).ro hx_37) fun b24 o25 c26 h27 h28 => ?_
          obtain rfl := h27
          refine TL.gyes true (yieldE_of rfl (bbT hc_33)) rfl ?_
          refine TL.v (ltb rfl) (rv_ld (v := .int .i64 x23) (o := o25) (o' := o25) (j := 0) sc_3 rfl (Src.at_ 0 rfl) h28 rfl rfl) ?_
          refine TL.gyes true (yieldE_of rfl (bbT hc_33)) rfl ?_
          refine TL.v (ltb rfl) (rv_eql (k := .i64) (m := x23) (n := 1) rfl rfl) ?_
          refine TL.v (ltb rfl) (rv_pickT true (bbT hc_33) rfl (v := .bool (decide (x23 = 1))) rfl) ?_
          obtain rfl := Option.some.inj hp
          refine TL.nil (hJ_32 _ ?_)
          · exact rfl
        · rw [if_neg hc_33] at hp
          refine TL.gno false rfl (fun d hd => by cases hd; exact ltb rfl) (yieldE_of rfl (bbF hc_33)) rfl ?_
          refine TL.gno false rfl (fun d hd => by cases hd; exact ltb rfl) (yieldE_of rfl (bbF hc_33)) rfl ?_
          refine TL.gno false rfl (fun d hd => by cases hd; exact ltb rfl) (yieldE_of rfl (bbF hc_33)) rfl ?_
          refine TL.gno false rfl (fun d hd => by cases hd; exact ltb rfl) (yieldE_of rfl (bbF hc_33)) rfl ?_
          refine TL.v (ltb rfl) (rv_pickF false (bbF hc_33) rfl (v := .bool false) rfl) ?_
          obtain rfl := Option.some.inj hp
          refine TL.nil (hJ_32 _ ?_)
          · exact rfl
      clear hp
      have hp := ht_38
      clear ht_38
      by_cases hc_26 : t20 = true
      · rw [if_pos hc_26] at hp
        refine TL.gyes true (yieldE_of rfl (bbT hc_26)) rfl ?_
        refine TL.v (ltb rfl) (rv_mv (v := v17) h_21) ?_
        refine TL.gyes true (yieldE_of rfl (bbT hc_26)) rfl ?_
        obtain ⟨x29, hx_39, hp⟩ := bind_some' hp
        refine TL.v3 (ltb rfl) (rv_ix 22 (.tmp 36) (.const (.int .i64 1)) (v := v17) (i := 1) Try.underlying22 inf_3 rfl rfl rfl (h19).ro hx_39) fun b30 o31 c32 h33 h34 => ?_
        obtain rfl := h33
        refine TL.gyes true (yieldE_of rfl (bbT hc_26)) rfl ?_
        refine TL.v (ltb rfl) (rv_ld (v := .int .i64 x29) (o := o31) (o' := o31) (j := 0) sc_3 rfl (Src.at_ 0 rfl) h34 rfl rfl) ?_
        refine TL.gyes true (yieldE_of rfl (bbT hc_26)) rfl ?_
        refine TL.v (ltb rfl) (rv_eql (k := .i64) (m := x29) (n := 2) rfl rfl) ?_
        refine TL.v (ltb rfl) (rv_pickT true (bbT hc_26) rfl (v := .bool (decide (x29 = 2))) rfl) ?_
        obtain rfl := Option.some.inj hp
        refine TL.nil (hJ_25 _ ?_ ?_)
        · exact h_21
        · exact rfl
      · rw [if_neg hc_26] at hp
        refine TL.gno false rfl (fun d hd => by cases hd; exact ltb rfl) (yieldE_of rfl (bbF hc_26)) rfl ?_
        refine TL.gno false rfl (fun d hd => by cases hd; exact ltb rfl) (yieldE_of rfl (bbF hc_26)) rfl ?_
        refine TL.gno false rfl (fun d hd => by cases hd; exact ltb rfl) (yieldE_of rfl (bbF hc_26)) rfl ?_
        refine TL.gno false rfl (fun d hd => by cases hd; exact ltb rfl) (yieldE_of rfl (bbF hc_26)) rfl ?_
        refine TL.v (ltb rfl) (rv_pickF false (bbF hc_26) rfl (v := .bool false) rfl) ?_
        obtain rfl := Option.some.inj hp
        refine TL.nil (hJ_25 _ ?_ ?_)
        · exact h_21
        · exact rfl
    clear hp
    have hp := ht_40
    clear ht_40
    by_cases hc_19 : (len x16) = 3
    · rw [if_pos hc_19] at hp
      refine TL.gyes true (yieldE_of rfl (bT hc_19)) rfl ?_
      refine TL.v (ltb rfl) (rv_mv (v := v17) rfl) ?_
      refine TL.gyes true (yieldE_of rfl (bT hc_19)) rfl ?_
      obtain ⟨x35, hx_41, hp⟩ := bind_some' hp
      refine TL.v3 (ltb rfl) (rv_ix 22 (.tmp 30) (.const (.int .i64 0)) (v := v17) (i := 0) Try.underlying22 inf_3 rfl rfl rfl (h19).ro hx_41) fun b36 o37 c38 h39 h40 => ?_
      obtain rfl := h39
      refine TL.gyes true (yieldE_of rfl (bT hc_19)) rfl ?_
      refine TL.v (ltb rfl) (rv_ld (v := .int .i64 x35) (o := o37) (o' := o37) (j := 0) sc_3 rfl (Src.at_ 0 rfl) h40 rfl rfl) ?_
      refine TL.gyes true (yieldE_of rfl (bT hc_19)) rfl ?_
      refine TL.v (ltb rfl) (rv_eql (k := .i64) (m := x35) (n := 0) rfl rfl) ?_
      refine TL.v (ltb rfl) (rv_pickT true (bT hc_19) rfl (v := .bool (decide (x35 = 0))) rfl) ?_
      obtain rfl := Option.some.inj hp
      refine TL.nil (hJ_18 _ ?_ ?_)
      · exact rfl
      · exact rfl
    · rw [if_neg hc_19] at hp
      refine TL.gno false rfl (fun d hd => by cases hd; exact ltb rfl) (yieldE_of rfl (bF hc_19)) rfl ?_
      refine TL.gno false rfl (fun d hd => by cases hd; exact ltb rfl) (yieldE_of rfl (bF hc_19)) rfl ?_
      refine TL.gno false rfl (fun d hd => by cases hd; exact ltb rfl) (yieldE_of rfl (bF hc_19)) rfl ?_
      refine TL.gno false rfl (fun d hd => by cases hd; exact ltb rfl) (yieldE_of rfl (bF hc_19)) rfl ?_
      refine TL.v (ltb rfl) (rv_pickF false (bF hc_19) rfl (v := .bool false) rfl) ?_
      obtain rfl := Option.some.inj hp
      refine TL.nil (hJ_18 _ ?_ ?_)
      · exact rfl
      · exact rfl
  refine TC.held ([F9].flatten ++ H) mix (srcG 0 rfl srcG0) ?_
  refine HL.v 0 rfl trivial (by kernel_rfl) (by kernel_rfl) (by kernel_rfl) (ltb rfl) (rv_mv (v := (.slice (some ⟨b3, 0, none⟩) 3 3)) rfl) ?_
  obtain ⟨x442, hx_42, hp⟩ := bind_some' hp
  refine HL.w3 1 rfl trivial (by kernel_rfl) (by kernel_rfl) (by kernel_rfl) (ltb rfl) (rv_ix 113 (.tmp 10) (.const (.int .i64 0)) (v := (.slice (some ⟨b3, 0, none⟩) 3 3)) (i := 0) Try.underlying113 inf_81 rfl rfl rfl (h10).ro hx_42) fun b443 o444 c445 h446 h447 => ?_
  obtain ⟨v448, rfl, h449⟩ := h446
  refine HL.v 2 rfl trivial (by kernel_rfl) (by kernel_rfl) (by kernel_rfl) (ltb rfl) (rv_lda (o := o444) (o' := o444) (j := 0) (ds := [.int .i64 x442.kind, .int .i64 x442.arg, v448]) ag_81 rfl (srcInG 0 rfl) h447 rfl rfl rfl) ?_
  refine HL.v 3 rfl trivial (by kernel_rfl) (by kernel_rfl) (by kernel_rfl) (ltb rfl) (rv_bv (vs := [(2, .agg #[.int .i64 x442.kind, .int .i64 x442.arg, v448])]) (ds := [.slice none 0 0, .slice none 0 0, .int .i64 x442.kind, .int .i64 x442.arg, v448]) (pc rfl p0) (fun w => by kernel_rfl)) ?_
  refine HL.v 4 rfl trivial (by kernel_rfl) (by kernel_rfl) (by kernel_rfl) (ltb rfl) (rv_mv (v := (.slice (some ⟨b3, 0, none⟩) 3 3)) rfl) ?_
  obtain ⟨x2042, hx_43, hp⟩ := bind_some' hp
  refine HL.w3 5 rfl trivial (by kernel_rfl) (by kernel_rfl) (by kernel_rfl) (ltb rfl) (rv_ix 113 (.tmp 14) (.const (.int .i64 1)) (v := (.slice (some ⟨b3, 0, none⟩) 3 3)) (i := 1) Try.underlying113 inf_81 rfl rfl rfl (h10).ro hx_43) fun b2043 o2044 c2045 h2046 h2047 => ?_
  obtain ⟨v2048, rfl, h2049⟩ := h2046
  refine HL.v 6 rfl trivial (by kernel_rfl) (by kernel_rfl) (by kernel_rfl) (ltb rfl) (rv_lda (o := o2044) (o' := o2044) (j := 0) (ds := [.int .i64 x2042.kind, .int .i64 x2042.arg, v2048]) ag_81 rfl (srcInG 0 rfl) h2047 rfl rfl rfl) ?_
  refine HL.v 7 rfl trivial (by kernel_rfl) (by kernel_rfl) (by kernel_rfl) (ltb rfl) (rv_bv (vs := [(2, .agg #[.int .i64 x2042.kind, .int .i64 x2042.arg, v2048])]) (ds := [.slice none 0 0, .slice none 0 0, .int .i64 x2042.kind, .int .i64 x2042.arg, v2048]) (pc rfl p0) (fun w => by kernel_rfl)) ?_
  refine HL.v 8 rfl trivial (by kernel_rfl) (by kernel_rfl) (by kernel_rfl) (ltb rfl) (rv_mv (v := (.slice (some ⟨b3, 0, none⟩) 3 3)) rfl) ?_
  obtain ⟨x3642, hx_44, hp⟩ := bind_some' hp
  refine HL.w3 9 rfl trivial (by kernel_rfl) (by kernel_rfl) (by kernel_rfl) (ltb rfl) (rv_ix 113 (.tmp 18) (.const (.int .i64 2)) (v := (.slice (some ⟨b3, 0, none⟩) 3 3)) (i := 2) Try.underlying113 inf_81 rfl rfl rfl (h10).ro hx_44) fun b3643 o3644 c3645 h3646 h3647 => ?_
  obtain ⟨v3648, rfl, h3649⟩ := h3646
  refine HL.v 10 rfl trivial (by kernel_rfl) (by kernel_rfl) (by kernel_rfl) (ltb rfl) (rv_lda (o := o3644) (o' := o3644) (j := 0) (ds := [.int .i64 x3642.kind, .int .i64 x3642.arg, v3648]) ag_81 rfl (srcInG 0 rfl) h3647 rfl rfl rfl) ?_
  refine HL.v 11 rfl trivial (by kernel_rfl) (by kernel_rfl) (by kernel_rfl) (ltb rfl) (rv_bv (vs := [(2, .agg #[.int .i64 x3642.kind, .int .i64 x3642.arg, v3648])]) (ds := [.slice none 0 0, .slice none 0 0, .int .i64 x3642.kind, .int .i64 x3642.arg, v3648]) (pc rfl p0) (fun w => by kernel_rfl)) ?_
  refine HL.all [12, 14] (by kernel_rfl) (by simp) (HL.al ⟨_, rfl, fun K_45 hK_46 => ?_⟩ (HL.al ⟨_, rfl, fun K_51 hK_52 => ?_⟩ HL.al0))
  · refine TL.bv (vs := [(0, .agg #[.slice none 0 0, .slice none 0 0, .int .i64 x442.kind, .int .i64 x442.arg, v448]), (1, .agg #[.slice none 0 0, .slice none 0 0, .int .i64 x2042.kind, .int .i64 x2042.arg, v2048]), (2, .agg #[.slice none 0 0, .slice none 0 0, .int .i64 x3642.kind, .int .i64 x3642.arg, v3648])]) (cs := [.slice none 0 0, .slice none 0 0, .int .i64 x442.kind, .int .i64 x442.arg, v448, .slice none 0 0, .slice none 0 0, .int .i64 x2042.kind, .int .i64 x2042.arg, v2048, .slice none 0 0, .slice none 0 0, .int .i64 x3642.kind, .int .i64 x3642.arg, v3648]) (pc rfl (pc rfl (pc rfl p0))) Try.underlying23 inf_85 (ltb rfl) (by decide) (by decide) (by kernel_rfl) fun b4842 => ?_
    refine TL.nil (hK_46 _ _ (srcG 1 rfl srcG0) ?_)
    refine HL.v 13 rfl trivial (by kernel_rfl) (by kernel_rfl) (by kernel_rfl) (ltb rfl) (rv_bv (vs := [(3, .slice (some ⟨b4842, 0, none⟩) 3 3)]) (ds := [.int .i64 0, .int .i64 0, .slice none 0 0, .slice (some ⟨b4842, 0, none⟩) 3 3]) (pc rfl p0) (fun w => by kernel_rfl)) ?_
    refine HL.one 14 rfl (by kernel_rfl) fun K_47 hK_48 => ?_
    refine TL.alloc (cs := [.int .i64 0, .int .i64 0, .slice none 0 0, .slice none 0 0]) inf_25 (ltb rfl) rfl fun b5642 => ?_
    refine TL.nil (hK_48 _ _ (srcG 2 rfl srcG0) ?_)
    refine HL.one 15 rfl (by kernel_rfl) fun K_49 hK_50 => ?_
    refine TL.stB (ds := [.int .i64 0, .int .i64 0, .slice none 0 0, .slice (some ⟨b4842, 0, none⟩) 3 3]) (o := 0) (cs := [.int .i64 0, .int .i64 0, .slice none 0 0, .slice none 0 0]) (b := b5642) (u := .agg #[.int .i64 0, .int .i64 0, .slice none 0 0, .slice (some ⟨b4842, 0, none⟩) 3 3]) 0 rfl ms_25 rfl rfl rfl (oc rfl (oc rfl (oc rfl (oc ((SlI.lit (k := kBlock) (G := (F9 ++ H)) (xs := [(⟨[], [], (⟨x442.kind, x442.arg, x442.to⟩ : PTerm)⟩ : PBlock), (⟨[], [], (⟨x2042.kind, x2042.arg, x2042.to⟩ : PTerm)⟩ : PBlock), (⟨[], [], (⟨x3642.kind, x3642.arg, x3642.to⟩ : PTerm)⟩ : PBlock)]) b4842 85 3 (RepI.cons (k := kBlock) (x := (⟨[], [], (⟨x442.kind, x442.arg, x442.to⟩ : PTerm)⟩ : PBlock)) ⟨_, _, _, rfl, (SlI.nil none 0), (SlI.nil none 0), (h449.mono (inL inI))⟩ (RepI.cons (k := kBlock) (x := (⟨[], [], (⟨x2042.kind, x2042.arg, x2042.to⟩ : PTerm)⟩ : PBlock)) ⟨_, _, _, rfl, (SlI.nil none 0), (SlI.nil none 0), (h2049.mono (inL inI))⟩ (RepI.cons (k := kBlock) (x := (⟨[], [], (⟨x3642.kind, x3642.arg, x3642.to⟩ : PTerm)⟩ : PBlock)) ⟨_, _, _, rfl, (SlI.nil none 0), (SlI.nil none 0), (h3649.mono (inL inI))⟩ RepI.nil))) rfl rfl (ltb rfl))).one oc0)))) (leb rfl) ?_
    refine TL.norm (L' := [bx b5642 25 [.int .i64 0, .int .i64 0, .slice none 0 0, .slice (some ⟨b4842, 0, none⟩) 3 3], bx b4842 85 [.slice none 0 0, .slice none 0 0, .int .i64 x442.kind, .int .i64 x442.arg, v448, .slice none 0 0, .slice none 0 0, .int .i64 x2042.kind, .int .i64 x2042.arg, v2048, .slice none 0 0, .slice none 0 0, .int .i64 x3642.kind, .int .i64 x3642.arg, v3648], F9]) rfl ?_
    refine TL.nil (hK_50 _ _ (srcG 2 rfl srcG0) ?_)
    refine HL.done (by kernel_rfl) ?_
    refine fun w hw => hJ_9 ([(⟨[], [], (⟨x442.kind, x442.arg, x442.to⟩ : PTerm)⟩ : PBlock), (⟨[], [], (⟨x2042.kind, x2042.arg, x2042.to⟩ : PTerm)⟩ : PBlock), (⟨[], [], (⟨x3642.kind, x3642.arg, x3642.to⟩ : PTerm)⟩ : PBlock)]) b5642 (bx b4842 85 [.slice none 0 0, .slice none 0 0, .int .i64 x442.kind, .int .i64 x442.arg, v448, .slice none 0 0, .slice none 0 0, .int .i64 x2042.kind, .int .i64 x2042.arg, v2048, .slice none 0 0, .slice none 0 0, .int .i64 x3642.kind, .int .i64 x3642.arg, v3648]) (.slice (some ⟨b4842, 0, none⟩) 3 3) _ (SlI.lit (k := kBlock) (G := (F9 ++ H)) (xs := [(⟨[], [], (⟨x442.kind, x442.arg, x442.to⟩ : PTerm)⟩ : PBlock), (⟨[], [], (⟨x2042.kind, x2042.arg, x2042.to⟩ : PTerm)⟩ : PBlock), (⟨[], [], (⟨x3642.kind, x3642.arg, x3642.to⟩ : PTerm)⟩ : PBlock)]) b4842 85 3 (RepI.cons (k := kBlock) (x := (⟨[], [], (⟨x442.kind, x442.arg, x442.to⟩ : PTerm)⟩ : PBlock)) ⟨_, _, _, rfl, (SlI.nil none 0), (SlI.nil none 0), (h449.mono (inL inI))⟩ (RepI.cons (k := kBlock) (x := (⟨[], [], (⟨x2042.kind, x2042.arg, x2042.to⟩ : PTerm)⟩ : PBlock)) ⟨_, _, _, rfl, (SlI.nil none 0), (SlI.nil none 0), (h2049.mono (inL inI))⟩ (RepI.cons (k := kBlock) (x := (⟨[], [], (⟨x3642.kind, x3642.arg, x3642.to⟩ : PTerm)⟩ : PBlock)) ⟨_, _, _, rfl, (SlI.nil none 0), (SlI.nil none 0), (h3649.mono (inL inI))⟩ RepI.nil))) rfl rfl (ltb rfl)) ?_ hp w (hw.pick [0, 0, 0])
    · exact rfl
  · refine TL.alloc (cs := [.int .i64 0, .int .i64 0, .slice none 0 0, .slice none 0 0]) inf_25 (ltb rfl) rfl fun b5642 => ?_
    refine TL.nil (hK_52 _ _ (srcG 1 rfl srcG0) ?_)
    refine HL.one 12 rfl (by kernel_rfl) fun K_53 hK_54 => ?_
    refine TL.bv (vs := [(0, .agg #[.slice none 0 0, .slice none 0 0, .int .i64 x442.kind, .int .i64 x442.arg, v448]), (1, .agg #[.slice none 0 0, .slice none 0 0, .int .i64 x2042.kind, .int .i64 x2042.arg, v2048]), (2, .agg #[.slice none 0 0, .slice none 0 0, .int .i64 x3642.kind, .int .i64 x3642.arg, v3648])]) (cs := [.slice none 0 0, .slice none 0 0, .int .i64 x442.kind, .int .i64 x442.arg, v448, .slice none 0 0, .slice none 0 0, .int .i64 x2042.kind, .int .i64 x2042.arg, v2048, .slice none 0 0, .slice none 0 0, .int .i64 x3642.kind, .int .i64 x3642.arg, v3648]) (pc rfl (pc rfl (pc rfl p0))) Try.underlying23 inf_85 (ltb rfl) (by decide) (by decide) (by kernel_rfl) fun b4842 => ?_
    refine TL.nil (hK_54 _ _ (srcG 2 rfl srcG0) ?_)
    refine HL.v 13 rfl trivial (by kernel_rfl) (by kernel_rfl) (by kernel_rfl) (ltb rfl) (rv_bv (vs := [(3, .slice (some ⟨b4842, 0, none⟩) 3 3)]) (ds := [.int .i64 0, .int .i64 0, .slice none 0 0, .slice (some ⟨b4842, 0, none⟩) 3 3]) (pc rfl p0) (fun w => by kernel_rfl)) ?_
    refine HL.one 15 rfl (by kernel_rfl) fun K_55 hK_56 => ?_
    refine TL.stB (ds := [.int .i64 0, .int .i64 0, .slice none 0 0, .slice (some ⟨b4842, 0, none⟩) 3 3]) (o := 0) (cs := [.int .i64 0, .int .i64 0, .slice none 0 0, .slice none 0 0]) (b := b5642) (u := .agg #[.int .i64 0, .int .i64 0, .slice none 0 0, .slice (some ⟨b4842, 0, none⟩) 3 3]) 1 rfl ms_25 rfl rfl rfl (oc rfl (oc rfl (oc rfl (oc ((SlI.lit (k := kBlock) (G := (F9 ++ H)) (xs := [(⟨[], [], (⟨x442.kind, x442.arg, x442.to⟩ : PTerm)⟩ : PBlock), (⟨[], [], (⟨x2042.kind, x2042.arg, x2042.to⟩ : PTerm)⟩ : PBlock), (⟨[], [], (⟨x3642.kind, x3642.arg, x3642.to⟩ : PTerm)⟩ : PBlock)]) b4842 85 3 (RepI.cons (k := kBlock) (x := (⟨[], [], (⟨x442.kind, x442.arg, x442.to⟩ : PTerm)⟩ : PBlock)) ⟨_, _, _, rfl, (SlI.nil none 0), (SlI.nil none 0), (h449.mono (inL inI))⟩ (RepI.cons (k := kBlock) (x := (⟨[], [], (⟨x2042.kind, x2042.arg, x2042.to⟩ : PTerm)⟩ : PBlock)) ⟨_, _, _, rfl, (SlI.nil none 0), (SlI.nil none 0), (h2049.mono (inL inI))⟩ (RepI.cons (k := kBlock) (x := (⟨[], [], (⟨x3642.kind, x3642.arg, x3642.to⟩ : PTerm)⟩ : PBlock)) ⟨_, _, _, rfl, (SlI.nil none 0), (SlI.nil none 0), (h3649.mono (inL inI))⟩ RepI.nil))) rfl rfl (ltb rfl))).one oc0)))) (leb rfl) ?_
    refine TL.norm (L' := [bx b4842 85 [.slice none 0 0, .slice none 0 0, .int .i64 x442.kind, .int .i64 x442.arg, v448, .slice none 0 0, .slice none 0 0, .int .i64 x2042.kind, .int .i64 x2042.arg, v2048, .slice none 0 0, .slice none 0 0, .int .i64 x3642.kind, .int .i64 x3642.arg, v3648], bx b5642 25 [.int .i64 0, .int .i64 0, .slice none 0 0, .slice (some ⟨b4842, 0, none⟩) 3 3], F9]) rfl ?_
    refine TL.nil (hK_56 _ _ (srcG 2 rfl srcG0) ?_)
    refine HL.done (by kernel_rfl) ?_
    refine fun w hw => hJ_9 ([(⟨[], [], (⟨x442.kind, x442.arg, x442.to⟩ : PTerm)⟩ : PBlock), (⟨[], [], (⟨x2042.kind, x2042.arg, x2042.to⟩ : PTerm)⟩ : PBlock), (⟨[], [], (⟨x3642.kind, x3642.arg, x3642.to⟩ : PTerm)⟩ : PBlock)]) b5642 (bx b4842 85 [.slice none 0 0, .slice none 0 0, .int .i64 x442.kind, .int .i64 x442.arg, v448, .slice none 0 0, .slice none 0 0, .int .i64 x2042.kind, .int .i64 x2042.arg, v2048, .slice none 0 0, .slice none 0 0, .int .i64 x3642.kind, .int .i64 x3642.arg, v3648]) (.slice (some ⟨b4842, 0, none⟩) 3 3) _ (SlI.lit (k := kBlock) (G := (F9 ++ H)) (xs := [(⟨[], [], (⟨x442.kind, x442.arg, x442.to⟩ : PTerm)⟩ : PBlock), (⟨[], [], (⟨x2042.kind, x2042.arg, x2042.to⟩ : PTerm)⟩ : PBlock), (⟨[], [], (⟨x3642.kind, x3642.arg, x3642.to⟩ : PTerm)⟩ : PBlock)]) b4842 85 3 (RepI.cons (k := kBlock) (x := (⟨[], [], (⟨x442.kind, x442.arg, x442.to⟩ : PTerm)⟩ : PBlock)) ⟨_, _, _, rfl, (SlI.nil none 0), (SlI.nil none 0), (h449.mono (inL inI))⟩ (RepI.cons (k := kBlock) (x := (⟨[], [], (⟨x2042.kind, x2042.arg, x2042.to⟩ : PTerm)⟩ : PBlock)) ⟨_, _, _, rfl, (SlI.nil none 0), (SlI.nil none 0), (h2049.mono (inL inI))⟩ (RepI.cons (k := kBlock) (x := (⟨[], [], (⟨x3642.kind, x3642.arg, x3642.to⟩ : PTerm)⟩ : PBlock)) ⟨_, _, _, rfl, (SlI.nil none 0), (SlI.nil none 0), (h3649.mono (inL inI))⟩ RepI.nil))) rfl rfl (ltb rfl)) ?_ hp w (hw.pick [1, 0, 0])
    · exact rfl
end Go.Proofs.Ytoflleabpkgdpaa
