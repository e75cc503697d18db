/- The walk through the program's functions: each one's pure reading, and that a call does what it says. No conditions. -/
import Derived.Test.YtoflleabpkgdpaaS6
set_option linter.unusedVariables false
set_option linter.unusedSimpArgs false
namespace Go.Proofs.Ytoflleabpkgdpaa
open Go Go.Proofs

/-! ### fettle/graph.ahead -/
abbrev graph_ahead.R (r : List (List Int)) (v : Value) (A : List FP) : Prop := ∃ (w1 : Value) (G1 : FP), w1 = v ∧ A = [G1] ∧ SlO 22 (kSl 3 (kInt .i64)) r w1 G1
def graph_ahead.nx19  (x12 : List (List Int)) : Option (List (List Int)) :=
  some x12
def graph_ahead.nx51 (x11 : Int) (x27 : List (List Int)) : Option (Ex (List (List Int)) (List (List Int) × Int)) :=
  some (.go (x27, (w64 (x11 + 1))))
def graph_ahead.bd51 (x11 : Int) (x15 : List Int) (x23 : List (List Int)) (x26 : Int) : Option (Ex (List (List Int)) (List (List Int) × Int)) :=
  if x26 < (len x15) then
    (idx x15 x26).bind fun x30 =>
    (idx x23 x30).bind fun x36 =>
    (cat x36 [x11]).bind fun x47 =>
    some (.go ((x23.set (x30).toNat x47), (w64 (x26 + 1))))
  else
    some (.ret x23)
def graph_ahead.bd19 (a1 : List (List Int)) (x8 : List (List Int)) (x11 : Int) : Option (Ex (List (List Int)) (List (List Int) × Int)) :=
  if x11 < (len a1) then
    (idx a1 x11).bind fun x15 =>
    (whl (fun (s : (List (List Int) × Int)) => graph_ahead.bd51 x11 x15 s.1 s.2) FUEL (x8, 0)).bind fun z =>
    graph_ahead.nx51 x11 z
  else
    some (.ret x8)
def graph_ahead (a1 : List (List Int)) : Option (List (List Int)) :=
  (mkl (len a1) ([] : List Int)).bind fun x4 =>
  (whl (fun (s : (List (List Int) × Int)) => graph_ahead.bd19 a1 s.1 s.2) FUEL (x4, 0)).bind fun z =>
  graph_ahead.nx19 z
theorem graph_ahead_ok {E : World} {H : FP} {w : World} {a1 : List (List Int)} {v2 : Value} {r : List (List Int)} (h3 : SlI (kSl 3 (kInt .i64)) H a1 v2) (hp : graph_ahead a1 = some r) (hst : St E H [] w) :
    Fn Try.prog 71 #[v2] w fun v w' => ∃ A, graph_ahead.R r v A ∧ St E H A w' := by
  refine Fn.body (fn := Try.f71) (args := [v2]) E H [] [.tmp 2] 37 Try.func71 rfl rfl rfl rfl (leb rfl) hst ?_
  unfold graph_ahead at hp
  refine TC.seq fun K_1 hK_2 => ?_
  refine TC.region ?_
  refine TL.v (ltb rfl) (rv_as (v := .slice none 0 0) rfl) ?_
  refine TL.nil ?_
  refine TC.go hK_2 ?_
  refine TC.seq fun K_3 hK_4 => ?_
  refine TC.region ?_
  refine TL.v (ltb rfl) (rv_mv (v := v2) rfl) ?_
  refine TL.v (ltb rfl) (rv_lenI (v := v2) Try.underlying28 rfl h3) ?_
  obtain ⟨x4, hz_5, hp⟩ := bind_some' hp
  refine TL.mk (k := (kSl 3 (kInt .i64))) (n := (len a1)) (x0 := ([] : List Int)) Try.underlying28 inf_22 (ltb rfl) (ltb rfl) rfl rfl (leb rfl) rfl ⟨_, rfl, SlO.nil 3⟩ hz_5 fun v5 F6 h7 => ?_
  refine TL.v (ltb rfl) (rv_as (v := v5) rfl) ?_
  refine TL.nil ?_
  refine TC.go hK_4 ?_
  refine TC.seq fun K_6 hK_7 => ?_
  refine TC.seq fun K_8 hK_9 => ?_
  refine TC.region ?_
  refine TL.v (ltb rfl) (rv_mv (v := v2) rfl) ?_
  refine TL.v (ltb rfl) (rv_lenI (v := v2) Try.underlying28 rfl h3) ?_
  refine TL.v (ltb rfl) (rv_mv (v := .int .i64 0) rfl) ?_
  refine TL.nil ?_
  refine TC.go hK_9 ?_
  refine TC.block ?_
  obtain ⟨z_15, hz_16, hr_17⟩ := bind_some' hp
  clear hp
  have hJ_24 : ∀ (x12 : List (List Int)) (F13 : FP) (e_20 : Env) (h14 : SlO 22 (kSl 3 (kInt .i64)) x12 v5 F13) (h_21 : e_20 3 = v5) (hq_25 : x12 = z_15), ∀ w, St E H [F13] w → K_6 e_20 w := by
    intro x12 F13 e_20 h14 h_21 hq_25
    subst hq_25
    replace hp : graph_ahead.nx19 x12 = some r := hr_17
    unfold graph_ahead.nx19 at hp
    refine TC.go hK_7 ?_
    refine TC.seq fun K_22 hK_23 => ?_
    refine TC.region ?_
    refine TL.v (ltb rfl) (rv_mv (v := v5) h_21) ?_
    refine TL.v (ltb rfl) (rv_as (v := v5) rfl) ?_
    refine TL.nil ?_
    refine TC.go hK_23 ?_
    refine TC.ret ?_
    obtain rfl := Option.some.inj hp
    exact fun w hw => retOk ⟨v5, F13, rfl, rfl, h14⟩ (hw.pick [0])
  refine TC.pk' [0] (L' := [F6]) rfl ?_
  refine TC.loopW (r := z_15) (fun (s : (List (List Int) × Int)) (e_10 : Env) (L_73 : List FP) => ∃ (x8 : List (List Int)) (x11 : Int) (F9 : FP), s = (x8, x11) ∧ SlO 22 (kSl 3 (kInt .i64)) x8 v5 F9 ∧ e_10 3 = v5 ∧ e_10 11 = v2 ∧ e_10 12 = .int .i64 (len a1) ∧ e_10 13 = .int .i64 x11 ∧ L_73 = [F9]) ?_ FUEL _ _ _ hz_16 ⟨x4, 0, F6, rfl, h7, rfl, rfl, rfl, rfl, rfl⟩
  rintro s e_10 L_73 ⟨x8, x11, F9, rfl, h10, h_11, h_12, h_13, h_14, rfl⟩ x_18 hp hx_19
  replace hp : graph_ahead.bd19 a1 x8 x11 = some x_18 := hp
  unfold graph_ahead.bd19 at hp
  refine TC.seq fun K_26 hK_27 => ?_
  refine TC.region ?_
  refine TL.v (ltb rfl) (rv_lss (k := .i64) (m := x11) (n := (len a1)) h_14 h_13) ?_
  refine TL.nil ?_
  refine TC.go hK_27 ?_
  refine TC.seq fun K_28 hK_29 => ?_
  by_cases hc_30 : x11 < (len a1)
  · rw [if_pos hc_30] at hp
    refine TC.condT (bT hc_30) ?_
    refine TC.skip ?_
    refine TC.go hK_29 ?_
    refine TC.seq fun K_31 hK_32 => ?_
    refine TC.block ?_
    refine TC.seq fun K_33 hK_34 => ?_
    refine TC.region ?_
    refine TL.v (ltb rfl) (rv_mv (v := .int .i64 x11) h_14) ?_
    obtain ⟨x15, hx_35, hp⟩ := bind_some' hp
    refine TL.v3 (ltb rfl) (rv_ix 28 (.tmp 11) (.tmp 13) (v := v2) (i := x11) Try.underlying28 inf_22 rfl h_12 h_14 h3 hx_35) fun b16 o17 c18 h19 h20 => ?_
    obtain ⟨v21, rfl, h22⟩ := h19
    refine TL.v (ltb rfl) (rv_ld (v := v21) (o := o17) (o' := o17) (j := 0) sc_22 rfl Src.H h20 rfl rfl) ?_
    refine TL.v (ltb rfl) (rv_as (v := .int .i64 x11) rfl) ?_
    refine TL.v (ltb rfl) (rv_as (v := v21) rfl) ?_
    refine TL.nil ?_
    refine TC.go hK_34 ?_
    refine TC.seq fun K_36 hK_37 => ?_
    refine TC.region ?_
    refine TL.v (ltb rfl) (rv_mv (v := v21) rfl) ?_
    refine TL.v (ltb rfl) (rv_lenI (v := v21) Try.underlying22 rfl h22) ?_
    refine TL.v (ltb rfl) (rv_mv (v := .int .i64 0) rfl) ?_
    refine TL.nil ?_
    refine TC.go hK_37 ?_
    refine TC.block ?_
    obtain ⟨z_47, hz_48, hr_49⟩ := bind_some' hp
    clear hp
    have hJ_57 : ∀ (x27 : List (List Int)) (F28 : FP) (e_52 : Env) (h29 : SlO 22 (kSl 3 (kInt .i64)) x27 v5 F28) (h_53 : e_52 3 = v5) (h_54 : e_52 11 = v2) (h_55 : e_52 12 = .int .i64 (len a1)) (h_56 : e_52 13 = .int .i64 x11) (hq_58 : x27 = z_47), ∀ w, St E H [F28] w → K_31 e_52 w := by
      intro x27 F28 e_52 h29 h_53 h_54 h_55 h_56 hq_58
      subst hq_58
      replace hp : graph_ahead.nx51 x11 x27 = some x_18 := hr_49
      unfold graph_ahead.nx51 at hp
      refine TC.go hK_32 ?_
      refine TC.region ?_
      refine TL.v (ltb rfl) (rv_add (k := .i64) (m := x11) (n := 1) h_56 rfl) ?_
      refine TL.v (ltb rfl) (rv_mv (v := .int .i64 (w64 (x11 + 1))) rfl) ?_
      refine TL.nil ?_
      exact fun w hw => goOk hp ⟨x27, (w64 (x11 + 1)), F28, rfl, h29, h_53, h_54, h_55, rfl, rfl⟩ (hw.pick [0])
    refine TC.pk' [0] (L' := [F9]) rfl ?_
    refine TC.loopW (r := z_47) (fun (s : (List (List Int) × Int)) (e_38 : Env) (L_72 : List FP) => ∃ (x23 : List (List Int)) (x26 : Int) (F24 : FP), s = (x23, x26) ∧ SlO 22 (kSl 3 (kInt .i64)) x23 v5 F24 ∧ e_38 3 = v5 ∧ e_38 4 = .int .i64 x11 ∧ e_38 11 = v2 ∧ e_38 12 = .int .i64 (len a1) ∧ e_38 13 = .int .i64 x11 ∧ e_38 18 = v21 ∧ e_38 19 = .int .i64 (len x15) ∧ e_38 20 = .int .i64 x26 ∧ L_72 = [F24]) ?_ FUEL _ _ _ hz_48 ⟨x8, 0, F9, rfl, h10, h_11, rfl, h_12, h_13, h_14, rfl, rfl, rfl, rfl⟩
    rintro s e_38 L_72 ⟨x23, x26, F24, rfl, h25, h_39, h_40, h_41, h_42, h_43, h_44, h_45, h_46, rfl⟩ x_50 hp hx_51
    replace hp : graph_ahead.bd51 x11 x15 x23 x26 = some x_50 := hp
    unfold graph_ahead.bd51 at hp
    refine TC.seq fun K_59 hK_60 => ?_
    refine TC.region ?_
    refine TL.v (ltb rfl) (rv_lss (k := .i64) (m := x26) (n := (len x15)) h_46 h_45) ?_
    refine TL.nil ?_
    refine TC.go hK_60 ?_
    refine TC.seq fun K_61 hK_62 => ?_
    by_cases hc_63 : x26 < (len x15)
    · rw [if_pos hc_63] at hp
      refine TC.condT (bT hc_63) ?_
      refine TC.skip ?_
      refine TC.go hK_62 ?_
      refine TC.seq fun K_64 hK_65 => ?_
      refine TC.block ?_
      refine TC.seq fun K_66 hK_67 => ?_
      refine TC.region ?_
      obtain ⟨x30, hx_68, hp⟩ := bind_some' hp
      refine TL.v3 (ltb rfl) (rv_ix 22 (.tmp 18) (.tmp 20) (v := v21) (i := x26) Try.underlying22 inf_3 rfl h_44 h_46 h22 hx_68) fun b31 o32 c33 h34 h35 => ?_
      obtain rfl := h34
      refine TL.v (ltb rfl) (rv_ld (v := .int .i64 x30) (o := o32) (o' := o32) (j := 0) sc_3 rfl Src.H h35 rfl rfl) ?_
      refine TL.v (ltb rfl) (rv_as (v := .int .i64 x30) rfl) ?_
      refine TL.nil ?_
      refine TC.go hK_67 ?_
      refine TC.region ?_
      refine TL.v (ltb rfl) (rv_mv (v := v5) h_39) ?_
      refine TL.v (ltb rfl) (rv_mv (v := .int .i64 x30) rfl) ?_
      refine TL.v (ltb rfl) (rv_mv (v := v5) h_39) ?_
      refine TL.v (ltb rfl) (rv_mv (v := .int .i64 x30) rfl) ?_
      obtain ⟨x36, hx_69, hp⟩ := bind_some' hp
      refine TL.open_ h25 hx_69 fun b37 c38 F39 F40 h41 h42 => ?_
      obtain ⟨v43, rfl, h44⟩ := h42
      have h45 := (idx_some hx_69).1
      refine TL.v (ltb rfl) (rv_ixH Try.underlying28 inf_22 (v := v5) (i := x30) rfl rfl h45 h41) ?_
      refine TL.v (ltb rfl) (rv_ld (v := v43) (o := (x30).toNat * 1) (o' := (x30).toNat * 1) (j := 0) sc_22 rfl (Src.at_ 0 rfl) (Hole.cells h41) rfl rfl) ?_
      refine TL.v (ltb rfl) (rv_mv (v := .int .i64 x11) h_40) ?_
      refine TL.bv (vs := [(0, .int .i64 x11)]) (cs := [.int .i64 x11]) (pc rfl p0) Try.underlying22 inf_3 (ltb rfl) (by decide) (by decide) (by kernel_rfl) fun b46 => ?_
      refine TL.pk' [2, 0, 0] (L' := [F40, bx b46 3 [.int .i64 x11], F39]) rfl ?_
      refine TL.perm (L' := [F40, bx b46 3 [.int .i64 x11], [], F39]) (by simp) ?_
      obtain ⟨x47, hz_70, hp⟩ := bind_some' hp
      refine TL.app Try.underlying22 inf_3 (ltb rfl) rfl (ltb rfl) rfl (leb rfl) rfl rfl h44 (RepL.to (RepL.cons (k := (kInt .i64)) (x := x11) ⟨rfl, rfl⟩ RepL.nil) rfl) rfl rfl hz_70 fun v48 F49 h50 => ?_
      refine TL.v (ltb rfl) (rv_ixH Try.underlying28 inf_22 (v := v5) (i := x30) rfl rfl h45 h41) ?_
      refine TL.pk' [1, 0] (L' := [F39, F49]) rfl ?_
      refine TL.stH (ds := [v48]) (o := 0) (o' := (x30).toNat * 1) (u := v48) h41 ms_22 rfl rfl rfl (SlO.cells h50) (oc (h50).one oc0) (leb rfl) fun F52 h53 => ?_
      refine TL.nil ?_
      refine TC.go hK_65 ?_
      refine TC.region ?_
      refine TL.v (ltb rfl) (rv_add (k := .i64) (m := x26) (n := 1) h_46 rfl) ?_
      refine TL.v (ltb rfl) (rv_mv (v := .int .i64 (w64 (x26 + 1))) rfl) ?_
      refine TL.nil ?_
      refine W.shut (a := x47) h53 ⟨_, rfl, h50⟩ fun F54 h55 => ?_
      exact fun w hw => goOk hp ⟨(x23.set (x30).toNat x47), (w64 (x26 + 1)), F54, rfl, h55, h_39, h_40, h_41, h_42, h_43, h_44, h_45, rfl, rfl⟩ (hw.pick [0])
    · rw [if_neg hc_63] at hp
      refine TC.condF (bF hc_63) ?_
      refine TC.exit ?_
      refine fun w hw => hJ_57 x23 F24 _ h25 ?_ ?_ ?_ ?_ (ex_ret hp hx_51) w (hw.pick [0])
      · exact h_39
      · exact h_41
      · exact h_42
      · exact h_43
  · rw [if_neg hc_30] at hp
    refine TC.condF (bF hc_30) ?_
    refine TC.exit ?_
    refine fun w hw => hJ_24 x8 F9 _ h10 ?_ (ex_ret hp hx_19) w (hw.pick [0])
    · exact h_11

/-! ### slices.Clone[[]int,int] -/
abbrev slices_Clone.R (r : List Int) (v : Value) (A : List FP) : Prop := ∃ (w1 : Value) (G1 : FP), w1 = v ∧ A = [G1] ∧ SlO 3 (kInt .i64) r w1 G1
def slices_Clone (a1 : List Int) : Option (List Int) :=
  (cat ([] : List Int) a1).bind fun x7 =>
  some x7
theorem slices_Clone_ok {E : World} {H : FP} {w : World} {a1 : List Int} {v2 : Value} {r : List Int} (h3 : SlI (kInt .i64) H a1 v2) (hp : slices_Clone a1 = some r) (hst : St E H [] w) :
    Fn Try.prog 72 #[v2] w fun v w' => ∃ A, slices_Clone.R r v A ∧ St E H A w' := by
  refine Fn.body (fn := Try.f72) (args := [v2]) E H [] [.tmp 2] 8 Try.func72 rfl rfl rfl rfl (leb rfl) hst ?_
  unfold slices_Clone at hp
  refine TC.seq fun K_1 hK_2 => ?_
  refine TC.region ?_
  refine TL.v (ltb rfl) (rv_as (v := .slice none 0 0) rfl) ?_
  refine TL.nil ?_
  refine TC.go hK_2 ?_
  refine TC.seq fun K_3 hK_4 => ?_
  refine TC.seq fun K_5 hK_6 => ?_
  refine TC.region ?_
  refine TL.v (ltb rfl) (rv_mv (v := v2) rfl) ?_
  obtain ⟨q4, hq_7, hv_8⟩ := nilEq (P := Try.prog) Try.underlying22 h3
  refine TL.v (ltb rfl) (rv_nil rfl hv_8) ?_
  refine TL.nil ?_
  refine TC.go hK_6 ?_
  by_cases hc_9 : q4 = true
  · have hx_15 := hq_7 hc_9
    replace hp : (some ([] : List Int)) = some r := by rw [hx_15] at hp; simpa [cat, LIM] using hp
    refine TC.condT (bbT hc_9) ?_
    refine TC.seq fun K_10 hK_11 => ?_
    refine TC.region ?_
    refine TL.v (ltb rfl) (rv_as (v := .slice none 0 0) rfl) ?_
    refine TL.nil ?_
    refine TC.go hK_11 ?_
    refine TC.ret ?_
    refine W.new0 ?_
    obtain rfl := Option.some.inj hp
    exact fun w hw => retOk ⟨(.slice none 0 0), ([] : FP), rfl, rfl, (SlO.nil 3)⟩ (hw.pick [0])
  · refine TC.condF (bbF hc_9) ?_
    refine TC.skip ?_
    refine TC.go hK_4 ?_
    refine TC.seq fun K_12 hK_13 => ?_
    refine TC.region ?_
    refine TL.bs0 Try.underlying22 inf_3 (ltb rfl) fun b6 => ?_
    refine TL.v (ltb rfl) (rv_mv (v := v2) rfl) ?_
    obtain ⟨x7, hz_14, hp⟩ := bind_some' hp
    refine TL.appI (u := v2) (fInt .i64) Try.underlying22 inf_3 (ltb rfl) rfl (ltb rfl) rfl (leb rfl) rfl rfl (SlO.lit0 (k := (kInt .i64)) b6) h3 Src.H hz_14 fun v8 F9 h10 => ?_
    refine TL.v (ltb rfl) (rv_as (v := v8) rfl) ?_
    refine TL.nil ?_
    refine TC.go hK_13 ?_
    refine TC.ret ?_
    obtain rfl := Option.some.inj hp
    exact fun w hw => retOk ⟨v8, F9, rfl, rfl, h10⟩ (hw.pick [0])

/-! ### fettle/graph.kept -/
abbrev graph_kept.R (r : List Int) (v : Value) (A : List FP) : Prop := ∃ (w1 : Value) (G1 : FP), w1 = v ∧ A = [G1] ∧ SlO 3 (kInt .i64) r w1 G1
def graph_kept.nx29  (x19 : List Int) : Option (List Int) :=
  some x19
def graph_kept.jn50 (x18 : Int) (x23 : List Int) : Option (Ex (List Int) (List Int × Int)) :=
  some (.go (x23, (w64 (x18 + 1))))
def graph_kept.bd29 (a1 : List Int) (a4 : List Int) (a7 : List Bool) (x14 : List Int) (x18 : Int) : Option (Ex (List Int) (List Int × Int)) :=
  if x18 < (len a1) then
    (idx a1 x18).bind fun x27 =>
    (idx a4 x18).bind fun x33 =>
    (idx a7 x33).bind fun x39 =>
    if x39 = true then
      (cat x14 [x27]).bind fun x46 =>
      graph_kept.jn50 x18 x46
    else
      graph_kept.jn50 x18 x14
  else
    some (.ret x14)
def graph_kept (a1 : List Int) (a4 : List Int) (a7 : List Bool) : Option (List Int) :=
  if ¬ (len a1) = (len a4) then
    (slices_Clone a1).bind fun x10 =>
    some x10
  else
    (whl (fun (s : (List Int × Int)) => graph_kept.bd29 a1 a4 a7 s.1 s.2) FUEL (([] : List Int), 0)).bind fun z =>
    graph_kept.nx29 z
theorem graph_kept_ok {E : World} {H : FP} {w : World} {a1 : List Int} {a4 : List Int} {a7 : List Bool} {v2 : Value} {v5 : Value} {v8 : Value} {r : List Int} (h3 : SlI (kInt .i64) H a1 v2) (h6 : SlI (kInt .i64) H a4 v5) (h9 : SlI kBool H a7 v8) (hp : graph_kept a1 a4 a7 = some r) (hst : St E H [] w) :
    Fn Try.prog 73 #[v2, v5, v8] w fun v w' => ∃ A, graph_kept.R r v A ∧ St E H A w' := by
  refine Fn.body (fn := Try.f73) (args := [v2, v5, v8]) E H [] [.tmp 6] 37 Try.func73 rfl rfl rfl rfl (leb rfl) hst ?_
  unfold graph_kept at hp
  refine TC.seq fun K_1 hK_2 => ?_
  refine TC.region ?_
  refine TL.v (ltb rfl) (rv_as (v := .slice none 0 0) rfl) ?_
  refine TL.nil ?_
  refine TC.go hK_2 ?_
  refine TC.seq fun K_3 hK_4 => ?_
  refine TC.seq fun K_5 hK_6 => ?_
  refine TC.region ?_
  refine TL.v (ltb rfl) (rv_mv (v := v2) rfl) ?_
  refine TL.v (ltb rfl) (rv_lenI (v := v2) Try.underlying22 rfl h3) ?_
  refine TL.v (ltb rfl) (rv_mv (v := v5) rfl) ?_
  refine TL.v (ltb rfl) (rv_lenI (v := v5) Try.underlying22 rfl h6) ?_
  refine TL.v (ltb rfl) (rv_neq (k := .i64) (m := (len a1)) (n := (len a4)) rfl rfl) ?_
  refine TL.nil ?_
  refine TC.go hK_6 ?_
  by_cases hc_7 : ¬ (len a1) = (len a4)
  · rw [if_pos hc_7] at hp
    refine TC.condT (bT hc_7) ?_
    refine TC.seq fun K_8 hK_9 => ?_
    refine TC.region ?_
    refine TL.v (ltb rfl) (rv_mv (v := v2) rfl) ?_
    obtain ⟨x10, hy_10, hp⟩ := bind_some' hp
    refine TL.callC (vs := [v2]) (R := slices_Clone.R x10) [] [] rfl cb_72 (ltb rfl) (mc rfl m0) (fun w hw => slices_Clone_ok (a1 := a1) (h3.mono subH) hy_10 hw) fun v A' hR_11 => ?_
    obtain ⟨v11, F12, rfl, rfl, h13⟩ := hR_11
    refine TL.norm (L' := [F12]) rfl ?_
    refine TL.v (ltb rfl) (rv_as (v := v11) rfl) ?_
    refine TL.nil ?_
    refine TC.go hK_9 ?_
    refine TC.ret ?_
    obtain rfl := Option.some.inj hp
    exact fun w hw => retOk ⟨v11, F12, rfl, rfl, h13⟩ (hw.pick [0])
  · rw [if_neg hc_7] at hp
    refine TC.condF (bF hc_7) ?_
    refine TC.skip ?_
    refine TC.go hK_4 ?_
    refine TC.seq fun K_12 hK_13 => ?_
    refine TC.region ?_
    refine TL.v (ltb rfl) (rv_as (v := .slice none 0 0) rfl) ?_
    refine TL.nil ?_
    refine TC.go hK_13 ?_
    refine TC.seq fun K_14 hK_15 => ?_
    refine TC.seq fun K_16 hK_17 => ?_
    refine TC.region ?_
    refine TL.v (ltb rfl) (rv_mv (v := v2) rfl) ?_
    refine TL.v (ltb rfl) (rv_lenI (v := v2) Try.underlying22 rfl h3) ?_
    refine TL.v (ltb rfl) (rv_mv (v := .int .i64 0) rfl) ?_
    refine TL.nil ?_
    refine TC.go hK_17 ?_
    refine TC.block ?_
    obtain ⟨z_25, hz_26, hr_27⟩ := bind_some' hp
    clear hp
    have hJ_34 : ∀ (x19 : List Int) (v20 : Value) (F21 : FP) (e_30 : Env) (h22 : SlO 3 (kInt .i64) x19 v20 F21) (h_31 : e_30 7 = v20) (hq_35 : x19 = z_25), ∀ w, St E H [F21] w → K_14 e_30 w := by
      intro x19 v20 F21 e_30 h22 h_31 hq_35
      subst hq_35
      replace hp : graph_kept.nx29 x19 = some r := hr_27
      unfold graph_kept.nx29 at hp
      refine TC.go hK_15 ?_
      refine TC.seq fun K_32 hK_33 => ?_
      refine TC.region ?_
      refine TL.v (ltb rfl) (rv_mv (v := v20) h_31) ?_
      refine TL.v (ltb rfl) (rv_as (v := v20) rfl) ?_
      refine TL.nil ?_
      refine TC.go hK_33 ?_
      refine TC.ret ?_
      obtain rfl := Option.some.inj hp
      exact fun w hw => retOk ⟨v20, F21, rfl, rfl, h22⟩ (hw.pick [0])
    refine W.new0 ?_
    refine TC.pk' [0] (L' := [([] : FP)]) rfl ?_
    refine TC.loopW (r := z_25) (fun (s : (List Int × Int)) (e_18 : Env) (L_60 : List FP) => ∃ (x14 : List Int) (x18 : Int) (v15 : Value) (F16 : FP), s = (x14, x18) ∧ SlO 3 (kInt .i64) x14 v15 F16 ∧ e_18 1 = v5 ∧ e_18 2 = v8 ∧ e_18 7 = v15 ∧ e_18 17 = v2 ∧ e_18 18 = .int .i64 (len a1) ∧ e_18 19 = .int .i64 x18 ∧ L_60 = [F16]) ?_ FUEL _ _ _ hz_26 ⟨([] : List Int), 0, (.slice none 0 0), ([] : FP), rfl, (SlO.nil 3), rfl, rfl, rfl, rfl, rfl, rfl, rfl⟩
    rintro s e_18 L_60 ⟨x14, x18, v15, F16, rfl, h17, h_19, h_20, h_21, h_22, h_23, h_24, rfl⟩ x_28 hp hx_29
    replace hp : graph_kept.bd29 a1 a4 a7 x14 x18 = some x_28 := hp
    unfold graph_kept.bd29 at hp
    refine TC.seq fun K_36 hK_37 => ?_
    refine TC.region ?_
    refine TL.v (ltb rfl) (rv_lss (k := .i64) (m := x18) (n := (len a1)) h_24 h_23) ?_
    refine TL.nil ?_
    refine TC.go hK_37 ?_
    refine TC.seq fun K_38 hK_39 => ?_
    by_cases hc_40 : x18 < (len a1)
    · rw [if_pos hc_40] at hp
      refine TC.condT (bT hc_40) ?_
      refine TC.skip ?_
      refine TC.go hK_39 ?_
      refine TC.seq fun K_41 hK_42 => ?_
      have hJ_50 : ∀ (x23 : List Int) (v24 : Value) (F25 : FP) (e_43 : Env) (h26 : SlO 3 (kInt .i64) x23 v24 F25) (h_44 : e_43 1 = v5) (h_45 : e_43 2 = v8) (h_46 : e_43 7 = v24) (h_47 : e_43 17 = v2) (h_48 : e_43 18 = .int .i64 (len a1)) (h_49 : e_43 19 = .int .i64 x18) (hp : graph_kept.jn50 x18 x23 = some x_28), ∀ w, St E H [F25] w → K_41 e_43 w := by
        intro x23 v24 F25 e_43 h26 h_44 h_45 h_46 h_47 h_48 h_49 hp
        unfold graph_kept.jn50 at hp
        refine TC.go hK_42 ?_
        refine TC.region ?_
        refine TL.v (ltb rfl) (rv_add (k := .i64) (m := x18) (n := 1) h_49 rfl) ?_
        refine TL.v (ltb rfl) (rv_mv (v := .int .i64 (w64 (x18 + 1))) rfl) ?_
        refine TL.nil ?_
        exact fun w hw => goOk hp ⟨x23, (w64 (x18 + 1)), v24, F25, rfl, h26, h_44, h_45, h_46, h_47, h_48, rfl, rfl⟩ (hw.pick [0])
      refine TC.block ?_
      refine TC.seq fun K_51 hK_52 => ?_
      refine TC.region ?_
      refine TL.v (ltb rfl) (rv_mv (v := .int .i64 x18) h_24) ?_
      obtain ⟨x27, hx_53, hp⟩ := bind_some' hp
      refine TL.v3 (ltb rfl) (rv_ix 22 (.tmp 17) (.tmp 19) (v := v2) (i := x18) Try.underlying22 inf_3 rfl h_22 h_24 h3 hx_53) fun b28 o29 c30 h31 h32 => ?_
      obtain rfl := h31
      refine TL.v (ltb rfl) (rv_ld (v := .int .i64 x27) (o := o29) (o' := o29) (j := 0) sc_3 rfl Src.H h32 rfl rfl) ?_
      refine TL.v (ltb rfl) (rv_as (v := .int .i64 x18) rfl) ?_
      refine TL.v (ltb rfl) (rv_as (v := .int .i64 x27) rfl) ?_
      refine TL.nil ?_
      refine TC.go hK_52 ?_
      refine TC.seq fun K_54 hK_55 => ?_
      refine TC.region ?_
      refine TL.v (ltb rfl) (rv_mv (v := v8) h_20) ?_
      refine TL.v (ltb rfl) (rv_mv (v := v5) h_19) ?_
      refine TL.v (ltb rfl) (rv_mv (v := .int .i64 x18) rfl) ?_
      obtain ⟨x33, hx_56, hp⟩ := bind_some' hp
      refine TL.v3 (ltb rfl) (rv_ix 22 (.tmp 25) (.tmp 26) (v := v5) (i := x18) Try.underlying22 inf_3 rfl rfl rfl h6 hx_56) fun b34 o35 c36 h37 h38 => ?_
      obtain rfl := h37
      refine TL.v (ltb rfl) (rv_ld (v := .int .i64 x33) (o := o35) (o' := o35) (j := 0) sc_3 rfl Src.H h38 rfl rfl) ?_
      obtain ⟨x39, hx_57, hp⟩ := bind_some' hp
      refine TL.v3 (ltb rfl) (rv_ix 30 (.tmp 24) (.tmp 28) (v := v8) (i := x33) Try.underlying30 inf_4 rfl rfl rfl h9 hx_57) fun b40 o41 c42 h43 h44 => ?_
      obtain rfl := h43
      refine TL.v (ltb rfl) (rv_ld (v := .bool x39) (o := o41) (o' := o41) (j := 0) sc_4 rfl Src.H h44 rfl rfl) ?_
      refine TL.nil ?_
      refine TC.go hK_55 ?_
      by_cases hc_58 : x39 = true
      · rw [if_pos hc_58] at hp
        refine TC.condT (bbT hc_58) ?_
        refine TC.region ?_
        refine TL.v (ltb rfl) (rv_mv (v := v15) h_21) ?_
        refine TL.v (ltb rfl) (rv_mv (v := .int .i64 x27) rfl) ?_
        refine TL.bv (vs := [(0, .int .i64 x27)]) (cs := [.int .i64 x27]) (pc rfl p0) Try.underlying22 inf_3 (ltb rfl) (by decide) (by decide) (by kernel_rfl) fun b45 => ?_
        refine TL.pk' [1, 0] (L' := [F16, bx b45 3 [.int .i64 x27]]) rfl ?_
        refine TL.perm (L' := [F16, bx b45 3 [.int .i64 x27], []]) (by simp) ?_
        obtain ⟨x46, hz_59, hp⟩ := bind_some' hp
        refine TL.app Try.underlying22 inf_3 (ltb rfl) rfl (ltb rfl) rfl (leb rfl) rfl rfl h17 (RepL.to (RepL.cons (k := (kInt .i64)) (x := x27) ⟨rfl, rfl⟩ RepL.nil) rfl) rfl rfl hz_59 fun v47 F48 h49 => ?_
        refine TL.v (ltb rfl) (rv_as (v := v47) rfl) ?_
        refine TL.nil ?_
        refine fun w hw => hJ_50 x46 v47 F48 _ h49 ?_ ?_ ?_ ?_ ?_ ?_ hp w (hw.pick [0])
        · exact h_19
        · exact h_20
        · exact rfl
        · exact h_22
        · exact h_23
        · exact h_24
      · rw [if_neg hc_58] at hp
        refine TC.condF (bbF hc_58) ?_
        refine TC.skip ?_
        refine fun w hw => hJ_50 x14 v15 F16 _ h17 ?_ ?_ ?_ ?_ ?_ ?_ hp w (hw.pick [0])
        · exact h_19
        · exact h_20
        · exact h_21
        · exact h_22
        · exact h_23
        · exact h_24
    · rw [if_neg hc_40] at hp
      refine TC.condF (bF hc_40) ?_
      refine TC.exit ?_
      refine fun w hw => hJ_34 x14 v15 F16 _ h17 ?_ (ex_ret hp hx_29) w (hw.pick [0])
      · exact h_21

/-! ### fettle/graph.Trim -/
abbrev graph_Trim.R (r : PFunc × List Int) (v : Value) (A : List FP) : Prop := ∃ (w1 : Value) (G1 : FP) (w2 : Value) (G2 : FP) (w3 : Value) (G3 : FP), .tuple #[.agg #[.int .i64 r.1.params, .int .i64 r.1.result, w1, w2], w3] = v ∧ A = [G1, G2, G3] ∧ SlO 3 (kInt .i64) r.1.regs w1 G1 ∧ SlO 85 kBlock r.1.blocks w2 G2 ∧ SlO 3 (kInt .i64) r.2 w3 G3
def graph_Trim.nx69 (a1 : PFunc) (x29 : List Int) (x33 : List Int) (x42 : List PBlock) : Option (PFunc × List Int) :=
  some ((⟨a1.params, a1.result, x33, x42⟩ : PFunc), x29)
def graph_Trim.jn94 (x41 : Int) (x46 : List PBlock) : Option (Ex (List PBlock) (List PBlock × Int)) :=
  some (.go (x46, (w64 (x41 + 1))))
def graph_Trim.nx196 (x37 : List PBlock) (x41 : Int) (x50 : PBlock) (x75 : List PPhi) (x84 : List PInstr) (x93 : List Int) : Option (Ex (List PBlock) (List PBlock × Int)) :=
  (cat x37 [(⟨x75, x84, (⟨x50.term.kind, x50.term.arg, x93⟩ : PTerm)⟩ : PBlock)]).bind fun x98 =>
  graph_Trim.jn94 x41 x98
def graph_Trim.jn236 (x88 : List Int) (x92 : Int) (x108 : Int) : Option (Ex (List Int) (List Int × Int)) :=
  (cat x88 [x108]).bind fun x110 =>
  some (.go (x110, (w64 (x92 + 1))))
def graph_Trim.bd196 (x29 : List Int) (x50 : PBlock) (x88 : List Int) (x92 : Int) : Option (Ex (List Int) (List Int × Int)) :=
  if x92 < (len x50.term.to) then
    (idx x50.term.to x92).bind fun x102 =>
    if x102 ≥ 0 ∧ x102 < (len x29) then
      (idx x29 x102).bind fun x114 =>
      graph_Trim.jn236 x88 x92 x114
    else
      graph_Trim.jn236 x88 x92 x102
  else
    some (.ret x88)
def graph_Trim.nx163 (x29 : List Int) (x37 : List PBlock) (x41 : Int) (x50 : PBlock) (x75 : List PPhi) (x84 : List PInstr) : Option (Ex (List PBlock) (List PBlock × Int)) :=
  (whl (fun (s : (List Int × Int)) => graph_Trim.bd196 x29 x50 s.1 s.2) FUEL (([] : List Int), 0)).bind fun z =>
  graph_Trim.nx196 x37 x41 x50 x75 x84 z
def graph_Trim.bd163 (x50 : PBlock) (x79 : List PInstr) (x83 : Int) : Option (Ex (List PInstr) (List PInstr × Int)) :=
  if x83 < (len x50.ins) then
    (idx x50.ins x83).bind fun x121 =>
    (slices_Clone x121.args).bind fun x130 =>
    (cat x79 [(⟨x121.op, x121.dst, x130, x121.imm, x121.fn⟩ : PInstr)]).bind fun x135 =>
    some (.go (x135, (w64 (x83 + 1))))
  else
    some (.ret x79)
def graph_Trim.nx129 (x29 : List Int) (x37 : List PBlock) (x41 : Int) (x50 : PBlock) (x75 : List PPhi) : Option (Ex (List PBlock) (List PBlock × Int)) :=
  (whl (fun (s : (List PInstr × Int)) => graph_Trim.bd163 x50 s.1 s.2) FUEL (([] : List PInstr), 0)).bind fun z =>
  graph_Trim.nx163 x29 x37 x41 x50 x75 z
def graph_Trim.jn304 (x74 : Int) (x140 : List PPhi) : Option (Ex (List PPhi) (List PPhi × Int)) :=
  some (.go (x140, (w64 (x74 + 1))))
def graph_Trim.bd129 (x12 : List Bool) (x16 : List (List Int)) (x41 : Int) (x50 : PBlock) (x70 : List PPhi) (x74 : Int) : Option (Ex (List PPhi) (List PPhi × Int)) :=
  if x74 < (len x50.phis) then
    (idx x50.phis x74).bind fun x144 =>
    (idx x16 x41).bind fun x3354 =>
    (graph_kept x144.args x3354 x12).bind fun x4554 =>
    (cat x70 [(⟨x144.dst, x4554⟩ : PPhi)]).bind fun x5754 =>
    graph_Trim.jn304 x74 x5754
  else
    some (.ret x70)
def graph_Trim.bd69 (a1 : PFunc) (x12 : List Bool) (x16 : List (List Int)) (x29 : List Int) (x37 : List PBlock) (x41 : Int) : Option (Ex (List PBlock) (List PBlock × Int)) :=
  if x41 < (len a1.blocks) then
    (idx a1.blocks x41).bind fun x50 =>
    (idx x12 x41).bind fun x63 =>
    if (!x63) = true then
      graph_Trim.jn94 x41 x37
    else
      (whl (fun (s : (List PPhi × Int)) => graph_Trim.bd129 x12 x16 x41 x50 s.1 s.2) FUEL (([] : List PPhi), 0)).bind fun z =>
      graph_Trim.nx129 x29 x37 x41 x50 z
  else
    some (.ret x37)
def graph_Trim.jn51 (a1 : PFunc) (x12 : List Bool) (x16 : List (List Int)) (x29 : List Int) (x33 : List Int) : Option (PFunc × List Int) :=
  (whl (fun (s : (List PBlock × Int)) => graph_Trim.bd69 a1 x12 x16 x29 s.1 s.2) FUEL (([] : List PBlock), 0)).bind fun z =>
  graph_Trim.nx69 a1 x29 x33 z
def graph_Trim.nx35 (a1 : PFunc) (x12 : List Bool) (x16 : List (List Int)) (x29 : List Int) : Option (PFunc × List Int) :=
  (slices_Clone a1.regs).bind fun x9357 =>
  graph_Trim.jn51 a1 x12 x16 x29 x9357
def graph_Trim.jn380 (x28 : Int) (x10957 : List Int) (x10960 : Int) : Option (Ex (List Int) (List Int × Int × Int)) :=
  some (.go (x10957, x10960, (w64 (x28 + 1))))
def graph_Trim.bd35 (x12 : List Bool) (x20 : List Int) (x24 : List Int) (x27 : Int) (x28 : Int) : Option (Ex (List Int) (List Int × Int × Int)) :=
  if x28 < (len x20) then
    (idx x24 x28).bind fun x10961 =>
    (idx x12 x28).bind fun x10967 =>
    if x10967 = true then
      (idx (x24.set (x28).toNat (-1)) x28).bind fun x10973 =>
      graph_Trim.jn380 x28 ((x24.set (x28).toNat (-1)).set (x28).toNat x27) (w64 (x27 + 1))
    else
      graph_Trim.jn380 x28 (x24.set (x28).toNat (-1)) x27
  else
    some (.ret x24)
def graph_Trim (a1 : PFunc) : Option (PFunc × List Int) :=
  (graph_Next a1).bind fun x8 =>
  (graph_Reached a1).bind fun x12 =>
  (graph_ahead x8).bind fun x16 =>
  (mkl (len a1.blocks) (0 : Int)).bind fun x20 =>
  (whl (fun (s : (List Int × Int × Int)) => graph_Trim.bd35 x12 x20 s.1 s.2.1 s.2.2) FUEL (x20, 0, 0)).bind fun z =>
  graph_Trim.nx35 a1 x12 x16 z
set_option maxHeartbeats 4000000 in
theorem graph_Trim_ok {E : World} {H : FP} {w : World} {a1 : PFunc} {v2 : Value} {v4 : Value} {r : PFunc × List Int} (h3 : SlI (kInt .i64) H a1.regs v2) (h5 : SlI kBlock H a1.blocks v4) (hp : graph_Trim a1 = some r) (hst : St E H [] w) :
    Fn Try.prog 42 #[.agg #[.int .i64 a1.params, .int .i64 a1.result, v2, v4]] w fun v w' => ∃ A, graph_Trim.R r v A ∧ St E H A w' := by
  refine Fn.bodyV (fn := Try.f42) (args := [.agg #[.int .i64 a1.params, .int .i64 a1.result, v2, v4]]) E H [] 158 Try.func42 rfl rfl (leb rfl) hst ?_
  unfold graph_Trim at hp
  refine TC.seq fun K_1 hK_2 => ?_
  refine TC.region ?_
  refine TL.box (cs := [.int .i64 a1.params, .int .i64 a1.result, v2, v4]) (v := .agg #[.int .i64 a1.params, .int .i64 a1.result, v2, v4]) (ltb rfl) rfl rfl fun b6 => ?_
  refine TL.alloc (cs := [.int .i64 0, .int .i64 0, .slice none 0 0, .slice none 0 0]) inf_25 (ltb rfl) rfl fun b7 => ?_
  refine TL.v (ltb rfl) (rv_as (v := .slice none 0 0) rfl) ?_
  refine TL.nil ?_
  refine TC.go hK_2 ?_
  refine TC.seq fun K_3 hK_4 => ?_
  refine TC.region ?_
  refine TL.v (ltb rfl) (rv_lda (o := 0) (o' := 0) (j := 0) (ds := [.int .i64 a1.params, .int .i64 a1.result, v2, v4]) ag_25 rfl (Src.at_ 1 rfl) (bx_cells b6 25 _) rfl rfl rfl) ?_
  obtain ⟨x8, hy_5, hp⟩ := bind_some' hp
  refine TL.callC (vs := [.agg #[.int .i64 a1.params, .int .i64 a1.result, v2, v4]]) (R := graph_Next.R x8) [] [bx b7 25 [.int .i64 0, .int .i64 0, .slice none 0 0, .slice none 0 0], bx b6 25 [.int .i64 a1.params, .int .i64 a1.result, v2, v4]] rfl cb_18 (ltb rfl) (mc rfl m0) (fun w hw => graph_Next_ok (a1 := a1) (h3.mono subH) (h5.mono subH) hy_5 hw) fun v A' hR_6 => ?_
  obtain ⟨v9, F10, rfl, rfl, h11⟩ := hR_6
  refine TL.norm (L' := [F10, bx b7 25 [.int .i64 0, .int .i64 0, .slice none 0 0, .slice none 0 0], bx b6 25 [.int .i64 a1.params, .int .i64 a1.result, v2, v4]]) rfl ?_
  refine TL.v (ltb rfl) (rv_as (v := v9) rfl) ?_
  refine TL.nil ?_
  refine TC.go hK_4 ?_
  refine TC.seq fun K_7 hK_8 => ?_
  refine TC.region ?_
  refine TL.v (ltb rfl) (rv_lda (o := 0) (o' := 0) (j := 0) (ds := [.int .i64 a1.params, .int .i64 a1.result, v2, v4]) ag_25 rfl (Src.at_ 2 rfl) (bx_cells b6 25 _) rfl rfl rfl) ?_
  obtain ⟨x12, hy_9, hp⟩ := bind_some' hp
  refine TL.callC (vs := [.agg #[.int .i64 a1.params, .int .i64 a1.result, v2, v4]]) (R := graph_Reached.R x12) [] [F10, bx b7 25 [.int .i64 0, .int .i64 0, .slice none 0 0, .slice none 0 0], bx b6 25 [.int .i64 a1.params, .int .i64 a1.result, v2, v4]] rfl cb_19 (ltb rfl) (mc rfl m0) (fun w hw => graph_Reached_ok (a1 := a1) (h3.mono subH) (h5.mono subH) hy_9 hw) fun v A' hR_10 => ?_
  obtain ⟨v13, F14, rfl, rfl, h15⟩ := hR_10
  refine TL.norm (L' := [F14, F10, bx b7 25 [.int .i64 0, .int .i64 0, .slice none 0 0, .slice none 0 0], bx b6 25 [.int .i64 a1.params, .int .i64 a1.result, v2, v4]]) rfl ?_
  refine TL.v (ltb rfl) (rv_mv (v := v9) rfl) ?_
  obtain ⟨x16, hy_11, hp⟩ := bind_some' hp
  refine TL.callC (vs := [v9]) (R := graph_ahead.R x16) [] [F14, F10, bx b7 25 [.int .i64 0, .int .i64 0, .slice none 0 0, .slice none 0 0], bx b6 25 [.int .i64 a1.params, .int .i64 a1.result, v2, v4]] rfl cb_71 (ltb rfl) (mc rfl m0) (fun w hw => graph_ahead_ok (a1 := x8) (h11.ro.mono (subB 1 rfl)) hy_11 hw) fun v A' hR_12 => ?_
  obtain ⟨v17, F18, rfl, rfl, h19⟩ := hR_12
  refine TL.norm (L' := [F18, F14, F10, bx b7 25 [.int .i64 0, .int .i64 0, .slice none 0 0, .slice none 0 0], bx b6 25 [.int .i64 a1.params, .int .i64 a1.result, v2, v4]]) rfl ?_
  refine TL.v (ltb rfl) (rv_as (v := v13) rfl) ?_
  refine TL.v (ltb rfl) (rv_as (v := v17) rfl) ?_
  refine TL.nil ?_
  refine TC.go hK_8 ?_
  refine TC.seq fun K_13 hK_14 => ?_
  refine TC.region ?_
  refine TL.v (ltb rfl) (rv_fa (b := b6) (o := 0) fa_25_3 rfl) ?_
  refine TL.v (ltb rfl) (rv_ld (v := v4) (o := 3) (o' := 0) (j := 3) sc_23 rfl (Src.at_ 4 rfl) (bx_cells b6 25 _) rfl rfl) ?_
  refine TL.v (ltb rfl) (rv_lenI (v := v4) Try.underlying23 rfl h5) ?_
  obtain ⟨x20, hz_15, hp⟩ := bind_some' hp
  refine TL.mk (k := (kInt .i64)) (n := (len a1.blocks)) (x0 := (0 : Int)) Try.underlying22 inf_3 (ltb rfl) (ltb rfl) rfl rfl (leb rfl) rfl ⟨rfl, rfl⟩ hz_15 fun v21 F22 h23 => ?_
  refine TL.v (ltb rfl) (rv_as (v := v21) rfl) ?_
  refine TL.nil ?_
  refine TC.go hK_14 ?_
  refine TC.seq fun K_16 hK_17 => ?_
  refine TC.region ?_
  refine TL.v (ltb rfl) (rv_as (v := .int .i64 0) rfl) ?_
  refine TL.nil ?_
  refine TC.go hK_17 ?_
  refine TC.seq fun K_18 hK_19 => ?_
  refine TC.seq fun K_20 hK_21 => ?_
  refine TC.region ?_
  refine TL.v (ltb rfl) (rv_mv (v := v21) rfl) ?_
  refine TL.v (ltb rfl) (rv_lenI (v := v21) Try.underlying22 rfl h23.ro) ?_
  refine TL.v (ltb rfl) (rv_mv (v := .int .i64 0) rfl) ?_
  refine TL.nil ?_
  refine TC.go hK_21 ?_
  refine TC.block ?_
  obtain ⟨z_31, hz_32, hr_33⟩ := bind_some' hp
  clear hp
  have hJ_362 : ∀ (x29 : List Int) (F30 : FP) (e_36 : Env) (h31 : SlO 3 (kInt .i64) x29 v21 F30) (h_37 : e_36 1 = .pointer (some ⟨b6, 0, none⟩)) (h_38 : e_36 2 = .pointer (some ⟨b7, 0, none⟩)) (h_39 : e_36 5 = v13) (h_40 : e_36 6 = v17) (h_41 : e_36 7 = v21) (hq_363 : x29 = z_31), ∀ w, St E H [bx b6 25 [.int .i64 a1.params, .int .i64 a1.result, v2, v4], bx b7 25 [.int .i64 0, .int .i64 0, .slice none 0 0, .slice none 0 0], F14, F18, F30] w → K_18 e_36 w := by
    intro x29 F30 e_36 h31 h_37 h_38 h_39 h_40 h_41 hq_363
    subst hq_363
    replace hp : graph_Trim.nx35 a1 x12 x16 x29 = some r := hr_33
    unfold graph_Trim.nx35 at hp
    refine TC.go hK_19 ?_
    refine TC.seq fun K_42 hK_43 => ?_
    have hJ_51 : ∀ (x33 : List Int) (b32 : Nat) (v34 : Value) (F35 : FP) (e_44 : Env) (h36 : SlO 3 (kInt .i64) x33 v34 F35) (h_45 : e_44 1 = .pointer (some ⟨b6, 0, none⟩)) (h_46 : e_44 2 = .pointer (some ⟨b7, 0, none⟩)) (h_47 : e_44 5 = v13) (h_48 : e_44 6 = v17) (h_49 : e_44 7 = v21) (h_50 : e_44 10 = .pointer (some ⟨b32, 0, none⟩)) (hp : graph_Trim.jn51 a1 x12 x16 x29 x33 = some r), ∀ w, St E H [bx b6 25 [.int .i64 a1.params, .int .i64 a1.result, v2, v4], bx b7 25 [.int .i64 0, .int .i64 0, .slice none 0 0, .slice none 0 0], F14, F18, F30, bx b32 25 [.int .i64 a1.params, .int .i64 a1.result, v34, .slice none 0 0], F35] w → K_42 e_44 w := by
      intro x33 b32 v34 F35 e_44 h36 h_45 h_46 h_47 h_48 h_49 h_50 hp
      unfold graph_Trim.jn51 at hp
      refine TC.go hK_43 ?_
      refine TC.seq fun K_52 hK_53 => ?_
      refine TC.seq fun K_54 hK_55 => ?_
      refine TC.region ?_
      refine TL.v (ltb rfl) (rv_fa (b := b6) (o := 0) fa_25_3 h_45) ?_
      refine TL.v (ltb rfl) (rv_ld (v := v4) (o := 3) (o' := 0) (j := 3) sc_23 rfl (Src.at_ 0 rfl) (bx_cells b6 25 _) rfl rfl) ?_
      refine TL.v (ltb rfl) (rv_lenI (v := v4) Try.underlying23 rfl h5) ?_
      refine TL.v (ltb rfl) (rv_mv (v := .int .i64 0) rfl) ?_
      refine TL.nil ?_
      refine TC.go hK_55 ?_
      refine TC.block ?_
      obtain ⟨z_65, hz_66, hr_67⟩ := bind_some' hp
      clear hp
      have hJ_76 : ∀ (x42 : List PBlock) (v43 : Value) (F44 : FP) (e_70 : Env) (h45 : SlO 85 kBlock x42 v43 F44) (h_71 : e_70 2 = .pointer (some ⟨b7, 0, none⟩)) (h_72 : e_70 7 = v21) (h_73 : e_70 10 = .pointer (some ⟨b32, 0, none⟩)) (hq_77 : x42 = z_65), ∀ w, St E H [bx b7 25 [.int .i64 0, .int .i64 0, .slice none 0 0, .slice none 0 0], F30, bx b32 25 [.int .i64 a1.params, .int .i64 a1.result, v34, v43], F35, F44] w → K_52 e_70 w := by
        intro x42 v43 F44 e_70 h45 h_71 h_72 h_73 hq_77
        subst hq_77
        replace hp : graph_Trim.nx69 a1 x29 x33 x42 = some r := hr_67
        unfold graph_Trim.nx69 at hp
        refine TC.go hK_53 ?_
        refine TC.seq fun K_74 hK_75 => ?_
        refine TC.region ?_
        refine TL.v (ltb rfl) (rv_lda (o := 0) (o' := 0) (j := 0) (ds := [.int .i64 a1.params, .int .i64 a1.result, v34, v43]) ag_25 h_73 (Src.at_ 2 rfl) (bx_cells b32 25 _) rfl rfl rfl) ?_
        refine TL.v (ltb rfl) (rv_mv (v := v21) h_72) ?_
        refine TL.stB (ds := [.int .i64 a1.params, .int .i64 a1.result, v34, v43]) (o := 0) (cs := [.int .i64 0, .int .i64 0, .slice none 0 0, .slice none 0 0]) (b := b7) (u := .agg #[.int .i64 a1.params, .int .i64 a1.result, v34, v43]) 0 rfl ms_25 h_71 rfl rfl (oc rfl (oc rfl (oc (h36).one (oc (h45).one oc0)))) (leb rfl) ?_
        refine TL.norm (L' := [bx b7 25 [.int .i64 a1.params, .int .i64 a1.result, v34, v43], F30, bx b32 25 [.int .i64 a1.params, .int .i64 a1.result, v34, v43], F35, F44]) rfl ?_
        refine TL.v (ltb rfl) (rv_as (v := v21) rfl) ?_
        refine TL.nil ?_
        refine TC.go hK_75 ?_
        refine TC.ret ?_
        obtain rfl := Option.some.inj hp
        exact fun w hw => retC2 hw rfl h_71 rfl ag_25 0 rfl rfl ⟨v34, F35, v43, F44, v21, F30, rfl, rfl, h36, h45, h31⟩ (hw.pick [3, 3, 1])
      refine W.new0 ?_
      refine TC.pk' [2, 2, 2, 2, 2, 2, 0] (L' := [bx b7 25 [.int .i64 0, .int .i64 0, .slice none 0 0, .slice none 0 0], F14, F18, F30, bx b32 25 [.int .i64 a1.params, .int .i64 a1.result, v34, (.slice none 0 0)], F35, ([] : FP)]) rfl ?_
      refine TC.loopW (r := z_65) (fun (s : (List PBlock × Int)) (e_56 : Env) (L_345 : List FP) => ∃ (x37 : List PBlock) (x41 : Int) (v38 : Value) (F39 : FP), s = (x37, x41) ∧ SlO 85 kBlock x37 v38 F39 ∧ e_56 2 = .pointer (some ⟨b7, 0, none⟩) ∧ e_56 5 = v13 ∧ e_56 6 = v17 ∧ e_56 7 = v21 ∧ e_56 10 = .pointer (some ⟨b32, 0, none⟩) ∧ e_56 58 = v4 ∧ e_56 59 = .int .i64 (len a1.blocks) ∧ e_56 60 = .int .i64 x41 ∧ L_345 = [bx b7 25 [.int .i64 0, .int .i64 0, .slice none 0 0, .slice none 0 0], F14, F18, F30, bx b32 25 [.int .i64 a1.params, .int .i64 a1.result, v34, v38], F35, F39]) ?_ FUEL _ _ _ hz_66 ⟨([] : List PBlock), 0, (.slice none 0 0), ([] : FP), rfl, (SlO.nil 85), h_46, h_47, h_48, h_49, h_50, rfl, rfl, rfl, rfl⟩
      rintro s e_56 L_345 ⟨x37, x41, v38, F39, rfl, h40, h_57, h_58, h_59, h_60, h_61, h_62, h_63, h_64, rfl⟩ x_68 hp hx_69
      replace hp : graph_Trim.bd69 a1 x12 x16 x29 x37 x41 = some x_68 := hp
      unfold graph_Trim.bd69 at hp
      refine TC.seq fun K_78 hK_79 => ?_
      refine TC.region ?_
      refine TL.v (ltb rfl) (rv_lss (k := .i64) (m := x41) (n := (len a1.blocks)) h_64 h_63) ?_
      refine TL.nil ?_
      refine TC.go hK_79 ?_
      refine TC.seq fun K_80 hK_81 => ?_
      by_cases hc_82 : x41 < (len a1.blocks)
      · rw [if_pos hc_82] at hp
        refine TC.condT (bT hc_82) ?_
        refine TC.skip ?_
        refine TC.go hK_81 ?_
        refine TC.seq fun K_83 hK_84 => ?_
        have hJ_94 : ∀ (x46 : List PBlock) (v47 : Value) (F48 : FP) (e_85 : Env) (h49 : SlO 85 kBlock x46 v47 F48) (h_86 : e_85 2 = .pointer (some ⟨b7, 0, none⟩)) (h_87 : e_85 5 = v13) (h_88 : e_85 6 = v17) (h_89 : e_85 7 = v21) (h_90 : e_85 10 = .pointer (some ⟨b32, 0, none⟩)) (h_91 : e_85 58 = v4) (h_92 : e_85 59 = .int .i64 (len a1.blocks)) (h_93 : e_85 60 = .int .i64 x41) (hp : graph_Trim.jn94 x41 x46 = some x_68), ∀ w, St E H [bx b7 25 [.int .i64 0, .int .i64 0, .slice none 0 0, .slice none 0 0], F14, F18, F30, bx b32 25 [.int .i64 a1.params, .int .i64 a1.result, v34, v47], F35, F48] w → K_83 e_85 w := by
          intro x46 v47 F48 e_85 h49 h_86 h_87 h_88 h_89 h_90 h_91 h_92 h_93 hp
          unfold graph_Trim.jn94 at hp
          refine TC.go hK_84 ?_
          refine TC.region ?_
          refine TL.v (ltb rfl) (rv_add (k := .i64) (m := x41) (n := 1) h_93 rfl) ?_
          refine TL.v (ltb rfl) (rv_mv (v := .int .i64 (w64 (x41 + 1))) rfl) ?_
          refine TL.nil ?_
          exact fun w hw => goOk hp ⟨x46, (w64 (x41 + 1)), v47, F48, rfl, h49, h_86, h_87, h_88, h_89, h_90, h_91, h_92, rfl, rfl⟩ (hw.pick [0, 0, 0, 0, 0, 0, 0])
        refine TC.block ?_
        refine TC.seq fun K_95 hK_96 => ?_
        refine TC.region ?_
        refine TL.v (ltb rfl) (rv_mv (v := .int .i64 x41) h_64) ?_
        obtain ⟨x50, hx_97, hp⟩ := bind_some' hp
        refine TL.v3 (ltb rfl) (rv_ix 23 (.tmp 58) (.tmp 60) (v := v4) (i := x41) Try.underlying23 inf_85 rfl h_62 h_64 h5 hx_97) fun b51 o52 c53 h54 h55 => ?_
        obtain ⟨v56, v58, v60, rfl, h57, h59, h61⟩ := h54
        refine TL.v (ltb rfl) (rv_lda (o := o52) (o' := o52) (j := 0) (ds := [v56, v58, .int .i64 x50.term.kind, .int .i64 x50.term.arg, v60]) ag_85 rfl Src.H h55 rfl rfl rfl) ?_
        refine TL.alloc (cs := [.slice none 0 0, .slice none 0 0, .int .i64 0, .int .i64 0, .slice none 0 0]) inf_85 (ltb rfl) rfl fun b62 => ?_
        refine TL.v (ltb rfl) (rv_as (v := .int .i64 x41) rfl) ?_
        refine TL.stB (ds := [v56, v58, .int .i64 x50.term.kind, .int .i64 x50.term.arg, v60]) (o := 0) (cs := [.slice none 0 0, .slice none 0 0, .int .i64 0, .int .i64 0, .slice none 0 0]) (b := b62) (u := .agg #[v56, v58, .int .i64 x50.term.kind, .int .i64 x50.term.arg, v60]) 0 rfl ms_85 rfl rfl rfl (oc (h57).one (oc (h59).one (oc rfl (oc rfl (oc (h61).one oc0))))) (leb rfl) ?_
        refine TL.norm (L' := [bx b62 85 [v56, v58, .int .i64 x50.term.kind, .int .i64 x50.term.arg, v60], bx b7 25 [.int .i64 0, .int .i64 0, .slice none 0 0, .slice none 0 0], F14, F18, F30, bx b32 25 [.int .i64 a1.params, .int .i64 a1.result, v34, v38], F35, F39]) rfl ?_
        refine TL.nil ?_
        refine TC.go hK_96 ?_
        refine TC.seq fun K_98 hK_99 => ?_
        refine TC.seq fun K_100 hK_101 => ?_
        refine TC.region ?_
        refine TL.v (ltb rfl) (rv_mv (v := v13) h_58) ?_
        refine TL.v (ltb rfl) (rv_mv (v := .int .i64 x41) rfl) ?_
        obtain ⟨x63, hx_102, hp⟩ := bind_some' hp
        refine TL.v3 (ltb rfl) (rv_ix 30 (.tmp 65) (.tmp 66) (v := v13) (i := x41) Try.underlying30 inf_4 rfl rfl rfl (h15).ro hx_102) fun b64 o65 c66 h67 h68 => ?_
        obtain rfl := h67
        refine TL.v (ltb rfl) (rv_ld (v := .bool x63) (o := o65) (o' := o65) (j := 0) sc_4 rfl (Src.at_ 2 rfl) h68 rfl rfl) ?_
        refine TL.v (ltb rfl) (rv_not (b := x63) rfl) ?_
        refine TL.nil ?_
        refine TC.go hK_101 ?_
        by_cases hc_103 : (!x63) = true
        · rw [if_pos hc_103] at hp
          refine TC.condT (bbT hc_103) ?_
          refine TC.exit ?_
          refine fun w hw => hJ_94 x37 v38 F39 _ h40 ?_ ?_ ?_ ?_ ?_ ?_ ?_ ?_ hp w (hw.pick [1, 1, 1, 1, 1, 1, 1])
          · exact h_57
          · exact h_58
          · exact h_59
          · exact h_60
          · exact h_61
          · exact h_62
          · exact h_63
          · exact h_64
        · rw [if_neg hc_103] at hp
          refine TC.condF (bbF hc_103) ?_
          refine TC.skip ?_
          refine TC.go hK_99 ?_
          refine TC.seq fun K_104 hK_105 => ?_
          refine TC.region ?_
          refine TL.v (ltb rfl) (rv_fa (b := b62) (o := 0) fa_85_2 rfl) ?_
          refine TL.v (ltb rfl) (rv_fa (b := b62) (o := 2) fa_81_0 rfl) ?_
          refine TL.v (ltb rfl) (rv_ld (v := .int .i64 x50.term.kind) (o := 2) (o' := 0) (j := 2) sc_3 rfl (Src.at_ 0 rfl) (bx_cells b62 85 _) rfl rfl) ?_
          refine TL.v (ltb rfl) (rv_fa (b := b62) (o := 0) fa_85_2 rfl) ?_
          refine TL.v (ltb rfl) (rv_fa (b := b62) (o := 2) fa_81_1 rfl) ?_
          refine TL.v (ltb rfl) (rv_ld (v := .int .i64 x50.term.arg) (o := 3) (o' := 0) (j := 3) sc_3 rfl (Src.at_ 0 rfl) (bx_cells b62 85 _) rfl rfl) ?_
          refine TL.v (ltb rfl) (rv_bv (vs := [(0, .int .i64 x50.term.kind), (1, .int .i64 x50.term.arg)]) (ds := [.int .i64 x50.term.kind, .int .i64 x50.term.arg, .slice none 0 0]) (pc rfl (pc rfl p0)) (fun w => by kernel_rfl)) ?_
          refine TL.v (ltb rfl) (rv_bv (vs := [(2, .agg #[.int .i64 x50.term.kind, .int .i64 x50.term.arg, .slice none 0 0])]) (ds := [.slice none 0 0, .slice none 0 0, .int .i64 x50.term.kind, .int .i64 x50.term.arg, .slice none 0 0]) (pc rfl p0) (fun w => by kernel_rfl)) ?_
          refine TL.alloc (cs := [.slice none 0 0, .slice none 0 0, .int .i64 0, .int .i64 0, .slice none 0 0]) inf_85 (ltb rfl) rfl fun b69 => ?_
          refine TL.stB (ds := [.slice none 0 0, .slice none 0 0, .int .i64 x50.term.kind, .int .i64 x50.term.arg, .slice none 0 0]) (o := 0) (cs := [.slice none 0 0, .slice none 0 0, .int .i64 0, .int .i64 0, .slice none 0 0]) (b := b69) (u := .agg #[.slice none 0 0, .slice none 0 0, .int .i64 x50.term.kind, .int .i64 x50.term.arg, .slice none 0 0]) 0 rfl ms_85 rfl rfl rfl (oc rfl (oc rfl (oc rfl (oc rfl (oc rfl oc0))))) (leb rfl) ?_
          refine TL.norm (L' := [bx b69 85 [.slice none 0 0, .slice none 0 0, .int .i64 x50.term.kind, .int .i64 x50.term.arg, .slice none 0 0], bx b62 85 [v56, v58, .int .i64 x50.term.kind, .int .i64 x50.term.arg, v60], bx b7 25 [.int .i64 0, .int .i64 0, .slice none 0 0, .slice none 0 0], F14, F18, F30, bx b32 25 [.int .i64 a1.params, .int .i64 a1.result, v34, v38], F35, F39]) rfl ?_
          refine TL.nil ?_
          refine TC.go hK_105 ?_
          refine TC.seq fun K_106 hK_107 => ?_
          refine TC.seq fun K_108 hK_109 => ?_
          refine TC.region ?_
          refine TL.v (ltb rfl) (rv_fa (b := b62) (o := 0) fa_85_0 rfl) ?_
          refine TL.v (ltb rfl) (rv_ld (v := v56) (o := 0) (o' := 0) (j := 0) sc_82 rfl (Src.at_ 1 rfl) (bx_cells b62 85 _) rfl rfl) ?_
          refine TL.v (ltb rfl) (rv_lenI (v := v56) Try.underlying82 rfl h57) ?_
          refine TL.v (ltb rfl) (rv_mv (v := .int .i64 0) rfl) ?_
          refine TL.nil ?_
          refine TC.go hK_109 ?_
          refine TC.block ?_
          obtain ⟨z_125, hz_126, hr_127⟩ := bind_some' hp
          clear hp
          have hJ_280 : ∀ (x75 : List PPhi) (v76 : Value) (F77 : FP) (e_130 : Env) (h78 : SlO 131 kPhi x75 v76 F77) (h_131 : e_130 2 = .pointer (some ⟨b7, 0, none⟩)) (h_132 : e_130 5 = v13) (h_133 : e_130 6 = v17) (h_134 : e_130 7 = v21) (h_135 : e_130 10 = .pointer (some ⟨b32, 0, none⟩)) (h_136 : e_130 12 = .pointer (some ⟨b62, 0, none⟩)) (h_137 : e_130 13 = .pointer (some ⟨b69, 0, none⟩)) (h_138 : e_130 58 = v4) (h_139 : e_130 59 = .int .i64 (len a1.blocks)) (h_140 : e_130 60 = .int .i64 x41) (hq_281 : x75 = z_125), ∀ w, St E H [bx b7 25 [.int .i64 0, .int .i64 0, .slice none 0 0, .slice none 0 0], F14, F18, F30, bx b32 25 [.int .i64 a1.params, .int .i64 a1.result, v34, v38], F35, F39, bx b62 85 [v56, v58, .int .i64 x50.term.kind, .int .i64 x50.term.arg, v60], bx b69 85 [v76, .slice none 0 0, .int .i64 x50.term.kind, .int .i64 x50.term.arg, .slice none 0 0], F77] w → K_106 e_130 w := by
            intro x75 v76 F77 e_130 h78 h_131 h_132 h_133 h_134 h_135 h_136 h_137 h_138 h_139 h_140 hq_281
            subst hq_281
            replace hp : graph_Trim.nx129 x29 x37 x41 x50 x75 = some x_68 := hr_127
            unfold graph_Trim.nx129 at hp
            refine TC.go hK_107 ?_
            refine TC.seq fun K_141 hK_142 => ?_
            refine TC.seq fun K_143 hK_144 => ?_
            refine TC.region ?_
            refine TL.v (ltb rfl) (rv_fa (b := b62) (o := 0) fa_85_1 h_136) ?_
            refine TL.v (ltb rfl) (rv_ld (v := v58) (o := 1) (o' := 0) (j := 1) sc_83 rfl (Src.at_ 7 rfl) (bx_cells b62 85 _) rfl rfl) ?_
            refine TL.v (ltb rfl) (rv_lenI (v := v58) Try.underlying83 rfl h59) ?_
            refine TL.v (ltb rfl) (rv_mv (v := .int .i64 0) rfl) ?_
            refine TL.nil ?_
            refine TC.go hK_144 ?_
            refine TC.block ?_
            obtain ⟨z_159, hz_160, hr_161⟩ := bind_some' hp
            clear hp
            have hJ_262 : ∀ (x84 : List PInstr) (v85 : Value) (F86 : FP) (e_164 : Env) (h87 : SlO 87 kInstr x84 v85 F86) (h_165 : e_164 2 = .pointer (some ⟨b7, 0, none⟩)) (h_166 : e_164 5 = v13) (h_167 : e_164 6 = v17) (h_168 : e_164 7 = v21) (h_169 : e_164 10 = .pointer (some ⟨b32, 0, none⟩)) (h_170 : e_164 12 = .pointer (some ⟨b62, 0, none⟩)) (h_171 : e_164 13 = .pointer (some ⟨b69, 0, none⟩)) (h_172 : e_164 58 = v4) (h_173 : e_164 59 = .int .i64 (len a1.blocks)) (h_174 : e_164 60 = .int .i64 x41) (hq_263 : x84 = z_159), ∀ w, St E H [bx b7 25 [.int .i64 0, .int .i64 0, .slice none 0 0, .slice none 0 0], F14, F18, F30, bx b32 25 [.int .i64 a1.params, .int .i64 a1.result, v34, v38], F35, F39, bx b62 85 [v56, v58, .int .i64 x50.term.kind, .int .i64 x50.term.arg, v60], bx b69 85 [v76, v85, .int .i64 x50.term.kind, .int .i64 x50.term.arg, .slice none 0 0], F77, F86] w → K_141 e_164 w := by
              intro x84 v85 F86 e_164 h87 h_165 h_166 h_167 h_168 h_169 h_170 h_171 h_172 h_173 h_174 hq_263
              subst hq_263
              replace hp : graph_Trim.nx163 x29 x37 x41 x50 x75 x84 = some x_68 := hr_161
              unfold graph_Trim.nx163 at hp
              refine TC.go hK_142 ?_
              refine TC.seq fun K_175 hK_176 => ?_
              refine TC.seq fun K_177 hK_178 => ?_
              refine TC.region ?_
              refine TL.v (ltb rfl) (rv_fa (b := b62) (o := 0) fa_85_2 h_170) ?_
              refine TL.v (ltb rfl) (rv_fa (b := b62) (o := 2) fa_81_2 rfl) ?_
              refine TL.v (ltb rfl) (rv_ld (v := v60) (o := 4) (o' := 0) (j := 4) sc_22 rfl (Src.at_ 7 rfl) (bx_cells b62 85 _) rfl rfl) ?_
              refine TL.v (ltb rfl) (rv_lenI (v := v60) Try.underlying22 rfl h61) ?_
              refine TL.v (ltb rfl) (rv_mv (v := .int .i64 0) rfl) ?_
              refine TL.nil ?_
              refine TC.go hK_178 ?_
              refine TC.block ?_
              obtain ⟨z_192, hz_193, hr_194⟩ := bind_some' hp
              clear hp
              have hJ_208 : ∀ (x93 : List Int) (v94 : Value) (F95 : FP) (e_197 : Env) (h96 : SlO 3 (kInt .i64) x93 v94 F95) (h_198 : e_197 2 = .pointer (some ⟨b7, 0, none⟩)) (h_199 : e_197 5 = v13) (h_200 : e_197 6 = v17) (h_201 : e_197 7 = v21) (h_202 : e_197 10 = .pointer (some ⟨b32, 0, none⟩)) (h_203 : e_197 13 = .pointer (some ⟨b69, 0, none⟩)) (h_204 : e_197 58 = v4) (h_205 : e_197 59 = .int .i64 (len a1.blocks)) (h_206 : e_197 60 = .int .i64 x41) (hq_209 : x93 = z_192), ∀ w, St E H [bx b7 25 [.int .i64 0, .int .i64 0, .slice none 0 0, .slice none 0 0], F14, F18, F30, bx b32 25 [.int .i64 a1.params, .int .i64 a1.result, v34, v38], F35, F39, bx b69 85 [v76, v85, .int .i64 x50.term.kind, .int .i64 x50.term.arg, v94], F77, F86, F95] w → K_175 e_197 w := by
                intro x93 v94 F95 e_197 h96 h_198 h_199 h_200 h_201 h_202 h_203 h_204 h_205 h_206 hq_209
                subst hq_209
                replace hp : graph_Trim.nx196 x37 x41 x50 x75 x84 x93 = some x_68 := hr_194
                unfold graph_Trim.nx196 at hp
                refine TC.go hK_176 ?_
                refine TC.region ?_
                refine TL.v (ltb rfl) (rv_fa (b := b32) (o := 0) fa_25_3 h_202) ?_
                refine TL.v (ltb rfl) (rv_ld (v := v38) (o := 3) (o' := 0) (j := 3) sc_23 rfl (Src.at_ 4 rfl) (bx_cells b32 25 _) rfl rfl) ?_
                refine TL.v (ltb rfl) (rv_lda (o := 0) (o' := 0) (j := 0) (ds := [v76, v85, .int .i64 x50.term.kind, .int .i64 x50.term.arg, v94]) ag_85 h_203 (Src.at_ 7 rfl) (bx_cells b69 85 _) rfl rfl rfl) ?_
                refine TL.bv (vs := [(0, .agg #[v76, v85, .int .i64 x50.term.kind, .int .i64 x50.term.arg, v94])]) (cs := [v76, v85, .int .i64 x50.term.kind, .int .i64 x50.term.arg, v94]) (pc rfl p0) Try.underlying23 inf_85 (ltb rfl) (by decide) (by decide) (by kernel_rfl) fun b97 => ?_
                refine TL.pk' [7, 0, 7, 7, 7, 0, 0, 0, 0, 0, 0, 0] (L' := [F39, bx b97 85 [v76, v85, .int .i64 x50.term.kind, .int .i64 x50.term.arg, v94], F77, F86, F95, bx b7 25 [.int .i64 0, .int .i64 0, .slice none 0 0, .slice none 0 0], F14, F18, F30, bx b32 25 [.int .i64 a1.params, .int .i64 a1.result, v34, v38], F35, bx b69 85 [v76, v85, .int .i64 x50.term.kind, .int .i64 x50.term.arg, v94]]) rfl ?_
                refine TL.perm (L' := [F39, bx b97 85 [v76, v85, .int .i64 x50.term.kind, .int .i64 x50.term.arg, v94], F77 ++ (F86 ++ (F95)) ++ [], bx b7 25 [.int .i64 0, .int .i64 0, .slice none 0 0, .slice none 0 0], F14, F18, F30, bx b32 25 [.int .i64 a1.params, .int .i64 a1.result, v34, v38], F35, bx b69 85 [v76, v85, .int .i64 x50.term.kind, .int .i64 x50.term.arg, v94]]) (by simp) ?_
                obtain ⟨x98, hz_207, hp⟩ := bind_some' hp
                refine TL.app Try.underlying23 inf_85 (ltb rfl) rfl (ltb rfl) rfl (leb rfl) rfl rfl h40 (RepL.to (RepL.cons (k := kBlock) (x := (⟨x75, x84, (⟨x50.term.kind, x50.term.arg, x93⟩ : PTerm)⟩ : PBlock)) ⟨_, _, _, _, _, _, rfl, rfl, h78, h87, h96⟩ RepL.nil) rfl) rfl rfl hz_207 fun v99 F100 h101 => ?_
                refine TL.v (ltb rfl) (rv_fa (b := b32) (o := 0) fa_25_3 h_202) ?_
                refine TL.stB (ds := [v99]) (o := 3) (cs := [.int .i64 a1.params, .int .i64 a1.result, v34, v38]) (b := b32) (u := v99) 5 rfl ms_23 rfl rfl (SlO.cells h101) (oc (h101).one oc0) (leb rfl) ?_
                refine TL.norm (L' := [F100, bx b7 25 [.int .i64 0, .int .i64 0, .slice none 0 0, .slice none 0 0], F14, F18, F30, bx b32 25 [.int .i64 a1.params, .int .i64 a1.result, v34, v99], F35, bx b69 85 [v76, v85, .int .i64 x50.term.kind, .int .i64 x50.term.arg, v94]]) rfl ?_
                refine TL.nil ?_
                refine fun w hw => hJ_94 x98 v99 F100 _ h101 ?_ ?_ ?_ ?_ ?_ ?_ ?_ ?_ hp w (hw.pick [1, 1, 1, 1, 1, 1, 0])
                · exact h_198
                · exact h_199
                · exact h_200
                · exact h_201
                · exact h_202
                · exact h_204
                · exact h_205
                · exact h_206
              refine W.new0 ?_
              refine TC.pk' [1, 1, 1, 1, 1, 1, 1, 2, 2, 2, 0] (L' := [bx b7 25 [.int .i64 0, .int .i64 0, .slice none 0 0, .slice none 0 0], F14, F18, F30, bx b32 25 [.int .i64 a1.params, .int .i64 a1.result, v34, v38], F35, F39, bx b69 85 [v76, v85, .int .i64 x50.term.kind, .int .i64 x50.term.arg, (.slice none 0 0)], F77, F86, ([] : FP)]) rfl ?_
              refine TC.loopW (r := z_192) (fun (s : (List Int × Int)) (e_179 : Env) (L_261 : List FP) => ∃ (x88 : List Int) (x92 : Int) (v89 : Value) (F90 : FP), s = (x88, x92) ∧ SlO 3 (kInt .i64) x88 v89 F90 ∧ e_179 2 = .pointer (some ⟨b7, 0, none⟩) ∧ e_179 5 = v13 ∧ e_179 6 = v17 ∧ e_179 7 = v21 ∧ e_179 10 = .pointer (some ⟨b32, 0, none⟩) ∧ e_179 13 = .pointer (some ⟨b69, 0, none⟩) ∧ e_179 58 = v4 ∧ e_179 59 = .int .i64 (len a1.blocks) ∧ e_179 60 = .int .i64 x41 ∧ e_179 122 = v60 ∧ e_179 123 = .int .i64 (len x50.term.to) ∧ e_179 124 = .int .i64 x92 ∧ L_261 = [bx b7 25 [.int .i64 0, .int .i64 0, .slice none 0 0, .slice none 0 0], F14, F18, F30, bx b32 25 [.int .i64 a1.params, .int .i64 a1.result, v34, v38], F35, F39, bx b69 85 [v76, v85, .int .i64 x50.term.kind, .int .i64 x50.term.arg, v89], F77, F86, F90]) ?_ FUEL _ _ _ hz_193 ⟨([] : List Int), 0, (.slice none 0 0), ([] : FP), rfl, (SlO.nil 3), h_165, h_166, h_167, h_168, h_169, h_171, h_172, h_173, h_174, rfl, rfl, rfl, rfl⟩
              rintro s e_179 L_261 ⟨x88, x92, v89, F90, rfl, h91, h_180, h_181, h_182, h_183, h_184, h_185, h_186, h_187, h_188, h_189, h_190, h_191, rfl⟩ x_195 hp hx_196
              replace hp : graph_Trim.bd196 x29 x50 x88 x92 = some x_195 := hp
              unfold graph_Trim.bd196 at hp
              refine TC.seq fun K_210 hK_211 => ?_
              refine TC.region ?_
              refine TL.v (ltb rfl) (rv_lss (k := .i64) (m := x92) (n := (len x50.term.to)) h_191 h_190) ?_
              refine TL.nil ?_
              refine TC.go hK_211 ?_
              refine TC.seq fun K_212 hK_213 => ?_
              by_cases hc_214 : x92 < (len x50.term.to)
              · rw [if_pos hc_214] at hp
                refine TC.condT (bT hc_214) ?_
                refine TC.skip ?_
                refine TC.go hK_213 ?_
                refine TC.seq fun K_215 hK_216 => ?_
                refine TC.block ?_
                refine TC.seq fun K_217 hK_218 => ?_
                refine TC.region ?_
                obtain ⟨x102, hx_219, hp⟩ := bind_some' hp
                refine TL.v3 (ltb rfl) (rv_ix 22 (.tmp 122) (.tmp 124) (v := v60) (i := x92) Try.underlying22 inf_3 rfl h_189 h_191 h61 hx_219) fun b103 o104 c105 h106 h107 => ?_
                obtain rfl := h106
                refine TL.v (ltb rfl) (rv_ld (v := .int .i64 x102) (o := o104) (o' := o104) (j := 0) sc_3 rfl Src.H h107 rfl rfl) ?_
                refine TL.v (ltb rfl) (rv_as (v := .int .i64 x102) rfl) ?_
                refine TL.nil ?_
                refine TC.go hK_218 ?_
                refine TC.seq fun K_220 hK_221 => ?_
                have hJ_236 : ∀ (x108 : Int) (e_222 : Env) (h_223 : e_222 2 = .pointer (some ⟨b7, 0, none⟩)) (h_224 : e_222 5 = v13) (h_225 : e_222 6 = v17) (h_226 : e_222 7 = v21) (h_227 : e_222 10 = .pointer (some ⟨b32, 0, none⟩)) (h_228 : e_222 13 = .pointer (some ⟨b69, 0, none⟩)) (h_229 : e_222 19 = .int .i64 x108) (h_230 : e_222 58 = v4) (h_231 : e_222 59 = .int .i64 (len a1.blocks)) (h_232 : e_222 60 = .int .i64 x41) (h_233 : e_222 122 = v60) (h_234 : e_222 123 = .int .i64 (len x50.term.to)) (h_235 : e_222 124 = .int .i64 x92) (hp : graph_Trim.jn236 x88 x92 x108 = some x_195), ∀ w, St E H [bx b7 25 [.int .i64 0, .int .i64 0, .slice none 0 0, .slice none 0 0], F14, F18, F30, bx b32 25 [.int .i64 a1.params, .int .i64 a1.result, v34, v38], F35, F39, bx b69 85 [v76, v85, .int .i64 x50.term.kind, .int .i64 x50.term.arg, v89], F77, F86, F90] w → K_220 e_222 w := by
                  intro x108 e_222 h_223 h_224 h_225 h_226 h_227 h_228 h_229 h_230 h_231 h_232 h_233 h_234 h_235 hp
                  unfold graph_Trim.jn236 at hp
                  refine TC.go hK_221 ?_
                  refine TC.region ?_
                  refine TL.v (ltb rfl) (rv_fa (b := b69) (o := 0) fa_85_2 h_228) ?_
                  refine TL.v (ltb rfl) (rv_fa (b := b69) (o := 2) fa_81_2 rfl) ?_
                  refine TL.v (ltb rfl) (rv_ld (v := v89) (o := 4) (o' := 0) (j := 4) sc_22 rfl (Src.at_ 7 rfl) (bx_cells b69 85 _) rfl rfl) ?_
                  refine TL.v (ltb rfl) (rv_mv (v := .int .i64 x108) h_229) ?_
                  refine TL.bv (vs := [(0, .int .i64 x108)]) (cs := [.int .i64 x108]) (pc rfl p0) Try.underlying22 inf_3 (ltb rfl) (by decide) (by decide) (by kernel_rfl) fun b109 => ?_
                  refine TL.pk' [11, 0, 0, 0, 0, 0, 0, 0, 0, 0, 0, 0] (L' := [F90, bx b109 3 [.int .i64 x108], bx b7 25 [.int .i64 0, .int .i64 0, .slice none 0 0, .slice none 0 0], F14, F18, F30, bx b32 25 [.int .i64 a1.params, .int .i64 a1.result, v34, v38], F35, F39, bx b69 85 [v76, v85, .int .i64 x50.term.kind, .int .i64 x50.term.arg, v89], F77, F86]) rfl ?_
                  refine TL.perm (L' := [F90, bx b109 3 [.int .i64 x108], [], bx b7 25 [.int .i64 0, .int .i64 0, .slice none 0 0, .slice none 0 0], F14, F18, F30, bx b32 25 [.int .i64 a1.params, .int .i64 a1.result, v34, v38], F35, F39, bx b69 85 [v76, v85, .int .i64 x50.term.kind, .int .i64 x50.term.arg, v89], F77, F86]) (by simp) ?_
                  obtain ⟨x110, hz_237, hp⟩ := bind_some' hp
                  refine TL.app Try.underlying22 inf_3 (ltb rfl) rfl (ltb rfl) rfl (leb rfl) rfl rfl h91 (RepL.to (RepL.cons (k := (kInt .i64)) (x := x108) ⟨rfl, rfl⟩ RepL.nil) rfl) rfl rfl hz_237 fun v111 F112 h113 => ?_
                  refine TL.v (ltb rfl) (rv_fa (b := b69) (o := 0) fa_85_2 h_228) ?_
                  refine TL.v (ltb rfl) (rv_fa (b := b69) (o := 2) fa_81_2 rfl) ?_
                  refine TL.stB (ds := [v111]) (o := 4) (cs := [v76, v85, .int .i64 x50.term.kind, .int .i64 x50.term.arg, v89]) (b := b69) (u := v111) 8 rfl ms_22 rfl rfl (SlO.cells h113) (oc (h113).one oc0) (leb rfl) ?_
                  refine TL.norm (L' := [F112, bx b7 25 [.int .i64 0, .int .i64 0, .slice none 0 0, .slice none 0 0], F14, F18, F30, bx b32 25 [.int .i64 a1.params, .int .i64 a1.result, v34, v38], F35, F39, bx b69 85 [v76, v85, .int .i64 x50.term.kind, .int .i64 x50.term.arg, v111], F77, F86]) rfl ?_
                  refine TL.nil ?_
                  refine TC.go hK_216 ?_
                  refine TC.region ?_
                  refine TL.v (ltb rfl) (rv_add (k := .i64) (m := x92) (n := 1) h_235 rfl) ?_
                  refine TL.v (ltb rfl) (rv_mv (v := .int .i64 (w64 (x92 + 1))) rfl) ?_
                  refine TL.nil ?_
                  exact fun w hw => goOk hp ⟨x110, (w64 (x92 + 1)), v111, F112, rfl, h113, h_223, h_224, h_225, h_226, h_227, h_228, h_230, h_231, h_232, h_233, h_234, rfl, rfl⟩ (hw.pick [1, 1, 1, 1, 1, 1, 1, 1, 1, 1, 0])
                refine TC.seq fun K_238 hK_239 => ?_
                refine TC.region ?_
                refine TL.v (ltb rfl) (rv_mv (v := .int .i64 x102) rfl) ?_
                refine TL.v (ltb rfl) (rv_geq (k := .i64) (m := x102) (n := 0) rfl rfl) ?_
                refine TL.v (ltb rfl) (rv_mv (v := .bool (decide (x102 ≥ 0))) rfl) ?_
                refine TL.cut 5 fun K_240 hK_241 => ?_
                have hJ_242 : ∀ e_244 : Env, e_244 2 = .pointer (some ⟨b7, 0, none⟩) → e_244 5 = v13 → e_244 6 = v17 → e_244 7 = v21 → e_244 10 = .pointer (some ⟨b32, 0, none⟩) → e_244 13 = .pointer (some ⟨b69, 0, none⟩) → e_244 19 = .int .i64 x102 → e_244 58 = v4 → e_244 59 = .int .i64 (len a1.blocks) → e_244 60 = .int .i64 x41 → e_244 122 = v60 → e_244 123 = .int .i64 (len x50.term.to) → e_244 124 = .int .i64 x92 → e_244 135 = .bool (decide (x102 ≥ 0 ∧ x102 < (len x29))) → ∀ w, St E H [bx b7 25 [.int .i64 0, .int .i64 0, .slice none 0 0, .slice none 0 0], F14, F18, F30, bx b32 25 [.int .i64 a1.params, .int .i64 a1.result, v34, v38], F35, F39, bx b69 85 [v76, v85, .int .i64 x50.term.kind, .int .i64 x50.term.arg, v89], F77, F86, F90] w → K_240 e_244 w := by
                  intro e_244 h_245 h_246 h_247 h_248 h_249 h_250 h_251 h_252 h_253 h_254 h_255 h_256 h_257 h_258
                  refine TL.go hK_241 ?_
                  refine TL.nil ?_
                  refine TC.go hK_239 ?_
                  by_cases hc_259 : x102 ≥ 0 ∧ x102 < (len x29)
                  · rw [if_pos hc_259] at hp
                    refine TC.condT (h_258.trans (bT hc_259)) ?_
                    refine TC.region ?_
                    refine TL.v (ltb rfl) (rv_mv (v := v21) h_248) ?_
                    refine TL.v (ltb rfl) (rv_mv (v := .int .i64 x102) h_251) ?_
                    obtain ⟨x114, hx_260, hp⟩ := bind_some' hp
                    refine TL.v3 (ltb rfl) (rv_ix 22 (.tmp 136) (.tmp 137) (v := v21) (i := x102) Try.underlying22 inf_3 rfl rfl rfl (h31).ro hx_260) fun b115 o116 c117 h118 h119 => ?_
                    obtain rfl := h118
                    refine TL.v (ltb rfl) (rv_ld (v := .int .i64 x114) (o := o116) (o' := o116) (j := 0) sc_3 rfl (Src.at_ 3 rfl) h119 rfl rfl) ?_
                    refine TL.v (ltb rfl) (rv_as (v := .int .i64 x114) rfl) ?_
                    refine TL.nil ?_
                    refine fun w hw => hJ_236 x114 _ ?_ ?_ ?_ ?_ ?_ ?_ ?_ ?_ ?_ ?_ ?_ ?_ ?_ hp w (hw.pick [0, 0, 0, 0, 0, 0, 0, 0, 0, 0, 0])
                    · exact h_245
                    · exact h_246
                    · exact h_247
                    · exact h_248
                    · exact h_249
                    · exact h_250
                    · exact rfl
                    · exact h_252
                    · exact h_253
                    · exact h_254
                    · exact h_255
                    · exact h_256
                    · exact h_257
                  · rw [if_neg hc_259] at hp
                    refine TC.condF (h_258.trans (bF hc_259)) ?_
                    refine TC.skip ?_
                    refine fun w hw => hJ_236 x102 _ ?_ ?_ ?_ ?_ ?_ ?_ ?_ ?_ ?_ ?_ ?_ ?_ ?_ hp w (hw.pick [0, 0, 0, 0, 0, 0, 0, 0, 0, 0, 0])
                    · exact h_245
                    · exact h_246
                    · exact h_247
                    · exact h_248
                    · exact h_249
                    · exact h_250
                    · exact h_251
                    · exact h_252
                    · exact h_253
                    · exact h_254
                    · exact h_255
                    · exact h_256
                    · exact h_257
                by_cases hc_243 : x102 ≥ 0
                · refine TL.gyes true (yieldE_of rfl (bT hc_243)) rfl ?_
                  refine TL.v (ltb rfl) (rv_mv (v := .int .i64 x102) rfl) ?_
                  refine TL.gyes true (yieldE_of rfl (bT hc_243)) rfl ?_
                  refine TL.v (ltb rfl) (rv_mv (v := v21) h_183) ?_
                  refine TL.gyes true (yieldE_of rfl (bT hc_243)) rfl ?_
                  refine TL.v (ltb rfl) (rv_lenI (v := v21) Try.underlying22 rfl h31.ro) ?_
                  refine TL.gyes true (yieldE_of rfl (bT hc_243)) rfl ?_
                  refine TL.v (ltb rfl) (rv_lss (k := .i64) (m := x102) (n := (len x29)) rfl rfl) ?_
                  refine TL.v (ltb rfl) (rv_pickT true (bT hc_243) rfl (v := .bool (decide (x102 < (len x29)))) rfl) ?_
                  refine TL.nil (hJ_242 _ ?_ ?_ ?_ ?_ ?_ ?_ ?_ ?_ ?_ ?_ ?_ ?_ ?_ ?_)
                  · exact h_180
                  · exact h_181
                  · exact h_182
                  · exact h_183
                  · exact h_184
                  · exact h_185
                  · exact rfl
                  · exact h_186
                  · exact h_187
                  · exact h_188
                  · exact h_189
                  · exact h_190
                  · exact h_191
                  · exact (bAt hc_243)
                · refine TL.gno false rfl (fun d hd => by cases hd; exact ltb rfl) (yieldE_of rfl (bF hc_243)) rfl ?_
                  refine TL.gno false rfl (fun d hd => by cases hd; exact ltb rfl) (yieldE_of rfl (bF hc_243)) rfl ?_
                  refine TL.gno false rfl (fun d hd => by cases hd; exact ltb rfl) (yieldE_of rfl (bF hc_243)) rfl ?_
                  refine TL.gno false rfl (fun d hd => by cases hd; exact ltb rfl) (yieldE_of rfl (bF hc_243)) rfl ?_
                  refine TL.v (ltb rfl) (rv_pickF false (bF hc_243) rfl (v := .bool false) rfl) ?_
                  refine TL.nil (hJ_242 _ ?_ ?_ ?_ ?_ ?_ ?_ ?_ ?_ ?_ ?_ ?_ ?_ ?_ ?_)
                  · exact h_180
                  · exact h_181
                  · exact h_182
                  · exact h_183
                  · exact h_184
                  · exact h_185
                  · exact rfl
                  · exact h_186
                  · exact h_187
                  · exact h_188
                  · exact h_189
                  · exact h_190
                  · exact h_191
                  · exact (bAf hc_243)
              · rw [if_neg hc_214] at hp
                refine TC.condF (bF hc_214) ?_
                refine TC.exit ?_
                refine fun w hw => hJ_208 x88 v89 F90 _ h91 ?_ ?_ ?_ ?_ ?_ ?_ ?_ ?_ ?_ (ex_ret hp hx_196) w (hw.pick [0, 0, 0, 0, 0, 0, 0, 0, 0, 0, 0])
                · exact h_180
                · exact h_181
                · exact h_182
                · exact h_183
                · exact h_184
                · exact h_185
                · exact h_186
                · exact h_187
                · exact h_188
            refine W.new0 ?_
            refine TC.pk' [1, 1, 1, 1, 1, 1, 1, 1, 1, 1, 0] (L' := [bx b7 25 [.int .i64 0, .int .i64 0, .slice none 0 0, .slice none 0 0], F14, F18, F30, bx b32 25 [.int .i64 a1.params, .int .i64 a1.result, v34, v38], F35, F39, bx b62 85 [v56, v58, .int .i64 x50.term.kind, .int .i64 x50.term.arg, v60], bx b69 85 [v76, (.slice none 0 0), .int .i64 x50.term.kind, .int .i64 x50.term.arg, .slice none 0 0], F77, ([] : FP)]) rfl ?_
            refine TC.loopW (r := z_159) (fun (s : (List PInstr × Int)) (e_145 : Env) (L_279 : List FP) => ∃ (x79 : List PInstr) (x83 : Int) (v80 : Value) (F81 : FP), s = (x79, x83) ∧ SlO 87 kInstr x79 v80 F81 ∧ e_145 2 = .pointer (some ⟨b7, 0, none⟩) ∧ e_145 5 = v13 ∧ e_145 6 = v17 ∧ e_145 7 = v21 ∧ e_145 10 = .pointer (some ⟨b32, 0, none⟩) ∧ e_145 12 = .pointer (some ⟨b62, 0, none⟩) ∧ e_145 13 = .pointer (some ⟨b69, 0, none⟩) ∧ e_145 58 = v4 ∧ e_145 59 = .int .i64 (len a1.blocks) ∧ e_145 60 = .int .i64 x41 ∧ e_145 103 = v58 ∧ e_145 104 = .int .i64 (len x50.ins) ∧ e_145 105 = .int .i64 x83 ∧ L_279 = [bx b7 25 [.int .i64 0, .int .i64 0, .slice none 0 0, .slice none 0 0], F14, F18, F30, bx b32 25 [.int .i64 a1.params, .int .i64 a1.result, v34, v38], F35, F39, bx b62 85 [v56, v58, .int .i64 x50.term.kind, .int .i64 x50.term.arg, v60], bx b69 85 [v76, v80, .int .i64 x50.term.kind, .int .i64 x50.term.arg, .slice none 0 0], F77, F81]) ?_ FUEL _ _ _ hz_160 ⟨([] : List PInstr), 0, (.slice none 0 0), ([] : FP), rfl, (SlO.nil 87), h_131, h_132, h_133, h_134, h_135, h_136, h_137, h_138, h_139, h_140, rfl, rfl, rfl, rfl⟩
            rintro s e_145 L_279 ⟨x79, x83, v80, F81, rfl, h82, h_146, h_147, h_148, h_149, h_150, h_151, h_152, h_153, h_154, h_155, h_156, h_157, h_158, rfl⟩ x_162 hp hx_163
            replace hp : graph_Trim.bd163 x50 x79 x83 = some x_162 := hp
            unfold graph_Trim.bd163 at hp
            refine TC.seq fun K_264 hK_265 => ?_
            refine TC.region ?_
            refine TL.v (ltb rfl) (rv_lss (k := .i64) (m := x83) (n := (len x50.ins)) h_158 h_157) ?_
            refine TL.nil ?_
            refine TC.go hK_265 ?_
            refine TC.seq fun K_266 hK_267 => ?_
            by_cases hc_268 : x83 < (len x50.ins)
            · rw [if_pos hc_268] at hp
              refine TC.condT (bT hc_268) ?_
              refine TC.skip ?_
              refine TC.go hK_267 ?_
              refine TC.seq fun K_269 hK_270 => ?_
              refine TC.block ?_
              refine TC.seq fun K_271 hK_272 => ?_
              refine TC.region ?_
              obtain ⟨x121, hx_273, hp⟩ := bind_some' hp
              refine TL.v3 (ltb rfl) (rv_ix 83 (.tmp 103) (.tmp 105) (v := v58) (i := x83) Try.underlying83 inf_87 rfl h_156 h_158 h59 hx_273) fun b122 o123 c124 h125 h126 => ?_
              obtain ⟨v127, rfl, h128⟩ := h125
              refine TL.v (ltb rfl) (rv_lda (o := o123) (o' := o123) (j := 0) (ds := [.int .i64 x121.op, .int .i64 x121.dst, v127, .int .i64 x121.imm, .int .i64 x121.fn]) ag_87 rfl Src.H h126 rfl rfl rfl) ?_
              refine TL.alloc (cs := [.int .i64 0, .int .i64 0, .slice none 0 0, .int .i64 0, .int .i64 0]) inf_87 (ltb rfl) rfl fun b129 => ?_
              refine TL.stB (ds := [.int .i64 x121.op, .int .i64 x121.dst, v127, .int .i64 x121.imm, .int .i64 x121.fn]) (o := 0) (cs := [.int .i64 0, .int .i64 0, .slice none 0 0, .int .i64 0, .int .i64 0]) (b := b129) (u := .agg #[.int .i64 x121.op, .int .i64 x121.dst, v127, .int .i64 x121.imm, .int .i64 x121.fn]) 0 rfl ms_87 rfl rfl rfl (oc rfl (oc rfl (oc (h128).one (oc rfl (oc rfl oc0))))) (leb rfl) ?_
              refine TL.norm (L' := [bx b129 87 [.int .i64 x121.op, .int .i64 x121.dst, v127, .int .i64 x121.imm, .int .i64 x121.fn], bx b7 25 [.int .i64 0, .int .i64 0, .slice none 0 0, .slice none 0 0], F14, F18, F30, bx b32 25 [.int .i64 a1.params, .int .i64 a1.result, v34, v38], F35, F39, bx b62 85 [v56, v58, .int .i64 x50.term.kind, .int .i64 x50.term.arg, v60], bx b69 85 [v76, v80, .int .i64 x50.term.kind, .int .i64 x50.term.arg, .slice none 0 0], F77, F81]) rfl ?_
              refine TL.nil ?_
              refine TC.go hK_272 ?_
              refine TC.seq fun K_274 hK_275 => ?_
              refine TC.region ?_
              refine TL.v (ltb rfl) (rv_fa (b := b129) (o := 0) fa_87_2 rfl) ?_
              refine TL.v (ltb rfl) (rv_ld (v := v127) (o := 2) (o' := 0) (j := 2) sc_22 rfl (Src.at_ 0 rfl) (bx_cells b129 87 _) rfl rfl) ?_
              obtain ⟨x130, hy_276, hp⟩ := bind_some' hp
              refine TL.callC (vs := [v127]) (R := slices_Clone.R x130) [] [bx b129 87 [.int .i64 x121.op, .int .i64 x121.dst, v127, .int .i64 x121.imm, .int .i64 x121.fn], bx b7 25 [.int .i64 0, .int .i64 0, .slice none 0 0, .slice none 0 0], F14, F18, F30, bx b32 25 [.int .i64 a1.params, .int .i64 a1.result, v34, v38], F35, F39, bx b62 85 [v56, v58, .int .i64 x50.term.kind, .int .i64 x50.term.arg, v60], bx b69 85 [v76, v80, .int .i64 x50.term.kind, .int .i64 x50.term.arg, .slice none 0 0], F77, F81] rfl cb_72 (ltb rfl) (mc rfl m0) (fun w hw => slices_Clone_ok (a1 := x121.args) (h128.mono subH) hy_276 hw) fun v A' hR_277 => ?_
              obtain ⟨v131, F132, rfl, rfl, h133⟩ := hR_277
              refine TL.norm (L' := [F132, bx b129 87 [.int .i64 x121.op, .int .i64 x121.dst, v127, .int .i64 x121.imm, .int .i64 x121.fn], bx b7 25 [.int .i64 0, .int .i64 0, .slice none 0 0, .slice none 0 0], F14, F18, F30, bx b32 25 [.int .i64 a1.params, .int .i64 a1.result, v34, v38], F35, F39, bx b62 85 [v56, v58, .int .i64 x50.term.kind, .int .i64 x50.term.arg, v60], bx b69 85 [v76, v80, .int .i64 x50.term.kind, .int .i64 x50.term.arg, .slice none 0 0], F77, F81]) rfl ?_
              refine TL.v (ltb rfl) (rv_fa (b := b129) (o := 0) fa_87_2 rfl) ?_
              refine TL.stB (ds := [v131]) (o := 2) (cs := [.int .i64 x121.op, .int .i64 x121.dst, v127, .int .i64 x121.imm, .int .i64 x121.fn]) (b := b129) (u := v131) 1 rfl ms_22 rfl rfl (SlO.cells h133) (oc (h133).one oc0) (leb rfl) ?_
              refine TL.norm (L' := [F132, bx b129 87 [.int .i64 x121.op, .int .i64 x121.dst, v131, .int .i64 x121.imm, .int .i64 x121.fn], bx b7 25 [.int .i64 0, .int .i64 0, .slice none 0 0, .slice none 0 0], F14, F18, F30, bx b32 25 [.int .i64 a1.params, .int .i64 a1.result, v34, v38], F35, F39, bx b62 85 [v56, v58, .int .i64 x50.term.kind, .int .i64 x50.term.arg, v60], bx b69 85 [v76, v80, .int .i64 x50.term.kind, .int .i64 x50.term.arg, .slice none 0 0], F77, F81]) rfl ?_
              refine TL.nil ?_
              refine TC.go hK_275 ?_
              refine TC.region ?_
              refine TL.v (ltb rfl) (rv_fa (b := b69) (o := 0) fa_85_1 h_152) ?_
              refine TL.v (ltb rfl) (rv_ld (v := v80) (o := 1) (o' := 0) (j := 1) sc_83 rfl (Src.at_ 10 rfl) (bx_cells b69 85 _) rfl rfl) ?_
              refine TL.v (ltb rfl) (rv_lda (o := 0) (o' := 0) (j := 0) (ds := [.int .i64 x121.op, .int .i64 x121.dst, v131, .int .i64 x121.imm, .int .i64 x121.fn]) ag_87 rfl (Src.at_ 1 rfl) (bx_cells b129 87 _) rfl rfl rfl) ?_
              refine TL.bv (vs := [(0, .agg #[.int .i64 x121.op, .int .i64 x121.dst, v131, .int .i64 x121.imm, .int .i64 x121.fn])]) (cs := [.int .i64 x121.op, .int .i64 x121.dst, v131, .int .i64 x121.imm, .int .i64 x121.fn]) (pc rfl p0) Try.underlying83 inf_87 (ltb rfl) (by decide) (by decide) (by kernel_rfl) fun b134 => ?_
              refine TL.pk' [13, 0, 0, 0, 0, 0, 0, 0, 0, 0, 0, 0, 0, 0] (L' := [F81, bx b134 87 [.int .i64 x121.op, .int .i64 x121.dst, v131, .int .i64 x121.imm, .int .i64 x121.fn], F132, bx b129 87 [.int .i64 x121.op, .int .i64 x121.dst, v131, .int .i64 x121.imm, .int .i64 x121.fn], bx b7 25 [.int .i64 0, .int .i64 0, .slice none 0 0, .slice none 0 0], F14, F18, F30, bx b32 25 [.int .i64 a1.params, .int .i64 a1.result, v34, v38], F35, F39, bx b62 85 [v56, v58, .int .i64 x50.term.kind, .int .i64 x50.term.arg, v60], bx b69 85 [v76, v80, .int .i64 x50.term.kind, .int .i64 x50.term.arg, .slice none 0 0], F77]) rfl ?_
              refine TL.perm (L' := [F81, bx b134 87 [.int .i64 x121.op, .int .i64 x121.dst, v131, .int .i64 x121.imm, .int .i64 x121.fn], F132 ++ [], bx b129 87 [.int .i64 x121.op, .int .i64 x121.dst, v131, .int .i64 x121.imm, .int .i64 x121.fn], bx b7 25 [.int .i64 0, .int .i64 0, .slice none 0 0, .slice none 0 0], F14, F18, F30, bx b32 25 [.int .i64 a1.params, .int .i64 a1.result, v34, v38], F35, F39, bx b62 85 [v56, v58, .int .i64 x50.term.kind, .int .i64 x50.term.arg, v60], bx b69 85 [v76, v80, .int .i64 x50.term.kind, .int .i64 x50.term.arg, .slice none 0 0], F77]) (by simp) ?_
              obtain ⟨x135, hz_278, hp⟩ := bind_some' hp
              refine TL.app Try.underlying83 inf_87 (ltb rfl) rfl (ltb rfl) rfl (leb rfl) rfl rfl h82 (RepL.to (RepL.cons (k := kInstr) (x := (⟨x121.op, x121.dst, x130, x121.imm, x121.fn⟩ : PInstr)) ⟨_, _, rfl, rfl, h133⟩ RepL.nil) rfl) rfl rfl hz_278 fun v136 F137 h138 => ?_
              refine TL.v (ltb rfl) (rv_fa (b := b69) (o := 0) fa_85_1 h_152) ?_
              refine TL.stB (ds := [v136]) (o := 1) (cs := [v76, v80, .int .i64 x50.term.kind, .int .i64 x50.term.arg, .slice none 0 0]) (b := b69) (u := v136) 10 rfl ms_83 rfl rfl (SlO.cells h138) (oc (h138).one oc0) (leb rfl) ?_
              refine TL.norm (L' := [F137, bx b129 87 [.int .i64 x121.op, .int .i64 x121.dst, v131, .int .i64 x121.imm, .int .i64 x121.fn], bx b7 25 [.int .i64 0, .int .i64 0, .slice none 0 0, .slice none 0 0], F14, F18, F30, bx b32 25 [.int .i64 a1.params, .int .i64 a1.result, v34, v38], F35, F39, bx b62 85 [v56, v58, .int .i64 x50.term.kind, .int .i64 x50.term.arg, v60], bx b69 85 [v76, v136, .int .i64 x50.term.kind, .int .i64 x50.term.arg, .slice none 0 0], F77]) rfl ?_
              refine TL.nil ?_
              refine TC.go hK_270 ?_
              refine TC.region ?_
              refine TL.v (ltb rfl) (rv_add (k := .i64) (m := x83) (n := 1) h_158 rfl) ?_
              refine TL.v (ltb rfl) (rv_mv (v := .int .i64 (w64 (x83 + 1))) rfl) ?_
              refine TL.nil ?_
              exact fun w hw => goOk hp ⟨x135, (w64 (x83 + 1)), v136, F137, rfl, h138, h_146, h_147, h_148, h_149, h_150, h_151, h_152, h_153, h_154, h_155, h_156, h_157, rfl, rfl⟩ (hw.pick [2, 2, 2, 2, 2, 2, 2, 2, 2, 2, 0])
            · rw [if_neg hc_268] at hp
              refine TC.condF (bF hc_268) ?_
              refine TC.exit ?_
              refine fun w hw => hJ_262 x79 v80 F81 _ h82 ?_ ?_ ?_ ?_ ?_ ?_ ?_ ?_ ?_ ?_ (ex_ret hp hx_163) w (hw.pick [0, 0, 0, 0, 0, 0, 0, 0, 0, 0, 0])
              · exact h_146
              · exact h_147
              · exact h_148
              · exact h_149
              · exact h_150
              · exact h_151
              · exact h_152
              · exact h_153
              · exact h_154
              · exact h_155
          refine W.new0 ?_
          refine TC.pk' [3, 3, 3, 3, 3, 3, 3, 2, 1, 0] (L' := [bx b7 25 [.int .i64 0, .int .i64 0, .slice none 0 0, .slice none 0 0], F14, F18, F30, bx b32 25 [.int .i64 a1.params, .int .i64 a1.result, v34, v38], F35, F39, bx b62 85 [v56, v58, .int .i64 x50.term.kind, .int .i64 x50.term.arg, v60], bx b69 85 [(.slice none 0 0), .slice none 0 0, .int .i64 x50.term.kind, .int .i64 x50.term.arg, .slice none 0 0], ([] : FP)]) rfl ?_
          refine TC.loopW (r := z_125) (fun (s : (List PPhi × Int)) (e_110 : Env) (L_344 : List FP) => ∃ (x70 : List PPhi) (x74 : Int) (v71 : Value) (F72 : FP), s = (x70, x74) ∧ SlO 131 kPhi x70 v71 F72 ∧ e_110 2 = .pointer (some ⟨b7, 0, none⟩) ∧ e_110 5 = v13 ∧ e_110 6 = v17 ∧ e_110 7 = v21 ∧ e_110 10 = .pointer (some ⟨b32, 0, none⟩) ∧ e_110 11 = .int .i64 x41 ∧ e_110 12 = .pointer (some ⟨b62, 0, none⟩) ∧ e_110 13 = .pointer (some ⟨b69, 0, none⟩) ∧ e_110 58 = v4 ∧ e_110 59 = .int .i64 (len a1.blocks) ∧ e_110 60 = .int .i64 x41 ∧ e_110 79 = v56 ∧ e_110 80 = .int .i64 (len x50.phis) ∧ e_110 81 = .int .i64 x74 ∧ L_344 = [bx b7 25 [.int .i64 0, .int .i64 0, .slice none 0 0, .slice none 0 0], F14, F18, F30, bx b32 25 [.int .i64 a1.params, .int .i64 a1.result, v34, v38], F35, F39, bx b62 85 [v56, v58, .int .i64 x50.term.kind, .int .i64 x50.term.arg, v60], bx b69 85 [v71, .slice none 0 0, .int .i64 x50.term.kind, .int .i64 x50.term.arg, .slice none 0 0], F72]) ?_ FUEL _ _ _ hz_126 ⟨([] : List PPhi), 0, (.slice none 0 0), ([] : FP), rfl, (SlO.nil 131), h_57, h_58, h_59, h_60, h_61, rfl, rfl, rfl, h_62, h_63, h_64, rfl, rfl, rfl, rfl⟩
          rintro s e_110 L_344 ⟨x70, x74, v71, F72, rfl, h73, h_111, h_112, h_113, h_114, h_115, h_116, h_117, h_118, h_119, h_120, h_121, h_122, h_123, h_124, rfl⟩ x_128 hp hx_129
          replace hp : graph_Trim.bd129 x12 x16 x41 x50 x70 x74 = some x_128 := hp
          unfold graph_Trim.bd129 at hp
          refine TC.seq fun K_282 hK_283 => ?_
          refine TC.region ?_
          refine TL.v (ltb rfl) (rv_lss (k := .i64) (m := x74) (n := (len x50.phis)) h_124 h_123) ?_
          refine TL.nil ?_
          refine TC.go hK_283 ?_
          refine TC.seq fun K_284 hK_285 => ?_
          by_cases hc_286 : x74 < (len x50.phis)
          · rw [if_pos hc_286] at hp
            refine TC.condT (bT hc_286) ?_
            refine TC.skip ?_
            refine TC.go hK_285 ?_
            refine TC.seq fun K_287 hK_288 => ?_
            have hJ_304 : ∀ (x140 : List PPhi) (v141 : Value) (F142 : FP) (e_289 : Env) (h143 : SlO 131 kPhi x140 v141 F142) (h_290 : e_289 2 = .pointer (some ⟨b7, 0, none⟩)) (h_291 : e_289 5 = v13) (h_292 : e_289 6 = v17) (h_293 : e_289 7 = v21) (h_294 : e_289 10 = .pointer (some ⟨b32, 0, none⟩)) (h_295 : e_289 11 = .int .i64 x41) (h_296 : e_289 12 = .pointer (some ⟨b62, 0, none⟩)) (h_297 : e_289 13 = .pointer (some ⟨b69, 0, none⟩)) (h_298 : e_289 58 = v4) (h_299 : e_289 59 = .int .i64 (len a1.blocks)) (h_300 : e_289 60 = .int .i64 x41) (h_301 : e_289 79 = v56) (h_302 : e_289 80 = .int .i64 (len x50.phis)) (h_303 : e_289 81 = .int .i64 x74) (hp : graph_Trim.jn304 x74 x140 = some x_128), ∀ w, St E H [bx b7 25 [.int .i64 0, .int .i64 0, .slice none 0 0, .slice none 0 0], F14, F18, F30, bx b32 25 [.int .i64 a1.params, .int .i64 a1.result, v34, v38], F35, F39, bx b62 85 [v56, v58, .int .i64 x50.term.kind, .int .i64 x50.term.arg, v60], bx b69 85 [v141, .slice none 0 0, .int .i64 x50.term.kind, .int .i64 x50.term.arg, .slice none 0 0], F142] w → K_287 e_289 w := by
              intro x140 v141 F142 e_289 h143 h_290 h_291 h_292 h_293 h_294 h_295 h_296 h_297 h_298 h_299 h_300 h_301 h_302 h_303 hp
              unfold graph_Trim.jn304 at hp
              refine TC.go hK_288 ?_
              refine TC.region ?_
              refine TL.v (ltb rfl) (rv_add (k := .i64) (m := x74) (n := 1) h_303 rfl) ?_
              refine TL.v (ltb rfl) (rv_mv (v := .int .i64 (w64 (x74 + 1))) rfl) ?_
              refine TL.nil ?_
              exact fun w hw => goOk hp ⟨x140, (w64 (x74 + 1)), v141, F142, rfl, h143, h_290, h_291, h_292, h_293, h_294, h_295, h_296, h_297, h_298, h_299, h_300, h_301, h_302, rfl, rfl⟩ (hw.pick [0, 0, 0, 0, 0, 0, 0, 0, 0, 0])
            refine TC.block ?_
            refine TC.seq fun K_305 hK_306 => ?_
            refine TC.region ?_
            obtain ⟨x144, hx_307, hp⟩ := bind_some' hp
            refine TL.v3 (ltb rfl) (rv_ix 82 (.tmp 79) (.tmp 81) (v := v56) (i := x74) Try.underlying82 inf_131 rfl h_122 h_124 h57 hx_307) fun b145 o146 c147 h148 h149 => ?_
            obtain ⟨v150, rfl, h151⟩ := h148
            refine TL.v (ltb rfl) (rv_lda (o := o146) (o' := o146) (j := 0) (ds := [.int .i64 x144.dst, v150]) ag_131 rfl Src.H h149 rfl rfl rfl) ?_
            refine TL.alloc (cs := [.int .i64 0, .slice none 0 0]) inf_131 (ltb rfl) rfl fun b152 => ?_
            refine TL.stB (ds := [.int .i64 x144.dst, v150]) (o := 0) (cs := [.int .i64 0, .slice none 0 0]) (b := b152) (u := .agg #[.int .i64 x144.dst, v150]) 0 rfl ms_131 rfl rfl rfl (oc rfl (oc (h151).one oc0)) (leb rfl) ?_
            refine TL.norm (L' := [bx b152 131 [.int .i64 x144.dst, v150], bx b7 25 [.int .i64 0, .int .i64 0, .slice none 0 0, .slice none 0 0], F14, F18, F30, bx b32 25 [.int .i64 a1.params, .int .i64 a1.result, v34, v38], F35, F39, bx b62 85 [v56, v58, .int .i64 x50.term.kind, .int .i64 x50.term.arg, v60], bx b69 85 [v71, .slice none 0 0, .int .i64 x50.term.kind, .int .i64 x50.term.arg, .slice none 0 0], F72]) rfl ?_
            refine TL.nil ?_
            refine TC.go hK_306 ?_
            refine TC.held ([bx b152 131 [.int .i64 x144.dst, v150], bx b7 25 [.int .i64 0, .int .i64 0, .slice none 0 0, .slice none 0 0], F14, F18, F30, bx b32 25 [.int .i64 a1.params, .int .i64 a1.result, v34, v38], F35, F39, bx b62 85 [v56, v58, .int .i64 x50.term.kind, .int .i64 x50.term.arg, v60]].flatten ++ H) mix (srcG 0 rfl (srcG 1 rfl (srcG 2 rfl (srcG 3 rfl (srcG 4 rfl (srcG 5 rfl (srcG 6 rfl (srcG 7 rfl (srcG 8 rfl srcG0))))))))) ?_
            refine HL.v 0 rfl trivial (by kernel_rfl) (by kernel_rfl) (by kernel_rfl) (ltb rfl) (rv_fa (b := b69) (o := 0) fa_85_0 h_118) ?_
            refine HL.v 2 rfl trivial (by kernel_rfl) (by kernel_rfl) (by kernel_rfl) (ltb rfl) (rv_fa (b := b152) (o := 0) fa_131_0 rfl) ?_
            refine HL.v 3 rfl trivial (by kernel_rfl) (by kernel_rfl) (by kernel_rfl) (ltb rfl) (rv_ld (v := .int .i64 x144.dst) (o := 0) (o' := 0) (j := 0) sc_3 rfl (srcInG 0 rfl) (bx_cells b152 131 _) rfl rfl) ?_
            refine HL.v 4 rfl trivial (by kernel_rfl) (by kernel_rfl) (by kernel_rfl) (ltb rfl) (rv_fa (b := b152) (o := 0) fa_131_1 rfl) ?_
            refine HL.v 5 rfl trivial (by kernel_rfl) (by kernel_rfl) (by kernel_rfl) (ltb rfl) (rv_ld (v := v150) (o := 1) (o' := 0) (j := 1) sc_22 rfl (srcInG 0 rfl) (bx_cells b152 131 _) rfl rfl) ?_
            refine HL.v 6 rfl trivial (by kernel_rfl) (by kernel_rfl) (by kernel_rfl) (ltb rfl) (rv_mv (v := v17) h_113) ?_
            refine HL.v 7 rfl trivial (by kernel_rfl) (by kernel_rfl) (by kernel_rfl) (ltb rfl) (rv_mv (v := .int .i64 x41) h_116) ?_
            obtain ⟨x3354, hx_308, hp⟩ := bind_some' hp
            refine HL.w3 8 rfl trivial (by kernel_rfl) (by kernel_rfl) (by kernel_rfl) (ltb rfl) (rv_ix 28 (.tmp 91) (.tmp 92) (v := v17) (i := x41) Try.underlying28 inf_22 rfl rfl rfl (h19).ro hx_308) fun b3355 o3356 c3357 h3358 h3359 => ?_
            obtain ⟨v3360, rfl, h3361⟩ := h3358
            refine HL.v 9 rfl trivial (by kernel_rfl) (by kernel_rfl) (by kernel_rfl) (ltb rfl) (rv_ld (v := v3360) (o := o3356) (o' := o3356) (j := 0) sc_22 rfl (srcInG 3 rfl) h3359 rfl rfl) ?_
            refine HL.v 10 rfl trivial (by kernel_rfl) (by kernel_rfl) (by kernel_rfl) (ltb rfl) (rv_mv (v := v13) h_112) ?_
            refine HL.all [1, 11] (by kernel_rfl) (by simp) (HL.al ⟨_, rfl, fun K_309 hK_310 => ?_⟩ (HL.al ⟨_, rfl, fun K_322 hK_323 => ?_⟩ HL.al0))
            · refine TL.v (ltb rfl) (rv_ld (v := v71) (o := 0) (o' := 0) (j := 0) sc_82 rfl (Src.at_ 9 rfl) (bx_cells b69 85 _) rfl rfl) ?_
              refine TL.nil (hK_310 _ _ (srcG 0 rfl (srcG 1 rfl (srcG 2 rfl (srcG 3 rfl (srcG 4 rfl (srcG 5 rfl (srcG 6 rfl (srcG 7 rfl (srcG 8 rfl srcG0))))))))) ?_)
              refine HL.one 11 rfl (by kernel_rfl) fun K_311 hK_312 => ?_
              obtain ⟨x4554, hy_313, hp⟩ := bind_some' hp
              refine TL.callC (vs := [v150, v3360, v13]) (R := graph_kept.R x4554) [] [bx b152 131 [.int .i64 x144.dst, v150], bx b7 25 [.int .i64 0, .int .i64 0, .slice none 0 0, .slice none 0 0], F14, F18, F30, bx b32 25 [.int .i64 a1.params, .int .i64 a1.result, v34, v38], F35, F39, bx b62 85 [v56, v58, .int .i64 x50.term.kind, .int .i64 x50.term.arg, v60], bx b69 85 [v71, .slice none 0 0, .int .i64 x50.term.kind, .int .i64 x50.term.arg, .slice none 0 0], F72] rfl cb_73 (ltb rfl) (mc rfl (mc rfl (mc rfl m0))) (fun w hw => graph_kept_ok (a1 := x144.args) (a4 := x3354) (a7 := x12) (h151.mono subH) (h3361.mono (subB 3 rfl)) (h15.ro.mono (subB 2 rfl)) hy_313 hw) fun v A' hR_314 => ?_
              obtain ⟨v4555, F4556, rfl, rfl, h4557⟩ := hR_314
              refine TL.norm (L' := [F4556, bx b152 131 [.int .i64 x144.dst, v150], bx b7 25 [.int .i64 0, .int .i64 0, .slice none 0 0, .slice none 0 0], F14, F18, F30, bx b32 25 [.int .i64 a1.params, .int .i64 a1.result, v34, v38], F35, F39, bx b62 85 [v56, v58, .int .i64 x50.term.kind, .int .i64 x50.term.arg, v60], bx b69 85 [v71, .slice none 0 0, .int .i64 x50.term.kind, .int .i64 x50.term.arg, .slice none 0 0], F72]) rfl ?_
              refine TL.nil (hK_312 _ _ (srcG 1 rfl (srcG 2 rfl (srcG 3 rfl (srcG 4 rfl (srcG 5 rfl (srcG 6 rfl (srcG 7 rfl (srcG 8 rfl (srcG 9 rfl srcG0))))))))) ?_)
              refine HL.v 12 rfl trivial (by kernel_rfl) (by kernel_rfl) (by kernel_rfl) (ltb rfl) (rv_bv (vs := [(0, .int .i64 x144.dst), (1, v4555)]) (ds := [.int .i64 x144.dst, v4555]) (pc rfl (pc rfl p0)) (fun w => by obtain ⟨_, _, rfl⟩ := (h4557).len; kernel_rfl)) ?_
              refine HL.one 13 rfl (by kernel_rfl) fun K_315 hK_316 => ?_
              refine TL.bv (vs := [(0, .agg #[.int .i64 x144.dst, v4555])]) (cs := [.int .i64 x144.dst, v4555]) (pc rfl p0) Try.underlying82 inf_131 (ltb rfl) (by decide) (by decide) (by kernel_rfl) fun b5354 => ?_
              refine TL.nil (hK_316 _ _ (srcG 2 rfl (srcG 3 rfl (srcG 4 rfl (srcG 5 rfl (srcG 6 rfl (srcG 7 rfl (srcG 8 rfl (srcG 9 rfl (srcG 10 rfl srcG0))))))))) ?_)
              refine HL.one 14 rfl (by kernel_rfl) fun K_317 hK_318 => ?_
              refine TL.pk' [12, 0, 0, 0, 0, 0, 0, 0, 0, 0, 0, 0, 0] (L' := [F72, bx b5354 131 [.int .i64 x144.dst, v4555], F4556, bx b152 131 [.int .i64 x144.dst, v150], bx b7 25 [.int .i64 0, .int .i64 0, .slice none 0 0, .slice none 0 0], F14, F18, F30, bx b32 25 [.int .i64 a1.params, .int .i64 a1.result, v34, v38], F35, F39, bx b62 85 [v56, v58, .int .i64 x50.term.kind, .int .i64 x50.term.arg, v60], bx b69 85 [v71, .slice none 0 0, .int .i64 x50.term.kind, .int .i64 x50.term.arg, .slice none 0 0]]) rfl ?_
              refine TL.perm (L' := [F72, bx b5354 131 [.int .i64 x144.dst, v4555], F4556 ++ [], bx b152 131 [.int .i64 x144.dst, v150], bx b7 25 [.int .i64 0, .int .i64 0, .slice none 0 0, .slice none 0 0], F14, F18, F30, bx b32 25 [.int .i64 a1.params, .int .i64 a1.result, v34, v38], F35, F39, bx b62 85 [v56, v58, .int .i64 x50.term.kind, .int .i64 x50.term.arg, v60], bx b69 85 [v71, .slice none 0 0, .int .i64 x50.term.kind, .int .i64 x50.term.arg, .slice none 0 0]]) (by simp) ?_
              obtain ⟨x5754, hz_319, hp⟩ := bind_some' hp
              refine TL.app Try.underlying82 inf_131 (ltb rfl) rfl (ltb rfl) rfl (leb rfl) rfl rfl h73 (RepL.to (RepL.cons (k := kPhi) (x := (⟨x144.dst, x4554⟩ : PPhi)) ⟨_, _, rfl, rfl, h4557⟩ RepL.nil) rfl) rfl rfl hz_319 fun v5755 F5756 h5757 => ?_
              refine TL.nil (hK_318 _ _ (srcG 1 rfl (srcG 2 rfl (srcG 3 rfl (srcG 4 rfl (srcG 5 rfl (srcG 6 rfl (srcG 7 rfl (srcG 8 rfl (srcG 9 rfl srcG0))))))))) ?_)
              refine HL.v 15 rfl trivial (by kernel_rfl) (by kernel_rfl) (by kernel_rfl) (ltb rfl) (rv_fa (b := b69) (o := 0) fa_85_0 h_118) ?_
              refine HL.one 16 rfl (by kernel_rfl) fun K_320 hK_321 => ?_
              refine TL.stB (ds := [v5755]) (o := 0) (cs := [v71, .slice none 0 0, .int .i64 x50.term.kind, .int .i64 x50.term.arg, .slice none 0 0]) (b := b69) (u := v5755) 10 rfl ms_82 rfl rfl (SlO.cells h5757) (oc (h5757).one oc0) (leb rfl) ?_
              refine TL.norm (L' := [F5756, bx b152 131 [.int .i64 x144.dst, v150], bx b7 25 [.int .i64 0, .int .i64 0, .slice none 0 0, .slice none 0 0], F14, F18, F30, bx b32 25 [.int .i64 a1.params, .int .i64 a1.result, v34, v38], F35, F39, bx b62 85 [v56, v58, .int .i64 x50.term.kind, .int .i64 x50.term.arg, v60], bx b69 85 [v5755, .slice none 0 0, .int .i64 x50.term.kind, .int .i64 x50.term.arg, .slice none 0 0]]) rfl ?_
              refine TL.nil (hK_321 _ _ (srcG 1 rfl (srcG 2 rfl (srcG 3 rfl (srcG 4 rfl (srcG 5 rfl (srcG 6 rfl (srcG 7 rfl (srcG 8 rfl (srcG 9 rfl srcG0))))))))) ?_)
              refine HL.done (by kernel_rfl) ?_
              refine fun w hw => hJ_304 x5754 v5755 F5756 _ h5757 ?_ ?_ ?_ ?_ ?_ ?_ ?_ ?_ ?_ ?_ ?_ ?_ ?_ ?_ hp w (hw.pick [2, 2, 2, 2, 2, 2, 2, 2, 2, 0])
              · exact h_111
              · exact h_112
              · exact h_113
              · exact h_114
              · exact h_115
              · exact h_116
              · exact h_117
              · exact h_118
              · exact h_119
              · exact h_120
              · exact h_121
              · exact h_122
              · exact h_123
              · exact h_124
            · obtain ⟨x4554, hy_324, hp⟩ := bind_some' hp
              refine TL.callC (vs := [v150, v3360, v13]) (R := graph_kept.R x4554) [] [bx b152 131 [.int .i64 x144.dst, v150], bx b7 25 [.int .i64 0, .int .i64 0, .slice none 0 0, .slice none 0 0], F14, F18, F30, bx b32 25 [.int .i64 a1.params, .int .i64 a1.result, v34, v38], F35, F39, bx b62 85 [v56, v58, .int .i64 x50.term.kind, .int .i64 x50.term.arg, v60], bx b69 85 [v71, .slice none 0 0, .int .i64 x50.term.kind, .int .i64 x50.term.arg, .slice none 0 0], F72] rfl cb_73 (ltb rfl) (mc rfl (mc rfl (mc rfl m0))) (fun w hw => graph_kept_ok (a1 := x144.args) (a4 := x3354) (a7 := x12) (h151.mono subH) (h3361.mono (subB 3 rfl)) (h15.ro.mono (subB 2 rfl)) hy_324 hw) fun v A' hR_325 => ?_
              obtain ⟨v4555, F4556, rfl, rfl, h4557⟩ := hR_325
              refine TL.norm (L' := [F4556, bx b152 131 [.int .i64 x144.dst, v150], bx b7 25 [.int .i64 0, .int .i64 0, .slice none 0 0, .slice none 0 0], F14, F18, F30, bx b32 25 [.int .i64 a1.params, .int .i64 a1.result, v34, v38], F35, F39, bx b62 85 [v56, v58, .int .i64 x50.term.kind, .int .i64 x50.term.arg, v60], bx b69 85 [v71, .slice none 0 0, .int .i64 x50.term.kind, .int .i64 x50.term.arg, .slice none 0 0], F72]) rfl ?_
              refine TL.nil (hK_323 _ _ (srcG 1 rfl (srcG 2 rfl (srcG 3 rfl (srcG 4 rfl (srcG 5 rfl (srcG 6 rfl (srcG 7 rfl (srcG 8 rfl (srcG 9 rfl srcG0))))))))) ?_)
              refine HL.v 12 rfl trivial (by kernel_rfl) (by kernel_rfl) (by kernel_rfl) (ltb rfl) (rv_bv (vs := [(0, .int .i64 x144.dst), (1, v4555)]) (ds := [.int .i64 x144.dst, v4555]) (pc rfl (pc rfl p0)) (fun w => by obtain ⟨_, _, rfl⟩ := (h4557).len; kernel_rfl)) ?_
              refine HL.all [1, 13] (by kernel_rfl) (by simp) (HL.al ⟨_, rfl, fun K_326 hK_327 => ?_⟩ (HL.al ⟨_, rfl, fun K_335 hK_336 => ?_⟩ HL.al0))
              · refine TL.v (ltb rfl) (rv_ld (v := v71) (o := 0) (o' := 0) (j := 0) sc_82 rfl (Src.at_ 10 rfl) (bx_cells b69 85 _) rfl rfl) ?_
                refine TL.nil (hK_327 _ _ (srcG 1 rfl (srcG 2 rfl (srcG 3 rfl (srcG 4 rfl (srcG 5 rfl (srcG 6 rfl (srcG 7 rfl (srcG 8 rfl (srcG 9 rfl srcG0))))))))) ?_)
                refine HL.one 13 rfl (by kernel_rfl) fun K_328 hK_329 => ?_
                refine TL.bv (vs := [(0, .agg #[.int .i64 x144.dst, v4555])]) (cs := [.int .i64 x144.dst, v4555]) (pc rfl p0) Try.underlying82 inf_131 (ltb rfl) (by decide) (by decide) (by kernel_rfl) fun b5354 => ?_
                refine TL.nil (hK_329 _ _ (srcG 2 rfl (srcG 3 rfl (srcG 4 rfl (srcG 5 rfl (srcG 6 rfl (srcG 7 rfl (srcG 8 rfl (srcG 9 rfl (srcG 10 rfl srcG0))))))))) ?_)
                refine HL.one 14 rfl (by kernel_rfl) fun K_330 hK_331 => ?_
                refine TL.pk' [12, 0, 0, 0, 0, 0, 0, 0, 0, 0, 0, 0, 0] (L' := [F72, bx b5354 131 [.int .i64 x144.dst, v4555], F4556, bx b152 131 [.int .i64 x144.dst, v150], bx b7 25 [.int .i64 0, .int .i64 0, .slice none 0 0, .slice none 0 0], F14, F18, F30, bx b32 25 [.int .i64 a1.params, .int .i64 a1.result, v34, v38], F35, F39, bx b62 85 [v56, v58, .int .i64 x50.term.kind, .int .i64 x50.term.arg, v60], bx b69 85 [v71, .slice none 0 0, .int .i64 x50.term.kind, .int .i64 x50.term.arg, .slice none 0 0]]) rfl ?_
                refine TL.perm (L' := [F72, bx b5354 131 [.int .i64 x144.dst, v4555], F4556 ++ [], bx b152 131 [.int .i64 x144.dst, v150], bx b7 25 [.int .i64 0, .int .i64 0, .slice none 0 0, .slice none 0 0], F14, F18, F30, bx b32 25 [.int .i64 a1.params, .int .i64 a1.result, v34, v38], F35, F39, bx b62 85 [v56, v58, .int .i64 x50.term.kind, .int .i64 x50.term.arg, v60], bx b69 85 [v71, .slice none 0 0, .int .i64 x50.term.kind, .int .i64 x50.term.arg, .slice none 0 0]]) (by simp) ?_
                obtain ⟨x5754, hz_332, hp⟩ := bind_some' hp
                refine TL.app Try.underlying82 inf_131 (ltb rfl) rfl (ltb rfl) rfl (leb rfl) rfl rfl h73 (RepL.to (RepL.cons (k := kPhi) (x := (⟨x144.dst, x4554⟩ : PPhi)) ⟨_, _, rfl, rfl, h4557⟩ RepL.nil) rfl) rfl rfl hz_332 fun v5755 F5756 h5757 => ?_
                refine TL.nil (hK_331 _ _ (srcG 1 rfl (srcG 2 rfl (srcG 3 rfl (srcG 4 rfl (srcG 5 rfl (srcG 6 rfl (srcG 7 rfl (srcG 8 rfl (srcG 9 rfl srcG0))))))))) ?_)
                refine HL.v 15 rfl trivial (by kernel_rfl) (by kernel_rfl) (by kernel_rfl) (ltb rfl) (rv_fa (b := b69) (o := 0) fa_85_0 h_118) ?_
                refine HL.one 16 rfl (by kernel_rfl) fun K_333 hK_334 => ?_
                refine TL.stB (ds := [v5755]) (o := 0) (cs := [v71, .slice none 0 0, .int .i64 x50.term.kind, .int .i64 x50.term.arg, .slice none 0 0]) (b := b69) (u := v5755) 10 rfl ms_82 rfl rfl (SlO.cells h5757) (oc (h5757).one oc0) (leb rfl) ?_
                refine TL.norm (L' := [F5756, bx b152 131 [.int .i64 x144.dst, v150], bx b7 25 [.int .i64 0, .int .i64 0, .slice none 0 0, .slice none 0 0], F14, F18, F30, bx b32 25 [.int .i64 a1.params, .int .i64 a1.result, v34, v38], F35, F39, bx b62 85 [v56, v58, .int .i64 x50.term.kind, .int .i64 x50.term.arg, v60], bx b69 85 [v5755, .slice none 0 0, .int .i64 x50.term.kind, .int .i64 x50.term.arg, .slice none 0 0]]) rfl ?_
                refine TL.nil (hK_334 _ _ (srcG 1 rfl (srcG 2 rfl (srcG 3 rfl (srcG 4 rfl (srcG 5 rfl (srcG 6 rfl (srcG 7 rfl (srcG 8 rfl (srcG 9 rfl srcG0))))))))) ?_)
                refine HL.done (by kernel_rfl) ?_
                refine fun w hw => hJ_304 x5754 v5755 F5756 _ h5757 ?_ ?_ ?_ ?_ ?_ ?_ ?_ ?_ ?_ ?_ ?_ ?_ ?_ ?_ hp w (hw.pick [2, 2, 2, 2, 2, 2, 2, 2, 2, 0])
                · exact h_111
                · exact h_112
                · exact h_113
                · exact h_114
                · exact h_115
                · exact h_116
                · exact h_117
                · exact h_118
                · exact h_119
                · exact h_120
                · exact h_121
                · exact h_122
                · exact h_123
                · exact h_124
              · refine TL.bv (vs := [(0, .agg #[.int .i64 x144.dst, v4555])]) (cs := [.int .i64 x144.dst, v4555]) (pc rfl p0) Try.underlying82 inf_131 (ltb rfl) (by decide) (by decide) (by kernel_rfl) fun b5354 => ?_
                refine TL.nil (hK_336 _ _ (srcG 2 rfl (srcG 3 rfl (srcG 4 rfl (srcG 5 rfl (srcG 6 rfl (srcG 7 rfl (srcG 8 rfl (srcG 9 rfl (srcG 10 rfl srcG0))))))))) ?_)
                refine HL.one 1 rfl (by kernel_rfl) fun K_337 hK_338 => ?_
                refine TL.v (ltb rfl) (rv_ld (v := v71) (o := 0) (o' := 0) (j := 0) sc_82 rfl (Src.at_ 11 rfl) (bx_cells b69 85 _) rfl rfl) ?_
                refine TL.nil (hK_338 _ _ (srcG 2 rfl (srcG 3 rfl (srcG 4 rfl (srcG 5 rfl (srcG 6 rfl (srcG 7 rfl (srcG 8 rfl (srcG 9 rfl (srcG 10 rfl srcG0))))))))) ?_)
                refine HL.one 14 rfl (by kernel_rfl) fun K_339 hK_340 => ?_
                refine TL.pk' [12, 0, 0, 0, 0, 0, 0, 0, 0, 0, 0, 0, 0] (L' := [F72, bx b5354 131 [.int .i64 x144.dst, v4555], F4556, bx b152 131 [.int .i64 x144.dst, v150], bx b7 25 [.int .i64 0, .int .i64 0, .slice none 0 0, .slice none 0 0], F14, F18, F30, bx b32 25 [.int .i64 a1.params, .int .i64 a1.result, v34, v38], F35, F39, bx b62 85 [v56, v58, .int .i64 x50.term.kind, .int .i64 x50.term.arg, v60], bx b69 85 [v71, .slice none 0 0, .int .i64 x50.term.kind, .int .i64 x50.term.arg, .slice none 0 0]]) rfl ?_
                refine TL.perm (L' := [F72, bx b5354 131 [.int .i64 x144.dst, v4555], F4556 ++ [], bx b152 131 [.int .i64 x144.dst, v150], bx b7 25 [.int .i64 0, .int .i64 0, .slice none 0 0, .slice none 0 0], F14, F18, F30, bx b32 25 [.int .i64 a1.params, .int .i64 a1.result, v34, v38], F35, F39, bx b62 85 [v56, v58, .int .i64 x50.term.kind, .int .i64 x50.term.arg, v60], bx b69 85 [v71, .slice none 0 0, .int .i64 x50.term.kind, .int .i64 x50.term.arg, .slice none 0 0]]) (by simp) ?_
                obtain ⟨x5754, hz_341, hp⟩ := bind_some' hp
                refine TL.app Try.underlying82 inf_131 (ltb rfl) rfl (ltb rfl) rfl (leb rfl) rfl rfl h73 (RepL.to (RepL.cons (k := kPhi) (x := (⟨x144.dst, x4554⟩ : PPhi)) ⟨_, _, rfl, rfl, h4557⟩ RepL.nil) rfl) rfl rfl hz_341 fun v5755 F5756 h5757 => ?_
                refine TL.nil (hK_340 _ _ (srcG 1 rfl (srcG 2 rfl (srcG 3 rfl (srcG 4 rfl (srcG 5 rfl (srcG 6 rfl (srcG 7 rfl (srcG 8 rfl (srcG 9 rfl srcG0))))))))) ?_)
                refine HL.v 15 rfl trivial (by kernel_rfl) (by kernel_rfl) (by kernel_rfl) (ltb rfl) (rv_fa (b := b69) (o := 0) fa_85_0 h_118) ?_
                refine HL.one 16 rfl (by kernel_rfl) fun K_342 hK_343 => ?_
                refine TL.stB (ds := [v5755]) (o := 0) (cs := [v71, .slice none 0 0, .int .i64 x50.term.kind, .int .i64 x50.term.arg, .slice none 0 0]) (b := b69) (u := v5755) 10 rfl ms_82 rfl rfl (SlO.cells h5757) (oc (h5757).one oc0) (leb rfl) ?_
                refine TL.norm (L' := [F5756, bx b152 131 [.int .i64 x144.dst, v150], bx b7 25 [.int .i64 0, .int .i64 0, .slice none 0 0, .slice none 0 0], F14, F18, F30, bx b32 25 [.int .i64 a1.params, .int .i64 a1.result, v34, v38], F35, F39, bx b62 85 [v56, v58, .int .i64 x50.term.kind, .int .i64 x50.term.arg, v60], bx b69 85 [v5755, .slice none 0 0, .int .i64 x50.term.kind, .int .i64 x50.term.arg, .slice none 0 0]]) rfl ?_
                refine TL.nil (hK_343 _ _ (srcG 1 rfl (srcG 2 rfl (srcG 3 rfl (srcG 4 rfl (srcG 5 rfl (srcG 6 rfl (srcG 7 rfl (srcG 8 rfl (srcG 9 rfl srcG0))))))))) ?_)
                refine HL.done (by kernel_rfl) ?_
                refine fun w hw => hJ_304 x5754 v5755 F5756 _ h5757 ?_ ?_ ?_ ?_ ?_ ?_ ?_ ?_ ?_ ?_ ?_ ?_ ?_ ?_ hp w (hw.pick [2, 2, 2, 2, 2, 2, 2, 2, 2, 0])
                · exact h_111
                · exact h_112
                · exact h_113
                · exact h_114
                · exact h_115
                · exact h_116
                · exact h_117
                · exact h_118
                · exact h_119
                · exact h_120
                · exact h_121
                · exact h_122
                · exact h_123
                · exact h_124
          · rw [if_neg hc_286] at hp
            refine TC.condF (bF hc_286) ?_
            refine TC.exit ?_
            refine fun w hw => hJ_280 x70 v71 F72 _ h73 ?_ ?_ ?_ ?_ ?_ ?_ ?_ ?_ ?_ ?_ (ex_ret hp hx_129) w (hw.pick [0, 0, 0, 0, 0, 0, 0, 0, 0, 0])
            · exact h_111
            · exact h_112
            · exact h_113
            · exact h_114
            · exact h_115
            · exact h_117
            · exact h_118
            · exact h_119
            · exact h_120
            · exact h_121
      · rw [if_neg hc_82] at hp
        refine TC.condF (bF hc_82) ?_
        refine TC.exit ?_
        refine fun w hw => hJ_76 x37 v38 F39 _ h40 ?_ ?_ ?_ (ex_ret hp hx_69) w (hw.pick [0, 2, 2, 2, 2])
        · exact h_57
        · exact h_60
        · exact h_61
    refine TC.held ([bx b6 25 [.int .i64 a1.params, .int .i64 a1.result, v2, v4], bx b7 25 [.int .i64 0, .int .i64 0, .slice none 0 0, .slice none 0 0], F14, F18, F30].flatten ++ H) mix (srcG 0 rfl (srcG 1 rfl (srcG 2 rfl (srcG 3 rfl (srcG 4 rfl srcG0))))) ?_
    refine HL.v 0 rfl trivial (by kernel_rfl) (by kernel_rfl) (by kernel_rfl) (ltb rfl) (rv_fa (b := b6) (o := 0) fa_25_0 h_37) ?_
    refine HL.v 1 rfl trivial (by kernel_rfl) (by kernel_rfl) (by kernel_rfl) (ltb rfl) (rv_ld (v := .int .i64 a1.params) (o := 0) (o' := 0) (j := 0) sc_3 rfl (srcInG 0 rfl) (bx_cells b6 25 _) rfl rfl) ?_
    refine HL.v 2 rfl trivial (by kernel_rfl) (by kernel_rfl) (by kernel_rfl) (ltb rfl) (rv_fa (b := b6) (o := 0) fa_25_1 h_37) ?_
    refine HL.v 3 rfl trivial (by kernel_rfl) (by kernel_rfl) (by kernel_rfl) (ltb rfl) (rv_ld (v := .int .i64 a1.result) (o := 1) (o' := 0) (j := 1) sc_3 rfl (srcInG 0 rfl) (bx_cells b6 25 _) rfl rfl) ?_
    refine HL.v 4 rfl trivial (by kernel_rfl) (by kernel_rfl) (by kernel_rfl) (ltb rfl) (rv_fa (b := b6) (o := 0) fa_25_2 h_37) ?_
    refine HL.v 5 rfl trivial (by kernel_rfl) (by kernel_rfl) (by kernel_rfl) (ltb rfl) (rv_ld (v := v2) (o := 2) (o' := 0) (j := 2) sc_22 rfl (srcInG 0 rfl) (bx_cells b6 25 _) rfl rfl) ?_
    refine HL.all [6, 8] (by kernel_rfl) (by simp) (HL.al ⟨_, rfl, fun K_346 hK_347 => ?_⟩ (HL.al ⟨_, rfl, fun K_354 hK_355 => ?_⟩ HL.al0))
    · obtain ⟨x9357, hy_348, hp⟩ := bind_some' hp
      refine TL.callC (vs := [v2]) (R := slices_Clone.R x9357) [] [bx b6 25 [.int .i64 a1.params, .int .i64 a1.result, v2, v4], bx b7 25 [.int .i64 0, .int .i64 0, .slice none 0 0, .slice none 0 0], F14, F18, F30] rfl cb_72 (ltb rfl) (mc rfl m0) (fun w hw => slices_Clone_ok (a1 := a1.regs) (h3.mono subH) hy_348 hw) fun v A' hR_349 => ?_
      obtain ⟨v9358, F9359, rfl, rfl, h9360⟩ := hR_349
      refine TL.norm (L' := [F9359, bx b6 25 [.int .i64 a1.params, .int .i64 a1.result, v2, v4], bx b7 25 [.int .i64 0, .int .i64 0, .slice none 0 0, .slice none 0 0], F14, F18, F30]) rfl ?_
      refine TL.nil (hK_347 _ _ (srcG 1 rfl (srcG 2 rfl (srcG 3 rfl (srcG 4 rfl (srcG 5 rfl srcG0))))) ?_)
      refine HL.v 7 rfl trivial (by kernel_rfl) (by kernel_rfl) (by kernel_rfl) (ltb rfl) (rv_bv (vs := [(0, .int .i64 a1.params), (1, .int .i64 a1.result), (2, v9358)]) (ds := [.int .i64 a1.params, .int .i64 a1.result, v9358, .slice none 0 0]) (pc rfl (pc rfl (pc rfl p0))) (fun w => by obtain ⟨_, _, rfl⟩ := (h9360).len; kernel_rfl)) ?_
      refine HL.one 8 rfl (by kernel_rfl) fun K_350 hK_351 => ?_
      refine TL.alloc (cs := [.int .i64 0, .int .i64 0, .slice none 0 0, .slice none 0 0]) inf_25 (ltb rfl) rfl fun b10157 => ?_
      refine TL.nil (hK_351 _ _ (srcG 2 rfl (srcG 3 rfl (srcG 4 rfl (srcG 5 rfl (srcG 6 rfl srcG0))))) ?_)
      refine HL.one 9 rfl (by kernel_rfl) fun K_352 hK_353 => ?_
      refine TL.stB (ds := [.int .i64 a1.params, .int .i64 a1.result, v9358, .slice none 0 0]) (o := 0) (cs := [.int .i64 0, .int .i64 0, .slice none 0 0, .slice none 0 0]) (b := b10157) (u := .agg #[.int .i64 a1.params, .int .i64 a1.result, v9358, .slice none 0 0]) 0 rfl ms_25 rfl rfl rfl (oc rfl (oc rfl (oc (h9360).one (oc rfl oc0)))) (leb rfl) ?_
      refine TL.norm (L' := [bx b10157 25 [.int .i64 a1.params, .int .i64 a1.result, v9358, .slice none 0 0], F9359, bx b6 25 [.int .i64 a1.params, .int .i64 a1.result, v2, v4], bx b7 25 [.int .i64 0, .int .i64 0, .slice none 0 0, .slice none 0 0], F14, F18, F30]) rfl ?_
      refine TL.nil (hK_353 _ _ (srcG 2 rfl (srcG 3 rfl (srcG 4 rfl (srcG 5 rfl (srcG 6 rfl srcG0))))) ?_)
      refine HL.done (by kernel_rfl) ?_
      refine fun w hw => hJ_51 x9357 b10157 v9358 F9359 _ h9360 ?_ ?_ ?_ ?_ ?_ ?_ hp w (hw.pick [2, 2, 2, 2, 2, 0, 0])
      · exact h_37
      · exact h_38
      · exact h_39
      · exact h_40
      · exact h_41
      · exact rfl
    · refine TL.alloc (cs := [.int .i64 0, .int .i64 0, .slice none 0 0, .slice none 0 0]) inf_25 (ltb rfl) rfl fun b10157 => ?_
      refine TL.nil (hK_355 _ _ (srcG 1 rfl (srcG 2 rfl (srcG 3 rfl (srcG 4 rfl (srcG 5 rfl srcG0))))) ?_)
      refine HL.one 6 rfl (by kernel_rfl) fun K_356 hK_357 => ?_
      obtain ⟨x9357, hy_358, hp⟩ := bind_some' hp
      refine TL.callC (vs := [v2]) (R := slices_Clone.R x9357) [] [bx b10157 25 [.int .i64 0, .int .i64 0, .slice none 0 0, .slice none 0 0], bx b6 25 [.int .i64 a1.params, .int .i64 a1.result, v2, v4], bx b7 25 [.int .i64 0, .int .i64 0, .slice none 0 0, .slice none 0 0], F14, F18, F30] rfl cb_72 (ltb rfl) (mc rfl m0) (fun w hw => slices_Clone_ok (a1 := a1.regs) (h3.mono subH) hy_358 hw) fun v A' hR_359 => ?_
      obtain ⟨v9358, F9359, rfl, rfl, h9360⟩ := hR_359
      refine TL.norm (L' := [F9359, bx b10157 25 [.int .i64 0, .int .i64 0, .slice none 0 0, .slice none 0 0], bx b6 25 [.int .i64 a1.params, .int .i64 a1.result, v2, v4], bx b7 25 [.int .i64 0, .int .i64 0, .slice none 0 0, .slice none 0 0], F14, F18, F30]) rfl ?_
      refine TL.nil (hK_357 _ _ (srcG 2 rfl (srcG 3 rfl (srcG 4 rfl (srcG 5 rfl (srcG 6 rfl srcG0))))) ?_)
      refine HL.v 7 rfl trivial (by kernel_rfl) (by kernel_rfl) (by kernel_rfl) (ltb rfl) (rv_bv (vs := [(0, .int .i64 a1.params), (1, .int .i64 a1.result), (2, v9358)]) (ds := [.int .i64 a1.params, .int .i64 a1.result, v9358, .slice none 0 0]) (pc rfl (pc rfl (pc rfl p0))) (fun w => by obtain ⟨_, _, rfl⟩ := (h9360).len; kernel_rfl)) ?_
      refine HL.one 9 rfl (by kernel_rfl) fun K_360 hK_361 => ?_
      refine TL.stB (ds := [.int .i64 a1.params, .int .i64 a1.result, v9358, .slice none 0 0]) (o := 0) (cs := [.int .i64 0, .int .i64 0, .slice none 0 0, .slice none 0 0]) (b := b10157) (u := .agg #[.int .i64 a1.params, .int .i64 a1.result, v9358, .slice none 0 0]) 1 rfl ms_25 rfl rfl rfl (oc rfl (oc rfl (oc (h9360).one (oc rfl oc0)))) (leb rfl) ?_
      refine TL.norm (L' := [F9359, bx b10157 25 [.int .i64 a1.params, .int .i64 a1.result, v9358, .slice none 0 0], bx b6 25 [.int .i64 a1.params, .int .i64 a1.result, v2, v4], bx b7 25 [.int .i64 0, .int .i64 0, .slice none 0 0, .slice none 0 0], F14, F18, F30]) rfl ?_
      refine TL.nil (hK_361 _ _ (srcG 2 rfl (srcG 3 rfl (srcG 4 rfl (srcG 5 rfl (srcG 6 rfl srcG0))))) ?_)
      refine HL.done (by kernel_rfl) ?_
      refine fun w hw => hJ_51 x9357 b10157 v9358 F9359 _ h9360 ?_ ?_ ?_ ?_ ?_ ?_ hp w (hw.pick [2, 2, 2, 2, 2, 1, 0])
      · exact h_37
      · exact h_38
      · exact h_39
      · exact h_40
      · exact h_41
      · exact rfl
  refine TC.pk' [5, 4, 2, 1, 0] (L' := [bx b6 25 [.int .i64 a1.params, .int .i64 a1.result, v2, v4], bx b7 25 [.int .i64 0, .int .i64 0, .slice none 0 0, .slice none 0 0], F14, F18, F22]) rfl ?_
  refine TC.loopW (r := z_31) (fun (s : (List Int × Int × Int)) (e_22 : Env) (L_393 : List FP) => ∃ (x24 : List Int) (x27 : Int) (x28 : Int) (F25 : FP), s = (x24, x27, x28) ∧ SlO 3 (kInt .i64) x24 v21 F25 ∧ e_22 1 = .pointer (some ⟨b6, 0, none⟩) ∧ e_22 2 = .pointer (some ⟨b7, 0, none⟩) ∧ e_22 5 = v13 ∧ e_22 6 = v17 ∧ e_22 7 = v21 ∧ e_22 8 = .int .i64 x27 ∧ e_22 31 = .int .i64 (len x20) ∧ e_22 32 = .int .i64 x28 ∧ L_393 = [bx b6 25 [.int .i64 a1.params, .int .i64 a1.result, v2, v4], bx b7 25 [.int .i64 0, .int .i64 0, .slice none 0 0, .slice none 0 0], F14, F18, F25]) ?_ FUEL _ _ _ hz_32 ⟨x20, 0, 0, F22, rfl, h23, rfl, rfl, rfl, rfl, rfl, rfl, rfl, rfl, rfl⟩
  rintro s e_22 L_393 ⟨x24, x27, x28, F25, rfl, h26, h_23, h_24, h_25, h_26, h_27, h_28, h_29, h_30, rfl⟩ x_34 hp hx_35
  replace hp : graph_Trim.bd35 x12 x20 x24 x27 x28 = some x_34 := hp
  unfold graph_Trim.bd35 at hp
  refine TC.seq fun K_364 hK_365 => ?_
  refine TC.region ?_
  refine TL.v (ltb rfl) (rv_lss (k := .i64) (m := x28) (n := (len x20)) h_30 h_29) ?_
  refine TL.nil ?_
  refine TC.go hK_365 ?_
  refine TC.seq fun K_366 hK_367 => ?_
  by_cases hc_368 : x28 < (len x20)
  · rw [if_pos hc_368] at hp
    refine TC.condT (bT hc_368) ?_
    refine TC.skip ?_
    refine TC.go hK_367 ?_
    refine TC.seq fun K_369 hK_370 => ?_
    have hJ_380 : ∀ (x10957 : List Int) (x10960 : Int) (F10958 : FP) (e_371 : Env) (h10959 : SlO 3 (kInt .i64) x10957 v21 F10958) (h_372 : e_371 1 = .pointer (some ⟨b6, 0, none⟩)) (h_373 : e_371 2 = .pointer (some ⟨b7, 0, none⟩)) (h_374 : e_371 5 = v13) (h_375 : e_371 6 = v17) (h_376 : e_371 7 = v21) (h_377 : e_371 8 = .int .i64 x10960) (h_378 : e_371 31 = .int .i64 (len x20)) (h_379 : e_371 32 = .int .i64 x28) (hp : graph_Trim.jn380 x28 x10957 x10960 = some x_34), ∀ w, St E H [bx b6 25 [.int .i64 a1.params, .int .i64 a1.result, v2, v4], bx b7 25 [.int .i64 0, .int .i64 0, .slice none 0 0, .slice none 0 0], F14, F18, F10958] w → K_369 e_371 w := by
      intro x10957 x10960 F10958 e_371 h10959 h_372 h_373 h_374 h_375 h_376 h_377 h_378 h_379 hp
      unfold graph_Trim.jn380 at hp
      refine TC.go hK_370 ?_
      refine TC.region ?_
      refine TL.v (ltb rfl) (rv_add (k := .i64) (m := x28) (n := 1) h_379 rfl) ?_
      refine TL.v (ltb rfl) (rv_mv (v := .int .i64 (w64 (x28 + 1))) rfl) ?_
      refine TL.nil ?_
      exact fun w hw => goOk hp ⟨x10957, x10960, (w64 (x28 + 1)), F10958, rfl, h10959, h_372, h_373, h_374, h_375, h_376, h_377, h_378, rfl, rfl⟩ (hw.pick [0, 0, 0, 0, 0])
    refine TC.block ?_
    refine TC.seq fun K_381 hK_382 => ?_
    refine TC.region ?_
    refine TL.v (ltb rfl) (rv_mv (v := .int .i64 x28) h_30) ?_
    refine TL.v (ltb rfl) (rv_as (v := .int .i64 x28) rfl) ?_
    refine TL.nil ?_
    refine TC.go hK_382 ?_
    refine TC.seq fun K_383 hK_384 => ?_
    refine TC.region ?_
    refine TL.v (ltb rfl) (rv_mv (v := v21) h_27) ?_
    refine TL.v (ltb rfl) (rv_mv (v := .int .i64 x28) rfl) ?_
    obtain ⟨x10961, hx_385, hp⟩ := bind_some' hp
    refine TL.v2 (ltb rfl) (rv_ixO 22 (.tmp 35) (.tmp 36) (v := v21) (i := x28) Try.underlying22 inf_3 rfl rfl rfl h26 (idx_some hx_385).1 (idx_some hx_385).2.1) fun b10962 o10963 h10964 => ?_
    refine TL.pk' [4, 0, 0, 0, 0] (L' := [F25, bx b6 25 [.int .i64 a1.params, .int .i64 a1.result, v2, v4], bx b7 25 [.int .i64 0, .int .i64 0, .slice none 0 0, .slice none 0 0], F14, F18]) rfl ?_
    refine TL.stE0 (ds := [.int .i64 (-1)]) (u := .int .i64 (-1)) (a := -1) h26 h10964 ms_3 rfl rfl rfl ⟨rfl, rfl⟩ fun F10965 h10966 => ?_
    refine TL.nil ?_
    refine TC.go hK_384 ?_
    refine TC.seq fun K_386 hK_387 => ?_
    refine TC.region ?_
    refine TL.v (ltb rfl) (rv_mv (v := v13) h_25) ?_
    refine TL.v (ltb rfl) (rv_mv (v := .int .i64 x28) rfl) ?_
    obtain ⟨x10967, hx_388, hp⟩ := bind_some' hp
    refine TL.v3 (ltb rfl) (rv_ix 30 (.tmp 38) (.tmp 39) (v := v13) (i := x28) Try.underlying30 inf_4 rfl rfl rfl (h15).ro hx_388) fun b10968 o10969 c10970 h10971 h10972 => ?_
    obtain rfl := h10971
    refine TL.v (ltb rfl) (rv_ld (v := .bool x10967) (o := o10969) (o' := o10969) (j := 0) sc_4 rfl (Src.at_ 3 rfl) h10972 rfl rfl) ?_
    refine TL.nil ?_
    refine TC.go hK_387 ?_
    by_cases hc_389 : x10967 = true
    · rw [if_pos hc_389] at hp
      refine TC.condT (bbT hc_389) ?_
      refine TC.seq fun K_390 hK_391 => ?_
      refine TC.region ?_
      refine TL.v (ltb rfl) (rv_mv (v := v21) h_27) ?_
      refine TL.v (ltb rfl) (rv_mv (v := .int .i64 x28) rfl) ?_
      refine TL.v (ltb rfl) (rv_mv (v := .int .i64 x27) h_28) ?_
      obtain ⟨x10973, hx_392, hp⟩ := bind_some' hp
      refine TL.v2 (ltb rfl) (rv_ixO 22 (.tmp 42) (.tmp 43) (v := v21) (i := x28) Try.underlying22 inf_3 rfl rfl rfl h10966 (idx_some hx_392).1 (idx_some hx_392).2.1) fun b10974 o10975 h10976 => ?_
      refine TL.stE0 (ds := [.int .i64 x27]) (u := .int .i64 x27) (a := x27) h10966 h10976 ms_3 rfl rfl rfl ⟨rfl, rfl⟩ fun F10977 h10978 => ?_
      refine TL.nil ?_
      refine TC.go hK_391 ?_
      refine TC.region ?_
      refine TL.v (ltb rfl) (rv_mv (v := .int .i64 x27) h_28) ?_
      refine TL.v (ltb rfl) (rv_add (k := .i64) (m := x27) (n := 1) rfl rfl) ?_
      refine TL.v (ltb rfl) (rv_as (v := .int .i64 (w64 (x27 + 1))) rfl) ?_
      refine TL.nil ?_
      refine fun w hw => hJ_380 ((x24.set (x28).toNat (-1)).set (x28).toNat x27) (w64 (x27 + 1)) F10977 _ h10978 ?_ ?_ ?_ ?_ ?_ ?_ ?_ ?_ hp w (hw.pick [1, 1, 1, 1, 0])
      · exact h_23
      · exact h_24
      · exact h_25
      · exact h_26
      · exact h_27
      · exact rfl
      · exact h_29
      · exact h_30
    · rw [if_neg hc_389] at hp
      refine TC.condF (bbF hc_389) ?_
      refine TC.skip ?_
      refine fun w hw => hJ_380 (x24.set (x28).toNat (-1)) x27 F10965 _ h10966 ?_ ?_ ?_ ?_ ?_ ?_ ?_ ?_ hp w (hw.pick [1, 1, 1, 1, 0])
      · exact h_23
      · exact h_24
      · exact h_25
      · exact h_26
      · exact h_27
      · exact h_28
      · exact h_29
      · exact h_30
  · rw [if_neg hc_368] at hp
    refine TC.condF (bF hc_368) ?_
    refine TC.exit ?_
    refine fun w hw => hJ_362 x24 F25 _ h26 ?_ ?_ ?_ ?_ ?_ (ex_ret hp hx_35) w (hw.pick [0, 0, 0, 0, 0])
    · exact h_23
    · exact h_24
    · exact h_25
    · exact h_26
    · exact h_27
end Go.Proofs.Ytoflleabpkgdpaa
