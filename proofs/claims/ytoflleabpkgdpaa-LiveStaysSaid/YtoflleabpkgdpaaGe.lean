/- The walk through the program's functions: each one's pure reading, and that a call does what it says. No conditions. -/
import Derived.Test.YtoflleabpkgdpaaGb
set_option linter.unusedVariables false
set_option linter.unusedSimpArgs false
namespace Go.Proofs.Ytoflleabpkgdpaa
open Go Go.Proofs

/-! ### fettle/fettleref02.Same -/
abbrev fettleref02_Same.R (r : Bool) (v : Value) (A : List FP) : Prop := .bool r = v ∧ A = []
def fettleref02_Same.nx22  : Option Bool :=
  some true
def fettleref02_Same.bd22 (a1 : PModule) (a4 : PModule) (x9 : Int) : Option (Ex (Ex Bool Unit) Int) :=
  if x9 < (len a1.funcs) then
    (idx a1.funcs x9).bind fun x10 =>
    (idx a4.funcs x9).bind fun x20 =>
    (fettleref02_SameFunc x10 x20).bind fun x30 =>
    if (!x30) = true then
      some (.ret (.ret false))
    else
      some (.go (w64 (x9 + 1)))
  else
    some (.ret (.go ()))
def fettleref02_Same (a1 : PModule) (a4 : PModule) : Option Bool :=
  if ¬ (len a1.funcs) = (len a4.funcs) then
    some false
  else
    (whl (fun (s : Int) => fettleref02_Same.bd22 a1 a4 s) FUEL 0).bind fun z =>
    match z with
      | .ret r => some r
      | .go p => fettleref02_Same.nx22
theorem fettleref02_Same_ok {E : World} {H : FP} {w : World} {a1 : PModule} {a4 : PModule} {v2 : Value} {v5 : Value} {r : Bool} (h3 : SlI kFunc H a1.funcs v2) (h6 : SlI kFunc H a4.funcs v5) (hp : fettleref02_Same a1 a4 = some r) (hst : St E H [] w) :
    Fn Try.prog 52 #[.agg #[v2], .agg #[v5]] w fun v w' => ∃ A, fettleref02_Same.R r v A ∧ St E H A w' := by
  refine Fn.body (fn := Try.f52) (args := [.agg #[v2], .agg #[v5]]) E H [] [.tmp 4] 34 Try.func52 rfl rfl rfl rfl (leb rfl) hst ?_
  unfold fettleref02_Same at hp
  refine TC.seq fun K_1 hK_2 => ?_
  refine TC.region ?_
  refine TL.box (cs := [v2]) (v := .agg #[v2]) (ltb rfl) rfl rfl fun b7 => ?_
  refine TL.box (cs := [v5]) (v := .agg #[v5]) (ltb rfl) rfl rfl fun b8 => ?_
  refine TL.v (ltb rfl) (rv_as (v := .bool false) rfl) ?_
  refine TL.nil ?_
  refine TC.go hK_2 ?_
  refine TC.seq fun K_3 hK_4 => ?_
  refine TC.seq fun K_5 hK_6 => ?_
  refine TC.region ?_
  refine TL.v (ltb rfl) (rv_fa (b := b7) (o := 0) fa_90_0 rfl) ?_
  refine TL.v (ltb rfl) (rv_ld (v := v2) (o := 0) (o' := 0) (j := 0) sc_88 rfl (Src.at_ 1 rfl) (bx_cells b7 90 _) rfl rfl) ?_
  refine TL.v (ltb rfl) (rv_lenI (v := v2) Try.underlying88 rfl h3) ?_
  refine TL.v (ltb rfl) (rv_fa (b := b8) (o := 0) fa_90_0 rfl) ?_
  refine TL.v (ltb rfl) (rv_ld (v := v5) (o := 0) (o' := 0) (j := 0) sc_88 rfl (Src.at_ 0 rfl) (bx_cells b8 90 _) rfl rfl) ?_
  refine TL.v (ltb rfl) (rv_lenI (v := v5) Try.underlying88 rfl h6) ?_
  refine TL.v (ltb rfl) (rv_neq (k := .i64) (m := (len a1.funcs)) (n := (len a4.funcs)) rfl rfl) ?_
  refine TL.nil ?_
  refine TC.go hK_6 ?_
  by_cases hc_7 : ¬ (len a1.funcs) = (len a4.funcs)
  · rw [if_pos hc_7] at hp
    refine TC.condT (bT hc_7) ?_
    refine TC.seq fun K_8 hK_9 => ?_
    refine TC.region ?_
    refine TL.v (ltb rfl) (rv_as (v := .bool false) rfl) ?_
    refine TL.nil ?_
    refine TC.go hK_9 ?_
    refine TC.ret ?_
    obtain rfl := Option.some.inj hp
    exact fun w hw => retOk ⟨rfl, rfl⟩ (hw.pick [])
  · rw [if_neg hc_7] at hp
    refine TC.condF (bF hc_7) ?_
    refine TC.skip ?_
    refine TC.go hK_4 ?_
    refine TC.seq fun K_10 hK_11 => ?_
    refine TC.seq fun K_12 hK_13 => ?_
    refine TC.region ?_
    refine TL.v (ltb rfl) (rv_as (v := .int .i64 0) rfl) ?_
    refine TL.nil ?_
    refine TC.go hK_13 ?_
    refine TC.block ?_
    obtain ⟨z_18, hz_19, hr_20⟩ := bind_some' hp
    clear hp
    have hJ_26 : ∀ (e_23 : Env) (hq_27 : .go () = z_18), ∀ w, St E H [] w → K_10 e_23 w := by
      intro e_23 hq_27
      subst hq_27
      replace hp : fettleref02_Same.nx22 = some r := hr_20
      unfold fettleref02_Same.nx22 at hp
      refine TC.go hK_11 ?_
      refine TC.seq fun K_24 hK_25 => ?_
      refine TC.region ?_
      refine TL.v (ltb rfl) (rv_as (v := .bool true) rfl) ?_
      refine TL.nil ?_
      refine TC.go hK_25 ?_
      refine TC.ret ?_
      obtain rfl := Option.some.inj hp
      exact fun w hw => retOk ⟨rfl, rfl⟩ (hw.pick [])
    refine TC.pk' [1, 0] (L' := [bx b7 90 [v2], bx b8 90 [v5]]) rfl ?_
    refine TC.loopW (r := z_18) (fun (x9 : Int) (e_14 : Env) (L_45 : List FP) => e_14 2 = .pointer (some ⟨b7, 0, none⟩) ∧ e_14 3 = .pointer (some ⟨b8, 0, none⟩) ∧ e_14 5 = .int .i64 x9 ∧ L_45 = [bx b7 90 [v2], bx b8 90 [v5]]) ?_ FUEL _ _ _ hz_19 ⟨rfl, rfl, rfl, rfl⟩
    rintro x9 e_14 L_45 ⟨h_15, h_16, h_17, rfl⟩ x_21 hp hx_22
    replace hp : fettleref02_Same.bd22 a1 a4 x9 = some x_21 := hp
    unfold fettleref02_Same.bd22 at hp
    refine TC.seq fun K_28 hK_29 => ?_
    refine TC.seq fun K_30 hK_31 => ?_
    refine TC.region ?_
    refine TL.v (ltb rfl) (rv_mv (v := .int .i64 x9) h_17) ?_
    refine TL.v (ltb rfl) (rv_fa (b := b7) (o := 0) fa_90_0 h_15) ?_
    refine TL.v (ltb rfl) (rv_ld (v := v2) (o := 0) (o' := 0) (j := 0) sc_88 rfl (Src.at_ 0 rfl) (bx_cells b7 90 _) rfl rfl) ?_
    refine TL.v (ltb rfl) (rv_lenI (v := v2) Try.underlying88 rfl h3) ?_
    refine TL.v (ltb rfl) (rv_lss (k := .i64) (m := x9) (n := (len a1.funcs)) rfl rfl) ?_
    refine TL.nil ?_
    refine TC.go hK_31 ?_
    by_cases hc_32 : x9 < (len a1.funcs)
    · rw [if_pos hc_32] at hp
      refine TC.condT (bT hc_32) ?_
      refine TC.skip ?_
      refine TC.go hK_29 ?_
      refine TC.seq fun K_33 hK_34 => ?_
      refine TC.block ?_
      refine TC.seq fun K_35 hK_36 => ?_
      refine TC.quiet mix (by kernel_rfl) ?_
      refine QL.v (ltb rfl) (rv_fa (b := b7) (o := 0) fa_90_0 h_15) ?_
      refine QL.v (ltb rfl) (rv_ld (v := v2) (o := 0) (o' := 0) (j := 0) sc_88 rfl (Src.at_ 0 rfl) (bx_cells b7 90 _) rfl rfl) ?_
      refine QL.v (ltb rfl) (rv_mv (v := .int .i64 x9) h_17) ?_
      obtain ⟨x10, hx_37, hp⟩ := bind_some' hp
      refine QL.v3 (ltb rfl) (rv_ix 88 (.tmp 22) (.tmp 23) (v := v2) (i := x9) Try.underlying88 inf_25 rfl rfl rfl h3 hx_37) fun b11 o12 c13 h14 h15 => ?_
      obtain ⟨v16, v18, rfl, h17, h19⟩ := h14
      refine QL.v (ltb rfl) (rv_lda (o := o12) (o' := o12) (j := 0) (ds := [.int .i64 x10.params, .int .i64 x10.result, v16, v18]) ag_25 rfl Src.H h15 rfl rfl rfl) ?_
      refine QL.v (ltb rfl) (rv_fa (b := b8) (o := 0) fa_90_0 h_16) ?_
      refine QL.v (ltb rfl) (rv_ld (v := v5) (o := 0) (o' := 0) (j := 0) sc_88 rfl (Src.at_ 1 rfl) (bx_cells b8 90 _) rfl rfl) ?_
      refine QL.v (ltb rfl) (rv_mv (v := .int .i64 x9) h_17) ?_
      obtain ⟨x20, hx_38, hp⟩ := bind_some' hp
      refine QL.v3 (ltb rfl) (rv_ix 88 (.tmp 27) (.tmp 28) (v := v5) (i := x9) Try.underlying88 inf_25 rfl rfl rfl h6 hx_38) fun b21 o22 c23 h24 h25 => ?_
      obtain ⟨v26, v28, rfl, h27, h29⟩ := h24
      refine QL.v (ltb rfl) (rv_lda (o := o22) (o' := o22) (j := 0) (ds := [.int .i64 x20.params, .int .i64 x20.result, v26, v28]) ag_25 rfl Src.H h25 rfl rfl rfl) ?_
      obtain ⟨x30, hy_39, hp⟩ := bind_some' hp
      refine QL.callC (vs := [.agg #[.int .i64 x10.params, .int .i64 x10.result, v16, v18], .agg #[.int .i64 x20.params, .int .i64 x20.result, v26, v28]]) (R := fettleref02_SameFunc.R x30) (.bool x30) cb_44 (ltb rfl) (mc rfl (mc rfl m0)) (fun w hw => fettleref02_SameFunc_ok (a1 := x10) (a6 := x20) (h17.mono subH) (h19.mono subH) (h27.mono subH) (h29.mono subH) hy_39 hw) (fun u A' h => ⟨h.1.symm, h.2⟩) ?_
      refine QL.v (ltb rfl) (rv_as (v := .bool x30) rfl) ?_
      refine QL.nil ?_
      refine TC.go hK_36 ?_
      refine TC.seq fun K_40 hK_41 => ?_
      refine TC.region ?_
      refine TL.v (ltb rfl) (rv_mv (v := .bool x30) rfl) ?_
      refine TL.v (ltb rfl) (rv_not (b := x30) rfl) ?_
      refine TL.nil ?_
      refine TC.go hK_41 ?_
      by_cases hc_42 : (!x30) = true
      · rw [if_pos hc_42] at hp
        refine TC.condT (bbT hc_42) ?_
        refine TC.seq fun K_43 hK_44 => ?_
        refine TC.region ?_
        refine TL.v (ltb rfl) (rv_as (v := .bool false) rfl) ?_
        refine TL.nil ?_
        refine TC.go hK_44 ?_
        refine TC.ret ?_
        obtain rfl := ex_ret hp hx_22
        obtain rfl := Option.some.inj hr_20
        exact fun w hw => retOk ⟨rfl, rfl⟩ (hw.pick [])
      · rw [if_neg hc_42] at hp
        refine TC.condF (bbF hc_42) ?_
        refine TC.skip ?_
        refine TC.go hK_34 ?_
        refine TC.region ?_
        refine TL.v (ltb rfl) (rv_mv (v := .int .i64 x9) h_17) ?_
        refine TL.v (ltb rfl) (rv_add (k := .i64) (m := x9) (n := 1) rfl rfl) ?_
        refine TL.v (ltb rfl) (rv_as (v := .int .i64 (w64 (x9 + 1))) rfl) ?_
        refine TL.nil ?_
        exact fun w hw => goOk hp ⟨h_15, h_16, rfl, rfl⟩ (hw.pick [0, 0])
    · rw [if_neg hc_32] at hp
      refine TC.condF (bF hc_32) ?_
      refine TC.exit ?_
      refine fun w hw => hJ_26 _ (ex_ret hp hx_22) w (hw.pick [])

/-! ### fettle/live.table -/
abbrev live_table.R (r : List (List Bool)) (v : Value) (A : List FP) : Prop := ∃ (w1 : Value) (G1 : FP), w1 = v ∧ A = [G1] ∧ SlO 30 (kSl 4 kBool) r w1 G1
def live_table.nx19  (x15 : List (List Bool)) : Option (List (List Bool)) :=
  some x15
def live_table.bd19 (a1 : PFunc) (x7 : List (List Bool)) (x11 : List (List Bool)) (x14 : Int) : Option (Ex (List (List Bool)) (List (List Bool) × Int)) :=
  if x14 < (len x7) then
    (mkl (len a1.regs) false).bind fun x18 =>
    (idx x11 x14).bind fun x22 =>
    some (.go ((x11.set (x14).toNat x18), (w64 (x14 + 1))))
  else
    some (.ret x11)
def live_table (a1 : PFunc) : Option (List (List Bool)) :=
  (mkl (len a1.blocks) ([] : List Bool)).bind fun x7 =>
  (whl (fun (s : (List (List Bool) × Int)) => live_table.bd19 a1 x7 s.1 s.2) FUEL (x7, 0)).bind fun z =>
  live_table.nx19 z
theorem live_table_ok {E : World} {H : FP} {w : World} {a1 : PFunc} {v2 : Value} {v4 : Value} {r : List (List Bool)} (h3 : SlI (kInt .i64) H a1.regs v2) (h5 : SlI kBlock H a1.blocks v4) (hp : live_table a1 = some r) (hst : St E H [] w) :
    Fn Try.prog 79 #[.agg #[.int .i64 a1.params, .int .i64 a1.result, v2, v4]] w fun v w' => ∃ A, live_table.R r v A ∧ St E H A w' := by
  refine Fn.body (fn := Try.f79) (args := [.agg #[.int .i64 a1.params, .int .i64 a1.result, v2, v4]]) E H [] [.tmp 2] 23 Try.func79 rfl rfl rfl rfl (leb rfl) hst ?_
  unfold live_table at hp
  refine TC.seq fun K_1 hK_2 => ?_
  refine TC.region ?_
  refine TL.box (cs := [.int .i64 a1.params, .int .i64 a1.result, v2, v4]) (v := .agg #[.int .i64 a1.params, .int .i64 a1.result, v2, v4]) (ltb rfl) rfl rfl fun b6 => ?_
  refine TL.v (ltb rfl) (rv_as (v := .slice none 0 0) rfl) ?_
  refine TL.nil ?_
  refine TC.go hK_2 ?_
  refine TC.seq fun K_3 hK_4 => ?_
  refine TC.region ?_
  refine TL.v (ltb rfl) (rv_fa (b := b6) (o := 0) fa_25_3 rfl) ?_
  refine TL.v (ltb rfl) (rv_ld (v := v4) (o := 3) (o' := 0) (j := 3) sc_23 rfl (Src.at_ 0 rfl) (bx_cells b6 25 _) rfl rfl) ?_
  refine TL.v (ltb rfl) (rv_lenI (v := v4) Try.underlying23 rfl h5) ?_
  obtain ⟨x7, hz_5, hp⟩ := bind_some' hp
  refine TL.mk (k := (kSl 4 kBool)) (n := (len a1.blocks)) (x0 := ([] : List Bool)) Try.underlying93 inf_30 (ltb rfl) (ltb rfl) rfl rfl (leb rfl) rfl ⟨_, rfl, SlO.nil 4⟩ hz_5 fun v8 F9 h10 => ?_
  refine TL.v (ltb rfl) (rv_as (v := v8) rfl) ?_
  refine TL.nil ?_
  refine TC.go hK_4 ?_
  refine TC.seq fun K_6 hK_7 => ?_
  refine TC.seq fun K_8 hK_9 => ?_
  refine TC.region ?_
  refine TL.v (ltb rfl) (rv_mv (v := v8) rfl) ?_
  refine TL.v (ltb rfl) (rv_lenI (v := v8) Try.underlying93 rfl h10.ro) ?_
  refine TL.v (ltb rfl) (rv_mv (v := .int .i64 0) rfl) ?_
  refine TL.nil ?_
  refine TC.go hK_9 ?_
  refine TC.block ?_
  obtain ⟨z_15, hz_16, hr_17⟩ := bind_some' hp
  clear hp
  have hJ_24 : ∀ (x15 : List (List Bool)) (F16 : FP) (e_20 : Env) (h17 : SlO 30 (kSl 4 kBool) x15 v8 F16) (h_21 : e_20 3 = v8) (hq_25 : x15 = z_15), ∀ w, St E H [F16] w → K_6 e_20 w := by
    intro x15 F16 e_20 h17 h_21 hq_25
    subst hq_25
    replace hp : live_table.nx19 x15 = some r := hr_17
    unfold live_table.nx19 at hp
    refine TC.go hK_7 ?_
    refine TC.seq fun K_22 hK_23 => ?_
    refine TC.region ?_
    refine TL.v (ltb rfl) (rv_mv (v := v8) h_21) ?_
    refine TL.v (ltb rfl) (rv_as (v := v8) rfl) ?_
    refine TL.nil ?_
    refine TC.go hK_23 ?_
    refine TC.ret ?_
    obtain rfl := Option.some.inj hp
    exact fun w hw => retOk ⟨v8, F16, rfl, rfl, h17⟩ (hw.pick [0])
  refine TC.pk' [1, 0] (L' := [bx b6 25 [.int .i64 a1.params, .int .i64 a1.result, v2, v4], F9]) rfl ?_
  refine TC.loopW (r := z_15) (fun (s : (List (List Bool) × Int)) (e_10 : Env) (L_37 : List FP) => ∃ (x11 : List (List Bool)) (x14 : Int) (F12 : FP), s = (x11, x14) ∧ SlO 30 (kSl 4 kBool) x11 v8 F12 ∧ e_10 1 = .pointer (some ⟨b6, 0, none⟩) ∧ e_10 3 = v8 ∧ e_10 10 = .int .i64 (len x7) ∧ e_10 11 = .int .i64 x14 ∧ L_37 = [bx b6 25 [.int .i64 a1.params, .int .i64 a1.result, v2, v4], F12]) ?_ FUEL _ _ _ hz_16 ⟨x7, 0, F9, rfl, h10, rfl, rfl, rfl, rfl, rfl⟩
  rintro s e_10 L_37 ⟨x11, x14, F12, rfl, h13, h_11, h_12, h_13, h_14, rfl⟩ x_18 hp hx_19
  replace hp : live_table.bd19 a1 x7 x11 x14 = some x_18 := hp
  unfold live_table.bd19 at hp
  refine TC.seq fun K_26 hK_27 => ?_
  refine TC.region ?_
  refine TL.v (ltb rfl) (rv_lss (k := .i64) (m := x14) (n := (len x7)) h_14 h_13) ?_
  refine TL.nil ?_
  refine TC.go hK_27 ?_
  refine TC.seq fun K_28 hK_29 => ?_
  by_cases hc_30 : x14 < (len x7)
  · rw [if_pos hc_30] at hp
    refine TC.condT (bT hc_30) ?_
    refine TC.skip ?_
    refine TC.go hK_29 ?_
    refine TC.seq fun K_31 hK_32 => ?_
    refine TC.block ?_
    refine TC.seq fun K_33 hK_34 => ?_
    refine TC.region ?_
    refine TL.v (ltb rfl) (rv_mv (v := .int .i64 x14) h_14) ?_
    refine TL.v (ltb rfl) (rv_as (v := .int .i64 x14) rfl) ?_
    refine TL.nil ?_
    refine TC.go hK_34 ?_
    refine TC.region ?_
    refine TL.v (ltb rfl) (rv_mv (v := v8) h_12) ?_
    refine TL.v (ltb rfl) (rv_mv (v := .int .i64 x14) rfl) ?_
    refine TL.v (ltb rfl) (rv_fa (b := b6) (o := 0) fa_25_2 h_11) ?_
    refine TL.v (ltb rfl) (rv_ld (v := v2) (o := 2) (o' := 0) (j := 2) sc_22 rfl (Src.at_ 0 rfl) (bx_cells b6 25 _) rfl rfl) ?_
    refine TL.v (ltb rfl) (rv_lenI (v := v2) Try.underlying22 rfl h3) ?_
    obtain ⟨x18, hz_35, hp⟩ := bind_some' hp
    refine TL.mk (k := kBool) (n := (len a1.regs)) (x0 := false) Try.underlying30 inf_4 (ltb rfl) (ltb rfl) rfl rfl (leb rfl) rfl ⟨rfl, rfl⟩ hz_35 fun v19 F20 h21 => ?_
    obtain ⟨x22, hx_36, hp⟩ := bind_some' hp
    refine TL.v2 (ltb rfl) (rv_ixO 93 (.tmp 14) (.tmp 15) (v := v8) (i := x14) Try.underlying93 inf_30 rfl rfl rfl h13 (idx_some hx_36).1 (idx_some hx_36).2.1) fun b23 o24 h25 => ?_
    refine TL.pk' [2, 0, 0] (L' := [F12, F20, bx b6 25 [.int .i64 a1.params, .int .i64 a1.result, v2, v4]]) rfl ?_
    refine TL.stE (ds := [v19]) (u := v19) (a := x18) h13 h25 ms_30 rfl rfl (SlO.cells h21) ⟨_, rfl, h21⟩ fun F26 h27 => ?_
    refine TL.nil ?_
    refine TC.go hK_32 ?_
    refine TC.region ?_
    refine TL.v (ltb rfl) (rv_add (k := .i64) (m := x14) (n := 1) h_14 rfl) ?_
    refine TL.v (ltb rfl) (rv_mv (v := .int .i64 (w64 (x14 + 1))) rfl) ?_
    refine TL.nil ?_
    exact fun w hw => goOk hp ⟨(x11.set (x14).toNat x18), (w64 (x14 + 1)), F26, rfl, h27, h_11, h_12, h_13, rfl, rfl⟩ (hw.pick [1, 0])
  · rw [if_neg hc_30] at hp
    refine TC.condF (bF hc_30) ?_
    refine TC.exit ?_
    refine fun w hw => hJ_24 x11 F12 _ h13 ?_ (ex_ret hp hx_19) w (hw.pick [1])
    · exact h_12

/-! ### fettle/live.begin -/
abbrev live_begin.R (r : List Bool) (v : Value) (A : List FP) : Prop := ∃ (w1 : Value) (G1 : FP), w1 = v ∧ A = [G1] ∧ SlO 4 kBool r w1 G1
def live_begin.nx43  (x32 : List Bool) : Option (List Bool) :=
  some x32
def live_begin.bd43 (a1 : PBlock) (x28 : List Bool) (x31 : Int) : Option (Ex (List Bool) (List Bool × Int)) :=
  if x31 < (len a1.phis) then
    (idx a1.phis x31).bind fun x35 =>
    (idx x28 x35.dst).bind fun x44 =>
    some (.go ((x28.set (x35.dst).toNat false), (w64 (x31 + 1))))
  else
    some (.ret x28)
def live_begin.nx26 (a1 : PBlock) (x25 : List Bool) : Option (List Bool) :=
  (whl (fun (s : (List Bool × Int)) => live_begin.bd43 a1 s.1 s.2) FUEL (x25, 0)).bind fun z =>
  live_begin.nx43 z
def live_begin.nx95 (x24 : Int) (x66 : List Bool) : Option (Ex (List Bool) (List Bool × Int)) :=
  some (.go (x66, (w64 (x24 - 1))))
def live_begin.bd95 (x50 : PInstr) (x62 : List Bool) (x65 : Int) : Option (Ex (List Bool) (List Bool × Int)) :=
  if x65 < (len x50.args) then
    (idx x50.args x65).bind fun x69 =>
    (idx x62 x69).bind fun x75 =>
    some (.go ((x62.set (x69).toNat true), (w64 (x65 + 1))))
  else
    some (.ret x62)
def live_begin.jn81 (x24 : Int) (x50 : PInstr) (x59 : List Bool) : Option (Ex (List Bool) (List Bool × Int)) :=
  (whl (fun (s : (List Bool × Int)) => live_begin.bd95 x50 s.1 s.2) FUEL (x59, 0)).bind fun z =>
  live_begin.nx95 x24 z
def live_begin.bd26 (a1 : PBlock) (x21 : List Bool) (x24 : Int) : Option (Ex (List Bool) (List Bool × Int)) :=
  if x24 ≥ 0 then
    (idx a1.ins x24).bind fun x50 =>
    if x50.dst ≥ 0 then
      (idx x21 x50.dst).bind fun x81 =>
      live_begin.jn81 x24 x50 (x21.set (x50.dst).toNat false)
    else
      live_begin.jn81 x24 x50 x21
  else
    some (.ret x21)
def live_begin.jn13 (a1 : PBlock) (x18 : List Bool) : Option (List Bool) :=
  (whl (fun (s : (List Bool × Int)) => live_begin.bd26 a1 s.1 s.2) FUEL (x18, (w64 ((len a1.ins) - 1)))).bind fun z =>
  live_begin.nx26 a1 z
def live_begin (a1 : PBlock) (a8 : List Bool) : Option (List Bool) :=
  (mkl (len a8) false).bind fun x12 =>
  if a1.term.arg ≥ 0 then
    (idx (cpy x12 a8) a1.term.arg).bind fun x87 =>
    live_begin.jn13 a1 ((cpy x12 a8).set (a1.term.arg).toNat true)
  else
    live_begin.jn13 a1 (cpy x12 a8)
theorem live_begin_ok {E : World} {H : FP} {w : World} {a1 : PBlock} {a8 : List Bool} {v2 : Value} {v4 : Value} {v6 : Value} {v9 : Value} {r : List Bool} (h3 : SlI kPhi H a1.phis v2) (h5 : SlI kInstr H a1.ins v4) (h7 : SlI (kInt .i64) H a1.term.to v6) (h10 : SlI kBool H a8 v9) (hp : live_begin a1 a8 = some r) (hst : St E H [] w) :
    Fn Try.prog 80 #[.agg #[v2, v4, .int .i64 a1.term.kind, .int .i64 a1.term.arg, v6], v9] w fun v w' => ∃ A, live_begin.R r v A ∧ St E H A w' := by
  refine Fn.body (fn := Try.f80) (args := [.agg #[v2, v4, .int .i64 a1.term.kind, .int .i64 a1.term.arg, v6], v9]) E H [] [.tmp 4] 71 Try.func80 rfl rfl rfl rfl (leb rfl) hst ?_
  unfold live_begin at hp
  refine TC.seq fun K_1 hK_2 => ?_
  refine TC.region ?_
  refine TL.box (cs := [v2, v4, .int .i64 a1.term.kind, .int .i64 a1.term.arg, v6]) (v := .agg #[v2, v4, .int .i64 a1.term.kind, .int .i64 a1.term.arg, v6]) (ltb rfl) rfl rfl fun b11 => ?_
  refine TL.v (ltb rfl) (rv_as (v := .slice none 0 0) rfl) ?_
  refine TL.nil ?_
  refine TC.go hK_2 ?_
  refine TC.seq fun K_3 hK_4 => ?_
  refine TC.region ?_
  refine TL.v (ltb rfl) (rv_mv (v := v9) rfl) ?_
  refine TL.v (ltb rfl) (rv_lenI (v := v9) Try.underlying30 rfl h10) ?_
  obtain ⟨x12, hz_5, hp⟩ := bind_some' hp
  refine TL.mk (k := kBool) (n := (len a8)) (x0 := false) Try.underlying30 inf_4 (ltb rfl) (ltb rfl) rfl rfl (leb rfl) rfl ⟨rfl, rfl⟩ hz_5 fun v13 F14 h15 => ?_
  refine TL.v (ltb rfl) (rv_as (v := v13) rfl) ?_
  refine TL.nil ?_
  refine TC.go hK_4 ?_
  refine TC.seq fun K_6 hK_7 => ?_
  refine TC.region ?_
  refine TL.v (ltb rfl) (rv_mv (v := v13) rfl) ?_
  refine TL.v (ltb rfl) (rv_mv (v := v9) rfl) ?_
  refine TL.copy (v := v13) (u := v9) fBool Try.underlying30 inf_4 (ltb rfl) rfl rfl rfl rfl h15 h10 Src.H fun F16 h17 => ?_
  refine TL.nil ?_
  refine TC.go hK_7 ?_
  refine TC.seq fun K_8 hK_9 => ?_
  have hJ_13 : ∀ (x18 : List Bool) (F19 : FP) (e_10 : Env) (h20 : SlO 4 kBool x18 v13 F19) (h_11 : e_10 2 = .pointer (some ⟨b11, 0, none⟩)) (h_12 : e_10 5 = v13) (hp : live_begin.jn13 a1 x18 = some r), ∀ w, St E H [bx b11 85 [v2, v4, .int .i64 a1.term.kind, .int .i64 a1.term.arg, v6], F19] w → K_8 e_10 w := by
    intro x18 F19 e_10 h20 h_11 h_12 hp
    unfold live_begin.jn13 at hp
    refine TC.go hK_9 ?_
    refine TC.seq fun K_14 hK_15 => ?_
    refine TC.seq fun K_16 hK_17 => ?_
    refine TC.region ?_
    refine TL.v (ltb rfl) (rv_fa (b := b11) (o := 0) fa_85_1 h_11) ?_
    refine TL.v (ltb rfl) (rv_ld (v := v4) (o := 1) (o' := 0) (j := 1) sc_83 rfl (Src.at_ 0 rfl) (bx_cells b11 85 _) rfl rfl) ?_
    refine TL.v (ltb rfl) (rv_lenI (v := v4) Try.underlying83 rfl h5) ?_
    refine TL.v (ltb rfl) (rv_sub (k := .i64) (m := (len a1.ins)) (n := 1) rfl rfl) ?_
    refine TL.v (ltb rfl) (rv_as (v := .int .i64 (w64 ((len a1.ins) - 1))) rfl) ?_
    refine TL.nil ?_
    refine TC.go hK_17 ?_
    refine TC.block ?_
    obtain ⟨z_22, hz_23, hr_24⟩ := bind_some' hp
    clear hp
    have hJ_62 : ∀ (x25 : List Bool) (F26 : FP) (e_27 : Env) (h27 : SlO 4 kBool x25 v13 F26) (h_28 : e_27 2 = .pointer (some ⟨b11, 0, none⟩)) (h_29 : e_27 5 = v13) (hq_63 : x25 = z_22), ∀ w, St E H [bx b11 85 [v2, v4, .int .i64 a1.term.kind, .int .i64 a1.term.arg, v6], F26] w → K_14 e_27 w := by
      intro x25 F26 e_27 h27 h_28 h_29 hq_63
      subst hq_63
      replace hp : live_begin.nx26 a1 x25 = some r := hr_24
      unfold live_begin.nx26 at hp
      refine TC.go hK_15 ?_
      refine TC.seq fun K_30 hK_31 => ?_
      refine TC.seq fun K_32 hK_33 => ?_
      refine TC.region ?_
      refine TL.v (ltb rfl) (rv_fa (b := b11) (o := 0) fa_85_0 h_28) ?_
      refine TL.v (ltb rfl) (rv_ld (v := v2) (o := 0) (o' := 0) (j := 0) sc_82 rfl (Src.at_ 0 rfl) (bx_cells b11 85 _) rfl rfl) ?_
      refine TL.v (ltb rfl) (rv_lenI (v := v2) Try.underlying82 rfl h3) ?_
      refine TL.v (ltb rfl) (rv_mv (v := .int .i64 0) rfl) ?_
      refine TL.nil ?_
      refine TC.go hK_33 ?_
      refine TC.block ?_
      obtain ⟨z_39, hz_40, hr_41⟩ := bind_some' hp
      clear hp
      have hJ_48 : ∀ (x32 : List Bool) (F33 : FP) (e_44 : Env) (h34 : SlO 4 kBool x32 v13 F33) (h_45 : e_44 5 = v13) (hq_49 : x32 = z_39), ∀ w, St E H [F33] w → K_30 e_44 w := by
        intro x32 F33 e_44 h34 h_45 hq_49
        subst hq_49
        replace hp : live_begin.nx43 x32 = some r := hr_41
        unfold live_begin.nx43 at hp
        refine TC.go hK_31 ?_
        refine TC.seq fun K_46 hK_47 => ?_
        refine TC.region ?_
        refine TL.v (ltb rfl) (rv_mv (v := v13) h_45) ?_
        refine TL.v (ltb rfl) (rv_as (v := v13) rfl) ?_
        refine TL.nil ?_
        refine TC.go hK_47 ?_
        refine TC.ret ?_
        obtain rfl := Option.some.inj hp
        exact fun w hw => retOk ⟨v13, F33, rfl, rfl, h34⟩ (hw.pick [0])
      refine TC.pk' [1] (L' := [F26]) rfl ?_
      refine TC.loopW (r := z_39) (fun (s : (List Bool × Int)) (e_34 : Env) (L_61 : List FP) => ∃ (x28 : List Bool) (x31 : Int) (F29 : FP), s = (x28, x31) ∧ SlO 4 kBool x28 v13 F29 ∧ e_34 5 = v13 ∧ e_34 59 = v2 ∧ e_34 60 = .int .i64 (len a1.phis) ∧ e_34 61 = .int .i64 x31 ∧ L_61 = [F29]) ?_ FUEL _ _ _ hz_40 ⟨x25, 0, F26, rfl, h27, h_29, rfl, rfl, rfl, rfl⟩
      rintro s e_34 L_61 ⟨x28, x31, F29, rfl, h30, h_35, h_36, h_37, h_38, rfl⟩ x_42 hp hx_43
      replace hp : live_begin.bd43 a1 x28 x31 = some x_42 := hp
      unfold live_begin.bd43 at hp
      refine TC.seq fun K_50 hK_51 => ?_
      refine TC.region ?_
      refine TL.v (ltb rfl) (rv_lss (k := .i64) (m := x31) (n := (len a1.phis)) h_38 h_37) ?_
      refine TL.nil ?_
      refine TC.go hK_51 ?_
      refine TC.seq fun K_52 hK_53 => ?_
      by_cases hc_54 : x31 < (len a1.phis)
      · rw [if_pos hc_54] at hp
        refine TC.condT (bT hc_54) ?_
        refine TC.skip ?_
        refine TC.go hK_53 ?_
        refine TC.seq fun K_55 hK_56 => ?_
        refine TC.block ?_
        refine TC.seq fun K_57 hK_58 => ?_
        refine TC.region ?_
        obtain ⟨x35, hx_59, hp⟩ := bind_some' hp
        refine TL.v3 (ltb rfl) (rv_ix 82 (.tmp 59) (.tmp 61) (v := v2) (i := x31) Try.underlying82 inf_131 rfl h_36 h_38 h3 hx_59) fun b36 o37 c38 h39 h40 => ?_
        obtain ⟨v41, rfl, h42⟩ := h39
        refine TL.v (ltb rfl) (rv_lda (o := o37) (o' := o37) (j := 0) (ds := [.int .i64 x35.dst, v41]) ag_131 rfl Src.H h40 rfl rfl rfl) ?_
        refine TL.alloc (cs := [.int .i64 0, .slice none 0 0]) inf_131 (ltb rfl) rfl fun b43 => ?_
        refine TL.stB (ds := [.int .i64 x35.dst, v41]) (o := 0) (cs := [.int .i64 0, .slice none 0 0]) (b := b43) (u := .agg #[.int .i64 x35.dst, v41]) 0 rfl ms_131 rfl rfl rfl (oc rfl (oc (h42).one oc0)) (leb rfl) ?_
        refine TL.norm (L' := [bx b43 131 [.int .i64 x35.dst, v41], F29]) rfl ?_
        refine TL.nil ?_
        refine TC.go hK_58 ?_
        refine TC.region ?_
        refine TL.v (ltb rfl) (rv_mv (v := v13) h_35) ?_
        refine TL.v (ltb rfl) (rv_fa (b := b43) (o := 0) fa_131_0 rfl) ?_
        refine TL.v (ltb rfl) (rv_ld (v := .int .i64 x35.dst) (o := 0) (o' := 0) (j := 0) sc_3 rfl (Src.at_ 0 rfl) (bx_cells b43 131 _) rfl rfl) ?_
        obtain ⟨x44, hx_60, hp⟩ := bind_some' hp
        refine TL.v2 (ltb rfl) (rv_ixO 30 (.tmp 65) (.tmp 67) (v := v13) (i := x35.dst) Try.underlying30 inf_4 rfl rfl rfl h30 (idx_some hx_60).1 (idx_some hx_60).2.1) fun b45 o46 h47 => ?_
        refine TL.pk' [1, 0] (L' := [F29, bx b43 131 [.int .i64 x35.dst, v41]]) rfl ?_
        refine TL.stE0 (ds := [.bool false]) (u := .bool false) (a := false) h30 h47 ms_4 rfl rfl rfl ⟨rfl, rfl⟩ fun F48 h49 => ?_
        refine TL.nil ?_
        refine TC.go hK_56 ?_
        refine TC.region ?_
        refine TL.v (ltb rfl) (rv_add (k := .i64) (m := x31) (n := 1) h_38 rfl) ?_
        refine TL.v (ltb rfl) (rv_mv (v := .int .i64 (w64 (x31 + 1))) rfl) ?_
        refine TL.nil ?_
        exact fun w hw => goOk hp ⟨(x28.set (x35.dst).toNat false), (w64 (x31 + 1)), F48, rfl, h49, h_35, h_36, h_37, rfl, rfl⟩ (hw.pick [0])
      · rw [if_neg hc_54] at hp
        refine TC.condF (bF hc_54) ?_
        refine TC.exit ?_
        refine fun w hw => hJ_48 x28 F29 _ h30 ?_ (ex_ret hp hx_43) w (hw.pick [0])
        · exact h_35
    refine TC.pk' [0, 0] (L' := [bx b11 85 [v2, v4, .int .i64 a1.term.kind, .int .i64 a1.term.arg, v6], F19]) rfl ?_
    refine TC.loopW (r := z_22) (fun (s : (List Bool × Int)) (e_18 : Env) (L_118 : List FP) => ∃ (x21 : List Bool) (x24 : Int) (F22 : FP), s = (x21, x24) ∧ SlO 4 kBool x21 v13 F22 ∧ e_18 2 = .pointer (some ⟨b11, 0, none⟩) ∧ e_18 5 = v13 ∧ e_18 6 = .int .i64 x24 ∧ L_118 = [bx b11 85 [v2, v4, .int .i64 a1.term.kind, .int .i64 a1.term.arg, v6], F22]) ?_ FUEL _ _ _ hz_23 ⟨x18, (w64 ((len a1.ins) - 1)), F19, rfl, h20, h_11, h_12, rfl, rfl⟩
    rintro s e_18 L_118 ⟨x21, x24, F22, rfl, h23, h_19, h_20, h_21, rfl⟩ x_25 hp hx_26
    replace hp : live_begin.bd26 a1 x21 x24 = some x_25 := hp
    unfold live_begin.bd26 at hp
    refine TC.seq fun K_64 hK_65 => ?_
    refine TC.seq fun K_66 hK_67 => ?_
    refine TC.region ?_
    refine TL.v (ltb rfl) (rv_mv (v := .int .i64 x24) h_21) ?_
    refine TL.v (ltb rfl) (rv_geq (k := .i64) (m := x24) (n := 0) rfl rfl) ?_
    refine TL.nil ?_
    refine TC.go hK_67 ?_
    by_cases hc_68 : x24 ≥ 0
    · rw [if_pos hc_68] at hp
      refine TC.condT (bT hc_68) ?_
      refine TC.skip ?_
      refine TC.go hK_65 ?_
      refine TC.seq fun K_69 hK_70 => ?_
      refine TC.block ?_
      refine TC.seq fun K_71 hK_72 => ?_
      refine TC.region ?_
      refine TL.v (ltb rfl) (rv_fa (b := b11) (o := 0) fa_85_1 h_19) ?_
      refine TL.v (ltb rfl) (rv_ld (v := v4) (o := 1) (o' := 0) (j := 1) sc_83 rfl (Src.at_ 0 rfl) (bx_cells b11 85 _) rfl rfl) ?_
      refine TL.v (ltb rfl) (rv_mv (v := .int .i64 x24) h_21) ?_
      obtain ⟨x50, hx_73, hp⟩ := bind_some' hp
      refine TL.v3 (ltb rfl) (rv_ix 83 (.tmp 36) (.tmp 37) (v := v4) (i := x24) Try.underlying83 inf_87 rfl rfl rfl h5 hx_73) fun b51 o52 c53 h54 h55 => ?_
      obtain ⟨v56, rfl, h57⟩ := h54
      refine TL.v (ltb rfl) (rv_lda (o := o52) (o' := o52) (j := 0) (ds := [.int .i64 x50.op, .int .i64 x50.dst, v56, .int .i64 x50.imm, .int .i64 x50.fn]) ag_87 rfl Src.H h55 rfl rfl rfl) ?_
      refine TL.alloc (cs := [.int .i64 0, .int .i64 0, .slice none 0 0, .int .i64 0, .int .i64 0]) inf_87 (ltb rfl) rfl fun b58 => ?_
      refine TL.stB (ds := [.int .i64 x50.op, .int .i64 x50.dst, v56, .int .i64 x50.imm, .int .i64 x50.fn]) (o := 0) (cs := [.int .i64 0, .int .i64 0, .slice none 0 0, .int .i64 0, .int .i64 0]) (b := b58) (u := .agg #[.int .i64 x50.op, .int .i64 x50.dst, v56, .int .i64 x50.imm, .int .i64 x50.fn]) 0 rfl ms_87 rfl rfl rfl (oc rfl (oc rfl (oc (h57).one (oc rfl (oc rfl oc0))))) (leb rfl) ?_
      refine TL.norm (L' := [bx b58 87 [.int .i64 x50.op, .int .i64 x50.dst, v56, .int .i64 x50.imm, .int .i64 x50.fn], bx b11 85 [v2, v4, .int .i64 a1.term.kind, .int .i64 a1.term.arg, v6], F22]) rfl ?_
      refine TL.nil ?_
      refine TC.go hK_72 ?_
      refine TC.seq fun K_74 hK_75 => ?_
      have hJ_81 : ∀ (x59 : List Bool) (F60 : FP) (e_76 : Env) (h61 : SlO 4 kBool x59 v13 F60) (h_77 : e_76 2 = .pointer (some ⟨b11, 0, none⟩)) (h_78 : e_76 5 = v13) (h_79 : e_76 6 = .int .i64 x24) (h_80 : e_76 7 = .pointer (some ⟨b58, 0, none⟩)) (hp : live_begin.jn81 x24 x50 x59 = some x_25), ∀ w, St E H [bx b11 85 [v2, v4, .int .i64 a1.term.kind, .int .i64 a1.term.arg, v6], F60, bx b58 87 [.int .i64 x50.op, .int .i64 x50.dst, v56, .int .i64 x50.imm, .int .i64 x50.fn]] w → K_74 e_76 w := by
        intro x59 F60 e_76 h61 h_77 h_78 h_79 h_80 hp
        unfold live_begin.jn81 at hp
        refine TC.go hK_75 ?_
        refine TC.seq fun K_82 hK_83 => ?_
        refine TC.region ?_
        refine TL.v (ltb rfl) (rv_fa (b := b58) (o := 0) fa_87_2 h_80) ?_
        refine TL.v (ltb rfl) (rv_ld (v := v56) (o := 2) (o' := 0) (j := 2) sc_22 rfl (Src.at_ 2 rfl) (bx_cells b58 87 _) rfl rfl) ?_
        refine TL.v (ltb rfl) (rv_lenI (v := v56) Try.underlying22 rfl h57) ?_
        refine TL.v (ltb rfl) (rv_mv (v := .int .i64 0) rfl) ?_
        refine TL.nil ?_
        refine TC.go hK_83 ?_
        refine TC.block ?_
        obtain ⟨z_91, hz_92, hr_93⟩ := bind_some' hp
        clear hp
        have hJ_100 : ∀ (x66 : List Bool) (F67 : FP) (e_96 : Env) (h68 : SlO 4 kBool x66 v13 F67) (h_97 : e_96 2 = .pointer (some ⟨b11, 0, none⟩)) (h_98 : e_96 5 = v13) (h_99 : e_96 6 = .int .i64 x24) (hq_101 : x66 = z_91), ∀ w, St E H [bx b11 85 [v2, v4, .int .i64 a1.term.kind, .int .i64 a1.term.arg, v6], F67] w → K_69 e_96 w := by
          intro x66 F67 e_96 h68 h_97 h_98 h_99 hq_101
          subst hq_101
          replace hp : live_begin.nx95 x24 x66 = some x_25 := hr_93
          unfold live_begin.nx95 at hp
          refine TC.go hK_70 ?_
          refine TC.region ?_
          refine TL.v (ltb rfl) (rv_mv (v := .int .i64 x24) h_99) ?_
          refine TL.v (ltb rfl) (rv_sub (k := .i64) (m := x24) (n := 1) rfl rfl) ?_
          refine TL.v (ltb rfl) (rv_as (v := .int .i64 (w64 (x24 - 1))) rfl) ?_
          refine TL.nil ?_
          exact fun w hw => goOk hp ⟨x66, (w64 (x24 - 1)), F67, rfl, h68, h_97, h_98, rfl, rfl⟩ (hw.pick [0, 0])
        refine TC.pk' [0, 0] (L' := [bx b11 85 [v2, v4, .int .i64 a1.term.kind, .int .i64 a1.term.arg, v6], F60]) rfl ?_
        refine TC.loopW (r := z_91) (fun (s : (List Bool × Int)) (e_84 : Env) (L_113 : List FP) => ∃ (x62 : List Bool) (x65 : Int) (F63 : FP), s = (x62, x65) ∧ SlO 4 kBool x62 v13 F63 ∧ e_84 2 = .pointer (some ⟨b11, 0, none⟩) ∧ e_84 5 = v13 ∧ e_84 6 = .int .i64 x24 ∧ e_84 48 = v56 ∧ e_84 49 = .int .i64 (len x50.args) ∧ e_84 50 = .int .i64 x65 ∧ L_113 = [bx b11 85 [v2, v4, .int .i64 a1.term.kind, .int .i64 a1.term.arg, v6], F63]) ?_ FUEL _ _ _ hz_92 ⟨x59, 0, F60, rfl, h61, h_77, h_78, h_79, rfl, rfl, rfl, rfl⟩
        rintro s e_84 L_113 ⟨x62, x65, F63, rfl, h64, h_85, h_86, h_87, h_88, h_89, h_90, rfl⟩ x_94 hp hx_95
        replace hp : live_begin.bd95 x50 x62 x65 = some x_94 := hp
        unfold live_begin.bd95 at hp
        refine TC.seq fun K_102 hK_103 => ?_
        refine TC.region ?_
        refine TL.v (ltb rfl) (rv_lss (k := .i64) (m := x65) (n := (len x50.args)) h_90 h_89) ?_
        refine TL.nil ?_
        refine TC.go hK_103 ?_
        refine TC.seq fun K_104 hK_105 => ?_
        by_cases hc_106 : x65 < (len x50.args)
        · rw [if_pos hc_106] at hp
          refine TC.condT (bT hc_106) ?_
          refine TC.skip ?_
          refine TC.go hK_105 ?_
          refine TC.seq fun K_107 hK_108 => ?_
          refine TC.block ?_
          refine TC.seq fun K_109 hK_110 => ?_
          refine TC.region ?_
          obtain ⟨x69, hx_111, hp⟩ := bind_some' hp
          refine TL.v3 (ltb rfl) (rv_ix 22 (.tmp 48) (.tmp 50) (v := v56) (i := x65) Try.underlying22 inf_3 rfl h_88 h_90 h57 hx_111) fun b70 o71 c72 h73 h74 => ?_
          obtain rfl := h73
          refine TL.v (ltb rfl) (rv_ld (v := .int .i64 x69) (o := o71) (o' := o71) (j := 0) sc_3 rfl Src.H h74 rfl rfl) ?_
          refine TL.v (ltb rfl) (rv_as (v := .int .i64 x69) rfl) ?_
          refine TL.nil ?_
          refine TC.go hK_110 ?_
          refine TC.region ?_
          refine TL.v (ltb rfl) (rv_mv (v := v13) h_86) ?_
          refine TL.v (ltb rfl) (rv_mv (v := .int .i64 x69) rfl) ?_
          obtain ⟨x75, hx_112, hp⟩ := bind_some' hp
          refine TL.v2 (ltb rfl) (rv_ixO 30 (.tmp 54) (.tmp 55) (v := v13) (i := x69) Try.underlying30 inf_4 rfl rfl rfl h64 (idx_some hx_112).1 (idx_some hx_112).2.1) fun b76 o77 h78 => ?_
          refine TL.pk' [1, 0] (L' := [F63, bx b11 85 [v2, v4, .int .i64 a1.term.kind, .int .i64 a1.term.arg, v6]]) rfl ?_
          refine TL.stE0 (ds := [.bool true]) (u := .bool true) (a := true) h64 h78 ms_4 rfl rfl rfl ⟨rfl, rfl⟩ fun F79 h80 => ?_
          refine TL.nil ?_
          refine TC.go hK_108 ?_
          refine TC.region ?_
          refine TL.v (ltb rfl) (rv_add (k := .i64) (m := x65) (n := 1) h_90 rfl) ?_
          refine TL.v (ltb rfl) (rv_mv (v := .int .i64 (w64 (x65 + 1))) rfl) ?_
          refine TL.nil ?_
          exact fun w hw => goOk hp ⟨(x62.set (x69).toNat true), (w64 (x65 + 1)), F79, rfl, h80, h_85, h_86, h_87, h_88, h_89, rfl, rfl⟩ (hw.pick [1, 0])
        · rw [if_neg hc_106] at hp
          refine TC.condF (bF hc_106) ?_
          refine TC.exit ?_
          refine fun w hw => hJ_100 x62 F63 _ h64 ?_ ?_ ?_ (ex_ret hp hx_95) w (hw.pick [0, 0])
          · exact h_85
          · exact h_86
          · exact h_87
      refine TC.seq fun K_114 hK_115 => ?_
      refine TC.region ?_
      refine TL.v (ltb rfl) (rv_fa (b := b58) (o := 0) fa_87_1 rfl) ?_
      refine TL.v (ltb rfl) (rv_ld (v := .int .i64 x50.dst) (o := 1) (o' := 0) (j := 1) sc_3 rfl (Src.at_ 0 rfl) (bx_cells b58 87 _) rfl rfl) ?_
      refine TL.v (ltb rfl) (rv_geq (k := .i64) (m := x50.dst) (n := 0) rfl rfl) ?_
      refine TL.nil ?_
      refine TC.go hK_115 ?_
      by_cases hc_116 : x50.dst ≥ 0
      · rw [if_pos hc_116] at hp
        refine TC.condT (bT hc_116) ?_
        refine TC.region ?_
        refine TL.v (ltb rfl) (rv_mv (v := v13) h_20) ?_
        refine TL.v (ltb rfl) (rv_fa (b := b58) (o := 0) fa_87_1 rfl) ?_
        refine TL.v (ltb rfl) (rv_ld (v := .int .i64 x50.dst) (o := 1) (o' := 0) (j := 1) sc_3 rfl (Src.at_ 0 rfl) (bx_cells b58 87 _) rfl rfl) ?_
        obtain ⟨x81, hx_117, hp⟩ := bind_some' hp
        refine TL.v2 (ltb rfl) (rv_ixO 30 (.tmp 43) (.tmp 45) (v := v13) (i := x50.dst) Try.underlying30 inf_4 rfl rfl rfl h23 (idx_some hx_117).1 (idx_some hx_117).2.1) fun b82 o83 h84 => ?_
        refine TL.pk' [2, 0, 0] (L' := [F22, bx b58 87 [.int .i64 x50.op, .int .i64 x50.dst, v56, .int .i64 x50.imm, .int .i64 x50.fn], bx b11 85 [v2, v4, .int .i64 a1.term.kind, .int .i64 a1.term.arg, v6]]) rfl ?_
        refine TL.stE0 (ds := [.bool false]) (u := .bool false) (a := false) h23 h84 ms_4 rfl rfl rfl ⟨rfl, rfl⟩ fun F85 h86 => ?_
        refine TL.nil ?_
        refine fun w hw => hJ_81 (x21.set (x50.dst).toNat false) F85 _ h86 ?_ ?_ ?_ ?_ hp w (hw.pick [2, 0, 0])
        · exact h_19
        · exact h_20
        · exact h_21
        · exact rfl
      · rw [if_neg hc_116] at hp
        refine TC.condF (bF hc_116) ?_
        refine TC.skip ?_
        refine fun w hw => hJ_81 x21 F22 _ h23 ?_ ?_ ?_ ?_ hp w (hw.pick [1, 1, 0])
        · exact h_19
        · exact h_20
        · exact h_21
        · exact rfl
    · rw [if_neg hc_68] at hp
      refine TC.condF (bF hc_68) ?_
      refine TC.exit ?_
      refine fun w hw => hJ_62 x21 F22 _ h23 ?_ ?_ (ex_ret hp hx_26) w (hw.pick [0, 0])
      · exact h_19
      · exact h_20
  refine TC.seq fun K_119 hK_120 => ?_
  refine TC.region ?_
  refine TL.v (ltb rfl) (rv_fa (b := b11) (o := 0) fa_85_2 rfl) ?_
  refine TL.v (ltb rfl) (rv_fa (b := b11) (o := 2) fa_81_1 rfl) ?_
  refine TL.v (ltb rfl) (rv_ld (v := .int .i64 a1.term.arg) (o := 3) (o' := 0) (j := 3) sc_3 rfl (Src.at_ 1 rfl) (bx_cells b11 85 _) rfl rfl) ?_
  refine TL.v (ltb rfl) (rv_geq (k := .i64) (m := a1.term.arg) (n := 0) rfl rfl) ?_
  refine TL.nil ?_
  refine TC.go hK_120 ?_
  by_cases hc_121 : a1.term.arg ≥ 0
  · rw [if_pos hc_121] at hp
    refine TC.condT (bT hc_121) ?_
    refine TC.region ?_
    refine TL.v (ltb rfl) (rv_mv (v := v13) rfl) ?_
    refine TL.v (ltb rfl) (rv_fa (b := b11) (o := 0) fa_85_2 rfl) ?_
    refine TL.v (ltb rfl) (rv_fa (b := b11) (o := 2) fa_81_1 rfl) ?_
    refine TL.v (ltb rfl) (rv_ld (v := .int .i64 a1.term.arg) (o := 3) (o' := 0) (j := 3) sc_3 rfl (Src.at_ 1 rfl) (bx_cells b11 85 _) rfl rfl) ?_
    obtain ⟨x87, hx_122, hp⟩ := bind_some' hp
    refine TL.v2 (ltb rfl) (rv_ixO 30 (.tmp 22) (.tmp 25) (v := v13) (i := a1.term.arg) Try.underlying30 inf_4 rfl rfl rfl h17 (idx_some hx_122).1 (idx_some hx_122).2.1) fun b88 o89 h90 => ?_
    refine TL.stE0 (ds := [.bool true]) (u := .bool true) (a := true) h17 h90 ms_4 rfl rfl rfl ⟨rfl, rfl⟩ fun F91 h92 => ?_
    refine TL.nil ?_
    refine fun w hw => hJ_13 ((cpy x12 a8).set (a1.term.arg).toNat true) F91 _ h92 ?_ ?_ hp w (hw.pick [1, 0])
    · exact rfl
    · exact rfl
  · rw [if_neg hc_121] at hp
    refine TC.condF (bF hc_121) ?_
    refine TC.skip ?_
    refine fun w hw => hJ_13 (cpy x12 a8) F16 _ h17 ?_ ?_ hp w (hw.pick [1, 0])
    · exact rfl
    · exact rfl

/-! ### fettle/check.Ahead -/
abbrev check_Ahead.R (r : List (List Int)) (v : Value) (A : List FP) : Prop := ∃ (w1 : Value) (G1 : FP), w1 = v ∧ A = [G1] ∧ SlO 22 (kSl 3 (kInt .i64)) r w1 G1
def check_Ahead.nx19  (x15 : List (List Int)) : Option (List (List Int)) :=
  some x15
def check_Ahead.nx51 (x14 : Int) (x35 : List (List Int)) : Option (Ex (List (List Int)) (List (List Int) × Int)) :=
  some (.go (x35, (w64 (x14 + 1))))
def check_Ahead.jn75 (x34 : Int) (x38 : List (List Int)) : Option (Ex (List (List Int)) (List (List Int) × Int)) :=
  some (.go (x38, (w64 (x34 + 1))))
def check_Ahead.bd51 (x14 : Int) (x18 : PBlock) (x31 : List (List Int)) (x34 : Int) : Option (Ex (List (List Int)) (List (List Int) × Int)) :=
  if x34 < (len x18.term.to) then
    (idx x18.term.to x34).bind fun x41 =>
    (if x41 ≥ 0 ∧ x41 < (len x31) then (idx x31 x41).bind fun x68 =>
    (slices_Contains x68 x14).bind fun x76 =>
    some (!x76) else some false).bind fun t47 =>
    if t47 = true then
      (idx x31 x41).bind fun x48 =>
      (cat x48 [x14]).bind fun x59 =>
      check_Ahead.jn75 x34 (x31.set (x41).toNat x59)
    else
      check_Ahead.jn75 x34 x31
  else
    some (.ret x31)
def check_Ahead.bd19 (a1 : PFunc) (x11 : List (List Int)) (x14 : Int) : Option (Ex (List (List Int)) (List (List Int) × Int)) :=
  if x14 < (len a1.blocks) then
    (idx a1.blocks x14).bind fun x18 =>
    (whl (fun (s : (List (List Int) × Int)) => check_Ahead.bd51 x14 x18 s.1 s.2) FUEL (x11, 0)).bind fun z =>
    check_Ahead.nx51 x14 z
  else
    some (.ret x11)
def check_Ahead (a1 : PFunc) : Option (List (List Int)) :=
  (mkl (len a1.blocks) ([] : List Int)).bind fun x7 =>
  (whl (fun (s : (List (List Int) × Int)) => check_Ahead.bd19 a1 s.1 s.2) FUEL (x7, 0)).bind fun z =>
  check_Ahead.nx19 z
theorem check_Ahead_ok {E : World} {H : FP} {w : World} {a1 : PFunc} {v2 : Value} {v4 : Value} {r : List (List Int)} (h3 : SlI (kInt .i64) H a1.regs v2) (h5 : SlI kBlock H a1.blocks v4) (hp : check_Ahead a1 = some r) (hst : St E H [] w) :
    Fn Try.prog 78 #[.agg #[.int .i64 a1.params, .int .i64 a1.result, v2, v4]] w fun v w' => ∃ A, check_Ahead.R r v A ∧ St E H A w' := by
  refine Fn.body (fn := Try.f78) (args := [.agg #[.int .i64 a1.params, .int .i64 a1.result, v2, v4]]) E H [] [.tmp 2] 58 Try.func78 rfl rfl rfl rfl (leb rfl) hst ?_
  unfold check_Ahead at hp
  refine TC.seq fun K_1 hK_2 => ?_
  refine TC.region ?_
  refine TL.box (cs := [.int .i64 a1.params, .int .i64 a1.result, v2, v4]) (v := .agg #[.int .i64 a1.params, .int .i64 a1.result, v2, v4]) (ltb rfl) rfl rfl fun b6 => ?_
  refine TL.v (ltb rfl) (rv_as (v := .slice none 0 0) rfl) ?_
  refine TL.nil ?_
  refine TC.go hK_2 ?_
  refine TC.seq fun K_3 hK_4 => ?_
  refine TC.region ?_
  refine TL.v (ltb rfl) (rv_fa (b := b6) (o := 0) fa_25_3 rfl) ?_
  refine TL.v (ltb rfl) (rv_ld (v := v4) (o := 3) (o' := 0) (j := 3) sc_23 rfl (Src.at_ 0 rfl) (bx_cells b6 25 _) rfl rfl) ?_
  refine TL.v (ltb rfl) (rv_lenI (v := v4) Try.underlying23 rfl h5) ?_
  obtain ⟨x7, hz_5, hp⟩ := bind_some' hp
  refine TL.mk (k := (kSl 3 (kInt .i64))) (n := (len a1.blocks)) (x0 := ([] : List Int)) Try.underlying28 inf_22 (ltb rfl) (ltb rfl) rfl rfl (leb rfl) rfl ⟨_, rfl, SlO.nil 3⟩ hz_5 fun v8 F9 h10 => ?_
  refine TL.v (ltb rfl) (rv_as (v := v8) rfl) ?_
  refine TL.nil ?_
  refine TC.go hK_4 ?_
  refine TC.seq fun K_6 hK_7 => ?_
  refine TC.seq fun K_8 hK_9 => ?_
  refine TC.region ?_
  refine TL.v (ltb rfl) (rv_fa (b := b6) (o := 0) fa_25_3 rfl) ?_
  refine TL.v (ltb rfl) (rv_ld (v := v4) (o := 3) (o' := 0) (j := 3) sc_23 rfl (Src.at_ 1 rfl) (bx_cells b6 25 _) rfl rfl) ?_
  refine TL.v (ltb rfl) (rv_lenI (v := v4) Try.underlying23 rfl h5) ?_
  refine TL.v (ltb rfl) (rv_mv (v := .int .i64 0) rfl) ?_
  refine TL.nil ?_
  refine TC.go hK_9 ?_
  refine TC.block ?_
  obtain ⟨z_15, hz_16, hr_17⟩ := bind_some' hp
  clear hp
  have hJ_24 : ∀ (x15 : List (List Int)) (F16 : FP) (e_20 : Env) (h17 : SlO 22 (kSl 3 (kInt .i64)) x15 v8 F16) (h_21 : e_20 3 = v8) (hq_25 : x15 = z_15), ∀ w, St E H [F16] w → K_6 e_20 w := by
    intro x15 F16 e_20 h17 h_21 hq_25
    subst hq_25
    replace hp : check_Ahead.nx19 x15 = some r := hr_17
    unfold check_Ahead.nx19 at hp
    refine TC.go hK_7 ?_
    refine TC.seq fun K_22 hK_23 => ?_
    refine TC.region ?_
    refine TL.v (ltb rfl) (rv_mv (v := v8) h_21) ?_
    refine TL.v (ltb rfl) (rv_as (v := v8) rfl) ?_
    refine TL.nil ?_
    refine TC.go hK_23 ?_
    refine TC.ret ?_
    obtain rfl := Option.some.inj hp
    exact fun w hw => retOk ⟨v8, F16, rfl, rfl, h17⟩ (hw.pick [0])
  refine TC.pk' [0] (L' := [F9]) rfl ?_
  refine TC.loopW (r := z_15) (fun (s : (List (List Int) × Int)) (e_10 : Env) (L_120 : List FP) => ∃ (x11 : List (List Int)) (x14 : Int) (F12 : FP), s = (x11, x14) ∧ SlO 22 (kSl 3 (kInt .i64)) x11 v8 F12 ∧ e_10 3 = v8 ∧ e_10 13 = v4 ∧ e_10 14 = .int .i64 (len a1.blocks) ∧ e_10 15 = .int .i64 x14 ∧ L_120 = [F12]) ?_ FUEL _ _ _ hz_16 ⟨x7, 0, F9, rfl, h10, rfl, rfl, rfl, rfl, rfl⟩
  rintro s e_10 L_120 ⟨x11, x14, F12, rfl, h13, h_11, h_12, h_13, h_14, rfl⟩ x_18 hp hx_19
  replace hp : check_Ahead.bd19 a1 x11 x14 = some x_18 := hp
  unfold check_Ahead.bd19 at hp
  refine TC.seq fun K_26 hK_27 => ?_
  refine TC.region ?_
  refine TL.v (ltb rfl) (rv_lss (k := .i64) (m := x14) (n := (len a1.blocks)) h_14 h_13) ?_
  refine TL.nil ?_
  refine TC.go hK_27 ?_
  refine TC.seq fun K_28 hK_29 => ?_
  by_cases hc_30 : x14 < (len a1.blocks)
  · rw [if_pos hc_30] at hp
    refine TC.condT (bT hc_30) ?_
    refine TC.skip ?_
    refine TC.go hK_29 ?_
    refine TC.seq fun K_31 hK_32 => ?_
    refine TC.block ?_
    refine TC.seq fun K_33 hK_34 => ?_
    refine TC.region ?_
    refine TL.v (ltb rfl) (rv_mv (v := .int .i64 x14) h_14) ?_
    obtain ⟨x18, hx_35, hp⟩ := bind_some' hp
    refine TL.v3 (ltb rfl) (rv_ix 23 (.tmp 13) (.tmp 15) (v := v4) (i := x14) Try.underlying23 inf_85 rfl h_12 h_14 h5 hx_35) fun b19 o20 c21 h22 h23 => ?_
    obtain ⟨v24, v26, v28, rfl, h25, h27, h29⟩ := h22
    refine TL.v (ltb rfl) (rv_lda (o := o20) (o' := o20) (j := 0) (ds := [v24, v26, .int .i64 x18.term.kind, .int .i64 x18.term.arg, v28]) ag_85 rfl Src.H h23 rfl rfl rfl) ?_
    refine TL.alloc (cs := [.slice none 0 0, .slice none 0 0, .int .i64 0, .int .i64 0, .slice none 0 0]) inf_85 (ltb rfl) rfl fun b30 => ?_
    refine TL.v (ltb rfl) (rv_as (v := .int .i64 x14) rfl) ?_
    refine TL.stB (ds := [v24, v26, .int .i64 x18.term.kind, .int .i64 x18.term.arg, v28]) (o := 0) (cs := [.slice none 0 0, .slice none 0 0, .int .i64 0, .int .i64 0, .slice none 0 0]) (b := b30) (u := .agg #[v24, v26, .int .i64 x18.term.kind, .int .i64 x18.term.arg, v28]) 0 rfl ms_85 rfl rfl rfl (oc (h25).one (oc (h27).one (oc rfl (oc rfl (oc (h29).one oc0))))) (leb rfl) ?_
    refine TL.norm (L' := [bx b30 85 [v24, v26, .int .i64 x18.term.kind, .int .i64 x18.term.arg, v28], F12]) rfl ?_
    refine TL.nil ?_
    refine TC.go hK_34 ?_
    refine TC.seq fun K_36 hK_37 => ?_
    refine TC.region ?_
    refine TL.v (ltb rfl) (rv_fa (b := b30) (o := 0) fa_85_2 rfl) ?_
    refine TL.v (ltb rfl) (rv_fa (b := b30) (o := 2) fa_81_2 rfl) ?_
    refine TL.v (ltb rfl) (rv_ld (v := v28) (o := 4) (o' := 0) (j := 4) sc_22 rfl (Src.at_ 0 rfl) (bx_cells b30 85 _) rfl rfl) ?_
    refine TL.v (ltb rfl) (rv_lenI (v := v28) Try.underlying22 rfl h29) ?_
    refine TL.v (ltb rfl) (rv_mv (v := .int .i64 0) rfl) ?_
    refine TL.nil ?_
    refine TC.go hK_37 ?_
    refine TC.block ?_
    obtain ⟨z_47, hz_48, hr_49⟩ := bind_some' hp
    clear hp
    have hJ_57 : ∀ (x35 : List (List Int)) (F36 : FP) (e_52 : Env) (h37 : SlO 22 (kSl 3 (kInt .i64)) x35 v8 F36) (h_53 : e_52 3 = v8) (h_54 : e_52 13 = v4) (h_55 : e_52 14 = .int .i64 (len a1.blocks)) (h_56 : e_52 15 = .int .i64 x14) (hq_58 : x35 = z_47), ∀ w, St E H [F36] w → K_31 e_52 w := by
      intro x35 F36 e_52 h37 h_53 h_54 h_55 h_56 hq_58
      subst hq_58
      replace hp : check_Ahead.nx51 x14 x35 = some x_18 := hr_49
      unfold check_Ahead.nx51 at hp
      refine TC.go hK_32 ?_
      refine TC.region ?_
      refine TL.v (ltb rfl) (rv_add (k := .i64) (m := x14) (n := 1) h_56 rfl) ?_
      refine TL.v (ltb rfl) (rv_mv (v := .int .i64 (w64 (x14 + 1))) rfl) ?_
      refine TL.nil ?_
      exact fun w hw => goOk hp ⟨x35, (w64 (x14 + 1)), F36, rfl, h37, h_53, h_54, h_55, rfl, rfl⟩ (hw.pick [0])
    refine TC.pk' [1] (L' := [F12]) rfl ?_
    refine TC.loopW (r := z_47) (fun (s : (List (List Int) × Int)) (e_38 : Env) (L_119 : List FP) => ∃ (x31 : List (List Int)) (x34 : Int) (F32 : FP), s = (x31, x34) ∧ SlO 22 (kSl 3 (kInt .i64)) x31 v8 F32 ∧ e_38 3 = v8 ∧ e_38 4 = .int .i64 x14 ∧ e_38 13 = v4 ∧ e_38 14 = .int .i64 (len a1.blocks) ∧ e_38 15 = .int .i64 x14 ∧ e_38 22 = v28 ∧ e_38 23 = .int .i64 (len x18.term.to) ∧ e_38 24 = .int .i64 x34 ∧ L_119 = [F32]) ?_ FUEL _ _ _ hz_48 ⟨x11, 0, F12, rfl, h13, h_11, rfl, h_12, h_13, h_14, rfl, rfl, rfl, rfl⟩
    rintro s e_38 L_119 ⟨x31, x34, F32, rfl, h33, h_39, h_40, h_41, h_42, h_43, h_44, h_45, h_46, rfl⟩ x_50 hp hx_51
    replace hp : check_Ahead.bd51 x14 x18 x31 x34 = some x_50 := hp
    unfold check_Ahead.bd51 at hp
    refine TC.seq fun K_59 hK_60 => ?_
    refine TC.region ?_
    refine TL.v (ltb rfl) (rv_lss (k := .i64) (m := x34) (n := (len x18.term.to)) h_46 h_45) ?_
    refine TL.nil ?_
    refine TC.go hK_60 ?_
    refine TC.seq fun K_61 hK_62 => ?_
    by_cases hc_63 : x34 < (len x18.term.to)
    · rw [if_pos hc_63] at hp
      refine TC.condT (bT hc_63) ?_
      refine TC.skip ?_
      refine TC.go hK_62 ?_
      refine TC.seq fun K_64 hK_65 => ?_
      have hJ_75 : ∀ (x38 : List (List Int)) (F39 : FP) (e_66 : Env) (h40 : SlO 22 (kSl 3 (kInt .i64)) x38 v8 F39) (h_67 : e_66 3 = v8) (h_68 : e_66 4 = .int .i64 x14) (h_69 : e_66 13 = v4) (h_70 : e_66 14 = .int .i64 (len a1.blocks)) (h_71 : e_66 15 = .int .i64 x14) (h_72 : e_66 22 = v28) (h_73 : e_66 23 = .int .i64 (len x18.term.to)) (h_74 : e_66 24 = .int .i64 x34) (hp : check_Ahead.jn75 x34 x38 = some x_50), ∀ w, St E H [F39] w → K_64 e_66 w := by
        intro x38 F39 e_66 h40 h_67 h_68 h_69 h_70 h_71 h_72 h_73 h_74 hp
        unfold check_Ahead.jn75 at hp
        refine TC.go hK_65 ?_
        refine TC.region ?_
        refine TL.v (ltb rfl) (rv_add (k := .i64) (m := x34) (n := 1) h_74 rfl) ?_
        refine TL.v (ltb rfl) (rv_mv (v := .int .i64 (w64 (x34 + 1))) rfl) ?_
        refine TL.nil ?_
        exact fun w hw => goOk hp ⟨x38, (w64 (x34 + 1)), F39, rfl, h40, h_67, h_68, h_69, h_70, h_71, h_72, h_73, rfl, rfl⟩ (hw.pick [0])
      refine TC.block ?_
      refine TC.seq fun K_76 hK_77 => ?_
      refine TC.region ?_
      obtain ⟨x41, hx_78, hp⟩ := bind_some' hp
      refine TL.v3 (ltb rfl) (rv_ix 22 (.tmp 22) (.tmp 24) (v := v28) (i := x34) Try.underlying22 inf_3 rfl h_44 h_46 h29 hx_78) fun b42 o43 c44 h45 h46 => ?_
      obtain rfl := h45
      refine TL.v (ltb rfl) (rv_ld (v := .int .i64 x41) (o := o43) (o' := o43) (j := 0) sc_3 rfl Src.H h46 rfl rfl) ?_
      refine TL.v (ltb rfl) (rv_as (v := .int .i64 x41) rfl) ?_
      refine TL.nil ?_
      refine TC.go hK_77 ?_
      refine TC.seq fun K_79 hK_80 => ?_
      refine TC.region ?_
      refine TL.v (ltb rfl) (rv_mv (v := .int .i64 x41) rfl) ?_
      refine TL.v (ltb rfl) (rv_geq (k := .i64) (m := x41) (n := 0) rfl rfl) ?_
      refine TL.v (ltb rfl) (rv_mv (v := .bool (decide (x41 ≥ 0))) rfl) ?_
      refine TL.cut 5 fun K_81 hK_82 => ?_
      have hJ_83 : ∀ e_85 : Env, e_85 3 = v8 → e_85 4 = .int .i64 x14 → e_85 7 = .int .i64 x41 → e_85 13 = v4 → e_85 14 = .int .i64 (len a1.blocks) → e_85 15 = .int .i64 x14 → e_85 22 = v28 → e_85 23 = .int .i64 (len x18.term.to) → e_85 24 = .int .i64 x34 → e_85 35 = .bool (decide (x41 ≥ 0 ∧ x41 < (len x31))) → ∀ w, St E H [F32] w → K_81 e_85 w := by
        intro e_85 h_86 h_87 h_88 h_89 h_90 h_91 h_92 h_93 h_94 h_95
        refine TL.go hK_82 ?_
        refine TL.v (ltb rfl) (rv_mv (v := .bool (decide (x41 ≥ 0 ∧ x41 < (len x31)))) h_95) ?_
        obtain ⟨t47, ht_115, hp⟩ := bind_some' hp
        refine TL.cut 8 fun K_96 hK_97 => ?_
        have hJ_98 : ∀ e_100 : Env, e_100 3 = v8 → e_100 4 = .int .i64 x14 → e_100 7 = .int .i64 x41 → e_100 13 = v4 → e_100 14 = .int .i64 (len a1.blocks) → e_100 15 = .int .i64 x14 → e_100 22 = v28 → e_100 23 = .int .i64 (len x18.term.to) → e_100 24 = .int .i64 x34 → e_100 44 = .bool t47 → ∀ w, St E H [F32] w → K_96 e_100 w := by
          intro e_100 h_101 h_102 h_103 h_104 h_105 h_106 h_107 h_108 h_109 h_110
          refine TL.go hK_97 ?_
          refine TL.nil ?_
          refine TC.go hK_80 ?_
          by_cases hc_111 : t47 = true
          · rw [if_pos hc_111] at hp
            refine TC.condT (h_110.trans (bbT hc_111)) ?_
            refine TC.region ?_
            refine TL.v (ltb rfl) (rv_mv (v := v8) h_101) ?_
            refine TL.v (ltb rfl) (rv_mv (v := .int .i64 x41) h_103) ?_
            refine TL.v (ltb rfl) (rv_mv (v := v8) h_101) ?_
            refine TL.v (ltb rfl) (rv_mv (v := .int .i64 x41) h_103) ?_
            obtain ⟨x48, hx_112, hp⟩ := bind_some' hp
            refine TL.open_ h33 hx_112 fun b49 c50 F51 F52 h53 h54 => ?_
            obtain ⟨v55, rfl, h56⟩ := h54
            have h57 := (idx_some hx_112).1
            refine TL.v (ltb rfl) (rv_ixH Try.underlying28 inf_22 (v := v8) (i := x41) rfl rfl h57 h53) ?_
            refine TL.v (ltb rfl) (rv_ld (v := v55) (o := (x41).toNat * 1) (o' := (x41).toNat * 1) (j := 0) sc_22 rfl (Src.at_ 0 rfl) (Hole.cells h53) rfl rfl) ?_
            refine TL.v (ltb rfl) (rv_mv (v := .int .i64 x14) h_102) ?_
            refine TL.bv (vs := [(0, .int .i64 x14)]) (cs := [.int .i64 x14]) (pc rfl p0) Try.underlying22 inf_3 (ltb rfl) (by decide) (by decide) (by kernel_rfl) fun b58 => ?_
            refine TL.pk' [2, 0, 0] (L' := [F52, bx b58 3 [.int .i64 x14], F51]) rfl ?_
            refine TL.perm (L' := [F52, bx b58 3 [.int .i64 x14], [], F51]) (by simp) ?_
            obtain ⟨x59, hz_113, hp⟩ := bind_some' hp
            refine TL.app Try.underlying22 inf_3 (ltb rfl) rfl (ltb rfl) rfl (leb rfl) rfl rfl h56 (RepL.to (RepL.cons (k := (kInt .i64)) (x := x14) ⟨rfl, rfl⟩ RepL.nil) rfl) rfl rfl hz_113 fun v60 F61 h62 => ?_
            refine TL.v (ltb rfl) (rv_ixH Try.underlying28 inf_22 (v := v8) (i := x41) rfl rfl h57 h53) ?_
            refine TL.pk' [1, 0] (L' := [F51, F61]) rfl ?_
            refine TL.stH (ds := [v60]) (o := 0) (o' := (x41).toNat * 1) (u := v60) h53 ms_22 rfl rfl rfl (SlO.cells h62) (oc (h62).one oc0) (leb rfl) fun F64 h65 => ?_
            refine TL.nil ?_
            refine W.shut (a := x59) h65 ⟨_, rfl, h62⟩ fun F66 h67 => ?_
            refine fun w hw => hJ_75 (x31.set (x41).toNat x59) F66 _ h67 ?_ ?_ ?_ ?_ ?_ ?_ ?_ ?_ hp w (hw.pick [0])
            · exact h_101
            · exact h_102
            · exact h_104
            · exact h_105
            · exact h_106
            · exact h_107
            · exact h_108
            · exact h_109
          · rw [if_neg hc_111] at hp
            refine TC.condF (h_110.trans (bbF hc_111)) ?_
            refine TC.skip ?_
            refine fun w hw => hJ_75 x31 F32 _ h33 ?_ ?_ ?_ ?_ ?_ ?_ ?_ ?_ hp w (hw.pick [0])
            · exact h_101
            · exact h_102
            · exact h_104
            · exact h_105
            · exact h_106
            · exact h_107
            · exact h_108
            · exact h_109
        clear hp
        have hp := ht_115
        clear ht_115
        by_cases hc_99 : x41 ≥ 0 ∧ x41 < (len x31)
        · rw [if_pos hc_99] at hp
          refine TL.gyes true (yieldE_of rfl (bT hc_99)) rfl ?_
          refine TL.v (ltb rfl) (rv_mv (v := v8) h_86) ?_
          refine TL.gyes true (yieldE_of rfl (bT hc_99)) rfl ?_
          refine TL.v (ltb rfl) (rv_mv (v := .int .i64 x41) h_88) ?_
          refine TL.gyes true (yieldE_of rfl (bT hc_99)) rfl ?_
          obtain ⟨x68, hx_116, hp⟩ := bind_some' hp
          refine TL.v3 (ltb rfl) (rv_ix 28 (.tmp 37) (.tmp 38) (v := v8) (i := x41) Try.underlying28 inf_22 rfl rfl rfl (h33).ro hx_116) fun b69 o70 c71 h72 h73 => ?_
          obtain ⟨v74, rfl, h75⟩ := h72
          refine TL.gyes true (yieldE_of rfl (bT hc_99)) rfl ?_
          refine TL.v (ltb rfl) (rv_ld (v := v74) (o := o70) (o' := o70) (j := 0) sc_22 rfl (Src.at_ 0 rfl) h73 rfl rfl) ?_
          refine TL.gyes true (yieldE_of rfl (bT hc_99)) rfl ?_
          refine TL.v (ltb rfl) (rv_mv (v := .int .i64 x14) h_87) ?_
          refine TL.gyes true (yieldE_of rfl (bT hc_99)) rfl ?_
          obtain ⟨x76, hy_117, hp⟩ := bind_some' hp
          refine TL.callC (vs := [v74, .int .i64 x14]) (R := slices_Contains.R x76) [] [F32] rfl cb_60 (ltb rfl) (mc rfl (mc rfl m0)) (fun w hw => slices_Contains_ok (a1 := x68) (a4 := x14) (h75.mono (subB 0 rfl)) hy_117 hw) fun v A' hR_118 => ?_
          obtain ⟨rfl, rfl⟩ := hR_118
          refine TL.norm (L' := [F32]) rfl ?_
          refine TL.gyes true (yieldE_of rfl (bT hc_99)) rfl ?_
          refine TL.v (ltb rfl) (rv_not (b := x76) rfl) ?_
          refine TL.v (ltb rfl) (rv_pickT true (bT hc_99) rfl (v := .bool (!x76)) rfl) ?_
          obtain rfl := Option.some.inj hp
          refine TL.nil (hJ_98 _ ?_ ?_ ?_ ?_ ?_ ?_ ?_ ?_ ?_ ?_)
          · exact h_86
          · exact h_87
          · exact h_88
          · exact h_89
          · exact h_90
          · exact h_91
          · exact h_92
          · exact h_93
          · exact h_94
          · exact rfl
        · rw [if_neg hc_99] at hp
          refine TL.gno false rfl (fun d hd => by cases hd; exact ltb rfl) (yieldE_of rfl (bF hc_99)) rfl ?_
          refine TL.gno false rfl (fun d hd => by cases hd; exact ltb rfl) (yieldE_of rfl (bF hc_99)) rfl ?_
          refine TL.gno false rfl (fun d hd => by cases hd; exact ltb rfl) (yieldE_of rfl (bF hc_99)) rfl ?_
          refine TL.gno false rfl (fun d hd => by cases hd; exact ltb rfl) (yieldE_of rfl (bF hc_99)) rfl ?_
          refine TL.gno false rfl (fun d hd => by cases hd; exact ltb rfl) (yieldE_of rfl (bF hc_99)) rfl ?_
          refine TL.gno false rfl (fun d hd => by cases hd; exact ltb rfl) (yieldE_of rfl (bF hc_99)) rfl ?_
          refine TL.gno false rfl (fun d hd => by cases hd; exact ltb rfl) (yieldE_of rfl (bF hc_99)) rfl ?_
          refine TL.v (ltb rfl) (rv_pickF false (bF hc_99) rfl (v := .bool false) rfl) ?_
          obtain rfl := Option.some.inj hp
          refine TL.nil (hJ_98 _ ?_ ?_ ?_ ?_ ?_ ?_ ?_ ?_ ?_ ?_)
          · exact h_86
          · exact h_87
          · exact h_88
          · exact h_89
          · exact h_90
          · exact h_91
          · exact h_92
          · exact h_93
          · exact h_94
          · exact rfl
      by_cases hc_84 : x41 ≥ 0
      · refine TL.gyes true (yieldE_of rfl (bT hc_84)) rfl ?_
        refine TL.v (ltb rfl) (rv_mv (v := .int .i64 x41) rfl) ?_
        refine TL.gyes true (yieldE_of rfl (bT hc_84)) rfl ?_
        refine TL.v (ltb rfl) (rv_mv (v := v8) h_39) ?_
        refine TL.gyes true (yieldE_of rfl (bT hc_84)) rfl ?_
        refine TL.v (ltb rfl) (rv_lenI (v := v8) Try.underlying28 rfl h33.ro) ?_
        refine TL.gyes true (yieldE_of rfl (bT hc_84)) rfl ?_
        refine TL.v (ltb rfl) (rv_lss (k := .i64) (m := x41) (n := (len x31)) rfl rfl) ?_
        refine TL.v (ltb rfl) (rv_pickT true (bT hc_84) rfl (v := .bool (decide (x41 < (len x31)))) rfl) ?_
        refine TL.nil (hJ_83 _ ?_ ?_ ?_ ?_ ?_ ?_ ?_ ?_ ?_ ?_)
        · exact h_39
        · exact h_40
        · exact rfl
        · exact h_41
        · exact h_42
        · exact h_43
        · exact h_44
        · exact h_45
        · exact h_46
        · exact (bAt hc_84)
      · refine TL.gno false rfl (fun d hd => by cases hd; exact ltb rfl) (yieldE_of rfl (bF hc_84)) rfl ?_
        refine TL.gno false rfl (fun d hd => by cases hd; exact ltb rfl) (yieldE_of rfl (bF hc_84)) rfl ?_
        refine TL.gno false rfl (fun d hd => by cases hd; exact ltb rfl) (yieldE_of rfl (bF hc_84)) rfl ?_
        refine TL.gno false rfl (fun d hd => by cases hd; exact ltb rfl) (yieldE_of rfl (bF hc_84)) rfl ?_
        refine TL.v (ltb rfl) (rv_pickF false (bF hc_84) rfl (v := .bool false) rfl) ?_
        refine TL.nil (hJ_83 _ ?_ ?_ ?_ ?_ ?_ ?_ ?_ ?_ ?_ ?_)
        · exact h_39
        · exact h_40
        · exact rfl
        · exact h_41
        · exact h_42
        · exact h_43
        · exact h_44
        · exact h_45
        · exact h_46
        · exact (bAf hc_84)
    · rw [if_neg hc_63] at hp
      refine TC.condF (bF hc_63) ?_
      refine TC.exit ?_
      refine fun w hw => hJ_57 x31 F32 _ h33 ?_ ?_ ?_ ?_ (ex_ret hp hx_51) w (hw.pick [0])
      · exact h_39
      · exact h_41
      · exact h_42
      · exact h_43
  · rw [if_neg hc_30] at hp
    refine TC.condF (bF hc_30) ?_
    refine TC.exit ?_
    refine fun w hw => hJ_24 x11 F12 _ h13 ?_ (ex_ret hp hx_19) w (hw.pick [0])
    · exact h_11

/-! ### fettle/run.word -/
abbrev run_word.R (r : Bool) (v : Value) (A : List FP) : Prop := .bool r = v ∧ A = []
def run_word (a1 : Int) : Option Bool :=
  some (decide (a1 ≥ 0 ∧ a1 < 64))
theorem run_word_ok {E : World} {H : FP} {w : World} {a1 : Int} {r : Bool}  (hp : run_word a1 = some r) (hst : St E H [] w) :
    Fn Try.prog 98 #[.int .i64 a1] w fun v w' => ∃ A, run_word.R r v A ∧ St E H A w' := by
  refine Fn.body (fn := Try.f98) (args := [.int .i64 a1]) E H [] [.tmp 2] 9 Try.func98 rfl rfl rfl rfl (leb rfl) hst ?_
  unfold run_word at hp
  refine TC.seq fun K_1 hK_2 => ?_
  refine TC.region ?_
  refine TL.v (ltb rfl) (rv_as (v := .bool false) rfl) ?_
  refine TL.nil ?_
  refine TC.go hK_2 ?_
  refine TC.seq fun K_3 hK_4 => ?_
  refine TC.region ?_
  refine TL.v (ltb rfl) (rv_mv (v := .int .i64 a1) rfl) ?_
  refine TL.v (ltb rfl) (rv_geq (k := .i64) (m := a1) (n := 0) rfl rfl) ?_
  refine TL.v (ltb rfl) (rv_mv (v := .bool (decide (a1 ≥ 0))) rfl) ?_
  refine TL.cut 3 fun K_5 hK_6 => ?_
  have hJ_7 : ∀ e_9 : Env, e_9 8 = .bool (decide (a1 ≥ 0 ∧ a1 < 64)) → ∀ w, St E H [] w → K_5 e_9 w := by
    intro e_9 h_10
    refine TL.go hK_6 ?_
    refine TL.v (ltb rfl) (rv_as (v := .bool (decide (a1 ≥ 0 ∧ a1 < 64))) h_10) ?_
    refine TL.nil ?_
    refine TC.go hK_4 ?_
    refine TC.ret ?_
    obtain rfl := Option.some.inj hp
    exact fun w hw => retOk ⟨rfl, rfl⟩ (hw.pick [])
  by_cases hc_8 : a1 ≥ 0
  · refine TL.gyes true (yieldE_of rfl (bT hc_8)) rfl ?_
    refine TL.v (ltb rfl) (rv_mv (v := .int .i64 a1) rfl) ?_
    refine TL.gyes true (yieldE_of rfl (bT hc_8)) rfl ?_
    refine TL.v (ltb rfl) (rv_lss (k := .i64) (m := a1) (n := 64) rfl rfl) ?_
    refine TL.v (ltb rfl) (rv_pickT true (bT hc_8) rfl (v := .bool (decide (a1 < 64))) rfl) ?_
    refine TL.nil (hJ_7 _ ?_)
    · exact (bAt hc_8)
  · refine TL.gno false rfl (fun d hd => by cases hd; exact ltb rfl) (yieldE_of rfl (bF hc_8)) rfl ?_
    refine TL.gno false rfl (fun d hd => by cases hd; exact ltb rfl) (yieldE_of rfl (bF hc_8)) rfl ?_
    refine TL.v (ltb rfl) (rv_pickF false (bF hc_8) rfl (v := .bool false) rfl) ?_
    refine TL.nil (hJ_7 _ ?_)
    · exact (bAf hc_8)
end Go.Proofs.Ytoflleabpkgdpaa
