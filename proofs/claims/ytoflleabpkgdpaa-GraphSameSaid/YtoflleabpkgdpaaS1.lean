/- The walk through the program's functions: each one's pure reading, and that a call does what it says. No conditions. -/
import Derived.Test.YtoflleabpkgdpaaTb
set_option linter.unusedVariables false
set_option linter.unusedSimpArgs false
namespace Go.Proofs.Ytoflleabpkgdpaa
open Go Go.Proofs

/-! ### slices.Index[[]int,int] -/
abbrev slices_Index.R (r : Int) (v : Value) (A : List FP) : Prop := .int .i64 r = v ∧ A = []
def slices_Index.nx16  : Option Int :=
  some (-1)
def slices_Index.bd16 (a1 : List Int) (a4 : Int) (x5 : Int) : Option (Ex (Ex Int Unit) Int) :=
  if x5 < (len a1) then
    (idx a1 x5).bind fun x6 =>
    if a4 = x6 then
      some (.ret (.ret x5))
    else
      some (.go (w64 (x5 + 1)))
  else
    some (.ret (.go ()))
def slices_Index (a1 : List Int) (a4 : Int) : Option Int :=
  (whl (fun (s : Int) => slices_Index.bd16 a1 a4 s) FUEL 0).bind fun z =>
  match z with
    | .ret r => some r
    | .go p => slices_Index.nx16
theorem slices_Index_ok {E : World} {H : FP} {w : World} {a1 : List Int} {a4 : Int} {v2 : Value} {r : Int} (h3 : SlI (kInt .i64) H a1 v2) (hp : slices_Index a1 a4 = some r) (hst : St E H [] w) :
    Fn Try.prog 85 #[v2, .int .i64 a4] w fun v w' => ∃ A, slices_Index.R r v A ∧ St E H A w' := by
  refine Fn.body (fn := Try.f85) (args := [v2, .int .i64 a4]) E H [] [.tmp 4] 19 Try.func85 rfl rfl rfl rfl (leb rfl) hst ?_
  unfold slices_Index at hp
  refine TC.seq fun K_1 hK_2 => ?_
  refine TC.region ?_
  refine TL.v (ltb rfl) (rv_as (v := .int .i64 0) rfl) ?_
  refine TL.nil ?_
  refine TC.go hK_2 ?_
  refine TC.seq fun K_3 hK_4 => ?_
  refine TC.seq fun K_5 hK_6 => ?_
  refine TC.region ?_
  refine TL.v (ltb rfl) (rv_mv (v := v2) rfl) ?_
  refine TL.v (ltb rfl) (rv_lenI (v := v2) Try.underlying22 rfl h3) ?_
  refine TL.v (ltb rfl) (rv_mv (v := .int .i64 0) rfl) ?_
  refine TL.nil ?_
  refine TC.go hK_6 ?_
  refine TC.block ?_
  obtain ⟨z_12, hz_13, hr_14⟩ := bind_some' hp
  clear hp
  have hJ_20 : ∀ (e_17 : Env) (hq_21 : .go () = z_12), ∀ w, St E H [] w → K_3 e_17 w := by
    intro e_17 hq_21
    subst hq_21
    replace hp : slices_Index.nx16 = some r := hr_14
    unfold slices_Index.nx16 at hp
    refine TC.go hK_4 ?_
    refine TC.seq fun K_18 hK_19 => ?_
    refine TC.region ?_
    refine TL.v (ltb rfl) (rv_as (v := .int .i64 (-1)) rfl) ?_
    refine TL.nil ?_
    refine TC.go hK_19 ?_
    refine TC.ret ?_
    obtain rfl := Option.some.inj hp
    exact fun w hw => retOk ⟨rfl, rfl⟩ (hw.pick [])
  refine TC.pk' [] (L' := []) rfl ?_
  refine TC.loopW (r := z_12) (fun (x5 : Int) (e_7 : Env) (L_37 : List FP) => e_7 0 = v2 ∧ e_7 1 = .int .i64 a4 ∧ e_7 7 = .int .i64 (len a1) ∧ e_7 8 = .int .i64 x5 ∧ L_37 = []) ?_ FUEL _ _ _ hz_13 ⟨rfl, rfl, rfl, rfl, rfl⟩
  rintro x5 e_7 L_37 ⟨h_8, h_9, h_10, h_11, rfl⟩ x_15 hp hx_16
  replace hp : slices_Index.bd16 a1 a4 x5 = some x_15 := hp
  unfold slices_Index.bd16 at hp
  refine TC.seq fun K_22 hK_23 => ?_
  refine TC.region ?_
  refine TL.v (ltb rfl) (rv_lss (k := .i64) (m := x5) (n := (len a1)) h_11 h_10) ?_
  refine TL.nil ?_
  refine TC.go hK_23 ?_
  refine TC.seq fun K_24 hK_25 => ?_
  by_cases hc_26 : x5 < (len a1)
  · rw [if_pos hc_26] at hp
    refine TC.condT (bT hc_26) ?_
    refine TC.skip ?_
    refine TC.go hK_25 ?_
    refine TC.seq fun K_27 hK_28 => ?_
    refine TC.block ?_
    refine TC.seq fun K_29 hK_30 => ?_
    refine TC.region ?_
    refine TL.v (ltb rfl) (rv_mv (v := .int .i64 x5) h_11) ?_
    refine TL.v (ltb rfl) (rv_as (v := .int .i64 x5) rfl) ?_
    refine TL.nil ?_
    refine TC.go hK_30 ?_
    refine TC.seq fun K_31 hK_32 => ?_
    refine TC.region ?_
    refine TL.v (ltb rfl) (rv_mv (v := .int .i64 a4) h_9) ?_
    refine TL.v (ltb rfl) (rv_mv (v := v2) h_8) ?_
    refine TL.v (ltb rfl) (rv_mv (v := .int .i64 x5) rfl) ?_
    obtain ⟨x6, hx_33, hp⟩ := bind_some' hp
    refine TL.v3 (ltb rfl) (rv_ix 22 (.tmp 12) (.tmp 13) (v := v2) (i := x5) Try.underlying22 inf_3 rfl rfl rfl h3 hx_33) fun b7 o8 c9 h10 h11 => ?_
    obtain rfl := h10
    refine TL.v (ltb rfl) (rv_ld (v := .int .i64 x6) (o := o8) (o' := o8) (j := 0) sc_3 rfl Src.H h11 rfl rfl) ?_
    refine TL.v (ltb rfl) (rv_eql (k := .i64) (m := a4) (n := x6) rfl rfl) ?_
    refine TL.nil ?_
    refine TC.go hK_32 ?_
    by_cases hc_34 : a4 = x6
    · rw [if_pos hc_34] at hp
      refine TC.condT (bT hc_34) ?_
      refine TC.seq fun K_35 hK_36 => ?_
      refine TC.region ?_
      refine TL.v (ltb rfl) (rv_mv (v := .int .i64 x5) rfl) ?_
      refine TL.v (ltb rfl) (rv_as (v := .int .i64 x5) rfl) ?_
      refine TL.nil ?_
      refine TC.go hK_36 ?_
      refine TC.ret ?_
      obtain rfl := ex_ret hp hx_16
      obtain rfl := Option.some.inj hr_14
      exact fun w hw => retOk ⟨rfl, rfl⟩ (hw.pick [])
    · rw [if_neg hc_34] at hp
      refine TC.condF (bF hc_34) ?_
      refine TC.skip ?_
      refine TC.go hK_28 ?_
      refine TC.region ?_
      refine TL.v (ltb rfl) (rv_add (k := .i64) (m := x5) (n := 1) h_11 rfl) ?_
      refine TL.v (ltb rfl) (rv_mv (v := .int .i64 (w64 (x5 + 1))) rfl) ?_
      refine TL.nil ?_
      exact fun w hw => goOk hp ⟨h_8, h_9, h_10, rfl, rfl⟩ (hw.pick [])
  · rw [if_neg hc_26] at hp
    refine TC.condF (bF hc_26) ?_
    refine TC.exit ?_
    refine fun w hw => hJ_20 _ (ex_ret hp hx_16) w (hw.pick [])

/-! ### slices.Contains[[]int,int] -/
abbrev slices_Contains.R (r : Bool) (v : Value) (A : List FP) : Prop := .bool r = v ∧ A = []
def slices_Contains (a1 : List Int) (a4 : Int) : Option Bool :=
  (slices_Index a1 a4).bind fun x5 =>
  some (decide (x5 ≥ 0))
theorem slices_Contains_ok {E : World} {H : FP} {w : World} {a1 : List Int} {a4 : Int} {v2 : Value} {r : Bool} (h3 : SlI (kInt .i64) H a1 v2) (hp : slices_Contains a1 a4 = some r) (hst : St E H [] w) :
    Fn Try.prog 60 #[v2, .int .i64 a4] w fun v w' => ∃ A, slices_Contains.R r v A ∧ St E H A w' := by
  refine Fn.body (fn := Try.f60) (args := [v2, .int .i64 a4]) E H [] [.tmp 4] 9 Try.func60 rfl rfl rfl rfl (leb rfl) hst ?_
  unfold slices_Contains at hp
  refine TC.seq fun K_1 hK_2 => ?_
  refine TC.region ?_
  refine TL.v (ltb rfl) (rv_as (v := .bool false) rfl) ?_
  refine TL.nil ?_
  refine TC.go hK_2 ?_
  refine TC.seq fun K_3 hK_4 => ?_
  refine TC.region ?_
  refine TL.v (ltb rfl) (rv_mv (v := v2) rfl) ?_
  refine TL.v (ltb rfl) (rv_mv (v := .int .i64 a4) rfl) ?_
  obtain ⟨x5, hy_5, hp⟩ := bind_some' hp
  refine TL.callC (vs := [v2, .int .i64 a4]) (R := slices_Index.R x5) [] [] rfl cb_85 (ltb rfl) (mc rfl (mc rfl m0)) (fun w hw => slices_Index_ok (a1 := a1) (a4 := a4) (h3.mono subH) hy_5 hw) fun v A' hR_6 => ?_
  obtain ⟨rfl, rfl⟩ := hR_6
  refine TL.norm (L' := []) rfl ?_
  refine TL.v (ltb rfl) (rv_geq (k := .i64) (m := x5) (n := 0) rfl rfl) ?_
  refine TL.v (ltb rfl) (rv_as (v := .bool (decide (x5 ≥ 0))) rfl) ?_
  refine TL.nil ?_
  refine TC.go hK_4 ?_
  refine TC.ret ?_
  obtain rfl := Option.some.inj hp
  exact fun w hw => retOk ⟨rfl, rfl⟩ (hw.pick [])

/-! ### fettle/fettleref02.Small -/
abbrev fettleref02_Small.R (r : Bool) (v : Value) (A : List FP) : Prop := .bool r = v ∧ A = []
def fettleref02_Small.nx21  : Option Bool :=
  some true
def fettleref02_Small.nx73 (x5 : Int) : Option (Ex (Ex Bool Unit) Int) :=
  some (.go (w64 (x5 + 1)))
def fettleref02_Small.nx153 (x17 : Int) : Option (Ex (Ex Bool Unit) Int) :=
  some (.go (w64 (x17 + 1)))
def fettleref02_Small.bd153 (x18 : PBlock) (x32 : Int) : Option (Ex (Ex Bool Unit) Int) :=
  if x32 < (len x18.phis) then
    (idx x18.phis x32).bind fun x33 =>
    if (len x33.args) > 300 then
      some (.ret (.ret false))
    else
      some (.go (w64 (x32 + 1)))
  else
    some (.ret (.go ()))
def fettleref02_Small.nx133 (x17 : Int) (x18 : PBlock) : Option (Ex (Ex Bool Unit) Int) :=
  (whl (fun (s : Int) => fettleref02_Small.bd153 x18 s) FUEL 0).bind fun z =>
  match z with
    | .ret r => some (.ret (.ret r))
    | .go p => fettleref02_Small.nx153 x17
def fettleref02_Small.bd133 (x18 : PBlock) (x31 : Int) : Option (Ex (Ex Bool Unit) Int) :=
  if x31 < (len x18.ins) then
    (idx x18.ins x31).bind fun x41 =>
    if (len x41.args) > 300 then
      some (.ret (.ret false))
    else
      some (.go (w64 (x31 + 1)))
  else
    some (.ret (.go ()))
def fettleref02_Small.bd73 (x6 : PFunc) (x17 : Int) : Option (Ex (Ex Bool Unit) Int) :=
  if x17 < (len x6.blocks) then
    (idx x6.blocks x17).bind fun x18 =>
    if ((len x18.ins) > 300 ∨ (len x18.phis) > 300) ∨ (len x18.term.to) > 70 then
      some (.ret (.ret false))
    else
      (whl (fun (s : Int) => fettleref02_Small.bd133 x18 s) FUEL 0).bind fun z =>
      match z with
        | .ret r => some (.ret (.ret r))
        | .go p => fettleref02_Small.nx133 x17 x18
  else
    some (.ret (.go ()))
def fettleref02_Small.bd21 (a1 : PModule) (x5 : Int) : Option (Ex (Ex Bool Unit) Int) :=
  if x5 < (len a1.funcs) then
    (idx a1.funcs x5).bind fun x6 =>
    if ((len x6.blocks) > 70 ∨ (len x6.regs) > 300) ∨ x6.params > 1000 then
      some (.ret (.ret false))
    else
      (whl (fun (s : Int) => fettleref02_Small.bd73 x6 s) FUEL 0).bind fun z =>
      match z with
        | .ret r => some (.ret (.ret r))
        | .go p => fettleref02_Small.nx73 x5
  else
    some (.ret (.go ()))
def fettleref02_Small (a1 : PModule) : Option Bool :=
  if (len a1.funcs) > 40 then
    some false
  else
    (whl (fun (s : Int) => fettleref02_Small.bd21 a1 s) FUEL 0).bind fun z =>
    match z with
      | .ret r => some r
      | .go p => fettleref02_Small.nx21
set_option maxHeartbeats 4000000 in
theorem fettleref02_Small_ok {E : World} {H : FP} {w : World} {a1 : PModule} {v2 : Value} {r : Bool} (h3 : SlI kFunc H a1.funcs v2) (hp : fettleref02_Small a1 = some r) (hst : St E H [] w) :
    Fn Try.prog 48 #[.agg #[v2]] w fun v w' => ∃ A, fettleref02_Small.R r v A ∧ St E H A w' := by
  refine Fn.body (fn := Try.f48) (args := [.agg #[v2]]) E H [] [.tmp 2] 99 Try.func48 rfl rfl rfl rfl (leb rfl) hst ?_
  unfold fettleref02_Small at hp
  refine TC.seq fun K_1 hK_2 => ?_
  refine TC.region ?_
  refine TL.box (cs := [v2]) (v := .agg #[v2]) (ltb rfl) rfl rfl fun b4 => ?_
  refine TL.v (ltb rfl) (rv_as (v := .bool false) rfl) ?_
  refine TL.nil ?_
  refine TC.go hK_2 ?_
  refine TC.seq fun K_3 hK_4 => ?_
  refine TC.seq fun K_5 hK_6 => ?_
  refine TC.region ?_
  refine TL.v (ltb rfl) (rv_fa (b := b4) (o := 0) fa_90_0 rfl) ?_
  refine TL.v (ltb rfl) (rv_ld (v := v2) (o := 0) (o' := 0) (j := 0) sc_88 rfl (Src.at_ 0 rfl) (bx_cells b4 90 _) rfl rfl) ?_
  refine TL.v (ltb rfl) (rv_lenI (v := v2) Try.underlying88 rfl h3) ?_
  refine TL.v (ltb rfl) (rv_gtr (k := .i64) (m := (len a1.funcs)) (n := 40) rfl rfl) ?_
  refine TL.nil ?_
  refine TC.go hK_6 ?_
  by_cases hc_7 : (len a1.funcs) > 40
  · rw [if_pos hc_7] at hp
    refine TC.condT (bT hc_7) ?_
    refine TC.seq fun K_8 hK_9 => ?_
    refine TC.region ?_
    refine TL.v (ltb rfl) (rv_as (v := .bool false) rfl) ?_
    refine TL.nil ?_
    refine TC.go hK_9 ?_
    refine TC.ret ?_
    obtain rfl := Option.some.inj hp
    exact fun w hw => retOk ⟨rfl, rfl⟩ (hw.pick [])
  · rw [if_neg hc_7] at hp
    refine TC.condF (bF hc_7) ?_
    refine TC.skip ?_
    refine TC.go hK_4 ?_
    refine TC.seq fun K_10 hK_11 => ?_
    refine TC.seq fun K_12 hK_13 => ?_
    refine TC.region ?_
    refine TL.v (ltb rfl) (rv_as (v := .int .i64 0) rfl) ?_
    refine TL.nil ?_
    refine TC.go hK_13 ?_
    refine TC.block ?_
    obtain ⟨z_17, hz_18, hr_19⟩ := bind_some' hp
    clear hp
    have hJ_25 : ∀ (e_22 : Env) (hq_26 : .go () = z_17), ∀ w, St E H [] w → K_10 e_22 w := by
      intro e_22 hq_26
      subst hq_26
      replace hp : fettleref02_Small.nx21 = some r := hr_19
      unfold fettleref02_Small.nx21 at hp
      refine TC.go hK_11 ?_
      refine TC.seq fun K_23 hK_24 => ?_
      refine TC.region ?_
      refine TL.v (ltb rfl) (rv_as (v := .bool true) rfl) ?_
      refine TL.nil ?_
      refine TC.go hK_24 ?_
      refine TC.ret ?_
      obtain rfl := Option.some.inj hp
      exact fun w hw => retOk ⟨rfl, rfl⟩ (hw.pick [])
    refine TC.pk' [0] (L' := [bx b4 90 [v2]]) rfl ?_
    refine TC.loopW (r := z_17) (fun (x5 : Int) (e_14 : Env) (L_192 : List FP) => e_14 1 = .pointer (some ⟨b4, 0, none⟩) ∧ e_14 3 = .int .i64 x5 ∧ L_192 = [bx b4 90 [v2]]) ?_ FUEL _ _ _ hz_18 ⟨rfl, rfl, rfl⟩
    rintro x5 e_14 L_192 ⟨h_15, h_16, rfl⟩ x_20 hp hx_21
    replace hp : fettleref02_Small.bd21 a1 x5 = some x_20 := hp
    unfold fettleref02_Small.bd21 at hp
    refine TC.seq fun K_27 hK_28 => ?_
    refine TC.seq fun K_29 hK_30 => ?_
    refine TC.region ?_
    refine TL.v (ltb rfl) (rv_mv (v := .int .i64 x5) h_16) ?_
    refine TL.v (ltb rfl) (rv_fa (b := b4) (o := 0) fa_90_0 h_15) ?_
    refine TL.v (ltb rfl) (rv_ld (v := v2) (o := 0) (o' := 0) (j := 0) sc_88 rfl (Src.at_ 0 rfl) (bx_cells b4 90 _) rfl rfl) ?_
    refine TL.v (ltb rfl) (rv_lenI (v := v2) Try.underlying88 rfl h3) ?_
    refine TL.v (ltb rfl) (rv_lss (k := .i64) (m := x5) (n := (len a1.funcs)) rfl rfl) ?_
    refine TL.nil ?_
    refine TC.go hK_30 ?_
    by_cases hc_31 : x5 < (len a1.funcs)
    · rw [if_pos hc_31] at hp
      refine TC.condT (bT hc_31) ?_
      refine TC.skip ?_
      refine TC.go hK_28 ?_
      refine TC.seq fun K_32 hK_33 => ?_
      refine TC.block ?_
      refine TC.seq fun K_34 hK_35 => ?_
      refine TC.region ?_
      refine TL.v (ltb rfl) (rv_fa (b := b4) (o := 0) fa_90_0 h_15) ?_
      refine TL.v (ltb rfl) (rv_ld (v := v2) (o := 0) (o' := 0) (j := 0) sc_88 rfl (Src.at_ 0 rfl) (bx_cells b4 90 _) rfl rfl) ?_
      refine TL.v (ltb rfl) (rv_mv (v := .int .i64 x5) h_16) ?_
      obtain ⟨x6, hx_36, hp⟩ := bind_some' hp
      refine TL.v3 (ltb rfl) (rv_ix 88 (.tmp 21) (.tmp 22) (v := v2) (i := x5) Try.underlying88 inf_25 rfl rfl rfl h3 hx_36) fun b7 o8 c9 h10 h11 => ?_
      obtain ⟨v12, v14, rfl, h13, h15⟩ := h10
      refine TL.v (ltb rfl) (rv_lda (o := o8) (o' := o8) (j := 0) (ds := [.int .i64 x6.params, .int .i64 x6.result, v12, v14]) ag_25 rfl Src.H h11 rfl rfl rfl) ?_
      refine TL.alloc (cs := [.int .i64 0, .int .i64 0, .slice none 0 0, .slice none 0 0]) inf_25 (ltb rfl) rfl fun b16 => ?_
      refine TL.stB (ds := [.int .i64 x6.params, .int .i64 x6.result, v12, v14]) (o := 0) (cs := [.int .i64 0, .int .i64 0, .slice none 0 0, .slice none 0 0]) (b := b16) (u := .agg #[.int .i64 x6.params, .int .i64 x6.result, v12, v14]) 0 rfl ms_25 rfl rfl rfl (oc rfl (oc rfl (oc (h13).one (oc (h15).one oc0)))) (leb rfl) ?_
      refine TL.norm (L' := [bx b16 25 [.int .i64 x6.params, .int .i64 x6.result, v12, v14], bx b4 90 [v2]]) rfl ?_
      refine TL.nil ?_
      refine TC.go hK_35 ?_
      refine TC.seq fun K_37 hK_38 => ?_
      refine TC.seq fun K_39 hK_40 => ?_
      refine TC.region ?_
      refine TL.v (ltb rfl) (rv_fa (b := b16) (o := 0) fa_25_3 rfl) ?_
      refine TL.v (ltb rfl) (rv_ld (v := v14) (o := 3) (o' := 0) (j := 3) sc_23 rfl (Src.at_ 0 rfl) (bx_cells b16 25 _) rfl rfl) ?_
      refine TL.v (ltb rfl) (rv_lenI (v := v14) Try.underlying23 rfl h15) ?_
      refine TL.v (ltb rfl) (rv_gtr (k := .i64) (m := (len x6.blocks)) (n := 70) rfl rfl) ?_
      refine TL.v (ltb rfl) (rv_mv (v := .bool (decide ((len x6.blocks) > 70))) rfl) ?_
      refine TL.cut 5 fun K_41 hK_42 => ?_
      have hJ_43 : ∀ e_45 : Env, e_45 1 = .pointer (some ⟨b4, 0, none⟩) → e_45 3 = .int .i64 x5 → e_45 4 = .pointer (some ⟨b16, 0, none⟩) → e_45 34 = .bool (decide ((len x6.blocks) > 70 ∨ (len x6.regs) > 300)) → ∀ w, St E H [bx b16 25 [.int .i64 x6.params, .int .i64 x6.result, v12, v14], bx b4 90 [v2]] w → K_41 e_45 w := by
        intro e_45 h_46 h_47 h_48 h_49
        refine TL.go hK_42 ?_
        refine TL.v (ltb rfl) (rv_mv (v := .bool (decide ((len x6.blocks) > 70 ∨ (len x6.regs) > 300))) h_49) ?_
        refine TL.cut 4 fun K_50 hK_51 => ?_
        have hJ_52 : ∀ e_54 : Env, e_54 1 = .pointer (some ⟨b4, 0, none⟩) → e_54 3 = .int .i64 x5 → e_54 4 = .pointer (some ⟨b16, 0, none⟩) → e_54 39 = .bool (decide (((len x6.blocks) > 70 ∨ (len x6.regs) > 300) ∨ x6.params > 1000)) → ∀ w, St E H [bx b16 25 [.int .i64 x6.params, .int .i64 x6.result, v12, v14], bx b4 90 [v2]] w → K_50 e_54 w := by
          intro e_54 h_55 h_56 h_57 h_58
          refine TL.go hK_51 ?_
          refine TL.nil ?_
          refine TC.go hK_40 ?_
          by_cases hc_59 : ((len x6.blocks) > 70 ∨ (len x6.regs) > 300) ∨ x6.params > 1000
          · rw [if_pos hc_59] at hp
            refine TC.condT (h_58.trans (bT hc_59)) ?_
            refine TC.seq fun K_60 hK_61 => ?_
            refine TC.region ?_
            refine TL.v (ltb rfl) (rv_as (v := .bool false) rfl) ?_
            refine TL.nil ?_
            refine TC.go hK_61 ?_
            refine TC.ret ?_
            obtain rfl := ex_ret hp hx_21
            obtain rfl := Option.some.inj hr_19
            exact fun w hw => retOk ⟨rfl, rfl⟩ (hw.pick [])
          · rw [if_neg hc_59] at hp
            refine TC.condF (h_58.trans (bF hc_59)) ?_
            refine TC.skip ?_
            refine TC.go hK_38 ?_
            refine TC.seq fun K_62 hK_63 => ?_
            refine TC.region ?_
            refine TL.v (ltb rfl) (rv_as (v := .int .i64 0) rfl) ?_
            refine TL.nil ?_
            refine TC.go hK_63 ?_
            refine TC.block ?_
            obtain ⟨z_69, hz_70, hr_71⟩ := bind_some' hp
            clear hp
            have hJ_77 : ∀ (e_74 : Env) (h_75 : e_74 1 = .pointer (some ⟨b4, 0, none⟩)) (h_76 : e_74 3 = .int .i64 x5) (hq_78 : .go () = z_69), ∀ w, St E H [bx b4 90 [v2]] w → K_32 e_74 w := by
              intro e_74 h_75 h_76 hq_78
              subst hq_78
              replace hp : fettleref02_Small.nx73 x5 = some x_20 := hr_71
              unfold fettleref02_Small.nx73 at hp
              refine TC.go hK_33 ?_
              refine TC.region ?_
              refine TL.v (ltb rfl) (rv_mv (v := .int .i64 x5) h_76) ?_
              refine TL.v (ltb rfl) (rv_add (k := .i64) (m := x5) (n := 1) rfl rfl) ?_
              refine TL.v (ltb rfl) (rv_as (v := .int .i64 (w64 (x5 + 1))) rfl) ?_
              refine TL.nil ?_
              exact fun w hw => goOk hp ⟨h_75, rfl, rfl⟩ (hw.pick [0])
            refine TC.pk' [1, 0] (L' := [bx b4 90 [v2], bx b16 25 [.int .i64 x6.params, .int .i64 x6.result, v12, v14]]) rfl ?_
            refine TC.loopW (r := z_69) (fun (x17 : Int) (e_64 : Env) (L_191 : List FP) => e_64 1 = .pointer (some ⟨b4, 0, none⟩) ∧ e_64 3 = .int .i64 x5 ∧ e_64 4 = .pointer (some ⟨b16, 0, none⟩) ∧ e_64 5 = .int .i64 x17 ∧ L_191 = [bx b4 90 [v2], bx b16 25 [.int .i64 x6.params, .int .i64 x6.result, v12, v14]]) ?_ FUEL _ _ _ hz_70 ⟨h_55, h_56, h_57, rfl, rfl⟩
            rintro x17 e_64 L_191 ⟨h_65, h_66, h_67, h_68, rfl⟩ x_72 hp hx_73
            replace hp : fettleref02_Small.bd73 x6 x17 = some x_72 := hp
            unfold fettleref02_Small.bd73 at hp
            refine TC.seq fun K_79 hK_80 => ?_
            refine TC.seq fun K_81 hK_82 => ?_
            refine TC.region ?_
            refine TL.v (ltb rfl) (rv_mv (v := .int .i64 x17) h_68) ?_
            refine TL.v (ltb rfl) (rv_fa (b := b16) (o := 0) fa_25_3 h_67) ?_
            refine TL.v (ltb rfl) (rv_ld (v := v14) (o := 3) (o' := 0) (j := 3) sc_23 rfl (Src.at_ 1 rfl) (bx_cells b16 25 _) rfl rfl) ?_
            refine TL.v (ltb rfl) (rv_lenI (v := v14) Try.underlying23 rfl h15) ?_
            refine TL.v (ltb rfl) (rv_lss (k := .i64) (m := x17) (n := (len x6.blocks)) rfl rfl) ?_
            refine TL.nil ?_
            refine TC.go hK_82 ?_
            by_cases hc_83 : x17 < (len x6.blocks)
            · rw [if_pos hc_83] at hp
              refine TC.condT (bT hc_83) ?_
              refine TC.skip ?_
              refine TC.go hK_80 ?_
              refine TC.seq fun K_84 hK_85 => ?_
              refine TC.block ?_
              refine TC.seq fun K_86 hK_87 => ?_
              refine TC.region ?_
              refine TL.v (ltb rfl) (rv_fa (b := b16) (o := 0) fa_25_3 h_67) ?_
              refine TL.v (ltb rfl) (rv_ld (v := v14) (o := 3) (o' := 0) (j := 3) sc_23 rfl (Src.at_ 1 rfl) (bx_cells b16 25 _) rfl rfl) ?_
              refine TL.v (ltb rfl) (rv_mv (v := .int .i64 x17) h_68) ?_
              obtain ⟨x18, hx_88, hp⟩ := bind_some' hp
              refine TL.v3 (ltb rfl) (rv_ix 23 (.tmp 48) (.tmp 49) (v := v14) (i := x17) Try.underlying23 inf_85 rfl rfl rfl h15 hx_88) fun b19 o20 c21 h22 h23 => ?_
              obtain ⟨v24, v26, v28, rfl, h25, h27, h29⟩ := h22
              refine TL.v (ltb rfl) (rv_lda (o := o20) (o' := o20) (j := 0) (ds := [v24, v26, .int .i64 x18.term.kind, .int .i64 x18.term.arg, v28]) ag_85 rfl Src.H h23 rfl rfl rfl) ?_
              refine TL.alloc (cs := [.slice none 0 0, .slice none 0 0, .int .i64 0, .int .i64 0, .slice none 0 0]) inf_85 (ltb rfl) rfl fun b30 => ?_
              refine TL.stB (ds := [v24, v26, .int .i64 x18.term.kind, .int .i64 x18.term.arg, v28]) (o := 0) (cs := [.slice none 0 0, .slice none 0 0, .int .i64 0, .int .i64 0, .slice none 0 0]) (b := b30) (u := .agg #[v24, v26, .int .i64 x18.term.kind, .int .i64 x18.term.arg, v28]) 0 rfl ms_85 rfl rfl rfl (oc (h25).one (oc (h27).one (oc rfl (oc rfl (oc (h29).one oc0))))) (leb rfl) ?_
              refine TL.norm (L' := [bx b30 85 [v24, v26, .int .i64 x18.term.kind, .int .i64 x18.term.arg, v28], bx b4 90 [v2], bx b16 25 [.int .i64 x6.params, .int .i64 x6.result, v12, v14]]) rfl ?_
              refine TL.nil ?_
              refine TC.go hK_87 ?_
              refine TC.seq fun K_89 hK_90 => ?_
              refine TC.seq fun K_91 hK_92 => ?_
              refine TC.region ?_
              refine TL.v (ltb rfl) (rv_fa (b := b30) (o := 0) fa_85_1 rfl) ?_
              refine TL.v (ltb rfl) (rv_ld (v := v26) (o := 1) (o' := 0) (j := 1) sc_83 rfl (Src.at_ 0 rfl) (bx_cells b30 85 _) rfl rfl) ?_
              refine TL.v (ltb rfl) (rv_lenI (v := v26) Try.underlying83 rfl h27) ?_
              refine TL.v (ltb rfl) (rv_gtr (k := .i64) (m := (len x18.ins)) (n := 300) rfl rfl) ?_
              refine TL.v (ltb rfl) (rv_mv (v := .bool (decide ((len x18.ins) > 300))) rfl) ?_
              refine TL.cut 5 fun K_93 hK_94 => ?_
              have hJ_95 : ∀ e_97 : Env, e_97 1 = .pointer (some ⟨b4, 0, none⟩) → e_97 3 = .int .i64 x5 → e_97 4 = .pointer (some ⟨b16, 0, none⟩) → e_97 5 = .int .i64 x17 → e_97 6 = .pointer (some ⟨b30, 0, none⟩) → e_97 61 = .bool (decide ((len x18.ins) > 300 ∨ (len x18.phis) > 300)) → ∀ w, St E H [bx b30 85 [v24, v26, .int .i64 x18.term.kind, .int .i64 x18.term.arg, v28], bx b4 90 [v2], bx b16 25 [.int .i64 x6.params, .int .i64 x6.result, v12, v14]] w → K_93 e_97 w := by
                intro e_97 h_98 h_99 h_100 h_101 h_102 h_103
                refine TL.go hK_94 ?_
                refine TL.v (ltb rfl) (rv_mv (v := .bool (decide ((len x18.ins) > 300 ∨ (len x18.phis) > 300))) h_103) ?_
                refine TL.cut 6 fun K_104 hK_105 => ?_
                have hJ_106 : ∀ e_108 : Env, e_108 1 = .pointer (some ⟨b4, 0, none⟩) → e_108 3 = .int .i64 x5 → e_108 4 = .pointer (some ⟨b16, 0, none⟩) → e_108 5 = .int .i64 x17 → e_108 6 = .pointer (some ⟨b30, 0, none⟩) → e_108 68 = .bool (decide (((len x18.ins) > 300 ∨ (len x18.phis) > 300) ∨ (len x18.term.to) > 70)) → ∀ w, St E H [bx b30 85 [v24, v26, .int .i64 x18.term.kind, .int .i64 x18.term.arg, v28], bx b4 90 [v2], bx b16 25 [.int .i64 x6.params, .int .i64 x6.result, v12, v14]] w → K_104 e_108 w := by
                  intro e_108 h_109 h_110 h_111 h_112 h_113 h_114
                  refine TL.go hK_105 ?_
                  refine TL.nil ?_
                  refine TC.go hK_92 ?_
                  by_cases hc_115 : ((len x18.ins) > 300 ∨ (len x18.phis) > 300) ∨ (len x18.term.to) > 70
                  · rw [if_pos hc_115] at hp
                    refine TC.condT (h_114.trans (bT hc_115)) ?_
                    refine TC.seq fun K_116 hK_117 => ?_
                    refine TC.region ?_
                    refine TL.v (ltb rfl) (rv_as (v := .bool false) rfl) ?_
                    refine TL.nil ?_
                    refine TC.go hK_117 ?_
                    refine TC.ret ?_
                    obtain rfl := ex_ret hp hx_73
                    obtain rfl := ex_ret hr_71 hx_21
                    obtain rfl := Option.some.inj hr_19
                    exact fun w hw => retOk ⟨rfl, rfl⟩ (hw.pick [])
                  · rw [if_neg hc_115] at hp
                    refine TC.condF (h_114.trans (bF hc_115)) ?_
                    refine TC.skip ?_
                    refine TC.go hK_90 ?_
                    refine TC.seq fun K_118 hK_119 => ?_
                    refine TC.seq fun K_120 hK_121 => ?_
                    refine TC.region ?_
                    refine TL.v (ltb rfl) (rv_as (v := .int .i64 0) rfl) ?_
                    refine TL.nil ?_
                    refine TC.go hK_121 ?_
                    refine TC.block ?_
                    obtain ⟨z_129, hz_130, hr_131⟩ := bind_some' hp
                    clear hp
                    have hJ_175 : ∀ (e_134 : Env) (h_135 : e_134 1 = .pointer (some ⟨b4, 0, none⟩)) (h_136 : e_134 3 = .int .i64 x5) (h_137 : e_134 4 = .pointer (some ⟨b16, 0, none⟩)) (h_138 : e_134 5 = .int .i64 x17) (h_139 : e_134 6 = .pointer (some ⟨b30, 0, none⟩)) (hq_176 : .go () = z_129), ∀ w, St E H [bx b4 90 [v2], bx b16 25 [.int .i64 x6.params, .int .i64 x6.result, v12, v14], bx b30 85 [v24, v26, .int .i64 x18.term.kind, .int .i64 x18.term.arg, v28]] w → K_118 e_134 w := by
                      intro e_134 h_135 h_136 h_137 h_138 h_139 hq_176
                      subst hq_176
                      replace hp : fettleref02_Small.nx133 x17 x18 = some x_72 := hr_131
                      unfold fettleref02_Small.nx133 at hp
                      refine TC.go hK_119 ?_
                      refine TC.seq fun K_140 hK_141 => ?_
                      refine TC.region ?_
                      refine TL.v (ltb rfl) (rv_as (v := .int .i64 0) rfl) ?_
                      refine TL.nil ?_
                      refine TC.go hK_141 ?_
                      refine TC.block ?_
                      obtain ⟨z_149, hz_150, hr_151⟩ := bind_some' hp
                      clear hp
                      have hJ_159 : ∀ (e_154 : Env) (h_155 : e_154 1 = .pointer (some ⟨b4, 0, none⟩)) (h_156 : e_154 3 = .int .i64 x5) (h_157 : e_154 4 = .pointer (some ⟨b16, 0, none⟩)) (h_158 : e_154 5 = .int .i64 x17) (hq_160 : .go () = z_149), ∀ w, St E H [bx b4 90 [v2], bx b16 25 [.int .i64 x6.params, .int .i64 x6.result, v12, v14]] w → K_84 e_154 w := by
                        intro e_154 h_155 h_156 h_157 h_158 hq_160
                        subst hq_160
                        replace hp : fettleref02_Small.nx153 x17 = some x_72 := hr_151
                        unfold fettleref02_Small.nx153 at hp
                        refine TC.go hK_85 ?_
                        refine TC.region ?_
                        refine TL.v (ltb rfl) (rv_mv (v := .int .i64 x17) h_158) ?_
                        refine TL.v (ltb rfl) (rv_add (k := .i64) (m := x17) (n := 1) rfl rfl) ?_
                        refine TL.v (ltb rfl) (rv_as (v := .int .i64 (w64 (x17 + 1))) rfl) ?_
                        refine TL.nil ?_
                        exact fun w hw => goOk hp ⟨h_155, h_156, h_157, rfl, rfl⟩ (hw.pick [0, 0])
                      refine TC.pk' [0, 0, 0] (L' := [bx b4 90 [v2], bx b16 25 [.int .i64 x6.params, .int .i64 x6.result, v12, v14], bx b30 85 [v24, v26, .int .i64 x18.term.kind, .int .i64 x18.term.arg, v28]]) rfl ?_
                      refine TC.loopW (r := z_149) (fun (x32 : Int) (e_142 : Env) (L_174 : List FP) => e_142 1 = .pointer (some ⟨b4, 0, none⟩) ∧ e_142 3 = .int .i64 x5 ∧ e_142 4 = .pointer (some ⟨b16, 0, none⟩) ∧ e_142 5 = .int .i64 x17 ∧ e_142 6 = .pointer (some ⟨b30, 0, none⟩) ∧ e_142 8 = .int .i64 x32 ∧ L_174 = [bx b4 90 [v2], bx b16 25 [.int .i64 x6.params, .int .i64 x6.result, v12, v14], bx b30 85 [v24, v26, .int .i64 x18.term.kind, .int .i64 x18.term.arg, v28]]) ?_ FUEL _ _ _ hz_150 ⟨h_135, h_136, h_137, h_138, h_139, rfl, rfl⟩
                      rintro x32 e_142 L_174 ⟨h_143, h_144, h_145, h_146, h_147, h_148, rfl⟩ x_152 hp hx_153
                      replace hp : fettleref02_Small.bd153 x18 x32 = some x_152 := hp
                      unfold fettleref02_Small.bd153 at hp
                      refine TC.seq fun K_161 hK_162 => ?_
                      refine TC.seq fun K_163 hK_164 => ?_
                      refine TC.region ?_
                      refine TL.v (ltb rfl) (rv_mv (v := .int .i64 x32) h_148) ?_
                      refine TL.v (ltb rfl) (rv_fa (b := b30) (o := 0) fa_85_0 h_147) ?_
                      refine TL.v (ltb rfl) (rv_ld (v := v24) (o := 0) (o' := 0) (j := 0) sc_82 rfl (Src.at_ 2 rfl) (bx_cells b30 85 _) rfl rfl) ?_
                      refine TL.v (ltb rfl) (rv_lenI (v := v24) Try.underlying82 rfl h25) ?_
                      refine TL.v (ltb rfl) (rv_lss (k := .i64) (m := x32) (n := (len x18.phis)) rfl rfl) ?_
                      refine TL.nil ?_
                      refine TC.go hK_164 ?_
                      by_cases hc_165 : x32 < (len x18.phis)
                      · rw [if_pos hc_165] at hp
                        refine TC.condT (bT hc_165) ?_
                        refine TC.skip ?_
                        refine TC.go hK_162 ?_
                        refine TC.seq fun K_166 hK_167 => ?_
                        refine TC.block ?_
                        refine TC.seq fun K_168 hK_169 => ?_
                        refine TC.region ?_
                        refine TL.v (ltb rfl) (rv_fa (b := b30) (o := 0) fa_85_0 h_147) ?_
                        refine TL.v (ltb rfl) (rv_ld (v := v24) (o := 0) (o' := 0) (j := 0) sc_82 rfl (Src.at_ 2 rfl) (bx_cells b30 85 _) rfl rfl) ?_
                        refine TL.v (ltb rfl) (rv_mv (v := .int .i64 x32) h_148) ?_
                        obtain ⟨x33, hx_170, hp⟩ := bind_some' hp
                        refine TL.v3 (ltb rfl) (rv_ix 82 (.tmp 92) (.tmp 93) (v := v24) (i := x32) Try.underlying82 inf_131 rfl rfl rfl h25 hx_170) fun b34 o35 c36 h37 h38 => ?_
                        obtain ⟨v39, rfl, h40⟩ := h37
                        refine TL.v (ltb rfl) (rv_fa (b := b34) (o := o35) fa_131_1 rfl) ?_
                        refine TL.v (ltb rfl) (rv_ld (v := v39) (o := o35 + 1) (o' := o35) (j := 1) sc_22 rfl Src.H h38 rfl rfl) ?_
                        refine TL.v (ltb rfl) (rv_lenI (v := v39) Try.underlying22 rfl h40) ?_
                        refine TL.v (ltb rfl) (rv_gtr (k := .i64) (m := (len x33.args)) (n := 300) rfl rfl) ?_
                        refine TL.nil ?_
                        refine TC.go hK_169 ?_
                        by_cases hc_171 : (len x33.args) > 300
                        · rw [if_pos hc_171] at hp
                          refine TC.condT (bT hc_171) ?_
                          refine TC.seq fun K_172 hK_173 => ?_
                          refine TC.region ?_
                          refine TL.v (ltb rfl) (rv_as (v := .bool false) rfl) ?_
                          refine TL.nil ?_
                          refine TC.go hK_173 ?_
                          refine TC.ret ?_
                          obtain rfl := ex_ret hp hx_153
                          obtain rfl := ex_ret hr_151 hx_73
                          obtain rfl := ex_ret hr_71 hx_21
                          obtain rfl := Option.some.inj hr_19
                          exact fun w hw => retOk ⟨rfl, rfl⟩ (hw.pick [])
                        · rw [if_neg hc_171] at hp
                          refine TC.condF (bF hc_171) ?_
                          refine TC.skip ?_
                          refine TC.go hK_167 ?_
                          refine TC.region ?_
                          refine TL.v (ltb rfl) (rv_mv (v := .int .i64 x32) h_148) ?_
                          refine TL.v (ltb rfl) (rv_add (k := .i64) (m := x32) (n := 1) rfl rfl) ?_
                          refine TL.v (ltb rfl) (rv_as (v := .int .i64 (w64 (x32 + 1))) rfl) ?_
                          refine TL.nil ?_
                          exact fun w hw => goOk hp ⟨h_143, h_144, h_145, h_146, h_147, rfl, rfl⟩ (hw.pick [0, 0, 0])
                      · rw [if_neg hc_165] at hp
                        refine TC.condF (bF hc_165) ?_
                        refine TC.exit ?_
                        refine fun w hw => hJ_159 _ ?_ ?_ ?_ ?_ (ex_ret hp hx_153) w (hw.pick [0, 0])
                        · exact h_143
                        · exact h_144
                        · exact h_145
                        · exact h_146
                    refine TC.pk' [1, 1, 0] (L' := [bx b4 90 [v2], bx b16 25 [.int .i64 x6.params, .int .i64 x6.result, v12, v14], bx b30 85 [v24, v26, .int .i64 x18.term.kind, .int .i64 x18.term.arg, v28]]) rfl ?_
                    refine TC.loopW (r := z_129) (fun (x31 : Int) (e_122 : Env) (L_190 : List FP) => e_122 1 = .pointer (some ⟨b4, 0, none⟩) ∧ e_122 3 = .int .i64 x5 ∧ e_122 4 = .pointer (some ⟨b16, 0, none⟩) ∧ e_122 5 = .int .i64 x17 ∧ e_122 6 = .pointer (some ⟨b30, 0, none⟩) ∧ e_122 7 = .int .i64 x31 ∧ L_190 = [bx b4 90 [v2], bx b16 25 [.int .i64 x6.params, .int .i64 x6.result, v12, v14], bx b30 85 [v24, v26, .int .i64 x18.term.kind, .int .i64 x18.term.arg, v28]]) ?_ FUEL _ _ _ hz_130 ⟨h_109, h_110, h_111, h_112, h_113, rfl, rfl⟩
                    rintro x31 e_122 L_190 ⟨h_123, h_124, h_125, h_126, h_127, h_128, rfl⟩ x_132 hp hx_133
                    replace hp : fettleref02_Small.bd133 x18 x31 = some x_132 := hp
                    unfold fettleref02_Small.bd133 at hp
                    refine TC.seq fun K_177 hK_178 => ?_
                    refine TC.seq fun K_179 hK_180 => ?_
                    refine TC.region ?_
                    refine TL.v (ltb rfl) (rv_mv (v := .int .i64 x31) h_128) ?_
                    refine TL.v (ltb rfl) (rv_fa (b := b30) (o := 0) fa_85_1 h_127) ?_
                    refine TL.v (ltb rfl) (rv_ld (v := v26) (o := 1) (o' := 0) (j := 1) sc_83 rfl (Src.at_ 2 rfl) (bx_cells b30 85 _) rfl rfl) ?_
                    refine TL.v (ltb rfl) (rv_lenI (v := v26) Try.underlying83 rfl h27) ?_
                    refine TL.v (ltb rfl) (rv_lss (k := .i64) (m := x31) (n := (len x18.ins)) rfl rfl) ?_
                    refine TL.nil ?_
                    refine TC.go hK_180 ?_
                    by_cases hc_181 : x31 < (len x18.ins)
                    · rw [if_pos hc_181] at hp
                      refine TC.condT (bT hc_181) ?_
                      refine TC.skip ?_
                      refine TC.go hK_178 ?_
                      refine TC.seq fun K_182 hK_183 => ?_
                      refine TC.block ?_
                      refine TC.seq fun K_184 hK_185 => ?_
                      refine TC.region ?_
                      refine TL.v (ltb rfl) (rv_fa (b := b30) (o := 0) fa_85_1 h_127) ?_
                      refine TL.v (ltb rfl) (rv_ld (v := v26) (o := 1) (o' := 0) (j := 1) sc_83 rfl (Src.at_ 2 rfl) (bx_cells b30 85 _) rfl rfl) ?_
                      refine TL.v (ltb rfl) (rv_mv (v := .int .i64 x31) h_128) ?_
                      obtain ⟨x41, hx_186, hp⟩ := bind_some' hp
                      refine TL.v3 (ltb rfl) (rv_ix 83 (.tmp 77) (.tmp 78) (v := v26) (i := x31) Try.underlying83 inf_87 rfl rfl rfl h27 hx_186) fun b42 o43 c44 h45 h46 => ?_
                      obtain ⟨v47, rfl, h48⟩ := h45
                      refine TL.v (ltb rfl) (rv_fa (b := b42) (o := o43) fa_87_2 rfl) ?_
                      refine TL.v (ltb rfl) (rv_ld (v := v47) (o := o43 + 2) (o' := o43) (j := 2) sc_22 rfl Src.H h46 rfl rfl) ?_
                      refine TL.v (ltb rfl) (rv_lenI (v := v47) Try.underlying22 rfl h48) ?_
                      refine TL.v (ltb rfl) (rv_gtr (k := .i64) (m := (len x41.args)) (n := 300) rfl rfl) ?_
                      refine TL.nil ?_
                      refine TC.go hK_185 ?_
                      by_cases hc_187 : (len x41.args) > 300
                      · rw [if_pos hc_187] at hp
                        refine TC.condT (bT hc_187) ?_
                        refine TC.seq fun K_188 hK_189 => ?_
                        refine TC.region ?_
                        refine TL.v (ltb rfl) (rv_as (v := .bool false) rfl) ?_
                        refine TL.nil ?_
                        refine TC.go hK_189 ?_
                        refine TC.ret ?_
                        obtain rfl := ex_ret hp hx_133
                        obtain rfl := ex_ret hr_131 hx_73
                        obtain rfl := ex_ret hr_71 hx_21
                        obtain rfl := Option.some.inj hr_19
                        exact fun w hw => retOk ⟨rfl, rfl⟩ (hw.pick [])
                      · rw [if_neg hc_187] at hp
                        refine TC.condF (bF hc_187) ?_
                        refine TC.skip ?_
                        refine TC.go hK_183 ?_
                        refine TC.region ?_
                        refine TL.v (ltb rfl) (rv_mv (v := .int .i64 x31) h_128) ?_
                        refine TL.v (ltb rfl) (rv_add (k := .i64) (m := x31) (n := 1) rfl rfl) ?_
                        refine TL.v (ltb rfl) (rv_as (v := .int .i64 (w64 (x31 + 1))) rfl) ?_
                        refine TL.nil ?_
                        exact fun w hw => goOk hp ⟨h_123, h_124, h_125, h_126, h_127, rfl, rfl⟩ (hw.pick [0, 0, 0])
                    · rw [if_neg hc_181] at hp
                      refine TC.condF (bF hc_181) ?_
                      refine TC.exit ?_
                      refine fun w hw => hJ_175 _ ?_ ?_ ?_ ?_ ?_ (ex_ret hp hx_133) w (hw.pick [0, 0, 0])
                      · exact h_123
                      · exact h_124
                      · exact h_125
                      · exact h_126
                      · exact h_127
                by_cases hc_107 : (len x18.ins) > 300 ∨ (len x18.phis) > 300
                · refine TL.gno true rfl (fun d hd => by cases hd; exact ltb rfl) (yieldE_of rfl (bT hc_107)) rfl ?_
                  refine TL.gno true rfl (fun d hd => by cases hd; exact ltb rfl) (yieldE_of rfl (bT hc_107)) rfl ?_
                  refine TL.gno true rfl (fun d hd => by cases hd; exact ltb rfl) (yieldE_of rfl (bT hc_107)) rfl ?_
                  refine TL.gno true rfl (fun d hd => by cases hd; exact ltb rfl) (yieldE_of rfl (bT hc_107)) rfl ?_
                  refine TL.gno true rfl (fun d hd => by cases hd; exact ltb rfl) (yieldE_of rfl (bT hc_107)) rfl ?_
                  refine TL.v (ltb rfl) (rv_pickT true (bT hc_107) rfl (v := .bool true) rfl) ?_
                  refine TL.nil (hJ_106 _ ?_ ?_ ?_ ?_ ?_ ?_)
                  · exact h_98
                  · exact h_99
                  · exact h_100
                  · exact h_101
                  · exact h_102
                  · exact (bOt hc_107)
                · refine TL.gyes false (yieldE_of rfl (bF hc_107)) rfl ?_
                  refine TL.v (ltb rfl) (rv_fa (b := b30) (o := 0) fa_85_2 h_102) ?_
                  refine TL.gyes false (yieldE_of rfl (bF hc_107)) rfl ?_
                  refine TL.v (ltb rfl) (rv_fa (b := b30) (o := 2) fa_81_2 rfl) ?_
                  refine TL.gyes false (yieldE_of rfl (bF hc_107)) rfl ?_
                  refine TL.v (ltb rfl) (rv_ld (v := v28) (o := 4) (o' := 0) (j := 4) sc_22 rfl (Src.at_ 0 rfl) (bx_cells b30 85 _) rfl rfl) ?_
                  refine TL.gyes false (yieldE_of rfl (bF hc_107)) rfl ?_
                  refine TL.v (ltb rfl) (rv_lenI (v := v28) Try.underlying22 rfl h29) ?_
                  refine TL.gyes false (yieldE_of rfl (bF hc_107)) rfl ?_
                  refine TL.v (ltb rfl) (rv_gtr (k := .i64) (m := (len x18.term.to)) (n := 70) rfl rfl) ?_
                  refine TL.v (ltb rfl) (rv_pickF false (bF hc_107) rfl (v := .bool (decide ((len x18.term.to) > 70))) rfl) ?_
                  refine TL.nil (hJ_106 _ ?_ ?_ ?_ ?_ ?_ ?_)
                  · exact h_98
                  · exact h_99
                  · exact h_100
                  · exact h_101
                  · exact h_102
                  · exact (bOf hc_107)
              by_cases hc_96 : (len x18.ins) > 300
              · refine TL.gno true rfl (fun d hd => by cases hd; exact ltb rfl) (yieldE_of rfl (bT hc_96)) rfl ?_
                refine TL.gno true rfl (fun d hd => by cases hd; exact ltb rfl) (yieldE_of rfl (bT hc_96)) rfl ?_
                refine TL.gno true rfl (fun d hd => by cases hd; exact ltb rfl) (yieldE_of rfl (bT hc_96)) rfl ?_
                refine TL.gno true rfl (fun d hd => by cases hd; exact ltb rfl) (yieldE_of rfl (bT hc_96)) rfl ?_
                refine TL.v (ltb rfl) (rv_pickT true (bT hc_96) rfl (v := .bool true) rfl) ?_
                refine TL.nil (hJ_95 _ ?_ ?_ ?_ ?_ ?_ ?_)
                · exact h_65
                · exact h_66
                · exact h_67
                · exact h_68
                · exact rfl
                · exact (bOt hc_96)
              · refine TL.gyes false (yieldE_of rfl (bF hc_96)) rfl ?_
                refine TL.v (ltb rfl) (rv_fa (b := b30) (o := 0) fa_85_0 rfl) ?_
                refine TL.gyes false (yieldE_of rfl (bF hc_96)) rfl ?_
                refine TL.v (ltb rfl) (rv_ld (v := v24) (o := 0) (o' := 0) (j := 0) sc_82 rfl (Src.at_ 0 rfl) (bx_cells b30 85 _) rfl rfl) ?_
                refine TL.gyes false (yieldE_of rfl (bF hc_96)) rfl ?_
                refine TL.v (ltb rfl) (rv_lenI (v := v24) Try.underlying82 rfl h25) ?_
                refine TL.gyes false (yieldE_of rfl (bF hc_96)) rfl ?_
                refine TL.v (ltb rfl) (rv_gtr (k := .i64) (m := (len x18.phis)) (n := 300) rfl rfl) ?_
                refine TL.v (ltb rfl) (rv_pickF false (bF hc_96) rfl (v := .bool (decide ((len x18.phis) > 300))) rfl) ?_
                refine TL.nil (hJ_95 _ ?_ ?_ ?_ ?_ ?_ ?_)
                · exact h_65
                · exact h_66
                · exact h_67
                · exact h_68
                · exact rfl
                · exact (bOf hc_96)
            · rw [if_neg hc_83] at hp
              refine TC.condF (bF hc_83) ?_
              refine TC.exit ?_
              refine fun w hw => hJ_77 _ ?_ ?_ (ex_ret hp hx_73) w (hw.pick [0])
              · exact h_65
              · exact h_66
        by_cases hc_53 : (len x6.blocks) > 70 ∨ (len x6.regs) > 300
        · refine TL.gno true rfl (fun d hd => by cases hd; exact ltb rfl) (yieldE_of rfl (bT hc_53)) rfl ?_
          refine TL.gno true rfl (fun d hd => by cases hd; exact ltb rfl) (yieldE_of rfl (bT hc_53)) rfl ?_
          refine TL.gno true rfl (fun d hd => by cases hd; exact ltb rfl) (yieldE_of rfl (bT hc_53)) rfl ?_
          refine TL.v (ltb rfl) (rv_pickT true (bT hc_53) rfl (v := .bool true) rfl) ?_
          refine TL.nil (hJ_52 _ ?_ ?_ ?_ ?_)
          · exact h_46
          · exact h_47
          · exact h_48
          · exact (bOt hc_53)
        · refine TL.gyes false (yieldE_of rfl (bF hc_53)) rfl ?_
          refine TL.v (ltb rfl) (rv_fa (b := b16) (o := 0) fa_25_0 h_48) ?_
          refine TL.gyes false (yieldE_of rfl (bF hc_53)) rfl ?_
          refine TL.v (ltb rfl) (rv_ld (v := .int .i64 x6.params) (o := 0) (o' := 0) (j := 0) sc_3 rfl (Src.at_ 0 rfl) (bx_cells b16 25 _) rfl rfl) ?_
          refine TL.gyes false (yieldE_of rfl (bF hc_53)) rfl ?_
          refine TL.v (ltb rfl) (rv_gtr (k := .i64) (m := x6.params) (n := 1000) rfl rfl) ?_
          refine TL.v (ltb rfl) (rv_pickF false (bF hc_53) rfl (v := .bool (decide (x6.params > 1000))) rfl) ?_
          refine TL.nil (hJ_52 _ ?_ ?_ ?_ ?_)
          · exact h_46
          · exact h_47
          · exact h_48
          · exact (bOf hc_53)
      by_cases hc_44 : (len x6.blocks) > 70
      · refine TL.gno true rfl (fun d hd => by cases hd; exact ltb rfl) (yieldE_of rfl (bT hc_44)) rfl ?_
        refine TL.gno true rfl (fun d hd => by cases hd; exact ltb rfl) (yieldE_of rfl (bT hc_44)) rfl ?_
        refine TL.gno true rfl (fun d hd => by cases hd; exact ltb rfl) (yieldE_of rfl (bT hc_44)) rfl ?_
        refine TL.gno true rfl (fun d hd => by cases hd; exact ltb rfl) (yieldE_of rfl (bT hc_44)) rfl ?_
        refine TL.v (ltb rfl) (rv_pickT true (bT hc_44) rfl (v := .bool true) rfl) ?_
        refine TL.nil (hJ_43 _ ?_ ?_ ?_ ?_)
        · exact h_15
        · exact h_16
        · exact rfl
        · exact (bOt hc_44)
      · refine TL.gyes false (yieldE_of rfl (bF hc_44)) rfl ?_
        refine TL.v (ltb rfl) (rv_fa (b := b16) (o := 0) fa_25_2 rfl) ?_
        refine TL.gyes false (yieldE_of rfl (bF hc_44)) rfl ?_
        refine TL.v (ltb rfl) (rv_ld (v := v12) (o := 2) (o' := 0) (j := 2) sc_22 rfl (Src.at_ 0 rfl) (bx_cells b16 25 _) rfl rfl) ?_
        refine TL.gyes false (yieldE_of rfl (bF hc_44)) rfl ?_
        refine TL.v (ltb rfl) (rv_lenI (v := v12) Try.underlying22 rfl h13) ?_
        refine TL.gyes false (yieldE_of rfl (bF hc_44)) rfl ?_
        refine TL.v (ltb rfl) (rv_gtr (k := .i64) (m := (len x6.regs)) (n := 300) rfl rfl) ?_
        refine TL.v (ltb rfl) (rv_pickF false (bF hc_44) rfl (v := .bool (decide ((len x6.regs) > 300))) rfl) ?_
        refine TL.nil (hJ_43 _ ?_ ?_ ?_ ?_)
        · exact h_15
        · exact h_16
        · exact rfl
        · exact (bOf hc_44)
    · rw [if_neg hc_31] at hp
      refine TC.condF (bF hc_31) ?_
      refine TC.exit ?_
      refine fun w hw => hJ_25 _ (ex_ret hp hx_21) w (hw.pick [])

/-! ### fettle/fettleref02.CopyFunc -/
abbrev fettleref02_CopyFunc.R (r : PFunc) (v : Value) (A : List FP) : Prop := ∃ (w1 : Value) (G1 : FP) (w2 : Value) (G2 : FP), .agg #[.int .i64 r.params, .int .i64 r.result, w1, w2] = v ∧ A = [G1, G2] ∧ SlO 3 (kInt .i64) r.regs w1 G1 ∧ SlO 85 kBlock r.blocks w2 G2
def fettleref02_CopyFunc.nx23 (a1 : PFunc) (x9 : List Int) (x18 : List PBlock) : Option PFunc :=
  some (⟨a1.params, a1.result, x9, x18⟩ : PFunc)
def fettleref02_CopyFunc.nx91 (x13 : List PBlock) (x17 : Int) (x22 : PBlock) (x36 : List Int) (x45 : List PPhi) (x54 : List PInstr) : Option (Ex (List PBlock) (List PBlock × Int)) :=
  (cat x13 [(⟨x45, x54, (⟨x22.term.kind, x22.term.arg, x36⟩ : PTerm)⟩ : PBlock)]).bind fun x59 =>
  some (.go (x59, (w64 (x17 + 1))))
def fettleref02_CopyFunc.bd91 (x22 : PBlock) (x49 : List PInstr) (x53 : Int) : Option (Ex (List PInstr) (List PInstr × Int)) :=
  if x53 < (len x22.ins) then
    (idx x22.ins x53).bind fun x63 =>
    (cat ([] : List Int) x63.args).bind fun x73 =>
    (cat x49 [(⟨x63.op, x63.dst, x73, x63.imm, x63.fn⟩ : PInstr)]).bind fun x78 =>
    some (.go (x78, (w64 (x53 + 1))))
  else
    some (.ret x49)
def fettleref02_CopyFunc.nx67 (x13 : List PBlock) (x17 : Int) (x22 : PBlock) (x36 : List Int) (x45 : List PPhi) : Option (Ex (List PBlock) (List PBlock × Int)) :=
  (whl (fun (s : (List PInstr × Int)) => fettleref02_CopyFunc.bd91 x22 s.1 s.2) FUEL (([] : List PInstr), 0)).bind fun z =>
  fettleref02_CopyFunc.nx91 x13 x17 x22 x36 x45 z
def fettleref02_CopyFunc.jn133 (x44 : Int) (x83 : List PPhi) : Option (Ex (List PPhi) (List PPhi × Int)) :=
  some (.go (x83, (w64 (x44 + 1))))
def fettleref02_CopyFunc.bd67 (x22 : PBlock) (x40 : List PPhi) (x44 : Int) : Option (Ex (List PPhi) (List PPhi × Int)) :=
  if x44 < (len x22.phis) then
    (idx x22.phis x44).bind fun x2088 =>
    (idx x22.phis x44).bind fun x4888 =>
    (cat ([] : List Int) x4888.args).bind fun x6088 =>
    (cat x40 [(⟨x2088.dst, x6088⟩ : PPhi)]).bind fun x7288 =>
    fettleref02_CopyFunc.jn133 x44 x7288
  else
    some (.ret x40)
def fettleref02_CopyFunc.jn50 (x13 : List PBlock) (x17 : Int) (x22 : PBlock) (x36 : List Int) : Option (Ex (List PBlock) (List PBlock × Int)) :=
  (whl (fun (s : (List PPhi × Int)) => fettleref02_CopyFunc.bd67 x22 s.1 s.2) FUEL (([] : List PPhi), 0)).bind fun z =>
  fettleref02_CopyFunc.nx67 x13 x17 x22 x36 z
def fettleref02_CopyFunc.bd23 (a1 : PFunc) (x13 : List PBlock) (x17 : Int) : Option (Ex (List PBlock) (List PBlock × Int)) :=
  if x17 < (len a1.blocks) then
    (idx a1.blocks x17).bind fun x22 =>
    (cat ([] : List Int) x22.term.to).bind fun x12490 =>
    fettleref02_CopyFunc.jn50 x13 x17 x22 x12490
  else
    some (.ret x13)
def fettleref02_CopyFunc.jn9 (a1 : PFunc) (x9 : List Int) : Option PFunc :=
  (whl (fun (s : (List PBlock × Int)) => fettleref02_CopyFunc.bd23 a1 s.1 s.2) FUEL (([] : List PBlock), 0)).bind fun z =>
  fettleref02_CopyFunc.nx23 a1 x9 z
def fettleref02_CopyFunc (a1 : PFunc) : Option PFunc :=
  (cat ([] : List Int) a1.regs).bind fun x17292 =>
  fettleref02_CopyFunc.jn9 a1 x17292
set_option maxHeartbeats 4000000 in
theorem fettleref02_CopyFunc_ok {E : World} {H : FP} {w : World} {a1 : PFunc} {v2 : Value} {v4 : Value} {r : PFunc} (h3 : SlI (kInt .i64) H a1.regs v2) (h5 : SlI kBlock H a1.blocks v4) (hp : fettleref02_CopyFunc a1 = some r) (hst : St E H [] w) :
    Fn Try.prog 46 #[.agg #[.int .i64 a1.params, .int .i64 a1.result, v2, v4]] w fun v w' => ∃ A, fettleref02_CopyFunc.R r v A ∧ St E H A w' := by
  refine Fn.bodyV (fn := Try.f46) (args := [.agg #[.int .i64 a1.params, .int .i64 a1.result, v2, v4]]) E H [] 101 Try.func46 rfl rfl (leb rfl) hst ?_
  unfold fettleref02_CopyFunc at hp
  refine TC.seq fun K_1 hK_2 => ?_
  refine TC.region ?_
  refine TL.box (cs := [.int .i64 a1.params, .int .i64 a1.result, v2, v4]) (v := .agg #[.int .i64 a1.params, .int .i64 a1.result, v2, v4]) (ltb rfl) rfl rfl fun b6 => ?_
  refine TL.alloc (cs := [.int .i64 0, .int .i64 0, .slice none 0 0, .slice none 0 0]) inf_25 (ltb rfl) rfl fun b7 => ?_
  refine TL.nil ?_
  refine TC.go hK_2 ?_
  refine TC.seq fun K_3 hK_4 => ?_
  have hJ_9 : ∀ (x9 : List Int) (b8 : Nat) (v10 : Value) (F11 : FP) (e_5 : Env) (h12 : SlO 3 (kInt .i64) x9 v10 F11) (h_6 : e_5 1 = .pointer (some ⟨b6, 0, none⟩)) (h_7 : e_5 2 = .pointer (some ⟨b7, 0, none⟩)) (h_8 : e_5 3 = .pointer (some ⟨b8, 0, none⟩)) (hp : fettleref02_CopyFunc.jn9 a1 x9 = some r), ∀ w, St E H [bx b6 25 [.int .i64 a1.params, .int .i64 a1.result, v2, v4], bx b7 25 [.int .i64 0, .int .i64 0, .slice none 0 0, .slice none 0 0], bx b8 25 [.int .i64 a1.params, .int .i64 a1.result, v10, .slice none 0 0], F11] w → K_3 e_5 w := by
    intro x9 b8 v10 F11 e_5 h12 h_6 h_7 h_8 hp
    unfold fettleref02_CopyFunc.jn9 at hp
    refine TC.go hK_4 ?_
    refine TC.seq fun K_10 hK_11 => ?_
    refine TC.seq fun K_12 hK_13 => ?_
    refine TC.region ?_
    refine TL.v (ltb rfl) (rv_as (v := .int .i64 0) rfl) ?_
    refine TL.nil ?_
    refine TC.go hK_13 ?_
    refine TC.block ?_
    obtain ⟨z_19, hz_20, hr_21⟩ := bind_some' hp
    clear hp
    have hJ_29 : ∀ (x18 : List PBlock) (v19 : Value) (F20 : FP) (e_24 : Env) (h21 : SlO 85 kBlock x18 v19 F20) (h_25 : e_24 2 = .pointer (some ⟨b7, 0, none⟩)) (h_26 : e_24 3 = .pointer (some ⟨b8, 0, none⟩)) (hq_30 : x18 = z_19), ∀ w, St E H [bx b7 25 [.int .i64 0, .int .i64 0, .slice none 0 0, .slice none 0 0], bx b8 25 [.int .i64 a1.params, .int .i64 a1.result, v10, v19], F11, F20] w → K_10 e_24 w := by
      intro x18 v19 F20 e_24 h21 h_25 h_26 hq_30
      subst hq_30
      replace hp : fettleref02_CopyFunc.nx23 a1 x9 x18 = some r := hr_21
      unfold fettleref02_CopyFunc.nx23 at hp
      refine TC.go hK_11 ?_
      refine TC.seq fun K_27 hK_28 => ?_
      refine TC.region ?_
      refine TL.v (ltb rfl) (rv_lda (o := 0) (o' := 0) (j := 0) (ds := [.int .i64 a1.params, .int .i64 a1.result, v10, v19]) ag_25 h_26 (Src.at_ 1 rfl) (bx_cells b8 25 _) rfl rfl rfl) ?_
      refine TL.stB (ds := [.int .i64 a1.params, .int .i64 a1.result, v10, v19]) (o := 0) (cs := [.int .i64 0, .int .i64 0, .slice none 0 0, .slice none 0 0]) (b := b7) (u := .agg #[.int .i64 a1.params, .int .i64 a1.result, v10, v19]) 0 rfl ms_25 h_25 rfl rfl (oc rfl (oc rfl (oc (h12).one (oc (h21).one oc0)))) (leb rfl) ?_
      refine TL.norm (L' := [bx b7 25 [.int .i64 a1.params, .int .i64 a1.result, v10, v19], bx b8 25 [.int .i64 a1.params, .int .i64 a1.result, v10, v19], F11, F20]) rfl ?_
      refine TL.nil ?_
      refine TC.go hK_28 ?_
      refine TC.ret ?_
      obtain rfl := Option.some.inj hp
      exact fun w hw => retC1 hw rfl h_25 ag_25 0 rfl rfl ⟨v10, F11, v19, F20, rfl, rfl, h12, h21⟩ (hw.pick [2, 2])
    refine W.new0 ?_
    refine TC.pk' [1, 1, 1, 1, 0] (L' := [bx b6 25 [.int .i64 a1.params, .int .i64 a1.result, v2, v4], bx b7 25 [.int .i64 0, .int .i64 0, .slice none 0 0, .slice none 0 0], bx b8 25 [.int .i64 a1.params, .int .i64 a1.result, v10, (.slice none 0 0)], F11, ([] : FP)]) rfl ?_
    refine TC.loopW (r := z_19) (fun (s : (List PBlock × Int)) (e_14 : Env) (L_211 : List FP) => ∃ (x13 : List PBlock) (x17 : Int) (v14 : Value) (F15 : FP), s = (x13, x17) ∧ SlO 85 kBlock x13 v14 F15 ∧ e_14 1 = .pointer (some ⟨b6, 0, none⟩) ∧ e_14 2 = .pointer (some ⟨b7, 0, none⟩) ∧ e_14 3 = .pointer (some ⟨b8, 0, none⟩) ∧ e_14 4 = .int .i64 x17 ∧ L_211 = [bx b6 25 [.int .i64 a1.params, .int .i64 a1.result, v2, v4], bx b7 25 [.int .i64 0, .int .i64 0, .slice none 0 0, .slice none 0 0], bx b8 25 [.int .i64 a1.params, .int .i64 a1.result, v10, v14], F11, F15]) ?_ FUEL _ _ _ hz_20 ⟨([] : List PBlock), 0, (.slice none 0 0), ([] : FP), rfl, (SlO.nil 85), h_6, h_7, h_8, rfl, rfl⟩
    rintro s e_14 L_211 ⟨x13, x17, v14, F15, rfl, h16, h_15, h_16, h_17, h_18, rfl⟩ x_22 hp hx_23
    replace hp : fettleref02_CopyFunc.bd23 a1 x13 x17 = some x_22 := hp
    unfold fettleref02_CopyFunc.bd23 at hp
    refine TC.seq fun K_31 hK_32 => ?_
    refine TC.seq fun K_33 hK_34 => ?_
    refine TC.region ?_
    refine TL.v (ltb rfl) (rv_mv (v := .int .i64 x17) h_18) ?_
    refine TL.v (ltb rfl) (rv_fa (b := b6) (o := 0) fa_25_3 h_15) ?_
    refine TL.v (ltb rfl) (rv_ld (v := v4) (o := 3) (o' := 0) (j := 3) sc_23 rfl (Src.at_ 0 rfl) (bx_cells b6 25 _) rfl rfl) ?_
    refine TL.v (ltb rfl) (rv_lenI (v := v4) Try.underlying23 rfl h5) ?_
    refine TL.v (ltb rfl) (rv_lss (k := .i64) (m := x17) (n := (len a1.blocks)) rfl rfl) ?_
    refine TL.nil ?_
    refine TC.go hK_34 ?_
    by_cases hc_35 : x17 < (len a1.blocks)
    · rw [if_pos hc_35] at hp
      refine TC.condT (bT hc_35) ?_
      refine TC.skip ?_
      refine TC.go hK_32 ?_
      refine TC.seq fun K_36 hK_37 => ?_
      refine TC.block ?_
      refine TC.seq fun K_38 hK_39 => ?_
      refine TC.region ?_
      refine TL.v (ltb rfl) (rv_fa (b := b6) (o := 0) fa_25_3 h_15) ?_
      refine TL.v (ltb rfl) (rv_ld (v := v4) (o := 3) (o' := 0) (j := 3) sc_23 rfl (Src.at_ 0 rfl) (bx_cells b6 25 _) rfl rfl) ?_
      refine TL.v (ltb rfl) (rv_mv (v := .int .i64 x17) h_18) ?_
      obtain ⟨x22, hx_40, hp⟩ := bind_some' hp
      refine TL.v3 (ltb rfl) (rv_ix 23 (.tmp 27) (.tmp 28) (v := v4) (i := x17) Try.underlying23 inf_85 rfl rfl rfl h5 hx_40) fun b23 o24 c25 h26 h27 => ?_
      obtain ⟨v28, v30, v32, rfl, h29, h31, h33⟩ := h26
      refine TL.v (ltb rfl) (rv_lda (o := o24) (o' := o24) (j := 0) (ds := [v28, v30, .int .i64 x22.term.kind, .int .i64 x22.term.arg, v32]) ag_85 rfl Src.H h27 rfl rfl rfl) ?_
      refine TL.alloc (cs := [.slice none 0 0, .slice none 0 0, .int .i64 0, .int .i64 0, .slice none 0 0]) inf_85 (ltb rfl) rfl fun b34 => ?_
      refine TL.stB (ds := [v28, v30, .int .i64 x22.term.kind, .int .i64 x22.term.arg, v32]) (o := 0) (cs := [.slice none 0 0, .slice none 0 0, .int .i64 0, .int .i64 0, .slice none 0 0]) (b := b34) (u := .agg #[v28, v30, .int .i64 x22.term.kind, .int .i64 x22.term.arg, v32]) 0 rfl ms_85 rfl rfl rfl (oc (h29).one (oc (h31).one (oc rfl (oc rfl (oc (h33).one oc0))))) (leb rfl) ?_
      refine TL.norm (L' := [bx b34 85 [v28, v30, .int .i64 x22.term.kind, .int .i64 x22.term.arg, v32], bx b6 25 [.int .i64 a1.params, .int .i64 a1.result, v2, v4], bx b7 25 [.int .i64 0, .int .i64 0, .slice none 0 0, .slice none 0 0], bx b8 25 [.int .i64 a1.params, .int .i64 a1.result, v10, v14], F11, F15]) rfl ?_
      refine TL.nil ?_
      refine TC.go hK_39 ?_
      refine TC.seq fun K_41 hK_42 => ?_
      have hJ_50 : ∀ (x36 : List Int) (b35 : Nat) (v37 : Value) (F38 : FP) (e_43 : Env) (h39 : SlO 3 (kInt .i64) x36 v37 F38) (h_44 : e_43 1 = .pointer (some ⟨b6, 0, none⟩)) (h_45 : e_43 2 = .pointer (some ⟨b7, 0, none⟩)) (h_46 : e_43 3 = .pointer (some ⟨b8, 0, none⟩)) (h_47 : e_43 4 = .int .i64 x17) (h_48 : e_43 5 = .pointer (some ⟨b34, 0, none⟩)) (h_49 : e_43 6 = .pointer (some ⟨b35, 0, none⟩)) (hp : fettleref02_CopyFunc.jn50 x13 x17 x22 x36 = some x_22), ∀ w, St E H [bx b6 25 [.int .i64 a1.params, .int .i64 a1.result, v2, v4], bx b7 25 [.int .i64 0, .int .i64 0, .slice none 0 0, .slice none 0 0], bx b8 25 [.int .i64 a1.params, .int .i64 a1.result, v10, v14], F11, F15, bx b34 85 [v28, v30, .int .i64 x22.term.kind, .int .i64 x22.term.arg, v32], bx b35 85 [.slice none 0 0, .slice none 0 0, .int .i64 x22.term.kind, .int .i64 x22.term.arg, v37], F38] w → K_41 e_43 w := by
        intro x36 b35 v37 F38 e_43 h39 h_44 h_45 h_46 h_47 h_48 h_49 hp
        unfold fettleref02_CopyFunc.jn50 at hp
        refine TC.go hK_42 ?_
        refine TC.seq fun K_51 hK_52 => ?_
        refine TC.seq fun K_53 hK_54 => ?_
        refine TC.region ?_
        refine TL.v (ltb rfl) (rv_as (v := .int .i64 0) rfl) ?_
        refine TL.nil ?_
        refine TC.go hK_54 ?_
        refine TC.block ?_
        obtain ⟨z_63, hz_64, hr_65⟩ := bind_some' hp
        clear hp
        have hJ_116 : ∀ (x45 : List PPhi) (v46 : Value) (F47 : FP) (e_68 : Env) (h48 : SlO 131 kPhi x45 v46 F47) (h_69 : e_68 1 = .pointer (some ⟨b6, 0, none⟩)) (h_70 : e_68 2 = .pointer (some ⟨b7, 0, none⟩)) (h_71 : e_68 3 = .pointer (some ⟨b8, 0, none⟩)) (h_72 : e_68 4 = .int .i64 x17) (h_73 : e_68 5 = .pointer (some ⟨b34, 0, none⟩)) (h_74 : e_68 6 = .pointer (some ⟨b35, 0, none⟩)) (hq_117 : x45 = z_63), ∀ w, St E H [bx b6 25 [.int .i64 a1.params, .int .i64 a1.result, v2, v4], bx b7 25 [.int .i64 0, .int .i64 0, .slice none 0 0, .slice none 0 0], bx b8 25 [.int .i64 a1.params, .int .i64 a1.result, v10, v14], F11, F15, bx b34 85 [v28, v30, .int .i64 x22.term.kind, .int .i64 x22.term.arg, v32], bx b35 85 [v46, .slice none 0 0, .int .i64 x22.term.kind, .int .i64 x22.term.arg, v37], F47, F38] w → K_51 e_68 w := by
          intro x45 v46 F47 e_68 h48 h_69 h_70 h_71 h_72 h_73 h_74 hq_117
          subst hq_117
          replace hp : fettleref02_CopyFunc.nx67 x13 x17 x22 x36 x45 = some x_22 := hr_65
          unfold fettleref02_CopyFunc.nx67 at hp
          refine TC.go hK_52 ?_
          refine TC.seq fun K_75 hK_76 => ?_
          refine TC.seq fun K_77 hK_78 => ?_
          refine TC.region ?_
          refine TL.v (ltb rfl) (rv_as (v := .int .i64 0) rfl) ?_
          refine TL.nil ?_
          refine TC.go hK_78 ?_
          refine TC.block ?_
          obtain ⟨z_87, hz_88, hr_89⟩ := bind_some' hp
          clear hp
          have hJ_99 : ∀ (x54 : List PInstr) (v55 : Value) (F56 : FP) (e_92 : Env) (h57 : SlO 87 kInstr x54 v55 F56) (h_93 : e_92 1 = .pointer (some ⟨b6, 0, none⟩)) (h_94 : e_92 2 = .pointer (some ⟨b7, 0, none⟩)) (h_95 : e_92 3 = .pointer (some ⟨b8, 0, none⟩)) (h_96 : e_92 4 = .int .i64 x17) (h_97 : e_92 6 = .pointer (some ⟨b35, 0, none⟩)) (hq_100 : x54 = z_87), ∀ w, St E H [bx b6 25 [.int .i64 a1.params, .int .i64 a1.result, v2, v4], bx b7 25 [.int .i64 0, .int .i64 0, .slice none 0 0, .slice none 0 0], bx b8 25 [.int .i64 a1.params, .int .i64 a1.result, v10, v14], F11, F15, bx b35 85 [v46, v55, .int .i64 x22.term.kind, .int .i64 x22.term.arg, v37], F47, F56, F38] w → K_75 e_92 w := by
            intro x54 v55 F56 e_92 h57 h_93 h_94 h_95 h_96 h_97 hq_100
            subst hq_100
            replace hp : fettleref02_CopyFunc.nx91 x13 x17 x22 x36 x45 x54 = some x_22 := hr_89
            unfold fettleref02_CopyFunc.nx91 at hp
            refine TC.go hK_76 ?_
            refine TC.region ?_
            refine TL.v (ltb rfl) (rv_fa (b := b8) (o := 0) fa_25_3 h_95) ?_
            refine TL.v (ltb rfl) (rv_ld (v := v14) (o := 3) (o' := 0) (j := 3) sc_23 rfl (Src.at_ 2 rfl) (bx_cells b8 25 _) rfl rfl) ?_
            refine TL.v (ltb rfl) (rv_lda (o := 0) (o' := 0) (j := 0) (ds := [v46, v55, .int .i64 x22.term.kind, .int .i64 x22.term.arg, v37]) ag_85 h_97 (Src.at_ 5 rfl) (bx_cells b35 85 _) rfl rfl rfl) ?_
            refine TL.bv (vs := [(0, .agg #[v46, v55, .int .i64 x22.term.kind, .int .i64 x22.term.arg, v37])]) (cs := [v46, v55, .int .i64 x22.term.kind, .int .i64 x22.term.arg, v37]) (pc rfl p0) Try.underlying23 inf_85 (ltb rfl) (by decide) (by decide) (by kernel_rfl) fun b58 => ?_
            refine TL.pk' [5, 0, 5, 5, 5, 0, 0, 0, 0, 0] (L' := [F15, bx b58 85 [v46, v55, .int .i64 x22.term.kind, .int .i64 x22.term.arg, v37], F47, F56, F38, bx b6 25 [.int .i64 a1.params, .int .i64 a1.result, v2, v4], bx b7 25 [.int .i64 0, .int .i64 0, .slice none 0 0, .slice none 0 0], bx b8 25 [.int .i64 a1.params, .int .i64 a1.result, v10, v14], F11, bx b35 85 [v46, v55, .int .i64 x22.term.kind, .int .i64 x22.term.arg, v37]]) rfl ?_
            refine TL.perm (L' := [F15, bx b58 85 [v46, v55, .int .i64 x22.term.kind, .int .i64 x22.term.arg, v37], F47 ++ (F56 ++ (F38)) ++ [], bx b6 25 [.int .i64 a1.params, .int .i64 a1.result, v2, v4], bx b7 25 [.int .i64 0, .int .i64 0, .slice none 0 0, .slice none 0 0], bx b8 25 [.int .i64 a1.params, .int .i64 a1.result, v10, v14], F11, bx b35 85 [v46, v55, .int .i64 x22.term.kind, .int .i64 x22.term.arg, v37]]) (by simp) ?_
            obtain ⟨x59, hz_98, hp⟩ := bind_some' hp
            refine TL.app Try.underlying23 inf_85 (ltb rfl) rfl (ltb rfl) rfl (leb rfl) rfl rfl h16 (RepL.to (RepL.cons (k := kBlock) (x := (⟨x45, x54, (⟨x22.term.kind, x22.term.arg, x36⟩ : PTerm)⟩ : PBlock)) ⟨_, _, _, _, _, _, rfl, rfl, h48, h57, h39⟩ RepL.nil) rfl) rfl rfl hz_98 fun v60 F61 h62 => ?_
            refine TL.v (ltb rfl) (rv_fa (b := b8) (o := 0) fa_25_3 h_95) ?_
            refine TL.stB (ds := [v60]) (o := 3) (cs := [.int .i64 a1.params, .int .i64 a1.result, v10, v14]) (b := b8) (u := v60) 3 rfl ms_23 rfl rfl (SlO.cells h62) (oc (h62).one oc0) (leb rfl) ?_
            refine TL.norm (L' := [F61, bx b6 25 [.int .i64 a1.params, .int .i64 a1.result, v2, v4], bx b7 25 [.int .i64 0, .int .i64 0, .slice none 0 0, .slice none 0 0], bx b8 25 [.int .i64 a1.params, .int .i64 a1.result, v10, v60], F11, bx b35 85 [v46, v55, .int .i64 x22.term.kind, .int .i64 x22.term.arg, v37]]) rfl ?_
            refine TL.nil ?_
            refine TC.go hK_37 ?_
            refine TC.region ?_
            refine TL.v (ltb rfl) (rv_mv (v := .int .i64 x17) h_96) ?_
            refine TL.v (ltb rfl) (rv_add (k := .i64) (m := x17) (n := 1) rfl rfl) ?_
            refine TL.v (ltb rfl) (rv_as (v := .int .i64 (w64 (x17 + 1))) rfl) ?_
            refine TL.nil ?_
            exact fun w hw => goOk hp ⟨x59, (w64 (x17 + 1)), v60, F61, rfl, h62, h_93, h_94, h_95, rfl, rfl⟩ (hw.pick [1, 1, 1, 1, 0])
          refine W.new0 ?_
          refine TC.pk' [1, 1, 1, 1, 1, 1, 1, 1, 0, 0] (L' := [bx b6 25 [.int .i64 a1.params, .int .i64 a1.result, v2, v4], bx b7 25 [.int .i64 0, .int .i64 0, .slice none 0 0, .slice none 0 0], bx b8 25 [.int .i64 a1.params, .int .i64 a1.result, v10, v14], F11, F15, bx b34 85 [v28, v30, .int .i64 x22.term.kind, .int .i64 x22.term.arg, v32], bx b35 85 [v46, (.slice none 0 0), .int .i64 x22.term.kind, .int .i64 x22.term.arg, v37], F47, ([] : FP), F38]) rfl ?_
          refine TC.loopW (r := z_87) (fun (s : (List PInstr × Int)) (e_79 : Env) (L_115 : List FP) => ∃ (x49 : List PInstr) (x53 : Int) (v50 : Value) (F51 : FP), s = (x49, x53) ∧ SlO 87 kInstr x49 v50 F51 ∧ e_79 1 = .pointer (some ⟨b6, 0, none⟩) ∧ e_79 2 = .pointer (some ⟨b7, 0, none⟩) ∧ e_79 3 = .pointer (some ⟨b8, 0, none⟩) ∧ e_79 4 = .int .i64 x17 ∧ e_79 5 = .pointer (some ⟨b34, 0, none⟩) ∧ e_79 6 = .pointer (some ⟨b35, 0, none⟩) ∧ e_79 8 = .int .i64 x53 ∧ L_115 = [bx b6 25 [.int .i64 a1.params, .int .i64 a1.result, v2, v4], bx b7 25 [.int .i64 0, .int .i64 0, .slice none 0 0, .slice none 0 0], bx b8 25 [.int .i64 a1.params, .int .i64 a1.result, v10, v14], F11, F15, bx b34 85 [v28, v30, .int .i64 x22.term.kind, .int .i64 x22.term.arg, v32], bx b35 85 [v46, v50, .int .i64 x22.term.kind, .int .i64 x22.term.arg, v37], F47, F51, F38]) ?_ FUEL _ _ _ hz_88 ⟨([] : List PInstr), 0, (.slice none 0 0), ([] : FP), rfl, (SlO.nil 87), h_69, h_70, h_71, h_72, h_73, h_74, rfl, rfl⟩
          rintro s e_79 L_115 ⟨x49, x53, v50, F51, rfl, h52, h_80, h_81, h_82, h_83, h_84, h_85, h_86, rfl⟩ x_90 hp hx_91
          replace hp : fettleref02_CopyFunc.bd91 x22 x49 x53 = some x_90 := hp
          unfold fettleref02_CopyFunc.bd91 at hp
          refine TC.seq fun K_101 hK_102 => ?_
          refine TC.seq fun K_103 hK_104 => ?_
          refine TC.region ?_
          refine TL.v (ltb rfl) (rv_mv (v := .int .i64 x53) h_86) ?_
          refine TL.v (ltb rfl) (rv_fa (b := b34) (o := 0) fa_85_1 h_84) ?_
          refine TL.v (ltb rfl) (rv_ld (v := v30) (o := 1) (o' := 0) (j := 1) sc_83 rfl (Src.at_ 5 rfl) (bx_cells b34 85 _) rfl rfl) ?_
          refine TL.v (ltb rfl) (rv_lenI (v := v30) Try.underlying83 rfl h31) ?_
          refine TL.v (ltb rfl) (rv_lss (k := .i64) (m := x53) (n := (len x22.ins)) rfl rfl) ?_
          refine TL.nil ?_
          refine TC.go hK_104 ?_
          by_cases hc_105 : x53 < (len x22.ins)
          · rw [if_pos hc_105] at hp
            refine TC.condT (bT hc_105) ?_
            refine TC.skip ?_
            refine TC.go hK_102 ?_
            refine TC.seq fun K_106 hK_107 => ?_
            refine TC.block ?_
            refine TC.seq fun K_108 hK_109 => ?_
            refine TC.region ?_
            refine TL.v (ltb rfl) (rv_fa (b := b34) (o := 0) fa_85_1 h_84) ?_
            refine TL.v (ltb rfl) (rv_ld (v := v30) (o := 1) (o' := 0) (j := 1) sc_83 rfl (Src.at_ 5 rfl) (bx_cells b34 85 _) rfl rfl) ?_
            refine TL.v (ltb rfl) (rv_mv (v := .int .i64 x53) h_86) ?_
            obtain ⟨x63, hx_110, hp⟩ := bind_some' hp
            refine TL.v3 (ltb rfl) (rv_ix 83 (.tmp 79) (.tmp 80) (v := v30) (i := x53) Try.underlying83 inf_87 rfl rfl rfl h31 hx_110) fun b64 o65 c66 h67 h68 => ?_
            obtain ⟨v69, rfl, h70⟩ := h67
            refine TL.v (ltb rfl) (rv_lda (o := o65) (o' := o65) (j := 0) (ds := [.int .i64 x63.op, .int .i64 x63.dst, v69, .int .i64 x63.imm, .int .i64 x63.fn]) ag_87 rfl Src.H h68 rfl rfl rfl) ?_
            refine TL.alloc (cs := [.int .i64 0, .int .i64 0, .slice none 0 0, .int .i64 0, .int .i64 0]) inf_87 (ltb rfl) rfl fun b71 => ?_
            refine TL.stB (ds := [.int .i64 x63.op, .int .i64 x63.dst, v69, .int .i64 x63.imm, .int .i64 x63.fn]) (o := 0) (cs := [.int .i64 0, .int .i64 0, .slice none 0 0, .int .i64 0, .int .i64 0]) (b := b71) (u := .agg #[.int .i64 x63.op, .int .i64 x63.dst, v69, .int .i64 x63.imm, .int .i64 x63.fn]) 0 rfl ms_87 rfl rfl rfl (oc rfl (oc rfl (oc (h70).one (oc rfl (oc rfl oc0))))) (leb rfl) ?_
            refine TL.norm (L' := [bx b71 87 [.int .i64 x63.op, .int .i64 x63.dst, v69, .int .i64 x63.imm, .int .i64 x63.fn], bx b6 25 [.int .i64 a1.params, .int .i64 a1.result, v2, v4], bx b7 25 [.int .i64 0, .int .i64 0, .slice none 0 0, .slice none 0 0], bx b8 25 [.int .i64 a1.params, .int .i64 a1.result, v10, v14], F11, F15, bx b34 85 [v28, v30, .int .i64 x22.term.kind, .int .i64 x22.term.arg, v32], bx b35 85 [v46, v50, .int .i64 x22.term.kind, .int .i64 x22.term.arg, v37], F47, F51, F38]) rfl ?_
            refine TL.nil ?_
            refine TC.go hK_109 ?_
            refine TC.seq fun K_111 hK_112 => ?_
            refine TC.region ?_
            refine TL.bs0 Try.underlying22 inf_3 (ltb rfl) fun b72 => ?_
            refine TL.v (ltb rfl) (rv_fa (b := b71) (o := 0) fa_87_2 rfl) ?_
            refine TL.v (ltb rfl) (rv_ld (v := v69) (o := 2) (o' := 0) (j := 2) sc_22 rfl (Src.at_ 1 rfl) (bx_cells b71 87 _) rfl rfl) ?_
            obtain ⟨x73, hz_113, hp⟩ := bind_some' hp
            refine TL.appI (u := v69) (fInt .i64) Try.underlying22 inf_3 (ltb rfl) rfl (ltb rfl) rfl (leb rfl) rfl rfl (SlO.lit0 (k := (kInt .i64)) b72) h70 Src.H hz_113 fun v74 F75 h76 => ?_
            refine TL.v (ltb rfl) (rv_fa (b := b71) (o := 0) fa_87_2 rfl) ?_
            refine TL.stB (ds := [v74]) (o := 2) (cs := [.int .i64 x63.op, .int .i64 x63.dst, v69, .int .i64 x63.imm, .int .i64 x63.fn]) (b := b71) (u := v74) 1 rfl ms_22 rfl rfl (SlO.cells h76) (oc (h76).one oc0) (leb rfl) ?_
            refine TL.norm (L' := [F75, bx b71 87 [.int .i64 x63.op, .int .i64 x63.dst, v74, .int .i64 x63.imm, .int .i64 x63.fn], bx b6 25 [.int .i64 a1.params, .int .i64 a1.result, v2, v4], bx b7 25 [.int .i64 0, .int .i64 0, .slice none 0 0, .slice none 0 0], bx b8 25 [.int .i64 a1.params, .int .i64 a1.result, v10, v14], F11, F15, bx b34 85 [v28, v30, .int .i64 x22.term.kind, .int .i64 x22.term.arg, v32], bx b35 85 [v46, v50, .int .i64 x22.term.kind, .int .i64 x22.term.arg, v37], F47, F51, F38]) rfl ?_
            refine TL.nil ?_
            refine TC.go hK_112 ?_
            refine TC.region ?_
            refine TL.v (ltb rfl) (rv_fa (b := b35) (o := 0) fa_85_1 h_85) ?_
            refine TL.v (ltb rfl) (rv_ld (v := v50) (o := 1) (o' := 0) (j := 1) sc_83 rfl (Src.at_ 8 rfl) (bx_cells b35 85 _) rfl rfl) ?_
            refine TL.v (ltb rfl) (rv_lda (o := 0) (o' := 0) (j := 0) (ds := [.int .i64 x63.op, .int .i64 x63.dst, v74, .int .i64 x63.imm, .int .i64 x63.fn]) ag_87 rfl (Src.at_ 1 rfl) (bx_cells b71 87 _) rfl rfl rfl) ?_
            refine TL.bv (vs := [(0, .agg #[.int .i64 x63.op, .int .i64 x63.dst, v74, .int .i64 x63.imm, .int .i64 x63.fn])]) (cs := [.int .i64 x63.op, .int .i64 x63.dst, v74, .int .i64 x63.imm, .int .i64 x63.fn]) (pc rfl p0) Try.underlying83 inf_87 (ltb rfl) (by decide) (by decide) (by kernel_rfl) fun b77 => ?_
            refine TL.pk' [11, 0, 0, 0, 0, 0, 0, 0, 0, 0, 0, 0, 0] (L' := [F51, bx b77 87 [.int .i64 x63.op, .int .i64 x63.dst, v74, .int .i64 x63.imm, .int .i64 x63.fn], F75, bx b71 87 [.int .i64 x63.op, .int .i64 x63.dst, v74, .int .i64 x63.imm, .int .i64 x63.fn], bx b6 25 [.int .i64 a1.params, .int .i64 a1.result, v2, v4], bx b7 25 [.int .i64 0, .int .i64 0, .slice none 0 0, .slice none 0 0], bx b8 25 [.int .i64 a1.params, .int .i64 a1.result, v10, v14], F11, F15, bx b34 85 [v28, v30, .int .i64 x22.term.kind, .int .i64 x22.term.arg, v32], bx b35 85 [v46, v50, .int .i64 x22.term.kind, .int .i64 x22.term.arg, v37], F47, F38]) rfl ?_
            refine TL.perm (L' := [F51, bx b77 87 [.int .i64 x63.op, .int .i64 x63.dst, v74, .int .i64 x63.imm, .int .i64 x63.fn], F75 ++ [], bx b71 87 [.int .i64 x63.op, .int .i64 x63.dst, v74, .int .i64 x63.imm, .int .i64 x63.fn], bx b6 25 [.int .i64 a1.params, .int .i64 a1.result, v2, v4], bx b7 25 [.int .i64 0, .int .i64 0, .slice none 0 0, .slice none 0 0], bx b8 25 [.int .i64 a1.params, .int .i64 a1.result, v10, v14], F11, F15, bx b34 85 [v28, v30, .int .i64 x22.term.kind, .int .i64 x22.term.arg, v32], bx b35 85 [v46, v50, .int .i64 x22.term.kind, .int .i64 x22.term.arg, v37], F47, F38]) (by simp) ?_
            obtain ⟨x78, hz_114, hp⟩ := bind_some' hp
            refine TL.app Try.underlying83 inf_87 (ltb rfl) rfl (ltb rfl) rfl (leb rfl) rfl rfl h52 (RepL.to (RepL.cons (k := kInstr) (x := (⟨x63.op, x63.dst, x73, x63.imm, x63.fn⟩ : PInstr)) ⟨_, _, rfl, rfl, h76⟩ RepL.nil) rfl) rfl rfl hz_114 fun v79 F80 h81 => ?_
            refine TL.v (ltb rfl) (rv_fa (b := b35) (o := 0) fa_85_1 h_85) ?_
            refine TL.stB (ds := [v79]) (o := 1) (cs := [v46, v50, .int .i64 x22.term.kind, .int .i64 x22.term.arg, v37]) (b := b35) (u := v79) 8 rfl ms_83 rfl rfl (SlO.cells h81) (oc (h81).one oc0) (leb rfl) ?_
            refine TL.norm (L' := [F80, bx b71 87 [.int .i64 x63.op, .int .i64 x63.dst, v74, .int .i64 x63.imm, .int .i64 x63.fn], bx b6 25 [.int .i64 a1.params, .int .i64 a1.result, v2, v4], bx b7 25 [.int .i64 0, .int .i64 0, .slice none 0 0, .slice none 0 0], bx b8 25 [.int .i64 a1.params, .int .i64 a1.result, v10, v14], F11, F15, bx b34 85 [v28, v30, .int .i64 x22.term.kind, .int .i64 x22.term.arg, v32], bx b35 85 [v46, v79, .int .i64 x22.term.kind, .int .i64 x22.term.arg, v37], F47, F38]) rfl ?_
            refine TL.nil ?_
            refine TC.go hK_107 ?_
            refine TC.region ?_
            refine TL.v (ltb rfl) (rv_mv (v := .int .i64 x53) h_86) ?_
            refine TL.v (ltb rfl) (rv_add (k := .i64) (m := x53) (n := 1) rfl rfl) ?_
            refine TL.v (ltb rfl) (rv_as (v := .int .i64 (w64 (x53 + 1))) rfl) ?_
            refine TL.nil ?_
            exact fun w hw => goOk hp ⟨x78, (w64 (x53 + 1)), v79, F80, rfl, h81, h_80, h_81, h_82, h_83, h_84, h_85, rfl, rfl⟩ (hw.pick [2, 2, 2, 2, 2, 2, 2, 2, 0, 1])
          · rw [if_neg hc_105] at hp
            refine TC.condF (bF hc_105) ?_
            refine TC.exit ?_
            refine fun w hw => hJ_99 x49 v50 F51 _ h52 ?_ ?_ ?_ ?_ ?_ (ex_ret hp hx_91) w (hw.pick [0, 0, 0, 0, 0, 1, 1, 1, 1])
            · exact h_80
            · exact h_81
            · exact h_82
            · exact h_83
            · exact h_85
        refine W.new0 ?_
        refine TC.pk' [1, 1, 1, 1, 1, 1, 1, 0, 0] (L' := [bx b6 25 [.int .i64 a1.params, .int .i64 a1.result, v2, v4], bx b7 25 [.int .i64 0, .int .i64 0, .slice none 0 0, .slice none 0 0], bx b8 25 [.int .i64 a1.params, .int .i64 a1.result, v10, v14], F11, F15, bx b34 85 [v28, v30, .int .i64 x22.term.kind, .int .i64 x22.term.arg, v32], bx b35 85 [(.slice none 0 0), .slice none 0 0, .int .i64 x22.term.kind, .int .i64 x22.term.arg, v37], ([] : FP), F38]) rfl ?_
        refine TC.loopW (r := z_63) (fun (s : (List PPhi × Int)) (e_55 : Env) (L_185 : List FP) => ∃ (x40 : List PPhi) (x44 : Int) (v41 : Value) (F42 : FP), s = (x40, x44) ∧ SlO 131 kPhi x40 v41 F42 ∧ e_55 1 = .pointer (some ⟨b6, 0, none⟩) ∧ e_55 2 = .pointer (some ⟨b7, 0, none⟩) ∧ e_55 3 = .pointer (some ⟨b8, 0, none⟩) ∧ e_55 4 = .int .i64 x17 ∧ e_55 5 = .pointer (some ⟨b34, 0, none⟩) ∧ e_55 6 = .pointer (some ⟨b35, 0, none⟩) ∧ e_55 7 = .int .i64 x44 ∧ L_185 = [bx b6 25 [.int .i64 a1.params, .int .i64 a1.result, v2, v4], bx b7 25 [.int .i64 0, .int .i64 0, .slice none 0 0, .slice none 0 0], bx b8 25 [.int .i64 a1.params, .int .i64 a1.result, v10, v14], F11, F15, bx b34 85 [v28, v30, .int .i64 x22.term.kind, .int .i64 x22.term.arg, v32], bx b35 85 [v41, .slice none 0 0, .int .i64 x22.term.kind, .int .i64 x22.term.arg, v37], F42, F38]) ?_ FUEL _ _ _ hz_64 ⟨([] : List PPhi), 0, (.slice none 0 0), ([] : FP), rfl, (SlO.nil 131), h_44, h_45, h_46, h_47, h_48, h_49, rfl, rfl⟩
        rintro s e_55 L_185 ⟨x40, x44, v41, F42, rfl, h43, h_56, h_57, h_58, h_59, h_60, h_61, h_62, rfl⟩ x_66 hp hx_67
        replace hp : fettleref02_CopyFunc.bd67 x22 x40 x44 = some x_66 := hp
        unfold fettleref02_CopyFunc.bd67 at hp
        refine TC.seq fun K_118 hK_119 => ?_
        refine TC.seq fun K_120 hK_121 => ?_
        refine TC.region ?_
        refine TL.v (ltb rfl) (rv_mv (v := .int .i64 x44) h_62) ?_
        refine TL.v (ltb rfl) (rv_fa (b := b34) (o := 0) fa_85_0 h_60) ?_
        refine TL.v (ltb rfl) (rv_ld (v := v28) (o := 0) (o' := 0) (j := 0) sc_82 rfl (Src.at_ 5 rfl) (bx_cells b34 85 _) rfl rfl) ?_
        refine TL.v (ltb rfl) (rv_lenI (v := v28) Try.underlying82 rfl h29) ?_
        refine TL.v (ltb rfl) (rv_lss (k := .i64) (m := x44) (n := (len x22.phis)) rfl rfl) ?_
        refine TL.nil ?_
        refine TC.go hK_121 ?_
        by_cases hc_122 : x44 < (len x22.phis)
        · rw [if_pos hc_122] at hp
          refine TC.condT (bT hc_122) ?_
          refine TC.skip ?_
          refine TC.go hK_119 ?_
          refine TC.seq fun K_123 hK_124 => ?_
          have hJ_133 : ∀ (x83 : List PPhi) (v84 : Value) (F85 : FP) (e_125 : Env) (h86 : SlO 131 kPhi x83 v84 F85) (h_126 : e_125 1 = .pointer (some ⟨b6, 0, none⟩)) (h_127 : e_125 2 = .pointer (some ⟨b7, 0, none⟩)) (h_128 : e_125 3 = .pointer (some ⟨b8, 0, none⟩)) (h_129 : e_125 4 = .int .i64 x17) (h_130 : e_125 5 = .pointer (some ⟨b34, 0, none⟩)) (h_131 : e_125 6 = .pointer (some ⟨b35, 0, none⟩)) (h_132 : e_125 7 = .int .i64 x44) (hp : fettleref02_CopyFunc.jn133 x44 x83 = some x_66), ∀ w, St E H [bx b6 25 [.int .i64 a1.params, .int .i64 a1.result, v2, v4], bx b7 25 [.int .i64 0, .int .i64 0, .slice none 0 0, .slice none 0 0], bx b8 25 [.int .i64 a1.params, .int .i64 a1.result, v10, v14], F11, F15, bx b34 85 [v28, v30, .int .i64 x22.term.kind, .int .i64 x22.term.arg, v32], bx b35 85 [v84, .slice none 0 0, .int .i64 x22.term.kind, .int .i64 x22.term.arg, v37], F85, F38] w → K_123 e_125 w := by
            intro x83 v84 F85 e_125 h86 h_126 h_127 h_128 h_129 h_130 h_131 h_132 hp
            unfold fettleref02_CopyFunc.jn133 at hp
            refine TC.go hK_124 ?_
            refine TC.region ?_
            refine TL.v (ltb rfl) (rv_mv (v := .int .i64 x44) h_132) ?_
            refine TL.v (ltb rfl) (rv_add (k := .i64) (m := x44) (n := 1) rfl rfl) ?_
            refine TL.v (ltb rfl) (rv_as (v := .int .i64 (w64 (x44 + 1))) rfl) ?_
            refine TL.nil ?_
            exact fun w hw => goOk hp ⟨x83, (w64 (x44 + 1)), v84, F85, rfl, h86, h_126, h_127, h_128, h_129, h_130, h_131, rfl, rfl⟩ (hw.pick [0, 0, 0, 0, 0, 0, 0, 0, 0])
          refine TC.block ?_
          refine TC.held ([bx b6 25 [.int .i64 a1.params, .int .i64 a1.result, v2, v4], bx b7 25 [.int .i64 0, .int .i64 0, .slice none 0 0, .slice none 0 0], bx b8 25 [.int .i64 a1.params, .int .i64 a1.result, v10, v14], F11, F15, bx b34 85 [v28, v30, .int .i64 x22.term.kind, .int .i64 x22.term.arg, v32], F38].flatten ++ H) mix (srcG 0 rfl (srcG 1 rfl (srcG 2 rfl (srcG 3 rfl (srcG 4 rfl (srcG 5 rfl (srcG 8 rfl srcG0))))))) ?_
          refine HL.v 0 rfl trivial (by kernel_rfl) (by kernel_rfl) (by kernel_rfl) (ltb rfl) (rv_fa (b := b35) (o := 0) fa_85_0 h_61) ?_
          refine HL.v 2 rfl trivial (by kernel_rfl) (by kernel_rfl) (by kernel_rfl) (ltb rfl) (rv_fa (b := b34) (o := 0) fa_85_0 h_60) ?_
          refine HL.v 3 rfl trivial (by kernel_rfl) (by kernel_rfl) (by kernel_rfl) (ltb rfl) (rv_ld (v := v28) (o := 0) (o' := 0) (j := 0) sc_82 rfl (srcInG 5 rfl) (bx_cells b34 85 _) rfl rfl) ?_
          refine HL.v 4 rfl trivial (by kernel_rfl) (by kernel_rfl) (by kernel_rfl) (ltb rfl) (rv_mv (v := .int .i64 x44) h_62) ?_
          obtain ⟨x2088, hx_134, hp⟩ := bind_some' hp
          refine HL.w3 5 rfl trivial (by kernel_rfl) (by kernel_rfl) (by kernel_rfl) (ltb rfl) (rv_ix 82 (.tmp 54) (.tmp 55) (v := v28) (i := x44) Try.underlying82 inf_131 rfl rfl rfl h29 hx_134) fun b2089 o2090 c2091 h2092 h2093 => ?_
          obtain ⟨v2094, rfl, h2095⟩ := h2092
          refine HL.v 6 rfl trivial (by kernel_rfl) (by kernel_rfl) (by kernel_rfl) (ltb rfl) (rv_fa (b := b2089) (o := o2090) fa_131_0 rfl) ?_
          refine HL.v 7 rfl trivial (by kernel_rfl) (by kernel_rfl) (by kernel_rfl) (ltb rfl) (rv_ld (v := .int .i64 x2088.dst) (o := o2090) (o' := o2090) (j := 0) sc_3 rfl srcInH h2093 rfl rfl) ?_
          refine HL.v 9 rfl trivial (by kernel_rfl) (by kernel_rfl) (by kernel_rfl) (ltb rfl) (rv_fa (b := b34) (o := 0) fa_85_0 h_60) ?_
          refine HL.v 10 rfl trivial (by kernel_rfl) (by kernel_rfl) (by kernel_rfl) (ltb rfl) (rv_ld (v := v28) (o := 0) (o' := 0) (j := 0) sc_82 rfl (srcInG 5 rfl) (bx_cells b34 85 _) rfl rfl) ?_
          refine HL.v 11 rfl trivial (by kernel_rfl) (by kernel_rfl) (by kernel_rfl) (ltb rfl) (rv_mv (v := .int .i64 x44) h_62) ?_
          obtain ⟨x4888, hx_135, hp⟩ := bind_some' hp
          refine HL.w3 12 rfl trivial (by kernel_rfl) (by kernel_rfl) (by kernel_rfl) (ltb rfl) (rv_ix 82 (.tmp 61) (.tmp 62) (v := v28) (i := x44) Try.underlying82 inf_131 rfl rfl rfl h29 hx_135) fun b4889 o4890 c4891 h4892 h4893 => ?_
          obtain ⟨v4894, rfl, h4895⟩ := h4892
          refine HL.v 13 rfl trivial (by kernel_rfl) (by kernel_rfl) (by kernel_rfl) (ltb rfl) (rv_fa (b := b4889) (o := o4890) fa_131_1 rfl) ?_
          refine HL.v 14 rfl trivial (by kernel_rfl) (by kernel_rfl) (by kernel_rfl) (ltb rfl) (rv_ld (v := v4894) (o := o4890 + 1) (o' := o4890) (j := 1) sc_22 rfl srcInH h4893 rfl rfl) ?_
          refine HL.all [1, 8] (by kernel_rfl) (by simp) (HL.al ⟨_, rfl, fun K_136 hK_137 => ?_⟩ (HL.al ⟨_, rfl, fun K_150 hK_151 => ?_⟩ HL.al0))
          · refine TL.v (ltb rfl) (rv_ld (v := v41) (o := 0) (o' := 0) (j := 0) sc_82 rfl (Src.at_ 6 rfl) (bx_cells b35 85 _) rfl rfl) ?_
            refine TL.nil (hK_137 _ _ (srcG 0 rfl (srcG 1 rfl (srcG 2 rfl (srcG 3 rfl (srcG 4 rfl (srcG 5 rfl (srcG 8 rfl srcG0))))))) ?_)
            refine HL.one 8 rfl (by kernel_rfl) fun K_138 hK_139 => ?_
            refine TL.bs0 Try.underlying22 inf_3 (ltb rfl) fun b3288 => ?_
            refine TL.nil (hK_139 _ _ (srcG 1 rfl (srcG 2 rfl (srcG 3 rfl (srcG 4 rfl (srcG 5 rfl (srcG 6 rfl (srcG 9 rfl srcG0))))))) ?_)
            refine HL.one 15 rfl (by kernel_rfl) fun K_140 hK_141 => ?_
            obtain ⟨x6088, hz_142, hp⟩ := bind_some' hp
            refine TL.appI (u := v4894) (fInt .i64) Try.underlying22 inf_3 (ltb rfl) rfl (ltb rfl) rfl (leb rfl) rfl rfl (SlO.lit0 (k := (kInt .i64)) b3288) h4895 Src.H hz_142 fun v6089 F6090 h6091 => ?_
            refine TL.nil (hK_141 _ _ (srcG 1 rfl (srcG 2 rfl (srcG 3 rfl (srcG 4 rfl (srcG 5 rfl (srcG 6 rfl (srcG 9 rfl srcG0))))))) ?_)
            refine HL.v 16 rfl trivial (by kernel_rfl) (by kernel_rfl) (by kernel_rfl) (ltb rfl) (rv_bv (vs := [(0, .int .i64 x2088.dst), (1, v6089)]) (ds := [.int .i64 x2088.dst, v6089]) (pc rfl (pc rfl p0)) (fun w => by obtain ⟨_, _, rfl⟩ := (h6091).len; kernel_rfl)) ?_
            refine HL.one 17 rfl (by kernel_rfl) fun K_143 hK_144 => ?_
            refine TL.bv (vs := [(0, .agg #[.int .i64 x2088.dst, v6089])]) (cs := [.int .i64 x2088.dst, v6089]) (pc rfl p0) Try.underlying82 inf_131 (ltb rfl) (by decide) (by decide) (by kernel_rfl) fun b6888 => ?_
            refine TL.nil (hK_144 _ _ (srcG 2 rfl (srcG 3 rfl (srcG 4 rfl (srcG 5 rfl (srcG 6 rfl (srcG 7 rfl (srcG 10 rfl srcG0))))))) ?_)
            refine HL.one 18 rfl (by kernel_rfl) fun K_145 hK_146 => ?_
            refine TL.pk' [9, 0, 0, 0, 0, 0, 0, 0, 0, 0, 0] (L' := [F42, bx b6888 131 [.int .i64 x2088.dst, v6089], F6090, bx b6 25 [.int .i64 a1.params, .int .i64 a1.result, v2, v4], bx b7 25 [.int .i64 0, .int .i64 0, .slice none 0 0, .slice none 0 0], bx b8 25 [.int .i64 a1.params, .int .i64 a1.result, v10, v14], F11, F15, bx b34 85 [v28, v30, .int .i64 x22.term.kind, .int .i64 x22.term.arg, v32], bx b35 85 [v41, .slice none 0 0, .int .i64 x22.term.kind, .int .i64 x22.term.arg, v37], F38]) rfl ?_
            refine TL.perm (L' := [F42, bx b6888 131 [.int .i64 x2088.dst, v6089], F6090 ++ [], bx b6 25 [.int .i64 a1.params, .int .i64 a1.result, v2, v4], bx b7 25 [.int .i64 0, .int .i64 0, .slice none 0 0, .slice none 0 0], bx b8 25 [.int .i64 a1.params, .int .i64 a1.result, v10, v14], F11, F15, bx b34 85 [v28, v30, .int .i64 x22.term.kind, .int .i64 x22.term.arg, v32], bx b35 85 [v41, .slice none 0 0, .int .i64 x22.term.kind, .int .i64 x22.term.arg, v37], F38]) (by simp) ?_
            obtain ⟨x7288, hz_147, hp⟩ := bind_some' hp
            refine TL.app Try.underlying82 inf_131 (ltb rfl) rfl (ltb rfl) rfl (leb rfl) rfl rfl h43 (RepL.to (RepL.cons (k := kPhi) (x := (⟨x2088.dst, x6088⟩ : PPhi)) ⟨_, _, rfl, rfl, h6091⟩ RepL.nil) rfl) rfl rfl hz_147 fun v7289 F7290 h7291 => ?_
            refine TL.nil (hK_146 _ _ (srcG 1 rfl (srcG 2 rfl (srcG 3 rfl (srcG 4 rfl (srcG 5 rfl (srcG 6 rfl (srcG 8 rfl srcG0))))))) ?_)
            refine HL.v 19 rfl trivial (by kernel_rfl) (by kernel_rfl) (by kernel_rfl) (ltb rfl) (rv_fa (b := b35) (o := 0) fa_85_0 h_61) ?_
            refine HL.one 20 rfl (by kernel_rfl) fun K_148 hK_149 => ?_
            refine TL.stB (ds := [v7289]) (o := 0) (cs := [v41, .slice none 0 0, .int .i64 x22.term.kind, .int .i64 x22.term.arg, v37]) (b := b35) (u := v7289) 7 rfl ms_82 rfl rfl (SlO.cells h7291) (oc (h7291).one oc0) (leb rfl) ?_
            refine TL.norm (L' := [F7290, bx b6 25 [.int .i64 a1.params, .int .i64 a1.result, v2, v4], bx b7 25 [.int .i64 0, .int .i64 0, .slice none 0 0, .slice none 0 0], bx b8 25 [.int .i64 a1.params, .int .i64 a1.result, v10, v14], F11, F15, bx b34 85 [v28, v30, .int .i64 x22.term.kind, .int .i64 x22.term.arg, v32], bx b35 85 [v7289, .slice none 0 0, .int .i64 x22.term.kind, .int .i64 x22.term.arg, v37], F38]) rfl ?_
            refine TL.nil (hK_149 _ _ (srcG 1 rfl (srcG 2 rfl (srcG 3 rfl (srcG 4 rfl (srcG 5 rfl (srcG 6 rfl (srcG 8 rfl srcG0))))))) ?_)
            refine HL.done (by kernel_rfl) ?_
            refine fun w hw => hJ_133 x7288 v7289 F7290 _ h7291 ?_ ?_ ?_ ?_ ?_ ?_ ?_ hp w (hw.pick [1, 1, 1, 1, 1, 1, 1, 0, 0])
            · exact h_56
            · exact h_57
            · exact h_58
            · exact h_59
            · exact h_60
            · exact h_61
            · exact h_62
          · refine TL.bs0 Try.underlying22 inf_3 (ltb rfl) fun b3288 => ?_
            refine TL.nil (hK_151 _ _ (srcG 1 rfl (srcG 2 rfl (srcG 3 rfl (srcG 4 rfl (srcG 5 rfl (srcG 6 rfl (srcG 9 rfl srcG0))))))) ?_)
            refine HL.all [1, 15] (by kernel_rfl) (by simp) (HL.al ⟨_, rfl, fun K_152 hK_153 => ?_⟩ (HL.al ⟨_, rfl, fun K_164 hK_165 => ?_⟩ HL.al0))
            · refine TL.v (ltb rfl) (rv_ld (v := v41) (o := 0) (o' := 0) (j := 0) sc_82 rfl (Src.at_ 7 rfl) (bx_cells b35 85 _) rfl rfl) ?_
              refine TL.nil (hK_153 _ _ (srcG 1 rfl (srcG 2 rfl (srcG 3 rfl (srcG 4 rfl (srcG 5 rfl (srcG 6 rfl (srcG 9 rfl srcG0))))))) ?_)
              refine HL.one 15 rfl (by kernel_rfl) fun K_154 hK_155 => ?_
              obtain ⟨x6088, hz_156, hp⟩ := bind_some' hp
              refine TL.appI (u := v4894) (fInt .i64) Try.underlying22 inf_3 (ltb rfl) rfl (ltb rfl) rfl (leb rfl) rfl rfl (SlO.lit0 (k := (kInt .i64)) b3288) h4895 Src.H hz_156 fun v6089 F6090 h6091 => ?_
              refine TL.nil (hK_155 _ _ (srcG 1 rfl (srcG 2 rfl (srcG 3 rfl (srcG 4 rfl (srcG 5 rfl (srcG 6 rfl (srcG 9 rfl srcG0))))))) ?_)
              refine HL.v 16 rfl trivial (by kernel_rfl) (by kernel_rfl) (by kernel_rfl) (ltb rfl) (rv_bv (vs := [(0, .int .i64 x2088.dst), (1, v6089)]) (ds := [.int .i64 x2088.dst, v6089]) (pc rfl (pc rfl p0)) (fun w => by obtain ⟨_, _, rfl⟩ := (h6091).len; kernel_rfl)) ?_
              refine HL.one 17 rfl (by kernel_rfl) fun K_157 hK_158 => ?_
              refine TL.bv (vs := [(0, .agg #[.int .i64 x2088.dst, v6089])]) (cs := [.int .i64 x2088.dst, v6089]) (pc rfl p0) Try.underlying82 inf_131 (ltb rfl) (by decide) (by decide) (by kernel_rfl) fun b6888 => ?_
              refine TL.nil (hK_158 _ _ (srcG 2 rfl (srcG 3 rfl (srcG 4 rfl (srcG 5 rfl (srcG 6 rfl (srcG 7 rfl (srcG 10 rfl srcG0))))))) ?_)
              refine HL.one 18 rfl (by kernel_rfl) fun K_159 hK_160 => ?_
              refine TL.pk' [9, 0, 0, 0, 0, 0, 0, 0, 0, 0, 0] (L' := [F42, bx b6888 131 [.int .i64 x2088.dst, v6089], F6090, bx b6 25 [.int .i64 a1.params, .int .i64 a1.result, v2, v4], bx b7 25 [.int .i64 0, .int .i64 0, .slice none 0 0, .slice none 0 0], bx b8 25 [.int .i64 a1.params, .int .i64 a1.result, v10, v14], F11, F15, bx b34 85 [v28, v30, .int .i64 x22.term.kind, .int .i64 x22.term.arg, v32], bx b35 85 [v41, .slice none 0 0, .int .i64 x22.term.kind, .int .i64 x22.term.arg, v37], F38]) rfl ?_
              refine TL.perm (L' := [F42, bx b6888 131 [.int .i64 x2088.dst, v6089], F6090 ++ [], bx b6 25 [.int .i64 a1.params, .int .i64 a1.result, v2, v4], bx b7 25 [.int .i64 0, .int .i64 0, .slice none 0 0, .slice none 0 0], bx b8 25 [.int .i64 a1.params, .int .i64 a1.result, v10, v14], F11, F15, bx b34 85 [v28, v30, .int .i64 x22.term.kind, .int .i64 x22.term.arg, v32], bx b35 85 [v41, .slice none 0 0, .int .i64 x22.term.kind, .int .i64 x22.term.arg, v37], F38]) (by simp) ?_
              obtain ⟨x7288, hz_161, hp⟩ := bind_some' hp
              refine TL.app Try.underlying82 inf_131 (ltb rfl) rfl (ltb rfl) rfl (leb rfl) rfl rfl h43 (RepL.to (RepL.cons (k := kPhi) (x := (⟨x2088.dst, x6088⟩ : PPhi)) ⟨_, _, rfl, rfl, h6091⟩ RepL.nil) rfl) rfl rfl hz_161 fun v7289 F7290 h7291 => ?_
              refine TL.nil (hK_160 _ _ (srcG 1 rfl (srcG 2 rfl (srcG 3 rfl (srcG 4 rfl (srcG 5 rfl (srcG 6 rfl (srcG 8 rfl srcG0))))))) ?_)
              refine HL.v 19 rfl trivial (by kernel_rfl) (by kernel_rfl) (by kernel_rfl) (ltb rfl) (rv_fa (b := b35) (o := 0) fa_85_0 h_61) ?_
              refine HL.one 20 rfl (by kernel_rfl) fun K_162 hK_163 => ?_
              refine TL.stB (ds := [v7289]) (o := 0) (cs := [v41, .slice none 0 0, .int .i64 x22.term.kind, .int .i64 x22.term.arg, v37]) (b := b35) (u := v7289) 7 rfl ms_82 rfl rfl (SlO.cells h7291) (oc (h7291).one oc0) (leb rfl) ?_
              refine TL.norm (L' := [F7290, bx b6 25 [.int .i64 a1.params, .int .i64 a1.result, v2, v4], bx b7 25 [.int .i64 0, .int .i64 0, .slice none 0 0, .slice none 0 0], bx b8 25 [.int .i64 a1.params, .int .i64 a1.result, v10, v14], F11, F15, bx b34 85 [v28, v30, .int .i64 x22.term.kind, .int .i64 x22.term.arg, v32], bx b35 85 [v7289, .slice none 0 0, .int .i64 x22.term.kind, .int .i64 x22.term.arg, v37], F38]) rfl ?_
              refine TL.nil (hK_163 _ _ (srcG 1 rfl (srcG 2 rfl (srcG 3 rfl (srcG 4 rfl (srcG 5 rfl (srcG 6 rfl (srcG 8 rfl srcG0))))))) ?_)
              refine HL.done (by kernel_rfl) ?_
              refine fun w hw => hJ_133 x7288 v7289 F7290 _ h7291 ?_ ?_ ?_ ?_ ?_ ?_ ?_ hp w (hw.pick [1, 1, 1, 1, 1, 1, 1, 0, 0])
              · exact h_56
              · exact h_57
              · exact h_58
              · exact h_59
              · exact h_60
              · exact h_61
              · exact h_62
            · obtain ⟨x6088, hz_166, hp⟩ := bind_some' hp
              refine TL.appI (u := v4894) (fInt .i64) Try.underlying22 inf_3 (ltb rfl) rfl (ltb rfl) rfl (leb rfl) rfl rfl (SlO.lit0 (k := (kInt .i64)) b3288) h4895 Src.H hz_166 fun v6089 F6090 h6091 => ?_
              refine TL.nil (hK_165 _ _ (srcG 1 rfl (srcG 2 rfl (srcG 3 rfl (srcG 4 rfl (srcG 5 rfl (srcG 6 rfl (srcG 9 rfl srcG0))))))) ?_)
              refine HL.v 16 rfl trivial (by kernel_rfl) (by kernel_rfl) (by kernel_rfl) (ltb rfl) (rv_bv (vs := [(0, .int .i64 x2088.dst), (1, v6089)]) (ds := [.int .i64 x2088.dst, v6089]) (pc rfl (pc rfl p0)) (fun w => by obtain ⟨_, _, rfl⟩ := (h6091).len; kernel_rfl)) ?_
              refine HL.all [1, 17] (by kernel_rfl) (by simp) (HL.al ⟨_, rfl, fun K_167 hK_168 => ?_⟩ (HL.al ⟨_, rfl, fun K_176 hK_177 => ?_⟩ HL.al0))
              · refine TL.v (ltb rfl) (rv_ld (v := v41) (o := 0) (o' := 0) (j := 0) sc_82 rfl (Src.at_ 7 rfl) (bx_cells b35 85 _) rfl rfl) ?_
                refine TL.nil (hK_168 _ _ (srcG 1 rfl (srcG 2 rfl (srcG 3 rfl (srcG 4 rfl (srcG 5 rfl (srcG 6 rfl (srcG 9 rfl srcG0))))))) ?_)
                refine HL.one 17 rfl (by kernel_rfl) fun K_169 hK_170 => ?_
                refine TL.bv (vs := [(0, .agg #[.int .i64 x2088.dst, v6089])]) (cs := [.int .i64 x2088.dst, v6089]) (pc rfl p0) Try.underlying82 inf_131 (ltb rfl) (by decide) (by decide) (by kernel_rfl) fun b6888 => ?_
                refine TL.nil (hK_170 _ _ (srcG 2 rfl (srcG 3 rfl (srcG 4 rfl (srcG 5 rfl (srcG 6 rfl (srcG 7 rfl (srcG 10 rfl srcG0))))))) ?_)
                refine HL.one 18 rfl (by kernel_rfl) fun K_171 hK_172 => ?_
                refine TL.pk' [9, 0, 0, 0, 0, 0, 0, 0, 0, 0, 0] (L' := [F42, bx b6888 131 [.int .i64 x2088.dst, v6089], F6090, bx b6 25 [.int .i64 a1.params, .int .i64 a1.result, v2, v4], bx b7 25 [.int .i64 0, .int .i64 0, .slice none 0 0, .slice none 0 0], bx b8 25 [.int .i64 a1.params, .int .i64 a1.result, v10, v14], F11, F15, bx b34 85 [v28, v30, .int .i64 x22.term.kind, .int .i64 x22.term.arg, v32], bx b35 85 [v41, .slice none 0 0, .int .i64 x22.term.kind, .int .i64 x22.term.arg, v37], F38]) rfl ?_
                refine TL.perm (L' := [F42, bx b6888 131 [.int .i64 x2088.dst, v6089], F6090 ++ [], bx b6 25 [.int .i64 a1.params, .int .i64 a1.result, v2, v4], bx b7 25 [.int .i64 0, .int .i64 0, .slice none 0 0, .slice none 0 0], bx b8 25 [.int .i64 a1.params, .int .i64 a1.result, v10, v14], F11, F15, bx b34 85 [v28, v30, .int .i64 x22.term.kind, .int .i64 x22.term.arg, v32], bx b35 85 [v41, .slice none 0 0, .int .i64 x22.term.kind, .int .i64 x22.term.arg, v37], F38]) (by simp) ?_
                obtain ⟨x7288, hz_173, hp⟩ := bind_some' hp
                refine TL.app Try.underlying82 inf_131 (ltb rfl) rfl (ltb rfl) rfl (leb rfl) rfl rfl h43 (RepL.to (RepL.cons (k := kPhi) (x := (⟨x2088.dst, x6088⟩ : PPhi)) ⟨_, _, rfl, rfl, h6091⟩ RepL.nil) rfl) rfl rfl hz_173 fun v7289 F7290 h7291 => ?_
                refine TL.nil (hK_172 _ _ (srcG 1 rfl (srcG 2 rfl (srcG 3 rfl (srcG 4 rfl (srcG 5 rfl (srcG 6 rfl (srcG 8 rfl srcG0))))))) ?_)
                refine HL.v 19 rfl trivial (by kernel_rfl) (by kernel_rfl) (by kernel_rfl) (ltb rfl) (rv_fa (b := b35) (o := 0) fa_85_0 h_61) ?_
                refine HL.one 20 rfl (by kernel_rfl) fun K_174 hK_175 => ?_
                refine TL.stB (ds := [v7289]) (o := 0) (cs := [v41, .slice none 0 0, .int .i64 x22.term.kind, .int .i64 x22.term.arg, v37]) (b := b35) (u := v7289) 7 rfl ms_82 rfl rfl (SlO.cells h7291) (oc (h7291).one oc0) (leb rfl) ?_
                refine TL.norm (L' := [F7290, bx b6 25 [.int .i64 a1.params, .int .i64 a1.result, v2, v4], bx b7 25 [.int .i64 0, .int .i64 0, .slice none 0 0, .slice none 0 0], bx b8 25 [.int .i64 a1.params, .int .i64 a1.result, v10, v14], F11, F15, bx b34 85 [v28, v30, .int .i64 x22.term.kind, .int .i64 x22.term.arg, v32], bx b35 85 [v7289, .slice none 0 0, .int .i64 x22.term.kind, .int .i64 x22.term.arg, v37], F38]) rfl ?_
                refine TL.nil (hK_175 _ _ (srcG 1 rfl (srcG 2 rfl (srcG 3 rfl (srcG 4 rfl (srcG 5 rfl (srcG 6 rfl (srcG 8 rfl srcG0))))))) ?_)
                refine HL.done (by kernel_rfl) ?_
                refine fun w hw => hJ_133 x7288 v7289 F7290 _ h7291 ?_ ?_ ?_ ?_ ?_ ?_ ?_ hp w (hw.pick [1, 1, 1, 1, 1, 1, 1, 0, 0])
                · exact h_56
                · exact h_57
                · exact h_58
                · exact h_59
                · exact h_60
                · exact h_61
                · exact h_62
              · refine TL.bv (vs := [(0, .agg #[.int .i64 x2088.dst, v6089])]) (cs := [.int .i64 x2088.dst, v6089]) (pc rfl p0) Try.underlying82 inf_131 (ltb rfl) (by decide) (by decide) (by kernel_rfl) fun b6888 => ?_
                refine TL.nil (hK_177 _ _ (srcG 2 rfl (srcG 3 rfl (srcG 4 rfl (srcG 5 rfl (srcG 6 rfl (srcG 7 rfl (srcG 10 rfl srcG0))))))) ?_)
                refine HL.one 1 rfl (by kernel_rfl) fun K_178 hK_179 => ?_
                refine TL.v (ltb rfl) (rv_ld (v := v41) (o := 0) (o' := 0) (j := 0) sc_82 rfl (Src.at_ 8 rfl) (bx_cells b35 85 _) rfl rfl) ?_
                refine TL.nil (hK_179 _ _ (srcG 2 rfl (srcG 3 rfl (srcG 4 rfl (srcG 5 rfl (srcG 6 rfl (srcG 7 rfl (srcG 10 rfl srcG0))))))) ?_)
                refine HL.one 18 rfl (by kernel_rfl) fun K_180 hK_181 => ?_
                refine TL.pk' [9, 0, 0, 0, 0, 0, 0, 0, 0, 0, 0] (L' := [F42, bx b6888 131 [.int .i64 x2088.dst, v6089], F6090, bx b6 25 [.int .i64 a1.params, .int .i64 a1.result, v2, v4], bx b7 25 [.int .i64 0, .int .i64 0, .slice none 0 0, .slice none 0 0], bx b8 25 [.int .i64 a1.params, .int .i64 a1.result, v10, v14], F11, F15, bx b34 85 [v28, v30, .int .i64 x22.term.kind, .int .i64 x22.term.arg, v32], bx b35 85 [v41, .slice none 0 0, .int .i64 x22.term.kind, .int .i64 x22.term.arg, v37], F38]) rfl ?_
                refine TL.perm (L' := [F42, bx b6888 131 [.int .i64 x2088.dst, v6089], F6090 ++ [], bx b6 25 [.int .i64 a1.params, .int .i64 a1.result, v2, v4], bx b7 25 [.int .i64 0, .int .i64 0, .slice none 0 0, .slice none 0 0], bx b8 25 [.int .i64 a1.params, .int .i64 a1.result, v10, v14], F11, F15, bx b34 85 [v28, v30, .int .i64 x22.term.kind, .int .i64 x22.term.arg, v32], bx b35 85 [v41, .slice none 0 0, .int .i64 x22.term.kind, .int .i64 x22.term.arg, v37], F38]) (by simp) ?_
                obtain ⟨x7288, hz_182, hp⟩ := bind_some' hp
                refine TL.app Try.underlying82 inf_131 (ltb rfl) rfl (ltb rfl) rfl (leb rfl) rfl rfl h43 (RepL.to (RepL.cons (k := kPhi) (x := (⟨x2088.dst, x6088⟩ : PPhi)) ⟨_, _, rfl, rfl, h6091⟩ RepL.nil) rfl) rfl rfl hz_182 fun v7289 F7290 h7291 => ?_
                refine TL.nil (hK_181 _ _ (srcG 1 rfl (srcG 2 rfl (srcG 3 rfl (srcG 4 rfl (srcG 5 rfl (srcG 6 rfl (srcG 8 rfl srcG0))))))) ?_)
                refine HL.v 19 rfl trivial (by kernel_rfl) (by kernel_rfl) (by kernel_rfl) (ltb rfl) (rv_fa (b := b35) (o := 0) fa_85_0 h_61) ?_
                refine HL.one 20 rfl (by kernel_rfl) fun K_183 hK_184 => ?_
                refine TL.stB (ds := [v7289]) (o := 0) (cs := [v41, .slice none 0 0, .int .i64 x22.term.kind, .int .i64 x22.term.arg, v37]) (b := b35) (u := v7289) 7 rfl ms_82 rfl rfl (SlO.cells h7291) (oc (h7291).one oc0) (leb rfl) ?_
                refine TL.norm (L' := [F7290, bx b6 25 [.int .i64 a1.params, .int .i64 a1.result, v2, v4], bx b7 25 [.int .i64 0, .int .i64 0, .slice none 0 0, .slice none 0 0], bx b8 25 [.int .i64 a1.params, .int .i64 a1.result, v10, v14], F11, F15, bx b34 85 [v28, v30, .int .i64 x22.term.kind, .int .i64 x22.term.arg, v32], bx b35 85 [v7289, .slice none 0 0, .int .i64 x22.term.kind, .int .i64 x22.term.arg, v37], F38]) rfl ?_
                refine TL.nil (hK_184 _ _ (srcG 1 rfl (srcG 2 rfl (srcG 3 rfl (srcG 4 rfl (srcG 5 rfl (srcG 6 rfl (srcG 8 rfl srcG0))))))) ?_)
                refine HL.done (by kernel_rfl) ?_
                refine fun w hw => hJ_133 x7288 v7289 F7290 _ h7291 ?_ ?_ ?_ ?_ ?_ ?_ ?_ hp w (hw.pick [1, 1, 1, 1, 1, 1, 1, 0, 0])
                · exact h_56
                · exact h_57
                · exact h_58
                · exact h_59
                · exact h_60
                · exact h_61
                · exact h_62
        · rw [if_neg hc_122] at hp
          refine TC.condF (bF hc_122) ?_
          refine TC.exit ?_
          refine fun w hw => hJ_116 x40 v41 F42 _ h43 ?_ ?_ ?_ ?_ ?_ ?_ (ex_ret hp hx_67) w (hw.pick [0, 0, 0, 0, 0, 0, 0, 0, 0])
          · exact h_56
          · exact h_57
          · exact h_58
          · exact h_59
          · exact h_60
          · exact h_61
      refine TC.held ([bx b34 85 [v28, v30, .int .i64 x22.term.kind, .int .i64 x22.term.arg, v32], bx b6 25 [.int .i64 a1.params, .int .i64 a1.result, v2, v4], bx b7 25 [.int .i64 0, .int .i64 0, .slice none 0 0, .slice none 0 0], bx b8 25 [.int .i64 a1.params, .int .i64 a1.result, v10, v14], F11, F15].flatten ++ H) mix (srcG 0 rfl (srcG 1 rfl (srcG 2 rfl (srcG 3 rfl (srcG 4 rfl (srcG 5 rfl srcG0)))))) ?_
      refine HL.v 0 rfl trivial (by kernel_rfl) (by kernel_rfl) (by kernel_rfl) (ltb rfl) (rv_fa (b := b34) (o := 0) fa_85_2 rfl) ?_
      refine HL.v 1 rfl trivial (by kernel_rfl) (by kernel_rfl) (by kernel_rfl) (ltb rfl) (rv_fa (b := b34) (o := 2) fa_81_0 rfl) ?_
      refine HL.v 2 rfl trivial (by kernel_rfl) (by kernel_rfl) (by kernel_rfl) (ltb rfl) (rv_ld (v := .int .i64 x22.term.kind) (o := 2) (o' := 0) (j := 2) sc_3 rfl (srcInG 0 rfl) (bx_cells b34 85 _) rfl rfl) ?_
      refine HL.v 3 rfl trivial (by kernel_rfl) (by kernel_rfl) (by kernel_rfl) (ltb rfl) (rv_fa (b := b34) (o := 0) fa_85_2 rfl) ?_
      refine HL.v 4 rfl trivial (by kernel_rfl) (by kernel_rfl) (by kernel_rfl) (ltb rfl) (rv_fa (b := b34) (o := 2) fa_81_1 rfl) ?_
      refine HL.v 5 rfl trivial (by kernel_rfl) (by kernel_rfl) (by kernel_rfl) (ltb rfl) (rv_ld (v := .int .i64 x22.term.arg) (o := 3) (o' := 0) (j := 3) sc_3 rfl (srcInG 0 rfl) (bx_cells b34 85 _) rfl rfl) ?_
      refine HL.v 7 rfl trivial (by kernel_rfl) (by kernel_rfl) (by kernel_rfl) (ltb rfl) (rv_fa (b := b34) (o := 0) fa_85_2 rfl) ?_
      refine HL.v 8 rfl trivial (by kernel_rfl) (by kernel_rfl) (by kernel_rfl) (ltb rfl) (rv_fa (b := b34) (o := 2) fa_81_2 rfl) ?_
      refine HL.v 9 rfl trivial (by kernel_rfl) (by kernel_rfl) (by kernel_rfl) (ltb rfl) (rv_ld (v := v32) (o := 4) (o' := 0) (j := 4) sc_22 rfl (srcInG 0 rfl) (bx_cells b34 85 _) rfl rfl) ?_
      refine HL.all [6, 13] (by kernel_rfl) (by simp) (HL.al ⟨_, rfl, fun K_186 hK_187 => ?_⟩ (HL.al ⟨_, rfl, fun K_202 hK_203 => ?_⟩ HL.al0))
      · refine TL.bs0 Try.underlying22 inf_3 (ltb rfl) fun b10890 => ?_
        refine TL.nil (hK_187 _ _ (srcG 1 rfl (srcG 2 rfl (srcG 3 rfl (srcG 4 rfl (srcG 5 rfl (srcG 6 rfl srcG0)))))) ?_)
        refine HL.all [10, 13] (by kernel_rfl) (by simp) (HL.al ⟨_, rfl, fun K_188 hK_189 => ?_⟩ (HL.al ⟨_, rfl, fun K_195 hK_196 => ?_⟩ HL.al0))
        · obtain ⟨x12490, hz_190, hp⟩ := bind_some' hp
          refine TL.appI (u := v32) (fInt .i64) Try.underlying22 inf_3 (ltb rfl) rfl (ltb rfl) rfl (leb rfl) rfl rfl (SlO.lit0 (k := (kInt .i64)) b10890) h33 Src.H hz_190 fun v12491 F12492 h12493 => ?_
          refine TL.nil (hK_189 _ _ (srcG 1 rfl (srcG 2 rfl (srcG 3 rfl (srcG 4 rfl (srcG 5 rfl (srcG 6 rfl srcG0)))))) ?_)
          refine HL.v 11 rfl trivial (by kernel_rfl) (by kernel_rfl) (by kernel_rfl) (ltb rfl) (rv_bv (vs := [(0, .int .i64 x22.term.kind), (1, .int .i64 x22.term.arg), (2, v12491)]) (ds := [.int .i64 x22.term.kind, .int .i64 x22.term.arg, v12491]) (pc rfl (pc rfl (pc rfl p0))) (fun w => by obtain ⟨_, _, rfl⟩ := (h12493).len; kernel_rfl)) ?_
          refine HL.v 12 rfl trivial (by kernel_rfl) (by kernel_rfl) (by kernel_rfl) (ltb rfl) (rv_bv (vs := [(2, .agg #[.int .i64 x22.term.kind, .int .i64 x22.term.arg, v12491])]) (ds := [.slice none 0 0, .slice none 0 0, .int .i64 x22.term.kind, .int .i64 x22.term.arg, v12491]) (pc rfl p0) (fun w => by kernel_rfl)) ?_
          refine HL.one 13 rfl (by kernel_rfl) fun K_191 hK_192 => ?_
          refine TL.alloc (cs := [.slice none 0 0, .slice none 0 0, .int .i64 0, .int .i64 0, .slice none 0 0]) inf_85 (ltb rfl) rfl fun b13690 => ?_
          refine TL.nil (hK_192 _ _ (srcG 2 rfl (srcG 3 rfl (srcG 4 rfl (srcG 5 rfl (srcG 6 rfl (srcG 7 rfl srcG0)))))) ?_)
          refine HL.one 14 rfl (by kernel_rfl) fun K_193 hK_194 => ?_
          refine TL.stB (ds := [.slice none 0 0, .slice none 0 0, .int .i64 x22.term.kind, .int .i64 x22.term.arg, v12491]) (o := 0) (cs := [.slice none 0 0, .slice none 0 0, .int .i64 0, .int .i64 0, .slice none 0 0]) (b := b13690) (u := .agg #[.slice none 0 0, .slice none 0 0, .int .i64 x22.term.kind, .int .i64 x22.term.arg, v12491]) 0 rfl ms_85 rfl rfl rfl (oc rfl (oc rfl (oc rfl (oc rfl (oc (h12493).one oc0))))) (leb rfl) ?_
          refine TL.norm (L' := [bx b13690 85 [.slice none 0 0, .slice none 0 0, .int .i64 x22.term.kind, .int .i64 x22.term.arg, v12491], F12492, bx b34 85 [v28, v30, .int .i64 x22.term.kind, .int .i64 x22.term.arg, v32], bx b6 25 [.int .i64 a1.params, .int .i64 a1.result, v2, v4], bx b7 25 [.int .i64 0, .int .i64 0, .slice none 0 0, .slice none 0 0], bx b8 25 [.int .i64 a1.params, .int .i64 a1.result, v10, v14], F11, F15]) rfl ?_
          refine TL.nil (hK_194 _ _ (srcG 2 rfl (srcG 3 rfl (srcG 4 rfl (srcG 5 rfl (srcG 6 rfl (srcG 7 rfl srcG0)))))) ?_)
          refine HL.done (by kernel_rfl) ?_
          refine fun w hw => hJ_50 x12490 b13690 v12491 F12492 _ h12493 ?_ ?_ ?_ ?_ ?_ ?_ hp w (hw.pick [3, 3, 3, 3, 3, 2, 0, 0])
          · exact h_15
          · exact h_16
          · exact h_17
          · exact h_18
          · exact rfl
          · exact rfl
        · refine TL.alloc (cs := [.slice none 0 0, .slice none 0 0, .int .i64 0, .int .i64 0, .slice none 0 0]) inf_85 (ltb rfl) rfl fun b13690 => ?_
          refine TL.nil (hK_196 _ _ (srcG 2 rfl (srcG 3 rfl (srcG 4 rfl (srcG 5 rfl (srcG 6 rfl (srcG 7 rfl srcG0)))))) ?_)
          refine HL.one 10 rfl (by kernel_rfl) fun K_197 hK_198 => ?_
          refine TL.pk' [1, 0, 0, 0, 0, 0, 0, 0] (L' := [(bx b10890 3 []), bx b13690 85 [.slice none 0 0, .slice none 0 0, .int .i64 0, .int .i64 0, .slice none 0 0], bx b34 85 [v28, v30, .int .i64 x22.term.kind, .int .i64 x22.term.arg, v32], bx b6 25 [.int .i64 a1.params, .int .i64 a1.result, v2, v4], bx b7 25 [.int .i64 0, .int .i64 0, .slice none 0 0, .slice none 0 0], bx b8 25 [.int .i64 a1.params, .int .i64 a1.result, v10, v14], F11, F15]) rfl ?_
          obtain ⟨x12490, hz_199, hp⟩ := bind_some' hp
          refine TL.appI (u := v32) (fInt .i64) Try.underlying22 inf_3 (ltb rfl) rfl (ltb rfl) rfl (leb rfl) rfl rfl (SlO.lit0 (k := (kInt .i64)) b10890) h33 Src.H hz_199 fun v12491 F12492 h12493 => ?_
          refine TL.nil (hK_198 _ _ (srcG 2 rfl (srcG 3 rfl (srcG 4 rfl (srcG 5 rfl (srcG 6 rfl (srcG 7 rfl srcG0)))))) ?_)
          refine HL.v 11 rfl trivial (by kernel_rfl) (by kernel_rfl) (by kernel_rfl) (ltb rfl) (rv_bv (vs := [(0, .int .i64 x22.term.kind), (1, .int .i64 x22.term.arg), (2, v12491)]) (ds := [.int .i64 x22.term.kind, .int .i64 x22.term.arg, v12491]) (pc rfl (pc rfl (pc rfl p0))) (fun w => by obtain ⟨_, _, rfl⟩ := (h12493).len; kernel_rfl)) ?_
          refine HL.v 12 rfl trivial (by kernel_rfl) (by kernel_rfl) (by kernel_rfl) (ltb rfl) (rv_bv (vs := [(2, .agg #[.int .i64 x22.term.kind, .int .i64 x22.term.arg, v12491])]) (ds := [.slice none 0 0, .slice none 0 0, .int .i64 x22.term.kind, .int .i64 x22.term.arg, v12491]) (pc rfl p0) (fun w => by kernel_rfl)) ?_
          refine HL.one 14 rfl (by kernel_rfl) fun K_200 hK_201 => ?_
          refine TL.stB (ds := [.slice none 0 0, .slice none 0 0, .int .i64 x22.term.kind, .int .i64 x22.term.arg, v12491]) (o := 0) (cs := [.slice none 0 0, .slice none 0 0, .int .i64 0, .int .i64 0, .slice none 0 0]) (b := b13690) (u := .agg #[.slice none 0 0, .slice none 0 0, .int .i64 x22.term.kind, .int .i64 x22.term.arg, v12491]) 1 rfl ms_85 rfl rfl rfl (oc rfl (oc rfl (oc rfl (oc rfl (oc (h12493).one oc0))))) (leb rfl) ?_
          refine TL.norm (L' := [F12492, bx b13690 85 [.slice none 0 0, .slice none 0 0, .int .i64 x22.term.kind, .int .i64 x22.term.arg, v12491], bx b34 85 [v28, v30, .int .i64 x22.term.kind, .int .i64 x22.term.arg, v32], bx b6 25 [.int .i64 a1.params, .int .i64 a1.result, v2, v4], bx b7 25 [.int .i64 0, .int .i64 0, .slice none 0 0, .slice none 0 0], bx b8 25 [.int .i64 a1.params, .int .i64 a1.result, v10, v14], F11, F15]) rfl ?_
          refine TL.nil (hK_201 _ _ (srcG 2 rfl (srcG 3 rfl (srcG 4 rfl (srcG 5 rfl (srcG 6 rfl (srcG 7 rfl srcG0)))))) ?_)
          refine HL.done (by kernel_rfl) ?_
          refine fun w hw => hJ_50 x12490 b13690 v12491 F12492 _ h12493 ?_ ?_ ?_ ?_ ?_ ?_ hp w (hw.pick [3, 3, 3, 3, 3, 2, 1, 0])
          · exact h_15
          · exact h_16
          · exact h_17
          · exact h_18
          · exact rfl
          · exact rfl
      · refine TL.alloc (cs := [.slice none 0 0, .slice none 0 0, .int .i64 0, .int .i64 0, .slice none 0 0]) inf_85 (ltb rfl) rfl fun b13690 => ?_
        refine TL.nil (hK_203 _ _ (srcG 1 rfl (srcG 2 rfl (srcG 3 rfl (srcG 4 rfl (srcG 5 rfl (srcG 6 rfl srcG0)))))) ?_)
        refine HL.one 6 rfl (by kernel_rfl) fun K_204 hK_205 => ?_
        refine TL.bs0 Try.underlying22 inf_3 (ltb rfl) fun b10890 => ?_
        refine TL.nil (hK_205 _ _ (srcG 2 rfl (srcG 3 rfl (srcG 4 rfl (srcG 5 rfl (srcG 6 rfl (srcG 7 rfl srcG0)))))) ?_)
        refine HL.one 10 rfl (by kernel_rfl) fun K_206 hK_207 => ?_
        obtain ⟨x12490, hz_208, hp⟩ := bind_some' hp
        refine TL.appI (u := v32) (fInt .i64) Try.underlying22 inf_3 (ltb rfl) rfl (ltb rfl) rfl (leb rfl) rfl rfl (SlO.lit0 (k := (kInt .i64)) b10890) h33 Src.H hz_208 fun v12491 F12492 h12493 => ?_
        refine TL.nil (hK_207 _ _ (srcG 2 rfl (srcG 3 rfl (srcG 4 rfl (srcG 5 rfl (srcG 6 rfl (srcG 7 rfl srcG0)))))) ?_)
        refine HL.v 11 rfl trivial (by kernel_rfl) (by kernel_rfl) (by kernel_rfl) (ltb rfl) (rv_bv (vs := [(0, .int .i64 x22.term.kind), (1, .int .i64 x22.term.arg), (2, v12491)]) (ds := [.int .i64 x22.term.kind, .int .i64 x22.term.arg, v12491]) (pc rfl (pc rfl (pc rfl p0))) (fun w => by obtain ⟨_, _, rfl⟩ := (h12493).len; kernel_rfl)) ?_
        refine HL.v 12 rfl trivial (by kernel_rfl) (by kernel_rfl) (by kernel_rfl) (ltb rfl) (rv_bv (vs := [(2, .agg #[.int .i64 x22.term.kind, .int .i64 x22.term.arg, v12491])]) (ds := [.slice none 0 0, .slice none 0 0, .int .i64 x22.term.kind, .int .i64 x22.term.arg, v12491]) (pc rfl p0) (fun w => by kernel_rfl)) ?_
        refine HL.one 14 rfl (by kernel_rfl) fun K_209 hK_210 => ?_
        refine TL.stB (ds := [.slice none 0 0, .slice none 0 0, .int .i64 x22.term.kind, .int .i64 x22.term.arg, v12491]) (o := 0) (cs := [.slice none 0 0, .slice none 0 0, .int .i64 0, .int .i64 0, .slice none 0 0]) (b := b13690) (u := .agg #[.slice none 0 0, .slice none 0 0, .int .i64 x22.term.kind, .int .i64 x22.term.arg, v12491]) 1 rfl ms_85 rfl rfl rfl (oc rfl (oc rfl (oc rfl (oc rfl (oc (h12493).one oc0))))) (leb rfl) ?_
        refine TL.norm (L' := [F12492, bx b13690 85 [.slice none 0 0, .slice none 0 0, .int .i64 x22.term.kind, .int .i64 x22.term.arg, v12491], bx b34 85 [v28, v30, .int .i64 x22.term.kind, .int .i64 x22.term.arg, v32], bx b6 25 [.int .i64 a1.params, .int .i64 a1.result, v2, v4], bx b7 25 [.int .i64 0, .int .i64 0, .slice none 0 0, .slice none 0 0], bx b8 25 [.int .i64 a1.params, .int .i64 a1.result, v10, v14], F11, F15]) rfl ?_
        refine TL.nil (hK_210 _ _ (srcG 2 rfl (srcG 3 rfl (srcG 4 rfl (srcG 5 rfl (srcG 6 rfl (srcG 7 rfl srcG0)))))) ?_)
        refine HL.done (by kernel_rfl) ?_
        refine fun w hw => hJ_50 x12490 b13690 v12491 F12492 _ h12493 ?_ ?_ ?_ ?_ ?_ ?_ hp w (hw.pick [3, 3, 3, 3, 3, 2, 1, 0])
        · exact h_15
        · exact h_16
        · exact h_17
        · exact h_18
        · exact rfl
        · exact rfl
    · rw [if_neg hc_35] at hp
      refine TC.condF (bF hc_35) ?_
      refine TC.exit ?_
      refine fun w hw => hJ_29 x13 v14 F15 _ h16 ?_ ?_ (ex_ret hp hx_23) w (hw.pick [1, 1, 1, 1])
      · exact h_16
      · exact h_17
  refine TC.held ([bx b7 25 [.int .i64 0, .int .i64 0, .slice none 0 0, .slice none 0 0], bx b6 25 [.int .i64 a1.params, .int .i64 a1.result, v2, v4]].flatten ++ H) mix (srcG 0 rfl (srcG 1 rfl srcG0)) ?_
  refine HL.v 0 rfl trivial (by kernel_rfl) (by kernel_rfl) (by kernel_rfl) (ltb rfl) (rv_fa (b := b6) (o := 0) fa_25_0 rfl) ?_
  refine HL.v 1 rfl trivial (by kernel_rfl) (by kernel_rfl) (by kernel_rfl) (ltb rfl) (rv_ld (v := .int .i64 a1.params) (o := 0) (o' := 0) (j := 0) sc_3 rfl (srcInG 1 rfl) (bx_cells b6 25 _) rfl rfl) ?_
  refine HL.v 2 rfl trivial (by kernel_rfl) (by kernel_rfl) (by kernel_rfl) (ltb rfl) (rv_fa (b := b6) (o := 0) fa_25_1 rfl) ?_
  refine HL.v 3 rfl trivial (by kernel_rfl) (by kernel_rfl) (by kernel_rfl) (ltb rfl) (rv_ld (v := .int .i64 a1.result) (o := 1) (o' := 0) (j := 1) sc_3 rfl (srcInG 1 rfl) (bx_cells b6 25 _) rfl rfl) ?_
  refine HL.v 5 rfl trivial (by kernel_rfl) (by kernel_rfl) (by kernel_rfl) (ltb rfl) (rv_fa (b := b6) (o := 0) fa_25_2 rfl) ?_
  refine HL.v 6 rfl trivial (by kernel_rfl) (by kernel_rfl) (by kernel_rfl) (ltb rfl) (rv_ld (v := v2) (o := 2) (o' := 0) (j := 2) sc_22 rfl (srcInG 1 rfl) (bx_cells b6 25 _) rfl rfl) ?_
  refine HL.all [4, 9] (by kernel_rfl) (by simp) (HL.al ⟨_, rfl, fun K_212 hK_213 => ?_⟩ (HL.al ⟨_, rfl, fun K_228 hK_229 => ?_⟩ HL.al0))
  · refine TL.bs0 Try.underlying22 inf_3 (ltb rfl) fun b16092 => ?_
    refine TL.nil (hK_213 _ _ (srcG 1 rfl (srcG 2 rfl srcG0)) ?_)
    refine HL.all [7, 9] (by kernel_rfl) (by simp) (HL.al ⟨_, rfl, fun K_214 hK_215 => ?_⟩ (HL.al ⟨_, rfl, fun K_221 hK_222 => ?_⟩ HL.al0))
    · obtain ⟨x17292, hz_216, hp⟩ := bind_some' hp
      refine TL.appI (u := v2) (fInt .i64) Try.underlying22 inf_3 (ltb rfl) rfl (ltb rfl) rfl (leb rfl) rfl rfl (SlO.lit0 (k := (kInt .i64)) b16092) h3 Src.H hz_216 fun v17293 F17294 h17295 => ?_
      refine TL.nil (hK_215 _ _ (srcG 1 rfl (srcG 2 rfl srcG0)) ?_)
      refine HL.v 8 rfl trivial (by kernel_rfl) (by kernel_rfl) (by kernel_rfl) (ltb rfl) (rv_bv (vs := [(0, .int .i64 a1.params), (1, .int .i64 a1.result), (2, v17293)]) (ds := [.int .i64 a1.params, .int .i64 a1.result, v17293, .slice none 0 0]) (pc rfl (pc rfl (pc rfl p0))) (fun w => by obtain ⟨_, _, rfl⟩ := (h17295).len; kernel_rfl)) ?_
      refine HL.one 9 rfl (by kernel_rfl) fun K_217 hK_218 => ?_
      refine TL.alloc (cs := [.int .i64 0, .int .i64 0, .slice none 0 0, .slice none 0 0]) inf_25 (ltb rfl) rfl fun b18092 => ?_
      refine TL.nil (hK_218 _ _ (srcG 2 rfl (srcG 3 rfl srcG0)) ?_)
      refine HL.one 10 rfl (by kernel_rfl) fun K_219 hK_220 => ?_
      refine TL.stB (ds := [.int .i64 a1.params, .int .i64 a1.result, v17293, .slice none 0 0]) (o := 0) (cs := [.int .i64 0, .int .i64 0, .slice none 0 0, .slice none 0 0]) (b := b18092) (u := .agg #[.int .i64 a1.params, .int .i64 a1.result, v17293, .slice none 0 0]) 0 rfl ms_25 rfl rfl rfl (oc rfl (oc rfl (oc (h17295).one (oc rfl oc0)))) (leb rfl) ?_
      refine TL.norm (L' := [bx b18092 25 [.int .i64 a1.params, .int .i64 a1.result, v17293, .slice none 0 0], F17294, bx b7 25 [.int .i64 0, .int .i64 0, .slice none 0 0, .slice none 0 0], bx b6 25 [.int .i64 a1.params, .int .i64 a1.result, v2, v4]]) rfl ?_
      refine TL.nil (hK_220 _ _ (srcG 2 rfl (srcG 3 rfl srcG0)) ?_)
      refine HL.done (by kernel_rfl) ?_
      refine fun w hw => hJ_9 x17292 b18092 v17293 F17294 _ h17295 ?_ ?_ ?_ hp w (hw.pick [3, 2, 0, 0])
      · exact rfl
      · exact rfl
      · exact rfl
    · refine TL.alloc (cs := [.int .i64 0, .int .i64 0, .slice none 0 0, .slice none 0 0]) inf_25 (ltb rfl) rfl fun b18092 => ?_
      refine TL.nil (hK_222 _ _ (srcG 2 rfl (srcG 3 rfl srcG0)) ?_)
      refine HL.one 7 rfl (by kernel_rfl) fun K_223 hK_224 => ?_
      refine TL.pk' [1, 0, 0, 0] (L' := [(bx b16092 3 []), bx b18092 25 [.int .i64 0, .int .i64 0, .slice none 0 0, .slice none 0 0], bx b7 25 [.int .i64 0, .int .i64 0, .slice none 0 0, .slice none 0 0], bx b6 25 [.int .i64 a1.params, .int .i64 a1.result, v2, v4]]) rfl ?_
      obtain ⟨x17292, hz_225, hp⟩ := bind_some' hp
      refine TL.appI (u := v2) (fInt .i64) Try.underlying22 inf_3 (ltb rfl) rfl (ltb rfl) rfl (leb rfl) rfl rfl (SlO.lit0 (k := (kInt .i64)) b16092) h3 Src.H hz_225 fun v17293 F17294 h17295 => ?_
      refine TL.nil (hK_224 _ _ (srcG 2 rfl (srcG 3 rfl srcG0)) ?_)
      refine HL.v 8 rfl trivial (by kernel_rfl) (by kernel_rfl) (by kernel_rfl) (ltb rfl) (rv_bv (vs := [(0, .int .i64 a1.params), (1, .int .i64 a1.result), (2, v17293)]) (ds := [.int .i64 a1.params, .int .i64 a1.result, v17293, .slice none 0 0]) (pc rfl (pc rfl (pc rfl p0))) (fun w => by obtain ⟨_, _, rfl⟩ := (h17295).len; kernel_rfl)) ?_
      refine HL.one 10 rfl (by kernel_rfl) fun K_226 hK_227 => ?_
      refine TL.stB (ds := [.int .i64 a1.params, .int .i64 a1.result, v17293, .slice none 0 0]) (o := 0) (cs := [.int .i64 0, .int .i64 0, .slice none 0 0, .slice none 0 0]) (b := b18092) (u := .agg #[.int .i64 a1.params, .int .i64 a1.result, v17293, .slice none 0 0]) 1 rfl ms_25 rfl rfl rfl (oc rfl (oc rfl (oc (h17295).one (oc rfl oc0)))) (leb rfl) ?_
      refine TL.norm (L' := [F17294, bx b18092 25 [.int .i64 a1.params, .int .i64 a1.result, v17293, .slice none 0 0], bx b7 25 [.int .i64 0, .int .i64 0, .slice none 0 0, .slice none 0 0], bx b6 25 [.int .i64 a1.params, .int .i64 a1.result, v2, v4]]) rfl ?_
      refine TL.nil (hK_227 _ _ (srcG 2 rfl (srcG 3 rfl srcG0)) ?_)
      refine HL.done (by kernel_rfl) ?_
      refine fun w hw => hJ_9 x17292 b18092 v17293 F17294 _ h17295 ?_ ?_ ?_ hp w (hw.pick [3, 2, 1, 0])
      · exact rfl
      · exact rfl
      · exact rfl
  · refine TL.alloc (cs := [.int .i64 0, .int .i64 0, .slice none 0 0, .slice none 0 0]) inf_25 (ltb rfl) rfl fun b18092 => ?_
    refine TL.nil (hK_229 _ _ (srcG 1 rfl (srcG 2 rfl srcG0)) ?_)
    refine HL.one 4 rfl (by kernel_rfl) fun K_230 hK_231 => ?_
    refine TL.bs0 Try.underlying22 inf_3 (ltb rfl) fun b16092 => ?_
    refine TL.nil (hK_231 _ _ (srcG 2 rfl (srcG 3 rfl srcG0)) ?_)
    refine HL.one 7 rfl (by kernel_rfl) fun K_232 hK_233 => ?_
    obtain ⟨x17292, hz_234, hp⟩ := bind_some' hp
    refine TL.appI (u := v2) (fInt .i64) Try.underlying22 inf_3 (ltb rfl) rfl (ltb rfl) rfl (leb rfl) rfl rfl (SlO.lit0 (k := (kInt .i64)) b16092) h3 Src.H hz_234 fun v17293 F17294 h17295 => ?_
    refine TL.nil (hK_233 _ _ (srcG 2 rfl (srcG 3 rfl srcG0)) ?_)
    refine HL.v 8 rfl trivial (by kernel_rfl) (by kernel_rfl) (by kernel_rfl) (ltb rfl) (rv_bv (vs := [(0, .int .i64 a1.params), (1, .int .i64 a1.result), (2, v17293)]) (ds := [.int .i64 a1.params, .int .i64 a1.result, v17293, .slice none 0 0]) (pc rfl (pc rfl (pc rfl p0))) (fun w => by obtain ⟨_, _, rfl⟩ := (h17295).len; kernel_rfl)) ?_
    refine HL.one 10 rfl (by kernel_rfl) fun K_235 hK_236 => ?_
    refine TL.stB (ds := [.int .i64 a1.params, .int .i64 a1.result, v17293, .slice none 0 0]) (o := 0) (cs := [.int .i64 0, .int .i64 0, .slice none 0 0, .slice none 0 0]) (b := b18092) (u := .agg #[.int .i64 a1.params, .int .i64 a1.result, v17293, .slice none 0 0]) 1 rfl ms_25 rfl rfl rfl (oc rfl (oc rfl (oc (h17295).one (oc rfl oc0)))) (leb rfl) ?_
    refine TL.norm (L' := [F17294, bx b18092 25 [.int .i64 a1.params, .int .i64 a1.result, v17293, .slice none 0 0], bx b7 25 [.int .i64 0, .int .i64 0, .slice none 0 0, .slice none 0 0], bx b6 25 [.int .i64 a1.params, .int .i64 a1.result, v2, v4]]) rfl ?_
    refine TL.nil (hK_236 _ _ (srcG 2 rfl (srcG 3 rfl srcG0)) ?_)
    refine HL.done (by kernel_rfl) ?_
    refine fun w hw => hJ_9 x17292 b18092 v17293 F17294 _ h17295 ?_ ?_ ?_ hp w (hw.pick [3, 2, 1, 0])
    · exact rfl
    · exact rfl
    · exact rfl

/-! ### fettle/fettleref02.Copy -/
abbrev fettleref02_Copy.R (r : PModule) (v : Value) (A : List FP) : Prop := ∃ (w1 : Value) (G1 : FP), .agg #[w1] = v ∧ A = [G1] ∧ SlO 25 kFunc r.funcs w1 G1
def fettleref02_Copy.nx18  (x12 : List PFunc) : Option PModule :=
  some (⟨x12⟩ : PModule)
def fettleref02_Copy.jn38 (x11 : Int) (x16 : List PFunc) : Option (Ex (List PFunc) (List PFunc × Int)) :=
  some (.go (x16, (w64 (x11 + 1))))
def fettleref02_Copy.bd18 (a1 : PModule) (x7 : List PFunc) (x11 : Int) : Option (Ex (List PFunc) (List PFunc × Int)) :=
  if x11 < (len a1.funcs) then
    (idx a1.funcs x11).bind fun x2021 =>
    (fettleref02_CopyFunc x2021).bind fun x2821 =>
    (cat x7 [x2821]).bind fun x3621 =>
    fettleref02_Copy.jn38 x11 x3621
  else
    some (.ret x7)
def fettleref02_Copy (a1 : PModule) : Option PModule :=
  (whl (fun (s : (List PFunc × Int)) => fettleref02_Copy.bd18 a1 s.1 s.2) FUEL (([] : List PFunc), 0)).bind fun z =>
  fettleref02_Copy.nx18 z
theorem fettleref02_Copy_ok {E : World} {H : FP} {w : World} {a1 : PModule} {v2 : Value} {r : PModule} (h3 : SlI kFunc H a1.funcs v2) (hp : fettleref02_Copy a1 = some r) (hst : St E H [] w) :
    Fn Try.prog 49 #[.agg #[v2]] w fun v w' => ∃ A, fettleref02_Copy.R r v A ∧ St E H A w' := by
  refine Fn.bodyV (fn := Try.f49) (args := [.agg #[v2]]) E H [] 24 Try.func49 rfl rfl (leb rfl) hst ?_
  unfold fettleref02_Copy at hp
  refine TC.seq fun K_1 hK_2 => ?_
  refine TC.region ?_
  refine TL.box (cs := [v2]) (v := .agg #[v2]) (ltb rfl) rfl rfl fun b4 => ?_
  refine TL.alloc (cs := [.slice none 0 0]) inf_90 (ltb rfl) rfl fun b5 => ?_
  refine TL.nil ?_
  refine TC.go hK_2 ?_
  refine TC.seq fun K_3 hK_4 => ?_
  refine TC.region ?_
  refine TL.alloc (cs := [.slice none 0 0]) inf_90 (ltb rfl) rfl fun b6 => ?_
  refine TL.nil ?_
  refine TC.go hK_4 ?_
  refine TC.seq fun K_5 hK_6 => ?_
  refine TC.seq fun K_7 hK_8 => ?_
  refine TC.region ?_
  refine TL.v (ltb rfl) (rv_as (v := .int .i64 0) rfl) ?_
  refine TL.nil ?_
  refine TC.go hK_8 ?_
  refine TC.block ?_
  obtain ⟨z_14, hz_15, hr_16⟩ := bind_some' hp
  clear hp
  have hJ_24 : ∀ (x12 : List PFunc) (v13 : Value) (F14 : FP) (e_19 : Env) (h15 : SlO 25 kFunc x12 v13 F14) (h_20 : e_19 2 = .pointer (some ⟨b5, 0, none⟩)) (h_21 : e_19 3 = .pointer (some ⟨b6, 0, none⟩)) (hq_25 : x12 = z_14), ∀ w, St E H [bx b5 90 [.slice none 0 0], bx b6 90 [v13], F14] w → K_5 e_19 w := by
    intro x12 v13 F14 e_19 h15 h_20 h_21 hq_25
    subst hq_25
    replace hp : fettleref02_Copy.nx18 x12 = some r := hr_16
    unfold fettleref02_Copy.nx18 at hp
    refine TC.go hK_6 ?_
    refine TC.seq fun K_22 hK_23 => ?_
    refine TC.region ?_
    refine TL.v (ltb rfl) (rv_lda (o := 0) (o' := 0) (j := 0) (ds := [v13]) ag_90 h_21 (Src.at_ 1 rfl) (bx_cells b6 90 _) rfl rfl rfl) ?_
    refine TL.stB (ds := [v13]) (o := 0) (cs := [.slice none 0 0]) (b := b5) (u := .agg #[v13]) 0 rfl ms_90 h_20 rfl rfl (oc (h15).one oc0) (leb rfl) ?_
    refine TL.norm (L' := [bx b5 90 [v13], bx b6 90 [v13], F14]) rfl ?_
    refine TL.nil ?_
    refine TC.go hK_23 ?_
    refine TC.ret ?_
    obtain rfl := Option.some.inj hp
    exact fun w hw => retC1 hw rfl h_20 ag_90 0 rfl rfl ⟨v13, F14, rfl, rfl, h15⟩ (hw.pick [2])
  refine W.new0 ?_
  refine TC.pk' [3, 2, 1, 0] (L' := [bx b4 90 [v2], bx b5 90 [.slice none 0 0], bx b6 90 [(.slice none 0 0)], ([] : FP)]) rfl ?_
  refine TC.loopW (r := z_14) (fun (s : (List PFunc × Int)) (e_9 : Env) (L_75 : List FP) => ∃ (x7 : List PFunc) (x11 : Int) (v8 : Value) (F9 : FP), s = (x7, x11) ∧ SlO 25 kFunc x7 v8 F9 ∧ e_9 1 = .pointer (some ⟨b4, 0, none⟩) ∧ e_9 2 = .pointer (some ⟨b5, 0, none⟩) ∧ e_9 3 = .pointer (some ⟨b6, 0, none⟩) ∧ e_9 4 = .int .i64 x11 ∧ L_75 = [bx b4 90 [v2], bx b5 90 [.slice none 0 0], bx b6 90 [v8], F9]) ?_ FUEL _ _ _ hz_15 ⟨([] : List PFunc), 0, (.slice none 0 0), ([] : FP), rfl, (SlO.nil 25), rfl, rfl, rfl, rfl, rfl⟩
  rintro s e_9 L_75 ⟨x7, x11, v8, F9, rfl, h10, h_10, h_11, h_12, h_13, rfl⟩ x_17 hp hx_18
  replace hp : fettleref02_Copy.bd18 a1 x7 x11 = some x_17 := hp
  unfold fettleref02_Copy.bd18 at hp
  refine TC.seq fun K_26 hK_27 => ?_
  refine TC.seq fun K_28 hK_29 => ?_
  refine TC.region ?_
  refine TL.v (ltb rfl) (rv_mv (v := .int .i64 x11) h_13) ?_
  refine TL.v (ltb rfl) (rv_fa (b := b4) (o := 0) fa_90_0 h_10) ?_
  refine TL.v (ltb rfl) (rv_ld (v := v2) (o := 0) (o' := 0) (j := 0) sc_88 rfl (Src.at_ 0 rfl) (bx_cells b4 90 _) rfl rfl) ?_
  refine TL.v (ltb rfl) (rv_lenI (v := v2) Try.underlying88 rfl h3) ?_
  refine TL.v (ltb rfl) (rv_lss (k := .i64) (m := x11) (n := (len a1.funcs)) rfl rfl) ?_
  refine TL.nil ?_
  refine TC.go hK_29 ?_
  by_cases hc_30 : x11 < (len a1.funcs)
  · rw [if_pos hc_30] at hp
    refine TC.condT (bT hc_30) ?_
    refine TC.skip ?_
    refine TC.go hK_27 ?_
    refine TC.seq fun K_31 hK_32 => ?_
    have hJ_38 : ∀ (x16 : List PFunc) (v17 : Value) (F18 : FP) (e_33 : Env) (h19 : SlO 25 kFunc x16 v17 F18) (h_34 : e_33 1 = .pointer (some ⟨b4, 0, none⟩)) (h_35 : e_33 2 = .pointer (some ⟨b5, 0, none⟩)) (h_36 : e_33 3 = .pointer (some ⟨b6, 0, none⟩)) (h_37 : e_33 4 = .int .i64 x11) (hp : fettleref02_Copy.jn38 x11 x16 = some x_17), ∀ w, St E H [bx b4 90 [v2], bx b5 90 [.slice none 0 0], bx b6 90 [v17], F18] w → K_31 e_33 w := by
      intro x16 v17 F18 e_33 h19 h_34 h_35 h_36 h_37 hp
      unfold fettleref02_Copy.jn38 at hp
      refine TC.go hK_32 ?_
      refine TC.region ?_
      refine TL.v (ltb rfl) (rv_mv (v := .int .i64 x11) h_37) ?_
      refine TL.v (ltb rfl) (rv_add (k := .i64) (m := x11) (n := 1) rfl rfl) ?_
      refine TL.v (ltb rfl) (rv_as (v := .int .i64 (w64 (x11 + 1))) rfl) ?_
      refine TL.nil ?_
      exact fun w hw => goOk hp ⟨x16, (w64 (x11 + 1)), v17, F18, rfl, h19, h_34, h_35, h_36, rfl, rfl⟩ (hw.pick [0, 0, 0, 0])
    refine TC.block ?_
    refine TC.held ([bx b4 90 [v2], bx b5 90 [.slice none 0 0]].flatten ++ H) mix (srcG 0 rfl (srcG 1 rfl srcG0)) ?_
    refine HL.v 0 rfl trivial (by kernel_rfl) (by kernel_rfl) (by kernel_rfl) (ltb rfl) (rv_fa (b := b6) (o := 0) fa_90_0 h_12) ?_
    refine HL.v 2 rfl trivial (by kernel_rfl) (by kernel_rfl) (by kernel_rfl) (ltb rfl) (rv_fa (b := b4) (o := 0) fa_90_0 h_10) ?_
    refine HL.v 3 rfl trivial (by kernel_rfl) (by kernel_rfl) (by kernel_rfl) (ltb rfl) (rv_ld (v := v2) (o := 0) (o' := 0) (j := 0) sc_88 rfl (srcInG 0 rfl) (bx_cells b4 90 _) rfl rfl) ?_
    refine HL.v 4 rfl trivial (by kernel_rfl) (by kernel_rfl) (by kernel_rfl) (ltb rfl) (rv_mv (v := .int .i64 x11) h_13) ?_
    obtain ⟨x2021, hx_39, hp⟩ := bind_some' hp
    refine HL.w3 5 rfl trivial (by kernel_rfl) (by kernel_rfl) (by kernel_rfl) (ltb rfl) (rv_ix 88 (.tmp 15) (.tmp 16) (v := v2) (i := x11) Try.underlying88 inf_25 rfl rfl rfl h3 hx_39) fun b2022 o2023 c2024 h2025 h2026 => ?_
    obtain ⟨v2027, v2029, rfl, h2028, h2030⟩ := h2025
    refine HL.v 6 rfl trivial (by kernel_rfl) (by kernel_rfl) (by kernel_rfl) (ltb rfl) (rv_lda (o := o2023) (o' := o2023) (j := 0) (ds := [.int .i64 x2021.params, .int .i64 x2021.result, v2027, v2029]) ag_25 rfl srcInH h2026 rfl rfl rfl) ?_
    refine HL.all [1, 7] (by kernel_rfl) (by simp) (HL.al ⟨_, rfl, fun K_40 hK_41 => ?_⟩ (HL.al ⟨_, rfl, fun K_53 hK_54 => ?_⟩ HL.al0))
    · refine TL.v (ltb rfl) (rv_ld (v := v8) (o := 0) (o' := 0) (j := 0) sc_88 rfl (Src.at_ 2 rfl) (bx_cells b6 90 _) rfl rfl) ?_
      refine TL.nil (hK_41 _ _ (srcG 0 rfl (srcG 1 rfl srcG0)) ?_)
      refine HL.one 7 rfl (by kernel_rfl) fun K_42 hK_43 => ?_
      obtain ⟨x2821, hy_44, hp⟩ := bind_some' hp
      refine TL.callC (vs := [.agg #[.int .i64 x2021.params, .int .i64 x2021.result, v2027, v2029]]) (R := fettleref02_CopyFunc.R x2821) [] [bx b4 90 [v2], bx b5 90 [.slice none 0 0], bx b6 90 [v8], F9] rfl cb_46 (ltb rfl) (mc rfl m0) (fun w hw => fettleref02_CopyFunc_ok (a1 := x2021) (h2028.mono subH) (h2030.mono subH) hy_44 hw) fun v A' hR_45 => ?_
      obtain ⟨v2822, F2823, v2825, F2826, rfl, rfl, h2824, h2827⟩ := hR_45
      refine TL.norm (L' := [F2823, F2826, bx b4 90 [v2], bx b5 90 [.slice none 0 0], bx b6 90 [v8], F9]) rfl ?_
      refine TL.nil (hK_43 _ _ (srcG 2 rfl (srcG 3 rfl srcG0)) ?_)
      refine HL.one 8 rfl (by kernel_rfl) fun K_46 hK_47 => ?_
      refine TL.bv (vs := [(0, .agg #[.int .i64 x2821.params, .int .i64 x2821.result, v2822, v2825])]) (cs := [.int .i64 x2821.params, .int .i64 x2821.result, v2822, v2825]) (pc rfl p0) Try.underlying88 inf_25 (ltb rfl) (by decide) (by decide) (by kernel_rfl) fun b3221 => ?_
      refine TL.nil (hK_47 _ _ (srcG 3 rfl (srcG 4 rfl srcG0)) ?_)
      refine HL.one 9 rfl (by kernel_rfl) fun K_48 hK_49 => ?_
      refine TL.pk' [6, 0, 0, 0, 0, 0, 0] (L' := [F9, bx b3221 25 [.int .i64 x2821.params, .int .i64 x2821.result, v2822, v2825], F2823, F2826, bx b4 90 [v2], bx b5 90 [.slice none 0 0], bx b6 90 [v8]]) rfl ?_
      refine TL.perm (L' := [F9, bx b3221 25 [.int .i64 x2821.params, .int .i64 x2821.result, v2822, v2825], F2823 ++ (F2826) ++ [], bx b4 90 [v2], bx b5 90 [.slice none 0 0], bx b6 90 [v8]]) (by simp) ?_
      obtain ⟨x3621, hz_50, hp⟩ := bind_some' hp
      refine TL.app Try.underlying88 inf_25 (ltb rfl) rfl (ltb rfl) rfl (leb rfl) rfl rfl h10 (RepL.to (RepL.cons (k := kFunc) (x := x2821) ⟨_, _, _, _, rfl, rfl, h2824, h2827⟩ RepL.nil) rfl) rfl rfl hz_50 fun v3622 F3623 h3624 => ?_
      refine TL.nil (hK_49 _ _ (srcG 1 rfl (srcG 2 rfl srcG0)) ?_)
      refine HL.v 10 rfl trivial (by kernel_rfl) (by kernel_rfl) (by kernel_rfl) (ltb rfl) (rv_fa (b := b6) (o := 0) fa_90_0 h_12) ?_
      refine HL.one 11 rfl (by kernel_rfl) fun K_51 hK_52 => ?_
      refine TL.stB (ds := [v3622]) (o := 0) (cs := [v8]) (b := b6) (u := v3622) 3 rfl ms_88 rfl rfl (SlO.cells h3624) (oc (h3624).one oc0) (leb rfl) ?_
      refine TL.norm (L' := [F3623, bx b4 90 [v2], bx b5 90 [.slice none 0 0], bx b6 90 [v3622]]) rfl ?_
      refine TL.nil (hK_52 _ _ (srcG 1 rfl (srcG 2 rfl srcG0)) ?_)
      refine HL.done (by kernel_rfl) ?_
      refine fun w hw => hJ_38 x3621 v3622 F3623 _ h3624 ?_ ?_ ?_ ?_ hp w (hw.pick [1, 1, 1, 0])
      · exact h_10
      · exact h_11
      · exact h_12
      · exact h_13
    · obtain ⟨x2821, hy_55, hp⟩ := bind_some' hp
      refine TL.callC (vs := [.agg #[.int .i64 x2021.params, .int .i64 x2021.result, v2027, v2029]]) (R := fettleref02_CopyFunc.R x2821) [] [bx b4 90 [v2], bx b5 90 [.slice none 0 0], bx b6 90 [v8], F9] rfl cb_46 (ltb rfl) (mc rfl m0) (fun w hw => fettleref02_CopyFunc_ok (a1 := x2021) (h2028.mono subH) (h2030.mono subH) hy_55 hw) fun v A' hR_56 => ?_
      obtain ⟨v2822, F2823, v2825, F2826, rfl, rfl, h2824, h2827⟩ := hR_56
      refine TL.norm (L' := [F2823, F2826, bx b4 90 [v2], bx b5 90 [.slice none 0 0], bx b6 90 [v8], F9]) rfl ?_
      refine TL.nil (hK_54 _ _ (srcG 2 rfl (srcG 3 rfl srcG0)) ?_)
      refine HL.all [1, 8] (by kernel_rfl) (by simp) (HL.al ⟨_, rfl, fun K_57 hK_58 => ?_⟩ (HL.al ⟨_, rfl, fun K_66 hK_67 => ?_⟩ HL.al0))
      · refine TL.v (ltb rfl) (rv_ld (v := v8) (o := 0) (o' := 0) (j := 0) sc_88 rfl (Src.at_ 4 rfl) (bx_cells b6 90 _) rfl rfl) ?_
        refine TL.nil (hK_58 _ _ (srcG 2 rfl (srcG 3 rfl srcG0)) ?_)
        refine HL.one 8 rfl (by kernel_rfl) fun K_59 hK_60 => ?_
        refine TL.bv (vs := [(0, .agg #[.int .i64 x2821.params, .int .i64 x2821.result, v2822, v2825])]) (cs := [.int .i64 x2821.params, .int .i64 x2821.result, v2822, v2825]) (pc rfl p0) Try.underlying88 inf_25 (ltb rfl) (by decide) (by decide) (by kernel_rfl) fun b3221 => ?_
        refine TL.nil (hK_60 _ _ (srcG 3 rfl (srcG 4 rfl srcG0)) ?_)
        refine HL.one 9 rfl (by kernel_rfl) fun K_61 hK_62 => ?_
        refine TL.pk' [6, 0, 0, 0, 0, 0, 0] (L' := [F9, bx b3221 25 [.int .i64 x2821.params, .int .i64 x2821.result, v2822, v2825], F2823, F2826, bx b4 90 [v2], bx b5 90 [.slice none 0 0], bx b6 90 [v8]]) rfl ?_
        refine TL.perm (L' := [F9, bx b3221 25 [.int .i64 x2821.params, .int .i64 x2821.result, v2822, v2825], F2823 ++ (F2826) ++ [], bx b4 90 [v2], bx b5 90 [.slice none 0 0], bx b6 90 [v8]]) (by simp) ?_
        obtain ⟨x3621, hz_63, hp⟩ := bind_some' hp
        refine TL.app Try.underlying88 inf_25 (ltb rfl) rfl (ltb rfl) rfl (leb rfl) rfl rfl h10 (RepL.to (RepL.cons (k := kFunc) (x := x2821) ⟨_, _, _, _, rfl, rfl, h2824, h2827⟩ RepL.nil) rfl) rfl rfl hz_63 fun v3622 F3623 h3624 => ?_
        refine TL.nil (hK_62 _ _ (srcG 1 rfl (srcG 2 rfl srcG0)) ?_)
        refine HL.v 10 rfl trivial (by kernel_rfl) (by kernel_rfl) (by kernel_rfl) (ltb rfl) (rv_fa (b := b6) (o := 0) fa_90_0 h_12) ?_
        refine HL.one 11 rfl (by kernel_rfl) fun K_64 hK_65 => ?_
        refine TL.stB (ds := [v3622]) (o := 0) (cs := [v8]) (b := b6) (u := v3622) 3 rfl ms_88 rfl rfl (SlO.cells h3624) (oc (h3624).one oc0) (leb rfl) ?_
        refine TL.norm (L' := [F3623, bx b4 90 [v2], bx b5 90 [.slice none 0 0], bx b6 90 [v3622]]) rfl ?_
        refine TL.nil (hK_65 _ _ (srcG 1 rfl (srcG 2 rfl srcG0)) ?_)
        refine HL.done (by kernel_rfl) ?_
        refine fun w hw => hJ_38 x3621 v3622 F3623 _ h3624 ?_ ?_ ?_ ?_ hp w (hw.pick [1, 1, 1, 0])
        · exact h_10
        · exact h_11
        · exact h_12
        · exact h_13
      · refine TL.bv (vs := [(0, .agg #[.int .i64 x2821.params, .int .i64 x2821.result, v2822, v2825])]) (cs := [.int .i64 x2821.params, .int .i64 x2821.result, v2822, v2825]) (pc rfl p0) Try.underlying88 inf_25 (ltb rfl) (by decide) (by decide) (by kernel_rfl) fun b3221 => ?_
        refine TL.nil (hK_67 _ _ (srcG 3 rfl (srcG 4 rfl srcG0)) ?_)
        refine HL.one 1 rfl (by kernel_rfl) fun K_68 hK_69 => ?_
        refine TL.v (ltb rfl) (rv_ld (v := v8) (o := 0) (o' := 0) (j := 0) sc_88 rfl (Src.at_ 5 rfl) (bx_cells b6 90 _) rfl rfl) ?_
        refine TL.nil (hK_69 _ _ (srcG 3 rfl (srcG 4 rfl srcG0)) ?_)
        refine HL.one 9 rfl (by kernel_rfl) fun K_70 hK_71 => ?_
        refine TL.pk' [6, 0, 0, 0, 0, 0, 0] (L' := [F9, bx b3221 25 [.int .i64 x2821.params, .int .i64 x2821.result, v2822, v2825], F2823, F2826, bx b4 90 [v2], bx b5 90 [.slice none 0 0], bx b6 90 [v8]]) rfl ?_
        refine TL.perm (L' := [F9, bx b3221 25 [.int .i64 x2821.params, .int .i64 x2821.result, v2822, v2825], F2823 ++ (F2826) ++ [], bx b4 90 [v2], bx b5 90 [.slice none 0 0], bx b6 90 [v8]]) (by simp) ?_
        obtain ⟨x3621, hz_72, hp⟩ := bind_some' hp
        refine TL.app Try.underlying88 inf_25 (ltb rfl) rfl (ltb rfl) rfl (leb rfl) rfl rfl h10 (RepL.to (RepL.cons (k := kFunc) (x := x2821) ⟨_, _, _, _, rfl, rfl, h2824, h2827⟩ RepL.nil) rfl) rfl rfl hz_72 fun v3622 F3623 h3624 => ?_
        refine TL.nil (hK_71 _ _ (srcG 1 rfl (srcG 2 rfl srcG0)) ?_)
        refine HL.v 10 rfl trivial (by kernel_rfl) (by kernel_rfl) (by kernel_rfl) (ltb rfl) (rv_fa (b := b6) (o := 0) fa_90_0 h_12) ?_
        refine HL.one 11 rfl (by kernel_rfl) fun K_73 hK_74 => ?_
        refine TL.stB (ds := [v3622]) (o := 0) (cs := [v8]) (b := b6) (u := v3622) 3 rfl ms_88 rfl rfl (SlO.cells h3624) (oc (h3624).one oc0) (leb rfl) ?_
        refine TL.norm (L' := [F3623, bx b4 90 [v2], bx b5 90 [.slice none 0 0], bx b6 90 [v3622]]) rfl ?_
        refine TL.nil (hK_74 _ _ (srcG 1 rfl (srcG 2 rfl srcG0)) ?_)
        refine HL.done (by kernel_rfl) ?_
        refine fun w hw => hJ_38 x3621 v3622 F3623 _ h3624 ?_ ?_ ?_ ?_ hp w (hw.pick [1, 1, 1, 0])
        · exact h_10
        · exact h_11
        · exact h_12
        · exact h_13
  · rw [if_neg hc_30] at hp
    refine TC.condF (bF hc_30) ?_
    refine TC.exit ?_
    refine fun w hw => hJ_24 x7 v8 F9 _ h10 ?_ ?_ (ex_ret hp hx_18) w (hw.pick [1, 1, 1])
    · exact h_11
    · exact h_12
end Go.Proofs.Ytoflleabpkgdpaa
