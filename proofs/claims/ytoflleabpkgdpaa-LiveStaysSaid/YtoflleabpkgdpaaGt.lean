/- The walk through the program's functions: each one's pure reading, and that a call does what it says. No conditions. -/
import Derived.Test.YtoflleabpkgdpaaTb
set_option linter.unusedVariables false
set_option linter.unusedSimpArgs false
namespace Go.Proofs.Ytoflleabpkgdpaa
open Go Go.Proofs

/-! ### fettle/fettlelaw05.Ints -/
abbrev fettlelaw05_Ints.R (r : Bool) (v : Value) (A : List FP) : Prop := .bool r = v ∧ A = []
def fettlelaw05_Ints.nx22  : Option Bool :=
  some true
def fettlelaw05_Ints.bd22 (a1 : List Int) (a4 : List Int) (x7 : Int) : Option (Ex (Ex Bool Unit) Int) :=
  if x7 < (len a1) then
    (idx a1 x7).bind fun x8 =>
    (idx a4 x7).bind fun x14 =>
    if ¬ x8 = x14 then
      some (.ret (.ret false))
    else
      some (.go (w64 (x7 + 1)))
  else
    some (.ret (.go ()))
def fettlelaw05_Ints (a1 : List Int) (a4 : List Int) : Option Bool :=
  if ¬ (len a1) = (len a4) then
    some false
  else
    (whl (fun (s : Int) => fettlelaw05_Ints.bd22 a1 a4 s) FUEL 0).bind fun z =>
    match z with
      | .ret r => some r
      | .go p => fettlelaw05_Ints.nx22
theorem fettlelaw05_Ints_ok {E : World} {H : FP} {w : World} {a1 : List Int} {a4 : List Int} {v2 : Value} {v5 : Value} {r : Bool} (h3 : SlI (kInt .i64) H a1 v2) (h6 : SlI (kInt .i64) H a4 v5) (hp : fettlelaw05_Ints a1 a4 = some r) (hst : St E H [] w) :
    Fn Try.prog 22 #[v2, v5] w fun v w' => ∃ A, fettlelaw05_Ints.R r v A ∧ St E H A w' := by
  refine Fn.body (fn := Try.f22) (args := [v2, v5]) E H [] [.tmp 4] 26 Try.func22 rfl rfl rfl rfl (leb rfl) hst ?_
  unfold fettlelaw05_Ints at hp
  refine TC.seq fun K_1 hK_2 => ?_
  refine TC.region ?_
  refine TL.v (ltb rfl) (rv_as (v := .bool false) rfl) ?_
  refine TL.nil ?_
  refine TC.go hK_2 ?_
  refine TC.seq fun K_3 hK_4 => ?_
  refine TC.seq fun K_5 hK_6 => ?_
  refine TC.region ?_
  refine TL.v (ltb rfl) (rv_mv (v := v2) rfl) ?_
  refine TL.v (ltb rfl) (rv_lenI (v := v2) Try.underlying22 rfl h3) ?_
  refine TL.v (ltb rfl) (rv_mv (v := v5) rfl) ?_
  refine TL.v (ltb rfl) (rv_lenI (v := v5) Try.underlying22 rfl h6) ?_
  refine TL.v (ltb rfl) (rv_neq (k := .i64) (m := (len a1)) (n := (len a4)) rfl rfl) ?_
  refine TL.nil ?_
  refine TC.go hK_6 ?_
  by_cases hc_7 : ¬ (len a1) = (len a4)
  · rw [if_pos hc_7] at hp
    refine TC.condT (bT hc_7) ?_
    refine TC.seq fun K_8 hK_9 => ?_
    refine TC.region ?_
    refine TL.v (ltb rfl) (rv_as (v := .bool false) rfl) ?_
    refine TL.nil ?_
    refine TC.go hK_9 ?_
    refine TC.ret ?_
    obtain rfl := Option.some.inj hp
    exact fun w hw => retOk ⟨rfl, rfl⟩ (hw.pick [])
  · rw [if_neg hc_7] at hp
    refine TC.condF (bF hc_7) ?_
    refine TC.skip ?_
    refine TC.go hK_4 ?_
    refine TC.seq fun K_10 hK_11 => ?_
    refine TC.seq fun K_12 hK_13 => ?_
    refine TC.region ?_
    refine TL.v (ltb rfl) (rv_as (v := .int .i64 0) rfl) ?_
    refine TL.nil ?_
    refine TC.go hK_13 ?_
    refine TC.block ?_
    obtain ⟨z_18, hz_19, hr_20⟩ := bind_some' hp
    clear hp
    have hJ_26 : ∀ (e_23 : Env) (hq_27 : .go () = z_18), ∀ w, St E H [] w → K_10 e_23 w := by
      intro e_23 hq_27
      subst hq_27
      replace hp : fettlelaw05_Ints.nx22 = some r := hr_20
      unfold fettlelaw05_Ints.nx22 at hp
      refine TC.go hK_11 ?_
      refine TC.seq fun K_24 hK_25 => ?_
      refine TC.region ?_
      refine TL.v (ltb rfl) (rv_as (v := .bool true) rfl) ?_
      refine TL.nil ?_
      refine TC.go hK_25 ?_
      refine TC.ret ?_
      obtain rfl := Option.some.inj hp
      exact fun w hw => retOk ⟨rfl, rfl⟩ (hw.pick [])
    refine TC.pk' [] (L' := []) rfl ?_
    refine TC.loopW (r := z_18) (fun (x7 : Int) (e_14 : Env) (L_42 : List FP) => e_14 0 = v2 ∧ e_14 1 = v5 ∧ e_14 5 = .int .i64 x7 ∧ L_42 = []) ?_ FUEL _ _ _ hz_19 ⟨rfl, rfl, rfl, rfl⟩
    rintro x7 e_14 L_42 ⟨h_15, h_16, h_17, rfl⟩ x_21 hp hx_22
    replace hp : fettlelaw05_Ints.bd22 a1 a4 x7 = some x_21 := hp
    unfold fettlelaw05_Ints.bd22 at hp
    refine TC.seq fun K_28 hK_29 => ?_
    refine TC.seq fun K_30 hK_31 => ?_
    refine TC.region ?_
    refine TL.v (ltb rfl) (rv_mv (v := .int .i64 x7) h_17) ?_
    refine TL.v (ltb rfl) (rv_mv (v := v2) h_15) ?_
    refine TL.v (ltb rfl) (rv_lenI (v := v2) Try.underlying22 rfl h3) ?_
    refine TL.v (ltb rfl) (rv_lss (k := .i64) (m := x7) (n := (len a1)) rfl rfl) ?_
    refine TL.nil ?_
    refine TC.go hK_31 ?_
    by_cases hc_32 : x7 < (len a1)
    · rw [if_pos hc_32] at hp
      refine TC.condT (bT hc_32) ?_
      refine TC.skip ?_
      refine TC.go hK_29 ?_
      refine TC.seq fun K_33 hK_34 => ?_
      refine TC.block ?_
      refine TC.seq fun K_35 hK_36 => ?_
      refine TC.quiet mix (by kernel_rfl) ?_
      refine QL.v (ltb rfl) (rv_mv (v := v2) h_15) ?_
      refine QL.v (ltb rfl) (rv_mv (v := .int .i64 x7) h_17) ?_
      obtain ⟨x8, hx_37, hp⟩ := bind_some' hp
      refine QL.v3 (ltb rfl) (rv_ix 22 (.tmp 17) (.tmp 18) (v := v2) (i := x7) Try.underlying22 inf_3 rfl rfl rfl h3 hx_37) fun b9 o10 c11 h12 h13 => ?_
      obtain rfl := h12
      refine QL.v (ltb rfl) (rv_ld (v := .int .i64 x8) (o := o10) (o' := o10) (j := 0) sc_3 rfl Src.H h13 rfl rfl) ?_
      refine QL.v (ltb rfl) (rv_mv (v := v5) h_16) ?_
      refine QL.v (ltb rfl) (rv_mv (v := .int .i64 x7) h_17) ?_
      obtain ⟨x14, hx_38, hp⟩ := bind_some' hp
      refine QL.v3 (ltb rfl) (rv_ix 22 (.tmp 21) (.tmp 22) (v := v5) (i := x7) Try.underlying22 inf_3 rfl rfl rfl h6 hx_38) fun b15 o16 c17 h18 h19 => ?_
      obtain rfl := h18
      refine QL.v (ltb rfl) (rv_ld (v := .int .i64 x14) (o := o16) (o' := o16) (j := 0) sc_3 rfl Src.H h19 rfl rfl) ?_
      refine QL.v (ltb rfl) (rv_neq (k := .i64) (m := x8) (n := x14) rfl rfl) ?_
      refine QL.nil ?_
      refine TC.go hK_36 ?_
      by_cases hc_39 : ¬ x8 = x14
      · rw [if_pos hc_39] at hp
        refine TC.condT (bT hc_39) ?_
        refine TC.seq fun K_40 hK_41 => ?_
        refine TC.region ?_
        refine TL.v (ltb rfl) (rv_as (v := .bool false) rfl) ?_
        refine TL.nil ?_
        refine TC.go hK_41 ?_
        refine TC.ret ?_
        obtain rfl := ex_ret hp hx_22
        obtain rfl := Option.some.inj hr_20
        exact fun w hw => retOk ⟨rfl, rfl⟩ (hw.pick [])
      · rw [if_neg hc_39] at hp
        refine TC.condF (bF hc_39) ?_
        refine TC.skip ?_
        refine TC.go hK_34 ?_
        refine TC.region ?_
        refine TL.v (ltb rfl) (rv_mv (v := .int .i64 x7) h_17) ?_
        refine TL.v (ltb rfl) (rv_add (k := .i64) (m := x7) (n := 1) rfl rfl) ?_
        refine TL.v (ltb rfl) (rv_as (v := .int .i64 (w64 (x7 + 1))) rfl) ?_
        refine TL.nil ?_
        exact fun w hw => goOk hp ⟨h_15, h_16, rfl, rfl⟩ (hw.pick [])
    · rw [if_neg hc_32] at hp
      refine TC.condF (bF hc_32) ?_
      refine TC.exit ?_
      refine fun w hw => hJ_26 _ (ex_ret hp hx_22) w (hw.pick [])

/-! ### fettle/fettleref05.Leads -/
abbrev fettleref05_Leads.R (r : Bool) (v : Value) (A : List FP) : Prop := .bool r = v ∧ A = []
def fettleref05_Leads.nx16  : Option Bool :=
  some false
def fettleref05_Leads.bd16 (a1 : PFunc) (a6 : Int) (a7 : Int) (x9 : Int) : Option (Ex (Ex Bool Unit) Int) :=
  (idx a1.blocks a6).bind fun x10 =>
  if x9 < (len x10.term.to) then
    (idx a1.blocks a6).bind fun x22 =>
    (idx x22.term.to x9).bind fun x34 =>
    if x34 = a7 then
      some (.ret (.ret true))
    else
      some (.go (w64 (x9 + 1)))
  else
    some (.ret (.go ()))
def fettleref05_Leads (a1 : PFunc) (a6 : Int) (a7 : Int) : Option Bool :=
  (whl (fun (s : Int) => fettleref05_Leads.bd16 a1 a6 a7 s) FUEL 0).bind fun z =>
  match z with
    | .ret r => some r
    | .go p => fettleref05_Leads.nx16
theorem fettleref05_Leads_ok {E : World} {H : FP} {w : World} {a1 : PFunc} {a6 : Int} {a7 : Int} {v2 : Value} {v4 : Value} {r : Bool} (h3 : SlI (kInt .i64) H a1.regs v2) (h5 : SlI kBlock H a1.blocks v4) (hp : fettleref05_Leads a1 a6 a7 = some r) (hst : St E H [] w) :
    Fn Try.prog 45 #[.agg #[.int .i64 a1.params, .int .i64 a1.result, v2, v4], .int .i64 a6, .int .i64 a7] w fun v w' => ∃ A, fettleref05_Leads.R r v A ∧ St E H A w' := by
  refine Fn.body (fn := Try.f45) (args := [.agg #[.int .i64 a1.params, .int .i64 a1.result, v2, v4], .int .i64 a6, .int .i64 a7]) E H [] [.tmp 6] 32 Try.func45 rfl rfl rfl rfl (leb rfl) hst ?_
  unfold fettleref05_Leads at hp
  refine TC.seq fun K_1 hK_2 => ?_
  refine TC.region ?_
  refine TL.box (cs := [.int .i64 a1.params, .int .i64 a1.result, v2, v4]) (v := .agg #[.int .i64 a1.params, .int .i64 a1.result, v2, v4]) (ltb rfl) rfl rfl fun b8 => ?_
  refine TL.v (ltb rfl) (rv_as (v := .bool false) rfl) ?_
  refine TL.nil ?_
  refine TC.go hK_2 ?_
  refine TC.seq fun K_3 hK_4 => ?_
  refine TC.seq fun K_5 hK_6 => ?_
  refine TC.region ?_
  refine TL.v (ltb rfl) (rv_as (v := .int .i64 0) rfl) ?_
  refine TL.nil ?_
  refine TC.go hK_6 ?_
  refine TC.block ?_
  obtain ⟨z_12, hz_13, hr_14⟩ := bind_some' hp
  clear hp
  have hJ_20 : ∀ (e_17 : Env) (hq_21 : .go () = z_12), ∀ w, St E H [] w → K_3 e_17 w := by
    intro e_17 hq_21
    subst hq_21
    replace hp : fettleref05_Leads.nx16 = some r := hr_14
    unfold fettleref05_Leads.nx16 at hp
    refine TC.go hK_4 ?_
    refine TC.seq fun K_18 hK_19 => ?_
    refine TC.region ?_
    refine TL.v (ltb rfl) (rv_as (v := .bool false) rfl) ?_
    refine TL.nil ?_
    refine TC.go hK_19 ?_
    refine TC.ret ?_
    obtain rfl := Option.some.inj hp
    exact fun w hw => retOk ⟨rfl, rfl⟩ (hw.pick [])
  refine TC.pk' [0] (L' := [bx b8 25 [.int .i64 a1.params, .int .i64 a1.result, v2, v4]]) rfl ?_
  refine TC.loopW (r := z_12) (fun (x9 : Int) (e_7 : Env) (L_37 : List FP) => e_7 1 = .int .i64 a6 ∧ e_7 2 = .int .i64 a7 ∧ e_7 3 = .pointer (some ⟨b8, 0, none⟩) ∧ e_7 7 = .int .i64 x9 ∧ L_37 = [bx b8 25 [.int .i64 a1.params, .int .i64 a1.result, v2, v4]]) ?_ FUEL _ _ _ hz_13 ⟨rfl, rfl, rfl, rfl, rfl⟩
  rintro x9 e_7 L_37 ⟨h_8, h_9, h_10, h_11, rfl⟩ x_15 hp hx_16
  replace hp : fettleref05_Leads.bd16 a1 a6 a7 x9 = some x_15 := hp
  unfold fettleref05_Leads.bd16 at hp
  refine TC.seq fun K_22 hK_23 => ?_
  refine TC.seq fun K_24 hK_25 => ?_
  refine TC.region ?_
  refine TL.v (ltb rfl) (rv_mv (v := .int .i64 x9) h_11) ?_
  refine TL.v (ltb rfl) (rv_fa (b := b8) (o := 0) fa_25_3 h_10) ?_
  refine TL.v (ltb rfl) (rv_ld (v := v4) (o := 3) (o' := 0) (j := 3) sc_23 rfl (Src.at_ 0 rfl) (bx_cells b8 25 _) rfl rfl) ?_
  refine TL.v (ltb rfl) (rv_mv (v := .int .i64 a6) h_8) ?_
  obtain ⟨x10, hx_26, hp⟩ := bind_some' hp
  refine TL.v3 (ltb rfl) (rv_ix 23 (.tmp 10) (.tmp 11) (v := v4) (i := a6) Try.underlying23 inf_85 rfl rfl rfl h5 hx_26) fun b11 o12 c13 h14 h15 => ?_
  obtain ⟨v16, v18, v20, rfl, h17, h19, h21⟩ := h14
  refine TL.v (ltb rfl) (rv_fa (b := b11) (o := o12) fa_85_2 rfl) ?_
  refine TL.v (ltb rfl) (rv_fa (b := b11) (o := o12 + 2) fa_81_2 rfl) ?_
  refine TL.v (ltb rfl) (rv_ld (v := v20) (o := o12 + 4) (o' := o12) (j := 4) sc_22 rfl Src.H h15 rfl rfl) ?_
  refine TL.v (ltb rfl) (rv_lenI (v := v20) Try.underlying22 rfl h21) ?_
  refine TL.v (ltb rfl) (rv_lss (k := .i64) (m := x9) (n := (len x10.term.to)) rfl rfl) ?_
  refine TL.nil ?_
  refine TC.go hK_25 ?_
  by_cases hc_27 : x9 < (len x10.term.to)
  · rw [if_pos hc_27] at hp
    refine TC.condT (bT hc_27) ?_
    refine TC.skip ?_
    refine TC.go hK_23 ?_
    refine TC.seq fun K_28 hK_29 => ?_
    refine TC.block ?_
    refine TC.seq fun K_30 hK_31 => ?_
    refine TC.region ?_
    refine TL.v (ltb rfl) (rv_fa (b := b8) (o := 0) fa_25_3 h_10) ?_
    refine TL.v (ltb rfl) (rv_ld (v := v4) (o := 3) (o' := 0) (j := 3) sc_23 rfl (Src.at_ 0 rfl) (bx_cells b8 25 _) rfl rfl) ?_
    refine TL.v (ltb rfl) (rv_mv (v := .int .i64 a6) h_8) ?_
    obtain ⟨x22, hx_32, hp⟩ := bind_some' hp
    refine TL.v3 (ltb rfl) (rv_ix 23 (.tmp 21) (.tmp 22) (v := v4) (i := a6) Try.underlying23 inf_85 rfl rfl rfl h5 hx_32) fun b23 o24 c25 h26 h27 => ?_
    obtain ⟨v28, v30, v32, rfl, h29, h31, h33⟩ := h26
    refine TL.v (ltb rfl) (rv_fa (b := b23) (o := o24) fa_85_2 rfl) ?_
    refine TL.v (ltb rfl) (rv_fa (b := b23) (o := o24 + 2) fa_81_2 rfl) ?_
    refine TL.v (ltb rfl) (rv_ld (v := v32) (o := o24 + 4) (o' := o24) (j := 4) sc_22 rfl Src.H h27 rfl rfl) ?_
    refine TL.v (ltb rfl) (rv_mv (v := .int .i64 x9) h_11) ?_
    obtain ⟨x34, hx_33, hp⟩ := bind_some' hp
    refine TL.v3 (ltb rfl) (rv_ix 22 (.tmp 26) (.tmp 27) (v := v32) (i := x9) Try.underlying22 inf_3 rfl rfl rfl h33 hx_33) fun b35 o36 c37 h38 h39 => ?_
    obtain rfl := h38
    refine TL.v (ltb rfl) (rv_ld (v := .int .i64 x34) (o := o36) (o' := o36) (j := 0) sc_3 rfl Src.H h39 rfl rfl) ?_
    refine TL.v (ltb rfl) (rv_mv (v := .int .i64 a7) h_9) ?_
    refine TL.v (ltb rfl) (rv_eql (k := .i64) (m := x34) (n := a7) rfl rfl) ?_
    refine TL.nil ?_
    refine TC.go hK_31 ?_
    by_cases hc_34 : x34 = a7
    · rw [if_pos hc_34] at hp
      refine TC.condT (bT hc_34) ?_
      refine TC.seq fun K_35 hK_36 => ?_
      refine TC.region ?_
      refine TL.v (ltb rfl) (rv_as (v := .bool true) rfl) ?_
      refine TL.nil ?_
      refine TC.go hK_36 ?_
      refine TC.ret ?_
      obtain rfl := ex_ret hp hx_16
      obtain rfl := Option.some.inj hr_14
      exact fun w hw => retOk ⟨rfl, rfl⟩ (hw.pick [])
    · rw [if_neg hc_34] at hp
      refine TC.condF (bF hc_34) ?_
      refine TC.skip ?_
      refine TC.go hK_29 ?_
      refine TC.region ?_
      refine TL.v (ltb rfl) (rv_mv (v := .int .i64 x9) h_11) ?_
      refine TL.v (ltb rfl) (rv_add (k := .i64) (m := x9) (n := 1) rfl rfl) ?_
      refine TL.v (ltb rfl) (rv_as (v := .int .i64 (w64 (x9 + 1))) rfl) ?_
      refine TL.nil ?_
      exact fun w hw => goOk hp ⟨h_8, h_9, h_10, rfl, rfl⟩ (hw.pick [0])
  · rw [if_neg hc_27] at hp
    refine TC.condF (bF hc_27) ?_
    refine TC.exit ?_
    refine fun w hw => hJ_20 _ (ex_ret hp hx_16) w (hw.pick [])

/-! ### fettle/fettleref05.Next -/
abbrev fettleref05_Next.R (r : List Int) (v : Value) (A : List FP) : Prop := ∃ (w1 : Value) (G1 : FP), w1 = v ∧ A = [G1] ∧ SlO 3 (kInt .i64) r w1 G1
def fettleref05_Next.nx18  (x13 : List Int) : Option (List Int) :=
  some x13
def fettleref05_Next.jn38 (x12 : Int) (x29 : List Int) : Option (Ex (List Int) (List Int × Int)) :=
  some (.go (x29, (w64 (x12 + 1))))
def fettleref05_Next.nx72 (x8 : List Int) (x12 : Int) (x45 : Int) (x53 : Bool) : Option (Ex (List Int) (List Int × Int)) :=
  if (!x53) = true then
    (cat x8 [x45]).bind fun x55 =>
    fettleref05_Next.jn38 x12 x55
  else
    fettleref05_Next.jn38 x12 x8
def fettleref05_Next.bd72 (x8 : List Int) (x45 : Int) (x51 : Bool) (x52 : Int) : Option (Ex Bool (Bool × Int)) :=
  if x52 < (len x8) then
    (if x51 = true then some true else (idx x8 x52).bind fun x60 =>
    some (decide (x60 = x45))).bind fun t59 =>
    some (.go (t59, (w64 (x52 + 1))))
  else
    some (.ret x51)
def fettleref05_Next.bd18 (a1 : PFunc) (a6 : Int) (x8 : List Int) (x12 : Int) : Option (Ex (List Int) (List Int × Int)) :=
  (idx a1.blocks a6).bind fun x17 =>
  if x12 < (len x17.term.to) then
    (idx a1.blocks a6).bind fun x33 =>
    (idx x33.term.to x12).bind fun x45 =>
    (whl (fun (s : (Bool × Int)) => fettleref05_Next.bd72 x8 x45 s.1 s.2) FUEL ((decide (x45 < 0 ∨ x45 ≥ (len a1.blocks))), 0)).bind fun z =>
    fettleref05_Next.nx72 x8 x12 x45 z
  else
    some (.ret x8)
def fettleref05_Next (a1 : PFunc) (a6 : Int) : Option (List Int) :=
  (whl (fun (s : (List Int × Int)) => fettleref05_Next.bd18 a1 a6 s.1 s.2) FUEL (([] : List Int), 0)).bind fun z =>
  fettleref05_Next.nx18 z
theorem fettleref05_Next_ok {E : World} {H : FP} {w : World} {a1 : PFunc} {a6 : Int} {v2 : Value} {v4 : Value} {r : List Int} (h3 : SlI (kInt .i64) H a1.regs v2) (h5 : SlI kBlock H a1.blocks v4) (hp : fettleref05_Next a1 a6 = some r) (hst : St E H [] w) :
    Fn Try.prog 24 #[.agg #[.int .i64 a1.params, .int .i64 a1.result, v2, v4], .int .i64 a6] w fun v w' => ∃ A, fettleref05_Next.R r v A ∧ St E H A w' := by
  refine Fn.body (fn := Try.f24) (args := [.agg #[.int .i64 a1.params, .int .i64 a1.result, v2, v4], .int .i64 a6]) E H [] [.tmp 4] 63 Try.func24 rfl rfl rfl rfl (leb rfl) hst ?_
  unfold fettleref05_Next at hp
  refine TC.seq fun K_1 hK_2 => ?_
  refine TC.region ?_
  refine TL.box (cs := [.int .i64 a1.params, .int .i64 a1.result, v2, v4]) (v := .agg #[.int .i64 a1.params, .int .i64 a1.result, v2, v4]) (ltb rfl) rfl rfl fun b7 => ?_
  refine TL.v (ltb rfl) (rv_as (v := .slice none 0 0) rfl) ?_
  refine TL.nil ?_
  refine TC.go hK_2 ?_
  refine TC.seq fun K_3 hK_4 => ?_
  refine TC.region ?_
  refine TL.v (ltb rfl) (rv_as (v := .slice none 0 0) rfl) ?_
  refine TL.nil ?_
  refine TC.go hK_4 ?_
  refine TC.seq fun K_5 hK_6 => ?_
  refine TC.seq fun K_7 hK_8 => ?_
  refine TC.region ?_
  refine TL.v (ltb rfl) (rv_as (v := .int .i64 0) rfl) ?_
  refine TL.nil ?_
  refine TC.go hK_8 ?_
  refine TC.block ?_
  obtain ⟨z_14, hz_15, hr_16⟩ := bind_some' hp
  clear hp
  have hJ_23 : ∀ (x13 : List Int) (v14 : Value) (F15 : FP) (e_19 : Env) (h16 : SlO 3 (kInt .i64) x13 v14 F15) (h_20 : e_19 5 = v14) (hq_24 : x13 = z_14), ∀ w, St E H [F15] w → K_5 e_19 w := by
    intro x13 v14 F15 e_19 h16 h_20 hq_24
    subst hq_24
    replace hp : fettleref05_Next.nx18 x13 = some r := hr_16
    unfold fettleref05_Next.nx18 at hp
    refine TC.go hK_6 ?_
    refine TC.seq fun K_21 hK_22 => ?_
    refine TC.region ?_
    refine TL.v (ltb rfl) (rv_mv (v := v14) h_20) ?_
    refine TL.v (ltb rfl) (rv_as (v := v14) rfl) ?_
    refine TL.nil ?_
    refine TC.go hK_22 ?_
    refine TC.ret ?_
    obtain rfl := Option.some.inj hp
    exact fun w hw => retOk ⟨v14, F15, rfl, rfl, h16⟩ (hw.pick [0])
  refine W.new0 ?_
  refine TC.pk' [1, 0] (L' := [bx b7 25 [.int .i64 a1.params, .int .i64 a1.result, v2, v4], ([] : FP)]) rfl ?_
  refine TC.loopW (r := z_14) (fun (s : (List Int × Int)) (e_9 : Env) (L_108 : List FP) => ∃ (x8 : List Int) (x12 : Int) (v9 : Value) (F10 : FP), s = (x8, x12) ∧ SlO 3 (kInt .i64) x8 v9 F10 ∧ e_9 1 = .int .i64 a6 ∧ e_9 2 = .pointer (some ⟨b7, 0, none⟩) ∧ e_9 5 = v9 ∧ e_9 6 = .int .i64 x12 ∧ L_108 = [bx b7 25 [.int .i64 a1.params, .int .i64 a1.result, v2, v4], F10]) ?_ FUEL _ _ _ hz_15 ⟨([] : List Int), 0, (.slice none 0 0), ([] : FP), rfl, (SlO.nil 3), rfl, rfl, rfl, rfl, rfl⟩
  rintro s e_9 L_108 ⟨x8, x12, v9, F10, rfl, h11, h_10, h_11, h_12, h_13, rfl⟩ x_17 hp hx_18
  replace hp : fettleref05_Next.bd18 a1 a6 x8 x12 = some x_17 := hp
  unfold fettleref05_Next.bd18 at hp
  refine TC.seq fun K_25 hK_26 => ?_
  refine TC.seq fun K_27 hK_28 => ?_
  refine TC.region ?_
  refine TL.v (ltb rfl) (rv_mv (v := .int .i64 x12) h_13) ?_
  refine TL.v (ltb rfl) (rv_fa (b := b7) (o := 0) fa_25_3 h_11) ?_
  refine TL.v (ltb rfl) (rv_ld (v := v4) (o := 3) (o' := 0) (j := 3) sc_23 rfl (Src.at_ 0 rfl) (bx_cells b7 25 _) rfl rfl) ?_
  refine TL.v (ltb rfl) (rv_mv (v := .int .i64 a6) h_10) ?_
  obtain ⟨x17, hx_29, hp⟩ := bind_some' hp
  refine TL.v3 (ltb rfl) (rv_ix 23 (.tmp 12) (.tmp 13) (v := v4) (i := a6) Try.underlying23 inf_85 rfl rfl rfl h5 hx_29) fun b18 o19 c20 h21 h22 => ?_
  obtain ⟨v23, v25, v27, rfl, h24, h26, h28⟩ := h21
  refine TL.v (ltb rfl) (rv_fa (b := b18) (o := o19) fa_85_2 rfl) ?_
  refine TL.v (ltb rfl) (rv_fa (b := b18) (o := o19 + 2) fa_81_2 rfl) ?_
  refine TL.v (ltb rfl) (rv_ld (v := v27) (o := o19 + 4) (o' := o19) (j := 4) sc_22 rfl Src.H h22 rfl rfl) ?_
  refine TL.v (ltb rfl) (rv_lenI (v := v27) Try.underlying22 rfl h28) ?_
  refine TL.v (ltb rfl) (rv_lss (k := .i64) (m := x12) (n := (len x17.term.to)) rfl rfl) ?_
  refine TL.nil ?_
  refine TC.go hK_28 ?_
  by_cases hc_30 : x12 < (len x17.term.to)
  · rw [if_pos hc_30] at hp
    refine TC.condT (bT hc_30) ?_
    refine TC.skip ?_
    refine TC.go hK_26 ?_
    refine TC.seq fun K_31 hK_32 => ?_
    have hJ_38 : ∀ (x29 : List Int) (v30 : Value) (F31 : FP) (e_33 : Env) (h32 : SlO 3 (kInt .i64) x29 v30 F31) (h_34 : e_33 1 = .int .i64 a6) (h_35 : e_33 2 = .pointer (some ⟨b7, 0, none⟩)) (h_36 : e_33 5 = v30) (h_37 : e_33 6 = .int .i64 x12) (hp : fettleref05_Next.jn38 x12 x29 = some x_17), ∀ w, St E H [bx b7 25 [.int .i64 a1.params, .int .i64 a1.result, v2, v4], F31] w → K_31 e_33 w := by
      intro x29 v30 F31 e_33 h32 h_34 h_35 h_36 h_37 hp
      unfold fettleref05_Next.jn38 at hp
      refine TC.go hK_32 ?_
      refine TC.region ?_
      refine TL.v (ltb rfl) (rv_mv (v := .int .i64 x12) h_37) ?_
      refine TL.v (ltb rfl) (rv_add (k := .i64) (m := x12) (n := 1) rfl rfl) ?_
      refine TL.v (ltb rfl) (rv_as (v := .int .i64 (w64 (x12 + 1))) rfl) ?_
      refine TL.nil ?_
      exact fun w hw => goOk hp ⟨x29, (w64 (x12 + 1)), v30, F31, rfl, h32, h_34, h_35, h_36, rfl, rfl⟩ (hw.pick [0, 0])
    refine TC.block ?_
    refine TC.seq fun K_39 hK_40 => ?_
    refine TC.region ?_
    refine TL.v (ltb rfl) (rv_fa (b := b7) (o := 0) fa_25_3 h_11) ?_
    refine TL.v (ltb rfl) (rv_ld (v := v4) (o := 3) (o' := 0) (j := 3) sc_23 rfl (Src.at_ 0 rfl) (bx_cells b7 25 _) rfl rfl) ?_
    refine TL.v (ltb rfl) (rv_mv (v := .int .i64 a6) h_10) ?_
    obtain ⟨x33, hx_41, hp⟩ := bind_some' hp
    refine TL.v3 (ltb rfl) (rv_ix 23 (.tmp 23) (.tmp 24) (v := v4) (i := a6) Try.underlying23 inf_85 rfl rfl rfl h5 hx_41) fun b34 o35 c36 h37 h38 => ?_
    obtain ⟨v39, v41, v43, rfl, h40, h42, h44⟩ := h37
    refine TL.v (ltb rfl) (rv_fa (b := b34) (o := o35) fa_85_2 rfl) ?_
    refine TL.v (ltb rfl) (rv_fa (b := b34) (o := o35 + 2) fa_81_2 rfl) ?_
    refine TL.v (ltb rfl) (rv_ld (v := v43) (o := o35 + 4) (o' := o35) (j := 4) sc_22 rfl Src.H h38 rfl rfl) ?_
    refine TL.v (ltb rfl) (rv_mv (v := .int .i64 x12) h_13) ?_
    obtain ⟨x45, hx_42, hp⟩ := bind_some' hp
    refine TL.v3 (ltb rfl) (rv_ix 22 (.tmp 28) (.tmp 29) (v := v43) (i := x12) Try.underlying22 inf_3 rfl rfl rfl h44 hx_42) fun b46 o47 c48 h49 h50 => ?_
    obtain rfl := h49
    refine TL.v (ltb rfl) (rv_ld (v := .int .i64 x45) (o := o47) (o' := o47) (j := 0) sc_3 rfl Src.H h50 rfl rfl) ?_
    refine TL.v (ltb rfl) (rv_as (v := .int .i64 x45) rfl) ?_
    refine TL.nil ?_
    refine TC.go hK_40 ?_
    refine TC.seq fun K_43 hK_44 => ?_
    refine TC.region ?_
    refine TL.v (ltb rfl) (rv_mv (v := .int .i64 x45) rfl) ?_
    refine TL.v (ltb rfl) (rv_lss (k := .i64) (m := x45) (n := 0) rfl rfl) ?_
    refine TL.v (ltb rfl) (rv_mv (v := .bool (decide (x45 < 0))) rfl) ?_
    refine TL.cut 6 fun K_45 hK_46 => ?_
    have hJ_47 : ∀ e_49 : Env, e_49 1 = .int .i64 a6 → e_49 2 = .pointer (some ⟨b7, 0, none⟩) → e_49 5 = v9 → e_49 6 = .int .i64 x12 → e_49 7 = .int .i64 x45 → e_49 40 = .bool (decide (x45 < 0 ∨ x45 ≥ (len a1.blocks))) → ∀ w, St E H [bx b7 25 [.int .i64 a1.params, .int .i64 a1.result, v2, v4], F10] w → K_45 e_49 w := by
      intro e_49 h_50 h_51 h_52 h_53 h_54 h_55
      refine TL.go hK_46 ?_
      refine TL.v (ltb rfl) (rv_as (v := .bool (decide (x45 < 0 ∨ x45 ≥ (len a1.blocks)))) h_55) ?_
      refine TL.nil ?_
      refine TC.go hK_44 ?_
      refine TC.seq fun K_56 hK_57 => ?_
      refine TC.seq fun K_58 hK_59 => ?_
      refine TC.region ?_
      refine TL.v (ltb rfl) (rv_as (v := .int .i64 0) rfl) ?_
      refine TL.nil ?_
      refine TC.go hK_59 ?_
      refine TC.block ?_
      obtain ⟨z_68, hz_69, hr_70⟩ := bind_some' hp
      clear hp
      have hJ_84 : ∀ (x53 : Bool) (e_73 : Env) (h_74 : e_73 1 = .int .i64 a6) (h_75 : e_73 2 = .pointer (some ⟨b7, 0, none⟩)) (h_76 : e_73 5 = v9) (h_77 : e_73 6 = .int .i64 x12) (h_78 : e_73 7 = .int .i64 x45) (h_79 : e_73 8 = .bool x53) (hq_85 : x53 = z_68), ∀ w, St E H [bx b7 25 [.int .i64 a1.params, .int .i64 a1.result, v2, v4], F10] w → K_56 e_73 w := by
        intro x53 e_73 h_74 h_75 h_76 h_77 h_78 h_79 hq_85
        subst hq_85
        replace hp : fettleref05_Next.nx72 x8 x12 x45 x53 = some x_17 := hr_70
        unfold fettleref05_Next.nx72 at hp
        refine TC.go hK_57 ?_
        refine TC.seq fun K_80 hK_81 => ?_
        refine TC.region ?_
        refine TL.v (ltb rfl) (rv_mv (v := .bool x53) h_79) ?_
        refine TL.v (ltb rfl) (rv_not (b := x53) rfl) ?_
        refine TL.nil ?_
        refine TC.go hK_81 ?_
        by_cases hc_82 : (!x53) = true
        · rw [if_pos hc_82] at hp
          refine TC.condT (bbT hc_82) ?_
          refine TC.region ?_
          refine TL.v (ltb rfl) (rv_mv (v := v9) h_76) ?_
          refine TL.v (ltb rfl) (rv_mv (v := .int .i64 x45) h_78) ?_
          refine TL.bv (vs := [(0, .int .i64 x45)]) (cs := [.int .i64 x45]) (pc rfl p0) Try.underlying22 inf_3 (ltb rfl) (by decide) (by decide) (by kernel_rfl) fun b54 => ?_
          refine TL.pk' [2, 0, 0] (L' := [F10, bx b54 3 [.int .i64 x45], bx b7 25 [.int .i64 a1.params, .int .i64 a1.result, v2, v4]]) rfl ?_
          refine TL.perm (L' := [F10, bx b54 3 [.int .i64 x45], [], bx b7 25 [.int .i64 a1.params, .int .i64 a1.result, v2, v4]]) (by simp) ?_
          obtain ⟨x55, hz_83, hp⟩ := bind_some' hp
          refine TL.app Try.underlying22 inf_3 (ltb rfl) rfl (ltb rfl) rfl (leb rfl) rfl rfl h11 (RepL.to (RepL.cons (k := (kInt .i64)) (x := x45) ⟨rfl, rfl⟩ RepL.nil) rfl) rfl rfl hz_83 fun v56 F57 h58 => ?_
          refine TL.v (ltb rfl) (rv_as (v := v56) rfl) ?_
          refine TL.nil ?_
          refine fun w hw => hJ_38 x55 v56 F57 _ h58 ?_ ?_ ?_ ?_ hp w (hw.pick [1, 0])
          · exact h_74
          · exact h_75
          · exact rfl
          · exact h_77
        · rw [if_neg hc_82] at hp
          refine TC.condF (bbF hc_82) ?_
          refine TC.skip ?_
          refine fun w hw => hJ_38 x8 v9 F10 _ h11 ?_ ?_ ?_ ?_ hp w (hw.pick [0, 0])
          · exact h_74
          · exact h_75
          · exact h_76
          · exact h_77
      refine TC.pk' [0, 0] (L' := [bx b7 25 [.int .i64 a1.params, .int .i64 a1.result, v2, v4], F10]) rfl ?_
      refine TC.loopW (r := z_68) (fun (s : (Bool × Int)) (e_60 : Env) (L_107 : List FP) => ∃ (x51 : Bool) (x52 : Int), s = (x51, x52) ∧ e_60 1 = .int .i64 a6 ∧ e_60 2 = .pointer (some ⟨b7, 0, none⟩) ∧ e_60 5 = v9 ∧ e_60 6 = .int .i64 x12 ∧ e_60 7 = .int .i64 x45 ∧ e_60 8 = .bool x51 ∧ e_60 9 = .int .i64 x52 ∧ L_107 = [bx b7 25 [.int .i64 a1.params, .int .i64 a1.result, v2, v4], F10]) ?_ FUEL _ _ _ hz_69 ⟨(decide (x45 < 0 ∨ x45 ≥ (len a1.blocks))), 0, rfl, h_50, h_51, h_52, h_53, h_54, rfl, rfl, rfl⟩
      rintro s e_60 L_107 ⟨x51, x52, rfl, h_61, h_62, h_63, h_64, h_65, h_66, h_67, rfl⟩ x_71 hp hx_72
      replace hp : fettleref05_Next.bd72 x8 x45 x51 x52 = some x_71 := hp
      unfold fettleref05_Next.bd72 at hp
      refine TC.seq fun K_86 hK_87 => ?_
      refine TC.seq fun K_88 hK_89 => ?_
      refine TC.region ?_
      refine TL.v (ltb rfl) (rv_mv (v := .int .i64 x52) h_67) ?_
      refine TL.v (ltb rfl) (rv_mv (v := v9) h_63) ?_
      refine TL.v (ltb rfl) (rv_lenI (v := v9) Try.underlying22 rfl h11.ro) ?_
      refine TL.v (ltb rfl) (rv_lss (k := .i64) (m := x52) (n := (len x8)) rfl rfl) ?_
      refine TL.nil ?_
      refine TC.go hK_89 ?_
      by_cases hc_90 : x52 < (len x8)
      · rw [if_pos hc_90] at hp
        refine TC.condT (bT hc_90) ?_
        refine TC.skip ?_
        refine TC.go hK_87 ?_
        refine TC.seq fun K_91 hK_92 => ?_
        refine TC.block ?_
        refine TC.region ?_
        refine TL.v (ltb rfl) (rv_mv (v := .bool x51) h_66) ?_
        refine TL.v (ltb rfl) (rv_mv (v := .bool x51) rfl) ?_
        obtain ⟨t59, ht_105, hp⟩ := bind_some' hp
        refine TL.cut 7 fun K_93 hK_94 => ?_
        have hJ_95 : ∀ e_97 : Env, e_97 1 = .int .i64 a6 → e_97 2 = .pointer (some ⟨b7, 0, none⟩) → e_97 5 = v9 → e_97 6 = .int .i64 x12 → e_97 7 = .int .i64 x45 → e_97 9 = .int .i64 x52 → e_97 55 = .bool t59 → ∀ w, St E H [bx b7 25 [.int .i64 a1.params, .int .i64 a1.result, v2, v4], F10] w → K_93 e_97 w := by
          intro e_97 h_98 h_99 h_100 h_101 h_102 h_103 h_104
          refine TL.go hK_94 ?_
          refine TL.v (ltb rfl) (rv_as (v := .bool t59) h_104) ?_
          refine TL.nil ?_
          refine TC.go hK_92 ?_
          refine TC.region ?_
          refine TL.v (ltb rfl) (rv_mv (v := .int .i64 x52) h_103) ?_
          refine TL.v (ltb rfl) (rv_add (k := .i64) (m := x52) (n := 1) rfl rfl) ?_
          refine TL.v (ltb rfl) (rv_as (v := .int .i64 (w64 (x52 + 1))) rfl) ?_
          refine TL.nil ?_
          exact fun w hw => goOk hp ⟨t59, (w64 (x52 + 1)), rfl, h_98, h_99, h_100, h_101, h_102, rfl, rfl, rfl⟩ (hw.pick [0, 0])
        clear hp
        have hp := ht_105
        clear ht_105
        by_cases hc_96 : x51 = true
        · rw [if_pos hc_96] at hp
          refine TL.gno true rfl (fun d hd => by cases hd; exact ltb rfl) (yieldE_of rfl (bbT hc_96)) rfl ?_
          refine TL.gno true rfl (fun d hd => by cases hd; exact ltb rfl) (yieldE_of rfl (bbT hc_96)) rfl ?_
          refine TL.gno true rfl (fun d hd => by cases hd; exact ltb rfl) (yieldE_of rfl (bbT hc_96)) rfl ?_
          refine TL.gno true rfl (fun d hd => by cases hd; exact ltb rfl) (yieldE_of rfl (bbT hc_96)) rfl ?_
          refine TL.gno true rfl (fun d hd => by cases hd; exact ltb rfl) (yieldE_of rfl (bbT hc_96)) rfl ?_
          refine TL.gno true rfl (fun d hd => by cases hd; exact ltb rfl) (yieldE_of rfl (bbT hc_96)) rfl ?_
          refine TL.v (ltb rfl) (rv_pickT true (bbT hc_96) rfl (v := .bool true) rfl) ?_
          obtain rfl := Option.some.inj hp
          refine TL.nil (hJ_95 _ ?_ ?_ ?_ ?_ ?_ ?_ ?_)
          · exact h_61
          · exact h_62
          · exact h_63
          · exact h_64
          · exact h_65
          · exact h_67
          · exact rfl
        · rw [if_neg hc_96] at hp
          refine TL.gyes false (yieldE_of rfl (bbF hc_96)) rfl ?_
          refine TL.v (ltb rfl) (rv_mv (v := v9) h_63) ?_
          refine TL.gyes false (yieldE_of rfl (bbF hc_96)) rfl ?_
          refine TL.v (ltb rfl) (rv_mv (v := .int .i64 x52) h_67) ?_
          refine TL.gyes false (yieldE_of rfl (bbF hc_96)) rfl ?_
          obtain ⟨x60, hx_106, hp⟩ := bind_some' hp
          refine TL.v3 (ltb rfl) (rv_ix 22 (.tmp 49) (.tmp 50) (v := v9) (i := x52) Try.underlying22 inf_3 rfl rfl rfl (h11).ro hx_106) fun b61 o62 c63 h64 h65 => ?_
          obtain rfl := h64
          refine TL.gyes false (yieldE_of rfl (bbF hc_96)) rfl ?_
          refine TL.v (ltb rfl) (rv_ld (v := .int .i64 x60) (o := o62) (o' := o62) (j := 0) sc_3 rfl (Src.at_ 1 rfl) h65 rfl rfl) ?_
          refine TL.gyes false (yieldE_of rfl (bbF hc_96)) rfl ?_
          refine TL.v (ltb rfl) (rv_mv (v := .int .i64 x45) h_65) ?_
          refine TL.gyes false (yieldE_of rfl (bbF hc_96)) rfl ?_
          refine TL.v (ltb rfl) (rv_eql (k := .i64) (m := x60) (n := x45) rfl rfl) ?_
          refine TL.v (ltb rfl) (rv_pickF false (bbF hc_96) rfl (v := .bool (decide (x60 = x45))) rfl) ?_
          obtain rfl := Option.some.inj hp
          refine TL.nil (hJ_95 _ ?_ ?_ ?_ ?_ ?_ ?_ ?_)
          · exact h_61
          · exact h_62
          · exact h_63
          · exact h_64
          · exact h_65
          · exact h_67
          · exact rfl
      · rw [if_neg hc_90] at hp
        refine TC.condF (bF hc_90) ?_
        refine TC.exit ?_
        refine fun w hw => hJ_84 x51 _ ?_ ?_ ?_ ?_ ?_ ?_ (ex_ret hp hx_72) w (hw.pick [0, 0])
        · exact h_61
        · exact h_62
        · exact h_63
        · exact h_64
        · exact h_65
        · exact h_66
    by_cases hc_48 : x45 < 0
    · refine TL.gno true rfl (fun d hd => by cases hd; exact ltb rfl) (yieldE_of rfl (bT hc_48)) rfl ?_
      refine TL.gno true rfl (fun d hd => by cases hd; exact ltb rfl) (yieldE_of rfl (bT hc_48)) rfl ?_
      refine TL.gno true rfl (fun d hd => by cases hd; exact ltb rfl) (yieldE_of rfl (bT hc_48)) rfl ?_
      refine TL.gno true rfl (fun d hd => by cases hd; exact ltb rfl) (yieldE_of rfl (bT hc_48)) rfl ?_
      refine TL.gno true rfl (fun d hd => by cases hd; exact ltb rfl) (yieldE_of rfl (bT hc_48)) rfl ?_
      refine TL.v (ltb rfl) (rv_pickT true (bT hc_48) rfl (v := .bool true) rfl) ?_
      refine TL.nil (hJ_47 _ ?_ ?_ ?_ ?_ ?_ ?_)
      · exact h_10
      · exact h_11
      · exact h_12
      · exact h_13
      · exact rfl
      · exact (bOt hc_48)
    · refine TL.gyes false (yieldE_of rfl (bF hc_48)) rfl ?_
      refine TL.v (ltb rfl) (rv_mv (v := .int .i64 x45) rfl) ?_
      refine TL.gyes false (yieldE_of rfl (bF hc_48)) rfl ?_
      refine TL.v (ltb rfl) (rv_fa (b := b7) (o := 0) fa_25_3 h_11) ?_
      refine TL.gyes false (yieldE_of rfl (bF hc_48)) rfl ?_
      refine TL.v (ltb rfl) (rv_ld (v := v4) (o := 3) (o' := 0) (j := 3) sc_23 rfl (Src.at_ 0 rfl) (bx_cells b7 25 _) rfl rfl) ?_
      refine TL.gyes false (yieldE_of rfl (bF hc_48)) rfl ?_
      refine TL.v (ltb rfl) (rv_lenI (v := v4) Try.underlying23 rfl h5) ?_
      refine TL.gyes false (yieldE_of rfl (bF hc_48)) rfl ?_
      refine TL.v (ltb rfl) (rv_geq (k := .i64) (m := x45) (n := (len a1.blocks)) rfl rfl) ?_
      refine TL.v (ltb rfl) (rv_pickF false (bF hc_48) rfl (v := .bool (decide (x45 ≥ (len a1.blocks)))) rfl) ?_
      refine TL.nil (hJ_47 _ ?_ ?_ ?_ ?_ ?_ ?_)
      · exact h_10
      · exact h_11
      · exact h_12
      · exact h_13
      · exact rfl
      · exact (bOf hc_48)
  · rw [if_neg hc_30] at hp
    refine TC.condF (bF hc_30) ?_
    refine TC.exit ?_
    refine fun w hw => hJ_23 x8 v9 F10 _ h11 ?_ (ex_ret hp hx_18) w (hw.pick [1])
    · exact h_12

/-! ### fettle/fettleref05.From -/
abbrev fettleref05_From.R (r : List Bool) (v : Value) (A : List FP) : Prop := ∃ (w1 : Value) (G1 : FP), w1 = v ∧ A = [G1] ∧ SlO 4 kBool r w1 G1
def fettleref05_From.nx49  (x23 : List Bool) : Option (List Bool) :=
  some x23
def fettleref05_From.nx75 (x22 : Int) (x30 : List Bool) : Option (Ex (List Bool) (List Bool × Int)) :=
  some (.go (x30, (w64 (x22 + 1))))
def fettleref05_From.jn96 (x29 : Int) (x33 : List Bool) : Option (Ex (List Bool) (List Bool × Int)) :=
  some (.go (x33, (w64 (x29 + 1))))
def fettleref05_From.nx121 (x29 : Int) (x50 : List Bool) : Option (Ex (List Bool) (List Bool × Int)) :=
  fettleref05_From.jn96 x29 x50
def fettleref05_From.jn145 (x49 : Int) (x53 : List Bool) : Option (Ex (List Bool) (List Bool × Int)) :=
  some (.go (x53, (w64 (x49 + 1))))
def fettleref05_From.bd121 (a7 : Int) (x42 : List Int) (x46 : List Bool) (x49 : Int) : Option (Ex (List Bool) (List Bool × Int)) :=
  if x49 < (len x42) then
    (idx x42 x49).bind fun x56 =>
    if ¬ x56 = a7 then
      (idx x42 x49).bind fun x62 =>
      (idx x46 x62).bind fun x68 =>
      fettleref05_From.jn145 x49 (x46.set (x62).toNat true)
    else
      fettleref05_From.jn145 x49 x46
  else
    some (.ret x46)
def fettleref05_From.bd75 (a1 : PFunc) (a7 : Int) (x26 : List Bool) (x29 : Int) : Option (Ex (List Bool) (List Bool × Int)) :=
  if x29 < (len x26) then
    (idx x26 x29).bind fun x36 =>
    if (!x36) = true then
      fettleref05_From.jn96 x29 x26
    else
      (fettleref05_Next a1 x29).bind fun x42 =>
      (whl (fun (s : (List Bool × Int)) => fettleref05_From.bd121 a7 x42 s.1 s.2) FUEL (x26, 0)).bind fun z =>
      fettleref05_From.nx121 x29 z
  else
    some (.ret x26)
def fettleref05_From.bd49 (a1 : PFunc) (a7 : Int) (x19 : List Bool) (x22 : Int) : Option (Ex (List Bool) (List Bool × Int)) :=
  if x22 < (len x19) then
    (whl (fun (s : (List Bool × Int)) => fettleref05_From.bd75 a1 a7 s.1 s.2) FUEL (x19, 0)).bind fun z =>
    fettleref05_From.nx75 x22 z
  else
    some (.ret x19)
def fettleref05_From (a1 : PFunc) (a6 : Int) (a7 : Int) : Option (List Bool) :=
  (mkl (len a1.blocks) false).bind fun x9 =>
  if (a6 < 0 ∨ a6 ≥ (len x9)) ∨ a6 = a7 then
    some x9
  else
    (idx x9 a6).bind fun x13 =>
    (whl (fun (s : (List Bool × Int)) => fettleref05_From.bd49 a1 a7 s.1 s.2) FUEL ((x9.set (a6).toNat true), 0)).bind fun z =>
    fettleref05_From.nx49 z
theorem fettleref05_From_ok {E : World} {H : FP} {w : World} {a1 : PFunc} {a6 : Int} {a7 : Int} {v2 : Value} {v4 : Value} {r : List Bool} (h3 : SlI (kInt .i64) H a1.regs v2) (h5 : SlI kBlock H a1.blocks v4) (hp : fettleref05_From a1 a6 a7 = some r) (hst : St E H [] w) :
    Fn Try.prog 21 #[.agg #[.int .i64 a1.params, .int .i64 a1.result, v2, v4], .int .i64 a6, .int .i64 a7] w fun v w' => ∃ A, fettleref05_From.R r v A ∧ St E H A w' := by
  refine Fn.body (fn := Try.f21) (args := [.agg #[.int .i64 a1.params, .int .i64 a1.result, v2, v4], .int .i64 a6, .int .i64 a7]) E H [] [.tmp 6] 72 Try.func21 rfl rfl rfl rfl (leb rfl) hst ?_
  unfold fettleref05_From at hp
  refine TC.seq fun K_1 hK_2 => ?_
  refine TC.region ?_
  refine TL.box (cs := [.int .i64 a1.params, .int .i64 a1.result, v2, v4]) (v := .agg #[.int .i64 a1.params, .int .i64 a1.result, v2, v4]) (ltb rfl) rfl rfl fun b8 => ?_
  refine TL.v (ltb rfl) (rv_as (v := .slice none 0 0) rfl) ?_
  refine TL.nil ?_
  refine TC.go hK_2 ?_
  refine TC.seq fun K_3 hK_4 => ?_
  refine TC.region ?_
  refine TL.v (ltb rfl) (rv_fa (b := b8) (o := 0) fa_25_3 rfl) ?_
  refine TL.v (ltb rfl) (rv_ld (v := v4) (o := 3) (o' := 0) (j := 3) sc_23 rfl (Src.at_ 0 rfl) (bx_cells b8 25 _) rfl rfl) ?_
  refine TL.v (ltb rfl) (rv_lenI (v := v4) Try.underlying23 rfl h5) ?_
  obtain ⟨x9, hz_5, hp⟩ := bind_some' hp
  refine TL.mk (k := kBool) (n := (len a1.blocks)) (x0 := false) Try.underlying30 inf_4 (ltb rfl) (ltb rfl) rfl rfl (leb rfl) rfl ⟨rfl, rfl⟩ hz_5 fun v10 F11 h12 => ?_
  refine TL.v (ltb rfl) (rv_as (v := v10) rfl) ?_
  refine TL.nil ?_
  refine TC.go hK_4 ?_
  refine TC.seq fun K_6 hK_7 => ?_
  refine TC.seq fun K_8 hK_9 => ?_
  refine TC.region ?_
  refine TL.v (ltb rfl) (rv_mv (v := .int .i64 a6) rfl) ?_
  refine TL.v (ltb rfl) (rv_lss (k := .i64) (m := a6) (n := 0) rfl rfl) ?_
  refine TL.v (ltb rfl) (rv_mv (v := .bool (decide (a6 < 0))) rfl) ?_
  refine TL.cut 5 fun K_10 hK_11 => ?_
  have hJ_12 : ∀ e_14 : Env, e_14 1 = .int .i64 a6 → e_14 2 = .int .i64 a7 → e_14 3 = .pointer (some ⟨b8, 0, none⟩) → e_14 7 = v10 → e_14 23 = .bool (decide (a6 < 0 ∨ a6 ≥ (len x9))) → ∀ w, St E H [F11, bx b8 25 [.int .i64 a1.params, .int .i64 a1.result, v2, v4]] w → K_10 e_14 w := by
    intro e_14 h_15 h_16 h_17 h_18 h_19
    refine TL.go hK_11 ?_
    refine TL.v (ltb rfl) (rv_mv (v := .bool (decide (a6 < 0 ∨ a6 ≥ (len x9)))) h_19) ?_
    refine TL.cut 4 fun K_20 hK_21 => ?_
    have hJ_22 : ∀ e_24 : Env, e_24 1 = .int .i64 a6 → e_24 2 = .int .i64 a7 → e_24 3 = .pointer (some ⟨b8, 0, none⟩) → e_24 7 = v10 → e_24 28 = .bool (decide ((a6 < 0 ∨ a6 ≥ (len x9)) ∨ a6 = a7)) → ∀ w, St E H [F11, bx b8 25 [.int .i64 a1.params, .int .i64 a1.result, v2, v4]] w → K_20 e_24 w := by
      intro e_24 h_25 h_26 h_27 h_28 h_29
      refine TL.go hK_21 ?_
      refine TL.nil ?_
      refine TC.go hK_9 ?_
      by_cases hc_30 : (a6 < 0 ∨ a6 ≥ (len x9)) ∨ a6 = a7
      · rw [if_pos hc_30] at hp
        refine TC.condT (h_29.trans (bT hc_30)) ?_
        refine TC.seq fun K_31 hK_32 => ?_
        refine TC.region ?_
        refine TL.v (ltb rfl) (rv_mv (v := v10) h_28) ?_
        refine TL.v (ltb rfl) (rv_as (v := v10) rfl) ?_
        refine TL.nil ?_
        refine TC.go hK_32 ?_
        refine TC.ret ?_
        obtain rfl := Option.some.inj hp
        exact fun w hw => retOk ⟨v10, F11, rfl, rfl, h12⟩ (hw.pick [0])
      · rw [if_neg hc_30] at hp
        refine TC.condF (h_29.trans (bF hc_30)) ?_
        refine TC.skip ?_
        refine TC.go hK_7 ?_
        refine TC.seq fun K_33 hK_34 => ?_
        refine TC.region ?_
        refine TL.v (ltb rfl) (rv_mv (v := v10) h_28) ?_
        refine TL.v (ltb rfl) (rv_mv (v := .int .i64 a6) h_25) ?_
        obtain ⟨x13, hx_35, hp⟩ := bind_some' hp
        refine TL.v2 (ltb rfl) (rv_ixO 30 (.tmp 30) (.tmp 31) (v := v10) (i := a6) Try.underlying30 inf_4 rfl rfl rfl h12 (idx_some hx_35).1 (idx_some hx_35).2.1) fun b14 o15 h16 => ?_
        refine TL.stE0 (ds := [.bool true]) (u := .bool true) (a := true) h12 h16 ms_4 rfl rfl rfl ⟨rfl, rfl⟩ fun F17 h18 => ?_
        refine TL.nil ?_
        refine TC.go hK_34 ?_
        refine TC.seq fun K_36 hK_37 => ?_
        refine TC.seq fun K_38 hK_39 => ?_
        refine TC.region ?_
        refine TL.v (ltb rfl) (rv_as (v := .int .i64 0) rfl) ?_
        refine TL.nil ?_
        refine TC.go hK_39 ?_
        refine TC.block ?_
        obtain ⟨z_45, hz_46, hr_47⟩ := bind_some' hp
        clear hp
        have hJ_54 : ∀ (x23 : List Bool) (F24 : FP) (e_50 : Env) (h25 : SlO 4 kBool x23 v10 F24) (h_51 : e_50 7 = v10) (hq_55 : x23 = z_45), ∀ w, St E H [F24] w → K_36 e_50 w := by
          intro x23 F24 e_50 h25 h_51 hq_55
          subst hq_55
          replace hp : fettleref05_From.nx49 x23 = some r := hr_47
          unfold fettleref05_From.nx49 at hp
          refine TC.go hK_37 ?_
          refine TC.seq fun K_52 hK_53 => ?_
          refine TC.region ?_
          refine TL.v (ltb rfl) (rv_mv (v := v10) h_51) ?_
          refine TL.v (ltb rfl) (rv_as (v := v10) rfl) ?_
          refine TL.nil ?_
          refine TC.go hK_53 ?_
          refine TC.ret ?_
          obtain rfl := Option.some.inj hp
          exact fun w hw => retOk ⟨v10, F24, rfl, rfl, h25⟩ (hw.pick [0])
        refine TC.pk' [1, 0] (L' := [bx b8 25 [.int .i64 a1.params, .int .i64 a1.result, v2, v4], F17]) rfl ?_
        refine TC.loopW (r := z_45) (fun (s : (List Bool × Int)) (e_40 : Env) (L_154 : List FP) => ∃ (x19 : List Bool) (x22 : Int) (F20 : FP), s = (x19, x22) ∧ SlO 4 kBool x19 v10 F20 ∧ e_40 2 = .int .i64 a7 ∧ e_40 3 = .pointer (some ⟨b8, 0, none⟩) ∧ e_40 7 = v10 ∧ e_40 8 = .int .i64 x22 ∧ L_154 = [bx b8 25 [.int .i64 a1.params, .int .i64 a1.result, v2, v4], F20]) ?_ FUEL _ _ _ hz_46 ⟨(x9.set (a6).toNat true), 0, F17, rfl, h18, h_26, h_27, h_28, rfl, rfl⟩
        rintro s e_40 L_154 ⟨x19, x22, F20, rfl, h21, h_41, h_42, h_43, h_44, rfl⟩ x_48 hp hx_49
        replace hp : fettleref05_From.bd49 a1 a7 x19 x22 = some x_48 := hp
        unfold fettleref05_From.bd49 at hp
        refine TC.seq fun K_56 hK_57 => ?_
        refine TC.seq fun K_58 hK_59 => ?_
        refine TC.region ?_
        refine TL.v (ltb rfl) (rv_mv (v := .int .i64 x22) h_44) ?_
        refine TL.v (ltb rfl) (rv_mv (v := v10) h_43) ?_
        refine TL.v (ltb rfl) (rv_lenI (v := v10) Try.underlying30 rfl h21.ro) ?_
        refine TL.v (ltb rfl) (rv_lss (k := .i64) (m := x22) (n := (len x19)) rfl rfl) ?_
        refine TL.nil ?_
        refine TC.go hK_59 ?_
        by_cases hc_60 : x22 < (len x19)
        · rw [if_pos hc_60] at hp
          refine TC.condT (bT hc_60) ?_
          refine TC.skip ?_
          refine TC.go hK_57 ?_
          refine TC.seq fun K_61 hK_62 => ?_
          refine TC.block ?_
          refine TC.seq fun K_63 hK_64 => ?_
          refine TC.region ?_
          refine TL.v (ltb rfl) (rv_as (v := .int .i64 0) rfl) ?_
          refine TL.nil ?_
          refine TC.go hK_64 ?_
          refine TC.block ?_
          obtain ⟨z_71, hz_72, hr_73⟩ := bind_some' hp
          clear hp
          have hJ_81 : ∀ (x30 : List Bool) (F31 : FP) (e_76 : Env) (h32 : SlO 4 kBool x30 v10 F31) (h_77 : e_76 2 = .int .i64 a7) (h_78 : e_76 3 = .pointer (some ⟨b8, 0, none⟩)) (h_79 : e_76 7 = v10) (h_80 : e_76 8 = .int .i64 x22) (hq_82 : x30 = z_71), ∀ w, St E H [bx b8 25 [.int .i64 a1.params, .int .i64 a1.result, v2, v4], F31] w → K_61 e_76 w := by
            intro x30 F31 e_76 h32 h_77 h_78 h_79 h_80 hq_82
            subst hq_82
            replace hp : fettleref05_From.nx75 x22 x30 = some x_48 := hr_73
            unfold fettleref05_From.nx75 at hp
            refine TC.go hK_62 ?_
            refine TC.region ?_
            refine TL.v (ltb rfl) (rv_mv (v := .int .i64 x22) h_80) ?_
            refine TL.v (ltb rfl) (rv_add (k := .i64) (m := x22) (n := 1) rfl rfl) ?_
            refine TL.v (ltb rfl) (rv_as (v := .int .i64 (w64 (x22 + 1))) rfl) ?_
            refine TL.nil ?_
            exact fun w hw => goOk hp ⟨x30, (w64 (x22 + 1)), F31, rfl, h32, h_77, h_78, h_79, rfl, rfl⟩ (hw.pick [0, 0])
          refine TC.pk' [0, 0] (L' := [bx b8 25 [.int .i64 a1.params, .int .i64 a1.result, v2, v4], F20]) rfl ?_
          refine TC.loopW (r := z_71) (fun (s : (List Bool × Int)) (e_65 : Env) (L_153 : List FP) => ∃ (x26 : List Bool) (x29 : Int) (F27 : FP), s = (x26, x29) ∧ SlO 4 kBool x26 v10 F27 ∧ e_65 2 = .int .i64 a7 ∧ e_65 3 = .pointer (some ⟨b8, 0, none⟩) ∧ e_65 7 = v10 ∧ e_65 8 = .int .i64 x22 ∧ e_65 9 = .int .i64 x29 ∧ L_153 = [bx b8 25 [.int .i64 a1.params, .int .i64 a1.result, v2, v4], F27]) ?_ FUEL _ _ _ hz_72 ⟨x19, 0, F20, rfl, h21, h_41, h_42, h_43, h_44, rfl, rfl⟩
          rintro s e_65 L_153 ⟨x26, x29, F27, rfl, h28, h_66, h_67, h_68, h_69, h_70, rfl⟩ x_74 hp hx_75
          replace hp : fettleref05_From.bd75 a1 a7 x26 x29 = some x_74 := hp
          unfold fettleref05_From.bd75 at hp
          refine TC.seq fun K_83 hK_84 => ?_
          refine TC.seq fun K_85 hK_86 => ?_
          refine TC.region ?_
          refine TL.v (ltb rfl) (rv_mv (v := .int .i64 x29) h_70) ?_
          refine TL.v (ltb rfl) (rv_mv (v := v10) h_68) ?_
          refine TL.v (ltb rfl) (rv_lenI (v := v10) Try.underlying30 rfl h28.ro) ?_
          refine TL.v (ltb rfl) (rv_lss (k := .i64) (m := x29) (n := (len x26)) rfl rfl) ?_
          refine TL.nil ?_
          refine TC.go hK_86 ?_
          by_cases hc_87 : x29 < (len x26)
          · rw [if_pos hc_87] at hp
            refine TC.condT (bT hc_87) ?_
            refine TC.skip ?_
            refine TC.go hK_84 ?_
            refine TC.seq fun K_88 hK_89 => ?_
            have hJ_96 : ∀ (x33 : List Bool) (F34 : FP) (e_90 : Env) (h35 : SlO 4 kBool x33 v10 F34) (h_91 : e_90 2 = .int .i64 a7) (h_92 : e_90 3 = .pointer (some ⟨b8, 0, none⟩)) (h_93 : e_90 7 = v10) (h_94 : e_90 8 = .int .i64 x22) (h_95 : e_90 9 = .int .i64 x29) (hp : fettleref05_From.jn96 x29 x33 = some x_74), ∀ w, St E H [bx b8 25 [.int .i64 a1.params, .int .i64 a1.result, v2, v4], F34] w → K_88 e_90 w := by
              intro x33 F34 e_90 h35 h_91 h_92 h_93 h_94 h_95 hp
              unfold fettleref05_From.jn96 at hp
              refine TC.go hK_89 ?_
              refine TC.region ?_
              refine TL.v (ltb rfl) (rv_mv (v := .int .i64 x29) h_95) ?_
              refine TL.v (ltb rfl) (rv_add (k := .i64) (m := x29) (n := 1) rfl rfl) ?_
              refine TL.v (ltb rfl) (rv_as (v := .int .i64 (w64 (x29 + 1))) rfl) ?_
              refine TL.nil ?_
              exact fun w hw => goOk hp ⟨x33, (w64 (x29 + 1)), F34, rfl, h35, h_91, h_92, h_93, h_94, rfl, rfl⟩ (hw.pick [0, 0])
            refine TC.block ?_
            refine TC.seq fun K_97 hK_98 => ?_
            refine TC.seq fun K_99 hK_100 => ?_
            refine TC.region ?_
            refine TL.v (ltb rfl) (rv_mv (v := v10) h_68) ?_
            refine TL.v (ltb rfl) (rv_mv (v := .int .i64 x29) h_70) ?_
            obtain ⟨x36, hx_101, hp⟩ := bind_some' hp
            refine TL.v3 (ltb rfl) (rv_ix 30 (.tmp 45) (.tmp 46) (v := v10) (i := x29) Try.underlying30 inf_4 rfl rfl rfl (h28).ro hx_101) fun b37 o38 c39 h40 h41 => ?_
            obtain rfl := h40
            refine TL.v (ltb rfl) (rv_ld (v := .bool x36) (o := o38) (o' := o38) (j := 0) sc_4 rfl (Src.at_ 1 rfl) h41 rfl rfl) ?_
            refine TL.v (ltb rfl) (rv_not (b := x36) rfl) ?_
            refine TL.nil ?_
            refine TC.go hK_100 ?_
            by_cases hc_102 : (!x36) = true
            · rw [if_pos hc_102] at hp
              refine TC.condT (bbT hc_102) ?_
              refine TC.exit ?_
              refine fun w hw => hJ_96 x26 F27 _ h28 ?_ ?_ ?_ ?_ ?_ hp w (hw.pick [0, 0])
              · exact h_66
              · exact h_67
              · exact h_68
              · exact h_69
              · exact h_70
            · rw [if_neg hc_102] at hp
              refine TC.condF (bbF hc_102) ?_
              refine TC.skip ?_
              refine TC.go hK_98 ?_
              refine TC.seq fun K_103 hK_104 => ?_
              refine TC.region ?_
              refine TL.v (ltb rfl) (rv_lda (o := 0) (o' := 0) (j := 0) (ds := [.int .i64 a1.params, .int .i64 a1.result, v2, v4]) ag_25 h_67 (Src.at_ 0 rfl) (bx_cells b8 25 _) rfl rfl rfl) ?_
              refine TL.v (ltb rfl) (rv_mv (v := .int .i64 x29) h_70) ?_
              obtain ⟨x42, hy_105, hp⟩ := bind_some' hp
              refine TL.callC (vs := [.agg #[.int .i64 a1.params, .int .i64 a1.result, v2, v4], .int .i64 x29]) (R := fettleref05_Next.R x42) [] [bx b8 25 [.int .i64 a1.params, .int .i64 a1.result, v2, v4], F27] rfl cb_24 (ltb rfl) (mc rfl (mc rfl m0)) (fun w hw => fettleref05_Next_ok (a1 := a1) (a6 := x29) (h3.mono subH) (h5.mono subH) hy_105 hw) fun v A' hR_106 => ?_
              obtain ⟨v43, F44, rfl, rfl, h45⟩ := hR_106
              refine TL.norm (L' := [F44, bx b8 25 [.int .i64 a1.params, .int .i64 a1.result, v2, v4], F27]) rfl ?_
              refine TL.v (ltb rfl) (rv_as (v := v43) rfl) ?_
              refine TL.nil ?_
              refine TC.go hK_104 ?_
              refine TC.seq fun K_107 hK_108 => ?_
              refine TC.region ?_
              refine TL.v (ltb rfl) (rv_as (v := .int .i64 0) rfl) ?_
              refine TL.nil ?_
              refine TC.go hK_108 ?_
              refine TC.block ?_
              obtain ⟨z_117, hz_118, hr_119⟩ := bind_some' hp
              clear hp
              have hJ_128 : ∀ (x50 : List Bool) (F51 : FP) (e_122 : Env) (h52 : SlO 4 kBool x50 v10 F51) (h_123 : e_122 2 = .int .i64 a7) (h_124 : e_122 3 = .pointer (some ⟨b8, 0, none⟩)) (h_125 : e_122 7 = v10) (h_126 : e_122 8 = .int .i64 x22) (h_127 : e_122 9 = .int .i64 x29) (hq_129 : x50 = z_117), ∀ w, St E H [bx b8 25 [.int .i64 a1.params, .int .i64 a1.result, v2, v4], F51] w → K_88 e_122 w := by
                intro x50 F51 e_122 h52 h_123 h_124 h_125 h_126 h_127 hq_129
                subst hq_129
                replace hp : fettleref05_From.nx121 x29 x50 = some x_74 := hr_119
                unfold fettleref05_From.nx121 at hp
                refine fun w hw => hJ_96 x50 F51 _ h52 ?_ ?_ ?_ ?_ ?_ hp w (hw.pick [0, 0])
                · exact h_123
                · exact h_124
                · exact h_125
                · exact h_126
                · exact h_127
              refine TC.pk' [1, 1, 0] (L' := [bx b8 25 [.int .i64 a1.params, .int .i64 a1.result, v2, v4], F27, F44]) rfl ?_
              refine TC.loopW (r := z_117) (fun (s : (List Bool × Int)) (e_109 : Env) (L_152 : List FP) => ∃ (x46 : List Bool) (x49 : Int) (F47 : FP), s = (x46, x49) ∧ SlO 4 kBool x46 v10 F47 ∧ e_109 2 = .int .i64 a7 ∧ e_109 3 = .pointer (some ⟨b8, 0, none⟩) ∧ e_109 7 = v10 ∧ e_109 8 = .int .i64 x22 ∧ e_109 9 = .int .i64 x29 ∧ e_109 10 = v43 ∧ e_109 11 = .int .i64 x49 ∧ L_152 = [bx b8 25 [.int .i64 a1.params, .int .i64 a1.result, v2, v4], F47, F44]) ?_ FUEL _ _ _ hz_118 ⟨x26, 0, F27, rfl, h28, h_66, h_67, h_68, h_69, h_70, rfl, rfl, rfl⟩
              rintro s e_109 L_152 ⟨x46, x49, F47, rfl, h48, h_110, h_111, h_112, h_113, h_114, h_115, h_116, rfl⟩ x_120 hp hx_121
              replace hp : fettleref05_From.bd121 a7 x42 x46 x49 = some x_120 := hp
              unfold fettleref05_From.bd121 at hp
              refine TC.seq fun K_130 hK_131 => ?_
              refine TC.seq fun K_132 hK_133 => ?_
              refine TC.region ?_
              refine TL.v (ltb rfl) (rv_mv (v := .int .i64 x49) h_116) ?_
              refine TL.v (ltb rfl) (rv_mv (v := v43) h_115) ?_
              refine TL.v (ltb rfl) (rv_lenI (v := v43) Try.underlying22 rfl h45.ro) ?_
              refine TL.v (ltb rfl) (rv_lss (k := .i64) (m := x49) (n := (len x42)) rfl rfl) ?_
              refine TL.nil ?_
              refine TC.go hK_133 ?_
              by_cases hc_134 : x49 < (len x42)
              · rw [if_pos hc_134] at hp
                refine TC.condT (bT hc_134) ?_
                refine TC.skip ?_
                refine TC.go hK_131 ?_
                refine TC.seq fun K_135 hK_136 => ?_
                have hJ_145 : ∀ (x53 : List Bool) (F54 : FP) (e_137 : Env) (h55 : SlO 4 kBool x53 v10 F54) (h_138 : e_137 2 = .int .i64 a7) (h_139 : e_137 3 = .pointer (some ⟨b8, 0, none⟩)) (h_140 : e_137 7 = v10) (h_141 : e_137 8 = .int .i64 x22) (h_142 : e_137 9 = .int .i64 x29) (h_143 : e_137 10 = v43) (h_144 : e_137 11 = .int .i64 x49) (hp : fettleref05_From.jn145 x49 x53 = some x_120), ∀ w, St E H [bx b8 25 [.int .i64 a1.params, .int .i64 a1.result, v2, v4], F54, F44] w → K_135 e_137 w := by
                  intro x53 F54 e_137 h55 h_138 h_139 h_140 h_141 h_142 h_143 h_144 hp
                  unfold fettleref05_From.jn145 at hp
                  refine TC.go hK_136 ?_
                  refine TC.region ?_
                  refine TL.v (ltb rfl) (rv_mv (v := .int .i64 x49) h_144) ?_
                  refine TL.v (ltb rfl) (rv_add (k := .i64) (m := x49) (n := 1) rfl rfl) ?_
                  refine TL.v (ltb rfl) (rv_as (v := .int .i64 (w64 (x49 + 1))) rfl) ?_
                  refine TL.nil ?_
                  exact fun w hw => goOk hp ⟨x53, (w64 (x49 + 1)), F54, rfl, h55, h_138, h_139, h_140, h_141, h_142, h_143, rfl, rfl⟩ (hw.pick [0, 0, 0])
                refine TC.block ?_
                refine TC.seq fun K_146 hK_147 => ?_
                refine TC.region ?_
                refine TL.v (ltb rfl) (rv_mv (v := v43) h_115) ?_
                refine TL.v (ltb rfl) (rv_mv (v := .int .i64 x49) h_116) ?_
                obtain ⟨x56, hx_148, hp⟩ := bind_some' hp
                refine TL.v3 (ltb rfl) (rv_ix 22 (.tmp 59) (.tmp 60) (v := v43) (i := x49) Try.underlying22 inf_3 rfl rfl rfl (h45).ro hx_148) fun b57 o58 c59 h60 h61 => ?_
                obtain rfl := h60
                refine TL.v (ltb rfl) (rv_ld (v := .int .i64 x56) (o := o58) (o' := o58) (j := 0) sc_3 rfl (Src.at_ 2 rfl) h61 rfl rfl) ?_
                refine TL.v (ltb rfl) (rv_mv (v := .int .i64 a7) h_110) ?_
                refine TL.v (ltb rfl) (rv_neq (k := .i64) (m := x56) (n := a7) rfl rfl) ?_
                refine TL.nil ?_
                refine TC.go hK_147 ?_
                by_cases hc_149 : ¬ x56 = a7
                · rw [if_pos hc_149] at hp
                  refine TC.condT (bT hc_149) ?_
                  refine TC.region ?_
                  refine TL.v (ltb rfl) (rv_mv (v := v10) h_112) ?_
                  refine TL.v (ltb rfl) (rv_mv (v := v43) h_115) ?_
                  refine TL.v (ltb rfl) (rv_mv (v := .int .i64 x49) h_116) ?_
                  obtain ⟨x62, hx_150, hp⟩ := bind_some' hp
                  refine TL.v3 (ltb rfl) (rv_ix 22 (.tmp 66) (.tmp 67) (v := v43) (i := x49) Try.underlying22 inf_3 rfl rfl rfl (h45).ro hx_150) fun b63 o64 c65 h66 h67 => ?_
                  obtain rfl := h66
                  refine TL.v (ltb rfl) (rv_ld (v := .int .i64 x62) (o := o64) (o' := o64) (j := 0) sc_3 rfl (Src.at_ 2 rfl) h67 rfl rfl) ?_
                  obtain ⟨x68, hx_151, hp⟩ := bind_some' hp
                  refine TL.v2 (ltb rfl) (rv_ixO 30 (.tmp 65) (.tmp 69) (v := v10) (i := x62) Try.underlying30 inf_4 rfl rfl rfl h48 (idx_some hx_151).1 (idx_some hx_151).2.1) fun b69 o70 h71 => ?_
                  refine TL.pk' [1, 0, 0] (L' := [F47, bx b8 25 [.int .i64 a1.params, .int .i64 a1.result, v2, v4], F44]) rfl ?_
                  refine TL.stE0 (ds := [.bool true]) (u := .bool true) (a := true) h48 h71 ms_4 rfl rfl rfl ⟨rfl, rfl⟩ fun F72 h73 => ?_
                  refine TL.nil ?_
                  refine fun w hw => hJ_145 (x46.set (x62).toNat true) F72 _ h73 ?_ ?_ ?_ ?_ ?_ ?_ ?_ hp w (hw.pick [1, 0, 0])
                  · exact h_110
                  · exact h_111
                  · exact h_112
                  · exact h_113
                  · exact h_114
                  · exact h_115
                  · exact h_116
                · rw [if_neg hc_149] at hp
                  refine TC.condF (bF hc_149) ?_
                  refine TC.skip ?_
                  refine fun w hw => hJ_145 x46 F47 _ h48 ?_ ?_ ?_ ?_ ?_ ?_ ?_ hp w (hw.pick [0, 0, 0])
                  · exact h_110
                  · exact h_111
                  · exact h_112
                  · exact h_113
                  · exact h_114
                  · exact h_115
                  · exact h_116
              · rw [if_neg hc_134] at hp
                refine TC.condF (bF hc_134) ?_
                refine TC.exit ?_
                refine fun w hw => hJ_128 x46 F47 _ h48 ?_ ?_ ?_ ?_ ?_ (ex_ret hp hx_121) w (hw.pick [0, 0])
                · exact h_110
                · exact h_111
                · exact h_112
                · exact h_113
                · exact h_114
          · rw [if_neg hc_87] at hp
            refine TC.condF (bF hc_87) ?_
            refine TC.exit ?_
            refine fun w hw => hJ_81 x26 F27 _ h28 ?_ ?_ ?_ ?_ (ex_ret hp hx_75) w (hw.pick [0, 0])
            · exact h_66
            · exact h_67
            · exact h_68
            · exact h_69
        · rw [if_neg hc_60] at hp
          refine TC.condF (bF hc_60) ?_
          refine TC.exit ?_
          refine fun w hw => hJ_54 x19 F20 _ h21 ?_ (ex_ret hp hx_49) w (hw.pick [1])
          · exact h_43
    by_cases hc_23 : a6 < 0 ∨ a6 ≥ (len x9)
    · refine TL.gno true rfl (fun d hd => by cases hd; exact ltb rfl) (yieldE_of rfl (bT hc_23)) rfl ?_
      refine TL.gno true rfl (fun d hd => by cases hd; exact ltb rfl) (yieldE_of rfl (bT hc_23)) rfl ?_
      refine TL.gno true rfl (fun d hd => by cases hd; exact ltb rfl) (yieldE_of rfl (bT hc_23)) rfl ?_
      refine TL.v (ltb rfl) (rv_pickT true (bT hc_23) rfl (v := .bool true) rfl) ?_
      refine TL.nil (hJ_22 _ ?_ ?_ ?_ ?_ ?_)
      · exact h_15
      · exact h_16
      · exact h_17
      · exact h_18
      · exact (bOt hc_23)
    · refine TL.gyes false (yieldE_of rfl (bF hc_23)) rfl ?_
      refine TL.v (ltb rfl) (rv_mv (v := .int .i64 a6) h_15) ?_
      refine TL.gyes false (yieldE_of rfl (bF hc_23)) rfl ?_
      refine TL.v (ltb rfl) (rv_mv (v := .int .i64 a7) h_16) ?_
      refine TL.gyes false (yieldE_of rfl (bF hc_23)) rfl ?_
      refine TL.v (ltb rfl) (rv_eql (k := .i64) (m := a6) (n := a7) rfl rfl) ?_
      refine TL.v (ltb rfl) (rv_pickF false (bF hc_23) rfl (v := .bool (decide (a6 = a7))) rfl) ?_
      refine TL.nil (hJ_22 _ ?_ ?_ ?_ ?_ ?_)
      · exact h_15
      · exact h_16
      · exact h_17
      · exact h_18
      · exact (bOf hc_23)
  by_cases hc_13 : a6 < 0
  · refine TL.gno true rfl (fun d hd => by cases hd; exact ltb rfl) (yieldE_of rfl (bT hc_13)) rfl ?_
    refine TL.gno true rfl (fun d hd => by cases hd; exact ltb rfl) (yieldE_of rfl (bT hc_13)) rfl ?_
    refine TL.gno true rfl (fun d hd => by cases hd; exact ltb rfl) (yieldE_of rfl (bT hc_13)) rfl ?_
    refine TL.gno true rfl (fun d hd => by cases hd; exact ltb rfl) (yieldE_of rfl (bT hc_13)) rfl ?_
    refine TL.v (ltb rfl) (rv_pickT true (bT hc_13) rfl (v := .bool true) rfl) ?_
    refine TL.nil (hJ_12 _ ?_ ?_ ?_ ?_ ?_)
    · exact rfl
    · exact rfl
    · exact rfl
    · exact rfl
    · exact (bOt hc_13)
  · refine TL.gyes false (yieldE_of rfl (bF hc_13)) rfl ?_
    refine TL.v (ltb rfl) (rv_mv (v := .int .i64 a6) rfl) ?_
    refine TL.gyes false (yieldE_of rfl (bF hc_13)) rfl ?_
    refine TL.v (ltb rfl) (rv_mv (v := v10) rfl) ?_
    refine TL.gyes false (yieldE_of rfl (bF hc_13)) rfl ?_
    refine TL.v (ltb rfl) (rv_lenI (v := v10) Try.underlying30 rfl h12.ro) ?_
    refine TL.gyes false (yieldE_of rfl (bF hc_13)) rfl ?_
    refine TL.v (ltb rfl) (rv_geq (k := .i64) (m := a6) (n := (len x9)) rfl rfl) ?_
    refine TL.v (ltb rfl) (rv_pickF false (bF hc_13) rfl (v := .bool (decide (a6 ≥ (len x9)))) rfl) ?_
    refine TL.nil (hJ_12 _ ?_ ?_ ?_ ?_ ?_)
    · exact rfl
    · exact rfl
    · exact rfl
    · exact rfl
    · exact (bOf hc_13)

/-! ### slices.Index[[]int,int] -/
abbrev slices_Index.R (r : Int) (v : Value) (A : List FP) : Prop := .int .i64 r = v ∧ A = []
def slices_Index.nx16  : Option Int :=
  some (-1)
def slices_Index.bd16 (a1 : List Int) (a4 : Int) (x5 : Int) : Option (Ex (Ex Int Unit) Int) :=
  if x5 < (len a1) then
    (idx a1 x5).bind fun x6 =>
    if a4 = x6 then
      some (.ret (.ret x5))
    else
      some (.go (w64 (x5 + 1)))
  else
    some (.ret (.go ()))
def slices_Index (a1 : List Int) (a4 : Int) : Option Int :=
  (whl (fun (s : Int) => slices_Index.bd16 a1 a4 s) FUEL 0).bind fun z =>
  match z with
    | .ret r => some r
    | .go p => slices_Index.nx16
theorem slices_Index_ok {E : World} {H : FP} {w : World} {a1 : List Int} {a4 : Int} {v2 : Value} {r : Int} (h3 : SlI (kInt .i64) H a1 v2) (hp : slices_Index a1 a4 = some r) (hst : St E H [] w) :
    Fn Try.prog 85 #[v2, .int .i64 a4] w fun v w' => ∃ A, slices_Index.R r v A ∧ St E H A w' := by
  refine Fn.body (fn := Try.f85) (args := [v2, .int .i64 a4]) E H [] [.tmp 4] 19 Try.func85 rfl rfl rfl rfl (leb rfl) hst ?_
  unfold slices_Index at hp
  refine TC.seq fun K_1 hK_2 => ?_
  refine TC.region ?_
  refine TL.v (ltb rfl) (rv_as (v := .int .i64 0) rfl) ?_
  refine TL.nil ?_
  refine TC.go hK_2 ?_
  refine TC.seq fun K_3 hK_4 => ?_
  refine TC.seq fun K_5 hK_6 => ?_
  refine TC.region ?_
  refine TL.v (ltb rfl) (rv_mv (v := v2) rfl) ?_
  refine TL.v (ltb rfl) (rv_lenI (v := v2) Try.underlying22 rfl h3) ?_
  refine TL.v (ltb rfl) (rv_mv (v := .int .i64 0) rfl) ?_
  refine TL.nil ?_
  refine TC.go hK_6 ?_
  refine TC.block ?_
  obtain ⟨z_12, hz_13, hr_14⟩ := bind_some' hp
  clear hp
  have hJ_20 : ∀ (e_17 : Env) (hq_21 : .go () = z_12), ∀ w, St E H [] w → K_3 e_17 w := by
    intro e_17 hq_21
    subst hq_21
    replace hp : slices_Index.nx16 = some r := hr_14
    unfold slices_Index.nx16 at hp
    refine TC.go hK_4 ?_
    refine TC.seq fun K_18 hK_19 => ?_
    refine TC.region ?_
    refine TL.v (ltb rfl) (rv_as (v := .int .i64 (-1)) rfl) ?_
    refine TL.nil ?_
    refine TC.go hK_19 ?_
    refine TC.ret ?_
    obtain rfl := Option.some.inj hp
    exact fun w hw => retOk ⟨rfl, rfl⟩ (hw.pick [])
  refine TC.pk' [] (L' := []) rfl ?_
  refine TC.loopW (r := z_12) (fun (x5 : Int) (e_7 : Env) (L_37 : List FP) => e_7 0 = v2 ∧ e_7 1 = .int .i64 a4 ∧ e_7 7 = .int .i64 (len a1) ∧ e_7 8 = .int .i64 x5 ∧ L_37 = []) ?_ FUEL _ _ _ hz_13 ⟨rfl, rfl, rfl, rfl, rfl⟩
  rintro x5 e_7 L_37 ⟨h_8, h_9, h_10, h_11, rfl⟩ x_15 hp hx_16
  replace hp : slices_Index.bd16 a1 a4 x5 = some x_15 := hp
  unfold slices_Index.bd16 at hp
  refine TC.seq fun K_22 hK_23 => ?_
  refine TC.region ?_
  refine TL.v (ltb rfl) (rv_lss (k := .i64) (m := x5) (n := (len a1)) h_11 h_10) ?_
  refine TL.nil ?_
  refine TC.go hK_23 ?_
  refine TC.seq fun K_24 hK_25 => ?_
  by_cases hc_26 : x5 < (len a1)
  · rw [if_pos hc_26] at hp
    refine TC.condT (bT hc_26) ?_
    refine TC.skip ?_
    refine TC.go hK_25 ?_
    refine TC.seq fun K_27 hK_28 => ?_
    refine TC.block ?_
    refine TC.seq fun K_29 hK_30 => ?_
    refine TC.region ?_
    refine TL.v (ltb rfl) (rv_mv (v := .int .i64 x5) h_11) ?_
    refine TL.v (ltb rfl) (rv_as (v := .int .i64 x5) rfl) ?_
    refine TL.nil ?_
    refine TC.go hK_30 ?_
    refine TC.seq fun K_31 hK_32 => ?_
    refine TC.region ?_
    refine TL.v (ltb rfl) (rv_mv (v := .int .i64 a4) h_9) ?_
    refine TL.v (ltb rfl) (rv_mv (v := v2) h_8) ?_
    refine TL.v (ltb rfl) (rv_mv (v := .int .i64 x5) rfl) ?_
    obtain ⟨x6, hx_33, hp⟩ := bind_some' hp
    refine TL.v3 (ltb rfl) (rv_ix 22 (.tmp 12) (.tmp 13) (v := v2) (i := x5) Try.underlying22 inf_3 rfl rfl rfl h3 hx_33) fun b7 o8 c9 h10 h11 => ?_
    obtain rfl := h10
    refine TL.v (ltb rfl) (rv_ld (v := .int .i64 x6) (o := o8) (o' := o8) (j := 0) sc_3 rfl Src.H h11 rfl rfl) ?_
    refine TL.v (ltb rfl) (rv_eql (k := .i64) (m := a4) (n := x6) rfl rfl) ?_
    refine TL.nil ?_
    refine TC.go hK_32 ?_
    by_cases hc_34 : a4 = x6
    · rw [if_pos hc_34] at hp
      refine TC.condT (bT hc_34) ?_
      refine TC.seq fun K_35 hK_36 => ?_
      refine TC.region ?_
      refine TL.v (ltb rfl) (rv_mv (v := .int .i64 x5) rfl) ?_
      refine TL.v (ltb rfl) (rv_as (v := .int .i64 x5) rfl) ?_
      refine TL.nil ?_
      refine TC.go hK_36 ?_
      refine TC.ret ?_
      obtain rfl := ex_ret hp hx_16
      obtain rfl := Option.some.inj hr_14
      exact fun w hw => retOk ⟨rfl, rfl⟩ (hw.pick [])
    · rw [if_neg hc_34] at hp
      refine TC.condF (bF hc_34) ?_
      refine TC.skip ?_
      refine TC.go hK_28 ?_
      refine TC.region ?_
      refine TL.v (ltb rfl) (rv_add (k := .i64) (m := x5) (n := 1) h_11 rfl) ?_
      refine TL.v (ltb rfl) (rv_mv (v := .int .i64 (w64 (x5 + 1))) rfl) ?_
      refine TL.nil ?_
      exact fun w hw => goOk hp ⟨h_8, h_9, h_10, rfl, rfl⟩ (hw.pick [])
  · rw [if_neg hc_26] at hp
    refine TC.condF (bF hc_26) ?_
    refine TC.exit ?_
    refine fun w hw => hJ_20 _ (ex_ret hp hx_16) w (hw.pick [])

/-! ### slices.Contains[[]int,int] -/
abbrev slices_Contains.R (r : Bool) (v : Value) (A : List FP) : Prop := .bool r = v ∧ A = []
def slices_Contains (a1 : List Int) (a4 : Int) : Option Bool :=
  (slices_Index a1 a4).bind fun x5 =>
  some (decide (x5 ≥ 0))
theorem slices_Contains_ok {E : World} {H : FP} {w : World} {a1 : List Int} {a4 : Int} {v2 : Value} {r : Bool} (h3 : SlI (kInt .i64) H a1 v2) (hp : slices_Contains a1 a4 = some r) (hst : St E H [] w) :
    Fn Try.prog 60 #[v2, .int .i64 a4] w fun v w' => ∃ A, slices_Contains.R r v A ∧ St E H A w' := by
  refine Fn.body (fn := Try.f60) (args := [v2, .int .i64 a4]) E H [] [.tmp 4] 9 Try.func60 rfl rfl rfl rfl (leb rfl) hst ?_
  unfold slices_Contains at hp
  refine TC.seq fun K_1 hK_2 => ?_
  refine TC.region ?_
  refine TL.v (ltb rfl) (rv_as (v := .bool false) rfl) ?_
  refine TL.nil ?_
  refine TC.go hK_2 ?_
  refine TC.seq fun K_3 hK_4 => ?_
  refine TC.region ?_
  refine TL.v (ltb rfl) (rv_mv (v := v2) rfl) ?_
  refine TL.v (ltb rfl) (rv_mv (v := .int .i64 a4) rfl) ?_
  obtain ⟨x5, hy_5, hp⟩ := bind_some' hp
  refine TL.callC (vs := [v2, .int .i64 a4]) (R := slices_Index.R x5) [] [] rfl cb_85 (ltb rfl) (mc rfl (mc rfl m0)) (fun w hw => slices_Index_ok (a1 := a1) (a4 := a4) (h3.mono subH) hy_5 hw) fun v A' hR_6 => ?_
  obtain ⟨rfl, rfl⟩ := hR_6
  refine TL.norm (L' := []) rfl ?_
  refine TL.v (ltb rfl) (rv_geq (k := .i64) (m := x5) (n := 0) rfl rfl) ?_
  refine TL.v (ltb rfl) (rv_as (v := .bool (decide (x5 ≥ 0))) rfl) ?_
  refine TL.nil ?_
  refine TC.go hK_4 ?_
  refine TC.ret ?_
  obtain rfl := Option.some.inj hp
  exact fun w hw => retOk ⟨rfl, rfl⟩ (hw.pick [])

/-! ### fettle/graph.Next -/
abbrev graph_Next.R (r : List (List Int)) (v : Value) (A : List FP) : Prop := ∃ (w1 : Value) (G1 : FP), w1 = v ∧ A = [G1] ∧ SlO 22 (kSl 3 (kInt .i64)) r w1 G1
def graph_Next.nx19  (x15 : List (List Int)) : Option (List (List Int)) :=
  some x15
def graph_Next.nx51 (x14 : Int) (x35 : List (List Int)) : Option (Ex (List (List Int)) (List (List Int) × Int)) :=
  some (.go (x35, (w64 (x14 + 1))))
def graph_Next.jn75 (x34 : Int) (x38 : List (List Int)) : Option (Ex (List (List Int)) (List (List Int) × Int)) :=
  some (.go (x38, (w64 (x34 + 1))))
def graph_Next.bd51 (x14 : Int) (x18 : PBlock) (x31 : List (List Int)) (x34 : Int) : Option (Ex (List (List Int)) (List (List Int) × Int)) :=
  if x34 < (len x18.term.to) then
    (idx x18.term.to x34).bind fun x41 =>
    (if x41 ≥ 0 ∧ x41 < (len x31) then (idx x31 x14).bind fun x68 =>
    (slices_Contains x68 x41).bind fun x76 =>
    some (!x76) else some false).bind fun t47 =>
    if t47 = true then
      (idx x31 x14).bind fun x48 =>
      (cat x48 [x41]).bind fun x59 =>
      graph_Next.jn75 x34 (x31.set (x14).toNat x59)
    else
      graph_Next.jn75 x34 x31
  else
    some (.ret x31)
def graph_Next.bd19 (a1 : PFunc) (x11 : List (List Int)) (x14 : Int) : Option (Ex (List (List Int)) (List (List Int) × Int)) :=
  if x14 < (len a1.blocks) then
    (idx a1.blocks x14).bind fun x18 =>
    (whl (fun (s : (List (List Int) × Int)) => graph_Next.bd51 x14 x18 s.1 s.2) FUEL (x11, 0)).bind fun z =>
    graph_Next.nx51 x14 z
  else
    some (.ret x11)
def graph_Next (a1 : PFunc) : Option (List (List Int)) :=
  (mkl (len a1.blocks) ([] : List Int)).bind fun x7 =>
  (whl (fun (s : (List (List Int) × Int)) => graph_Next.bd19 a1 s.1 s.2) FUEL (x7, 0)).bind fun z =>
  graph_Next.nx19 z
theorem graph_Next_ok {E : World} {H : FP} {w : World} {a1 : PFunc} {v2 : Value} {v4 : Value} {r : List (List Int)} (h3 : SlI (kInt .i64) H a1.regs v2) (h5 : SlI kBlock H a1.blocks v4) (hp : graph_Next a1 = some r) (hst : St E H [] w) :
    Fn Try.prog 18 #[.agg #[.int .i64 a1.params, .int .i64 a1.result, v2, v4]] w fun v w' => ∃ A, graph_Next.R r v A ∧ St E H A w' := by
  refine Fn.body (fn := Try.f18) (args := [.agg #[.int .i64 a1.params, .int .i64 a1.result, v2, v4]]) E H [] [.tmp 2] 58 Try.func18 rfl rfl rfl rfl (leb rfl) hst ?_
  unfold graph_Next at hp
  refine TC.seq fun K_1 hK_2 => ?_
  refine TC.region ?_
  refine TL.box (cs := [.int .i64 a1.params, .int .i64 a1.result, v2, v4]) (v := .agg #[.int .i64 a1.params, .int .i64 a1.result, v2, v4]) (ltb rfl) rfl rfl fun b6 => ?_
  refine TL.v (ltb rfl) (rv_as (v := .slice none 0 0) rfl) ?_
  refine TL.nil ?_
  refine TC.go hK_2 ?_
  refine TC.seq fun K_3 hK_4 => ?_
  refine TC.region ?_
  refine TL.v (ltb rfl) (rv_fa (b := b6) (o := 0) fa_25_3 rfl) ?_
  refine TL.v (ltb rfl) (rv_ld (v := v4) (o := 3) (o' := 0) (j := 3) sc_23 rfl (Src.at_ 0 rfl) (bx_cells b6 25 _) rfl rfl) ?_
  refine TL.v (ltb rfl) (rv_lenI (v := v4) Try.underlying23 rfl h5) ?_
  obtain ⟨x7, hz_5, hp⟩ := bind_some' hp
  refine TL.mk (k := (kSl 3 (kInt .i64))) (n := (len a1.blocks)) (x0 := ([] : List Int)) Try.underlying28 inf_22 (ltb rfl) (ltb rfl) rfl rfl (leb rfl) rfl ⟨_, rfl, SlO.nil 3⟩ hz_5 fun v8 F9 h10 => ?_
  refine TL.v (ltb rfl) (rv_as (v := v8) rfl) ?_
  refine TL.nil ?_
  refine TC.go hK_4 ?_
  refine TC.seq fun K_6 hK_7 => ?_
  refine TC.seq fun K_8 hK_9 => ?_
  refine TC.region ?_
  refine TL.v (ltb rfl) (rv_fa (b := b6) (o := 0) fa_25_3 rfl) ?_
  refine TL.v (ltb rfl) (rv_ld (v := v4) (o := 3) (o' := 0) (j := 3) sc_23 rfl (Src.at_ 1 rfl) (bx_cells b6 25 _) rfl rfl) ?_
  refine TL.v (ltb rfl) (rv_lenI (v := v4) Try.underlying23 rfl h5) ?_
  refine TL.v (ltb rfl) (rv_mv (v := .int .i64 0) rfl) ?_
  refine TL.nil ?_
  refine TC.go hK_9 ?_
  refine TC.block ?_
  obtain ⟨z_15, hz_16, hr_17⟩ := bind_some' hp
  clear hp
  have hJ_24 : ∀ (x15 : List (List Int)) (F16 : FP) (e_20 : Env) (h17 : SlO 22 (kSl 3 (kInt .i64)) x15 v8 F16) (h_21 : e_20 3 = v8) (hq_25 : x15 = z_15), ∀ w, St E H [F16] w → K_6 e_20 w := by
    intro x15 F16 e_20 h17 h_21 hq_25
    subst hq_25
    replace hp : graph_Next.nx19 x15 = some r := hr_17
    unfold graph_Next.nx19 at hp
    refine TC.go hK_7 ?_
    refine TC.seq fun K_22 hK_23 => ?_
    refine TC.region ?_
    refine TL.v (ltb rfl) (rv_mv (v := v8) h_21) ?_
    refine TL.v (ltb rfl) (rv_as (v := v8) rfl) ?_
    refine TL.nil ?_
    refine TC.go hK_23 ?_
    refine TC.ret ?_
    obtain rfl := Option.some.inj hp
    exact fun w hw => retOk ⟨v8, F16, rfl, rfl, h17⟩ (hw.pick [0])
  refine TC.pk' [0] (L' := [F9]) rfl ?_
  refine TC.loopW (r := z_15) (fun (s : (List (List Int) × Int)) (e_10 : Env) (L_120 : List FP) => ∃ (x11 : List (List Int)) (x14 : Int) (F12 : FP), s = (x11, x14) ∧ SlO 22 (kSl 3 (kInt .i64)) x11 v8 F12 ∧ e_10 3 = v8 ∧ e_10 13 = v4 ∧ e_10 14 = .int .i64 (len a1.blocks) ∧ e_10 15 = .int .i64 x14 ∧ L_120 = [F12]) ?_ FUEL _ _ _ hz_16 ⟨x7, 0, F9, rfl, h10, rfl, rfl, rfl, rfl, rfl⟩
  rintro s e_10 L_120 ⟨x11, x14, F12, rfl, h13, h_11, h_12, h_13, h_14, rfl⟩ x_18 hp hx_19
  replace hp : graph_Next.bd19 a1 x11 x14 = some x_18 := hp
  unfold graph_Next.bd19 at hp
  refine TC.seq fun K_26 hK_27 => ?_
  refine TC.region ?_
  refine TL.v (ltb rfl) (rv_lss (k := .i64) (m := x14) (n := (len a1.blocks)) h_14 h_13) ?_
  refine TL.nil ?_
  refine TC.go hK_27 ?_
  refine TC.seq fun K_28 hK_29 => ?_
  by_cases hc_30 : x14 < (len a1.blocks)
  · rw [if_pos hc_30] at hp
    refine TC.condT (bT hc_30) ?_
    refine TC.skip ?_
    refine TC.go hK_29 ?_
    refine TC.seq fun K_31 hK_32 => ?_
    refine TC.block ?_
    refine TC.seq fun K_33 hK_34 => ?_
    refine TC.region ?_
    refine TL.v (ltb rfl) (rv_mv (v := .int .i64 x14) h_14) ?_
    obtain ⟨x18, hx_35, hp⟩ := bind_some' hp
    refine TL.v3 (ltb rfl) (rv_ix 23 (.tmp 13) (.tmp 15) (v := v4) (i := x14) Try.underlying23 inf_85 rfl h_12 h_14 h5 hx_35) fun b19 o20 c21 h22 h23 => ?_
    obtain ⟨v24, v26, v28, rfl, h25, h27, h29⟩ := h22
    refine TL.v (ltb rfl) (rv_lda (o := o20) (o' := o20) (j := 0) (ds := [v24, v26, .int .i64 x18.term.kind, .int .i64 x18.term.arg, v28]) ag_85 rfl Src.H h23 rfl rfl rfl) ?_
    refine TL.alloc (cs := [.slice none 0 0, .slice none 0 0, .int .i64 0, .int .i64 0, .slice none 0 0]) inf_85 (ltb rfl) rfl fun b30 => ?_
    refine TL.v (ltb rfl) (rv_as (v := .int .i64 x14) rfl) ?_
    refine TL.stB (ds := [v24, v26, .int .i64 x18.term.kind, .int .i64 x18.term.arg, v28]) (o := 0) (cs := [.slice none 0 0, .slice none 0 0, .int .i64 0, .int .i64 0, .slice none 0 0]) (b := b30) (u := .agg #[v24, v26, .int .i64 x18.term.kind, .int .i64 x18.term.arg, v28]) 0 rfl ms_85 rfl rfl rfl (oc (h25).one (oc (h27).one (oc rfl (oc rfl (oc (h29).one oc0))))) (leb rfl) ?_
    refine TL.norm (L' := [bx b30 85 [v24, v26, .int .i64 x18.term.kind, .int .i64 x18.term.arg, v28], F12]) rfl ?_
    refine TL.nil ?_
    refine TC.go hK_34 ?_
    refine TC.seq fun K_36 hK_37 => ?_
    refine TC.region ?_
    refine TL.v (ltb rfl) (rv_fa (b := b30) (o := 0) fa_85_2 rfl) ?_
    refine TL.v (ltb rfl) (rv_fa (b := b30) (o := 2) fa_81_2 rfl) ?_
    refine TL.v (ltb rfl) (rv_ld (v := v28) (o := 4) (o' := 0) (j := 4) sc_22 rfl (Src.at_ 0 rfl) (bx_cells b30 85 _) rfl rfl) ?_
    refine TL.v (ltb rfl) (rv_lenI (v := v28) Try.underlying22 rfl h29) ?_
    refine TL.v (ltb rfl) (rv_mv (v := .int .i64 0) rfl) ?_
    refine TL.nil ?_
    refine TC.go hK_37 ?_
    refine TC.block ?_
    obtain ⟨z_47, hz_48, hr_49⟩ := bind_some' hp
    clear hp
    have hJ_57 : ∀ (x35 : List (List Int)) (F36 : FP) (e_52 : Env) (h37 : SlO 22 (kSl 3 (kInt .i64)) x35 v8 F36) (h_53 : e_52 3 = v8) (h_54 : e_52 13 = v4) (h_55 : e_52 14 = .int .i64 (len a1.blocks)) (h_56 : e_52 15 = .int .i64 x14) (hq_58 : x35 = z_47), ∀ w, St E H [F36] w → K_31 e_52 w := by
      intro x35 F36 e_52 h37 h_53 h_54 h_55 h_56 hq_58
      subst hq_58
      replace hp : graph_Next.nx51 x14 x35 = some x_18 := hr_49
      unfold graph_Next.nx51 at hp
      refine TC.go hK_32 ?_
      refine TC.region ?_
      refine TL.v (ltb rfl) (rv_add (k := .i64) (m := x14) (n := 1) h_56 rfl) ?_
      refine TL.v (ltb rfl) (rv_mv (v := .int .i64 (w64 (x14 + 1))) rfl) ?_
      refine TL.nil ?_
      exact fun w hw => goOk hp ⟨x35, (w64 (x14 + 1)), F36, rfl, h37, h_53, h_54, h_55, rfl, rfl⟩ (hw.pick [0])
    refine TC.pk' [1] (L' := [F12]) rfl ?_
    refine TC.loopW (r := z_47) (fun (s : (List (List Int) × Int)) (e_38 : Env) (L_119 : List FP) => ∃ (x31 : List (List Int)) (x34 : Int) (F32 : FP), s = (x31, x34) ∧ SlO 22 (kSl 3 (kInt .i64)) x31 v8 F32 ∧ e_38 3 = v8 ∧ e_38 4 = .int .i64 x14 ∧ e_38 13 = v4 ∧ e_38 14 = .int .i64 (len a1.blocks) ∧ e_38 15 = .int .i64 x14 ∧ e_38 22 = v28 ∧ e_38 23 = .int .i64 (len x18.term.to) ∧ e_38 24 = .int .i64 x34 ∧ L_119 = [F32]) ?_ FUEL _ _ _ hz_48 ⟨x11, 0, F12, rfl, h13, h_11, rfl, h_12, h_13, h_14, rfl, rfl, rfl, rfl⟩
    rintro s e_38 L_119 ⟨x31, x34, F32, rfl, h33, h_39, h_40, h_41, h_42, h_43, h_44, h_45, h_46, rfl⟩ x_50 hp hx_51
    replace hp : graph_Next.bd51 x14 x18 x31 x34 = some x_50 := hp
    unfold graph_Next.bd51 at hp
    refine TC.seq fun K_59 hK_60 => ?_
    refine TC.region ?_
    refine TL.v (ltb rfl) (rv_lss (k := .i64) (m := x34) (n := (len x18.term.to)) h_46 h_45) ?_
    refine TL.nil ?_
    refine TC.go hK_60 ?_
    refine TC.seq fun K_61 hK_62 => ?_
    by_cases hc_63 : x34 < (len x18.term.to)
    · rw [if_pos hc_63] at hp
      refine TC.condT (bT hc_63) ?_
      refine TC.skip ?_
      refine TC.go hK_62 ?_
      refine TC.seq fun K_64 hK_65 => ?_
      have hJ_75 : ∀ (x38 : List (List Int)) (F39 : FP) (e_66 : Env) (h40 : SlO 22 (kSl 3 (kInt .i64)) x38 v8 F39) (h_67 : e_66 3 = v8) (h_68 : e_66 4 = .int .i64 x14) (h_69 : e_66 13 = v4) (h_70 : e_66 14 = .int .i64 (len a1.blocks)) (h_71 : e_66 15 = .int .i64 x14) (h_72 : e_66 22 = v28) (h_73 : e_66 23 = .int .i64 (len x18.term.to)) (h_74 : e_66 24 = .int .i64 x34) (hp : graph_Next.jn75 x34 x38 = some x_50), ∀ w, St E H [F39] w → K_64 e_66 w := by
        intro x38 F39 e_66 h40 h_67 h_68 h_69 h_70 h_71 h_72 h_73 h_74 hp
        unfold graph_Next.jn75 at hp
        refine TC.go hK_65 ?_
        refine TC.region ?_
        refine TL.v (ltb rfl) (rv_add (k := .i64) (m := x34) (n := 1) h_74 rfl) ?_
        refine TL.v (ltb rfl) (rv_mv (v := .int .i64 (w64 (x34 + 1))) rfl) ?_
        refine TL.nil ?_
        exact fun w hw => goOk hp ⟨x38, (w64 (x34 + 1)), F39, rfl, h40, h_67, h_68, h_69, h_70, h_71, h_72, h_73, rfl, rfl⟩ (hw.pick [0])
      refine TC.block ?_
      refine TC.seq fun K_76 hK_77 => ?_
      refine TC.region ?_
      obtain ⟨x41, hx_78, hp⟩ := bind_some' hp
      refine TL.v3 (ltb rfl) (rv_ix 22 (.tmp 22) (.tmp 24) (v := v28) (i := x34) Try.underlying22 inf_3 rfl h_44 h_46 h29 hx_78) fun b42 o43 c44 h45 h46 => ?_
      obtain rfl := h45
      refine TL.v (ltb rfl) (rv_ld (v := .int .i64 x41) (o := o43) (o' := o43) (j := 0) sc_3 rfl Src.H h46 rfl rfl) ?_
      refine TL.v (ltb rfl) (rv_as (v := .int .i64 x41) rfl) ?_
      refine TL.nil ?_
      refine TC.go hK_77 ?_
      refine TC.seq fun K_79 hK_80 => ?_
      refine TC.region ?_
      refine TL.v (ltb rfl) (rv_mv (v := .int .i64 x41) rfl) ?_
      refine TL.v (ltb rfl) (rv_geq (k := .i64) (m := x41) (n := 0) rfl rfl) ?_
      refine TL.v (ltb rfl) (rv_mv (v := .bool (decide (x41 ≥ 0))) rfl) ?_
      refine TL.cut 5 fun K_81 hK_82 => ?_
      have hJ_83 : ∀ e_85 : Env, e_85 3 = v8 → e_85 4 = .int .i64 x14 → e_85 7 = .int .i64 x41 → e_85 13 = v4 → e_85 14 = .int .i64 (len a1.blocks) → e_85 15 = .int .i64 x14 → e_85 22 = v28 → e_85 23 = .int .i64 (len x18.term.to) → e_85 24 = .int .i64 x34 → e_85 35 = .bool (decide (x41 ≥ 0 ∧ x41 < (len x31))) → ∀ w, St E H [F32] w → K_81 e_85 w := by
        intro e_85 h_86 h_87 h_88 h_89 h_90 h_91 h_92 h_93 h_94 h_95
        refine TL.go hK_82 ?_
        refine TL.v (ltb rfl) (rv_mv (v := .bool (decide (x41 ≥ 0 ∧ x41 < (len x31)))) h_95) ?_
        obtain ⟨t47, ht_115, hp⟩ := bind_some' hp
        refine TL.cut 8 fun K_96 hK_97 => ?_
        have hJ_98 : ∀ e_100 : Env, e_100 3 = v8 → e_100 4 = .int .i64 x14 → e_100 7 = .int .i64 x41 → e_100 13 = v4 → e_100 14 = .int .i64 (len a1.blocks) → e_100 15 = .int .i64 x14 → e_100 22 = v28 → e_100 23 = .int .i64 (len x18.term.to) → e_100 24 = .int .i64 x34 → e_100 44 = .bool t47 → ∀ w, St E H [F32] w → K_96 e_100 w := by
          intro e_100 h_101 h_102 h_103 h_104 h_105 h_106 h_107 h_108 h_109 h_110
          refine TL.go hK_97 ?_
          refine TL.nil ?_
          refine TC.go hK_80 ?_
          by_cases hc_111 : t47 = true
          · rw [if_pos hc_111] at hp
            refine TC.condT (h_110.trans (bbT hc_111)) ?_
            refine TC.region ?_
            refine TL.v (ltb rfl) (rv_mv (v := v8) h_101) ?_
            refine TL.v (ltb rfl) (rv_mv (v := .int .i64 x14) h_102) ?_
            refine TL.v (ltb rfl) (rv_mv (v := v8) h_101) ?_
            refine TL.v (ltb rfl) (rv_mv (v := .int .i64 x14) h_102) ?_
            obtain ⟨x48, hx_112, hp⟩ := bind_some' hp
            refine TL.open_ h33 hx_112 fun b49 c50 F51 F52 h53 h54 => ?_
            obtain ⟨v55, rfl, h56⟩ := h54
            have h57 := (idx_some hx_112).1
            refine TL.v (ltb rfl) (rv_ixH Try.underlying28 inf_22 (v := v8) (i := x14) rfl rfl h57 h53) ?_
            refine TL.v (ltb rfl) (rv_ld (v := v55) (o := (x14).toNat * 1) (o' := (x14).toNat * 1) (j := 0) sc_22 rfl (Src.at_ 0 rfl) (Hole.cells h53) rfl rfl) ?_
            refine TL.v (ltb rfl) (rv_mv (v := .int .i64 x41) h_103) ?_
            refine TL.bv (vs := [(0, .int .i64 x41)]) (cs := [.int .i64 x41]) (pc rfl p0) Try.underlying22 inf_3 (ltb rfl) (by decide) (by decide) (by kernel_rfl) fun b58 => ?_
            refine TL.pk' [2, 0, 0] (L' := [F52, bx b58 3 [.int .i64 x41], F51]) rfl ?_
            refine TL.perm (L' := [F52, bx b58 3 [.int .i64 x41], [], F51]) (by simp) ?_
            obtain ⟨x59, hz_113, hp⟩ := bind_some' hp
            refine TL.app Try.underlying22 inf_3 (ltb rfl) rfl (ltb rfl) rfl (leb rfl) rfl rfl h56 (RepL.to (RepL.cons (k := (kInt .i64)) (x := x41) ⟨rfl, rfl⟩ RepL.nil) rfl) rfl rfl hz_113 fun v60 F61 h62 => ?_
            refine TL.v (ltb rfl) (rv_ixH Try.underlying28 inf_22 (v := v8) (i := x14) rfl rfl h57 h53) ?_
            refine TL.pk' [1, 0] (L' := [F51, F61]) rfl ?_
            refine TL.stH (ds := [v60]) (o := 0) (o' := (x14).toNat * 1) (u := v60) h53 ms_22 rfl rfl rfl (SlO.cells h62) (oc (h62).one oc0) (leb rfl) fun F64 h65 => ?_
            refine TL.nil ?_
            refine W.shut (a := x59) h65 ⟨_, rfl, h62⟩ fun F66 h67 => ?_
            refine fun w hw => hJ_75 (x31.set (x14).toNat x59) F66 _ h67 ?_ ?_ ?_ ?_ ?_ ?_ ?_ ?_ hp w (hw.pick [0])
            · exact h_101
            · exact h_102
            · exact h_104
            · exact h_105
            · exact h_106
            · exact h_107
            · exact h_108
            · exact h_109
          · rw [if_neg hc_111] at hp
            refine TC.condF (h_110.trans (bbF hc_111)) ?_
            refine TC.skip ?_
            refine fun w hw => hJ_75 x31 F32 _ h33 ?_ ?_ ?_ ?_ ?_ ?_ ?_ ?_ hp w (hw.pick [0])
            · exact h_101
            · exact h_102
            · exact h_104
            · exact h_105
            · exact h_106
            · exact h_107
            · exact h_108
            · exact h_109
        clear hp
        have hp := ht_115
        clear ht_115
        by_cases hc_99 : x41 ≥ 0 ∧ x41 < (len x31)
        · rw [if_pos hc_99] at hp
          refine TL.gyes true (yieldE_of rfl (bT hc_99)) rfl ?_
          refine TL.v (ltb rfl) (rv_mv (v := v8) h_86) ?_
          refine TL.gyes true (yieldE_of rfl (bT hc_99)) rfl ?_
          refine TL.v (ltb rfl) (rv_mv (v := .int .i64 x14) h_87) ?_
          refine TL.gyes true (yieldE_of rfl (bT hc_99)) rfl ?_
          obtain ⟨x68, hx_116, hp⟩ := bind_some' hp
          refine TL.v3 (ltb rfl) (rv_ix 28 (.tmp 37) (.tmp 38) (v := v8) (i := x14) Try.underlying28 inf_22 rfl rfl rfl (h33).ro hx_116) fun b69 o70 c71 h72 h73 => ?_
          obtain ⟨v74, rfl, h75⟩ := h72
          refine TL.gyes true (yieldE_of rfl (bT hc_99)) rfl ?_
          refine TL.v (ltb rfl) (rv_ld (v := v74) (o := o70) (o' := o70) (j := 0) sc_22 rfl (Src.at_ 0 rfl) h73 rfl rfl) ?_
          refine TL.gyes true (yieldE_of rfl (bT hc_99)) rfl ?_
          refine TL.v (ltb rfl) (rv_mv (v := .int .i64 x41) h_88) ?_
          refine TL.gyes true (yieldE_of rfl (bT hc_99)) rfl ?_
          obtain ⟨x76, hy_117, hp⟩ := bind_some' hp
          refine TL.callC (vs := [v74, .int .i64 x41]) (R := slices_Contains.R x76) [] [F32] rfl cb_60 (ltb rfl) (mc rfl (mc rfl m0)) (fun w hw => slices_Contains_ok (a1 := x68) (a4 := x41) (h75.mono (subB 0 rfl)) hy_117 hw) fun v A' hR_118 => ?_
          obtain ⟨rfl, rfl⟩ := hR_118
          refine TL.norm (L' := [F32]) rfl ?_
          refine TL.gyes true (yieldE_of rfl (bT hc_99)) rfl ?_
          refine TL.v (ltb rfl) (rv_not (b := x76) rfl) ?_
          refine TL.v (ltb rfl) (rv_pickT true (bT hc_99) rfl (v := .bool (!x76)) rfl) ?_
          obtain rfl := Option.some.inj hp
          refine TL.nil (hJ_98 _ ?_ ?_ ?_ ?_ ?_ ?_ ?_ ?_ ?_ ?_)
          · exact h_86
          · exact h_87
          · exact h_88
          · exact h_89
          · exact h_90
          · exact h_91
          · exact h_92
          · exact h_93
          · exact h_94
          · exact rfl
        · rw [if_neg hc_99] at hp
          refine TL.gno false rfl (fun d hd => by cases hd; exact ltb rfl) (yieldE_of rfl (bF hc_99)) rfl ?_
          refine TL.gno false rfl (fun d hd => by cases hd; exact ltb rfl) (yieldE_of rfl (bF hc_99)) rfl ?_
          refine TL.gno false rfl (fun d hd => by cases hd; exact ltb rfl) (yieldE_of rfl (bF hc_99)) rfl ?_
          refine TL.gno false rfl (fun d hd => by cases hd; exact ltb rfl) (yieldE_of rfl (bF hc_99)) rfl ?_
          refine TL.gno false rfl (fun d hd => by cases hd; exact ltb rfl) (yieldE_of rfl (bF hc_99)) rfl ?_
          refine TL.gno false rfl (fun d hd => by cases hd; exact ltb rfl) (yieldE_of rfl (bF hc_99)) rfl ?_
          refine TL.gno false rfl (fun d hd => by cases hd; exact ltb rfl) (yieldE_of rfl (bF hc_99)) rfl ?_
          refine TL.v (ltb rfl) (rv_pickF false (bF hc_99) rfl (v := .bool false) rfl) ?_
          obtain rfl := Option.some.inj hp
          refine TL.nil (hJ_98 _ ?_ ?_ ?_ ?_ ?_ ?_ ?_ ?_ ?_ ?_)
          · exact h_86
          · exact h_87
          · exact h_88
          · exact h_89
          · exact h_90
          · exact h_91
          · exact h_92
          · exact h_93
          · exact h_94
          · exact rfl
      by_cases hc_84 : x41 ≥ 0
      · refine TL.gyes true (yieldE_of rfl (bT hc_84)) rfl ?_
        refine TL.v (ltb rfl) (rv_mv (v := .int .i64 x41) rfl) ?_
        refine TL.gyes true (yieldE_of rfl (bT hc_84)) rfl ?_
        refine TL.v (ltb rfl) (rv_mv (v := v8) h_39) ?_
        refine TL.gyes true (yieldE_of rfl (bT hc_84)) rfl ?_
        refine TL.v (ltb rfl) (rv_lenI (v := v8) Try.underlying28 rfl h33.ro) ?_
        refine TL.gyes true (yieldE_of rfl (bT hc_84)) rfl ?_
        refine TL.v (ltb rfl) (rv_lss (k := .i64) (m := x41) (n := (len x31)) rfl rfl) ?_
        refine TL.v (ltb rfl) (rv_pickT true (bT hc_84) rfl (v := .bool (decide (x41 < (len x31)))) rfl) ?_
        refine TL.nil (hJ_83 _ ?_ ?_ ?_ ?_ ?_ ?_ ?_ ?_ ?_ ?_)
        · exact h_39
        · exact h_40
        · exact rfl
        · exact h_41
        · exact h_42
        · exact h_43
        · exact h_44
        · exact h_45
        · exact h_46
        · exact (bAt hc_84)
      · refine TL.gno false rfl (fun d hd => by cases hd; exact ltb rfl) (yieldE_of rfl (bF hc_84)) rfl ?_
        refine TL.gno false rfl (fun d hd => by cases hd; exact ltb rfl) (yieldE_of rfl (bF hc_84)) rfl ?_
        refine TL.gno false rfl (fun d hd => by cases hd; exact ltb rfl) (yieldE_of rfl (bF hc_84)) rfl ?_
        refine TL.gno false rfl (fun d hd => by cases hd; exact ltb rfl) (yieldE_of rfl (bF hc_84)) rfl ?_
        refine TL.v (ltb rfl) (rv_pickF false (bF hc_84) rfl (v := .bool false) rfl) ?_
        refine TL.nil (hJ_83 _ ?_ ?_ ?_ ?_ ?_ ?_ ?_ ?_ ?_ ?_)
        · exact h_39
        · exact h_40
        · exact rfl
        · exact h_41
        · exact h_42
        · exact h_43
        · exact h_44
        · exact h_45
        · exact h_46
        · exact (bAf hc_84)
    · rw [if_neg hc_63] at hp
      refine TC.condF (bF hc_63) ?_
      refine TC.exit ?_
      refine fun w hw => hJ_57 x31 F32 _ h33 ?_ ?_ ?_ ?_ (ex_ret hp hx_51) w (hw.pick [0])
      · exact h_39
      · exact h_41
      · exact h_42
      · exact h_43
  · rw [if_neg hc_30] at hp
    refine TC.condF (bF hc_30) ?_
    refine TC.exit ?_
    refine fun w hw => hJ_24 x11 F12 _ h13 ?_ (ex_ret hp hx_19) w (hw.pick [0])
    · exact h_11

/-! ### fettle/fettleref02.Small -/
abbrev fettleref02_Small.R (r : Bool) (v : Value) (A : List FP) : Prop := .bool r = v ∧ A = []
def fettleref02_Small.nx21  : Option Bool :=
  some true
def fettleref02_Small.nx73 (x5 : Int) : Option (Ex (Ex Bool Unit) Int) :=
  some (.go (w64 (x5 + 1)))
def fettleref02_Small.nx153 (x17 : Int) : Option (Ex (Ex Bool Unit) Int) :=
  some (.go (w64 (x17 + 1)))
def fettleref02_Small.bd153 (x18 : PBlock) (x32 : Int) : Option (Ex (Ex Bool Unit) Int) :=
  if x32 < (len x18.phis) then
    (idx x18.phis x32).bind fun x33 =>
    if (len x33.args) > 300 then
      some (.ret (.ret false))
    else
      some (.go (w64 (x32 + 1)))
  else
    some (.ret (.go ()))
def fettleref02_Small.nx133 (x17 : Int) (x18 : PBlock) : Option (Ex (Ex Bool Unit) Int) :=
  (whl (fun (s : Int) => fettleref02_Small.bd153 x18 s) FUEL 0).bind fun z =>
  match z with
    | .ret r => some (.ret (.ret r))
    | .go p => fettleref02_Small.nx153 x17
def fettleref02_Small.bd133 (x18 : PBlock) (x31 : Int) : Option (Ex (Ex Bool Unit) Int) :=
  if x31 < (len x18.ins) then
    (idx x18.ins x31).bind fun x41 =>
    if (len x41.args) > 300 then
      some (.ret (.ret false))
    else
      some (.go (w64 (x31 + 1)))
  else
    some (.ret (.go ()))
def fettleref02_Small.bd73 (x6 : PFunc) (x17 : Int) : Option (Ex (Ex Bool Unit) Int) :=
  if x17 < (len x6.blocks) then
    (idx x6.blocks x17).bind fun x18 =>
    if ((len x18.ins) > 300 ∨ (len x18.phis) > 300) ∨ (len x18.term.to) > 70 then
      some (.ret (.ret false))
    else
      (whl (fun (s : Int) => fettleref02_Small.bd133 x18 s) FUEL 0).bind fun z =>
      match z with
        | .ret r => some (.ret (.ret r))
        | .go p => fettleref02_Small.nx133 x17 x18
  else
    some (.ret (.go ()))
def fettleref02_Small.bd21 (a1 : PModule) (x5 : Int) : Option (Ex (Ex Bool Unit) Int) :=
  if x5 < (len a1.funcs) then
    (idx a1.funcs x5).bind fun x6 =>
    if ((len x6.blocks) > 70 ∨ (len x6.regs) > 300) ∨ x6.params > 1000 then
      some (.ret (.ret false))
    else
      (whl (fun (s : Int) => fettleref02_Small.bd73 x6 s) FUEL 0).bind fun z =>
      match z with
        | .ret r => some (.ret (.ret r))
        | .go p => fettleref02_Small.nx73 x5
  else
    some (.ret (.go ()))
def fettleref02_Small (a1 : PModule) : Option Bool :=
  if (len a1.funcs) > 40 then
    some false
  else
    (whl (fun (s : Int) => fettleref02_Small.bd21 a1 s) FUEL 0).bind fun z =>
    match z with
      | .ret r => some r
      | .go p => fettleref02_Small.nx21
set_option maxHeartbeats 4000000 in
theorem fettleref02_Small_ok {E : World} {H : FP} {w : World} {a1 : PModule} {v2 : Value} {r : Bool} (h3 : SlI kFunc H a1.funcs v2) (hp : fettleref02_Small a1 = some r) (hst : St E H [] w) :
    Fn Try.prog 48 #[.agg #[v2]] w fun v w' => ∃ A, fettleref02_Small.R r v A ∧ St E H A w' := by
  refine Fn.body (fn := Try.f48) (args := [.agg #[v2]]) E H [] [.tmp 2] 99 Try.func48 rfl rfl rfl rfl (leb rfl) hst ?_
  unfold fettleref02_Small at hp
  refine TC.seq fun K_1 hK_2 => ?_
  refine TC.region ?_
  refine TL.box (cs := [v2]) (v := .agg #[v2]) (ltb rfl) rfl rfl fun b4 => ?_
  refine TL.v (ltb rfl) (rv_as (v := .bool false) rfl) ?_
  refine TL.nil ?_
  refine TC.go hK_2 ?_
  refine TC.seq fun K_3 hK_4 => ?_
  refine TC.seq fun K_5 hK_6 => ?_
  refine TC.region ?_
  refine TL.v (ltb rfl) (rv_fa (b := b4) (o := 0) fa_90_0 rfl) ?_
  refine TL.v (ltb rfl) (rv_ld (v := v2) (o := 0) (o' := 0) (j := 0) sc_88 rfl (Src.at_ 0 rfl) (bx_cells b4 90 _) rfl rfl) ?_
  refine TL.v (ltb rfl) (rv_lenI (v := v2) Try.underlying88 rfl h3) ?_
  refine TL.v (ltb rfl) (rv_gtr (k := .i64) (m := (len a1.funcs)) (n := 40) rfl rfl) ?_
  refine TL.nil ?_
  refine TC.go hK_6 ?_
  by_cases hc_7 : (len a1.funcs) > 40
  · rw [if_pos hc_7] at hp
    refine TC.condT (bT hc_7) ?_
    refine TC.seq fun K_8 hK_9 => ?_
    refine TC.region ?_
    refine TL.v (ltb rfl) (rv_as (v := .bool false) rfl) ?_
    refine TL.nil ?_
    refine TC.go hK_9 ?_
    refine TC.ret ?_
    obtain rfl := Option.some.inj hp
    exact fun w hw => retOk ⟨rfl, rfl⟩ (hw.pick [])
  · rw [if_neg hc_7] at hp
    refine TC.condF (bF hc_7) ?_
    refine TC.skip ?_
    refine TC.go hK_4 ?_
    refine TC.seq fun K_10 hK_11 => ?_
    refine TC.seq fun K_12 hK_13 => ?_
    refine TC.region ?_
    refine TL.v (ltb rfl) (rv_as (v := .int .i64 0) rfl) ?_
    refine TL.nil ?_
    refine TC.go hK_13 ?_
    refine TC.block ?_
    obtain ⟨z_17, hz_18, hr_19⟩ := bind_some' hp
    clear hp
    have hJ_25 : ∀ (e_22 : Env) (hq_26 : .go () = z_17), ∀ w, St E H [] w → K_10 e_22 w := by
      intro e_22 hq_26
      subst hq_26
      replace hp : fettleref02_Small.nx21 = some r := hr_19
      unfold fettleref02_Small.nx21 at hp
      refine TC.go hK_11 ?_
      refine TC.seq fun K_23 hK_24 => ?_
      refine TC.region ?_
      refine TL.v (ltb rfl) (rv_as (v := .bool true) rfl) ?_
      refine TL.nil ?_
      refine TC.go hK_24 ?_
      refine TC.ret ?_
      obtain rfl := Option.some.inj hp
      exact fun w hw => retOk ⟨rfl, rfl⟩ (hw.pick [])
    refine TC.pk' [0] (L' := [bx b4 90 [v2]]) rfl ?_
    refine TC.loopW (r := z_17) (fun (x5 : Int) (e_14 : Env) (L_192 : List FP) => e_14 1 = .pointer (some ⟨b4, 0, none⟩) ∧ e_14 3 = .int .i64 x5 ∧ L_192 = [bx b4 90 [v2]]) ?_ FUEL _ _ _ hz_18 ⟨rfl, rfl, rfl⟩
    rintro x5 e_14 L_192 ⟨h_15, h_16, rfl⟩ x_20 hp hx_21
    replace hp : fettleref02_Small.bd21 a1 x5 = some x_20 := hp
    unfold fettleref02_Small.bd21 at hp
    refine TC.seq fun K_27 hK_28 => ?_
    refine TC.seq fun K_29 hK_30 => ?_
    refine TC.region ?_
    refine TL.v (ltb rfl) (rv_mv (v := .int .i64 x5) h_16) ?_
    refine TL.v (ltb rfl) (rv_fa (b := b4) (o := 0) fa_90_0 h_15) ?_
    refine TL.v (ltb rfl) (rv_ld (v := v2) (o := 0) (o' := 0) (j := 0) sc_88 rfl (Src.at_ 0 rfl) (bx_cells b4 90 _) rfl rfl) ?_
    refine TL.v (ltb rfl) (rv_lenI (v := v2) Try.underlying88 rfl h3) ?_
    refine TL.v (ltb rfl) (rv_lss (k := .i64) (m := x5) (n := (len a1.funcs)) rfl rfl) ?_
    refine TL.nil ?_
    refine TC.go hK_30 ?_
    by_cases hc_31 : x5 < (len a1.funcs)
    · rw [if_pos hc_31] at hp
      refine TC.condT (bT hc_31) ?_
      refine TC.skip ?_
      refine TC.go hK_28 ?_
      refine TC.seq fun K_32 hK_33 => ?_
      refine TC.block ?_
      refine TC.seq fun K_34 hK_35 => ?_
      refine TC.region ?_
      refine TL.v (ltb rfl) (rv_fa (b := b4) (o := 0) fa_90_0 h_15) ?_
      refine TL.v (ltb rfl) (rv_ld (v := v2) (o := 0) (o' := 0) (j := 0) sc_88 rfl (Src.at_ 0 rfl) (bx_cells b4 90 _) rfl rfl) ?_
      refine TL.v (ltb rfl) (rv_mv (v := .int .i64 x5) h_16) ?_
      obtain ⟨x6, hx_36, hp⟩ := bind_some' hp
      refine TL.v3 (ltb rfl) (rv_ix 88 (.tmp 21) (.tmp 22) (v := v2) (i := x5) Try.underlying88 inf_25 rfl rfl rfl h3 hx_36) fun b7 o8 c9 h10 h11 => ?_
      obtain ⟨v12, v14, rfl, h13, h15⟩ := h10
      refine TL.v (ltb rfl) (rv_lda (o := o8) (o' := o8) (j := 0) (ds := [.int .i64 x6.params, .int .i64 x6.result, v12, v14]) ag_25 rfl Src.H h11 rfl rfl rfl) ?_
      refine TL.alloc (cs := [.int .i64 0, .int .i64 0, .slice none 0 0, .slice none 0 0]) inf_25 (ltb rfl) rfl fun b16 => ?_
      refine TL.stB (ds := [.int .i64 x6.params, .int .i64 x6.result, v12, v14]) (o := 0) (cs := [.int .i64 0, .int .i64 0, .slice none 0 0, .slice none 0 0]) (b := b16) (u := .agg #[.int .i64 x6.params, .int .i64 x6.result, v12, v14]) 0 rfl ms_25 rfl rfl rfl (oc rfl (oc rfl (oc (h13).one (oc (h15).one oc0)))) (leb rfl) ?_
      refine TL.norm (L' := [bx b16 25 [.int .i64 x6.params, .int .i64 x6.result, v12, v14], bx b4 90 [v2]]) rfl ?_
      refine TL.nil ?_
      refine TC.go hK_35 ?_
      refine TC.seq fun K_37 hK_38 => ?_
      refine TC.seq fun K_39 hK_40 => ?_
      refine TC.region ?_
      refine TL.v (ltb rfl) (rv_fa (b := b16) (o := 0) fa_25_3 rfl) ?_
      refine TL.v (ltb rfl) (rv_ld (v := v14) (o := 3) (o' := 0) (j := 3) sc_23 rfl (Src.at_ 0 rfl) (bx_cells b16 25 _) rfl rfl) ?_
      refine TL.v (ltb rfl) (rv_lenI (v := v14) Try.underlying23 rfl h15) ?_
      refine TL.v (ltb rfl) (rv_gtr (k := .i64) (m := (len x6.blocks)) (n := 70) rfl rfl) ?_
      refine TL.v (ltb rfl) (rv_mv (v := .bool (decide ((len x6.blocks) > 70))) rfl) ?_
      refine TL.cut 5 fun K_41 hK_42 => ?_
      have hJ_43 : ∀ e_45 : Env, e_45 1 = .pointer (some ⟨b4, 0, none⟩) → e_45 3 = .int .i64 x5 → e_45 4 = .pointer (some ⟨b16, 0, none⟩) → e_45 34 = .bool (decide ((len x6.blocks) > 70 ∨ (len x6.regs) > 300)) → ∀ w, St E H [bx b16 25 [.int .i64 x6.params, .int .i64 x6.result, v12, v14], bx b4 90 [v2]] w → K_41 e_45 w := by
        intro e_45 h_46 h_47 h_48 h_49
        refine TL.go hK_42 ?_
        refine TL.v (ltb rfl) (rv_mv (v := .bool (decide ((len x6.blocks) > 70 ∨ (len x6.regs) > 300))) h_49) ?_
        refine TL.cut 4 fun K_50 hK_51 => ?_
        have hJ_52 : ∀ e_54 : Env, e_54 1 = .pointer (some ⟨b4, 0, none⟩) → e_54 3 = .int .i64 x5 → e_54 4 = .pointer (some ⟨b16, 0, none⟩) → e_54 39 = .bool (decide (((len x6.blocks) > 70 ∨ (len x6.regs) > 300) ∨ x6.params > 1000)) → ∀ w, St E H [bx b16 25 [.int .i64 x6.params, .int .i64 x6.result, v12, v14], bx b4 90 [v2]] w → K_50 e_54 w := by
          intro e_54 h_55 h_56 h_57 h_58
          refine TL.go hK_51 ?_
          refine TL.nil ?_
          refine TC.go hK_40 ?_
          by_cases hc_59 : ((len x6.blocks) > 70 ∨ (len x6.regs) > 300) ∨ x6.params > 1000
          · rw [if_pos hc_59] at hp
            refine TC.condT (h_58.trans (bT hc_59)) ?_
            refine TC.seq fun K_60 hK_61 => ?_
            refine TC.region ?_
            refine TL.v (ltb rfl) (rv_as (v := .bool false) rfl) ?_
            refine TL.nil ?_
            refine TC.go hK_61 ?_
            refine TC.ret ?_
            obtain rfl := ex_ret hp hx_21
            obtain rfl := Option.some.inj hr_19
            exact fun w hw => retOk ⟨rfl, rfl⟩ (hw.pick [])
          · rw [if_neg hc_59] at hp
            refine TC.condF (h_58.trans (bF hc_59)) ?_
            refine TC.skip ?_
            refine TC.go hK_38 ?_
            refine TC.seq fun K_62 hK_63 => ?_
            refine TC.region ?_
            refine TL.v (ltb rfl) (rv_as (v := .int .i64 0) rfl) ?_
            refine TL.nil ?_
            refine TC.go hK_63 ?_
            refine TC.block ?_
            obtain ⟨z_69, hz_70, hr_71⟩ := bind_some' hp
            clear hp
            have hJ_77 : ∀ (e_74 : Env) (h_75 : e_74 1 = .pointer (some ⟨b4, 0, none⟩)) (h_76 : e_74 3 = .int .i64 x5) (hq_78 : .go () = z_69), ∀ w, St E H [bx b4 90 [v2]] w → K_32 e_74 w := by
              intro e_74 h_75 h_76 hq_78
              subst hq_78
              replace hp : fettleref02_Small.nx73 x5 = some x_20 := hr_71
              unfold fettleref02_Small.nx73 at hp
              refine TC.go hK_33 ?_
              refine TC.region ?_
              refine TL.v (ltb rfl) (rv_mv (v := .int .i64 x5) h_76) ?_
              refine TL.v (ltb rfl) (rv_add (k := .i64) (m := x5) (n := 1) rfl rfl) ?_
              refine TL.v (ltb rfl) (rv_as (v := .int .i64 (w64 (x5 + 1))) rfl) ?_
              refine TL.nil ?_
              exact fun w hw => goOk hp ⟨h_75, rfl, rfl⟩ (hw.pick [0])
            refine TC.pk' [1, 0] (L' := [bx b4 90 [v2], bx b16 25 [.int .i64 x6.params, .int .i64 x6.result, v12, v14]]) rfl ?_
            refine TC.loopW (r := z_69) (fun (x17 : Int) (e_64 : Env) (L_191 : List FP) => e_64 1 = .pointer (some ⟨b4, 0, none⟩) ∧ e_64 3 = .int .i64 x5 ∧ e_64 4 = .pointer (some ⟨b16, 0, none⟩) ∧ e_64 5 = .int .i64 x17 ∧ L_191 = [bx b4 90 [v2], bx b16 25 [.int .i64 x6.params, .int .i64 x6.result, v12, v14]]) ?_ FUEL _ _ _ hz_70 ⟨h_55, h_56, h_57, rfl, rfl⟩
            rintro x17 e_64 L_191 ⟨h_65, h_66, h_67, h_68, rfl⟩ x_72 hp hx_73
            replace hp : fettleref02_Small.bd73 x6 x17 = some x_72 := hp
            unfold fettleref02_Small.bd73 at hp
            refine TC.seq fun K_79 hK_80 => ?_
            refine TC.seq fun K_81 hK_82 => ?_
            refine TC.region ?_
            refine TL.v (ltb rfl) (rv_mv (v := .int .i64 x17) h_68) ?_
            refine TL.v (ltb rfl) (rv_fa (b := b16) (o := 0) fa_25_3 h_67) ?_
            refine TL.v (ltb rfl) (rv_ld (v := v14) (o := 3) (o' := 0) (j := 3) sc_23 rfl (Src.at_ 1 rfl) (bx_cells b16 25 _) rfl rfl) ?_
            refine TL.v (ltb rfl) (rv_lenI (v := v14) Try.underlying23 rfl h15) ?_
            refine TL.v (ltb rfl) (rv_lss (k := .i64) (m := x17) (n := (len x6.blocks)) rfl rfl) ?_
            refine TL.nil ?_
            refine TC.go hK_82 ?_
            by_cases hc_83 : x17 < (len x6.blocks)
            · rw [if_pos hc_83] at hp
              refine TC.condT (bT hc_83) ?_
              refine TC.skip ?_
              refine TC.go hK_80 ?_
              refine TC.seq fun K_84 hK_85 => ?_
              refine TC.block ?_
              refine TC.seq fun K_86 hK_87 => ?_
              refine TC.region ?_
              refine TL.v (ltb rfl) (rv_fa (b := b16) (o := 0) fa_25_3 h_67) ?_
              refine TL.v (ltb rfl) (rv_ld (v := v14) (o := 3) (o' := 0) (j := 3) sc_23 rfl (Src.at_ 1 rfl) (bx_cells b16 25 _) rfl rfl) ?_
              refine TL.v (ltb rfl) (rv_mv (v := .int .i64 x17) h_68) ?_
              obtain ⟨x18, hx_88, hp⟩ := bind_some' hp
              refine TL.v3 (ltb rfl) (rv_ix 23 (.tmp 48) (.tmp 49) (v := v14) (i := x17) Try.underlying23 inf_85 rfl rfl rfl h15 hx_88) fun b19 o20 c21 h22 h23 => ?_
              obtain ⟨v24, v26, v28, rfl, h25, h27, h29⟩ := h22
              refine TL.v (ltb rfl) (rv_lda (o := o20) (o' := o20) (j := 0) (ds := [v24, v26, .int .i64 x18.term.kind, .int .i64 x18.term.arg, v28]) ag_85 rfl Src.H h23 rfl rfl rfl) ?_
              refine TL.alloc (cs := [.slice none 0 0, .slice none 0 0, .int .i64 0, .int .i64 0, .slice none 0 0]) inf_85 (ltb rfl) rfl fun b30 => ?_
              refine TL.stB (ds := [v24, v26, .int .i64 x18.term.kind, .int .i64 x18.term.arg, v28]) (o := 0) (cs := [.slice none 0 0, .slice none 0 0, .int .i64 0, .int .i64 0, .slice none 0 0]) (b := b30) (u := .agg #[v24, v26, .int .i64 x18.term.kind, .int .i64 x18.term.arg, v28]) 0 rfl ms_85 rfl rfl rfl (oc (h25).one (oc (h27).one (oc rfl (oc rfl (oc (h29).one oc0))))) (leb rfl) ?_
              refine TL.norm (L' := [bx b30 85 [v24, v26, .int .i64 x18.term.kind, .int .i64 x18.term.arg, v28], bx b4 90 [v2], bx b16 25 [.int .i64 x6.params, .int .i64 x6.result, v12, v14]]) rfl ?_
              refine TL.nil ?_
              refine TC.go hK_87 ?_
              refine TC.seq fun K_89 hK_90 => ?_
              refine TC.seq fun K_91 hK_92 => ?_
              refine TC.region ?_
              refine TL.v (ltb rfl) (rv_fa (b := b30) (o := 0) fa_85_1 rfl) ?_
              refine TL.v (ltb rfl) (rv_ld (v := v26) (o := 1) (o' := 0) (j := 1) sc_83 rfl (Src.at_ 0 rfl) (bx_cells b30 85 _) rfl rfl) ?_
              refine TL.v (ltb rfl) (rv_lenI (v := v26) Try.underlying83 rfl h27) ?_
              refine TL.v (ltb rfl) (rv_gtr (k := .i64) (m := (len x18.ins)) (n := 300) rfl rfl) ?_
              refine TL.v (ltb rfl) (rv_mv (v := .bool (decide ((len x18.ins) > 300))) rfl) ?_
              refine TL.cut 5 fun K_93 hK_94 => ?_
              have hJ_95 : ∀ e_97 : Env, e_97 1 = .pointer (some ⟨b4, 0, none⟩) → e_97 3 = .int .i64 x5 → e_97 4 = .pointer (some ⟨b16, 0, none⟩) → e_97 5 = .int .i64 x17 → e_97 6 = .pointer (some ⟨b30, 0, none⟩) → e_97 61 = .bool (decide ((len x18.ins) > 300 ∨ (len x18.phis) > 300)) → ∀ w, St E H [bx b30 85 [v24, v26, .int .i64 x18.term.kind, .int .i64 x18.term.arg, v28], bx b4 90 [v2], bx b16 25 [.int .i64 x6.params, .int .i64 x6.result, v12, v14]] w → K_93 e_97 w := by
                intro e_97 h_98 h_99 h_100 h_101 h_102 h_103
                refine TL.go hK_94 ?_
                refine TL.v (ltb rfl) (rv_mv (v := .bool (decide ((len x18.ins) > 300 ∨ (len x18.phis) > 300))) h_103) ?_
                refine TL.cut 6 fun K_104 hK_105 => ?_
                have hJ_106 : ∀ e_108 : Env, e_108 1 = .pointer (some ⟨b4, 0, none⟩) → e_108 3 = .int .i64 x5 → e_108 4 = .pointer (some ⟨b16, 0, none⟩) → e_108 5 = .int .i64 x17 → e_108 6 = .pointer (some ⟨b30, 0, none⟩) → e_108 68 = .bool (decide (((len x18.ins) > 300 ∨ (len x18.phis) > 300) ∨ (len x18.term.to) > 70)) → ∀ w, St E H [bx b30 85 [v24, v26, .int .i64 x18.term.kind, .int .i64 x18.term.arg, v28], bx b4 90 [v2], bx b16 25 [.int .i64 x6.params, .int .i64 x6.result, v12, v14]] w → K_104 e_108 w := by
                  intro e_108 h_109 h_110 h_111 h_112 h_113 h_114
                  refine TL.go hK_105 ?_
                  refine TL.nil ?_
                  refine TC.go hK_92 ?_
                  by_cases hc_115 : ((len x18.ins) > 300 ∨ (len x18.phis) > 300) ∨ (len x18.term.to) > 70
                  · rw [if_pos hc_115] at hp
                    refine TC.condT (h_114.trans (bT hc_115)) ?_
                    refine TC.seq fun K_116 hK_117 => ?_
                    refine TC.region ?_
                    refine TL.v (ltb rfl) (rv_as (v := .bool false) rfl) ?_
                    refine TL.nil ?_
                    refine TC.go hK_117 ?_
                    refine TC.ret ?_
                    obtain rfl := ex_ret hp hx_73
                    obtain rfl := ex_ret hr_71 hx_21
                    obtain rfl := Option.some.inj hr_19
                    exact fun w hw => retOk ⟨rfl, rfl⟩ (hw.pick [])
                  · rw [if_neg hc_115] at hp
                    refine TC.condF (h_114.trans (bF hc_115)) ?_
                    refine TC.skip ?_
                    refine TC.go hK_90 ?_
                    refine TC.seq fun K_118 hK_119 => ?_
                    refine TC.seq fun K_120 hK_121 => ?_
                    refine TC.region ?_
                    refine TL.v (ltb rfl) (rv_as (v := .int .i64 0) rfl) ?_
                    refine TL.nil ?_
                    refine TC.go hK_121 ?_
                    refine TC.block ?_
                    obtain ⟨z_129, hz_130, hr_131⟩ := bind_some' hp
                    clear hp
                    have hJ_175 : ∀ (e_134 : Env) (h_135 : e_134 1 = .pointer (some ⟨b4, 0, none⟩)) (h_136 : e_134 3 = .int .i64 x5) (h_137 : e_134 4 = .pointer (some ⟨b16, 0, none⟩)) (h_138 : e_134 5 = .int .i64 x17) (h_139 : e_134 6 = .pointer (some ⟨b30, 0, none⟩)) (hq_176 : .go () = z_129), ∀ w, St E H [bx b4 90 [v2], bx b16 25 [.int .i64 x6.params, .int .i64 x6.result, v12, v14], bx b30 85 [v24, v26, .int .i64 x18.term.kind, .int .i64 x18.term.arg, v28]] w → K_118 e_134 w := by
                      intro e_134 h_135 h_136 h_137 h_138 h_139 hq_176
                      subst hq_176
                      replace hp : fettleref02_Small.nx133 x17 x18 = some x_72 := hr_131
                      unfold fettleref02_Small.nx133 at hp
                      refine TC.go hK_119 ?_
                      refine TC.seq fun K_140 hK_141 => ?_
                      refine TC.region ?_
                      refine TL.v (ltb rfl) (rv_as (v := .int .i64 0) rfl) ?_
                      refine TL.nil ?_
                      refine TC.go hK_141 ?_
                      refine TC.block ?_
                      obtain ⟨z_149, hz_150, hr_151⟩ := bind_some' hp
                      clear hp
                      have hJ_159 : ∀ (e_154 : Env) (h_155 : e_154 1 = .pointer (some ⟨b4, 0, none⟩)) (h_156 : e_154 3 = .int .i64 x5) (h_157 : e_154 4 = .pointer (some ⟨b16, 0, none⟩)) (h_158 : e_154 5 = .int .i64 x17) (hq_160 : .go () = z_149), ∀ w, St E H [bx b4 90 [v2], bx b16 25 [.int .i64 x6.params, .int .i64 x6.result, v12, v14]] w → K_84 e_154 w := by
                        intro e_154 h_155 h_156 h_157 h_158 hq_160
                        subst hq_160
                        replace hp : fettleref02_Small.nx153 x17 = some x_72 := hr_151
                        unfold fettleref02_Small.nx153 at hp
                        refine TC.go hK_85 ?_
                        refine TC.region ?_
                        refine TL.v (ltb rfl) (rv_mv (v := .int .i64 x17) h_158) ?_
                        refine TL.v (ltb rfl) (rv_add (k := .i64) (m := x17) (n := 1) rfl rfl) ?_
                        refine TL.v (ltb rfl) (rv_as (v := .int .i64 (w64 (x17 + 1))) rfl) ?_
                        refine TL.nil ?_
                        exact fun w hw => goOk hp ⟨h_155, h_156, h_157, rfl, rfl⟩ (hw.pick [0, 0])
                      refine TC.pk' [0, 0, 0] (L' := [bx b4 90 [v2], bx b16 25 [.int .i64 x6.params, .int .i64 x6.result, v12, v14], bx b30 85 [v24, v26, .int .i64 x18.term.kind, .int .i64 x18.term.arg, v28]]) rfl ?_
                      refine TC.loopW (r := z_149) (fun (x32 : Int) (e_142 : Env) (L_174 : List FP) => e_142 1 = .pointer (some ⟨b4, 0, none⟩) ∧ e_142 3 = .int .i64 x5 ∧ e_142 4 = .pointer (some ⟨b16, 0, none⟩) ∧ e_142 5 = .int .i64 x17 ∧ e_142 6 = .pointer (some ⟨b30, 0, none⟩) ∧ e_142 8 = .int .i64 x32 ∧ L_174 = [bx b4 90 [v2], bx b16 25 [.int .i64 x6.params, .int .i64 x6.result, v12, v14], bx b30 85 [v24, v26, .int .i64 x18.term.kind, .int .i64 x18.term.arg, v28]]) ?_ FUEL _ _ _ hz_150 ⟨h_135, h_136, h_137, h_138, h_139, rfl, rfl⟩
                      rintro x32 e_142 L_174 ⟨h_143, h_144, h_145, h_146, h_147, h_148, rfl⟩ x_152 hp hx_153
                      replace hp : fettleref02_Small.bd153 x18 x32 = some x_152 := hp
                      unfold fettleref02_Small.bd153 at hp
                      refine TC.seq fun K_161 hK_162 => ?_
                      refine TC.seq fun K_163 hK_164 => ?_
                      refine TC.region ?_
                      refine TL.v (ltb rfl) (rv_mv (v := .int .i64 x32) h_148) ?_
                      refine TL.v (ltb rfl) (rv_fa (b := b30) (o := 0) fa_85_0 h_147) ?_
                      refine TL.v (ltb rfl) (rv_ld (v := v24) (o := 0) (o' := 0) (j := 0) sc_82 rfl (Src.at_ 2 rfl) (bx_cells b30 85 _) rfl rfl) ?_
                      refine TL.v (ltb rfl) (rv_lenI (v := v24) Try.underlying82 rfl h25) ?_
                      refine TL.v (ltb rfl) (rv_lss (k := .i64) (m := x32) (n := (len x18.phis)) rfl rfl) ?_
                      refine TL.nil ?_
                      refine TC.go hK_164 ?_
                      by_cases hc_165 : x32 < (len x18.phis)
                      · rw [if_pos hc_165] at hp
                        refine TC.condT (bT hc_165) ?_
                        refine TC.skip ?_
                        refine TC.go hK_162 ?_
                        refine TC.seq fun K_166 hK_167 => ?_
                        refine TC.block ?_
                        refine TC.seq fun K_168 hK_169 => ?_
                        refine TC.region ?_
                        refine TL.v (ltb rfl) (rv_fa (b := b30) (o := 0) fa_85_0 h_147) ?_
                        refine TL.v (ltb rfl) (rv_ld (v := v24) (o := 0) (o' := 0) (j := 0) sc_82 rfl (Src.at_ 2 rfl) (bx_cells b30 85 _) rfl rfl) ?_
                        refine TL.v (ltb rfl) (rv_mv (v := .int .i64 x32) h_148) ?_
                        obtain ⟨x33, hx_170, hp⟩ := bind_some' hp
                        refine TL.v3 (ltb rfl) (rv_ix 82 (.tmp 92) (.tmp 93) (v := v24) (i := x32) Try.underlying82 inf_131 rfl rfl rfl h25 hx_170) fun b34 o35 c36 h37 h38 => ?_
                        obtain ⟨v39, rfl, h40⟩ := h37
                        refine TL.v (ltb rfl) (rv_fa (b := b34) (o := o35) fa_131_1 rfl) ?_
                        refine TL.v (ltb rfl) (rv_ld (v := v39) (o := o35 + 1) (o' := o35) (j := 1) sc_22 rfl Src.H h38 rfl rfl) ?_
                        refine TL.v (ltb rfl) (rv_lenI (v := v39) Try.underlying22 rfl h40) ?_
                        refine TL.v (ltb rfl) (rv_gtr (k := .i64) (m := (len x33.args)) (n := 300) rfl rfl) ?_
                        refine TL.nil ?_
                        refine TC.go hK_169 ?_
                        by_cases hc_171 : (len x33.args) > 300
                        · rw [if_pos hc_171] at hp
                          refine TC.condT (bT hc_171) ?_
                          refine TC.seq fun K_172 hK_173 => ?_
                          refine TC.region ?_
                          refine TL.v (ltb rfl) (rv_as (v := .bool false) rfl) ?_
                          refine TL.nil ?_
                          refine TC.go hK_173 ?_
                          refine TC.ret ?_
                          obtain rfl := ex_ret hp hx_153
                          obtain rfl := ex_ret hr_151 hx_73
                          obtain rfl := ex_ret hr_71 hx_21
                          obtain rfl := Option.some.inj hr_19
                          exact fun w hw => retOk ⟨rfl, rfl⟩ (hw.pick [])
                        · rw [if_neg hc_171] at hp
                          refine TC.condF (bF hc_171) ?_
                          refine TC.skip ?_
                          refine TC.go hK_167 ?_
                          refine TC.region ?_
                          refine TL.v (ltb rfl) (rv_mv (v := .int .i64 x32) h_148) ?_
                          refine TL.v (ltb rfl) (rv_add (k := .i64) (m := x32) (n := 1) rfl rfl) ?_
                          refine TL.v (ltb rfl) (rv_as (v := .int .i64 (w64 (x32 + 1))) rfl) ?_
                          refine TL.nil ?_
                          exact fun w hw => goOk hp ⟨h_143, h_144, h_145, h_146, h_147, rfl, rfl⟩ (hw.pick [0, 0, 0])
                      · rw [if_neg hc_165] at hp
                        refine TC.condF (bF hc_165) ?_
                        refine TC.exit ?_
                        refine fun w hw => hJ_159 _ ?_ ?_ ?_ ?_ (ex_ret hp hx_153) w (hw.pick [0, 0])
                        · exact h_143
                        · exact h_144
                        · exact h_145
                        · exact h_146
                    refine TC.pk' [1, 1, 0] (L' := [bx b4 90 [v2], bx b16 25 [.int .i64 x6.params, .int .i64 x6.result, v12, v14], bx b30 85 [v24, v26, .int .i64 x18.term.kind, .int .i64 x18.term.arg, v28]]) rfl ?_
                    refine TC.loopW (r := z_129) (fun (x31 : Int) (e_122 : Env) (L_190 : List FP) => e_122 1 = .pointer (some ⟨b4, 0, none⟩) ∧ e_122 3 = .int .i64 x5 ∧ e_122 4 = .pointer (some ⟨b16, 0, none⟩) ∧ e_122 5 = .int .i64 x17 ∧ e_122 6 = .pointer (some ⟨b30, 0, none⟩) ∧ e_122 7 = .int .i64 x31 ∧ L_190 = [bx b4 90 [v2], bx b16 25 [.int .i64 x6.params, .int .i64 x6.result, v12, v14], bx b30 85 [v24, v26, .int .i64 x18.term.kind, .int .i64 x18.term.arg, v28]]) ?_ FUEL _ _ _ hz_130 ⟨h_109, h_110, h_111, h_112, h_113, rfl, rfl⟩
                    rintro x31 e_122 L_190 ⟨h_123, h_124, h_125, h_126, h_127, h_128, rfl⟩ x_132 hp hx_133
                    replace hp : fettleref02_Small.bd133 x18 x31 = some x_132 := hp
                    unfold fettleref02_Small.bd133 at hp
                    refine TC.seq fun K_177 hK_178 => ?_
                    refine TC.seq fun K_179 hK_180 => ?_
                    refine TC.region ?_
                    refine TL.v (ltb rfl) (rv_mv (v := .int .i64 x31) h_128) ?_
                    refine TL.v (ltb rfl) (rv_fa (b := b30) (o := 0) fa_85_1 h_127) ?_
                    refine TL.v (ltb rfl) (rv_ld (v := v26) (o := 1) (o' := 0) (j := 1) sc_83 rfl (Src.at_ 2 rfl) (bx_cells b30 85 _) rfl rfl) ?_
                    refine TL.v (ltb rfl) (rv_lenI (v := v26) Try.underlying83 rfl h27) ?_
                    refine TL.v (ltb rfl) (rv_lss (k := .i64) (m := x31) (n := (len x18.ins)) rfl rfl) ?_
                    refine TL.nil ?_
                    refine TC.go hK_180 ?_
                    by_cases hc_181 : x31 < (len x18.ins)
                    · rw [if_pos hc_181] at hp
                      refine TC.condT (bT hc_181) ?_
                      refine TC.skip ?_
                      refine TC.go hK_178 ?_
                      refine TC.seq fun K_182 hK_183 => ?_
                      refine TC.block ?_
                      refine TC.seq fun K_184 hK_185 => ?_
                      refine TC.region ?_
                      refine TL.v (ltb rfl) (rv_fa (b := b30) (o := 0) fa_85_1 h_127) ?_
                      refine TL.v (ltb rfl) (rv_ld (v := v26) (o := 1) (o' := 0) (j := 1) sc_83 rfl (Src.at_ 2 rfl) (bx_cells b30 85 _) rfl rfl) ?_
                      refine TL.v (ltb rfl) (rv_mv (v := .int .i64 x31) h_128) ?_
                      obtain ⟨x41, hx_186, hp⟩ := bind_some' hp
                      refine TL.v3 (ltb rfl) (rv_ix 83 (.tmp 77) (.tmp 78) (v := v26) (i := x31) Try.underlying83 inf_87 rfl rfl rfl h27 hx_186) fun b42 o43 c44 h45 h46 => ?_
                      obtain ⟨v47, rfl, h48⟩ := h45
                      refine TL.v (ltb rfl) (rv_fa (b := b42) (o := o43) fa_87_2 rfl) ?_
                      refine TL.v (ltb rfl) (rv_ld (v := v47) (o := o43 + 2) (o' := o43) (j := 2) sc_22 rfl Src.H h46 rfl rfl) ?_
                      refine TL.v (ltb rfl) (rv_lenI (v := v47) Try.underlying22 rfl h48) ?_
                      refine TL.v (ltb rfl) (rv_gtr (k := .i64) (m := (len x41.args)) (n := 300) rfl rfl) ?_
                      refine TL.nil ?_
                      refine TC.go hK_185 ?_
                      by_cases hc_187 : (len x41.args) > 300
                      · rw [if_pos hc_187] at hp
                        refine TC.condT (bT hc_187) ?_
                        refine TC.seq fun K_188 hK_189 => ?_
                        refine TC.region ?_
                        refine TL.v (ltb rfl) (rv_as (v := .bool false) rfl) ?_
                        refine TL.nil ?_
                        refine TC.go hK_189 ?_
                        refine TC.ret ?_
                        obtain rfl := ex_ret hp hx_133
                        obtain rfl := ex_ret hr_131 hx_73
                        obtain rfl := ex_ret hr_71 hx_21
                        obtain rfl := Option.some.inj hr_19
                        exact fun w hw => retOk ⟨rfl, rfl⟩ (hw.pick [])
                      · rw [if_neg hc_187] at hp
                        refine TC.condF (bF hc_187) ?_
                        refine TC.skip ?_
                        refine TC.go hK_183 ?_
                        refine TC.region ?_
                        refine TL.v (ltb rfl) (rv_mv (v := .int .i64 x31) h_128) ?_
                        refine TL.v (ltb rfl) (rv_add (k := .i64) (m := x31) (n := 1) rfl rfl) ?_
                        refine TL.v (ltb rfl) (rv_as (v := .int .i64 (w64 (x31 + 1))) rfl) ?_
                        refine TL.nil ?_
                        exact fun w hw => goOk hp ⟨h_123, h_124, h_125, h_126, h_127, rfl, rfl⟩ (hw.pick [0, 0, 0])
                    · rw [if_neg hc_181] at hp
                      refine TC.condF (bF hc_181) ?_
                      refine TC.exit ?_
                      refine fun w hw => hJ_175 _ ?_ ?_ ?_ ?_ ?_ (ex_ret hp hx_133) w (hw.pick [0, 0, 0])
                      · exact h_123
                      · exact h_124
                      · exact h_125
                      · exact h_126
                      · exact h_127
                by_cases hc_107 : (len x18.ins) > 300 ∨ (len x18.phis) > 300
                · refine TL.gno true rfl (fun d hd => by cases hd; exact ltb rfl) (yieldE_of rfl (bT hc_107)) rfl ?_
                  refine TL.gno true rfl (fun d hd => by cases hd; exact ltb rfl) (yieldE_of rfl (bT hc_107)) rfl ?_
                  refine TL.gno true rfl (fun d hd => by cases hd; exact ltb rfl) (yieldE_of rfl (bT hc_107)) rfl ?_
                  refine TL.gno true rfl (fun d hd => by cases hd; exact ltb rfl) (yieldE_of rfl (bT hc_107)) rfl ?_
                  refine TL.gno true rfl (fun d hd => by cases hd; exact ltb rfl) (yieldE_of rfl (bT hc_107)) rfl ?_
                  refine TL.v (ltb rfl) (rv_pickT true (bT hc_107) rfl (v := .bool true) rfl) ?_
                  refine TL.nil (hJ_106 _ ?_ ?_ ?_ ?_ ?_ ?_)
                  · exact h_98
                  · exact h_99
                  · exact h_100
                  · exact h_101
                  · exact h_102
                  · exact (bOt hc_107)
                · refine TL.gyes false (yieldE_of rfl (bF hc_107)) rfl ?_
                  refine TL.v (ltb rfl) (rv_fa (b := b30) (o := 0) fa_85_2 h_102) ?_
                  refine TL.gyes false (yieldE_of rfl (bF hc_107)) rfl ?_
                  refine TL.v (ltb rfl) (rv_fa (b := b30) (o := 2) fa_81_2 rfl) ?_
                  refine TL.gyes false (yieldE_of rfl (bF hc_107)) rfl ?_
                  refine TL.v (ltb rfl) (rv_ld (v := v28) (o := 4) (o' := 0) (j := 4) sc_22 rfl (Src.at_ 0 rfl) (bx_cells b30 85 _) rfl rfl) ?_
                  refine TL.gyes false (yieldE_of rfl (bF hc_107)) rfl ?_
                  refine TL.v (ltb rfl) (rv_lenI (v := v28) Try.underlying22 rfl h29) ?_
                  refine TL.gyes false (yieldE_of rfl (bF hc_107)) rfl ?_
                  refine TL.v (ltb rfl) (rv_gtr (k := .i64) (m := (len x18.term.to)) (n := 70) rfl rfl) ?_
                  refine TL.v (ltb rfl) (rv_pickF false (bF hc_107) rfl (v := .bool (decide ((len x18.term.to) > 70))) rfl) ?_
                  refine TL.nil (hJ_106 _ ?_ ?_ ?_ ?_ ?_ ?_)
                  · exact h_98
                  · exact h_99
                  · exact h_100
                  · exact h_101
                  · exact h_102
                  · exact (bOf hc_107)
              by_cases hc_96 : (len x18.ins) > 300
              · refine TL.gno true rfl (fun d hd => by cases hd; exact ltb rfl) (yieldE_of rfl (bT hc_96)) rfl ?_
                refine TL.gno true rfl (fun d hd => by cases hd; exact ltb rfl) (yieldE_of rfl (bT hc_96)) rfl ?_
                refine TL.gno true rfl (fun d hd => by cases hd; exact ltb rfl) (yieldE_of rfl (bT hc_96)) rfl ?_
                refine TL.gno true rfl (fun d hd => by cases hd; exact ltb rfl) (yieldE_of rfl (bT hc_96)) rfl ?_
                refine TL.v (ltb rfl) (rv_pickT true (bT hc_96) rfl (v := .bool true) rfl) ?_
                refine TL.nil (hJ_95 _ ?_ ?_ ?_ ?_ ?_ ?_)
                · exact h_65
                · exact h_66
                · exact h_67
                · exact h_68
                · exact rfl
                · exact (bOt hc_96)
              · refine TL.gyes false (yieldE_of rfl (bF hc_96)) rfl ?_
                refine TL.v (ltb rfl) (rv_fa (b := b30) (o := 0) fa_85_0 rfl) ?_
                refine TL.gyes false (yieldE_of rfl (bF hc_96)) rfl ?_
                refine TL.v (ltb rfl) (rv_ld (v := v24) (o := 0) (o' := 0) (j := 0) sc_82 rfl (Src.at_ 0 rfl) (bx_cells b30 85 _) rfl rfl) ?_
                refine TL.gyes false (yieldE_of rfl (bF hc_96)) rfl ?_
                refine TL.v (ltb rfl) (rv_lenI (v := v24) Try.underlying82 rfl h25) ?_
                refine TL.gyes false (yieldE_of rfl (bF hc_96)) rfl ?_
                refine TL.v (ltb rfl) (rv_gtr (k := .i64) (m := (len x18.phis)) (n := 300) rfl rfl) ?_
                refine TL.v (ltb rfl) (rv_pickF false (bF hc_96) rfl (v := .bool (decide ((len x18.phis) > 300))) rfl) ?_
                refine TL.nil (hJ_95 _ ?_ ?_ ?_ ?_ ?_ ?_)
                · exact h_65
                · exact h_66
                · exact h_67
                · exact h_68
                · exact rfl
                · exact (bOf hc_96)
            · rw [if_neg hc_83] at hp
              refine TC.condF (bF hc_83) ?_
              refine TC.exit ?_
              refine fun w hw => hJ_77 _ ?_ ?_ (ex_ret hp hx_73) w (hw.pick [0])
              · exact h_65
              · exact h_66
        by_cases hc_53 : (len x6.blocks) > 70 ∨ (len x6.regs) > 300
        · refine TL.gno true rfl (fun d hd => by cases hd; exact ltb rfl) (yieldE_of rfl (bT hc_53)) rfl ?_
          refine TL.gno true rfl (fun d hd => by cases hd; exact ltb rfl) (yieldE_of rfl (bT hc_53)) rfl ?_
          refine TL.gno true rfl (fun d hd => by cases hd; exact ltb rfl) (yieldE_of rfl (bT hc_53)) rfl ?_
          refine TL.v (ltb rfl) (rv_pickT true (bT hc_53) rfl (v := .bool true) rfl) ?_
          refine TL.nil (hJ_52 _ ?_ ?_ ?_ ?_)
          · exact h_46
          · exact h_47
          · exact h_48
          · exact (bOt hc_53)
        · refine TL.gyes false (yieldE_of rfl (bF hc_53)) rfl ?_
          refine TL.v (ltb rfl) (rv_fa (b := b16) (o := 0) fa_25_0 h_48) ?_
          refine TL.gyes false (yieldE_of rfl (bF hc_53)) rfl ?_
          refine TL.v (ltb rfl) (rv_ld (v := .int .i64 x6.params) (o := 0) (o' := 0) (j := 0) sc_3 rfl (Src.at_ 0 rfl) (bx_cells b16 25 _) rfl rfl) ?_
          refine TL.gyes false (yieldE_of rfl (bF hc_53)) rfl ?_
          refine TL.v (ltb rfl) (rv_gtr (k := .i64) (m := x6.params) (n := 1000) rfl rfl) ?_
          refine TL.v (ltb rfl) (rv_pickF false (bF hc_53) rfl (v := .bool (decide (x6.params > 1000))) rfl) ?_
          refine TL.nil (hJ_52 _ ?_ ?_ ?_ ?_)
          · exact h_46
          · exact h_47
          · exact h_48
          · exact (bOf hc_53)
      by_cases hc_44 : (len x6.blocks) > 70
      · refine TL.gno true rfl (fun d hd => by cases hd; exact ltb rfl) (yieldE_of rfl (bT hc_44)) rfl ?_
        refine TL.gno true rfl (fun d hd => by cases hd; exact ltb rfl) (yieldE_of rfl (bT hc_44)) rfl ?_
        refine TL.gno true rfl (fun d hd => by cases hd; exact ltb rfl) (yieldE_of rfl (bT hc_44)) rfl ?_
        refine TL.gno true rfl (fun d hd => by cases hd; exact ltb rfl) (yieldE_of rfl (bT hc_44)) rfl ?_
        refine TL.v (ltb rfl) (rv_pickT true (bT hc_44) rfl (v := .bool true) rfl) ?_
        refine TL.nil (hJ_43 _ ?_ ?_ ?_ ?_)
        · exact h_15
        · exact h_16
        · exact rfl
        · exact (bOt hc_44)
      · refine TL.gyes false (yieldE_of rfl (bF hc_44)) rfl ?_
        refine TL.v (ltb rfl) (rv_fa (b := b16) (o := 0) fa_25_2 rfl) ?_
        refine TL.gyes false (yieldE_of rfl (bF hc_44)) rfl ?_
        refine TL.v (ltb rfl) (rv_ld (v := v12) (o := 2) (o' := 0) (j := 2) sc_22 rfl (Src.at_ 0 rfl) (bx_cells b16 25 _) rfl rfl) ?_
        refine TL.gyes false (yieldE_of rfl (bF hc_44)) rfl ?_
        refine TL.v (ltb rfl) (rv_lenI (v := v12) Try.underlying22 rfl h13) ?_
        refine TL.gyes false (yieldE_of rfl (bF hc_44)) rfl ?_
        refine TL.v (ltb rfl) (rv_gtr (k := .i64) (m := (len x6.regs)) (n := 300) rfl rfl) ?_
        refine TL.v (ltb rfl) (rv_pickF false (bF hc_44) rfl (v := .bool (decide ((len x6.regs) > 300))) rfl) ?_
        refine TL.nil (hJ_43 _ ?_ ?_ ?_ ?_)
        · exact h_15
        · exact h_16
        · exact rfl
        · exact (bOf hc_44)
    · rw [if_neg hc_31] at hp
      refine TC.condF (bF hc_31) ?_
      refine TC.exit ?_
      refine fun w hw => hJ_25 _ (ex_ret hp hx_21) w (hw.pick [])

/-! ### fettle/fettlelaw05.small -/
abbrev fettlelaw05_small.R (r : Bool) (v : Value) (A : List FP) : Prop := .bool r = v ∧ A = []
def fettlelaw05_small (a1 : PFunc) : Option Bool :=
  (fettleref02_Small (⟨[a1]⟩ : PModule)).bind fun x8 =>
  some x8
theorem fettlelaw05_small_ok {E : World} {H : FP} {w : World} {a1 : PFunc} {v2 : Value} {v4 : Value} {r : Bool} (h3 : SlI (kInt .i64) H a1.regs v2) (h5 : SlI kBlock H a1.blocks v4) (hp : fettlelaw05_small a1 = some r) (hst : St E H [] w) :
    Fn Try.prog 17 #[.agg #[.int .i64 a1.params, .int .i64 a1.result, v2, v4]] w fun v w' => ∃ A, fettlelaw05_small.R r v A ∧ St E H A w' := by
  refine Fn.body (fn := Try.f17) (args := [.agg #[.int .i64 a1.params, .int .i64 a1.result, v2, v4]]) E H [] [.tmp 2] 7 Try.func17 rfl rfl rfl rfl (leb rfl) hst ?_
  unfold fettlelaw05_small at hp
  refine TC.seq fun K_1 hK_2 => ?_
  refine TC.region ?_
  refine TL.box (cs := [.int .i64 a1.params, .int .i64 a1.result, v2, v4]) (v := .agg #[.int .i64 a1.params, .int .i64 a1.result, v2, v4]) (ltb rfl) rfl rfl fun b6 => ?_
  refine TL.v (ltb rfl) (rv_as (v := .bool false) rfl) ?_
  refine TL.nil ?_
  refine TC.go hK_2 ?_
  refine TC.seq fun K_3 hK_4 => ?_
  refine TC.region ?_
  refine TL.v (ltb rfl) (rv_lda (o := 0) (o' := 0) (j := 0) (ds := [.int .i64 a1.params, .int .i64 a1.result, v2, v4]) ag_25 rfl (Src.at_ 0 rfl) (bx_cells b6 25 _) rfl rfl rfl) ?_
  refine TL.bv (vs := [(0, .agg #[.int .i64 a1.params, .int .i64 a1.result, v2, v4])]) (cs := [.int .i64 a1.params, .int .i64 a1.result, v2, v4]) (pc rfl p0) Try.underlying88 inf_25 (ltb rfl) (by decide) (by decide) (by kernel_rfl) fun b7 => ?_
  refine TL.v (ltb rfl) (rv_bv (vs := [(0, .slice (some ⟨b7, 0, none⟩) 1 1)]) (ds := [.slice (some ⟨b7, 0, none⟩) 1 1]) (pc rfl p0) (fun w => by kernel_rfl)) ?_
  obtain ⟨x8, hy_5, hp⟩ := bind_some' hp
  refine TL.callC (vs := [.agg #[.slice (some ⟨b7, 0, none⟩) 1 1]]) (R := fettleref02_Small.R x8) [] [bx b7 25 [.int .i64 a1.params, .int .i64 a1.result, v2, v4], bx b6 25 [.int .i64 a1.params, .int .i64 a1.result, v2, v4]] rfl cb_48 (ltb rfl) (mc rfl m0) (fun w hw => fettleref02_Small_ok (a1 := (⟨[a1]⟩ : PModule)) ((SlI.lit (k := kFunc) (G := H) (xs := [a1]) b7 25 1 (RepI.cons (k := kFunc) (x := a1) ⟨_, _, rfl, (h3.mono inI), (h5.mono inI)⟩ RepI.nil) rfl rfl (ltb rfl)).mono (subO (subB 0 rfl) subH)) hy_5 hw) fun v A' hR_6 => ?_
  obtain ⟨rfl, rfl⟩ := hR_6
  refine TL.norm (L' := [bx b7 25 [.int .i64 a1.params, .int .i64 a1.result, v2, v4], bx b6 25 [.int .i64 a1.params, .int .i64 a1.result, v2, v4]]) rfl ?_
  refine TL.v (ltb rfl) (rv_as (v := .bool x8) rfl) ?_
  refine TL.nil ?_
  refine TC.go hK_4 ?_
  refine TC.ret ?_
  obtain rfl := Option.some.inj hp
  exact fun w hw => retOk ⟨rfl, rfl⟩ (hw.pick [])

/-! ### fettle/fettleref05.done -/
abbrev fettleref05_done.R (v8 : Value) (r : List Int × List Bool) (v : Value) (A : List FP) : Prop := ∃ (w1 : Value) (G1 : FP) (G2 : FP), w1 = v ∧ A = [G1, G2] ∧ SlO 3 (kInt .i64) r.1 w1 G1 ∧ SlO 4 kBool r.2 v8 G2
def fettleref05_done.nx25 (a6 : Int) (x34 : List Bool) (x37 : List Int) : Option (List Int × List Bool) :=
  (cat x37 [a6]).bind fun x42 =>
  some (x42, x34)
def fettleref05_done.jn48 (x33 : Int) (x46 : List Bool) (x49 : List Int) : Option (Ex (List Bool × List Int) (List Bool × List Int × Int)) :=
  some (.go (x46, x49, (w64 (x33 + 1))))
def fettleref05_done.bd25 (a1 : PFunc) (rec : PFunc → Int → (List Bool) → (List Int) → Option (List Int × List Bool)) (x22 : List Int) (x26 : List Bool) (x29 : List Int) (x33 : Int) : Option (Ex (List Bool × List Int) (List Bool × List Int × Int)) :=
  if x33 < (len x22) then
    (idx x22 x33).bind fun x53 =>
    (idx x26 x53).bind fun x59 =>
    if (!x59) = true then
      (idx x22 x33).bind fun x1266 =>
      (rec a1 x1266 x26 x29).bind fun x2866 =>
      fettleref05_done.jn48 x33 x2866.2 x2866.1
    else
      fettleref05_done.jn48 x33 x26 x29
  else
    some (.ret (x26, x29))
def fettleref05_done.body (rec : PFunc → Int → (List Bool) → (List Int) → Option (List Int × List Bool)) (a1 : PFunc) (a6 : Int) (a7 : List Bool) (a11 : List Int) : Option (List Int × List Bool) :=
  (idx a7 a6).bind fun x16 =>
  (fettleref05_Next a1 a6).bind fun x22 =>
  (whl (fun (s : (List Bool × List Int × Int)) => fettleref05_done.bd25 a1 rec x22 s.1 s.2.1 s.2.2) FUEL ((a7.set (a6).toNat true), a11, 0)).bind fun z =>
  fettleref05_done.nx25 a6 z.1 z.2
theorem fettleref05_done.body_ok {rec : PFunc → Int → (List Bool) → (List Int) → Option (List Int × List Bool)} (hrec : ∀ (E : World) (H : FP) (w : World) (a1 : PFunc) (a6 : Int) (a7 : List Bool) (a11 : List Int) (v2 : Value) (v4 : Value) (v8 : Value) (F9 : FP) (v12 : Value) (F13 : FP) (r : List Int × List Bool) (h3 : SlI (kInt .i64) H a1.regs v2) (h5 : SlI kBlock H a1.blocks v4) (h10 : SlO 4 kBool a7 v8 F9) (h14 : SlO 3 (kInt .i64) a11 v12 F13), rec a1 a6 a7 a11 = some r → St E H [F9, F13] w →
    Fn Try.prog 62 #[.agg #[.int .i64 a1.params, .int .i64 a1.result, v2, v4], .int .i64 a6, v8, v12] w fun v w' => ∃ A, fettleref05_done.R v8 r v A ∧ St E H A w')
    {E : World} {H : FP} {w : World} {a1 : PFunc} {a6 : Int} {a7 : List Bool} {a11 : List Int} {v2 : Value} {v4 : Value} {v8 : Value} {F9 : FP} {v12 : Value} {F13 : FP} {r : List Int × List Bool} (h3 : SlI (kInt .i64) H a1.regs v2) (h5 : SlI kBlock H a1.blocks v4) (h10 : SlO 4 kBool a7 v8 F9) (h14 : SlO 3 (kInt .i64) a11 v12 F13) (hp : fettleref05_done.body rec a1 a6 a7 a11 = some r) (hst : St E H [F9, F13] w) :
    Fn Try.prog 62 #[.agg #[.int .i64 a1.params, .int .i64 a1.result, v2, v4], .int .i64 a6, v8, v12] w fun v w' => ∃ A, fettleref05_done.R v8 r v A ∧ St E H A w' := by
  refine Fn.body (fn := Try.f62) (args := [.agg #[.int .i64 a1.params, .int .i64 a1.result, v2, v4], .int .i64 a6, v8, v12]) E H [F9, F13] [.tmp 8] 43 Try.func62 rfl rfl rfl rfl (leb rfl) hst ?_
  unfold fettleref05_done.body at hp
  refine TC.seq fun K_1 hK_2 => ?_
  refine TC.region ?_
  refine TL.box (cs := [.int .i64 a1.params, .int .i64 a1.result, v2, v4]) (v := .agg #[.int .i64 a1.params, .int .i64 a1.result, v2, v4]) (ltb rfl) rfl rfl fun b15 => ?_
  refine TL.v (ltb rfl) (rv_as (v := .slice none 0 0) rfl) ?_
  refine TL.nil ?_
  refine TC.go hK_2 ?_
  refine TC.seq fun K_3 hK_4 => ?_
  refine TC.region ?_
  refine TL.v (ltb rfl) (rv_mv (v := v8) rfl) ?_
  refine TL.v (ltb rfl) (rv_mv (v := .int .i64 a6) rfl) ?_
  obtain ⟨x16, hx_5, hp⟩ := bind_some' hp
  refine TL.v2 (ltb rfl) (rv_ixO 30 (.tmp 11) (.tmp 12) (v := v8) (i := a6) Try.underlying30 inf_4 rfl rfl rfl h10 (idx_some hx_5).1 (idx_some hx_5).2.1) fun b17 o18 h19 => ?_
  refine TL.pk' [1, 0, 0] (L' := [F9, bx b15 25 [.int .i64 a1.params, .int .i64 a1.result, v2, v4], F13]) rfl ?_
  refine TL.stE0 (ds := [.bool true]) (u := .bool true) (a := true) h10 h19 ms_4 rfl rfl rfl ⟨rfl, rfl⟩ fun F20 h21 => ?_
  refine TL.nil ?_
  refine TC.go hK_4 ?_
  refine TC.seq fun K_6 hK_7 => ?_
  refine TC.region ?_
  refine TL.v (ltb rfl) (rv_lda (o := 0) (o' := 0) (j := 0) (ds := [.int .i64 a1.params, .int .i64 a1.result, v2, v4]) ag_25 rfl (Src.at_ 1 rfl) (bx_cells b15 25 _) rfl rfl rfl) ?_
  refine TL.v (ltb rfl) (rv_mv (v := .int .i64 a6) rfl) ?_
  obtain ⟨x22, hy_8, hp⟩ := bind_some' hp
  refine TL.callC (vs := [.agg #[.int .i64 a1.params, .int .i64 a1.result, v2, v4], .int .i64 a6]) (R := fettleref05_Next.R x22) [] [F20, bx b15 25 [.int .i64 a1.params, .int .i64 a1.result, v2, v4], F13] rfl cb_24 (ltb rfl) (mc rfl (mc rfl m0)) (fun w hw => fettleref05_Next_ok (a1 := a1) (a6 := a6) (h3.mono subH) (h5.mono subH) hy_8 hw) fun v A' hR_9 => ?_
  obtain ⟨v23, F24, rfl, rfl, h25⟩ := hR_9
  refine TL.norm (L' := [F24, F20, bx b15 25 [.int .i64 a1.params, .int .i64 a1.result, v2, v4], F13]) rfl ?_
  refine TL.v (ltb rfl) (rv_as (v := v23) rfl) ?_
  refine TL.nil ?_
  refine TC.go hK_7 ?_
  refine TC.seq fun K_10 hK_11 => ?_
  refine TC.seq fun K_12 hK_13 => ?_
  refine TC.region ?_
  refine TL.v (ltb rfl) (rv_as (v := .int .i64 0) rfl) ?_
  refine TL.nil ?_
  refine TC.go hK_13 ?_
  refine TC.block ?_
  obtain ⟨z_21, hz_22, hr_23⟩ := bind_some' hp
  clear hp
  have hJ_32 : ∀ (x34 : List Bool) (x37 : List Int) (F35 : FP) (v38 : Value) (F39 : FP) (e_26 : Env) (h36 : SlO 4 kBool x34 v8 F35) (h40 : SlO 3 (kInt .i64) x37 v38 F39) (h_27 : e_26 1 = .int .i64 a6) (h_28 : e_26 3 = v38) (hq_33 : (x34, x37) = z_21), ∀ w, St E H [F35, F39] w → K_10 e_26 w := by
    intro x34 x37 F35 v38 F39 e_26 h36 h40 h_27 h_28 hq_33
    subst hq_33
    replace hp : fettleref05_done.nx25 a6 x34 x37 = some r := hr_23
    unfold fettleref05_done.nx25 at hp
    refine TC.go hK_11 ?_
    refine TC.seq fun K_29 hK_30 => ?_
    refine TC.region ?_
    refine TL.v (ltb rfl) (rv_mv (v := v38) h_28) ?_
    refine TL.v (ltb rfl) (rv_mv (v := .int .i64 a6) h_27) ?_
    refine TL.bv (vs := [(0, .int .i64 a6)]) (cs := [.int .i64 a6]) (pc rfl p0) Try.underlying22 inf_3 (ltb rfl) (by decide) (by decide) (by kernel_rfl) fun b41 => ?_
    refine TL.pk' [2, 0, 0] (L' := [F39, bx b41 3 [.int .i64 a6], F35]) rfl ?_
    refine TL.perm (L' := [F39, bx b41 3 [.int .i64 a6], [], F35]) (by simp) ?_
    obtain ⟨x42, hz_31, hp⟩ := bind_some' hp
    refine TL.app Try.underlying22 inf_3 (ltb rfl) rfl (ltb rfl) rfl (leb rfl) rfl rfl h40 (RepL.to (RepL.cons (k := (kInt .i64)) (x := a6) ⟨rfl, rfl⟩ RepL.nil) rfl) rfl rfl hz_31 fun v43 F44 h45 => ?_
    refine TL.v (ltb rfl) (rv_as (v := v43) rfl) ?_
    refine TL.nil ?_
    refine TC.go hK_30 ?_
    refine TC.ret ?_
    obtain rfl := Option.some.inj hp
    exact fun w hw => retOk ⟨v43, F44, F35, rfl, rfl, h45, h36⟩ (hw.pick [0, 0])
  refine TC.pk' [1, 2, 1, 0] (L' := [F20, F13, bx b15 25 [.int .i64 a1.params, .int .i64 a1.result, v2, v4], F24]) rfl ?_
  refine TC.loopW (r := z_21) (fun (s : (List Bool × List Int × Int)) (e_14 : Env) (L_59 : List FP) => ∃ (x26 : List Bool) (x29 : List Int) (x33 : Int) (F27 : FP) (v30 : Value) (F31 : FP), s = (x26, x29, x33) ∧ SlO 4 kBool x26 v8 F27 ∧ SlO 3 (kInt .i64) x29 v30 F31 ∧ e_14 1 = .int .i64 a6 ∧ e_14 2 = v8 ∧ e_14 3 = v30 ∧ e_14 4 = .pointer (some ⟨b15, 0, none⟩) ∧ e_14 9 = v23 ∧ e_14 10 = .int .i64 x33 ∧ L_59 = [F27, F31, bx b15 25 [.int .i64 a1.params, .int .i64 a1.result, v2, v4], F24]) ?_ FUEL _ _ _ hz_22 ⟨(a7.set (a6).toNat true), a11, 0, F20, v12, F13, rfl, h21, h14, rfl, rfl, rfl, rfl, rfl, rfl, rfl⟩
  rintro s e_14 L_59 ⟨x26, x29, x33, F27, v30, F31, rfl, h28, h32, h_15, h_16, h_17, h_18, h_19, h_20, rfl⟩ x_24 hp hx_25
  replace hp : fettleref05_done.bd25 a1 rec x22 x26 x29 x33 = some x_24 := hp
  unfold fettleref05_done.bd25 at hp
  refine TC.seq fun K_34 hK_35 => ?_
  refine TC.seq fun K_36 hK_37 => ?_
  refine TC.region ?_
  refine TL.v (ltb rfl) (rv_mv (v := .int .i64 x33) h_20) ?_
  refine TL.v (ltb rfl) (rv_mv (v := v23) h_19) ?_
  refine TL.v (ltb rfl) (rv_lenI (v := v23) Try.underlying22 rfl h25.ro) ?_
  refine TL.v (ltb rfl) (rv_lss (k := .i64) (m := x33) (n := (len x22)) rfl rfl) ?_
  refine TL.nil ?_
  refine TC.go hK_37 ?_
  by_cases hc_38 : x33 < (len x22)
  · rw [if_pos hc_38] at hp
    refine TC.condT (bT hc_38) ?_
    refine TC.skip ?_
    refine TC.go hK_35 ?_
    refine TC.seq fun K_39 hK_40 => ?_
    have hJ_48 : ∀ (x46 : List Bool) (x49 : List Int) (F47 : FP) (v50 : Value) (F51 : FP) (e_41 : Env) (h48 : SlO 4 kBool x46 v8 F47) (h52 : SlO 3 (kInt .i64) x49 v50 F51) (h_42 : e_41 1 = .int .i64 a6) (h_43 : e_41 2 = v8) (h_44 : e_41 3 = v50) (h_45 : e_41 4 = .pointer (some ⟨b15, 0, none⟩)) (h_46 : e_41 9 = v23) (h_47 : e_41 10 = .int .i64 x33) (hp : fettleref05_done.jn48 x33 x46 x49 = some x_24), ∀ w, St E H [F47, F51, bx b15 25 [.int .i64 a1.params, .int .i64 a1.result, v2, v4], F24] w → K_39 e_41 w := by
      intro x46 x49 F47 v50 F51 e_41 h48 h52 h_42 h_43 h_44 h_45 h_46 h_47 hp
      unfold fettleref05_done.jn48 at hp
      refine TC.go hK_40 ?_
      refine TC.region ?_
      refine TL.v (ltb rfl) (rv_mv (v := .int .i64 x33) h_47) ?_
      refine TL.v (ltb rfl) (rv_add (k := .i64) (m := x33) (n := 1) rfl rfl) ?_
      refine TL.v (ltb rfl) (rv_as (v := .int .i64 (w64 (x33 + 1))) rfl) ?_
      refine TL.nil ?_
      exact fun w hw => goOk hp ⟨x46, x49, (w64 (x33 + 1)), F47, v50, F51, rfl, h48, h52, h_42, h_43, h_44, h_45, h_46, rfl, rfl⟩ (hw.pick [0, 0, 0, 0])
    refine TC.block ?_
    refine TC.seq fun K_49 hK_50 => ?_
    refine TC.region ?_
    refine TL.v (ltb rfl) (rv_mv (v := v8) h_16) ?_
    refine TL.v (ltb rfl) (rv_mv (v := v23) h_19) ?_
    refine TL.v (ltb rfl) (rv_mv (v := .int .i64 x33) h_20) ?_
    obtain ⟨x53, hx_51, hp⟩ := bind_some' hp
    refine TL.v3 (ltb rfl) (rv_ix 22 (.tmp 24) (.tmp 25) (v := v23) (i := x33) Try.underlying22 inf_3 rfl rfl rfl (h25).ro hx_51) fun b54 o55 c56 h57 h58 => ?_
    obtain rfl := h57
    refine TL.v (ltb rfl) (rv_ld (v := .int .i64 x53) (o := o55) (o' := o55) (j := 0) sc_3 rfl (Src.at_ 3 rfl) h58 rfl rfl) ?_
    obtain ⟨x59, hx_52, hp⟩ := bind_some' hp
    refine TL.v3 (ltb rfl) (rv_ix 30 (.tmp 23) (.tmp 27) (v := v8) (i := x53) Try.underlying30 inf_4 rfl rfl rfl (h28).ro hx_52) fun b60 o61 c62 h63 h64 => ?_
    obtain rfl := h63
    refine TL.v (ltb rfl) (rv_ld (v := .bool x59) (o := o61) (o' := o61) (j := 0) sc_4 rfl (Src.at_ 0 rfl) h64 rfl rfl) ?_
    refine TL.v (ltb rfl) (rv_not (b := x59) rfl) ?_
    refine TL.nil ?_
    refine TC.go hK_50 ?_
    by_cases hc_53 : (!x59) = true
    · rw [if_pos hc_53] at hp
      refine TC.condT (bbT hc_53) ?_
      refine TC.held ([bx b15 25 [.int .i64 a1.params, .int .i64 a1.result, v2, v4], F24].flatten ++ H) mix (srcG 2 rfl (srcG 3 rfl srcG0)) ?_
      refine HL.v 0 rfl trivial (by kernel_rfl) (by kernel_rfl) (by kernel_rfl) (ltb rfl) (rv_lda (o := 0) (o' := 0) (j := 0) (ds := [.int .i64 a1.params, .int .i64 a1.result, v2, v4]) ag_25 h_18 (srcInG 0 rfl) (bx_cells b15 25 _) rfl rfl rfl) ?_
      refine HL.v 1 rfl trivial (by kernel_rfl) (by kernel_rfl) (by kernel_rfl) (ltb rfl) (rv_mv (v := v23) h_19) ?_
      refine HL.v 2 rfl trivial (by kernel_rfl) (by kernel_rfl) (by kernel_rfl) (ltb rfl) (rv_mv (v := .int .i64 x33) h_20) ?_
      obtain ⟨x1266, hx_54, hp⟩ := bind_some' hp
      refine HL.w3 3 rfl trivial (by kernel_rfl) (by kernel_rfl) (by kernel_rfl) (ltb rfl) (rv_ix 22 (.tmp 32) (.tmp 33) (v := v23) (i := x33) Try.underlying22 inf_3 rfl rfl rfl (h25).ro hx_54) fun b1267 o1268 c1269 h1270 h1271 => ?_
      obtain rfl := h1270
      refine HL.v 4 rfl trivial (by kernel_rfl) (by kernel_rfl) (by kernel_rfl) (ltb rfl) (rv_ld (v := .int .i64 x1266) (o := o1268) (o' := o1268) (j := 0) sc_3 rfl (srcInG 1 rfl) h1271 rfl rfl) ?_
      refine HL.v 5 rfl trivial (by kernel_rfl) (by kernel_rfl) (by kernel_rfl) (ltb rfl) (rv_mv (v := v8) h_16) ?_
      refine HL.v 6 rfl trivial (by kernel_rfl) (by kernel_rfl) (by kernel_rfl) (ltb rfl) (rv_mv (v := v30) h_17) ?_
      refine HL.one 7 rfl (by kernel_rfl) fun K_55 hK_56 => ?_
      obtain ⟨x2866, hy_57, hp⟩ := bind_some' hp
      refine TL.callC (vs := [.agg #[.int .i64 a1.params, .int .i64 a1.result, v2, v4], .int .i64 x1266, v8, v30]) (R := fettleref05_done.R v8 x2866) [F27, F31] [bx b15 25 [.int .i64 a1.params, .int .i64 a1.result, v2, v4], F24] rfl cb_62 (ltb rfl) (mc rfl (mc rfl (mc rfl (mc rfl m0)))) (fun w hw => hrec _ _ _ a1 x1266 x26 x29 _ _ _ _ _ _ _ (h3.mono subH) (h5.mono subH) h28 h32 hy_57 hw) fun v A' hR_58 => ?_
      obtain ⟨v2867, F2868, F2870, rfl, rfl, h2869, h2871⟩ := hR_58
      refine TL.norm (L' := [F2868, F2870, bx b15 25 [.int .i64 a1.params, .int .i64 a1.result, v2, v4], F24]) rfl ?_
      refine TL.nil (hK_56 _ _ (srcG 2 rfl (srcG 3 rfl srcG0)) ?_)
      refine HL.v 8 rfl trivial (by kernel_rfl) (by kernel_rfl) (by kernel_rfl) (ltb rfl) (rv_as (v := v2867) rfl) ?_
      refine HL.done (by kernel_rfl) ?_
      refine fun w hw => hJ_48 x2866.2 x2866.1 F2870 v2867 F2868 _ h2871 h2869 ?_ ?_ ?_ ?_ ?_ ?_ hp w (hw.pick [1, 0, 0, 0])
      · exact h_15
      · exact h_16
      · exact rfl
      · exact h_18
      · exact h_19
      · exact h_20
    · rw [if_neg hc_53] at hp
      refine TC.condF (bbF hc_53) ?_
      refine TC.skip ?_
      refine fun w hw => hJ_48 x26 x29 F27 v30 F31 _ h28 h32 ?_ ?_ ?_ ?_ ?_ ?_ hp w (hw.pick [0, 0, 0, 0])
      · exact h_15
      · exact h_16
      · exact h_17
      · exact h_18
      · exact h_19
      · exact h_20
  · rw [if_neg hc_38] at hp
    refine TC.condF (bF hc_38) ?_
    refine TC.exit ?_
    refine fun w hw => hJ_32 x26 x29 F27 v30 F31 _ h28 h32 ?_ ?_ (ex_ret hp hx_25) w (hw.pick [0, 0])
    · exact h_15
    · exact h_17
def fettleref05_done.it : Nat → PFunc → Int → (List Bool) → (List Int) → Option (List Int × List Bool)
  | 0 => fun _ _ _ _ => none
  | n + 1 => fettleref05_done.body (fettleref05_done.it n)
theorem fettleref05_done.it_ok (n : Nat) : ∀ (E : World) (H : FP) (w : World) (a1 : PFunc) (a6 : Int) (a7 : List Bool) (a11 : List Int) (v2 : Value) (v4 : Value) (v8 : Value) (F9 : FP) (v12 : Value) (F13 : FP) (r : List Int × List Bool) (h3 : SlI (kInt .i64) H a1.regs v2) (h5 : SlI kBlock H a1.blocks v4) (h10 : SlO 4 kBool a7 v8 F9) (h14 : SlO 3 (kInt .i64) a11 v12 F13), fettleref05_done.it n a1 a6 a7 a11 = some r → St E H [F9, F13] w →
    Fn Try.prog 62 #[.agg #[.int .i64 a1.params, .int .i64 a1.result, v2, v4], .int .i64 a6, v8, v12] w fun v w' => ∃ A, fettleref05_done.R v8 r v A ∧ St E H A w' := by
  induction n with
  | zero => intro E H w a1 a6 a7 a11 v2 v4 v8 F9 v12 F13 r h3 h5 h10 h14 hp; exact absurd hp (by simp [fettleref05_done.it])
  | succ n ih => intro E H w a1 a6 a7 a11 v2 v4 v8 F9 v12 F13 r h3 h5 h10 h14 hp hst; exact fettleref05_done.body_ok ih h3 h5 h10 h14 hp hst
def fettleref05_done (a1 : PFunc) (a6 : Int) (a7 : List Bool) (a11 : List Int) : Option (List Int × List Bool) := fettleref05_done.it FUEL a1 a6 a7 a11
theorem fettleref05_done_ok {E : World} {H : FP} {w : World} {a1 : PFunc} {a6 : Int} {a7 : List Bool} {a11 : List Int} {v2 : Value} {v4 : Value} {v8 : Value} {F9 : FP} {v12 : Value} {F13 : FP} {r : List Int × List Bool} (h3 : SlI (kInt .i64) H a1.regs v2) (h5 : SlI kBlock H a1.blocks v4) (h10 : SlO 4 kBool a7 v8 F9) (h14 : SlO 3 (kInt .i64) a11 v12 F13) (hp : fettleref05_done a1 a6 a7 a11 = some r) (hst : St E H [F9, F13] w) :
    Fn Try.prog 62 #[.agg #[.int .i64 a1.params, .int .i64 a1.result, v2, v4], .int .i64 a6, v8, v12] w fun v w' => ∃ A, fettleref05_done.R v8 r v A ∧ St E H A w' :=
  fettleref05_done.it_ok FUEL _ _ _ _ _ _ _ _ _ _ _ _ _ _ h3 h5 h10 h14 hp hst

/-! ### fettle/fettleref05.Order -/
abbrev fettleref05_Order.R (r : List Int) (v : Value) (A : List FP) : Prop := ∃ (w1 : Value) (G1 : FP), w1 = v ∧ A = [G1] ∧ SlO 3 (kInt .i64) r w1 G1
def fettleref05_Order.nx33  (x2814 : List Int) : Option (List Int) :=
  some x2814
def fettleref05_Order.bd33 (x2010 : List Int × List Bool) (x2809 : List Int) (x2813 : Int) : Option (Ex (List Int) (List Int × Int)) :=
  if x2813 ≥ 0 then
    (idx x2010.1 x2813).bind fun x2818 =>
    (cat x2809 [x2818]).bind fun x2825 =>
    some (.go (x2825, (w64 (x2813 - 1))))
  else
    some (.ret x2809)
def fettleref05_Order (a1 : PFunc) : Option (List Int) :=
  if (len a1.blocks) = 0 then
    some ([] : List Int)
  else
    (mkl (len a1.blocks) false).bind fun x1609 =>
    (fettleref05_done a1 0 x1609 ([] : List Int)).bind fun x2010 =>
    (whl (fun (s : (List Int × Int)) => fettleref05_Order.bd33 x2010 s.1 s.2) FUEL (([] : List Int), (w64 ((len x2010.1) - 1)))).bind fun z =>
    fettleref05_Order.nx33 z
theorem fettleref05_Order_ok {E : World} {H : FP} {w : World} {a1 : PFunc} {v2 : Value} {v4 : Value} {r : List Int} (h3 : SlI (kInt .i64) H a1.regs v2) (h5 : SlI kBlock H a1.blocks v4) (hp : fettleref05_Order a1 = some r) (hst : St E H [] w) :
    Fn Try.prog 23 #[.agg #[.int .i64 a1.params, .int .i64 a1.result, v2, v4]] w fun v w' => ∃ A, fettleref05_Order.R r v A ∧ St E H A w' := by
  refine Fn.body (fn := Try.f23) (args := [.agg #[.int .i64 a1.params, .int .i64 a1.result, v2, v4]]) E H [] [.tmp 2] 31 Try.func23 rfl rfl rfl rfl (leb rfl) hst ?_
  unfold fettleref05_Order at hp
  refine TC.seq fun K_1 hK_2 => ?_
  refine TC.region ?_
  refine TL.box (cs := [.int .i64 a1.params, .int .i64 a1.result, v2, v4]) (v := .agg #[.int .i64 a1.params, .int .i64 a1.result, v2, v4]) (ltb rfl) rfl rfl fun b6 => ?_
  refine TL.v (ltb rfl) (rv_as (v := .slice none 0 0) rfl) ?_
  refine TL.nil ?_
  refine TC.go hK_2 ?_
  refine TC.seq fun K_3 hK_4 => ?_
  refine TC.seq fun K_5 hK_6 => ?_
  refine TC.region ?_
  refine TL.v (ltb rfl) (rv_fa (b := b6) (o := 0) fa_25_3 rfl) ?_
  refine TL.v (ltb rfl) (rv_ld (v := v4) (o := 3) (o' := 0) (j := 3) sc_23 rfl (Src.at_ 0 rfl) (bx_cells b6 25 _) rfl rfl) ?_
  refine TL.v (ltb rfl) (rv_lenI (v := v4) Try.underlying23 rfl h5) ?_
  refine TL.v (ltb rfl) (rv_eql (k := .i64) (m := (len a1.blocks)) (n := 0) rfl rfl) ?_
  refine TL.nil ?_
  refine TC.go hK_6 ?_
  by_cases hc_7 : (len a1.blocks) = 0
  · rw [if_pos hc_7] at hp
    refine TC.condT (bT hc_7) ?_
    refine TC.seq fun K_8 hK_9 => ?_
    refine TC.region ?_
    refine TL.v (ltb rfl) (rv_as (v := .slice none 0 0) rfl) ?_
    refine TL.nil ?_
    refine TC.go hK_9 ?_
    refine TC.ret ?_
    refine W.new0 ?_
    obtain rfl := Option.some.inj hp
    exact fun w hw => retOk ⟨(.slice none 0 0), ([] : FP), rfl, rfl, (SlO.nil 3)⟩ (hw.pick [0])
  · rw [if_neg hc_7] at hp
    refine TC.condF (bF hc_7) ?_
    refine TC.skip ?_
    refine TC.go hK_4 ?_
    refine TC.seq fun K_10 hK_11 => ?_
    refine TC.held ([bx b6 25 [.int .i64 a1.params, .int .i64 a1.result, v2, v4]].flatten ++ H) mix (srcG 0 rfl srcG0) ?_
    refine HL.v 0 rfl trivial (by kernel_rfl) (by kernel_rfl) (by kernel_rfl) (ltb rfl) (rv_lda (o := 0) (o' := 0) (j := 0) (ds := [.int .i64 a1.params, .int .i64 a1.result, v2, v4]) ag_25 rfl (srcInG 0 rfl) (bx_cells b6 25 _) rfl rfl rfl) ?_
    refine HL.v 1 rfl trivial (by kernel_rfl) (by kernel_rfl) (by kernel_rfl) (ltb rfl) (rv_fa (b := b6) (o := 0) fa_25_3 rfl) ?_
    refine HL.v 2 rfl trivial (by kernel_rfl) (by kernel_rfl) (by kernel_rfl) (ltb rfl) (rv_ld (v := v4) (o := 3) (o' := 0) (j := 3) sc_23 rfl (srcInG 0 rfl) (bx_cells b6 25 _) rfl rfl) ?_
    refine HL.v 3 rfl trivial (by kernel_rfl) (by kernel_rfl) (by kernel_rfl) (ltb rfl) (rv_lenI (v := v4) Try.underlying23 rfl h5) ?_
    refine HL.one 4 rfl (by kernel_rfl) fun K_12 hK_13 => ?_
    obtain ⟨x1609, hz_14, hp⟩ := bind_some' hp
    refine TL.mk (k := kBool) (n := (len a1.blocks)) (x0 := false) Try.underlying30 inf_4 (ltb rfl) (ltb rfl) rfl rfl (leb rfl) rfl ⟨rfl, rfl⟩ hz_14 fun v1610 F1611 h1612 => ?_
    refine TL.nil (hK_13 _ _ (srcG 1 rfl srcG0) ?_)
    refine HL.one 5 rfl (by kernel_rfl) fun K_15 hK_16 => ?_
    refine TL.new0 ?_
    refine TL.pk' [1, 0, 0] (L' := [F1611, ([] : FP), bx b6 25 [.int .i64 a1.params, .int .i64 a1.result, v2, v4]]) rfl ?_
    obtain ⟨x2010, hy_17, hp⟩ := bind_some' hp
    refine TL.callC (vs := [.agg #[.int .i64 a1.params, .int .i64 a1.result, v2, v4], .int .i64 0, v1610, (.slice none 0 0)]) (R := fettleref05_done.R v1610 x2010) [F1611, ([] : FP)] [bx b6 25 [.int .i64 a1.params, .int .i64 a1.result, v2, v4]] rfl cb_62 (ltb rfl) (mc rfl (mc rfl (mc rfl (mc rfl m0)))) (fun w hw => fettleref05_done_ok (a1 := a1) (a6 := 0) (a7 := x1609) (a11 := ([] : List Int)) (h3.mono subH) (h5.mono subH) h1612 (SlO.nil 3) hy_17 hw) fun v A' hR_18 => ?_
    obtain ⟨v2011, F2012, F2014, rfl, rfl, h2013, h2015⟩ := hR_18
    refine TL.norm (L' := [F2012, F2014, bx b6 25 [.int .i64 a1.params, .int .i64 a1.result, v2, v4]]) rfl ?_
    refine TL.nil (hK_16 _ _ (srcG 2 rfl srcG0) ?_)
    refine HL.v 6 rfl trivial (by kernel_rfl) (by kernel_rfl) (by kernel_rfl) (ltb rfl) (rv_as (v := v2011) rfl) ?_
    refine HL.done (by kernel_rfl) ?_
    refine TC.go hK_11 ?_
    refine TC.seq fun K_19 hK_20 => ?_
    refine TC.region ?_
    refine TL.v (ltb rfl) (rv_as (v := .slice none 0 0) rfl) ?_
    refine TL.nil ?_
    refine TC.go hK_20 ?_
    refine TC.seq fun K_21 hK_22 => ?_
    refine TC.seq fun K_23 hK_24 => ?_
    refine TC.region ?_
    refine TL.v (ltb rfl) (rv_mv (v := v2011) rfl) ?_
    refine TL.v (ltb rfl) (rv_lenI (v := v2011) Try.underlying22 rfl h2013.ro) ?_
    refine TL.v (ltb rfl) (rv_sub (k := .i64) (m := (len x2010.1)) (n := 1) rfl rfl) ?_
    refine TL.v (ltb rfl) (rv_as (v := .int .i64 (w64 ((len x2010.1) - 1))) rfl) ?_
    refine TL.nil ?_
    refine TC.go hK_24 ?_
    refine TC.block ?_
    obtain ⟨z_29, hz_30, hr_31⟩ := bind_some' hp
    clear hp
    have hJ_38 : ∀ (x2814 : List Int) (v2815 : Value) (F2816 : FP) (e_34 : Env) (h2817 : SlO 3 (kInt .i64) x2814 v2815 F2816) (h_35 : e_34 4 = v2815) (hq_39 : x2814 = z_29), ∀ w, St E H [F2816] w → K_21 e_34 w := by
      intro x2814 v2815 F2816 e_34 h2817 h_35 hq_39
      subst hq_39
      replace hp : fettleref05_Order.nx33 x2814 = some r := hr_31
      unfold fettleref05_Order.nx33 at hp
      refine TC.go hK_22 ?_
      refine TC.seq fun K_36 hK_37 => ?_
      refine TC.region ?_
      refine TL.v (ltb rfl) (rv_mv (v := v2815) h_35) ?_
      refine TL.v (ltb rfl) (rv_as (v := v2815) rfl) ?_
      refine TL.nil ?_
      refine TC.go hK_37 ?_
      refine TC.ret ?_
      obtain rfl := Option.some.inj hp
      exact fun w hw => retOk ⟨v2815, F2816, rfl, rfl, h2817⟩ (hw.pick [0])
    refine W.new0 ?_
    refine TC.pk' [1, 0] (L' := [F2012, ([] : FP)]) rfl ?_
    refine TC.loopW (r := z_29) (fun (s : (List Int × Int)) (e_25 : Env) (L_49 : List FP) => ∃ (x2809 : List Int) (x2813 : Int) (v2810 : Value) (F2811 : FP), s = (x2809, x2813) ∧ SlO 3 (kInt .i64) x2809 v2810 F2811 ∧ e_25 3 = v2011 ∧ e_25 4 = v2810 ∧ e_25 5 = .int .i64 x2813 ∧ L_49 = [F2012, F2811]) ?_ FUEL _ _ _ hz_30 ⟨([] : List Int), (w64 ((len x2010.1) - 1)), (.slice none 0 0), ([] : FP), rfl, (SlO.nil 3), rfl, rfl, rfl, rfl⟩
    rintro s e_25 L_49 ⟨x2809, x2813, v2810, F2811, rfl, h2812, h_26, h_27, h_28, rfl⟩ x_32 hp hx_33
    replace hp : fettleref05_Order.bd33 x2010 x2809 x2813 = some x_32 := hp
    unfold fettleref05_Order.bd33 at hp
    refine TC.seq fun K_40 hK_41 => ?_
    refine TC.seq fun K_42 hK_43 => ?_
    refine TC.region ?_
    refine TL.v (ltb rfl) (rv_mv (v := .int .i64 x2813) h_28) ?_
    refine TL.v (ltb rfl) (rv_geq (k := .i64) (m := x2813) (n := 0) rfl rfl) ?_
    refine TL.nil ?_
    refine TC.go hK_43 ?_
    by_cases hc_44 : x2813 ≥ 0
    · rw [if_pos hc_44] at hp
      refine TC.condT (bT hc_44) ?_
      refine TC.skip ?_
      refine TC.go hK_41 ?_
      refine TC.seq fun K_45 hK_46 => ?_
      refine TC.block ?_
      refine TC.region ?_
      refine TL.v (ltb rfl) (rv_mv (v := v2810) h_27) ?_
      refine TL.v (ltb rfl) (rv_mv (v := v2011) h_26) ?_
      refine TL.v (ltb rfl) (rv_mv (v := .int .i64 x2813) h_28) ?_
      obtain ⟨x2818, hx_47, hp⟩ := bind_some' hp
      refine TL.v3 (ltb rfl) (rv_ix 22 (.tmp 24) (.tmp 25) (v := v2011) (i := x2813) Try.underlying22 inf_3 rfl rfl rfl (h2013).ro hx_47) fun b2819 o2820 c2821 h2822 h2823 => ?_
      obtain rfl := h2822
      refine TL.v (ltb rfl) (rv_ld (v := .int .i64 x2818) (o := o2820) (o' := o2820) (j := 0) sc_3 rfl (Src.at_ 0 rfl) h2823 rfl rfl) ?_
      refine TL.bv (vs := [(0, .int .i64 x2818)]) (cs := [.int .i64 x2818]) (pc rfl p0) Try.underlying22 inf_3 (ltb rfl) (by decide) (by decide) (by kernel_rfl) fun b2824 => ?_
      refine TL.pk' [2, 0, 0] (L' := [F2811, bx b2824 3 [.int .i64 x2818], F2012]) rfl ?_
      refine TL.perm (L' := [F2811, bx b2824 3 [.int .i64 x2818], [], F2012]) (by simp) ?_
      obtain ⟨x2825, hz_48, hp⟩ := bind_some' hp
      refine TL.app Try.underlying22 inf_3 (ltb rfl) rfl (ltb rfl) rfl (leb rfl) rfl rfl h2812 (RepL.to (RepL.cons (k := (kInt .i64)) (x := x2818) ⟨rfl, rfl⟩ RepL.nil) rfl) rfl rfl hz_48 fun v2826 F2827 h2828 => ?_
      refine TL.v (ltb rfl) (rv_as (v := v2826) rfl) ?_
      refine TL.nil ?_
      refine TC.go hK_46 ?_
      refine TC.region ?_
      refine TL.v (ltb rfl) (rv_mv (v := .int .i64 x2813) h_28) ?_
      refine TL.v (ltb rfl) (rv_sub (k := .i64) (m := x2813) (n := 1) rfl rfl) ?_
      refine TL.v (ltb rfl) (rv_as (v := .int .i64 (w64 (x2813 - 1))) rfl) ?_
      refine TL.nil ?_
      exact fun w hw => goOk hp ⟨x2825, (w64 (x2813 - 1)), v2826, F2827, rfl, h2828, h_26, rfl, rfl, rfl⟩ (hw.pick [1, 0])
    · rw [if_neg hc_44] at hp
      refine TC.condF (bF hc_44) ?_
      refine TC.exit ?_
      refine fun w hw => hJ_38 x2809 v2810 F2811 _ h2812 ?_ (ex_ret hp hx_33) w (hw.pick [1])
      · exact h_27

/-! ### fettle/graph.order$1 -/
abbrev graph_order_1.R (b2 : Nat) (b17 : Nat) (r : List Bool × List Int) (v : Value) (A : List FP) : Prop := ∃ (w1 : Value) (G1 : FP) (w2 : Value) (G2 : FP), .tuple #[] = v ∧ A = [bx b2 30 [w1], G1, bx b17 22 [w2], G2] ∧ SlO 4 kBool r.1 w1 G1 ∧ SlO 3 (kInt .i64) r.2 w2 G2
def graph_order_1.nx21 (a1 : Int) (x46 : List Bool) (x50 : List Int) : Option (List Bool × List Int) :=
  (cat x50 [a1]).bind fun x55 =>
  some (x46, x55)
def graph_order_1.jn43 (x45 : Int) (x59 : List Bool) (x63 : List Int) : Option (Ex (List Bool × List Int) (List Bool × List Int × Int)) :=
  some (.go (x59, x63, (w64 (x45 + 1))))
def graph_order_1.bd21 (a9 : List (List Int)) (rec : Int → (List Bool) → (List (List Int)) → (List Int) → Option (List Bool × List Int)) (x29 : List Int) (x37 : List Bool) (x41 : List Int) (x45 : Int) : Option (Ex (List Bool × List Int) (List Bool × List Int × Int)) :=
  if x45 < (len x29) then
    (idx x29 x45).bind fun x67 =>
    (idx x37 x67).bind fun x73 =>
    if (!x73) = true then
      (rec x67 x37 a9 x41).bind fun x79 =>
      graph_order_1.jn43 x45 x79.1 x79.2
    else
      graph_order_1.jn43 x45 x37 x41
  else
    some (.ret (x37, x41))
def graph_order_1.body (rec : Int → (List Bool) → (List (List Int)) → (List Int) → Option (List Bool × List Int)) (a1 : Int) (a3 : List Bool) (a9 : List (List Int)) (a18 : List Int) : Option (List Bool × List Int) :=
  (idx a3 a1).bind fun x23 =>
  (idx a9 a1).bind fun x29 =>
  (whl (fun (s : (List Bool × List Int × Int)) => graph_order_1.bd21 a9 rec x29 s.1 s.2.1 s.2.2) FUEL ((a3.set (a1).toNat true), a18, 0)).bind fun z =>
  graph_order_1.nx21 a1 z.1 z.2
theorem graph_order_1.body_ok {rec : Int → (List Bool) → (List (List Int)) → (List Int) → Option (List Bool × List Int)} (hrec : ∀ (E : World) (H : FP) (w : World) (a1 : Int) (a3 : List Bool) (a9 : List (List Int)) (a18 : List Int) (b2 : Nat) (v4 : Value) (F5 : FP) (b8 : Nat) (o10 : Nat) (v12 : Value) (b14 : Nat) (o15 : Nat) (b17 : Nat) (v19 : Value) (F20 : FP) (r : List Bool × List Int) (h6 : SlO 4 kBool a3 v4 F5) (h11 : CellsIn H b8 o10 [v12]) (h13 : SlI (kSl 3 (kInt .i64)) H a9 v12) (h16 : CellsIn H b14 o15 [.func (.func 86) #[] #[.pointer (some ⟨b2, 0, none⟩), .pointer (some ⟨b8, o10, none⟩), .pointer (some ⟨b14, o15, none⟩), .pointer (some ⟨b17, 0, none⟩)]]) (h21 : SlO 3 (kInt .i64) a18 v19 F20), rec a1 a3 a9 a18 = some r → St E H [bx b2 30 [v4], F5, bx b17 22 [v19], F20] w →
    Fn Try.prog 86 #[.int .i64 a1, .pointer (some ⟨b2, 0, none⟩), .pointer (some ⟨b8, o10, none⟩), .pointer (some ⟨b14, o15, none⟩), .pointer (some ⟨b17, 0, none⟩)] w fun v w' => ∃ A, graph_order_1.R b2 b17 r v A ∧ St E H A w')
    {E : World} {H : FP} {w : World} {a1 : Int} {a3 : List Bool} {a9 : List (List Int)} {a18 : List Int} {b2 : Nat} {v4 : Value} {F5 : FP} {b8 : Nat} {o10 : Nat} {v12 : Value} {b14 : Nat} {o15 : Nat} {b17 : Nat} {v19 : Value} {F20 : FP} {r : List Bool × List Int} (h6 : SlO 4 kBool a3 v4 F5) (h11 : CellsIn H b8 o10 [v12]) (h13 : SlI (kSl 3 (kInt .i64)) H a9 v12) (h16 : CellsIn H b14 o15 [.func (.func 86) #[] #[.pointer (some ⟨b2, 0, none⟩), .pointer (some ⟨b8, o10, none⟩), .pointer (some ⟨b14, o15, none⟩), .pointer (some ⟨b17, 0, none⟩)]]) (h21 : SlO 3 (kInt .i64) a18 v19 F20) (hp : graph_order_1.body rec a1 a3 a9 a18 = some r) (hst : St E H [bx b2 30 [v4], F5, bx b17 22 [v19], F20] w) :
    Fn Try.prog 86 #[.int .i64 a1, .pointer (some ⟨b2, 0, none⟩), .pointer (some ⟨b8, o10, none⟩), .pointer (some ⟨b14, o15, none⟩), .pointer (some ⟨b17, 0, none⟩)] w fun v w' => ∃ A, graph_order_1.R b2 b17 r v A ∧ St E H A w' := by
  refine Fn.body (fn := Try.f86) (args := [.int .i64 a1, .pointer (some ⟨b2, 0, none⟩), .pointer (some ⟨b8, o10, none⟩), .pointer (some ⟨b14, o15, none⟩), .pointer (some ⟨b17, 0, none⟩)]) E H [bx b2 30 [v4], F5, bx b17 22 [v19], F20] [] 33 Try.func86 rfl rfl rfl rfl (leb rfl) hst ?_
  unfold graph_order_1.body at hp
  refine TC.seq fun K_1 hK_2 => ?_
  refine TC.region ?_
  refine TL.v (ltb rfl) (rv_ld (v := v4) (o := 0) (o' := 0) (j := 0) sc_30 rfl (Src.at_ 0 rfl) (bx_cells b2 30 _) rfl rfl) ?_
  refine TL.v (ltb rfl) (rv_mv (v := .int .i64 a1) rfl) ?_
  obtain ⟨x23, hx_3, hp⟩ := bind_some' hp
  refine TL.v2 (ltb rfl) (rv_ixO 30 (.tmp 8) (.tmp 9) (v := v4) (i := a1) Try.underlying30 inf_4 rfl rfl rfl h6 (idx_some hx_3).1 (idx_some hx_3).2.1) fun b24 o25 h26 => ?_
  refine TL.pk' [1, 0, 0, 0] (L' := [F5, bx b2 30 [v4], bx b17 22 [v19], F20]) rfl ?_
  refine TL.stE0 (ds := [.bool true]) (u := .bool true) (a := true) h6 h26 ms_4 rfl rfl rfl ⟨rfl, rfl⟩ fun F27 h28 => ?_
  refine TL.nil ?_
  refine TC.go hK_2 ?_
  refine TC.seq fun K_4 hK_5 => ?_
  refine TC.seq fun K_6 hK_7 => ?_
  refine TC.region ?_
  refine TL.v (ltb rfl) (rv_ld (v := v12) (o := o10) (o' := o10) (j := 0) sc_28 rfl Src.H h11 rfl rfl) ?_
  refine TL.v (ltb rfl) (rv_mv (v := .int .i64 a1) rfl) ?_
  obtain ⟨x29, hx_8, hp⟩ := bind_some' hp
  refine TL.v3 (ltb rfl) (rv_ix 28 (.tmp 11) (.tmp 12) (v := v12) (i := a1) Try.underlying28 inf_22 rfl rfl rfl h13 hx_8) fun b30 o31 c32 h33 h34 => ?_
  obtain ⟨v35, rfl, h36⟩ := h33
  refine TL.v (ltb rfl) (rv_ld (v := v35) (o := o31) (o' := o31) (j := 0) sc_22 rfl Src.H h34 rfl rfl) ?_
  refine TL.v (ltb rfl) (rv_lenI (v := v35) Try.underlying22 rfl h36) ?_
  refine TL.v (ltb rfl) (rv_mv (v := .int .i64 0) rfl) ?_
  refine TL.nil ?_
  refine TC.go hK_7 ?_
  refine TC.block ?_
  obtain ⟨z_17, hz_18, hr_19⟩ := bind_some' hp
  clear hp
  have hJ_26 : ∀ (x46 : List Bool) (x50 : List Int) (v47 : Value) (F48 : FP) (v51 : Value) (F52 : FP) (e_22 : Env) (h49 : SlO 4 kBool x46 v47 F48) (h53 : SlO 3 (kInt .i64) x50 v51 F52) (h_23 : e_22 0 = .int .i64 a1) (h_24 : e_22 4 = .pointer (some ⟨b17, 0, none⟩)) (hq_27 : (x46, x50) = z_17), ∀ w, St E H [bx b2 30 [v47], F48, bx b17 22 [v51], F52] w → K_4 e_22 w := by
    intro x46 x50 v47 F48 v51 F52 e_22 h49 h53 h_23 h_24 hq_27
    subst hq_27
    replace hp : graph_order_1.nx21 a1 x46 x50 = some r := hr_19
    unfold graph_order_1.nx21 at hp
    refine TC.go hK_5 ?_
    refine TC.region ?_
    refine TL.v (ltb rfl) (rv_ld (v := v51) (o := 0) (o' := 0) (j := 0) sc_22 h_24 (Src.at_ 2 rfl) (bx_cells b17 22 _) rfl rfl) ?_
    refine TL.v (ltb rfl) (rv_mv (v := .int .i64 a1) h_23) ?_
    refine TL.bv (vs := [(0, .int .i64 a1)]) (cs := [.int .i64 a1]) (pc rfl p0) Try.underlying22 inf_3 (ltb rfl) (by decide) (by decide) (by kernel_rfl) fun b54 => ?_
    refine TL.pk' [4, 0, 0, 0, 0] (L' := [F52, bx b54 3 [.int .i64 a1], bx b2 30 [v47], F48, bx b17 22 [v51]]) rfl ?_
    refine TL.perm (L' := [F52, bx b54 3 [.int .i64 a1], [], bx b2 30 [v47], F48, bx b17 22 [v51]]) (by simp) ?_
    obtain ⟨x55, hz_25, hp⟩ := bind_some' hp
    refine TL.app Try.underlying22 inf_3 (ltb rfl) rfl (ltb rfl) rfl (leb rfl) rfl rfl h53 (RepL.to (RepL.cons (k := (kInt .i64)) (x := a1) ⟨rfl, rfl⟩ RepL.nil) rfl) rfl rfl hz_25 fun v56 F57 h58 => ?_
    refine TL.stB (ds := [v56]) (o := 0) (cs := [v51]) (b := b17) (u := v56) 3 rfl ms_22 h_24 rfl (SlO.cells h58) (oc (h58).one oc0) (leb rfl) ?_
    refine TL.norm (L' := [F57, bx b2 30 [v47], F48, bx b17 22 [v56]]) rfl ?_
    refine TL.nil ?_
    obtain rfl := Option.some.inj hp
    exact fun w hw => retOk ⟨v47, F48, v56, F57, rfl, rfl, h49, h58⟩ (hw.pick [1, 1, 1, 0])
  refine TC.pk' [1, 0, 0, 0] (L' := [bx b2 30 [v4], F27, bx b17 22 [v19], F20]) rfl ?_
  refine TC.loopW (r := z_17) (fun (s : (List Bool × List Int × Int)) (e_9 : Env) (L_53 : List FP) => ∃ (x37 : List Bool) (x41 : List Int) (x45 : Int) (v38 : Value) (F39 : FP) (v42 : Value) (F43 : FP), s = (x37, x41, x45) ∧ SlO 4 kBool x37 v38 F39 ∧ SlO 3 (kInt .i64) x41 v42 F43 ∧ e_9 0 = .int .i64 a1 ∧ e_9 1 = .pointer (some ⟨b2, 0, none⟩) ∧ e_9 3 = .pointer (some ⟨b14, o15, none⟩) ∧ e_9 4 = .pointer (some ⟨b17, 0, none⟩) ∧ e_9 14 = v35 ∧ e_9 15 = .int .i64 (len x29) ∧ e_9 16 = .int .i64 x45 ∧ L_53 = [bx b2 30 [v38], F39, bx b17 22 [v42], F43]) ?_ FUEL _ _ _ hz_18 ⟨(a3.set (a1).toNat true), a18, 0, v4, F27, v19, F20, rfl, h28, h21, rfl, rfl, rfl, rfl, rfl, rfl, rfl, rfl⟩
  rintro s e_9 L_53 ⟨x37, x41, x45, v38, F39, v42, F43, rfl, h40, h44, h_10, h_11, h_12, h_13, h_14, h_15, h_16, rfl⟩ x_20 hp hx_21
  replace hp : graph_order_1.bd21 a9 rec x29 x37 x41 x45 = some x_20 := hp
  unfold graph_order_1.bd21 at hp
  refine TC.seq fun K_28 hK_29 => ?_
  refine TC.region ?_
  refine TL.v (ltb rfl) (rv_lss (k := .i64) (m := x45) (n := (len x29)) h_16 h_15) ?_
  refine TL.nil ?_
  refine TC.go hK_29 ?_
  refine TC.seq fun K_30 hK_31 => ?_
  by_cases hc_32 : x45 < (len x29)
  · rw [if_pos hc_32] at hp
    refine TC.condT (bT hc_32) ?_
    refine TC.skip ?_
    refine TC.go hK_31 ?_
    refine TC.seq fun K_33 hK_34 => ?_
    have hJ_43 : ∀ (x59 : List Bool) (x63 : List Int) (v60 : Value) (F61 : FP) (v64 : Value) (F65 : FP) (e_35 : Env) (h62 : SlO 4 kBool x59 v60 F61) (h66 : SlO 3 (kInt .i64) x63 v64 F65) (h_36 : e_35 0 = .int .i64 a1) (h_37 : e_35 1 = .pointer (some ⟨b2, 0, none⟩)) (h_38 : e_35 3 = .pointer (some ⟨b14, o15, none⟩)) (h_39 : e_35 4 = .pointer (some ⟨b17, 0, none⟩)) (h_40 : e_35 14 = v35) (h_41 : e_35 15 = .int .i64 (len x29)) (h_42 : e_35 16 = .int .i64 x45) (hp : graph_order_1.jn43 x45 x59 x63 = some x_20), ∀ w, St E H [bx b2 30 [v60], F61, bx b17 22 [v64], F65] w → K_33 e_35 w := by
      intro x59 x63 v60 F61 v64 F65 e_35 h62 h66 h_36 h_37 h_38 h_39 h_40 h_41 h_42 hp
      unfold graph_order_1.jn43 at hp
      refine TC.go hK_34 ?_
      refine TC.region ?_
      refine TL.v (ltb rfl) (rv_add (k := .i64) (m := x45) (n := 1) h_42 rfl) ?_
      refine TL.v (ltb rfl) (rv_mv (v := .int .i64 (w64 (x45 + 1))) rfl) ?_
      refine TL.nil ?_
      exact fun w hw => goOk hp ⟨x59, x63, (w64 (x45 + 1)), v60, F61, v64, F65, rfl, h62, h66, h_36, h_37, h_38, h_39, h_40, h_41, rfl, rfl⟩ (hw.pick [0, 0, 0, 0])
    refine TC.block ?_
    refine TC.seq fun K_44 hK_45 => ?_
    refine TC.region ?_
    obtain ⟨x67, hx_46, hp⟩ := bind_some' hp
    refine TL.v3 (ltb rfl) (rv_ix 22 (.tmp 14) (.tmp 16) (v := v35) (i := x45) Try.underlying22 inf_3 rfl h_14 h_16 h36 hx_46) fun b68 o69 c70 h71 h72 => ?_
    obtain rfl := h71
    refine TL.v (ltb rfl) (rv_ld (v := .int .i64 x67) (o := o69) (o' := o69) (j := 0) sc_3 rfl Src.H h72 rfl rfl) ?_
    refine TL.v (ltb rfl) (rv_as (v := .int .i64 x67) rfl) ?_
    refine TL.nil ?_
    refine TC.go hK_45 ?_
    refine TC.seq fun K_47 hK_48 => ?_
    refine TC.region ?_
    refine TL.v (ltb rfl) (rv_ld (v := v38) (o := 0) (o' := 0) (j := 0) sc_30 h_11 (Src.at_ 0 rfl) (bx_cells b2 30 _) rfl rfl) ?_
    refine TL.v (ltb rfl) (rv_mv (v := .int .i64 x67) rfl) ?_
    obtain ⟨x73, hx_49, hp⟩ := bind_some' hp
    refine TL.v3 (ltb rfl) (rv_ix 30 (.tmp 20) (.tmp 21) (v := v38) (i := x67) Try.underlying30 inf_4 rfl rfl rfl (h40).ro hx_49) fun b74 o75 c76 h77 h78 => ?_
    obtain rfl := h77
    refine TL.v (ltb rfl) (rv_ld (v := .bool x73) (o := o75) (o' := o75) (j := 0) sc_4 rfl (Src.at_ 1 rfl) h78 rfl rfl) ?_
    refine TL.v (ltb rfl) (rv_not (b := x73) rfl) ?_
    refine TL.nil ?_
    refine TC.go hK_48 ?_
    by_cases hc_50 : (!x73) = true
    · rw [if_pos hc_50] at hp
      refine TC.condT (bbT hc_50) ?_
      refine TC.region ?_
      refine TL.v (ltb rfl) (rv_ld (v := .func (.func 86) #[] #[.pointer (some ⟨b2, 0, none⟩), .pointer (some ⟨b8, o10, none⟩), .pointer (some ⟨b14, o15, none⟩), .pointer (some ⟨b17, 0, none⟩)]) (o := o15) (o' := o15) (j := 0) sc_147 h_12 Src.H h16 rfl rfl) ?_
      refine TL.v (ltb rfl) (rv_mv (v := .int .i64 x67) rfl) ?_
      obtain ⟨x79, hy_51, hp⟩ := bind_some' hp
      refine TL.callvC (vs := [.int .i64 x67]) (caps := [.pointer (some ⟨b2, 0, none⟩), .pointer (some ⟨b8, o10, none⟩), .pointer (some ⟨b14, o15, none⟩), .pointer (some ⟨b17, 0, none⟩)]) (R := graph_order_1.R b2 b17 x79) [bx b2 30 [v38], F39, bx b17 22 [v42], F43] [] rfl cb_86 (ltb rfl) rfl (mc rfl m0) (fun w hw => hrec _ _ _ x67 x37 a9 x41 _ _ _ _ _ _ _ _ _ _ _ _ h40 (h11.mono subH) (h13.mono subH) (h16.mono subH) h44 hy_51 hw) fun v A' hR_52 => ?_
      obtain ⟨v80, F81, v83, F84, rfl, rfl, h82, h85⟩ := hR_52
      refine TL.norm (L' := [bx b2 30 [v80], F81, bx b17 22 [v83], F84]) rfl ?_
      refine TL.nil ?_
      refine fun w hw => hJ_43 x79.1 x79.2 v80 F81 v83 F84 _ h82 h85 ?_ ?_ ?_ ?_ ?_ ?_ ?_ hp w (hw.pick [0, 0, 0, 0])
      · exact h_10
      · exact h_11
      · exact h_12
      · exact h_13
      · exact h_14
      · exact h_15
      · exact h_16
    · rw [if_neg hc_50] at hp
      refine TC.condF (bbF hc_50) ?_
      refine TC.skip ?_
      refine fun w hw => hJ_43 x37 x41 v38 F39 v42 F43 _ h40 h44 ?_ ?_ ?_ ?_ ?_ ?_ ?_ hp w (hw.pick [0, 0, 0, 0])
      · exact h_10
      · exact h_11
      · exact h_12
      · exact h_13
      · exact h_14
      · exact h_15
      · exact h_16
  · rw [if_neg hc_32] at hp
    refine TC.condF (bF hc_32) ?_
    refine TC.exit ?_
    refine fun w hw => hJ_26 x37 x41 v38 F39 v42 F43 _ h40 h44 ?_ ?_ (ex_ret hp hx_21) w (hw.pick [0, 0, 0, 0])
    · exact h_10
    · exact h_13
def graph_order_1.it : Nat → Int → (List Bool) → (List (List Int)) → (List Int) → Option (List Bool × List Int)
  | 0 => fun _ _ _ _ => none
  | n + 1 => graph_order_1.body (graph_order_1.it n)
theorem graph_order_1.it_ok (n : Nat) : ∀ (E : World) (H : FP) (w : World) (a1 : Int) (a3 : List Bool) (a9 : List (List Int)) (a18 : List Int) (b2 : Nat) (v4 : Value) (F5 : FP) (b8 : Nat) (o10 : Nat) (v12 : Value) (b14 : Nat) (o15 : Nat) (b17 : Nat) (v19 : Value) (F20 : FP) (r : List Bool × List Int) (h6 : SlO 4 kBool a3 v4 F5) (h11 : CellsIn H b8 o10 [v12]) (h13 : SlI (kSl 3 (kInt .i64)) H a9 v12) (h16 : CellsIn H b14 o15 [.func (.func 86) #[] #[.pointer (some ⟨b2, 0, none⟩), .pointer (some ⟨b8, o10, none⟩), .pointer (some ⟨b14, o15, none⟩), .pointer (some ⟨b17, 0, none⟩)]]) (h21 : SlO 3 (kInt .i64) a18 v19 F20), graph_order_1.it n a1 a3 a9 a18 = some r → St E H [bx b2 30 [v4], F5, bx b17 22 [v19], F20] w →
    Fn Try.prog 86 #[.int .i64 a1, .pointer (some ⟨b2, 0, none⟩), .pointer (some ⟨b8, o10, none⟩), .pointer (some ⟨b14, o15, none⟩), .pointer (some ⟨b17, 0, none⟩)] w fun v w' => ∃ A, graph_order_1.R b2 b17 r v A ∧ St E H A w' := by
  induction n with
  | zero => intro E H w a1 a3 a9 a18 b2 v4 F5 b8 o10 v12 b14 o15 b17 v19 F20 r h6 h11 h13 h16 h21 hp; exact absurd hp (by simp [graph_order_1.it])
  | succ n ih => intro E H w a1 a3 a9 a18 b2 v4 F5 b8 o10 v12 b14 o15 b17 v19 F20 r h6 h11 h13 h16 h21 hp hst; exact graph_order_1.body_ok ih h6 h11 h13 h16 h21 hp hst
def graph_order_1 (a1 : Int) (a3 : List Bool) (a9 : List (List Int)) (a18 : List Int) : Option (List Bool × List Int) := graph_order_1.it FUEL a1 a3 a9 a18
theorem graph_order_1_ok {E : World} {H : FP} {w : World} {a1 : Int} {a3 : List Bool} {a9 : List (List Int)} {a18 : List Int} {b2 : Nat} {v4 : Value} {F5 : FP} {b8 : Nat} {o10 : Nat} {v12 : Value} {b14 : Nat} {o15 : Nat} {b17 : Nat} {v19 : Value} {F20 : FP} {r : List Bool × List Int} (h6 : SlO 4 kBool a3 v4 F5) (h11 : CellsIn H b8 o10 [v12]) (h13 : SlI (kSl 3 (kInt .i64)) H a9 v12) (h16 : CellsIn H b14 o15 [.func (.func 86) #[] #[.pointer (some ⟨b2, 0, none⟩), .pointer (some ⟨b8, o10, none⟩), .pointer (some ⟨b14, o15, none⟩), .pointer (some ⟨b17, 0, none⟩)]]) (h21 : SlO 3 (kInt .i64) a18 v19 F20) (hp : graph_order_1 a1 a3 a9 a18 = some r) (hst : St E H [bx b2 30 [v4], F5, bx b17 22 [v19], F20] w) :
    Fn Try.prog 86 #[.int .i64 a1, .pointer (some ⟨b2, 0, none⟩), .pointer (some ⟨b8, o10, none⟩), .pointer (some ⟨b14, o15, none⟩), .pointer (some ⟨b17, 0, none⟩)] w fun v w' => ∃ A, graph_order_1.R b2 b17 r v A ∧ St E H A w' :=
  graph_order_1.it_ok FUEL _ _ _ _ _ _ _ _ _ _ _ _ _ _ _ _ _ _ _ h6 h11 h13 h16 h21 hp hst

/-! ### slices.Reverse[[]int,int] -/
abbrev slices_Reverse.R (v2 : Value) (r : List Int) (v : Value) (A : List FP) : Prop := ∃ (G1 : FP), .tuple #[] = v ∧ A = [G1] ∧ SlO 3 (kInt .i64) r v2 G1
def slices_Reverse.nx13  (x10 : List Int) : Option (List Int) :=
  some x10
def slices_Reverse.jn28 (x8 : Int) (x9 : Int) (x13 : List Int) : Option (Ex (List Int) (List Int × Int × Int)) :=
  some (.go (x13, (w64 (x8 + 1)), (w64 (x9 - 1))))
def slices_Reverse.bd13  (x5 : List Int) (x8 : Int) (x9 : Int) : Option (Ex (List Int) (List Int × Int × Int)) :=
  if x8 < x9 then
    (idx x5 x9).bind fun x2417 =>
    (idx x5 x8).bind fun x4017 =>
    (idx x5 x8).bind fun x4817 =>
    (idx (x5.set (x8).toNat x2417) x9).bind fun x5617 =>
    slices_Reverse.jn28 x8 x9 ((x5.set (x8).toNat x2417).set (x9).toNat x4017)
  else
    some (.ret x5)
def slices_Reverse (a1 : List Int) : Option (List Int) :=
  (whl (fun (s : (List Int × Int × Int)) => slices_Reverse.bd13 s.1 s.2.1 s.2.2) FUEL (a1, 0, (w64 ((len a1) - 1)))).bind fun z =>
  slices_Reverse.nx13 z
theorem slices_Reverse_ok {E : World} {H : FP} {w : World} {a1 : List Int} {v2 : Value} {F3 : FP} {r : List Int} (h4 : SlO 3 (kInt .i64) a1 v2 F3) (hp : slices_Reverse a1 = some r) (hst : St E H [F3] w) :
    Fn Try.prog 87 #[v2] w fun v w' => ∃ A, slices_Reverse.R v2 r v A ∧ St E H A w' := by
  refine Fn.body (fn := Try.f87) (args := [v2]) E H [F3] [] 28 Try.func87 rfl rfl rfl rfl (leb rfl) hst ?_
  unfold slices_Reverse at hp
  refine TC.seq fun K_1 hK_2 => ?_
  refine TC.region ?_
  refine TL.v (ltb rfl) (rv_mv (v := v2) rfl) ?_
  refine TL.v (ltb rfl) (rv_lenI (v := v2) Try.underlying22 rfl h4.ro) ?_
  refine TL.v (ltb rfl) (rv_sub (k := .i64) (m := (len a1)) (n := 1) rfl rfl) ?_
  refine TL.v (ltb rfl) (rv_as (v := .int .i64 0) rfl) ?_
  refine TL.v (ltb rfl) (rv_as (v := .int .i64 (w64 ((len a1) - 1))) rfl) ?_
  refine TL.nil ?_
  refine TC.go hK_2 ?_
  refine TC.named fun K_3 hK_4 => ?_
  refine TC.block ?_
  obtain ⟨z_9, hz_10, hr_11⟩ := bind_some' hp
  clear hp
  have hJ_15 : ∀ (x10 : List Int) (F11 : FP) (e_14 : Env) (h12 : SlO 3 (kInt .i64) x10 v2 F11) (hq_16 : x10 = z_9), ∀ w, St E H [F11] w → K_3 e_14 w := by
    intro x10 F11 e_14 h12 hq_16
    subst hq_16
    replace hp : slices_Reverse.nx13 x10 = some r := hr_11
    unfold slices_Reverse.nx13 at hp
    refine viaK hK_4 ?_
    obtain rfl := Option.some.inj hp
    exact fun w hw => retOk ⟨F11, rfl, rfl, h12⟩ (hw.pick [0])
  refine TC.pk' [0] (L' := [F3]) rfl ?_
  refine TC.loopW (r := z_9) (fun (s : (List Int × Int × Int)) (e_5 : Env) (L_51 : List FP) => ∃ (x5 : List Int) (x8 : Int) (x9 : Int) (F6 : FP), s = (x5, x8, x9) ∧ SlO 3 (kInt .i64) x5 v2 F6 ∧ e_5 0 = v2 ∧ e_5 2 = .int .i64 x8 ∧ e_5 3 = .int .i64 x9 ∧ L_51 = [F6]) ?_ FUEL _ _ _ hz_10 ⟨a1, 0, (w64 ((len a1) - 1)), F3, rfl, h4, rfl, rfl, rfl, rfl⟩
  rintro s e_5 L_51 ⟨x5, x8, x9, F6, rfl, h7, h_6, h_7, h_8, rfl⟩ x_12 hp hx_13
  replace hp : slices_Reverse.bd13 x5 x8 x9 = some x_12 := hp
  unfold slices_Reverse.bd13 at hp
  refine TC.seq fun K_17 hK_18 => ?_
  refine TC.seq fun K_19 hK_20 => ?_
  refine TC.region ?_
  refine TL.v (ltb rfl) (rv_mv (v := .int .i64 x8) h_7) ?_
  refine TL.v (ltb rfl) (rv_mv (v := .int .i64 x9) h_8) ?_
  refine TL.v (ltb rfl) (rv_lss (k := .i64) (m := x8) (n := x9) rfl rfl) ?_
  refine TL.nil ?_
  refine TC.go hK_20 ?_
  by_cases hc_21 : x8 < x9
  · rw [if_pos hc_21] at hp
    refine TC.condT (bT hc_21) ?_
    refine TC.skip ?_
    refine TC.go hK_18 ?_
    refine TC.seq fun K_22 hK_23 => ?_
    have hJ_28 : ∀ (x13 : List Int) (F14 : FP) (e_24 : Env) (h15 : SlO 3 (kInt .i64) x13 v2 F14) (h_25 : e_24 0 = v2) (h_26 : e_24 2 = .int .i64 x8) (h_27 : e_24 3 = .int .i64 x9) (hp : slices_Reverse.jn28 x8 x9 x13 = some x_12), ∀ w, St E H [F14] w → K_22 e_24 w := by
      intro x13 F14 e_24 h15 h_25 h_26 h_27 hp
      unfold slices_Reverse.jn28 at hp
      refine TC.go hK_23 ?_
      refine TC.region ?_
      refine TL.v (ltb rfl) (rv_mv (v := .int .i64 x8) h_26) ?_
      refine TL.v (ltb rfl) (rv_add (k := .i64) (m := x8) (n := 1) rfl rfl) ?_
      refine TL.v (ltb rfl) (rv_mv (v := .int .i64 x9) h_27) ?_
      refine TL.v (ltb rfl) (rv_sub (k := .i64) (m := x9) (n := 1) rfl rfl) ?_
      refine TL.v (ltb rfl) (rv_as (v := .int .i64 (w64 (x8 + 1))) rfl) ?_
      refine TL.v (ltb rfl) (rv_as (v := .int .i64 (w64 (x9 - 1))) rfl) ?_
      refine TL.nil ?_
      exact fun w hw => goOk hp ⟨x13, (w64 (x8 + 1)), (w64 (x9 - 1)), F14, rfl, h15, h_25, rfl, rfl, rfl⟩ (hw.pick [0])
    refine TC.block ?_
    refine TC.held ([].flatten ++ H) mix srcG0 ?_
    refine HL.v 0 rfl trivial (by kernel_rfl) (by kernel_rfl) (by kernel_rfl) (ltb rfl) (rv_mv (v := v2) h_6) ?_
    refine HL.v 1 rfl trivial (by kernel_rfl) (by kernel_rfl) (by kernel_rfl) (ltb rfl) (rv_mv (v := .int .i64 x8) h_7) ?_
    refine HL.v 2 rfl trivial (by kernel_rfl) (by kernel_rfl) (by kernel_rfl) (ltb rfl) (rv_mv (v := v2) h_6) ?_
    refine HL.v 3 rfl trivial (by kernel_rfl) (by kernel_rfl) (by kernel_rfl) (ltb rfl) (rv_mv (v := .int .i64 x9) h_8) ?_
    refine HL.v 4 rfl trivial (by kernel_rfl) (by kernel_rfl) (by kernel_rfl) (ltb rfl) (rv_mv (v := v2) h_6) ?_
    refine HL.v 5 rfl trivial (by kernel_rfl) (by kernel_rfl) (by kernel_rfl) (ltb rfl) (rv_mv (v := .int .i64 x9) h_8) ?_
    obtain ⟨x2417, hx_29, hp⟩ := bind_some' hp
    refine HL.w3 6 rfl trivial (by kernel_rfl) (by kernel_rfl) (by kernel_rfl) (ltb rfl) (rv_ix 22 (.tmp 18) (.tmp 19) (v := v2) (i := x9) Try.underlying22 inf_3 rfl rfl rfl (h7).ro hx_29) fun b2418 o2419 c2420 h2421 h2422 => ?_
    obtain rfl := h2421
    refine HL.v 8 rfl trivial (by kernel_rfl) (by kernel_rfl) (by kernel_rfl) (ltb rfl) (rv_mv (v := v2) h_6) ?_
    refine HL.v 9 rfl trivial (by kernel_rfl) (by kernel_rfl) (by kernel_rfl) (ltb rfl) (rv_mv (v := .int .i64 x8) h_7) ?_
    obtain ⟨x4017, hx_30, hp⟩ := bind_some' hp
    refine HL.w3 10 rfl trivial (by kernel_rfl) (by kernel_rfl) (by kernel_rfl) (ltb rfl) (rv_ix 22 (.tmp 22) (.tmp 23) (v := v2) (i := x8) Try.underlying22 inf_3 rfl rfl rfl (h7).ro hx_30) fun b4018 o4019 c4020 h4021 h4022 => ?_
    obtain rfl := h4021
    refine HL.all [7, 11] (by kernel_rfl) (by simp) (HL.al ⟨_, rfl, fun K_31 hK_32 => ?_⟩ (HL.al ⟨_, rfl, fun K_41 hK_42 => ?_⟩ HL.al0))
    · refine TL.v (ltb rfl) (rv_ld (v := .int .i64 x2417) (o := o2419) (o' := o2419) (j := 0) sc_3 rfl (Src.at_ 0 rfl) h2422 rfl rfl) ?_
      refine TL.nil (hK_32 _ _ srcG0 ?_)
      refine HL.one 11 rfl (by kernel_rfl) fun K_33 hK_34 => ?_
      refine TL.v (ltb rfl) (rv_ld (v := .int .i64 x4017) (o := o4019) (o' := o4019) (j := 0) sc_3 rfl (Src.at_ 0 rfl) h4022 rfl rfl) ?_
      refine TL.nil (hK_34 _ _ srcG0 ?_)
      obtain ⟨x4817, hx_35, hp⟩ := bind_some' hp
      refine HL.w2 12 rfl trivial (by kernel_rfl) (by kernel_rfl) (by kernel_rfl) (ltb rfl) (rv_ixO 22 (.tmp 14) (.tmp 15) (v := v2) (i := x8) Try.underlying22 inf_3 rfl rfl rfl h7 (idx_some hx_35).1 (idx_some hx_35).2.1) fun b4818 o4819 h4820 => ?_
      refine HL.one 13 rfl (by kernel_rfl) fun K_36 hK_37 => ?_
      refine TL.stE0 (ds := [.int .i64 x2417]) (u := .int .i64 x2417) (a := x2417) h7 h4820 ms_3 rfl rfl rfl ⟨rfl, rfl⟩ fun F5217 h5218 => ?_
      refine TL.nil (hK_37 _ _ srcG0 ?_)
      obtain ⟨x5617, hx_38, hp⟩ := bind_some' hp
      refine HL.w2 14 rfl trivial (by kernel_rfl) (by kernel_rfl) (by kernel_rfl) (ltb rfl) (rv_ixO 22 (.tmp 16) (.tmp 17) (v := v2) (i := x9) Try.underlying22 inf_3 rfl rfl rfl h5218 (idx_some hx_38).1 (idx_some hx_38).2.1) fun b5618 o5619 h5620 => ?_
      refine HL.one 15 rfl (by kernel_rfl) fun K_39 hK_40 => ?_
      refine TL.stE0 (ds := [.int .i64 x4017]) (u := .int .i64 x4017) (a := x4017) h5218 h5620 ms_3 rfl rfl rfl ⟨rfl, rfl⟩ fun F6017 h6018 => ?_
      refine TL.nil (hK_40 _ _ srcG0 ?_)
      refine HL.done (by kernel_rfl) ?_
      refine fun w hw => hJ_28 ((x5.set (x8).toNat x2417).set (x9).toNat x4017) F6017 _ h6018 ?_ ?_ ?_ hp w (hw.pick [0])
      · exact h_6
      · exact h_7
      · exact h_8
    · refine TL.v (ltb rfl) (rv_ld (v := .int .i64 x4017) (o := o4019) (o' := o4019) (j := 0) sc_3 rfl (Src.at_ 0 rfl) h4022 rfl rfl) ?_
      refine TL.nil (hK_42 _ _ srcG0 ?_)
      refine HL.one 7 rfl (by kernel_rfl) fun K_43 hK_44 => ?_
      refine TL.v (ltb rfl) (rv_ld (v := .int .i64 x2417) (o := o2419) (o' := o2419) (j := 0) sc_3 rfl (Src.at_ 0 rfl) h2422 rfl rfl) ?_
      refine TL.nil (hK_44 _ _ srcG0 ?_)
      obtain ⟨x4817, hx_45, hp⟩ := bind_some' hp
      refine HL.w2 12 rfl trivial (by kernel_rfl) (by kernel_rfl) (by kernel_rfl) (ltb rfl) (rv_ixO 22 (.tmp 14) (.tmp 15) (v := v2) (i := x8) Try.underlying22 inf_3 rfl rfl rfl h7 (idx_some hx_45).1 (idx_some hx_45).2.1) fun b4818 o4819 h4820 => ?_
      refine HL.one 13 rfl (by kernel_rfl) fun K_46 hK_47 => ?_
      refine TL.stE0 (ds := [.int .i64 x2417]) (u := .int .i64 x2417) (a := x2417) h7 h4820 ms_3 rfl rfl rfl ⟨rfl, rfl⟩ fun F5217 h5218 => ?_
      refine TL.nil (hK_47 _ _ srcG0 ?_)
      obtain ⟨x5617, hx_48, hp⟩ := bind_some' hp
      refine HL.w2 14 rfl trivial (by kernel_rfl) (by kernel_rfl) (by kernel_rfl) (ltb rfl) (rv_ixO 22 (.tmp 16) (.tmp 17) (v := v2) (i := x9) Try.underlying22 inf_3 rfl rfl rfl h5218 (idx_some hx_48).1 (idx_some hx_48).2.1) fun b5618 o5619 h5620 => ?_
      refine HL.one 15 rfl (by kernel_rfl) fun K_49 hK_50 => ?_
      refine TL.stE0 (ds := [.int .i64 x4017]) (u := .int .i64 x4017) (a := x4017) h5218 h5620 ms_3 rfl rfl rfl ⟨rfl, rfl⟩ fun F6017 h6018 => ?_
      refine TL.nil (hK_50 _ _ srcG0 ?_)
      refine HL.done (by kernel_rfl) ?_
      refine fun w hw => hJ_28 ((x5.set (x8).toNat x2417).set (x9).toNat x4017) F6017 _ h6018 ?_ ?_ ?_ hp w (hw.pick [0])
      · exact h_6
      · exact h_7
      · exact h_8
  · rw [if_neg hc_21] at hp
    refine TC.condF (bF hc_21) ?_
    refine TC.exit ?_
    refine fun w hw => hJ_15 x5 F6 _ h7 (ex_ret hp hx_13) w (hw.pick [0])

/-! ### fettle/graph.order -/
abbrev graph_order.R (r : List Int × List Bool) (v : Value) (A : List FP) : Prop := ∃ (w1 : Value) (G1 : FP) (w2 : Value) (G2 : FP), .tuple #[w1, w2] = v ∧ A = [G1, G2] ∧ SlO 3 (kInt .i64) r.1 w1 G1 ∧ SlO 4 kBool r.2 w2 G2
def graph_order.jn21  (x19 : List Bool) (x23 : List Int) : Option (List Int × List Bool) :=
  (slices_Reverse x23).bind fun x27 =>
  some (x27, x19)
def graph_order (a1 : PFunc) : Option (List Int × List Bool) :=
  (graph_Next a1).bind fun x7 =>
  (mkl (len x7) false).bind fun x12 =>
  if (len x7) > 0 then
    (graph_order_1 0 x12 x7 ([] : List Int)).bind fun x31 =>
    graph_order.jn21 x31.1 x31.2
  else
    graph_order.jn21 x12 ([] : List Int)
theorem graph_order_ok {E : World} {H : FP} {w : World} {a1 : PFunc} {v2 : Value} {v4 : Value} {r : List Int × List Bool} (h3 : SlI (kInt .i64) H a1.regs v2) (h5 : SlI kBlock H a1.blocks v4) (hp : graph_order a1 = some r) (hst : St E H [] w) :
    Fn Try.prog 61 #[.agg #[.int .i64 a1.params, .int .i64 a1.result, v2, v4]] w fun v w' => ∃ A, graph_order.R r v A ∧ St E H A w' := by
  refine Fn.body (fn := Try.f61) (args := [.agg #[.int .i64 a1.params, .int .i64 a1.result, v2, v4]]) E H [] [.tmp 2, .tmp 3] 23 Try.func61 rfl rfl rfl rfl (leb rfl) hst ?_
  unfold graph_order at hp
  refine TC.seq fun K_1 hK_2 => ?_
  refine TC.region ?_
  refine TL.box (cs := [.int .i64 a1.params, .int .i64 a1.result, v2, v4]) (v := .agg #[.int .i64 a1.params, .int .i64 a1.result, v2, v4]) (ltb rfl) rfl rfl fun b6 => ?_
  refine TL.v (ltb rfl) (rv_as (v := .slice none 0 0) rfl) ?_
  refine TL.v (ltb rfl) (rv_as (v := .slice none 0 0) rfl) ?_
  refine TL.nil ?_
  refine TC.go hK_2 ?_
  refine TC.seq fun K_3 hK_4 => ?_
  refine TC.region ?_
  refine TL.v (ltb rfl) (rv_lda (o := 0) (o' := 0) (j := 0) (ds := [.int .i64 a1.params, .int .i64 a1.result, v2, v4]) ag_25 rfl (Src.at_ 0 rfl) (bx_cells b6 25 _) rfl rfl rfl) ?_
  obtain ⟨x7, hy_5, hp⟩ := bind_some' hp
  refine TL.callC (vs := [.agg #[.int .i64 a1.params, .int .i64 a1.result, v2, v4]]) (R := graph_Next.R x7) [] [bx b6 25 [.int .i64 a1.params, .int .i64 a1.result, v2, v4]] rfl cb_18 (ltb rfl) (mc rfl m0) (fun w hw => graph_Next_ok (a1 := a1) (h3.mono subH) (h5.mono subH) hy_5 hw) fun v A' hR_6 => ?_
  obtain ⟨v8, F9, rfl, rfl, h10⟩ := hR_6
  refine TL.norm (L' := [F9, bx b6 25 [.int .i64 a1.params, .int .i64 a1.result, v2, v4]]) rfl ?_
  refine TL.alloc (cs := [.slice none 0 0]) inf_28 (ltb rfl) rfl fun b11 => ?_
  refine TL.stB (ds := [v8]) (o := 0) (cs := [.slice none 0 0]) (b := b11) (u := v8) 0 rfl ms_28 rfl rfl (SlO.cells h10) (oc (h10).one oc0) (leb rfl) ?_
  refine TL.norm (L' := [bx b11 28 [v8], F9, bx b6 25 [.int .i64 a1.params, .int .i64 a1.result, v2, v4]]) rfl ?_
  refine TL.nil ?_
  refine TC.go hK_4 ?_
  refine TC.seq fun K_7 hK_8 => ?_
  refine TC.region ?_
  refine TL.v (ltb rfl) (rv_ld (v := v8) (o := 0) (o' := 0) (j := 0) sc_28 rfl (Src.at_ 0 rfl) (bx_cells b11 28 _) rfl rfl) ?_
  refine TL.v (ltb rfl) (rv_lenI (v := v8) Try.underlying28 rfl h10.ro) ?_
  obtain ⟨x12, hz_9, hp⟩ := bind_some' hp
  refine TL.mk (k := kBool) (n := (len x7)) (x0 := false) Try.underlying30 inf_4 (ltb rfl) (ltb rfl) rfl rfl (leb rfl) rfl ⟨rfl, rfl⟩ hz_9 fun v13 F14 h15 => ?_
  refine TL.alloc (cs := [.slice none 0 0]) inf_30 (ltb rfl) rfl fun b16 => ?_
  refine TL.stB (ds := [v13]) (o := 0) (cs := [.slice none 0 0]) (b := b16) (u := v13) 0 rfl ms_30 rfl rfl (SlO.cells h15) (oc (h15).one oc0) (leb rfl) ?_
  refine TL.norm (L' := [bx b16 30 [v13], F14, bx b11 28 [v8], F9, bx b6 25 [.int .i64 a1.params, .int .i64 a1.result, v2, v4]]) rfl ?_
  refine TL.nil ?_
  refine TC.go hK_8 ?_
  refine TC.seq fun K_10 hK_11 => ?_
  refine TC.region ?_
  refine TL.alloc (cs := [.slice none 0 0]) inf_22 (ltb rfl) rfl fun b17 => ?_
  refine TL.nil ?_
  refine TC.go hK_11 ?_
  refine TC.seq fun K_12 hK_13 => ?_
  refine TC.region ?_
  refine TL.alloc (cs := [.nilFunc]) inf_147 (ltb rfl) rfl fun b18 => ?_
  refine TL.nil ?_
  refine TC.go hK_13 ?_
  refine TC.seq fun K_14 hK_15 => ?_
  refine TC.region ?_
  refine TL.v (ltb rfl) (rv_makeFunc (vs := [.pointer (some ⟨b16, 0, none⟩), .pointer (some ⟨b11, 0, none⟩), .pointer (some ⟨b18, 0, none⟩), .pointer (some ⟨b17, 0, none⟩)]) (mc rfl (mc rfl (mc rfl (mc rfl m0))))) ?_
  refine TL.stB (ds := [.func (.func 86) #[] #[.pointer (some ⟨b16, 0, none⟩), .pointer (some ⟨b11, 0, none⟩), .pointer (some ⟨b18, 0, none⟩), .pointer (some ⟨b17, 0, none⟩)]]) (o := 0) (cs := [.nilFunc]) (b := b18) (u := .func (.func 86) #[] #[.pointer (some ⟨b16, 0, none⟩), .pointer (some ⟨b11, 0, none⟩), .pointer (some ⟨b18, 0, none⟩), .pointer (some ⟨b17, 0, none⟩)]) 0 rfl ms_147 rfl rfl rfl (oc rfl oc0) (leb rfl) ?_
  refine TL.norm (L' := [bx b18 147 [.func (.func 86) #[] #[.pointer (some ⟨b16, 0, none⟩), .pointer (some ⟨b11, 0, none⟩), .pointer (some ⟨b18, 0, none⟩), .pointer (some ⟨b17, 0, none⟩)]], bx b17 22 [.slice none 0 0], bx b16 30 [v13], F14, bx b11 28 [v8], F9, bx b6 25 [.int .i64 a1.params, .int .i64 a1.result, v2, v4]]) rfl ?_
  refine TL.nil ?_
  refine TC.go hK_15 ?_
  refine TC.seq fun K_16 hK_17 => ?_
  have hJ_21 : ∀ (x19 : List Bool) (x23 : List Int) (v20 : Value) (F21 : FP) (v24 : Value) (F25 : FP) (e_18 : Env) (h22 : SlO 4 kBool x19 v20 F21) (h26 : SlO 3 (kInt .i64) x23 v24 F25) (h_19 : e_18 5 = .pointer (some ⟨b16, 0, none⟩)) (h_20 : e_18 6 = .pointer (some ⟨b17, 0, none⟩)) (hp : graph_order.jn21 x19 x23 = some r), ∀ w, St E H [bx b16 30 [v20], F21, bx b17 22 [v24], F25] w → K_16 e_18 w := by
    intro x19 x23 v20 F21 v24 F25 e_18 h22 h26 h_19 h_20 hp
    unfold graph_order.jn21 at hp
    refine TC.go hK_17 ?_
    refine TC.seq fun K_22 hK_23 => ?_
    refine TC.region ?_
    refine TL.v (ltb rfl) (rv_ld (v := v24) (o := 0) (o' := 0) (j := 0) sc_22 h_20 (Src.at_ 2 rfl) (bx_cells b17 22 _) rfl rfl) ?_
    refine TL.pk' [3, 0, 0, 0] (L' := [F25, bx b16 30 [v20], F21, bx b17 22 [v24]]) rfl ?_
    obtain ⟨x27, hy_24, hp⟩ := bind_some' hp
    refine TL.callC (vs := [v24]) (R := slices_Reverse.R v24 x27) [F25] [bx b16 30 [v20], F21, bx b17 22 [v24]] rfl cb_87 (ltb rfl) (mc rfl m0) (fun w hw => slices_Reverse_ok (a1 := x23) h26 hy_24 hw) fun v A' hR_25 => ?_
    obtain ⟨F28, rfl, rfl, h29⟩ := hR_25
    refine TL.norm (L' := [F28, bx b16 30 [v20], F21, bx b17 22 [v24]]) rfl ?_
    refine TL.nil ?_
    refine TC.go hK_23 ?_
    refine TC.seq fun K_26 hK_27 => ?_
    refine TC.quiet mix (by kernel_rfl) ?_
    refine QL.v (ltb rfl) (rv_ld (v := v24) (o := 0) (o' := 0) (j := 0) sc_22 h_20 (Src.at_ 3 rfl) (bx_cells b17 22 _) rfl rfl) ?_
    refine QL.v (ltb rfl) (rv_ld (v := v20) (o := 0) (o' := 0) (j := 0) sc_30 h_19 (Src.at_ 1 rfl) (bx_cells b16 30 _) rfl rfl) ?_
    refine QL.v (ltb rfl) (rv_as (v := v24) rfl) ?_
    refine QL.v (ltb rfl) (rv_as (v := v20) rfl) ?_
    refine QL.nil ?_
    refine TC.go hK_27 ?_
    refine TC.ret ?_
    obtain rfl := Option.some.inj hp
    exact fun w hw => retOk ⟨v24, F28, v20, F21, (tu2 rfl rfl).symm, rfl, h29, h22⟩ (hw.pick [0, 1])
  refine TC.seq fun K_28 hK_29 => ?_
  refine TC.region ?_
  refine TL.v (ltb rfl) (rv_ld (v := v8) (o := 0) (o' := 0) (j := 0) sc_28 rfl (Src.at_ 4 rfl) (bx_cells b11 28 _) rfl rfl) ?_
  refine TL.v (ltb rfl) (rv_lenI (v := v8) Try.underlying28 rfl h10.ro) ?_
  refine TL.v (ltb rfl) (rv_gtr (k := .i64) (m := (len x7)) (n := 0) rfl rfl) ?_
  refine TL.nil ?_
  refine TC.go hK_29 ?_
  by_cases hc_30 : (len x7) > 0
  · rw [if_pos hc_30] at hp
    refine TC.condT (bT hc_30) ?_
    refine TC.region ?_
    refine TL.v (ltb rfl) (rv_ld (v := .func (.func 86) #[] #[.pointer (some ⟨b16, 0, none⟩), .pointer (some ⟨b11, 0, none⟩), .pointer (some ⟨b18, 0, none⟩), .pointer (some ⟨b17, 0, none⟩)]) (o := 0) (o' := 0) (j := 0) sc_147 rfl (Src.at_ 0 rfl) (bx_cells b18 147 _) rfl rfl) ?_
    refine TL.new0 ?_
    refine TL.pk' [3, 3, 2, 0, 0, 0, 0, 0] (L' := [bx b16 30 [v13], F14, bx b17 22 [(.slice none 0 0)], ([] : FP), bx b18 147 [.func (.func 86) #[] #[.pointer (some ⟨b16, 0, none⟩), .pointer (some ⟨b11, 0, none⟩), .pointer (some ⟨b18, 0, none⟩), .pointer (some ⟨b17, 0, none⟩)]], bx b11 28 [v8], F9, bx b6 25 [.int .i64 a1.params, .int .i64 a1.result, v2, v4]]) rfl ?_
    obtain ⟨x31, hy_31, hp⟩ := bind_some' hp
    refine TL.callvC (vs := [.int .i64 0]) (caps := [.pointer (some ⟨b16, 0, none⟩), .pointer (some ⟨b11, 0, none⟩), .pointer (some ⟨b18, 0, none⟩), .pointer (some ⟨b17, 0, none⟩)]) (R := graph_order_1.R b16 b17 x31) [bx b16 30 [v13], F14, bx b17 22 [(.slice none 0 0)], ([] : FP)] [bx b18 147 [.func (.func 86) #[] #[.pointer (some ⟨b16, 0, none⟩), .pointer (some ⟨b11, 0, none⟩), .pointer (some ⟨b18, 0, none⟩), .pointer (some ⟨b17, 0, none⟩)]], bx b11 28 [v8], F9, bx b6 25 [.int .i64 a1.params, .int .i64 a1.result, v2, v4]] rfl cb_86 (ltb rfl) rfl (mc rfl m0) (fun w hw => graph_order_1_ok (a1 := 0) (a3 := x12) (a9 := x7) (a18 := ([] : List Int)) h15 ((bx_cells b11 28 _).mono (subB 1 rfl)) (h10.ro.mono (subB 2 rfl)) ((bx_cells b18 147 _).mono (subB 0 rfl)) (SlO.nil 3) hy_31 hw) fun v A' hR_32 => ?_
    obtain ⟨v32, F33, v35, F36, rfl, rfl, h34, h37⟩ := hR_32
    refine TL.norm (L' := [bx b16 30 [v32], F33, bx b17 22 [v35], F36, bx b18 147 [.func (.func 86) #[] #[.pointer (some ⟨b16, 0, none⟩), .pointer (some ⟨b11, 0, none⟩), .pointer (some ⟨b18, 0, none⟩), .pointer (some ⟨b17, 0, none⟩)]], bx b11 28 [v8], F9, bx b6 25 [.int .i64 a1.params, .int .i64 a1.result, v2, v4]]) rfl ?_
    refine TL.nil ?_
    refine fun w hw => hJ_21 x31.1 x31.2 v32 F33 v35 F36 _ h34 h37 ?_ ?_ hp w (hw.pick [0, 0, 0, 0])
    · exact rfl
    · exact rfl
  · rw [if_neg hc_30] at hp
    refine TC.condF (bF hc_30) ?_
    refine TC.skip ?_
    refine W.new0 ?_
    refine fun w hw => hJ_21 x12 ([] : List Int) v13 F14 (.slice none 0 0) ([] : FP) _ h15 (SlO.nil 3) ?_ ?_ hp w (hw.pick [3, 3, 2, 0])
    · exact rfl
    · exact rfl

/-! ### fettle/graph.Reached -/
abbrev graph_Reached.R (r : List Bool) (v : Value) (A : List FP) : Prop := ∃ (w1 : Value) (G1 : FP), w1 = v ∧ A = [G1] ∧ SlO 4 kBool r w1 G1
def graph_Reached (a1 : PFunc) : Option (List Bool) :=
  (graph_order a1).bind fun x7 =>
  some x7.2
theorem graph_Reached_ok {E : World} {H : FP} {w : World} {a1 : PFunc} {v2 : Value} {v4 : Value} {r : List Bool} (h3 : SlI (kInt .i64) H a1.regs v2) (h5 : SlI kBlock H a1.blocks v4) (hp : graph_Reached a1 = some r) (hst : St E H [] w) :
    Fn Try.prog 19 #[.agg #[.int .i64 a1.params, .int .i64 a1.result, v2, v4]] w fun v w' => ∃ A, graph_Reached.R r v A ∧ St E H A w' := by
  refine Fn.body (fn := Try.f19) (args := [.agg #[.int .i64 a1.params, .int .i64 a1.result, v2, v4]]) E H [] [.tmp 2] 11 Try.func19 rfl rfl rfl rfl (leb rfl) hst ?_
  unfold graph_Reached at hp
  refine TC.seq fun K_1 hK_2 => ?_
  refine TC.region ?_
  refine TL.box (cs := [.int .i64 a1.params, .int .i64 a1.result, v2, v4]) (v := .agg #[.int .i64 a1.params, .int .i64 a1.result, v2, v4]) (ltb rfl) rfl rfl fun b6 => ?_
  refine TL.v (ltb rfl) (rv_as (v := .slice none 0 0) rfl) ?_
  refine TL.nil ?_
  refine TC.go hK_2 ?_
  refine TC.seq fun K_3 hK_4 => ?_
  refine TC.region ?_
  refine TL.v (ltb rfl) (rv_lda (o := 0) (o' := 0) (j := 0) (ds := [.int .i64 a1.params, .int .i64 a1.result, v2, v4]) ag_25 rfl (Src.at_ 0 rfl) (bx_cells b6 25 _) rfl rfl rfl) ?_
  obtain ⟨x7, hy_5, hp⟩ := bind_some' hp
  refine TL.callC (vs := [.agg #[.int .i64 a1.params, .int .i64 a1.result, v2, v4]]) (R := graph_order.R x7) [] [bx b6 25 [.int .i64 a1.params, .int .i64 a1.result, v2, v4]] rfl cb_61 (ltb rfl) (mc rfl m0) (fun w hw => graph_order_ok (a1 := a1) (h3.mono subH) (h5.mono subH) hy_5 hw) fun v A' hR_6 => ?_
  obtain ⟨v8, F9, v11, F12, rfl, rfl, h10, h13⟩ := hR_6
  refine TL.norm (L' := [F9, F12, bx b6 25 [.int .i64 a1.params, .int .i64 a1.result, v2, v4]]) rfl ?_
  refine TL.v (ltb rfl) (rv_mv (v := .tuple #[v8, v11]) rfl) ?_
  refine TL.v (ltb rfl) (rv_extract (vs := #[v8, v11]) (v := v8) rfl rfl) ?_
  refine TL.v (ltb rfl) (rv_extract (vs := #[v8, v11]) (v := v11) rfl rfl) ?_
  refine TL.v (ltb rfl) (rv_as (v := v8) rfl) ?_
  refine TL.v (ltb rfl) (rv_as (v := v11) rfl) ?_
  refine TL.nil ?_
  refine TC.go hK_4 ?_
  refine TC.seq fun K_7 hK_8 => ?_
  refine TC.region ?_
  refine TL.v (ltb rfl) (rv_mv (v := v11) rfl) ?_
  refine TL.v (ltb rfl) (rv_as (v := v11) rfl) ?_
  refine TL.nil ?_
  refine TC.go hK_8 ?_
  refine TC.ret ?_
  obtain rfl := Option.some.inj hp
  exact fun w hw => retOk ⟨v11, F12, rfl, rfl, h13⟩ (hw.pick [1])

/-! ### fettle/graph.Order -/
abbrev graph_Order.R (r : List Int) (v : Value) (A : List FP) : Prop := ∃ (w1 : Value) (G1 : FP), w1 = v ∧ A = [G1] ∧ SlO 3 (kInt .i64) r w1 G1
def graph_Order (a1 : PFunc) : Option (List Int) :=
  (graph_order a1).bind fun x7 =>
  some x7.1
theorem graph_Order_ok {E : World} {H : FP} {w : World} {a1 : PFunc} {v2 : Value} {v4 : Value} {r : List Int} (h3 : SlI (kInt .i64) H a1.regs v2) (h5 : SlI kBlock H a1.blocks v4) (hp : graph_Order a1 = some r) (hst : St E H [] w) :
    Fn Try.prog 20 #[.agg #[.int .i64 a1.params, .int .i64 a1.result, v2, v4]] w fun v w' => ∃ A, graph_Order.R r v A ∧ St E H A w' := by
  refine Fn.body (fn := Try.f20) (args := [.agg #[.int .i64 a1.params, .int .i64 a1.result, v2, v4]]) E H [] [.tmp 2] 11 Try.func20 rfl rfl rfl rfl (leb rfl) hst ?_
  unfold graph_Order at hp
  refine TC.seq fun K_1 hK_2 => ?_
  refine TC.region ?_
  refine TL.box (cs := [.int .i64 a1.params, .int .i64 a1.result, v2, v4]) (v := .agg #[.int .i64 a1.params, .int .i64 a1.result, v2, v4]) (ltb rfl) rfl rfl fun b6 => ?_
  refine TL.v (ltb rfl) (rv_as (v := .slice none 0 0) rfl) ?_
  refine TL.nil ?_
  refine TC.go hK_2 ?_
  refine TC.seq fun K_3 hK_4 => ?_
  refine TC.region ?_
  refine TL.v (ltb rfl) (rv_lda (o := 0) (o' := 0) (j := 0) (ds := [.int .i64 a1.params, .int .i64 a1.result, v2, v4]) ag_25 rfl (Src.at_ 0 rfl) (bx_cells b6 25 _) rfl rfl rfl) ?_
  obtain ⟨x7, hy_5, hp⟩ := bind_some' hp
  refine TL.callC (vs := [.agg #[.int .i64 a1.params, .int .i64 a1.result, v2, v4]]) (R := graph_order.R x7) [] [bx b6 25 [.int .i64 a1.params, .int .i64 a1.result, v2, v4]] rfl cb_61 (ltb rfl) (mc rfl m0) (fun w hw => graph_order_ok (a1 := a1) (h3.mono subH) (h5.mono subH) hy_5 hw) fun v A' hR_6 => ?_
  obtain ⟨v8, F9, v11, F12, rfl, rfl, h10, h13⟩ := hR_6
  refine TL.norm (L' := [F9, F12, bx b6 25 [.int .i64 a1.params, .int .i64 a1.result, v2, v4]]) rfl ?_
  refine TL.v (ltb rfl) (rv_mv (v := .tuple #[v8, v11]) rfl) ?_
  refine TL.v (ltb rfl) (rv_extract (vs := #[v8, v11]) (v := v8) rfl rfl) ?_
  refine TL.v (ltb rfl) (rv_extract (vs := #[v8, v11]) (v := v11) rfl rfl) ?_
  refine TL.v (ltb rfl) (rv_as (v := v8) rfl) ?_
  refine TL.v (ltb rfl) (rv_as (v := v11) rfl) ?_
  refine TL.nil ?_
  refine TC.go hK_4 ?_
  refine TC.seq fun K_7 hK_8 => ?_
  refine TC.region ?_
  refine TL.v (ltb rfl) (rv_mv (v := v8) rfl) ?_
  refine TL.v (ltb rfl) (rv_as (v := v8) rfl) ?_
  refine TL.nil ?_
  refine TC.go hK_8 ?_
  refine TC.ret ?_
  obtain rfl := Option.some.inj hp
  exact fun w hw => retOk ⟨v8, F9, rfl, rfl, h10⟩ (hw.pick [0])

/-! ### fettle/fettlelaw05.up -/
abbrev fettlelaw05_up.R (r : Bool) (v : Value) (A : List FP) : Prop := .bool r = v ∧ A = []
def fettlelaw05_up.jn9  (x13 : List PBlock) : Option Bool :=
  (graph_Order (⟨0, 0, [], x13⟩ : PFunc)).bind fun x16 =>
  (if (len x16) = 3 then (idx x16 0).bind fun x35 =>
  some (decide (x35 = 0)) else some false).bind fun t20 =>
  (if t20 = true then (idx x16 1).bind fun x29 =>
  some (decide (x29 = 2)) else some false).bind fun t21 =>
  (if t21 = true then (idx x16 2).bind fun x23 =>
  some (decide (x23 = 1)) else some false).bind fun t22 =>
  some t22
def fettlelaw05_up  : Option Bool :=
  (idx ([(⟨2, 0, [2, 1]⟩ : PTerm), (⟨3, 0, ([] : List Int)⟩ : PTerm), (⟨1, 0, [1]⟩ : PTerm)]) 0).bind fun x442 =>
  (idx ([(⟨2, 0, [2, 1]⟩ : PTerm), (⟨3, 0, ([] : List Int)⟩ : PTerm), (⟨1, 0, [1]⟩ : PTerm)]) 1).bind fun x2042 =>
  (idx ([(⟨2, 0, [2, 1]⟩ : PTerm), (⟨3, 0, ([] : List Int)⟩ : PTerm), (⟨1, 0, [1]⟩ : PTerm)]) 2).bind fun x3642 =>
  fettlelaw05_up.jn9 ([(⟨[], [], (⟨x442.kind, x442.arg, x442.to⟩ : PTerm)⟩ : PBlock), (⟨[], [], (⟨x2042.kind, x2042.arg, x2042.to⟩ : PTerm)⟩ : PBlock), (⟨[], [], (⟨x3642.kind, x3642.arg, x3642.to⟩ : PTerm)⟩ : PBlock)])
theorem fettlelaw05_up_ok {E : World} {H : FP} {w : World} {r : Bool}  (hp : fettlelaw05_up = some r) (hst : St E H [] w) :
    Fn Try.prog 16 #[] w fun v w' => ∃ A, fettlelaw05_up.R r v A ∧ St E H A w' := by
  refine Fn.body (fn := Try.f16) (args := []) E H [] [.tmp 0] 47 Try.func16 rfl rfl rfl rfl (leb rfl) hst ?_
  unfold fettlelaw05_up at hp
  refine TC.seq fun K_1 hK_2 => ?_
  refine TC.region ?_
  refine TL.v (ltb rfl) (rv_as (v := .bool false) rfl) ?_
  refine TL.nil ?_
  refine TC.go hK_2 ?_
  refine TC.seq fun K_3 hK_4 => ?_
  refine TC.region ?_
  refine TL.bv (vs := [(0, .int .i64 2), (1, .int .i64 1)]) (cs := [.int .i64 2, .int .i64 1]) (pc rfl (pc rfl p0)) Try.underlying22 inf_3 (ltb rfl) (by decide) (by decide) (by kernel_rfl) fun b1 => ?_
  refine TL.v (ltb rfl) (rv_bv (vs := [(0, .int .i64 2), (2, .slice (some ⟨b1, 0, none⟩) 2 2)]) (ds := [.int .i64 2, .int .i64 0, .slice (some ⟨b1, 0, none⟩) 2 2]) (pc rfl (pc rfl p0)) (fun w => by kernel_rfl)) ?_
  refine TL.v (ltb rfl) (rv_bv (vs := [(0, .int .i64 3)]) (ds := [.int .i64 3, .int .i64 0, .slice none 0 0]) (pc rfl p0) (fun w => by kernel_rfl)) ?_
  refine TL.bv (vs := [(0, .int .i64 1)]) (cs := [.int .i64 1]) (pc rfl p0) Try.underlying22 inf_3 (ltb rfl) (by decide) (by decide) (by kernel_rfl) fun b2 => ?_
  refine TL.v (ltb rfl) (rv_bv (vs := [(0, .int .i64 1), (2, .slice (some ⟨b2, 0, none⟩) 1 1)]) (ds := [.int .i64 1, .int .i64 0, .slice (some ⟨b2, 0, none⟩) 1 1]) (pc rfl (pc rfl p0)) (fun w => by kernel_rfl)) ?_
  refine TL.bv (vs := [(0, .agg #[.int .i64 2, .int .i64 0, .slice (some ⟨b1, 0, none⟩) 2 2]), (1, .agg #[.int .i64 3, .int .i64 0, .slice none 0 0]), (2, .agg #[.int .i64 1, .int .i64 0, .slice (some ⟨b2, 0, none⟩) 1 1])]) (cs := [.int .i64 2, .int .i64 0, .slice (some ⟨b1, 0, none⟩) 2 2, .int .i64 3, .int .i64 0, .slice none 0 0, .int .i64 1, .int .i64 0, .slice (some ⟨b2, 0, none⟩) 1 1]) (pc rfl (pc rfl (pc rfl p0))) Try.underlying113 inf_81 (ltb rfl) (by decide) (by decide) (by kernel_rfl) fun b3 => ?_
  refine TL.v (ltb rfl) (rv_as (v := .slice (some ⟨b3, 0, none⟩) 3 3) rfl) ?_
  refine TL.nil ?_
  refine W.pk' [2, 0, 0] (L' := [bx b1 3 [.int .i64 2, .int .i64 1], bx b3 81 [.int .i64 2, .int .i64 0, .slice (some ⟨b1, 0, none⟩) 2 2, .int .i64 3, .int .i64 0, .slice none 0 0, .int .i64 1, .int .i64 0, .slice (some ⟨b2, 0, none⟩) 1 1], bx b2 3 [.int .i64 1]]) rfl ?_
  refine W.perm (L' := [bx b1 3 [.int .i64 2, .int .i64 1], [], bx b3 81 [.int .i64 2, .int .i64 0, .slice (some ⟨b1, 0, none⟩) 2 2, .int .i64 3, .int .i64 0, .slice none 0 0, .int .i64 1, .int .i64 0, .slice (some ⟨b2, 0, none⟩) 1 1], bx b2 3 [.int .i64 1]]) (by simp) ?_
  refine W.litOwn (n := 2) (xs := [2, 1]) (RepL.to (RepL.cons (k := (kInt .i64)) (x := 2) ⟨rfl, rfl⟩ (RepL.cons (k := (kInt .i64)) (x := 1) ⟨rfl, rfl⟩ RepL.nil)) rfl) rfl rfl (ltb rfl) fun F4 h5 => ?_
  refine W.new0 ?_
  refine W.pk' [3, 0, 0, 0] (L' := [bx b2 3 [.int .i64 1], ([] : FP), F4, bx b3 81 [.int .i64 2, .int .i64 0, (.slice (some ⟨b1, 0, none⟩) 2 2), .int .i64 3, .int .i64 0, .slice none 0 0, .int .i64 1, .int .i64 0, .slice (some ⟨b2, 0, none⟩) 1 1]]) rfl ?_
  refine W.perm (L' := [bx b2 3 [.int .i64 1], [], ([] : FP), F4, bx b3 81 [.int .i64 2, .int .i64 0, (.slice (some ⟨b1, 0, none⟩) 2 2), .int .i64 3, .int .i64 0, .slice none 0 0, .int .i64 1, .int .i64 0, .slice (some ⟨b2, 0, none⟩) 1 1]]) (by simp) ?_
  refine W.litOwn (n := 1) (xs := [1]) (RepL.to (RepL.cons (k := (kInt .i64)) (x := 1) ⟨rfl, rfl⟩ RepL.nil) rfl) rfl rfl (ltb rfl) fun F7 h8 => ?_
  refine W.pk' [3, 2, 1, 0] (L' := [bx b3 81 [.int .i64 2, .int .i64 0, (.slice (some ⟨b1, 0, none⟩) 2 2), .int .i64 3, .int .i64 0, (.slice none 0 0), .int .i64 1, .int .i64 0, (.slice (some ⟨b2, 0, none⟩) 1 1)], F4, ([] : FP), F7]) rfl ?_
  refine W.perm (L' := [bx b3 81 [.int .i64 2, .int .i64 0, (.slice (some ⟨b1, 0, none⟩) 2 2), .int .i64 3, .int .i64 0, (.slice none 0 0), .int .i64 1, .int .i64 0, (.slice (some ⟨b2, 0, none⟩) 1 1)], F4 ++ (([] : FP) ++ (F7 ++ []))]) (by simp) ?_
  refine W.litOwn (n := 3) (xs := [(⟨2, 0, [2, 1]⟩ : PTerm), (⟨3, 0, ([] : List Int)⟩ : PTerm), (⟨1, 0, [1]⟩ : PTerm)]) (RepL.to (RepL.cons (k := kTerm) (x := (⟨2, 0, [2, 1]⟩ : PTerm)) ⟨_, _, rfl, rfl, h5⟩ (RepL.cons (k := kTerm) (x := (⟨3, 0, ([] : List Int)⟩ : PTerm)) ⟨_, _, rfl, rfl, (SlO.nil 3)⟩ (RepL.cons (k := kTerm) (x := (⟨1, 0, [1]⟩ : PTerm)) ⟨_, _, rfl, rfl, h8⟩ RepL.nil))) rfl) rfl rfl (ltb rfl) fun F9 h10 => ?_
  refine TC.go hK_4 ?_
  refine TC.seq fun K_5 hK_6 => ?_
  have hJ_9 : ∀ (x13 : List PBlock) (b11 : Nat) (F12 : FP) (v14 : Value) (e_7 : Env) (h15 : SlI kBlock (F12 ++ (F9 ++ H)) x13 v14) (h_8 : e_7 2 = .pointer (some ⟨b11, 0, none⟩)) (hp : fettlelaw05_up.jn9 x13 = some r), ∀ w, St E H [bx b11 25 [.int .i64 0, .int .i64 0, .slice none 0 0, v14], F12, F9] w → K_5 e_7 w := by
    intro x13 b11 F12 v14 e_7 h15 h_8 hp
    unfold fettlelaw05_up.jn9 at hp
    refine TC.go hK_6 ?_
    refine TC.seq fun K_10 hK_11 => ?_
    refine TC.region ?_
    refine TL.v (ltb rfl) (rv_lda (o := 0) (o' := 0) (j := 0) (ds := [.int .i64 0, .int .i64 0, .slice none 0 0, v14]) ag_25 h_8 (Src.at_ 0 rfl) (bx_cells b11 25 _) rfl rfl rfl) ?_
    obtain ⟨x16, hy_12, hp⟩ := bind_some' hp
    refine TL.callC (vs := [.agg #[.int .i64 0, .int .i64 0, .slice none 0 0, v14]]) (R := graph_Order.R x16) [] [bx b11 25 [.int .i64 0, .int .i64 0, .slice none 0 0, v14], F12, F9] rfl cb_20 (ltb rfl) (mc rfl m0) (fun w hw => graph_Order_ok (a1 := (⟨0, 0, [], x13⟩ : PFunc)) ((SlI.nil (G := H) none 0).mono subH) (h15.mono (subO (subB 1 rfl) (subO (subB 2 rfl) subH))) hy_12 hw) fun v A' hR_13 => ?_
    obtain ⟨v17, F18, rfl, rfl, h19⟩ := hR_13
    refine TL.norm (L' := [F18, bx b11 25 [.int .i64 0, .int .i64 0, .slice none 0 0, v14], F12, F9]) rfl ?_
    refine TL.v (ltb rfl) (rv_as (v := v17) rfl) ?_
    refine TL.nil ?_
    refine TC.go hK_11 ?_
    refine TC.seq fun K_14 hK_15 => ?_
    refine TC.region ?_
    refine TL.v (ltb rfl) (rv_mv (v := v17) rfl) ?_
    refine TL.v (ltb rfl) (rv_lenI (v := v17) Try.underlying22 rfl h19.ro) ?_
    refine TL.v (ltb rfl) (rv_eql (k := .i64) (m := (len x16)) (n := 3) rfl rfl) ?_
    refine TL.v (ltb rfl) (rv_mv (v := .bool (decide ((len x16) = 3))) rfl) ?_
    obtain ⟨t20, ht_40, hp⟩ := bind_some' hp
    refine TL.cut 5 fun K_16 hK_17 => ?_
    have hJ_18 : ∀ e_20 : Env, e_20 3 = v17 → e_20 34 = .bool t20 → ∀ w, St E H [F18, bx b11 25 [.int .i64 0, .int .i64 0, .slice none 0 0, v14], F12, F9] w → K_16 e_20 w := by
      intro e_20 h_21 h_22
      refine TL.go hK_17 ?_
      refine TL.v (ltb rfl) (rv_mv (v := .bool t20) h_22) ?_
      obtain ⟨t21, ht_38, hp⟩ := bind_some' hp
      refine TL.cut 5 fun K_23 hK_24 => ?_
      have hJ_25 : ∀ e_27 : Env, e_27 3 = v17 → e_27 40 = .bool t21 → ∀ w, St E H [F18, bx b11 25 [.int .i64 0, .int .i64 0, .slice none 0 0, v14], F12, F9] w → K_23 e_27 w := by
        intro e_27 h_28 h_29
        refine TL.go hK_24 ?_
        refine TL.v (ltb rfl) (rv_mv (v := .bool t21) h_29) ?_
        obtain ⟨t22, ht_36, hp⟩ := bind_some' hp
        refine TL.cut 5 fun K_30 hK_31 => ?_
        have hJ_32 : ∀ e_34 : Env, e_34 46 = .bool t22 → ∀ w, St E H [F18, bx b11 25 [.int .i64 0, .int .i64 0, .slice none 0 0, v14], F12, F9] w → K_30 e_34 w := by
          intro e_34 h_35
          refine TL.go hK_31 ?_
          refine TL.v (ltb rfl) (rv_as (v := .bool t22) h_35) ?_
          refine TL.nil ?_
          refine TC.go hK_15 ?_
          refine TC.ret ?_
          obtain rfl := Option.some.inj hp
          exact fun w hw => retOk ⟨rfl, rfl⟩ (hw.pick [])
        clear hp
        have hp := ht_36
        clear ht_36
        by_cases hc_33 : t21 = true
        · rw [if_pos hc_33] at hp
          refine TL.gyes true (yieldE_of rfl (bbT hc_33)) rfl ?_
          refine TL.v (ltb rfl) (rv_mv (v := v17) h_28) ?_
          refine TL.gyes true (yieldE_of rfl (bbT hc_33)) rfl ?_
          obtain ⟨x23, hx_37, hp⟩ := bind_some' hp
          refine TL.v3 (ltb rfl) (rv_ix 22 (.tmp 42) (.const (.int .i64 2)) (v := v17) (i := 2) Try.underlying22 inf_3 rfl rfl rfl (h19).ro hx_37) fun b24 o25 c26 h27 h28 => ?_
          obtain rfl := h27
          refine TL.gyes true (yieldE_of rfl (bbT hc_33)) rfl ?_
          refine TL.v (ltb rfl) (rv_ld (v := .int .i64 x23) (o := o25) (o' := o25) (j := 0) sc_3 rfl (Src.at_ 0 rfl) h28 rfl rfl) ?_
          refine TL.gyes true (yieldE_of rfl (bbT hc_33)) rfl ?_
          refine TL.v (ltb rfl) (rv_eql (k := .i64) (m := x23) (n := 1) rfl rfl) ?_
          refine TL.v (ltb rfl) (rv_pickT true (bbT hc_33) rfl (v := .bool (decide (x23 = 1))) rfl) ?_
          obtain rfl := Option.some.inj hp
          refine TL.nil (hJ_32 _ ?_)
          · exact rfl
        · rw [if_neg hc_33] at hp
          refine TL.gno false rfl (fun d hd => by cases hd; exact ltb rfl) (yieldE_of rfl (bbF hc_33)) rfl ?_
          refine TL.gno false rfl (fun d hd => by cases hd; exact ltb rfl) (yieldE_of rfl (bbF hc_33)) rfl ?_
          refine TL.gno false rfl (fun d hd => by cases hd; exact ltb rfl) (yieldE_of rfl (bbF hc_33)) rfl ?_
          refine TL.gno false rfl (fun d hd => by cases hd; exact ltb rfl) (yieldE_of rfl (bbF hc_33)) rfl ?_
          refine TL.v (ltb rfl) (rv_pickF false (bbF hc_33) rfl (v := .bool false) rfl) ?_
          obtain rfl := Option.some.inj hp
          refine TL.nil (hJ_32 _ ?_)
          · exact rfl
      clear hp
      have hp := ht_38
      clear ht_38
      by_cases hc_26 : t20 = true
      · rw [if_pos hc_26] at hp
        refine TL.gyes true (yieldE_of rfl (bbT hc_26)) rfl ?_
        refine TL.v (ltb rfl) (rv_mv (v := v17) h_21) ?_
        refine TL.gyes true (yieldE_of rfl (bbT hc_26)) rfl ?_
        obtain ⟨x29, hx_39, hp⟩ := bind_some' hp
        refine TL.v3 (ltb rfl) (rv_ix 22 (.tmp 36) (.const (.int .i64 1)) (v := v17) (i := 1) Try.underlying22 inf_3 rfl rfl rfl (h19).ro hx_39) fun b30 o31 c32 h33 h34 => ?_
        obtain rfl := h33
        refine TL.gyes true (yieldE_of rfl (bbT hc_26)) rfl ?_
        refine TL.v (ltb rfl) (rv_ld (v := .int .i64 x29) (o := o31) (o' := o31) (j := 0) sc_3 rfl (Src.at_ 0 rfl) h34 rfl rfl) ?_
        refine TL.gyes true (yieldE_of rfl (bbT hc_26)) rfl ?_
        refine TL.v (ltb rfl) (rv_eql (k := .i64) (m := x29) (n := 2) rfl rfl) ?_
        refine TL.v (ltb rfl) (rv_pickT true (bbT hc_26) rfl (v := .bool (decide (x29 = 2))) rfl) ?_
        obtain rfl := Option.some.inj hp
        refine TL.nil (hJ_25 _ ?_ ?_)
        · exact h_21
        · exact rfl
      · rw [if_neg hc_26] at hp
        refine TL.gno false rfl (fun d hd => by cases hd; exact ltb rfl) (yieldE_of rfl (bbF hc_26)) rfl ?_
        refine TL.gno false rfl (fun d hd => by cases hd; exact ltb rfl) (yieldE_of rfl (bbF hc_26)) rfl ?_
        refine TL.gno false rfl (fun d hd => by cases hd; exact ltb rfl) (yieldE_of rfl (bbF hc_26)) rfl ?_
        refine TL.gno false rfl (fun d hd => by cases hd; exact ltb rfl) (yieldE_of rfl (bbF hc_26)) rfl ?_
        refine TL.v (ltb rfl) (rv_pickF false (bbF hc_26) rfl (v := .bool false) rfl) ?_
        obtain rfl := Option.some.inj hp
        refine TL.nil (hJ_25 _ ?_ ?_)
        · exact h_21
        · exact rfl
    clear hp
    have hp := ht_40
    clear ht_40
    by_cases hc_19 : (len x16) = 3
    · rw [if_pos hc_19] at hp
      refine TL.gyes true (yieldE_of rfl (bT hc_19)) rfl ?_
      refine TL.v (ltb rfl) (rv_mv (v := v17) rfl) ?_
      refine TL.gyes true (yieldE_of rfl (bT hc_19)) rfl ?_
      obtain ⟨x35, hx_41, hp⟩ := bind_some' hp
      refine TL.v3 (ltb rfl) (rv_ix 22 (.tmp 30) (.const (.int .i64 0)) (v := v17) (i := 0) Try.underlying22 inf_3 rfl rfl rfl (h19).ro hx_41) fun b36 o37 c38 h39 h40 => ?_
      obtain rfl := h39
      refine TL.gyes true (yieldE_of rfl (bT hc_19)) rfl ?_
      refine TL.v (ltb rfl) (rv_ld (v := .int .i64 x35) (o := o37) (o' := o37) (j := 0) sc_3 rfl (Src.at_ 0 rfl) h40 rfl rfl) ?_
      refine TL.gyes true (yieldE_of rfl (bT hc_19)) rfl ?_
      refine TL.v (ltb rfl) (rv_eql (k := .i64) (m := x35) (n := 0) rfl rfl) ?_
      refine TL.v (ltb rfl) (rv_pickT true (bT hc_19) rfl (v := .bool (decide (x35 = 0))) rfl) ?_
      obtain rfl := Option.some.inj hp
      refine TL.nil (hJ_18 _ ?_ ?_)
      · exact rfl
      · exact rfl
    · rw [if_neg hc_19] at hp
      refine TL.gno false rfl (fun d hd => by cases hd; exact ltb rfl) (yieldE_of rfl (bF hc_19)) rfl ?_
      refine TL.gno false rfl (fun d hd => by cases hd; exact ltb rfl) (yieldE_of rfl (bF hc_19)) rfl ?_
      refine TL.gno false rfl (fun d hd => by cases hd; exact ltb rfl) (yieldE_of rfl (bF hc_19)) rfl ?_
      refine TL.gno false rfl (fun d hd => by cases hd; exact ltb rfl) (yieldE_of rfl (bF hc_19)) rfl ?_
      refine TL.v (ltb rfl) (rv_pickF false (bF hc_19) rfl (v := .bool false) rfl) ?_
      obtain rfl := Option.some.inj hp
      refine TL.nil (hJ_18 _ ?_ ?_)
      · exact rfl
      · exact rfl
  refine TC.held ([F9].flatten ++ H) mix (srcG 0 rfl srcG0) ?_
  refine HL.v 0 rfl trivial (by kernel_rfl) (by kernel_rfl) (by kernel_rfl) (ltb rfl) (rv_mv (v := (.slice (some ⟨b3, 0, none⟩) 3 3)) rfl) ?_
  obtain ⟨x442, hx_42, hp⟩ := bind_some' hp
  refine HL.w3 1 rfl trivial (by kernel_rfl) (by kernel_rfl) (by kernel_rfl) (ltb rfl) (rv_ix 113 (.tmp 10) (.const (.int .i64 0)) (v := (.slice (some ⟨b3, 0, none⟩) 3 3)) (i := 0) Try.underlying113 inf_81 rfl rfl rfl (h10).ro hx_42) fun b443 o444 c445 h446 h447 => ?_
  obtain ⟨v448, rfl, h449⟩ := h446
  refine HL.v 2 rfl trivial (by kernel_rfl) (by kernel_rfl) (by kernel_rfl) (ltb rfl) (rv_lda (o := o444) (o' := o444) (j := 0) (ds := [.int .i64 x442.kind, .int .i64 x442.arg, v448]) ag_81 rfl (srcInG 0 rfl) h447 rfl rfl rfl) ?_
  refine HL.v 3 rfl trivial (by kernel_rfl) (by kernel_rfl) (by kernel_rfl) (ltb rfl) (rv_bv (vs := [(2, .agg #[.int .i64 x442.kind, .int .i64 x442.arg, v448])]) (ds := [.slice none 0 0, .slice none 0 0, .int .i64 x442.kind, .int .i64 x442.arg, v448]) (pc rfl p0) (fun w => by kernel_rfl)) ?_
  refine HL.v 4 rfl trivial (by kernel_rfl) (by kernel_rfl) (by kernel_rfl) (ltb rfl) (rv_mv (v := (.slice (some ⟨b3, 0, none⟩) 3 3)) rfl) ?_
  obtain ⟨x2042, hx_43, hp⟩ := bind_some' hp
  refine HL.w3 5 rfl trivial (by kernel_rfl) (by kernel_rfl) (by kernel_rfl) (ltb rfl) (rv_ix 113 (.tmp 14) (.const (.int .i64 1)) (v := (.slice (some ⟨b3, 0, none⟩) 3 3)) (i := 1) Try.underlying113 inf_81 rfl rfl rfl (h10).ro hx_43) fun b2043 o2044 c2045 h2046 h2047 => ?_
  obtain ⟨v2048, rfl, h2049⟩ := h2046
  refine HL.v 6 rfl trivial (by kernel_rfl) (by kernel_rfl) (by kernel_rfl) (ltb rfl) (rv_lda (o := o2044) (o' := o2044) (j := 0) (ds := [.int .i64 x2042.kind, .int .i64 x2042.arg, v2048]) ag_81 rfl (srcInG 0 rfl) h2047 rfl rfl rfl) ?_
  refine HL.v 7 rfl trivial (by kernel_rfl) (by kernel_rfl) (by kernel_rfl) (ltb rfl) (rv_bv (vs := [(2, .agg #[.int .i64 x2042.kind, .int .i64 x2042.arg, v2048])]) (ds := [.slice none 0 0, .slice none 0 0, .int .i64 x2042.kind, .int .i64 x2042.arg, v2048]) (pc rfl p0) (fun w => by kernel_rfl)) ?_
  refine HL.v 8 rfl trivial (by kernel_rfl) (by kernel_rfl) (by kernel_rfl) (ltb rfl) (rv_mv (v := (.slice (some ⟨b3, 0, none⟩) 3 3)) rfl) ?_
  obtain ⟨x3642, hx_44, hp⟩ := bind_some' hp
  refine HL.w3 9 rfl trivial (by kernel_rfl) (by kernel_rfl) (by kernel_rfl) (ltb rfl) (rv_ix 113 (.tmp 18) (.const (.int .i64 2)) (v := (.slice (some ⟨b3, 0, none⟩) 3 3)) (i := 2) Try.underlying113 inf_81 rfl rfl rfl (h10).ro hx_44) fun b3643 o3644 c3645 h3646 h3647 => ?_
  obtain ⟨v3648, rfl, h3649⟩ := h3646
  refine HL.v 10 rfl trivial (by kernel_rfl) (by kernel_rfl) (by kernel_rfl) (ltb rfl) (rv_lda (o := o3644) (o' := o3644) (j := 0) (ds := [.int .i64 x3642.kind, .int .i64 x3642.arg, v3648]) ag_81 rfl (srcInG 0 rfl) h3647 rfl rfl rfl) ?_
  refine HL.v 11 rfl trivial (by kernel_rfl) (by kernel_rfl) (by kernel_rfl) (ltb rfl) (rv_bv (vs := [(2, .agg #[.int .i64 x3642.kind, .int .i64 x3642.arg, v3648])]) (ds := [.slice none 0 0, .slice none 0 0, .int .i64 x3642.kind, .int .i64 x3642.arg, v3648]) (pc rfl p0) (fun w => by kernel_rfl)) ?_
  refine HL.all [12, 14] (by kernel_rfl) (by simp) (HL.al ⟨_, rfl, fun K_45 hK_46 => ?_⟩ (HL.al ⟨_, rfl, fun K_51 hK_52 => ?_⟩ HL.al0))
  · refine TL.bv (vs := [(0, .agg #[.slice none 0 0, .slice none 0 0, .int .i64 x442.kind, .int .i64 x442.arg, v448]), (1, .agg #[.slice none 0 0, .slice none 0 0, .int .i64 x2042.kind, .int .i64 x2042.arg, v2048]), (2, .agg #[.slice none 0 0, .slice none 0 0, .int .i64 x3642.kind, .int .i64 x3642.arg, v3648])]) (cs := [.slice none 0 0, .slice none 0 0, .int .i64 x442.kind, .int .i64 x442.arg, v448, .slice none 0 0, .slice none 0 0, .int .i64 x2042.kind, .int .i64 x2042.arg, v2048, .slice none 0 0, .slice none 0 0, .int .i64 x3642.kind, .int .i64 x3642.arg, v3648]) (pc rfl (pc rfl (pc rfl p0))) Try.underlying23 inf_85 (ltb rfl) (by decide) (by decide) (by kernel_rfl) fun b4842 => ?_
    refine TL.nil (hK_46 _ _ (srcG 1 rfl srcG0) ?_)
    refine HL.v 13 rfl trivial (by kernel_rfl) (by kernel_rfl) (by kernel_rfl) (ltb rfl) (rv_bv (vs := [(3, .slice (some ⟨b4842, 0, none⟩) 3 3)]) (ds := [.int .i64 0, .int .i64 0, .slice none 0 0, .slice (some ⟨b4842, 0, none⟩) 3 3]) (pc rfl p0) (fun w => by kernel_rfl)) ?_
    refine HL.one 14 rfl (by kernel_rfl) fun K_47 hK_48 => ?_
    refine TL.alloc (cs := [.int .i64 0, .int .i64 0, .slice none 0 0, .slice none 0 0]) inf_25 (ltb rfl) rfl fun b5642 => ?_
    refine TL.nil (hK_48 _ _ (srcG 2 rfl srcG0) ?_)
    refine HL.one 15 rfl (by kernel_rfl) fun K_49 hK_50 => ?_
    refine TL.stB (ds := [.int .i64 0, .int .i64 0, .slice none 0 0, .slice (some ⟨b4842, 0, none⟩) 3 3]) (o := 0) (cs := [.int .i64 0, .int .i64 0, .slice none 0 0, .slice none 0 0]) (b := b5642) (u := .agg #[.int .i64 0, .int .i64 0, .slice none 0 0, .slice (some ⟨b4842, 0, none⟩) 3 3]) 0 rfl ms_25 rfl rfl rfl (oc rfl (oc rfl (oc rfl (oc ((SlI.lit (k := kBlock) (G := (F9 ++ H)) (xs := [(⟨[], [], (⟨x442.kind, x442.arg, x442.to⟩ : PTerm)⟩ : PBlock), (⟨[], [], (⟨x2042.kind, x2042.arg, x2042.to⟩ : PTerm)⟩ : PBlock), (⟨[], [], (⟨x3642.kind, x3642.arg, x3642.to⟩ : PTerm)⟩ : PBlock)]) b4842 85 3 (RepI.cons (k := kBlock) (x := (⟨[], [], (⟨x442.kind, x442.arg, x442.to⟩ : PTerm)⟩ : PBlock)) ⟨_, _, _, rfl, (SlI.nil none 0), (SlI.nil none 0), (h449.mono (inL inI))⟩ (RepI.cons (k := kBlock) (x := (⟨[], [], (⟨x2042.kind, x2042.arg, x2042.to⟩ : PTerm)⟩ : PBlock)) ⟨_, _, _, rfl, (SlI.nil none 0), (SlI.nil none 0), (h2049.mono (inL inI))⟩ (RepI.cons (k := kBlock) (x := (⟨[], [], (⟨x3642.kind, x3642.arg, x3642.to⟩ : PTerm)⟩ : PBlock)) ⟨_, _, _, rfl, (SlI.nil none 0), (SlI.nil none 0), (h3649.mono (inL inI))⟩ RepI.nil))) rfl rfl (ltb rfl))).one oc0)))) (leb rfl) ?_
    refine TL.norm (L' := [bx b5642 25 [.int .i64 0, .int .i64 0, .slice none 0 0, .slice (some ⟨b4842, 0, none⟩) 3 3], bx b4842 85 [.slice none 0 0, .slice none 0 0, .int .i64 x442.kind, .int .i64 x442.arg, v448, .slice none 0 0, .slice none 0 0, .int .i64 x2042.kind, .int .i64 x2042.arg, v2048, .slice none 0 0, .slice none 0 0, .int .i64 x3642.kind, .int .i64 x3642.arg, v3648], F9]) rfl ?_
    refine TL.nil (hK_50 _ _ (srcG 2 rfl srcG0) ?_)
    refine HL.done (by kernel_rfl) ?_
    refine fun w hw => hJ_9 ([(⟨[], [], (⟨x442.kind, x442.arg, x442.to⟩ : PTerm)⟩ : PBlock), (⟨[], [], (⟨x2042.kind, x2042.arg, x2042.to⟩ : PTerm)⟩ : PBlock), (⟨[], [], (⟨x3642.kind, x3642.arg, x3642.to⟩ : PTerm)⟩ : PBlock)]) b5642 (bx b4842 85 [.slice none 0 0, .slice none 0 0, .int .i64 x442.kind, .int .i64 x442.arg, v448, .slice none 0 0, .slice none 0 0, .int .i64 x2042.kind, .int .i64 x2042.arg, v2048, .slice none 0 0, .slice none 0 0, .int .i64 x3642.kind, .int .i64 x3642.arg, v3648]) (.slice (some ⟨b4842, 0, none⟩) 3 3) _ (SlI.lit (k := kBlock) (G := (F9 ++ H)) (xs := [(⟨[], [], (⟨x442.kind, x442.arg, x442.to⟩ : PTerm)⟩ : PBlock), (⟨[], [], (⟨x2042.kind, x2042.arg, x2042.to⟩ : PTerm)⟩ : PBlock), (⟨[], [], (⟨x3642.kind, x3642.arg, x3642.to⟩ : PTerm)⟩ : PBlock)]) b4842 85 3 (RepI.cons (k := kBlock) (x := (⟨[], [], (⟨x442.kind, x442.arg, x442.to⟩ : PTerm)⟩ : PBlock)) ⟨_, _, _, rfl, (SlI.nil none 0), (SlI.nil none 0), (h449.mono (inL inI))⟩ (RepI.cons (k := kBlock) (x := (⟨[], [], (⟨x2042.kind, x2042.arg, x2042.to⟩ : PTerm)⟩ : PBlock)) ⟨_, _, _, rfl, (SlI.nil none 0), (SlI.nil none 0), (h2049.mono (inL inI))⟩ (RepI.cons (k := kBlock) (x := (⟨[], [], (⟨x3642.kind, x3642.arg, x3642.to⟩ : PTerm)⟩ : PBlock)) ⟨_, _, _, rfl, (SlI.nil none 0), (SlI.nil none 0), (h3649.mono (inL inI))⟩ RepI.nil))) rfl rfl (ltb rfl)) ?_ hp w (hw.pick [0, 0, 0])
    · exact rfl
  · refine TL.alloc (cs := [.int .i64 0, .int .i64 0, .slice none 0 0, .slice none 0 0]) inf_25 (ltb rfl) rfl fun b5642 => ?_
    refine TL.nil (hK_52 _ _ (srcG 1 rfl srcG0) ?_)
    refine HL.one 12 rfl (by kernel_rfl) fun K_53 hK_54 => ?_
    refine TL.bv (vs := [(0, .agg #[.slice none 0 0, .slice none 0 0, .int .i64 x442.kind, .int .i64 x442.arg, v448]), (1, .agg #[.slice none 0 0, .slice none 0 0, .int .i64 x2042.kind, .int .i64 x2042.arg, v2048]), (2, .agg #[.slice none 0 0, .slice none 0 0, .int .i64 x3642.kind, .int .i64 x3642.arg, v3648])]) (cs := [.slice none 0 0, .slice none 0 0, .int .i64 x442.kind, .int .i64 x442.arg, v448, .slice none 0 0, .slice none 0 0, .int .i64 x2042.kind, .int .i64 x2042.arg, v2048, .slice none 0 0, .slice none 0 0, .int .i64 x3642.kind, .int .i64 x3642.arg, v3648]) (pc rfl (pc rfl (pc rfl p0))) Try.underlying23 inf_85 (ltb rfl) (by decide) (by decide) (by kernel_rfl) fun b4842 => ?_
    refine TL.nil (hK_54 _ _ (srcG 2 rfl srcG0) ?_)
    refine HL.v 13 rfl trivial (by kernel_rfl) (by kernel_rfl) (by kernel_rfl) (ltb rfl) (rv_bv (vs := [(3, .slice (some ⟨b4842, 0, none⟩) 3 3)]) (ds := [.int .i64 0, .int .i64 0, .slice none 0 0, .slice (some ⟨b4842, 0, none⟩) 3 3]) (pc rfl p0) (fun w => by kernel_rfl)) ?_
    refine HL.one 15 rfl (by kernel_rfl) fun K_55 hK_56 => ?_
    refine TL.stB (ds := [.int .i64 0, .int .i64 0, .slice none 0 0, .slice (some ⟨b4842, 0, none⟩) 3 3]) (o := 0) (cs := [.int .i64 0, .int .i64 0, .slice none 0 0, .slice none 0 0]) (b := b5642) (u := .agg #[.int .i64 0, .int .i64 0, .slice none 0 0, .slice (some ⟨b4842, 0, none⟩) 3 3]) 1 rfl ms_25 rfl rfl rfl (oc rfl (oc rfl (oc rfl (oc ((SlI.lit (k := kBlock) (G := (F9 ++ H)) (xs := [(⟨[], [], (⟨x442.kind, x442.arg, x442.to⟩ : PTerm)⟩ : PBlock), (⟨[], [], (⟨x2042.kind, x2042.arg, x2042.to⟩ : PTerm)⟩ : PBlock), (⟨[], [], (⟨x3642.kind, x3642.arg, x3642.to⟩ : PTerm)⟩ : PBlock)]) b4842 85 3 (RepI.cons (k := kBlock) (x := (⟨[], [], (⟨x442.kind, x442.arg, x442.to⟩ : PTerm)⟩ : PBlock)) ⟨_, _, _, rfl, (SlI.nil none 0), (SlI.nil none 0), (h449.mono (inL inI))⟩ (RepI.cons (k := kBlock) (x := (⟨[], [], (⟨x2042.kind, x2042.arg, x2042.to⟩ : PTerm)⟩ : PBlock)) ⟨_, _, _, rfl, (SlI.nil none 0), (SlI.nil none 0), (h2049.mono (inL inI))⟩ (RepI.cons (k := kBlock) (x := (⟨[], [], (⟨x3642.kind, x3642.arg, x3642.to⟩ : PTerm)⟩ : PBlock)) ⟨_, _, _, rfl, (SlI.nil none 0), (SlI.nil none 0), (h3649.mono (inL inI))⟩ RepI.nil))) rfl rfl (ltb rfl))).one oc0)))) (leb rfl) ?_
    refine TL.norm (L' := [bx b4842 85 [.slice none 0 0, .slice none 0 0, .int .i64 x442.kind, .int .i64 x442.arg, v448, .slice none 0 0, .slice none 0 0, .int .i64 x2042.kind, .int .i64 x2042.arg, v2048, .slice none 0 0, .slice none 0 0, .int .i64 x3642.kind, .int .i64 x3642.arg, v3648], bx b5642 25 [.int .i64 0, .int .i64 0, .slice none 0 0, .slice (some ⟨b4842, 0, none⟩) 3 3], F9]) rfl ?_
    refine TL.nil (hK_56 _ _ (srcG 2 rfl srcG0) ?_)
    refine HL.done (by kernel_rfl) ?_
    refine fun w hw => hJ_9 ([(⟨[], [], (⟨x442.kind, x442.arg, x442.to⟩ : PTerm)⟩ : PBlock), (⟨[], [], (⟨x2042.kind, x2042.arg, x2042.to⟩ : PTerm)⟩ : PBlock), (⟨[], [], (⟨x3642.kind, x3642.arg, x3642.to⟩ : PTerm)⟩ : PBlock)]) b5642 (bx b4842 85 [.slice none 0 0, .slice none 0 0, .int .i64 x442.kind, .int .i64 x442.arg, v448, .slice none 0 0, .slice none 0 0, .int .i64 x2042.kind, .int .i64 x2042.arg, v2048, .slice none 0 0, .slice none 0 0, .int .i64 x3642.kind, .int .i64 x3642.arg, v3648]) (.slice (some ⟨b4842, 0, none⟩) 3 3) _ (SlI.lit (k := kBlock) (G := (F9 ++ H)) (xs := [(⟨[], [], (⟨x442.kind, x442.arg, x442.to⟩ : PTerm)⟩ : PBlock), (⟨[], [], (⟨x2042.kind, x2042.arg, x2042.to⟩ : PTerm)⟩ : PBlock), (⟨[], [], (⟨x3642.kind, x3642.arg, x3642.to⟩ : PTerm)⟩ : PBlock)]) b4842 85 3 (RepI.cons (k := kBlock) (x := (⟨[], [], (⟨x442.kind, x442.arg, x442.to⟩ : PTerm)⟩ : PBlock)) ⟨_, _, _, rfl, (SlI.nil none 0), (SlI.nil none 0), (h449.mono (inL inI))⟩ (RepI.cons (k := kBlock) (x := (⟨[], [], (⟨x2042.kind, x2042.arg, x2042.to⟩ : PTerm)⟩ : PBlock)) ⟨_, _, _, rfl, (SlI.nil none 0), (SlI.nil none 0), (h2049.mono (inL inI))⟩ (RepI.cons (k := kBlock) (x := (⟨[], [], (⟨x3642.kind, x3642.arg, x3642.to⟩ : PTerm)⟩ : PBlock)) ⟨_, _, _, rfl, (SlI.nil none 0), (SlI.nil none 0), (h3649.mono (inL inI))⟩ RepI.nil))) rfl rfl (ltb rfl)) ?_ hp w (hw.pick [1, 0, 0])
    · exact rfl

/-! ### fettle/fettlelaw05.GraphNext -/
abbrev fettlelaw05_GraphNext.R (r : Bool) (v : Value) (A : List FP) : Prop := .bool r = v ∧ A = []
def fettlelaw05_GraphNext.nx79 (x7 : Bool) : Option Bool :=
  some x7
def fettlelaw05_GraphNext.jn103 (x26 : Int) (x27 : Bool) : Option (Ex (Ex Bool Unit) Int) :=
  if x27 = true then
    some (.ret (.ret false))
  else
    some (.go (w64 (x26 + 1)))
def fettlelaw05_GraphNext.bd79 (a1 : PFunc) (x9 : List (List Int)) (x13 : List Bool) (x21 : List Bool) (x26 : Int) : Option (Ex (Ex Bool Unit) Int) :=
  if x26 < (len x9) then
    (idx x13 x26).bind fun x829 =>
    (idx x21 x26).bind fun x2429 =>
    if (!(x829 == x2429)) = true then
      fettlelaw05_GraphNext.jn103 x26 true
    else
      (idx x9 x26).bind fun x4829 =>
      (fettleref05_Next a1 x26).bind fun x6429 =>
      (fettlelaw05_Ints x4829 x6429).bind fun x6829 =>
      fettlelaw05_GraphNext.jn103 x26 (!x6829)
  else
    some (.ret (.go ()))
def fettlelaw05_GraphNext (a1 : PFunc) : Option Bool :=
  (fettlelaw05_up).bind fun x7 =>
  (fettlelaw05_small a1).bind fun x8 =>
  if (!x8) = true then
    some x7
  else
    (graph_Next a1).bind fun x9 =>
    (graph_Reached a1).bind fun x13 =>
    (graph_Order a1).bind fun x17 =>
    (fettleref05_From a1 0 (-1)).bind fun x21 =>
    (if (¬ (len x9) = (len a1.blocks)) ∨ (¬ (len x13) = (len a1.blocks)) then some true else (fettleref05_Order a1).bind fun x8029 =>
    (fettlelaw05_Ints x17 x8029).bind fun x8033 =>
    some (!x8033)).bind fun t25 =>
    if t25 = true then
      some false
    else
      (whl (fun (s : Int) => fettlelaw05_GraphNext.bd79 a1 x9 x13 x21 s) FUEL 0).bind fun z =>
      match z with
        | .ret r => some r
        | .go p => fettlelaw05_GraphNext.nx79 x7
theorem fettlelaw05_GraphNext_ok {E : World} {H : FP} {w : World} {a1 : PFunc} {v2 : Value} {v4 : Value} {r : Bool} (h3 : SlI (kInt .i64) H a1.regs v2) (h5 : SlI kBlock H a1.blocks v4) (hp : fettlelaw05_GraphNext a1 = some r) (hst : St E H [] w) :
    Fn Try.prog 3 #[.agg #[.int .i64 a1.params, .int .i64 a1.result, v2, v4]] w fun v w' => ∃ A, fettlelaw05_GraphNext.R r v A ∧ St E H A w' := by
  refine Fn.body (fn := Try.f3) (args := [.agg #[.int .i64 a1.params, .int .i64 a1.result, v2, v4]]) E H [] [.tmp 2] 72 Try.func3 rfl rfl rfl rfl (leb rfl) hst ?_
  unfold fettlelaw05_GraphNext at hp
  refine TC.seq fun K_1 hK_2 => ?_
  refine TC.region ?_
  refine TL.box (cs := [.int .i64 a1.params, .int .i64 a1.result, v2, v4]) (v := .agg #[.int .i64 a1.params, .int .i64 a1.result, v2, v4]) (ltb rfl) rfl rfl fun b6 => ?_
  refine TL.v (ltb rfl) (rv_as (v := .bool false) rfl) ?_
  refine TL.nil ?_
  refine TC.go hK_2 ?_
  refine TC.seq fun K_3 hK_4 => ?_
  refine TC.region ?_
  obtain ⟨x7, hy_5, hp⟩ := bind_some' hp
  refine TL.callC (vs := []) (R := fettlelaw05_up.R x7) [] [bx b6 25 [.int .i64 a1.params, .int .i64 a1.result, v2, v4]] rfl cb_16 (ltb rfl) m0 (fun w hw => fettlelaw05_up_ok hy_5 hw) fun v A' hR_6 => ?_
  obtain ⟨rfl, rfl⟩ := hR_6
  refine TL.norm (L' := [bx b6 25 [.int .i64 a1.params, .int .i64 a1.result, v2, v4]]) rfl ?_
  refine TL.v (ltb rfl) (rv_as (v := .bool x7) rfl) ?_
  refine TL.nil ?_
  refine TC.go hK_4 ?_
  refine TC.seq fun K_7 hK_8 => ?_
  refine TC.region ?_
  refine TL.v (ltb rfl) (rv_lda (o := 0) (o' := 0) (j := 0) (ds := [.int .i64 a1.params, .int .i64 a1.result, v2, v4]) ag_25 rfl (Src.at_ 0 rfl) (bx_cells b6 25 _) rfl rfl rfl) ?_
  obtain ⟨x8, hy_9, hp⟩ := bind_some' hp
  refine TL.callC (vs := [.agg #[.int .i64 a1.params, .int .i64 a1.result, v2, v4]]) (R := fettlelaw05_small.R x8) [] [bx b6 25 [.int .i64 a1.params, .int .i64 a1.result, v2, v4]] rfl cb_17 (ltb rfl) (mc rfl m0) (fun w hw => fettlelaw05_small_ok (a1 := a1) (h3.mono subH) (h5.mono subH) hy_9 hw) fun v A' hR_10 => ?_
  obtain ⟨rfl, rfl⟩ := hR_10
  refine TL.norm (L' := [bx b6 25 [.int .i64 a1.params, .int .i64 a1.result, v2, v4]]) rfl ?_
  refine TL.v (ltb rfl) (rv_as (v := .bool x8) rfl) ?_
  refine TL.nil ?_
  refine TC.go hK_8 ?_
  refine TC.seq fun K_11 hK_12 => ?_
  refine TC.seq fun K_13 hK_14 => ?_
  refine TC.region ?_
  refine TL.v (ltb rfl) (rv_mv (v := .bool x8) rfl) ?_
  refine TL.v (ltb rfl) (rv_not (b := x8) rfl) ?_
  refine TL.nil ?_
  refine TC.go hK_14 ?_
  by_cases hc_15 : (!x8) = true
  · rw [if_pos hc_15] at hp
    refine TC.condT (bbT hc_15) ?_
    refine TC.seq fun K_16 hK_17 => ?_
    refine TC.region ?_
    refine TL.v (ltb rfl) (rv_mv (v := .bool x7) rfl) ?_
    refine TL.v (ltb rfl) (rv_as (v := .bool x7) rfl) ?_
    refine TL.nil ?_
    refine TC.go hK_17 ?_
    refine TC.ret ?_
    obtain rfl := Option.some.inj hp
    exact fun w hw => retOk ⟨rfl, rfl⟩ (hw.pick [])
  · rw [if_neg hc_15] at hp
    refine TC.condF (bbF hc_15) ?_
    refine TC.skip ?_
    refine TC.go hK_12 ?_
    refine TC.seq fun K_18 hK_19 => ?_
    refine TC.region ?_
    refine TL.v (ltb rfl) (rv_lda (o := 0) (o' := 0) (j := 0) (ds := [.int .i64 a1.params, .int .i64 a1.result, v2, v4]) ag_25 rfl (Src.at_ 0 rfl) (bx_cells b6 25 _) rfl rfl rfl) ?_
    obtain ⟨x9, hy_20, hp⟩ := bind_some' hp
    refine TL.callC (vs := [.agg #[.int .i64 a1.params, .int .i64 a1.result, v2, v4]]) (R := graph_Next.R x9) [] [bx b6 25 [.int .i64 a1.params, .int .i64 a1.result, v2, v4]] rfl cb_18 (ltb rfl) (mc rfl m0) (fun w hw => graph_Next_ok (a1 := a1) (h3.mono subH) (h5.mono subH) hy_20 hw) fun v A' hR_21 => ?_
    obtain ⟨v10, F11, rfl, rfl, h12⟩ := hR_21
    refine TL.norm (L' := [F11, bx b6 25 [.int .i64 a1.params, .int .i64 a1.result, v2, v4]]) rfl ?_
    refine TL.v (ltb rfl) (rv_as (v := v10) rfl) ?_
    refine TL.nil ?_
    refine TC.go hK_19 ?_
    refine TC.seq fun K_22 hK_23 => ?_
    refine TC.region ?_
    refine TL.v (ltb rfl) (rv_lda (o := 0) (o' := 0) (j := 0) (ds := [.int .i64 a1.params, .int .i64 a1.result, v2, v4]) ag_25 rfl (Src.at_ 1 rfl) (bx_cells b6 25 _) rfl rfl rfl) ?_
    obtain ⟨x13, hy_24, hp⟩ := bind_some' hp
    refine TL.callC (vs := [.agg #[.int .i64 a1.params, .int .i64 a1.result, v2, v4]]) (R := graph_Reached.R x13) [] [F11, bx b6 25 [.int .i64 a1.params, .int .i64 a1.result, v2, v4]] rfl cb_19 (ltb rfl) (mc rfl m0) (fun w hw => graph_Reached_ok (a1 := a1) (h3.mono subH) (h5.mono subH) hy_24 hw) fun v A' hR_25 => ?_
    obtain ⟨v14, F15, rfl, rfl, h16⟩ := hR_25
    refine TL.norm (L' := [F15, F11, bx b6 25 [.int .i64 a1.params, .int .i64 a1.result, v2, v4]]) rfl ?_
    refine TL.v (ltb rfl) (rv_as (v := v14) rfl) ?_
    refine TL.nil ?_
    refine TC.go hK_23 ?_
    refine TC.seq fun K_26 hK_27 => ?_
    refine TC.region ?_
    refine TL.v (ltb rfl) (rv_lda (o := 0) (o' := 0) (j := 0) (ds := [.int .i64 a1.params, .int .i64 a1.result, v2, v4]) ag_25 rfl (Src.at_ 2 rfl) (bx_cells b6 25 _) rfl rfl rfl) ?_
    obtain ⟨x17, hy_28, hp⟩ := bind_some' hp
    refine TL.callC (vs := [.agg #[.int .i64 a1.params, .int .i64 a1.result, v2, v4]]) (R := graph_Order.R x17) [] [F15, F11, bx b6 25 [.int .i64 a1.params, .int .i64 a1.result, v2, v4]] rfl cb_20 (ltb rfl) (mc rfl m0) (fun w hw => graph_Order_ok (a1 := a1) (h3.mono subH) (h5.mono subH) hy_28 hw) fun v A' hR_29 => ?_
    obtain ⟨v18, F19, rfl, rfl, h20⟩ := hR_29
    refine TL.norm (L' := [F19, F15, F11, bx b6 25 [.int .i64 a1.params, .int .i64 a1.result, v2, v4]]) rfl ?_
    refine TL.v (ltb rfl) (rv_as (v := v18) rfl) ?_
    refine TL.nil ?_
    refine TC.go hK_27 ?_
    refine TC.seq fun K_30 hK_31 => ?_
    refine TC.region ?_
    refine TL.v (ltb rfl) (rv_lda (o := 0) (o' := 0) (j := 0) (ds := [.int .i64 a1.params, .int .i64 a1.result, v2, v4]) ag_25 rfl (Src.at_ 3 rfl) (bx_cells b6 25 _) rfl rfl rfl) ?_
    obtain ⟨x21, hy_32, hp⟩ := bind_some' hp
    refine TL.callC (vs := [.agg #[.int .i64 a1.params, .int .i64 a1.result, v2, v4], .int .i64 0, .int .i64 (-1)]) (R := fettleref05_From.R x21) [] [F19, F15, F11, bx b6 25 [.int .i64 a1.params, .int .i64 a1.result, v2, v4]] rfl cb_21 (ltb rfl) (mc rfl (mc rfl (mc rfl m0))) (fun w hw => fettleref05_From_ok (a1 := a1) (a6 := 0) (a7 := -1) (h3.mono subH) (h5.mono subH) hy_32 hw) fun v A' hR_33 => ?_
    obtain ⟨v22, F23, rfl, rfl, h24⟩ := hR_33
    refine TL.norm (L' := [F23, F19, F15, F11, bx b6 25 [.int .i64 a1.params, .int .i64 a1.result, v2, v4]]) rfl ?_
    refine TL.v (ltb rfl) (rv_as (v := v22) rfl) ?_
    refine TL.nil ?_
    refine TC.go hK_31 ?_
    refine TC.seq fun K_34 hK_35 => ?_
    refine TC.seq fun K_36 hK_37 => ?_
    refine TC.region ?_
    refine TL.v (ltb rfl) (rv_mv (v := v10) rfl) ?_
    refine TL.v (ltb rfl) (rv_lenI (v := v10) Try.underlying28 rfl h12.ro) ?_
    refine TL.v (ltb rfl) (rv_fa (b := b6) (o := 0) fa_25_3 rfl) ?_
    refine TL.v (ltb rfl) (rv_ld (v := v4) (o := 3) (o' := 0) (j := 3) sc_23 rfl (Src.at_ 4 rfl) (bx_cells b6 25 _) rfl rfl) ?_
    refine TL.v (ltb rfl) (rv_lenI (v := v4) Try.underlying23 rfl h5) ?_
    refine TL.v (ltb rfl) (rv_neq (k := .i64) (m := (len x9)) (n := (len a1.blocks)) rfl rfl) ?_
    refine TL.v (ltb rfl) (rv_mv (v := .bool (decide (¬ (len x9) = (len a1.blocks)))) rfl) ?_
    refine TL.cut 7 fun K_38 hK_39 => ?_
    have hJ_40 : ∀ e_42 : Env, e_42 1 = .pointer (some ⟨b6, 0, none⟩) → e_42 3 = .bool x7 → e_42 5 = v10 → e_42 6 = v14 → e_42 7 = v18 → e_42 8 = v22 → e_42 37 = .bool (decide ((¬ (len x9) = (len a1.blocks)) ∨ (¬ (len x13) = (len a1.blocks)))) → ∀ w, St E H [F23, F19, F15, F11, bx b6 25 [.int .i64 a1.params, .int .i64 a1.result, v2, v4]] w → K_38 e_42 w := by
      intro e_42 h_43 h_44 h_45 h_46 h_47 h_48 h_49
      refine TL.go hK_39 ?_
      refine TL.v (ltb rfl) (rv_mv (v := .bool (decide ((¬ (len x9) = (len a1.blocks)) ∨ (¬ (len x13) = (len a1.blocks))))) h_49) ?_
      obtain ⟨t25, ht_120, hp⟩ := bind_some' hp
      refine TL.cut 6 fun K_50 hK_51 => ?_
      have hJ_52 : ∀ e_54 : Env, e_54 1 = .pointer (some ⟨b6, 0, none⟩) → e_54 3 = .bool x7 → e_54 5 = v10 → e_54 6 = v14 → e_54 8 = v22 → e_54 44 = .bool t25 → ∀ w, St E H [F23, F19, F15, F11, bx b6 25 [.int .i64 a1.params, .int .i64 a1.result, v2, v4]] w → K_50 e_54 w := by
        intro e_54 h_55 h_56 h_57 h_58 h_59 h_60
        refine TL.go hK_51 ?_
        refine TL.nil ?_
        refine TC.go hK_37 ?_
        by_cases hc_61 : t25 = true
        · rw [if_pos hc_61] at hp
          refine TC.condT (h_60.trans (bbT hc_61)) ?_
          refine TC.seq fun K_62 hK_63 => ?_
          refine TC.region ?_
          refine TL.v (ltb rfl) (rv_as (v := .bool false) rfl) ?_
          refine TL.nil ?_
          refine TC.go hK_63 ?_
          refine TC.ret ?_
          obtain rfl := Option.some.inj hp
          exact fun w hw => retOk ⟨rfl, rfl⟩ (hw.pick [])
        · rw [if_neg hc_61] at hp
          refine TC.condF (h_60.trans (bbF hc_61)) ?_
          refine TC.skip ?_
          refine TC.go hK_35 ?_
          refine TC.seq fun K_64 hK_65 => ?_
          refine TC.seq fun K_66 hK_67 => ?_
          refine TC.region ?_
          refine TL.v (ltb rfl) (rv_as (v := .int .i64 0) rfl) ?_
          refine TL.nil ?_
          refine TC.go hK_67 ?_
          refine TC.block ?_
          obtain ⟨z_75, hz_76, hr_77⟩ := bind_some' hp
          clear hp
          have hJ_84 : ∀ (e_80 : Env) (h_81 : e_80 3 = .bool x7) (hq_85 : .go () = z_75), ∀ w, St E H [] w → K_64 e_80 w := by
            intro e_80 h_81 hq_85
            subst hq_85
            replace hp : fettlelaw05_GraphNext.nx79 x7 = some r := hr_77
            unfold fettlelaw05_GraphNext.nx79 at hp
            refine TC.go hK_65 ?_
            refine TC.seq fun K_82 hK_83 => ?_
            refine TC.region ?_
            refine TL.v (ltb rfl) (rv_mv (v := .bool x7) h_81) ?_
            refine TL.v (ltb rfl) (rv_as (v := .bool x7) rfl) ?_
            refine TL.nil ?_
            refine TC.go hK_83 ?_
            refine TC.ret ?_
            obtain rfl := Option.some.inj hp
            exact fun w hw => retOk ⟨rfl, rfl⟩ (hw.pick [])
          refine TC.pk' [4, 3, 2, 0] (L' := [bx b6 25 [.int .i64 a1.params, .int .i64 a1.result, v2, v4], F11, F15, F23]) rfl ?_
          refine TC.loopW (r := z_75) (fun (x26 : Int) (e_68 : Env) (L_119 : List FP) => e_68 1 = .pointer (some ⟨b6, 0, none⟩) ∧ e_68 3 = .bool x7 ∧ e_68 5 = v10 ∧ e_68 6 = v14 ∧ e_68 8 = v22 ∧ e_68 9 = .int .i64 x26 ∧ L_119 = [bx b6 25 [.int .i64 a1.params, .int .i64 a1.result, v2, v4], F11, F15, F23]) ?_ FUEL _ _ _ hz_76 ⟨h_55, h_56, h_57, h_58, h_59, rfl, rfl⟩
          rintro x26 e_68 L_119 ⟨h_69, h_70, h_71, h_72, h_73, h_74, rfl⟩ x_78 hp hx_79
          replace hp : fettlelaw05_GraphNext.bd79 a1 x9 x13 x21 x26 = some x_78 := hp
          unfold fettlelaw05_GraphNext.bd79 at hp
          refine TC.seq fun K_86 hK_87 => ?_
          refine TC.seq fun K_88 hK_89 => ?_
          refine TC.region ?_
          refine TL.v (ltb rfl) (rv_mv (v := .int .i64 x26) h_74) ?_
          refine TL.v (ltb rfl) (rv_mv (v := v10) h_71) ?_
          refine TL.v (ltb rfl) (rv_lenI (v := v10) Try.underlying28 rfl h12.ro) ?_
          refine TL.v (ltb rfl) (rv_lss (k := .i64) (m := x26) (n := (len x9)) rfl rfl) ?_
          refine TL.nil ?_
          refine TC.go hK_89 ?_
          by_cases hc_90 : x26 < (len x9)
          · rw [if_pos hc_90] at hp
            refine TC.condT (bT hc_90) ?_
            refine TC.skip ?_
            refine TC.go hK_87 ?_
            refine TC.seq fun K_91 hK_92 => ?_
            refine TC.block ?_
            refine TC.seq fun K_93 hK_94 => ?_
            have hJ_103 : ∀ (x27 : Bool) (e_95 : Env) (h_96 : e_95 1 = .pointer (some ⟨b6, 0, none⟩)) (h_97 : e_95 3 = .bool x7) (h_98 : e_95 5 = v10) (h_99 : e_95 6 = v14) (h_100 : e_95 8 = v22) (h_101 : e_95 9 = .int .i64 x26) (h_102 : e_95 70 = .bool x27) (hp : fettlelaw05_GraphNext.jn103 x26 x27 = some x_78), ∀ w, St E H [bx b6 25 [.int .i64 a1.params, .int .i64 a1.result, v2, v4], F11, F15, F23] w → K_93 e_95 w := by
              intro x27 e_95 h_96 h_97 h_98 h_99 h_100 h_101 h_102 hp
              unfold fettlelaw05_GraphNext.jn103 at hp
              refine TC.go hK_94 ?_
              by_cases hc_104 : x27 = true
              · rw [if_pos hc_104] at hp
                refine TC.condT (h_102.trans (bbT hc_104)) ?_
                refine TC.seq fun K_105 hK_106 => ?_
                refine TC.region ?_
                refine TL.v (ltb rfl) (rv_as (v := .bool false) rfl) ?_
                refine TL.nil ?_
                refine TC.go hK_106 ?_
                refine TC.ret ?_
                obtain rfl := ex_ret hp hx_79
                obtain rfl := Option.some.inj hr_77
                exact fun w hw => retOk ⟨rfl, rfl⟩ (hw.pick [])
              · rw [if_neg hc_104] at hp
                refine TC.condF (h_102.trans (bbF hc_104)) ?_
                refine TC.skip ?_
                refine TC.go hK_92 ?_
                refine TC.region ?_
                refine TL.v (ltb rfl) (rv_mv (v := .int .i64 x26) h_101) ?_
                refine TL.v (ltb rfl) (rv_add (k := .i64) (m := x26) (n := 1) rfl rfl) ?_
                refine TL.v (ltb rfl) (rv_as (v := .int .i64 (w64 (x26 + 1))) rfl) ?_
                refine TL.nil ?_
                exact fun w hw => goOk hp ⟨h_96, h_97, h_98, h_99, h_100, rfl, rfl⟩ (hw.pick [0, 0, 0, 0])
            refine TC.held ([bx b6 25 [.int .i64 a1.params, .int .i64 a1.result, v2, v4], F11, F15, F23].flatten ++ H) mix (srcG 0 rfl (srcG 1 rfl (srcG 2 rfl (srcG 3 rfl srcG0)))) ?_
            refine HL.v 0 rfl trivial (by kernel_rfl) (by kernel_rfl) (by kernel_rfl) (ltb rfl) (rv_mv (v := v14) h_72) ?_
            refine HL.v 1 rfl trivial (by kernel_rfl) (by kernel_rfl) (by kernel_rfl) (ltb rfl) (rv_mv (v := .int .i64 x26) h_74) ?_
            obtain ⟨x829, hx_107, hp⟩ := bind_some' hp
            refine HL.w3 2 rfl trivial (by kernel_rfl) (by kernel_rfl) (by kernel_rfl) (ltb rfl) (rv_ix 30 (.tmp 51) (.tmp 52) (v := v14) (i := x26) Try.underlying30 inf_4 rfl rfl rfl (h16).ro hx_107) fun b830 o831 c832 h833 h834 => ?_
            obtain rfl := h833
            refine HL.v 3 rfl trivial (by kernel_rfl) (by kernel_rfl) (by kernel_rfl) (ltb rfl) (rv_ld (v := .bool x829) (o := o831) (o' := o831) (j := 0) sc_4 rfl (srcInG 2 rfl) h834 rfl rfl) ?_
            refine HL.v 4 rfl trivial (by kernel_rfl) (by kernel_rfl) (by kernel_rfl) (ltb rfl) (rv_mv (v := v22) h_73) ?_
            refine HL.v 5 rfl trivial (by kernel_rfl) (by kernel_rfl) (by kernel_rfl) (ltb rfl) (rv_mv (v := .int .i64 x26) h_74) ?_
            obtain ⟨x2429, hx_108, hp⟩ := bind_some' hp
            refine HL.w3 6 rfl trivial (by kernel_rfl) (by kernel_rfl) (by kernel_rfl) (ltb rfl) (rv_ix 30 (.tmp 55) (.tmp 56) (v := v22) (i := x26) Try.underlying30 inf_4 rfl rfl rfl (h24).ro hx_108) fun b2430 o2431 c2432 h2433 h2434 => ?_
            obtain rfl := h2433
            refine HL.v 7 rfl trivial (by kernel_rfl) (by kernel_rfl) (by kernel_rfl) (ltb rfl) (rv_ld (v := .bool x2429) (o := o2431) (o' := o2431) (j := 0) sc_4 rfl (srcInG 3 rfl) h2434 rfl rfl) ?_
            refine HL.v 8 rfl trivial (by kernel_rfl) (by kernel_rfl) (by kernel_rfl) (ltb rfl) (rv_neqB (b := x829) (c := x2429) Try.underlying4 rfl rfl) ?_
            refine HL.v 9 rfl trivial (by kernel_rfl) (by kernel_rfl) (by kernel_rfl) (ltb rfl) (rv_mv (v := .bool (!(x829 == x2429))) rfl) ?_
            by_cases hc_109 : (!(x829 == x2429)) = true
            · rw [if_pos hc_109] at hp
              refine HL.gno 10 rfl true rfl (yieldE_of rfl (bbT hc_109)) rfl (by kernel_rfl) (by kernel_rfl) (by kernel_rfl) (fun d hd => by cases hd; exact ltb rfl) ?_
              refine HL.gno 11 rfl true rfl (yieldE_of rfl (bbT hc_109)) rfl (by kernel_rfl) (by kernel_rfl) (by kernel_rfl) (fun d hd => by cases hd; exact ltb rfl) ?_
              refine HL.gno 12 rfl true rfl (yieldE_of rfl (bbT hc_109)) rfl (by kernel_rfl) (by kernel_rfl) (by kernel_rfl) (fun d hd => by cases hd; exact ltb rfl) ?_
              refine HL.gno 13 rfl true rfl (yieldE_of rfl (bbT hc_109)) rfl (by kernel_rfl) (by kernel_rfl) (by kernel_rfl) (fun d hd => by cases hd; exact ltb rfl) ?_
              refine HL.gno 14 rfl true rfl (yieldE_of rfl (bbT hc_109)) rfl (by kernel_rfl) (by kernel_rfl) (by kernel_rfl) (fun d hd => by cases hd; exact ltb rfl) ?_
              refine HL.gno 15 rfl true rfl (yieldE_of rfl (bbT hc_109)) rfl (by kernel_rfl) (by kernel_rfl) (by kernel_rfl) (fun d hd => by cases hd; exact ltb rfl) ?_
              refine HL.gno 16 rfl true rfl (yieldE_of rfl (bbT hc_109)) rfl (by kernel_rfl) (by kernel_rfl) (by kernel_rfl) (fun d hd => by cases hd; exact ltb rfl) ?_
              refine HL.gno 17 rfl true rfl (yieldE_of rfl (bbT hc_109)) rfl (by kernel_rfl) (by kernel_rfl) (by kernel_rfl) (fun d hd => by cases hd; exact ltb rfl) ?_
              refine HL.gno 18 rfl true rfl (yieldE_of rfl (bbT hc_109)) rfl (by kernel_rfl) (by kernel_rfl) (by kernel_rfl) (fun d hd => by cases hd; exact ltb rfl) ?_
              refine HL.v 19 rfl trivial (by kernel_rfl) (by kernel_rfl) (by kernel_rfl) (ltb rfl) (rv_pickT true (bbT hc_109) rfl (v := .bool true) rfl) ?_
              refine HL.done (by kernel_rfl) ?_
              refine fun w hw => hJ_103 true _ ?_ ?_ ?_ ?_ ?_ ?_ ?_ hp w (hw.pick [0, 0, 0, 0])
              · exact h_69
              · exact h_70
              · exact h_71
              · exact h_72
              · exact h_73
              · exact h_74
              · exact rfl
            · rw [if_neg hc_109] at hp
              refine HL.v 10 rfl (yieldE_of rfl (bbF hc_109)) (by kernel_rfl) (by kernel_rfl) (by kernel_rfl) (ltb rfl) (rv_mv (v := v10) h_71) ?_
              refine HL.v 11 rfl (yieldE_of rfl (bbF hc_109)) (by kernel_rfl) (by kernel_rfl) (by kernel_rfl) (ltb rfl) (rv_mv (v := .int .i64 x26) h_74) ?_
              obtain ⟨x4829, hx_110, hp⟩ := bind_some' hp
              refine HL.w3 12 rfl (yieldE_of rfl (bbF hc_109)) (by kernel_rfl) (by kernel_rfl) (by kernel_rfl) (ltb rfl) (rv_ix 28 (.tmp 61) (.tmp 62) (v := v10) (i := x26) Try.underlying28 inf_22 rfl rfl rfl (h12).ro hx_110) fun b4830 o4831 c4832 h4833 h4834 => ?_
              obtain ⟨v4835, rfl, h4836⟩ := h4833
              refine HL.v 13 rfl (yieldE_of rfl (bbF hc_109)) (by kernel_rfl) (by kernel_rfl) (by kernel_rfl) (ltb rfl) (rv_ld (v := v4835) (o := o4831) (o' := o4831) (j := 0) sc_22 rfl (srcInG 1 rfl) h4834 rfl rfl) ?_
              refine HL.v 14 rfl (yieldE_of rfl (bbF hc_109)) (by kernel_rfl) (by kernel_rfl) (by kernel_rfl) (ltb rfl) (rv_lda (o := 0) (o' := 0) (j := 0) (ds := [.int .i64 a1.params, .int .i64 a1.result, v2, v4]) ag_25 h_69 (srcInG 0 rfl) (bx_cells b6 25 _) rfl rfl rfl) ?_
              refine HL.v 15 rfl (yieldE_of rfl (bbF hc_109)) (by kernel_rfl) (by kernel_rfl) (by kernel_rfl) (ltb rfl) (rv_mv (v := .int .i64 x26) h_74) ?_
              refine HL.one 16 rfl (by kernel_rfl) fun K_111 hK_112 => ?_
              refine TL.gyes false (yieldE_of rfl (bbF hc_109)) rfl ?_
              obtain ⟨x6429, hy_113, hp⟩ := bind_some' hp
              refine TL.callC (vs := [.agg #[.int .i64 a1.params, .int .i64 a1.result, v2, v4], .int .i64 x26]) (R := fettleref05_Next.R x6429) [] [bx b6 25 [.int .i64 a1.params, .int .i64 a1.result, v2, v4], F11, F15, F23] rfl cb_24 (ltb rfl) (mc rfl (mc rfl m0)) (fun w hw => fettleref05_Next_ok (a1 := a1) (a6 := x26) (h3.mono subH) (h5.mono subH) hy_113 hw) fun v A' hR_114 => ?_
              obtain ⟨v6430, F6431, rfl, rfl, h6432⟩ := hR_114
              refine TL.norm (L' := [F6431, bx b6 25 [.int .i64 a1.params, .int .i64 a1.result, v2, v4], F11, F15, F23]) rfl ?_
              refine TL.nil (hK_112 _ _ (srcG 1 rfl (srcG 2 rfl (srcG 3 rfl (srcG 4 rfl srcG0)))) ?_)
              refine HL.one 17 rfl (by kernel_rfl) fun K_115 hK_116 => ?_
              refine TL.gyes false (yieldE_of rfl (bbF hc_109)) rfl ?_
              obtain ⟨x6829, hy_117, hp⟩ := bind_some' hp
              refine TL.callC (vs := [v4835, v6430]) (R := fettlelaw05_Ints.R x6829) [] [F6431, bx b6 25 [.int .i64 a1.params, .int .i64 a1.result, v2, v4], F11, F15, F23] rfl cb_22 (ltb rfl) (mc rfl (mc rfl m0)) (fun w hw => fettlelaw05_Ints_ok (a1 := x4829) (a4 := x6429) (h4836.mono (subB 2 rfl)) (h6432.ro.mono (subB 0 rfl)) hy_117 hw) fun v A' hR_118 => ?_
              obtain ⟨rfl, rfl⟩ := hR_118
              refine TL.norm (L' := [F6431, bx b6 25 [.int .i64 a1.params, .int .i64 a1.result, v2, v4], F11, F15, F23]) rfl ?_
              refine TL.nil (hK_116 _ _ (srcG 1 rfl (srcG 2 rfl (srcG 3 rfl (srcG 4 rfl srcG0)))) ?_)
              refine HL.v 18 rfl (yieldE_of rfl (bbF hc_109)) (by kernel_rfl) (by kernel_rfl) (by kernel_rfl) (ltb rfl) (rv_not (b := x6829) rfl) ?_
              refine HL.v 19 rfl trivial (by kernel_rfl) (by kernel_rfl) (by kernel_rfl) (ltb rfl) (rv_pickF false (bbF hc_109) rfl (v := .bool (!x6829)) rfl) ?_
              refine HL.done (by kernel_rfl) ?_
              refine fun w hw => hJ_103 (!x6829) _ ?_ ?_ ?_ ?_ ?_ ?_ ?_ hp w (hw.pick [1, 1, 1, 1])
              · exact h_69
              · exact h_70
              · exact h_71
              · exact h_72
              · exact h_73
              · exact h_74
              · exact rfl
          · rw [if_neg hc_90] at hp
            refine TC.condF (bF hc_90) ?_
            refine TC.exit ?_
            refine fun w hw => hJ_84 _ ?_ (ex_ret hp hx_79) w (hw.pick [])
            · exact h_70
      clear hp
      have hp := ht_120
      clear ht_120
      by_cases hc_53 : (¬ (len x9) = (len a1.blocks)) ∨ (¬ (len x13) = (len a1.blocks))
      · rw [if_pos hc_53] at hp
        refine TL.gno true rfl (fun d hd => by cases hd; exact ltb rfl) (yieldE_of rfl (bT hc_53)) rfl ?_
        refine TL.gno true rfl (fun d hd => by cases hd; exact ltb rfl) (yieldE_of rfl (bT hc_53)) rfl ?_
        refine TL.gno true rfl (fun d hd => by cases hd; exact ltb rfl) (yieldE_of rfl (bT hc_53)) rfl ?_
        refine TL.gno true rfl (fun d hd => by cases hd; exact ltb rfl) (yieldE_of rfl (bT hc_53)) rfl ?_
        refine TL.gno true rfl (fun d hd => by cases hd; exact ltb rfl) (yieldE_of rfl (bT hc_53)) rfl ?_
        refine TL.v (ltb rfl) (rv_pickT true (bT hc_53) rfl (v := .bool true) rfl) ?_
        obtain rfl := Option.some.inj hp
        refine TL.nil (hJ_52 _ ?_ ?_ ?_ ?_ ?_ ?_)
        · exact h_43
        · exact h_44
        · exact h_45
        · exact h_46
        · exact h_48
        · exact rfl
      · rw [if_neg hc_53] at hp
        refine TL.gyes false (yieldE_of rfl (bF hc_53)) rfl ?_
        refine TL.v (ltb rfl) (rv_mv (v := v18) h_47) ?_
        refine TL.gyes false (yieldE_of rfl (bF hc_53)) rfl ?_
        refine TL.v (ltb rfl) (rv_lda (o := 0) (o' := 0) (j := 0) (ds := [.int .i64 a1.params, .int .i64 a1.result, v2, v4]) ag_25 h_43 (Src.at_ 4 rfl) (bx_cells b6 25 _) rfl rfl rfl) ?_
        refine TL.gyes false (yieldE_of rfl (bF hc_53)) rfl ?_
        obtain ⟨x8029, hy_121, hp⟩ := bind_some' hp
        refine TL.callC (vs := [.agg #[.int .i64 a1.params, .int .i64 a1.result, v2, v4]]) (R := fettleref05_Order.R x8029) [] [F23, F19, F15, F11, bx b6 25 [.int .i64 a1.params, .int .i64 a1.result, v2, v4]] rfl cb_23 (ltb rfl) (mc rfl m0) (fun w hw => fettleref05_Order_ok (a1 := a1) (h3.mono subH) (h5.mono subH) hy_121 hw) fun v A' hR_122 => ?_
        obtain ⟨v8030, F8031, rfl, rfl, h8032⟩ := hR_122
        refine TL.norm (L' := [F8031, F23, F19, F15, F11, bx b6 25 [.int .i64 a1.params, .int .i64 a1.result, v2, v4]]) rfl ?_
        refine TL.gyes false (yieldE_of rfl (bF hc_53)) rfl ?_
        obtain ⟨x8033, hy_123, hp⟩ := bind_some' hp
        refine TL.callC (vs := [v18, v8030]) (R := fettlelaw05_Ints.R x8033) [] [F8031, F23, F19, F15, F11, bx b6 25 [.int .i64 a1.params, .int .i64 a1.result, v2, v4]] rfl cb_22 (ltb rfl) (mc rfl (mc rfl m0)) (fun w hw => fettlelaw05_Ints_ok (a1 := x17) (a4 := x8029) (h20.ro.mono (subB 2 rfl)) (h8032.ro.mono (subB 0 rfl)) hy_123 hw) fun v A' hR_124 => ?_
        obtain ⟨rfl, rfl⟩ := hR_124
        refine TL.norm (L' := [F8031, F23, F19, F15, F11, bx b6 25 [.int .i64 a1.params, .int .i64 a1.result, v2, v4]]) rfl ?_
        refine TL.gyes false (yieldE_of rfl (bF hc_53)) rfl ?_
        refine TL.v (ltb rfl) (rv_not (b := x8033) rfl) ?_
        refine TL.v (ltb rfl) (rv_pickF false (bF hc_53) rfl (v := .bool (!x8033)) rfl) ?_
        refine TL.pk' [1, 1, 1, 1, 1] (L' := [F23, F19, F15, F11, bx b6 25 [.int .i64 a1.params, .int .i64 a1.result, v2, v4]]) rfl ?_
        obtain rfl := Option.some.inj hp
        refine TL.nil (hJ_52 _ ?_ ?_ ?_ ?_ ?_ ?_)
        · exact h_43
        · exact h_44
        · exact h_45
        · exact h_46
        · exact h_48
        · exact rfl
    by_cases hc_41 : ¬ (len x9) = (len a1.blocks)
    · refine TL.gno true rfl (fun d hd => by cases hd; exact ltb rfl) (yieldE_of rfl (bT hc_41)) rfl ?_
      refine TL.gno true rfl (fun d hd => by cases hd; exact ltb rfl) (yieldE_of rfl (bT hc_41)) rfl ?_
      refine TL.gno true rfl (fun d hd => by cases hd; exact ltb rfl) (yieldE_of rfl (bT hc_41)) rfl ?_
      refine TL.gno true rfl (fun d hd => by cases hd; exact ltb rfl) (yieldE_of rfl (bT hc_41)) rfl ?_
      refine TL.gno true rfl (fun d hd => by cases hd; exact ltb rfl) (yieldE_of rfl (bT hc_41)) rfl ?_
      refine TL.gno true rfl (fun d hd => by cases hd; exact ltb rfl) (yieldE_of rfl (bT hc_41)) rfl ?_
      refine TL.v (ltb rfl) (rv_pickT true (bT hc_41) rfl (v := .bool true) rfl) ?_
      refine TL.nil (hJ_40 _ ?_ ?_ ?_ ?_ ?_ ?_ ?_)
      · exact rfl
      · exact rfl
      · exact rfl
      · exact rfl
      · exact rfl
      · exact rfl
      · exact (bOt hc_41)
    · refine TL.gyes false (yieldE_of rfl (bF hc_41)) rfl ?_
      refine TL.v (ltb rfl) (rv_mv (v := v14) rfl) ?_
      refine TL.gyes false (yieldE_of rfl (bF hc_41)) rfl ?_
      refine TL.v (ltb rfl) (rv_lenI (v := v14) Try.underlying30 rfl h16.ro) ?_
      refine TL.gyes false (yieldE_of rfl (bF hc_41)) rfl ?_
      refine TL.v (ltb rfl) (rv_fa (b := b6) (o := 0) fa_25_3 rfl) ?_
      refine TL.gyes false (yieldE_of rfl (bF hc_41)) rfl ?_
      refine TL.v (ltb rfl) (rv_ld (v := v4) (o := 3) (o' := 0) (j := 3) sc_23 rfl (Src.at_ 4 rfl) (bx_cells b6 25 _) rfl rfl) ?_
      refine TL.gyes false (yieldE_of rfl (bF hc_41)) rfl ?_
      refine TL.v (ltb rfl) (rv_lenI (v := v4) Try.underlying23 rfl h5) ?_
      refine TL.gyes false (yieldE_of rfl (bF hc_41)) rfl ?_
      refine TL.v (ltb rfl) (rv_neq (k := .i64) (m := (len x13)) (n := (len a1.blocks)) rfl rfl) ?_
      refine TL.v (ltb rfl) (rv_pickF false (bF hc_41) rfl (v := .bool (decide (¬ (len x13) = (len a1.blocks)))) rfl) ?_
      refine TL.nil (hJ_40 _ ?_ ?_ ?_ ?_ ?_ ?_ ?_)
      · exact rfl
      · exact rfl
      · exact rfl
      · exact rfl
      · exact rfl
      · exact rfl
      · exact (bOf hc_41)
end Go.Proofs.Ytoflleabpkgdpaa
