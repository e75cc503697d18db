/- The walk through the program's functions: each one's pure reading, and that a call does what it says. No conditions. -/
import Derived.Test.YtoflleabpkgdpaaGb
set_option linter.unusedVariables false
set_option linter.unusedSimpArgs false
namespace Go.Proofs.Ytoflleabpkgdpaa
open Go Go.Proofs

/-! ### fettle/fettlelaw05.GraphOrders -/
abbrev fettlelaw05_GraphOrders.R (r : Bool) (v : Value) (A : List FP) : Prop := .bool r = v ∧ A = []
def fettlelaw05_GraphOrders.nx111 (x7 : Bool) (x19 : Int) (x22 : PFunc × List Int) (x33 : PFunc × List Int) : Option Bool :=
  (if x7 = true ∧ (len x22.1.blocks) = x19 then (fettleref02_SameFunc x22.1 x33.1).bind fun x46 =>
  some x46 else some false).bind fun t45 =>
  some t45
def fettlelaw05_GraphOrders.bd111 (x33 : PFunc × List Int) (x44 : Int) : Option (Ex (Ex Bool Unit) Int) :=
  if x44 < (len x33.2) then
    (idx x33.2 x44).bind fun x47 =>
    if ¬ x47 = x44 then
      some (.ret (.ret false))
    else
      some (.go (w64 (x44 + 1)))
  else
    some (.ret (.go ()))
def fettlelaw05_GraphOrders.nx83 (a1 : PFunc) (x7 : Bool) (x19 : Int) : Option Bool :=
  (graph_Trim a1).bind fun x22 =>
  (graph_Trim x22.1).bind fun x33 =>
  (whl (fun (s : Int) => fettlelaw05_GraphOrders.bd111 x33 s) FUEL 0).bind fun z =>
  match z with
    | .ret r => some r
    | .go p => fettlelaw05_GraphOrders.nx111 x7 x19 x22 x33
def fettlelaw05_GraphOrders.nx180 (x21 : Int) (x55 : Bool) : Option (Ex (Ex Bool Unit) Int) :=
  if (!x55) = true then
    some (.ret (.ret false))
  else
    some (.go (w64 (x21 + 1)))
def fettlelaw05_GraphOrders.bd180 (a1 : PFunc) (x9 : List Int) (x13 : List Bool) (x21 : Int) (x53 : Bool) (x54 : Int) : Option (Ex (Ex Bool Bool) (Bool × Int)) :=
  if x54 < x21 then
    (idx x9 x21).bind fun x56 =>
    (if x56 < 0 then some true else (idx x9 x21).bind fun x102 =>
    some (decide (x102 ≥ (len x13)))).bind fun t62 =>
    (if t62 = true then some true else (idx x9 x54).bind fun x90 =>
    (idx x9 x21).bind fun x96 =>
    some (decide (x90 = x96))).bind fun t63 =>
    (if t63 = true then some true else (idx x9 x21).bind fun x78 =>
    (idx x13 x78).bind fun x84 =>
    some (!x84)).bind fun t64 =>
    if t64 = true then
      some (.ret (.ret false))
    else
      (idx x9 x54).bind fun x65 =>
      (idx x9 x21).bind fun x71 =>
      (fettleref05_Leads a1 x65 x71).bind fun x77 =>
      some (.go ((decide (x53 = true ∨ x77 = true)), (w64 (x54 + 1))))
  else
    some (.ret (.go x53))
def fettlelaw05_GraphOrders.bd83 (a1 : PFunc) (x9 : List Int) (x13 : List Bool) (x21 : Int) : Option (Ex (Ex Bool Unit) Int) :=
  if x21 < (len x9) then
    (whl (fun (s : (Bool × Int)) => fettlelaw05_GraphOrders.bd180 a1 x9 x13 x21 s.1 s.2) FUEL ((decide (x21 = 0)), 0)).bind fun z =>
    match z with
      | .ret r => some (.ret (.ret r))
      | .go p => fettlelaw05_GraphOrders.nx180 x21 p
  else
    some (.ret (.go ()))
def fettlelaw05_GraphOrders.nx43 (a1 : PFunc) (x7 : Bool) (x9 : List Int) (x13 : List Bool) (x19 : Int) : Option Bool :=
  (if ¬ (len x9) = x19 then some true else (if x19 > 0 then (idx x9 0).bind fun x109 =>
  some (decide (¬ x109 = 0)) else some false).bind fun t108 =>
  some t108).bind fun t20 =>
  if t20 = true then
    some false
  else
    (whl (fun (s : Int) => fettlelaw05_GraphOrders.bd83 a1 x9 x13 s) FUEL 0).bind fun z =>
    match z with
      | .ret r => some r
      | .go p => fettlelaw05_GraphOrders.nx83 a1 x7 x19
def fettlelaw05_GraphOrders.jn312 (x18 : Int) (x115 : Int) : Option (Ex Int (Int × Int)) :=
  some (.go (x115, (w64 (x18 + 1))))
def fettlelaw05_GraphOrders.bd43 (x13 : List Bool) (x17 : Int) (x18 : Int) : Option (Ex Int (Int × Int)) :=
  if x18 < (len x13) then
    (idx x13 x18).bind fun x116 =>
    if x116 = true then
      fettlelaw05_GraphOrders.jn312 x18 (w64 (x17 + 1))
    else
      fettlelaw05_GraphOrders.jn312 x18 x17
  else
    some (.ret x17)
def fettlelaw05_GraphOrders (a1 : PFunc) : Option Bool :=
  (fettlelaw05_up).bind fun x7 =>
  (fettlelaw05_small a1).bind fun x8 =>
  if (!x8) = true then
    some x7
  else
    (graph_Order a1).bind fun x9 =>
    (graph_Reached a1).bind fun x13 =>
    (whl (fun (s : (Int × Int)) => fettlelaw05_GraphOrders.bd43 x13 s.1 s.2) FUEL (0, 0)).bind fun z =>
    fettlelaw05_GraphOrders.nx43 a1 x7 x9 x13 z
set_option maxHeartbeats 4000000 in
theorem fettlelaw05_GraphOrders_ok {E : World} {H : FP} {w : World} {a1 : PFunc} {v2 : Value} {v4 : Value} {r : Bool} (h3 : SlI (kInt .i64) H a1.regs v2) (h5 : SlI kBlock H a1.blocks v4) (hp : fettlelaw05_GraphOrders a1 = some r) (hst : St E H [] w) :
    Fn Try.prog 8 #[.agg #[.int .i64 a1.params, .int .i64 a1.result, v2, v4]] w fun v w' => ∃ A, fettlelaw05_GraphOrders.R r v A ∧ St E H A w' := by
  refine Fn.body (fn := Try.f8) (args := [.agg #[.int .i64 a1.params, .int .i64 a1.result, v2, v4]]) E H [] [.tmp 2] 153 Try.func8 rfl rfl rfl rfl (leb rfl) hst ?_
  unfold fettlelaw05_GraphOrders at hp
  refine TC.seq fun K_1 hK_2 => ?_
  refine TC.region ?_
  refine TL.box (cs := [.int .i64 a1.params, .int .i64 a1.result, v2, v4]) (v := .agg #[.int .i64 a1.params, .int .i64 a1.result, v2, v4]) (ltb rfl) rfl rfl fun b6 => ?_
  refine TL.v (ltb rfl) (rv_as (v := .bool false) rfl) ?_
  refine TL.nil ?_
  refine TC.go hK_2 ?_
  refine TC.seq fun K_3 hK_4 => ?_
  refine TC.region ?_
  obtain ⟨x7, hy_5, hp⟩ := bind_some' hp
  refine TL.callC (vs := []) (R := fettlelaw05_up.R x7) [] [bx b6 25 [.int .i64 a1.params, .int .i64 a1.result, v2, v4]] rfl cb_16 (ltb rfl) m0 (fun w hw => fettlelaw05_up_ok hy_5 hw) fun v A' hR_6 => ?_
  obtain ⟨rfl, rfl⟩ := hR_6
  refine TL.norm (L' := [bx b6 25 [.int .i64 a1.params, .int .i64 a1.result, v2, v4]]) rfl ?_
  refine TL.v (ltb rfl) (rv_as (v := .bool x7) rfl) ?_
  refine TL.nil ?_
  refine TC.go hK_4 ?_
  refine TC.seq fun K_7 hK_8 => ?_
  refine TC.region ?_
  refine TL.v (ltb rfl) (rv_lda (o := 0) (o' := 0) (j := 0) (ds := [.int .i64 a1.params, .int .i64 a1.result, v2, v4]) ag_25 rfl (Src.at_ 0 rfl) (bx_cells b6 25 _) rfl rfl rfl) ?_
  obtain ⟨x8, hy_9, hp⟩ := bind_some' hp
  refine TL.callC (vs := [.agg #[.int .i64 a1.params, .int .i64 a1.result, v2, v4]]) (R := fettlelaw05_small.R x8) [] [bx b6 25 [.int .i64 a1.params, .int .i64 a1.result, v2, v4]] rfl cb_17 (ltb rfl) (mc rfl m0) (fun w hw => fettlelaw05_small_ok (a1 := a1) (h3.mono subH) (h5.mono subH) hy_9 hw) fun v A' hR_10 => ?_
  obtain ⟨rfl, rfl⟩ := hR_10
  refine TL.norm (L' := [bx b6 25 [.int .i64 a1.params, .int .i64 a1.result, v2, v4]]) rfl ?_
  refine TL.v (ltb rfl) (rv_as (v := .bool x8) rfl) ?_
  refine TL.nil ?_
  refine TC.go hK_8 ?_
  refine TC.seq fun K_11 hK_12 => ?_
  refine TC.seq fun K_13 hK_14 => ?_
  refine TC.region ?_
  refine TL.v (ltb rfl) (rv_mv (v := .bool x8) rfl) ?_
  refine TL.v (ltb rfl) (rv_not (b := x8) rfl) ?_
  refine TL.nil ?_
  refine TC.go hK_14 ?_
  by_cases hc_15 : (!x8) = true
  · rw [if_pos hc_15] at hp
    refine TC.condT (bbT hc_15) ?_
    refine TC.seq fun K_16 hK_17 => ?_
    refine TC.region ?_
    refine TL.v (ltb rfl) (rv_mv (v := .bool x7) rfl) ?_
    refine TL.v (ltb rfl) (rv_as (v := .bool x7) rfl) ?_
    refine TL.nil ?_
    refine TC.go hK_17 ?_
    refine TC.ret ?_
    obtain rfl := Option.some.inj hp
    exact fun w hw => retOk ⟨rfl, rfl⟩ (hw.pick [])
  · rw [if_neg hc_15] at hp
    refine TC.condF (bbF hc_15) ?_
    refine TC.skip ?_
    refine TC.go hK_12 ?_
    refine TC.seq fun K_18 hK_19 => ?_
    refine TC.region ?_
    refine TL.v (ltb rfl) (rv_lda (o := 0) (o' := 0) (j := 0) (ds := [.int .i64 a1.params, .int .i64 a1.result, v2, v4]) ag_25 rfl (Src.at_ 0 rfl) (bx_cells b6 25 _) rfl rfl rfl) ?_
    obtain ⟨x9, hy_20, hp⟩ := bind_some' hp
    refine TL.callC (vs := [.agg #[.int .i64 a1.params, .int .i64 a1.result, v2, v4]]) (R := graph_Order.R x9) [] [bx b6 25 [.int .i64 a1.params, .int .i64 a1.result, v2, v4]] rfl cb_20 (ltb rfl) (mc rfl m0) (fun w hw => graph_Order_ok (a1 := a1) (h3.mono subH) (h5.mono subH) hy_20 hw) fun v A' hR_21 => ?_
    obtain ⟨v10, F11, rfl, rfl, h12⟩ := hR_21
    refine TL.norm (L' := [F11, bx b6 25 [.int .i64 a1.params, .int .i64 a1.result, v2, v4]]) rfl ?_
    refine TL.v (ltb rfl) (rv_as (v := v10) rfl) ?_
    refine TL.nil ?_
    refine TC.go hK_19 ?_
    refine TC.seq fun K_22 hK_23 => ?_
    refine TC.region ?_
    refine TL.v (ltb rfl) (rv_lda (o := 0) (o' := 0) (j := 0) (ds := [.int .i64 a1.params, .int .i64 a1.result, v2, v4]) ag_25 rfl (Src.at_ 1 rfl) (bx_cells b6 25 _) rfl rfl rfl) ?_
    obtain ⟨x13, hy_24, hp⟩ := bind_some' hp
    refine TL.callC (vs := [.agg #[.int .i64 a1.params, .int .i64 a1.result, v2, v4]]) (R := graph_Reached.R x13) [] [F11, bx b6 25 [.int .i64 a1.params, .int .i64 a1.result, v2, v4]] rfl cb_19 (ltb rfl) (mc rfl m0) (fun w hw => graph_Reached_ok (a1 := a1) (h3.mono subH) (h5.mono subH) hy_24 hw) fun v A' hR_25 => ?_
    obtain ⟨v14, F15, rfl, rfl, h16⟩ := hR_25
    refine TL.norm (L' := [F15, F11, bx b6 25 [.int .i64 a1.params, .int .i64 a1.result, v2, v4]]) rfl ?_
    refine TL.v (ltb rfl) (rv_as (v := v14) rfl) ?_
    refine TL.nil ?_
    refine TC.go hK_23 ?_
    refine TC.seq fun K_26 hK_27 => ?_
    refine TC.region ?_
    refine TL.v (ltb rfl) (rv_as (v := .int .i64 0) rfl) ?_
    refine TL.nil ?_
    refine TC.go hK_27 ?_
    refine TC.seq fun K_28 hK_29 => ?_
    refine TC.seq fun K_30 hK_31 => ?_
    refine TC.region ?_
    refine TL.v (ltb rfl) (rv_as (v := .int .i64 0) rfl) ?_
    refine TL.nil ?_
    refine TC.go hK_31 ?_
    refine TC.block ?_
    obtain ⟨z_39, hz_40, hr_41⟩ := bind_some' hp
    clear hp
    have hJ_296 : ∀ (x19 : Int) (e_44 : Env) (h_45 : e_44 1 = .pointer (some ⟨b6, 0, none⟩)) (h_46 : e_44 3 = .bool x7) (h_47 : e_44 5 = v10) (h_48 : e_44 6 = v14) (h_49 : e_44 7 = .int .i64 x19) (hq_297 : x19 = z_39), ∀ w, St E H [bx b6 25 [.int .i64 a1.params, .int .i64 a1.result, v2, v4], F11, F15] w → K_28 e_44 w := by
      intro x19 e_44 h_45 h_46 h_47 h_48 h_49 hq_297
      subst hq_297
      replace hp : fettlelaw05_GraphOrders.nx43 a1 x7 x9 x13 x19 = some r := hr_41
      unfold fettlelaw05_GraphOrders.nx43 at hp
      refine TC.go hK_29 ?_
      refine TC.seq fun K_50 hK_51 => ?_
      refine TC.seq fun K_52 hK_53 => ?_
      refine TC.region ?_
      refine TL.v (ltb rfl) (rv_mv (v := v10) h_47) ?_
      refine TL.v (ltb rfl) (rv_lenI (v := v10) Try.underlying22 rfl h12.ro) ?_
      refine TL.v (ltb rfl) (rv_mv (v := .int .i64 x19) h_49) ?_
      refine TL.v (ltb rfl) (rv_neq (k := .i64) (m := (len x9)) (n := x19) rfl rfl) ?_
      refine TL.v (ltb rfl) (rv_mv (v := .bool (decide (¬ (len x9) = x19))) rfl) ?_
      obtain ⟨t20, ht_281, hp⟩ := bind_some' hp
      refine TL.cut 9 fun K_54 hK_55 => ?_
      have hJ_56 : ∀ e_58 : Env, e_58 1 = .pointer (some ⟨b6, 0, none⟩) → e_58 3 = .bool x7 → e_58 5 = v10 → e_58 6 = v14 → e_58 7 = .int .i64 x19 → e_58 53 = .bool t20 → ∀ w, St E H [bx b6 25 [.int .i64 a1.params, .int .i64 a1.result, v2, v4], F11, F15] w → K_54 e_58 w := by
        intro e_58 h_59 h_60 h_61 h_62 h_63 h_64
        refine TL.go hK_55 ?_
        refine TL.nil ?_
        refine TC.go hK_53 ?_
        by_cases hc_65 : t20 = true
        · rw [if_pos hc_65] at hp
          refine TC.condT (h_64.trans (bbT hc_65)) ?_
          refine TC.seq fun K_66 hK_67 => ?_
          refine TC.region ?_
          refine TL.v (ltb rfl) (rv_as (v := .bool false) rfl) ?_
          refine TL.nil ?_
          refine TC.go hK_67 ?_
          refine TC.ret ?_
          obtain rfl := Option.some.inj hp
          exact fun w hw => retOk ⟨rfl, rfl⟩ (hw.pick [])
        · rw [if_neg hc_65] at hp
          refine TC.condF (h_64.trans (bbF hc_65)) ?_
          refine TC.skip ?_
          refine TC.go hK_51 ?_
          refine TC.seq fun K_68 hK_69 => ?_
          refine TC.seq fun K_70 hK_71 => ?_
          refine TC.region ?_
          refine TL.v (ltb rfl) (rv_as (v := .int .i64 0) rfl) ?_
          refine TL.nil ?_
          refine TC.go hK_71 ?_
          refine TC.block ?_
          obtain ⟨z_79, hz_80, hr_81⟩ := bind_some' hp
          clear hp
          have hJ_152 : ∀ (e_84 : Env) (h_85 : e_84 1 = .pointer (some ⟨b6, 0, none⟩)) (h_86 : e_84 3 = .bool x7) (h_87 : e_84 7 = .int .i64 x19) (hq_153 : .go () = z_79), ∀ w, St E H [bx b6 25 [.int .i64 a1.params, .int .i64 a1.result, v2, v4]] w → K_68 e_84 w := by
            intro e_84 h_85 h_86 h_87 hq_153
            subst hq_153
            replace hp : fettlelaw05_GraphOrders.nx83 a1 x7 x19 = some r := hr_81
            unfold fettlelaw05_GraphOrders.nx83 at hp
            refine TC.go hK_69 ?_
            refine TC.seq fun K_88 hK_89 => ?_
            refine TC.region ?_
            refine TL.v (ltb rfl) (rv_lda (o := 0) (o' := 0) (j := 0) (ds := [.int .i64 a1.params, .int .i64 a1.result, v2, v4]) ag_25 h_85 (Src.at_ 0 rfl) (bx_cells b6 25 _) rfl rfl rfl) ?_
            obtain ⟨x22, hy_90, hp⟩ := bind_some' hp
            refine TL.callC (vs := [.agg #[.int .i64 a1.params, .int .i64 a1.result, v2, v4]]) (R := graph_Trim.R x22) [] [bx b6 25 [.int .i64 a1.params, .int .i64 a1.result, v2, v4]] rfl cb_42 (ltb rfl) (mc rfl m0) (fun w hw => graph_Trim_ok (a1 := a1) (h3.mono subH) (h5.mono subH) hy_90 hw) fun v A' hR_91 => ?_
            obtain ⟨v23, F24, v26, F27, v29, F30, rfl, rfl, h25, h28, h31⟩ := hR_91
            refine TL.norm (L' := [F24, F27, F30, bx b6 25 [.int .i64 a1.params, .int .i64 a1.result, v2, v4]]) rfl ?_
            refine TL.v (ltb rfl) (rv_mv (v := .tuple #[.agg #[.int .i64 x22.1.params, .int .i64 x22.1.result, v23, v26], v29]) rfl) ?_
            refine TL.v (ltb rfl) (rv_extract (vs := #[.agg #[.int .i64 x22.1.params, .int .i64 x22.1.result, v23, v26], v29]) (v := .agg #[.int .i64 x22.1.params, .int .i64 x22.1.result, v23, v26]) rfl rfl) ?_
            refine TL.v (ltb rfl) (rv_extract (vs := #[.agg #[.int .i64 x22.1.params, .int .i64 x22.1.result, v23, v26], v29]) (v := v29) rfl rfl) ?_
            refine TL.alloc (cs := [.int .i64 0, .int .i64 0, .slice none 0 0, .slice none 0 0]) inf_25 (ltb rfl) rfl fun b32 => ?_
            refine TL.stB (ds := [.int .i64 x22.1.params, .int .i64 x22.1.result, v23, v26]) (o := 0) (cs := [.int .i64 0, .int .i64 0, .slice none 0 0, .slice none 0 0]) (b := b32) (u := .agg #[.int .i64 x22.1.params, .int .i64 x22.1.result, v23, v26]) 0 rfl ms_25 rfl rfl rfl (oc rfl (oc rfl (oc (h25).one (oc (h28).one oc0)))) (leb rfl) ?_
            refine TL.norm (L' := [bx b32 25 [.int .i64 x22.1.params, .int .i64 x22.1.result, v23, v26], F24, F27, F30, bx b6 25 [.int .i64 a1.params, .int .i64 a1.result, v2, v4]]) rfl ?_
            refine TL.v (ltb rfl) (rv_as (v := v29) rfl) ?_
            refine TL.nil ?_
            refine TC.go hK_89 ?_
            refine TC.seq fun K_92 hK_93 => ?_
            refine TC.region ?_
            refine TL.v (ltb rfl) (rv_lda (o := 0) (o' := 0) (j := 0) (ds := [.int .i64 x22.1.params, .int .i64 x22.1.result, v23, v26]) ag_25 rfl (Src.at_ 0 rfl) (bx_cells b32 25 _) rfl rfl rfl) ?_
            obtain ⟨x33, hy_94, hp⟩ := bind_some' hp
            refine TL.callC (vs := [.agg #[.int .i64 x22.1.params, .int .i64 x22.1.result, v23, v26]]) (R := graph_Trim.R x33) [] [bx b32 25 [.int .i64 x22.1.params, .int .i64 x22.1.result, v23, v26], F24, F27, F30, bx b6 25 [.int .i64 a1.params, .int .i64 a1.result, v2, v4]] rfl cb_42 (ltb rfl) (mc rfl m0) (fun w hw => graph_Trim_ok (a1 := x22.1) (h25.ro.mono (subB 1 rfl)) (h28.ro.mono (subB 2 rfl)) hy_94 hw) fun v A' hR_95 => ?_
            obtain ⟨v34, F35, v37, F38, v40, F41, rfl, rfl, h36, h39, h42⟩ := hR_95
            refine TL.norm (L' := [F35, F38, F41, bx b32 25 [.int .i64 x22.1.params, .int .i64 x22.1.result, v23, v26], F24, F27, F30, bx b6 25 [.int .i64 a1.params, .int .i64 a1.result, v2, v4]]) rfl ?_
            refine TL.v (ltb rfl) (rv_mv (v := .tuple #[.agg #[.int .i64 x33.1.params, .int .i64 x33.1.result, v34, v37], v40]) rfl) ?_
            refine TL.v (ltb rfl) (rv_extract (vs := #[.agg #[.int .i64 x33.1.params, .int .i64 x33.1.result, v34, v37], v40]) (v := .agg #[.int .i64 x33.1.params, .int .i64 x33.1.result, v34, v37]) rfl rfl) ?_
            refine TL.v (ltb rfl) (rv_extract (vs := #[.agg #[.int .i64 x33.1.params, .int .i64 x33.1.result, v34, v37], v40]) (v := v40) rfl rfl) ?_
            refine TL.alloc (cs := [.int .i64 0, .int .i64 0, .slice none 0 0, .slice none 0 0]) inf_25 (ltb rfl) rfl fun b43 => ?_
            refine TL.stB (ds := [.int .i64 x33.1.params, .int .i64 x33.1.result, v34, v37]) (o := 0) (cs := [.int .i64 0, .int .i64 0, .slice none 0 0, .slice none 0 0]) (b := b43) (u := .agg #[.int .i64 x33.1.params, .int .i64 x33.1.result, v34, v37]) 0 rfl ms_25 rfl rfl rfl (oc rfl (oc rfl (oc (h36).one (oc (h39).one oc0)))) (leb rfl) ?_
            refine TL.norm (L' := [bx b43 25 [.int .i64 x33.1.params, .int .i64 x33.1.result, v34, v37], F35, F38, F41, bx b32 25 [.int .i64 x22.1.params, .int .i64 x22.1.result, v23, v26], F24, F27, F30, bx b6 25 [.int .i64 a1.params, .int .i64 a1.result, v2, v4]]) rfl ?_
            refine TL.v (ltb rfl) (rv_as (v := v40) rfl) ?_
            refine TL.nil ?_
            refine TC.go hK_93 ?_
            refine TC.seq fun K_96 hK_97 => ?_
            refine TC.seq fun K_98 hK_99 => ?_
            refine TC.region ?_
            refine TL.v (ltb rfl) (rv_as (v := .int .i64 0) rfl) ?_
            refine TL.nil ?_
            refine TC.go hK_99 ?_
            refine TC.block ?_
            obtain ⟨z_107, hz_108, hr_109⟩ := bind_some' hp
            clear hp
            have hJ_136 : ∀ (e_112 : Env) (h_113 : e_112 3 = .bool x7) (h_114 : e_112 7 = .int .i64 x19) (h_115 : e_112 13 = .pointer (some ⟨b32, 0, none⟩)) (h_116 : e_112 15 = .pointer (some ⟨b43, 0, none⟩)) (hq_137 : .go () = z_107), ∀ w, St E H [bx b32 25 [.int .i64 x22.1.params, .int .i64 x22.1.result, v23, v26], F24, F27, bx b43 25 [.int .i64 x33.1.params, .int .i64 x33.1.result, v34, v37], F35, F38] w → K_96 e_112 w := by
              intro e_112 h_113 h_114 h_115 h_116 hq_137
              subst hq_137
              replace hp : fettlelaw05_GraphOrders.nx111 x7 x19 x22 x33 = some r := hr_109
              unfold fettlelaw05_GraphOrders.nx111 at hp
              refine TC.go hK_97 ?_
              refine TC.seq fun K_117 hK_118 => ?_
              refine TC.region ?_
              refine TL.v (ltb rfl) (rv_mv (v := .bool x7) h_113) ?_
              refine TL.v (ltb rfl) (rv_mv (v := .bool x7) rfl) ?_
              refine TL.cut 6 fun K_119 hK_120 => ?_
              have hJ_121 : ∀ e_123 : Env, e_123 13 = .pointer (some ⟨b32, 0, none⟩) → e_123 15 = .pointer (some ⟨b43, 0, none⟩) → e_123 147 = .bool (decide (x7 = true ∧ (len x22.1.blocks) = x19)) → ∀ w, St E H [bx b32 25 [.int .i64 x22.1.params, .int .i64 x22.1.result, v23, v26], F24, F27, bx b43 25 [.int .i64 x33.1.params, .int .i64 x33.1.result, v34, v37], F35, F38] w → K_119 e_123 w := by
                intro e_123 h_124 h_125 h_126
                refine TL.go hK_120 ?_
                refine TL.v (ltb rfl) (rv_mv (v := .bool (decide (x7 = true ∧ (len x22.1.blocks) = x19))) h_126) ?_
                obtain ⟨t45, ht_133, hp⟩ := bind_some' hp
                refine TL.cut 4 fun K_127 hK_128 => ?_
                have hJ_129 : ∀ e_131 : Env, e_131 152 = .bool t45 → ∀ w, St E H [bx b32 25 [.int .i64 x22.1.params, .int .i64 x22.1.result, v23, v26], F24, F27, bx b43 25 [.int .i64 x33.1.params, .int .i64 x33.1.result, v34, v37], F35, F38] w → K_127 e_131 w := by
                  intro e_131 h_132
                  refine TL.go hK_128 ?_
                  refine TL.v (ltb rfl) (rv_as (v := .bool t45) h_132) ?_
                  refine TL.nil ?_
                  refine TC.go hK_118 ?_
                  refine TC.ret ?_
                  obtain rfl := Option.some.inj hp
                  exact fun w hw => retOk ⟨rfl, rfl⟩ (hw.pick [])
                clear hp
                have hp := ht_133
                clear ht_133
                by_cases hc_130 : x7 = true ∧ (len x22.1.blocks) = x19
                · rw [if_pos hc_130] at hp
                  refine TL.gyes true (yieldE_of rfl (bT hc_130)) rfl ?_
                  refine TL.v (ltb rfl) (rv_lda (o := 0) (o' := 0) (j := 0) (ds := [.int .i64 x22.1.params, .int .i64 x22.1.result, v23, v26]) ag_25 h_124 (Src.at_ 0 rfl) (bx_cells b32 25 _) rfl rfl rfl) ?_
                  refine TL.gyes true (yieldE_of rfl (bT hc_130)) rfl ?_
                  refine TL.v (ltb rfl) (rv_lda (o := 0) (o' := 0) (j := 0) (ds := [.int .i64 x33.1.params, .int .i64 x33.1.result, v34, v37]) ag_25 h_125 (Src.at_ 3 rfl) (bx_cells b43 25 _) rfl rfl rfl) ?_
                  refine TL.gyes true (yieldE_of rfl (bT hc_130)) rfl ?_
                  obtain ⟨x46, hy_134, hp⟩ := bind_some' hp
                  refine TL.callC (vs := [.agg #[.int .i64 x22.1.params, .int .i64 x22.1.result, v23, v26], .agg #[.int .i64 x33.1.params, .int .i64 x33.1.result, v34, v37]]) (R := fettleref02_SameFunc.R x46) [] [bx b32 25 [.int .i64 x22.1.params, .int .i64 x22.1.result, v23, v26], F24, F27, bx b43 25 [.int .i64 x33.1.params, .int .i64 x33.1.result, v34, v37], F35, F38] rfl cb_44 (ltb rfl) (mc rfl (mc rfl m0)) (fun w hw => fettleref02_SameFunc_ok (a1 := x22.1) (a6 := x33.1) (h25.ro.mono (subB 1 rfl)) (h28.ro.mono (subB 2 rfl)) (h36.ro.mono (subB 4 rfl)) (h39.ro.mono (subB 5 rfl)) hy_134 hw) fun v A' hR_135 => ?_
                  obtain ⟨rfl, rfl⟩ := hR_135
                  refine TL.norm (L' := [bx b32 25 [.int .i64 x22.1.params, .int .i64 x22.1.result, v23, v26], F24, F27, bx b43 25 [.int .i64 x33.1.params, .int .i64 x33.1.result, v34, v37], F35, F38]) rfl ?_
                  refine TL.v (ltb rfl) (rv_pickT true (bT hc_130) rfl (v := .bool x46) rfl) ?_
                  obtain rfl := Option.some.inj hp
                  refine TL.nil (hJ_129 _ ?_)
                  · exact rfl
                · rw [if_neg hc_130] at hp
                  refine TL.gno false rfl (fun d hd => by cases hd; exact ltb rfl) (yieldE_of rfl (bF hc_130)) rfl ?_
                  refine TL.gno false rfl (fun d hd => by cases hd; exact ltb rfl) (yieldE_of rfl (bF hc_130)) rfl ?_
                  refine TL.gno false rfl (fun d hd => by cases hd; exact ltb rfl) (yieldE_of rfl (bF hc_130)) rfl ?_
                  refine TL.v (ltb rfl) (rv_pickF false (bF hc_130) rfl (v := .bool false) rfl) ?_
                  obtain rfl := Option.some.inj hp
                  refine TL.nil (hJ_129 _ ?_)
                  · exact rfl
              by_cases hc_122 : x7 = true
              · refine TL.gyes true (yieldE_of rfl (bbT hc_122)) rfl ?_
                refine TL.v (ltb rfl) (rv_fa (b := b32) (o := 0) fa_25_3 h_115) ?_
                refine TL.gyes true (yieldE_of rfl (bbT hc_122)) rfl ?_
                refine TL.v (ltb rfl) (rv_ld (v := v26) (o := 3) (o' := 0) (j := 3) sc_23 rfl (Src.at_ 0 rfl) (bx_cells b32 25 _) rfl rfl) ?_
                refine TL.gyes true (yieldE_of rfl (bbT hc_122)) rfl ?_
                refine TL.v (ltb rfl) (rv_lenI (v := v26) Try.underlying23 rfl h28.ro) ?_
                refine TL.gyes true (yieldE_of rfl (bbT hc_122)) rfl ?_
                refine TL.v (ltb rfl) (rv_mv (v := .int .i64 x19) h_114) ?_
                refine TL.gyes true (yieldE_of rfl (bbT hc_122)) rfl ?_
                refine TL.v (ltb rfl) (rv_eql (k := .i64) (m := (len x22.1.blocks)) (n := x19) rfl rfl) ?_
                refine TL.v (ltb rfl) (rv_pickT true (bbT hc_122) rfl (v := .bool (decide ((len x22.1.blocks) = x19))) rfl) ?_
                refine TL.nil (hJ_121 _ ?_ ?_ ?_)
                · exact h_115
                · exact h_116
                · exact (bAt hc_122)
              · refine TL.gno false rfl (fun d hd => by cases hd; exact ltb rfl) (yieldE_of rfl (bbF hc_122)) rfl ?_
                refine TL.gno false rfl (fun d hd => by cases hd; exact ltb rfl) (yieldE_of rfl (bbF hc_122)) rfl ?_
                refine TL.gno false rfl (fun d hd => by cases hd; exact ltb rfl) (yieldE_of rfl (bbF hc_122)) rfl ?_
                refine TL.gno false rfl (fun d hd => by cases hd; exact ltb rfl) (yieldE_of rfl (bbF hc_122)) rfl ?_
                refine TL.gno false rfl (fun d hd => by cases hd; exact ltb rfl) (yieldE_of rfl (bbF hc_122)) rfl ?_
                refine TL.v (ltb rfl) (rv_pickF false (bbF hc_122) rfl (v := .bool false) rfl) ?_
                refine TL.nil (hJ_121 _ ?_ ?_ ?_)
                · exact h_115
                · exact h_116
                · exact (bAf hc_122)
            refine TC.pk' [4, 4, 4, 0, 0, 0, 0] (L' := [bx b32 25 [.int .i64 x22.1.params, .int .i64 x22.1.result, v23, v26], F24, F27, bx b43 25 [.int .i64 x33.1.params, .int .i64 x33.1.result, v34, v37], F35, F38, F41]) rfl ?_
            refine TC.loopW (r := z_107) (fun (x44 : Int) (e_100 : Env) (L_151 : List FP) => e_100 3 = .bool x7 ∧ e_100 7 = .int .i64 x19 ∧ e_100 13 = .pointer (some ⟨b32, 0, none⟩) ∧ e_100 15 = .pointer (some ⟨b43, 0, none⟩) ∧ e_100 16 = v40 ∧ e_100 17 = .int .i64 x44 ∧ L_151 = [bx b32 25 [.int .i64 x22.1.params, .int .i64 x22.1.result, v23, v26], F24, F27, bx b43 25 [.int .i64 x33.1.params, .int .i64 x33.1.result, v34, v37], F35, F38, F41]) ?_ FUEL _ _ _ hz_108 ⟨h_86, h_87, rfl, rfl, rfl, rfl, rfl⟩
            rintro x44 e_100 L_151 ⟨h_101, h_102, h_103, h_104, h_105, h_106, rfl⟩ x_110 hp hx_111
            replace hp : fettlelaw05_GraphOrders.bd111 x33 x44 = some x_110 := hp
            unfold fettlelaw05_GraphOrders.bd111 at hp
            refine TC.seq fun K_138 hK_139 => ?_
            refine TC.seq fun K_140 hK_141 => ?_
            refine TC.region ?_
            refine TL.v (ltb rfl) (rv_mv (v := .int .i64 x44) h_106) ?_
            refine TL.v (ltb rfl) (rv_mv (v := v40) h_105) ?_
            refine TL.v (ltb rfl) (rv_lenI (v := v40) Try.underlying22 rfl h42.ro) ?_
            refine TL.v (ltb rfl) (rv_lss (k := .i64) (m := x44) (n := (len x33.2)) rfl rfl) ?_
            refine TL.nil ?_
            refine TC.go hK_141 ?_
            by_cases hc_142 : x44 < (len x33.2)
            · rw [if_pos hc_142] at hp
              refine TC.condT (bT hc_142) ?_
              refine TC.skip ?_
              refine TC.go hK_139 ?_
              refine TC.seq fun K_143 hK_144 => ?_
              refine TC.block ?_
              refine TC.seq fun K_145 hK_146 => ?_
              refine TC.region ?_
              refine TL.v (ltb rfl) (rv_mv (v := v40) h_105) ?_
              refine TL.v (ltb rfl) (rv_mv (v := .int .i64 x44) h_106) ?_
              obtain ⟨x47, hx_147, hp⟩ := bind_some' hp
              refine TL.v3 (ltb rfl) (rv_ix 22 (.tmp 134) (.tmp 135) (v := v40) (i := x44) Try.underlying22 inf_3 rfl rfl rfl (h42).ro hx_147) fun b48 o49 c50 h51 h52 => ?_
              obtain rfl := h51
              refine TL.v (ltb rfl) (rv_ld (v := .int .i64 x47) (o := o49) (o' := o49) (j := 0) sc_3 rfl (Src.at_ 6 rfl) h52 rfl rfl) ?_
              refine TL.v (ltb rfl) (rv_mv (v := .int .i64 x44) h_106) ?_
              refine TL.v (ltb rfl) (rv_neq (k := .i64) (m := x47) (n := x44) rfl rfl) ?_
              refine TL.nil ?_
              refine TC.go hK_146 ?_
              by_cases hc_148 : ¬ x47 = x44
              · rw [if_pos hc_148] at hp
                refine TC.condT (bT hc_148) ?_
                refine TC.seq fun K_149 hK_150 => ?_
                refine TC.region ?_
                refine TL.v (ltb rfl) (rv_as (v := .bool false) rfl) ?_
                refine TL.nil ?_
                refine TC.go hK_150 ?_
                refine TC.ret ?_
                obtain rfl := ex_ret hp hx_111
                obtain rfl := Option.some.inj hr_109
                exact fun w hw => retOk ⟨rfl, rfl⟩ (hw.pick [])
              · rw [if_neg hc_148] at hp
                refine TC.condF (bF hc_148) ?_
                refine TC.skip ?_
                refine TC.go hK_144 ?_
                refine TC.region ?_
                refine TL.v (ltb rfl) (rv_mv (v := .int .i64 x44) h_106) ?_
                refine TL.v (ltb rfl) (rv_add (k := .i64) (m := x44) (n := 1) rfl rfl) ?_
                refine TL.v (ltb rfl) (rv_as (v := .int .i64 (w64 (x44 + 1))) rfl) ?_
                refine TL.nil ?_
                exact fun w hw => goOk hp ⟨h_101, h_102, h_103, h_104, h_105, rfl, rfl⟩ (hw.pick [0, 0, 0, 0, 0, 0, 0])
            · rw [if_neg hc_142] at hp
              refine TC.condF (bF hc_142) ?_
              refine TC.exit ?_
              refine fun w hw => hJ_136 _ ?_ ?_ ?_ ?_ (ex_ret hp hx_111) w (hw.pick [0, 0, 0, 0, 0, 0])
              · exact h_101
              · exact h_102
              · exact h_103
              · exact h_104
          refine TC.pk' [0, 0, 0] (L' := [bx b6 25 [.int .i64 a1.params, .int .i64 a1.result, v2, v4], F11, F15]) rfl ?_
          refine TC.loopW (r := z_79) (fun (x21 : Int) (e_72 : Env) (L_280 : List FP) => e_72 1 = .pointer (some ⟨b6, 0, none⟩) ∧ e_72 3 = .bool x7 ∧ e_72 5 = v10 ∧ e_72 6 = v14 ∧ e_72 7 = .int .i64 x19 ∧ e_72 9 = .int .i64 x21 ∧ L_280 = [bx b6 25 [.int .i64 a1.params, .int .i64 a1.result, v2, v4], F11, F15]) ?_ FUEL _ _ _ hz_80 ⟨h_59, h_60, h_61, h_62, h_63, rfl, rfl⟩
          rintro x21 e_72 L_280 ⟨h_73, h_74, h_75, h_76, h_77, h_78, rfl⟩ x_82 hp hx_83
          replace hp : fettlelaw05_GraphOrders.bd83 a1 x9 x13 x21 = some x_82 := hp
          unfold fettlelaw05_GraphOrders.bd83 at hp
          refine TC.seq fun K_154 hK_155 => ?_
          refine TC.seq fun K_156 hK_157 => ?_
          refine TC.region ?_
          refine TL.v (ltb rfl) (rv_mv (v := .int .i64 x21) h_78) ?_
          refine TL.v (ltb rfl) (rv_mv (v := v10) h_75) ?_
          refine TL.v (ltb rfl) (rv_lenI (v := v10) Try.underlying22 rfl h12.ro) ?_
          refine TL.v (ltb rfl) (rv_lss (k := .i64) (m := x21) (n := (len x9)) rfl rfl) ?_
          refine TL.nil ?_
          refine TC.go hK_157 ?_
          by_cases hc_158 : x21 < (len x9)
          · rw [if_pos hc_158] at hp
            refine TC.condT (bT hc_158) ?_
            refine TC.skip ?_
            refine TC.go hK_155 ?_
            refine TC.seq fun K_159 hK_160 => ?_
            refine TC.block ?_
            refine TC.seq fun K_161 hK_162 => ?_
            refine TC.region ?_
            refine TL.v (ltb rfl) (rv_mv (v := .int .i64 x21) h_78) ?_
            refine TL.v (ltb rfl) (rv_eql (k := .i64) (m := x21) (n := 0) rfl rfl) ?_
            refine TL.v (ltb rfl) (rv_as (v := .bool (decide (x21 = 0))) rfl) ?_
            refine TL.nil ?_
            refine TC.go hK_162 ?_
            refine TC.seq fun K_163 hK_164 => ?_
            refine TC.seq fun K_165 hK_166 => ?_
            refine TC.region ?_
            refine TL.v (ltb rfl) (rv_as (v := .int .i64 0) rfl) ?_
            refine TL.nil ?_
            refine TC.go hK_166 ?_
            refine TC.block ?_
            obtain ⟨z_176, hz_177, hr_178⟩ := bind_some' hp
            clear hp
            have hJ_194 : ∀ (x55 : Bool) (e_181 : Env) (h_182 : e_181 1 = .pointer (some ⟨b6, 0, none⟩)) (h_183 : e_181 3 = .bool x7) (h_184 : e_181 5 = v10) (h_185 : e_181 6 = v14) (h_186 : e_181 7 = .int .i64 x19) (h_187 : e_181 9 = .int .i64 x21) (h_188 : e_181 10 = .bool x55) (hq_195 : .go x55 = z_176), ∀ w, St E H [bx b6 25 [.int .i64 a1.params, .int .i64 a1.result, v2, v4], F11, F15] w → K_163 e_181 w := by
              intro x55 e_181 h_182 h_183 h_184 h_185 h_186 h_187 h_188 hq_195
              subst hq_195
              replace hp : fettlelaw05_GraphOrders.nx180 x21 x55 = some x_82 := hr_178
              unfold fettlelaw05_GraphOrders.nx180 at hp
              refine TC.go hK_164 ?_
              refine TC.seq fun K_189 hK_190 => ?_
              refine TC.region ?_
              refine TL.v (ltb rfl) (rv_mv (v := .bool x55) h_188) ?_
              refine TL.v (ltb rfl) (rv_not (b := x55) rfl) ?_
              refine TL.nil ?_
              refine TC.go hK_190 ?_
              by_cases hc_191 : (!x55) = true
              · rw [if_pos hc_191] at hp
                refine TC.condT (bbT hc_191) ?_
                refine TC.seq fun K_192 hK_193 => ?_
                refine TC.region ?_
                refine TL.v (ltb rfl) (rv_as (v := .bool false) rfl) ?_
                refine TL.nil ?_
                refine TC.go hK_193 ?_
                refine TC.ret ?_
                obtain rfl := ex_ret hp hx_83
                obtain rfl := Option.some.inj hr_81
                exact fun w hw => retOk ⟨rfl, rfl⟩ (hw.pick [])
              · rw [if_neg hc_191] at hp
                refine TC.condF (bbF hc_191) ?_
                refine TC.skip ?_
                refine TC.go hK_160 ?_
                refine TC.region ?_
                refine TL.v (ltb rfl) (rv_mv (v := .int .i64 x21) h_187) ?_
                refine TL.v (ltb rfl) (rv_add (k := .i64) (m := x21) (n := 1) rfl rfl) ?_
                refine TL.v (ltb rfl) (rv_as (v := .int .i64 (w64 (x21 + 1))) rfl) ?_
                refine TL.nil ?_
                exact fun w hw => goOk hp ⟨h_182, h_183, h_184, h_185, h_186, rfl, rfl⟩ (hw.pick [0, 0, 0])
            refine TC.pk' [0, 0, 0] (L' := [bx b6 25 [.int .i64 a1.params, .int .i64 a1.result, v2, v4], F11, F15]) rfl ?_
            refine TC.loopW (r := z_176) (fun (s : (Bool × Int)) (e_167 : Env) (L_279 : List FP) => ∃ (x53 : Bool) (x54 : Int), s = (x53, x54) ∧ e_167 1 = .pointer (some ⟨b6, 0, none⟩) ∧ e_167 3 = .bool x7 ∧ e_167 5 = v10 ∧ e_167 6 = v14 ∧ e_167 7 = .int .i64 x19 ∧ e_167 9 = .int .i64 x21 ∧ e_167 10 = .bool x53 ∧ e_167 11 = .int .i64 x54 ∧ L_279 = [bx b6 25 [.int .i64 a1.params, .int .i64 a1.result, v2, v4], F11, F15]) ?_ FUEL _ _ _ hz_177 ⟨(decide (x21 = 0)), 0, rfl, h_73, h_74, h_75, h_76, h_77, h_78, rfl, rfl, rfl⟩
            rintro s e_167 L_279 ⟨x53, x54, rfl, h_168, h_169, h_170, h_171, h_172, h_173, h_174, h_175, rfl⟩ x_179 hp hx_180
            replace hp : fettlelaw05_GraphOrders.bd180 a1 x9 x13 x21 x53 x54 = some x_179 := hp
            unfold fettlelaw05_GraphOrders.bd180 at hp
            refine TC.seq fun K_196 hK_197 => ?_
            refine TC.seq fun K_198 hK_199 => ?_
            refine TC.region ?_
            refine TL.v (ltb rfl) (rv_mv (v := .int .i64 x54) h_175) ?_
            refine TL.v (ltb rfl) (rv_mv (v := .int .i64 x21) h_173) ?_
            refine TL.v (ltb rfl) (rv_lss (k := .i64) (m := x54) (n := x21) rfl rfl) ?_
            refine TL.nil ?_
            refine TC.go hK_199 ?_
            by_cases hc_200 : x54 < x21
            · rw [if_pos hc_200] at hp
              refine TC.condT (bT hc_200) ?_
              refine TC.skip ?_
              refine TC.go hK_197 ?_
              refine TC.seq fun K_201 hK_202 => ?_
              refine TC.block ?_
              refine TC.seq fun K_203 hK_204 => ?_
              refine TC.seq fun K_205 hK_206 => ?_
              refine TC.quiet mix (by kernel_rfl) ?_
              refine QL.v (ltb rfl) (rv_mv (v := v10) h_170) ?_
              refine QL.v (ltb rfl) (rv_mv (v := .int .i64 x21) h_173) ?_
              obtain ⟨x56, hx_207, hp⟩ := bind_some' hp
              refine QL.v3 (ltb rfl) (rv_ix 22 (.tmp 67) (.tmp 68) (v := v10) (i := x21) Try.underlying22 inf_3 rfl rfl rfl (h12).ro hx_207) fun b57 o58 c59 h60 h61 => ?_
              obtain rfl := h60
              refine QL.v (ltb rfl) (rv_ld (v := .int .i64 x56) (o := o58) (o' := o58) (j := 0) sc_3 rfl (Src.at_ 1 rfl) h61 rfl rfl) ?_
              refine QL.v (ltb rfl) (rv_lss (k := .i64) (m := x56) (n := 0) rfl rfl) ?_
              refine QL.v (ltb rfl) (rv_mv (v := .bool (decide (x56 < 0))) rfl) ?_
              obtain ⟨t62, ht_277, hp⟩ := bind_some' hp
              refine QL.cut 8 fun K_208 hK_209 => ?_
              have hJ_210 : ∀ e_212 : Env, e_212 1 = .pointer (some ⟨b6, 0, none⟩) → e_212 3 = .bool x7 → e_212 5 = v10 → e_212 6 = v14 → e_212 7 = .int .i64 x19 → e_212 9 = .int .i64 x21 → e_212 10 = .bool x53 → e_212 11 = .int .i64 x54 → e_212 80 = .bool t62 → K_208 e_212 := by
                intro e_212 h_213 h_214 h_215 h_216 h_217 h_218 h_219 h_220 h_221
                refine hK_209 _ ?_
                refine QL.v (ltb rfl) (rv_mv (v := .bool t62) h_221) ?_
                obtain ⟨t63, ht_274, hp⟩ := bind_some' hp
                refine QL.cut 10 fun K_222 hK_223 => ?_
                have hJ_224 : ∀ e_226 : Env, e_226 1 = .pointer (some ⟨b6, 0, none⟩) → e_226 3 = .bool x7 → e_226 5 = v10 → e_226 6 = v14 → e_226 7 = .int .i64 x19 → e_226 9 = .int .i64 x21 → e_226 10 = .bool x53 → e_226 11 = .int .i64 x54 → e_226 91 = .bool t63 → K_222 e_226 := by
                  intro e_226 h_227 h_228 h_229 h_230 h_231 h_232 h_233 h_234 h_235
                  refine hK_223 _ ?_
                  refine QL.v (ltb rfl) (rv_mv (v := .bool t63) h_235) ?_
                  obtain ⟨t64, ht_271, hp⟩ := bind_some' hp
                  refine QL.cut 9 fun K_236 hK_237 => ?_
                  have hJ_238 : ∀ e_240 : Env, e_240 1 = .pointer (some ⟨b6, 0, none⟩) → e_240 3 = .bool x7 → e_240 5 = v10 → e_240 6 = v14 → e_240 7 = .int .i64 x19 → e_240 9 = .int .i64 x21 → e_240 10 = .bool x53 → e_240 11 = .int .i64 x54 → e_240 101 = .bool t64 → K_236 e_240 := by
                    intro e_240 h_241 h_242 h_243 h_244 h_245 h_246 h_247 h_248 h_249
                    refine hK_237 _ ?_
                    refine QL.nil ?_
                    refine TC.go hK_206 ?_
                    by_cases hc_250 : t64 = true
                    · rw [if_pos hc_250] at hp
                      refine TC.condT (h_249.trans (bbT hc_250)) ?_
                      refine TC.seq fun K_251 hK_252 => ?_
                      refine TC.region ?_
                      refine TL.v (ltb rfl) (rv_as (v := .bool false) rfl) ?_
                      refine TL.nil ?_
                      refine TC.go hK_252 ?_
                      refine TC.ret ?_
                      obtain rfl := ex_ret hp hx_180
                      obtain rfl := ex_ret hr_178 hx_83
                      obtain rfl := Option.some.inj hr_81
                      exact fun w hw => retOk ⟨rfl, rfl⟩ (hw.pick [])
                    · rw [if_neg hc_250] at hp
                      refine TC.condF (h_249.trans (bbF hc_250)) ?_
                      refine TC.skip ?_
                      refine TC.go hK_204 ?_
                      refine TC.seq fun K_253 hK_254 => ?_
                      refine TC.quiet mix (by kernel_rfl) ?_
                      refine QL.v (ltb rfl) (rv_lda (o := 0) (o' := 0) (j := 0) (ds := [.int .i64 a1.params, .int .i64 a1.result, v2, v4]) ag_25 h_241 (Src.at_ 0 rfl) (bx_cells b6 25 _) rfl rfl rfl) ?_
                      refine QL.v (ltb rfl) (rv_mv (v := v10) h_243) ?_
                      refine QL.v (ltb rfl) (rv_mv (v := .int .i64 x54) h_248) ?_
                      obtain ⟨x65, hx_255, hp⟩ := bind_some' hp
                      refine QL.v3 (ltb rfl) (rv_ix 22 (.tmp 103) (.tmp 104) (v := v10) (i := x54) Try.underlying22 inf_3 rfl rfl rfl (h12).ro hx_255) fun b66 o67 c68 h69 h70 => ?_
                      obtain rfl := h69
                      refine QL.v (ltb rfl) (rv_ld (v := .int .i64 x65) (o := o67) (o' := o67) (j := 0) sc_3 rfl (Src.at_ 1 rfl) h70 rfl rfl) ?_
                      refine QL.v (ltb rfl) (rv_mv (v := v10) h_243) ?_
                      refine QL.v (ltb rfl) (rv_mv (v := .int .i64 x21) h_246) ?_
                      obtain ⟨x71, hx_256, hp⟩ := bind_some' hp
                      refine QL.v3 (ltb rfl) (rv_ix 22 (.tmp 107) (.tmp 108) (v := v10) (i := x21) Try.underlying22 inf_3 rfl rfl rfl (h12).ro hx_256) fun b72 o73 c74 h75 h76 => ?_
                      obtain rfl := h75
                      refine QL.v (ltb rfl) (rv_ld (v := .int .i64 x71) (o := o73) (o' := o73) (j := 0) sc_3 rfl (Src.at_ 1 rfl) h76 rfl rfl) ?_
                      obtain ⟨x77, hy_257, hp⟩ := bind_some' hp
                      refine QL.callC (vs := [.agg #[.int .i64 a1.params, .int .i64 a1.result, v2, v4], .int .i64 x65, .int .i64 x71]) (R := fettleref05_Leads.R x77) (.bool x77) cb_45 (ltb rfl) (mc rfl (mc rfl (mc rfl m0))) (fun w hw => fettleref05_Leads_ok (a1 := a1) (a6 := x65) (a7 := x71) (h3.mono subH) (h5.mono subH) hy_257 hw) (fun u A' h => ⟨h.1.symm, h.2⟩) ?_
                      refine QL.v (ltb rfl) (rv_as (v := .bool x77) rfl) ?_
                      refine QL.nil ?_
                      refine TC.go hK_254 ?_
                      refine TC.region ?_
                      refine TL.v (ltb rfl) (rv_mv (v := .bool x53) h_247) ?_
                      refine TL.v (ltb rfl) (rv_mv (v := .bool x53) rfl) ?_
                      refine TL.cut 2 fun K_258 hK_259 => ?_
                      have hJ_260 : ∀ e_262 : Env, e_262 1 = .pointer (some ⟨b6, 0, none⟩) → e_262 3 = .bool x7 → e_262 5 = v10 → e_262 6 = v14 → e_262 7 = .int .i64 x19 → e_262 9 = .int .i64 x21 → e_262 11 = .int .i64 x54 → e_262 115 = .bool (decide (x53 = true ∨ x77 = true)) → ∀ w, St E H [bx b6 25 [.int .i64 a1.params, .int .i64 a1.result, v2, v4], F11, F15] w → K_258 e_262 w := by
                        intro e_262 h_263 h_264 h_265 h_266 h_267 h_268 h_269 h_270
                        refine TL.go hK_259 ?_
                        refine TL.v (ltb rfl) (rv_as (v := .bool (decide (x53 = true ∨ x77 = true))) h_270) ?_
                        refine TL.nil ?_
                        refine TC.go hK_202 ?_
                        refine TC.region ?_
                        refine TL.v (ltb rfl) (rv_mv (v := .int .i64 x54) h_269) ?_
                        refine TL.v (ltb rfl) (rv_add (k := .i64) (m := x54) (n := 1) rfl rfl) ?_
                        refine TL.v (ltb rfl) (rv_as (v := .int .i64 (w64 (x54 + 1))) rfl) ?_
                        refine TL.nil ?_
                        exact fun w hw => goOk hp ⟨(decide (x53 = true ∨ x77 = true)), (w64 (x54 + 1)), rfl, h_263, h_264, h_265, h_266, h_267, h_268, rfl, rfl, rfl⟩ (hw.pick [0, 0, 0])
                      by_cases hc_261 : x53 = true
                      · refine TL.gno true rfl (fun d hd => by cases hd; exact ltb rfl) (yieldE_of rfl (bbT hc_261)) rfl ?_
                        refine TL.v (ltb rfl) (rv_pickT true (bbT hc_261) rfl (v := .bool true) rfl) ?_
                        refine TL.nil (hJ_260 _ ?_ ?_ ?_ ?_ ?_ ?_ ?_ ?_)
                        · exact h_241
                        · exact h_242
                        · exact h_243
                        · exact h_244
                        · exact h_245
                        · exact h_246
                        · exact h_248
                        · exact (bOt hc_261)
                      · refine TL.gyes false (yieldE_of rfl (bbF hc_261)) rfl ?_
                        refine TL.v (ltb rfl) (rv_mv (v := .bool x77) rfl) ?_
                        refine TL.v (ltb rfl) (rv_pickF false (bbF hc_261) rfl (v := .bool x77) rfl) ?_
                        refine TL.nil (hJ_260 _ ?_ ?_ ?_ ?_ ?_ ?_ ?_ ?_)
                        · exact h_241
                        · exact h_242
                        · exact h_243
                        · exact h_244
                        · exact h_245
                        · exact h_246
                        · exact h_248
                        · exact (bOf' hc_261)
                  clear hp
                  have hp := ht_271
                  clear ht_271
                  by_cases hc_239 : t63 = true
                  · rw [if_pos hc_239] at hp
                    refine QL.gno true rfl (fun d hd => by cases hd; exact ltb rfl) (yieldE_of rfl (bbT hc_239)) rfl ?_
                    refine QL.gno true rfl (fun d hd => by cases hd; exact ltb rfl) (yieldE_of rfl (bbT hc_239)) rfl ?_
                    refine QL.gno true rfl (fun d hd => by cases hd; exact ltb rfl) (yieldE_of rfl (bbT hc_239)) rfl ?_
                    refine QL.gno true rfl (fun d hd => by cases hd; exact ltb rfl) (yieldE_of rfl (bbT hc_239)) rfl ?_
                    refine QL.gno true rfl (fun d hd => by cases hd; exact ltb rfl) (yieldE_of rfl (bbT hc_239)) rfl ?_
                    refine QL.gno true rfl (fun d hd => by cases hd; exact ltb rfl) (yieldE_of rfl (bbT hc_239)) rfl ?_
                    refine QL.gno true rfl (fun d hd => by cases hd; exact ltb rfl) (yieldE_of rfl (bbT hc_239)) rfl ?_
                    refine QL.gno true rfl (fun d hd => by cases hd; exact ltb rfl) (yieldE_of rfl (bbT hc_239)) rfl ?_
                    refine QL.v (ltb rfl) (rv_pickT true (bbT hc_239) rfl (v := .bool true) rfl) ?_
                    obtain rfl := Option.some.inj hp
                    refine QL.nil (hJ_238 _ ?_ ?_ ?_ ?_ ?_ ?_ ?_ ?_ ?_)
                    · exact h_227
                    · exact h_228
                    · exact h_229
                    · exact h_230
                    · exact h_231
                    · exact h_232
                    · exact h_233
                    · exact h_234
                    · exact rfl
                  · rw [if_neg hc_239] at hp
                    refine QL.gyes false (yieldE_of rfl (bbF hc_239)) rfl ?_
                    refine QL.v (ltb rfl) (rv_mv (v := v14) h_230) ?_
                    refine QL.gyes false (yieldE_of rfl (bbF hc_239)) rfl ?_
                    refine QL.v (ltb rfl) (rv_mv (v := v10) h_229) ?_
                    refine QL.gyes false (yieldE_of rfl (bbF hc_239)) rfl ?_
                    refine QL.v (ltb rfl) (rv_mv (v := .int .i64 x21) h_232) ?_
                    refine QL.gyes false (yieldE_of rfl (bbF hc_239)) rfl ?_
                    obtain ⟨x78, hx_272, hp⟩ := bind_some' hp
                    refine QL.v3 (ltb rfl) (rv_ix 22 (.tmp 94) (.tmp 95) (v := v10) (i := x21) Try.underlying22 inf_3 rfl rfl rfl (h12).ro hx_272) fun b79 o80 c81 h82 h83 => ?_
                    obtain rfl := h82
                    refine QL.gyes false (yieldE_of rfl (bbF hc_239)) rfl ?_
                    refine QL.v (ltb rfl) (rv_ld (v := .int .i64 x78) (o := o80) (o' := o80) (j := 0) sc_3 rfl (Src.at_ 1 rfl) h83 rfl rfl) ?_
                    refine QL.gyes false (yieldE_of rfl (bbF hc_239)) rfl ?_
                    obtain ⟨x84, hx_273, hp⟩ := bind_some' hp
                    refine QL.v3 (ltb rfl) (rv_ix 30 (.tmp 93) (.tmp 97) (v := v14) (i := x78) Try.underlying30 inf_4 rfl rfl rfl (h16).ro hx_273) fun b85 o86 c87 h88 h89 => ?_
                    obtain rfl := h88
                    refine QL.gyes false (yieldE_of rfl (bbF hc_239)) rfl ?_
                    refine QL.v (ltb rfl) (rv_ld (v := .bool x84) (o := o86) (o' := o86) (j := 0) sc_4 rfl (Src.at_ 2 rfl) h89 rfl rfl) ?_
                    refine QL.gyes false (yieldE_of rfl (bbF hc_239)) rfl ?_
                    refine QL.v (ltb rfl) (rv_not (b := x84) rfl) ?_
                    refine QL.v (ltb rfl) (rv_pickF false (bbF hc_239) rfl (v := .bool (!x84)) rfl) ?_
                    obtain rfl := Option.some.inj hp
                    refine QL.nil (hJ_238 _ ?_ ?_ ?_ ?_ ?_ ?_ ?_ ?_ ?_)
                    · exact h_227
                    · exact h_228
                    · exact h_229
                    · exact h_230
                    · exact h_231
                    · exact h_232
                    · exact h_233
                    · exact h_234
                    · exact rfl
                clear hp
                have hp := ht_274
                clear ht_274
                by_cases hc_225 : t62 = true
                · rw [if_pos hc_225] at hp
                  refine QL.gno true rfl (fun d hd => by cases hd; exact ltb rfl) (yieldE_of rfl (bbT hc_225)) rfl ?_
                  refine QL.gno true rfl (fun d hd => by cases hd; exact ltb rfl) (yieldE_of rfl (bbT hc_225)) rfl ?_
                  refine QL.gno true rfl (fun d hd => by cases hd; exact ltb rfl) (yieldE_of rfl (bbT hc_225)) rfl ?_
                  refine QL.gno true rfl (fun d hd => by cases hd; exact ltb rfl) (yieldE_of rfl (bbT hc_225)) rfl ?_
                  refine QL.gno true rfl (fun d hd => by cases hd; exact ltb rfl) (yieldE_of rfl (bbT hc_225)) rfl ?_
                  refine QL.gno true rfl (fun d hd => by cases hd; exact ltb rfl) (yieldE_of rfl (bbT hc_225)) rfl ?_
                  refine QL.gno true rfl (fun d hd => by cases hd; exact ltb rfl) (yieldE_of rfl (bbT hc_225)) rfl ?_
                  refine QL.gno true rfl (fun d hd => by cases hd; exact ltb rfl) (yieldE_of rfl (bbT hc_225)) rfl ?_
                  refine QL.gno true rfl (fun d hd => by cases hd; exact ltb rfl) (yieldE_of rfl (bbT hc_225)) rfl ?_
                  refine QL.v (ltb rfl) (rv_pickT true (bbT hc_225) rfl (v := .bool true) rfl) ?_
                  obtain rfl := Option.some.inj hp
                  refine QL.nil (hJ_224 _ ?_ ?_ ?_ ?_ ?_ ?_ ?_ ?_ ?_)
                  · exact h_213
                  · exact h_214
                  · exact h_215
                  · exact h_216
                  · exact h_217
                  · exact h_218
                  · exact h_219
                  · exact h_220
                  · exact rfl
                · rw [if_neg hc_225] at hp
                  refine QL.gyes false (yieldE_of rfl (bbF hc_225)) rfl ?_
                  refine QL.v (ltb rfl) (rv_mv (v := v10) h_215) ?_
                  refine QL.gyes false (yieldE_of rfl (bbF hc_225)) rfl ?_
                  refine QL.v (ltb rfl) (rv_mv (v := .int .i64 x54) h_220) ?_
                  refine QL.gyes false (yieldE_of rfl (bbF hc_225)) rfl ?_
                  obtain ⟨x90, hx_275, hp⟩ := bind_some' hp
                  refine QL.v3 (ltb rfl) (rv_ix 22 (.tmp 82) (.tmp 83) (v := v10) (i := x54) Try.underlying22 inf_3 rfl rfl rfl (h12).ro hx_275) fun b91 o92 c93 h94 h95 => ?_
                  obtain rfl := h94
                  refine QL.gyes false (yieldE_of rfl (bbF hc_225)) rfl ?_
                  refine QL.v (ltb rfl) (rv_ld (v := .int .i64 x90) (o := o92) (o' := o92) (j := 0) sc_3 rfl (Src.at_ 1 rfl) h95 rfl rfl) ?_
                  refine QL.gyes false (yieldE_of rfl (bbF hc_225)) rfl ?_
                  refine QL.v (ltb rfl) (rv_mv (v := v10) h_215) ?_
                  refine QL.gyes false (yieldE_of rfl (bbF hc_225)) rfl ?_
                  refine QL.v (ltb rfl) (rv_mv (v := .int .i64 x21) h_218) ?_
                  refine QL.gyes false (yieldE_of rfl (bbF hc_225)) rfl ?_
                  obtain ⟨x96, hx_276, hp⟩ := bind_some' hp
                  refine QL.v3 (ltb rfl) (rv_ix 22 (.tmp 86) (.tmp 87) (v := v10) (i := x21) Try.underlying22 inf_3 rfl rfl rfl (h12).ro hx_276) fun b97 o98 c99 h100 h101 => ?_
                  obtain rfl := h100
                  refine QL.gyes false (yieldE_of rfl (bbF hc_225)) rfl ?_
                  refine QL.v (ltb rfl) (rv_ld (v := .int .i64 x96) (o := o98) (o' := o98) (j := 0) sc_3 rfl (Src.at_ 1 rfl) h101 rfl rfl) ?_
                  refine QL.gyes false (yieldE_of rfl (bbF hc_225)) rfl ?_
                  refine QL.v (ltb rfl) (rv_eql (k := .i64) (m := x90) (n := x96) rfl rfl) ?_
                  refine QL.v (ltb rfl) (rv_pickF false (bbF hc_225) rfl (v := .bool (decide (x90 = x96))) rfl) ?_
                  obtain rfl := Option.some.inj hp
                  refine QL.nil (hJ_224 _ ?_ ?_ ?_ ?_ ?_ ?_ ?_ ?_ ?_)
                  · exact h_213
                  · exact h_214
                  · exact h_215
                  · exact h_216
                  · exact h_217
                  · exact h_218
                  · exact h_219
                  · exact h_220
                  · exact rfl
              clear hp
              have hp := ht_277
              clear ht_277
              by_cases hc_211 : x56 < 0
              · rw [if_pos hc_211] at hp
                refine QL.gno true rfl (fun d hd => by cases hd; exact ltb rfl) (yieldE_of rfl (bT hc_211)) rfl ?_
                refine QL.gno true rfl (fun d hd => by cases hd; exact ltb rfl) (yieldE_of rfl (bT hc_211)) rfl ?_
                refine QL.gno true rfl (fun d hd => by cases hd; exact ltb rfl) (yieldE_of rfl (bT hc_211)) rfl ?_
                refine QL.gno true rfl (fun d hd => by cases hd; exact ltb rfl) (yieldE_of rfl (bT hc_211)) rfl ?_
                refine QL.gno true rfl (fun d hd => by cases hd; exact ltb rfl) (yieldE_of rfl (bT hc_211)) rfl ?_
                refine QL.gno true rfl (fun d hd => by cases hd; exact ltb rfl) (yieldE_of rfl (bT hc_211)) rfl ?_
                refine QL.gno true rfl (fun d hd => by cases hd; exact ltb rfl) (yieldE_of rfl (bT hc_211)) rfl ?_
                refine QL.v (ltb rfl) (rv_pickT true (bT hc_211) rfl (v := .bool true) rfl) ?_
                obtain rfl := Option.some.inj hp
                refine QL.nil (hJ_210 _ ?_ ?_ ?_ ?_ ?_ ?_ ?_ ?_ ?_)
                · exact h_168
                · exact h_169
                · exact h_170
                · exact h_171
                · exact h_172
                · exact h_173
                · exact h_174
                · exact h_175
                · exact rfl
              · rw [if_neg hc_211] at hp
                refine QL.gyes false (yieldE_of rfl (bF hc_211)) rfl ?_
                refine QL.v (ltb rfl) (rv_mv (v := v10) h_170) ?_
                refine QL.gyes false (yieldE_of rfl (bF hc_211)) rfl ?_
                refine QL.v (ltb rfl) (rv_mv (v := .int .i64 x21) h_173) ?_
                refine QL.gyes false (yieldE_of rfl (bF hc_211)) rfl ?_
                obtain ⟨x102, hx_278, hp⟩ := bind_some' hp
                refine QL.v3 (ltb rfl) (rv_ix 22 (.tmp 73) (.tmp 74) (v := v10) (i := x21) Try.underlying22 inf_3 rfl rfl rfl (h12).ro hx_278) fun b103 o104 c105 h106 h107 => ?_
                obtain rfl := h106
                refine QL.gyes false (yieldE_of rfl (bF hc_211)) rfl ?_
                refine QL.v (ltb rfl) (rv_ld (v := .int .i64 x102) (o := o104) (o' := o104) (j := 0) sc_3 rfl (Src.at_ 1 rfl) h107 rfl rfl) ?_
                refine QL.gyes false (yieldE_of rfl (bF hc_211)) rfl ?_
                refine QL.v (ltb rfl) (rv_mv (v := v14) h_171) ?_
                refine QL.gyes false (yieldE_of rfl (bF hc_211)) rfl ?_
                refine QL.v (ltb rfl) (rv_lenI (v := v14) Try.underlying30 rfl h16.ro) ?_
                refine QL.gyes false (yieldE_of rfl (bF hc_211)) rfl ?_
                refine QL.v (ltb rfl) (rv_geq (k := .i64) (m := x102) (n := (len x13)) rfl rfl) ?_
                refine QL.v (ltb rfl) (rv_pickF false (bF hc_211) rfl (v := .bool (decide (x102 ≥ (len x13)))) rfl) ?_
                obtain rfl := Option.some.inj hp
                refine QL.nil (hJ_210 _ ?_ ?_ ?_ ?_ ?_ ?_ ?_ ?_ ?_)
                · exact h_168
                · exact h_169
                · exact h_170
                · exact h_171
                · exact h_172
                · exact h_173
                · exact h_174
                · exact h_175
                · exact rfl
            · rw [if_neg hc_200] at hp
              refine TC.condF (bF hc_200) ?_
              refine TC.exit ?_
              refine fun w hw => hJ_194 x53 _ ?_ ?_ ?_ ?_ ?_ ?_ ?_ (ex_ret hp hx_180) w (hw.pick [0, 0, 0])
              · exact h_168
              · exact h_169
              · exact h_170
              · exact h_171
              · exact h_172
              · exact h_173
              · exact h_174
          · rw [if_neg hc_158] at hp
            refine TC.condF (bF hc_158) ?_
            refine TC.exit ?_
            refine fun w hw => hJ_152 _ ?_ ?_ ?_ (ex_ret hp hx_83) w (hw.pick [0])
            · exact h_73
            · exact h_74
            · exact h_77
      clear hp
      have hp := ht_281
      clear ht_281
      by_cases hc_57 : ¬ (len x9) = x19
      · rw [if_pos hc_57] at hp
        refine TL.gno true rfl (fun d hd => by cases hd; exact ltb rfl) (yieldE_of rfl (bT hc_57)) rfl ?_
        refine TL.gno true rfl (fun d hd => by cases hd; exact ltb rfl) (yieldE_of rfl (bT hc_57)) rfl ?_
        refine TL.gno true rfl (fun d hd => by cases hd; exact ltb rfl) (yieldE_of rfl (bT hc_57)) rfl ?_
        refine TL.gnon rfl (fun d hd => by cases hd; exact ltb rfl) (yieldE_un rfl rfl) ?_
        refine TL.gnon rfl (fun d hd => by cases hd; exact ltb rfl) (yieldE_un rfl rfl) ?_
        refine TL.gnon rfl (fun d hd => by cases hd; exact ltb rfl) (yieldE_un rfl rfl) ?_
        refine TL.gnon rfl (fun d hd => by cases hd; exact ltb rfl) (yieldE_un rfl rfl) ?_
        refine TL.gno true rfl (fun d hd => by cases hd; exact ltb rfl) (yieldE_of rfl (bT hc_57)) rfl ?_
        refine TL.v (ltb rfl) (rv_pickT true (bT hc_57) rfl (v := .bool true) rfl) ?_
        obtain rfl := Option.some.inj hp
        refine TL.nil (hJ_56 _ ?_ ?_ ?_ ?_ ?_ ?_)
        · exact h_45
        · exact h_46
        · exact h_47
        · exact h_48
        · exact h_49
        · exact rfl
      · rw [if_neg hc_57] at hp
        refine TL.gyes false (yieldE_of rfl (bF hc_57)) rfl ?_
        refine TL.v (ltb rfl) (rv_mv (v := .int .i64 x19) h_49) ?_
        refine TL.gyes false (yieldE_of rfl (bF hc_57)) rfl ?_
        refine TL.v (ltb rfl) (rv_gtr (k := .i64) (m := x19) (n := 0) rfl rfl) ?_
        refine TL.gyes false (yieldE_of rfl (bF hc_57)) rfl ?_
        refine TL.v (ltb rfl) (rv_mv (v := .bool (decide (x19 > 0))) rfl) ?_
        obtain ⟨t108, ht_294, hp⟩ := bind_some' hp
        refine TL.cut 5 fun K_282 hK_283 => ?_
        have hJ_284 : ∀ e_286 : Env, e_286 1 = .pointer (some ⟨b6, 0, none⟩) → e_286 3 = .bool x7 → e_286 5 = v10 → e_286 6 = v14 → e_286 7 = .int .i64 x19 → e_286 44 = .bool (decide (¬ (len x9) = x19)) → e_286 52 = .bool t108 → ∀ w, St E H [bx b6 25 [.int .i64 a1.params, .int .i64 a1.result, v2, v4], F11, F15] w → K_282 e_286 w := by
          intro e_286 h_287 h_288 h_289 h_290 h_291 h_292 h_293
          refine TL.go hK_283 ?_
          refine TL.v (ltb rfl) (rv_pickF false (h_292.trans (bF hc_57)) rfl (v := .bool t108) h_293) ?_
          obtain rfl := Option.some.inj hp
          refine TL.nil (hJ_56 _ ?_ ?_ ?_ ?_ ?_ ?_)
          · exact h_287
          · exact h_288
          · exact h_289
          · exact h_290
          · exact h_291
          · exact rfl
        clear hp
        have hp := ht_294
        clear ht_294
        by_cases hc_285 : x19 > 0
        · rw [if_pos hc_285] at hp
          refine TL.gyes true (yieldE_of rfl (bT hc_285)) rfl ?_
          refine TL.v (ltb rfl) (rv_mv (v := v10) h_47) ?_
          refine TL.gyes true (yieldE_of rfl (bT hc_285)) rfl ?_
          obtain ⟨x109, hx_295, hp⟩ := bind_some' hp
          refine TL.v3 (ltb rfl) (rv_ix 22 (.tmp 48) (.const (.int .i64 0)) (v := v10) (i := 0) Try.underlying22 inf_3 rfl rfl rfl (h12).ro hx_295) fun b110 o111 c112 h113 h114 => ?_
          obtain rfl := h113
          refine TL.gyes true (yieldE_of rfl (bT hc_285)) rfl ?_
          refine TL.v (ltb rfl) (rv_ld (v := .int .i64 x109) (o := o111) (o' := o111) (j := 0) sc_3 rfl (Src.at_ 1 rfl) h114 rfl rfl) ?_
          refine TL.gyes true (yieldE_of rfl (bT hc_285)) rfl ?_
          refine TL.v (ltb rfl) (rv_neq (k := .i64) (m := x109) (n := 0) rfl rfl) ?_
          refine TL.gyes false (yieldE_of rfl (bF hc_57)) rfl ?_
          refine TL.v (ltb rfl) (rv_pickT true (bT hc_285) rfl (v := .bool (decide (¬ x109 = 0))) rfl) ?_
          obtain rfl := Option.some.inj hp
          refine TL.nil (hJ_284 _ ?_ ?_ ?_ ?_ ?_ ?_ ?_)
          · exact h_45
          · exact h_46
          · exact h_47
          · exact h_48
          · exact h_49
          · exact rfl
          · exact rfl
        · rw [if_neg hc_285] at hp
          refine TL.gno false rfl (fun d hd => by cases hd; exact ltb rfl) (yieldE_of rfl (bF hc_285)) rfl ?_
          refine TL.gno false rfl (fun d hd => by cases hd; exact ltb rfl) (yieldE_of rfl (bF hc_285)) rfl ?_
          refine TL.gno false rfl (fun d hd => by cases hd; exact ltb rfl) (yieldE_of rfl (bF hc_285)) rfl ?_
          refine TL.gno false rfl (fun d hd => by cases hd; exact ltb rfl) (yieldE_of rfl (bF hc_285)) rfl ?_
          refine TL.gyes false (yieldE_of rfl (bF hc_57)) rfl ?_
          refine TL.v (ltb rfl) (rv_pickF false (bF hc_285) rfl (v := .bool false) rfl) ?_
          obtain rfl := Option.some.inj hp
          refine TL.nil (hJ_284 _ ?_ ?_ ?_ ?_ ?_ ?_ ?_)
          · exact h_45
          · exact h_46
          · exact h_47
          · exact h_48
          · exact h_49
          · exact rfl
          · exact rfl
    refine TC.pk' [2, 1, 0] (L' := [bx b6 25 [.int .i64 a1.params, .int .i64 a1.result, v2, v4], F11, F15]) rfl ?_
    refine TC.loopW (r := z_39) (fun (s : (Int × Int)) (e_32 : Env) (L_317 : List FP) => ∃ (x17 : Int) (x18 : Int), s = (x17, x18) ∧ e_32 1 = .pointer (some ⟨b6, 0, none⟩) ∧ e_32 3 = .bool x7 ∧ e_32 5 = v10 ∧ e_32 6 = v14 ∧ e_32 7 = .int .i64 x17 ∧ e_32 8 = .int .i64 x18 ∧ L_317 = [bx b6 25 [.int .i64 a1.params, .int .i64 a1.result, v2, v4], F11, F15]) ?_ FUEL _ _ _ hz_40 ⟨0, 0, rfl, rfl, rfl, rfl, rfl, rfl, rfl, rfl⟩
    rintro s e_32 L_317 ⟨x17, x18, rfl, h_33, h_34, h_35, h_36, h_37, h_38, rfl⟩ x_42 hp hx_43
    replace hp : fettlelaw05_GraphOrders.bd43 x13 x17 x18 = some x_42 := hp
    unfold fettlelaw05_GraphOrders.bd43 at hp
    refine TC.seq fun K_298 hK_299 => ?_
    refine TC.seq fun K_300 hK_301 => ?_
    refine TC.region ?_
    refine TL.v (ltb rfl) (rv_mv (v := .int .i64 x18) h_38) ?_
    refine TL.v (ltb rfl) (rv_mv (v := v14) h_36) ?_
    refine TL.v (ltb rfl) (rv_lenI (v := v14) Try.underlying30 rfl h16.ro) ?_
    refine TL.v (ltb rfl) (rv_lss (k := .i64) (m := x18) (n := (len x13)) rfl rfl) ?_
    refine TL.nil ?_
    refine TC.go hK_301 ?_
    by_cases hc_302 : x18 < (len x13)
    · rw [if_pos hc_302] at hp
      refine TC.condT (bT hc_302) ?_
      refine TC.skip ?_
      refine TC.go hK_299 ?_
      refine TC.seq fun K_303 hK_304 => ?_
      have hJ_312 : ∀ (x115 : Int) (e_305 : Env) (h_306 : e_305 1 = .pointer (some ⟨b6, 0, none⟩)) (h_307 : e_305 3 = .bool x7) (h_308 : e_305 5 = v10) (h_309 : e_305 6 = v14) (h_310 : e_305 7 = .int .i64 x115) (h_311 : e_305 8 = .int .i64 x18) (hp : fettlelaw05_GraphOrders.jn312 x18 x115 = some x_42), ∀ w, St E H [bx b6 25 [.int .i64 a1.params, .int .i64 a1.result, v2, v4], F11, F15] w → K_303 e_305 w := by
        intro x115 e_305 h_306 h_307 h_308 h_309 h_310 h_311 hp
        unfold fettlelaw05_GraphOrders.jn312 at hp
        refine TC.go hK_304 ?_
        refine TC.region ?_
        refine TL.v (ltb rfl) (rv_mv (v := .int .i64 x18) h_311) ?_
        refine TL.v (ltb rfl) (rv_add (k := .i64) (m := x18) (n := 1) rfl rfl) ?_
        refine TL.v (ltb rfl) (rv_as (v := .int .i64 (w64 (x18 + 1))) rfl) ?_
        refine TL.nil ?_
        exact fun w hw => goOk hp ⟨x115, (w64 (x18 + 1)), rfl, h_306, h_307, h_308, h_309, h_310, rfl, rfl⟩ (hw.pick [0, 0, 0])
      refine TC.block ?_
      refine TC.seq fun K_313 hK_314 => ?_
      refine TC.region ?_
      refine TL.v (ltb rfl) (rv_mv (v := v14) h_36) ?_
      refine TL.v (ltb rfl) (rv_mv (v := .int .i64 x18) h_38) ?_
      obtain ⟨x116, hx_315, hp⟩ := bind_some' hp
      refine TL.v3 (ltb rfl) (rv_ix 30 (.tmp 34) (.tmp 35) (v := v14) (i := x18) Try.underlying30 inf_4 rfl rfl rfl (h16).ro hx_315) fun b117 o118 c119 h120 h121 => ?_
      obtain rfl := h120
      refine TL.v (ltb rfl) (rv_ld (v := .bool x116) (o := o118) (o' := o118) (j := 0) sc_4 rfl (Src.at_ 2 rfl) h121 rfl rfl) ?_
      refine TL.nil ?_
      refine TC.go hK_314 ?_
      by_cases hc_316 : x116 = true
      · rw [if_pos hc_316] at hp
        refine TC.condT (bbT hc_316) ?_
        refine TC.region ?_
        refine TL.v (ltb rfl) (rv_mv (v := .int .i64 x17) h_37) ?_
        refine TL.v (ltb rfl) (rv_add (k := .i64) (m := x17) (n := 1) rfl rfl) ?_
        refine TL.v (ltb rfl) (rv_as (v := .int .i64 (w64 (x17 + 1))) rfl) ?_
        refine TL.nil ?_
        refine fun w hw => hJ_312 (w64 (x17 + 1)) _ ?_ ?_ ?_ ?_ ?_ ?_ hp w (hw.pick [0, 0, 0])
        · exact h_33
        · exact h_34
        · exact h_35
        · exact h_36
        · exact rfl
        · exact h_38
      · rw [if_neg hc_316] at hp
        refine TC.condF (bbF hc_316) ?_
        refine TC.skip ?_
        refine fun w hw => hJ_312 x17 _ ?_ ?_ ?_ ?_ ?_ ?_ hp w (hw.pick [0, 0, 0])
        · exact h_33
        · exact h_34
        · exact h_35
        · exact h_36
        · exact h_37
        · exact h_38
    · rw [if_neg hc_302] at hp
      refine TC.condF (bF hc_302) ?_
      refine TC.exit ?_
      refine fun w hw => hJ_296 x17 _ ?_ ?_ ?_ ?_ ?_ (ex_ret hp hx_43) w (hw.pick [0, 0, 0])
      · exact h_33
      · exact h_34
      · exact h_35
      · exact h_36
      · exact h_37
end Go.Proofs.Ytoflleabpkgdpaa
