/- The walk through the program's functions: each one's pure reading, and that a call does what it says. No conditions. -/
import Derived.Test.YtoflleabpkgdpaaS3
set_option linter.unusedVariables false
set_option linter.unusedSimpArgs false
namespace Go.Proofs.Ytoflleabpkgdpaa
open Go Go.Proofs

/-! ### fettle/arith.bit -/
abbrev arith_bit.R (r : Int) (v : Value) (A : List FP) : Prop := .int .i64 r = v ∧ A = []
def arith_bit (a1 : Bool) : Option Int :=
  if a1 = true then
    some 1
  else
    some 0
theorem arith_bit_ok {E : World} {H : FP} {w : World} {a1 : Bool} {r : Int}  (hp : arith_bit a1 = some r) (hst : St E H [] w) :
    Fn Try.prog 108 #[.bool a1] w fun v w' => ∃ A, arith_bit.R r v A ∧ St E H A w' := by
  refine Fn.body (fn := Try.f108) (args := [.bool a1]) E H [] [.tmp 2] 4 Try.func108 rfl rfl rfl rfl (leb rfl) hst ?_
  unfold arith_bit at hp
  refine TC.seq fun K_1 hK_2 => ?_
  refine TC.region ?_
  refine TL.v (ltb rfl) (rv_as (v := .int .i64 0) rfl) ?_
  refine TL.nil ?_
  refine TC.go hK_2 ?_
  refine TC.seq fun K_3 hK_4 => ?_
  refine TC.seq fun K_5 hK_6 => ?_
  refine TC.region ?_
  refine TL.v (ltb rfl) (rv_mv (v := .bool a1) rfl) ?_
  refine TL.nil ?_
  refine TC.go hK_6 ?_
  by_cases hc_7 : a1 = true
  · rw [if_pos hc_7] at hp
    refine TC.condT (bbT hc_7) ?_
    refine TC.seq fun K_8 hK_9 => ?_
    refine TC.region ?_
    refine TL.v (ltb rfl) (rv_as (v := .int .i64 1) rfl) ?_
    refine TL.nil ?_
    refine TC.go hK_9 ?_
    refine TC.ret ?_
    obtain rfl := Option.some.inj hp
    exact fun w hw => retOk ⟨rfl, rfl⟩ (hw.pick [])
  · rw [if_neg hc_7] at hp
    refine TC.condF (bbF hc_7) ?_
    refine TC.skip ?_
    refine TC.go hK_4 ?_
    refine TC.seq fun K_10 hK_11 => ?_
    refine TC.region ?_
    refine TL.v (ltb rfl) (rv_as (v := .int .i64 0) rfl) ?_
    refine TL.nil ?_
    refine TC.go hK_11 ?_
    refine TC.ret ?_
    obtain rfl := Option.some.inj hp
    exact fun w hw => retOk ⟨rfl, rfl⟩ (hw.pick [])

/-! ### fettle/arith.Eval -/
abbrev arith_Eval.R (r : Int × GErr) (v : Value) (A : List FP) : Prop := ∃ (w1 : Value) (G1 : FP), .tuple #[.int .i64 r.1, w1] = v ∧ A = [G1] ∧ ErO 72 143 145 r.2 w1 G1
def arith_Eval (a1 : Int) (a2 : List Int) : Option (Int × GErr) :=
  (arith_Args a1).bind fun x5 =>
  if (!x5.2) = true ∨ (¬ (len a2) = x5.1) then
    some (0, (GErr.code 1))
  else
    (idx a2 0).bind fun x7 =>
    if a1 = 2 then
      some (x7, GErr.no)
    else
      if a1 = 14 then
        some ((w64 (1 - x7)), GErr.no)
      else
        (idx a2 1).bind fun x15 =>
        if a1 = 3 then
          some ((w64 (x7 + x15)), GErr.no)
        else
          if a1 = 4 then
            some ((w64 (x7 - x15)), GErr.no)
          else
            if a1 = 5 then
              some ((w64 (x7 * x15)), GErr.no)
            else
              if a1 = 6 then
                some ((bitw .and x7 x15), GErr.no)
              else
                if a1 = 7 then
                  some ((bitw .or x7 x15), GErr.no)
                else
                  if a1 = 8 then
                    some ((bitw .xor x7 x15), GErr.no)
                  else
                    if a1 = 9 then
                      some ((shlw x7 (andU (u64of x15) 63)), GErr.no)
                    else
                      if a1 = 10 then
                        some ((shrw x7 (andU (u64of x15) 63)), GErr.no)
                      else
                        if a1 = 12 then
                          (arith_bit (decide (x7 < x15))).bind fun x29 =>
                          some (x29, GErr.no)
                        else
                          if a1 = 13 then
                            (arith_bit (decide (x7 = x15))).bind fun x31 =>
                            some (x31, GErr.no)
                          else
                            if x15 = 0 then
                              some (0, (GErr.code 7))
                            else
                              some ((w64 (Int.tdiv x7 x15)), GErr.no)
theorem arith_Eval_ok {E : World} {H : FP} {w : World} {a1 : Int} {a2 : List Int} {v3 : Value} {r : Int × GErr} (h4 : SlI (kInt .i64) H a2 v3) (hp : arith_Eval a1 a2 = some r) (hst : St E H [] w) :
    Fn Try.prog 100 #[.int .i64 a1, v3] w fun v w' => ∃ A, arith_Eval.R r v A ∧ St E H A w' := by
  refine Fn.body (fn := Try.f100) (args := [.int .i64 a1, v3]) E H [] [.tmp 4, .tmp 5] 101 Try.func100 rfl rfl rfl rfl (leb rfl) hst ?_
  unfold arith_Eval at hp
  refine TC.seq fun K_1 hK_2 => ?_
  refine TC.region ?_
  refine TL.v (ltb rfl) (rv_as (v := .int .i64 0) rfl) ?_
  refine TL.v (ltb rfl) (rv_as (v := .nilIface) rfl) ?_
  refine TL.nil ?_
  refine TC.go hK_2 ?_
  refine TC.seq fun K_3 hK_4 => ?_
  refine TC.region ?_
  refine TL.v (ltb rfl) (rv_mv (v := .int .i64 a1) rfl) ?_
  obtain ⟨x5, hy_5, hp⟩ := bind_some' hp
  refine TL.callC (vs := [.int .i64 a1]) (R := arith_Args.R x5) [] [] rfl cb_107 (ltb rfl) (mc rfl m0) (fun w hw => arith_Args_ok (a1 := a1) hy_5 hw) fun v A' hR_6 => ?_
  obtain ⟨rfl, rfl⟩ := hR_6
  refine TL.norm (L' := []) rfl ?_
  refine TL.v (ltb rfl) (rv_mv (v := .tuple #[.int .i64 x5.1, .bool x5.2]) rfl) ?_
  refine TL.v (ltb rfl) (rv_extract (vs := #[.int .i64 x5.1, .bool x5.2]) (v := .int .i64 x5.1) rfl rfl) ?_
  refine TL.v (ltb rfl) (rv_extract (vs := #[.int .i64 x5.1, .bool x5.2]) (v := .bool x5.2) rfl rfl) ?_
  refine TL.v (ltb rfl) (rv_as (v := .int .i64 x5.1) rfl) ?_
  refine TL.v (ltb rfl) (rv_as (v := .bool x5.2) rfl) ?_
  refine TL.nil ?_
  refine TC.go hK_4 ?_
  refine TC.seq fun K_7 hK_8 => ?_
  refine TC.seq fun K_9 hK_10 => ?_
  refine TC.region ?_
  refine TL.v (ltb rfl) (rv_mv (v := .bool x5.2) rfl) ?_
  refine TL.v (ltb rfl) (rv_not (b := x5.2) rfl) ?_
  refine TL.v (ltb rfl) (rv_mv (v := .bool (!x5.2)) rfl) ?_
  refine TL.cut 5 fun K_11 hK_12 => ?_
  have hJ_13 : ∀ e_15 : Env, e_15 0 = .int .i64 a1 → e_15 1 = v3 → e_15 22 = .bool (decide ((!x5.2) = true ∨ (¬ (len a2) = x5.1))) → ∀ w, St E H [] w → K_11 e_15 w := by
    intro e_15 h_16 h_17 h_18
    refine TL.go hK_12 ?_
    refine TL.nil ?_
    refine TC.go hK_10 ?_
    by_cases hc_19 : (!x5.2) = true ∨ (¬ (len a2) = x5.1)
    · rw [if_pos hc_19] at hp
      refine TC.condT (h_18.trans (bT hc_19)) ?_
      refine TC.seq fun K_20 hK_21 => ?_
      refine TC.region ?_
      refine TL.v (ltb rfl) (rv_makeIface (v := .int .i64 1) Try.underlying72 (fun ms h => by cases h) rfl) ?_
      refine TL.v (ltb rfl) (rv_as (v := .int .i64 0) rfl) ?_
      refine TL.v (ltb rfl) (rv_as (v := .iface 72 (.int .i64 1)) rfl) ?_
      refine TL.nil ?_
      refine TC.go hK_21 ?_
      refine TC.ret ?_
      refine W.new0 ?_
      obtain rfl := Option.some.inj hp
      exact fun w hw => retOk ⟨(.iface 72 (.int .i64 1)), ([] : FP), (tu2 rfl rfl).symm, rfl, (ErO.mk _ : ErO 72 143 145 (GErr.code 1) (.iface 72 (.int .i64 1)) [])⟩ (hw.pick [0])
    · rw [if_neg hc_19] at hp
      refine TC.condF (h_18.trans (bF hc_19)) ?_
      refine TC.skip ?_
      refine TC.go hK_8 ?_
      refine TC.seq fun K_22 hK_23 => ?_
      refine TC.region ?_
      refine TL.v (ltb rfl) (rv_mv (v := v3) h_17) ?_
      obtain ⟨x7, hx_24, hp⟩ := bind_some' hp
      refine TL.v3 (ltb rfl) (rv_ix 100 (.tmp 24) (.const (.int .i64 0)) (v := v3) (i := 0) Try.underlying100 inf_2 rfl rfl rfl h4 hx_24) fun b8 o9 c10 h11 h12 => ?_
      obtain rfl := h11
      refine TL.v (ltb rfl) (rv_ld (v := .int .i64 x7) (o := o9) (o' := o9) (j := 0) sc_2 rfl Src.H h12 rfl rfl) ?_
      refine TL.v (ltb rfl) (rv_as (v := .int .i64 x7) rfl) ?_
      refine TL.nil ?_
      refine TC.go hK_23 ?_
      refine TC.seq fun K_25 hK_26 => ?_
      refine TC.seq fun K_27 hK_28 => ?_
      refine TC.region ?_
      refine TL.v (ltb rfl) (rv_mv (v := .int .i64 a1) h_16) ?_
      refine TL.nil ?_
      refine TC.go hK_28 ?_
      refine TC.block ?_
      refine TC.seq fun K_29 hK_30 => ?_
      refine TC.region ?_
      refine TL.v (ltb rfl) (rv_eql (k := .i64) (m := a1) (n := 2) rfl rfl) ?_
      refine TL.v (ltb rfl) (rv_as (v := .bool (decide (a1 = 2))) rfl) ?_
      refine TL.nil ?_
      refine TC.go hK_30 ?_
      by_cases hc_31 : a1 = 2
      · rw [if_pos hc_31] at hp
        refine TC.condT (bT hc_31) ?_
        refine TC.seq fun K_32 hK_33 => ?_
        refine TC.region ?_
        refine TL.v (ltb rfl) (rv_mv (v := .int .i64 x7) rfl) ?_
        refine TL.v (ltb rfl) (rv_as (v := .int .i64 x7) rfl) ?_
        refine TL.v (ltb rfl) (rv_as (v := .nilIface) rfl) ?_
        refine TL.nil ?_
        refine TC.go hK_33 ?_
        refine TC.ret ?_
        refine W.new0 ?_
        obtain rfl := Option.some.inj hp
        exact fun w hw => retOk ⟨.nilIface, ([] : FP), (tu2 rfl rfl).symm, rfl, (ErO.nil : ErO 72 143 145 GErr.no .nilIface [])⟩ (hw.pick [0])
      · rw [if_neg hc_31] at hp
        refine TC.condF (bF hc_31) ?_
        refine TC.seq fun K_34 hK_35 => ?_
        refine TC.region ?_
        refine TL.v (ltb rfl) (rv_eql (k := .i64) (m := a1) (n := 14) rfl rfl) ?_
        refine TL.v (ltb rfl) (rv_as (v := .bool (decide (a1 = 14))) rfl) ?_
        refine TL.nil ?_
        refine TC.go hK_35 ?_
        by_cases hc_36 : a1 = 14
        · rw [if_pos hc_36] at hp
          refine TC.condT (bT hc_36) ?_
          refine TC.seq fun K_37 hK_38 => ?_
          refine TC.region ?_
          refine TL.v (ltb rfl) (rv_mv (v := .int .i64 x7) rfl) ?_
          refine TL.v (ltb rfl) (rv_sub (k := .i64) (m := 1) (n := x7) rfl rfl) ?_
          refine TL.v (ltb rfl) (rv_as (v := .int .i64 (w64 (1 - x7))) rfl) ?_
          refine TL.v (ltb rfl) (rv_as (v := .nilIface) rfl) ?_
          refine TL.nil ?_
          refine TC.go hK_38 ?_
          refine TC.ret ?_
          refine W.new0 ?_
          obtain rfl := Option.some.inj hp
          exact fun w hw => retOk ⟨.nilIface, ([] : FP), (tu2 rfl rfl).symm, rfl, (ErO.nil : ErO 72 143 145 GErr.no .nilIface [])⟩ (hw.pick [0])
        · rw [if_neg hc_36] at hp
          refine TC.condF (bF hc_36) ?_
          refine TC.skip ?_
          refine TC.go hK_26 ?_
          refine TC.seq fun K_39 hK_40 => ?_
          refine TC.region ?_
          refine TL.v (ltb rfl) (rv_mv (v := v3) h_17) ?_
          obtain ⟨x15, hx_41, hp⟩ := bind_some' hp
          refine TL.v3 (ltb rfl) (rv_ix 100 (.tmp 35) (.const (.int .i64 1)) (v := v3) (i := 1) Try.underlying100 inf_2 rfl rfl rfl h4 hx_41) fun b16 o17 c18 h19 h20 => ?_
          obtain rfl := h19
          refine TL.v (ltb rfl) (rv_ld (v := .int .i64 x15) (o := o17) (o' := o17) (j := 0) sc_2 rfl Src.H h20 rfl rfl) ?_
          refine TL.v (ltb rfl) (rv_as (v := .int .i64 x15) rfl) ?_
          refine TL.nil ?_
          refine TC.go hK_40 ?_
          refine TC.seq fun K_42 hK_43 => ?_
          refine TC.seq fun K_44 hK_45 => ?_
          refine TC.region ?_
          refine TL.v (ltb rfl) (rv_mv (v := .int .i64 a1) h_16) ?_
          refine TL.nil ?_
          refine TC.go hK_45 ?_
          refine TC.block ?_
          refine TC.seq fun K_46 hK_47 => ?_
          refine TC.region ?_
          refine TL.v (ltb rfl) (rv_eql (k := .i64) (m := a1) (n := 3) rfl rfl) ?_
          refine TL.v (ltb rfl) (rv_as (v := .bool (decide (a1 = 3))) rfl) ?_
          refine TL.nil ?_
          refine TC.go hK_47 ?_
          by_cases hc_48 : a1 = 3
          · rw [if_pos hc_48] at hp
            refine TC.condT (bT hc_48) ?_
            refine TC.seq fun K_49 hK_50 => ?_
            refine TC.region ?_
            refine TL.v (ltb rfl) (rv_mv (v := .int .i64 x7) rfl) ?_
            refine TL.v (ltb rfl) (rv_mv (v := .int .i64 x15) rfl) ?_
            refine TL.v (ltb rfl) (rv_add (k := .i64) (m := x7) (n := x15) rfl rfl) ?_
            refine TL.v (ltb rfl) (rv_as (v := .int .i64 (w64 (x7 + x15))) rfl) ?_
            refine TL.v (ltb rfl) (rv_as (v := .nilIface) rfl) ?_
            refine TL.nil ?_
            refine TC.go hK_50 ?_
            refine TC.ret ?_
            refine W.new0 ?_
            obtain rfl := Option.some.inj hp
            exact fun w hw => retOk ⟨.nilIface, ([] : FP), (tu2 rfl rfl).symm, rfl, (ErO.nil : ErO 72 143 145 GErr.no .nilIface [])⟩ (hw.pick [0])
          · rw [if_neg hc_48] at hp
            refine TC.condF (bF hc_48) ?_
            refine TC.seq fun K_51 hK_52 => ?_
            refine TC.region ?_
            refine TL.v (ltb rfl) (rv_eql (k := .i64) (m := a1) (n := 4) rfl rfl) ?_
            refine TL.v (ltb rfl) (rv_as (v := .bool (decide (a1 = 4))) rfl) ?_
            refine TL.nil ?_
            refine TC.go hK_52 ?_
            by_cases hc_53 : a1 = 4
            · rw [if_pos hc_53] at hp
              refine TC.condT (bT hc_53) ?_
              refine TC.seq fun K_54 hK_55 => ?_
              refine TC.region ?_
              refine TL.v (ltb rfl) (rv_mv (v := .int .i64 x7) rfl) ?_
              refine TL.v (ltb rfl) (rv_mv (v := .int .i64 x15) rfl) ?_
              refine TL.v (ltb rfl) (rv_sub (k := .i64) (m := x7) (n := x15) rfl rfl) ?_
              refine TL.v (ltb rfl) (rv_as (v := .int .i64 (w64 (x7 - x15))) rfl) ?_
              refine TL.v (ltb rfl) (rv_as (v := .nilIface) rfl) ?_
              refine TL.nil ?_
              refine TC.go hK_55 ?_
              refine TC.ret ?_
              refine W.new0 ?_
              obtain rfl := Option.some.inj hp
              exact fun w hw => retOk ⟨.nilIface, ([] : FP), (tu2 rfl rfl).symm, rfl, (ErO.nil : ErO 72 143 145 GErr.no .nilIface [])⟩ (hw.pick [0])
            · rw [if_neg hc_53] at hp
              refine TC.condF (bF hc_53) ?_
              refine TC.seq fun K_56 hK_57 => ?_
              refine TC.region ?_
              refine TL.v (ltb rfl) (rv_eql (k := .i64) (m := a1) (n := 5) rfl rfl) ?_
              refine TL.v (ltb rfl) (rv_as (v := .bool (decide (a1 = 5))) rfl) ?_
              refine TL.nil ?_
              refine TC.go hK_57 ?_
              by_cases hc_58 : a1 = 5
              · rw [if_pos hc_58] at hp
                refine TC.condT (bT hc_58) ?_
                refine TC.seq fun K_59 hK_60 => ?_
                refine TC.region ?_
                refine TL.v (ltb rfl) (rv_mv (v := .int .i64 x7) rfl) ?_
                refine TL.v (ltb rfl) (rv_mv (v := .int .i64 x15) rfl) ?_
                refine TL.v (ltb rfl) (rv_mul (k := .i64) (m := x7) (n := x15) rfl rfl) ?_
                refine TL.v (ltb rfl) (rv_as (v := .int .i64 (w64 (x7 * x15))) rfl) ?_
                refine TL.v (ltb rfl) (rv_as (v := .nilIface) rfl) ?_
                refine TL.nil ?_
                refine TC.go hK_60 ?_
                refine TC.ret ?_
                refine W.new0 ?_
                obtain rfl := Option.some.inj hp
                exact fun w hw => retOk ⟨.nilIface, ([] : FP), (tu2 rfl rfl).symm, rfl, (ErO.nil : ErO 72 143 145 GErr.no .nilIface [])⟩ (hw.pick [0])
              · rw [if_neg hc_58] at hp
                refine TC.condF (bF hc_58) ?_
                refine TC.seq fun K_61 hK_62 => ?_
                refine TC.region ?_
                refine TL.v (ltb rfl) (rv_eql (k := .i64) (m := a1) (n := 6) rfl rfl) ?_
                refine TL.v (ltb rfl) (rv_as (v := .bool (decide (a1 = 6))) rfl) ?_
                refine TL.nil ?_
                refine TC.go hK_62 ?_
                by_cases hc_63 : a1 = 6
                · rw [if_pos hc_63] at hp
                  refine TC.condT (bT hc_63) ?_
                  refine TC.seq fun K_64 hK_65 => ?_
                  refine TC.region ?_
                  refine TL.v (ltb rfl) (rv_mv (v := .int .i64 x7) rfl) ?_
                  refine TL.v (ltb rfl) (rv_mv (v := .int .i64 x15) rfl) ?_
                  refine TL.v (ltb rfl) (rv_and (m := x7) (n := x15) rfl rfl) ?_
                  refine TL.v (ltb rfl) (rv_as (v := .int .i64 (bitw .and x7 x15)) rfl) ?_
                  refine TL.v (ltb rfl) (rv_as (v := .nilIface) rfl) ?_
                  refine TL.nil ?_
                  refine TC.go hK_65 ?_
                  refine TC.ret ?_
                  refine W.new0 ?_
                  obtain rfl := Option.some.inj hp
                  exact fun w hw => retOk ⟨.nilIface, ([] : FP), (tu2 rfl rfl).symm, rfl, (ErO.nil : ErO 72 143 145 GErr.no .nilIface [])⟩ (hw.pick [0])
                · rw [if_neg hc_63] at hp
                  refine TC.condF (bF hc_63) ?_
                  refine TC.seq fun K_66 hK_67 => ?_
                  refine TC.region ?_
                  refine TL.v (ltb rfl) (rv_eql (k := .i64) (m := a1) (n := 7) rfl rfl) ?_
                  refine TL.v (ltb rfl) (rv_as (v := .bool (decide (a1 = 7))) rfl) ?_
                  refine TL.nil ?_
                  refine TC.go hK_67 ?_
                  by_cases hc_68 : a1 = 7
                  · rw [if_pos hc_68] at hp
                    refine TC.condT (bT hc_68) ?_
                    refine TC.seq fun K_69 hK_70 => ?_
                    refine TC.region ?_
                    refine TL.v (ltb rfl) (rv_mv (v := .int .i64 x7) rfl) ?_
                    refine TL.v (ltb rfl) (rv_mv (v := .int .i64 x15) rfl) ?_
                    refine TL.v (ltb rfl) (rv_or (m := x7) (n := x15) rfl rfl) ?_
                    refine TL.v (ltb rfl) (rv_as (v := .int .i64 (bitw .or x7 x15)) rfl) ?_
                    refine TL.v (ltb rfl) (rv_as (v := .nilIface) rfl) ?_
                    refine TL.nil ?_
                    refine TC.go hK_70 ?_
                    refine TC.ret ?_
                    refine W.new0 ?_
                    obtain rfl := Option.some.inj hp
                    exact fun w hw => retOk ⟨.nilIface, ([] : FP), (tu2 rfl rfl).symm, rfl, (ErO.nil : ErO 72 143 145 GErr.no .nilIface [])⟩ (hw.pick [0])
                  · rw [if_neg hc_68] at hp
                    refine TC.condF (bF hc_68) ?_
                    refine TC.seq fun K_71 hK_72 => ?_
                    refine TC.region ?_
                    refine TL.v (ltb rfl) (rv_eql (k := .i64) (m := a1) (n := 8) rfl rfl) ?_
                    refine TL.v (ltb rfl) (rv_as (v := .bool (decide (a1 = 8))) rfl) ?_
                    refine TL.nil ?_
                    refine TC.go hK_72 ?_
                    by_cases hc_73 : a1 = 8
                    · rw [if_pos hc_73] at hp
                      refine TC.condT (bT hc_73) ?_
                      refine TC.seq fun K_74 hK_75 => ?_
                      refine TC.region ?_
                      refine TL.v (ltb rfl) (rv_mv (v := .int .i64 x7) rfl) ?_
                      refine TL.v (ltb rfl) (rv_mv (v := .int .i64 x15) rfl) ?_
                      refine TL.v (ltb rfl) (rv_xor (m := x7) (n := x15) rfl rfl) ?_
                      refine TL.v (ltb rfl) (rv_as (v := .int .i64 (bitw .xor x7 x15)) rfl) ?_
                      refine TL.v (ltb rfl) (rv_as (v := .nilIface) rfl) ?_
                      refine TL.nil ?_
                      refine TC.go hK_75 ?_
                      refine TC.ret ?_
                      refine W.new0 ?_
                      obtain rfl := Option.some.inj hp
                      exact fun w hw => retOk ⟨.nilIface, ([] : FP), (tu2 rfl rfl).symm, rfl, (ErO.nil : ErO 72 143 145 GErr.no .nilIface [])⟩ (hw.pick [0])
                    · rw [if_neg hc_73] at hp
                      refine TC.condF (bF hc_73) ?_
                      refine TC.seq fun K_76 hK_77 => ?_
                      refine TC.region ?_
                      refine TL.v (ltb rfl) (rv_eql (k := .i64) (m := a1) (n := 9) rfl rfl) ?_
                      refine TL.v (ltb rfl) (rv_as (v := .bool (decide (a1 = 9))) rfl) ?_
                      refine TL.nil ?_
                      refine TC.go hK_77 ?_
                      by_cases hc_78 : a1 = 9
                      · rw [if_pos hc_78] at hp
                        refine TC.condT (bT hc_78) ?_
                        refine TC.seq fun K_79 hK_80 => ?_
                        refine TC.region ?_
                        refine TL.v (ltb rfl) (rv_mv (v := .int .i64 x7) rfl) ?_
                        refine TL.v (ltb rfl) (rv_mv (v := .int .i64 x15) rfl) ?_
                        refine TL.v (ltb rfl) (rv_toU (k := .i64) (m := x15) (by kernel_rfl) Try.underlying172 rfl) ?_
                        refine TL.v (ltb rfl) (rv_andU (m := (u64of x15)) (n := 63) rfl rfl) ?_
                        refine TL.v (ltb rfl) (rv_shl (m := x7) (n := (andU (u64of x15) 63)) (andU_nn _ _) rfl rfl) ?_
                        refine TL.v (ltb rfl) (rv_as (v := .int .i64 (shlw x7 (andU (u64of x15) 63))) rfl) ?_
                        refine TL.v (ltb rfl) (rv_as (v := .nilIface) rfl) ?_
                        refine TL.nil ?_
                        refine TC.go hK_80 ?_
                        refine TC.ret ?_
                        refine W.new0 ?_
                        obtain rfl := Option.some.inj hp
                        exact fun w hw => retOk ⟨.nilIface, ([] : FP), (tu2 rfl rfl).symm, rfl, (ErO.nil : ErO 72 143 145 GErr.no .nilIface [])⟩ (hw.pick [0])
                      · rw [if_neg hc_78] at hp
                        refine TC.condF (bF hc_78) ?_
                        refine TC.seq fun K_81 hK_82 => ?_
                        refine TC.region ?_
                        refine TL.v (ltb rfl) (rv_eql (k := .i64) (m := a1) (n := 10) rfl rfl) ?_
                        refine TL.v (ltb rfl) (rv_as (v := .bool (decide (a1 = 10))) rfl) ?_
                        refine TL.nil ?_
                        refine TC.go hK_82 ?_
                        by_cases hc_83 : a1 = 10
                        · rw [if_pos hc_83] at hp
                          refine TC.condT (bT hc_83) ?_
                          refine TC.seq fun K_84 hK_85 => ?_
                          refine TC.region ?_
                          refine TL.v (ltb rfl) (rv_mv (v := .int .i64 x7) rfl) ?_
                          refine TL.v (ltb rfl) (rv_mv (v := .int .i64 x15) rfl) ?_
                          refine TL.v (ltb rfl) (rv_toU (k := .i64) (m := x15) (by kernel_rfl) Try.underlying172 rfl) ?_
                          refine TL.v (ltb rfl) (rv_andU (m := (u64of x15)) (n := 63) rfl rfl) ?_
                          refine TL.v (ltb rfl) (rv_shr (m := x7) (n := (andU (u64of x15) 63)) (andU_nn _ _) rfl rfl) ?_
                          refine TL.v (ltb rfl) (rv_as (v := .int .i64 (shrw x7 (andU (u64of x15) 63))) rfl) ?_
                          refine TL.v (ltb rfl) (rv_as (v := .nilIface) rfl) ?_
                          refine TL.nil ?_
                          refine TC.go hK_85 ?_
                          refine TC.ret ?_
                          refine W.new0 ?_
                          obtain rfl := Option.some.inj hp
                          exact fun w hw => retOk ⟨.nilIface, ([] : FP), (tu2 rfl rfl).symm, rfl, (ErO.nil : ErO 72 143 145 GErr.no .nilIface [])⟩ (hw.pick [0])
                        · rw [if_neg hc_83] at hp
                          refine TC.condF (bF hc_83) ?_
                          refine TC.seq fun K_86 hK_87 => ?_
                          refine TC.region ?_
                          refine TL.v (ltb rfl) (rv_eql (k := .i64) (m := a1) (n := 12) rfl rfl) ?_
                          refine TL.v (ltb rfl) (rv_as (v := .bool (decide (a1 = 12))) rfl) ?_
                          refine TL.nil ?_
                          refine TC.go hK_87 ?_
                          by_cases hc_88 : a1 = 12
                          · rw [if_pos hc_88] at hp
                            refine TC.condT (bT hc_88) ?_
                            refine TC.seq fun K_89 hK_90 => ?_
                            refine TC.region ?_
                            refine TL.v (ltb rfl) (rv_mv (v := .int .i64 x7) rfl) ?_
                            refine TL.v (ltb rfl) (rv_mv (v := .int .i64 x15) rfl) ?_
                            refine TL.v (ltb rfl) (rv_lss (k := .i64) (m := x7) (n := x15) rfl rfl) ?_
                            obtain ⟨x29, hy_91, hp⟩ := bind_some' hp
                            refine TL.callC (vs := [.bool (decide (x7 < x15))]) (R := arith_bit.R x29) [] [] rfl cb_108 (ltb rfl) (mc rfl m0) (fun w hw => arith_bit_ok (a1 := (decide (x7 < x15))) hy_91 hw) fun v A' hR_92 => ?_
                            obtain ⟨rfl, rfl⟩ := hR_92
                            refine TL.norm (L' := []) rfl ?_
                            refine TL.v (ltb rfl) (rv_as (v := .int .i64 x29) rfl) ?_
                            refine TL.v (ltb rfl) (rv_as (v := .nilIface) rfl) ?_
                            refine TL.nil ?_
                            refine TC.go hK_90 ?_
                            refine TC.ret ?_
                            refine W.new0 ?_
                            obtain rfl := Option.some.inj hp
                            exact fun w hw => retOk ⟨.nilIface, ([] : FP), (tu2 rfl rfl).symm, rfl, (ErO.nil : ErO 72 143 145 GErr.no .nilIface [])⟩ (hw.pick [0])
                          · rw [if_neg hc_88] at hp
                            refine TC.condF (bF hc_88) ?_
                            refine TC.seq fun K_93 hK_94 => ?_
                            refine TC.region ?_
                            refine TL.v (ltb rfl) (rv_eql (k := .i64) (m := a1) (n := 13) rfl rfl) ?_
                            refine TL.v (ltb rfl) (rv_as (v := .bool (decide (a1 = 13))) rfl) ?_
                            refine TL.nil ?_
                            refine TC.go hK_94 ?_
                            by_cases hc_95 : a1 = 13
                            · rw [if_pos hc_95] at hp
                              refine TC.condT (bT hc_95) ?_
                              refine TC.seq fun K_96 hK_97 => ?_
                              refine TC.region ?_
                              refine TL.v (ltb rfl) (rv_mv (v := .int .i64 x7) rfl) ?_
                              refine TL.v (ltb rfl) (rv_mv (v := .int .i64 x15) rfl) ?_
                              refine TL.v (ltb rfl) (rv_eql (k := .i64) (m := x7) (n := x15) rfl rfl) ?_
                              obtain ⟨x31, hy_98, hp⟩ := bind_some' hp
                              refine TL.callC (vs := [.bool (decide (x7 = x15))]) (R := arith_bit.R x31) [] [] rfl cb_108 (ltb rfl) (mc rfl m0) (fun w hw => arith_bit_ok (a1 := (decide (x7 = x15))) hy_98 hw) fun v A' hR_99 => ?_
                              obtain ⟨rfl, rfl⟩ := hR_99
                              refine TL.norm (L' := []) rfl ?_
                              refine TL.v (ltb rfl) (rv_as (v := .int .i64 x31) rfl) ?_
                              refine TL.v (ltb rfl) (rv_as (v := .nilIface) rfl) ?_
                              refine TL.nil ?_
                              refine TC.go hK_97 ?_
                              refine TC.ret ?_
                              refine W.new0 ?_
                              obtain rfl := Option.some.inj hp
                              exact fun w hw => retOk ⟨.nilIface, ([] : FP), (tu2 rfl rfl).symm, rfl, (ErO.nil : ErO 72 143 145 GErr.no .nilIface [])⟩ (hw.pick [0])
                            · rw [if_neg hc_95] at hp
                              refine TC.condF (bF hc_95) ?_
                              refine TC.skip ?_
                              refine TC.go hK_43 ?_
                              refine TC.seq fun K_100 hK_101 => ?_
                              refine TC.seq fun K_102 hK_103 => ?_
                              refine TC.region ?_
                              refine TL.v (ltb rfl) (rv_mv (v := .int .i64 x15) rfl) ?_
                              refine TL.v (ltb rfl) (rv_eql (k := .i64) (m := x15) (n := 0) rfl rfl) ?_
                              refine TL.nil ?_
                              refine TC.go hK_103 ?_
                              by_cases hc_104 : x15 = 0
                              · rw [if_pos hc_104] at hp
                                refine TC.condT (bT hc_104) ?_
                                refine TC.seq fun K_105 hK_106 => ?_
                                refine TC.region ?_
                                refine TL.v (ltb rfl) (rv_makeIface (v := .int .i64 7) Try.underlying72 (fun ms h => by cases h) rfl) ?_
                                refine TL.v (ltb rfl) (rv_as (v := .int .i64 0) rfl) ?_
                                refine TL.v (ltb rfl) (rv_as (v := .iface 72 (.int .i64 7)) rfl) ?_
                                refine TL.nil ?_
                                refine TC.go hK_106 ?_
                                refine TC.ret ?_
                                refine W.new0 ?_
                                obtain rfl := Option.some.inj hp
                                exact fun w hw => retOk ⟨(.iface 72 (.int .i64 7)), ([] : FP), (tu2 rfl rfl).symm, rfl, (ErO.mk _ : ErO 72 143 145 (GErr.code 7) (.iface 72 (.int .i64 7)) [])⟩ (hw.pick [0])
                              · rw [if_neg hc_104] at hp
                                refine TC.condF (bF hc_104) ?_
                                refine TC.skip ?_
                                refine TC.go hK_101 ?_
                                refine TC.seq fun K_107 hK_108 => ?_
                                refine TC.region ?_
                                refine TL.v (ltb rfl) (rv_mv (v := .int .i64 x7) rfl) ?_
                                refine TL.v (ltb rfl) (rv_mv (v := .int .i64 x15) rfl) ?_
                                refine TL.v (ltb rfl) (rv_quo (k := .i64) (m := x7) (n := x15) rfl rfl hc_104) ?_
                                refine TL.v (ltb rfl) (rv_as (v := .int .i64 (w64 (Int.tdiv x7 x15))) rfl) ?_
                                refine TL.v (ltb rfl) (rv_as (v := .nilIface) rfl) ?_
                                refine TL.nil ?_
                                refine TC.go hK_108 ?_
                                refine TC.ret ?_
                                refine W.new0 ?_
                                obtain rfl := Option.some.inj hp
                                exact fun w hw => retOk ⟨.nilIface, ([] : FP), (tu2 rfl rfl).symm, rfl, (ErO.nil : ErO 72 143 145 GErr.no .nilIface [])⟩ (hw.pick [0])
  by_cases hc_14 : (!x5.2) = true
  · refine TL.gno true rfl (fun d hd => by cases hd; exact ltb rfl) (yieldE_of rfl (bbT hc_14)) rfl ?_
    refine TL.gno true rfl (fun d hd => by cases hd; exact ltb rfl) (yieldE_of rfl (bbT hc_14)) rfl ?_
    refine TL.gno true rfl (fun d hd => by cases hd; exact ltb rfl) (yieldE_of rfl (bbT hc_14)) rfl ?_
    refine TL.gno true rfl (fun d hd => by cases hd; exact ltb rfl) (yieldE_of rfl (bbT hc_14)) rfl ?_
    refine TL.v (ltb rfl) (rv_pickT true (bbT hc_14) rfl (v := .bool true) rfl) ?_
    refine TL.nil (hJ_13 _ ?_ ?_ ?_)
    · exact rfl
    · exact rfl
    · exact (bOt hc_14)
  · refine TL.gyes false (yieldE_of rfl (bbF hc_14)) rfl ?_
    refine TL.v (ltb rfl) (rv_mv (v := v3) rfl) ?_
    refine TL.gyes false (yieldE_of rfl (bbF hc_14)) rfl ?_
    refine TL.v (ltb rfl) (rv_lenI (v := v3) Try.underlying100 rfl h4) ?_
    refine TL.gyes false (yieldE_of rfl (bbF hc_14)) rfl ?_
    refine TL.v (ltb rfl) (rv_mv (v := .int .i64 x5.1) rfl) ?_
    refine TL.gyes false (yieldE_of rfl (bbF hc_14)) rfl ?_
    refine TL.v (ltb rfl) (rv_neq (k := .i64) (m := (len a2)) (n := x5.1) rfl rfl) ?_
    refine TL.v (ltb rfl) (rv_pickF false (bbF hc_14) rfl (v := .bool (decide (¬ (len a2) = x5.1))) rfl) ?_
    refine TL.nil (hJ_13 _ ?_ ?_ ?_)
    · exact rfl
    · exact rfl
    · exact (bOf hc_14)

/-! ### fettle/run.word -/
abbrev run_word.R (r : Bool) (v : Value) (A : List FP) : Prop := .bool r = v ∧ A = []
def run_word (a1 : Int) : Option Bool :=
  some (decide (a1 ≥ 0 ∧ a1 < 64))
theorem run_word_ok {E : World} {H : FP} {w : World} {a1 : Int} {r : Bool}  (hp : run_word a1 = some r) (hst : St E H [] w) :
    Fn Try.prog 98 #[.int .i64 a1] w fun v w' => ∃ A, run_word.R r v A ∧ St E H A w' := by
  refine Fn.body (fn := Try.f98) (args := [.int .i64 a1]) E H [] [.tmp 2] 9 Try.func98 rfl rfl rfl rfl (leb rfl) hst ?_
  unfold run_word at hp
  refine TC.seq fun K_1 hK_2 => ?_
  refine TC.region ?_
  refine TL.v (ltb rfl) (rv_as (v := .bool false) rfl) ?_
  refine TL.nil ?_
  refine TC.go hK_2 ?_
  refine TC.seq fun K_3 hK_4 => ?_
  refine TC.region ?_
  refine TL.v (ltb rfl) (rv_mv (v := .int .i64 a1) rfl) ?_
  refine TL.v (ltb rfl) (rv_geq (k := .i64) (m := a1) (n := 0) rfl rfl) ?_
  refine TL.v (ltb rfl) (rv_mv (v := .bool (decide (a1 ≥ 0))) rfl) ?_
  refine TL.cut 3 fun K_5 hK_6 => ?_
  have hJ_7 : ∀ e_9 : Env, e_9 8 = .bool (decide (a1 ≥ 0 ∧ a1 < 64)) → ∀ w, St E H [] w → K_5 e_9 w := by
    intro e_9 h_10
    refine TL.go hK_6 ?_
    refine TL.v (ltb rfl) (rv_as (v := .bool (decide (a1 ≥ 0 ∧ a1 < 64))) h_10) ?_
    refine TL.nil ?_
    refine TC.go hK_4 ?_
    refine TC.ret ?_
    obtain rfl := Option.some.inj hp
    exact fun w hw => retOk ⟨rfl, rfl⟩ (hw.pick [])
  by_cases hc_8 : a1 ≥ 0
  · refine TL.gyes true (yieldE_of rfl (bT hc_8)) rfl ?_
    refine TL.v (ltb rfl) (rv_mv (v := .int .i64 a1) rfl) ?_
    refine TL.gyes true (yieldE_of rfl (bT hc_8)) rfl ?_
    refine TL.v (ltb rfl) (rv_lss (k := .i64) (m := a1) (n := 64) rfl rfl) ?_
    refine TL.v (ltb rfl) (rv_pickT true (bT hc_8) rfl (v := .bool (decide (a1 < 64))) rfl) ?_
    refine TL.nil (hJ_7 _ ?_)
    · exact (bAt hc_8)
  · refine TL.gno false rfl (fun d hd => by cases hd; exact ltb rfl) (yieldE_of rfl (bF hc_8)) rfl ?_
    refine TL.gno false rfl (fun d hd => by cases hd; exact ltb rfl) (yieldE_of rfl (bF hc_8)) rfl ?_
    refine TL.v (ltb rfl) (rv_pickF false (bF hc_8) rfl (v := .bool false) rfl) ?_
    refine TL.nil (hJ_7 _ ?_)
    · exact (bAf hc_8)

/-! ### (*fettle/run.runner).trap -/
abbrev run_runner_trap.R (b1 : Nat) (a2 : PRunner) (v3 : Value) (v5 : Value) (v7 : Value) (v9 : Value) (r : Bool × Int) (v : Value) (A : List FP) : Prop := .tuple #[] = v ∧ A = [bx b1 141 (([v3, v5, v7, .bool r.1, .int .i64 r.2, .int .i64 a2.out.value, v9, .int .i64 a2.out.steps] : List Value) ++ (arrC a2.out.memory ++ ([] : List Value)))]
def run_runner_trap (a2 : PRunner) (a12 : Int) : Option (Bool × Int) :=
  some (true, a12)
theorem run_runner_trap_ok {E : World} {H : FP} {w : World} {a2 : PRunner} {a12 : Int} {b1 : Nat} {v3 : Value} {v5 : Value} {v7 : Value} {v9 : Value} {r : Bool × Int} (h4 : SlI kFunc H a2.m.funcs v3) (h6 : SlI (kSl 22 (kSl 3 (kInt .i64))) H a2.ahead v5) (h8 : SlI kFrame H a2.frames v7) (h10 : SlI (kInt .i64) H a2.out.out v9) (hp : run_runner_trap a2 a12 = some r) (hst : St E H [bx b1 141 (([v3, v5, v7, .bool a2.out.done, .int .i64 a2.out.trap, .int .i64 a2.out.value, v9, .int .i64 a2.out.steps] : List Value) ++ (arrC a2.out.memory ++ ([] : List Value)))] w) :
    Fn Try.prog 99 #[.pointer (some ⟨b1, 0, none⟩), .int .i64 a12] w fun v w' => ∃ A, run_runner_trap.R b1 a2 v3 v5 v7 v9 r v A ∧ St E H A w' := by
  refine Fn.body (fn := Try.f99) (args := [.pointer (some ⟨b1, 0, none⟩), .int .i64 a12]) E H [bx b1 141 (([v3, v5, v7, .bool a2.out.done, .int .i64 a2.out.trap, .int .i64 a2.out.value, v9, .int .i64 a2.out.steps] : List Value) ++ (arrC a2.out.memory ++ ([] : List Value)))] [] 13 Try.func99 rfl rfl rfl rfl (leb rfl) hst ?_
  unfold run_runner_trap at hp
  refine TC.region ?_
  refine TL.v (ltb rfl) (rv_mv (v := .pointer (some ⟨b1, 0, none⟩)) rfl) ?_
  refine TL.v (ltb rfl) (rv_mv (v := .pointer (some ⟨b1, 0, none⟩)) rfl) ?_
  refine TL.v (ltb rfl) (rv_mv (v := .int .i64 a12) rfl) ?_
  refine TL.v (ltb rfl) (rv_nilCheck (a := ⟨b1, 0, none⟩) rfl) ?_
  refine TL.v (ltb rfl) (rv_fa (b := b1) (o := 0) fa_141_3 rfl) ?_
  refine TL.v (ltb rfl) (rv_fa (b := b1) (o := 3) fa_104_0 rfl) ?_
  refine TL.stB (ds := [.bool true]) (o := 3) (cs := (([v3, v5, v7, .bool a2.out.done, .int .i64 a2.out.trap, .int .i64 a2.out.value, v9, .int .i64 a2.out.steps] : List Value) ++ (arrC a2.out.memory ++ ([] : List Value)))) (b := b1) (u := .bool true) 0 rfl ms_4 rfl rfl rfl (oc rfl oc0) (leb rfl) ?_
  refine TL.norm (L' := [bx b1 141 (([v3, v5, v7, .bool true, .int .i64 a2.out.trap, .int .i64 a2.out.value, v9, .int .i64 a2.out.steps] : List Value) ++ (arrC a2.out.memory ++ ([] : List Value)))]) rfl ?_
  refine TL.v (ltb rfl) (rv_nilCheck (a := ⟨b1, 0, none⟩) rfl) ?_
  refine TL.v (ltb rfl) (rv_fa (b := b1) (o := 0) fa_141_3 rfl) ?_
  refine TL.v (ltb rfl) (rv_fa (b := b1) (o := 3) fa_104_1 rfl) ?_
  refine TL.stB (ds := [.int .i64 a12]) (o := 4) (cs := (([v3, v5, v7, .bool true, .int .i64 a2.out.trap, .int .i64 a2.out.value, v9, .int .i64 a2.out.steps] : List Value) ++ (arrC a2.out.memory ++ ([] : List Value)))) (b := b1) (u := .int .i64 a12) 0 rfl ms_3 rfl rfl rfl (oc rfl oc0) (leb rfl) ?_
  refine TL.norm (L' := [bx b1 141 (([v3, v5, v7, .bool true, .int .i64 a12, .int .i64 a2.out.value, v9, .int .i64 a2.out.steps] : List Value) ++ (arrC a2.out.memory ++ ([] : List Value)))]) rfl ?_
  refine TL.nil ?_
  obtain rfl := Option.some.inj hp
  exact fun w hw => retOk ⟨rfl, rfl⟩ (hw.pick [0])

/-! ### (*fettle/run.runner).enter -/
abbrev run_runner_enter.R (b1 : Nat) (a2 : PRunner) (v3 : Value) (v5 : Value) (v10 : Value) (r : List PFrame) (v : Value) (A : List FP) : Prop := ∃ (w1 : Value) (G1 : FP), .tuple #[] = v ∧ A = [bx b1 141 (([v3, v5, w1, .bool a2.out.done, .int .i64 a2.out.trap, .int .i64 a2.out.value, v10, .int .i64 a2.out.steps] : List Value) ++ (arrC a2.out.memory ++ ([] : List Value))), G1] ∧ SlO 153 kFrame r w1 G1
def run_runner_enter (a2 : PRunner) (a13 : Int) (a14 : List Int) (a17 : Int) : Option (List PFrame) :=
  (idx a2.m.funcs a13).bind fun x18 =>
  (mkl (len x18.regs) (0 : Int)).bind fun x28 =>
  (cat a2.frames [(⟨a13, (cpy x28 a14), 0, 0, a17⟩ : PFrame)]).bind fun x35 =>
  some x35
theorem run_runner_enter_ok {E : World} {H : FP} {w : World} {a2 : PRunner} {a13 : Int} {a14 : List Int} {a17 : Int} {b1 : Nat} {v3 : Value} {v5 : Value} {v7 : Value} {F8 : FP} {v10 : Value} {v15 : Value} {r : List PFrame} (h4 : SlI kFunc H a2.m.funcs v3) (h6 : SlI (kSl 22 (kSl 3 (kInt .i64))) H a2.ahead v5) (h9 : SlO 153 kFrame a2.frames v7 F8) (h11 : SlI (kInt .i64) H a2.out.out v10) (h16 : SlI (kInt .i64) H a14 v15) (hp : run_runner_enter a2 a13 a14 a17 = some r) (hst : St E H [bx b1 141 (([v3, v5, v7, .bool a2.out.done, .int .i64 a2.out.trap, .int .i64 a2.out.value, v10, .int .i64 a2.out.steps] : List Value) ++ (arrC a2.out.memory ++ ([] : List Value))), F8] w) :
    Fn Try.prog 82 #[.pointer (some ⟨b1, 0, none⟩), .int .i64 a13, v15, .int .i64 a17] w fun v w' => ∃ A, run_runner_enter.R b1 a2 v3 v5 v10 r v A ∧ St E H A w' := by
  refine Fn.body (fn := Try.f82) (args := [.pointer (some ⟨b1, 0, none⟩), .int .i64 a13, v15, .int .i64 a17]) E H [bx b1 141 (([v3, v5, v7, .bool a2.out.done, .int .i64 a2.out.trap, .int .i64 a2.out.value, v10, .int .i64 a2.out.steps] : List Value) ++ (arrC a2.out.memory ++ ([] : List Value))), F8] [] 36 Try.func82 rfl rfl rfl rfl (leb rfl) hst ?_
  unfold run_runner_enter at hp
  refine TC.seq fun K_1 hK_2 => ?_
  refine TC.region ?_
  refine TL.v (ltb rfl) (rv_mv (v := .pointer (some ⟨b1, 0, none⟩)) rfl) ?_
  refine TL.v (ltb rfl) (rv_nilCheck (a := ⟨b1, 0, none⟩) rfl) ?_
  refine TL.v (ltb rfl) (rv_fa (b := b1) (o := 0) fa_141_0 rfl) ?_
  refine TL.v (ltb rfl) (rv_fa (b := b1) (o := 0) fa_90_0 rfl) ?_
  refine TL.v (ltb rfl) (rv_ld (v := v3) (o := 0) (o' := 0) (j := 0) sc_88 rfl (Src.at_ 0 rfl) (bx_cells b1 141 _) rfl rfl) ?_
  refine TL.v (ltb rfl) (rv_mv (v := .int .i64 a13) rfl) ?_
  obtain ⟨x18, hx_3, hp⟩ := bind_some' hp
  refine TL.v3 (ltb rfl) (rv_ix 88 (.tmp 13) (.tmp 14) (v := v3) (i := a13) Try.underlying88 inf_25 rfl rfl rfl h4 hx_3) fun b19 o20 c21 h22 h23 => ?_
  obtain ⟨v24, v26, rfl, h25, h27⟩ := h22
  refine TL.v (ltb rfl) (rv_fa (b := b19) (o := o20) fa_25_2 rfl) ?_
  refine TL.v (ltb rfl) (rv_ld (v := v24) (o := o20 + 2) (o' := o20) (j := 2) sc_22 rfl Src.H h23 rfl rfl) ?_
  refine TL.v (ltb rfl) (rv_lenI (v := v24) Try.underlying22 rfl h25) ?_
  obtain ⟨x28, hz_4, hp⟩ := bind_some' hp
  refine TL.mk (k := (kInt .i64)) (n := (len x18.regs)) (x0 := (0 : Int)) Try.underlying100 inf_2 (ltb rfl) (ltb rfl) rfl rfl (leb rfl) rfl ⟨rfl, rfl⟩ hz_4 fun v29 F30 h31 => ?_
  refine TL.v (ltb rfl) (rv_as (v := v29) rfl) ?_
  refine TL.nil ?_
  refine TC.go hK_2 ?_
  refine TC.seq fun K_5 hK_6 => ?_
  refine TC.region ?_
  refine TL.v (ltb rfl) (rv_mv (v := v29) rfl) ?_
  refine TL.v (ltb rfl) (rv_mv (v := v15) rfl) ?_
  refine TL.copy (v := v29) (u := v15) (fInt .i64) Try.underlying100 inf_2 (ltb rfl) rfl rfl rfl rfl h31 h16 Src.H fun F32 h33 => ?_
  refine TL.nil ?_
  refine TC.go hK_6 ?_
  refine TC.region ?_
  refine TL.v (ltb rfl) (rv_mv (v := .pointer (some ⟨b1, 0, none⟩)) rfl) ?_
  refine TL.v (ltb rfl) (rv_mv (v := .pointer (some ⟨b1, 0, none⟩)) rfl) ?_
  refine TL.v (ltb rfl) (rv_nilCheck (a := ⟨b1, 0, none⟩) rfl) ?_
  refine TL.v (ltb rfl) (rv_fa (b := b1) (o := 0) fa_141_2 rfl) ?_
  refine TL.v (ltb rfl) (rv_ld (v := v7) (o := 2) (o' := 0) (j := 2) sc_139 rfl (Src.at_ 1 rfl) (bx_cells b1 141 _) rfl rfl) ?_
  refine TL.v (ltb rfl) (rv_mv (v := .int .i64 a13) rfl) ?_
  refine TL.v (ltb rfl) (rv_mv (v := v29) rfl) ?_
  refine TL.v (ltb rfl) (rv_mv (v := .int .i64 a17) rfl) ?_
  refine TL.v (ltb rfl) (rv_bv (vs := [(0, .int .i64 a13), (1, v29), (4, .int .i64 a17)]) (ds := [.int .i64 a13, v29, .int .i64 0, .int .i64 0, .int .i64 a17]) (pc rfl (pc rfl (pc rfl p0))) (fun w => by obtain ⟨_, _, rfl⟩ := (h33).len; kernel_rfl)) ?_
  refine TL.bv (vs := [(0, .agg #[.int .i64 a13, v29, .int .i64 0, .int .i64 0, .int .i64 a17])]) (cs := [.int .i64 a13, v29, .int .i64 0, .int .i64 0, .int .i64 a17]) (pc rfl p0) Try.underlying139 inf_153 (ltb rfl) (by decide) (by decide) (by kernel_rfl) fun b34 => ?_
  refine TL.pk' [3, 0, 0, 0] (L' := [F8, bx b34 153 [.int .i64 a13, v29, .int .i64 0, .int .i64 0, .int .i64 a17], F32, bx b1 141 (([v3, v5, v7, .bool a2.out.done, .int .i64 a2.out.trap, .int .i64 a2.out.value, v10, .int .i64 a2.out.steps] : List Value) ++ (arrC a2.out.memory ++ ([] : List Value)))]) rfl ?_
  refine TL.perm (L' := [F8, bx b34 153 [.int .i64 a13, v29, .int .i64 0, .int .i64 0, .int .i64 a17], F32 ++ [], bx b1 141 (([v3, v5, v7, .bool a2.out.done, .int .i64 a2.out.trap, .int .i64 a2.out.value, v10, .int .i64 a2.out.steps] : List Value) ++ (arrC a2.out.memory ++ ([] : List Value)))]) (by simp) ?_
  obtain ⟨x35, hz_7, hp⟩ := bind_some' hp
  refine TL.app Try.underlying139 inf_153 (ltb rfl) rfl (ltb rfl) rfl (leb rfl) rfl rfl h9 (RepL.to (RepL.cons (k := kFrame) (x := (⟨a13, (cpy x28 a14), 0, 0, a17⟩ : PFrame)) ⟨_, _, rfl, rfl, h33⟩ RepL.nil) rfl) rfl rfl hz_7 fun v36 F37 h38 => ?_
  refine TL.v (ltb rfl) (rv_nilCheck (a := ⟨b1, 0, none⟩) rfl) ?_
  refine TL.v (ltb rfl) (rv_fa (b := b1) (o := 0) fa_141_2 rfl) ?_
  refine TL.stB (ds := [v36]) (o := 2) (cs := (([v3, v5, v7, .bool a2.out.done, .int .i64 a2.out.trap, .int .i64 a2.out.value, v10, .int .i64 a2.out.steps] : List Value) ++ (arrC a2.out.memory ++ ([] : List Value)))) (b := b1) (u := v36) 1 rfl ms_139 rfl rfl (SlO.cells h38) (oc (h38).one oc0) (leb rfl) ?_
  refine TL.norm (L' := [F37, bx b1 141 (([v3, v5, v36, .bool a2.out.done, .int .i64 a2.out.trap, .int .i64 a2.out.value, v10, .int .i64 a2.out.steps] : List Value) ++ (arrC a2.out.memory ++ ([] : List Value)))]) rfl ?_
  refine TL.nil ?_
  obtain rfl := Option.some.inj hp
  exact fun w hw => retOk ⟨v36, F37, rfl, rfl, h38⟩ (hw.pick [1, 0])

/-! ### fettle/fettleref04.Begins -/
abbrev fettleref04_Begins.R (r : Bool) (v : Value) (A : List FP) : Prop := .bool r = v ∧ A = []
def fettleref04_Begins.nx22  : Option Bool :=
  some true
def fettleref04_Begins.bd22 (a1 : List Int) (a4 : List Int) (x7 : Int) : Option (Ex (Ex Bool Unit) Int) :=
  if x7 < (len a1) then
    (idx a1 x7).bind fun x8 =>
    (idx a4 x7).bind fun x14 =>
    if ¬ x8 = x14 then
      some (.ret (.ret false))
    else
      some (.go (w64 (x7 + 1)))
  else
    some (.ret (.go ()))
def fettleref04_Begins (a1 : List Int) (a4 : List Int) : Option Bool :=
  if (len a1) > (len a4) then
    some false
  else
    (whl (fun (s : Int) => fettleref04_Begins.bd22 a1 a4 s) FUEL 0).bind fun z =>
    match z with
      | .ret r => some r
      | .go p => fettleref04_Begins.nx22
theorem fettleref04_Begins_ok {E : World} {H : FP} {w : World} {a1 : List Int} {a4 : List Int} {v2 : Value} {v5 : Value} {r : Bool} (h3 : SlI (kInt .i64) H a1 v2) (h6 : SlI (kInt .i64) H a4 v5) (hp : fettleref04_Begins a1 a4 = some r) (hst : St E H [] w) :
    Fn Try.prog 57 #[v2, v5] w fun v w' => ∃ A, fettleref04_Begins.R r v A ∧ St E H A w' := by
  refine Fn.body (fn := Try.f57) (args := [v2, v5]) E H [] [.tmp 4] 26 Try.func57 rfl rfl rfl rfl (leb rfl) hst ?_
  unfold fettleref04_Begins at hp
  refine TC.seq fun K_1 hK_2 => ?_
  refine TC.region ?_
  refine TL.v (ltb rfl) (rv_as (v := .bool false) rfl) ?_
  refine TL.nil ?_
  refine TC.go hK_2 ?_
  refine TC.seq fun K_3 hK_4 => ?_
  refine TC.seq fun K_5 hK_6 => ?_
  refine TC.region ?_
  refine TL.v (ltb rfl) (rv_mv (v := v2) rfl) ?_
  refine TL.v (ltb rfl) (rv_lenI (v := v2) Try.underlying100 rfl h3) ?_
  refine TL.v (ltb rfl) (rv_mv (v := v5) rfl) ?_
  refine TL.v (ltb rfl) (rv_lenI (v := v5) Try.underlying100 rfl h6) ?_
  refine TL.v (ltb rfl) (rv_gtr (k := .i64) (m := (len a1)) (n := (len a4)) rfl rfl) ?_
  refine TL.nil ?_
  refine TC.go hK_6 ?_
  by_cases hc_7 : (len a1) > (len a4)
  · rw [if_pos hc_7] at hp
    refine TC.condT (bT hc_7) ?_
    refine TC.seq fun K_8 hK_9 => ?_
    refine TC.region ?_
    refine TL.v (ltb rfl) (rv_as (v := .bool false) rfl) ?_
    refine TL.nil ?_
    refine TC.go hK_9 ?_
    refine TC.ret ?_
    obtain rfl := Option.some.inj hp
    exact fun w hw => retOk ⟨rfl, rfl⟩ (hw.pick [])
  · rw [if_neg hc_7] at hp
    refine TC.condF (bF hc_7) ?_
    refine TC.skip ?_
    refine TC.go hK_4 ?_
    refine TC.seq fun K_10 hK_11 => ?_
    refine TC.seq fun K_12 hK_13 => ?_
    refine TC.region ?_
    refine TL.v (ltb rfl) (rv_as (v := .int .i64 0) rfl) ?_
    refine TL.nil ?_
    refine TC.go hK_13 ?_
    refine TC.block ?_
    obtain ⟨z_18, hz_19, hr_20⟩ := bind_some' hp
    clear hp
    have hJ_26 : ∀ (e_23 : Env) (hq_27 : .go () = z_18), ∀ w, St E H [] w → K_10 e_23 w := by
      intro e_23 hq_27
      subst hq_27
      replace hp : fettleref04_Begins.nx22 = some r := hr_20
      unfold fettleref04_Begins.nx22 at hp
      refine TC.go hK_11 ?_
      refine TC.seq fun K_24 hK_25 => ?_
      refine TC.region ?_
      refine TL.v (ltb rfl) (rv_as (v := .bool true) rfl) ?_
      refine TL.nil ?_
      refine TC.go hK_25 ?_
      refine TC.ret ?_
      obtain rfl := Option.some.inj hp
      exact fun w hw => retOk ⟨rfl, rfl⟩ (hw.pick [])
    refine TC.pk' [] (L' := []) rfl ?_
    refine TC.loopW (r := z_18) (fun (x7 : Int) (e_14 : Env) (L_42 : List FP) => e_14 0 = v2 ∧ e_14 1 = v5 ∧ e_14 5 = .int .i64 x7 ∧ L_42 = []) ?_ FUEL _ _ _ hz_19 ⟨rfl, rfl, rfl, rfl⟩
    rintro x7 e_14 L_42 ⟨h_15, h_16, h_17, rfl⟩ x_21 hp hx_22
    replace hp : fettleref04_Begins.bd22 a1 a4 x7 = some x_21 := hp
    unfold fettleref04_Begins.bd22 at hp
    refine TC.seq fun K_28 hK_29 => ?_
    refine TC.seq fun K_30 hK_31 => ?_
    refine TC.region ?_
    refine TL.v (ltb rfl) (rv_mv (v := .int .i64 x7) h_17) ?_
    refine TL.v (ltb rfl) (rv_mv (v := v2) h_15) ?_
    refine TL.v (ltb rfl) (rv_lenI (v := v2) Try.underlying100 rfl h3) ?_
    refine TL.v (ltb rfl) (rv_lss (k := .i64) (m := x7) (n := (len a1)) rfl rfl) ?_
    refine TL.nil ?_
    refine TC.go hK_31 ?_
    by_cases hc_32 : x7 < (len a1)
    · rw [if_pos hc_32] at hp
      refine TC.condT (bT hc_32) ?_
      refine TC.skip ?_
      refine TC.go hK_29 ?_
      refine TC.seq fun K_33 hK_34 => ?_
      refine TC.block ?_
      refine TC.seq fun K_35 hK_36 => ?_
      refine TC.quiet mix (by kernel_rfl) ?_
      refine QL.v (ltb rfl) (rv_mv (v := v2) h_15) ?_
      refine QL.v (ltb rfl) (rv_mv (v := .int .i64 x7) h_17) ?_
      obtain ⟨x8, hx_37, hp⟩ := bind_some' hp
      refine QL.v3 (ltb rfl) (rv_ix 100 (.tmp 17) (.tmp 18) (v := v2) (i := x7) Try.underlying100 inf_2 rfl rfl rfl h3 hx_37) fun b9 o10 c11 h12 h13 => ?_
      obtain rfl := h12
      refine QL.v (ltb rfl) (rv_ld (v := .int .i64 x8) (o := o10) (o' := o10) (j := 0) sc_2 rfl Src.H h13 rfl rfl) ?_
      refine QL.v (ltb rfl) (rv_mv (v := v5) h_16) ?_
      refine QL.v (ltb rfl) (rv_mv (v := .int .i64 x7) h_17) ?_
      obtain ⟨x14, hx_38, hp⟩ := bind_some' hp
      refine QL.v3 (ltb rfl) (rv_ix 100 (.tmp 21) (.tmp 22) (v := v5) (i := x7) Try.underlying100 inf_2 rfl rfl rfl h6 hx_38) fun b15 o16 c17 h18 h19 => ?_
      obtain rfl := h18
      refine QL.v (ltb rfl) (rv_ld (v := .int .i64 x14) (o := o16) (o' := o16) (j := 0) sc_2 rfl Src.H h19 rfl rfl) ?_
      refine QL.v (ltb rfl) (rv_neq (k := .i64) (m := x8) (n := x14) rfl rfl) ?_
      refine QL.nil ?_
      refine TC.go hK_36 ?_
      by_cases hc_39 : ¬ x8 = x14
      · rw [if_pos hc_39] at hp
        refine TC.condT (bT hc_39) ?_
        refine TC.seq fun K_40 hK_41 => ?_
        refine TC.region ?_
        refine TL.v (ltb rfl) (rv_as (v := .bool false) rfl) ?_
        refine TL.nil ?_
        refine TC.go hK_41 ?_
        refine TC.ret ?_
        obtain rfl := ex_ret hp hx_22
        obtain rfl := Option.some.inj hr_20
        exact fun w hw => retOk ⟨rfl, rfl⟩ (hw.pick [])
      · rw [if_neg hc_39] at hp
        refine TC.condF (bF hc_39) ?_
        refine TC.skip ?_
        refine TC.go hK_34 ?_
        refine TC.region ?_
        refine TL.v (ltb rfl) (rv_mv (v := .int .i64 x7) h_17) ?_
        refine TL.v (ltb rfl) (rv_add (k := .i64) (m := x7) (n := 1) rfl rfl) ?_
        refine TL.v (ltb rfl) (rv_as (v := .int .i64 (w64 (x7 + 1))) rfl) ?_
        refine TL.nil ?_
        exact fun w hw => goOk hp ⟨h_15, h_16, rfl, rfl⟩ (hw.pick [])
    · rw [if_neg hc_32] at hp
      refine TC.condF (bF hc_32) ?_
      refine TC.exit ?_
      refine fun w hw => hJ_26 _ (ex_ret hp hx_22) w (hw.pick [])

/-! ### fettle/fettleref04.Alike -/
abbrev fettleref04_Alike.R (r : Bool) (v : Value) (A : List FP) : Prop := .bool r = v ∧ A = []
def fettleref04_Alike (a1 : List Int) (a4 : List Int) : Option Bool :=
  (if (len a1) = (len a4) then (fettleref04_Begins a1 a4).bind fun x8 =>
  some x8 else some false).bind fun t7 =>
  some t7
theorem fettleref04_Alike_ok {E : World} {H : FP} {w : World} {a1 : List Int} {a4 : List Int} {v2 : Value} {v5 : Value} {r : Bool} (h3 : SlI (kInt .i64) H a1 v2) (h6 : SlI (kInt .i64) H a4 v5) (hp : fettleref04_Alike a1 a4 = some r) (hst : St E H [] w) :
    Fn Try.prog 58 #[v2, v5] w fun v w' => ∃ A, fettleref04_Alike.R r v A ∧ St E H A w' := by
  refine Fn.body (fn := Try.f58) (args := [v2, v5]) E H [] [.tmp 4] 15 Try.func58 rfl rfl rfl rfl (leb rfl) hst ?_
  unfold fettleref04_Alike at hp
  refine TC.seq fun K_1 hK_2 => ?_
  refine TC.region ?_
  refine TL.v (ltb rfl) (rv_as (v := .bool false) rfl) ?_
  refine TL.nil ?_
  refine TC.go hK_2 ?_
  refine TC.seq fun K_3 hK_4 => ?_
  refine TC.region ?_
  refine TL.v (ltb rfl) (rv_mv (v := v2) rfl) ?_
  refine TL.v (ltb rfl) (rv_lenI (v := v2) Try.underlying100 rfl h3) ?_
  refine TL.v (ltb rfl) (rv_mv (v := v5) rfl) ?_
  refine TL.v (ltb rfl) (rv_lenI (v := v5) Try.underlying100 rfl h6) ?_
  refine TL.v (ltb rfl) (rv_eql (k := .i64) (m := (len a1)) (n := (len a4)) rfl rfl) ?_
  refine TL.v (ltb rfl) (rv_mv (v := .bool (decide ((len a1) = (len a4)))) rfl) ?_
  obtain ⟨t7, ht_11, hp⟩ := bind_some' hp
  refine TL.cut 4 fun K_5 hK_6 => ?_
  have hJ_7 : ∀ e_9 : Env, e_9 14 = .bool t7 → ∀ w, St E H [] w → K_5 e_9 w := by
    intro e_9 h_10
    refine TL.go hK_6 ?_
    refine TL.v (ltb rfl) (rv_as (v := .bool t7) h_10) ?_
    refine TL.nil ?_
    refine TC.go hK_4 ?_
    refine TC.ret ?_
    obtain rfl := Option.some.inj hp
    exact fun w hw => retOk ⟨rfl, rfl⟩ (hw.pick [])
  clear hp
  have hp := ht_11
  clear ht_11
  by_cases hc_8 : (len a1) = (len a4)
  · rw [if_pos hc_8] at hp
    refine TL.gyes true (yieldE_of rfl (bT hc_8)) rfl ?_
    refine TL.v (ltb rfl) (rv_mv (v := v2) rfl) ?_
    refine TL.gyes true (yieldE_of rfl (bT hc_8)) rfl ?_
    refine TL.v (ltb rfl) (rv_mv (v := v5) rfl) ?_
    refine TL.gyes true (yieldE_of rfl (bT hc_8)) rfl ?_
    obtain ⟨x8, hy_12, hp⟩ := bind_some' hp
    refine TL.callC (vs := [v2, v5]) (R := fettleref04_Begins.R x8) [] [] rfl cb_57 (ltb rfl) (mc rfl (mc rfl m0)) (fun w hw => fettleref04_Begins_ok (a1 := a1) (a4 := a4) (h3.mono subH) (h6.mono subH) hy_12 hw) fun v A' hR_13 => ?_
    obtain ⟨rfl, rfl⟩ := hR_13
    refine TL.norm (L' := []) rfl ?_
    refine TL.v (ltb rfl) (rv_pickT true (bT hc_8) rfl (v := .bool x8) rfl) ?_
    obtain rfl := Option.some.inj hp
    refine TL.nil (hJ_7 _ ?_)
    · exact rfl
  · rw [if_neg hc_8] at hp
    refine TL.gno false rfl (fun d hd => by cases hd; exact ltb rfl) (yieldE_of rfl (bF hc_8)) rfl ?_
    refine TL.gno false rfl (fun d hd => by cases hd; exact ltb rfl) (yieldE_of rfl (bF hc_8)) rfl ?_
    refine TL.gno false rfl (fun d hd => by cases hd; exact ltb rfl) (yieldE_of rfl (bF hc_8)) rfl ?_
    refine TL.v (ltb rfl) (rv_pickF false (bF hc_8) rfl (v := .bool false) rfl) ?_
    obtain rfl := Option.some.inj hp
    refine TL.nil (hJ_7 _ ?_)
    · exact rfl

/-! ### fettle/fettleref04.Same -/
abbrev fettleref04_Same.R (r : Bool) (v : Value) (A : List FP) : Prop := .bool r = v ∧ A = []
def fettleref04_Same (a1 : POutcome) (a4 : POutcome) : Option Bool :=
  (if ((((a1.done == a4.done) = true ∧ a1.trap = a4.trap) ∧ a1.value = a4.value) ∧ a1.steps = a4.steps) ∧ a1.memory = a4.memory then (fettleref04_Alike a1.out a4.out).bind fun x10 =>
  some x10 else some false).bind fun t9 =>
  some t9
theorem fettleref04_Same_ok {E : World} {H : FP} {w : World} {a1 : POutcome} {a4 : POutcome} {v2 : Value} {v5 : Value} {r : Bool} (h3 : SlI (kInt .i64) H a1.out v2) (h6 : SlI (kInt .i64) H a4.out v5) (hp : fettleref04_Same a1 a4 = some r) (hst : St E H [] w) :
    Fn Try.prog 56 #[.agg ((([.bool a1.done, .int .i64 a1.trap, .int .i64 a1.value, v2, .int .i64 a1.steps] : List Value) ++ (arrC a1.memory ++ ([] : List Value)))).toArray, .agg ((([.bool a4.done, .int .i64 a4.trap, .int .i64 a4.value, v5, .int .i64 a4.steps] : List Value) ++ (arrC a4.memory ++ ([] : List Value)))).toArray] w fun v w' => ∃ A, fettleref04_Same.R r v A ∧ St E H A w' := by
  refine Fn.body (fn := Try.f56) (args := [.agg ((([.bool a1.done, .int .i64 a1.trap, .int .i64 a1.value, v2, .int .i64 a1.steps] : List Value) ++ (arrC a1.memory ++ ([] : List Value)))).toArray, .agg ((([.bool a4.done, .int .i64 a4.trap, .int .i64 a4.value, v5, .int .i64 a4.steps] : List Value) ++ (arrC a4.memory ++ ([] : List Value)))).toArray]) E H [] [.tmp 4] 45 Try.func56 rfl rfl rfl rfl (leb rfl) hst ?_
  unfold fettleref04_Same at hp
  refine TC.seq fun K_1 hK_2 => ?_
  refine TC.region ?_
  refine TL.box (cs := (([.bool a1.done, .int .i64 a1.trap, .int .i64 a1.value, v2, .int .i64 a1.steps] : List Value) ++ (arrC a1.memory ++ ([] : List Value)))) (v := .agg ((([.bool a1.done, .int .i64 a1.trap, .int .i64 a1.value, v2, .int .i64 a1.steps] : List Value) ++ (arrC a1.memory ++ ([] : List Value)))).toArray) (ltb rfl) rfl rfl fun b7 => ?_
  refine TL.box (cs := (([.bool a4.done, .int .i64 a4.trap, .int .i64 a4.value, v5, .int .i64 a4.steps] : List Value) ++ (arrC a4.memory ++ ([] : List Value)))) (v := .agg ((([.bool a4.done, .int .i64 a4.trap, .int .i64 a4.value, v5, .int .i64 a4.steps] : List Value) ++ (arrC a4.memory ++ ([] : List Value)))).toArray) (ltb rfl) rfl rfl fun b8 => ?_
  refine TL.v (ltb rfl) (rv_as (v := .bool false) rfl) ?_
  refine TL.nil ?_
  refine TC.go hK_2 ?_
  refine TC.seq fun K_3 hK_4 => ?_
  refine TC.region ?_
  refine TL.v (ltb rfl) (rv_fa (b := b7) (o := 0) fa_104_0 rfl) ?_
  refine TL.v (ltb rfl) (rv_ld (v := .bool a1.done) (o := 0) (o' := 0) (j := 0) sc_4 rfl (Src.at_ 1 rfl) (bx_cells b7 104 _) rfl rfl) ?_
  refine TL.v (ltb rfl) (rv_fa (b := b8) (o := 0) fa_104_0 rfl) ?_
  refine TL.v (ltb rfl) (rv_ld (v := .bool a4.done) (o := 0) (o' := 0) (j := 0) sc_4 rfl (Src.at_ 0 rfl) (bx_cells b8 104 _) rfl rfl) ?_
  refine TL.v (ltb rfl) (rv_eqlB (b := a1.done) (c := a4.done) Try.underlying4 rfl rfl) ?_
  refine TL.v (ltb rfl) (rv_mv (v := .bool (a1.done == a4.done)) rfl) ?_
  refine TL.cut 6 fun K_5 hK_6 => ?_
  have hJ_7 : ∀ e_9 : Env, e_9 2 = .pointer (some ⟨b7, 0, none⟩) → e_9 3 = .pointer (some ⟨b8, 0, none⟩) → e_9 16 = .bool (decide ((a1.done == a4.done) = true ∧ a1.trap = a4.trap)) → ∀ w, St E H [bx b8 104 (([.bool a4.done, .int .i64 a4.trap, .int .i64 a4.value, v5, .int .i64 a4.steps] : List Value) ++ (arrC a4.memory ++ ([] : List Value))), bx b7 104 (([.bool a1.done, .int .i64 a1.trap, .int .i64 a1.value, v2, .int .i64 a1.steps] : List Value) ++ (arrC a1.memory ++ ([] : List Value)))] w → K_5 e_9 w := by
    intro e_9 h_10 h_11 h_12
    refine TL.go hK_6 ?_
    refine TL.v (ltb rfl) (rv_mv (v := .bool (decide ((a1.done == a4.done) = true ∧ a1.trap = a4.trap))) h_12) ?_
    refine TL.cut 6 fun K_13 hK_14 => ?_
    have hJ_15 : ∀ e_17 : Env, e_17 2 = .pointer (some ⟨b7, 0, none⟩) → e_17 3 = .pointer (some ⟨b8, 0, none⟩) → e_17 23 = .bool (decide (((a1.done == a4.done) = true ∧ a1.trap = a4.trap) ∧ a1.value = a4.value)) → ∀ w, St E H [bx b8 104 (([.bool a4.done, .int .i64 a4.trap, .int .i64 a4.value, v5, .int .i64 a4.steps] : List Value) ++ (arrC a4.memory ++ ([] : List Value))), bx b7 104 (([.bool a1.done, .int .i64 a1.trap, .int .i64 a1.value, v2, .int .i64 a1.steps] : List Value) ++ (arrC a1.memory ++ ([] : List Value)))] w → K_13 e_17 w := by
      intro e_17 h_18 h_19 h_20
      refine TL.go hK_14 ?_
      refine TL.v (ltb rfl) (rv_mv (v := .bool (decide (((a1.done == a4.done) = true ∧ a1.trap = a4.trap) ∧ a1.value = a4.value))) h_20) ?_
      refine TL.cut 6 fun K_21 hK_22 => ?_
      have hJ_23 : ∀ e_25 : Env, e_25 2 = .pointer (some ⟨b7, 0, none⟩) → e_25 3 = .pointer (some ⟨b8, 0, none⟩) → e_25 30 = .bool (decide ((((a1.done == a4.done) = true ∧ a1.trap = a4.trap) ∧ a1.value = a4.value) ∧ a1.steps = a4.steps)) → ∀ w, St E H [bx b8 104 (([.bool a4.done, .int .i64 a4.trap, .int .i64 a4.value, v5, .int .i64 a4.steps] : List Value) ++ (arrC a4.memory ++ ([] : List Value))), bx b7 104 (([.bool a1.done, .int .i64 a1.trap, .int .i64 a1.value, v2, .int .i64 a1.steps] : List Value) ++ (arrC a1.memory ++ ([] : List Value)))] w → K_21 e_25 w := by
        intro e_25 h_26 h_27 h_28
        refine TL.go hK_22 ?_
        refine TL.v (ltb rfl) (rv_mv (v := .bool (decide ((((a1.done == a4.done) = true ∧ a1.trap = a4.trap) ∧ a1.value = a4.value) ∧ a1.steps = a4.steps))) h_28) ?_
        refine TL.cut 6 fun K_29 hK_30 => ?_
        have hJ_31 : ∀ e_33 : Env, e_33 2 = .pointer (some ⟨b7, 0, none⟩) → e_33 3 = .pointer (some ⟨b8, 0, none⟩) → e_33 37 = .bool (decide (((((a1.done == a4.done) = true ∧ a1.trap = a4.trap) ∧ a1.value = a4.value) ∧ a1.steps = a4.steps) ∧ a1.memory = a4.memory)) → ∀ w, St E H [bx b8 104 (([.bool a4.done, .int .i64 a4.trap, .int .i64 a4.value, v5, .int .i64 a4.steps] : List Value) ++ (arrC a4.memory ++ ([] : List Value))), bx b7 104 (([.bool a1.done, .int .i64 a1.trap, .int .i64 a1.value, v2, .int .i64 a1.steps] : List Value) ++ (arrC a1.memory ++ ([] : List Value)))] w → K_29 e_33 w := by
          intro e_33 h_34 h_35 h_36
          refine TL.go hK_30 ?_
          refine TL.v (ltb rfl) (rv_mv (v := .bool (decide (((((a1.done == a4.done) = true ∧ a1.trap = a4.trap) ∧ a1.value = a4.value) ∧ a1.steps = a4.steps) ∧ a1.memory = a4.memory))) h_36) ?_
          obtain ⟨t9, ht_43, hp⟩ := bind_some' hp
          refine TL.cut 6 fun K_37 hK_38 => ?_
          have hJ_39 : ∀ e_41 : Env, e_41 44 = .bool t9 → ∀ w, St E H [bx b8 104 (([.bool a4.done, .int .i64 a4.trap, .int .i64 a4.value, v5, .int .i64 a4.steps] : List Value) ++ (arrC a4.memory ++ ([] : List Value))), bx b7 104 (([.bool a1.done, .int .i64 a1.trap, .int .i64 a1.value, v2, .int .i64 a1.steps] : List Value) ++ (arrC a1.memory ++ ([] : List Value)))] w → K_37 e_41 w := by
            intro e_41 h_42
            refine TL.go hK_38 ?_
            refine TL.v (ltb rfl) (rv_as (v := .bool t9) h_42) ?_
            refine TL.nil ?_
            refine TC.go hK_4 ?_
            refine TC.ret ?_
            obtain rfl := Option.some.inj hp
            exact fun w hw => retOk ⟨rfl, rfl⟩ (hw.pick [])
          clear hp
          have hp := ht_43
          clear ht_43
          by_cases hc_40 : ((((a1.done == a4.done) = true ∧ a1.trap = a4.trap) ∧ a1.value = a4.value) ∧ a1.steps = a4.steps) ∧ a1.memory = a4.memory
          · rw [if_pos hc_40] at hp
            refine TL.gyes true (yieldE_of rfl (bT hc_40)) rfl ?_
            refine TL.v (ltb rfl) (rv_fa (b := b7) (o := 0) fa_104_3 h_34) ?_
            refine TL.gyes true (yieldE_of rfl (bT hc_40)) rfl ?_
            refine TL.v (ltb rfl) (rv_ld (v := v2) (o := 3) (o' := 0) (j := 3) sc_100 rfl (Src.at_ 1 rfl) (bx_cells b7 104 _) rfl rfl) ?_
            refine TL.gyes true (yieldE_of rfl (bT hc_40)) rfl ?_
            refine TL.v (ltb rfl) (rv_fa (b := b8) (o := 0) fa_104_3 h_35) ?_
            refine TL.gyes true (yieldE_of rfl (bT hc_40)) rfl ?_
            refine TL.v (ltb rfl) (rv_ld (v := v5) (o := 3) (o' := 0) (j := 3) sc_100 rfl (Src.at_ 0 rfl) (bx_cells b8 104 _) rfl rfl) ?_
            refine TL.gyes true (yieldE_of rfl (bT hc_40)) rfl ?_
            obtain ⟨x10, hy_44, hp⟩ := bind_some' hp
            refine TL.callC (vs := [v2, v5]) (R := fettleref04_Alike.R x10) [] [bx b8 104 (([.bool a4.done, .int .i64 a4.trap, .int .i64 a4.value, v5, .int .i64 a4.steps] : List Value) ++ (arrC a4.memory ++ ([] : List Value))), bx b7 104 (([.bool a1.done, .int .i64 a1.trap, .int .i64 a1.value, v2, .int .i64 a1.steps] : List Value) ++ (arrC a1.memory ++ ([] : List Value)))] rfl cb_58 (ltb rfl) (mc rfl (mc rfl m0)) (fun w hw => fettleref04_Alike_ok (a1 := a1.out) (a4 := a4.out) (h3.mono subH) (h6.mono subH) hy_44 hw) fun v A' hR_45 => ?_
            obtain ⟨rfl, rfl⟩ := hR_45
            refine TL.norm (L' := [bx b8 104 (([.bool a4.done, .int .i64 a4.trap, .int .i64 a4.value, v5, .int .i64 a4.steps] : List Value) ++ (arrC a4.memory ++ ([] : List Value))), bx b7 104 (([.bool a1.done, .int .i64 a1.trap, .int .i64 a1.value, v2, .int .i64 a1.steps] : List Value) ++ (arrC a1.memory ++ ([] : List Value)))]) rfl ?_
            refine TL.v (ltb rfl) (rv_pickT true (bT hc_40) rfl (v := .bool x10) rfl) ?_
            obtain rfl := Option.some.inj hp
            refine TL.nil (hJ_39 _ ?_)
            · exact rfl
          · rw [if_neg hc_40] at hp
            refine TL.gno false rfl (fun d hd => by cases hd; exact ltb rfl) (yieldE_of rfl (bF hc_40)) rfl ?_
            refine TL.gno false rfl (fun d hd => by cases hd; exact ltb rfl) (yieldE_of rfl (bF hc_40)) rfl ?_
            refine TL.gno false rfl (fun d hd => by cases hd; exact ltb rfl) (yieldE_of rfl (bF hc_40)) rfl ?_
            refine TL.gno false rfl (fun d hd => by cases hd; exact ltb rfl) (yieldE_of rfl (bF hc_40)) rfl ?_
            refine TL.gno false rfl (fun d hd => by cases hd; exact ltb rfl) (yieldE_of rfl (bF hc_40)) rfl ?_
            refine TL.v (ltb rfl) (rv_pickF false (bF hc_40) rfl (v := .bool false) rfl) ?_
            obtain rfl := Option.some.inj hp
            refine TL.nil (hJ_39 _ ?_)
            · exact rfl
        by_cases hc_32 : (((a1.done == a4.done) = true ∧ a1.trap = a4.trap) ∧ a1.value = a4.value) ∧ a1.steps = a4.steps
        · refine TL.gyes true (yieldE_of rfl (bT hc_32)) rfl ?_
          refine TL.v (ltb rfl) (rv_fa (b := b7) (o := 0) fa_104_5 h_26) ?_
          refine TL.gyes true (yieldE_of rfl (bT hc_32)) rfl ?_
          refine TL.v (ltb rfl) (rv_lda (o := 5) (o' := 0) (j := 5) (ds := (arrC a1.memory ++ ([] : List Value))) ag_102 rfl (Src.at_ 1 rfl) (bx_cells b7 104 _) rfl rfl rfl) ?_
          refine TL.gyes true (yieldE_of rfl (bT hc_32)) rfl ?_
          refine TL.v (ltb rfl) (rv_fa (b := b8) (o := 0) fa_104_5 h_27) ?_
          refine TL.gyes true (yieldE_of rfl (bT hc_32)) rfl ?_
          refine TL.v (ltb rfl) (rv_lda (o := 5) (o' := 0) (j := 5) (ds := (arrC a4.memory ++ ([] : List Value))) ag_102 rfl (Src.at_ 0 rfl) (bx_cells b8 104 _) rfl rfl rfl) ?_
          refine TL.gyes true (yieldE_of rfl (bT hc_32)) rfl ?_
          refine TL.v (ltb rfl) (rv_eqlA al_102 inf_2 ac_102 ap_102 Try.underlying2 aq_102 (show _ = Value.agg (arrC a1.memory).toArray from rfl) (show _ = Value.agg (arrC a4.memory).toArray from rfl)) ?_
          refine TL.v (ltb rfl) (rv_pickT true (bT hc_32) rfl (v := .bool (decide (a1.memory = a4.memory))) rfl) ?_
          refine TL.nil (hJ_31 _ ?_ ?_ ?_)
          · exact h_26
          · exact h_27
          · exact (bAt hc_32)
        · refine TL.gno false rfl (fun d hd => by cases hd; exact ltb rfl) (yieldE_of rfl (bF hc_32)) rfl ?_
          refine TL.gno false rfl (fun d hd => by cases hd; exact ltb rfl) (yieldE_of rfl (bF hc_32)) rfl ?_
          refine TL.gno false rfl (fun d hd => by cases hd; exact ltb rfl) (yieldE_of rfl (bF hc_32)) rfl ?_
          refine TL.gno false rfl (fun d hd => by cases hd; exact ltb rfl) (yieldE_of rfl (bF hc_32)) rfl ?_
          refine TL.gno false rfl (fun d hd => by cases hd; exact ltb rfl) (yieldE_of rfl (bF hc_32)) rfl ?_
          refine TL.v (ltb rfl) (rv_pickF false (bF hc_32) rfl (v := .bool false) rfl) ?_
          refine TL.nil (hJ_31 _ ?_ ?_ ?_)
          · exact h_26
          · exact h_27
          · exact (bAf hc_32)
      by_cases hc_24 : ((a1.done == a4.done) = true ∧ a1.trap = a4.trap) ∧ a1.value = a4.value
      · refine TL.gyes true (yieldE_of rfl (bT hc_24)) rfl ?_
        refine TL.v (ltb rfl) (rv_fa (b := b7) (o := 0) fa_104_4 h_18) ?_
        refine TL.gyes true (yieldE_of rfl (bT hc_24)) rfl ?_
        refine TL.v (ltb rfl) (rv_ld (v := .int .i64 a1.steps) (o := 4) (o' := 0) (j := 4) sc_3 rfl (Src.at_ 1 rfl) (bx_cells b7 104 _) rfl rfl) ?_
        refine TL.gyes true (yieldE_of rfl (bT hc_24)) rfl ?_
        refine TL.v (ltb rfl) (rv_fa (b := b8) (o := 0) fa_104_4 h_19) ?_
        refine TL.gyes true (yieldE_of rfl (bT hc_24)) rfl ?_
        refine TL.v (ltb rfl) (rv_ld (v := .int .i64 a4.steps) (o := 4) (o' := 0) (j := 4) sc_3 rfl (Src.at_ 0 rfl) (bx_cells b8 104 _) rfl rfl) ?_
        refine TL.gyes true (yieldE_of rfl (bT hc_24)) rfl ?_
        refine TL.v (ltb rfl) (rv_eql (k := .i64) (m := a1.steps) (n := a4.steps) rfl rfl) ?_
        refine TL.v (ltb rfl) (rv_pickT true (bT hc_24) rfl (v := .bool (decide (a1.steps = a4.steps))) rfl) ?_
        refine TL.nil (hJ_23 _ ?_ ?_ ?_)
        · exact h_18
        · exact h_19
        · exact (bAt hc_24)
      · refine TL.gno false rfl (fun d hd => by cases hd; exact ltb rfl) (yieldE_of rfl (bF hc_24)) rfl ?_
        refine TL.gno false rfl (fun d hd => by cases hd; exact ltb rfl) (yieldE_of rfl (bF hc_24)) rfl ?_
        refine TL.gno false rfl (fun d hd => by cases hd; exact ltb rfl) (yieldE_of rfl (bF hc_24)) rfl ?_
        refine TL.gno false rfl (fun d hd => by cases hd; exact ltb rfl) (yieldE_of rfl (bF hc_24)) rfl ?_
        refine TL.gno false rfl (fun d hd => by cases hd; exact ltb rfl) (yieldE_of rfl (bF hc_24)) rfl ?_
        refine TL.v (ltb rfl) (rv_pickF false (bF hc_24) rfl (v := .bool false) rfl) ?_
        refine TL.nil (hJ_23 _ ?_ ?_ ?_)
        · exact h_18
        · exact h_19
        · exact (bAf hc_24)
    by_cases hc_16 : (a1.done == a4.done) = true ∧ a1.trap = a4.trap
    · refine TL.gyes true (yieldE_of rfl (bT hc_16)) rfl ?_
      refine TL.v (ltb rfl) (rv_fa (b := b7) (o := 0) fa_104_2 h_10) ?_
      refine TL.gyes true (yieldE_of rfl (bT hc_16)) rfl ?_
      refine TL.v (ltb rfl) (rv_ld (v := .int .i64 a1.value) (o := 2) (o' := 0) (j := 2) sc_2 rfl (Src.at_ 1 rfl) (bx_cells b7 104 _) rfl rfl) ?_
      refine TL.gyes true (yieldE_of rfl (bT hc_16)) rfl ?_
      refine TL.v (ltb rfl) (rv_fa (b := b8) (o := 0) fa_104_2 h_11) ?_
      refine TL.gyes true (yieldE_of rfl (bT hc_16)) rfl ?_
      refine TL.v (ltb rfl) (rv_ld (v := .int .i64 a4.value) (o := 2) (o' := 0) (j := 2) sc_2 rfl (Src.at_ 0 rfl) (bx_cells b8 104 _) rfl rfl) ?_
      refine TL.gyes true (yieldE_of rfl (bT hc_16)) rfl ?_
      refine TL.v (ltb rfl) (rv_eql (k := .i64) (m := a1.value) (n := a4.value) rfl rfl) ?_
      refine TL.v (ltb rfl) (rv_pickT true (bT hc_16) rfl (v := .bool (decide (a1.value = a4.value))) rfl) ?_
      refine TL.nil (hJ_15 _ ?_ ?_ ?_)
      · exact h_10
      · exact h_11
      · exact (bAt hc_16)
    · refine TL.gno false rfl (fun d hd => by cases hd; exact ltb rfl) (yieldE_of rfl (bF hc_16)) rfl ?_
      refine TL.gno false rfl (fun d hd => by cases hd; exact ltb rfl) (yieldE_of rfl (bF hc_16)) rfl ?_
      refine TL.gno false rfl (fun d hd => by cases hd; exact ltb rfl) (yieldE_of rfl (bF hc_16)) rfl ?_
      refine TL.gno false rfl (fun d hd => by cases hd; exact ltb rfl) (yieldE_of rfl (bF hc_16)) rfl ?_
      refine TL.gno false rfl (fun d hd => by cases hd; exact ltb rfl) (yieldE_of rfl (bF hc_16)) rfl ?_
      refine TL.v (ltb rfl) (rv_pickF false (bF hc_16) rfl (v := .bool false) rfl) ?_
      refine TL.nil (hJ_15 _ ?_ ?_ ?_)
      · exact h_10
      · exact h_11
      · exact (bAf hc_16)
  by_cases hc_8 : (a1.done == a4.done) = true
  · refine TL.gyes true (yieldE_of rfl (bbT hc_8)) rfl ?_
    refine TL.v (ltb rfl) (rv_fa (b := b7) (o := 0) fa_104_1 rfl) ?_
    refine TL.gyes true (yieldE_of rfl (bbT hc_8)) rfl ?_
    refine TL.v (ltb rfl) (rv_ld (v := .int .i64 a1.trap) (o := 1) (o' := 0) (j := 1) sc_3 rfl (Src.at_ 1 rfl) (bx_cells b7 104 _) rfl rfl) ?_
    refine TL.gyes true (yieldE_of rfl (bbT hc_8)) rfl ?_
    refine TL.v (ltb rfl) (rv_fa (b := b8) (o := 0) fa_104_1 rfl) ?_
    refine TL.gyes true (yieldE_of rfl (bbT hc_8)) rfl ?_
    refine TL.v (ltb rfl) (rv_ld (v := .int .i64 a4.trap) (o := 1) (o' := 0) (j := 1) sc_3 rfl (Src.at_ 0 rfl) (bx_cells b8 104 _) rfl rfl) ?_
    refine TL.gyes true (yieldE_of rfl (bbT hc_8)) rfl ?_
    refine TL.v (ltb rfl) (rv_eql (k := .i64) (m := a1.trap) (n := a4.trap) rfl rfl) ?_
    refine TL.v (ltb rfl) (rv_pickT true (bbT hc_8) rfl (v := .bool (decide (a1.trap = a4.trap))) rfl) ?_
    refine TL.nil (hJ_7 _ ?_ ?_ ?_)
    · exact rfl
    · exact rfl
    · exact (bAt hc_8)
  · refine TL.gno false rfl (fun d hd => by cases hd; exact ltb rfl) (yieldE_of rfl (bbF hc_8)) rfl ?_
    refine TL.gno false rfl (fun d hd => by cases hd; exact ltb rfl) (yieldE_of rfl (bbF hc_8)) rfl ?_
    refine TL.gno false rfl (fun d hd => by cases hd; exact ltb rfl) (yieldE_of rfl (bbF hc_8)) rfl ?_
    refine TL.gno false rfl (fun d hd => by cases hd; exact ltb rfl) (yieldE_of rfl (bbF hc_8)) rfl ?_
    refine TL.gno false rfl (fun d hd => by cases hd; exact ltb rfl) (yieldE_of rfl (bbF hc_8)) rfl ?_
    refine TL.v (ltb rfl) (rv_pickF false (bbF hc_8) rfl (v := .bool false) rfl) ?_
    refine TL.nil (hJ_7 _ ?_ ?_ ?_)
    · exact rfl
    · exact rfl
    · exact (bAf hc_8)

/-! ### fettle/run.fits -/
abbrev run_fits.R (r : Bool) (v : Value) (A : List FP) : Prop := .bool r = v ∧ A = []
def run_fits.nx63  : Option Bool :=
  some true
def run_fits.bd63 (a1 : PModule) (a4 : Int) (a5 : List Int) (x11 : Int) : Option (Ex (Ex Bool Unit) Int) :=
  if x11 < (len a5) then
    (idx a5 x11).bind fun x12 =>
    (idx a1.funcs a4).bind fun x18 =>
    (idx x18.regs x11).bind fun x28 =>
    if (x28 = 2 ∧ (¬ x12 = 0)) ∧ (¬ x12 = 1) then
      some (.ret (.ret false))
    else
      some (.go (w64 (x11 + 1)))
  else
    some (.ret (.go ()))
def run_fits (a1 : PModule) (a4 : Int) (a5 : List Int) (a8 : Int) : Option Bool :=
  (if a4 < 0 ∨ a4 ≥ (len a1.funcs) then some true else (idx a1.funcs a4).bind fun x34 =>
  some (decide (¬ (len a5) = x34.params))).bind fun t10 =>
  if (t10 = true ∨ a8 < 0) ∨ a8 > 1048576 then
    some false
  else
    (whl (fun (s : Int) => run_fits.bd63 a1 a4 a5 s) FUEL 0).bind fun z =>
    match z with
      | .ret r => some r
      | .go p => run_fits.nx63
theorem run_fits_ok {E : World} {H : FP} {w : World} {a1 : PModule} {a4 : Int} {a5 : List Int} {a8 : Int} {v2 : Value} {v6 : Value} {r : Bool} (h3 : SlI kFunc H a1.funcs v2) (h7 : SlI (kInt .i64) H a5 v6) (hp : run_fits a1 a4 a5 a8 = some r) (hst : St E H [] w) :
    Fn Try.prog 81 #[.agg #[v2], .int .i64 a4, v6, .int .i64 a8] w fun v w' => ∃ A, run_fits.R r v A ∧ St E H A w' := by
  refine Fn.body (fn := Try.f81) (args := [.agg #[v2], .int .i64 a4, v6, .int .i64 a8]) E H [] [.tmp 8] 65 Try.func81 rfl rfl rfl rfl (leb rfl) hst ?_
  unfold run_fits at hp
  refine TC.seq fun K_1 hK_2 => ?_
  refine TC.region ?_
  refine TL.box (cs := [v2]) (v := .agg #[v2]) (ltb rfl) rfl rfl fun b9 => ?_
  refine TL.v (ltb rfl) (rv_as (v := .bool false) rfl) ?_
  refine TL.nil ?_
  refine TC.go hK_2 ?_
  refine TC.seq fun K_3 hK_4 => ?_
  refine TC.seq fun K_5 hK_6 => ?_
  refine TC.region ?_
  refine TL.v (ltb rfl) (rv_mv (v := .int .i64 a4) rfl) ?_
  refine TL.v (ltb rfl) (rv_lss (k := .i64) (m := a4) (n := 0) rfl rfl) ?_
  refine TL.v (ltb rfl) (rv_mv (v := .bool (decide (a4 < 0))) rfl) ?_
  refine TL.cut 6 fun K_7 hK_8 => ?_
  have hJ_9 : ∀ e_11 : Env, e_11 1 = .int .i64 a4 → e_11 2 = v6 → e_11 3 = .int .i64 a8 → e_11 4 = .pointer (some ⟨b9, 0, none⟩) → e_11 19 = .bool (decide (a4 < 0 ∨ a4 ≥ (len a1.funcs))) → ∀ w, St E H [bx b9 90 [v2]] w → K_7 e_11 w := by
    intro e_11 h_12 h_13 h_14 h_15 h_16
    refine TL.go hK_8 ?_
    refine TL.v (ltb rfl) (rv_mv (v := .bool (decide (a4 < 0 ∨ a4 ≥ (len a1.funcs)))) h_16) ?_
    obtain ⟨t10, ht_110, hp⟩ := bind_some' hp
    refine TL.cut 10 fun K_17 hK_18 => ?_
    have hJ_19 : ∀ e_21 : Env, e_21 1 = .int .i64 a4 → e_21 2 = v6 → e_21 3 = .int .i64 a8 → e_21 4 = .pointer (some ⟨b9, 0, none⟩) → e_21 30 = .bool t10 → ∀ w, St E H [bx b9 90 [v2]] w → K_17 e_21 w := by
      intro e_21 h_22 h_23 h_24 h_25 h_26
      refine TL.go hK_18 ?_
      refine TL.v (ltb rfl) (rv_mv (v := .bool t10) h_26) ?_
      refine TL.cut 3 fun K_27 hK_28 => ?_
      have hJ_29 : ∀ e_31 : Env, e_31 1 = .int .i64 a4 → e_31 2 = v6 → e_31 3 = .int .i64 a8 → e_31 4 = .pointer (some ⟨b9, 0, none⟩) → e_31 34 = .bool (decide (t10 = true ∨ a8 < 0)) → ∀ w, St E H [bx b9 90 [v2]] w → K_27 e_31 w := by
        intro e_31 h_32 h_33 h_34 h_35 h_36
        refine TL.go hK_28 ?_
        refine TL.v (ltb rfl) (rv_mv (v := .bool (decide (t10 = true ∨ a8 < 0))) h_36) ?_
        refine TL.cut 3 fun K_37 hK_38 => ?_
        have hJ_39 : ∀ e_41 : Env, e_41 1 = .int .i64 a4 → e_41 2 = v6 → e_41 4 = .pointer (some ⟨b9, 0, none⟩) → e_41 38 = .bool (decide ((t10 = true ∨ a8 < 0) ∨ a8 > 1048576)) → ∀ w, St E H [bx b9 90 [v2]] w → K_37 e_41 w := by
          intro e_41 h_42 h_43 h_44 h_45
          refine TL.go hK_38 ?_
          refine TL.nil ?_
          refine TC.go hK_6 ?_
          by_cases hc_46 : (t10 = true ∨ a8 < 0) ∨ a8 > 1048576
          · rw [if_pos hc_46] at hp
            refine TC.condT (h_45.trans (bT hc_46)) ?_
            refine TC.seq fun K_47 hK_48 => ?_
            refine TC.region ?_
            refine TL.v (ltb rfl) (rv_as (v := .bool false) rfl) ?_
            refine TL.nil ?_
            refine TC.go hK_48 ?_
            refine TC.ret ?_
            obtain rfl := Option.some.inj hp
            exact fun w hw => retOk ⟨rfl, rfl⟩ (hw.pick [])
          · rw [if_neg hc_46] at hp
            refine TC.condF (h_45.trans (bF hc_46)) ?_
            refine TC.skip ?_
            refine TC.go hK_4 ?_
            refine TC.seq fun K_49 hK_50 => ?_
            refine TC.seq fun K_51 hK_52 => ?_
            refine TC.region ?_
            refine TL.v (ltb rfl) (rv_mv (v := v6) h_43) ?_
            refine TL.v (ltb rfl) (rv_lenI (v := v6) Try.underlying100 rfl h7) ?_
            refine TL.v (ltb rfl) (rv_mv (v := .int .i64 0) rfl) ?_
            refine TL.nil ?_
            refine TC.go hK_52 ?_
            refine TC.block ?_
            obtain ⟨z_59, hz_60, hr_61⟩ := bind_some' hp
            clear hp
            have hJ_67 : ∀ (e_64 : Env) (hq_68 : .go () = z_59), ∀ w, St E H [] w → K_49 e_64 w := by
              intro e_64 hq_68
              subst hq_68
              replace hp : run_fits.nx63 = some r := hr_61
              unfold run_fits.nx63 at hp
              refine TC.go hK_50 ?_
              refine TC.seq fun K_65 hK_66 => ?_
              refine TC.region ?_
              refine TL.v (ltb rfl) (rv_as (v := .bool true) rfl) ?_
              refine TL.nil ?_
              refine TC.go hK_66 ?_
              refine TC.ret ?_
              obtain rfl := Option.some.inj hp
              exact fun w hw => retOk ⟨rfl, rfl⟩ (hw.pick [])
            refine TC.pk' [0] (L' := [bx b9 90 [v2]]) rfl ?_
            refine TC.loopW (r := z_59) (fun (x11 : Int) (e_53 : Env) (L_109 : List FP) => e_53 1 = .int .i64 a4 ∧ e_53 4 = .pointer (some ⟨b9, 0, none⟩) ∧ e_53 39 = v6 ∧ e_53 40 = .int .i64 (len a5) ∧ e_53 41 = .int .i64 x11 ∧ L_109 = [bx b9 90 [v2]]) ?_ FUEL _ _ _ hz_60 ⟨h_42, h_44, rfl, rfl, rfl, rfl⟩
            rintro x11 e_53 L_109 ⟨h_54, h_55, h_56, h_57, h_58, rfl⟩ x_62 hp hx_63
            replace hp : run_fits.bd63 a1 a4 a5 x11 = some x_62 := hp
            unfold run_fits.bd63 at hp
            refine TC.seq fun K_69 hK_70 => ?_
            refine TC.region ?_
            refine TL.v (ltb rfl) (rv_lss (k := .i64) (m := x11) (n := (len a5)) h_58 h_57) ?_
            refine TL.nil ?_
            refine TC.go hK_70 ?_
            refine TC.seq fun K_71 hK_72 => ?_
            by_cases hc_73 : x11 < (len a5)
            · rw [if_pos hc_73] at hp
              refine TC.condT (bT hc_73) ?_
              refine TC.skip ?_
              refine TC.go hK_72 ?_
              refine TC.seq fun K_74 hK_75 => ?_
              refine TC.block ?_
              refine TC.seq fun K_76 hK_77 => ?_
              refine TC.region ?_
              refine TL.v (ltb rfl) (rv_mv (v := .int .i64 x11) h_58) ?_
              obtain ⟨x12, hx_78, hp⟩ := bind_some' hp
              refine TL.v3 (ltb rfl) (rv_ix 100 (.tmp 39) (.tmp 41) (v := v6) (i := x11) Try.underlying100 inf_2 rfl h_56 h_58 h7 hx_78) fun b13 o14 c15 h16 h17 => ?_
              obtain rfl := h16
              refine TL.v (ltb rfl) (rv_ld (v := .int .i64 x12) (o := o14) (o' := o14) (j := 0) sc_2 rfl Src.H h17 rfl rfl) ?_
              refine TL.v (ltb rfl) (rv_as (v := .int .i64 x11) rfl) ?_
              refine TL.v (ltb rfl) (rv_as (v := .int .i64 x12) rfl) ?_
              refine TL.nil ?_
              refine TC.go hK_77 ?_
              refine TC.seq fun K_79 hK_80 => ?_
              refine TC.region ?_
              refine TL.v (ltb rfl) (rv_fa (b := b9) (o := 0) fa_90_0 h_55) ?_
              refine TL.v (ltb rfl) (rv_ld (v := v2) (o := 0) (o' := 0) (j := 0) sc_88 rfl (Src.at_ 0 rfl) (bx_cells b9 90 _) rfl rfl) ?_
              refine TL.v (ltb rfl) (rv_mv (v := .int .i64 a4) h_54) ?_
              obtain ⟨x18, hx_81, hp⟩ := bind_some' hp
              refine TL.v3 (ltb rfl) (rv_ix 88 (.tmp 47) (.tmp 48) (v := v2) (i := a4) Try.underlying88 inf_25 rfl rfl rfl h3 hx_81) fun b19 o20 c21 h22 h23 => ?_
              obtain ⟨v24, v26, rfl, h25, h27⟩ := h22
              refine TL.v (ltb rfl) (rv_fa (b := b19) (o := o20) fa_25_2 rfl) ?_
              refine TL.v (ltb rfl) (rv_ld (v := v24) (o := o20 + 2) (o' := o20) (j := 2) sc_22 rfl Src.H h23 rfl rfl) ?_
              refine TL.v (ltb rfl) (rv_mv (v := .int .i64 x11) rfl) ?_
              obtain ⟨x28, hx_82, hp⟩ := bind_some' hp
              refine TL.v3 (ltb rfl) (rv_ix 22 (.tmp 51) (.tmp 52) (v := v24) (i := x11) Try.underlying22 inf_3 rfl rfl rfl h25 hx_82) fun b29 o30 c31 h32 h33 => ?_
              obtain rfl := h32
              refine TL.v (ltb rfl) (rv_ld (v := .int .i64 x28) (o := o30) (o' := o30) (j := 0) sc_3 rfl Src.H h33 rfl rfl) ?_
              refine TL.v (ltb rfl) (rv_eql (k := .i64) (m := x28) (n := 2) rfl rfl) ?_
              refine TL.v (ltb rfl) (rv_mv (v := .bool (decide (x28 = 2))) rfl) ?_
              refine TL.cut 3 fun K_83 hK_84 => ?_
              have hJ_85 : ∀ e_87 : Env, e_87 1 = .int .i64 a4 → e_87 4 = .pointer (some ⟨b9, 0, none⟩) → e_87 10 = .int .i64 x12 → e_87 39 = v6 → e_87 40 = .int .i64 (len a5) → e_87 41 = .int .i64 x11 → e_87 59 = .bool (decide (x28 = 2 ∧ (¬ x12 = 0))) → ∀ w, St E H [bx b9 90 [v2]] w → K_83 e_87 w := by
                intro e_87 h_88 h_89 h_90 h_91 h_92 h_93 h_94
                refine TL.go hK_84 ?_
                refine TL.v (ltb rfl) (rv_mv (v := .bool (decide (x28 = 2 ∧ (¬ x12 = 0)))) h_94) ?_
                refine TL.cut 3 fun K_95 hK_96 => ?_
                have hJ_97 : ∀ e_99 : Env, e_99 1 = .int .i64 a4 → e_99 4 = .pointer (some ⟨b9, 0, none⟩) → e_99 39 = v6 → e_99 40 = .int .i64 (len a5) → e_99 41 = .int .i64 x11 → e_99 63 = .bool (decide ((x28 = 2 ∧ (¬ x12 = 0)) ∧ (¬ x12 = 1))) → ∀ w, St E H [bx b9 90 [v2]] w → K_95 e_99 w := by
                  intro e_99 h_100 h_101 h_102 h_103 h_104 h_105
                  refine TL.go hK_96 ?_
                  refine TL.nil ?_
                  refine TC.go hK_80 ?_
                  by_cases hc_106 : (x28 = 2 ∧ (¬ x12 = 0)) ∧ (¬ x12 = 1)
                  · rw [if_pos hc_106] at hp
                    refine TC.condT (h_105.trans (bT hc_106)) ?_
                    refine TC.seq fun K_107 hK_108 => ?_
                    refine TC.region ?_
                    refine TL.v (ltb rfl) (rv_as (v := .bool false) rfl) ?_
                    refine TL.nil ?_
                    refine TC.go hK_108 ?_
                    refine TC.ret ?_
                    obtain rfl := ex_ret hp hx_63
                    obtain rfl := Option.some.inj hr_61
                    exact fun w hw => retOk ⟨rfl, rfl⟩ (hw.pick [])
                  · rw [if_neg hc_106] at hp
                    refine TC.condF (h_105.trans (bF hc_106)) ?_
                    refine TC.skip ?_
                    refine TC.go hK_75 ?_
                    refine TC.region ?_
                    refine TL.v (ltb rfl) (rv_add (k := .i64) (m := x11) (n := 1) h_104 rfl) ?_
                    refine TL.v (ltb rfl) (rv_mv (v := .int .i64 (w64 (x11 + 1))) rfl) ?_
                    refine TL.nil ?_
                    exact fun w hw => goOk hp ⟨h_100, h_101, h_102, h_103, rfl, rfl⟩ (hw.pick [0])
                by_cases hc_98 : x28 = 2 ∧ (¬ x12 = 0)
                · refine TL.gyes true (yieldE_of rfl (bT hc_98)) rfl ?_
                  refine TL.v (ltb rfl) (rv_mv (v := .int .i64 x12) h_90) ?_
                  refine TL.gyes true (yieldE_of rfl (bT hc_98)) rfl ?_
                  refine TL.v (ltb rfl) (rv_neq (k := .i64) (m := x12) (n := 1) rfl rfl) ?_
                  refine TL.v (ltb rfl) (rv_pickT true (bT hc_98) rfl (v := .bool (decide (¬ x12 = 1))) rfl) ?_
                  refine TL.nil (hJ_97 _ ?_ ?_ ?_ ?_ ?_ ?_)
                  · exact h_88
                  · exact h_89
                  · exact h_91
                  · exact h_92
                  · exact h_93
                  · exact (bAt hc_98)
                · refine TL.gno false rfl (fun d hd => by cases hd; exact ltb rfl) (yieldE_of rfl (bF hc_98)) rfl ?_
                  refine TL.gno false rfl (fun d hd => by cases hd; exact ltb rfl) (yieldE_of rfl (bF hc_98)) rfl ?_
                  refine TL.v (ltb rfl) (rv_pickF false (bF hc_98) rfl (v := .bool false) rfl) ?_
                  refine TL.nil (hJ_97 _ ?_ ?_ ?_ ?_ ?_ ?_)
                  · exact h_88
                  · exact h_89
                  · exact h_91
                  · exact h_92
                  · exact h_93
                  · exact (bAf hc_98)
              by_cases hc_86 : x28 = 2
              · refine TL.gyes true (yieldE_of rfl (bT hc_86)) rfl ?_
                refine TL.v (ltb rfl) (rv_mv (v := .int .i64 x12) rfl) ?_
                refine TL.gyes true (yieldE_of rfl (bT hc_86)) rfl ?_
                refine TL.v (ltb rfl) (rv_neq (k := .i64) (m := x12) (n := 0) rfl rfl) ?_
                refine TL.v (ltb rfl) (rv_pickT true (bT hc_86) rfl (v := .bool (decide (¬ x12 = 0))) rfl) ?_
                refine TL.nil (hJ_85 _ ?_ ?_ ?_ ?_ ?_ ?_ ?_)
                · exact h_54
                · exact h_55
                · exact rfl
                · exact h_56
                · exact h_57
                · exact h_58
                · exact (bAt hc_86)
              · refine TL.gno false rfl (fun d hd => by cases hd; exact ltb rfl) (yieldE_of rfl (bF hc_86)) rfl ?_
                refine TL.gno false rfl (fun d hd => by cases hd; exact ltb rfl) (yieldE_of rfl (bF hc_86)) rfl ?_
                refine TL.v (ltb rfl) (rv_pickF false (bF hc_86) rfl (v := .bool false) rfl) ?_
                refine TL.nil (hJ_85 _ ?_ ?_ ?_ ?_ ?_ ?_ ?_)
                · exact h_54
                · exact h_55
                · exact rfl
                · exact h_56
                · exact h_57
                · exact h_58
                · exact (bAf hc_86)
            · rw [if_neg hc_73] at hp
              refine TC.condF (bF hc_73) ?_
              refine TC.exit ?_
              refine fun w hw => hJ_67 _ (ex_ret hp hx_63) w (hw.pick [])
        by_cases hc_40 : t10 = true ∨ a8 < 0
        · refine TL.gno true rfl (fun d hd => by cases hd; exact ltb rfl) (yieldE_of rfl (bT hc_40)) rfl ?_
          refine TL.gno true rfl (fun d hd => by cases hd; exact ltb rfl) (yieldE_of rfl (bT hc_40)) rfl ?_
          refine TL.v (ltb rfl) (rv_pickT true (bT hc_40) rfl (v := .bool true) rfl) ?_
          refine TL.nil (hJ_39 _ ?_ ?_ ?_ ?_)
          · exact h_32
          · exact h_33
          · exact h_35
          · exact (bOt hc_40)
        · refine TL.gyes false (yieldE_of rfl (bF hc_40)) rfl ?_
          refine TL.v (ltb rfl) (rv_mv (v := .int .i64 a8) h_34) ?_
          refine TL.gyes false (yieldE_of rfl (bF hc_40)) rfl ?_
          refine TL.v (ltb rfl) (rv_gtr (k := .i64) (m := a8) (n := 1048576) rfl rfl) ?_
          refine TL.v (ltb rfl) (rv_pickF false (bF hc_40) rfl (v := .bool (decide (a8 > 1048576))) rfl) ?_
          refine TL.nil (hJ_39 _ ?_ ?_ ?_ ?_)
          · exact h_32
          · exact h_33
          · exact h_35
          · exact (bOf hc_40)
      by_cases hc_30 : t10 = true
      · refine TL.gno true rfl (fun d hd => by cases hd; exact ltb rfl) (yieldE_of rfl (bbT hc_30)) rfl ?_
        refine TL.gno true rfl (fun d hd => by cases hd; exact ltb rfl) (yieldE_of rfl (bbT hc_30)) rfl ?_
        refine TL.v (ltb rfl) (rv_pickT true (bbT hc_30) rfl (v := .bool true) rfl) ?_
        refine TL.nil (hJ_29 _ ?_ ?_ ?_ ?_ ?_)
        · exact h_22
        · exact h_23
        · exact h_24
        · exact h_25
        · exact (bOt hc_30)
      · refine TL.gyes false (yieldE_of rfl (bbF hc_30)) rfl ?_
        refine TL.v (ltb rfl) (rv_mv (v := .int .i64 a8) h_24) ?_
        refine TL.gyes false (yieldE_of rfl (bbF hc_30)) rfl ?_
        refine TL.v (ltb rfl) (rv_lss (k := .i64) (m := a8) (n := 0) rfl rfl) ?_
        refine TL.v (ltb rfl) (rv_pickF false (bbF hc_30) rfl (v := .bool (decide (a8 < 0))) rfl) ?_
        refine TL.nil (hJ_29 _ ?_ ?_ ?_ ?_ ?_)
        · exact h_22
        · exact h_23
        · exact h_24
        · exact h_25
        · exact (bOf hc_30)
    clear hp
    have hp := ht_110
    clear ht_110
    by_cases hc_20 : a4 < 0 ∨ a4 ≥ (len a1.funcs)
    · rw [if_pos hc_20] at hp
      refine TL.gno true rfl (fun d hd => by cases hd; exact ltb rfl) (yieldE_of rfl (bT hc_20)) rfl ?_
      refine TL.gno true rfl (fun d hd => by cases hd; exact ltb rfl) (yieldE_of rfl (bT hc_20)) rfl ?_
      refine TL.gno true rfl (fun d hd => by cases hd; exact ltb rfl) (yieldE_of rfl (bT hc_20)) rfl ?_
      refine TL.gno true rfl (fun d hd => by cases hd; exact ltb rfl) (yieldE_of rfl (bT hc_20)) rfl ?_
      refine TL.gno true rfl (fun d hd => by cases hd; exact ltb rfl) (yieldE_of rfl (bT hc_20)) rfl ?_
      refine TL.gno true rfl (fun d hd => by cases hd; exact ltb rfl) (yieldE_of rfl (bT hc_20)) rfl ?_
      refine TL.gno true rfl (fun d hd => by cases hd; exact ltb rfl) (yieldE_of rfl (bT hc_20)) rfl ?_
      refine TL.gno true rfl (fun d hd => by cases hd; exact ltb rfl) (yieldE_of rfl (bT hc_20)) rfl ?_
      refine TL.gno true rfl (fun d hd => by cases hd; exact ltb rfl) (yieldE_of rfl (bT hc_20)) rfl ?_
      refine TL.v (ltb rfl) (rv_pickT true (bT hc_20) rfl (v := .bool true) rfl) ?_
      obtain rfl := Option.some.inj hp
      refine TL.nil (hJ_19 _ ?_ ?_ ?_ ?_ ?_)
      · exact h_12
      · exact h_13
      · exact h_14
      · exact h_15
      · exact rfl
    · rw [if_neg hc_20] at hp
      refine TL.gyes false (yieldE_of rfl (bF hc_20)) rfl ?_
      refine TL.v (ltb rfl) (rv_mv (v := v6) h_13) ?_
      refine TL.gyes false (yieldE_of rfl (bF hc_20)) rfl ?_
      refine TL.v (ltb rfl) (rv_lenI (v := v6) Try.underlying100 rfl h7) ?_
      refine TL.gyes false (yieldE_of rfl (bF hc_20)) rfl ?_
      refine TL.v (ltb rfl) (rv_fa (b := b9) (o := 0) fa_90_0 h_15) ?_
      refine TL.gyes false (yieldE_of rfl (bF hc_20)) rfl ?_
      refine TL.v (ltb rfl) (rv_ld (v := v2) (o := 0) (o' := 0) (j := 0) sc_88 rfl (Src.at_ 0 rfl) (bx_cells b9 90 _) rfl rfl) ?_
      refine TL.gyes false (yieldE_of rfl (bF hc_20)) rfl ?_
      refine TL.v (ltb rfl) (rv_mv (v := .int .i64 a4) h_12) ?_
      refine TL.gyes false (yieldE_of rfl (bF hc_20)) rfl ?_
      obtain ⟨x34, hx_111, hp⟩ := bind_some' hp
      refine TL.v3 (ltb rfl) (rv_ix 88 (.tmp 24) (.tmp 25) (v := v2) (i := a4) Try.underlying88 inf_25 rfl rfl rfl h3 hx_111) fun b35 o36 c37 h38 h39 => ?_
      obtain ⟨v40, v42, rfl, h41, h43⟩ := h38
      refine TL.gyes false (yieldE_of rfl (bF hc_20)) rfl ?_
      refine TL.v (ltb rfl) (rv_fa (b := b35) (o := o36) fa_25_0 rfl) ?_
      refine TL.gyes false (yieldE_of rfl (bF hc_20)) rfl ?_
      refine TL.v (ltb rfl) (rv_ld (v := .int .i64 x34.params) (o := o36) (o' := o36) (j := 0) sc_3 rfl Src.H h39 rfl rfl) ?_
      refine TL.gyes false (yieldE_of rfl (bF hc_20)) rfl ?_
      refine TL.v (ltb rfl) (rv_neq (k := .i64) (m := (len a5)) (n := x34.params) rfl rfl) ?_
      refine TL.v (ltb rfl) (rv_pickF false (bF hc_20) rfl (v := .bool (decide (¬ (len a5) = x34.params))) rfl) ?_
      obtain rfl := Option.some.inj hp
      refine TL.nil (hJ_19 _ ?_ ?_ ?_ ?_ ?_)
      · exact h_12
      · exact h_13
      · exact h_14
      · exact h_15
      · exact rfl
  by_cases hc_10 : a4 < 0
  · refine TL.gno true rfl (fun d hd => by cases hd; exact ltb rfl) (yieldE_of rfl (bT hc_10)) rfl ?_
    refine TL.gno true rfl (fun d hd => by cases hd; exact ltb rfl) (yieldE_of rfl (bT hc_10)) rfl ?_
    refine TL.gno true rfl (fun d hd => by cases hd; exact ltb rfl) (yieldE_of rfl (bT hc_10)) rfl ?_
    refine TL.gno true rfl (fun d hd => by cases hd; exact ltb rfl) (yieldE_of rfl (bT hc_10)) rfl ?_
    refine TL.gno true rfl (fun d hd => by cases hd; exact ltb rfl) (yieldE_of rfl (bT hc_10)) rfl ?_
    refine TL.v (ltb rfl) (rv_pickT true (bT hc_10) rfl (v := .bool true) rfl) ?_
    refine TL.nil (hJ_9 _ ?_ ?_ ?_ ?_ ?_)
    · exact rfl
    · exact rfl
    · exact rfl
    · exact rfl
    · exact (bOt hc_10)
  · refine TL.gyes false (yieldE_of rfl (bF hc_10)) rfl ?_
    refine TL.v (ltb rfl) (rv_mv (v := .int .i64 a4) rfl) ?_
    refine TL.gyes false (yieldE_of rfl (bF hc_10)) rfl ?_
    refine TL.v (ltb rfl) (rv_fa (b := b9) (o := 0) fa_90_0 rfl) ?_
    refine TL.gyes false (yieldE_of rfl (bF hc_10)) rfl ?_
    refine TL.v (ltb rfl) (rv_ld (v := v2) (o := 0) (o' := 0) (j := 0) sc_88 rfl (Src.at_ 0 rfl) (bx_cells b9 90 _) rfl rfl) ?_
    refine TL.gyes false (yieldE_of rfl (bF hc_10)) rfl ?_
    refine TL.v (ltb rfl) (rv_lenI (v := v2) Try.underlying88 rfl h3) ?_
    refine TL.gyes false (yieldE_of rfl (bF hc_10)) rfl ?_
    refine TL.v (ltb rfl) (rv_geq (k := .i64) (m := a4) (n := (len a1.funcs)) rfl rfl) ?_
    refine TL.v (ltb rfl) (rv_pickF false (bF hc_10) rfl (v := .bool (decide (a4 ≥ (len a1.funcs)))) rfl) ?_
    refine TL.nil (hJ_9 _ ?_ ?_ ?_ ?_ ?_)
    · exact rfl
    · exact rfl
    · exact rfl
    · exact rfl
    · exact (bOf hc_10)

/-! ### (*fettle/run.runner).to -/
abbrev run_runner_to.R (b1 : Nat) (a2 : PRunner) (v3 : Value) (v5 : Value) (v18 : Value) (r : List PFrame) (v : Value) (A : List FP) : Prop := ∃ (w1 : Value) (G1 : FP), .tuple #[] = v ∧ A = [bx b1 141 (([v3, v5, w1, .bool a2.out.done, .int .i64 a2.out.trap, .int .i64 a2.out.value, v18, .int .i64 a2.out.steps] : List Value) ++ (arrC a2.out.memory ++ ([] : List Value))), G1] ∧ SlO 153 kFrame r w1 G1
def run_runner_to.nx50 (a2 : PRunner) (a8 : PFrame) (a9 : Int) (a21 : Int) (x76 : List Int) : Option (List PFrame) :=
  some (a2.frames.set (a9).toNat (⟨a8.f, x76, a21, 0, a8.dst⟩ : PFrame))
def run_runner_to.bd50 (x49 : PBlock) (x66 : List Int) (x70 : List Int) (x75 : Int) : Option (Ex (List Int) (List Int × Int)) :=
  if x75 < (len x49.phis) then
    (idx x49.phis x75).bind fun x87 =>
    (idx x66 x75).bind fun x3297 =>
    (idx x70 x87.dst).bind fun x4097 =>
    some (.go ((x70.set (x87.dst).toNat x3297), (w64 (x75 + 1))))
  else
    some (.ret x70)
def run_runner_to.nx29 (a2 : PRunner) (a8 : PFrame) (a9 : Int) (a21 : Int) (x49 : PBlock) (x66 : List Int) : Option (List PFrame) :=
  (whl (fun (s : (List Int × Int)) => run_runner_to.bd50 x49 x66 s.1 s.2) FUEL (a8.regs, 0)).bind fun z =>
  run_runner_to.nx50 a2 a8 a9 a21 z
def run_runner_to.bd29 (a8 : PFrame) (x38 : Int) (x49 : PBlock) (x61 : List Int) (x65 : Int) : Option (Ex (List Int) (List Int × Int)) :=
  if x65 < (len x49.phis) then
    (idx x49.phis x65).bind fun x4897 =>
    (idx x4897.args x38).bind fun x8107 =>
    (idx a8.regs x8107).bind fun x8907 =>
    (cat x61 [x8907]).bind fun x10107 =>
    some (.go (x10107, (w64 (x65 + 1))))
  else
    some (.ret x61)
def run_runner_to (a2 : PRunner) (a8 : PFrame) (a9 : Int) (a21 : Int) : Option (List PFrame) :=
  (idx a2.ahead a8.f).bind fun x22 =>
  (idx x22 a21).bind fun x30 =>
  (slices_Index x30 a8.block).bind fun x38 =>
  (idx a2.m.funcs a8.f).bind fun x39 =>
  (idx x39.blocks a21).bind fun x49 =>
  (whl (fun (s : (List Int × Int)) => run_runner_to.bd29 a8 x38 x49 s.1 s.2) FUEL (([] : List Int), 0)).bind fun z =>
  run_runner_to.nx29 a2 a8 a9 a21 x49 z
theorem run_runner_to_ok {E : World} {H : FP} {w : World} {a2 : PRunner} {a8 : PFrame} {a9 : Int} {a21 : Int} {b1 : Nat} {v3 : Value} {v5 : Value} {v7 : Value} {b10 : Nat} {F11 : FP} {v14 : Value} {F15 : FP} {v18 : Value} {r : List PFrame} (h4 : SlI kFunc H a2.m.funcs v3) (h6 : SlI (kSl 22 (kSl 3 (kInt .i64))) H a2.ahead v5) (h12 : Hole 153 kFrame a2.frames (a9).toNat v7 b10 [.int .i64 a8.f, v14, .int .i64 a8.block, .int .i64 a8.at_, .int .i64 a8.dst] F11) (h13 : 0 ≤ a9) (h16 : SlO 2 (kInt .i64) a8.regs v14 F15) (h19 : SlI (kInt .i64) H a2.out.out v18) (hp : run_runner_to a2 a8 a9 a21 = some r) (hst : St E H [bx b1 141 (([v3, v5, v7, .bool a2.out.done, .int .i64 a2.out.trap, .int .i64 a2.out.value, v18, .int .i64 a2.out.steps] : List Value) ++ (arrC a2.out.memory ++ ([] : List Value))), F11, F15] w) :
    Fn Try.prog 97 #[.pointer (some ⟨b1, 0, none⟩), .pointer (some ⟨b10, (a9).toNat * 5, none⟩), .int .i64 a21] w fun v w' => ∃ A, run_runner_to.R b1 a2 v3 v5 v18 r v A ∧ St E H A w' := by
  refine Fn.body (fn := Try.f97) (args := [.pointer (some ⟨b1, 0, none⟩), .pointer (some ⟨b10, (a9).toNat * 5, none⟩), .int .i64 a21]) E H [bx b1 141 (([v3, v5, v7, .bool a2.out.done, .int .i64 a2.out.trap, .int .i64 a2.out.value, v18, .int .i64 a2.out.steps] : List Value) ++ (arrC a2.out.memory ++ ([] : List Value))), F11, F15] [] 94 Try.func97 rfl rfl rfl rfl (leb rfl) hst ?_
  unfold run_runner_to at hp
  refine TC.seq fun K_1 hK_2 => ?_
  refine TC.quiet mix (by kernel_rfl) ?_
  refine QL.v (ltb rfl) (rv_mv (v := .pointer (some ⟨b1, 0, none⟩)) rfl) ?_
  refine QL.v (ltb rfl) (rv_nilCheck (a := ⟨b1, 0, none⟩) rfl) ?_
  refine QL.v (ltb rfl) (rv_fa (b := b1) (o := 0) fa_141_1 rfl) ?_
  refine QL.v (ltb rfl) (rv_ld (v := v5) (o := 1) (o' := 0) (j := 1) sc_138 rfl (Src.at_ 0 rfl) (bx_cells b1 141 _) rfl rfl) ?_
  refine QL.v (ltb rfl) (rv_mv (v := .pointer (some ⟨b10, (a9).toNat * 5, none⟩)) rfl) ?_
  refine QL.v (ltb rfl) (rv_nilCheck (a := ⟨b10, (a9).toNat * 5, none⟩) rfl) ?_
  refine QL.v (ltb rfl) (rv_fa (b := b10) (o := (a9).toNat * 5) fa_153_0 rfl) ?_
  refine QL.v (ltb rfl) (rv_ld (v := .int .i64 a8.f) (o := (a9).toNat * 5) (o' := (a9).toNat * 5) (j := 0) sc_3 rfl (Src.at_ 1 rfl) (Hole.cells h12) rfl rfl) ?_
  obtain ⟨x22, hx_3, hp⟩ := bind_some' hp
  refine QL.v3 (ltb rfl) (rv_ix 138 (.tmp 16) (.tmp 20) (v := v5) (i := a8.f) Try.underlying138 inf_28 rfl rfl rfl h6 hx_3) fun b23 o24 c25 h26 h27 => ?_
  obtain ⟨v28, rfl, h29⟩ := h26
  refine QL.v (ltb rfl) (rv_ld (v := v28) (o := o24) (o' := o24) (j := 0) sc_28 rfl Src.H h27 rfl rfl) ?_
  refine QL.v (ltb rfl) (rv_mv (v := .int .i64 a21) rfl) ?_
  obtain ⟨x30, hx_4, hp⟩ := bind_some' hp
  refine QL.v3 (ltb rfl) (rv_ix 28 (.tmp 22) (.tmp 23) (v := v28) (i := a21) Try.underlying28 inf_22 rfl rfl rfl h29 hx_4) fun b31 o32 c33 h34 h35 => ?_
  obtain ⟨v36, rfl, h37⟩ := h34
  refine QL.v (ltb rfl) (rv_ld (v := v36) (o := o32) (o' := o32) (j := 0) sc_22 rfl Src.H h35 rfl rfl) ?_
  refine QL.v (ltb rfl) (rv_mv (v := .pointer (some ⟨b10, (a9).toNat * 5, none⟩)) rfl) ?_
  refine QL.v (ltb rfl) (rv_nilCheck (a := ⟨b10, (a9).toNat * 5, none⟩) rfl) ?_
  refine QL.v (ltb rfl) (rv_fa (b := b10) (o := (a9).toNat * 5) fa_153_2 rfl) ?_
  refine QL.v (ltb rfl) (rv_ld (v := .int .i64 a8.block) (o := (a9).toNat * 5 + 2) (o' := (a9).toNat * 5) (j := 2) sc_3 rfl (Src.at_ 1 rfl) (Hole.cells h12) rfl rfl) ?_
  obtain ⟨x38, hy_5, hp⟩ := bind_some' hp
  refine QL.callC (vs := [v36, .int .i64 a8.block]) (R := slices_Index.R x38) (.int .i64 x38) cb_85 (ltb rfl) (mc rfl (mc rfl m0)) (fun w hw => slices_Index_ok (a1 := x30) (a4 := a8.block) (h37.mono subH) hy_5 hw) (fun u A' h => ⟨h.1.symm, h.2⟩) ?_
  refine QL.v (ltb rfl) (rv_as (v := .int .i64 x38) rfl) ?_
  refine QL.nil ?_
  refine TC.go hK_2 ?_
  refine TC.seq fun K_6 hK_7 => ?_
  refine TC.quiet mix (by kernel_rfl) ?_
  refine QL.v (ltb rfl) (rv_mv (v := .pointer (some ⟨b1, 0, none⟩)) rfl) ?_
  refine QL.v (ltb rfl) (rv_nilCheck (a := ⟨b1, 0, none⟩) rfl) ?_
  refine QL.v (ltb rfl) (rv_fa (b := b1) (o := 0) fa_141_0 rfl) ?_
  refine QL.v (ltb rfl) (rv_fa (b := b1) (o := 0) fa_90_0 rfl) ?_
  refine QL.v (ltb rfl) (rv_ld (v := v3) (o := 0) (o' := 0) (j := 0) sc_88 rfl (Src.at_ 0 rfl) (bx_cells b1 141 _) rfl rfl) ?_
  refine QL.v (ltb rfl) (rv_mv (v := .pointer (some ⟨b10, (a9).toNat * 5, none⟩)) rfl) ?_
  refine QL.v (ltb rfl) (rv_nilCheck (a := ⟨b10, (a9).toNat * 5, none⟩) rfl) ?_
  refine QL.v (ltb rfl) (rv_fa (b := b10) (o := (a9).toNat * 5) fa_153_0 rfl) ?_
  refine QL.v (ltb rfl) (rv_ld (v := .int .i64 a8.f) (o := (a9).toNat * 5) (o' := (a9).toNat * 5) (j := 0) sc_3 rfl (Src.at_ 1 rfl) (Hole.cells h12) rfl rfl) ?_
  obtain ⟨x39, hx_8, hp⟩ := bind_some' hp
  refine QL.v3 (ltb rfl) (rv_ix 88 (.tmp 35) (.tmp 39) (v := v3) (i := a8.f) Try.underlying88 inf_25 rfl rfl rfl h4 hx_8) fun b40 o41 c42 h43 h44 => ?_
  obtain ⟨v45, v47, rfl, h46, h48⟩ := h43
  refine QL.v (ltb rfl) (rv_fa (b := b40) (o := o41) fa_25_3 rfl) ?_
  refine QL.v (ltb rfl) (rv_ld (v := v47) (o := o41 + 3) (o' := o41) (j := 3) sc_23 rfl Src.H h44 rfl rfl) ?_
  refine QL.v (ltb rfl) (rv_mv (v := .int .i64 a21) rfl) ?_
  obtain ⟨x49, hx_9, hp⟩ := bind_some' hp
  refine QL.v3 (ltb rfl) (rv_ix 23 (.tmp 42) (.tmp 43) (v := v47) (i := a21) Try.underlying23 inf_85 rfl rfl rfl h48 hx_9) fun b50 o51 c52 h53 h54 => ?_
  obtain ⟨v55, v57, v59, rfl, h56, h58, h60⟩ := h53
  refine QL.v (ltb rfl) (rv_fa (b := b50) (o := o51) fa_85_0 rfl) ?_
  refine QL.v (ltb rfl) (rv_ld (v := v55) (o := o51) (o' := o51) (j := 0) sc_82 rfl Src.H h54 rfl rfl) ?_
  refine QL.v (ltb rfl) (rv_as (v := v55) rfl) ?_
  refine QL.nil ?_
  refine TC.go hK_7 ?_
  refine TC.seq fun K_10 hK_11 => ?_
  refine TC.region ?_
  refine TL.v (ltb rfl) (rv_as (v := .slice none 0 0) rfl) ?_
  refine TL.nil ?_
  refine TC.go hK_11 ?_
  refine TC.seq fun K_12 hK_13 => ?_
  refine TC.seq fun K_14 hK_15 => ?_
  refine TC.region ?_
  refine TL.v (ltb rfl) (rv_mv (v := v55) rfl) ?_
  refine TL.v (ltb rfl) (rv_lenI (v := v55) Try.underlying82 rfl h56) ?_
  refine TL.v (ltb rfl) (rv_mv (v := .int .i64 0) rfl) ?_
  refine TL.nil ?_
  refine TC.go hK_15 ?_
  refine TC.block ?_
  obtain ⟨z_25, hz_26, hr_27⟩ := bind_some' hp
  clear hp
  have hJ_71 : ∀ (x66 : List Int) (v67 : Value) (F68 : FP) (e_30 : Env) (h69 : SlO 2 (kInt .i64) x66 v67 F68) (h_31 : e_30 1 = .pointer (some ⟨b10, (a9).toNat * 5, none⟩)) (h_32 : e_30 2 = .int .i64 a21) (h_33 : e_30 7 = v55) (h_34 : e_30 8 = v67) (hq_72 : x66 = z_25), ∀ w, St E H [bx b1 141 (([v3, v5, v7, .bool a2.out.done, .int .i64 a2.out.trap, .int .i64 a2.out.value, v18, .int .i64 a2.out.steps] : List Value) ++ (arrC a2.out.memory ++ ([] : List Value))), F15, F11, F68] w → K_12 e_30 w := by
    intro x66 v67 F68 e_30 h69 h_31 h_32 h_33 h_34 hq_72
    subst hq_72
    replace hp : run_runner_to.nx29 a2 a8 a9 a21 x49 x66 = some r := hr_27
    unfold run_runner_to.nx29 at hp
    refine TC.go hK_13 ?_
    refine TC.seq fun K_35 hK_36 => ?_
    refine TC.seq fun K_37 hK_38 => ?_
    refine TC.region ?_
    refine TL.v (ltb rfl) (rv_mv (v := v55) h_33) ?_
    refine TL.v (ltb rfl) (rv_lenI (v := v55) Try.underlying82 rfl h56) ?_
    refine TL.v (ltb rfl) (rv_mv (v := .int .i64 0) rfl) ?_
    refine TL.nil ?_
    refine TC.go hK_38 ?_
    refine TC.block ?_
    obtain ⟨z_46, hz_47, hr_48⟩ := bind_some' hp
    clear hp
    have hJ_54 : ∀ (x76 : List Int) (F77 : FP) (F79 : FP) (e_51 : Env) (h78 : SlO 2 (kInt .i64) x76 v14 F77) (h80 : Hole 153 kFrame a2.frames (a9).toNat v7 b10 [.int .i64 a8.f, v14, .int .i64 a8.block, .int .i64 a8.at_, .int .i64 a8.dst] F79) (h_52 : e_51 1 = .pointer (some ⟨b10, (a9).toNat * 5, none⟩)) (h_53 : e_51 2 = .int .i64 a21) (hq_55 : x76 = z_46), ∀ w, St E H [bx b1 141 (([v3, v5, v7, .bool a2.out.done, .int .i64 a2.out.trap, .int .i64 a2.out.value, v18, .int .i64 a2.out.steps] : List Value) ++ (arrC a2.out.memory ++ ([] : List Value))), F77, F79] w → K_35 e_51 w := by
      intro x76 F77 F79 e_51 h78 h80 h_52 h_53 hq_55
      subst hq_55
      replace hp : run_runner_to.nx50 a2 a8 a9 a21 x76 = some r := hr_48
      unfold run_runner_to.nx50 at hp
      refine TC.go hK_36 ?_
      refine TC.region ?_
      refine TL.v (ltb rfl) (rv_mv (v := .pointer (some ⟨b10, (a9).toNat * 5, none⟩)) h_52) ?_
      refine TL.v (ltb rfl) (rv_mv (v := .pointer (some ⟨b10, (a9).toNat * 5, none⟩)) h_52) ?_
      refine TL.v (ltb rfl) (rv_mv (v := .int .i64 a21) h_53) ?_
      refine TL.v (ltb rfl) (rv_nilCheck (a := ⟨b10, (a9).toNat * 5, none⟩) rfl) ?_
      refine TL.v (ltb rfl) (rv_fa (b := b10) (o := (a9).toNat * 5) fa_153_2 rfl) ?_
      refine TL.pk' [2, 0, 0] (L' := [F79, bx b1 141 (([v3, v5, v7, .bool a2.out.done, .int .i64 a2.out.trap, .int .i64 a2.out.value, v18, .int .i64 a2.out.steps] : List Value) ++ (arrC a2.out.memory ++ ([] : List Value))), F77]) rfl ?_
      refine TL.stH (ds := [.int .i64 a21]) (o := 2) (o' := (a9).toNat * 5 + 2) (u := .int .i64 a21) h80 ms_3 rfl rfl rfl rfl (oc rfl oc0) (leb rfl) fun F81 h82 => ?_
      refine TL.v (ltb rfl) (rv_nilCheck (a := ⟨b10, (a9).toNat * 5, none⟩) rfl) ?_
      refine TL.v (ltb rfl) (rv_fa (b := b10) (o := (a9).toNat * 5) fa_153_3 rfl) ?_
      refine TL.stH (ds := [.int .i64 0]) (o := 3) (o' := (a9).toNat * 5 + 3) (u := .int .i64 0) h82 ms_3 rfl rfl rfl rfl (oc rfl oc0) (leb rfl) fun F83 h84 => ?_
      refine TL.nil ?_
      refine W.pk' [0, 1, 0] (L' := [F83, F77, bx b1 141 (([v3, v5, v7, .bool a2.out.done, .int .i64 a2.out.trap, .int .i64 a2.out.value, v18, .int .i64 a2.out.steps] : List Value) ++ (arrC a2.out.memory ++ ([] : List Value)))]) rfl ?_
      refine W.shut (a := (⟨a8.f, x76, a21, 0, a8.dst⟩ : PFrame)) h84 ⟨_, _, rfl, rfl, h78⟩ fun F85 h86 => ?_
      obtain rfl := Option.some.inj hp
      exact fun w hw => retOk ⟨v7, F85, rfl, rfl, h86⟩ (hw.pick [1, 0])
    refine TC.pk' [0, 0, 0, 0] (L' := [bx b1 141 (([v3, v5, v7, .bool a2.out.done, .int .i64 a2.out.trap, .int .i64 a2.out.value, v18, .int .i64 a2.out.steps] : List Value) ++ (arrC a2.out.memory ++ ([] : List Value))), F15, F11, F68]) rfl ?_
    refine TC.loopW (r := z_46) (fun (s : (List Int × Int)) (e_39 : Env) (L_70 : List FP) => ∃ (x70 : List Int) (x75 : Int) (F71 : FP) (F73 : FP), s = (x70, x75) ∧ SlO 2 (kInt .i64) x70 v14 F71 ∧ Hole 153 kFrame a2.frames (a9).toNat v7 b10 [.int .i64 a8.f, v14, .int .i64 a8.block, .int .i64 a8.at_, .int .i64 a8.dst] F73 ∧ e_39 1 = .pointer (some ⟨b10, (a9).toNat * 5, none⟩) ∧ e_39 2 = .int .i64 a21 ∧ e_39 8 = v67 ∧ e_39 68 = v55 ∧ e_39 69 = .int .i64 (len x49.phis) ∧ e_39 70 = .int .i64 x75 ∧ L_70 = [bx b1 141 (([v3, v5, v7, .bool a2.out.done, .int .i64 a2.out.trap, .int .i64 a2.out.value, v18, .int .i64 a2.out.steps] : List Value) ++ (arrC a2.out.memory ++ ([] : List Value))), F71, F73, F68]) ?_ FUEL _ _ _ hz_47 ⟨a8.regs, 0, F15, F11, rfl, h16, h12, h_31, h_32, h_34, rfl, rfl, rfl, rfl⟩
    rintro s e_39 L_70 ⟨x70, x75, F71, F73, rfl, h72, h74, h_40, h_41, h_42, h_43, h_44, h_45, rfl⟩ x_49 hp hx_50
    replace hp : run_runner_to.bd50 x49 x66 x70 x75 = some x_49 := hp
    unfold run_runner_to.bd50 at hp
    refine TC.seq fun K_56 hK_57 => ?_
    refine TC.region ?_
    refine TL.v (ltb rfl) (rv_lss (k := .i64) (m := x75) (n := (len x49.phis)) h_45 h_44) ?_
    refine TL.nil ?_
    refine TC.go hK_57 ?_
    refine TC.seq fun K_58 hK_59 => ?_
    by_cases hc_60 : x75 < (len x49.phis)
    · rw [if_pos hc_60] at hp
      refine TC.condT (bT hc_60) ?_
      refine TC.skip ?_
      refine TC.go hK_59 ?_
      refine TC.seq fun K_61 hK_62 => ?_
      refine TC.block ?_
      refine TC.seq fun K_63 hK_64 => ?_
      refine TC.region ?_
      refine TL.v (ltb rfl) (rv_mv (v := .int .i64 x75) h_45) ?_
      obtain ⟨x87, hx_65, hp⟩ := bind_some' hp
      refine TL.v3 (ltb rfl) (rv_ix 82 (.tmp 68) (.tmp 70) (v := v55) (i := x75) Try.underlying82 inf_131 rfl h_43 h_45 h56 hx_65) fun b88 o89 c90 h91 h92 => ?_
      obtain ⟨v93, rfl, h94⟩ := h91
      refine TL.v (ltb rfl) (rv_lda (o := o89) (o' := o89) (j := 0) (ds := [.int .i64 x87.dst, v93]) ag_131 rfl Src.H h92 rfl rfl rfl) ?_
      refine TL.alloc (cs := [.int .i64 0, .slice none 0 0]) inf_131 (ltb rfl) rfl fun b95 => ?_
      refine TL.v (ltb rfl) (rv_as (v := .int .i64 x75) rfl) ?_
      refine TL.stB (ds := [.int .i64 x87.dst, v93]) (o := 0) (cs := [.int .i64 0, .slice none 0 0]) (b := b95) (u := .agg #[.int .i64 x87.dst, v93]) 0 rfl ms_131 rfl rfl rfl (oc rfl (oc (h94).one oc0)) (leb rfl) ?_
      refine TL.norm (L' := [bx b95 131 [.int .i64 x87.dst, v93], bx b1 141 (([v3, v5, v7, .bool a2.out.done, .int .i64 a2.out.trap, .int .i64 a2.out.value, v18, .int .i64 a2.out.steps] : List Value) ++ (arrC a2.out.memory ++ ([] : List Value))), F71, F73, F68]) rfl ?_
      refine TL.nil ?_
      refine TC.go hK_64 ?_
      refine TC.held ([bx b95 131 [.int .i64 x87.dst, v93], bx b1 141 (([v3, v5, v7, .bool a2.out.done, .int .i64 a2.out.trap, .int .i64 a2.out.value, v18, .int .i64 a2.out.steps] : List Value) ++ (arrC a2.out.memory ++ ([] : List Value))), F73, F68].flatten ++ H) mix (srcG 0 rfl (srcG 1 rfl (srcG 3 rfl (srcG 4 rfl srcG0)))) ?_
      refine HL.v 0 rfl trivial (by kernel_rfl) (by kernel_rfl) (by kernel_rfl) (ltb rfl) (rv_mv (v := .pointer (some ⟨b10, (a9).toNat * 5, none⟩)) h_40) ?_
      refine HL.v 1 rfl trivial (by kernel_rfl) (by kernel_rfl) (by kernel_rfl) (ltb rfl) (rv_nilCheck (a := ⟨b10, (a9).toNat * 5, none⟩) rfl) ?_
      refine HL.v 2 rfl trivial (by kernel_rfl) (by kernel_rfl) (by kernel_rfl) (ltb rfl) (rv_fa (b := b10) (o := (a9).toNat * 5) fa_153_1 rfl) ?_
      refine HL.v 3 rfl trivial (by kernel_rfl) (by kernel_rfl) (by kernel_rfl) (ltb rfl) (rv_ld (v := v14) (o := (a9).toNat * 5 + 1) (o' := (a9).toNat * 5) (j := 1) sc_100 rfl (srcInG 2 rfl) (Hole.cells h74) rfl rfl) ?_
      refine HL.v 4 rfl trivial (by kernel_rfl) (by kernel_rfl) (by kernel_rfl) (ltb rfl) (rv_fa (b := b95) (o := 0) fa_131_0 rfl) ?_
      refine HL.v 5 rfl trivial (by kernel_rfl) (by kernel_rfl) (by kernel_rfl) (ltb rfl) (rv_ld (v := .int .i64 x87.dst) (o := 0) (o' := 0) (j := 0) sc_3 rfl (srcInG 0 rfl) (bx_cells b95 131 _) rfl rfl) ?_
      refine HL.v 6 rfl trivial (by kernel_rfl) (by kernel_rfl) (by kernel_rfl) (ltb rfl) (rv_mv (v := v67) h_42) ?_
      refine HL.v 7 rfl trivial (by kernel_rfl) (by kernel_rfl) (by kernel_rfl) (ltb rfl) (rv_mv (v := .int .i64 x75) rfl) ?_
      obtain ⟨x3297, hx_66, hp⟩ := bind_some' hp
      refine HL.w3 8 rfl trivial (by kernel_rfl) (by kernel_rfl) (by kernel_rfl) (ltb rfl) (rv_ix 100 (.tmp 81) (.tmp 82) (v := v67) (i := x75) Try.underlying100 inf_2 rfl rfl rfl (h69).ro hx_66) fun b3298 o3299 c3300 h3301 h3302 => ?_
      obtain rfl := h3301
      refine HL.v 9 rfl trivial (by kernel_rfl) (by kernel_rfl) (by kernel_rfl) (ltb rfl) (rv_ld (v := .int .i64 x3297) (o := o3299) (o' := o3299) (j := 0) sc_2 rfl (srcInG 3 rfl) h3302 rfl rfl) ?_
      obtain ⟨x4097, hx_67, hp⟩ := bind_some' hp
      refine HL.w2 10 rfl trivial (by kernel_rfl) (by kernel_rfl) (by kernel_rfl) (ltb rfl) (rv_ixO 100 (.tmp 78) (.tmp 80) (v := v14) (i := x87.dst) Try.underlying100 inf_2 rfl rfl rfl h72 (idx_some hx_67).1 (idx_some hx_67).2.1) fun b4098 o4099 h4100 => ?_
      refine HL.one 11 rfl (by kernel_rfl) fun K_68 hK_69 => ?_
      refine TL.pk' [2, 0, 0, 0, 0] (L' := [F71, bx b95 131 [.int .i64 x87.dst, v93], bx b1 141 (([v3, v5, v7, .bool a2.out.done, .int .i64 a2.out.trap, .int .i64 a2.out.value, v18, .int .i64 a2.out.steps] : List Value) ++ (arrC a2.out.memory ++ ([] : List Value))), F73, F68]) rfl ?_
      refine TL.stE0 (ds := [.int .i64 x3297]) (u := .int .i64 x3297) (a := x3297) h72 h4100 ms_2 rfl rfl rfl ⟨rfl, rfl⟩ fun F4497 h4498 => ?_
      refine TL.nil (hK_69 _ _ (srcG 1 rfl (srcG 2 rfl (srcG 3 rfl (srcG 4 rfl srcG0)))) ?_)
      refine HL.done (by kernel_rfl) ?_
      refine TC.go hK_62 ?_
      refine TC.region ?_
      refine TL.v (ltb rfl) (rv_add (k := .i64) (m := x75) (n := 1) h_45 rfl) ?_
      refine TL.v (ltb rfl) (rv_mv (v := .int .i64 (w64 (x75 + 1))) rfl) ?_
      refine TL.nil ?_
      exact fun w hw => goOk hp ⟨(x70.set (x87.dst).toNat x3297), (w64 (x75 + 1)), F4497, F73, rfl, h4498, h74, h_40, h_41, h_42, h_43, h_44, rfl, rfl⟩ (hw.pick [2, 0, 1, 1])
    · rw [if_neg hc_60] at hp
      refine TC.condF (bF hc_60) ?_
      refine TC.exit ?_
      refine fun w hw => hJ_54 x70 F71 F73 _ h72 h74 ?_ ?_ (ex_ret hp hx_50) w (hw.pick [0, 0, 0])
      · exact h_40
      · exact h_41
  refine W.new0 ?_
  refine TC.pk' [1, 2, 1, 0] (L' := [bx b1 141 (([v3, v5, v7, .bool a2.out.done, .int .i64 a2.out.trap, .int .i64 a2.out.value, v18, .int .i64 a2.out.steps] : List Value) ++ (arrC a2.out.memory ++ ([] : List Value))), F15, F11, ([] : FP)]) rfl ?_
  refine TC.loopW (r := z_25) (fun (s : (List Int × Int)) (e_16 : Env) (L_90 : List FP) => ∃ (x61 : List Int) (x65 : Int) (v62 : Value) (F63 : FP), s = (x61, x65) ∧ SlO 2 (kInt .i64) x61 v62 F63 ∧ e_16 1 = .pointer (some ⟨b10, (a9).toNat * 5, none⟩) ∧ e_16 2 = .int .i64 a21 ∧ e_16 6 = .int .i64 x38 ∧ e_16 7 = v55 ∧ e_16 8 = v62 ∧ e_16 47 = v55 ∧ e_16 48 = .int .i64 (len x49.phis) ∧ e_16 49 = .int .i64 x65 ∧ L_90 = [bx b1 141 (([v3, v5, v7, .bool a2.out.done, .int .i64 a2.out.trap, .int .i64 a2.out.value, v18, .int .i64 a2.out.steps] : List Value) ++ (arrC a2.out.memory ++ ([] : List Value))), F15, F11, F63]) ?_ FUEL _ _ _ hz_26 ⟨([] : List Int), 0, (.slice none 0 0), ([] : FP), rfl, (SlO.nil 2), rfl, rfl, rfl, rfl, rfl, rfl, rfl, rfl, rfl⟩
  rintro s e_16 L_90 ⟨x61, x65, v62, F63, rfl, h64, h_17, h_18, h_19, h_20, h_21, h_22, h_23, h_24, rfl⟩ x_28 hp hx_29
  replace hp : run_runner_to.bd29 a8 x38 x49 x61 x65 = some x_28 := hp
  unfold run_runner_to.bd29 at hp
  refine TC.seq fun K_73 hK_74 => ?_
  refine TC.region ?_
  refine TL.v (ltb rfl) (rv_lss (k := .i64) (m := x65) (n := (len x49.phis)) h_24 h_23) ?_
  refine TL.nil ?_
  refine TC.go hK_74 ?_
  refine TC.seq fun K_75 hK_76 => ?_
  by_cases hc_77 : x65 < (len x49.phis)
  · rw [if_pos hc_77] at hp
    refine TC.condT (bT hc_77) ?_
    refine TC.skip ?_
    refine TC.go hK_76 ?_
    refine TC.seq fun K_78 hK_79 => ?_
    refine TC.block ?_
    refine TC.seq fun K_80 hK_81 => ?_
    refine TC.region ?_
    obtain ⟨x4897, hx_82, hp⟩ := bind_some' hp
    refine TL.v3 (ltb rfl) (rv_ix 82 (.tmp 47) (.tmp 49) (v := v55) (i := x65) Try.underlying82 inf_131 rfl h_22 h_24 h56 hx_82) fun b4898 o4899 c4900 h4901 h4902 => ?_
    obtain ⟨v4903, rfl, h4904⟩ := h4901
    refine TL.v (ltb rfl) (rv_lda (o := o4899) (o' := o4899) (j := 0) (ds := [.int .i64 x4897.dst, v4903]) ag_131 rfl Src.H h4902 rfl rfl rfl) ?_
    refine TL.alloc (cs := [.int .i64 0, .slice none 0 0]) inf_131 (ltb rfl) rfl fun b4905 => ?_
    refine TL.stB (ds := [.int .i64 x4897.dst, v4903]) (o := 0) (cs := [.int .i64 0, .slice none 0 0]) (b := b4905) (u := .agg #[.int .i64 x4897.dst, v4903]) 0 rfl ms_131 rfl rfl rfl (oc rfl (oc (h4904).one oc0)) (leb rfl) ?_
    refine TL.norm (L' := [bx b4905 131 [.int .i64 x4897.dst, v4903], bx b1 141 (([v3, v5, v7, .bool a2.out.done, .int .i64 a2.out.trap, .int .i64 a2.out.value, v18, .int .i64 a2.out.steps] : List Value) ++ (arrC a2.out.memory ++ ([] : List Value))), F15, F11, F63]) rfl ?_
    refine TL.nil ?_
    refine TC.go hK_81 ?_
    refine TC.held ([bx b4905 131 [.int .i64 x4897.dst, v4903], bx b1 141 (([v3, v5, v7, .bool a2.out.done, .int .i64 a2.out.trap, .int .i64 a2.out.value, v18, .int .i64 a2.out.steps] : List Value) ++ (arrC a2.out.memory ++ ([] : List Value))), F15, F11].flatten ++ H) mix (srcG 0 rfl (srcG 1 rfl (srcG 2 rfl (srcG 3 rfl srcG0)))) ?_
    refine HL.v 0 rfl trivial (by kernel_rfl) (by kernel_rfl) (by kernel_rfl) (ltb rfl) (rv_mv (v := v62) h_21) ?_
    refine HL.v 1 rfl trivial (by kernel_rfl) (by kernel_rfl) (by kernel_rfl) (ltb rfl) (rv_mv (v := .pointer (some ⟨b10, (a9).toNat * 5, none⟩)) h_17) ?_
    refine HL.v 2 rfl trivial (by kernel_rfl) (by kernel_rfl) (by kernel_rfl) (ltb rfl) (rv_nilCheck (a := ⟨b10, (a9).toNat * 5, none⟩) rfl) ?_
    refine HL.v 3 rfl trivial (by kernel_rfl) (by kernel_rfl) (by kernel_rfl) (ltb rfl) (rv_fa (b := b10) (o := (a9).toNat * 5) fa_153_1 rfl) ?_
    refine HL.v 4 rfl trivial (by kernel_rfl) (by kernel_rfl) (by kernel_rfl) (ltb rfl) (rv_ld (v := v14) (o := (a9).toNat * 5 + 1) (o' := (a9).toNat * 5) (j := 1) sc_100 rfl (srcInG 3 rfl) (Hole.cells h12) rfl rfl) ?_
    refine HL.v 5 rfl trivial (by kernel_rfl) (by kernel_rfl) (by kernel_rfl) (ltb rfl) (rv_fa (b := b4905) (o := 0) fa_131_1 rfl) ?_
    refine HL.v 6 rfl trivial (by kernel_rfl) (by kernel_rfl) (by kernel_rfl) (ltb rfl) (rv_ld (v := v4903) (o := 1) (o' := 0) (j := 1) sc_22 rfl (srcInG 0 rfl) (bx_cells b4905 131 _) rfl rfl) ?_
    refine HL.v 7 rfl trivial (by kernel_rfl) (by kernel_rfl) (by kernel_rfl) (ltb rfl) (rv_mv (v := .int .i64 x38) h_19) ?_
    obtain ⟨x8107, hx_83, hp⟩ := bind_some' hp
    refine HL.w3 8 rfl trivial (by kernel_rfl) (by kernel_rfl) (by kernel_rfl) (ltb rfl) (rv_ix 22 (.tmp 59) (.tmp 60) (v := v4903) (i := x38) Try.underlying22 inf_3 rfl rfl rfl h4904 hx_83) fun b8108 o8109 c8110 h8111 h8112 => ?_
    obtain rfl := h8111
    refine HL.v 9 rfl trivial (by kernel_rfl) (by kernel_rfl) (by kernel_rfl) (ltb rfl) (rv_ld (v := .int .i64 x8107) (o := o8109) (o' := o8109) (j := 0) sc_3 rfl srcInH h8112 rfl rfl) ?_
    obtain ⟨x8907, hx_84, hp⟩ := bind_some' hp
    refine HL.w3 10 rfl trivial (by kernel_rfl) (by kernel_rfl) (by kernel_rfl) (ltb rfl) (rv_ix 100 (.tmp 57) (.tmp 62) (v := v14) (i := x8107) Try.underlying100 inf_2 rfl rfl rfl (h16).ro hx_84) fun b8908 o8909 c8910 h8911 h8912 => ?_
    obtain rfl := h8911
    refine HL.v 11 rfl trivial (by kernel_rfl) (by kernel_rfl) (by kernel_rfl) (ltb rfl) (rv_ld (v := .int .i64 x8907) (o := o8909) (o' := o8909) (j := 0) sc_2 rfl (srcInG 2 rfl) h8912 rfl rfl) ?_
    refine HL.one 12 rfl (by kernel_rfl) fun K_85 hK_86 => ?_
    refine TL.bv (vs := [(0, .int .i64 x8907)]) (cs := [.int .i64 x8907]) (pc rfl p0) Try.underlying100 inf_2 (ltb rfl) (by decide) (by decide) (by kernel_rfl) fun b9707 => ?_
    refine TL.nil (hK_86 _ _ (srcG 1 rfl (srcG 2 rfl (srcG 3 rfl (srcG 4 rfl srcG0)))) ?_)
    refine HL.one 13 rfl (by kernel_rfl) fun K_87 hK_88 => ?_
    refine TL.pk' [5, 0, 0, 0, 0, 0] (L' := [F63, bx b9707 2 [.int .i64 x8907], bx b4905 131 [.int .i64 x4897.dst, v4903], bx b1 141 (([v3, v5, v7, .bool a2.out.done, .int .i64 a2.out.trap, .int .i64 a2.out.value, v18, .int .i64 a2.out.steps] : List Value) ++ (arrC a2.out.memory ++ ([] : List Value))), F15, F11]) rfl ?_
    refine TL.perm (L' := [F63, bx b9707 2 [.int .i64 x8907], [], bx b4905 131 [.int .i64 x4897.dst, v4903], bx b1 141 (([v3, v5, v7, .bool a2.out.done, .int .i64 a2.out.trap, .int .i64 a2.out.value, v18, .int .i64 a2.out.steps] : List Value) ++ (arrC a2.out.memory ++ ([] : List Value))), F15, F11]) (by simp) ?_
    obtain ⟨x10107, hz_89, hp⟩ := bind_some' hp
    refine TL.app Try.underlying100 inf_2 (ltb rfl) rfl (ltb rfl) rfl (leb rfl) rfl rfl h64 (RepL.to (RepL.cons (k := (kInt .i64)) (x := x8907) ⟨rfl, rfl⟩ RepL.nil) rfl) rfl rfl hz_89 fun v10108 F10109 h10110 => ?_
    refine TL.nil (hK_88 _ _ (srcG 1 rfl (srcG 2 rfl (srcG 3 rfl (srcG 4 rfl srcG0)))) ?_)
    refine HL.v 14 rfl trivial (by kernel_rfl) (by kernel_rfl) (by kernel_rfl) (ltb rfl) (rv_as (v := v10108) rfl) ?_
    refine HL.done (by kernel_rfl) ?_
    refine TC.go hK_79 ?_
    refine TC.region ?_
    refine TL.v (ltb rfl) (rv_add (k := .i64) (m := x65) (n := 1) h_24 rfl) ?_
    refine TL.v (ltb rfl) (rv_mv (v := .int .i64 (w64 (x65 + 1))) rfl) ?_
    refine TL.nil ?_
    exact fun w hw => goOk hp ⟨x10107, (w64 (x65 + 1)), v10108, F10109, rfl, h10110, h_17, h_18, h_19, h_20, rfl, h_22, h_23, rfl, rfl⟩ (hw.pick [2, 2, 2, 0])
  · rw [if_neg hc_77] at hp
    refine TC.condF (bF hc_77) ?_
    refine TC.exit ?_
    refine fun w hw => hJ_71 x61 v62 F63 _ h64 ?_ ?_ ?_ ?_ (ex_ret hp hx_29) w (hw.pick [0, 0, 0, 0])
    · exact h_17
    · exact h_18
    · exact h_20
    · exact h_21

/-! ### (*fettle/run.runner).instr -/
abbrev run_runner_instr.R (b1 : Nat) (a2 : PRunner) (v3 : Value) (v5 : Value) (r : List PFrame × Bool × Int × List Int × A64) (v : Value) (A : List FP) : Prop := ∃ (w1 : Value) (G1 : FP) (w2 : Value) (G2 : FP), .tuple #[] = v ∧ A = [bx b1 141 (([v3, v5, w1, .bool r.2.1, .int .i64 r.2.2.1, .int .i64 a2.out.value, w2, .int .i64 a2.out.steps] : List Value) ++ (arrC r.2.2.2.2 ++ ([] : List Value))), G1, G2] ∧ SlO 153 kFrame r.1 w1 G1 ∧ SlO 2 (kInt .i64) r.2.2.2.1 w2 G2
def run_runner_instr.nx21 (a2 : PRunner) (a8 : PFrame) (a9 : Int) (a22 : PInstr) (x31 : List Int) : Option (List PFrame × Bool × Int × List Int × A64) :=
  if a22.op = 1 then
    (idx a8.regs a22.dst).bind fun x3236 =>
    some ((a2.frames.set (a9).toNat (⟨a8.f, (a8.regs.set (a22.dst).toNat a22.imm), a8.block, a8.at_, a8.dst⟩ : PFrame)), a2.out.done, a2.out.trap, a2.out.out, a2.out.memory)
  else
    if a22.op = 15 then
      (idx x31 0).bind fun x4038 =>
      (run_word x4038).bind fun x4044 =>
      if (!x4044) = true then
        (run_runner_trap (⟨(⟨a2.m.funcs⟩ : PModule), a2.ahead, (a2.frames.set (a9).toNat a8), (⟨a2.out.done, a2.out.trap, a2.out.value, a2.out.out, a2.out.steps, a2.out.memory⟩ : POutcome)⟩ : PRunner) 2).bind fun x4047 =>
        some ((a2.frames.set (a9).toNat a8), x4047.1, x4047.2, a2.out.out, a2.out.memory)
      else
        (idx x31 0).bind fun x7249 =>
        (A64.get a2.out.memory x7249).bind fun x9249 =>
        (idx a8.regs a22.dst).bind fun x10049 =>
        some ((a2.frames.set (a9).toNat (⟨a8.f, (a8.regs.set (a22.dst).toNat x9249), a8.block, a8.at_, a8.dst⟩ : PFrame)), a2.out.done, a2.out.trap, a2.out.out, a2.out.memory)
    else
      if a22.op = 16 then
        (idx x31 0).bind fun x10851 =>
        (run_word x10851).bind fun x10857 =>
        if (!x10857) = true then
          (run_runner_trap (⟨(⟨a2.m.funcs⟩ : PModule), a2.ahead, (a2.frames.set (a9).toNat a8), (⟨a2.out.done, a2.out.trap, a2.out.value, a2.out.out, a2.out.steps, a2.out.memory⟩ : POutcome)⟩ : PRunner) 2).bind fun x10860 =>
          some ((a2.frames.set (a9).toNat a8), x10860.1, x10860.2, a2.out.out, a2.out.memory)
        else
          (idx x31 0).bind fun x11664 =>
          (idx x31 1).bind fun x12864 =>
          (A64.get a2.out.memory x11664).bind fun x14864 =>
          some ((a2.frames.set (a9).toNat a8), a2.out.done, a2.out.trap, a2.out.out, (a2.out.memory.put x11664 x12864))
      else
        if a22.op = 18 then
          (idx x31 0).bind fun x18467 =>
          (cat a2.out.out [x18467]).bind fun x19667 =>
          some ((a2.frames.set (a9).toNat a8), a2.out.done, a2.out.trap, x19667, a2.out.memory)
        else
          if a22.op = 17 then
            (run_runner_enter (⟨(⟨a2.m.funcs⟩ : PModule), a2.ahead, (a2.frames.set (a9).toNat a8), (⟨a2.out.done, a2.out.trap, a2.out.value, a2.out.out, a2.out.steps, a2.out.memory⟩ : POutcome)⟩ : PRunner) a22.fn x31 a22.dst).bind fun x21669 =>
            some (x21669, a2.out.done, a2.out.trap, a2.out.out, a2.out.memory)
          else
            (arith_Eval a22.op x31).bind fun x21673 =>
            if ¬ x21673.2 = GErr.no then
              (run_runner_trap (⟨(⟨a2.m.funcs⟩ : PModule), a2.ahead, (a2.frames.set (a9).toNat a8), (⟨a2.out.done, a2.out.trap, a2.out.value, a2.out.out, a2.out.steps, a2.out.memory⟩ : POutcome)⟩ : PRunner) 1).bind fun x21679 =>
              some ((a2.frames.set (a9).toNat a8), x21679.1, x21679.2, a2.out.out, a2.out.memory)
            else
              (idx a8.regs a22.dst).bind fun x24481 =>
              some ((a2.frames.set (a9).toNat (⟨a8.f, (a8.regs.set (a22.dst).toNat x21673.1), a8.block, a8.at_, a8.dst⟩ : PFrame)), a2.out.done, a2.out.trap, a2.out.out, a2.out.memory)
def run_runner_instr.bd21 (a8 : PFrame) (a22 : PInstr) (x26 : List Int) (x30 : Int) : Option (Ex (List Int) (List Int × Int)) :=
  if x30 < (len a22.args) then
    (idx a22.args x30).bind fun x25283 =>
    (idx a8.regs x25283).bind fun x25289 =>
    (cat x26 [x25289]).bind fun x25296 =>
    some (.go (x25296, (w64 (x30 + 1))))
  else
    some (.ret x26)
def run_runner_instr (a2 : PRunner) (a8 : PFrame) (a9 : Int) (a22 : PInstr) : Option (List PFrame × Bool × Int × List Int × A64) :=
  (whl (fun (s : (List Int × Int)) => run_runner_instr.bd21 a8 a22 s.1 s.2) FUEL (([] : List Int), 0)).bind fun z =>
  run_runner_instr.nx21 a2 a8 a9 a22 z
set_option maxHeartbeats 4000000 in
theorem run_runner_instr_ok {E : World} {H : FP} {w : World} {a2 : PRunner} {a8 : PFrame} {a9 : Int} {a22 : PInstr} {b1 : Nat} {v3 : Value} {v5 : Value} {v7 : Value} {b10 : Nat} {F11 : FP} {v14 : Value} {F15 : FP} {v18 : Value} {F19 : FP} {v23 : Value} {r : List PFrame × Bool × Int × List Int × A64} (h4 : SlI kFunc H a2.m.funcs v3) (h6 : SlI (kSl 22 (kSl 3 (kInt .i64))) H a2.ahead v5) (h12 : Hole 153 kFrame a2.frames (a9).toNat v7 b10 [.int .i64 a8.f, v14, .int .i64 a8.block, .int .i64 a8.at_, .int .i64 a8.dst] F11) (h13 : 0 ≤ a9) (h16 : SlO 2 (kInt .i64) a8.regs v14 F15) (h20 : SlO 2 (kInt .i64) a2.out.out v18 F19) (h24 : SlI (kInt .i64) H a22.args v23) (hp : run_runner_instr a2 a8 a9 a22 = some r) (hst : St E H [bx b1 141 (([v3, v5, v7, .bool a2.out.done, .int .i64 a2.out.trap, .int .i64 a2.out.value, v18, .int .i64 a2.out.steps] : List Value) ++ (arrC a2.out.memory ++ ([] : List Value))), F11, F15, F19] w) :
    Fn Try.prog 92 #[.pointer (some ⟨b1, 0, none⟩), .pointer (some ⟨b10, (a9).toNat * 5, none⟩), .agg #[.int .i64 a22.op, .int .i64 a22.dst, v23, .int .i64 a22.imm, .int .i64 a22.fn]] w fun v w' => ∃ A, run_runner_instr.R b1 a2 v3 v5 r v A ∧ St E H A w' := by
  refine Fn.body (fn := Try.f92) (args := [.pointer (some ⟨b1, 0, none⟩), .pointer (some ⟨b10, (a9).toNat * 5, none⟩), .agg #[.int .i64 a22.op, .int .i64 a22.dst, v23, .int .i64 a22.imm, .int .i64 a22.fn]]) E H [bx b1 141 (([v3, v5, v7, .bool a2.out.done, .int .i64 a2.out.trap, .int .i64 a2.out.value, v18, .int .i64 a2.out.steps] : List Value) ++ (arrC a2.out.memory ++ ([] : List Value))), F11, F15, F19] [] 131 Try.func92 rfl rfl rfl rfl (leb rfl) hst ?_
  unfold run_runner_instr at hp
  refine TC.seq fun K_1 hK_2 => ?_
  refine TC.region ?_
  refine TL.box (cs := [.int .i64 a22.op, .int .i64 a22.dst, v23, .int .i64 a22.imm, .int .i64 a22.fn]) (v := .agg #[.int .i64 a22.op, .int .i64 a22.dst, v23, .int .i64 a22.imm, .int .i64 a22.fn]) (ltb rfl) rfl rfl fun b25 => ?_
  refine TL.nil ?_
  refine TC.go hK_2 ?_
  refine TC.seq fun K_3 hK_4 => ?_
  refine TC.region ?_
  refine TL.v (ltb rfl) (rv_as (v := .slice none 0 0) rfl) ?_
  refine TL.nil ?_
  refine TC.go hK_4 ?_
  refine TC.seq fun K_5 hK_6 => ?_
  refine TC.seq fun K_7 hK_8 => ?_
  refine TC.region ?_
  refine TL.v (ltb rfl) (rv_fa (b := b25) (o := 0) fa_87_2 rfl) ?_
  refine TL.v (ltb rfl) (rv_ld (v := v23) (o := 2) (o' := 0) (j := 2) sc_22 rfl (Src.at_ 0 rfl) (bx_cells b25 87 _) rfl rfl) ?_
  refine TL.v (ltb rfl) (rv_lenI (v := v23) Try.underlying22 rfl h24) ?_
  refine TL.v (ltb rfl) (rv_mv (v := .int .i64 0) rfl) ?_
  refine TL.nil ?_
  refine TC.go hK_8 ?_
  refine TC.block ?_
  obtain ⟨z_17, hz_18, hr_19⟩ := bind_some' hp
  clear hp
  have hJ_118 : ∀ (x31 : List Int) (v32 : Value) (F33 : FP) (e_22 : Env) (h34 : SlO 2 (kInt .i64) x31 v32 F33) (h_23 : e_22 0 = .pointer (some ⟨b1, 0, none⟩)) (h_24 : e_22 1 = .pointer (some ⟨b10, (a9).toNat * 5, none⟩)) (h_25 : e_22 5 = .pointer (some ⟨b25, 0, none⟩)) (h_26 : e_22 6 = v32) (hq_119 : x31 = z_17), ∀ w, St E H [bx b1 141 (([v3, v5, v7, .bool a2.out.done, .int .i64 a2.out.trap, .int .i64 a2.out.value, v18, .int .i64 a2.out.steps] : List Value) ++ (arrC a2.out.memory ++ ([] : List Value))), F19, F15, F11, bx b25 87 [.int .i64 a22.op, .int .i64 a22.dst, v23, .int .i64 a22.imm, .int .i64 a22.fn], F33] w → K_5 e_22 w := by
    intro x31 v32 F33 e_22 h34 h_23 h_24 h_25 h_26 hq_119
    subst hq_119
    replace hp : run_runner_instr.nx21 a2 a8 a9 a22 x31 = some r := hr_19
    unfold run_runner_instr.nx21 at hp
    refine TC.go hK_6 ?_
    refine TC.seq fun K_27 hK_28 => ?_
    refine TC.region ?_
    refine TL.v (ltb rfl) (rv_fa (b := b25) (o := 0) fa_87_0 h_25) ?_
    refine TL.v (ltb rfl) (rv_ld (v := .int .i64 a22.op) (o := 0) (o' := 0) (j := 0) sc_3 rfl (Src.at_ 4 rfl) (bx_cells b25 87 _) rfl rfl) ?_
    refine TL.nil ?_
    refine TC.go hK_28 ?_
    refine TC.block ?_
    refine TC.seq fun K_29 hK_30 => ?_
    refine TC.region ?_
    refine TL.v (ltb rfl) (rv_eql (k := .i64) (m := a22.op) (n := 1) rfl rfl) ?_
    refine TL.v (ltb rfl) (rv_as (v := .bool (decide (a22.op = 1))) rfl) ?_
    refine TL.nil ?_
    refine TC.go hK_30 ?_
    by_cases hc_31 : a22.op = 1
    · rw [if_pos hc_31] at hp
      refine TC.condT (bT hc_31) ?_
      refine TC.held ([bx b1 141 (([v3, v5, v7, .bool a2.out.done, .int .i64 a2.out.trap, .int .i64 a2.out.value, v18, .int .i64 a2.out.steps] : List Value) ++ (arrC a2.out.memory ++ ([] : List Value))), F19, F11, bx b25 87 [.int .i64 a22.op, .int .i64 a22.dst, v23, .int .i64 a22.imm, .int .i64 a22.fn], F33].flatten ++ H) mix (srcG 0 rfl (srcG 1 rfl (srcG 3 rfl (srcG 4 rfl (srcG 5 rfl srcG0))))) ?_
      refine HL.v 0 rfl trivial (by kernel_rfl) (by kernel_rfl) (by kernel_rfl) (ltb rfl) (rv_mv (v := .pointer (some ⟨b10, (a9).toNat * 5, none⟩)) h_24) ?_
      refine HL.v 1 rfl trivial (by kernel_rfl) (by kernel_rfl) (by kernel_rfl) (ltb rfl) (rv_nilCheck (a := ⟨b10, (a9).toNat * 5, none⟩) rfl) ?_
      refine HL.v 2 rfl trivial (by kernel_rfl) (by kernel_rfl) (by kernel_rfl) (ltb rfl) (rv_fa (b := b10) (o := (a9).toNat * 5) fa_153_1 rfl) ?_
      refine HL.v 3 rfl trivial (by kernel_rfl) (by kernel_rfl) (by kernel_rfl) (ltb rfl) (rv_ld (v := v14) (o := (a9).toNat * 5 + 1) (o' := (a9).toNat * 5) (j := 1) sc_100 rfl (srcInG 2 rfl) (Hole.cells h12) rfl rfl) ?_
      refine HL.v 4 rfl trivial (by kernel_rfl) (by kernel_rfl) (by kernel_rfl) (ltb rfl) (rv_fa (b := b25) (o := 0) fa_87_1 h_25) ?_
      refine HL.v 5 rfl trivial (by kernel_rfl) (by kernel_rfl) (by kernel_rfl) (ltb rfl) (rv_ld (v := .int .i64 a22.dst) (o := 1) (o' := 0) (j := 1) sc_3 rfl (srcInG 3 rfl) (bx_cells b25 87 _) rfl rfl) ?_
      refine HL.v 6 rfl trivial (by kernel_rfl) (by kernel_rfl) (by kernel_rfl) (ltb rfl) (rv_fa (b := b25) (o := 0) fa_87_3 h_25) ?_
      refine HL.v 7 rfl trivial (by kernel_rfl) (by kernel_rfl) (by kernel_rfl) (ltb rfl) (rv_ld (v := .int .i64 a22.imm) (o := 3) (o' := 0) (j := 3) sc_2 rfl (srcInG 3 rfl) (bx_cells b25 87 _) rfl rfl) ?_
      obtain ⟨x3236, hx_32, hp⟩ := bind_some' hp
      refine HL.w2 8 rfl trivial (by kernel_rfl) (by kernel_rfl) (by kernel_rfl) (ltb rfl) (rv_ixO 100 (.tmp 55) (.tmp 57) (v := v14) (i := a22.dst) Try.underlying100 inf_2 rfl rfl rfl h16 (idx_some hx_32).1 (idx_some hx_32).2.1) fun b3237 o3238 h3239 => ?_
      refine HL.one 9 rfl (by kernel_rfl) fun K_33 hK_34 => ?_
      refine TL.pk' [2, 0, 0, 0, 0, 0] (L' := [F15, bx b1 141 (([v3, v5, v7, .bool a2.out.done, .int .i64 a2.out.trap, .int .i64 a2.out.value, v18, .int .i64 a2.out.steps] : List Value) ++ (arrC a2.out.memory ++ ([] : List Value))), F19, F11, bx b25 87 [.int .i64 a22.op, .int .i64 a22.dst, v23, .int .i64 a22.imm, .int .i64 a22.fn], F33]) rfl ?_
      refine TL.stE0 (ds := [.int .i64 a22.imm]) (u := .int .i64 a22.imm) (a := a22.imm) h16 h3239 ms_2 rfl rfl rfl ⟨rfl, rfl⟩ fun F3636 h3637 => ?_
      refine TL.nil (hK_34 _ _ (srcG 1 rfl (srcG 2 rfl (srcG 3 rfl (srcG 4 rfl (srcG 5 rfl srcG0))))) ?_)
      refine HL.done (by kernel_rfl) ?_
      refine W.pk' [3, 0, 0, 0, 0, 0] (L' := [F11, F3636, bx b1 141 (([v3, v5, v7, .bool a2.out.done, .int .i64 a2.out.trap, .int .i64 a2.out.value, v18, .int .i64 a2.out.steps] : List Value) ++ (arrC a2.out.memory ++ ([] : List Value))), F19, bx b25 87 [.int .i64 a22.op, .int .i64 a22.dst, v23, .int .i64 a22.imm, .int .i64 a22.fn], F33]) rfl ?_
      refine W.shut (a := (⟨a8.f, (a8.regs.set (a22.dst).toNat a22.imm), a8.block, a8.at_, a8.dst⟩ : PFrame)) h12 ⟨_, _, rfl, rfl, h3637⟩ fun F4036 h4037 => ?_
      obtain rfl := Option.some.inj hp
      exact fun w hw => retOk ⟨v7, F4036, v18, F19, rfl, rfl, h4037, h20⟩ (hw.pick [1, 0, 0])
    · rw [if_neg hc_31] at hp
      refine TC.condF (bF hc_31) ?_
      refine TC.seq fun K_35 hK_36 => ?_
      refine TC.region ?_
      refine TL.v (ltb rfl) (rv_eql (k := .i64) (m := a22.op) (n := 15) rfl rfl) ?_
      refine TL.v (ltb rfl) (rv_as (v := .bool (decide (a22.op = 15))) rfl) ?_
      refine TL.nil ?_
      refine TC.go hK_36 ?_
      by_cases hc_37 : a22.op = 15
      · rw [if_pos hc_37] at hp
        refine TC.condT (bT hc_37) ?_
        refine TC.seq fun K_38 hK_39 => ?_
        refine TC.seq fun K_40 hK_41 => ?_
        refine TC.region ?_
        refine TL.v (ltb rfl) (rv_mv (v := v32) h_26) ?_
        obtain ⟨x4038, hx_42, hp⟩ := bind_some' hp
        refine TL.v3 (ltb rfl) (rv_ix 100 (.tmp 63) (.const (.int .i64 0)) (v := v32) (i := 0) Try.underlying100 inf_2 rfl rfl rfl (h34).ro hx_42) fun b4039 o4040 c4041 h4042 h4043 => ?_
        obtain rfl := h4042
        refine TL.v (ltb rfl) (rv_ld (v := .int .i64 x4038) (o := o4040) (o' := o4040) (j := 0) sc_2 rfl (Src.at_ 5 rfl) h4043 rfl rfl) ?_
        obtain ⟨x4044, hy_43, hp⟩ := bind_some' hp
        refine TL.callC (vs := [.int .i64 x4038]) (R := run_word.R x4044) [] [bx b1 141 (([v3, v5, v7, .bool a2.out.done, .int .i64 a2.out.trap, .int .i64 a2.out.value, v18, .int .i64 a2.out.steps] : List Value) ++ (arrC a2.out.memory ++ ([] : List Value))), F19, F15, F11, bx b25 87 [.int .i64 a22.op, .int .i64 a22.dst, v23, .int .i64 a22.imm, .int .i64 a22.fn], F33] rfl cb_98 (ltb rfl) (mc rfl m0) (fun w hw => run_word_ok (a1 := x4038) hy_43 hw) fun v A' hR_44 => ?_
        obtain ⟨rfl, rfl⟩ := hR_44
        refine TL.norm (L' := [bx b1 141 (([v3, v5, v7, .bool a2.out.done, .int .i64 a2.out.trap, .int .i64 a2.out.value, v18, .int .i64 a2.out.steps] : List Value) ++ (arrC a2.out.memory ++ ([] : List Value))), F19, F15, F11, bx b25 87 [.int .i64 a22.op, .int .i64 a22.dst, v23, .int .i64 a22.imm, .int .i64 a22.fn], F33]) rfl ?_
        refine TL.v (ltb rfl) (rv_not (b := x4044) rfl) ?_
        refine TL.nil ?_
        refine TC.go hK_41 ?_
        by_cases hc_45 : (!x4044) = true
        · rw [if_pos hc_45] at hp
          refine TC.condT (bbT hc_45) ?_
          refine TC.seq fun K_46 hK_47 => ?_
          refine TC.region ?_
          refine TL.v (ltb rfl) (rv_mv (v := .pointer (some ⟨b1, 0, none⟩)) h_23) ?_
          refine TL.pk' [3, 2, 0, 0, 0, 0] (L' := [F11, F15, bx b1 141 (([v3, v5, v7, .bool a2.out.done, .int .i64 a2.out.trap, .int .i64 a2.out.value, v18, .int .i64 a2.out.steps] : List Value) ++ (arrC a2.out.memory ++ ([] : List Value))), F19, bx b25 87 [.int .i64 a22.op, .int .i64 a22.dst, v23, .int .i64 a22.imm, .int .i64 a22.fn], F33]) rfl ?_
          refine TL.shut (a := a8) h12 ⟨_, _, rfl, rfl, h16⟩ fun F4045 h4046 => ?_
          refine TL.pk' [1, 0, 0, 0, 0] (L' := [bx b1 141 (([v3, v5, v7, .bool a2.out.done, .int .i64 a2.out.trap, .int .i64 a2.out.value, v18, .int .i64 a2.out.steps] : List Value) ++ (arrC a2.out.memory ++ ([] : List Value))), F4045, F19, bx b25 87 [.int .i64 a22.op, .int .i64 a22.dst, v23, .int .i64 a22.imm, .int .i64 a22.fn], F33]) rfl ?_
          obtain ⟨x4047, hy_48, hp⟩ := bind_some' hp
          refine TL.callC (vs := [.pointer (some ⟨b1, 0, none⟩), .int .i64 2]) (R := run_runner_trap.R b1 (⟨(⟨a2.m.funcs⟩ : PModule), a2.ahead, (a2.frames.set (a9).toNat a8), (⟨a2.out.done, a2.out.trap, a2.out.value, a2.out.out, a2.out.steps, a2.out.memory⟩ : POutcome)⟩ : PRunner) v3 v5 v7 v18 x4047) [bx b1 141 (([v3, v5, v7, .bool a2.out.done, .int .i64 a2.out.trap, .int .i64 a2.out.value, v18, .int .i64 a2.out.steps] : List Value) ++ (arrC a2.out.memory ++ ([] : List Value)))] [F4045, F19, bx b25 87 [.int .i64 a22.op, .int .i64 a22.dst, v23, .int .i64 a22.imm, .int .i64 a22.fn], F33] rfl cb_99 (ltb rfl) (mc rfl (mc rfl m0)) (fun w hw => run_runner_trap_ok (a2 := (⟨(⟨a2.m.funcs⟩ : PModule), a2.ahead, (a2.frames.set (a9).toNat a8), (⟨a2.out.done, a2.out.trap, a2.out.value, a2.out.out, a2.out.steps, a2.out.memory⟩ : POutcome)⟩ : PRunner)) (a12 := 2) (h4.mono subH) (h6.mono subH) (h4046.ro.mono (subB 0 rfl)) (h20.ro.mono (subB 1 rfl)) hy_48 hw) fun v A' hR_49 => ?_
          obtain ⟨rfl, rfl⟩ := hR_49
          refine TL.norm (L' := [bx b1 141 (([v3, v5, v7, .bool x4047.1, .int .i64 x4047.2, .int .i64 a2.out.value, v18, .int .i64 a2.out.steps] : List Value) ++ (arrC a2.out.memory ++ ([] : List Value))), F4045, F19, bx b25 87 [.int .i64 a22.op, .int .i64 a22.dst, v23, .int .i64 a22.imm, .int .i64 a22.fn], F33]) rfl ?_
          refine TL.nil ?_
          refine TC.go hK_47 ?_
          refine TC.ret ?_
          obtain rfl := Option.some.inj hp
          exact fun w hw => retOk ⟨v7, F4045, v18, F19, rfl, rfl, h4046, h20⟩ (hw.pick [0, 0, 0])
        · rw [if_neg hc_45] at hp
          refine TC.condF (bbF hc_45) ?_
          refine TC.skip ?_
          refine TC.go hK_39 ?_
          refine TC.held ([bx b1 141 (([v3, v5, v7, .bool a2.out.done, .int .i64 a2.out.trap, .int .i64 a2.out.value, v18, .int .i64 a2.out.steps] : List Value) ++ (arrC a2.out.memory ++ ([] : List Value))), F19, F11, bx b25 87 [.int .i64 a22.op, .int .i64 a22.dst, v23, .int .i64 a22.imm, .int .i64 a22.fn], F33].flatten ++ H) mix (srcG 0 rfl (srcG 1 rfl (srcG 3 rfl (srcG 4 rfl (srcG 5 rfl srcG0))))) ?_
          refine HL.v 0 rfl trivial (by kernel_rfl) (by kernel_rfl) (by kernel_rfl) (ltb rfl) (rv_mv (v := .pointer (some ⟨b10, (a9).toNat * 5, none⟩)) h_24) ?_
          refine HL.v 1 rfl trivial (by kernel_rfl) (by kernel_rfl) (by kernel_rfl) (ltb rfl) (rv_nilCheck (a := ⟨b10, (a9).toNat * 5, none⟩) rfl) ?_
          refine HL.v 2 rfl trivial (by kernel_rfl) (by kernel_rfl) (by kernel_rfl) (ltb rfl) (rv_fa (b := b10) (o := (a9).toNat * 5) fa_153_1 rfl) ?_
          refine HL.v 3 rfl trivial (by kernel_rfl) (by kernel_rfl) (by kernel_rfl) (ltb rfl) (rv_ld (v := v14) (o := (a9).toNat * 5 + 1) (o' := (a9).toNat * 5) (j := 1) sc_100 rfl (srcInG 2 rfl) (Hole.cells h12) rfl rfl) ?_
          refine HL.v 4 rfl trivial (by kernel_rfl) (by kernel_rfl) (by kernel_rfl) (ltb rfl) (rv_fa (b := b25) (o := 0) fa_87_1 h_25) ?_
          refine HL.v 5 rfl trivial (by kernel_rfl) (by kernel_rfl) (by kernel_rfl) (ltb rfl) (rv_ld (v := .int .i64 a22.dst) (o := 1) (o' := 0) (j := 1) sc_3 rfl (srcInG 3 rfl) (bx_cells b25 87 _) rfl rfl) ?_
          refine HL.v 6 rfl trivial (by kernel_rfl) (by kernel_rfl) (by kernel_rfl) (ltb rfl) (rv_mv (v := .pointer (some ⟨b1, 0, none⟩)) h_23) ?_
          refine HL.v 7 rfl trivial (by kernel_rfl) (by kernel_rfl) (by kernel_rfl) (ltb rfl) (rv_mv (v := v32) h_26) ?_
          obtain ⟨x7249, hx_50, hp⟩ := bind_some' hp
          refine HL.w3 8 rfl trivial (by kernel_rfl) (by kernel_rfl) (by kernel_rfl) (ltb rfl) (rv_ix 100 (.tmp 77) (.const (.int .i64 0)) (v := v32) (i := 0) Try.underlying100 inf_2 rfl rfl rfl (h34).ro hx_50) fun b7250 o7251 c7252 h7253 h7254 => ?_
          obtain rfl := h7253
          refine HL.v 9 rfl trivial (by kernel_rfl) (by kernel_rfl) (by kernel_rfl) (ltb rfl) (rv_ld (v := .int .i64 x7249) (o := o7251) (o' := o7251) (j := 0) sc_2 rfl (srcInG 4 rfl) h7254 rfl rfl) ?_
          refine HL.v 10 rfl trivial (by kernel_rfl) (by kernel_rfl) (by kernel_rfl) (ltb rfl) (rv_nilCheck (a := ⟨b1, 0, none⟩) rfl) ?_
          refine HL.v 11 rfl trivial (by kernel_rfl) (by kernel_rfl) (by kernel_rfl) (ltb rfl) (rv_fa (b := b1) (o := 0) fa_141_3 rfl) ?_
          refine HL.v 12 rfl trivial (by kernel_rfl) (by kernel_rfl) (by kernel_rfl) (ltb rfl) (rv_fa (b := b1) (o := 3) fa_104_5 rfl) ?_
          obtain ⟨x9249, hx_51, hp⟩ := bind_some' hp
          refine HL.v 13 rfl trivial (by kernel_rfl) (by kernel_rfl) (by kernel_rfl) (ltb rfl) (rv_ixA (b := b1) (o := 8) (i := x7249) al_102 inf_2 rfl rfl (A64.get_some hx_51).1 (A64.get_some hx_51).2.1) ?_
          refine HL.v 14 rfl trivial (by kernel_rfl) (by kernel_rfl) (by kernel_rfl) (ltb rfl) (rv_ld (v := .int .i64 x9249) (o := 8 + (x7249).toNat) (o' := 0) (j := 8 + (x7249).toNat) sc_2 rfl (srcInG 0 rfl) (bx_cells b1 141 _) (Nat.zero_add _) (arr_at (pre := [v3, v5, v7, .bool a2.out.done, .int .i64 a2.out.trap, .int .i64 a2.out.value, v18, .int .i64 a2.out.steps]) (post := []) (a := a2.out.memory) (cs := (([v3, v5, v7, .bool a2.out.done, .int .i64 a2.out.trap, .int .i64 a2.out.value, v18, .int .i64 a2.out.steps] : List Value) ++ (arrC a2.out.memory ++ ([] : List Value)))) rfl rfl hx_51)) ?_
          obtain ⟨x10049, hx_52, hp⟩ := bind_some' hp
          refine HL.w2 15 rfl trivial (by kernel_rfl) (by kernel_rfl) (by kernel_rfl) (ltb rfl) (rv_ixO 100 (.tmp 73) (.tmp 75) (v := v14) (i := a22.dst) Try.underlying100 inf_2 rfl rfl rfl h16 (idx_some hx_52).1 (idx_some hx_52).2.1) fun b10050 o10051 h10052 => ?_
          refine HL.one 16 rfl (by kernel_rfl) fun K_53 hK_54 => ?_
          refine TL.pk' [2, 0, 0, 0, 0, 0] (L' := [F15, bx b1 141 (([v3, v5, v7, .bool a2.out.done, .int .i64 a2.out.trap, .int .i64 a2.out.value, v18, .int .i64 a2.out.steps] : List Value) ++ (arrC a2.out.memory ++ ([] : List Value))), F19, F11, bx b25 87 [.int .i64 a22.op, .int .i64 a22.dst, v23, .int .i64 a22.imm, .int .i64 a22.fn], F33]) rfl ?_
          refine TL.stE0 (ds := [.int .i64 x9249]) (u := .int .i64 x9249) (a := x9249) h16 h10052 ms_2 rfl rfl rfl ⟨rfl, rfl⟩ fun F10449 h10450 => ?_
          refine TL.nil (hK_54 _ _ (srcG 1 rfl (srcG 2 rfl (srcG 3 rfl (srcG 4 rfl (srcG 5 rfl srcG0))))) ?_)
          refine HL.done (by kernel_rfl) ?_
          refine W.pk' [3, 0, 0, 0, 0, 0] (L' := [F11, F10449, bx b1 141 (([v3, v5, v7, .bool a2.out.done, .int .i64 a2.out.trap, .int .i64 a2.out.value, v18, .int .i64 a2.out.steps] : List Value) ++ (arrC a2.out.memory ++ ([] : List Value))), F19, bx b25 87 [.int .i64 a22.op, .int .i64 a22.dst, v23, .int .i64 a22.imm, .int .i64 a22.fn], F33]) rfl ?_
          refine W.shut (a := (⟨a8.f, (a8.regs.set (a22.dst).toNat x9249), a8.block, a8.at_, a8.dst⟩ : PFrame)) h12 ⟨_, _, rfl, rfl, h10450⟩ fun F10849 h10850 => ?_
          obtain rfl := Option.some.inj hp
          exact fun w hw => retOk ⟨v7, F10849, v18, F19, rfl, rfl, h10850, h20⟩ (hw.pick [1, 0, 0])
      · rw [if_neg hc_37] at hp
        refine TC.condF (bF hc_37) ?_
        refine TC.seq fun K_55 hK_56 => ?_
        refine TC.region ?_
        refine TL.v (ltb rfl) (rv_eql (k := .i64) (m := a22.op) (n := 16) rfl rfl) ?_
        refine TL.v (ltb rfl) (rv_as (v := .bool (decide (a22.op = 16))) rfl) ?_
        refine TL.nil ?_
        refine TC.go hK_56 ?_
        by_cases hc_57 : a22.op = 16
        · rw [if_pos hc_57] at hp
          refine TC.condT (bT hc_57) ?_
          refine TC.seq fun K_58 hK_59 => ?_
          refine TC.seq fun K_60 hK_61 => ?_
          refine TC.region ?_
          refine TL.v (ltb rfl) (rv_mv (v := v32) h_26) ?_
          obtain ⟨x10851, hx_62, hp⟩ := bind_some' hp
          refine TL.v3 (ltb rfl) (rv_ix 100 (.tmp 88) (.const (.int .i64 0)) (v := v32) (i := 0) Try.underlying100 inf_2 rfl rfl rfl (h34).ro hx_62) fun b10852 o10853 c10854 h10855 h10856 => ?_
          obtain rfl := h10855
          refine TL.v (ltb rfl) (rv_ld (v := .int .i64 x10851) (o := o10853) (o' := o10853) (j := 0) sc_2 rfl (Src.at_ 5 rfl) h10856 rfl rfl) ?_
          obtain ⟨x10857, hy_63, hp⟩ := bind_some' hp
          refine TL.callC (vs := [.int .i64 x10851]) (R := run_word.R x10857) [] [bx b1 141 (([v3, v5, v7, .bool a2.out.done, .int .i64 a2.out.trap, .int .i64 a2.out.value, v18, .int .i64 a2.out.steps] : List Value) ++ (arrC a2.out.memory ++ ([] : List Value))), F19, F15, F11, bx b25 87 [.int .i64 a22.op, .int .i64 a22.dst, v23, .int .i64 a22.imm, .int .i64 a22.fn], F33] rfl cb_98 (ltb rfl) (mc rfl m0) (fun w hw => run_word_ok (a1 := x10851) hy_63 hw) fun v A' hR_64 => ?_
          obtain ⟨rfl, rfl⟩ := hR_64
          refine TL.norm (L' := [bx b1 141 (([v3, v5, v7, .bool a2.out.done, .int .i64 a2.out.trap, .int .i64 a2.out.value, v18, .int .i64 a2.out.steps] : List Value) ++ (arrC a2.out.memory ++ ([] : List Value))), F19, F15, F11, bx b25 87 [.int .i64 a22.op, .int .i64 a22.dst, v23, .int .i64 a22.imm, .int .i64 a22.fn], F33]) rfl ?_
          refine TL.v (ltb rfl) (rv_not (b := x10857) rfl) ?_
          refine TL.nil ?_
          refine TC.go hK_61 ?_
          by_cases hc_65 : (!x10857) = true
          · rw [if_pos hc_65] at hp
            refine TC.condT (bbT hc_65) ?_
            refine TC.seq fun K_66 hK_67 => ?_
            refine TC.region ?_
            refine TL.v (ltb rfl) (rv_mv (v := .pointer (some ⟨b1, 0, none⟩)) h_23) ?_
            refine TL.pk' [3, 2, 0, 0, 0, 0] (L' := [F11, F15, bx b1 141 (([v3, v5, v7, .bool a2.out.done, .int .i64 a2.out.trap, .int .i64 a2.out.value, v18, .int .i64 a2.out.steps] : List Value) ++ (arrC a2.out.memory ++ ([] : List Value))), F19, bx b25 87 [.int .i64 a22.op, .int .i64 a22.dst, v23, .int .i64 a22.imm, .int .i64 a22.fn], F33]) rfl ?_
            refine TL.shut (a := a8) h12 ⟨_, _, rfl, rfl, h16⟩ fun F10858 h10859 => ?_
            refine TL.pk' [1, 0, 0, 0, 0] (L' := [bx b1 141 (([v3, v5, v7, .bool a2.out.done, .int .i64 a2.out.trap, .int .i64 a2.out.value, v18, .int .i64 a2.out.steps] : List Value) ++ (arrC a2.out.memory ++ ([] : List Value))), F10858, F19, bx b25 87 [.int .i64 a22.op, .int .i64 a22.dst, v23, .int .i64 a22.imm, .int .i64 a22.fn], F33]) rfl ?_
            obtain ⟨x10860, hy_68, hp⟩ := bind_some' hp
            refine TL.callC (vs := [.pointer (some ⟨b1, 0, none⟩), .int .i64 2]) (R := run_runner_trap.R b1 (⟨(⟨a2.m.funcs⟩ : PModule), a2.ahead, (a2.frames.set (a9).toNat a8), (⟨a2.out.done, a2.out.trap, a2.out.value, a2.out.out, a2.out.steps, a2.out.memory⟩ : POutcome)⟩ : PRunner) v3 v5 v7 v18 x10860) [bx b1 141 (([v3, v5, v7, .bool a2.out.done, .int .i64 a2.out.trap, .int .i64 a2.out.value, v18, .int .i64 a2.out.steps] : List Value) ++ (arrC a2.out.memory ++ ([] : List Value)))] [F10858, F19, bx b25 87 [.int .i64 a22.op, .int .i64 a22.dst, v23, .int .i64 a22.imm, .int .i64 a22.fn], F33] rfl cb_99 (ltb rfl) (mc rfl (mc rfl m0)) (fun w hw => run_runner_trap_ok (a2 := (⟨(⟨a2.m.funcs⟩ : PModule), a2.ahead, (a2.frames.set (a9).toNat a8), (⟨a2.out.done, a2.out.trap, a2.out.value, a2.out.out, a2.out.steps, a2.out.memory⟩ : POutcome)⟩ : PRunner)) (a12 := 2) (h4.mono subH) (h6.mono subH) (h10859.ro.mono (subB 0 rfl)) (h20.ro.mono (subB 1 rfl)) hy_68 hw) fun v A' hR_69 => ?_
            obtain ⟨rfl, rfl⟩ := hR_69
            refine TL.norm (L' := [bx b1 141 (([v3, v5, v7, .bool x10860.1, .int .i64 x10860.2, .int .i64 a2.out.value, v18, .int .i64 a2.out.steps] : List Value) ++ (arrC a2.out.memory ++ ([] : List Value))), F10858, F19, bx b25 87 [.int .i64 a22.op, .int .i64 a22.dst, v23, .int .i64 a22.imm, .int .i64 a22.fn], F33]) rfl ?_
            refine TL.nil ?_
            refine TC.go hK_67 ?_
            refine TC.ret ?_
            obtain rfl := Option.some.inj hp
            exact fun w hw => retOk ⟨v7, F10858, v18, F19, rfl, rfl, h10859, h20⟩ (hw.pick [0, 0, 0])
          · rw [if_neg hc_65] at hp
            refine TC.condF (bbF hc_65) ?_
            refine TC.skip ?_
            refine TC.go hK_59 ?_
            refine TC.pk' [3, 2, 0, 0, 0, 0] (L' := [F11, F15, bx b1 141 (([v3, v5, v7, .bool a2.out.done, .int .i64 a2.out.trap, .int .i64 a2.out.value, v18, .int .i64 a2.out.steps] : List Value) ++ (arrC a2.out.memory ++ ([] : List Value))), F19, bx b25 87 [.int .i64 a22.op, .int .i64 a22.dst, v23, .int .i64 a22.imm, .int .i64 a22.fn], F33]) rfl ?_
            refine TC.shut (a := a8) h12 ⟨_, _, rfl, rfl, h16⟩ fun F10861 h10862 => ?_
            refine TC.held ([F10861, F19, bx b25 87 [.int .i64 a22.op, .int .i64 a22.dst, v23, .int .i64 a22.imm, .int .i64 a22.fn], F33].flatten ++ H) mix (srcG 0 rfl (srcG 2 rfl (srcG 3 rfl (srcG 4 rfl srcG0)))) ?_
            refine HL.v 0 rfl trivial (by kernel_rfl) (by kernel_rfl) (by kernel_rfl) (ltb rfl) (rv_mv (v := .pointer (some ⟨b1, 0, none⟩)) h_23) ?_
            refine HL.v 1 rfl trivial (by kernel_rfl) (by kernel_rfl) (by kernel_rfl) (ltb rfl) (rv_mv (v := v32) h_26) ?_
            obtain ⟨x11664, hx_70, hp⟩ := bind_some' hp
            refine HL.w3 2 rfl trivial (by kernel_rfl) (by kernel_rfl) (by kernel_rfl) (ltb rfl) (rv_ix 100 (.tmp 96) (.const (.int .i64 0)) (v := v32) (i := 0) Try.underlying100 inf_2 rfl rfl rfl (h34).ro hx_70) fun b11665 o11666 c11667 h11668 h11669 => ?_
            obtain rfl := h11668
            refine HL.v 3 rfl trivial (by kernel_rfl) (by kernel_rfl) (by kernel_rfl) (ltb rfl) (rv_ld (v := .int .i64 x11664) (o := o11666) (o' := o11666) (j := 0) sc_2 rfl (srcInG 3 rfl) h11669 rfl rfl) ?_
            refine HL.v 4 rfl trivial (by kernel_rfl) (by kernel_rfl) (by kernel_rfl) (ltb rfl) (rv_mv (v := v32) h_26) ?_
            obtain ⟨x12864, hx_71, hp⟩ := bind_some' hp
            refine HL.w3 5 rfl trivial (by kernel_rfl) (by kernel_rfl) (by kernel_rfl) (ltb rfl) (rv_ix 100 (.tmp 99) (.const (.int .i64 1)) (v := v32) (i := 1) Try.underlying100 inf_2 rfl rfl rfl (h34).ro hx_71) fun b12865 o12866 c12867 h12868 h12869 => ?_
            obtain rfl := h12868
            refine HL.v 6 rfl trivial (by kernel_rfl) (by kernel_rfl) (by kernel_rfl) (ltb rfl) (rv_ld (v := .int .i64 x12864) (o := o12866) (o' := o12866) (j := 0) sc_2 rfl (srcInG 3 rfl) h12869 rfl rfl) ?_
            refine HL.v 7 rfl trivial (by kernel_rfl) (by kernel_rfl) (by kernel_rfl) (ltb rfl) (rv_nilCheck (a := ⟨b1, 0, none⟩) rfl) ?_
            refine HL.v 8 rfl trivial (by kernel_rfl) (by kernel_rfl) (by kernel_rfl) (ltb rfl) (rv_fa (b := b1) (o := 0) fa_141_3 rfl) ?_
            refine HL.v 9 rfl trivial (by kernel_rfl) (by kernel_rfl) (by kernel_rfl) (ltb rfl) (rv_fa (b := b1) (o := 3) fa_104_5 rfl) ?_
            obtain ⟨x14864, hx_72, hp⟩ := bind_some' hp
            refine HL.v 10 rfl trivial (by kernel_rfl) (by kernel_rfl) (by kernel_rfl) (ltb rfl) (rv_ixA (b := b1) (o := 8) (i := x11664) al_102 inf_2 rfl rfl (A64.get_some hx_72).1 (A64.get_some hx_72).2.1) ?_
            refine HL.one 11 rfl (by kernel_rfl) fun K_73 hK_74 => ?_
            refine TL.stB (ds := [.int .i64 x12864]) (o := 8 + (x11664).toNat) (cs := (([v3, v5, v7, .bool a2.out.done, .int .i64 a2.out.trap, .int .i64 a2.out.value, v18, .int .i64 a2.out.steps] : List Value) ++ (arrC a2.out.memory ++ ([] : List Value)))) (b := b1) (u := .int .i64 x12864) 1 rfl ms_2 rfl rfl rfl (oc rfl oc0) (arr_fit (pre := [v3, v5, v7, .bool a2.out.done, .int .i64 a2.out.trap, .int .i64 a2.out.value, v18, .int .i64 a2.out.steps]) (post := []) (a := a2.out.memory) rfl rfl hx_72) ?_
            refine TL.respell (b := b1) (T := 141) (cs := over (([v3, v5, v7, .bool a2.out.done, .int .i64 a2.out.trap, .int .i64 a2.out.value, v18, .int .i64 a2.out.steps] : List Value) ++ (arrC a2.out.memory ++ ([] : List Value))) (8 + (x11664).toNat) [.int .i64 x12864]) (ds := (([v3, v5, v7, .bool a2.out.done, .int .i64 a2.out.trap, .int .i64 a2.out.value, v18, .int .i64 a2.out.steps] : List Value) ++ (arrC (a2.out.memory.put x11664 x12864) ++ ([] : List Value)))) 1 rfl (arr_over (cs := (([v3, v5, v7, .bool a2.out.done, .int .i64 a2.out.trap, .int .i64 a2.out.value, v18, .int .i64 a2.out.steps] : List Value) ++ (arrC a2.out.memory ++ ([] : List Value)))) (pre := [v3, v5, v7, .bool a2.out.done, .int .i64 a2.out.trap, .int .i64 a2.out.value, v18, .int .i64 a2.out.steps]) (post := []) (a := a2.out.memory) rfl rfl hx_72 rfl) ?_
            refine TL.norm (L' := [F10861, bx b1 141 (([v3, v5, v7, .bool a2.out.done, .int .i64 a2.out.trap, .int .i64 a2.out.value, v18, .int .i64 a2.out.steps] : List Value) ++ (arrC (a2.out.memory.put x11664 x12864) ++ ([] : List Value))), F19, bx b25 87 [.int .i64 a22.op, .int .i64 a22.dst, v23, .int .i64 a22.imm, .int .i64 a22.fn], F33]) rfl ?_
            refine TL.nil (hK_74 _ _ (srcG 0 rfl (srcG 2 rfl (srcG 3 rfl (srcG 4 rfl srcG0)))) ?_)
            refine HL.done (by kernel_rfl) ?_
            obtain rfl := Option.some.inj hp
            exact fun w hw => retOk ⟨v7, F10861, v18, F19, rfl, rfl, h10862, h20⟩ (hw.pick [1, 0, 0])
        · rw [if_neg hc_57] at hp
          refine TC.condF (bF hc_57) ?_
          refine TC.seq fun K_75 hK_76 => ?_
          refine TC.region ?_
          refine TL.v (ltb rfl) (rv_eql (k := .i64) (m := a22.op) (n := 18) rfl rfl) ?_
          refine TL.v (ltb rfl) (rv_as (v := .bool (decide (a22.op = 18))) rfl) ?_
          refine TL.nil ?_
          refine TC.go hK_76 ?_
          by_cases hc_77 : a22.op = 18
          · rw [if_pos hc_77] at hp
            refine TC.condT (bT hc_77) ?_
            refine TC.pk' [3, 2, 0, 0, 0, 0] (L' := [F11, F15, bx b1 141 (([v3, v5, v7, .bool a2.out.done, .int .i64 a2.out.trap, .int .i64 a2.out.value, v18, .int .i64 a2.out.steps] : List Value) ++ (arrC a2.out.memory ++ ([] : List Value))), F19, bx b25 87 [.int .i64 a22.op, .int .i64 a22.dst, v23, .int .i64 a22.imm, .int .i64 a22.fn], F33]) rfl ?_
            refine TC.shut (a := a8) h12 ⟨_, _, rfl, rfl, h16⟩ fun F15664 h15665 => ?_
            refine TC.held ([F15664, bx b25 87 [.int .i64 a22.op, .int .i64 a22.dst, v23, .int .i64 a22.imm, .int .i64 a22.fn], F33].flatten ++ H) mix (srcG 0 rfl (srcG 3 rfl (srcG 4 rfl srcG0))) ?_
            refine HL.v 0 rfl trivial (by kernel_rfl) (by kernel_rfl) (by kernel_rfl) (ltb rfl) (rv_mv (v := .pointer (some ⟨b1, 0, none⟩)) h_23) ?_
            refine HL.v 1 rfl trivial (by kernel_rfl) (by kernel_rfl) (by kernel_rfl) (ltb rfl) (rv_mv (v := .pointer (some ⟨b1, 0, none⟩)) h_23) ?_
            refine HL.v 2 rfl trivial (by kernel_rfl) (by kernel_rfl) (by kernel_rfl) (ltb rfl) (rv_nilCheck (a := ⟨b1, 0, none⟩) rfl) ?_
            refine HL.v 3 rfl trivial (by kernel_rfl) (by kernel_rfl) (by kernel_rfl) (ltb rfl) (rv_fa (b := b1) (o := 0) fa_141_3 rfl) ?_
            refine HL.v 4 rfl trivial (by kernel_rfl) (by kernel_rfl) (by kernel_rfl) (ltb rfl) (rv_fa (b := b1) (o := 3) fa_104_3 rfl) ?_
            refine HL.v 6 rfl trivial (by kernel_rfl) (by kernel_rfl) (by kernel_rfl) (ltb rfl) (rv_mv (v := v32) h_26) ?_
            obtain ⟨x18467, hx_78, hp⟩ := bind_some' hp
            refine HL.w3 7 rfl trivial (by kernel_rfl) (by kernel_rfl) (by kernel_rfl) (ltb rfl) (rv_ix 100 (.tmp 114) (.const (.int .i64 0)) (v := v32) (i := 0) Try.underlying100 inf_2 rfl rfl rfl (h34).ro hx_78) fun b18468 o18469 c18470 h18471 h18472 => ?_
            obtain rfl := h18471
            refine HL.v 8 rfl trivial (by kernel_rfl) (by kernel_rfl) (by kernel_rfl) (ltb rfl) (rv_ld (v := .int .i64 x18467) (o := o18469) (o' := o18469) (j := 0) sc_2 rfl (srcInG 2 rfl) h18472 rfl rfl) ?_
            refine HL.all [5, 9] (by kernel_rfl) (by simp) (HL.al ⟨_, rfl, fun K_79 hK_80 => ?_⟩ (HL.al ⟨_, rfl, fun K_88 hK_89 => ?_⟩ HL.al0))
            · refine TL.v (ltb rfl) (rv_ld (v := v18) (o := 6) (o' := 0) (j := 6) sc_100 rfl (Src.at_ 1 rfl) (bx_cells b1 141 _) rfl rfl) ?_
              refine TL.nil (hK_80 _ _ (srcG 0 rfl (srcG 3 rfl (srcG 4 rfl srcG0))) ?_)
              refine HL.one 9 rfl (by kernel_rfl) fun K_81 hK_82 => ?_
              refine TL.bv (vs := [(0, .int .i64 x18467)]) (cs := [.int .i64 x18467]) (pc rfl p0) Try.underlying100 inf_2 (ltb rfl) (by decide) (by decide) (by kernel_rfl) fun b19267 => ?_
              refine TL.nil (hK_82 _ _ (srcG 1 rfl (srcG 4 rfl (srcG 5 rfl srcG0))) ?_)
              refine HL.one 10 rfl (by kernel_rfl) fun K_83 hK_84 => ?_
              refine TL.pk' [3, 0, 0, 0, 0, 0] (L' := [F19, bx b19267 2 [.int .i64 x18467], F15664, bx b1 141 (([v3, v5, v7, .bool a2.out.done, .int .i64 a2.out.trap, .int .i64 a2.out.value, v18, .int .i64 a2.out.steps] : List Value) ++ (arrC a2.out.memory ++ ([] : List Value))), bx b25 87 [.int .i64 a22.op, .int .i64 a22.dst, v23, .int .i64 a22.imm, .int .i64 a22.fn], F33]) rfl ?_
              refine TL.perm (L' := [F19, bx b19267 2 [.int .i64 x18467], [], F15664, bx b1 141 (([v3, v5, v7, .bool a2.out.done, .int .i64 a2.out.trap, .int .i64 a2.out.value, v18, .int .i64 a2.out.steps] : List Value) ++ (arrC a2.out.memory ++ ([] : List Value))), bx b25 87 [.int .i64 a22.op, .int .i64 a22.dst, v23, .int .i64 a22.imm, .int .i64 a22.fn], F33]) (by simp) ?_
              obtain ⟨x19667, hz_85, hp⟩ := bind_some' hp
              refine TL.app Try.underlying100 inf_2 (ltb rfl) rfl (ltb rfl) rfl (leb rfl) rfl rfl h20 (RepL.to (RepL.cons (k := (kInt .i64)) (x := x18467) ⟨rfl, rfl⟩ RepL.nil) rfl) rfl rfl hz_85 fun v19668 F19669 h19670 => ?_
              refine TL.nil (hK_84 _ _ (srcG 1 rfl (srcG 3 rfl (srcG 4 rfl srcG0))) ?_)
              refine HL.v 11 rfl trivial (by kernel_rfl) (by kernel_rfl) (by kernel_rfl) (ltb rfl) (rv_nilCheck (a := ⟨b1, 0, none⟩) rfl) ?_
              refine HL.v 12 rfl trivial (by kernel_rfl) (by kernel_rfl) (by kernel_rfl) (ltb rfl) (rv_fa (b := b1) (o := 0) fa_141_3 rfl) ?_
              refine HL.v 13 rfl trivial (by kernel_rfl) (by kernel_rfl) (by kernel_rfl) (ltb rfl) (rv_fa (b := b1) (o := 3) fa_104_3 rfl) ?_
              refine HL.one 14 rfl (by kernel_rfl) fun K_86 hK_87 => ?_
              refine TL.stB (ds := [v19668]) (o := 6) (cs := (([v3, v5, v7, .bool a2.out.done, .int .i64 a2.out.trap, .int .i64 a2.out.value, v18, .int .i64 a2.out.steps] : List Value) ++ (arrC a2.out.memory ++ ([] : List Value)))) (b := b1) (u := v19668) 2 rfl ms_100 rfl rfl (SlO.cells h19670) (oc (h19670).one oc0) (leb rfl) ?_
              refine TL.norm (L' := [F19669, F15664, bx b1 141 (([v3, v5, v7, .bool a2.out.done, .int .i64 a2.out.trap, .int .i64 a2.out.value, v19668, .int .i64 a2.out.steps] : List Value) ++ (arrC a2.out.memory ++ ([] : List Value))), bx b25 87 [.int .i64 a22.op, .int .i64 a22.dst, v23, .int .i64 a22.imm, .int .i64 a22.fn], F33]) rfl ?_
              refine TL.nil (hK_87 _ _ (srcG 1 rfl (srcG 3 rfl (srcG 4 rfl srcG0))) ?_)
              refine HL.done (by kernel_rfl) ?_
              obtain rfl := Option.some.inj hp
              exact fun w hw => retOk ⟨v7, F15664, v19668, F19669, rfl, rfl, h15665, h19670⟩ (hw.pick [2, 1, 0])
            · refine TL.bv (vs := [(0, .int .i64 x18467)]) (cs := [.int .i64 x18467]) (pc rfl p0) Try.underlying100 inf_2 (ltb rfl) (by decide) (by decide) (by kernel_rfl) fun b19267 => ?_
              refine TL.nil (hK_89 _ _ (srcG 1 rfl (srcG 4 rfl (srcG 5 rfl srcG0))) ?_)
              refine HL.one 5 rfl (by kernel_rfl) fun K_90 hK_91 => ?_
              refine TL.v (ltb rfl) (rv_ld (v := v18) (o := 6) (o' := 0) (j := 6) sc_100 rfl (Src.at_ 2 rfl) (bx_cells b1 141 _) rfl rfl) ?_
              refine TL.nil (hK_91 _ _ (srcG 1 rfl (srcG 4 rfl (srcG 5 rfl srcG0))) ?_)
              refine HL.one 10 rfl (by kernel_rfl) fun K_92 hK_93 => ?_
              refine TL.pk' [3, 0, 0, 0, 0, 0] (L' := [F19, bx b19267 2 [.int .i64 x18467], F15664, bx b1 141 (([v3, v5, v7, .bool a2.out.done, .int .i64 a2.out.trap, .int .i64 a2.out.value, v18, .int .i64 a2.out.steps] : List Value) ++ (arrC a2.out.memory ++ ([] : List Value))), bx b25 87 [.int .i64 a22.op, .int .i64 a22.dst, v23, .int .i64 a22.imm, .int .i64 a22.fn], F33]) rfl ?_
              refine TL.perm (L' := [F19, bx b19267 2 [.int .i64 x18467], [], F15664, bx b1 141 (([v3, v5, v7, .bool a2.out.done, .int .i64 a2.out.trap, .int .i64 a2.out.value, v18, .int .i64 a2.out.steps] : List Value) ++ (arrC a2.out.memory ++ ([] : List Value))), bx b25 87 [.int .i64 a22.op, .int .i64 a22.dst, v23, .int .i64 a22.imm, .int .i64 a22.fn], F33]) (by simp) ?_
              obtain ⟨x19667, hz_94, hp⟩ := bind_some' hp
              refine TL.app Try.underlying100 inf_2 (ltb rfl) rfl (ltb rfl) rfl (leb rfl) rfl rfl h20 (RepL.to (RepL.cons (k := (kInt .i64)) (x := x18467) ⟨rfl, rfl⟩ RepL.nil) rfl) rfl rfl hz_94 fun v19668 F19669 h19670 => ?_
              refine TL.nil (hK_93 _ _ (srcG 1 rfl (srcG 3 rfl (srcG 4 rfl srcG0))) ?_)
              refine HL.v 11 rfl trivial (by kernel_rfl) (by kernel_rfl) (by kernel_rfl) (ltb rfl) (rv_nilCheck (a := ⟨b1, 0, none⟩) rfl) ?_
              refine HL.v 12 rfl trivial (by kernel_rfl) (by kernel_rfl) (by kernel_rfl) (ltb rfl) (rv_fa (b := b1) (o := 0) fa_141_3 rfl) ?_
              refine HL.v 13 rfl trivial (by kernel_rfl) (by kernel_rfl) (by kernel_rfl) (ltb rfl) (rv_fa (b := b1) (o := 3) fa_104_3 rfl) ?_
              refine HL.one 14 rfl (by kernel_rfl) fun K_95 hK_96 => ?_
              refine TL.stB (ds := [v19668]) (o := 6) (cs := (([v3, v5, v7, .bool a2.out.done, .int .i64 a2.out.trap, .int .i64 a2.out.value, v18, .int .i64 a2.out.steps] : List Value) ++ (arrC a2.out.memory ++ ([] : List Value)))) (b := b1) (u := v19668) 2 rfl ms_100 rfl rfl (SlO.cells h19670) (oc (h19670).one oc0) (leb rfl) ?_
              refine TL.norm (L' := [F19669, F15664, bx b1 141 (([v3, v5, v7, .bool a2.out.done, .int .i64 a2.out.trap, .int .i64 a2.out.value, v19668, .int .i64 a2.out.steps] : List Value) ++ (arrC a2.out.memory ++ ([] : List Value))), bx b25 87 [.int .i64 a22.op, .int .i64 a22.dst, v23, .int .i64 a22.imm, .int .i64 a22.fn], F33]) rfl ?_
              refine TL.nil (hK_96 _ _ (srcG 1 rfl (srcG 3 rfl (srcG 4 rfl srcG0))) ?_)
              refine HL.done (by kernel_rfl) ?_
              obtain rfl := Option.some.inj hp
              exact fun w hw => retOk ⟨v7, F15664, v19668, F19669, rfl, rfl, h15665, h19670⟩ (hw.pick [2, 1, 0])
          · rw [if_neg hc_77] at hp
            refine TC.condF (bF hc_77) ?_
            refine TC.seq fun K_97 hK_98 => ?_
            refine TC.region ?_
            refine TL.v (ltb rfl) (rv_eql (k := .i64) (m := a22.op) (n := 17) rfl rfl) ?_
            refine TL.v (ltb rfl) (rv_as (v := .bool (decide (a22.op = 17))) rfl) ?_
            refine TL.nil ?_
            refine TC.go hK_98 ?_
            by_cases hc_99 : a22.op = 17
            · rw [if_pos hc_99] at hp
              refine TC.condT (bT hc_99) ?_
              refine TC.region ?_
              refine TL.v (ltb rfl) (rv_mv (v := .pointer (some ⟨b1, 0, none⟩)) h_23) ?_
              refine TL.v (ltb rfl) (rv_fa (b := b25) (o := 0) fa_87_4 h_25) ?_
              refine TL.v (ltb rfl) (rv_ld (v := .int .i64 a22.fn) (o := 4) (o' := 0) (j := 4) sc_3 rfl (Src.at_ 4 rfl) (bx_cells b25 87 _) rfl rfl) ?_
              refine TL.v (ltb rfl) (rv_mv (v := v32) h_26) ?_
              refine TL.v (ltb rfl) (rv_fa (b := b25) (o := 0) fa_87_1 h_25) ?_
              refine TL.v (ltb rfl) (rv_ld (v := .int .i64 a22.dst) (o := 1) (o' := 0) (j := 1) sc_3 rfl (Src.at_ 4 rfl) (bx_cells b25 87 _) rfl rfl) ?_
              refine TL.pk' [3, 2, 0, 0, 0, 0] (L' := [F11, F15, bx b1 141 (([v3, v5, v7, .bool a2.out.done, .int .i64 a2.out.trap, .int .i64 a2.out.value, v18, .int .i64 a2.out.steps] : List Value) ++ (arrC a2.out.memory ++ ([] : List Value))), F19, bx b25 87 [.int .i64 a22.op, .int .i64 a22.dst, v23, .int .i64 a22.imm, .int .i64 a22.fn], F33]) rfl ?_
              refine TL.shut (a := a8) h12 ⟨_, _, rfl, rfl, h16⟩ fun F21667 h21668 => ?_
              refine TL.pk' [1, 0, 0, 0, 0] (L' := [bx b1 141 (([v3, v5, v7, .bool a2.out.done, .int .i64 a2.out.trap, .int .i64 a2.out.value, v18, .int .i64 a2.out.steps] : List Value) ++ (arrC a2.out.memory ++ ([] : List Value))), F21667, F19, bx b25 87 [.int .i64 a22.op, .int .i64 a22.dst, v23, .int .i64 a22.imm, .int .i64 a22.fn], F33]) rfl ?_
              obtain ⟨x21669, hy_100, hp⟩ := bind_some' hp
              refine TL.callC (vs := [.pointer (some ⟨b1, 0, none⟩), .int .i64 a22.fn, v32, .int .i64 a22.dst]) (R := run_runner_enter.R b1 (⟨(⟨a2.m.funcs⟩ : PModule), a2.ahead, (a2.frames.set (a9).toNat a8), (⟨a2.out.done, a2.out.trap, a2.out.value, a2.out.out, a2.out.steps, a2.out.memory⟩ : POutcome)⟩ : PRunner) v3 v5 v18 x21669) [bx b1 141 (([v3, v5, v7, .bool a2.out.done, .int .i64 a2.out.trap, .int .i64 a2.out.value, v18, .int .i64 a2.out.steps] : List Value) ++ (arrC a2.out.memory ++ ([] : List Value))), F21667] [F19, bx b25 87 [.int .i64 a22.op, .int .i64 a22.dst, v23, .int .i64 a22.imm, .int .i64 a22.fn], F33] rfl cb_82 (ltb rfl) (mc rfl (mc rfl (mc rfl (mc rfl m0)))) (fun w hw => run_runner_enter_ok (a2 := (⟨(⟨a2.m.funcs⟩ : PModule), a2.ahead, (a2.frames.set (a9).toNat a8), (⟨a2.out.done, a2.out.trap, a2.out.value, a2.out.out, a2.out.steps, a2.out.memory⟩ : POutcome)⟩ : PRunner)) (a13 := a22.fn) (a14 := x31) (a17 := a22.dst) (h4.mono subH) (h6.mono subH) h21668 (h20.ro.mono (subB 0 rfl)) (h34.ro.mono (subB 2 rfl)) hy_100 hw) fun v A' hR_101 => ?_
              obtain ⟨v21670, F21671, rfl, rfl, h21672⟩ := hR_101
              refine TL.norm (L' := [bx b1 141 (([v3, v5, v21670, .bool a2.out.done, .int .i64 a2.out.trap, .int .i64 a2.out.value, v18, .int .i64 a2.out.steps] : List Value) ++ (arrC a2.out.memory ++ ([] : List Value))), F21671, F19, bx b25 87 [.int .i64 a22.op, .int .i64 a22.dst, v23, .int .i64 a22.imm, .int .i64 a22.fn], F33]) rfl ?_
              refine TL.nil ?_
              obtain rfl := Option.some.inj hp
              exact fun w hw => retOk ⟨v21670, F21671, v18, F19, rfl, rfl, h21672, h20⟩ (hw.pick [0, 0, 0])
            · rw [if_neg hc_99] at hp
              refine TC.condF (bF hc_99) ?_
              refine TC.seq fun K_102 hK_103 => ?_
              refine TC.region ?_
              refine TL.v (ltb rfl) (rv_fa (b := b25) (o := 0) fa_87_0 h_25) ?_
              refine TL.v (ltb rfl) (rv_ld (v := .int .i64 a22.op) (o := 0) (o' := 0) (j := 0) sc_3 rfl (Src.at_ 4 rfl) (bx_cells b25 87 _) rfl rfl) ?_
              refine TL.v (ltb rfl) (rv_mv (v := v32) h_26) ?_
              obtain ⟨x21673, hy_104, hp⟩ := bind_some' hp
              refine TL.callC (vs := [.int .i64 a22.op, v32]) (R := arith_Eval.R x21673) [] [bx b1 141 (([v3, v5, v7, .bool a2.out.done, .int .i64 a2.out.trap, .int .i64 a2.out.value, v18, .int .i64 a2.out.steps] : List Value) ++ (arrC a2.out.memory ++ ([] : List Value))), F19, F15, F11, bx b25 87 [.int .i64 a22.op, .int .i64 a22.dst, v23, .int .i64 a22.imm, .int .i64 a22.fn], F33] rfl cb_100 (ltb rfl) (mc rfl (mc rfl m0)) (fun w hw => arith_Eval_ok (a1 := a22.op) (a2 := x31) (h34.ro.mono (subB 5 rfl)) hy_104 hw) fun v A' hR_105 => ?_
              obtain ⟨v21674, F21675, rfl, rfl, h21676⟩ := hR_105
              refine TL.norm (L' := [F21675, bx b1 141 (([v3, v5, v7, .bool a2.out.done, .int .i64 a2.out.trap, .int .i64 a2.out.value, v18, .int .i64 a2.out.steps] : List Value) ++ (arrC a2.out.memory ++ ([] : List Value))), F19, F15, F11, bx b25 87 [.int .i64 a22.op, .int .i64 a22.dst, v23, .int .i64 a22.imm, .int .i64 a22.fn], F33]) rfl ?_
              refine TL.v (ltb rfl) (rv_mv (v := .tuple #[.int .i64 x21673.1, v21674]) rfl) ?_
              refine TL.v (ltb rfl) (rv_extract (vs := #[.int .i64 x21673.1, v21674]) (v := .int .i64 x21673.1) rfl rfl) ?_
              refine TL.v (ltb rfl) (rv_extract (vs := #[.int .i64 x21673.1, v21674]) (v := v21674) rfl rfl) ?_
              refine TL.v (ltb rfl) (rv_as (v := .int .i64 x21673.1) rfl) ?_
              refine TL.v (ltb rfl) (rv_as (v := v21674) rfl) ?_
              refine TL.nil ?_
              refine TC.go hK_103 ?_
              refine TC.seq fun K_106 hK_107 => ?_
              refine TC.seq fun K_108 hK_109 => ?_
              refine TC.region ?_
              refine TL.v (ltb rfl) (rv_mv (v := v21674) rfl) ?_
              refine TL.v (ltb rfl) (rv_neqEN ifc_49 h21676 rfl) ?_
              refine TL.nil ?_
              refine TC.go hK_109 ?_
              by_cases hc_110 : ¬ x21673.2 = GErr.no
              · rw [if_pos hc_110] at hp
                refine TC.condT (bT hc_110) ?_
                refine TC.seq fun K_111 hK_112 => ?_
                refine TC.region ?_
                refine TL.v (ltb rfl) (rv_mv (v := .pointer (some ⟨b1, 0, none⟩)) h_23) ?_
                refine TL.pk' [4, 3, 0, 0, 0, 0, 0] (L' := [F11, F15, F21675, bx b1 141 (([v3, v5, v7, .bool a2.out.done, .int .i64 a2.out.trap, .int .i64 a2.out.value, v18, .int .i64 a2.out.steps] : List Value) ++ (arrC a2.out.memory ++ ([] : List Value))), F19, bx b25 87 [.int .i64 a22.op, .int .i64 a22.dst, v23, .int .i64 a22.imm, .int .i64 a22.fn], F33]) rfl ?_
                refine TL.shut (a := a8) h12 ⟨_, _, rfl, rfl, h16⟩ fun F21677 h21678 => ?_
                refine TL.pk' [2, 0, 0, 0, 0, 0] (L' := [bx b1 141 (([v3, v5, v7, .bool a2.out.done, .int .i64 a2.out.trap, .int .i64 a2.out.value, v18, .int .i64 a2.out.steps] : List Value) ++ (arrC a2.out.memory ++ ([] : List Value))), F21677, F21675, F19, bx b25 87 [.int .i64 a22.op, .int .i64 a22.dst, v23, .int .i64 a22.imm, .int .i64 a22.fn], F33]) rfl ?_
                obtain ⟨x21679, hy_113, hp⟩ := bind_some' hp
                refine TL.callC (vs := [.pointer (some ⟨b1, 0, none⟩), .int .i64 1]) (R := run_runner_trap.R b1 (⟨(⟨a2.m.funcs⟩ : PModule), a2.ahead, (a2.frames.set (a9).toNat a8), (⟨a2.out.done, a2.out.trap, a2.out.value, a2.out.out, a2.out.steps, a2.out.memory⟩ : POutcome)⟩ : PRunner) v3 v5 v7 v18 x21679) [bx b1 141 (([v3, v5, v7, .bool a2.out.done, .int .i64 a2.out.trap, .int .i64 a2.out.value, v18, .int .i64 a2.out.steps] : List Value) ++ (arrC a2.out.memory ++ ([] : List Value)))] [F21677, F21675, F19, bx b25 87 [.int .i64 a22.op, .int .i64 a22.dst, v23, .int .i64 a22.imm, .int .i64 a22.fn], F33] rfl cb_99 (ltb rfl) (mc rfl (mc rfl m0)) (fun w hw => run_runner_trap_ok (a2 := (⟨(⟨a2.m.funcs⟩ : PModule), a2.ahead, (a2.frames.set (a9).toNat a8), (⟨a2.out.done, a2.out.trap, a2.out.value, a2.out.out, a2.out.steps, a2.out.memory⟩ : POutcome)⟩ : PRunner)) (a12 := 1) (h4.mono subH) (h6.mono subH) (h21678.ro.mono (subB 0 rfl)) (h20.ro.mono (subB 2 rfl)) hy_113 hw) fun v A' hR_114 => ?_
                obtain ⟨rfl, rfl⟩ := hR_114
                refine TL.norm (L' := [bx b1 141 (([v3, v5, v7, .bool x21679.1, .int .i64 x21679.2, .int .i64 a2.out.value, v18, .int .i64 a2.out.steps] : List Value) ++ (arrC a2.out.memory ++ ([] : List Value))), F21677, F21675, F19, bx b25 87 [.int .i64 a22.op, .int .i64 a22.dst, v23, .int .i64 a22.imm, .int .i64 a22.fn], F33]) rfl ?_
                refine TL.nil ?_
                refine TC.go hK_112 ?_
                refine TC.ret ?_
                obtain rfl := Option.some.inj hp
                exact fun w hw => retOk ⟨v7, F21677, v18, F19, rfl, rfl, h21678, h20⟩ (hw.pick [0, 0, 1])
              · rw [if_neg hc_110] at hp
                refine TC.condF (bF hc_110) ?_
                refine TC.skip ?_
                refine TC.go hK_107 ?_
                refine TC.held ([F21675, bx b1 141 (([v3, v5, v7, .bool a2.out.done, .int .i64 a2.out.trap, .int .i64 a2.out.value, v18, .int .i64 a2.out.steps] : List Value) ++ (arrC a2.out.memory ++ ([] : List Value))), F19, F11, bx b25 87 [.int .i64 a22.op, .int .i64 a22.dst, v23, .int .i64 a22.imm, .int .i64 a22.fn], F33].flatten ++ H) mix (srcG 0 rfl (srcG 1 rfl (srcG 2 rfl (srcG 4 rfl (srcG 5 rfl (srcG 6 rfl srcG0)))))) ?_
                refine HL.v 0 rfl trivial (by kernel_rfl) (by kernel_rfl) (by kernel_rfl) (ltb rfl) (rv_mv (v := .pointer (some ⟨b10, (a9).toNat * 5, none⟩)) h_24) ?_
                refine HL.v 1 rfl trivial (by kernel_rfl) (by kernel_rfl) (by kernel_rfl) (ltb rfl) (rv_nilCheck (a := ⟨b10, (a9).toNat * 5, none⟩) rfl) ?_
                refine HL.v 2 rfl trivial (by kernel_rfl) (by kernel_rfl) (by kernel_rfl) (ltb rfl) (rv_fa (b := b10) (o := (a9).toNat * 5) fa_153_1 rfl) ?_
                refine HL.v 3 rfl trivial (by kernel_rfl) (by kernel_rfl) (by kernel_rfl) (ltb rfl) (rv_ld (v := v14) (o := (a9).toNat * 5 + 1) (o' := (a9).toNat * 5) (j := 1) sc_100 rfl (srcInG 3 rfl) (Hole.cells h12) rfl rfl) ?_
                refine HL.v 4 rfl trivial (by kernel_rfl) (by kernel_rfl) (by kernel_rfl) (ltb rfl) (rv_fa (b := b25) (o := 0) fa_87_1 h_25) ?_
                refine HL.v 5 rfl trivial (by kernel_rfl) (by kernel_rfl) (by kernel_rfl) (ltb rfl) (rv_ld (v := .int .i64 a22.dst) (o := 1) (o' := 0) (j := 1) sc_3 rfl (srcInG 4 rfl) (bx_cells b25 87 _) rfl rfl) ?_
                refine HL.v 6 rfl trivial (by kernel_rfl) (by kernel_rfl) (by kernel_rfl) (ltb rfl) (rv_mv (v := .int .i64 x21673.1) rfl) ?_
                obtain ⟨x24481, hx_115, hp⟩ := bind_some' hp
                refine HL.w2 7 rfl trivial (by kernel_rfl) (by kernel_rfl) (by kernel_rfl) (ltb rfl) (rv_ixO 100 (.tmp 45) (.tmp 47) (v := v14) (i := a22.dst) Try.underlying100 inf_2 rfl rfl rfl h16 (idx_some hx_115).1 (idx_some hx_115).2.1) fun b24482 o24483 h24484 => ?_
                refine HL.one 8 rfl (by kernel_rfl) fun K_116 hK_117 => ?_
                refine TL.pk' [3, 0, 0, 0, 0, 0, 0] (L' := [F15, F21675, bx b1 141 (([v3, v5, v7, .bool a2.out.done, .int .i64 a2.out.trap, .int .i64 a2.out.value, v18, .int .i64 a2.out.steps] : List Value) ++ (arrC a2.out.memory ++ ([] : List Value))), F19, F11, bx b25 87 [.int .i64 a22.op, .int .i64 a22.dst, v23, .int .i64 a22.imm, .int .i64 a22.fn], F33]) rfl ?_
                refine TL.stE0 (ds := [.int .i64 x21673.1]) (u := .int .i64 x21673.1) (a := x21673.1) h16 h24484 ms_2 rfl rfl rfl ⟨rfl, rfl⟩ fun F24881 h24882 => ?_
                refine TL.nil (hK_117 _ _ (srcG 1 rfl (srcG 2 rfl (srcG 3 rfl (srcG 4 rfl (srcG 5 rfl (srcG 6 rfl srcG0)))))) ?_)
                refine HL.done (by kernel_rfl) ?_
                refine W.pk' [4, 0, 0, 0, 0, 0, 0] (L' := [F11, F24881, F21675, bx b1 141 (([v3, v5, v7, .bool a2.out.done, .int .i64 a2.out.trap, .int .i64 a2.out.value, v18, .int .i64 a2.out.steps] : List Value) ++ (arrC a2.out.memory ++ ([] : List Value))), F19, bx b25 87 [.int .i64 a22.op, .int .i64 a22.dst, v23, .int .i64 a22.imm, .int .i64 a22.fn], F33]) rfl ?_
                refine W.shut (a := (⟨a8.f, (a8.regs.set (a22.dst).toNat x21673.1), a8.block, a8.at_, a8.dst⟩ : PFrame)) h12 ⟨_, _, rfl, rfl, h24882⟩ fun F25281 h25282 => ?_
                obtain rfl := Option.some.inj hp
                exact fun w hw => retOk ⟨v7, F25281, v18, F19, rfl, rfl, h25282, h20⟩ (hw.pick [2, 0, 1])
  refine W.new0 ?_
  refine TC.pk' [2, 4, 3, 2, 1, 0] (L' := [bx b1 141 (([v3, v5, v7, .bool a2.out.done, .int .i64 a2.out.trap, .int .i64 a2.out.value, v18, .int .i64 a2.out.steps] : List Value) ++ (arrC a2.out.memory ++ ([] : List Value))), F19, F15, F11, bx b25 87 [.int .i64 a22.op, .int .i64 a22.dst, v23, .int .i64 a22.imm, .int .i64 a22.fn], ([] : FP)]) rfl ?_
  refine TC.loopW (r := z_17) (fun (s : (List Int × Int)) (e_9 : Env) (L_132 : List FP) => ∃ (x26 : List Int) (x30 : Int) (v27 : Value) (F28 : FP), s = (x26, x30) ∧ SlO 2 (kInt .i64) x26 v27 F28 ∧ e_9 0 = .pointer (some ⟨b1, 0, none⟩) ∧ e_9 1 = .pointer (some ⟨b10, (a9).toNat * 5, none⟩) ∧ e_9 5 = .pointer (some ⟨b25, 0, none⟩) ∧ e_9 6 = v27 ∧ e_9 12 = v23 ∧ e_9 13 = .int .i64 (len a22.args) ∧ e_9 14 = .int .i64 x30 ∧ L_132 = [bx b1 141 (([v3, v5, v7, .bool a2.out.done, .int .i64 a2.out.trap, .int .i64 a2.out.value, v18, .int .i64 a2.out.steps] : List Value) ++ (arrC a2.out.memory ++ ([] : List Value))), F19, F15, F11, bx b25 87 [.int .i64 a22.op, .int .i64 a22.dst, v23, .int .i64 a22.imm, .int .i64 a22.fn], F28]) ?_ FUEL _ _ _ hz_18 ⟨([] : List Int), 0, (.slice none 0 0), ([] : FP), rfl, (SlO.nil 2), rfl, rfl, rfl, rfl, rfl, rfl, rfl, rfl⟩
  rintro s e_9 L_132 ⟨x26, x30, v27, F28, rfl, h29, h_10, h_11, h_12, h_13, h_14, h_15, h_16, rfl⟩ x_20 hp hx_21
  replace hp : run_runner_instr.bd21 a8 a22 x26 x30 = some x_20 := hp
  unfold run_runner_instr.bd21 at hp
  refine TC.seq fun K_120 hK_121 => ?_
  refine TC.region ?_
  refine TL.v (ltb rfl) (rv_lss (k := .i64) (m := x30) (n := (len a22.args)) h_16 h_15) ?_
  refine TL.nil ?_
  refine TC.go hK_121 ?_
  refine TC.seq fun K_122 hK_123 => ?_
  by_cases hc_124 : x30 < (len a22.args)
  · rw [if_pos hc_124] at hp
    refine TC.condT (bT hc_124) ?_
    refine TC.skip ?_
    refine TC.go hK_123 ?_
    refine TC.seq fun K_125 hK_126 => ?_
    refine TC.block ?_
    refine TC.seq fun K_127 hK_128 => ?_
    refine TC.region ?_
    obtain ⟨x25283, hx_129, hp⟩ := bind_some' hp
    refine TL.v3 (ltb rfl) (rv_ix 22 (.tmp 12) (.tmp 14) (v := v23) (i := x30) Try.underlying22 inf_3 rfl h_14 h_16 h24 hx_129) fun b25284 o25285 c25286 h25287 h25288 => ?_
    obtain rfl := h25287
    refine TL.v (ltb rfl) (rv_ld (v := .int .i64 x25283) (o := o25285) (o' := o25285) (j := 0) sc_3 rfl Src.H h25288 rfl rfl) ?_
    refine TL.v (ltb rfl) (rv_as (v := .int .i64 x25283) rfl) ?_
    refine TL.nil ?_
    refine TC.go hK_128 ?_
    refine TC.region ?_
    refine TL.v (ltb rfl) (rv_mv (v := v27) h_13) ?_
    refine TL.v (ltb rfl) (rv_mv (v := .pointer (some ⟨b10, (a9).toNat * 5, none⟩)) h_11) ?_
    refine TL.v (ltb rfl) (rv_nilCheck (a := ⟨b10, (a9).toNat * 5, none⟩) rfl) ?_
    refine TL.v (ltb rfl) (rv_fa (b := b10) (o := (a9).toNat * 5) fa_153_1 rfl) ?_
    refine TL.v (ltb rfl) (rv_ld (v := v14) (o := (a9).toNat * 5 + 1) (o' := (a9).toNat * 5) (j := 1) sc_100 rfl (Src.at_ 3 rfl) (Hole.cells h12) rfl rfl) ?_
    refine TL.v (ltb rfl) (rv_mv (v := .int .i64 x25283) rfl) ?_
    obtain ⟨x25289, hx_130, hp⟩ := bind_some' hp
    refine TL.v3 (ltb rfl) (rv_ix 100 (.tmp 22) (.tmp 23) (v := v14) (i := x25283) Try.underlying100 inf_2 rfl rfl rfl (h16).ro hx_130) fun b25290 o25291 c25292 h25293 h25294 => ?_
    obtain rfl := h25293
    refine TL.v (ltb rfl) (rv_ld (v := .int .i64 x25289) (o := o25291) (o' := o25291) (j := 0) sc_2 rfl (Src.at_ 2 rfl) h25294 rfl rfl) ?_
    refine TL.bv (vs := [(0, .int .i64 x25289)]) (cs := [.int .i64 x25289]) (pc rfl p0) Try.underlying100 inf_2 (ltb rfl) (by decide) (by decide) (by kernel_rfl) fun b25295 => ?_
    refine TL.pk' [6, 0, 0, 0, 0, 0, 0] (L' := [F28, bx b25295 2 [.int .i64 x25289], bx b1 141 (([v3, v5, v7, .bool a2.out.done, .int .i64 a2.out.trap, .int .i64 a2.out.value, v18, .int .i64 a2.out.steps] : List Value) ++ (arrC a2.out.memory ++ ([] : List Value))), F19, F15, F11, bx b25 87 [.int .i64 a22.op, .int .i64 a22.dst, v23, .int .i64 a22.imm, .int .i64 a22.fn]]) rfl ?_
    refine TL.perm (L' := [F28, bx b25295 2 [.int .i64 x25289], [], bx b1 141 (([v3, v5, v7, .bool a2.out.done, .int .i64 a2.out.trap, .int .i64 a2.out.value, v18, .int .i64 a2.out.steps] : List Value) ++ (arrC a2.out.memory ++ ([] : List Value))), F19, F15, F11, bx b25 87 [.int .i64 a22.op, .int .i64 a22.dst, v23, .int .i64 a22.imm, .int .i64 a22.fn]]) (by simp) ?_
    obtain ⟨x25296, hz_131, hp⟩ := bind_some' hp
    refine TL.app Try.underlying100 inf_2 (ltb rfl) rfl (ltb rfl) rfl (leb rfl) rfl rfl h29 (RepL.to (RepL.cons (k := (kInt .i64)) (x := x25289) ⟨rfl, rfl⟩ RepL.nil) rfl) rfl rfl hz_131 fun v25297 F25298 h25299 => ?_
    refine TL.v (ltb rfl) (rv_as (v := v25297) rfl) ?_
    refine TL.nil ?_
    refine TC.go hK_126 ?_
    refine TC.region ?_
    refine TL.v (ltb rfl) (rv_add (k := .i64) (m := x30) (n := 1) h_16 rfl) ?_
    refine TL.v (ltb rfl) (rv_mv (v := .int .i64 (w64 (x30 + 1))) rfl) ?_
    refine TL.nil ?_
    exact fun w hw => goOk hp ⟨x25296, (w64 (x30 + 1)), v25297, F25298, rfl, h25299, h_10, h_11, h_12, rfl, h_14, h_15, rfl, rfl⟩ (hw.pick [1, 1, 1, 1, 1, 0])
  · rw [if_neg hc_124] at hp
    refine TC.condF (bF hc_124) ?_
    refine TC.exit ?_
    refine fun w hw => hJ_118 x26 v27 F28 _ h29 ?_ ?_ ?_ ?_ (ex_ret hp hx_21) w (hw.pick [0, 0, 0, 0, 0, 0])
    · exact h_10
    · exact h_11
    · exact h_12
    · exact h_13
end Go.Proofs.Ytoflleabpkgdpaa
