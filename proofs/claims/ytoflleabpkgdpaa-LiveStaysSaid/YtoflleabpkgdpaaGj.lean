/- The walk through the program's functions: each one's pure reading, and that a call does what it says. No conditions. -/
import Derived.Test.YtoflleabpkgdpaaGi
set_option linter.unusedVariables false
set_option linter.unusedSimpArgs false
namespace Go.Proofs.Ytoflleabpkgdpaa
open Go Go.Proofs

/-! ### fettle/fettlelaw08.up -/
abbrev fettlelaw08_up.R (r : Bool) (v : Value) (A : List FP) : Prop := .bool r = v ∧ A = []
def fettlelaw08_up  : Option Bool :=
  (live_Live (⟨[(⟨1, 1, [1], [(⟨([] : List PPhi), ([] : List PInstr), (⟨3, 0, ([] : List Int)⟩ : PTerm)⟩ : PBlock)]⟩ : PFunc)]⟩ : PModule) 0).bind fun x14 =>
  (if x14.2.2 = GErr.no ∧ (len x14.1) = 1 then (idx x14.1 0).bind fun x64 =>
  some (decide ((len x64) = 1)) else some false).bind fun t24 =>
  (if t24 = true then (idx x14.1 0).bind fun x50 =>
  (idx x50 0).bind fun x58 =>
  some x58 else some false).bind fun t25 =>
  (if t25 = true ∧ (len x14.2.1) = 1 then (idx x14.2.1 0).bind fun x42 =>
  some (decide ((len x42) = 1)) else some false).bind fun t26 =>
  (if t26 = true then (idx x14.2.1 0).bind fun x28 =>
  (idx x28 0).bind fun x36 =>
  some (!x36) else some false).bind fun t27 =>
  some t27
theorem fettlelaw08_up_ok {E : World} {H : FP} {w : World} {r : Bool}  (hp : fettlelaw08_up = some r) (hst : St E H [] w) :
    Fn Try.prog 47 #[] w fun v w' => ∃ A, fettlelaw08_up.R r v A ∧ St E H A w' := by
  refine Fn.body (fn := Try.f47) (args := []) E H [] [.tmp 0] 59 Try.func47 rfl rfl rfl rfl (leb rfl) hst ?_
  unfold fettlelaw08_up at hp
  refine TC.seq fun K_1 hK_2 => ?_
  refine TC.region ?_
  refine TL.v (ltb rfl) (rv_as (v := .bool false) rfl) ?_
  refine TL.nil ?_
  refine TC.go hK_2 ?_
  refine TC.seq fun K_3 hK_4 => ?_
  refine TC.region ?_
  refine TL.bv (vs := [(0, .int .i64 1)]) (cs := [.int .i64 1]) (pc rfl p0) Try.underlying22 inf_3 (ltb rfl) (by decide) (by decide) (by kernel_rfl) fun b1 => ?_
  refine TL.v (ltb rfl) (rv_bv (vs := [(0, .int .i64 3)]) (ds := [.int .i64 3, .int .i64 0, .slice none 0 0]) (pc rfl p0) (fun w => by kernel_rfl)) ?_
  refine TL.v (ltb rfl) (rv_bv (vs := [(2, .agg #[.int .i64 3, .int .i64 0, .slice none 0 0])]) (ds := [.slice none 0 0, .slice none 0 0, .int .i64 3, .int .i64 0, .slice none 0 0]) (pc rfl p0) (fun w => by kernel_rfl)) ?_
  refine TL.bv (vs := [(0, .agg #[.slice none 0 0, .slice none 0 0, .int .i64 3, .int .i64 0, .slice none 0 0])]) (cs := [.slice none 0 0, .slice none 0 0, .int .i64 3, .int .i64 0, .slice none 0 0]) (pc rfl p0) Try.underlying23 inf_85 (ltb rfl) (by decide) (by decide) (by kernel_rfl) fun b2 => ?_
  refine TL.v (ltb rfl) (rv_bv (vs := [(0, .int .i64 1), (1, .int .i64 1), (2, .slice (some ⟨b1, 0, none⟩) 1 1), (3, .slice (some ⟨b2, 0, none⟩) 1 1)]) (ds := [.int .i64 1, .int .i64 1, .slice (some ⟨b1, 0, none⟩) 1 1, .slice (some ⟨b2, 0, none⟩) 1 1]) (pc rfl (pc rfl (pc rfl (pc rfl p0)))) (fun w => by kernel_rfl)) ?_
  refine TL.alloc (cs := [.int .i64 0, .int .i64 0, .slice none 0 0, .slice none 0 0]) inf_25 (ltb rfl) rfl fun b3 => ?_
  refine TL.pk' [2, 0, 0] (L' := [bx b1 3 [.int .i64 1], bx b3 25 [.int .i64 0, .int .i64 0, .slice none 0 0, .slice none 0 0], bx b2 85 [.slice none 0 0, .slice none 0 0, .int .i64 3, .int .i64 0, .slice none 0 0]]) rfl ?_
  refine TL.perm (L' := [bx b1 3 [.int .i64 1], [], bx b3 25 [.int .i64 0, .int .i64 0, .slice none 0 0, .slice none 0 0], bx b2 85 [.slice none 0 0, .slice none 0 0, .int .i64 3, .int .i64 0, .slice none 0 0]]) (by simp) ?_
  refine TL.litOwn (n := 1) (xs := [1]) (RepL.to (RepL.cons (k := (kInt .i64)) (x := 1) ⟨rfl, rfl⟩ RepL.nil) rfl) rfl rfl (ltb rfl) fun F4 h5 => ?_
  refine TL.new0 ?_
  refine TL.new0 ?_
  refine TL.new0 ?_
  refine TL.pk' [5, 2, 1, 0, 0, 0] (L' := [bx b2 85 [(.slice none 0 0), (.slice none 0 0), .int .i64 3, .int .i64 0, (.slice none 0 0)], ([] : FP), ([] : FP), ([] : FP), F4, bx b3 25 [.int .i64 0, .int .i64 0, .slice none 0 0, .slice none 0 0]]) rfl ?_
  refine TL.perm (L' := [bx b2 85 [(.slice none 0 0), (.slice none 0 0), .int .i64 3, .int .i64 0, (.slice none 0 0)], ([] : FP) ++ (([] : FP) ++ (([] : FP))) ++ [], F4, bx b3 25 [.int .i64 0, .int .i64 0, .slice none 0 0, .slice none 0 0]]) (by simp) ?_
  refine TL.litOwn (n := 1) (xs := [(⟨([] : List PPhi), ([] : List PInstr), (⟨3, 0, ([] : List Int)⟩ : PTerm)⟩ : PBlock)]) (RepL.to (RepL.cons (k := kBlock) (x := (⟨([] : List PPhi), ([] : List PInstr), (⟨3, 0, ([] : List Int)⟩ : PTerm)⟩ : PBlock)) ⟨_, _, _, _, _, _, rfl, rfl, (SlO.nil 131), (SlO.nil 87), (SlO.nil 3)⟩ RepL.nil) rfl) rfl rfl (ltb rfl) fun F9 h10 => ?_
  refine TL.stB (ds := [.int .i64 1, .int .i64 1, (.slice (some ⟨b1, 0, none⟩) 1 1), (.slice (some ⟨b2, 0, none⟩) 1 1)]) (o := 0) (cs := [.int .i64 0, .int .i64 0, .slice none 0 0, .slice none 0 0]) (b := b3) (u := .agg #[.int .i64 1, .int .i64 1, (.slice (some ⟨b1, 0, none⟩) 1 1), (.slice (some ⟨b2, 0, none⟩) 1 1)]) 2 rfl ms_25 rfl rfl rfl (oc rfl (oc rfl (oc (h5).one (oc (h10).one oc0)))) (leb rfl) ?_
  refine TL.norm (L' := [F9, F4, bx b3 25 [.int .i64 1, .int .i64 1, (.slice (some ⟨b1, 0, none⟩) 1 1), (.slice (some ⟨b2, 0, none⟩) 1 1)]]) rfl ?_
  refine TL.nil ?_
  refine TC.go hK_4 ?_
  refine TC.seq fun K_5 hK_6 => ?_
  refine TC.region ?_
  refine TL.v (ltb rfl) (rv_lda (o := 0) (o' := 0) (j := 0) (ds := [.int .i64 1, .int .i64 1, (.slice (some ⟨b1, 0, none⟩) 1 1), (.slice (some ⟨b2, 0, none⟩) 1 1)]) ag_25 rfl (Src.at_ 2 rfl) (bx_cells b3 25 _) rfl rfl rfl) ?_
  refine TL.bv (vs := [(0, .agg #[.int .i64 1, .int .i64 1, (.slice (some ⟨b1, 0, none⟩) 1 1), (.slice (some ⟨b2, 0, none⟩) 1 1)])]) (cs := [.int .i64 1, .int .i64 1, (.slice (some ⟨b1, 0, none⟩) 1 1), (.slice (some ⟨b2, 0, none⟩) 1 1)]) (pc rfl p0) Try.underlying88 inf_25 (ltb rfl) (by decide) (by decide) (by kernel_rfl) fun b11 => ?_
  refine TL.v (ltb rfl) (rv_bv (vs := [(0, .slice (some ⟨b11, 0, none⟩) 1 1)]) (ds := [.slice (some ⟨b11, 0, none⟩) 1 1]) (pc rfl p0) (fun w => by kernel_rfl)) ?_
  refine TL.pk' [0, 1, 0, 0] (L' := [bx b11 25 [.int .i64 1, .int .i64 1, (.slice (some ⟨b1, 0, none⟩) 1 1), (.slice (some ⟨b2, 0, none⟩) 1 1)], F4, F9, bx b3 25 [.int .i64 1, .int .i64 1, (.slice (some ⟨b1, 0, none⟩) 1 1), (.slice (some ⟨b2, 0, none⟩) 1 1)]]) rfl ?_
  refine TL.perm (L' := [bx b11 25 [.int .i64 1, .int .i64 1, (.slice (some ⟨b1, 0, none⟩) 1 1), (.slice (some ⟨b2, 0, none⟩) 1 1)], F4 ++ (F9) ++ [], bx b3 25 [.int .i64 1, .int .i64 1, (.slice (some ⟨b1, 0, none⟩) 1 1), (.slice (some ⟨b2, 0, none⟩) 1 1)]]) (by simp) ?_
  refine TL.litOwn (n := 1) (xs := [(⟨1, 1, [1], [(⟨([] : List PPhi), ([] : List PInstr), (⟨3, 0, ([] : List Int)⟩ : PTerm)⟩ : PBlock)]⟩ : PFunc)]) (RepL.to (RepL.cons (k := kFunc) (x := (⟨1, 1, [1], [(⟨([] : List PPhi), ([] : List PInstr), (⟨3, 0, ([] : List Int)⟩ : PTerm)⟩ : PBlock)]⟩ : PFunc)) ⟨_, _, _, _, rfl, rfl, h5, h10⟩ RepL.nil) rfl) rfl rfl (ltb rfl) fun F12 h13 => ?_
  obtain ⟨x14, hy_7, hp⟩ := bind_some' hp
  refine TL.callC (vs := [.agg #[(.slice (some ⟨b11, 0, none⟩) 1 1)], .int .i64 0]) (R := live_Live.R x14) [] [F12, bx b3 25 [.int .i64 1, .int .i64 1, (.slice (some ⟨b1, 0, none⟩) 1 1), (.slice (some ⟨b2, 0, none⟩) 1 1)]] rfl cb_50 (ltb rfl) (mc rfl (mc rfl m0)) (fun w hw => live_Live_ok (a1 := (⟨[(⟨1, 1, [1], [(⟨([] : List PPhi), ([] : List PInstr), (⟨3, 0, ([] : List Int)⟩ : PTerm)⟩ : PBlock)]⟩ : PFunc)]⟩ : PModule)) (a4 := 0) (h13.ro.mono (subB 0 rfl)) hy_7 hw) fun v A' hR_8 => ?_
  obtain ⟨v15, F16, v18, F19, v21, F22, rfl, rfl, h17, h20, h23⟩ := hR_8
  refine TL.norm (L' := [F16, F19, F22, F12, bx b3 25 [.int .i64 1, .int .i64 1, (.slice (some ⟨b1, 0, none⟩) 1 1), (.slice (some ⟨b2, 0, none⟩) 1 1)]]) rfl ?_
  refine TL.v (ltb rfl) (rv_mv (v := .tuple #[v15, v18, v21]) rfl) ?_
  refine TL.v (ltb rfl) (rv_extract (vs := #[v15, v18, v21]) (v := v15) rfl rfl) ?_
  refine TL.v (ltb rfl) (rv_extract (vs := #[v15, v18, v21]) (v := v18) rfl rfl) ?_
  refine TL.v (ltb rfl) (rv_extract (vs := #[v15, v18, v21]) (v := v21) rfl rfl) ?_
  refine TL.v (ltb rfl) (rv_as (v := v15) rfl) ?_
  refine TL.v (ltb rfl) (rv_as (v := v18) rfl) ?_
  refine TL.v (ltb rfl) (rv_as (v := v21) rfl) ?_
  refine TL.nil ?_
  refine TC.go hK_6 ?_
  refine TC.seq fun K_9 hK_10 => ?_
  refine TC.region ?_
  refine TL.v (ltb rfl) (rv_mv (v := v21) rfl) ?_
  refine TL.v (ltb rfl) (rv_eqlEN ifc_49 h23 rfl) ?_
  refine TL.v (ltb rfl) (rv_mv (v := .bool (decide (x14.2.2 = GErr.no))) rfl) ?_
  refine TL.cut 4 fun K_11 hK_12 => ?_
  have hJ_13 : ∀ e_15 : Env, e_15 2 = v15 → e_15 3 = v18 → e_15 24 = .bool (decide (x14.2.2 = GErr.no ∧ (len x14.1) = 1)) → ∀ w, St E H [F16, F19, F22, F12, bx b3 25 [.int .i64 1, .int .i64 1, (.slice (some ⟨b1, 0, none⟩) 1 1), (.slice (some ⟨b2, 0, none⟩) 1 1)]] w → K_11 e_15 w := by
    intro e_15 h_16 h_17 h_18
    refine TL.go hK_12 ?_
    refine TL.v (ltb rfl) (rv_mv (v := .bool (decide (x14.2.2 = GErr.no ∧ (len x14.1) = 1))) h_18) ?_
    obtain ⟨t24, ht_62, hp⟩ := bind_some' hp
    refine TL.cut 6 fun K_19 hK_20 => ?_
    have hJ_21 : ∀ e_23 : Env, e_23 2 = v15 → e_23 3 = v18 → e_23 31 = .bool t24 → ∀ w, St E H [F16, F19, F22, F12, bx b3 25 [.int .i64 1, .int .i64 1, (.slice (some ⟨b1, 0, none⟩) 1 1), (.slice (some ⟨b2, 0, none⟩) 1 1)]] w → K_19 e_23 w := by
      intro e_23 h_24 h_25 h_26
      refine TL.go hK_20 ?_
      refine TL.v (ltb rfl) (rv_mv (v := .bool t24) h_26) ?_
      obtain ⟨t25, ht_59, hp⟩ := bind_some' hp
      refine TL.cut 6 fun K_27 hK_28 => ?_
      have hJ_29 : ∀ e_31 : Env, e_31 3 = v18 → e_31 38 = .bool t25 → ∀ w, St E H [F16, F19, F22, F12, bx b3 25 [.int .i64 1, .int .i64 1, (.slice (some ⟨b1, 0, none⟩) 1 1), (.slice (some ⟨b2, 0, none⟩) 1 1)]] w → K_27 e_31 w := by
        intro e_31 h_32 h_33
        refine TL.go hK_28 ?_
        refine TL.v (ltb rfl) (rv_mv (v := .bool t25) h_33) ?_
        refine TL.cut 4 fun K_34 hK_35 => ?_
        have hJ_36 : ∀ e_38 : Env, e_38 3 = v18 → e_38 43 = .bool (decide (t25 = true ∧ (len x14.2.1) = 1)) → ∀ w, St E H [F16, F19, F22, F12, bx b3 25 [.int .i64 1, .int .i64 1, (.slice (some ⟨b1, 0, none⟩) 1 1), (.slice (some ⟨b2, 0, none⟩) 1 1)]] w → K_34 e_38 w := by
          intro e_38 h_39 h_40
          refine TL.go hK_35 ?_
          refine TL.v (ltb rfl) (rv_mv (v := .bool (decide (t25 = true ∧ (len x14.2.1) = 1))) h_40) ?_
          obtain ⟨t26, ht_57, hp⟩ := bind_some' hp
          refine TL.cut 6 fun K_41 hK_42 => ?_
          have hJ_43 : ∀ e_45 : Env, e_45 3 = v18 → e_45 50 = .bool t26 → ∀ w, St E H [F16, F19, F22, F12, bx b3 25 [.int .i64 1, .int .i64 1, (.slice (some ⟨b1, 0, none⟩) 1 1), (.slice (some ⟨b2, 0, none⟩) 1 1)]] w → K_41 e_45 w := by
            intro e_45 h_46 h_47
            refine TL.go hK_42 ?_
            refine TL.v (ltb rfl) (rv_mv (v := .bool t26) h_47) ?_
            obtain ⟨t27, ht_54, hp⟩ := bind_some' hp
            refine TL.cut 7 fun K_48 hK_49 => ?_
            have hJ_50 : ∀ e_52 : Env, e_52 58 = .bool t27 → ∀ w, St E H [F16, F19, F22, F12, bx b3 25 [.int .i64 1, .int .i64 1, (.slice (some ⟨b1, 0, none⟩) 1 1), (.slice (some ⟨b2, 0, none⟩) 1 1)]] w → K_48 e_52 w := by
              intro e_52 h_53
              refine TL.go hK_49 ?_
              refine TL.v (ltb rfl) (rv_as (v := .bool t27) h_53) ?_
              refine TL.nil ?_
              refine TC.go hK_10 ?_
              refine TC.ret ?_
              obtain rfl := Option.some.inj hp
              exact fun w hw => retOk ⟨rfl, rfl⟩ (hw.pick [])
            clear hp
            have hp := ht_54
            clear ht_54
            by_cases hc_51 : t26 = true
            · rw [if_pos hc_51] at hp
              refine TL.gyes true (yieldE_of rfl (bbT hc_51)) rfl ?_
              refine TL.v (ltb rfl) (rv_mv (v := v18) h_46) ?_
              refine TL.gyes true (yieldE_of rfl (bbT hc_51)) rfl ?_
              obtain ⟨x28, hx_55, hp⟩ := bind_some' hp
              refine TL.v3 (ltb rfl) (rv_ix 93 (.tmp 52) (.const (.int .i64 0)) (v := v18) (i := 0) Try.underlying93 inf_30 rfl rfl rfl (h20).ro hx_55) fun b29 o30 c31 h32 h33 => ?_
              obtain ⟨v34, rfl, h35⟩ := h32
              refine TL.gyes true (yieldE_of rfl (bbT hc_51)) rfl ?_
              refine TL.v (ltb rfl) (rv_ld (v := v34) (o := o30) (o' := o30) (j := 0) sc_30 rfl (Src.at_ 1 rfl) h33 rfl rfl) ?_
              refine TL.gyes true (yieldE_of rfl (bbT hc_51)) rfl ?_
              obtain ⟨x36, hx_56, hp⟩ := bind_some' hp
              refine TL.v3 (ltb rfl) (rv_ix 30 (.tmp 54) (.const (.int .i64 0)) (v := v34) (i := 0) Try.underlying30 inf_4 rfl rfl rfl h35 hx_56) fun b37 o38 c39 h40 h41 => ?_
              obtain rfl := h40
              refine TL.gyes true (yieldE_of rfl (bbT hc_51)) rfl ?_
              refine TL.v (ltb rfl) (rv_ld (v := .bool x36) (o := o38) (o' := o38) (j := 0) sc_4 rfl (Src.at_ 1 rfl) h41 rfl rfl) ?_
              refine TL.gyes true (yieldE_of rfl (bbT hc_51)) rfl ?_
              refine TL.v (ltb rfl) (rv_not (b := x36) rfl) ?_
              refine TL.v (ltb rfl) (rv_pickT true (bbT hc_51) rfl (v := .bool (!x36)) rfl) ?_
              obtain rfl := Option.some.inj hp
              refine TL.nil (hJ_50 _ ?_)
              · exact rfl
            · rw [if_neg hc_51] at hp
              refine TL.gno false rfl (fun d hd => by cases hd; exact ltb rfl) (yieldE_of rfl (bbF hc_51)) rfl ?_
              refine TL.gno false rfl (fun d hd => by cases hd; exact ltb rfl) (yieldE_of rfl (bbF hc_51)) rfl ?_
              refine TL.gno false rfl (fun d hd => by cases hd; exact ltb rfl) (yieldE_of rfl (bbF hc_51)) rfl ?_
              refine TL.gno false rfl (fun d hd => by cases hd; exact ltb rfl) (yieldE_of rfl (bbF hc_51)) rfl ?_
              refine TL.gno false rfl (fun d hd => by cases hd; exact ltb rfl) (yieldE_of rfl (bbF hc_51)) rfl ?_
              refine TL.gno false rfl (fun d hd => by cases hd; exact ltb rfl) (yieldE_of rfl (bbF hc_51)) rfl ?_
              refine TL.v (ltb rfl) (rv_pickF false (bbF hc_51) rfl (v := .bool false) rfl) ?_
              obtain rfl := Option.some.inj hp
              refine TL.nil (hJ_50 _ ?_)
              · exact rfl
          clear hp
          have hp := ht_57
          clear ht_57
          by_cases hc_44 : t25 = true ∧ (len x14.2.1) = 1
          · rw [if_pos hc_44] at hp
            refine TL.gyes true (yieldE_of rfl (bT hc_44)) rfl ?_
            refine TL.v (ltb rfl) (rv_mv (v := v18) h_39) ?_
            refine TL.gyes true (yieldE_of rfl (bT hc_44)) rfl ?_
            obtain ⟨x42, hx_58, hp⟩ := bind_some' hp
            refine TL.v3 (ltb rfl) (rv_ix 93 (.tmp 45) (.const (.int .i64 0)) (v := v18) (i := 0) Try.underlying93 inf_30 rfl rfl rfl (h20).ro hx_58) fun b43 o44 c45 h46 h47 => ?_
            obtain ⟨v48, rfl, h49⟩ := h46
            refine TL.gyes true (yieldE_of rfl (bT hc_44)) rfl ?_
            refine TL.v (ltb rfl) (rv_ld (v := v48) (o := o44) (o' := o44) (j := 0) sc_30 rfl (Src.at_ 1 rfl) h47 rfl rfl) ?_
            refine TL.gyes true (yieldE_of rfl (bT hc_44)) rfl ?_
            refine TL.v (ltb rfl) (rv_lenI (v := v48) Try.underlying30 rfl h49) ?_
            refine TL.gyes true (yieldE_of rfl (bT hc_44)) rfl ?_
            refine TL.v (ltb rfl) (rv_eql (k := .i64) (m := (len x42)) (n := 1) rfl rfl) ?_
            refine TL.v (ltb rfl) (rv_pickT true (bT hc_44) rfl (v := .bool (decide ((len x42) = 1))) rfl) ?_
            obtain rfl := Option.some.inj hp
            refine TL.nil (hJ_43 _ ?_ ?_)
            · exact h_39
            · exact rfl
          · rw [if_neg hc_44] at hp
            refine TL.gno false rfl (fun d hd => by cases hd; exact ltb rfl) (yieldE_of rfl (bF hc_44)) rfl ?_
            refine TL.gno false rfl (fun d hd => by cases hd; exact ltb rfl) (yieldE_of rfl (bF hc_44)) rfl ?_
            refine TL.gno false rfl (fun d hd => by cases hd; exact ltb rfl) (yieldE_of rfl (bF hc_44)) rfl ?_
            refine TL.gno false rfl (fun d hd => by cases hd; exact ltb rfl) (yieldE_of rfl (bF hc_44)) rfl ?_
            refine TL.gno false rfl (fun d hd => by cases hd; exact ltb rfl) (yieldE_of rfl (bF hc_44)) rfl ?_
            refine TL.v (ltb rfl) (rv_pickF false (bF hc_44) rfl (v := .bool false) rfl) ?_
            obtain rfl := Option.some.inj hp
            refine TL.nil (hJ_43 _ ?_ ?_)
            · exact h_39
            · exact rfl
        by_cases hc_37 : t25 = true
        · refine TL.gyes true (yieldE_of rfl (bbT hc_37)) rfl ?_
          refine TL.v (ltb rfl) (rv_mv (v := v18) h_32) ?_
          refine TL.gyes true (yieldE_of rfl (bbT hc_37)) rfl ?_
          refine TL.v (ltb rfl) (rv_lenI (v := v18) Try.underlying93 rfl h20.ro) ?_
          refine TL.gyes true (yieldE_of rfl (bbT hc_37)) rfl ?_
          refine TL.v (ltb rfl) (rv_eql (k := .i64) (m := (len x14.2.1)) (n := 1) rfl rfl) ?_
          refine TL.v (ltb rfl) (rv_pickT true (bbT hc_37) rfl (v := .bool (decide ((len x14.2.1) = 1))) rfl) ?_
          refine TL.nil (hJ_36 _ ?_ ?_)
          · exact h_32
          · exact (bAt hc_37)
        · refine TL.gno false rfl (fun d hd => by cases hd; exact ltb rfl) (yieldE_of rfl (bbF hc_37)) rfl ?_
          refine TL.gno false rfl (fun d hd => by cases hd; exact ltb rfl) (yieldE_of rfl (bbF hc_37)) rfl ?_
          refine TL.gno false rfl (fun d hd => by cases hd; exact ltb rfl) (yieldE_of rfl (bbF hc_37)) rfl ?_
          refine TL.v (ltb rfl) (rv_pickF false (bbF hc_37) rfl (v := .bool false) rfl) ?_
          refine TL.nil (hJ_36 _ ?_ ?_)
          · exact h_32
          · exact (bAf hc_37)
      clear hp
      have hp := ht_59
      clear ht_59
      by_cases hc_30 : t24 = true
      · rw [if_pos hc_30] at hp
        refine TL.gyes true (yieldE_of rfl (bbT hc_30)) rfl ?_
        refine TL.v (ltb rfl) (rv_mv (v := v15) h_24) ?_
        refine TL.gyes true (yieldE_of rfl (bbT hc_30)) rfl ?_
        obtain ⟨x50, hx_60, hp⟩ := bind_some' hp
        refine TL.v3 (ltb rfl) (rv_ix 93 (.tmp 33) (.const (.int .i64 0)) (v := v15) (i := 0) Try.underlying93 inf_30 rfl rfl rfl (h17).ro hx_60) fun b51 o52 c53 h54 h55 => ?_
        obtain ⟨v56, rfl, h57⟩ := h54
        refine TL.gyes true (yieldE_of rfl (bbT hc_30)) rfl ?_
        refine TL.v (ltb rfl) (rv_ld (v := v56) (o := o52) (o' := o52) (j := 0) sc_30 rfl (Src.at_ 0 rfl) h55 rfl rfl) ?_
        refine TL.gyes true (yieldE_of rfl (bbT hc_30)) rfl ?_
        obtain ⟨x58, hx_61, hp⟩ := bind_some' hp
        refine TL.v3 (ltb rfl) (rv_ix 30 (.tmp 35) (.const (.int .i64 0)) (v := v56) (i := 0) Try.underlying30 inf_4 rfl rfl rfl h57 hx_61) fun b59 o60 c61 h62 h63 => ?_
        obtain rfl := h62
        refine TL.gyes true (yieldE_of rfl (bbT hc_30)) rfl ?_
        refine TL.v (ltb rfl) (rv_ld (v := .bool x58) (o := o60) (o' := o60) (j := 0) sc_4 rfl (Src.at_ 0 rfl) h63 rfl rfl) ?_
        refine TL.v (ltb rfl) (rv_pickT true (bbT hc_30) rfl (v := .bool x58) rfl) ?_
        obtain rfl := Option.some.inj hp
        refine TL.nil (hJ_29 _ ?_ ?_)
        · exact h_25
        · exact rfl
      · rw [if_neg hc_30] at hp
        refine TL.gno false rfl (fun d hd => by cases hd; exact ltb rfl) (yieldE_of rfl (bbF hc_30)) rfl ?_
        refine TL.gno false rfl (fun d hd => by cases hd; exact ltb rfl) (yieldE_of rfl (bbF hc_30)) rfl ?_
        refine TL.gno false rfl (fun d hd => by cases hd; exact ltb rfl) (yieldE_of rfl (bbF hc_30)) rfl ?_
        refine TL.gno false rfl (fun d hd => by cases hd; exact ltb rfl) (yieldE_of rfl (bbF hc_30)) rfl ?_
        refine TL.gno false rfl (fun d hd => by cases hd; exact ltb rfl) (yieldE_of rfl (bbF hc_30)) rfl ?_
        refine TL.v (ltb rfl) (rv_pickF false (bbF hc_30) rfl (v := .bool false) rfl) ?_
        obtain rfl := Option.some.inj hp
        refine TL.nil (hJ_29 _ ?_ ?_)
        · exact h_25
        · exact rfl
    clear hp
    have hp := ht_62
    clear ht_62
    by_cases hc_22 : x14.2.2 = GErr.no ∧ (len x14.1) = 1
    · rw [if_pos hc_22] at hp
      refine TL.gyes true (yieldE_of rfl (bT hc_22)) rfl ?_
      refine TL.v (ltb rfl) (rv_mv (v := v15) h_16) ?_
      refine TL.gyes true (yieldE_of rfl (bT hc_22)) rfl ?_
      obtain ⟨x64, hx_63, hp⟩ := bind_some' hp
      refine TL.v3 (ltb rfl) (rv_ix 93 (.tmp 26) (.const (.int .i64 0)) (v := v15) (i := 0) Try.underlying93 inf_30 rfl rfl rfl (h17).ro hx_63) fun b65 o66 c67 h68 h69 => ?_
      obtain ⟨v70, rfl, h71⟩ := h68
      refine TL.gyes true (yieldE_of rfl (bT hc_22)) rfl ?_
      refine TL.v (ltb rfl) (rv_ld (v := v70) (o := o66) (o' := o66) (j := 0) sc_30 rfl (Src.at_ 0 rfl) h69 rfl rfl) ?_
      refine TL.gyes true (yieldE_of rfl (bT hc_22)) rfl ?_
      refine TL.v (ltb rfl) (rv_lenI (v := v70) Try.underlying30 rfl h71) ?_
      refine TL.gyes true (yieldE_of rfl (bT hc_22)) rfl ?_
      refine TL.v (ltb rfl) (rv_eql (k := .i64) (m := (len x64)) (n := 1) rfl rfl) ?_
      refine TL.v (ltb rfl) (rv_pickT true (bT hc_22) rfl (v := .bool (decide ((len x64) = 1))) rfl) ?_
      obtain rfl := Option.some.inj hp
      refine TL.nil (hJ_21 _ ?_ ?_ ?_)
      · exact h_16
      · exact h_17
      · exact rfl
    · rw [if_neg hc_22] at hp
      refine TL.gno false rfl (fun d hd => by cases hd; exact ltb rfl) (yieldE_of rfl (bF hc_22)) rfl ?_
      refine TL.gno false rfl (fun d hd => by cases hd; exact ltb rfl) (yieldE_of rfl (bF hc_22)) rfl ?_
      refine TL.gno false rfl (fun d hd => by cases hd; exact ltb rfl) (yieldE_of rfl (bF hc_22)) rfl ?_
      refine TL.gno false rfl (fun d hd => by cases hd; exact ltb rfl) (yieldE_of rfl (bF hc_22)) rfl ?_
      refine TL.gno false rfl (fun d hd => by cases hd; exact ltb rfl) (yieldE_of rfl (bF hc_22)) rfl ?_
      refine TL.v (ltb rfl) (rv_pickF false (bF hc_22) rfl (v := .bool false) rfl) ?_
      obtain rfl := Option.some.inj hp
      refine TL.nil (hJ_21 _ ?_ ?_ ?_)
      · exact h_16
      · exact h_17
      · exact rfl
  by_cases hc_14 : x14.2.2 = GErr.no
  · refine TL.gyes true (yieldE_of rfl (bT hc_14)) rfl ?_
    refine TL.v (ltb rfl) (rv_mv (v := v15) rfl) ?_
    refine TL.gyes true (yieldE_of rfl (bT hc_14)) rfl ?_
    refine TL.v (ltb rfl) (rv_lenI (v := v15) Try.underlying93 rfl h17.ro) ?_
    refine TL.gyes true (yieldE_of rfl (bT hc_14)) rfl ?_
    refine TL.v (ltb rfl) (rv_eql (k := .i64) (m := (len x14.1)) (n := 1) rfl rfl) ?_
    refine TL.v (ltb rfl) (rv_pickT true (bT hc_14) rfl (v := .bool (decide ((len x14.1) = 1))) rfl) ?_
    refine TL.nil (hJ_13 _ ?_ ?_ ?_)
    · exact rfl
    · exact rfl
    · exact (bAt hc_14)
  · refine TL.gno false rfl (fun d hd => by cases hd; exact ltb rfl) (yieldE_of rfl (bF hc_14)) rfl ?_
    refine TL.gno false rfl (fun d hd => by cases hd; exact ltb rfl) (yieldE_of rfl (bF hc_14)) rfl ?_
    refine TL.gno false rfl (fun d hd => by cases hd; exact ltb rfl) (yieldE_of rfl (bF hc_14)) rfl ?_
    refine TL.v (ltb rfl) (rv_pickF false (bF hc_14) rfl (v := .bool false) rfl) ?_
    refine TL.nil (hJ_13 _ ?_ ?_ ?_)
    · exact rfl
    · exact rfl
    · exact (bAf hc_14)

/-! ### fettle/fettlelaw08.LiveStays -/
abbrev fettlelaw08_LiveStays.R (r : Bool) (v : Value) (A : List FP) : Prop := .bool r = v ∧ A = []
def fettlelaw08_LiveStays.nx85 (a1 : PModule) (a4 : Int) (x6 : Bool) (x8 : PModule) (x13 : List (List Bool) × List (List Bool) × GErr) (x23 : List Int × GErr) (x31 : List Int) (x39 : List (List Bool)) : Option Bool :=
  (live_Live x8 a4).bind fun x46 =>
  (live_Count x8 a4).bind fun x56 =>
  (if x6 = true then (fettleref02_Same x8 a1).bind fun x66 =>
  some x66 else some false).bind fun t63 =>
  (if (((t63 = true ∧ (len x46.1) = (len x39)) ∧ (len x46.2.1) = (len x13.2.1)) ∧ (((decide (x13.2.2 = GErr.no)) == (decide (x46.2.2 = GErr.no))) = true)) ∧ (((decide (x23.2 = GErr.no)) == (decide (x56.2 = GErr.no))) = true) then (fettlelaw05_Ints x56.1 x31).bind fun x65 =>
  some x65 else some false).bind fun t64 =>
  some t64
def fettlelaw08_LiveStays.bd85  (x42 : List Int) (x45 : Int) : Option (Ex Unit (List Int × Int)) :=
  if x45 < (len x42) then
    (idx x42 x45).bind fun x67 =>
    some (.go ((x42.set (x45).toNat (-1)), (w64 (x45 + 1))))
  else
    some (.ret ())
def fettlelaw08_LiveStays.nx53 (a1 : PModule) (a4 : Int) (x6 : Bool) (x8 : PModule) (x13 : List (List Bool) × List (List Bool) × GErr) (x23 : List Int × GErr) (x31 : List Int) (x39 : List (List Bool)) : Option Bool :=
  (whl (fun (s : (List Int × Int)) => fettlelaw08_LiveStays.bd85 s.1 s.2) FUEL (x23.1, 0)).bind fun z =>
  fettlelaw08_LiveStays.nx85 a1 a4 x6 x8 x13 x23 x31 x39
def fettlelaw08_LiveStays.nx215 (x38 : Int) (x77 : List (List Bool)) : Option (Ex (List (List Bool)) (List (List Bool) × Int)) :=
  some (.go (x77, (w64 (x38 + 1))))
def fettlelaw08_LiveStays.bd215 (x38 : Int) (x73 : List (List Bool)) (x76 : Int) : Option (Ex (List (List Bool)) (List (List Bool) × Int)) :=
  (idx x73 x38).bind fun x80 =>
  if x76 < (len x80) then
    (idx x73 x38).bind fun x88 =>
    (idx x88 x76).bind fun x98 =>
    some (.go ((x73.set (x38).toNat (x88.set (x76).toNat true)), (w64 (x76 + 1))))
  else
    some (.ret x73)
def fettlelaw08_LiveStays.bd53  (x35 : List (List Bool)) (x38 : Int) : Option (Ex (List (List Bool)) (List (List Bool) × Int)) :=
  if x38 < (len x35) then
    (whl (fun (s : (List (List Bool) × Int)) => fettlelaw08_LiveStays.bd215 x38 s.1 s.2) FUEL (x35, 0)).bind fun z =>
    fettlelaw08_LiveStays.nx215 x38 z
  else
    some (.ret x35)
def fettlelaw08_LiveStays (a1 : PModule) (a4 : Int) : Option Bool :=
  (fettlelaw08_up).bind fun x6 =>
  (fettleref02_Small a1).bind fun x7 =>
  if (!x7) = true then
    some x6
  else
    (fettleref02_Copy a1).bind fun x8 =>
    (live_Live x8 a4).bind fun x13 =>
    (live_Count x8 a4).bind fun x23 =>
    (cat ([] : List Int) x23.1).bind fun x31 =>
    (whl (fun (s : (List (List Bool) × Int)) => fettlelaw08_LiveStays.bd53 s.1 s.2) FUEL (x13.1, 0)).bind fun z =>
    fettlelaw08_LiveStays.nx53 a1 a4 x6 x8 x13 x23 x31 z
set_option maxHeartbeats 4000000 in
theorem fettlelaw08_LiveStays_ok {E : World} {H : FP} {w : World} {a1 : PModule} {a4 : Int} {v2 : Value} {r : Bool} (h3 : SlI kFunc H a1.funcs v2) (hp : fettlelaw08_LiveStays a1 a4 = some r) (hst : St E H [] w) :
    Fn Try.prog 10 #[.agg #[v2], .int .i64 a4] w fun v w' => ∃ A, fettlelaw08_LiveStays.R r v A ∧ St E H A w' := by
  refine Fn.body (fn := Try.f10) (args := [.agg #[v2], .int .i64 a4]) E H [] [.tmp 4] 128 Try.func10 rfl rfl rfl rfl (leb rfl) hst ?_
  unfold fettlelaw08_LiveStays at hp
  refine TC.seq fun K_1 hK_2 => ?_
  refine TC.region ?_
  refine TL.box (cs := [v2]) (v := .agg #[v2]) (ltb rfl) rfl rfl fun b5 => ?_
  refine TL.v (ltb rfl) (rv_as (v := .bool false) rfl) ?_
  refine TL.nil ?_
  refine TC.go hK_2 ?_
  refine TC.seq fun K_3 hK_4 => ?_
  refine TC.region ?_
  obtain ⟨x6, hy_5, hp⟩ := bind_some' hp
  refine TL.callC (vs := []) (R := fettlelaw08_up.R x6) [] [bx b5 90 [v2]] rfl cb_47 (ltb rfl) m0 (fun w hw => fettlelaw08_up_ok hy_5 hw) fun v A' hR_6 => ?_
  obtain ⟨rfl, rfl⟩ := hR_6
  refine TL.norm (L' := [bx b5 90 [v2]]) rfl ?_
  refine TL.v (ltb rfl) (rv_as (v := .bool x6) rfl) ?_
  refine TL.nil ?_
  refine TC.go hK_4 ?_
  refine TC.seq fun K_7 hK_8 => ?_
  refine TC.region ?_
  refine TL.v (ltb rfl) (rv_lda (o := 0) (o' := 0) (j := 0) (ds := [v2]) ag_90 rfl (Src.at_ 0 rfl) (bx_cells b5 90 _) rfl rfl rfl) ?_
  obtain ⟨x7, hy_9, hp⟩ := bind_some' hp
  refine TL.callC (vs := [.agg #[v2]]) (R := fettleref02_Small.R x7) [] [bx b5 90 [v2]] rfl cb_48 (ltb rfl) (mc rfl m0) (fun w hw => fettleref02_Small_ok (a1 := a1) (h3.mono subH) hy_9 hw) fun v A' hR_10 => ?_
  obtain ⟨rfl, rfl⟩ := hR_10
  refine TL.norm (L' := [bx b5 90 [v2]]) rfl ?_
  refine TL.v (ltb rfl) (rv_as (v := .bool x7) rfl) ?_
  refine TL.nil ?_
  refine TC.go hK_8 ?_
  refine TC.seq fun K_11 hK_12 => ?_
  refine TC.seq fun K_13 hK_14 => ?_
  refine TC.region ?_
  refine TL.v (ltb rfl) (rv_mv (v := .bool x7) rfl) ?_
  refine TL.v (ltb rfl) (rv_not (b := x7) rfl) ?_
  refine TL.nil ?_
  refine TC.go hK_14 ?_
  by_cases hc_15 : (!x7) = true
  · rw [if_pos hc_15] at hp
    refine TC.condT (bbT hc_15) ?_
    refine TC.seq fun K_16 hK_17 => ?_
    refine TC.region ?_
    refine TL.v (ltb rfl) (rv_mv (v := .bool x6) rfl) ?_
    refine TL.v (ltb rfl) (rv_as (v := .bool x6) rfl) ?_
    refine TL.nil ?_
    refine TC.go hK_17 ?_
    refine TC.ret ?_
    obtain rfl := Option.some.inj hp
    exact fun w hw => retOk ⟨rfl, rfl⟩ (hw.pick [])
  · rw [if_neg hc_15] at hp
    refine TC.condF (bbF hc_15) ?_
    refine TC.skip ?_
    refine TC.go hK_12 ?_
    refine TC.seq fun K_18 hK_19 => ?_
    refine TC.region ?_
    refine TL.v (ltb rfl) (rv_lda (o := 0) (o' := 0) (j := 0) (ds := [v2]) ag_90 rfl (Src.at_ 0 rfl) (bx_cells b5 90 _) rfl rfl rfl) ?_
    obtain ⟨x8, hy_20, hp⟩ := bind_some' hp
    refine TL.callC (vs := [.agg #[v2]]) (R := fettleref02_Copy.R x8) [] [bx b5 90 [v2]] rfl cb_49 (ltb rfl) (mc rfl m0) (fun w hw => fettleref02_Copy_ok (a1 := a1) (h3.mono subH) hy_20 hw) fun v A' hR_21 => ?_
    obtain ⟨v9, F10, rfl, rfl, h11⟩ := hR_21
    refine TL.norm (L' := [F10, bx b5 90 [v2]]) rfl ?_
    refine TL.alloc (cs := [.slice none 0 0]) inf_90 (ltb rfl) rfl fun b12 => ?_
    refine TL.stB (ds := [v9]) (o := 0) (cs := [.slice none 0 0]) (b := b12) (u := .agg #[v9]) 0 rfl ms_90 rfl rfl rfl (oc (h11).one oc0) (leb rfl) ?_
    refine TL.norm (L' := [bx b12 90 [v9], F10, bx b5 90 [v2]]) rfl ?_
    refine TL.nil ?_
    refine TC.go hK_19 ?_
    refine TC.seq fun K_22 hK_23 => ?_
    refine TC.region ?_
    refine TL.v (ltb rfl) (rv_lda (o := 0) (o' := 0) (j := 0) (ds := [v9]) ag_90 rfl (Src.at_ 0 rfl) (bx_cells b12 90 _) rfl rfl rfl) ?_
    refine TL.v (ltb rfl) (rv_mv (v := .int .i64 a4) rfl) ?_
    obtain ⟨x13, hy_24, hp⟩ := bind_some' hp
    refine TL.callC (vs := [.agg #[v9], .int .i64 a4]) (R := live_Live.R x13) [] [bx b12 90 [v9], F10, bx b5 90 [v2]] rfl cb_50 (ltb rfl) (mc rfl (mc rfl m0)) (fun w hw => live_Live_ok (a1 := x8) (a4 := a4) (h11.ro.mono (subB 1 rfl)) hy_24 hw) fun v A' hR_25 => ?_
    obtain ⟨v14, F15, v17, F18, v20, F21, rfl, rfl, h16, h19, h22⟩ := hR_25
    refine TL.norm (L' := [F15, F18, F21, bx b12 90 [v9], F10, bx b5 90 [v2]]) rfl ?_
    refine TL.v (ltb rfl) (rv_mv (v := .tuple #[v14, v17, v20]) rfl) ?_
    refine TL.v (ltb rfl) (rv_extract (vs := #[v14, v17, v20]) (v := v14) rfl rfl) ?_
    refine TL.v (ltb rfl) (rv_extract (vs := #[v14, v17, v20]) (v := v17) rfl rfl) ?_
    refine TL.v (ltb rfl) (rv_extract (vs := #[v14, v17, v20]) (v := v20) rfl rfl) ?_
    refine TL.v (ltb rfl) (rv_as (v := v14) rfl) ?_
    refine TL.v (ltb rfl) (rv_as (v := v17) rfl) ?_
    refine TL.v (ltb rfl) (rv_as (v := v20) rfl) ?_
    refine TL.nil ?_
    refine TC.go hK_23 ?_
    refine TC.seq fun K_26 hK_27 => ?_
    refine TC.region ?_
    refine TL.v (ltb rfl) (rv_lda (o := 0) (o' := 0) (j := 0) (ds := [v9]) ag_90 rfl (Src.at_ 3 rfl) (bx_cells b12 90 _) rfl rfl rfl) ?_
    refine TL.v (ltb rfl) (rv_mv (v := .int .i64 a4) rfl) ?_
    obtain ⟨x23, hy_28, hp⟩ := bind_some' hp
    refine TL.callC (vs := [.agg #[v9], .int .i64 a4]) (R := live_Count.R x23) [] [F15, F18, F21, bx b12 90 [v9], F10, bx b5 90 [v2]] rfl cb_51 (ltb rfl) (mc rfl (mc rfl m0)) (fun w hw => live_Count_ok (a1 := x8) (a4 := a4) (h11.ro.mono (subB 4 rfl)) hy_28 hw) fun v A' hR_29 => ?_
    obtain ⟨v24, F25, v27, F28, rfl, rfl, h26, h29⟩ := hR_29
    refine TL.norm (L' := [F25, F28, F15, F18, F21, bx b12 90 [v9], F10, bx b5 90 [v2]]) rfl ?_
    refine TL.v (ltb rfl) (rv_mv (v := .tuple #[v24, v27]) rfl) ?_
    refine TL.v (ltb rfl) (rv_extract (vs := #[v24, v27]) (v := v24) rfl rfl) ?_
    refine TL.v (ltb rfl) (rv_extract (vs := #[v24, v27]) (v := v27) rfl rfl) ?_
    refine TL.v (ltb rfl) (rv_as (v := v24) rfl) ?_
    refine TL.v (ltb rfl) (rv_as (v := v27) rfl) ?_
    refine TL.nil ?_
    refine TC.go hK_27 ?_
    refine TC.seq fun K_30 hK_31 => ?_
    refine TC.region ?_
    refine TL.bs0 Try.underlying22 inf_3 (ltb rfl) fun b30 => ?_
    refine TL.v (ltb rfl) (rv_mv (v := v24) rfl) ?_
    obtain ⟨x31, hz_32, hp⟩ := bind_some' hp
    refine TL.appI (u := v24) (fInt .i64) Try.underlying22 inf_3 (ltb rfl) rfl (ltb rfl) rfl (leb rfl) rfl rfl (SlO.lit0 (k := (kInt .i64)) b30) h26.ro (Src.at_ 1 rfl) hz_32 fun v32 F33 h34 => ?_
    refine TL.v (ltb rfl) (rv_as (v := v32) rfl) ?_
    refine TL.nil ?_
    refine TC.go hK_31 ?_
    refine TC.seq fun K_33 hK_34 => ?_
    refine TC.seq fun K_35 hK_36 => ?_
    refine TC.region ?_
    refine TL.v (ltb rfl) (rv_as (v := .int .i64 0) rfl) ?_
    refine TL.nil ?_
    refine TC.go hK_36 ?_
    refine TC.block ?_
    obtain ⟨z_49, hz_50, hr_51⟩ := bind_some' hp
    clear hp
    have hJ_187 : ∀ (x39 : List (List Bool)) (F40 : FP) (e_54 : Env) (h41 : SlO 30 (kSl 4 kBool) x39 v14 F40) (h_55 : e_54 1 = .int .i64 a4) (h_56 : e_54 2 = .pointer (some ⟨b5, 0, none⟩)) (h_57 : e_54 5 = .bool x6) (h_58 : e_54 7 = .pointer (some ⟨b12, 0, none⟩)) (h_59 : e_54 8 = v14) (h_60 : e_54 9 = v17) (h_61 : e_54 10 = v20) (h_62 : e_54 11 = v24) (h_63 : e_54 12 = v27) (h_64 : e_54 13 = v32) (hq_188 : x39 = z_49), ∀ w, St E H [bx b5 90 [v2], bx b12 90 [v9], F10, F40, F18, F21, F25, F28, F33] w → K_33 e_54 w := by
      intro x39 F40 e_54 h41 h_55 h_56 h_57 h_58 h_59 h_60 h_61 h_62 h_63 h_64 hq_188
      subst hq_188
      replace hp : fettlelaw08_LiveStays.nx53 a1 a4 x6 x8 x13 x23 x31 x39 = some r := hr_51
      unfold fettlelaw08_LiveStays.nx53 at hp
      refine TC.go hK_34 ?_
      refine TC.seq fun K_65 hK_66 => ?_
      refine TC.seq fun K_67 hK_68 => ?_
      refine TC.region ?_
      refine TL.v (ltb rfl) (rv_as (v := .int .i64 0) rfl) ?_
      refine TL.nil ?_
      refine TC.go hK_68 ?_
      refine TC.block ?_
      obtain ⟨z_81, hz_82, hr_83⟩ := bind_some' hp
      clear hp
      have hJ_176 : ∀ (e_86 : Env) (h_87 : e_86 1 = .int .i64 a4) (h_88 : e_86 2 = .pointer (some ⟨b5, 0, none⟩)) (h_89 : e_86 5 = .bool x6) (h_90 : e_86 7 = .pointer (some ⟨b12, 0, none⟩)) (h_91 : e_86 8 = v14) (h_92 : e_86 9 = v17) (h_93 : e_86 10 = v20) (h_94 : e_86 12 = v27) (h_95 : e_86 13 = v32) (hq_177 : () = z_81), ∀ w, St E H [bx b5 90 [v2], bx b12 90 [v9], F10, F40, F18, F21, F28, F33] w → K_65 e_86 w := by
        intro e_86 h_87 h_88 h_89 h_90 h_91 h_92 h_93 h_94 h_95 hq_177
        subst hq_177
        replace hp : fettlelaw08_LiveStays.nx85 a1 a4 x6 x8 x13 x23 x31 x39 = some r := hr_83
        unfold fettlelaw08_LiveStays.nx85 at hp
        refine TC.go hK_66 ?_
        refine TC.seq fun K_96 hK_97 => ?_
        refine TC.region ?_
        refine TL.v (ltb rfl) (rv_lda (o := 0) (o' := 0) (j := 0) (ds := [v9]) ag_90 h_90 (Src.at_ 1 rfl) (bx_cells b12 90 _) rfl rfl rfl) ?_
        refine TL.v (ltb rfl) (rv_mv (v := .int .i64 a4) h_87) ?_
        obtain ⟨x46, hy_98, hp⟩ := bind_some' hp
        refine TL.callC (vs := [.agg #[v9], .int .i64 a4]) (R := live_Live.R x46) [] [bx b5 90 [v2], bx b12 90 [v9], F10, F40, F18, F21, F28, F33] rfl cb_50 (ltb rfl) (mc rfl (mc rfl m0)) (fun w hw => live_Live_ok (a1 := x8) (a4 := a4) (h11.ro.mono (subB 2 rfl)) hy_98 hw) fun v A' hR_99 => ?_
        obtain ⟨v47, F48, v50, F51, v53, F54, rfl, rfl, h49, h52, h55⟩ := hR_99
        refine TL.norm (L' := [F48, F51, F54, bx b5 90 [v2], bx b12 90 [v9], F10, F40, F18, F21, F28, F33]) rfl ?_
        refine TL.v (ltb rfl) (rv_mv (v := .tuple #[v47, v50, v53]) rfl) ?_
        refine TL.v (ltb rfl) (rv_extract (vs := #[v47, v50, v53]) (v := v47) rfl rfl) ?_
        refine TL.v (ltb rfl) (rv_extract (vs := #[v47, v50, v53]) (v := v50) rfl rfl) ?_
        refine TL.v (ltb rfl) (rv_extract (vs := #[v47, v50, v53]) (v := v53) rfl rfl) ?_
        refine TL.v (ltb rfl) (rv_as (v := v47) rfl) ?_
        refine TL.v (ltb rfl) (rv_as (v := v50) rfl) ?_
        refine TL.v (ltb rfl) (rv_as (v := v53) rfl) ?_
        refine TL.nil ?_
        refine TC.go hK_97 ?_
        refine TC.seq fun K_100 hK_101 => ?_
        refine TC.region ?_
        refine TL.v (ltb rfl) (rv_lda (o := 0) (o' := 0) (j := 0) (ds := [v9]) ag_90 h_90 (Src.at_ 4 rfl) (bx_cells b12 90 _) rfl rfl rfl) ?_
        refine TL.v (ltb rfl) (rv_mv (v := .int .i64 a4) h_87) ?_
        obtain ⟨x56, hy_102, hp⟩ := bind_some' hp
        refine TL.callC (vs := [.agg #[v9], .int .i64 a4]) (R := live_Count.R x56) [] [F48, F51, F54, bx b5 90 [v2], bx b12 90 [v9], F10, F40, F18, F21, F28, F33] rfl cb_51 (ltb rfl) (mc rfl (mc rfl m0)) (fun w hw => live_Count_ok (a1 := x8) (a4 := a4) (h11.ro.mono (subB 5 rfl)) hy_102 hw) fun v A' hR_103 => ?_
        obtain ⟨v57, F58, v60, F61, rfl, rfl, h59, h62⟩ := hR_103
        refine TL.norm (L' := [F58, F61, F48, F51, F54, bx b5 90 [v2], bx b12 90 [v9], F10, F40, F18, F21, F28, F33]) rfl ?_
        refine TL.v (ltb rfl) (rv_mv (v := .tuple #[v57, v60]) rfl) ?_
        refine TL.v (ltb rfl) (rv_extract (vs := #[v57, v60]) (v := v57) rfl rfl) ?_
        refine TL.v (ltb rfl) (rv_extract (vs := #[v57, v60]) (v := v60) rfl rfl) ?_
        refine TL.v (ltb rfl) (rv_as (v := v57) rfl) ?_
        refine TL.v (ltb rfl) (rv_as (v := v60) rfl) ?_
        refine TL.nil ?_
        refine TC.go hK_101 ?_
        refine TC.seq fun K_104 hK_105 => ?_
        refine TC.quiet mix (by kernel_rfl) ?_
        refine QL.v (ltb rfl) (rv_mv (v := .bool x6) h_89) ?_
        refine QL.v (ltb rfl) (rv_mv (v := .bool x6) rfl) ?_
        obtain ⟨t63, ht_174, hp⟩ := bind_some' hp
        refine QL.cut 4 fun K_106 hK_107 => ?_
        have hJ_108 : ∀ e_110 : Env, e_110 8 = v14 → e_110 9 = v17 → e_110 10 = v20 → e_110 12 = v27 → e_110 13 = v32 → e_110 17 = v47 → e_110 18 = v50 → e_110 19 = v53 → e_110 20 = v57 → e_110 21 = v60 → e_110 94 = .bool t63 → K_106 e_110 := by
          intro e_110 h_111 h_112 h_113 h_114 h_115 h_116 h_117 h_118 h_119 h_120 h_121
          refine hK_107 _ ?_
          refine QL.v (ltb rfl) (rv_mv (v := .bool t63) h_121) ?_
          refine QL.cut 6 fun K_122 hK_123 => ?_
          have hJ_124 : ∀ e_126 : Env, e_126 9 = v17 → e_126 10 = v20 → e_126 12 = v27 → e_126 13 = v32 → e_126 18 = v50 → e_126 19 = v53 → e_126 20 = v57 → e_126 21 = v60 → e_126 101 = .bool (decide (t63 = true ∧ (len x46.1) = (len x39))) → K_122 e_126 := by
            intro e_126 h_127 h_128 h_129 h_130 h_131 h_132 h_133 h_134 h_135
            refine hK_123 _ ?_
            refine QL.v (ltb rfl) (rv_mv (v := .bool (decide (t63 = true ∧ (len x46.1) = (len x39)))) h_135) ?_
            refine QL.cut 6 fun K_136 hK_137 => ?_
            have hJ_138 : ∀ e_140 : Env, e_140 10 = v20 → e_140 12 = v27 → e_140 13 = v32 → e_140 19 = v53 → e_140 20 = v57 → e_140 21 = v60 → e_140 108 = .bool (decide ((t63 = true ∧ (len x46.1) = (len x39)) ∧ (len x46.2.1) = (len x13.2.1))) → K_136 e_140 := by
              intro e_140 h_141 h_142 h_143 h_144 h_145 h_146 h_147
              refine hK_137 _ ?_
              refine QL.v (ltb rfl) (rv_mv (v := .bool (decide ((t63 = true ∧ (len x46.1) = (len x39)) ∧ (len x46.2.1) = (len x13.2.1)))) h_147) ?_
              refine QL.cut 6 fun K_148 hK_149 => ?_
              have hJ_150 : ∀ e_152 : Env, e_152 12 = v27 → e_152 13 = v32 → e_152 20 = v57 → e_152 21 = v60 → e_152 115 = .bool (decide (((t63 = true ∧ (len x46.1) = (len x39)) ∧ (len x46.2.1) = (len x13.2.1)) ∧ (((decide (x13.2.2 = GErr.no)) == (decide (x46.2.2 = GErr.no))) = true))) → K_148 e_152 := by
                intro e_152 h_153 h_154 h_155 h_156 h_157
                refine hK_149 _ ?_
                refine QL.v (ltb rfl) (rv_mv (v := .bool (decide (((t63 = true ∧ (len x46.1) = (len x39)) ∧ (len x46.2.1) = (len x13.2.1)) ∧ (((decide (x13.2.2 = GErr.no)) == (decide (x46.2.2 = GErr.no))) = true)))) h_157) ?_
                refine QL.cut 6 fun K_158 hK_159 => ?_
                have hJ_160 : ∀ e_162 : Env, e_162 13 = v32 → e_162 20 = v57 → e_162 122 = .bool (decide ((((t63 = true ∧ (len x46.1) = (len x39)) ∧ (len x46.2.1) = (len x13.2.1)) ∧ (((decide (x13.2.2 = GErr.no)) == (decide (x46.2.2 = GErr.no))) = true)) ∧ (((decide (x23.2 = GErr.no)) == (decide (x56.2 = GErr.no))) = true))) → K_158 e_162 := by
                  intro e_162 h_163 h_164 h_165
                  refine hK_159 _ ?_
                  refine QL.v (ltb rfl) (rv_mv (v := .bool (decide ((((t63 = true ∧ (len x46.1) = (len x39)) ∧ (len x46.2.1) = (len x13.2.1)) ∧ (((decide (x13.2.2 = GErr.no)) == (decide (x46.2.2 = GErr.no))) = true)) ∧ (((decide (x23.2 = GErr.no)) == (decide (x56.2 = GErr.no))) = true)))) h_165) ?_
                  obtain ⟨t64, ht_172, hp⟩ := bind_some' hp
                  refine QL.cut 4 fun K_166 hK_167 => ?_
                  have hJ_168 : ∀ e_170 : Env, e_170 127 = .bool t64 → K_166 e_170 := by
                    intro e_170 h_171
                    refine hK_167 _ ?_
                    refine QL.v (ltb rfl) (rv_as (v := .bool t64) h_171) ?_
                    refine QL.nil ?_
                    refine TC.go hK_105 ?_
                    refine TC.ret ?_
                    obtain rfl := Option.some.inj hp
                    exact fun w hw => retOk ⟨rfl, rfl⟩ (hw.pick [])
                  clear hp
                  have hp := ht_172
                  clear ht_172
                  by_cases hc_169 : (((t63 = true ∧ (len x46.1) = (len x39)) ∧ (len x46.2.1) = (len x13.2.1)) ∧ (((decide (x13.2.2 = GErr.no)) == (decide (x46.2.2 = GErr.no))) = true)) ∧ (((decide (x23.2 = GErr.no)) == (decide (x56.2 = GErr.no))) = true)
                  · rw [if_pos hc_169] at hp
                    refine QL.gyes true (yieldE_of rfl (bT hc_169)) rfl ?_
                    refine QL.v (ltb rfl) (rv_mv (v := v57) h_164) ?_
                    refine QL.gyes true (yieldE_of rfl (bT hc_169)) rfl ?_
                    refine QL.v (ltb rfl) (rv_mv (v := v32) h_163) ?_
                    refine QL.gyes true (yieldE_of rfl (bT hc_169)) rfl ?_
                    obtain ⟨x65, hy_173, hp⟩ := bind_some' hp
                    refine QL.callC (vs := [v57, v32]) (R := fettlelaw05_Ints.R x65) (.bool x65) cb_22 (ltb rfl) (mc rfl (mc rfl m0)) (fun w hw => fettlelaw05_Ints_ok (a1 := x56.1) (a4 := x31) (h59.ro.mono (subB 0 rfl)) (h34.ro.mono (subB 12 rfl)) hy_173 hw) (fun u A' h => ⟨h.1.symm, h.2⟩) ?_
                    refine QL.v (ltb rfl) (rv_pickT true (bT hc_169) rfl (v := .bool x65) rfl) ?_
                    obtain rfl := Option.some.inj hp
                    refine QL.nil (hJ_168 _ ?_)
                    · exact rfl
                  · rw [if_neg hc_169] at hp
                    refine QL.gno false rfl (fun d hd => by cases hd; exact ltb rfl) (yieldE_of rfl (bF hc_169)) rfl ?_
                    refine QL.gno false rfl (fun d hd => by cases hd; exact ltb rfl) (yieldE_of rfl (bF hc_169)) rfl ?_
                    refine QL.gno false rfl (fun d hd => by cases hd; exact ltb rfl) (yieldE_of rfl (bF hc_169)) rfl ?_
                    refine QL.v (ltb rfl) (rv_pickF false (bF hc_169) rfl (v := .bool false) rfl) ?_
                    obtain rfl := Option.some.inj hp
                    refine QL.nil (hJ_168 _ ?_)
                    · exact rfl
                by_cases hc_161 : ((t63 = true ∧ (len x46.1) = (len x39)) ∧ (len x46.2.1) = (len x13.2.1)) ∧ (((decide (x13.2.2 = GErr.no)) == (decide (x46.2.2 = GErr.no))) = true)
                · refine QL.gyes true (yieldE_of rfl (bT hc_161)) rfl ?_
                  refine QL.v (ltb rfl) (rv_mv (v := v27) h_153) ?_
                  refine QL.gyes true (yieldE_of rfl (bT hc_161)) rfl ?_
                  refine QL.v (ltb rfl) (rv_eqlEN ifc_49 h29 rfl) ?_
                  refine QL.gyes true (yieldE_of rfl (bT hc_161)) rfl ?_
                  refine QL.v (ltb rfl) (rv_mv (v := v60) h_156) ?_
                  refine QL.gyes true (yieldE_of rfl (bT hc_161)) rfl ?_
                  refine QL.v (ltb rfl) (rv_eqlEN ifc_49 h62 rfl) ?_
                  refine QL.gyes true (yieldE_of rfl (bT hc_161)) rfl ?_
                  refine QL.v (ltb rfl) (rv_eqlB (b := (decide (x23.2 = GErr.no))) (c := (decide (x56.2 = GErr.no))) Try.underlying4 rfl rfl) ?_
                  refine QL.v (ltb rfl) (rv_pickT true (bT hc_161) rfl (v := .bool ((decide (x23.2 = GErr.no)) == (decide (x56.2 = GErr.no)))) rfl) ?_
                  refine QL.nil (hJ_160 _ ?_ ?_ ?_)
                  · exact h_154
                  · exact h_155
                  · exact (bAt' hc_161)
                · refine QL.gno false rfl (fun d hd => by cases hd; exact ltb rfl) (yieldE_of rfl (bF hc_161)) rfl ?_
                  refine QL.gno false rfl (fun d hd => by cases hd; exact ltb rfl) (yieldE_of rfl (bF hc_161)) rfl ?_
                  refine QL.gno false rfl (fun d hd => by cases hd; exact ltb rfl) (yieldE_of rfl (bF hc_161)) rfl ?_
                  refine QL.gno false rfl (fun d hd => by cases hd; exact ltb rfl) (yieldE_of rfl (bF hc_161)) rfl ?_
                  refine QL.gno false rfl (fun d hd => by cases hd; exact ltb rfl) (yieldE_of rfl (bF hc_161)) rfl ?_
                  refine QL.v (ltb rfl) (rv_pickF false (bF hc_161) rfl (v := .bool false) rfl) ?_
                  refine QL.nil (hJ_160 _ ?_ ?_ ?_)
                  · exact h_154
                  · exact h_155
                  · exact (bAf hc_161)
              by_cases hc_151 : (t63 = true ∧ (len x46.1) = (len x39)) ∧ (len x46.2.1) = (len x13.2.1)
              · refine QL.gyes true (yieldE_of rfl (bT hc_151)) rfl ?_
                refine QL.v (ltb rfl) (rv_mv (v := v20) h_141) ?_
                refine QL.gyes true (yieldE_of rfl (bT hc_151)) rfl ?_
                refine QL.v (ltb rfl) (rv_eqlEN ifc_49 h22 rfl) ?_
                refine QL.gyes true (yieldE_of rfl (bT hc_151)) rfl ?_
                refine QL.v (ltb rfl) (rv_mv (v := v53) h_144) ?_
                refine QL.gyes true (yieldE_of rfl (bT hc_151)) rfl ?_
                refine QL.v (ltb rfl) (rv_eqlEN ifc_49 h55 rfl) ?_
                refine QL.gyes true (yieldE_of rfl (bT hc_151)) rfl ?_
                refine QL.v (ltb rfl) (rv_eqlB (b := (decide (x13.2.2 = GErr.no))) (c := (decide (x46.2.2 = GErr.no))) Try.underlying4 rfl rfl) ?_
                refine QL.v (ltb rfl) (rv_pickT true (bT hc_151) rfl (v := .bool ((decide (x13.2.2 = GErr.no)) == (decide (x46.2.2 = GErr.no)))) rfl) ?_
                refine QL.nil (hJ_150 _ ?_ ?_ ?_ ?_ ?_)
                · exact h_142
                · exact h_143
                · exact h_145
                · exact h_146
                · exact (bAt' hc_151)
              · refine QL.gno false rfl (fun d hd => by cases hd; exact ltb rfl) (yieldE_of rfl (bF hc_151)) rfl ?_
                refine QL.gno false rfl (fun d hd => by cases hd; exact ltb rfl) (yieldE_of rfl (bF hc_151)) rfl ?_
                refine QL.gno false rfl (fun d hd => by cases hd; exact ltb rfl) (yieldE_of rfl (bF hc_151)) rfl ?_
                refine QL.gno false rfl (fun d hd => by cases hd; exact ltb rfl) (yieldE_of rfl (bF hc_151)) rfl ?_
                refine QL.gno false rfl (fun d hd => by cases hd; exact ltb rfl) (yieldE_of rfl (bF hc_151)) rfl ?_
                refine QL.v (ltb rfl) (rv_pickF false (bF hc_151) rfl (v := .bool false) rfl) ?_
                refine QL.nil (hJ_150 _ ?_ ?_ ?_ ?_ ?_)
                · exact h_142
                · exact h_143
                · exact h_145
                · exact h_146
                · exact (bAf hc_151)
            by_cases hc_139 : t63 = true ∧ (len x46.1) = (len x39)
            · refine QL.gyes true (yieldE_of rfl (bT hc_139)) rfl ?_
              refine QL.v (ltb rfl) (rv_mv (v := v50) h_131) ?_
              refine QL.gyes true (yieldE_of rfl (bT hc_139)) rfl ?_
              refine QL.v (ltb rfl) (rv_lenI (v := v50) Try.underlying93 rfl h52.ro) ?_
              refine QL.gyes true (yieldE_of rfl (bT hc_139)) rfl ?_
              refine QL.v (ltb rfl) (rv_mv (v := v17) h_127) ?_
              refine QL.gyes true (yieldE_of rfl (bT hc_139)) rfl ?_
              refine QL.v (ltb rfl) (rv_lenI (v := v17) Try.underlying93 rfl h19.ro) ?_
              refine QL.gyes true (yieldE_of rfl (bT hc_139)) rfl ?_
              refine QL.v (ltb rfl) (rv_eql (k := .i64) (m := (len x46.2.1)) (n := (len x13.2.1)) rfl rfl) ?_
              refine QL.v (ltb rfl) (rv_pickT true (bT hc_139) rfl (v := .bool (decide ((len x46.2.1) = (len x13.2.1)))) rfl) ?_
              refine QL.nil (hJ_138 _ ?_ ?_ ?_ ?_ ?_ ?_ ?_)
              · exact h_128
              · exact h_129
              · exact h_130
              · exact h_132
              · exact h_133
              · exact h_134
              · exact (bAt hc_139)
            · refine QL.gno false rfl (fun d hd => by cases hd; exact ltb rfl) (yieldE_of rfl (bF hc_139)) rfl ?_
              refine QL.gno false rfl (fun d hd => by cases hd; exact ltb rfl) (yieldE_of rfl (bF hc_139)) rfl ?_
              refine QL.gno false rfl (fun d hd => by cases hd; exact ltb rfl) (yieldE_of rfl (bF hc_139)) rfl ?_
              refine QL.gno false rfl (fun d hd => by cases hd; exact ltb rfl) (yieldE_of rfl (bF hc_139)) rfl ?_
              refine QL.gno false rfl (fun d hd => by cases hd; exact ltb rfl) (yieldE_of rfl (bF hc_139)) rfl ?_
              refine QL.v (ltb rfl) (rv_pickF false (bF hc_139) rfl (v := .bool false) rfl) ?_
              refine QL.nil (hJ_138 _ ?_ ?_ ?_ ?_ ?_ ?_ ?_)
              · exact h_128
              · exact h_129
              · exact h_130
              · exact h_132
              · exact h_133
              · exact h_134
              · exact (bAf hc_139)
          by_cases hc_125 : t63 = true
          · refine QL.gyes true (yieldE_of rfl (bbT hc_125)) rfl ?_
            refine QL.v (ltb rfl) (rv_mv (v := v47) h_116) ?_
            refine QL.gyes true (yieldE_of rfl (bbT hc_125)) rfl ?_
            refine QL.v (ltb rfl) (rv_lenI (v := v47) Try.underlying93 rfl h49.ro) ?_
            refine QL.gyes true (yieldE_of rfl (bbT hc_125)) rfl ?_
            refine QL.v (ltb rfl) (rv_mv (v := v14) h_111) ?_
            refine QL.gyes true (yieldE_of rfl (bbT hc_125)) rfl ?_
            refine QL.v (ltb rfl) (rv_lenI (v := v14) Try.underlying93 rfl h41.ro) ?_
            refine QL.gyes true (yieldE_of rfl (bbT hc_125)) rfl ?_
            refine QL.v (ltb rfl) (rv_eql (k := .i64) (m := (len x46.1)) (n := (len x39)) rfl rfl) ?_
            refine QL.v (ltb rfl) (rv_pickT true (bbT hc_125) rfl (v := .bool (decide ((len x46.1) = (len x39)))) rfl) ?_
            refine QL.nil (hJ_124 _ ?_ ?_ ?_ ?_ ?_ ?_ ?_ ?_ ?_)
            · exact h_112
            · exact h_113
            · exact h_114
            · exact h_115
            · exact h_117
            · exact h_118
            · exact h_119
            · exact h_120
            · exact (bAt hc_125)
          · refine QL.gno false rfl (fun d hd => by cases hd; exact ltb rfl) (yieldE_of rfl (bbF hc_125)) rfl ?_
            refine QL.gno false rfl (fun d hd => by cases hd; exact ltb rfl) (yieldE_of rfl (bbF hc_125)) rfl ?_
            refine QL.gno false rfl (fun d hd => by cases hd; exact ltb rfl) (yieldE_of rfl (bbF hc_125)) rfl ?_
            refine QL.gno false rfl (fun d hd => by cases hd; exact ltb rfl) (yieldE_of rfl (bbF hc_125)) rfl ?_
            refine QL.gno false rfl (fun d hd => by cases hd; exact ltb rfl) (yieldE_of rfl (bbF hc_125)) rfl ?_
            refine QL.v (ltb rfl) (rv_pickF false (bbF hc_125) rfl (v := .bool false) rfl) ?_
            refine QL.nil (hJ_124 _ ?_ ?_ ?_ ?_ ?_ ?_ ?_ ?_ ?_)
            · exact h_112
            · exact h_113
            · exact h_114
            · exact h_115
            · exact h_117
            · exact h_118
            · exact h_119
            · exact h_120
            · exact (bAf hc_125)
        clear hp
        have hp := ht_174
        clear ht_174
        by_cases hc_109 : x6 = true
        · rw [if_pos hc_109] at hp
          refine QL.gyes true (yieldE_of rfl (bbT hc_109)) rfl ?_
          refine QL.v (ltb rfl) (rv_lda (o := 0) (o' := 0) (j := 0) (ds := [v9]) ag_90 h_90 (Src.at_ 6 rfl) (bx_cells b12 90 _) rfl rfl rfl) ?_
          refine QL.gyes true (yieldE_of rfl (bbT hc_109)) rfl ?_
          refine QL.v (ltb rfl) (rv_lda (o := 0) (o' := 0) (j := 0) (ds := [v2]) ag_90 h_88 (Src.at_ 5 rfl) (bx_cells b5 90 _) rfl rfl rfl) ?_
          refine QL.gyes true (yieldE_of rfl (bbT hc_109)) rfl ?_
          obtain ⟨x66, hy_175, hp⟩ := bind_some' hp
          refine QL.callC (vs := [.agg #[v9], .agg #[v2]]) (R := fettleref02_Same.R x66) (.bool x66) cb_52 (ltb rfl) (mc rfl (mc rfl m0)) (fun w hw => fettleref02_Same_ok (a1 := x8) (a4 := a1) (h11.ro.mono (subB 7 rfl)) (h3.mono subH) hy_175 hw) (fun u A' h => ⟨h.1.symm, h.2⟩) ?_
          refine QL.v (ltb rfl) (rv_pickT true (bbT hc_109) rfl (v := .bool x66) rfl) ?_
          obtain rfl := Option.some.inj hp
          refine QL.nil (hJ_108 _ ?_ ?_ ?_ ?_ ?_ ?_ ?_ ?_ ?_ ?_ ?_)
          · exact h_91
          · exact h_92
          · exact h_93
          · exact h_94
          · exact h_95
          · exact rfl
          · exact rfl
          · exact rfl
          · exact rfl
          · exact rfl
          · exact rfl
        · rw [if_neg hc_109] at hp
          refine QL.gno false rfl (fun d hd => by cases hd; exact ltb rfl) (yieldE_of rfl (bbF hc_109)) rfl ?_
          refine QL.gno false rfl (fun d hd => by cases hd; exact ltb rfl) (yieldE_of rfl (bbF hc_109)) rfl ?_
          refine QL.gno false rfl (fun d hd => by cases hd; exact ltb rfl) (yieldE_of rfl (bbF hc_109)) rfl ?_
          refine QL.v (ltb rfl) (rv_pickF false (bbF hc_109) rfl (v := .bool false) rfl) ?_
          obtain rfl := Option.some.inj hp
          refine QL.nil (hJ_108 _ ?_ ?_ ?_ ?_ ?_ ?_ ?_ ?_ ?_ ?_ ?_)
          · exact h_91
          · exact h_92
          · exact h_93
          · exact h_94
          · exact h_95
          · exact rfl
          · exact rfl
          · exact rfl
          · exact rfl
          · exact rfl
          · exact rfl
      refine TC.pk' [0, 0, 0, 0, 0, 0, 0, 0, 0] (L' := [bx b5 90 [v2], bx b12 90 [v9], F10, F40, F18, F21, F25, F28, F33]) rfl ?_
      refine TC.loopW (r := z_81) (fun (s : (List Int × Int)) (e_69 : Env) (L_186 : List FP) => ∃ (x42 : List Int) (x45 : Int) (F43 : FP), s = (x42, x45) ∧ SlO 3 (kInt .i64) x42 v24 F43 ∧ e_69 1 = .int .i64 a4 ∧ e_69 2 = .pointer (some ⟨b5, 0, none⟩) ∧ e_69 5 = .bool x6 ∧ e_69 7 = .pointer (some ⟨b12, 0, none⟩) ∧ e_69 8 = v14 ∧ e_69 9 = v17 ∧ e_69 10 = v20 ∧ e_69 11 = v24 ∧ e_69 12 = v27 ∧ e_69 13 = v32 ∧ e_69 16 = .int .i64 x45 ∧ L_186 = [bx b5 90 [v2], bx b12 90 [v9], F10, F40, F18, F21, F43, F28, F33]) ?_ FUEL _ _ _ hz_82 ⟨x23.1, 0, F25, rfl, h26, h_55, h_56, h_57, h_58, h_59, h_60, h_61, h_62, h_63, h_64, rfl, rfl⟩
      rintro s e_69 L_186 ⟨x42, x45, F43, rfl, h44, h_70, h_71, h_72, h_73, h_74, h_75, h_76, h_77, h_78, h_79, h_80, rfl⟩ x_84 hp hx_85
      replace hp : fettlelaw08_LiveStays.bd85 x42 x45 = some x_84 := hp
      unfold fettlelaw08_LiveStays.bd85 at hp
      refine TC.seq fun K_178 hK_179 => ?_
      refine TC.seq fun K_180 hK_181 => ?_
      refine TC.region ?_
      refine TL.v (ltb rfl) (rv_mv (v := .int .i64 x45) h_80) ?_
      refine TL.v (ltb rfl) (rv_mv (v := v24) h_77) ?_
      refine TL.v (ltb rfl) (rv_lenI (v := v24) Try.underlying22 rfl h44.ro) ?_
      refine TL.v (ltb rfl) (rv_lss (k := .i64) (m := x45) (n := (len x42)) rfl rfl) ?_
      refine TL.nil ?_
      refine TC.go hK_181 ?_
      by_cases hc_182 : x45 < (len x42)
      · rw [if_pos hc_182] at hp
        refine TC.condT (bT hc_182) ?_
        refine TC.skip ?_
        refine TC.go hK_179 ?_
        refine TC.seq fun K_183 hK_184 => ?_
        refine TC.block ?_
        refine TC.region ?_
        refine TL.v (ltb rfl) (rv_mv (v := v24) h_77) ?_
        refine TL.v (ltb rfl) (rv_mv (v := .int .i64 x45) h_80) ?_
        obtain ⟨x67, hx_185, hp⟩ := bind_some' hp
        refine TL.v2 (ltb rfl) (rv_ixO 22 (.tmp 73) (.tmp 74) (v := v24) (i := x45) Try.underlying22 inf_3 rfl rfl rfl h44 (idx_some hx_185).1 (idx_some hx_185).2.1) fun b68 o69 h70 => ?_
        refine TL.pk' [6, 0, 0, 0, 0, 0, 0, 0, 0] (L' := [F43, bx b5 90 [v2], bx b12 90 [v9], F10, F40, F18, F21, F28, F33]) rfl ?_
        refine TL.stE0 (ds := [.int .i64 (-1)]) (u := .int .i64 (-1)) (a := -1) h44 h70 ms_3 rfl rfl rfl ⟨rfl, rfl⟩ fun F71 h72 => ?_
        refine TL.nil ?_
        refine TC.go hK_184 ?_
        refine TC.region ?_
        refine TL.v (ltb rfl) (rv_mv (v := .int .i64 x45) h_80) ?_
        refine TL.v (ltb rfl) (rv_add (k := .i64) (m := x45) (n := 1) rfl rfl) ?_
        refine TL.v (ltb rfl) (rv_as (v := .int .i64 (w64 (x45 + 1))) rfl) ?_
        refine TL.nil ?_
        exact fun w hw => goOk hp ⟨(x42.set (x45).toNat (-1)), (w64 (x45 + 1)), F71, rfl, h72, h_70, h_71, h_72, h_73, h_74, h_75, h_76, h_77, h_78, h_79, rfl, rfl⟩ (hw.pick [1, 1, 1, 1, 1, 1, 0, 0, 0])
      · rw [if_neg hc_182] at hp
        refine TC.condF (bF hc_182) ?_
        refine TC.exit ?_
        refine fun w hw => hJ_176 _ ?_ ?_ ?_ ?_ ?_ ?_ ?_ ?_ ?_ (ex_ret hp hx_85) w (hw.pick [0, 0, 0, 0, 0, 0, 1, 1])
        · exact h_70
        · exact h_71
        · exact h_72
        · exact h_73
        · exact h_74
        · exact h_75
        · exact h_76
        · exact h_78
        · exact h_79
    refine TC.pk' [8, 6, 6, 3, 3, 3, 1, 1, 0] (L' := [bx b5 90 [v2], bx b12 90 [v9], F10, F15, F18, F21, F25, F28, F33]) rfl ?_
    refine TC.loopW (r := z_49) (fun (s : (List (List Bool) × Int)) (e_37 : Env) (L_241 : List FP) => ∃ (x35 : List (List Bool)) (x38 : Int) (F36 : FP), s = (x35, x38) ∧ SlO 30 (kSl 4 kBool) x35 v14 F36 ∧ e_37 1 = .int .i64 a4 ∧ e_37 2 = .pointer (some ⟨b5, 0, none⟩) ∧ e_37 5 = .bool x6 ∧ e_37 7 = .pointer (some ⟨b12, 0, none⟩) ∧ e_37 8 = v14 ∧ e_37 9 = v17 ∧ e_37 10 = v20 ∧ e_37 11 = v24 ∧ e_37 12 = v27 ∧ e_37 13 = v32 ∧ e_37 14 = .int .i64 x38 ∧ L_241 = [bx b5 90 [v2], bx b12 90 [v9], F10, F36, F18, F21, F25, F28, F33]) ?_ FUEL _ _ _ hz_50 ⟨x13.1, 0, F15, rfl, h16, rfl, rfl, rfl, rfl, rfl, rfl, rfl, rfl, rfl, rfl, rfl, rfl⟩
    rintro s e_37 L_241 ⟨x35, x38, F36, rfl, h37, h_38, h_39, h_40, h_41, h_42, h_43, h_44, h_45, h_46, h_47, h_48, rfl⟩ x_52 hp hx_53
    replace hp : fettlelaw08_LiveStays.bd53 x35 x38 = some x_52 := hp
    unfold fettlelaw08_LiveStays.bd53 at hp
    refine TC.seq fun K_189 hK_190 => ?_
    refine TC.seq fun K_191 hK_192 => ?_
    refine TC.region ?_
    refine TL.v (ltb rfl) (rv_mv (v := .int .i64 x38) h_48) ?_
    refine TL.v (ltb rfl) (rv_mv (v := v14) h_42) ?_
    refine TL.v (ltb rfl) (rv_lenI (v := v14) Try.underlying93 rfl h37.ro) ?_
    refine TL.v (ltb rfl) (rv_lss (k := .i64) (m := x38) (n := (len x35)) rfl rfl) ?_
    refine TL.nil ?_
    refine TC.go hK_192 ?_
    by_cases hc_193 : x38 < (len x35)
    · rw [if_pos hc_193] at hp
      refine TC.condT (bT hc_193) ?_
      refine TC.skip ?_
      refine TC.go hK_190 ?_
      refine TC.seq fun K_194 hK_195 => ?_
      refine TC.block ?_
      refine TC.seq fun K_196 hK_197 => ?_
      refine TC.region ?_
      refine TL.v (ltb rfl) (rv_as (v := .int .i64 0) rfl) ?_
      refine TL.nil ?_
      refine TC.go hK_197 ?_
      refine TC.block ?_
      obtain ⟨z_211, hz_212, hr_213⟩ := bind_some' hp
      clear hp
      have hJ_228 : ∀ (x77 : List (List Bool)) (F78 : FP) (e_216 : Env) (h79 : SlO 30 (kSl 4 kBool) x77 v14 F78) (h_217 : e_216 1 = .int .i64 a4) (h_218 : e_216 2 = .pointer (some ⟨b5, 0, none⟩)) (h_219 : e_216 5 = .bool x6) (h_220 : e_216 7 = .pointer (some ⟨b12, 0, none⟩)) (h_221 : e_216 8 = v14) (h_222 : e_216 9 = v17) (h_223 : e_216 10 = v20) (h_224 : e_216 11 = v24) (h_225 : e_216 12 = v27) (h_226 : e_216 13 = v32) (h_227 : e_216 14 = .int .i64 x38) (hq_229 : x77 = z_211), ∀ w, St E H [bx b5 90 [v2], bx b12 90 [v9], F10, F78, F18, F21, F25, F28, F33] w → K_194 e_216 w := by
        intro x77 F78 e_216 h79 h_217 h_218 h_219 h_220 h_221 h_222 h_223 h_224 h_225 h_226 h_227 hq_229
        subst hq_229
        replace hp : fettlelaw08_LiveStays.nx215 x38 x77 = some x_52 := hr_213
        unfold fettlelaw08_LiveStays.nx215 at hp
        refine TC.go hK_195 ?_
        refine TC.region ?_
        refine TL.v (ltb rfl) (rv_mv (v := .int .i64 x38) h_227) ?_
        refine TL.v (ltb rfl) (rv_add (k := .i64) (m := x38) (n := 1) rfl rfl) ?_
        refine TL.v (ltb rfl) (rv_as (v := .int .i64 (w64 (x38 + 1))) rfl) ?_
        refine TL.nil ?_
        exact fun w hw => goOk hp ⟨x77, (w64 (x38 + 1)), F78, rfl, h79, h_217, h_218, h_219, h_220, h_221, h_222, h_223, h_224, h_225, h_226, rfl, rfl⟩ (hw.pick [0, 0, 0, 0, 0, 0, 0, 0, 0])
      refine TC.pk' [0, 0, 0, 0, 0, 0, 0, 0, 0] (L' := [bx b5 90 [v2], bx b12 90 [v9], F10, F36, F18, F21, F25, F28, F33]) rfl ?_
      refine TC.loopW (r := z_211) (fun (s : (List (List Bool) × Int)) (e_198 : Env) (L_240 : List FP) => ∃ (x73 : List (List Bool)) (x76 : Int) (F74 : FP), s = (x73, x76) ∧ SlO 30 (kSl 4 kBool) x73 v14 F74 ∧ e_198 1 = .int .i64 a4 ∧ e_198 2 = .pointer (some ⟨b5, 0, none⟩) ∧ e_198 5 = .bool x6 ∧ e_198 7 = .pointer (some ⟨b12, 0, none⟩) ∧ e_198 8 = v14 ∧ e_198 9 = v17 ∧ e_198 10 = v20 ∧ e_198 11 = v24 ∧ e_198 12 = v27 ∧ e_198 13 = v32 ∧ e_198 14 = .int .i64 x38 ∧ e_198 15 = .int .i64 x76 ∧ L_240 = [bx b5 90 [v2], bx b12 90 [v9], F10, F74, F18, F21, F25, F28, F33]) ?_ FUEL _ _ _ hz_212 ⟨x35, 0, F36, rfl, h37, h_38, h_39, h_40, h_41, h_42, h_43, h_44, h_45, h_46, h_47, h_48, rfl, rfl⟩
      rintro s e_198 L_240 ⟨x73, x76, F74, rfl, h75, h_199, h_200, h_201, h_202, h_203, h_204, h_205, h_206, h_207, h_208, h_209, h_210, rfl⟩ x_214 hp hx_215
      replace hp : fettlelaw08_LiveStays.bd215 x38 x73 x76 = some x_214 := hp
      unfold fettlelaw08_LiveStays.bd215 at hp
      refine TC.seq fun K_230 hK_231 => ?_
      refine TC.seq fun K_232 hK_233 => ?_
      refine TC.region ?_
      refine TL.v (ltb rfl) (rv_mv (v := .int .i64 x76) h_210) ?_
      refine TL.v (ltb rfl) (rv_mv (v := v14) h_203) ?_
      refine TL.v (ltb rfl) (rv_mv (v := .int .i64 x38) h_209) ?_
      obtain ⟨x80, hx_234, hp⟩ := bind_some' hp
      refine TL.v3 (ltb rfl) (rv_ix 93 (.tmp 53) (.tmp 54) (v := v14) (i := x38) Try.underlying93 inf_30 rfl rfl rfl (h75).ro hx_234) fun b81 o82 c83 h84 h85 => ?_
      obtain ⟨v86, rfl, h87⟩ := h84
      refine TL.v (ltb rfl) (rv_ld (v := v86) (o := o82) (o' := o82) (j := 0) sc_30 rfl (Src.at_ 3 rfl) h85 rfl rfl) ?_
      refine TL.v (ltb rfl) (rv_lenI (v := v86) Try.underlying30 rfl h87) ?_
      refine TL.v (ltb rfl) (rv_lss (k := .i64) (m := x76) (n := (len x80)) rfl rfl) ?_
      refine TL.nil ?_
      refine TC.go hK_233 ?_
      by_cases hc_235 : x76 < (len x80)
      · rw [if_pos hc_235] at hp
        refine TC.condT (bT hc_235) ?_
        refine TC.skip ?_
        refine TC.go hK_231 ?_
        refine TC.seq fun K_236 hK_237 => ?_
        refine TC.block ?_
        refine TC.region ?_
        refine TL.v (ltb rfl) (rv_mv (v := v14) h_203) ?_
        refine TL.v (ltb rfl) (rv_mv (v := .int .i64 x38) h_209) ?_
        refine TL.pk' [3, 0, 0, 0, 0, 0, 0, 0, 0] (L' := [F74, bx b5 90 [v2], bx b12 90 [v9], F10, F18, F21, F25, F28, F33]) rfl ?_
        obtain ⟨x88, hx_238, hp⟩ := bind_some' hp
        refine TL.open_ h75 hx_238 fun b89 c90 F91 F92 h93 h94 => ?_
        obtain ⟨v95, rfl, h96⟩ := h94
        have h97 := (idx_some hx_238).1
        refine TL.v (ltb rfl) (rv_ixH Try.underlying93 inf_30 (v := v14) (i := x38) rfl rfl h97 h93) ?_
        refine TL.v (ltb rfl) (rv_ld (v := v95) (o := (x38).toNat * 1) (o' := (x38).toNat * 1) (j := 0) sc_30 rfl (Src.at_ 0 rfl) (Hole.cells h93) rfl rfl) ?_
        refine TL.v (ltb rfl) (rv_mv (v := .int .i64 x76) h_210) ?_
        obtain ⟨x98, hx_239, hp⟩ := bind_some' hp
        refine TL.v2 (ltb rfl) (rv_ixO 30 (.tmp 64) (.tmp 65) (v := v95) (i := x76) Try.underlying30 inf_4 rfl rfl rfl h96 (idx_some hx_239).1 (idx_some hx_239).2.1) fun b99 o100 h101 => ?_
        refine TL.pk' [1, 0, 0, 0, 0, 0, 0, 0, 0, 0] (L' := [F92, F91, bx b5 90 [v2], bx b12 90 [v9], F10, F18, F21, F25, F28, F33]) rfl ?_
        refine TL.stE0 (ds := [.bool true]) (u := .bool true) (a := true) h96 h101 ms_4 rfl rfl rfl ⟨rfl, rfl⟩ fun F102 h103 => ?_
        refine TL.nil ?_
        refine TC.go hK_237 ?_
        refine TC.region ?_
        refine TL.v (ltb rfl) (rv_mv (v := .int .i64 x76) h_210) ?_
        refine TL.v (ltb rfl) (rv_add (k := .i64) (m := x76) (n := 1) rfl rfl) ?_
        refine TL.v (ltb rfl) (rv_as (v := .int .i64 (w64 (x76 + 1))) rfl) ?_
        refine TL.nil ?_
        refine W.pk' [1, 0, 0, 0, 0, 0, 0, 0, 0, 0] (L' := [F91, F102, bx b5 90 [v2], bx b12 90 [v9], F10, F18, F21, F25, F28, F33]) rfl ?_
        refine W.shut (a := (x88.set (x76).toNat true)) h93 ⟨_, rfl, h103⟩ fun F104 h105 => ?_
        exact fun w hw => goOk hp ⟨(x73.set (x38).toNat (x88.set (x76).toNat true)), (w64 (x76 + 1)), F104, rfl, h105, h_199, h_200, h_201, h_202, h_203, h_204, h_205, h_206, h_207, h_208, h_209, rfl, rfl⟩ (hw.pick [1, 1, 1, 0, 0, 0, 0, 0, 0])
      · rw [if_neg hc_235] at hp
        refine TC.condF (bF hc_235) ?_
        refine TC.exit ?_
        refine fun w hw => hJ_228 x73 F74 _ h75 ?_ ?_ ?_ ?_ ?_ ?_ ?_ ?_ ?_ ?_ ?_ (ex_ret hp hx_215) w (hw.pick [0, 0, 0, 0, 0, 0, 0, 0, 0])
        · exact h_199
        · exact h_200
        · exact h_201
        · exact h_202
        · exact h_203
        · exact h_204
        · exact h_205
        · exact h_206
        · exact h_207
        · exact h_208
        · exact h_209
    · rw [if_neg hc_193] at hp
      refine TC.condF (bF hc_193) ?_
      refine TC.exit ?_
      refine fun w hw => hJ_187 x35 F36 _ h37 ?_ ?_ ?_ ?_ ?_ ?_ ?_ ?_ ?_ ?_ (ex_ret hp hx_53) w (hw.pick [0, 0, 0, 0, 0, 0, 0, 0, 0])
      · exact h_38
      · exact h_39
      · exact h_40
      · exact h_41
      · exact h_42
      · exact h_43
      · exact h_44
      · exact h_45
      · exact h_46
      · exact h_47

/-! ### fettle/fettlelaw08.LiveNone -/
abbrev fettlelaw08_LiveNone.R (r : Bool) (v : Value) (A : List FP) : Prop := .bool r = v ∧ A = []
def fettlelaw08_LiveNone.nx84 (x6 : Bool) : Option Bool :=
  some x6
def fettlelaw08_LiveNone.nx130 (x25 : Int) : Option (Ex (Ex Bool Unit) Int) :=
  some (.go (w64 (x25 + 1)))
def fettlelaw08_LiveNone.bd130 (x8 : List (List Bool) × List (List Bool) × GErr) (x18 : List Int × GErr) (x25 : Int) (x35 : Int) : Option (Ex (Ex Bool Unit) Int) :=
  if x35 < (len x18.1) then
    (idx x18.1 x35).bind fun x36 =>
    (if x36 = 0 then (idx x8.1 x25).bind fun x43 =>
    (idx x43 x35).bind fun x51 =>
    (if x51 = true then some true else (idx x8.2.1 x25).bind fun x58 =>
    (idx x58 x35).bind fun x66 =>
    some x66).bind fun t57 =>
    some t57 else some false).bind fun t42 =>
    if t42 = true then
      some (.ret (.ret false))
    else
      some (.go (w64 (x35 + 1)))
  else
    some (.ret (.go ()))
def fettlelaw08_LiveNone.bd84 (x8 : List (List Bool) × List (List Bool) × GErr) (x18 : List Int × GErr) (x25 : Int) : Option (Ex (Ex Bool Unit) Int) :=
  if x25 < (len x8.1) then
    (idx x8.1 x25).bind fun x26 =>
    (if ¬ (len x26) = (len x18.1) then some true else (idx x8.2.1 x25).bind fun x72 =>
    some (decide (¬ (len x72) = (len x18.1)))).bind fun t34 =>
    if t34 = true then
      some (.ret (.ret false))
    else
      (whl (fun (s : Int) => fettlelaw08_LiveNone.bd130 x8 x18 x25 s) FUEL 0).bind fun z =>
      match z with
        | .ret r => some (.ret (.ret r))
        | .go p => fettlelaw08_LiveNone.nx130 x25
  else
    some (.ret (.go ()))
def fettlelaw08_LiveNone (a1 : PModule) (a4 : Int) : Option Bool :=
  (fettlelaw08_up).bind fun x6 =>
  (fettleref02_Small a1).bind fun x7 =>
  if (!x7) = true then
    some x6
  else
    (live_Live a1 a4).bind fun x8 =>
    (live_Count a1 a4).bind fun x18 =>
    if ((¬ x8.2.2 = GErr.no) ∨ (¬ x18.2 = GErr.no)) ∨ (¬ (len x8.1) = (len x8.2.1)) then
      some (decide ((x6 = true ∧ (¬ x8.2.2 = GErr.no)) ∧ (¬ x18.2 = GErr.no)))
    else
      (whl (fun (s : Int) => fettlelaw08_LiveNone.bd84 x8 x18 s) FUEL 0).bind fun z =>
      match z with
        | .ret r => some r
        | .go p => fettlelaw08_LiveNone.nx84 x6
set_option maxHeartbeats 4000000 in
theorem fettlelaw08_LiveNone_ok {E : World} {H : FP} {w : World} {a1 : PModule} {a4 : Int} {v2 : Value} {r : Bool} (h3 : SlI kFunc H a1.funcs v2) (hp : fettlelaw08_LiveNone a1 a4 = some r) (hst : St E H [] w) :
    Fn Try.prog 11 #[.agg #[v2], .int .i64 a4] w fun v w' => ∃ A, fettlelaw08_LiveNone.R r v A ∧ St E H A w' := by
  refine Fn.body (fn := Try.f11) (args := [.agg #[v2], .int .i64 a4]) E H [] [.tmp 4] 109 Try.func11 rfl rfl rfl rfl (leb rfl) hst ?_
  unfold fettlelaw08_LiveNone at hp
  refine TC.seq fun K_1 hK_2 => ?_
  refine TC.region ?_
  refine TL.box (cs := [v2]) (v := .agg #[v2]) (ltb rfl) rfl rfl fun b5 => ?_
  refine TL.v (ltb rfl) (rv_as (v := .bool false) rfl) ?_
  refine TL.nil ?_
  refine TC.go hK_2 ?_
  refine TC.seq fun K_3 hK_4 => ?_
  refine TC.region ?_
  obtain ⟨x6, hy_5, hp⟩ := bind_some' hp
  refine TL.callC (vs := []) (R := fettlelaw08_up.R x6) [] [bx b5 90 [v2]] rfl cb_47 (ltb rfl) m0 (fun w hw => fettlelaw08_up_ok hy_5 hw) fun v A' hR_6 => ?_
  obtain ⟨rfl, rfl⟩ := hR_6
  refine TL.norm (L' := [bx b5 90 [v2]]) rfl ?_
  refine TL.v (ltb rfl) (rv_as (v := .bool x6) rfl) ?_
  refine TL.nil ?_
  refine TC.go hK_4 ?_
  refine TC.seq fun K_7 hK_8 => ?_
  refine TC.region ?_
  refine TL.v (ltb rfl) (rv_lda (o := 0) (o' := 0) (j := 0) (ds := [v2]) ag_90 rfl (Src.at_ 0 rfl) (bx_cells b5 90 _) rfl rfl rfl) ?_
  obtain ⟨x7, hy_9, hp⟩ := bind_some' hp
  refine TL.callC (vs := [.agg #[v2]]) (R := fettleref02_Small.R x7) [] [bx b5 90 [v2]] rfl cb_48 (ltb rfl) (mc rfl m0) (fun w hw => fettleref02_Small_ok (a1 := a1) (h3.mono subH) hy_9 hw) fun v A' hR_10 => ?_
  obtain ⟨rfl, rfl⟩ := hR_10
  refine TL.norm (L' := [bx b5 90 [v2]]) rfl ?_
  refine TL.v (ltb rfl) (rv_as (v := .bool x7) rfl) ?_
  refine TL.nil ?_
  refine TC.go hK_8 ?_
  refine TC.seq fun K_11 hK_12 => ?_
  refine TC.seq fun K_13 hK_14 => ?_
  refine TC.region ?_
  refine TL.v (ltb rfl) (rv_mv (v := .bool x7) rfl) ?_
  refine TL.v (ltb rfl) (rv_not (b := x7) rfl) ?_
  refine TL.nil ?_
  refine TC.go hK_14 ?_
  by_cases hc_15 : (!x7) = true
  · rw [if_pos hc_15] at hp
    refine TC.condT (bbT hc_15) ?_
    refine TC.seq fun K_16 hK_17 => ?_
    refine TC.region ?_
    refine TL.v (ltb rfl) (rv_mv (v := .bool x6) rfl) ?_
    refine TL.v (ltb rfl) (rv_as (v := .bool x6) rfl) ?_
    refine TL.nil ?_
    refine TC.go hK_17 ?_
    refine TC.ret ?_
    obtain rfl := Option.some.inj hp
    exact fun w hw => retOk ⟨rfl, rfl⟩ (hw.pick [])
  · rw [if_neg hc_15] at hp
    refine TC.condF (bbF hc_15) ?_
    refine TC.skip ?_
    refine TC.go hK_12 ?_
    refine TC.seq fun K_18 hK_19 => ?_
    refine TC.region ?_
    refine TL.v (ltb rfl) (rv_lda (o := 0) (o' := 0) (j := 0) (ds := [v2]) ag_90 rfl (Src.at_ 0 rfl) (bx_cells b5 90 _) rfl rfl rfl) ?_
    refine TL.v (ltb rfl) (rv_mv (v := .int .i64 a4) rfl) ?_
    obtain ⟨x8, hy_20, hp⟩ := bind_some' hp
    refine TL.callC (vs := [.agg #[v2], .int .i64 a4]) (R := live_Live.R x8) [] [bx b5 90 [v2]] rfl cb_50 (ltb rfl) (mc rfl (mc rfl m0)) (fun w hw => live_Live_ok (a1 := a1) (a4 := a4) (h3.mono subH) hy_20 hw) fun v A' hR_21 => ?_
    obtain ⟨v9, F10, v12, F13, v15, F16, rfl, rfl, h11, h14, h17⟩ := hR_21
    refine TL.norm (L' := [F10, F13, F16, bx b5 90 [v2]]) rfl ?_
    refine TL.v (ltb rfl) (rv_mv (v := .tuple #[v9, v12, v15]) rfl) ?_
    refine TL.v (ltb rfl) (rv_extract (vs := #[v9, v12, v15]) (v := v9) rfl rfl) ?_
    refine TL.v (ltb rfl) (rv_extract (vs := #[v9, v12, v15]) (v := v12) rfl rfl) ?_
    refine TL.v (ltb rfl) (rv_extract (vs := #[v9, v12, v15]) (v := v15) rfl rfl) ?_
    refine TL.v (ltb rfl) (rv_as (v := v9) rfl) ?_
    refine TL.v (ltb rfl) (rv_as (v := v12) rfl) ?_
    refine TL.v (ltb rfl) (rv_as (v := v15) rfl) ?_
    refine TL.nil ?_
    refine TC.go hK_19 ?_
    refine TC.seq fun K_22 hK_23 => ?_
    refine TC.region ?_
    refine TL.v (ltb rfl) (rv_lda (o := 0) (o' := 0) (j := 0) (ds := [v2]) ag_90 rfl (Src.at_ 3 rfl) (bx_cells b5 90 _) rfl rfl rfl) ?_
    refine TL.v (ltb rfl) (rv_mv (v := .int .i64 a4) rfl) ?_
    obtain ⟨x18, hy_24, hp⟩ := bind_some' hp
    refine TL.callC (vs := [.agg #[v2], .int .i64 a4]) (R := live_Count.R x18) [] [F10, F13, F16, bx b5 90 [v2]] rfl cb_51 (ltb rfl) (mc rfl (mc rfl m0)) (fun w hw => live_Count_ok (a1 := a1) (a4 := a4) (h3.mono subH) hy_24 hw) fun v A' hR_25 => ?_
    obtain ⟨v19, F20, v22, F23, rfl, rfl, h21, h24⟩ := hR_25
    refine TL.norm (L' := [F20, F23, F10, F13, F16, bx b5 90 [v2]]) rfl ?_
    refine TL.v (ltb rfl) (rv_mv (v := .tuple #[v19, v22]) rfl) ?_
    refine TL.v (ltb rfl) (rv_extract (vs := #[v19, v22]) (v := v19) rfl rfl) ?_
    refine TL.v (ltb rfl) (rv_extract (vs := #[v19, v22]) (v := v22) rfl rfl) ?_
    refine TL.v (ltb rfl) (rv_as (v := v19) rfl) ?_
    refine TL.v (ltb rfl) (rv_as (v := v22) rfl) ?_
    refine TL.nil ?_
    refine TC.go hK_23 ?_
    refine TC.seq fun K_26 hK_27 => ?_
    refine TC.seq fun K_28 hK_29 => ?_
    refine TC.region ?_
    refine TL.v (ltb rfl) (rv_mv (v := v15) rfl) ?_
    refine TL.v (ltb rfl) (rv_neqEN ifc_49 h17 rfl) ?_
    refine TL.v (ltb rfl) (rv_mv (v := .bool (decide (¬ x8.2.2 = GErr.no))) rfl) ?_
    refine TL.cut 3 fun K_30 hK_31 => ?_
    have hJ_32 : ∀ e_34 : Env, e_34 5 = .bool x6 → e_34 7 = v9 → e_34 8 = v12 → e_34 9 = v15 → e_34 10 = v19 → e_34 11 = v22 → e_34 38 = .bool (decide ((¬ x8.2.2 = GErr.no) ∨ (¬ x18.2 = GErr.no))) → ∀ w, St E H [F20, F23, F10, F13, F16, bx b5 90 [v2]] w → K_30 e_34 w := by
      intro e_34 h_35 h_36 h_37 h_38 h_39 h_40 h_41
      refine TL.go hK_31 ?_
      refine TL.v (ltb rfl) (rv_mv (v := .bool (decide ((¬ x8.2.2 = GErr.no) ∨ (¬ x18.2 = GErr.no)))) h_41) ?_
      refine TL.cut 6 fun K_42 hK_43 => ?_
      have hJ_44 : ∀ e_46 : Env, e_46 5 = .bool x6 → e_46 7 = v9 → e_46 8 = v12 → e_46 9 = v15 → e_46 10 = v19 → e_46 11 = v22 → e_46 45 = .bool (decide (((¬ x8.2.2 = GErr.no) ∨ (¬ x18.2 = GErr.no)) ∨ (¬ (len x8.1) = (len x8.2.1)))) → ∀ w, St E H [F20, F23, F10, F13, F16, bx b5 90 [v2]] w → K_42 e_46 w := by
        intro e_46 h_47 h_48 h_49 h_50 h_51 h_52 h_53
        refine TL.go hK_43 ?_
        refine TL.nil ?_
        refine TC.go hK_29 ?_
        by_cases hc_54 : ((¬ x8.2.2 = GErr.no) ∨ (¬ x18.2 = GErr.no)) ∨ (¬ (len x8.1) = (len x8.2.1))
        · rw [if_pos hc_54] at hp
          refine TC.condT (h_53.trans (bT hc_54)) ?_
          refine TC.seq fun K_55 hK_56 => ?_
          refine TC.region ?_
          refine TL.v (ltb rfl) (rv_mv (v := .bool x6) h_47) ?_
          refine TL.v (ltb rfl) (rv_mv (v := .bool x6) rfl) ?_
          refine TL.cut 3 fun K_57 hK_58 => ?_
          have hJ_59 : ∀ e_61 : Env, e_61 11 = v22 → e_61 50 = .bool (decide (x6 = true ∧ (¬ x8.2.2 = GErr.no))) → ∀ w, St E H [F20, F23, F10, F13, F16, bx b5 90 [v2]] w → K_57 e_61 w := by
            intro e_61 h_62 h_63
            refine TL.go hK_58 ?_
            refine TL.v (ltb rfl) (rv_mv (v := .bool (decide (x6 = true ∧ (¬ x8.2.2 = GErr.no)))) h_63) ?_
            refine TL.cut 3 fun K_64 hK_65 => ?_
            have hJ_66 : ∀ e_68 : Env, e_68 54 = .bool (decide ((x6 = true ∧ (¬ x8.2.2 = GErr.no)) ∧ (¬ x18.2 = GErr.no))) → ∀ w, St E H [F20, F23, F10, F13, F16, bx b5 90 [v2]] w → K_64 e_68 w := by
              intro e_68 h_69
              refine TL.go hK_65 ?_
              refine TL.v (ltb rfl) (rv_as (v := .bool (decide ((x6 = true ∧ (¬ x8.2.2 = GErr.no)) ∧ (¬ x18.2 = GErr.no)))) h_69) ?_
              refine TL.nil ?_
              refine TC.go hK_56 ?_
              refine TC.ret ?_
              obtain rfl := Option.some.inj hp
              exact fun w hw => retOk ⟨rfl, rfl⟩ (hw.pick [])
            by_cases hc_67 : x6 = true ∧ (¬ x8.2.2 = GErr.no)
            · refine TL.gyes true (yieldE_of rfl (bT hc_67)) rfl ?_
              refine TL.v (ltb rfl) (rv_mv (v := v22) h_62) ?_
              refine TL.gyes true (yieldE_of rfl (bT hc_67)) rfl ?_
              refine TL.v (ltb rfl) (rv_neqEN ifc_49 h24 rfl) ?_
              refine TL.v (ltb rfl) (rv_pickT true (bT hc_67) rfl (v := .bool (decide (¬ x18.2 = GErr.no))) rfl) ?_
              refine TL.nil (hJ_66 _ ?_)
              · exact (bAt hc_67)
            · refine TL.gno false rfl (fun d hd => by cases hd; exact ltb rfl) (yieldE_of rfl (bF hc_67)) rfl ?_
              refine TL.gno false rfl (fun d hd => by cases hd; exact ltb rfl) (yieldE_of rfl (bF hc_67)) rfl ?_
              refine TL.v (ltb rfl) (rv_pickF false (bF hc_67) rfl (v := .bool false) rfl) ?_
              refine TL.nil (hJ_66 _ ?_)
              · exact (bAf hc_67)
          by_cases hc_60 : x6 = true
          · refine TL.gyes true (yieldE_of rfl (bbT hc_60)) rfl ?_
            refine TL.v (ltb rfl) (rv_mv (v := v15) h_50) ?_
            refine TL.gyes true (yieldE_of rfl (bbT hc_60)) rfl ?_
            refine TL.v (ltb rfl) (rv_neqEN ifc_49 h17 rfl) ?_
            refine TL.v (ltb rfl) (rv_pickT true (bbT hc_60) rfl (v := .bool (decide (¬ x8.2.2 = GErr.no))) rfl) ?_
            refine TL.nil (hJ_59 _ ?_ ?_)
            · exact h_52
            · exact (bAt hc_60)
          · refine TL.gno false rfl (fun d hd => by cases hd; exact ltb rfl) (yieldE_of rfl (bbF hc_60)) rfl ?_
            refine TL.gno false rfl (fun d hd => by cases hd; exact ltb rfl) (yieldE_of rfl (bbF hc_60)) rfl ?_
            refine TL.v (ltb rfl) (rv_pickF false (bbF hc_60) rfl (v := .bool false) rfl) ?_
            refine TL.nil (hJ_59 _ ?_ ?_)
            · exact h_52
            · exact (bAf hc_60)
        · rw [if_neg hc_54] at hp
          refine TC.condF (h_53.trans (bF hc_54)) ?_
          refine TC.skip ?_
          refine TC.go hK_27 ?_
          refine TC.seq fun K_70 hK_71 => ?_
          refine TC.seq fun K_72 hK_73 => ?_
          refine TC.region ?_
          refine TL.v (ltb rfl) (rv_as (v := .int .i64 0) rfl) ?_
          refine TL.nil ?_
          refine TC.go hK_73 ?_
          refine TC.block ?_
          obtain ⟨z_80, hz_81, hr_82⟩ := bind_some' hp
          clear hp
          have hJ_89 : ∀ (e_85 : Env) (h_86 : e_85 5 = .bool x6) (hq_90 : .go () = z_80), ∀ w, St E H [] w → K_70 e_85 w := by
            intro e_85 h_86 hq_90
            subst hq_90
            replace hp : fettlelaw08_LiveNone.nx84 x6 = some r := hr_82
            unfold fettlelaw08_LiveNone.nx84 at hp
            refine TC.go hK_71 ?_
            refine TC.seq fun K_87 hK_88 => ?_
            refine TC.region ?_
            refine TL.v (ltb rfl) (rv_mv (v := .bool x6) h_86) ?_
            refine TL.v (ltb rfl) (rv_as (v := .bool x6) rfl) ?_
            refine TL.nil ?_
            refine TC.go hK_88 ?_
            refine TC.ret ?_
            obtain rfl := Option.some.inj hp
            exact fun w hw => retOk ⟨rfl, rfl⟩ (hw.pick [])
          refine TC.pk' [2, 2, 0] (L' := [F10, F13, F20]) rfl ?_
          refine TC.loopW (r := z_80) (fun (x25 : Int) (e_74 : Env) (L_194 : List FP) => e_74 5 = .bool x6 ∧ e_74 7 = v9 ∧ e_74 8 = v12 ∧ e_74 10 = v19 ∧ e_74 12 = .int .i64 x25 ∧ L_194 = [F10, F13, F20]) ?_ FUEL _ _ _ hz_81 ⟨h_47, h_48, h_49, h_51, rfl, rfl⟩
          rintro x25 e_74 L_194 ⟨h_75, h_76, h_77, h_78, h_79, rfl⟩ x_83 hp hx_84
          replace hp : fettlelaw08_LiveNone.bd84 x8 x18 x25 = some x_83 := hp
          unfold fettlelaw08_LiveNone.bd84 at hp
          refine TC.seq fun K_91 hK_92 => ?_
          refine TC.seq fun K_93 hK_94 => ?_
          refine TC.region ?_
          refine TL.v (ltb rfl) (rv_mv (v := .int .i64 x25) h_79) ?_
          refine TL.v (ltb rfl) (rv_mv (v := v9) h_76) ?_
          refine TL.v (ltb rfl) (rv_lenI (v := v9) Try.underlying93 rfl h11.ro) ?_
          refine TL.v (ltb rfl) (rv_lss (k := .i64) (m := x25) (n := (len x8.1)) rfl rfl) ?_
          refine TL.nil ?_
          refine TC.go hK_94 ?_
          by_cases hc_95 : x25 < (len x8.1)
          · rw [if_pos hc_95] at hp
            refine TC.condT (bT hc_95) ?_
            refine TC.skip ?_
            refine TC.go hK_92 ?_
            refine TC.seq fun K_96 hK_97 => ?_
            refine TC.block ?_
            refine TC.seq fun K_98 hK_99 => ?_
            refine TC.seq fun K_100 hK_101 => ?_
            refine TC.region ?_
            refine TL.v (ltb rfl) (rv_mv (v := v9) h_76) ?_
            refine TL.v (ltb rfl) (rv_mv (v := .int .i64 x25) h_79) ?_
            obtain ⟨x26, hx_102, hp⟩ := bind_some' hp
            refine TL.v3 (ltb rfl) (rv_ix 93 (.tmp 61) (.tmp 62) (v := v9) (i := x25) Try.underlying93 inf_30 rfl rfl rfl (h11).ro hx_102) fun b27 o28 c29 h30 h31 => ?_
            obtain ⟨v32, rfl, h33⟩ := h30
            refine TL.v (ltb rfl) (rv_ld (v := v32) (o := o28) (o' := o28) (j := 0) sc_30 rfl (Src.at_ 0 rfl) h31 rfl rfl) ?_
            refine TL.v (ltb rfl) (rv_lenI (v := v32) Try.underlying30 rfl h33) ?_
            refine TL.v (ltb rfl) (rv_mv (v := v19) h_78) ?_
            refine TL.v (ltb rfl) (rv_lenI (v := v19) Try.underlying22 rfl h21.ro) ?_
            refine TL.v (ltb rfl) (rv_neq (k := .i64) (m := (len x26)) (n := (len x18.1)) rfl rfl) ?_
            refine TL.v (ltb rfl) (rv_mv (v := .bool (decide (¬ (len x26) = (len x18.1)))) rfl) ?_
            obtain ⟨t34, ht_192, hp⟩ := bind_some' hp
            refine TL.cut 9 fun K_103 hK_104 => ?_
            have hJ_105 : ∀ e_107 : Env, e_107 5 = .bool x6 → e_107 7 = v9 → e_107 8 = v12 → e_107 10 = v19 → e_107 12 = .int .i64 x25 → e_107 78 = .bool t34 → ∀ w, St E H [F10, F13, F20] w → K_103 e_107 w := by
              intro e_107 h_108 h_109 h_110 h_111 h_112 h_113
              refine TL.go hK_104 ?_
              refine TL.nil ?_
              refine TC.go hK_101 ?_
              by_cases hc_114 : t34 = true
              · rw [if_pos hc_114] at hp
                refine TC.condT (h_113.trans (bbT hc_114)) ?_
                refine TC.seq fun K_115 hK_116 => ?_
                refine TC.region ?_
                refine TL.v (ltb rfl) (rv_as (v := .bool false) rfl) ?_
                refine TL.nil ?_
                refine TC.go hK_116 ?_
                refine TC.ret ?_
                obtain rfl := ex_ret hp hx_84
                obtain rfl := Option.some.inj hr_82
                exact fun w hw => retOk ⟨rfl, rfl⟩ (hw.pick [])
              · rw [if_neg hc_114] at hp
                refine TC.condF (h_113.trans (bbF hc_114)) ?_
                refine TC.skip ?_
                refine TC.go hK_99 ?_
                refine TC.seq fun K_117 hK_118 => ?_
                refine TC.region ?_
                refine TL.v (ltb rfl) (rv_as (v := .int .i64 0) rfl) ?_
                refine TL.nil ?_
                refine TC.go hK_118 ?_
                refine TC.block ?_
                obtain ⟨z_126, hz_127, hr_128⟩ := bind_some' hp
                clear hp
                have hJ_137 : ∀ (e_131 : Env) (h_132 : e_131 5 = .bool x6) (h_133 : e_131 7 = v9) (h_134 : e_131 8 = v12) (h_135 : e_131 10 = v19) (h_136 : e_131 12 = .int .i64 x25) (hq_138 : .go () = z_126), ∀ w, St E H [F10, F13, F20] w → K_96 e_131 w := by
                  intro e_131 h_132 h_133 h_134 h_135 h_136 hq_138
                  subst hq_138
                  replace hp : fettlelaw08_LiveNone.nx130 x25 = some x_83 := hr_128
                  unfold fettlelaw08_LiveNone.nx130 at hp
                  refine TC.go hK_97 ?_
                  refine TC.region ?_
                  refine TL.v (ltb rfl) (rv_mv (v := .int .i64 x25) h_136) ?_
                  refine TL.v (ltb rfl) (rv_add (k := .i64) (m := x25) (n := 1) rfl rfl) ?_
                  refine TL.v (ltb rfl) (rv_as (v := .int .i64 (w64 (x25 + 1))) rfl) ?_
                  refine TL.nil ?_
                  exact fun w hw => goOk hp ⟨h_132, h_133, h_134, h_135, rfl, rfl⟩ (hw.pick [0, 0, 0])
                refine TC.pk' [0, 0, 0] (L' := [F10, F13, F20]) rfl ?_
                refine TC.loopW (r := z_126) (fun (x35 : Int) (e_119 : Env) (L_191 : List FP) => e_119 5 = .bool x6 ∧ e_119 7 = v9 ∧ e_119 8 = v12 ∧ e_119 10 = v19 ∧ e_119 12 = .int .i64 x25 ∧ e_119 13 = .int .i64 x35 ∧ L_191 = [F10, F13, F20]) ?_ FUEL _ _ _ hz_127 ⟨h_108, h_109, h_110, h_111, h_112, rfl, rfl⟩
                rintro x35 e_119 L_191 ⟨h_120, h_121, h_122, h_123, h_124, h_125, rfl⟩ x_129 hp hx_130
                replace hp : fettlelaw08_LiveNone.bd130 x8 x18 x25 x35 = some x_129 := hp
                unfold fettlelaw08_LiveNone.bd130 at hp
                refine TC.seq fun K_139 hK_140 => ?_
                refine TC.seq fun K_141 hK_142 => ?_
                refine TC.region ?_
                refine TL.v (ltb rfl) (rv_mv (v := .int .i64 x35) h_125) ?_
                refine TL.v (ltb rfl) (rv_mv (v := v19) h_123) ?_
                refine TL.v (ltb rfl) (rv_lenI (v := v19) Try.underlying22 rfl h21.ro) ?_
                refine TL.v (ltb rfl) (rv_lss (k := .i64) (m := x35) (n := (len x18.1)) rfl rfl) ?_
                refine TL.nil ?_
                refine TC.go hK_142 ?_
                by_cases hc_143 : x35 < (len x18.1)
                · rw [if_pos hc_143] at hp
                  refine TC.condT (bT hc_143) ?_
                  refine TC.skip ?_
                  refine TC.go hK_140 ?_
                  refine TC.seq fun K_144 hK_145 => ?_
                  refine TC.block ?_
                  refine TC.seq fun K_146 hK_147 => ?_
                  refine TC.region ?_
                  refine TL.v (ltb rfl) (rv_mv (v := v19) h_123) ?_
                  refine TL.v (ltb rfl) (rv_mv (v := .int .i64 x35) h_125) ?_
                  obtain ⟨x36, hx_148, hp⟩ := bind_some' hp
                  refine TL.v3 (ltb rfl) (rv_ix 22 (.tmp 85) (.tmp 86) (v := v19) (i := x35) Try.underlying22 inf_3 rfl rfl rfl (h21).ro hx_148) fun b37 o38 c39 h40 h41 => ?_
                  obtain rfl := h40
                  refine TL.v (ltb rfl) (rv_ld (v := .int .i64 x36) (o := o38) (o' := o38) (j := 0) sc_3 rfl (Src.at_ 2 rfl) h41 rfl rfl) ?_
                  refine TL.v (ltb rfl) (rv_eql (k := .i64) (m := x36) (n := 0) rfl rfl) ?_
                  refine TL.v (ltb rfl) (rv_mv (v := .bool (decide (x36 = 0))) rfl) ?_
                  obtain ⟨t42, ht_164, hp⟩ := bind_some' hp
                  refine TL.cut 17 fun K_149 hK_150 => ?_
                  have hJ_151 : ∀ e_153 : Env, e_153 5 = .bool x6 → e_153 7 = v9 → e_153 8 = v12 → e_153 10 = v19 → e_153 12 = .int .i64 x25 → e_153 13 = .int .i64 x35 → e_153 107 = .bool t42 → ∀ w, St E H [F10, F13, F20] w → K_149 e_153 w := by
                    intro e_153 h_154 h_155 h_156 h_157 h_158 h_159 h_160
                    refine TL.go hK_150 ?_
                    refine TL.nil ?_
                    refine TC.go hK_147 ?_
                    by_cases hc_161 : t42 = true
                    · rw [if_pos hc_161] at hp
                      refine TC.condT (h_160.trans (bbT hc_161)) ?_
                      refine TC.seq fun K_162 hK_163 => ?_
                      refine TC.region ?_
                      refine TL.v (ltb rfl) (rv_as (v := .bool false) rfl) ?_
                      refine TL.nil ?_
                      refine TC.go hK_163 ?_
                      refine TC.ret ?_
                      obtain rfl := ex_ret hp hx_130
                      obtain rfl := ex_ret hr_128 hx_84
                      obtain rfl := Option.some.inj hr_82
                      exact fun w hw => retOk ⟨rfl, rfl⟩ (hw.pick [])
                    · rw [if_neg hc_161] at hp
                      refine TC.condF (h_160.trans (bbF hc_161)) ?_
                      refine TC.skip ?_
                      refine TC.go hK_145 ?_
                      refine TC.region ?_
                      refine TL.v (ltb rfl) (rv_mv (v := .int .i64 x35) h_159) ?_
                      refine TL.v (ltb rfl) (rv_add (k := .i64) (m := x35) (n := 1) rfl rfl) ?_
                      refine TL.v (ltb rfl) (rv_as (v := .int .i64 (w64 (x35 + 1))) rfl) ?_
                      refine TL.nil ?_
                      exact fun w hw => goOk hp ⟨h_154, h_155, h_156, h_157, h_158, rfl, rfl⟩ (hw.pick [0, 0, 0])
                  clear hp
                  have hp := ht_164
                  clear ht_164
                  by_cases hc_152 : x36 = 0
                  · rw [if_pos hc_152] at hp
                    refine TL.gyes true (yieldE_of rfl (bT hc_152)) rfl ?_
                    refine TL.v (ltb rfl) (rv_mv (v := v9) h_121) ?_
                    refine TL.gyes true (yieldE_of rfl (bT hc_152)) rfl ?_
                    refine TL.v (ltb rfl) (rv_mv (v := .int .i64 x25) h_124) ?_
                    refine TL.gyes true (yieldE_of rfl (bT hc_152)) rfl ?_
                    obtain ⟨x43, hx_165, hp⟩ := bind_some' hp
                    refine TL.v3 (ltb rfl) (rv_ix 93 (.tmp 91) (.tmp 92) (v := v9) (i := x25) Try.underlying93 inf_30 rfl rfl rfl (h11).ro hx_165) fun b44 o45 c46 h47 h48 => ?_
                    obtain ⟨v49, rfl, h50⟩ := h47
                    refine TL.gyes true (yieldE_of rfl (bT hc_152)) rfl ?_
                    refine TL.v (ltb rfl) (rv_ld (v := v49) (o := o45) (o' := o45) (j := 0) sc_30 rfl (Src.at_ 0 rfl) h48 rfl rfl) ?_
                    refine TL.gyes true (yieldE_of rfl (bT hc_152)) rfl ?_
                    refine TL.v (ltb rfl) (rv_mv (v := .int .i64 x35) h_125) ?_
                    refine TL.gyes true (yieldE_of rfl (bT hc_152)) rfl ?_
                    obtain ⟨x51, hx_166, hp⟩ := bind_some' hp
                    refine TL.v3 (ltb rfl) (rv_ix 30 (.tmp 94) (.tmp 95) (v := v49) (i := x35) Try.underlying30 inf_4 rfl rfl rfl h50 hx_166) fun b52 o53 c54 h55 h56 => ?_
                    obtain rfl := h55
                    refine TL.gyes true (yieldE_of rfl (bT hc_152)) rfl ?_
                    refine TL.v (ltb rfl) (rv_ld (v := .bool x51) (o := o53) (o' := o53) (j := 0) sc_4 rfl (Src.at_ 0 rfl) h56 rfl rfl) ?_
                    refine TL.gyes true (yieldE_of rfl (bT hc_152)) rfl ?_
                    refine TL.v (ltb rfl) (rv_mv (v := .bool x51) rfl) ?_
                    obtain ⟨t57, ht_188, hp⟩ := bind_some' hp
                    refine TL.cut 8 fun K_167 hK_168 => ?_
                    have hJ_169 : ∀ e_171 : Env, e_171 5 = .bool x6 → e_171 7 = v9 → e_171 8 = v12 → e_171 10 = v19 → e_171 12 = .int .i64 x25 → e_171 13 = .int .i64 x35 → e_171 90 = .bool (decide (x36 = 0)) → e_171 91 = v9 → e_171 92 = .int .i64 x25 → e_171 93 = .pointer (some ⟨b44, o45, none⟩) → e_171 94 = v49 → e_171 95 = .int .i64 x35 → e_171 96 = .pointer (some ⟨b52, o53, none⟩) → e_171 97 = .bool x51 → e_171 98 = .bool x51 → e_171 106 = .bool t57 → ∀ w, St E H [F10, F13, F20] w → K_167 e_171 w := by
                      intro e_171 h_172 h_173 h_174 h_175 h_176 h_177 h_178 h_179 h_180 h_181 h_182 h_183 h_184 h_185 h_186 h_187
                      refine TL.go hK_168 ?_
                      refine TL.v (ltb rfl) (rv_pickT true (h_178.trans (bT hc_152)) rfl (v := .bool t57) h_187) ?_
                      obtain rfl := Option.some.inj hp
                      refine TL.nil (hJ_151 _ ?_ ?_ ?_ ?_ ?_ ?_ ?_)
                      · exact h_172
                      · exact h_173
                      · exact h_174
                      · exact h_175
                      · exact h_176
                      · exact h_177
                      · exact rfl
                    clear hp
                    have hp := ht_188
                    clear ht_188
                    by_cases hc_170 : x51 = true
                    · rw [if_pos hc_170] at hp
                      refine TL.gno true rfl (fun d hd => by cases hd; exact ltb rfl) (yieldE_of rfl (bbT hc_170)) rfl ?_
                      refine TL.gno true rfl (fun d hd => by cases hd; exact ltb rfl) (yieldE_of rfl (bbT hc_170)) rfl ?_
                      refine TL.gno true rfl (fun d hd => by cases hd; exact ltb rfl) (yieldE_of rfl (bbT hc_170)) rfl ?_
                      refine TL.gno true rfl (fun d hd => by cases hd; exact ltb rfl) (yieldE_of rfl (bbT hc_170)) rfl ?_
                      refine TL.gno true rfl (fun d hd => by cases hd; exact ltb rfl) (yieldE_of rfl (bbT hc_170)) rfl ?_
                      refine TL.gno true rfl (fun d hd => by cases hd; exact ltb rfl) (yieldE_of rfl (bbT hc_170)) rfl ?_
                      refine TL.gno true rfl (fun d hd => by cases hd; exact ltb rfl) (yieldE_of rfl (bbT hc_170)) rfl ?_
                      refine TL.gyes true (yieldE_of rfl (bT hc_152)) rfl ?_
                      refine TL.v (ltb rfl) (rv_pickT true (bbT hc_170) rfl (v := .bool true) rfl) ?_
                      obtain rfl := Option.some.inj hp
                      refine TL.nil (hJ_169 _ ?_ ?_ ?_ ?_ ?_ ?_ ?_ ?_ ?_ ?_ ?_ ?_ ?_ ?_ ?_ ?_)
                      · exact h_120
                      · exact h_121
                      · exact h_122
                      · exact h_123
                      · exact h_124
                      · exact h_125
                      · exact rfl
                      · exact rfl
                      · exact rfl
                      · exact rfl
                      · exact rfl
                      · exact rfl
                      · exact rfl
                      · exact rfl
                      · exact rfl
                      · exact rfl
                    · rw [if_neg hc_170] at hp
                      refine TL.gyes false (yieldE_of rfl (bbF hc_170)) rfl ?_
                      refine TL.v (ltb rfl) (rv_mv (v := v12) h_122) ?_
                      refine TL.gyes false (yieldE_of rfl (bbF hc_170)) rfl ?_
                      refine TL.v (ltb rfl) (rv_mv (v := .int .i64 x25) h_124) ?_
                      refine TL.gyes false (yieldE_of rfl (bbF hc_170)) rfl ?_
                      obtain ⟨x58, hx_189, hp⟩ := bind_some' hp
                      refine TL.v3 (ltb rfl) (rv_ix 93 (.tmp 99) (.tmp 100) (v := v12) (i := x25) Try.underlying93 inf_30 rfl rfl rfl (h14).ro hx_189) fun b59 o60 c61 h62 h63 => ?_
                      obtain ⟨v64, rfl, h65⟩ := h62
                      refine TL.gyes false (yieldE_of rfl (bbF hc_170)) rfl ?_
                      refine TL.v (ltb rfl) (rv_ld (v := v64) (o := o60) (o' := o60) (j := 0) sc_30 rfl (Src.at_ 1 rfl) h63 rfl rfl) ?_
                      refine TL.gyes false (yieldE_of rfl (bbF hc_170)) rfl ?_
                      refine TL.v (ltb rfl) (rv_mv (v := .int .i64 x35) h_125) ?_
                      refine TL.gyes false (yieldE_of rfl (bbF hc_170)) rfl ?_
                      obtain ⟨x66, hx_190, hp⟩ := bind_some' hp
                      refine TL.v3 (ltb rfl) (rv_ix 30 (.tmp 102) (.tmp 103) (v := v64) (i := x35) Try.underlying30 inf_4 rfl rfl rfl h65 hx_190) fun b67 o68 c69 h70 h71 => ?_
                      obtain rfl := h70
                      refine TL.gyes false (yieldE_of rfl (bbF hc_170)) rfl ?_
                      refine TL.v (ltb rfl) (rv_ld (v := .bool x66) (o := o68) (o' := o68) (j := 0) sc_4 rfl (Src.at_ 1 rfl) h71 rfl rfl) ?_
                      refine TL.gyes true (yieldE_of rfl (bT hc_152)) rfl ?_
                      refine TL.v (ltb rfl) (rv_pickF false (bbF hc_170) rfl (v := .bool x66) rfl) ?_
                      obtain rfl := Option.some.inj hp
                      refine TL.nil (hJ_169 _ ?_ ?_ ?_ ?_ ?_ ?_ ?_ ?_ ?_ ?_ ?_ ?_ ?_ ?_ ?_ ?_)
                      · exact h_120
                      · exact h_121
                      · exact h_122
                      · exact h_123
                      · exact h_124
                      · exact h_125
                      · exact rfl
                      · exact rfl
                      · exact rfl
                      · exact rfl
                      · exact rfl
                      · exact rfl
                      · exact rfl
                      · exact rfl
                      · exact rfl
                      · exact rfl
                  · rw [if_neg hc_152] at hp
                    refine TL.gno false rfl (fun d hd => by cases hd; exact ltb rfl) (yieldE_of rfl (bF hc_152)) rfl ?_
                    refine TL.gno false rfl (fun d hd => by cases hd; exact ltb rfl) (yieldE_of rfl (bF hc_152)) rfl ?_
                    refine TL.gno false rfl (fun d hd => by cases hd; exact ltb rfl) (yieldE_of rfl (bF hc_152)) rfl ?_
                    refine TL.gno false rfl (fun d hd => by cases hd; exact ltb rfl) (yieldE_of rfl (bF hc_152)) rfl ?_
                    refine TL.gno false rfl (fun d hd => by cases hd; exact ltb rfl) (yieldE_of rfl (bF hc_152)) rfl ?_
                    refine TL.gno false rfl (fun d hd => by cases hd; exact ltb rfl) (yieldE_of rfl (bF hc_152)) rfl ?_
                    refine TL.gno false rfl (fun d hd => by cases hd; exact ltb rfl) (yieldE_of rfl (bF hc_152)) rfl ?_
                    refine TL.gno false rfl (fun d hd => by cases hd; exact ltb rfl) (yieldE_of rfl (bF hc_152)) rfl ?_
                    refine TL.gnon rfl (fun d hd => by cases hd; exact ltb rfl) (yieldE_un rfl rfl) ?_
                    refine TL.gnon rfl (fun d hd => by cases hd; exact ltb rfl) (yieldE_un rfl rfl) ?_
                    refine TL.gnon rfl (fun d hd => by cases hd; exact ltb rfl) (yieldE_un rfl rfl) ?_
                    refine TL.gnon rfl (fun d hd => by cases hd; exact ltb rfl) (yieldE_un rfl rfl) ?_
                    refine TL.gnon rfl (fun d hd => by cases hd; exact ltb rfl) (yieldE_un rfl rfl) ?_
                    refine TL.gnon rfl (fun d hd => by cases hd; exact ltb rfl) (yieldE_un rfl rfl) ?_
                    refine TL.gnon rfl (fun d hd => by cases hd; exact ltb rfl) (yieldE_un rfl rfl) ?_
                    refine TL.gno false rfl (fun d hd => by cases hd; exact ltb rfl) (yieldE_of rfl (bF hc_152)) rfl ?_
                    refine TL.v (ltb rfl) (rv_pickF false (bF hc_152) rfl (v := .bool false) rfl) ?_
                    obtain rfl := Option.some.inj hp
                    refine TL.nil (hJ_151 _ ?_ ?_ ?_ ?_ ?_ ?_ ?_)
                    · exact h_120
                    · exact h_121
                    · exact h_122
                    · exact h_123
                    · exact h_124
                    · exact h_125
                    · exact rfl
                · rw [if_neg hc_143] at hp
                  refine TC.condF (bF hc_143) ?_
                  refine TC.exit ?_
                  refine fun w hw => hJ_137 _ ?_ ?_ ?_ ?_ ?_ (ex_ret hp hx_130) w (hw.pick [0, 0, 0])
                  · exact h_120
                  · exact h_121
                  · exact h_122
                  · exact h_123
                  · exact h_124
            clear hp
            have hp := ht_192
            clear ht_192
            by_cases hc_106 : ¬ (len x26) = (len x18.1)
            · rw [if_pos hc_106] at hp
              refine TL.gno true rfl (fun d hd => by cases hd; exact ltb rfl) (yieldE_of rfl (bT hc_106)) rfl ?_
              refine TL.gno true rfl (fun d hd => by cases hd; exact ltb rfl) (yieldE_of rfl (bT hc_106)) rfl ?_
              refine TL.gno true rfl (fun d hd => by cases hd; exact ltb rfl) (yieldE_of rfl (bT hc_106)) rfl ?_
              refine TL.gno true rfl (fun d hd => by cases hd; exact ltb rfl) (yieldE_of rfl (bT hc_106)) rfl ?_
              refine TL.gno true rfl (fun d hd => by cases hd; exact ltb rfl) (yieldE_of rfl (bT hc_106)) rfl ?_
              refine TL.gno true rfl (fun d hd => by cases hd; exact ltb rfl) (yieldE_of rfl (bT hc_106)) rfl ?_
              refine TL.gno true rfl (fun d hd => by cases hd; exact ltb rfl) (yieldE_of rfl (bT hc_106)) rfl ?_
              refine TL.gno true rfl (fun d hd => by cases hd; exact ltb rfl) (yieldE_of rfl (bT hc_106)) rfl ?_
              refine TL.v (ltb rfl) (rv_pickT true (bT hc_106) rfl (v := .bool true) rfl) ?_
              obtain rfl := Option.some.inj hp
              refine TL.nil (hJ_105 _ ?_ ?_ ?_ ?_ ?_ ?_)
              · exact h_75
              · exact h_76
              · exact h_77
              · exact h_78
              · exact h_79
              · exact rfl
            · rw [if_neg hc_106] at hp
              refine TL.gyes false (yieldE_of rfl (bF hc_106)) rfl ?_
              refine TL.v (ltb rfl) (rv_mv (v := v12) h_77) ?_
              refine TL.gyes false (yieldE_of rfl (bF hc_106)) rfl ?_
              refine TL.v (ltb rfl) (rv_mv (v := .int .i64 x25) h_79) ?_
              refine TL.gyes false (yieldE_of rfl (bF hc_106)) rfl ?_
              obtain ⟨x72, hx_193, hp⟩ := bind_some' hp
              refine TL.v3 (ltb rfl) (rv_ix 93 (.tmp 70) (.tmp 71) (v := v12) (i := x25) Try.underlying93 inf_30 rfl rfl rfl (h14).ro hx_193) fun b73 o74 c75 h76 h77 => ?_
              obtain ⟨v78, rfl, h79⟩ := h76
              refine TL.gyes false (yieldE_of rfl (bF hc_106)) rfl ?_
              refine TL.v (ltb rfl) (rv_ld (v := v78) (o := o74) (o' := o74) (j := 0) sc_30 rfl (Src.at_ 1 rfl) h77 rfl rfl) ?_
              refine TL.gyes false (yieldE_of rfl (bF hc_106)) rfl ?_
              refine TL.v (ltb rfl) (rv_lenI (v := v78) Try.underlying30 rfl h79) ?_
              refine TL.gyes false (yieldE_of rfl (bF hc_106)) rfl ?_
              refine TL.v (ltb rfl) (rv_mv (v := v19) h_78) ?_
              refine TL.gyes false (yieldE_of rfl (bF hc_106)) rfl ?_
              refine TL.v (ltb rfl) (rv_lenI (v := v19) Try.underlying22 rfl h21.ro) ?_
              refine TL.gyes false (yieldE_of rfl (bF hc_106)) rfl ?_
              refine TL.v (ltb rfl) (rv_neq (k := .i64) (m := (len x72)) (n := (len x18.1)) rfl rfl) ?_
              refine TL.v (ltb rfl) (rv_pickF false (bF hc_106) rfl (v := .bool (decide (¬ (len x72) = (len x18.1)))) rfl) ?_
              obtain rfl := Option.some.inj hp
              refine TL.nil (hJ_105 _ ?_ ?_ ?_ ?_ ?_ ?_)
              · exact h_75
              · exact h_76
              · exact h_77
              · exact h_78
              · exact h_79
              · exact rfl
          · rw [if_neg hc_95] at hp
            refine TC.condF (bF hc_95) ?_
            refine TC.exit ?_
            refine fun w hw => hJ_89 _ ?_ (ex_ret hp hx_84) w (hw.pick [])
            · exact h_75
      by_cases hc_45 : (¬ x8.2.2 = GErr.no) ∨ (¬ x18.2 = GErr.no)
      · refine TL.gno true rfl (fun d hd => by cases hd; exact ltb rfl) (yieldE_of rfl (bT hc_45)) rfl ?_
        refine TL.gno true rfl (fun d hd => by cases hd; exact ltb rfl) (yieldE_of rfl (bT hc_45)) rfl ?_
        refine TL.gno true rfl (fun d hd => by cases hd; exact ltb rfl) (yieldE_of rfl (bT hc_45)) rfl ?_
        refine TL.gno true rfl (fun d hd => by cases hd; exact ltb rfl) (yieldE_of rfl (bT hc_45)) rfl ?_
        refine TL.gno true rfl (fun d hd => by cases hd; exact ltb rfl) (yieldE_of rfl (bT hc_45)) rfl ?_
        refine TL.v (ltb rfl) (rv_pickT true (bT hc_45) rfl (v := .bool true) rfl) ?_
        refine TL.nil (hJ_44 _ ?_ ?_ ?_ ?_ ?_ ?_ ?_)
        · exact h_35
        · exact h_36
        · exact h_37
        · exact h_38
        · exact h_39
        · exact h_40
        · exact (bOt hc_45)
      · refine TL.gyes false (yieldE_of rfl (bF hc_45)) rfl ?_
        refine TL.v (ltb rfl) (rv_mv (v := v9) h_36) ?_
        refine TL.gyes false (yieldE_of rfl (bF hc_45)) rfl ?_
        refine TL.v (ltb rfl) (rv_lenI (v := v9) Try.underlying93 rfl h11.ro) ?_
        refine TL.gyes false (yieldE_of rfl (bF hc_45)) rfl ?_
        refine TL.v (ltb rfl) (rv_mv (v := v12) h_37) ?_
        refine TL.gyes false (yieldE_of rfl (bF hc_45)) rfl ?_
        refine TL.v (ltb rfl) (rv_lenI (v := v12) Try.underlying93 rfl h14.ro) ?_
        refine TL.gyes false (yieldE_of rfl (bF hc_45)) rfl ?_
        refine TL.v (ltb rfl) (rv_neq (k := .i64) (m := (len x8.1)) (n := (len x8.2.1)) rfl rfl) ?_
        refine TL.v (ltb rfl) (rv_pickF false (bF hc_45) rfl (v := .bool (decide (¬ (len x8.1) = (len x8.2.1)))) rfl) ?_
        refine TL.nil (hJ_44 _ ?_ ?_ ?_ ?_ ?_ ?_ ?_)
        · exact h_35
        · exact h_36
        · exact h_37
        · exact h_38
        · exact h_39
        · exact h_40
        · exact (bOf hc_45)
    by_cases hc_33 : ¬ x8.2.2 = GErr.no
    · refine TL.gno true rfl (fun d hd => by cases hd; exact ltb rfl) (yieldE_of rfl (bT hc_33)) rfl ?_
      refine TL.gno true rfl (fun d hd => by cases hd; exact ltb rfl) (yieldE_of rfl (bT hc_33)) rfl ?_
      refine TL.v (ltb rfl) (rv_pickT true (bT hc_33) rfl (v := .bool true) rfl) ?_
      refine TL.nil (hJ_32 _ ?_ ?_ ?_ ?_ ?_ ?_ ?_)
      · exact rfl
      · exact rfl
      · exact rfl
      · exact rfl
      · exact rfl
      · exact rfl
      · exact (bOt hc_33)
    · refine TL.gyes false (yieldE_of rfl (bF hc_33)) rfl ?_
      refine TL.v (ltb rfl) (rv_mv (v := v22) rfl) ?_
      refine TL.gyes false (yieldE_of rfl (bF hc_33)) rfl ?_
      refine TL.v (ltb rfl) (rv_neqEN ifc_49 h24 rfl) ?_
      refine TL.v (ltb rfl) (rv_pickF false (bF hc_33) rfl (v := .bool (decide (¬ x18.2 = GErr.no))) rfl) ?_
      refine TL.nil (hJ_32 _ ?_ ?_ ?_ ?_ ?_ ?_ ?_)
      · exact rfl
      · exact rfl
      · exact rfl
      · exact rfl
      · exact rfl
      · exact rfl
      · exact (bOf hc_33)
end Go.Proofs.Ytoflleabpkgdpaa
