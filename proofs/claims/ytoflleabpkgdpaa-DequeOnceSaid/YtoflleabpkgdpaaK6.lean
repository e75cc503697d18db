/- The walk through the program's functions: each one's pure reading, and that a call does what it says. No conditions. -/
import Derived.Test.YtoflleabpkgdpaaK3
set_option linter.unusedVariables false
set_option linter.unusedSimpArgs false
namespace Go.Proofs.Ytoflleabpkgdpaa
open Go Go.Proofs

/-! ### fettle/fettlelaw11.DequePlays -/
abbrev fettlelaw11_DequePlays.R (Q : Bool → Prop) (v : Value) (A : List FP) : Prop := ∃ r, Q r ∧ .bool r = v ∧ A = []
def fettlelaw11_DequePlays.nx54 (x5 : Bool) (x6 : Option Nat × Rgn) (R26 : Rgn) : D Bool :=
  bO (deque_Deque_Step x6.1 none R26) fun x27 =>
  rD (decide (x5 = true ∧ x27.2.1 = (GErr.code 1)))
def fettlelaw11_DequePlays.jn99 (x25 : Int) (R31 : Rgn) (x32 : List Int) (x36 : Int) (x37 : Int) (x38 : Bool) (x39 : List PPair) : D (Ex (Ex Bool Rgn) (Rgn × List Int × Int × Int × Bool × List PPair × Int)) :=
  rD (.go (R31, x32, x36, x37, x38, x39, (w64 (x25 + 1))))
def fettlelaw11_DequePlays.jn138 (x14 : List Int) (x18 : Int) (x19 : Int) (x25 : Int) (x51 : PPair × Bool × Bool × Bool × Rgn) (x53 : List PPair) : D (Ex (Ex Bool Rgn) (Rgn × List Int × Int × Int × Bool × List PPair × Int)) :=
  fettlelaw11_DequePlays.jn99 x25 x51.2.2.2.2 x14 x18 x19 x51.2.2.2.1 x53
def fettlelaw11_DequePlays.bd54 (a1 : List PDeed) (x6 : Option Nat × Rgn) (x7 : Option Nat × Rgn) (R13 : Rgn) (x14 : List Int) (x18 : Int) (x19 : Int) (x20 : Bool) (x21 : List PPair) (x25 : Int) : D (Ex (Ex Bool Rgn) (Rgn × List Int × Int × Int × Bool × List PPair × Int)) :=
  if x25 < (len a1) ∧ x25 < 400 then
    bO (idx a1 x25) fun x43 =>
    bO (fettlelaw11_pick x43.what 6) fun x50 =>
    if x50 < 3 then
      if (len x21) ≥ 6 then
        fettlelaw11_DequePlays.jn99 x25 R13 x14 x18 x19 x20 x21
      else
        bD (fettlelaw11_begun x6.1 (⟨x14, x18, x19, x20⟩ : PDeque) x50 x43.v R13) fun x51 =>
        if (!x51.2.2.1) = true then
          rD (.ret (.ret false))
        else
          if x51.2.1 = true then
            bO (cat x21 [x51.1]) fun x58 =>
            fettlelaw11_DequePlays.jn138 x14 x18 x19 x25 x51 x58
          else
            fettlelaw11_DequePlays.jn138 x14 x18 x19 x25 x51 x21
    else
      if (len x21) = 0 then
        fettlelaw11_DequePlays.jn99 x25 R13 x14 x18 x19 x20 x21
      else
        bO (fettlelaw11_pick x43.n (len x21)) fun x62 =>
        bO (idx x21 x62) fun x63 =>
        bO (deque_Deque_Step x7.1 x63.o R13) fun x70 =>
        bO (deque_Deque_Step x6.1 x63.o x70.2.2) fun x74 =>
        bO (fettleref11_Deque_Step (⟨x14, x18, x19, x20⟩ : PDeque) x63.m x74.2.2) fun x78 =>
        bO (deque_Op_Result x63.o x78.2.2.2.2) fun x82 =>
        bO (fettleref11_Op_Result x63.m x78.2.2.2.2) fun x83 =>
        bO (deque_Deque_State x6.1 x78.2.2.2.2) fun x84 =>
        if ((((((¬ x70.2.1 = (GErr.code 1)) ∨ (¬ x74.2.1 = GErr.no)) ∨ ((!(x74.1 == (decide (¬ x83.1 = 0)))) = true)) ∨ (¬ x82.1 = x83.1)) ∨ (¬ x82.2 = x83.2)) ∨ (¬ x84.1 = x78.2.1)) ∨ (¬ x84.2 = x78.2.2.1) then
          rD (.ret (.ret false))
        else
          if x74.1 = true then
            bO (deque_Deque_Step x6.1 x63.o x78.2.2.2.2) fun x85 =>
            if ¬ x85.2.1 = (GErr.code 7) then
              rD (.ret (.ret false))
            else
              bO (upto x21 x62) fun x1290 =>
              bO (from_ x21 (w64 (x62 + 1))) fun x3290 =>
              bO (cat ([] : List PPair) x1290) fun x1690 =>
              bO (cat x1690 x3290) fun x3690 =>
              fettlelaw11_DequePlays.jn99 x25 x85.2.2 x78.1 x78.2.1 x78.2.2.1 x78.2.2.2.1 x3690
          else
            fettlelaw11_DequePlays.jn99 x25 x78.2.2.2.2 x78.1 x78.2.1 x78.2.2.1 x78.2.2.2.1 x21
  else
    rD (.ret (.go R13))
def fettlelaw11_DequePlays (a1 : List PDeed) : D Bool :=
  bD (fettlelaw11_up) fun x5 =>
  bD (deque_New Rgn.zero) fun x6 =>
  bD (deque_New x6.2) fun x7 =>
  if x6.1 = none ∨ x7.1 = none then
    rD false
  else
    bO (fettleref11_New) fun x8 =>
    bD (whlD (fun (s : (Rgn × List Int × Int × Int × Bool × List PPair × Int)) => fettlelaw11_DequePlays.bd54 a1 x6 x7 s.1 s.2.1 s.2.2.1 s.2.2.2.1 s.2.2.2.2.1 s.2.2.2.2.2.1 s.2.2.2.2.2.2) FUEL (x7.2, x8.cells, x8.top, x8.bottom, x8.busy, ([] : List PPair), 0)) fun z =>
    match z with
      | .ret r => rD r
      | .go p => fettlelaw11_DequePlays.nx54 x5 x6 p
set_option maxHeartbeats 4000000 in
theorem fettlelaw11_DequePlays_ok {E : World} {H : FP} {w : World} {a1 : List PDeed} {v2 : Value} {Q : Bool → Prop} (h3 : SlI kDeed H a1 v2) (hp : fettlelaw11_DequePlays a1 Q) (hst : St E H [] w) :
    Fn Try.prog 6 #[v2] w fun v w' => ∃ A, fettlelaw11_DequePlays.R Q v A ∧ St E H A w' := by
  refine Fn.body (fn := Try.f6) (args := [v2]) E H [] [.tmp 2] 197 Try.func6 rfl rfl rfl rfl (leb rfl) hst ?_
  refine TC.perm (L' := [rgF Rgn.zero]) (List.Perm.refl _) ?_
  unfold fettlelaw11_DequePlays at hp
  refine TC.seq fun K_1 hK_2 => ?_
  refine TC.region ?_
  refine TL.v (ltb rfl) (rv_as (v := .bool false) rfl) ?_
  refine TL.nil ?_
  refine TC.go hK_2 ?_
  refine TC.seq fun K_3 hK_4 => ?_
  refine TC.region ?_
  have hp := bD' hp
  refine TL.callC (vs := []) (R := fettlelaw11_up.R _) [] [rgF Rgn.zero] rfl cb_25 (ltb rfl) m0 (fun w hw => fettlelaw11_up_ok hp hw) fun v A' hR_6 => ?_
  obtain ⟨x5, hp, rfl, rfl⟩ := hR_6
  refine TL.norm (L' := [rgF Rgn.zero]) rfl ?_
  refine TL.v (ltb rfl) (rv_as (v := .bool x5) rfl) ?_
  refine TL.nil ?_
  refine TC.go hK_4 ?_
  refine TC.seq fun K_7 hK_8 => ?_
  refine TC.region ?_
  have hp := bD' hp
  refine TL.callC (vs := []) (R := deque_New.R _) [rgF Rgn.zero] [] rfl cb_26 (ltb rfl) m0 (fun w hw => deque_New_ok (R2 := Rgn.zero) hp hw) fun v A' hR_10 => ?_
  obtain ⟨x6, hp, rfl, rfl⟩ := hR_10
  refine TL.norm (L' := [rgF x6.2]) rfl ?_
  refine TL.v (ltb rfl) (rv_as (v := ptrV x6.1) rfl) ?_
  refine TL.nil ?_
  refine TC.go hK_8 ?_
  refine TC.seq fun K_11 hK_12 => ?_
  refine TC.region ?_
  have hp := bD' hp
  refine TL.callC (vs := []) (R := deque_New.R _) [rgF x6.2] [] rfl cb_26 (ltb rfl) m0 (fun w hw => deque_New_ok (R2 := x6.2) hp hw) fun v A' hR_14 => ?_
  obtain ⟨x7, hp, rfl, rfl⟩ := hR_14
  refine TL.norm (L' := [rgF x7.2]) rfl ?_
  refine TL.v (ltb rfl) (rv_as (v := ptrV x7.1) rfl) ?_
  refine TL.nil ?_
  refine TC.go hK_12 ?_
  refine TC.seq fun K_15 hK_16 => ?_
  refine TC.seq fun K_17 hK_18 => ?_
  refine TC.region ?_
  refine TL.v (ltb rfl) (rv_mv (v := ptrV x6.1) rfl) ?_
  refine TL.v (ltb rfl) (rv_eqlPN (p := x6.1) pn_37 rfl rfl) ?_
  refine TL.v (ltb rfl) (rv_mv (v := .bool (decide (x6.1 = none))) rfl) ?_
  refine TL.cut 3 fun K_19 hK_20 => ?_
  have hJ_21 : ∀ e_23 : Env, e_23 0 = v2 → e_23 3 = .bool x5 → e_23 4 = ptrV x6.1 → e_23 5 = ptrV x7.1 → e_23 38 = .bool (decide (x6.1 = none ∨ x7.1 = none)) → ∀ w, St E H [rgF x7.2] w → K_19 e_23 w := by
    intro e_23 h_24 h_25 h_26 h_27 h_28
    refine TL.go hK_20 ?_
    refine TL.nil ?_
    refine TC.go hK_18 ?_
    by_cases hc_29 : x6.1 = none ∨ x7.1 = none
    · rw [if_pos hc_29] at hp
      refine TC.condT (h_28.trans (bT hc_29)) ?_
      refine TC.seq fun K_30 hK_31 => ?_
      refine TC.region ?_
      refine TL.v (ltb rfl) (rv_as (v := .bool false) rfl) ?_
      refine TL.nil ?_
      refine TC.go hK_31 ?_
      refine TC.ret ?_
      exact fun w hw => retOk ⟨false, hp, rfl, rfl⟩ (hw.pick [])
    · rw [if_neg hc_29] at hp
      refine TC.condF (h_28.trans (bF hc_29)) ?_
      refine TC.skip ?_
      refine TC.go hK_16 ?_
      refine TC.seq fun K_32 hK_33 => ?_
      refine TC.region ?_
      obtain ⟨x8, hy_34, hp⟩ := bO' hp
      refine TL.callC (vs := []) (R := fettleref11_New.R x8) [] [rgF x7.2] rfl cb_37 (ltb rfl) m0 (fun w hw => fettleref11_New_ok hy_34 hw) fun v A' hR_35 => ?_
      obtain ⟨b9, v10, F11, rfl, rfl, h12⟩ := hR_35
      refine TL.norm (L' := [bx b9 74 [v10, .int .i64 x8.top, .int .i64 x8.bottom, .bool x8.busy], F11, rgF x7.2]) rfl ?_
      refine TL.v (ltb rfl) (rv_as (v := .pointer (some ⟨b9, 0, none⟩)) rfl) ?_
      refine TL.nil ?_
      refine TC.go hK_33 ?_
      refine TC.seq fun K_36 hK_37 => ?_
      refine TC.region ?_
      refine TL.v (ltb rfl) (rv_as (v := .slice none 0 0) rfl) ?_
      refine TL.nil ?_
      refine TC.go hK_37 ?_
      refine TC.seq fun K_38 hK_39 => ?_
      refine TC.seq fun K_40 hK_41 => ?_
      refine TC.region ?_
      refine TL.v (ltb rfl) (rv_as (v := .int .i64 0) rfl) ?_
      refine TL.nil ?_
      refine TC.go hK_41 ?_
      refine TC.block ?_
      have hJ_70 : ∀ (R26 : Rgn) (e_55 : Env) (h_56 : e_55 3 = .bool x5) (h_57 : e_55 4 = ptrV x6.1) (hp : fettlelaw11_DequePlays.nx54 x5 x6 R26 Q), ∀ w, St E H [rgF R26] w → K_38 e_55 w := by
        intro R26 e_55 h_56 h_57 hp
        unfold fettlelaw11_DequePlays.nx54 at hp
        refine TC.go hK_39 ?_
        refine TC.seq fun K_58 hK_59 => ?_
        refine TC.region ?_
        refine TL.v (ltb rfl) (rv_mv (v := ptrV x6.1) h_57) ?_
        obtain ⟨x27, hy_60, hp⟩ := bO' hp
        refine TL.callC (vs := [ptrV x6.1, .pointer none]) (R := deque_Deque_Step.R x27) [rgF R26] [] rfl cb_30 (ltb rfl) (mc rfl (mc rfl m0)) (fun w hw => deque_Deque_Step_ok (a1 := x6.1) (a2 := none) (R4 := R26) hy_60 hw) fun v A' hR_61 => ?_
        obtain ⟨v28, F29, rfl, rfl, h30⟩ := hR_61
        refine TL.norm (L' := [F29, rgF x27.2.2]) rfl ?_
        refine TL.v (ltb rfl) (rv_mv (v := .tuple #[.bool x27.1, v28]) rfl) ?_
        refine TL.v (ltb rfl) (rv_extract (vs := #[.bool x27.1, v28]) (v := .bool x27.1) rfl rfl) ?_
        refine TL.v (ltb rfl) (rv_extract (vs := #[.bool x27.1, v28]) (v := v28) rfl rfl) ?_
        refine TL.v (ltb rfl) (rv_as (v := .bool x27.1) rfl) ?_
        refine TL.v (ltb rfl) (rv_as (v := v28) rfl) ?_
        refine TL.nil ?_
        refine TC.go hK_59 ?_
        refine TC.seq fun K_62 hK_63 => ?_
        refine TC.region ?_
        refine TL.v (ltb rfl) (rv_mv (v := .bool x5) h_56) ?_
        refine TL.v (ltb rfl) (rv_mv (v := .bool x5) rfl) ?_
        refine TL.cut 4 fun K_64 hK_65 => ?_
        have hJ_66 : ∀ e_68 : Env, e_68 196 = .bool (decide (x5 = true ∧ x27.2.1 = (GErr.code 1))) → ∀ w, St E H [F29, rgF x27.2.2] w → K_64 e_68 w := by
          intro e_68 h_69
          refine TL.go hK_65 ?_
          refine TL.v (ltb rfl) (rv_as (v := .bool (decide (x5 = true ∧ x27.2.1 = (GErr.code 1)))) h_69) ?_
          refine TL.nil ?_
          refine TC.go hK_63 ?_
          refine TC.ret ?_
          exact fun w hw => retOk ⟨(decide (x5 = true ∧ x27.2.1 = (GErr.code 1))), hp, rfl, rfl⟩ (hw.pick [])
        by_cases hc_67 : x5 = true
        · refine TL.gyes true (yieldE_of rfl (bbT hc_67)) rfl ?_
          refine TL.v (ltb rfl) (rv_mv (v := v28) rfl) ?_
          refine TL.gyes true (yieldE_of rfl (bbT hc_67)) rfl ?_
          refine TL.v (ltb rfl) (rv_makeIface (v := .int .i64 1) Try.underlying72 (fun ms h => by cases h) rfl) ?_
          refine TL.gyes true (yieldE_of rfl (bbT hc_67)) rfl ?_
          refine TL.v (ltb rfl) (rv_eqlEC ifc_49 cmp_72 Try.underlying72 Try.underlying143 (by decide) h30 rfl rfl) ?_
          refine TL.v (ltb rfl) (rv_pickT true (bbT hc_67) rfl (v := .bool (decide (x27.2.1 = (GErr.code 1)))) rfl) ?_
          refine TL.nil (hJ_66 _ ?_)
          · exact (bAt hc_67)
        · refine TL.gno false rfl (fun d hd => by cases hd; exact ltb rfl) (yieldE_of rfl (bbF hc_67)) rfl ?_
          refine TL.gno false rfl (fun d hd => by cases hd; exact ltb rfl) (yieldE_of rfl (bbF hc_67)) rfl ?_
          refine TL.gno false rfl (fun d hd => by cases hd; exact ltb rfl) (yieldE_of rfl (bbF hc_67)) rfl ?_
          refine TL.v (ltb rfl) (rv_pickF false (bbF hc_67) rfl (v := .bool false) rfl) ?_
          refine TL.nil (hJ_66 _ ?_)
          · exact (bAf hc_67)
      have hp := bD' hp
      refine W.new0 ?_
      refine TC.pk' [3, 1, 1, 0] (L' := [rgF x7.2, bx b9 74 [v10, .int .i64 x8.top, .int .i64 x8.bottom, .bool x8.busy], F11, ([] : FP)]) rfl ?_
      refine TC.loopD (fun (s : (Rgn × List Int × Int × Int × Bool × List PPair × Int)) (e_42 : Env) (L_325 : List FP) => ∃ (R13 : Rgn) (x14 : List Int) (x18 : Int) (x19 : Int) (x20 : Bool) (x21 : List PPair) (x25 : Int) (v15 : Value) (F16 : FP) (v22 : Value) (F23 : FP), s = (R13, x14, x18, x19, x20, x21, x25) ∧ SlO 3 (kInt .i64) x14 v15 F16 ∧ SlO 68 kPair x21 v22 F23 ∧ e_42 0 = v2 ∧ e_42 3 = .bool x5 ∧ e_42 4 = ptrV x6.1 ∧ e_42 5 = ptrV x7.1 ∧ e_42 6 = .pointer (some ⟨b9, 0, none⟩) ∧ e_42 7 = v22 ∧ e_42 8 = .int .i64 x25 ∧ L_325 = [rgF R13, bx b9 74 [v15, .int .i64 x18, .int .i64 x19, .bool x20], F16, F23]) ?_ FUEL _ _ _ hp ⟨x7.2, x8.cells, x8.top, x8.bottom, x8.busy, ([] : List PPair), 0, v10, F11, (.slice none 0 0), ([] : FP), rfl, h12, (SlO.nil 68), h_24, h_25, h_26, h_27, rfl, rfl, rfl, rfl⟩
      rintro s e_42 L_325 ⟨R13, x14, x18, x19, x20, x21, x25, v15, F16, v22, F23, rfl, h17, h24, h_43, h_44, h_45, h_46, h_47, h_48, h_49, rfl⟩ x_53 hp hx_54
      replace hp : fettlelaw11_DequePlays.bd54 a1 x6 x7 R13 x14 x18 x19 x20 x21 x25 x_53 := hp
      unfold fettlelaw11_DequePlays.bd54 at hp
      refine TC.seq fun K_71 hK_72 => ?_
      refine TC.seq fun K_73 hK_74 => ?_
      refine TC.region ?_
      refine TL.v (ltb rfl) (rv_mv (v := .int .i64 x25) h_49) ?_
      refine TL.v (ltb rfl) (rv_mv (v := v2) h_43) ?_
      refine TL.v (ltb rfl) (rv_lenI (v := v2) Try.underlying36 rfl h3) ?_
      refine TL.v (ltb rfl) (rv_lss (k := .i64) (m := x25) (n := (len a1)) rfl rfl) ?_
      refine TL.v (ltb rfl) (rv_mv (v := .bool (decide (x25 < (len a1)))) rfl) ?_
      refine TL.cut 3 fun K_75 hK_76 => ?_
      have hJ_77 : ∀ e_79 : Env, e_79 0 = v2 → e_79 3 = .bool x5 → e_79 4 = ptrV x6.1 → e_79 5 = ptrV x7.1 → e_79 6 = .pointer (some ⟨b9, 0, none⟩) → e_79 7 = v22 → e_79 8 = .int .i64 x25 → e_79 47 = .bool (decide (x25 < (len a1) ∧ x25 < 400)) → ∀ w, St E H [rgF R13, bx b9 74 [v15, .int .i64 x18, .int .i64 x19, .bool x20], F16, F23] w → K_75 e_79 w := by
        intro e_79 h_80 h_81 h_82 h_83 h_84 h_85 h_86 h_87
        refine TL.go hK_76 ?_
        refine TL.nil ?_
        refine TC.go hK_74 ?_
        by_cases hc_88 : x25 < (len a1) ∧ x25 < 400
        · rw [if_pos hc_88] at hp
          refine TC.condT (h_87.trans (bT hc_88)) ?_
          refine TC.skip ?_
          refine TC.go hK_72 ?_
          refine TC.seq fun K_89 hK_90 => ?_
          have hJ_99 : ∀ (R31 : Rgn) (x32 : List Int) (x36 : Int) (x37 : Int) (x38 : Bool) (x39 : List PPair) (v33 : Value) (F34 : FP) (v40 : Value) (F41 : FP) (e_91 : Env) (h35 : SlO 3 (kInt .i64) x32 v33 F34) (h42 : SlO 68 kPair x39 v40 F41) (h_92 : e_91 0 = v2) (h_93 : e_91 3 = .bool x5) (h_94 : e_91 4 = ptrV x6.1) (h_95 : e_91 5 = ptrV x7.1) (h_96 : e_91 6 = .pointer (some ⟨b9, 0, none⟩)) (h_97 : e_91 7 = v40) (h_98 : e_91 8 = .int .i64 x25) (hp : fettlelaw11_DequePlays.jn99 x25 R31 x32 x36 x37 x38 x39 x_53), ∀ w, St E H [rgF R31, bx b9 74 [v33, .int .i64 x36, .int .i64 x37, .bool x38], F34, F41] w → K_89 e_91 w := by
            intro R31 x32 x36 x37 x38 x39 v33 F34 v40 F41 e_91 h35 h42 h_92 h_93 h_94 h_95 h_96 h_97 h_98 hp
            unfold fettlelaw11_DequePlays.jn99 at hp
            refine TC.go hK_90 ?_
            refine TC.region ?_
            refine TL.v (ltb rfl) (rv_mv (v := .int .i64 x25) h_98) ?_
            refine TL.v (ltb rfl) (rv_add (k := .i64) (m := x25) (n := 1) rfl rfl) ?_
            refine TL.v (ltb rfl) (rv_as (v := .int .i64 (w64 (x25 + 1))) rfl) ?_
            refine TL.nil ?_
            exact fun w hw => goOkD hp ⟨R31, x32, x36, x37, x38, x39, (w64 (x25 + 1)), v33, F34, v40, F41, rfl, h35, h42, h_92, h_93, h_94, h_95, h_96, h_97, rfl, rfl⟩ (hw.pick [0, 0, 0, 0])
          refine TC.block ?_
          refine TC.seq fun K_100 hK_101 => ?_
          refine TC.region ?_
          refine TL.v (ltb rfl) (rv_mv (v := v2) h_80) ?_
          refine TL.v (ltb rfl) (rv_mv (v := .int .i64 x25) h_86) ?_
          obtain ⟨x43, hx_102, hp⟩ := bO' hp
          refine TL.v3 (ltb rfl) (rv_ix 36 (.tmp 50) (.tmp 51) (v := v2) (i := x25) Try.underlying36 inf_41 rfl rfl rfl h3 hx_102) fun b44 o45 c46 h47 h48 => ?_
          obtain rfl := h47
          refine TL.v (ltb rfl) (rv_lda (o := o45) (o' := o45) (j := 0) (ds := [.int .i64 x43.what, .int .i64 x43.v, .int .i64 x43.n]) ag_41 rfl Src.H h48 rfl rfl rfl) ?_
          refine TL.alloc (cs := [.int .i64 0, .int .i64 0, .int .i64 0]) inf_41 (ltb rfl) rfl fun b49 => ?_
          refine TL.stB (ds := [.int .i64 x43.what, .int .i64 x43.v, .int .i64 x43.n]) (o := 0) (cs := [.int .i64 0, .int .i64 0, .int .i64 0]) (b := b49) (u := .agg #[.int .i64 x43.what, .int .i64 x43.v, .int .i64 x43.n]) 0 rfl ms_41 rfl rfl rfl (oc rfl (oc rfl (oc rfl oc0))) (leb rfl) ?_
          refine TL.norm (L' := [bx b49 41 [.int .i64 x43.what, .int .i64 x43.v, .int .i64 x43.n], rgF R13, bx b9 74 [v15, .int .i64 x18, .int .i64 x19, .bool x20], F16, F23]) rfl ?_
          refine TL.nil ?_
          refine TC.go hK_101 ?_
          refine TC.seq fun K_103 hK_104 => ?_
          refine TC.seq fun K_105 hK_106 => ?_
          refine TC.region ?_
          refine TL.v (ltb rfl) (rv_fa (b := b49) (o := 0) fa_41_0 rfl) ?_
          refine TL.v (ltb rfl) (rv_ld (v := .int .i64 x43.what) (o := 0) (o' := 0) (j := 0) sc_3 rfl (Src.at_ 0 rfl) (bx_cells b49 41 _) rfl rfl) ?_
          obtain ⟨x50, hy_107, hp⟩ := bO' hp
          refine TL.callC (vs := [.int .i64 x43.what, .int .i64 6]) (R := fettlelaw11_pick.R x50) [] [bx b49 41 [.int .i64 x43.what, .int .i64 x43.v, .int .i64 x43.n], rgF R13, bx b9 74 [v15, .int .i64 x18, .int .i64 x19, .bool x20], F16, F23] rfl cb_27 (ltb rfl) (mc rfl (mc rfl m0)) (fun w hw => fettlelaw11_pick_ok (a1 := x43.what) (a2 := 6) hy_107 hw) fun v A' hR_108 => ?_
          obtain ⟨rfl, rfl⟩ := hR_108
          refine TL.norm (L' := [bx b49 41 [.int .i64 x43.what, .int .i64 x43.v, .int .i64 x43.n], rgF R13, bx b9 74 [v15, .int .i64 x18, .int .i64 x19, .bool x20], F16, F23]) rfl ?_
          refine TL.v (ltb rfl) (rv_as (v := .int .i64 x50) rfl) ?_
          refine TL.nil ?_
          refine TC.go hK_106 ?_
          refine TC.seq fun K_109 hK_110 => ?_
          refine TC.region ?_
          refine TL.v (ltb rfl) (rv_mv (v := .int .i64 x50) rfl) ?_
          refine TL.v (ltb rfl) (rv_lss (k := .i64) (m := x50) (n := 3) rfl rfl) ?_
          refine TL.nil ?_
          refine TC.go hK_110 ?_
          by_cases hc_111 : x50 < 3
          · rw [if_pos hc_111] at hp
            refine TC.condT (bT hc_111) ?_
            refine TC.seq fun K_112 hK_113 => ?_
            refine TC.seq fun K_114 hK_115 => ?_
            refine TC.region ?_
            refine TL.v (ltb rfl) (rv_mv (v := v22) h_85) ?_
            refine TL.v (ltb rfl) (rv_lenI (v := v22) Try.underlying65 rfl h24.ro) ?_
            refine TL.v (ltb rfl) (rv_geq (k := .i64) (m := (len x21)) (n := 6) rfl rfl) ?_
            refine TL.nil ?_
            refine TC.go hK_115 ?_
            by_cases hc_116 : (len x21) ≥ 6
            · rw [if_pos hc_116] at hp
              refine TC.condT (bT hc_116) ?_
              refine TC.exit ?_
              refine fun w hw => hJ_99 R13 x14 x18 x19 x20 x21 v15 F16 v22 F23 _ h17 h24 ?_ ?_ ?_ ?_ ?_ ?_ ?_ hp w (hw.pick [1, 1, 1, 1])
              · exact h_80
              · exact h_81
              · exact h_82
              · exact h_83
              · exact h_84
              · exact h_85
              · exact h_86
            · rw [if_neg hc_116] at hp
              refine TC.condF (bF hc_116) ?_
              refine TC.skip ?_
              refine TC.go hK_113 ?_
              refine TC.seq fun K_117 hK_118 => ?_
              refine TC.region ?_
              refine TL.v (ltb rfl) (rv_mv (v := ptrV x6.1) h_82) ?_
              refine TL.v (ltb rfl) (rv_mv (v := .pointer (some ⟨b9, 0, none⟩)) h_84) ?_
              refine TL.v (ltb rfl) (rv_mv (v := .int .i64 x50) rfl) ?_
              refine TL.v (ltb rfl) (rv_fa (b := b49) (o := 0) fa_41_1 rfl) ?_
              refine TL.v (ltb rfl) (rv_ld (v := .int .i64 x43.v) (o := 1) (o' := 0) (j := 1) sc_3 rfl (Src.at_ 0 rfl) (bx_cells b49 41 _) rfl rfl) ?_
              refine TL.pk' [2, 1, 0, 0, 0] (L' := [bx b9 74 [v15, .int .i64 x18, .int .i64 x19, .bool x20], rgF R13, bx b49 41 [.int .i64 x43.what, .int .i64 x43.v, .int .i64 x43.n], F16, F23]) rfl ?_
              have hp := bD' hp
              refine TL.callC (vs := [ptrV x6.1, .pointer (some ⟨b9, 0, none⟩), .int .i64 x50, .int .i64 x43.v]) (R := fettlelaw11_begun.R b9 (⟨x14, x18, x19, x20⟩ : PDeque) v15 _) [bx b9 74 [v15, .int .i64 x18, .int .i64 x19, .bool x20], rgF R13] [bx b49 41 [.int .i64 x43.what, .int .i64 x43.v, .int .i64 x43.n], F16, F23] rfl cb_38 (ltb rfl) (mc rfl (mc rfl (mc rfl (mc rfl m0)))) (fun w hw => fettlelaw11_begun_ok (a1 := x6.1) (a3 := (⟨x14, x18, x19, x20⟩ : PDeque)) (a7 := x50) (a8 := x43.v) (R10 := R13) (h17.ro.mono (subB 1 rfl)) hp hw) fun v A' hR_120 => ?_
              obtain ⟨x51, hp, rfl, rfl⟩ := hR_120
              refine TL.norm (L' := [bx b9 74 [v15, .int .i64 x18, .int .i64 x19, .bool x51.2.2.2.1], rgF x51.2.2.2.2, bx b49 41 [.int .i64 x43.what, .int .i64 x43.v, .int .i64 x43.n], F16, F23]) rfl ?_
              refine TL.v (ltb rfl) (rv_mv (v := .tuple #[.agg #[ptrV x51.1.o, ptrV x51.1.m], .bool x51.2.1, .bool x51.2.2.1]) rfl) ?_
              refine TL.v (ltb rfl) (rv_extract (vs := #[.agg #[ptrV x51.1.o, ptrV x51.1.m], .bool x51.2.1, .bool x51.2.2.1]) (v := .agg #[ptrV x51.1.o, ptrV x51.1.m]) rfl rfl) ?_
              refine TL.v (ltb rfl) (rv_extract (vs := #[.agg #[ptrV x51.1.o, ptrV x51.1.m], .bool x51.2.1, .bool x51.2.2.1]) (v := .bool x51.2.1) rfl rfl) ?_
              refine TL.v (ltb rfl) (rv_extract (vs := #[.agg #[ptrV x51.1.o, ptrV x51.1.m], .bool x51.2.1, .bool x51.2.2.1]) (v := .bool x51.2.2.1) rfl rfl) ?_
              refine TL.alloc (cs := [.pointer none, .pointer none]) inf_68 (ltb rfl) rfl fun b52 => ?_
              refine TL.stB (ds := [ptrV x51.1.o, ptrV x51.1.m]) (o := 0) (cs := [.pointer none, .pointer none]) (b := b52) (u := .agg #[ptrV x51.1.o, ptrV x51.1.m]) 0 rfl ms_68 rfl rfl rfl (oc rfl (oc rfl oc0)) (leb rfl) ?_
              refine TL.norm (L' := [bx b52 68 [ptrV x51.1.o, ptrV x51.1.m], bx b9 74 [v15, .int .i64 x18, .int .i64 x19, .bool x51.2.2.2.1], rgF x51.2.2.2.2, bx b49 41 [.int .i64 x43.what, .int .i64 x43.v, .int .i64 x43.n], F16, F23]) rfl ?_
              refine TL.v (ltb rfl) (rv_as (v := .bool x51.2.1) rfl) ?_
              refine TL.v (ltb rfl) (rv_as (v := .bool x51.2.2.1) rfl) ?_
              refine TL.nil ?_
              refine TC.go hK_118 ?_
              refine TC.seq fun K_121 hK_122 => ?_
              refine TC.seq fun K_123 hK_124 => ?_
              refine TC.region ?_
              refine TL.v (ltb rfl) (rv_mv (v := .bool x51.2.2.1) rfl) ?_
              refine TL.v (ltb rfl) (rv_not (b := x51.2.2.1) rfl) ?_
              refine TL.nil ?_
              refine TC.go hK_124 ?_
              by_cases hc_125 : (!x51.2.2.1) = true
              · rw [if_pos hc_125] at hp
                refine TC.condT (bbT hc_125) ?_
                refine TC.seq fun K_126 hK_127 => ?_
                refine TC.region ?_
                refine TL.v (ltb rfl) (rv_as (v := .bool false) rfl) ?_
                refine TL.nil ?_
                refine TC.go hK_127 ?_
                refine TC.ret ?_
                have hp := hx_54 _ hp
                exact fun w hw => retOk ⟨false, hp, rfl, rfl⟩ (hw.pick [])
              · rw [if_neg hc_125] at hp
                refine TC.condF (bbF hc_125) ?_
                refine TC.skip ?_
                refine TC.go hK_122 ?_
                refine TC.seq fun K_128 hK_129 => ?_
                have hJ_138 : ∀ (x53 : List PPair) (v54 : Value) (F55 : FP) (e_130 : Env) (h56 : SlO 68 kPair x53 v54 F55) (h_131 : e_130 0 = v2) (h_132 : e_130 3 = .bool x5) (h_133 : e_130 4 = ptrV x6.1) (h_134 : e_130 5 = ptrV x7.1) (h_135 : e_130 6 = .pointer (some ⟨b9, 0, none⟩)) (h_136 : e_130 7 = v54) (h_137 : e_130 8 = .int .i64 x25) (hp : fettlelaw11_DequePlays.jn138 x14 x18 x19 x25 x51 x53 x_53), ∀ w, St E H [rgF x51.2.2.2.2, bx b9 74 [v15, .int .i64 x18, .int .i64 x19, .bool x51.2.2.2.1], F16, F55] w → K_128 e_130 w := by
                  intro x53 v54 F55 e_130 h56 h_131 h_132 h_133 h_134 h_135 h_136 h_137 hp
                  unfold fettlelaw11_DequePlays.jn138 at hp
                  refine TC.go hK_129 ?_
                  refine TC.exit ?_
                  refine fun w hw => hJ_99 x51.2.2.2.2 x14 x18 x19 x51.2.2.2.1 x53 v15 F16 v54 F55 _ h17 h56 ?_ ?_ ?_ ?_ ?_ ?_ ?_ hp w (hw.pick [0, 0, 0, 0])
                  · exact h_131
                  · exact h_132
                  · exact h_133
                  · exact h_134
                  · exact h_135
                  · exact h_136
                  · exact h_137
                refine TC.seq fun K_139 hK_140 => ?_
                refine TC.region ?_
                refine TL.v (ltb rfl) (rv_mv (v := .bool x51.2.1) rfl) ?_
                refine TL.nil ?_
                refine TC.go hK_140 ?_
                by_cases hc_141 : x51.2.1 = true
                · rw [if_pos hc_141] at hp
                  refine TC.condT (bbT hc_141) ?_
                  refine TC.region ?_
                  refine TL.v (ltb rfl) (rv_mv (v := v22) h_85) ?_
                  refine TL.v (ltb rfl) (rv_lda (o := 0) (o' := 0) (j := 0) (ds := [ptrV x51.1.o, ptrV x51.1.m]) ag_68 rfl (Src.at_ 0 rfl) (bx_cells b52 68 _) rfl rfl rfl) ?_
                  refine TL.bv (vs := [(0, .agg #[ptrV x51.1.o, ptrV x51.1.m])]) (cs := [ptrV x51.1.o, ptrV x51.1.m]) (pc rfl p0) Try.underlying65 inf_68 (ltb rfl) (by decide) (by decide) (by kernel_rfl) fun b57 => ?_
                  refine TL.pk' [6, 0, 0, 0, 0, 0, 0] (L' := [F23, bx b57 68 [ptrV x51.1.o, ptrV x51.1.m], bx b52 68 [ptrV x51.1.o, ptrV x51.1.m], bx b9 74 [v15, .int .i64 x18, .int .i64 x19, .bool x51.2.2.2.1], rgF x51.2.2.2.2, bx b49 41 [.int .i64 x43.what, .int .i64 x43.v, .int .i64 x43.n], F16]) rfl ?_
                  refine TL.perm (L' := [F23, bx b57 68 [ptrV x51.1.o, ptrV x51.1.m], [], bx b52 68 [ptrV x51.1.o, ptrV x51.1.m], bx b9 74 [v15, .int .i64 x18, .int .i64 x19, .bool x51.2.2.2.1], rgF x51.2.2.2.2, bx b49 41 [.int .i64 x43.what, .int .i64 x43.v, .int .i64 x43.n], F16]) (by simp) ?_
                  obtain ⟨x58, hz_142, hp⟩ := bO' hp
                  refine TL.app Try.underlying65 inf_68 (ltb rfl) rfl (ltb rfl) rfl (leb rfl) rfl rfl h24 (RepL.to (RepL.cons (k := kPair) (x := x51.1) ⟨rfl, rfl⟩ RepL.nil) rfl) rfl rfl hz_142 fun v59 F60 h61 => ?_
                  refine TL.v (ltb rfl) (rv_as (v := v59) rfl) ?_
                  refine TL.nil ?_
                  refine fun w hw => hJ_138 x58 v59 F60 _ h61 ?_ ?_ ?_ ?_ ?_ ?_ ?_ hp w (hw.pick [3, 2, 3, 0])
                  · exact h_80
                  · exact h_81
                  · exact h_82
                  · exact h_83
                  · exact h_84
                  · exact rfl
                  · exact h_86
                · rw [if_neg hc_141] at hp
                  refine TC.condF (bbF hc_141) ?_
                  refine TC.skip ?_
                  refine fun w hw => hJ_138 x21 v22 F23 _ h24 ?_ ?_ ?_ ?_ ?_ ?_ ?_ hp w (hw.pick [2, 1, 2, 2])
                  · exact h_80
                  · exact h_81
                  · exact h_82
                  · exact h_83
                  · exact h_84
                  · exact h_85
                  · exact h_86
          · rw [if_neg hc_111] at hp
            refine TC.condF (bF hc_111) ?_
            refine TC.skip ?_
            refine TC.go hK_104 ?_
            refine TC.seq fun K_143 hK_144 => ?_
            refine TC.seq fun K_145 hK_146 => ?_
            refine TC.region ?_
            refine TL.v (ltb rfl) (rv_mv (v := v22) h_85) ?_
            refine TL.v (ltb rfl) (rv_lenI (v := v22) Try.underlying65 rfl h24.ro) ?_
            refine TL.v (ltb rfl) (rv_eql (k := .i64) (m := (len x21)) (n := 0) rfl rfl) ?_
            refine TL.nil ?_
            refine TC.go hK_146 ?_
            by_cases hc_147 : (len x21) = 0
            · rw [if_pos hc_147] at hp
              refine TC.condT (bT hc_147) ?_
              refine TC.exit ?_
              refine fun w hw => hJ_99 R13 x14 x18 x19 x20 x21 v15 F16 v22 F23 _ h17 h24 ?_ ?_ ?_ ?_ ?_ ?_ ?_ hp w (hw.pick [1, 1, 1, 1])
              · exact h_80
              · exact h_81
              · exact h_82
              · exact h_83
              · exact h_84
              · exact h_85
              · exact h_86
            · rw [if_neg hc_147] at hp
              refine TC.condF (bF hc_147) ?_
              refine TC.skip ?_
              refine TC.go hK_144 ?_
              refine TC.seq fun K_148 hK_149 => ?_
              refine TC.region ?_
              refine TL.v (ltb rfl) (rv_fa (b := b49) (o := 0) fa_41_2 rfl) ?_
              refine TL.v (ltb rfl) (rv_ld (v := .int .i64 x43.n) (o := 2) (o' := 0) (j := 2) sc_3 rfl (Src.at_ 0 rfl) (bx_cells b49 41 _) rfl rfl) ?_
              refine TL.v (ltb rfl) (rv_mv (v := v22) h_85) ?_
              refine TL.v (ltb rfl) (rv_lenI (v := v22) Try.underlying65 rfl h24.ro) ?_
              obtain ⟨x62, hy_150, hp⟩ := bO' hp
              refine TL.callC (vs := [.int .i64 x43.n, .int .i64 (len x21)]) (R := fettlelaw11_pick.R x62) [] [bx b49 41 [.int .i64 x43.what, .int .i64 x43.v, .int .i64 x43.n], rgF R13, bx b9 74 [v15, .int .i64 x18, .int .i64 x19, .bool x20], F16, F23] rfl cb_27 (ltb rfl) (mc rfl (mc rfl m0)) (fun w hw => fettlelaw11_pick_ok (a1 := x43.n) (a2 := (len x21)) hy_150 hw) fun v A' hR_151 => ?_
              obtain ⟨rfl, rfl⟩ := hR_151
              refine TL.norm (L' := [bx b49 41 [.int .i64 x43.what, .int .i64 x43.v, .int .i64 x43.n], rgF R13, bx b9 74 [v15, .int .i64 x18, .int .i64 x19, .bool x20], F16, F23]) rfl ?_
              refine TL.v (ltb rfl) (rv_as (v := .int .i64 x62) rfl) ?_
              refine TL.nil ?_
              refine TC.go hK_149 ?_
              refine TC.seq fun K_152 hK_153 => ?_
              refine TC.region ?_
              refine TL.v (ltb rfl) (rv_mv (v := v22) h_85) ?_
              refine TL.v (ltb rfl) (rv_mv (v := .int .i64 x62) rfl) ?_
              obtain ⟨x63, hx_154, hp⟩ := bO' hp
              refine TL.v3 (ltb rfl) (rv_ix 65 (.tmp 87) (.tmp 88) (v := v22) (i := x62) Try.underlying65 inf_68 rfl rfl rfl (h24).ro hx_154) fun b64 o65 c66 h67 h68 => ?_
              obtain rfl := h67
              refine TL.v (ltb rfl) (rv_lda (o := o65) (o' := o65) (j := 0) (ds := [ptrV x63.o, ptrV x63.m]) ag_68 rfl (Src.at_ 4 rfl) h68 rfl rfl rfl) ?_
              refine TL.alloc (cs := [.pointer none, .pointer none]) inf_68 (ltb rfl) rfl fun b69 => ?_
              refine TL.stB (ds := [ptrV x63.o, ptrV x63.m]) (o := 0) (cs := [.pointer none, .pointer none]) (b := b69) (u := .agg #[ptrV x63.o, ptrV x63.m]) 0 rfl ms_68 rfl rfl rfl (oc rfl (oc rfl oc0)) (leb rfl) ?_
              refine TL.norm (L' := [bx b69 68 [ptrV x63.o, ptrV x63.m], bx b49 41 [.int .i64 x43.what, .int .i64 x43.v, .int .i64 x43.n], rgF R13, bx b9 74 [v15, .int .i64 x18, .int .i64 x19, .bool x20], F16, F23]) rfl ?_
              refine TL.nil ?_
              refine TC.go hK_153 ?_
              refine TC.seq fun K_155 hK_156 => ?_
              refine TC.region ?_
              refine TL.v (ltb rfl) (rv_mv (v := ptrV x7.1) h_83) ?_
              refine TL.v (ltb rfl) (rv_fa (b := b69) (o := 0) fa_68_0 rfl) ?_
              refine TL.v (ltb rfl) (rv_ld (v := ptrV x63.o) (o := 0) (o' := 0) (j := 0) sc_44 rfl (Src.at_ 0 rfl) (bx_cells b69 68 _) rfl rfl) ?_
              refine TL.pk' [2, 0, 0, 0, 0, 0] (L' := [rgF R13, bx b69 68 [ptrV x63.o, ptrV x63.m], bx b49 41 [.int .i64 x43.what, .int .i64 x43.v, .int .i64 x43.n], bx b9 74 [v15, .int .i64 x18, .int .i64 x19, .bool x20], F16, F23]) rfl ?_
              obtain ⟨x70, hy_157, hp⟩ := bO' hp
              refine TL.callC (vs := [ptrV x7.1, ptrV x63.o]) (R := deque_Deque_Step.R x70) [rgF R13] [bx b69 68 [ptrV x63.o, ptrV x63.m], bx b49 41 [.int .i64 x43.what, .int .i64 x43.v, .int .i64 x43.n], bx b9 74 [v15, .int .i64 x18, .int .i64 x19, .bool x20], F16, F23] rfl cb_30 (ltb rfl) (mc rfl (mc rfl m0)) (fun w hw => deque_Deque_Step_ok (a1 := x7.1) (a2 := x63.o) (R4 := R13) hy_157 hw) fun v A' hR_158 => ?_
              obtain ⟨v71, F72, rfl, rfl, h73⟩ := hR_158
              refine TL.norm (L' := [F72, rgF x70.2.2, bx b69 68 [ptrV x63.o, ptrV x63.m], bx b49 41 [.int .i64 x43.what, .int .i64 x43.v, .int .i64 x43.n], bx b9 74 [v15, .int .i64 x18, .int .i64 x19, .bool x20], F16, F23]) rfl ?_
              refine TL.v (ltb rfl) (rv_mv (v := .tuple #[.bool x70.1, v71]) rfl) ?_
              refine TL.v (ltb rfl) (rv_extract (vs := #[.bool x70.1, v71]) (v := .bool x70.1) rfl rfl) ?_
              refine TL.v (ltb rfl) (rv_extract (vs := #[.bool x70.1, v71]) (v := v71) rfl rfl) ?_
              refine TL.v (ltb rfl) (rv_as (v := .bool x70.1) rfl) ?_
              refine TL.v (ltb rfl) (rv_as (v := v71) rfl) ?_
              refine TL.nil ?_
              refine TC.go hK_156 ?_
              refine TC.seq fun K_159 hK_160 => ?_
              refine TC.region ?_
              refine TL.v (ltb rfl) (rv_mv (v := ptrV x6.1) h_82) ?_
              refine TL.v (ltb rfl) (rv_fa (b := b69) (o := 0) fa_68_0 rfl) ?_
              refine TL.v (ltb rfl) (rv_ld (v := ptrV x63.o) (o := 0) (o' := 0) (j := 0) sc_44 rfl (Src.at_ 2 rfl) (bx_cells b69 68 _) rfl rfl) ?_
              refine TL.pk' [1, 0, 0, 0, 0, 0, 0] (L' := [rgF x70.2.2, F72, bx b69 68 [ptrV x63.o, ptrV x63.m], bx b49 41 [.int .i64 x43.what, .int .i64 x43.v, .int .i64 x43.n], bx b9 74 [v15, .int .i64 x18, .int .i64 x19, .bool x20], F16, F23]) rfl ?_
              obtain ⟨x74, hy_161, hp⟩ := bO' hp
              refine TL.callC (vs := [ptrV x6.1, ptrV x63.o]) (R := deque_Deque_Step.R x74) [rgF x70.2.2] [F72, bx b69 68 [ptrV x63.o, ptrV x63.m], bx b49 41 [.int .i64 x43.what, .int .i64 x43.v, .int .i64 x43.n], bx b9 74 [v15, .int .i64 x18, .int .i64 x19, .bool x20], F16, F23] rfl cb_30 (ltb rfl) (mc rfl (mc rfl m0)) (fun w hw => deque_Deque_Step_ok (a1 := x6.1) (a2 := x63.o) (R4 := x70.2.2) hy_161 hw) fun v A' hR_162 => ?_
              obtain ⟨v75, F76, rfl, rfl, h77⟩ := hR_162
              refine TL.norm (L' := [F76, rgF x74.2.2, F72, bx b69 68 [ptrV x63.o, ptrV x63.m], bx b49 41 [.int .i64 x43.what, .int .i64 x43.v, .int .i64 x43.n], bx b9 74 [v15, .int .i64 x18, .int .i64 x19, .bool x20], F16, F23]) rfl ?_
              refine TL.v (ltb rfl) (rv_mv (v := .tuple #[.bool x74.1, v75]) rfl) ?_
              refine TL.v (ltb rfl) (rv_extract (vs := #[.bool x74.1, v75]) (v := .bool x74.1) rfl rfl) ?_
              refine TL.v (ltb rfl) (rv_extract (vs := #[.bool x74.1, v75]) (v := v75) rfl rfl) ?_
              refine TL.v (ltb rfl) (rv_as (v := .bool x74.1) rfl) ?_
              refine TL.v (ltb rfl) (rv_as (v := v75) rfl) ?_
              refine TL.nil ?_
              refine TC.go hK_160 ?_
              refine TC.seq fun K_163 hK_164 => ?_
              refine TC.region ?_
              refine TL.v (ltb rfl) (rv_mv (v := .pointer (some ⟨b9, 0, none⟩)) h_84) ?_
              refine TL.v (ltb rfl) (rv_fa (b := b69) (o := 0) fa_68_1 rfl) ?_
              refine TL.v (ltb rfl) (rv_ld (v := ptrV x63.m) (o := 1) (o' := 0) (j := 1) sc_66 rfl (Src.at_ 3 rfl) (bx_cells b69 68 _) rfl rfl) ?_
              refine TL.pk' [5, 5, 1, 0, 0, 0, 0, 0] (L' := [bx b9 74 [v15, .int .i64 x18, .int .i64 x19, .bool x20], F16, rgF x74.2.2, F76, F72, bx b69 68 [ptrV x63.o, ptrV x63.m], bx b49 41 [.int .i64 x43.what, .int .i64 x43.v, .int .i64 x43.n], F23]) rfl ?_
              obtain ⟨x78, hy_165, hp⟩ := bO' hp
              refine TL.callC (vs := [.pointer (some ⟨b9, 0, none⟩), ptrV x63.m]) (R := fettleref11_Deque_Step.R b9 x78) [bx b9 74 [v15, .int .i64 x18, .int .i64 x19, .bool x20], F16, rgF x74.2.2] [F76, F72, bx b69 68 [ptrV x63.o, ptrV x63.m], bx b49 41 [.int .i64 x43.what, .int .i64 x43.v, .int .i64 x43.n], F23] rfl cb_39 (ltb rfl) (mc rfl (mc rfl m0)) (fun w hw => fettleref11_Deque_Step_ok (a2 := (⟨x14, x18, x19, x20⟩ : PDeque)) (a7 := x63.m) (R9 := x74.2.2) h17 hy_165 hw) fun v A' hR_166 => ?_
              obtain ⟨v79, F80, rfl, rfl, h81⟩ := hR_166
              refine TL.norm (L' := [bx b9 74 [v79, .int .i64 x78.2.1, .int .i64 x78.2.2.1, .bool x78.2.2.2.1], F80, rgF x78.2.2.2.2, F76, F72, bx b69 68 [ptrV x63.o, ptrV x63.m], bx b49 41 [.int .i64 x43.what, .int .i64 x43.v, .int .i64 x43.n], F23]) rfl ?_
              refine TL.nil ?_
              refine TC.go hK_164 ?_
              refine TC.seq fun K_167 hK_168 => ?_
              refine TC.region ?_
              refine TL.v (ltb rfl) (rv_fa (b := b69) (o := 0) fa_68_0 rfl) ?_
              refine TL.v (ltb rfl) (rv_ld (v := ptrV x63.o) (o := 0) (o' := 0) (j := 0) sc_44 rfl (Src.at_ 5 rfl) (bx_cells b69 68 _) rfl rfl) ?_
              refine TL.pk' [2, 0, 0, 0, 0, 0, 0, 0] (L' := [rgF x78.2.2.2.2, bx b9 74 [v79, .int .i64 x78.2.1, .int .i64 x78.2.2.1, .bool x78.2.2.2.1], F80, F76, F72, bx b69 68 [ptrV x63.o, ptrV x63.m], bx b49 41 [.int .i64 x43.what, .int .i64 x43.v, .int .i64 x43.n], F23]) rfl ?_
              obtain ⟨x82, hy_169, hp⟩ := bO' hp
              refine TL.callC (vs := [ptrV x63.o]) (R := deque_Op_Result.R x78.2.2.2.2 x82) [rgF x78.2.2.2.2] [bx b9 74 [v79, .int .i64 x78.2.1, .int .i64 x78.2.2.1, .bool x78.2.2.2.1], F80, F76, F72, bx b69 68 [ptrV x63.o, ptrV x63.m], bx b49 41 [.int .i64 x43.what, .int .i64 x43.v, .int .i64 x43.n], F23] rfl cb_31 (ltb rfl) (mc rfl m0) (fun w hw => deque_Op_Result_ok (a1 := x63.o) (R3 := x78.2.2.2.2) hy_169 hw) fun v A' hR_170 => ?_
              obtain ⟨rfl, rfl⟩ := hR_170
              refine TL.norm (L' := [rgF x78.2.2.2.2, bx b9 74 [v79, .int .i64 x78.2.1, .int .i64 x78.2.2.1, .bool x78.2.2.2.1], F80, F76, F72, bx b69 68 [ptrV x63.o, ptrV x63.m], bx b49 41 [.int .i64 x43.what, .int .i64 x43.v, .int .i64 x43.n], F23]) rfl ?_
              refine TL.v (ltb rfl) (rv_mv (v := .tuple #[.int .i64 x82.1, .int .i64 x82.2]) rfl) ?_
              refine TL.v (ltb rfl) (rv_extract (vs := #[.int .i64 x82.1, .int .i64 x82.2]) (v := .int .i64 x82.1) rfl rfl) ?_
              refine TL.v (ltb rfl) (rv_extract (vs := #[.int .i64 x82.1, .int .i64 x82.2]) (v := .int .i64 x82.2) rfl rfl) ?_
              refine TL.v (ltb rfl) (rv_as (v := .int .i64 x82.1) rfl) ?_
              refine TL.v (ltb rfl) (rv_as (v := .int .i64 x82.2) rfl) ?_
              refine TL.nil ?_
              refine TC.go hK_168 ?_
              refine TC.seq fun K_171 hK_172 => ?_
              refine TC.region ?_
              refine TL.v (ltb rfl) (rv_fa (b := b69) (o := 0) fa_68_1 rfl) ?_
              refine TL.v (ltb rfl) (rv_ld (v := ptrV x63.m) (o := 1) (o' := 0) (j := 1) sc_66 rfl (Src.at_ 5 rfl) (bx_cells b69 68 _) rfl rfl) ?_
              obtain ⟨x83, hy_173, hp⟩ := bO' hp
              refine TL.callC (vs := [ptrV x63.m]) (R := fettleref11_Op_Result.R x78.2.2.2.2 x83) [rgF x78.2.2.2.2] [bx b9 74 [v79, .int .i64 x78.2.1, .int .i64 x78.2.2.1, .bool x78.2.2.2.1], F80, F76, F72, bx b69 68 [ptrV x63.o, ptrV x63.m], bx b49 41 [.int .i64 x43.what, .int .i64 x43.v, .int .i64 x43.n], F23] rfl cb_40 (ltb rfl) (mc rfl m0) (fun w hw => fettleref11_Op_Result_ok (a1 := x63.m) (R3 := x78.2.2.2.2) hy_173 hw) fun v A' hR_174 => ?_
              obtain ⟨rfl, rfl⟩ := hR_174
              refine TL.norm (L' := [rgF x78.2.2.2.2, bx b9 74 [v79, .int .i64 x78.2.1, .int .i64 x78.2.2.1, .bool x78.2.2.2.1], F80, F76, F72, bx b69 68 [ptrV x63.o, ptrV x63.m], bx b49 41 [.int .i64 x43.what, .int .i64 x43.v, .int .i64 x43.n], F23]) rfl ?_
              refine TL.v (ltb rfl) (rv_mv (v := .tuple #[.int .i64 x83.1, .int .i64 x83.2]) rfl) ?_
              refine TL.v (ltb rfl) (rv_extract (vs := #[.int .i64 x83.1, .int .i64 x83.2]) (v := .int .i64 x83.1) rfl rfl) ?_
              refine TL.v (ltb rfl) (rv_extract (vs := #[.int .i64 x83.1, .int .i64 x83.2]) (v := .int .i64 x83.2) rfl rfl) ?_
              refine TL.v (ltb rfl) (rv_as (v := .int .i64 x83.1) rfl) ?_
              refine TL.v (ltb rfl) (rv_as (v := .int .i64 x83.2) rfl) ?_
              refine TL.nil ?_
              refine TC.go hK_172 ?_
              refine TC.seq fun K_175 hK_176 => ?_
              refine TC.region ?_
              refine TL.v (ltb rfl) (rv_mv (v := ptrV x6.1) h_82) ?_
              obtain ⟨x84, hy_177, hp⟩ := bO' hp
              refine TL.callC (vs := [ptrV x6.1]) (R := deque_Deque_State.R x78.2.2.2.2 x84) [rgF x78.2.2.2.2] [bx b9 74 [v79, .int .i64 x78.2.1, .int .i64 x78.2.2.1, .bool x78.2.2.2.1], F80, F76, F72, bx b69 68 [ptrV x63.o, ptrV x63.m], bx b49 41 [.int .i64 x43.what, .int .i64 x43.v, .int .i64 x43.n], F23] rfl cb_41 (ltb rfl) (mc rfl m0) (fun w hw => deque_Deque_State_ok (a1 := x6.1) (R3 := x78.2.2.2.2) hy_177 hw) fun v A' hR_178 => ?_
              obtain ⟨rfl, rfl⟩ := hR_178
              refine TL.norm (L' := [rgF x78.2.2.2.2, bx b9 74 [v79, .int .i64 x78.2.1, .int .i64 x78.2.2.1, .bool x78.2.2.2.1], F80, F76, F72, bx b69 68 [ptrV x63.o, ptrV x63.m], bx b49 41 [.int .i64 x43.what, .int .i64 x43.v, .int .i64 x43.n], F23]) rfl ?_
              refine TL.v (ltb rfl) (rv_mv (v := .tuple #[.int .i64 x84.1, .int .i64 x84.2]) rfl) ?_
              refine TL.v (ltb rfl) (rv_extract (vs := #[.int .i64 x84.1, .int .i64 x84.2]) (v := .int .i64 x84.1) rfl rfl) ?_
              refine TL.v (ltb rfl) (rv_extract (vs := #[.int .i64 x84.1, .int .i64 x84.2]) (v := .int .i64 x84.2) rfl rfl) ?_
              refine TL.v (ltb rfl) (rv_as (v := .int .i64 x84.1) rfl) ?_
              refine TL.v (ltb rfl) (rv_as (v := .int .i64 x84.2) rfl) ?_
              refine TL.nil ?_
              refine TC.go hK_176 ?_
              refine TC.seq fun K_179 hK_180 => ?_
              refine TC.seq fun K_181 hK_182 => ?_
              refine TC.region ?_
              refine TL.v (ltb rfl) (rv_mv (v := v71) rfl) ?_
              refine TL.v (ltb rfl) (rv_makeIface (v := .int .i64 1) Try.underlying72 (fun ms h => by cases h) rfl) ?_
              refine TL.v (ltb rfl) (rv_neqEC ifc_49 cmp_72 Try.underlying72 Try.underlying143 (by decide) h73 rfl rfl) ?_
              refine TL.v (ltb rfl) (rv_mv (v := .bool (decide (¬ x70.2.1 = (GErr.code 1)))) rfl) ?_
              refine TL.cut 3 fun K_183 hK_184 => ?_
              have hJ_185 : ∀ e_187 : Env, e_187 0 = v2 → e_187 3 = .bool x5 → e_187 4 = ptrV x6.1 → e_187 5 = ptrV x7.1 → e_187 6 = .pointer (some ⟨b9, 0, none⟩) → e_187 7 = v22 → e_187 8 = .int .i64 x25 → e_187 14 = .int .i64 x62 → e_187 15 = .pointer (some ⟨b69, 0, none⟩) → e_187 18 = .bool x74.1 → e_187 20 = .int .i64 x82.1 → e_187 21 = .int .i64 x82.2 → e_187 22 = .int .i64 x83.1 → e_187 23 = .int .i64 x83.2 → e_187 24 = .int .i64 x84.1 → e_187 25 = .int .i64 x84.2 → e_187 132 = .bool (decide ((¬ x70.2.1 = (GErr.code 1)) ∨ (¬ x74.2.1 = GErr.no))) → ∀ w, St E H [rgF x78.2.2.2.2, bx b9 74 [v79, .int .i64 x78.2.1, .int .i64 x78.2.2.1, .bool x78.2.2.2.1], F80, F76, F72, bx b69 68 [ptrV x63.o, ptrV x63.m], bx b49 41 [.int .i64 x43.what, .int .i64 x43.v, .int .i64 x43.n], F23] w → K_183 e_187 w := by
                intro e_187 h_188 h_189 h_190 h_191 h_192 h_193 h_194 h_195 h_196 h_197 h_198 h_199 h_200 h_201 h_202 h_203 h_204
                refine TL.go hK_184 ?_
                refine TL.v (ltb rfl) (rv_mv (v := .bool (decide ((¬ x70.2.1 = (GErr.code 1)) ∨ (¬ x74.2.1 = GErr.no)))) h_204) ?_
                refine TL.cut 5 fun K_205 hK_206 => ?_
                have hJ_207 : ∀ e_209 : Env, e_209 0 = v2 → e_209 3 = .bool x5 → e_209 4 = ptrV x6.1 → e_209 5 = ptrV x7.1 → e_209 6 = .pointer (some ⟨b9, 0, none⟩) → e_209 7 = v22 → e_209 8 = .int .i64 x25 → e_209 14 = .int .i64 x62 → e_209 15 = .pointer (some ⟨b69, 0, none⟩) → e_209 18 = .bool x74.1 → e_209 20 = .int .i64 x82.1 → e_209 21 = .int .i64 x82.2 → e_209 22 = .int .i64 x83.1 → e_209 23 = .int .i64 x83.2 → e_209 24 = .int .i64 x84.1 → e_209 25 = .int .i64 x84.2 → e_209 138 = .bool (decide (((¬ x70.2.1 = (GErr.code 1)) ∨ (¬ x74.2.1 = GErr.no)) ∨ ((!(x74.1 == (decide (¬ x83.1 = 0)))) = true))) → ∀ w, St E H [rgF x78.2.2.2.2, bx b9 74 [v79, .int .i64 x78.2.1, .int .i64 x78.2.2.1, .bool x78.2.2.2.1], F80, F76, F72, bx b69 68 [ptrV x63.o, ptrV x63.m], bx b49 41 [.int .i64 x43.what, .int .i64 x43.v, .int .i64 x43.n], F23] w → K_205 e_209 w := by
                  intro e_209 h_210 h_211 h_212 h_213 h_214 h_215 h_216 h_217 h_218 h_219 h_220 h_221 h_222 h_223 h_224 h_225 h_226
                  refine TL.go hK_206 ?_
                  refine TL.v (ltb rfl) (rv_mv (v := .bool (decide (((¬ x70.2.1 = (GErr.code 1)) ∨ (¬ x74.2.1 = GErr.no)) ∨ ((!(x74.1 == (decide (¬ x83.1 = 0)))) = true)))) h_226) ?_
                  refine TL.cut 4 fun K_227 hK_228 => ?_
                  have hJ_229 : ∀ e_231 : Env, e_231 0 = v2 → e_231 3 = .bool x5 → e_231 4 = ptrV x6.1 → e_231 5 = ptrV x7.1 → e_231 6 = .pointer (some ⟨b9, 0, none⟩) → e_231 7 = v22 → e_231 8 = .int .i64 x25 → e_231 14 = .int .i64 x62 → e_231 15 = .pointer (some ⟨b69, 0, none⟩) → e_231 18 = .bool x74.1 → e_231 21 = .int .i64 x82.2 → e_231 23 = .int .i64 x83.2 → e_231 24 = .int .i64 x84.1 → e_231 25 = .int .i64 x84.2 → e_231 143 = .bool (decide ((((¬ x70.2.1 = (GErr.code 1)) ∨ (¬ x74.2.1 = GErr.no)) ∨ ((!(x74.1 == (decide (¬ x83.1 = 0)))) = true)) ∨ (¬ x82.1 = x83.1))) → ∀ w, St E H [rgF x78.2.2.2.2, bx b9 74 [v79, .int .i64 x78.2.1, .int .i64 x78.2.2.1, .bool x78.2.2.2.1], F80, F76, F72, bx b69 68 [ptrV x63.o, ptrV x63.m], bx b49 41 [.int .i64 x43.what, .int .i64 x43.v, .int .i64 x43.n], F23] w → K_227 e_231 w := by
                    intro e_231 h_232 h_233 h_234 h_235 h_236 h_237 h_238 h_239 h_240 h_241 h_242 h_243 h_244 h_245 h_246
                    refine TL.go hK_228 ?_
                    refine TL.v (ltb rfl) (rv_mv (v := .bool (decide ((((¬ x70.2.1 = (GErr.code 1)) ∨ (¬ x74.2.1 = GErr.no)) ∨ ((!(x74.1 == (decide (¬ x83.1 = 0)))) = true)) ∨ (¬ x82.1 = x83.1)))) h_246) ?_
                    refine TL.cut 4 fun K_247 hK_248 => ?_
                    have hJ_249 : ∀ e_251 : Env, e_251 0 = v2 → e_251 3 = .bool x5 → e_251 4 = ptrV x6.1 → e_251 5 = ptrV x7.1 → e_251 6 = .pointer (some ⟨b9, 0, none⟩) → e_251 7 = v22 → e_251 8 = .int .i64 x25 → e_251 14 = .int .i64 x62 → e_251 15 = .pointer (some ⟨b69, 0, none⟩) → e_251 18 = .bool x74.1 → e_251 24 = .int .i64 x84.1 → e_251 25 = .int .i64 x84.2 → e_251 148 = .bool (decide (((((¬ x70.2.1 = (GErr.code 1)) ∨ (¬ x74.2.1 = GErr.no)) ∨ ((!(x74.1 == (decide (¬ x83.1 = 0)))) = true)) ∨ (¬ x82.1 = x83.1)) ∨ (¬ x82.2 = x83.2))) → ∀ w, St E H [rgF x78.2.2.2.2, bx b9 74 [v79, .int .i64 x78.2.1, .int .i64 x78.2.2.1, .bool x78.2.2.2.1], F80, F76, F72, bx b69 68 [ptrV x63.o, ptrV x63.m], bx b49 41 [.int .i64 x43.what, .int .i64 x43.v, .int .i64 x43.n], F23] w → K_247 e_251 w := by
                      intro e_251 h_252 h_253 h_254 h_255 h_256 h_257 h_258 h_259 h_260 h_261 h_262 h_263 h_264
                      refine TL.go hK_248 ?_
                      refine TL.v (ltb rfl) (rv_mv (v := .bool (decide (((((¬ x70.2.1 = (GErr.code 1)) ∨ (¬ x74.2.1 = GErr.no)) ∨ ((!(x74.1 == (decide (¬ x83.1 = 0)))) = true)) ∨ (¬ x82.1 = x83.1)) ∨ (¬ x82.2 = x83.2)))) h_264) ?_
                      refine TL.cut 7 fun K_265 hK_266 => ?_
                      have hJ_267 : ∀ e_269 : Env, e_269 0 = v2 → e_269 3 = .bool x5 → e_269 4 = ptrV x6.1 → e_269 5 = ptrV x7.1 → e_269 6 = .pointer (some ⟨b9, 0, none⟩) → e_269 7 = v22 → e_269 8 = .int .i64 x25 → e_269 14 = .int .i64 x62 → e_269 15 = .pointer (some ⟨b69, 0, none⟩) → e_269 18 = .bool x74.1 → e_269 25 = .int .i64 x84.2 → e_269 156 = .bool (decide ((((((¬ x70.2.1 = (GErr.code 1)) ∨ (¬ x74.2.1 = GErr.no)) ∨ ((!(x74.1 == (decide (¬ x83.1 = 0)))) = true)) ∨ (¬ x82.1 = x83.1)) ∨ (¬ x82.2 = x83.2)) ∨ (¬ x84.1 = x78.2.1))) → ∀ w, St E H [rgF x78.2.2.2.2, bx b9 74 [v79, .int .i64 x78.2.1, .int .i64 x78.2.2.1, .bool x78.2.2.2.1], F80, F76, F72, bx b69 68 [ptrV x63.o, ptrV x63.m], bx b49 41 [.int .i64 x43.what, .int .i64 x43.v, .int .i64 x43.n], F23] w → K_265 e_269 w := by
                        intro e_269 h_270 h_271 h_272 h_273 h_274 h_275 h_276 h_277 h_278 h_279 h_280 h_281
                        refine TL.go hK_266 ?_
                        refine TL.v (ltb rfl) (rv_mv (v := .bool (decide ((((((¬ x70.2.1 = (GErr.code 1)) ∨ (¬ x74.2.1 = GErr.no)) ∨ ((!(x74.1 == (decide (¬ x83.1 = 0)))) = true)) ∨ (¬ x82.1 = x83.1)) ∨ (¬ x82.2 = x83.2)) ∨ (¬ x84.1 = x78.2.1)))) h_281) ?_
                        refine TL.cut 7 fun K_282 hK_283 => ?_
                        have hJ_284 : ∀ e_286 : Env, e_286 0 = v2 → e_286 3 = .bool x5 → e_286 4 = ptrV x6.1 → e_286 5 = ptrV x7.1 → e_286 6 = .pointer (some ⟨b9, 0, none⟩) → e_286 7 = v22 → e_286 8 = .int .i64 x25 → e_286 14 = .int .i64 x62 → e_286 15 = .pointer (some ⟨b69, 0, none⟩) → e_286 18 = .bool x74.1 → e_286 164 = .bool (decide (((((((¬ x70.2.1 = (GErr.code 1)) ∨ (¬ x74.2.1 = GErr.no)) ∨ ((!(x74.1 == (decide (¬ x83.1 = 0)))) = true)) ∨ (¬ x82.1 = x83.1)) ∨ (¬ x82.2 = x83.2)) ∨ (¬ x84.1 = x78.2.1)) ∨ (¬ x84.2 = x78.2.2.1))) → ∀ w, St E H [rgF x78.2.2.2.2, bx b9 74 [v79, .int .i64 x78.2.1, .int .i64 x78.2.2.1, .bool x78.2.2.2.1], F80, F76, F72, bx b69 68 [ptrV x63.o, ptrV x63.m], bx b49 41 [.int .i64 x43.what, .int .i64 x43.v, .int .i64 x43.n], F23] w → K_282 e_286 w := by
                          intro e_286 h_287 h_288 h_289 h_290 h_291 h_292 h_293 h_294 h_295 h_296 h_297
                          refine TL.go hK_283 ?_
                          refine TL.nil ?_
                          refine TC.go hK_182 ?_
                          by_cases hc_298 : ((((((¬ x70.2.1 = (GErr.code 1)) ∨ (¬ x74.2.1 = GErr.no)) ∨ ((!(x74.1 == (decide (¬ x83.1 = 0)))) = true)) ∨ (¬ x82.1 = x83.1)) ∨ (¬ x82.2 = x83.2)) ∨ (¬ x84.1 = x78.2.1)) ∨ (¬ x84.2 = x78.2.2.1)
                          · rw [if_pos hc_298] at hp
                            refine TC.condT (h_297.trans (bT hc_298)) ?_
                            refine TC.seq fun K_299 hK_300 => ?_
                            refine TC.region ?_
                            refine TL.v (ltb rfl) (rv_as (v := .bool false) rfl) ?_
                            refine TL.nil ?_
                            refine TC.go hK_300 ?_
                            refine TC.ret ?_
                            have hp := hx_54 _ hp
                            exact fun w hw => retOk ⟨false, hp, rfl, rfl⟩ (hw.pick [])
                          · rw [if_neg hc_298] at hp
                            refine TC.condF (h_297.trans (bF hc_298)) ?_
                            refine TC.skip ?_
                            refine TC.go hK_180 ?_
                            refine TC.seq fun K_301 hK_302 => ?_
                            refine TC.region ?_
                            refine TL.v (ltb rfl) (rv_mv (v := .bool x74.1) h_296) ?_
                            refine TL.nil ?_
                            refine TC.go hK_302 ?_
                            by_cases hc_303 : x74.1 = true
                            · rw [if_pos hc_303] at hp
                              refine TC.condT (bbT hc_303) ?_
                              refine TC.seq fun K_304 hK_305 => ?_
                              refine TC.region ?_
                              refine TL.v (ltb rfl) (rv_mv (v := ptrV x6.1) h_289) ?_
                              refine TL.v (ltb rfl) (rv_fa (b := b69) (o := 0) fa_68_0 h_295) ?_
                              refine TL.v (ltb rfl) (rv_ld (v := ptrV x63.o) (o := 0) (o' := 0) (j := 0) sc_44 rfl (Src.at_ 5 rfl) (bx_cells b69 68 _) rfl rfl) ?_
                              obtain ⟨x85, hy_306, hp⟩ := bO' hp
                              refine TL.callC (vs := [ptrV x6.1, ptrV x63.o]) (R := deque_Deque_Step.R x85) [rgF x78.2.2.2.2] [bx b9 74 [v79, .int .i64 x78.2.1, .int .i64 x78.2.2.1, .bool x78.2.2.2.1], F80, F76, F72, bx b69 68 [ptrV x63.o, ptrV x63.m], bx b49 41 [.int .i64 x43.what, .int .i64 x43.v, .int .i64 x43.n], F23] rfl cb_30 (ltb rfl) (mc rfl (mc rfl m0)) (fun w hw => deque_Deque_Step_ok (a1 := x6.1) (a2 := x63.o) (R4 := x78.2.2.2.2) hy_306 hw) fun v A' hR_307 => ?_
                              obtain ⟨v86, F87, rfl, rfl, h88⟩ := hR_307
                              refine TL.norm (L' := [F87, rgF x85.2.2, bx b9 74 [v79, .int .i64 x78.2.1, .int .i64 x78.2.2.1, .bool x78.2.2.2.1], F80, F76, F72, bx b69 68 [ptrV x63.o, ptrV x63.m], bx b49 41 [.int .i64 x43.what, .int .i64 x43.v, .int .i64 x43.n], F23]) rfl ?_
                              refine TL.v (ltb rfl) (rv_mv (v := .tuple #[.bool x85.1, v86]) rfl) ?_
                              refine TL.v (ltb rfl) (rv_extract (vs := #[.bool x85.1, v86]) (v := .bool x85.1) rfl rfl) ?_
                              refine TL.v (ltb rfl) (rv_extract (vs := #[.bool x85.1, v86]) (v := v86) rfl rfl) ?_
                              refine TL.v (ltb rfl) (rv_as (v := .bool x85.1) rfl) ?_
                              refine TL.v (ltb rfl) (rv_as (v := v86) rfl) ?_
                              refine TL.nil ?_
                              refine TC.go hK_305 ?_
                              refine TC.seq fun K_308 hK_309 => ?_
                              refine TC.seq fun K_310 hK_311 => ?_
                              refine TC.region ?_
                              refine TL.v (ltb rfl) (rv_mv (v := v86) rfl) ?_
                              refine TL.v (ltb rfl) (rv_makeIface (v := .int .i64 7) Try.underlying72 (fun ms h => by cases h) rfl) ?_
                              refine TL.v (ltb rfl) (rv_neqEC ifc_49 cmp_72 Try.underlying72 Try.underlying143 (by decide) h88 rfl rfl) ?_
                              refine TL.nil ?_
                              refine TC.go hK_311 ?_
                              by_cases hc_312 : ¬ x85.2.1 = (GErr.code 7)
                              · rw [if_pos hc_312] at hp
                                refine TC.condT (bT hc_312) ?_
                                refine TC.seq fun K_313 hK_314 => ?_
                                refine TC.region ?_
                                refine TL.v (ltb rfl) (rv_as (v := .bool false) rfl) ?_
                                refine TL.nil ?_
                                refine TC.go hK_314 ?_
                                refine TC.ret ?_
                                have hp := hx_54 _ hp
                                exact fun w hw => retOk ⟨false, hp, rfl, rfl⟩ (hw.pick [])
                              · rw [if_neg hc_312] at hp
                                refine TC.condF (bF hc_312) ?_
                                refine TC.skip ?_
                                refine TC.go hK_309 ?_
                                refine TC.held ([F87, rgF x85.2.2, bx b9 74 [v79, .int .i64 x78.2.1, .int .i64 x78.2.2.1, .bool x78.2.2.2.1], F80, F76, F72, bx b69 68 [ptrV x63.o, ptrV x63.m], bx b49 41 [.int .i64 x43.what, .int .i64 x43.v, .int .i64 x43.n], F23].flatten ++ H) mix (srcG 0 rfl (srcG 1 rfl (srcG 2 rfl (srcG 3 rfl (srcG 4 rfl (srcG 5 rfl (srcG 6 rfl (srcG 7 rfl (srcG 8 rfl srcG0))))))))) ?_
                                refine HL.v 1 rfl trivial (by kernel_rfl) (by kernel_rfl) (by kernel_rfl) (ltb rfl) (rv_mv (v := v22) h_292) ?_
                                refine HL.v 2 rfl trivial (by kernel_rfl) (by kernel_rfl) (by kernel_rfl) (ltb rfl) (rv_mv (v := .int .i64 x62) h_294) ?_
                                obtain ⟨x1290, hz_315, hp⟩ := bO' hp
                                refine HL.w1 3 rfl trivial (by kernel_rfl) (by kernel_rfl) (by kernel_rfl) (ltb rfl) (rv_slTo 65 (.tmp 177) (.tmp 178) (v := v22) (m := x62) Try.underlying65 inf_68 rfl rfl rfl h24.ro hz_315) fun v1291 h1292 => ?_
                                refine HL.v 5 rfl trivial (by kernel_rfl) (by kernel_rfl) (by kernel_rfl) (ltb rfl) (rv_mv (v := v22) h_292) ?_
                                refine HL.v 6 rfl trivial (by kernel_rfl) (by kernel_rfl) (by kernel_rfl) (ltb rfl) (rv_mv (v := .int .i64 x62) h_294) ?_
                                refine HL.v 7 rfl trivial (by kernel_rfl) (by kernel_rfl) (by kernel_rfl) (ltb rfl) (rv_add (k := .i64) (m := x62) (n := 1) rfl rfl) ?_
                                obtain ⟨x3290, hz_316, hp⟩ := bO' hp
                                refine HL.w1 8 rfl trivial (by kernel_rfl) (by kernel_rfl) (by kernel_rfl) (ltb rfl) (rv_slFrom 65 (.tmp 181) (.tmp 183) (v := v22) (l := (w64 (x62 + 1))) Try.underlying65 inf_68 rfl rfl rfl h24.ro hz_316) fun v3291 h3292 => ?_
                                refine HL.one 0 rfl (by kernel_rfl) fun K_317 hK_318 => ?_
                                refine TL.bs0 Try.underlying65 inf_68 (ltb rfl) fun b90 => ?_
                                refine TL.nil (hK_318 _ _ (srcG 1 rfl (srcG 2 rfl (srcG 3 rfl (srcG 4 rfl (srcG 5 rfl (srcG 6 rfl (srcG 7 rfl (srcG 8 rfl (srcG 9 rfl srcG0))))))))) ?_)
                                refine HL.one 4 rfl (by kernel_rfl) fun K_319 hK_320 => ?_
                                obtain ⟨x1690, hz_321, hp⟩ := bO' hp
                                refine TL.appI (u := v1291) fPair Try.underlying65 inf_68 (ltb rfl) rfl (ltb rfl) rfl (leb rfl) rfl rfl (SlO.lit0 (k := kPair) b90) h1292 (Src.at_ 9 rfl) hz_321 fun v1691 F1692 h1693 => ?_
                                refine TL.nil (hK_320 _ _ (srcG 1 rfl (srcG 2 rfl (srcG 3 rfl (srcG 4 rfl (srcG 5 rfl (srcG 6 rfl (srcG 7 rfl (srcG 8 rfl (srcG 9 rfl srcG0))))))))) ?_)
                                refine HL.one 9 rfl (by kernel_rfl) fun K_322 hK_323 => ?_
                                obtain ⟨x3690, hz_324, hp⟩ := bO' hp
                                refine TL.appI (u := v3291) fPair Try.underlying65 inf_68 (ltb rfl) rfl (ltb rfl) rfl (leb rfl) rfl rfl h1693 h3292 (Src.at_ 9 rfl) hz_324 fun v3691 F3692 h3693 => ?_
                                refine TL.nil (hK_323 _ _ (srcG 1 rfl (srcG 2 rfl (srcG 3 rfl (srcG 4 rfl (srcG 5 rfl (srcG 6 rfl (srcG 7 rfl (srcG 8 rfl (srcG 9 rfl srcG0))))))))) ?_)
                                refine HL.v 10 rfl trivial (by kernel_rfl) (by kernel_rfl) (by kernel_rfl) (ltb rfl) (rv_as (v := v3691) rfl) ?_
                                refine HL.done (by kernel_rfl) ?_
                                refine fun w hw => hJ_99 x85.2.2 x78.1 x78.2.1 x78.2.2.1 x78.2.2.2.1 x3690 v79 F80 v3691 F3692 _ h81 h3693 ?_ ?_ ?_ ?_ ?_ ?_ ?_ hp w (hw.pick [2, 2, 2, 0])
                                · exact h_287
                                · exact h_288
                                · exact h_289
                                · exact h_290
                                · exact h_291
                                · exact rfl
                                · exact h_293
                            · rw [if_neg hc_303] at hp
                              refine TC.condF (bbF hc_303) ?_
                              refine TC.skip ?_
                              refine fun w hw => hJ_99 x78.2.2.2.2 x78.1 x78.2.1 x78.2.2.1 x78.2.2.2.1 x21 v79 F80 v22 F23 _ h81 h24 ?_ ?_ ?_ ?_ ?_ ?_ ?_ hp w (hw.pick [0, 0, 0, 4])
                              · exact h_287
                              · exact h_288
                              · exact h_289
                              · exact h_290
                              · exact h_291
                              · exact h_292
                              · exact h_293
                        by_cases hc_285 : (((((¬ x70.2.1 = (GErr.code 1)) ∨ (¬ x74.2.1 = GErr.no)) ∨ ((!(x74.1 == (decide (¬ x83.1 = 0)))) = true)) ∨ (¬ x82.1 = x83.1)) ∨ (¬ x82.2 = x83.2)) ∨ (¬ x84.1 = x78.2.1)
                        · refine TL.gno true rfl (fun d hd => by cases hd; exact ltb rfl) (yieldE_of rfl (bT hc_285)) rfl ?_
                          refine TL.gno true rfl (fun d hd => by cases hd; exact ltb rfl) (yieldE_of rfl (bT hc_285)) rfl ?_
                          refine TL.gno true rfl (fun d hd => by cases hd; exact ltb rfl) (yieldE_of rfl (bT hc_285)) rfl ?_
                          refine TL.gno true rfl (fun d hd => by cases hd; exact ltb rfl) (yieldE_of rfl (bT hc_285)) rfl ?_
                          refine TL.gno true rfl (fun d hd => by cases hd; exact ltb rfl) (yieldE_of rfl (bT hc_285)) rfl ?_
                          refine TL.gno true rfl (fun d hd => by cases hd; exact ltb rfl) (yieldE_of rfl (bT hc_285)) rfl ?_
                          refine TL.v (ltb rfl) (rv_pickT true (bT hc_285) rfl (v := .bool true) rfl) ?_
                          refine TL.nil (hJ_284 _ ?_ ?_ ?_ ?_ ?_ ?_ ?_ ?_ ?_ ?_ ?_)
                          · exact h_270
                          · exact h_271
                          · exact h_272
                          · exact h_273
                          · exact h_274
                          · exact h_275
                          · exact h_276
                          · exact h_277
                          · exact h_278
                          · exact h_279
                          · exact (bOt hc_285)
                        · refine TL.gyes false (yieldE_of rfl (bF hc_285)) rfl ?_
                          refine TL.v (ltb rfl) (rv_mv (v := .int .i64 x84.2) h_280) ?_
                          refine TL.gyes false (yieldE_of rfl (bF hc_285)) rfl ?_
                          refine TL.v (ltb rfl) (rv_mv (v := .pointer (some ⟨b9, 0, none⟩)) h_274) ?_
                          refine TL.gyes false (yieldE_of rfl (bF hc_285)) rfl ?_
                          refine TL.v (ltb rfl) (rv_nilCheck (a := ⟨b9, 0, none⟩) rfl) ?_
                          refine TL.gyes false (yieldE_of rfl (bF hc_285)) rfl ?_
                          refine TL.v (ltb rfl) (rv_fa (b := b9) (o := 0) fa_74_2 rfl) ?_
                          refine TL.gyes false (yieldE_of rfl (bF hc_285)) rfl ?_
                          refine TL.v (ltb rfl) (rv_ld (v := .int .i64 x78.2.2.1) (o := 2) (o' := 0) (j := 2) sc_3 rfl (Src.at_ 1 rfl) (bx_cells b9 74 _) rfl rfl) ?_
                          refine TL.gyes false (yieldE_of rfl (bF hc_285)) rfl ?_
                          refine TL.v (ltb rfl) (rv_neq (k := .i64) (m := x84.2) (n := x78.2.2.1) rfl rfl) ?_
                          refine TL.v (ltb rfl) (rv_pickF false (bF hc_285) rfl (v := .bool (decide (¬ x84.2 = x78.2.2.1))) rfl) ?_
                          refine TL.nil (hJ_284 _ ?_ ?_ ?_ ?_ ?_ ?_ ?_ ?_ ?_ ?_ ?_)
                          · exact h_270
                          · exact h_271
                          · exact h_272
                          · exact h_273
                          · exact h_274
                          · exact h_275
                          · exact h_276
                          · exact h_277
                          · exact h_278
                          · exact h_279
                          · exact (bOf hc_285)
                      by_cases hc_268 : ((((¬ x70.2.1 = (GErr.code 1)) ∨ (¬ x74.2.1 = GErr.no)) ∨ ((!(x74.1 == (decide (¬ x83.1 = 0)))) = true)) ∨ (¬ x82.1 = x83.1)) ∨ (¬ x82.2 = x83.2)
                      · refine TL.gno true rfl (fun d hd => by cases hd; exact ltb rfl) (yieldE_of rfl (bT hc_268)) rfl ?_
                        refine TL.gno true rfl (fun d hd => by cases hd; exact ltb rfl) (yieldE_of rfl (bT hc_268)) rfl ?_
                        refine TL.gno true rfl (fun d hd => by cases hd; exact ltb rfl) (yieldE_of rfl (bT hc_268)) rfl ?_
                        refine TL.gno true rfl (fun d hd => by cases hd; exact ltb rfl) (yieldE_of rfl (bT hc_268)) rfl ?_
                        refine TL.gno true rfl (fun d hd => by cases hd; exact ltb rfl) (yieldE_of rfl (bT hc_268)) rfl ?_
                        refine TL.gno true rfl (fun d hd => by cases hd; exact ltb rfl) (yieldE_of rfl (bT hc_268)) rfl ?_
                        refine TL.v (ltb rfl) (rv_pickT true (bT hc_268) rfl (v := .bool true) rfl) ?_
                        refine TL.nil (hJ_267 _ ?_ ?_ ?_ ?_ ?_ ?_ ?_ ?_ ?_ ?_ ?_ ?_)
                        · exact h_252
                        · exact h_253
                        · exact h_254
                        · exact h_255
                        · exact h_256
                        · exact h_257
                        · exact h_258
                        · exact h_259
                        · exact h_260
                        · exact h_261
                        · exact h_263
                        · exact (bOt hc_268)
                      · refine TL.gyes false (yieldE_of rfl (bF hc_268)) rfl ?_
                        refine TL.v (ltb rfl) (rv_mv (v := .int .i64 x84.1) h_262) ?_
                        refine TL.gyes false (yieldE_of rfl (bF hc_268)) rfl ?_
                        refine TL.v (ltb rfl) (rv_mv (v := .pointer (some ⟨b9, 0, none⟩)) h_256) ?_
                        refine TL.gyes false (yieldE_of rfl (bF hc_268)) rfl ?_
                        refine TL.v (ltb rfl) (rv_nilCheck (a := ⟨b9, 0, none⟩) rfl) ?_
                        refine TL.gyes false (yieldE_of rfl (bF hc_268)) rfl ?_
                        refine TL.v (ltb rfl) (rv_fa (b := b9) (o := 0) fa_74_1 rfl) ?_
                        refine TL.gyes false (yieldE_of rfl (bF hc_268)) rfl ?_
                        refine TL.v (ltb rfl) (rv_ld (v := .int .i64 x78.2.1) (o := 1) (o' := 0) (j := 1) sc_3 rfl (Src.at_ 1 rfl) (bx_cells b9 74 _) rfl rfl) ?_
                        refine TL.gyes false (yieldE_of rfl (bF hc_268)) rfl ?_
                        refine TL.v (ltb rfl) (rv_neq (k := .i64) (m := x84.1) (n := x78.2.1) rfl rfl) ?_
                        refine TL.v (ltb rfl) (rv_pickF false (bF hc_268) rfl (v := .bool (decide (¬ x84.1 = x78.2.1))) rfl) ?_
                        refine TL.nil (hJ_267 _ ?_ ?_ ?_ ?_ ?_ ?_ ?_ ?_ ?_ ?_ ?_ ?_)
                        · exact h_252
                        · exact h_253
                        · exact h_254
                        · exact h_255
                        · exact h_256
                        · exact h_257
                        · exact h_258
                        · exact h_259
                        · exact h_260
                        · exact h_261
                        · exact h_263
                        · exact (bOf hc_268)
                    by_cases hc_250 : (((¬ x70.2.1 = (GErr.code 1)) ∨ (¬ x74.2.1 = GErr.no)) ∨ ((!(x74.1 == (decide (¬ x83.1 = 0)))) = true)) ∨ (¬ x82.1 = x83.1)
                    · refine TL.gno true rfl (fun d hd => by cases hd; exact ltb rfl) (yieldE_of rfl (bT hc_250)) rfl ?_
                      refine TL.gno true rfl (fun d hd => by cases hd; exact ltb rfl) (yieldE_of rfl (bT hc_250)) rfl ?_
                      refine TL.gno true rfl (fun d hd => by cases hd; exact ltb rfl) (yieldE_of rfl (bT hc_250)) rfl ?_
                      refine TL.v (ltb rfl) (rv_pickT true (bT hc_250) rfl (v := .bool true) rfl) ?_
                      refine TL.nil (hJ_249 _ ?_ ?_ ?_ ?_ ?_ ?_ ?_ ?_ ?_ ?_ ?_ ?_ ?_)
                      · exact h_232
                      · exact h_233
                      · exact h_234
                      · exact h_235
                      · exact h_236
                      · exact h_237
                      · exact h_238
                      · exact h_239
                      · exact h_240
                      · exact h_241
                      · exact h_244
                      · exact h_245
                      · exact (bOt hc_250)
                    · refine TL.gyes false (yieldE_of rfl (bF hc_250)) rfl ?_
                      refine TL.v (ltb rfl) (rv_mv (v := .int .i64 x82.2) h_242) ?_
                      refine TL.gyes false (yieldE_of rfl (bF hc_250)) rfl ?_
                      refine TL.v (ltb rfl) (rv_mv (v := .int .i64 x83.2) h_243) ?_
                      refine TL.gyes false (yieldE_of rfl (bF hc_250)) rfl ?_
                      refine TL.v (ltb rfl) (rv_neq (k := .i64) (m := x82.2) (n := x83.2) rfl rfl) ?_
                      refine TL.v (ltb rfl) (rv_pickF false (bF hc_250) rfl (v := .bool (decide (¬ x82.2 = x83.2))) rfl) ?_
                      refine TL.nil (hJ_249 _ ?_ ?_ ?_ ?_ ?_ ?_ ?_ ?_ ?_ ?_ ?_ ?_ ?_)
                      · exact h_232
                      · exact h_233
                      · exact h_234
                      · exact h_235
                      · exact h_236
                      · exact h_237
                      · exact h_238
                      · exact h_239
                      · exact h_240
                      · exact h_241
                      · exact h_244
                      · exact h_245
                      · exact (bOf hc_250)
                  by_cases hc_230 : ((¬ x70.2.1 = (GErr.code 1)) ∨ (¬ x74.2.1 = GErr.no)) ∨ ((!(x74.1 == (decide (¬ x83.1 = 0)))) = true)
                  · refine TL.gno true rfl (fun d hd => by cases hd; exact ltb rfl) (yieldE_of rfl (bT hc_230)) rfl ?_
                    refine TL.gno true rfl (fun d hd => by cases hd; exact ltb rfl) (yieldE_of rfl (bT hc_230)) rfl ?_
                    refine TL.gno true rfl (fun d hd => by cases hd; exact ltb rfl) (yieldE_of rfl (bT hc_230)) rfl ?_
                    refine TL.v (ltb rfl) (rv_pickT true (bT hc_230) rfl (v := .bool true) rfl) ?_
                    refine TL.nil (hJ_229 _ ?_ ?_ ?_ ?_ ?_ ?_ ?_ ?_ ?_ ?_ ?_ ?_ ?_ ?_ ?_)
                    · exact h_210
                    · exact h_211
                    · exact h_212
                    · exact h_213
                    · exact h_214
                    · exact h_215
                    · exact h_216
                    · exact h_217
                    · exact h_218
                    · exact h_219
                    · exact h_221
                    · exact h_223
                    · exact h_224
                    · exact h_225
                    · exact (bOt hc_230)
                  · refine TL.gyes false (yieldE_of rfl (bF hc_230)) rfl ?_
                    refine TL.v (ltb rfl) (rv_mv (v := .int .i64 x82.1) h_220) ?_
                    refine TL.gyes false (yieldE_of rfl (bF hc_230)) rfl ?_
                    refine TL.v (ltb rfl) (rv_mv (v := .int .i64 x83.1) h_222) ?_
                    refine TL.gyes false (yieldE_of rfl (bF hc_230)) rfl ?_
                    refine TL.v (ltb rfl) (rv_neq (k := .i64) (m := x82.1) (n := x83.1) rfl rfl) ?_
                    refine TL.v (ltb rfl) (rv_pickF false (bF hc_230) rfl (v := .bool (decide (¬ x82.1 = x83.1))) rfl) ?_
                    refine TL.nil (hJ_229 _ ?_ ?_ ?_ ?_ ?_ ?_ ?_ ?_ ?_ ?_ ?_ ?_ ?_ ?_ ?_)
                    · exact h_210
                    · exact h_211
                    · exact h_212
                    · exact h_213
                    · exact h_214
                    · exact h_215
                    · exact h_216
                    · exact h_217
                    · exact h_218
                    · exact h_219
                    · exact h_221
                    · exact h_223
                    · exact h_224
                    · exact h_225
                    · exact (bOf hc_230)
                by_cases hc_208 : (¬ x70.2.1 = (GErr.code 1)) ∨ (¬ x74.2.1 = GErr.no)
                · refine TL.gno true rfl (fun d hd => by cases hd; exact ltb rfl) (yieldE_of rfl (bT hc_208)) rfl ?_
                  refine TL.gno true rfl (fun d hd => by cases hd; exact ltb rfl) (yieldE_of rfl (bT hc_208)) rfl ?_
                  refine TL.gno true rfl (fun d hd => by cases hd; exact ltb rfl) (yieldE_of rfl (bT hc_208)) rfl ?_
                  refine TL.gno true rfl (fun d hd => by cases hd; exact ltb rfl) (yieldE_of rfl (bT hc_208)) rfl ?_
                  refine TL.v (ltb rfl) (rv_pickT true (bT hc_208) rfl (v := .bool true) rfl) ?_
                  refine TL.nil (hJ_207 _ ?_ ?_ ?_ ?_ ?_ ?_ ?_ ?_ ?_ ?_ ?_ ?_ ?_ ?_ ?_ ?_ ?_)
                  · exact h_188
                  · exact h_189
                  · exact h_190
                  · exact h_191
                  · exact h_192
                  · exact h_193
                  · exact h_194
                  · exact h_195
                  · exact h_196
                  · exact h_197
                  · exact h_198
                  · exact h_199
                  · exact h_200
                  · exact h_201
                  · exact h_202
                  · exact h_203
                  · exact (bOt hc_208)
                · refine TL.gyes false (yieldE_of rfl (bF hc_208)) rfl ?_
                  refine TL.v (ltb rfl) (rv_mv (v := .bool x74.1) h_197) ?_
                  refine TL.gyes false (yieldE_of rfl (bF hc_208)) rfl ?_
                  refine TL.v (ltb rfl) (rv_mv (v := .int .i64 x83.1) h_200) ?_
                  refine TL.gyes false (yieldE_of rfl (bF hc_208)) rfl ?_
                  refine TL.v (ltb rfl) (rv_neq (k := .i64) (m := x83.1) (n := 0) rfl rfl) ?_
                  refine TL.gyes false (yieldE_of rfl (bF hc_208)) rfl ?_
                  refine TL.v (ltb rfl) (rv_neqB (b := x74.1) (c := (decide (¬ x83.1 = 0))) Try.underlying4 rfl rfl) ?_
                  refine TL.v (ltb rfl) (rv_pickF false (bF hc_208) rfl (v := .bool (!(x74.1 == (decide (¬ x83.1 = 0))))) rfl) ?_
                  refine TL.nil (hJ_207 _ ?_ ?_ ?_ ?_ ?_ ?_ ?_ ?_ ?_ ?_ ?_ ?_ ?_ ?_ ?_ ?_ ?_)
                  · exact h_188
                  · exact h_189
                  · exact h_190
                  · exact h_191
                  · exact h_192
                  · exact h_193
                  · exact h_194
                  · exact h_195
                  · exact h_196
                  · exact h_197
                  · exact h_198
                  · exact h_199
                  · exact h_200
                  · exact h_201
                  · exact h_202
                  · exact h_203
                  · exact (bOf' hc_208)
              by_cases hc_186 : ¬ x70.2.1 = (GErr.code 1)
              · refine TL.gno true rfl (fun d hd => by cases hd; exact ltb rfl) (yieldE_of rfl (bT hc_186)) rfl ?_
                refine TL.gno true rfl (fun d hd => by cases hd; exact ltb rfl) (yieldE_of rfl (bT hc_186)) rfl ?_
                refine TL.v (ltb rfl) (rv_pickT true (bT hc_186) rfl (v := .bool true) rfl) ?_
                refine TL.nil (hJ_185 _ ?_ ?_ ?_ ?_ ?_ ?_ ?_ ?_ ?_ ?_ ?_ ?_ ?_ ?_ ?_ ?_ ?_)
                · exact h_80
                · exact h_81
                · exact h_82
                · exact h_83
                · exact h_84
                · exact h_85
                · exact h_86
                · exact rfl
                · exact rfl
                · exact rfl
                · exact rfl
                · exact rfl
                · exact rfl
                · exact rfl
                · exact rfl
                · exact rfl
                · exact (bOt hc_186)
              · refine TL.gyes false (yieldE_of rfl (bF hc_186)) rfl ?_
                refine TL.v (ltb rfl) (rv_mv (v := v75) rfl) ?_
                refine TL.gyes false (yieldE_of rfl (bF hc_186)) rfl ?_
                refine TL.v (ltb rfl) (rv_neqEN ifc_49 h77 rfl) ?_
                refine TL.v (ltb rfl) (rv_pickF false (bF hc_186) rfl (v := .bool (decide (¬ x74.2.1 = GErr.no))) rfl) ?_
                refine TL.nil (hJ_185 _ ?_ ?_ ?_ ?_ ?_ ?_ ?_ ?_ ?_ ?_ ?_ ?_ ?_ ?_ ?_ ?_ ?_)
                · exact h_80
                · exact h_81
                · exact h_82
                · exact h_83
                · exact h_84
                · exact h_85
                · exact h_86
                · exact rfl
                · exact rfl
                · exact rfl
                · exact rfl
                · exact rfl
                · exact rfl
                · exact rfl
                · exact rfl
                · exact rfl
                · exact (bOf hc_186)
        · rw [if_neg hc_88] at hp
          refine TC.condF (h_87.trans (bF hc_88)) ?_
          refine TC.exit ?_
          refine fun w hw => hJ_70 R13 _ ?_ ?_ (hx_54 _ hp) w (hw.pick [0])
          · exact h_81
          · exact h_82
      by_cases hc_78 : x25 < (len a1)
      · refine TL.gyes true (yieldE_of rfl (bT hc_78)) rfl ?_
        refine TL.v (ltb rfl) (rv_mv (v := .int .i64 x25) h_49) ?_
        refine TL.gyes true (yieldE_of rfl (bT hc_78)) rfl ?_
        refine TL.v (ltb rfl) (rv_lss (k := .i64) (m := x25) (n := 400) rfl rfl) ?_
        refine TL.v (ltb rfl) (rv_pickT true (bT hc_78) rfl (v := .bool (decide (x25 < 400))) rfl) ?_
        refine TL.nil (hJ_77 _ ?_ ?_ ?_ ?_ ?_ ?_ ?_ ?_)
        · exact h_43
        · exact h_44
        · exact h_45
        · exact h_46
        · exact h_47
        · exact h_48
        · exact h_49
        · exact (bAt hc_78)
      · refine TL.gno false rfl (fun d hd => by cases hd; exact ltb rfl) (yieldE_of rfl (bF hc_78)) rfl ?_
        refine TL.gno false rfl (fun d hd => by cases hd; exact ltb rfl) (yieldE_of rfl (bF hc_78)) rfl ?_
        refine TL.v (ltb rfl) (rv_pickF false (bF hc_78) rfl (v := .bool false) rfl) ?_
        refine TL.nil (hJ_77 _ ?_ ?_ ?_ ?_ ?_ ?_ ?_ ?_)
        · exact h_43
        · exact h_44
        · exact h_45
        · exact h_46
        · exact h_47
        · exact h_48
        · exact h_49
        · exact (bAf hc_78)
  by_cases hc_22 : x6.1 = none
  · refine TL.gno true rfl (fun d hd => by cases hd; exact ltb rfl) (yieldE_of rfl (bT hc_22)) rfl ?_
    refine TL.gno true rfl (fun d hd => by cases hd; exact ltb rfl) (yieldE_of rfl (bT hc_22)) rfl ?_
    refine TL.v (ltb rfl) (rv_pickT true (bT hc_22) rfl (v := .bool true) rfl) ?_
    refine TL.nil (hJ_21 _ ?_ ?_ ?_ ?_ ?_)
    · exact rfl
    · exact rfl
    · exact rfl
    · exact rfl
    · exact (bOt hc_22)
  · refine TL.gyes false (yieldE_of rfl (bF hc_22)) rfl ?_
    refine TL.v (ltb rfl) (rv_mv (v := ptrV x7.1) rfl) ?_
    refine TL.gyes false (yieldE_of rfl (bF hc_22)) rfl ?_
    refine TL.v (ltb rfl) (rv_eqlPN (p := x7.1) pn_37 rfl rfl) ?_
    refine TL.v (ltb rfl) (rv_pickF false (bF hc_22) rfl (v := .bool (decide (x7.1 = none))) rfl) ?_
    refine TL.nil (hJ_21 _ ?_ ?_ ?_ ?_ ?_)
    · exact rfl
    · exact rfl
    · exact rfl
    · exact rfl
    · exact (bOf hc_22)
end Go.Proofs.Ytoflleabpkgdpaa
