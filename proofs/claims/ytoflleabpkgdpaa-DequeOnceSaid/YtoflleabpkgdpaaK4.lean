/- The walk through the program's functions: each one's pure reading, and that a call does what it says. No conditions. -/
import Derived.Test.YtoflleabpkgdpaaK2
set_option linter.unusedVariables false
set_option linter.unusedSimpArgs false
namespace Go.Proofs.Ytoflleabpkgdpaa
open Go Go.Proofs

/-! ### fettle/fettlelaw11.DequeOnce -/
abbrev fettlelaw11_DequeOnce.R (Q : Bool → Prop) (v : Value) (A : List FP) : Prop := ∃ r, Q r ∧ .bool r = v ∧ A = []
def fettlelaw11_DequeOnce.jn59  (t25 : (Bool × Rgn)) : D Bool :=
  rD t25.1
def fettlelaw11_DequeOnce.nx46 (x5 : Bool) (x6 : Option Nat × Rgn) (R20 : Rgn) (x21 : List Int) : D Bool :=
  bD (if x5 = true then bD (fettlelaw11_left x6.1 x21 R20) fun x26 =>
  rD (x26.1, x26.2) else rD (false, R20)) fun t25 =>
  fettlelaw11_DequeOnce.jn59 t25
def fettlelaw11_DequeOnce.jn90 (x19 : Int) (R27 : Rgn) (x28 : List PUnder) (x32 : List Int) : D (Ex (Ex Bool (Rgn × List Int)) (Rgn × List PUnder × List Int × Int)) :=
  rD (.go (R27, x28, x32, (w64 (x19 + 1))))
def fettlelaw11_DequeOnce.jn215 (x11 : List PUnder) (x19 : Int) (x48 : Int) (x55 : Bool × GErr × Rgn) (x66 : List Int) : D (Ex (Ex Bool (Rgn × List Int)) (Rgn × List PUnder × List Int × Int)) :=
  bO (upto x11 x48) fun x1271 =>
  bO (from_ x11 (w64 (x48 + 1))) fun x3271 =>
  bO (cat ([] : List PUnder) x1271) fun x1671 =>
  bO (cat x1671 x3271) fun x3671 =>
  fettlelaw11_DequeOnce.jn90 x19 x55.2.2 x3671 x66
def fettlelaw11_DequeOnce.jn259 (x11 : List PUnder) (x15 : List Int) (x19 : Int) (x48 : Int) (x55 : Bool × GErr × Rgn) (x65 : Int × Int) (t4471 : Bool) : D (Ex (Ex Bool (Rgn × List Int)) (Rgn × List PUnder × List Int × Int)) :=
  if t4471 = true then
    bO (cat x15 [x65.2]) fun x4473 =>
    fettlelaw11_DequeOnce.jn215 x11 x19 x48 x55 x4473
  else
    if x65.1 = 1 then
      bO (fettlelaw11_without x15 x65.2) fun x4477 =>
      if (!x4477.2) = true then
        rD (.ret (.ret false))
      else
        fettlelaw11_DequeOnce.jn215 x11 x19 x48 x55 x4477.1
    else
      fettlelaw11_DequeOnce.jn215 x11 x19 x48 x55 x15
def fettlelaw11_DequeOnce.jn103 (x6 : Option Nat × Rgn) (R10 : Rgn) (x11 : List PUnder) (x15 : List Int) (x19 : Int) (x37 : Int) (x38 : Int) (x39 : Int) : D (Ex (Ex Bool (Rgn × List Int)) (Rgn × List PUnder × List Int × Int)) :=
  bO (fettlelaw11_pick x37 6) fun x40 =>
  bO (fettlelaw11_free x11) fun x41 =>
  if (x40 < 3 ∧ (len x11) < 6) ∧ (x40 = 2 ∨ x41 = true) then
    bD (fettlelaw11_begin x6.1 x40 x19 R10) fun x42 =>
    if x42.1 = none then
      rD (.ret (.ret false))
    else
      bO (cat x11 [(⟨x42.1, x40⟩ : PUnder)]) fun x44 =>
      fettlelaw11_DequeOnce.jn90 x19 x42.2 x44 x15
  else
    if (len x11) = 0 then
      fettlelaw11_DequeOnce.jn90 x19 R10 x11 x15
    else
      if x19 > 3000 then
        rD (.ret (.ret false))
      else
        bO (fettlelaw11_pick x39 (len x11)) fun x48 =>
        bO (idx x11 x48) fun x49 =>
        bO (deque_Deque_Step x6.1 x49.o R10) fun x55 =>
        if ¬ x55.2.1 = GErr.no then
          rD (.ret (.ret false))
        else
          if (!x55.1) = true then
            fettlelaw11_DequeOnce.jn90 x19 x55.2.2 x11 x15
          else
            bO (idx x11 x48) fun x59 =>
            bO (deque_Op_Result x59.o x55.2.2) fun x65 =>
            if x65.1 = 0 then
              rD (.ret (.ret false))
            else
              bD (if x65.1 = 1 then bO (idx x11 x48) fun x4481 =>
              rD (decide (x4481.kind = 0)) else rD false) fun t4471 =>
              fettlelaw11_DequeOnce.jn259 x11 x15 x19 x48 x55 x65 t4471
def fettlelaw11_DequeOnce.bd46 (x6 : Option Nat × Rgn) (x7 : List PDeed) (R10 : Rgn) (x11 : List PUnder) (x15 : List Int) (x19 : Int) : D (Ex (Ex Bool (Rgn × List Int)) (Rgn × List PUnder × List Int × Int)) :=
  if x19 < (len x7) ∨ (len x11) > 0 then
    if x19 < (len x7) then
      bO (idx x7 x19) fun x4487 =>
      fettlelaw11_DequeOnce.jn103 x6 R10 x11 x15 x19 x4487.what x4487.v x4487.n
    else
      fettlelaw11_DequeOnce.jn103 x6 R10 x11 x15 x19 9 0 0
  else
    rD (.ret (.go (R10, x15)))
def fettlelaw11_DequeOnce.jn30 (x5 : Bool) (x6 : Option Nat × Rgn) (x7 : List PDeed) : D Bool :=
  bD (whlD (fun (s : (Rgn × List PUnder × List Int × Int)) => fettlelaw11_DequeOnce.bd46 x6 x7 s.1 s.2.1 s.2.2.1 s.2.2.2) FUEL (x6.2, ([] : List PUnder), ([] : List Int), 0)) fun z =>
  match z with
    | .ret r => rD r
    | .go p => fettlelaw11_DequeOnce.nx46 x5 x6 p.1 p.2
def fettlelaw11_DequeOnce (a1 : List PDeed) : D Bool :=
  bD (fettlelaw11_up) fun x5 =>
  bD (deque_New Rgn.zero) fun x6 =>
  if x6.1 = none then
    rD false
  else
    if (len a1) > 400 then
      bO (upto a1 400) fun x4495 =>
      fettlelaw11_DequeOnce.jn30 x5 x6 x4495
    else
      fettlelaw11_DequeOnce.jn30 x5 x6 a1
set_option maxHeartbeats 4000000 in
theorem fettlelaw11_DequeOnce_ok {E : World} {H : FP} {w : World} {a1 : List PDeed} {v2 : Value} {Q : Bool → Prop} (h3 : SlI kDeed H a1 v2) (hp : fettlelaw11_DequeOnce a1 Q) (hst : St E H [] w) :
    Fn Try.prog 4 #[v2] w fun v w' => ∃ A, fettlelaw11_DequeOnce.R Q v A ∧ St E H A w' := by
  refine Fn.body (fn := Try.f4) (args := [v2]) E H [] [.tmp 2] 155 Try.func4 rfl rfl rfl rfl (leb rfl) hst ?_
  refine TC.perm (L' := [rgF Rgn.zero]) (List.Perm.refl _) ?_
  unfold fettlelaw11_DequeOnce at hp
  refine TC.seq fun K_1 hK_2 => ?_
  refine TC.region ?_
  refine TL.v (ltb rfl) (rv_as (v := .bool false) rfl) ?_
  refine TL.nil ?_
  refine TC.go hK_2 ?_
  refine TC.seq fun K_3 hK_4 => ?_
  refine TC.region ?_
  have hp := bD' hp
  refine TL.callC (vs := []) (R := fettlelaw11_up.R _) [] [rgF Rgn.zero] rfl cb_25 (ltb rfl) m0 (fun w hw => fettlelaw11_up_ok hp hw) fun v A' hR_6 => ?_
  obtain ⟨x5, hp, rfl, rfl⟩ := hR_6
  refine TL.norm (L' := [rgF Rgn.zero]) rfl ?_
  refine TL.v (ltb rfl) (rv_as (v := .bool x5) rfl) ?_
  refine TL.nil ?_
  refine TC.go hK_4 ?_
  refine TC.seq fun K_7 hK_8 => ?_
  refine TC.region ?_
  have hp := bD' hp
  refine TL.callC (vs := []) (R := deque_New.R _) [rgF Rgn.zero] [] rfl cb_26 (ltb rfl) m0 (fun w hw => deque_New_ok (R2 := Rgn.zero) hp hw) fun v A' hR_10 => ?_
  obtain ⟨x6, hp, rfl, rfl⟩ := hR_10
  refine TL.norm (L' := [rgF x6.2]) rfl ?_
  refine TL.v (ltb rfl) (rv_as (v := ptrV x6.1) rfl) ?_
  refine TL.nil ?_
  refine TC.go hK_8 ?_
  refine TC.seq fun K_11 hK_12 => ?_
  refine TC.seq fun K_13 hK_14 => ?_
  refine TC.region ?_
  refine TL.v (ltb rfl) (rv_mv (v := ptrV x6.1) rfl) ?_
  refine TL.v (ltb rfl) (rv_eqlPN (p := x6.1) pn_37 rfl rfl) ?_
  refine TL.nil ?_
  refine TC.go hK_14 ?_
  by_cases hc_15 : x6.1 = none
  · rw [if_pos hc_15] at hp
    refine TC.condT (bT hc_15) ?_
    refine TC.seq fun K_16 hK_17 => ?_
    refine TC.region ?_
    refine TL.v (ltb rfl) (rv_as (v := .bool false) rfl) ?_
    refine TL.nil ?_
    refine TC.go hK_17 ?_
    refine TC.ret ?_
    exact fun w hw => retOk ⟨false, hp, rfl, rfl⟩ (hw.pick [])
  · rw [if_neg hc_15] at hp
    refine TC.condF (bF hc_15) ?_
    refine TC.skip ?_
    refine TC.go hK_12 ?_
    refine TC.seq fun K_18 hK_19 => ?_
    refine TC.region ?_
    refine TL.v (ltb rfl) (rv_as (v := .slice none 0 0) rfl) ?_
    refine TL.nil ?_
    refine TC.go hK_19 ?_
    refine TC.seq fun K_20 hK_21 => ?_
    refine TC.region ?_
    refine TL.v (ltb rfl) (rv_as (v := .slice none 0 0) rfl) ?_
    refine TL.nil ?_
    refine TC.go hK_21 ?_
    refine TC.seq fun K_22 hK_23 => ?_
    have hJ_30 : ∀ (x7 : List PDeed) (v8 : Value) (e_24 : Env) (h9 : SlI kDeed H x7 v8) (h_25 : e_24 0 = v8) (h_26 : e_24 3 = .bool x5) (h_27 : e_24 4 = ptrV x6.1) (h_28 : e_24 5 = .slice none 0 0) (h_29 : e_24 6 = .slice none 0 0) (hp : fettlelaw11_DequeOnce.jn30 x5 x6 x7 Q), ∀ w, St E H [rgF x6.2] w → K_22 e_24 w := by
      intro x7 v8 e_24 h9 h_25 h_26 h_27 h_28 h_29 hp
      unfold fettlelaw11_DequeOnce.jn30 at hp
      refine TC.go hK_23 ?_
      refine TC.seq fun K_31 hK_32 => ?_
      refine TC.seq fun K_33 hK_34 => ?_
      refine TC.region ?_
      refine TL.v (ltb rfl) (rv_as (v := .int .i64 0) rfl) ?_
      refine TL.nil ?_
      refine TC.go hK_34 ?_
      refine TC.block ?_
      have hJ_63 : ∀ (R20 : Rgn) (x21 : List Int) (v22 : Value) (F23 : FP) (e_47 : Env) (h24 : SlO 3 (kInt .i64) x21 v22 F23) (h_48 : e_47 3 = .bool x5) (h_49 : e_47 4 = ptrV x6.1) (h_50 : e_47 6 = v22) (hp : fettlelaw11_DequeOnce.nx46 x5 x6 R20 x21 Q), ∀ w, St E H [rgF R20, F23] w → K_31 e_47 w := by
        intro R20 x21 v22 F23 e_47 h24 h_48 h_49 h_50 hp
        unfold fettlelaw11_DequeOnce.nx46 at hp
        refine TC.go hK_32 ?_
        refine TC.seq fun K_51 hK_52 => ?_
        refine TC.region ?_
        refine TL.v (ltb rfl) (rv_mv (v := .bool x5) h_48) ?_
        refine TL.v (ltb rfl) (rv_mv (v := .bool x5) rfl) ?_
        have hp := bD' hp
        refine TL.cut 4 fun K_53 hK_54 => ?_
        have hJ_55 : ∀ (t25 : (Bool × Rgn)), fettlelaw11_DequeOnce.jn59 t25 Q → ∀ e_57 : Env, e_57 154 = .bool t25.1 → ∀ w, St E H [rgF t25.2, F23] w → K_53 e_57 w := by
          intro t25 hp e_57 h_58
          unfold fettlelaw11_DequeOnce.jn59 at hp
          refine TL.go hK_54 ?_
          refine TL.v (ltb rfl) (rv_as (v := .bool t25.1) h_58) ?_
          refine TL.nil ?_
          refine TC.go hK_52 ?_
          refine TC.ret ?_
          exact fun w hw => retOk ⟨t25.1, hp, rfl, rfl⟩ (hw.pick [])
        by_cases hc_56 : x5 = true
        · rw [if_pos hc_56] at hp
          refine TL.gyes true (yieldE_of rfl (bbT hc_56)) rfl ?_
          refine TL.v (ltb rfl) (rv_mv (v := ptrV x6.1) h_49) ?_
          refine TL.gyes true (yieldE_of rfl (bbT hc_56)) rfl ?_
          refine TL.v (ltb rfl) (rv_mv (v := v22) h_50) ?_
          refine TL.gyes true (yieldE_of rfl (bbT hc_56)) rfl ?_
          have hp := bD' hp
          refine TL.callC (vs := [ptrV x6.1, v22]) (R := fettlelaw11_left.R _) [rgF R20] [F23] rfl cb_33 (ltb rfl) (mc rfl (mc rfl m0)) (fun w hw => fettlelaw11_left_ok (a1 := x6.1) (a2 := x21) (R6 := R20) (h24.ro.mono (subB 0 rfl)) hp hw) fun v A' hR_62 => ?_
          obtain ⟨x26, hp, rfl, rfl⟩ := hR_62
          refine TL.norm (L' := [rgF x26.2, F23]) rfl ?_
          refine TL.v (ltb rfl) (rv_pickT true (bbT hc_56) rfl (v := .bool x26.1) rfl) ?_
          refine TL.nil (hJ_55 (x26.1, x26.2) hp _ ?_)
          · exact rfl
        · rw [if_neg hc_56] at hp
          refine TL.gno false rfl (fun d hd => by cases hd; exact ltb rfl) (yieldE_of rfl (bbF hc_56)) rfl ?_
          refine TL.gno false rfl (fun d hd => by cases hd; exact ltb rfl) (yieldE_of rfl (bbF hc_56)) rfl ?_
          refine TL.gno false rfl (fun d hd => by cases hd; exact ltb rfl) (yieldE_of rfl (bbF hc_56)) rfl ?_
          refine TL.v (ltb rfl) (rv_pickF false (bbF hc_56) rfl (v := .bool false) rfl) ?_
          refine TL.nil (hJ_55 (false, R20) hp _ ?_)
          · exact rfl
      have hp := bD' hp
      refine W.new0 ?_
      refine W.new0 ?_
      refine TC.pk' [2, 1, 0] (L' := [rgF x6.2, ([] : FP), ([] : FP)]) rfl ?_
      refine TC.loopD (fun (s : (Rgn × List PUnder × List Int × Int)) (e_35 : Env) (L_284 : List FP) => ∃ (R10 : Rgn) (x11 : List PUnder) (x15 : List Int) (x19 : Int) (v12 : Value) (F13 : FP) (v16 : Value) (F17 : FP), s = (R10, x11, x15, x19) ∧ SlO 47 kUnder x11 v12 F13 ∧ SlO 3 (kInt .i64) x15 v16 F17 ∧ e_35 0 = v8 ∧ e_35 3 = .bool x5 ∧ e_35 4 = ptrV x6.1 ∧ e_35 5 = v12 ∧ e_35 6 = v16 ∧ e_35 7 = .int .i64 x19 ∧ L_284 = [rgF R10, F13, F17]) ?_ FUEL _ _ _ hp ⟨x6.2, ([] : List PUnder), ([] : List Int), 0, (.slice none 0 0), ([] : FP), (.slice none 0 0), ([] : FP), rfl, (SlO.nil 47), (SlO.nil 3), h_25, h_26, h_27, h_28, h_29, rfl, rfl⟩
      rintro s e_35 L_284 ⟨R10, x11, x15, x19, v12, F13, v16, F17, rfl, h14, h18, h_36, h_37, h_38, h_39, h_40, h_41, rfl⟩ x_45 hp hx_46
      replace hp : fettlelaw11_DequeOnce.bd46 x6 x7 R10 x11 x15 x19 x_45 := hp
      unfold fettlelaw11_DequeOnce.bd46 at hp
      refine TC.seq fun K_64 hK_65 => ?_
      refine TC.seq fun K_66 hK_67 => ?_
      refine TC.region ?_
      refine TL.v (ltb rfl) (rv_mv (v := .int .i64 x19) h_41) ?_
      refine TL.v (ltb rfl) (rv_mv (v := v8) h_36) ?_
      refine TL.v (ltb rfl) (rv_lenI (v := v8) Try.underlying36 rfl h9) ?_
      refine TL.v (ltb rfl) (rv_lss (k := .i64) (m := x19) (n := (len x7)) rfl rfl) ?_
      refine TL.v (ltb rfl) (rv_mv (v := .bool (decide (x19 < (len x7)))) rfl) ?_
      refine TL.cut 4 fun K_68 hK_69 => ?_
      have hJ_70 : ∀ e_72 : Env, e_72 0 = v8 → e_72 3 = .bool x5 → e_72 4 = ptrV x6.1 → e_72 5 = v12 → e_72 6 = v16 → e_72 7 = .int .i64 x19 → e_72 36 = .bool (decide (x19 < (len x7) ∨ (len x11) > 0)) → ∀ w, St E H [rgF R10, F13, F17] w → K_68 e_72 w := by
        intro e_72 h_73 h_74 h_75 h_76 h_77 h_78 h_79
        refine TL.go hK_69 ?_
        refine TL.nil ?_
        refine TC.go hK_67 ?_
        by_cases hc_80 : x19 < (len x7) ∨ (len x11) > 0
        · rw [if_pos hc_80] at hp
          refine TC.condT (h_79.trans (bT hc_80)) ?_
          refine TC.skip ?_
          refine TC.go hK_65 ?_
          refine TC.seq fun K_81 hK_82 => ?_
          have hJ_90 : ∀ (R27 : Rgn) (x28 : List PUnder) (x32 : List Int) (v29 : Value) (F30 : FP) (v33 : Value) (F34 : FP) (e_83 : Env) (h31 : SlO 47 kUnder x28 v29 F30) (h35 : SlO 3 (kInt .i64) x32 v33 F34) (h_84 : e_83 0 = v8) (h_85 : e_83 3 = .bool x5) (h_86 : e_83 4 = ptrV x6.1) (h_87 : e_83 5 = v29) (h_88 : e_83 6 = v33) (h_89 : e_83 7 = .int .i64 x19) (hp : fettlelaw11_DequeOnce.jn90 x19 R27 x28 x32 x_45), ∀ w, St E H [rgF R27, F30, F34] w → K_81 e_83 w := by
            intro R27 x28 x32 v29 F30 v33 F34 e_83 h31 h35 h_84 h_85 h_86 h_87 h_88 h_89 hp
            unfold fettlelaw11_DequeOnce.jn90 at hp
            refine TC.go hK_82 ?_
            refine TC.region ?_
            refine TL.v (ltb rfl) (rv_mv (v := .int .i64 x19) h_89) ?_
            refine TL.v (ltb rfl) (rv_add (k := .i64) (m := x19) (n := 1) rfl rfl) ?_
            refine TL.v (ltb rfl) (rv_as (v := .int .i64 (w64 (x19 + 1))) rfl) ?_
            refine TL.nil ?_
            exact fun w hw => goOkD hp ⟨R27, x28, x32, (w64 (x19 + 1)), v29, F30, v33, F34, rfl, h31, h35, h_84, h_85, h_86, h_87, h_88, rfl, rfl⟩ (hw.pick [0, 0, 0])
          refine TC.block ?_
          refine TC.seq fun K_91 hK_92 => ?_
          refine TC.region ?_
          refine TL.v (ltb rfl) (rv_bv (vs := [(0, .int .i64 9)]) (ds := [.int .i64 9, .int .i64 0, .int .i64 0]) (pc rfl p0) (fun w => by kernel_rfl)) ?_
          refine TL.alloc (cs := [.int .i64 0, .int .i64 0, .int .i64 0]) inf_41 (ltb rfl) rfl fun b36 => ?_
          refine TL.stB (ds := [.int .i64 9, .int .i64 0, .int .i64 0]) (o := 0) (cs := [.int .i64 0, .int .i64 0, .int .i64 0]) (b := b36) (u := .agg #[.int .i64 9, .int .i64 0, .int .i64 0]) 0 rfl ms_41 rfl rfl rfl (oc rfl (oc rfl (oc rfl oc0))) (leb rfl) ?_
          refine TL.norm (L' := [bx b36 41 [.int .i64 9, .int .i64 0, .int .i64 0], rgF R10, F13, F17]) rfl ?_
          refine TL.nil ?_
          refine TC.go hK_92 ?_
          refine TC.seq fun K_93 hK_94 => ?_
          have hJ_103 : ∀ (x37 : Int) (x38 : Int) (x39 : Int) (e_95 : Env) (h_96 : e_95 0 = v8) (h_97 : e_95 3 = .bool x5) (h_98 : e_95 4 = ptrV x6.1) (h_99 : e_95 5 = v12) (h_100 : e_95 6 = v16) (h_101 : e_95 7 = .int .i64 x19) (h_102 : e_95 8 = .pointer (some ⟨b36, 0, none⟩)) (hp : fettlelaw11_DequeOnce.jn103 x6 R10 x11 x15 x19 x37 x38 x39 x_45), ∀ w, St E H [rgF R10, F13, F17, bx b36 41 [.int .i64 x37, .int .i64 x38, .int .i64 x39]] w → K_93 e_95 w := by
            intro x37 x38 x39 e_95 h_96 h_97 h_98 h_99 h_100 h_101 h_102 hp
            unfold fettlelaw11_DequeOnce.jn103 at hp
            refine TC.go hK_94 ?_
            refine TC.seq fun K_104 hK_105 => ?_
            refine TC.region ?_
            refine TL.v (ltb rfl) (rv_fa (b := b36) (o := 0) fa_41_0 h_102) ?_
            refine TL.v (ltb rfl) (rv_ld (v := .int .i64 x37) (o := 0) (o' := 0) (j := 0) sc_3 rfl (Src.at_ 3 rfl) (bx_cells b36 41 _) rfl rfl) ?_
            obtain ⟨x40, hy_106, hp⟩ := bO' hp
            refine TL.callC (vs := [.int .i64 x37, .int .i64 6]) (R := fettlelaw11_pick.R x40) [] [rgF R10, F13, F17, bx b36 41 [.int .i64 x37, .int .i64 x38, .int .i64 x39]] rfl cb_27 (ltb rfl) (mc rfl (mc rfl m0)) (fun w hw => fettlelaw11_pick_ok (a1 := x37) (a2 := 6) hy_106 hw) fun v A' hR_107 => ?_
            obtain ⟨rfl, rfl⟩ := hR_107
            refine TL.norm (L' := [rgF R10, F13, F17, bx b36 41 [.int .i64 x37, .int .i64 x38, .int .i64 x39]]) rfl ?_
            refine TL.v (ltb rfl) (rv_as (v := .int .i64 x40) rfl) ?_
            refine TL.nil ?_
            refine TC.go hK_105 ?_
            refine TC.seq fun K_108 hK_109 => ?_
            refine TC.region ?_
            refine TL.v (ltb rfl) (rv_mv (v := v12) h_99) ?_
            obtain ⟨x41, hy_110, hp⟩ := bO' hp
            refine TL.callC (vs := [v12]) (R := fettlelaw11_free.R x41) [] [rgF R10, F13, F17, bx b36 41 [.int .i64 x37, .int .i64 x38, .int .i64 x39]] rfl cb_28 (ltb rfl) (mc rfl m0) (fun w hw => fettlelaw11_free_ok (a1 := x11) (h14.ro.mono (subB 1 rfl)) hy_110 hw) fun v A' hR_111 => ?_
            obtain ⟨rfl, rfl⟩ := hR_111
            refine TL.norm (L' := [rgF R10, F13, F17, bx b36 41 [.int .i64 x37, .int .i64 x38, .int .i64 x39]]) rfl ?_
            refine TL.v (ltb rfl) (rv_as (v := .bool x41) rfl) ?_
            refine TL.nil ?_
            refine TC.go hK_109 ?_
            refine TC.seq fun K_112 hK_113 => ?_
            refine TC.seq fun K_114 hK_115 => ?_
            refine TC.region ?_
            refine TL.v (ltb rfl) (rv_mv (v := .int .i64 x40) rfl) ?_
            refine TL.v (ltb rfl) (rv_lss (k := .i64) (m := x40) (n := 3) rfl rfl) ?_
            refine TL.v (ltb rfl) (rv_mv (v := .bool (decide (x40 < 3))) rfl) ?_
            refine TL.cut 4 fun K_116 hK_117 => ?_
            have hJ_118 : ∀ e_120 : Env, e_120 0 = v8 → e_120 3 = .bool x5 → e_120 4 = ptrV x6.1 → e_120 5 = v12 → e_120 6 = v16 → e_120 7 = .int .i64 x19 → e_120 8 = .pointer (some ⟨b36, 0, none⟩) → e_120 9 = .int .i64 x40 → e_120 10 = .bool x41 → e_120 59 = .bool (decide (x40 < 3 ∧ (len x11) < 6)) → ∀ w, St E H [rgF R10, F13, F17, bx b36 41 [.int .i64 x37, .int .i64 x38, .int .i64 x39]] w → K_116 e_120 w := by
              intro e_120 h_121 h_122 h_123 h_124 h_125 h_126 h_127 h_128 h_129 h_130
              refine TL.go hK_117 ?_
              refine TL.v (ltb rfl) (rv_mv (v := .bool (decide (x40 < 3 ∧ (len x11) < 6))) h_130) ?_
              refine TL.cut 6 fun K_131 hK_132 => ?_
              have hJ_133 : ∀ e_135 : Env, e_135 0 = v8 → e_135 3 = .bool x5 → e_135 4 = ptrV x6.1 → e_135 5 = v12 → e_135 6 = v16 → e_135 7 = .int .i64 x19 → e_135 8 = .pointer (some ⟨b36, 0, none⟩) → e_135 9 = .int .i64 x40 → e_135 66 = .bool (decide ((x40 < 3 ∧ (len x11) < 6) ∧ (x40 = 2 ∨ x41 = true))) → ∀ w, St E H [rgF R10, F13, F17, bx b36 41 [.int .i64 x37, .int .i64 x38, .int .i64 x39]] w → K_131 e_135 w := by
                intro e_135 h_136 h_137 h_138 h_139 h_140 h_141 h_142 h_143 h_144
                refine TL.go hK_132 ?_
                refine TL.nil ?_
                refine TC.go hK_115 ?_
                by_cases hc_145 : (x40 < 3 ∧ (len x11) < 6) ∧ (x40 = 2 ∨ x41 = true)
                · rw [if_pos hc_145] at hp
                  refine TC.condT (h_144.trans (bT hc_145)) ?_
                  refine TC.seq fun K_146 hK_147 => ?_
                  refine TC.region ?_
                  refine TL.v (ltb rfl) (rv_mv (v := ptrV x6.1) h_138) ?_
                  refine TL.v (ltb rfl) (rv_mv (v := .int .i64 x40) h_143) ?_
                  refine TL.v (ltb rfl) (rv_mv (v := .int .i64 x19) h_141) ?_
                  have hp := bD' hp
                  refine TL.callC (vs := [ptrV x6.1, .int .i64 x40, .int .i64 x19]) (R := fettlelaw11_begin.R _) [rgF R10] [F13, F17, bx b36 41 [.int .i64 x37, .int .i64 x38, .int .i64 x39]] rfl cb_29 (ltb rfl) (mc rfl (mc rfl (mc rfl m0))) (fun w hw => fettlelaw11_begin_ok (a1 := x6.1) (a2 := x40) (a3 := x19) (R5 := R10) hp hw) fun v A' hR_149 => ?_
                  obtain ⟨x42, hp, rfl, rfl⟩ := hR_149
                  refine TL.norm (L' := [rgF x42.2, F13, F17, bx b36 41 [.int .i64 x37, .int .i64 x38, .int .i64 x39]]) rfl ?_
                  refine TL.v (ltb rfl) (rv_as (v := ptrV x42.1) rfl) ?_
                  refine TL.nil ?_
                  refine TC.go hK_147 ?_
                  refine TC.seq fun K_150 hK_151 => ?_
                  refine TC.seq fun K_152 hK_153 => ?_
                  refine TC.region ?_
                  refine TL.v (ltb rfl) (rv_mv (v := ptrV x42.1) rfl) ?_
                  refine TL.v (ltb rfl) (rv_eqlPN (p := x42.1) pn_44 rfl rfl) ?_
                  refine TL.nil ?_
                  refine TC.go hK_153 ?_
                  by_cases hc_154 : x42.1 = none
                  · rw [if_pos hc_154] at hp
                    refine TC.condT (bT hc_154) ?_
                    refine TC.seq fun K_155 hK_156 => ?_
                    refine TC.region ?_
                    refine TL.v (ltb rfl) (rv_as (v := .bool false) rfl) ?_
                    refine TL.nil ?_
                    refine TC.go hK_156 ?_
                    refine TC.ret ?_
                    have hp := hx_46 _ hp
                    exact fun w hw => retOk ⟨false, hp, rfl, rfl⟩ (hw.pick [])
                  · rw [if_neg hc_154] at hp
                    refine TC.condF (bF hc_154) ?_
                    refine TC.skip ?_
                    refine TC.go hK_151 ?_
                    refine TC.seq fun K_157 hK_158 => ?_
                    refine TC.region ?_
                    refine TL.v (ltb rfl) (rv_mv (v := v12) h_139) ?_
                    refine TL.v (ltb rfl) (rv_mv (v := ptrV x42.1) rfl) ?_
                    refine TL.v (ltb rfl) (rv_mv (v := .int .i64 x40) h_143) ?_
                    refine TL.v (ltb rfl) (rv_bv (vs := [(0, ptrV x42.1), (1, .int .i64 x40)]) (ds := [ptrV x42.1, .int .i64 x40]) (pc rfl (pc rfl p0)) (fun w => by kernel_rfl)) ?_
                    refine TL.bv (vs := [(0, .agg #[ptrV x42.1, .int .i64 x40])]) (cs := [ptrV x42.1, .int .i64 x40]) (pc rfl p0) Try.underlying39 inf_47 (ltb rfl) (by decide) (by decide) (by kernel_rfl) fun b43 => ?_
                    refine TL.pk' [2, 0, 0, 0, 0] (L' := [F13, bx b43 47 [ptrV x42.1, .int .i64 x40], rgF x42.2, F17, bx b36 41 [.int .i64 x37, .int .i64 x38, .int .i64 x39]]) rfl ?_
                    refine TL.perm (L' := [F13, bx b43 47 [ptrV x42.1, .int .i64 x40], [], rgF x42.2, F17, bx b36 41 [.int .i64 x37, .int .i64 x38, .int .i64 x39]]) (by simp) ?_
                    obtain ⟨x44, hz_159, hp⟩ := bO' hp
                    refine TL.app Try.underlying39 inf_47 (ltb rfl) rfl (ltb rfl) rfl (leb rfl) rfl rfl h14 (RepL.to (RepL.cons (k := kUnder) (x := (⟨x42.1, x40⟩ : PUnder)) ⟨rfl, rfl⟩ RepL.nil) rfl) rfl rfl hz_159 fun v45 F46 h47 => ?_
                    refine TL.v (ltb rfl) (rv_as (v := v45) rfl) ?_
                    refine TL.nil ?_
                    refine TC.go hK_158 ?_
                    refine TC.exit ?_
                    refine fun w hw => hJ_90 x42.2 x44 x15 v45 F46 v16 F17 _ h47 h18 ?_ ?_ ?_ ?_ ?_ ?_ hp w (hw.pick [1, 0, 0])
                    · exact h_136
                    · exact h_137
                    · exact h_138
                    · exact rfl
                    · exact h_140
                    · exact h_141
                · rw [if_neg hc_145] at hp
                  refine TC.condF (h_144.trans (bF hc_145)) ?_
                  refine TC.skip ?_
                  refine TC.go hK_113 ?_
                  refine TC.seq fun K_160 hK_161 => ?_
                  refine TC.seq fun K_162 hK_163 => ?_
                  refine TC.region ?_
                  refine TL.v (ltb rfl) (rv_mv (v := v12) h_139) ?_
                  refine TL.v (ltb rfl) (rv_lenI (v := v12) Try.underlying39 rfl h14.ro) ?_
                  refine TL.v (ltb rfl) (rv_eql (k := .i64) (m := (len x11)) (n := 0) rfl rfl) ?_
                  refine TL.nil ?_
                  refine TC.go hK_163 ?_
                  by_cases hc_164 : (len x11) = 0
                  · rw [if_pos hc_164] at hp
                    refine TC.condT (bT hc_164) ?_
                    refine TC.exit ?_
                    refine fun w hw => hJ_90 R10 x11 x15 v12 F13 v16 F17 _ h14 h18 ?_ ?_ ?_ ?_ ?_ ?_ hp w (hw.pick [0, 0, 0])
                    · exact h_136
                    · exact h_137
                    · exact h_138
                    · exact h_139
                    · exact h_140
                    · exact h_141
                  · rw [if_neg hc_164] at hp
                    refine TC.condF (bF hc_164) ?_
                    refine TC.skip ?_
                    refine TC.go hK_161 ?_
                    refine TC.seq fun K_165 hK_166 => ?_
                    refine TC.seq fun K_167 hK_168 => ?_
                    refine TC.region ?_
                    refine TL.v (ltb rfl) (rv_mv (v := .int .i64 x19) h_141) ?_
                    refine TL.v (ltb rfl) (rv_gtr (k := .i64) (m := x19) (n := 3000) rfl rfl) ?_
                    refine TL.nil ?_
                    refine TC.go hK_168 ?_
                    by_cases hc_169 : x19 > 3000
                    · rw [if_pos hc_169] at hp
                      refine TC.condT (bT hc_169) ?_
                      refine TC.seq fun K_170 hK_171 => ?_
                      refine TC.region ?_
                      refine TL.v (ltb rfl) (rv_as (v := .bool false) rfl) ?_
                      refine TL.nil ?_
                      refine TC.go hK_171 ?_
                      refine TC.ret ?_
                      have hp := hx_46 _ hp
                      exact fun w hw => retOk ⟨false, hp, rfl, rfl⟩ (hw.pick [])
                    · rw [if_neg hc_169] at hp
                      refine TC.condF (bF hc_169) ?_
                      refine TC.skip ?_
                      refine TC.go hK_166 ?_
                      refine TC.seq fun K_172 hK_173 => ?_
                      refine TC.region ?_
                      refine TL.v (ltb rfl) (rv_fa (b := b36) (o := 0) fa_41_2 h_142) ?_
                      refine TL.v (ltb rfl) (rv_ld (v := .int .i64 x39) (o := 2) (o' := 0) (j := 2) sc_3 rfl (Src.at_ 3 rfl) (bx_cells b36 41 _) rfl rfl) ?_
                      refine TL.v (ltb rfl) (rv_mv (v := v12) h_139) ?_
                      refine TL.v (ltb rfl) (rv_lenI (v := v12) Try.underlying39 rfl h14.ro) ?_
                      obtain ⟨x48, hy_174, hp⟩ := bO' hp
                      refine TL.callC (vs := [.int .i64 x39, .int .i64 (len x11)]) (R := fettlelaw11_pick.R x48) [] [rgF R10, F13, F17, bx b36 41 [.int .i64 x37, .int .i64 x38, .int .i64 x39]] rfl cb_27 (ltb rfl) (mc rfl (mc rfl m0)) (fun w hw => fettlelaw11_pick_ok (a1 := x39) (a2 := (len x11)) hy_174 hw) fun v A' hR_175 => ?_
                      obtain ⟨rfl, rfl⟩ := hR_175
                      refine TL.norm (L' := [rgF R10, F13, F17, bx b36 41 [.int .i64 x37, .int .i64 x38, .int .i64 x39]]) rfl ?_
                      refine TL.v (ltb rfl) (rv_as (v := .int .i64 x48) rfl) ?_
                      refine TL.nil ?_
                      refine TC.go hK_173 ?_
                      refine TC.seq fun K_176 hK_177 => ?_
                      refine TC.region ?_
                      refine TL.v (ltb rfl) (rv_mv (v := ptrV x6.1) h_138) ?_
                      refine TL.v (ltb rfl) (rv_mv (v := v12) h_139) ?_
                      refine TL.v (ltb rfl) (rv_mv (v := .int .i64 x48) rfl) ?_
                      obtain ⟨x49, hx_178, hp⟩ := bO' hp
                      refine TL.v3 (ltb rfl) (rv_ix 39 (.tmp 91) (.tmp 92) (v := v12) (i := x48) Try.underlying39 inf_47 rfl rfl rfl (h14).ro hx_178) fun b50 o51 c52 h53 h54 => ?_
                      obtain rfl := h53
                      refine TL.v (ltb rfl) (rv_fa (b := b50) (o := o51) fa_47_0 rfl) ?_
                      refine TL.v (ltb rfl) (rv_ld (v := ptrV x49.o) (o := o51) (o' := o51) (j := 0) sc_44 rfl (Src.at_ 1 rfl) h54 rfl rfl) ?_
                      obtain ⟨x55, hy_179, hp⟩ := bO' hp
                      refine TL.callC (vs := [ptrV x6.1, ptrV x49.o]) (R := deque_Deque_Step.R x55) [rgF R10] [F13, F17, bx b36 41 [.int .i64 x37, .int .i64 x38, .int .i64 x39]] rfl cb_30 (ltb rfl) (mc rfl (mc rfl m0)) (fun w hw => deque_Deque_Step_ok (a1 := x6.1) (a2 := x49.o) (R4 := R10) hy_179 hw) fun v A' hR_180 => ?_
                      obtain ⟨v56, F57, rfl, rfl, h58⟩ := hR_180
                      refine TL.norm (L' := [F57, rgF x55.2.2, F13, F17, bx b36 41 [.int .i64 x37, .int .i64 x38, .int .i64 x39]]) rfl ?_
                      refine TL.v (ltb rfl) (rv_mv (v := .tuple #[.bool x55.1, v56]) rfl) ?_
                      refine TL.v (ltb rfl) (rv_extract (vs := #[.bool x55.1, v56]) (v := .bool x55.1) rfl rfl) ?_
                      refine TL.v (ltb rfl) (rv_extract (vs := #[.bool x55.1, v56]) (v := v56) rfl rfl) ?_
                      refine TL.v (ltb rfl) (rv_as (v := .bool x55.1) rfl) ?_
                      refine TL.v (ltb rfl) (rv_as (v := v56) rfl) ?_
                      refine TL.nil ?_
                      refine TC.go hK_177 ?_
                      refine TC.seq fun K_181 hK_182 => ?_
                      refine TC.seq fun K_183 hK_184 => ?_
                      refine TC.region ?_
                      refine TL.v (ltb rfl) (rv_mv (v := v56) rfl) ?_
                      refine TL.v (ltb rfl) (rv_neqEN ifc_49 h58 rfl) ?_
                      refine TL.nil ?_
                      refine TC.go hK_184 ?_
                      by_cases hc_185 : ¬ x55.2.1 = GErr.no
                      · rw [if_pos hc_185] at hp
                        refine TC.condT (bT hc_185) ?_
                        refine TC.seq fun K_186 hK_187 => ?_
                        refine TC.region ?_
                        refine TL.v (ltb rfl) (rv_as (v := .bool false) rfl) ?_
                        refine TL.nil ?_
                        refine TC.go hK_187 ?_
                        refine TC.ret ?_
                        have hp := hx_46 _ hp
                        exact fun w hw => retOk ⟨false, hp, rfl, rfl⟩ (hw.pick [])
                      · rw [if_neg hc_185] at hp
                        refine TC.condF (bF hc_185) ?_
                        refine TC.skip ?_
                        refine TC.go hK_182 ?_
                        refine TC.seq fun K_188 hK_189 => ?_
                        refine TC.seq fun K_190 hK_191 => ?_
                        refine TC.region ?_
                        refine TL.v (ltb rfl) (rv_mv (v := .bool x55.1) rfl) ?_
                        refine TL.v (ltb rfl) (rv_not (b := x55.1) rfl) ?_
                        refine TL.nil ?_
                        refine TC.go hK_191 ?_
                        by_cases hc_192 : (!x55.1) = true
                        · rw [if_pos hc_192] at hp
                          refine TC.condT (bbT hc_192) ?_
                          refine TC.exit ?_
                          refine fun w hw => hJ_90 x55.2.2 x11 x15 v12 F13 v16 F17 _ h14 h18 ?_ ?_ ?_ ?_ ?_ ?_ hp w (hw.pick [1, 1, 1])
                          · exact h_136
                          · exact h_137
                          · exact h_138
                          · exact h_139
                          · exact h_140
                          · exact h_141
                        · rw [if_neg hc_192] at hp
                          refine TC.condF (bbF hc_192) ?_
                          refine TC.skip ?_
                          refine TC.go hK_189 ?_
                          refine TC.seq fun K_193 hK_194 => ?_
                          refine TC.region ?_
                          refine TL.v (ltb rfl) (rv_mv (v := v12) h_139) ?_
                          refine TL.v (ltb rfl) (rv_mv (v := .int .i64 x48) rfl) ?_
                          obtain ⟨x59, hx_195, hp⟩ := bO' hp
                          refine TL.v3 (ltb rfl) (rv_ix 39 (.tmp 104) (.tmp 105) (v := v12) (i := x48) Try.underlying39 inf_47 rfl rfl rfl (h14).ro hx_195) fun b60 o61 c62 h63 h64 => ?_
                          obtain rfl := h63
                          refine TL.v (ltb rfl) (rv_fa (b := b60) (o := o61) fa_47_0 rfl) ?_
                          refine TL.v (ltb rfl) (rv_ld (v := ptrV x59.o) (o := o61) (o' := o61) (j := 0) sc_44 rfl (Src.at_ 2 rfl) h64 rfl rfl) ?_
                          refine TL.pk' [1, 0, 0, 0, 0] (L' := [rgF x55.2.2, F57, F13, F17, bx b36 41 [.int .i64 x37, .int .i64 x38, .int .i64 x39]]) rfl ?_
                          obtain ⟨x65, hy_196, hp⟩ := bO' hp
                          refine TL.callC (vs := [ptrV x59.o]) (R := deque_Op_Result.R x55.2.2 x65) [rgF x55.2.2] [F57, F13, F17, bx b36 41 [.int .i64 x37, .int .i64 x38, .int .i64 x39]] rfl cb_31 (ltb rfl) (mc rfl m0) (fun w hw => deque_Op_Result_ok (a1 := x59.o) (R3 := x55.2.2) hy_196 hw) fun v A' hR_197 => ?_
                          obtain ⟨rfl, rfl⟩ := hR_197
                          refine TL.norm (L' := [rgF x55.2.2, F57, F13, F17, bx b36 41 [.int .i64 x37, .int .i64 x38, .int .i64 x39]]) rfl ?_
                          refine TL.v (ltb rfl) (rv_mv (v := .tuple #[.int .i64 x65.1, .int .i64 x65.2]) rfl) ?_
                          refine TL.v (ltb rfl) (rv_extract (vs := #[.int .i64 x65.1, .int .i64 x65.2]) (v := .int .i64 x65.1) rfl rfl) ?_
                          refine TL.v (ltb rfl) (rv_extract (vs := #[.int .i64 x65.1, .int .i64 x65.2]) (v := .int .i64 x65.2) rfl rfl) ?_
                          refine TL.v (ltb rfl) (rv_as (v := .int .i64 x65.1) rfl) ?_
                          refine TL.v (ltb rfl) (rv_as (v := .int .i64 x65.2) rfl) ?_
                          refine TL.nil ?_
                          refine TC.go hK_194 ?_
                          refine TC.seq fun K_198 hK_199 => ?_
                          refine TC.seq fun K_200 hK_201 => ?_
                          refine TC.region ?_
                          refine TL.v (ltb rfl) (rv_mv (v := .int .i64 x65.1) rfl) ?_
                          refine TL.v (ltb rfl) (rv_eql (k := .i64) (m := x65.1) (n := 0) rfl rfl) ?_
                          refine TL.nil ?_
                          refine TC.go hK_201 ?_
                          by_cases hc_202 : x65.1 = 0
                          · rw [if_pos hc_202] at hp
                            refine TC.condT (bT hc_202) ?_
                            refine TC.seq fun K_203 hK_204 => ?_
                            refine TC.region ?_
                            refine TL.v (ltb rfl) (rv_as (v := .bool false) rfl) ?_
                            refine TL.nil ?_
                            refine TC.go hK_204 ?_
                            refine TC.ret ?_
                            have hp := hx_46 _ hp
                            exact fun w hw => retOk ⟨false, hp, rfl, rfl⟩ (hw.pick [])
                          · rw [if_neg hc_202] at hp
                            refine TC.condF (bF hc_202) ?_
                            refine TC.skip ?_
                            refine TC.go hK_199 ?_
                            refine TC.seq fun K_205 hK_206 => ?_
                            have hJ_215 : ∀ (x66 : List Int) (v67 : Value) (F68 : FP) (e_207 : Env) (h69 : SlO 3 (kInt .i64) x66 v67 F68) (h_208 : e_207 0 = v8) (h_209 : e_207 3 = .bool x5) (h_210 : e_207 4 = ptrV x6.1) (h_211 : e_207 5 = v12) (h_212 : e_207 6 = v67) (h_213 : e_207 7 = .int .i64 x19) (h_214 : e_207 12 = .int .i64 x48) (hp : fettlelaw11_DequeOnce.jn215 x11 x19 x48 x55 x66 x_45), ∀ w, St E H [rgF x55.2.2, F13, F68] w → K_205 e_207 w := by
                              intro x66 v67 F68 e_207 h69 h_208 h_209 h_210 h_211 h_212 h_213 h_214 hp
                              unfold fettlelaw11_DequeOnce.jn215 at hp
                              refine TC.go hK_206 ?_
                              refine TC.held ([rgF x55.2.2, F13, F68].flatten ++ H) mix (srcG 0 rfl (srcG 1 rfl (srcG 2 rfl srcG0))) ?_
                              refine HL.v 1 rfl trivial (by kernel_rfl) (by kernel_rfl) (by kernel_rfl) (ltb rfl) (rv_mv (v := v12) h_211) ?_
                              refine HL.v 2 rfl trivial (by kernel_rfl) (by kernel_rfl) (by kernel_rfl) (ltb rfl) (rv_mv (v := .int .i64 x48) h_214) ?_
                              obtain ⟨x1271, hz_216, hp⟩ := bO' hp
                              refine HL.w1 3 rfl trivial (by kernel_rfl) (by kernel_rfl) (by kernel_rfl) (ltb rfl) (rv_slTo 39 (.tmp 140) (.tmp 141) (v := v12) (m := x48) Try.underlying39 inf_47 rfl rfl rfl h14.ro hz_216) fun v1272 h1273 => ?_
                              refine HL.v 5 rfl trivial (by kernel_rfl) (by kernel_rfl) (by kernel_rfl) (ltb rfl) (rv_mv (v := v12) h_211) ?_
                              refine HL.v 6 rfl trivial (by kernel_rfl) (by kernel_rfl) (by kernel_rfl) (ltb rfl) (rv_mv (v := .int .i64 x48) h_214) ?_
                              refine HL.v 7 rfl trivial (by kernel_rfl) (by kernel_rfl) (by kernel_rfl) (ltb rfl) (rv_add (k := .i64) (m := x48) (n := 1) rfl rfl) ?_
                              obtain ⟨x3271, hz_217, hp⟩ := bO' hp
                              refine HL.w1 8 rfl trivial (by kernel_rfl) (by kernel_rfl) (by kernel_rfl) (ltb rfl) (rv_slFrom 39 (.tmp 144) (.tmp 146) (v := v12) (l := (w64 (x48 + 1))) Try.underlying39 inf_47 rfl rfl rfl h14.ro hz_217) fun v3272 h3273 => ?_
                              refine HL.one 0 rfl (by kernel_rfl) fun K_218 hK_219 => ?_
                              refine TL.bs0 Try.underlying39 inf_47 (ltb rfl) fun b71 => ?_
                              refine TL.nil (hK_219 _ _ (srcG 1 rfl (srcG 2 rfl (srcG 3 rfl srcG0))) ?_)
                              refine HL.one 4 rfl (by kernel_rfl) fun K_220 hK_221 => ?_
                              obtain ⟨x1671, hz_222, hp⟩ := bO' hp
                              refine TL.appI (u := v1272) fUnder Try.underlying39 inf_47 (ltb rfl) rfl (ltb rfl) rfl (leb rfl) rfl rfl (SlO.lit0 (k := kUnder) b71) h1273 (Src.at_ 2 rfl) hz_222 fun v1672 F1673 h1674 => ?_
                              refine TL.nil (hK_221 _ _ (srcG 1 rfl (srcG 2 rfl (srcG 3 rfl srcG0))) ?_)
                              refine HL.one 9 rfl (by kernel_rfl) fun K_223 hK_224 => ?_
                              obtain ⟨x3671, hz_225, hp⟩ := bO' hp
                              refine TL.appI (u := v3272) fUnder Try.underlying39 inf_47 (ltb rfl) rfl (ltb rfl) rfl (leb rfl) rfl rfl h1674 h3273 (Src.at_ 2 rfl) hz_225 fun v3672 F3673 h3674 => ?_
                              refine TL.nil (hK_224 _ _ (srcG 1 rfl (srcG 2 rfl (srcG 3 rfl srcG0))) ?_)
                              refine HL.v 10 rfl trivial (by kernel_rfl) (by kernel_rfl) (by kernel_rfl) (ltb rfl) (rv_as (v := v3672) rfl) ?_
                              refine HL.done (by kernel_rfl) ?_
                              refine fun w hw => hJ_90 x55.2.2 x3671 x66 v3672 F3673 v67 F68 _ h3674 h69 ?_ ?_ ?_ ?_ ?_ ?_ hp w (hw.pick [1, 0, 1])
                              · exact h_208
                              · exact h_209
                              · exact h_210
                              · exact rfl
                              · exact h_212
                              · exact h_213
                            refine TC.seq fun K_226 hK_227 => ?_
                            refine TC.region ?_
                            refine TL.v (ltb rfl) (rv_mv (v := .int .i64 x65.1) rfl) ?_
                            refine TL.v (ltb rfl) (rv_eql (k := .i64) (m := x65.1) (n := 1) rfl rfl) ?_
                            refine TL.v (ltb rfl) (rv_mv (v := .bool (decide (x65.1 = 1))) rfl) ?_
                            have hp := bD' hp
                            refine TL.cut 7 fun K_228 hK_229 => ?_
                            have hJ_230 : ∀ (t4471 : Bool), fettlelaw11_DequeOnce.jn259 x11 x15 x19 x48 x55 x65 t4471 x_45 → ∀ e_232 : Env, e_232 0 = v8 → e_232 3 = .bool x5 → e_232 4 = ptrV x6.1 → e_232 5 = v12 → e_232 6 = v16 → e_232 7 = .int .i64 x19 → e_232 12 = .int .i64 x48 → e_232 15 = .int .i64 x65.1 → e_232 16 = .int .i64 x65.2 → e_232 123 = .bool t4471 → ∀ w, St E H [rgF x55.2.2, F57, F13, F17, bx b36 41 [.int .i64 x37, .int .i64 x38, .int .i64 x39]] w → K_228 e_232 w := by
                              intro t4471 hp e_232 h_233 h_234 h_235 h_236 h_237 h_238 h_239 h_240 h_241 h_242
                              unfold fettlelaw11_DequeOnce.jn259 at hp
                              refine TL.go hK_229 ?_
                              refine TL.nil ?_
                              refine TC.go hK_227 ?_
                              by_cases hc_243 : t4471 = true
                              · rw [if_pos hc_243] at hp
                                refine TC.condT (h_242.trans (bbT hc_243)) ?_
                                refine TC.region ?_
                                refine TL.v (ltb rfl) (rv_mv (v := v16) h_237) ?_
                                refine TL.v (ltb rfl) (rv_mv (v := .int .i64 x65.2) h_241) ?_
                                refine TL.bv (vs := [(0, .int .i64 x65.2)]) (cs := [.int .i64 x65.2]) (pc rfl p0) Try.underlying22 inf_3 (ltb rfl) (by decide) (by decide) (by kernel_rfl) fun b4472 => ?_
                                refine TL.pk' [4, 0, 0, 0, 0, 0] (L' := [F17, bx b4472 3 [.int .i64 x65.2], rgF x55.2.2, F57, F13, bx b36 41 [.int .i64 x37, .int .i64 x38, .int .i64 x39]]) rfl ?_
                                refine TL.perm (L' := [F17, bx b4472 3 [.int .i64 x65.2], [], rgF x55.2.2, F57, F13, bx b36 41 [.int .i64 x37, .int .i64 x38, .int .i64 x39]]) (by simp) ?_
                                obtain ⟨x4473, hz_244, hp⟩ := bO' hp
                                refine TL.app Try.underlying22 inf_3 (ltb rfl) rfl (ltb rfl) rfl (leb rfl) rfl rfl h18 (RepL.to (RepL.cons (k := (kInt .i64)) (x := x65.2) ⟨rfl, rfl⟩ RepL.nil) rfl) rfl rfl hz_244 fun v4474 F4475 h4476 => ?_
                                refine TL.v (ltb rfl) (rv_as (v := v4474) rfl) ?_
                                refine TL.nil ?_
                                refine fun w hw => hJ_215 x4473 v4474 F4475 _ h4476 ?_ ?_ ?_ ?_ ?_ ?_ ?_ hp w (hw.pick [1, 2, 0])
                                · exact h_233
                                · exact h_234
                                · exact h_235
                                · exact h_236
                                · exact rfl
                                · exact h_238
                                · exact h_239
                              · rw [if_neg hc_243] at hp
                                refine TC.condF (h_242.trans (bbF hc_243)) ?_
                                refine TC.seq fun K_245 hK_246 => ?_
                                refine TC.region ?_
                                refine TL.v (ltb rfl) (rv_mv (v := .int .i64 x65.1) h_240) ?_
                                refine TL.v (ltb rfl) (rv_eql (k := .i64) (m := x65.1) (n := 1) rfl rfl) ?_
                                refine TL.nil ?_
                                refine TC.go hK_246 ?_
                                by_cases hc_247 : x65.1 = 1
                                · rw [if_pos hc_247] at hp
                                  refine TC.condT (bT hc_247) ?_
                                  refine TC.seq fun K_248 hK_249 => ?_
                                  refine TC.region ?_
                                  refine TL.v (ltb rfl) (rv_mv (v := v16) h_237) ?_
                                  refine TL.v (ltb rfl) (rv_mv (v := .int .i64 x65.2) h_241) ?_
                                  refine TL.pk' [3, 0, 0, 0, 0] (L' := [F17, rgF x55.2.2, F57, F13, bx b36 41 [.int .i64 x37, .int .i64 x38, .int .i64 x39]]) rfl ?_
                                  obtain ⟨x4477, hy_250, hp⟩ := bO' hp
                                  refine TL.callC (vs := [v16, .int .i64 x65.2]) (R := fettlelaw11_without.R x4477) [F17] [rgF x55.2.2, F57, F13, bx b36 41 [.int .i64 x37, .int .i64 x38, .int .i64 x39]] rfl cb_32 (ltb rfl) (mc rfl (mc rfl m0)) (fun w hw => fettlelaw11_without_ok (a1 := x15) (a5 := x65.2) h18 hy_250 hw) fun v A' hR_251 => ?_
                                  obtain ⟨v4478, F4479, rfl, rfl, h4480⟩ := hR_251
                                  refine TL.norm (L' := [F4479, rgF x55.2.2, F57, F13, bx b36 41 [.int .i64 x37, .int .i64 x38, .int .i64 x39]]) rfl ?_
                                  refine TL.v (ltb rfl) (rv_mv (v := .tuple #[v4478, .bool x4477.2]) rfl) ?_
                                  refine TL.v (ltb rfl) (rv_extract (vs := #[v4478, .bool x4477.2]) (v := v4478) rfl rfl) ?_
                                  refine TL.v (ltb rfl) (rv_extract (vs := #[v4478, .bool x4477.2]) (v := .bool x4477.2) rfl rfl) ?_
                                  refine TL.v (ltb rfl) (rv_as (v := v4478) rfl) ?_
                                  refine TL.v (ltb rfl) (rv_as (v := .bool x4477.2) rfl) ?_
                                  refine TL.nil ?_
                                  refine TC.go hK_249 ?_
                                  refine TC.seq fun K_252 hK_253 => ?_
                                  refine TC.seq fun K_254 hK_255 => ?_
                                  refine TC.region ?_
                                  refine TL.v (ltb rfl) (rv_mv (v := .bool x4477.2) rfl) ?_
                                  refine TL.v (ltb rfl) (rv_not (b := x4477.2) rfl) ?_
                                  refine TL.nil ?_
                                  refine TC.go hK_255 ?_
                                  by_cases hc_256 : (!x4477.2) = true
                                  · rw [if_pos hc_256] at hp
                                    refine TC.condT (bbT hc_256) ?_
                                    refine TC.seq fun K_257 hK_258 => ?_
                                    refine TC.region ?_
                                    refine TL.v (ltb rfl) (rv_as (v := .bool false) rfl) ?_
                                    refine TL.nil ?_
                                    refine TC.go hK_258 ?_
                                    refine TC.ret ?_
                                    have hp := hx_46 _ hp
                                    exact fun w hw => retOk ⟨false, hp, rfl, rfl⟩ (hw.pick [])
                                  · rw [if_neg hc_256] at hp
                                    refine TC.condF (bbF hc_256) ?_
                                    refine TC.skip ?_
                                    refine TC.go hK_253 ?_
                                    refine TC.region ?_
                                    refine TL.v (ltb rfl) (rv_mv (v := v4478) rfl) ?_
                                    refine TL.v (ltb rfl) (rv_as (v := v4478) rfl) ?_
                                    refine TL.nil ?_
                                    refine fun w hw => hJ_215 x4477.1 v4478 F4479 _ h4480 ?_ ?_ ?_ ?_ ?_ ?_ ?_ hp w (hw.pick [1, 2, 0])
                                    · exact h_233
                                    · exact h_234
                                    · exact h_235
                                    · exact h_236
                                    · exact rfl
                                    · exact h_238
                                    · exact h_239
                                · rw [if_neg hc_247] at hp
                                  refine TC.condF (bF hc_247) ?_
                                  refine TC.skip ?_
                                  refine fun w hw => hJ_215 x15 v16 F17 _ h18 ?_ ?_ ?_ ?_ ?_ ?_ ?_ hp w (hw.pick [0, 1, 1])
                                  · exact h_233
                                  · exact h_234
                                  · exact h_235
                                  · exact h_236
                                  · exact h_237
                                  · exact h_238
                                  · exact h_239
                            by_cases hc_231 : x65.1 = 1
                            · rw [if_pos hc_231] at hp
                              refine TL.gyes true (yieldE_of rfl (bT hc_231)) rfl ?_
                              refine TL.v (ltb rfl) (rv_mv (v := v12) h_139) ?_
                              refine TL.gyes true (yieldE_of rfl (bT hc_231)) rfl ?_
                              refine TL.v (ltb rfl) (rv_mv (v := .int .i64 x48) rfl) ?_
                              refine TL.gyes true (yieldE_of rfl (bT hc_231)) rfl ?_
                              obtain ⟨x4481, hx_261, hp⟩ := bO' hp
                              refine TL.v3 (ltb rfl) (rv_ix 39 (.tmp 117) (.tmp 118) (v := v12) (i := x48) Try.underlying39 inf_47 rfl rfl rfl (h14).ro hx_261) fun b4482 o4483 c4484 h4485 h4486 => ?_
                              obtain rfl := h4485
                              refine TL.gyes true (yieldE_of rfl (bT hc_231)) rfl ?_
                              refine TL.v (ltb rfl) (rv_fa (b := b4482) (o := o4483) fa_47_1 rfl) ?_
                              refine TL.gyes true (yieldE_of rfl (bT hc_231)) rfl ?_
                              refine TL.v (ltb rfl) (rv_ld (v := .int .i64 x4481.kind) (o := o4483 + 1) (o' := o4483) (j := 1) sc_3 rfl (Src.at_ 2 rfl) h4486 rfl rfl) ?_
                              refine TL.gyes true (yieldE_of rfl (bT hc_231)) rfl ?_
                              refine TL.v (ltb rfl) (rv_eql (k := .i64) (m := x4481.kind) (n := 0) rfl rfl) ?_
                              refine TL.v (ltb rfl) (rv_pickT true (bT hc_231) rfl (v := .bool (decide (x4481.kind = 0))) rfl) ?_
                              refine TL.nil (hJ_230 (decide (x4481.kind = 0)) hp _ ?_ ?_ ?_ ?_ ?_ ?_ ?_ ?_ ?_ ?_)
                              · exact h_136
                              · exact h_137
                              · exact h_138
                              · exact h_139
                              · exact h_140
                              · exact h_141
                              · exact rfl
                              · exact rfl
                              · exact rfl
                              · exact rfl
                            · rw [if_neg hc_231] at hp
                              refine TL.gno false rfl (fun d hd => by cases hd; exact ltb rfl) (yieldE_of rfl (bF hc_231)) rfl ?_
                              refine TL.gno false rfl (fun d hd => by cases hd; exact ltb rfl) (yieldE_of rfl (bF hc_231)) rfl ?_
                              refine TL.gno false rfl (fun d hd => by cases hd; exact ltb rfl) (yieldE_of rfl (bF hc_231)) rfl ?_
                              refine TL.gno false rfl (fun d hd => by cases hd; exact ltb rfl) (yieldE_of rfl (bF hc_231)) rfl ?_
                              refine TL.gno false rfl (fun d hd => by cases hd; exact ltb rfl) (yieldE_of rfl (bF hc_231)) rfl ?_
                              refine TL.gno false rfl (fun d hd => by cases hd; exact ltb rfl) (yieldE_of rfl (bF hc_231)) rfl ?_
                              refine TL.v (ltb rfl) (rv_pickF false (bF hc_231) rfl (v := .bool false) rfl) ?_
                              refine TL.nil (hJ_230 false hp _ ?_ ?_ ?_ ?_ ?_ ?_ ?_ ?_ ?_ ?_)
                              · exact h_136
                              · exact h_137
                              · exact h_138
                              · exact h_139
                              · exact h_140
                              · exact h_141
                              · exact rfl
                              · exact rfl
                              · exact rfl
                              · exact rfl
              by_cases hc_134 : x40 < 3 ∧ (len x11) < 6
              · refine TL.gyes true (yieldE_of rfl (bT hc_134)) rfl ?_
                refine TL.v (ltb rfl) (rv_mv (v := .int .i64 x40) h_128) ?_
                refine TL.gyes true (yieldE_of rfl (bT hc_134)) rfl ?_
                refine TL.v (ltb rfl) (rv_eql (k := .i64) (m := x40) (n := 2) rfl rfl) ?_
                refine TL.gyes true (yieldE_of rfl (bT hc_134)) rfl ?_
                refine TL.v (ltb rfl) (rv_mv (v := .bool (decide (x40 = 2))) rfl) ?_
                refine TL.cut 2 fun K_262 hK_263 => ?_
                have hJ_264 : ∀ e_266 : Env, e_266 0 = v8 → e_266 3 = .bool x5 → e_266 4 = ptrV x6.1 → e_266 5 = v12 → e_266 6 = v16 → e_266 7 = .int .i64 x19 → e_266 8 = .pointer (some ⟨b36, 0, none⟩) → e_266 9 = .int .i64 x40 → e_266 60 = .bool (decide (x40 < 3 ∧ (len x11) < 6)) → e_266 61 = .int .i64 x40 → e_266 62 = .bool (decide (x40 = 2)) → e_266 63 = .bool (decide (x40 = 2)) → e_266 65 = .bool (decide (x40 = 2 ∨ x41 = true)) → ∀ w, St E H [rgF R10, F13, F17, bx b36 41 [.int .i64 x37, .int .i64 x38, .int .i64 x39]] w → K_262 e_266 w := by
                  intro e_266 h_267 h_268 h_269 h_270 h_271 h_272 h_273 h_274 h_275 h_276 h_277 h_278 h_279
                  refine TL.go hK_263 ?_
                  refine TL.v (ltb rfl) (rv_pickT true (h_275.trans (bT hc_134)) rfl (v := .bool (decide (x40 = 2 ∨ x41 = true))) h_279) ?_
                  refine TL.nil (hJ_133 _ ?_ ?_ ?_ ?_ ?_ ?_ ?_ ?_ ?_)
                  · exact h_267
                  · exact h_268
                  · exact h_269
                  · exact h_270
                  · exact h_271
                  · exact h_272
                  · exact h_273
                  · exact h_274
                  · exact (bAt hc_134)
                by_cases hc_265 : x40 = 2
                · refine TL.gno true rfl (fun d hd => by cases hd; exact ltb rfl) (yieldE_of rfl (bT hc_265)) rfl ?_
                  refine TL.gyes true (yieldE_of rfl (bT hc_134)) rfl ?_
                  refine TL.v (ltb rfl) (rv_pickT true (bT hc_265) rfl (v := .bool true) rfl) ?_
                  refine TL.nil (hJ_264 _ ?_ ?_ ?_ ?_ ?_ ?_ ?_ ?_ ?_ ?_ ?_ ?_ ?_)
                  · exact h_121
                  · exact h_122
                  · exact h_123
                  · exact h_124
                  · exact h_125
                  · exact h_126
                  · exact h_127
                  · exact h_128
                  · exact rfl
                  · exact rfl
                  · exact rfl
                  · exact rfl
                  · exact (bOt hc_265)
                · refine TL.gyes false (yieldE_of rfl (bF hc_265)) rfl ?_
                  refine TL.v (ltb rfl) (rv_mv (v := .bool x41) h_129) ?_
                  refine TL.gyes true (yieldE_of rfl (bT hc_134)) rfl ?_
                  refine TL.v (ltb rfl) (rv_pickF false (bF hc_265) rfl (v := .bool x41) rfl) ?_
                  refine TL.nil (hJ_264 _ ?_ ?_ ?_ ?_ ?_ ?_ ?_ ?_ ?_ ?_ ?_ ?_ ?_)
                  · exact h_121
                  · exact h_122
                  · exact h_123
                  · exact h_124
                  · exact h_125
                  · exact h_126
                  · exact h_127
                  · exact h_128
                  · exact rfl
                  · exact rfl
                  · exact rfl
                  · exact rfl
                  · exact (bOf' hc_265)
              · refine TL.gno false rfl (fun d hd => by cases hd; exact ltb rfl) (yieldE_of rfl (bF hc_134)) rfl ?_
                refine TL.gno false rfl (fun d hd => by cases hd; exact ltb rfl) (yieldE_of rfl (bF hc_134)) rfl ?_
                refine TL.gno false rfl (fun d hd => by cases hd; exact ltb rfl) (yieldE_of rfl (bF hc_134)) rfl ?_
                refine TL.gnon rfl (fun d hd => by cases hd; exact ltb rfl) (yieldE_un rfl rfl) ?_
                refine TL.gno false rfl (fun d hd => by cases hd; exact ltb rfl) (yieldE_of rfl (bF hc_134)) rfl ?_
                refine TL.v (ltb rfl) (rv_pickF false (bF hc_134) rfl (v := .bool false) rfl) ?_
                refine TL.nil (hJ_133 _ ?_ ?_ ?_ ?_ ?_ ?_ ?_ ?_ ?_)
                · exact h_121
                · exact h_122
                · exact h_123
                · exact h_124
                · exact h_125
                · exact h_126
                · exact h_127
                · exact h_128
                · exact (bAf hc_134)
            by_cases hc_119 : x40 < 3
            · refine TL.gyes true (yieldE_of rfl (bT hc_119)) rfl ?_
              refine TL.v (ltb rfl) (rv_mv (v := v12) h_99) ?_
              refine TL.gyes true (yieldE_of rfl (bT hc_119)) rfl ?_
              refine TL.v (ltb rfl) (rv_lenI (v := v12) Try.underlying39 rfl h14.ro) ?_
              refine TL.gyes true (yieldE_of rfl (bT hc_119)) rfl ?_
              refine TL.v (ltb rfl) (rv_lss (k := .i64) (m := (len x11)) (n := 6) rfl rfl) ?_
              refine TL.v (ltb rfl) (rv_pickT true (bT hc_119) rfl (v := .bool (decide ((len x11) < 6))) rfl) ?_
              refine TL.nil (hJ_118 _ ?_ ?_ ?_ ?_ ?_ ?_ ?_ ?_ ?_ ?_)
              · exact h_96
              · exact h_97
              · exact h_98
              · exact h_99
              · exact h_100
              · exact h_101
              · exact h_102
              · exact rfl
              · exact rfl
              · exact (bAt hc_119)
            · refine TL.gno false rfl (fun d hd => by cases hd; exact ltb rfl) (yieldE_of rfl (bF hc_119)) rfl ?_
              refine TL.gno false rfl (fun d hd => by cases hd; exact ltb rfl) (yieldE_of rfl (bF hc_119)) rfl ?_
              refine TL.gno false rfl (fun d hd => by cases hd; exact ltb rfl) (yieldE_of rfl (bF hc_119)) rfl ?_
              refine TL.v (ltb rfl) (rv_pickF false (bF hc_119) rfl (v := .bool false) rfl) ?_
              refine TL.nil (hJ_118 _ ?_ ?_ ?_ ?_ ?_ ?_ ?_ ?_ ?_ ?_)
              · exact h_96
              · exact h_97
              · exact h_98
              · exact h_99
              · exact h_100
              · exact h_101
              · exact h_102
              · exact rfl
              · exact rfl
              · exact (bAf hc_119)
          refine TC.seq fun K_280 hK_281 => ?_
          refine TC.region ?_
          refine TL.v (ltb rfl) (rv_mv (v := .int .i64 x19) h_78) ?_
          refine TL.v (ltb rfl) (rv_mv (v := v8) h_73) ?_
          refine TL.v (ltb rfl) (rv_lenI (v := v8) Try.underlying36 rfl h9) ?_
          refine TL.v (ltb rfl) (rv_lss (k := .i64) (m := x19) (n := (len x7)) rfl rfl) ?_
          refine TL.nil ?_
          refine TC.go hK_281 ?_
          by_cases hc_282 : x19 < (len x7)
          · rw [if_pos hc_282] at hp
            refine TC.condT (bT hc_282) ?_
            refine TC.region ?_
            refine TL.v (ltb rfl) (rv_mv (v := v8) h_73) ?_
            refine TL.v (ltb rfl) (rv_mv (v := .int .i64 x19) h_78) ?_
            obtain ⟨x4487, hx_283, hp⟩ := bO' hp
            refine TL.v3 (ltb rfl) (rv_ix 36 (.tmp 44) (.tmp 45) (v := v8) (i := x19) Try.underlying36 inf_41 rfl rfl rfl h9 hx_283) fun b4488 o4489 c4490 h4491 h4492 => ?_
            obtain rfl := h4491
            refine TL.v (ltb rfl) (rv_lda (o := o4489) (o' := o4489) (j := 0) (ds := [.int .i64 x4487.what, .int .i64 x4487.v, .int .i64 x4487.n]) ag_41 rfl Src.H h4492 rfl rfl rfl) ?_
            refine TL.stB (ds := [.int .i64 x4487.what, .int .i64 x4487.v, .int .i64 x4487.n]) (o := 0) (cs := [.int .i64 9, .int .i64 0, .int .i64 0]) (b := b36) (u := .agg #[.int .i64 x4487.what, .int .i64 x4487.v, .int .i64 x4487.n]) 0 rfl ms_41 rfl rfl rfl (oc rfl (oc rfl (oc rfl oc0))) (leb rfl) ?_
            refine TL.norm (L' := [bx b36 41 [.int .i64 x4487.what, .int .i64 x4487.v, .int .i64 x4487.n], rgF R10, F13, F17]) rfl ?_
            refine TL.nil ?_
            refine fun w hw => hJ_103 x4487.what x4487.v x4487.n _ ?_ ?_ ?_ ?_ ?_ ?_ ?_ hp w (hw.pick [1, 1, 1, 0])
            · exact h_73
            · exact h_74
            · exact h_75
            · exact h_76
            · exact h_77
            · exact h_78
            · exact rfl
          · rw [if_neg hc_282] at hp
            refine TC.condF (bF hc_282) ?_
            refine TC.skip ?_
            refine fun w hw => hJ_103 9 0 0 _ ?_ ?_ ?_ ?_ ?_ ?_ ?_ hp w (hw.pick [1, 1, 1, 0])
            · exact h_73
            · exact h_74
            · exact h_75
            · exact h_76
            · exact h_77
            · exact h_78
            · exact rfl
        · rw [if_neg hc_80] at hp
          refine TC.condF (h_79.trans (bF hc_80)) ?_
          refine TC.exit ?_
          refine fun w hw => hJ_63 R10 x15 v16 F17 _ h18 ?_ ?_ ?_ (hx_46 _ hp) w (hw.pick [0, 1])
          · exact h_74
          · exact h_75
          · exact h_77
      by_cases hc_71 : x19 < (len x7)
      · refine TL.gno true rfl (fun d hd => by cases hd; exact ltb rfl) (yieldE_of rfl (bT hc_71)) rfl ?_
        refine TL.gno true rfl (fun d hd => by cases hd; exact ltb rfl) (yieldE_of rfl (bT hc_71)) rfl ?_
        refine TL.gno true rfl (fun d hd => by cases hd; exact ltb rfl) (yieldE_of rfl (bT hc_71)) rfl ?_
        refine TL.v (ltb rfl) (rv_pickT true (bT hc_71) rfl (v := .bool true) rfl) ?_
        refine TL.nil (hJ_70 _ ?_ ?_ ?_ ?_ ?_ ?_ ?_)
        · exact h_36
        · exact h_37
        · exact h_38
        · exact h_39
        · exact h_40
        · exact h_41
        · exact (bOt hc_71)
      · refine TL.gyes false (yieldE_of rfl (bF hc_71)) rfl ?_
        refine TL.v (ltb rfl) (rv_mv (v := v12) h_39) ?_
        refine TL.gyes false (yieldE_of rfl (bF hc_71)) rfl ?_
        refine TL.v (ltb rfl) (rv_lenI (v := v12) Try.underlying39 rfl h14.ro) ?_
        refine TL.gyes false (yieldE_of rfl (bF hc_71)) rfl ?_
        refine TL.v (ltb rfl) (rv_gtr (k := .i64) (m := (len x11)) (n := 0) rfl rfl) ?_
        refine TL.v (ltb rfl) (rv_pickF false (bF hc_71) rfl (v := .bool (decide ((len x11) > 0))) rfl) ?_
        refine TL.nil (hJ_70 _ ?_ ?_ ?_ ?_ ?_ ?_ ?_)
        · exact h_36
        · exact h_37
        · exact h_38
        · exact h_39
        · exact h_40
        · exact h_41
        · exact (bOf hc_71)
    refine TC.seq fun K_285 hK_286 => ?_
    refine TC.region ?_
    refine TL.v (ltb rfl) (rv_mv (v := v2) rfl) ?_
    refine TL.v (ltb rfl) (rv_lenI (v := v2) Try.underlying36 rfl h3) ?_
    refine TL.v (ltb rfl) (rv_gtr (k := .i64) (m := (len a1)) (n := 400) rfl rfl) ?_
    refine TL.nil ?_
    refine TC.go hK_286 ?_
    by_cases hc_287 : (len a1) > 400
    · rw [if_pos hc_287] at hp
      refine TC.condT (bT hc_287) ?_
      refine TC.region ?_
      refine TL.v (ltb rfl) (rv_mv (v := v2) rfl) ?_
      obtain ⟨x4495, hz_288, hp⟩ := bO' hp
      refine TL.v1 (ltb rfl) (rv_slTo 36 (.tmp 26) (.const (.int .i64 400)) (v := v2) (m := 400) Try.underlying36 inf_41 rfl rfl rfl h3 hz_288) fun v4496 h4497 => ?_
      refine TL.v (ltb rfl) (rv_as (v := v4496) rfl) ?_
      refine TL.nil ?_
      refine fun w hw => hJ_30 x4495 v4496 _ h4497 ?_ ?_ ?_ ?_ ?_ hp w (hw.pick [0])
      · exact rfl
      · exact rfl
      · exact rfl
      · exact rfl
      · exact rfl
    · rw [if_neg hc_287] at hp
      refine TC.condF (bF hc_287) ?_
      refine TC.skip ?_
      refine fun w hw => hJ_30 a1 v2 _ h3 ?_ ?_ ?_ ?_ ?_ hp w (hw.pick [0])
      · exact rfl
      · exact rfl
      · exact rfl
      · exact rfl
      · exact rfl
end Go.Proofs.Ytoflleabpkgdpaa
