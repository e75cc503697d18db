/- The walk through the program's functions: each one's pure reading, and that a call does what it says. No conditions. -/
import Derived.Test.YtoflleabpkgdpaaK2
set_option linter.unusedVariables false
set_option linter.unusedSimpArgs false
namespace Go.Proofs.Ytoflleabpkgdpaa
open Go Go.Proofs

/-! ### fettle/fettlelaw11.DequeRow -/
abbrev fettlelaw11_DequeRow.R (Q : Bool → Prop) (v : Value) (A : List FP) : Prop := ∃ r, Q r ∧ .bool r = v ∧ A = []
def fettlelaw11_DequeRow.jn103  (t24 : (Bool × Rgn)) : D Bool :=
  rD t24.1
def fettlelaw11_DequeRow.nx90 (x4 : Bool) (x5 : Option Nat × Rgn) (R14 : Rgn) (x20 : List Int) : D Bool :=
  bD (if x4 = true then bD (fettlelaw11_left x5.1 x20 R14) fun x25 =>
  rD (x25.1, x25.2) else rD (false, R14)) fun t24 =>
  fettlelaw11_DequeRow.jn103 t24
def fettlelaw11_DequeRow.bd90 (x10 : Int) (x15 : List Int) (x19 : Int) : D (Ex (List Int) (List Int × Int)) :=
  if x19 < x10 then
    bO (cat x15 [(w64 (100 + x19))]) fun x27 =>
    rD (.go (x27, (w64 (x19 + 1))))
  else
    rD (.ret x15)
def fettlelaw11_DequeRow.nx68 (x4 : Bool) (x5 : Option Nat × Rgn) (x10 : Int) (x11 : Int) (R14 : Rgn) : D Bool :=
  bD (whlD (fun (s : (List Int × Int)) => fettlelaw11_DequeRow.bd90 x10 s.1 s.2) FUEL (([] : List Int), x11)) fun z =>
  fettlelaw11_DequeRow.nx90 x4 x5 R14 z
def fettlelaw11_DequeRow.jn212 (x10 : Int) (x13 : Int) (x32 : Option Nat × Rgn) (t33 : (Bool × Rgn)) : D (Ex (Ex Bool Rgn) (Rgn × Int)) :=
  if t33.1 = true then
    rD (.ret (.ret false))
  else
    bO (deque_Op_Result x32.1 t33.2) fun x34 =>
    if (x13 < x10 ∧ ((¬ x34.1 = 1) ∨ (¬ x34.2 = (w64 (100 + x13))))) ∨ (x13 ≥ x10 ∧ (¬ x34.1 = 2)) then
      rD (.ret (.ret false))
    else
      rD (.go (t33.2, (w64 (x13 + 1))))
def fettlelaw11_DequeRow.bd68 (x5 : Option Nat × Rgn) (x10 : Int) (x11 : Int) (R12 : Rgn) (x13 : Int) : D (Ex (Ex Bool Rgn) (Rgn × Int)) :=
  if x13 < x11 then
    bD (deque_Deque_Steal x5.1 R12) fun x32 =>
    bD (if x32.1 = none then rD (true, x32.2) else bO (fettlelaw11_done x5.1 x32.1 x32.2) fun x35 =>
    rD ((!x35.1), x35.2)) fun t33 =>
    fettlelaw11_DequeRow.jn212 x10 x13 x32 t33
  else
    rD (.ret (.go R12))
def fettlelaw11_DequeRow.jn49 (a2 : Int) (x4 : Bool) (x5 : Option Nat × Rgn) (R9 : Rgn) (x10 : Int) : D Bool :=
  bO (fettlelaw11_pick a2 70) fun x11 =>
  bD (whlD (fun (s : (Rgn × Int)) => fettlelaw11_DequeRow.bd68 x5 x10 x11 s.1 s.2) FUEL (R9, 0)) fun z =>
  match z with
    | .ret r => rD r
    | .go p => fettlelaw11_DequeRow.nx68 x4 x5 x10 x11 p
def fettlelaw11_DequeRow.nx36 (a2 : Int) (x4 : Bool) (x5 : Option Nat × Rgn) (x6 : Int) (R9 : Rgn) : D Bool :=
  if x6 > 64 then
    fettlelaw11_DequeRow.jn49 a2 x4 x5 R9 64
  else
    fettlelaw11_DequeRow.jn49 a2 x4 x5 R9 x6
def fettlelaw11_DequeRow.jn310 (x8 : Int) (x36 : Option Nat × GErr × Rgn) (t40 : (Bool × Rgn)) : D (Ex (Ex Bool Rgn) (Rgn × Int)) :=
  if t40.1 = true then
    rD (.ret (.ret false))
  else
    bO (deque_Op_Result x36.1 t40.2) fun x41 =>
    if (x8 < 64 ∧ (¬ x41.1 = 1)) ∨ (x8 ≥ 64 ∧ (¬ x41.1 = 3)) then
      rD (.ret (.ret false))
    else
      rD (.go (t40.2, (w64 (x8 + 1))))
def fettlelaw11_DequeRow.bd36 (x5 : Option Nat × Rgn) (x6 : Int) (R7 : Rgn) (x8 : Int) : D (Ex (Ex Bool Rgn) (Rgn × Int)) :=
  if x8 < x6 then
    bD (deque_Deque_Push x5.1 (w64 (100 + x8)) R7) fun x36 =>
    bD (if x36.1 = none ∨ (¬ x36.2.1 = GErr.no) then rD (true, x36.2.2) else bO (fettlelaw11_done x5.1 x36.1 x36.2.2) fun x42 =>
    rD ((!x42.1), x42.2)) fun t40 =>
    fettlelaw11_DequeRow.jn310 x8 x36 t40
  else
    rD (.ret (.go R7))
def fettlelaw11_DequeRow (a1 : Int) (a2 : Int) : D Bool :=
  bD (fettlelaw11_up) fun x4 =>
  bD (deque_New Rgn.zero) fun x5 =>
  if x5.1 = none then
    rD false
  else
    bO (fettlelaw11_pick a1 70) fun x6 =>
    bD (whlD (fun (s : (Rgn × Int)) => fettlelaw11_DequeRow.bd36 x5 x6 s.1 s.2) FUEL (x5.2, 0)) fun z =>
    match z with
      | .ret r => rD r
      | .go p => fettlelaw11_DequeRow.nx36 a2 x4 x5 x6 p
set_option maxHeartbeats 4000000 in
theorem fettlelaw11_DequeRow_ok {E : World} {H : FP} {w : World} {a1 : Int} {a2 : Int} {Q : Bool → Prop}  (hp : fettlelaw11_DequeRow a1 a2 Q) (hst : St E H [] w) :
    Fn Try.prog 5 #[.int .i64 a1, .int .i64 a2] w fun v w' => ∃ A, fettlelaw11_DequeRow.R Q v A ∧ St E H A w' := by
  refine Fn.body (fn := Try.f5) (args := [.int .i64 a1, .int .i64 a2]) E H [] [.tmp 4] 130 Try.func5 rfl rfl rfl rfl (leb rfl) hst ?_
  refine TC.perm (L' := [rgF Rgn.zero]) (List.Perm.refl _) ?_
  unfold fettlelaw11_DequeRow at hp
  refine TC.seq fun K_1 hK_2 => ?_
  refine TC.region ?_
  refine TL.v (ltb rfl) (rv_as (v := .bool false) rfl) ?_
  refine TL.nil ?_
  refine TC.go hK_2 ?_
  refine TC.seq fun K_3 hK_4 => ?_
  refine TC.region ?_
  have hp := bD' hp
  refine TL.callC (vs := []) (R := fettlelaw11_up.R _) [] [rgF Rgn.zero] rfl cb_25 (ltb rfl) m0 (fun w hw => fettlelaw11_up_ok hp hw) fun v A' hR_6 => ?_
  obtain ⟨x4, hp, rfl, rfl⟩ := hR_6
  refine TL.norm (L' := [rgF Rgn.zero]) rfl ?_
  refine TL.v (ltb rfl) (rv_as (v := .bool x4) rfl) ?_
  refine TL.nil ?_
  refine TC.go hK_4 ?_
  refine TC.seq fun K_7 hK_8 => ?_
  refine TC.region ?_
  have hp := bD' hp
  refine TL.callC (vs := []) (R := deque_New.R _) [rgF Rgn.zero] [] rfl cb_26 (ltb rfl) m0 (fun w hw => deque_New_ok (R2 := Rgn.zero) hp hw) fun v A' hR_10 => ?_
  obtain ⟨x5, hp, rfl, rfl⟩ := hR_10
  refine TL.norm (L' := [rgF x5.2]) rfl ?_
  refine TL.v (ltb rfl) (rv_as (v := ptrV x5.1) rfl) ?_
  refine TL.nil ?_
  refine TC.go hK_8 ?_
  refine TC.seq fun K_11 hK_12 => ?_
  refine TC.seq fun K_13 hK_14 => ?_
  refine TC.region ?_
  refine TL.v (ltb rfl) (rv_mv (v := ptrV x5.1) rfl) ?_
  refine TL.v (ltb rfl) (rv_eqlPN (p := x5.1) pn_37 rfl rfl) ?_
  refine TL.nil ?_
  refine TC.go hK_14 ?_
  by_cases hc_15 : x5.1 = none
  · rw [if_pos hc_15] at hp
    refine TC.condT (bT hc_15) ?_
    refine TC.seq fun K_16 hK_17 => ?_
    refine TC.region ?_
    refine TL.v (ltb rfl) (rv_as (v := .bool false) rfl) ?_
    refine TL.nil ?_
    refine TC.go hK_17 ?_
    refine TC.ret ?_
    exact fun w hw => retOk ⟨false, hp, rfl, rfl⟩ (hw.pick [])
  · rw [if_neg hc_15] at hp
    refine TC.condF (bF hc_15) ?_
    refine TC.skip ?_
    refine TC.go hK_12 ?_
    refine TC.seq fun K_18 hK_19 => ?_
    refine TC.region ?_
    refine TL.v (ltb rfl) (rv_mv (v := .int .i64 a1) rfl) ?_
    obtain ⟨x6, hy_20, hp⟩ := bO' hp
    refine TL.callC (vs := [.int .i64 a1, .int .i64 70]) (R := fettlelaw11_pick.R x6) [] [rgF x5.2] rfl cb_27 (ltb rfl) (mc rfl (mc rfl m0)) (fun w hw => fettlelaw11_pick_ok (a1 := a1) (a2 := 70) hy_20 hw) fun v A' hR_21 => ?_
    obtain ⟨rfl, rfl⟩ := hR_21
    refine TL.norm (L' := [rgF x5.2]) rfl ?_
    refine TL.v (ltb rfl) (rv_as (v := .int .i64 x6) rfl) ?_
    refine TL.nil ?_
    refine TC.go hK_19 ?_
    refine TC.seq fun K_22 hK_23 => ?_
    refine TC.seq fun K_24 hK_25 => ?_
    refine TC.region ?_
    refine TL.v (ltb rfl) (rv_as (v := .int .i64 0) rfl) ?_
    refine TL.nil ?_
    refine TC.go hK_25 ?_
    refine TC.block ?_
    have hJ_220 : ∀ (R9 : Rgn) (e_37 : Env) (h_38 : e_37 0 = .int .i64 x6) (h_39 : e_37 1 = .int .i64 a2) (h_40 : e_37 5 = .bool x4) (h_41 : e_37 6 = ptrV x5.1) (hp : fettlelaw11_DequeRow.nx36 a2 x4 x5 x6 R9 Q), ∀ w, St E H [rgF R9] w → K_22 e_37 w := by
      intro R9 e_37 h_38 h_39 h_40 h_41 hp
      unfold fettlelaw11_DequeRow.nx36 at hp
      refine TC.go hK_23 ?_
      refine TC.seq fun K_42 hK_43 => ?_
      have hJ_49 : ∀ (x10 : Int) (e_44 : Env) (h_45 : e_44 0 = .int .i64 x10) (h_46 : e_44 1 = .int .i64 a2) (h_47 : e_44 5 = .bool x4) (h_48 : e_44 6 = ptrV x5.1) (hp : fettlelaw11_DequeRow.jn49 a2 x4 x5 R9 x10 Q), ∀ w, St E H [rgF R9] w → K_42 e_44 w := by
        intro x10 e_44 h_45 h_46 h_47 h_48 hp
        unfold fettlelaw11_DequeRow.jn49 at hp
        refine TC.go hK_43 ?_
        refine TC.seq fun K_50 hK_51 => ?_
        refine TC.region ?_
        refine TL.v (ltb rfl) (rv_mv (v := .int .i64 a2) h_46) ?_
        obtain ⟨x11, hy_52, hp⟩ := bO' hp
        refine TL.callC (vs := [.int .i64 a2, .int .i64 70]) (R := fettlelaw11_pick.R x11) [] [rgF R9] rfl cb_27 (ltb rfl) (mc rfl (mc rfl m0)) (fun w hw => fettlelaw11_pick_ok (a1 := a2) (a2 := 70) hy_52 hw) fun v A' hR_53 => ?_
        obtain ⟨rfl, rfl⟩ := hR_53
        refine TL.norm (L' := [rgF R9]) rfl ?_
        refine TL.v (ltb rfl) (rv_as (v := .int .i64 x11) rfl) ?_
        refine TL.nil ?_
        refine TC.go hK_51 ?_
        refine TC.seq fun K_54 hK_55 => ?_
        refine TC.seq fun K_56 hK_57 => ?_
        refine TC.region ?_
        refine TL.v (ltb rfl) (rv_as (v := .int .i64 0) rfl) ?_
        refine TL.nil ?_
        refine TC.go hK_57 ?_
        refine TC.block ?_
        have hJ_117 : ∀ (R14 : Rgn) (e_69 : Env) (h_70 : e_69 0 = .int .i64 x10) (h_71 : e_69 1 = .int .i64 x11) (h_72 : e_69 5 = .bool x4) (h_73 : e_69 6 = ptrV x5.1) (hp : fettlelaw11_DequeRow.nx68 x4 x5 x10 x11 R14 Q), ∀ w, St E H [rgF R14] w → K_54 e_69 w := by
          intro R14 e_69 h_70 h_71 h_72 h_73 hp
          unfold fettlelaw11_DequeRow.nx68 at hp
          refine TC.go hK_55 ?_
          refine TC.seq fun K_74 hK_75 => ?_
          refine TC.region ?_
          refine TL.v (ltb rfl) (rv_as (v := .slice none 0 0) rfl) ?_
          refine TL.nil ?_
          refine TC.go hK_75 ?_
          refine TC.seq fun K_76 hK_77 => ?_
          refine TC.seq fun K_78 hK_79 => ?_
          refine TC.region ?_
          refine TL.v (ltb rfl) (rv_mv (v := .int .i64 x11) h_71) ?_
          refine TL.v (ltb rfl) (rv_as (v := .int .i64 x11) rfl) ?_
          refine TL.nil ?_
          refine TC.go hK_79 ?_
          refine TC.block ?_
          have hJ_107 : ∀ (x20 : List Int) (v21 : Value) (F22 : FP) (e_91 : Env) (h23 : SlO 3 (kInt .i64) x20 v21 F22) (h_92 : e_91 5 = .bool x4) (h_93 : e_91 6 = ptrV x5.1) (h_94 : e_91 16 = v21) (hp : fettlelaw11_DequeRow.nx90 x4 x5 R14 x20 Q), ∀ w, St E H [rgF R14, F22] w → K_76 e_91 w := by
            intro x20 v21 F22 e_91 h23 h_92 h_93 h_94 hp
            unfold fettlelaw11_DequeRow.nx90 at hp
            refine TC.go hK_77 ?_
            refine TC.seq fun K_95 hK_96 => ?_
            refine TC.region ?_
            refine TL.v (ltb rfl) (rv_mv (v := .bool x4) h_92) ?_
            refine TL.v (ltb rfl) (rv_mv (v := .bool x4) rfl) ?_
            have hp := bD' hp
            refine TL.cut 4 fun K_97 hK_98 => ?_
            have hJ_99 : ∀ (t24 : (Bool × Rgn)), fettlelaw11_DequeRow.jn103 t24 Q → ∀ e_101 : Env, e_101 129 = .bool t24.1 → ∀ w, St E H [rgF t24.2, F22] w → K_97 e_101 w := by
              intro t24 hp e_101 h_102
              unfold fettlelaw11_DequeRow.jn103 at hp
              refine TL.go hK_98 ?_
              refine TL.v (ltb rfl) (rv_as (v := .bool t24.1) h_102) ?_
              refine TL.nil ?_
              refine TC.go hK_96 ?_
              refine TC.ret ?_
              exact fun w hw => retOk ⟨t24.1, hp, rfl, rfl⟩ (hw.pick [])
            by_cases hc_100 : x4 = true
            · rw [if_pos hc_100] at hp
              refine TL.gyes true (yieldE_of rfl (bbT hc_100)) rfl ?_
              refine TL.v (ltb rfl) (rv_mv (v := ptrV x5.1) h_93) ?_
              refine TL.gyes true (yieldE_of rfl (bbT hc_100)) rfl ?_
              refine TL.v (ltb rfl) (rv_mv (v := v21) h_94) ?_
              refine TL.gyes true (yieldE_of rfl (bbT hc_100)) rfl ?_
              have hp := bD' hp
              refine TL.callC (vs := [ptrV x5.1, v21]) (R := fettlelaw11_left.R _) [rgF R14] [F22] rfl cb_33 (ltb rfl) (mc rfl (mc rfl m0)) (fun w hw => fettlelaw11_left_ok (a1 := x5.1) (a2 := x20) (R6 := R14) (h23.ro.mono (subB 0 rfl)) hp hw) fun v A' hR_106 => ?_
              obtain ⟨x25, hp, rfl, rfl⟩ := hR_106
              refine TL.norm (L' := [rgF x25.2, F22]) rfl ?_
              refine TL.v (ltb rfl) (rv_pickT true (bbT hc_100) rfl (v := .bool x25.1) rfl) ?_
              refine TL.nil (hJ_99 (x25.1, x25.2) hp _ ?_)
              · exact rfl
            · rw [if_neg hc_100] at hp
              refine TL.gno false rfl (fun d hd => by cases hd; exact ltb rfl) (yieldE_of rfl (bbF hc_100)) rfl ?_
              refine TL.gno false rfl (fun d hd => by cases hd; exact ltb rfl) (yieldE_of rfl (bbF hc_100)) rfl ?_
              refine TL.gno false rfl (fun d hd => by cases hd; exact ltb rfl) (yieldE_of rfl (bbF hc_100)) rfl ?_
              refine TL.v (ltb rfl) (rv_pickF false (bbF hc_100) rfl (v := .bool false) rfl) ?_
              refine TL.nil (hJ_99 (false, R14) hp _ ?_)
              · exact rfl
          have hp := bD' hp
          refine W.new0 ?_
          refine TC.pk' [1, 0] (L' := [rgF R14, ([] : FP)]) rfl ?_
          refine TC.loopD (fun (s : (List Int × Int)) (e_80 : Env) (L_116 : List FP) => ∃ (x15 : List Int) (x19 : Int) (v16 : Value) (F17 : FP), s = (x15, x19) ∧ SlO 3 (kInt .i64) x15 v16 F17 ∧ e_80 0 = .int .i64 x10 ∧ e_80 5 = .bool x4 ∧ e_80 6 = ptrV x5.1 ∧ e_80 16 = v16 ∧ e_80 17 = .int .i64 x19 ∧ L_116 = [rgF R14, F17]) ?_ FUEL _ _ _ hp ⟨([] : List Int), x11, (.slice none 0 0), ([] : FP), rfl, (SlO.nil 3), h_70, h_72, h_73, rfl, rfl, rfl⟩
          rintro s e_80 L_116 ⟨x15, x19, v16, F17, rfl, h18, h_81, h_82, h_83, h_84, h_85, rfl⟩ x_89 hp hx_90
          replace hp : fettlelaw11_DequeRow.bd90 x10 x15 x19 x_89 := hp
          unfold fettlelaw11_DequeRow.bd90 at hp
          refine TC.seq fun K_108 hK_109 => ?_
          refine TC.seq fun K_110 hK_111 => ?_
          refine TC.region ?_
          refine TL.v (ltb rfl) (rv_mv (v := .int .i64 x19) h_85) ?_
          refine TL.v (ltb rfl) (rv_mv (v := .int .i64 x10) h_81) ?_
          refine TL.v (ltb rfl) (rv_lss (k := .i64) (m := x19) (n := x10) rfl rfl) ?_
          refine TL.nil ?_
          refine TC.go hK_111 ?_
          by_cases hc_112 : x19 < x10
          · rw [if_pos hc_112] at hp
            refine TC.condT (bT hc_112) ?_
            refine TC.skip ?_
            refine TC.go hK_109 ?_
            refine TC.seq fun K_113 hK_114 => ?_
            refine TC.block ?_
            refine TC.region ?_
            refine TL.v (ltb rfl) (rv_mv (v := v16) h_84) ?_
            refine TL.v (ltb rfl) (rv_mv (v := .int .i64 x19) h_85) ?_
            refine TL.v (ltb rfl) (rv_add (k := .i64) (m := 100) (n := x19) rfl rfl) ?_
            refine TL.bv (vs := [(0, .int .i64 (w64 (100 + x19)))]) (cs := [.int .i64 (w64 (100 + x19))]) (pc rfl p0) Try.underlying22 inf_3 (ltb rfl) (by decide) (by decide) (by kernel_rfl) fun b26 => ?_
            refine TL.pk' [2, 0, 0] (L' := [F17, bx b26 3 [.int .i64 (w64 (100 + x19))], rgF R14]) rfl ?_
            refine TL.perm (L' := [F17, bx b26 3 [.int .i64 (w64 (100 + x19))], [], rgF R14]) (by simp) ?_
            obtain ⟨x27, hz_115, hp⟩ := bO' hp
            refine TL.app Try.underlying22 inf_3 (ltb rfl) rfl (ltb rfl) rfl (leb rfl) rfl rfl h18 (RepL.to (RepL.cons (k := (kInt .i64)) (x := (w64 (100 + x19))) ⟨rfl, rfl⟩ RepL.nil) rfl) rfl rfl hz_115 fun v28 F29 h30 => ?_
            refine TL.v (ltb rfl) (rv_as (v := v28) rfl) ?_
            refine TL.nil ?_
            refine TC.go hK_114 ?_
            refine TC.region ?_
            refine TL.v (ltb rfl) (rv_mv (v := .int .i64 x19) h_85) ?_
            refine TL.v (ltb rfl) (rv_add (k := .i64) (m := x19) (n := 1) rfl rfl) ?_
            refine TL.v (ltb rfl) (rv_as (v := .int .i64 (w64 (x19 + 1))) rfl) ?_
            refine TL.nil ?_
            exact fun w hw => goOkD hp ⟨x27, (w64 (x19 + 1)), v28, F29, rfl, h30, h_81, h_82, h_83, rfl, rfl, rfl⟩ (hw.pick [1, 0])
          · rw [if_neg hc_112] at hp
            refine TC.condF (bF hc_112) ?_
            refine TC.exit ?_
            refine fun w hw => hJ_107 x15 v16 F17 _ h18 ?_ ?_ ?_ (hx_90 _ hp) w (hw.pick [0, 0])
            · exact h_82
            · exact h_83
            · exact h_84
        have hp := bD' hp
        refine TC.pk' [0] (L' := [rgF R9]) rfl ?_
        refine TC.loopD (fun (s : (Rgn × Int)) (e_58 : Env) (L_216 : List FP) => ∃ (R12 : Rgn) (x13 : Int), s = (R12, x13) ∧ e_58 0 = .int .i64 x10 ∧ e_58 1 = .int .i64 x11 ∧ e_58 5 = .bool x4 ∧ e_58 6 = ptrV x5.1 ∧ e_58 12 = .int .i64 x13 ∧ L_216 = [rgF R12]) ?_ FUEL _ _ _ hp ⟨R9, 0, rfl, h_45, rfl, h_47, h_48, rfl, rfl⟩
        rintro s e_58 L_216 ⟨R12, x13, rfl, h_59, h_60, h_61, h_62, h_63, rfl⟩ x_67 hp hx_68
        replace hp : fettlelaw11_DequeRow.bd68 x5 x10 x11 R12 x13 x_67 := hp
        unfold fettlelaw11_DequeRow.bd68 at hp
        refine TC.seq fun K_118 hK_119 => ?_
        refine TC.seq fun K_120 hK_121 => ?_
        refine TC.region ?_
        refine TL.v (ltb rfl) (rv_mv (v := .int .i64 x13) h_63) ?_
        refine TL.v (ltb rfl) (rv_mv (v := .int .i64 x11) h_60) ?_
        refine TL.v (ltb rfl) (rv_lss (k := .i64) (m := x13) (n := x11) rfl rfl) ?_
        refine TL.nil ?_
        refine TC.go hK_121 ?_
        by_cases hc_122 : x13 < x11
        · rw [if_pos hc_122] at hp
          refine TC.condT (bT hc_122) ?_
          refine TC.skip ?_
          refine TC.go hK_119 ?_
          refine TC.seq fun K_123 hK_124 => ?_
          refine TC.block ?_
          refine TC.seq fun K_125 hK_126 => ?_
          refine TC.region ?_
          refine TL.v (ltb rfl) (rv_mv (v := ptrV x5.1) h_62) ?_
          have hp := bD' hp
          refine TL.callC (vs := [ptrV x5.1]) (R := deque_Deque_Steal.R _) [rgF R12] [] rfl cb_36 (ltb rfl) (mc rfl m0) (fun w hw => deque_Deque_Steal_ok (a1 := x5.1) (R3 := R12) hp hw) fun v A' hR_128 => ?_
          obtain ⟨x32, hp, rfl, rfl⟩ := hR_128
          refine TL.norm (L' := [rgF x32.2]) rfl ?_
          refine TL.v (ltb rfl) (rv_as (v := ptrV x32.1) rfl) ?_
          refine TL.nil ?_
          refine TC.go hK_126 ?_
          refine TC.seq fun K_129 hK_130 => ?_
          refine TC.seq fun K_131 hK_132 => ?_
          refine TC.region ?_
          refine TL.v (ltb rfl) (rv_mv (v := ptrV x32.1) rfl) ?_
          refine TL.v (ltb rfl) (rv_eqlPN (p := x32.1) pn_44 rfl rfl) ?_
          refine TL.v (ltb rfl) (rv_mv (v := .bool (decide (x32.1 = none))) rfl) ?_
          have hp := bD' hp
          refine TL.cut 5 fun K_133 hK_134 => ?_
          have hJ_135 : ∀ (t33 : (Bool × Rgn)), fettlelaw11_DequeRow.jn212 x10 x13 x32 t33 x_67 → ∀ e_137 : Env, e_137 0 = .int .i64 x10 → e_137 1 = .int .i64 x11 → e_137 5 = .bool x4 → e_137 6 = ptrV x5.1 → e_137 12 = .int .i64 x13 → e_137 13 = ptrV x32.1 → e_137 85 = .bool t33.1 → ∀ w, St E H [rgF t33.2] w → K_133 e_137 w := by
            intro t33 hp e_137 h_138 h_139 h_140 h_141 h_142 h_143 h_144
            unfold fettlelaw11_DequeRow.jn212 at hp
            refine TL.go hK_134 ?_
            refine TL.nil ?_
            refine TC.go hK_132 ?_
            by_cases hc_145 : t33.1 = true
            · rw [if_pos hc_145] at hp
              refine TC.condT (h_144.trans (bbT hc_145)) ?_
              refine TC.seq fun K_146 hK_147 => ?_
              refine TC.region ?_
              refine TL.v (ltb rfl) (rv_as (v := .bool false) rfl) ?_
              refine TL.nil ?_
              refine TC.go hK_147 ?_
              refine TC.ret ?_
              have hp := hx_68 _ hp
              exact fun w hw => retOk ⟨false, hp, rfl, rfl⟩ (hw.pick [])
            · rw [if_neg hc_145] at hp
              refine TC.condF (h_144.trans (bbF hc_145)) ?_
              refine TC.skip ?_
              refine TC.go hK_130 ?_
              refine TC.seq fun K_148 hK_149 => ?_
              refine TC.region ?_
              refine TL.v (ltb rfl) (rv_mv (v := ptrV x32.1) h_143) ?_
              obtain ⟨x34, hy_150, hp⟩ := bO' hp
              refine TL.callC (vs := [ptrV x32.1]) (R := deque_Op_Result.R t33.2 x34) [rgF t33.2] [] rfl cb_31 (ltb rfl) (mc rfl m0) (fun w hw => deque_Op_Result_ok (a1 := x32.1) (R3 := t33.2) hy_150 hw) fun v A' hR_151 => ?_
              obtain ⟨rfl, rfl⟩ := hR_151
              refine TL.norm (L' := [rgF t33.2]) rfl ?_
              refine TL.v (ltb rfl) (rv_mv (v := .tuple #[.int .i64 x34.1, .int .i64 x34.2]) rfl) ?_
              refine TL.v (ltb rfl) (rv_extract (vs := #[.int .i64 x34.1, .int .i64 x34.2]) (v := .int .i64 x34.1) rfl rfl) ?_
              refine TL.v (ltb rfl) (rv_extract (vs := #[.int .i64 x34.1, .int .i64 x34.2]) (v := .int .i64 x34.2) rfl rfl) ?_
              refine TL.v (ltb rfl) (rv_as (v := .int .i64 x34.1) rfl) ?_
              refine TL.v (ltb rfl) (rv_as (v := .int .i64 x34.2) rfl) ?_
              refine TL.nil ?_
              refine TC.go hK_149 ?_
              refine TC.seq fun K_152 hK_153 => ?_
              refine TC.region ?_
              refine TL.v (ltb rfl) (rv_mv (v := .int .i64 x13) h_142) ?_
              refine TL.v (ltb rfl) (rv_mv (v := .int .i64 x10) h_138) ?_
              refine TL.v (ltb rfl) (rv_lss (k := .i64) (m := x13) (n := x10) rfl rfl) ?_
              refine TL.v (ltb rfl) (rv_mv (v := .bool (decide (x13 < x10))) rfl) ?_
              refine TL.cut 9 fun K_154 hK_155 => ?_
              have hJ_156 : ∀ e_158 : Env, e_158 0 = .int .i64 x10 → e_158 1 = .int .i64 x11 → e_158 5 = .bool x4 → e_158 6 = ptrV x5.1 → e_158 12 = .int .i64 x13 → e_158 14 = .int .i64 x34.1 → e_158 103 = .bool (decide (x13 < x10 ∧ ((¬ x34.1 = 1) ∨ (¬ x34.2 = (w64 (100 + x13)))))) → ∀ w, St E H [rgF t33.2] w → K_154 e_158 w := by
                intro e_158 h_159 h_160 h_161 h_162 h_163 h_164 h_165
                refine TL.go hK_155 ?_
                refine TL.v (ltb rfl) (rv_mv (v := .bool (decide (x13 < x10 ∧ ((¬ x34.1 = 1) ∨ (¬ x34.2 = (w64 (100 + x13))))))) h_165) ?_
                refine TL.cut 8 fun K_166 hK_167 => ?_
                have hJ_168 : ∀ e_170 : Env, e_170 0 = .int .i64 x10 → e_170 1 = .int .i64 x11 → e_170 5 = .bool x4 → e_170 6 = ptrV x5.1 → e_170 12 = .int .i64 x13 → e_170 112 = .bool (decide ((x13 < x10 ∧ ((¬ x34.1 = 1) ∨ (¬ x34.2 = (w64 (100 + x13))))) ∨ (x13 ≥ x10 ∧ (¬ x34.1 = 2)))) → ∀ w, St E H [rgF t33.2] w → K_166 e_170 w := by
                  intro e_170 h_171 h_172 h_173 h_174 h_175 h_176
                  refine TL.go hK_167 ?_
                  refine TL.nil ?_
                  refine TC.go hK_153 ?_
                  by_cases hc_177 : (x13 < x10 ∧ ((¬ x34.1 = 1) ∨ (¬ x34.2 = (w64 (100 + x13))))) ∨ (x13 ≥ x10 ∧ (¬ x34.1 = 2))
                  · rw [if_pos hc_177] at hp
                    refine TC.condT (h_176.trans (bT hc_177)) ?_
                    refine TC.seq fun K_178 hK_179 => ?_
                    refine TC.region ?_
                    refine TL.v (ltb rfl) (rv_as (v := .bool false) rfl) ?_
                    refine TL.nil ?_
                    refine TC.go hK_179 ?_
                    refine TC.ret ?_
                    have hp := hx_68 _ hp
                    exact fun w hw => retOk ⟨false, hp, rfl, rfl⟩ (hw.pick [])
                  · rw [if_neg hc_177] at hp
                    refine TC.condF (h_176.trans (bF hc_177)) ?_
                    refine TC.skip ?_
                    refine TC.go hK_124 ?_
                    refine TC.region ?_
                    refine TL.v (ltb rfl) (rv_mv (v := .int .i64 x13) h_175) ?_
                    refine TL.v (ltb rfl) (rv_add (k := .i64) (m := x13) (n := 1) rfl rfl) ?_
                    refine TL.v (ltb rfl) (rv_as (v := .int .i64 (w64 (x13 + 1))) rfl) ?_
                    refine TL.nil ?_
                    exact fun w hw => goOkD hp ⟨t33.2, (w64 (x13 + 1)), rfl, h_171, h_172, h_173, h_174, rfl, rfl⟩ (hw.pick [0])
                by_cases hc_169 : x13 < x10 ∧ ((¬ x34.1 = 1) ∨ (¬ x34.2 = (w64 (100 + x13))))
                · refine TL.gno true rfl (fun d hd => by cases hd; exact ltb rfl) (yieldE_of rfl (bT hc_169)) rfl ?_
                  refine TL.gno true rfl (fun d hd => by cases hd; exact ltb rfl) (yieldE_of rfl (bT hc_169)) rfl ?_
                  refine TL.gno true rfl (fun d hd => by cases hd; exact ltb rfl) (yieldE_of rfl (bT hc_169)) rfl ?_
                  refine TL.gno true rfl (fun d hd => by cases hd; exact ltb rfl) (yieldE_of rfl (bT hc_169)) rfl ?_
                  refine TL.gnon rfl (fun d hd => by cases hd; exact ltb rfl) (yieldE_un rfl rfl) ?_
                  refine TL.gnon rfl (fun d hd => by cases hd; exact ltb rfl) (yieldE_un rfl rfl) ?_
                  refine TL.gno true rfl (fun d hd => by cases hd; exact ltb rfl) (yieldE_of rfl (bT hc_169)) rfl ?_
                  refine TL.v (ltb rfl) (rv_pickT true (bT hc_169) rfl (v := .bool true) rfl) ?_
                  refine TL.nil (hJ_168 _ ?_ ?_ ?_ ?_ ?_ ?_)
                  · exact h_159
                  · exact h_160
                  · exact h_161
                  · exact h_162
                  · exact h_163
                  · exact (bOt hc_169)
                · refine TL.gyes false (yieldE_of rfl (bF hc_169)) rfl ?_
                  refine TL.v (ltb rfl) (rv_mv (v := .int .i64 x13) h_163) ?_
                  refine TL.gyes false (yieldE_of rfl (bF hc_169)) rfl ?_
                  refine TL.v (ltb rfl) (rv_mv (v := .int .i64 x10) h_159) ?_
                  refine TL.gyes false (yieldE_of rfl (bF hc_169)) rfl ?_
                  refine TL.v (ltb rfl) (rv_geq (k := .i64) (m := x13) (n := x10) rfl rfl) ?_
                  refine TL.gyes false (yieldE_of rfl (bF hc_169)) rfl ?_
                  refine TL.v (ltb rfl) (rv_mv (v := .bool (decide (x13 ≥ x10))) rfl) ?_
                  refine TL.cut 3 fun K_180 hK_181 => ?_
                  have hJ_182 : ∀ e_184 : Env, e_184 0 = .int .i64 x10 → e_184 1 = .int .i64 x11 → e_184 5 = .bool x4 → e_184 6 = ptrV x5.1 → e_184 12 = .int .i64 x13 → e_184 104 = .bool (decide (x13 < x10 ∧ ((¬ x34.1 = 1) ∨ (¬ x34.2 = (w64 (100 + x13)))))) → e_184 105 = .int .i64 x13 → e_184 106 = .int .i64 x10 → e_184 107 = .bool (decide (x13 ≥ x10)) → e_184 108 = .bool (decide (x13 ≥ x10)) → e_184 111 = .bool (decide (x13 ≥ x10 ∧ (¬ x34.1 = 2))) → ∀ w, St E H [rgF t33.2] w → K_180 e_184 w := by
                    intro e_184 h_185 h_186 h_187 h_188 h_189 h_190 h_191 h_192 h_193 h_194 h_195
                    refine TL.go hK_181 ?_
                    refine TL.v (ltb rfl) (rv_pickF false (h_190.trans (bF hc_169)) rfl (v := .bool (decide (x13 ≥ x10 ∧ (¬ x34.1 = 2)))) h_195) ?_
                    refine TL.nil (hJ_168 _ ?_ ?_ ?_ ?_ ?_ ?_)
                    · exact h_185
                    · exact h_186
                    · exact h_187
                    · exact h_188
                    · exact h_189
                    · exact (bOf hc_169)
                  by_cases hc_183 : x13 ≥ x10
                  · refine TL.gyes true (yieldE_of rfl (bT hc_183)) rfl ?_
                    refine TL.v (ltb rfl) (rv_mv (v := .int .i64 x34.1) h_164) ?_
                    refine TL.gyes true (yieldE_of rfl (bT hc_183)) rfl ?_
                    refine TL.v (ltb rfl) (rv_neq (k := .i64) (m := x34.1) (n := 2) rfl rfl) ?_
                    refine TL.gyes false (yieldE_of rfl (bF hc_169)) rfl ?_
                    refine TL.v (ltb rfl) (rv_pickT true (bT hc_183) rfl (v := .bool (decide (¬ x34.1 = 2))) rfl) ?_
                    refine TL.nil (hJ_182 _ ?_ ?_ ?_ ?_ ?_ ?_ ?_ ?_ ?_ ?_ ?_)
                    · exact h_159
                    · exact h_160
                    · exact h_161
                    · exact h_162
                    · exact h_163
                    · exact rfl
                    · exact rfl
                    · exact rfl
                    · exact rfl
                    · exact rfl
                    · exact (bAt hc_183)
                  · refine TL.gno false rfl (fun d hd => by cases hd; exact ltb rfl) (yieldE_of rfl (bF hc_183)) rfl ?_
                    refine TL.gno false rfl (fun d hd => by cases hd; exact ltb rfl) (yieldE_of rfl (bF hc_183)) rfl ?_
                    refine TL.gyes false (yieldE_of rfl (bF hc_169)) rfl ?_
                    refine TL.v (ltb rfl) (rv_pickF false (bF hc_183) rfl (v := .bool false) rfl) ?_
                    refine TL.nil (hJ_182 _ ?_ ?_ ?_ ?_ ?_ ?_ ?_ ?_ ?_ ?_ ?_)
                    · exact h_159
                    · exact h_160
                    · exact h_161
                    · exact h_162
                    · exact h_163
                    · exact rfl
                    · exact rfl
                    · exact rfl
                    · exact rfl
                    · exact rfl
                    · exact (bAf hc_183)
              by_cases hc_157 : x13 < x10
              · refine TL.gyes true (yieldE_of rfl (bT hc_157)) rfl ?_
                refine TL.v (ltb rfl) (rv_mv (v := .int .i64 x34.1) rfl) ?_
                refine TL.gyes true (yieldE_of rfl (bT hc_157)) rfl ?_
                refine TL.v (ltb rfl) (rv_neq (k := .i64) (m := x34.1) (n := 1) rfl rfl) ?_
                refine TL.gyes true (yieldE_of rfl (bT hc_157)) rfl ?_
                refine TL.v (ltb rfl) (rv_mv (v := .bool (decide (¬ x34.1 = 1))) rfl) ?_
                refine TL.cut 5 fun K_196 hK_197 => ?_
                have hJ_198 : ∀ e_200 : Env, e_200 0 = .int .i64 x10 → e_200 1 = .int .i64 x11 → e_200 5 = .bool x4 → e_200 6 = ptrV x5.1 → e_200 12 = .int .i64 x13 → e_200 14 = .int .i64 x34.1 → e_200 94 = .bool (decide (x13 < x10)) → e_200 95 = .int .i64 x34.1 → e_200 96 = .bool (decide (¬ x34.1 = 1)) → e_200 97 = .bool (decide (¬ x34.1 = 1)) → e_200 102 = .bool (decide ((¬ x34.1 = 1) ∨ (¬ x34.2 = (w64 (100 + x13))))) → ∀ w, St E H [rgF t33.2] w → K_196 e_200 w := by
                  intro e_200 h_201 h_202 h_203 h_204 h_205 h_206 h_207 h_208 h_209 h_210 h_211
                  refine TL.go hK_197 ?_
                  refine TL.v (ltb rfl) (rv_pickT true (h_207.trans (bT hc_157)) rfl (v := .bool (decide ((¬ x34.1 = 1) ∨ (¬ x34.2 = (w64 (100 + x13)))))) h_211) ?_
                  refine TL.nil (hJ_156 _ ?_ ?_ ?_ ?_ ?_ ?_ ?_)
                  · exact h_201
                  · exact h_202
                  · exact h_203
                  · exact h_204
                  · exact h_205
                  · exact h_206
                  · exact (bAt hc_157)
                by_cases hc_199 : ¬ x34.1 = 1
                · refine TL.gno true rfl (fun d hd => by cases hd; exact ltb rfl) (yieldE_of rfl (bT hc_199)) rfl ?_
                  refine TL.gno true rfl (fun d hd => by cases hd; exact ltb rfl) (yieldE_of rfl (bT hc_199)) rfl ?_
                  refine TL.gno true rfl (fun d hd => by cases hd; exact ltb rfl) (yieldE_of rfl (bT hc_199)) rfl ?_
                  refine TL.gno true rfl (fun d hd => by cases hd; exact ltb rfl) (yieldE_of rfl (bT hc_199)) rfl ?_
                  refine TL.gyes true (yieldE_of rfl (bT hc_157)) rfl ?_
                  refine TL.v (ltb rfl) (rv_pickT true (bT hc_199) rfl (v := .bool true) rfl) ?_
                  refine TL.nil (hJ_198 _ ?_ ?_ ?_ ?_ ?_ ?_ ?_ ?_ ?_ ?_ ?_)
                  · exact h_138
                  · exact h_139
                  · exact h_140
                  · exact h_141
                  · exact h_142
                  · exact rfl
                  · exact rfl
                  · exact rfl
                  · exact rfl
                  · exact rfl
                  · exact (bOt hc_199)
                · refine TL.gyes false (yieldE_of rfl (bF hc_199)) rfl ?_
                  refine TL.v (ltb rfl) (rv_mv (v := .int .i64 x34.2) rfl) ?_
                  refine TL.gyes false (yieldE_of rfl (bF hc_199)) rfl ?_
                  refine TL.v (ltb rfl) (rv_mv (v := .int .i64 x13) h_142) ?_
                  refine TL.gyes false (yieldE_of rfl (bF hc_199)) rfl ?_
                  refine TL.v (ltb rfl) (rv_add (k := .i64) (m := 100) (n := x13) rfl rfl) ?_
                  refine TL.gyes false (yieldE_of rfl (bF hc_199)) rfl ?_
                  refine TL.v (ltb rfl) (rv_neq (k := .i64) (m := x34.2) (n := (w64 (100 + x13))) rfl rfl) ?_
                  refine TL.gyes true (yieldE_of rfl (bT hc_157)) rfl ?_
                  refine TL.v (ltb rfl) (rv_pickF false (bF hc_199) rfl (v := .bool (decide (¬ x34.2 = (w64 (100 + x13))))) rfl) ?_
                  refine TL.nil (hJ_198 _ ?_ ?_ ?_ ?_ ?_ ?_ ?_ ?_ ?_ ?_ ?_)
                  · exact h_138
                  · exact h_139
                  · exact h_140
                  · exact h_141
                  · exact h_142
                  · exact rfl
                  · exact rfl
                  · exact rfl
                  · exact rfl
                  · exact rfl
                  · exact (bOf hc_199)
              · refine TL.gno false rfl (fun d hd => by cases hd; exact ltb rfl) (yieldE_of rfl (bF hc_157)) rfl ?_
                refine TL.gno false rfl (fun d hd => by cases hd; exact ltb rfl) (yieldE_of rfl (bF hc_157)) rfl ?_
                refine TL.gno false rfl (fun d hd => by cases hd; exact ltb rfl) (yieldE_of rfl (bF hc_157)) rfl ?_
                refine TL.gnon rfl (fun d hd => by cases hd; exact ltb rfl) (yieldE_un rfl rfl) ?_
                refine TL.gnon rfl (fun d hd => by cases hd; exact ltb rfl) (yieldE_un rfl rfl) ?_
                refine TL.gnon rfl (fun d hd => by cases hd; exact ltb rfl) (yieldE_un rfl rfl) ?_
                refine TL.gnon rfl (fun d hd => by cases hd; exact ltb rfl) (yieldE_un rfl rfl) ?_
                refine TL.gno false rfl (fun d hd => by cases hd; exact ltb rfl) (yieldE_of rfl (bF hc_157)) rfl ?_
                refine TL.v (ltb rfl) (rv_pickF false (bF hc_157) rfl (v := .bool false) rfl) ?_
                refine TL.nil (hJ_156 _ ?_ ?_ ?_ ?_ ?_ ?_ ?_)
                · exact h_138
                · exact h_139
                · exact h_140
                · exact h_141
                · exact h_142
                · exact rfl
                · exact (bAf hc_157)
          by_cases hc_136 : x32.1 = none
          · rw [if_pos hc_136] at hp
            refine TL.gno true rfl (fun d hd => by cases hd; exact ltb rfl) (yieldE_of rfl (bT hc_136)) rfl ?_
            refine TL.gno true rfl (fun d hd => by cases hd; exact ltb rfl) (yieldE_of rfl (bT hc_136)) rfl ?_
            refine TL.gno true rfl (fun d hd => by cases hd; exact ltb rfl) (yieldE_of rfl (bT hc_136)) rfl ?_
            refine TL.gno true rfl (fun d hd => by cases hd; exact ltb rfl) (yieldE_of rfl (bT hc_136)) rfl ?_
            refine TL.v (ltb rfl) (rv_pickT true (bT hc_136) rfl (v := .bool true) rfl) ?_
            refine TL.nil (hJ_135 (true, x32.2) hp _ ?_ ?_ ?_ ?_ ?_ ?_ ?_)
            · exact h_59
            · exact h_60
            · exact h_61
            · exact h_62
            · exact h_63
            · exact rfl
            · exact rfl
          · rw [if_neg hc_136] at hp
            refine TL.gyes false (yieldE_of rfl (bF hc_136)) rfl ?_
            refine TL.v (ltb rfl) (rv_mv (v := ptrV x5.1) h_62) ?_
            refine TL.gyes false (yieldE_of rfl (bF hc_136)) rfl ?_
            refine TL.v (ltb rfl) (rv_mv (v := ptrV x32.1) rfl) ?_
            refine TL.gyes false (yieldE_of rfl (bF hc_136)) rfl ?_
            obtain ⟨x35, hy_214, hp⟩ := bO' hp
            refine TL.callC (vs := [ptrV x5.1, ptrV x32.1]) (R := fettlelaw11_done.R x35) [rgF x32.2] [] rfl cb_35 (ltb rfl) (mc rfl (mc rfl m0)) (fun w hw => fettlelaw11_done_ok (a1 := x5.1) (a2 := x32.1) (R4 := x32.2) hy_214 hw) fun v A' hR_215 => ?_
            obtain ⟨rfl, rfl⟩ := hR_215
            refine TL.norm (L' := [rgF x35.2]) rfl ?_
            refine TL.gyes false (yieldE_of rfl (bF hc_136)) rfl ?_
            refine TL.v (ltb rfl) (rv_not (b := x35.1) rfl) ?_
            refine TL.v (ltb rfl) (rv_pickF false (bF hc_136) rfl (v := .bool (!x35.1)) rfl) ?_
            refine TL.nil (hJ_135 ((!x35.1), x35.2) hp _ ?_ ?_ ?_ ?_ ?_ ?_ ?_)
            · exact h_59
            · exact h_60
            · exact h_61
            · exact h_62
            · exact h_63
            · exact rfl
            · exact rfl
        · rw [if_neg hc_122] at hp
          refine TC.condF (bF hc_122) ?_
          refine TC.exit ?_
          refine fun w hw => hJ_117 R12 _ ?_ ?_ ?_ ?_ (hx_68 _ hp) w (hw.pick [0])
          · exact h_59
          · exact h_60
          · exact h_61
          · exact h_62
      refine TC.seq fun K_217 hK_218 => ?_
      refine TC.region ?_
      refine TL.v (ltb rfl) (rv_mv (v := .int .i64 x6) h_38) ?_
      refine TL.v (ltb rfl) (rv_gtr (k := .i64) (m := x6) (n := 64) rfl rfl) ?_
      refine TL.nil ?_
      refine TC.go hK_218 ?_
      by_cases hc_219 : x6 > 64
      · rw [if_pos hc_219] at hp
        refine TC.condT (bT hc_219) ?_
        refine TC.region ?_
        refine TL.v (ltb rfl) (rv_as (v := .int .i64 64) rfl) ?_
        refine TL.nil ?_
        refine fun w hw => hJ_49 64 _ ?_ ?_ ?_ ?_ hp w (hw.pick [0])
        · exact rfl
        · exact h_39
        · exact h_40
        · exact h_41
      · rw [if_neg hc_219] at hp
        refine TC.condF (bF hc_219) ?_
        refine TC.skip ?_
        refine fun w hw => hJ_49 x6 _ ?_ ?_ ?_ ?_ hp w (hw.pick [0])
        · exact h_38
        · exact h_39
        · exact h_40
        · exact h_41
    have hp := bD' hp
    refine TC.pk' [0] (L' := [rgF x5.2]) rfl ?_
    refine TC.loopD (fun (s : (Rgn × Int)) (e_26 : Env) (L_314 : List FP) => ∃ (R7 : Rgn) (x8 : Int), s = (R7, x8) ∧ e_26 0 = .int .i64 x6 ∧ e_26 1 = .int .i64 a2 ∧ e_26 5 = .bool x4 ∧ e_26 6 = ptrV x5.1 ∧ e_26 7 = .int .i64 x8 ∧ L_314 = [rgF R7]) ?_ FUEL _ _ _ hp ⟨x5.2, 0, rfl, rfl, rfl, rfl, rfl, rfl, rfl⟩
    rintro s e_26 L_314 ⟨R7, x8, rfl, h_27, h_28, h_29, h_30, h_31, rfl⟩ x_35 hp hx_36
    replace hp : fettlelaw11_DequeRow.bd36 x5 x6 R7 x8 x_35 := hp
    unfold fettlelaw11_DequeRow.bd36 at hp
    refine TC.seq fun K_221 hK_222 => ?_
    refine TC.seq fun K_223 hK_224 => ?_
    refine TC.region ?_
    refine TL.v (ltb rfl) (rv_mv (v := .int .i64 x8) h_31) ?_
    refine TL.v (ltb rfl) (rv_mv (v := .int .i64 x6) h_27) ?_
    refine TL.v (ltb rfl) (rv_lss (k := .i64) (m := x8) (n := x6) rfl rfl) ?_
    refine TL.nil ?_
    refine TC.go hK_224 ?_
    by_cases hc_225 : x8 < x6
    · rw [if_pos hc_225] at hp
      refine TC.condT (bT hc_225) ?_
      refine TC.skip ?_
      refine TC.go hK_222 ?_
      refine TC.seq fun K_226 hK_227 => ?_
      refine TC.block ?_
      refine TC.seq fun K_228 hK_229 => ?_
      refine TC.region ?_
      refine TL.v (ltb rfl) (rv_mv (v := ptrV x5.1) h_30) ?_
      refine TL.v (ltb rfl) (rv_mv (v := .int .i64 x8) h_31) ?_
      refine TL.v (ltb rfl) (rv_add (k := .i64) (m := 100) (n := x8) rfl rfl) ?_
      have hp := bD' hp
      refine TL.callC (vs := [ptrV x5.1, .int .i64 (w64 (100 + x8))]) (R := deque_Deque_Push.R _) [rgF R7] [] rfl cb_34 (ltb rfl) (mc rfl (mc rfl m0)) (fun w hw => deque_Deque_Push_ok (a1 := x5.1) (a2 := (w64 (100 + x8))) (R4 := R7) hp hw) fun v A' hR_231 => ?_
      obtain ⟨x36, hp, v37, F38, rfl, rfl, h39⟩ := hR_231
      refine TL.norm (L' := [F38, rgF x36.2.2]) rfl ?_
      refine TL.v (ltb rfl) (rv_mv (v := .tuple #[ptrV x36.1, v37]) rfl) ?_
      refine TL.v (ltb rfl) (rv_extract (vs := #[ptrV x36.1, v37]) (v := ptrV x36.1) rfl rfl) ?_
      refine TL.v (ltb rfl) (rv_extract (vs := #[ptrV x36.1, v37]) (v := v37) rfl rfl) ?_
      refine TL.v (ltb rfl) (rv_as (v := ptrV x36.1) rfl) ?_
      refine TL.v (ltb rfl) (rv_as (v := v37) rfl) ?_
      refine TL.nil ?_
      refine TC.go hK_229 ?_
      refine TC.seq fun K_232 hK_233 => ?_
      refine TC.seq fun K_234 hK_235 => ?_
      refine TC.region ?_
      refine TL.v (ltb rfl) (rv_mv (v := ptrV x36.1) rfl) ?_
      refine TL.v (ltb rfl) (rv_eqlPN (p := x36.1) pn_44 rfl rfl) ?_
      refine TL.v (ltb rfl) (rv_mv (v := .bool (decide (x36.1 = none))) rfl) ?_
      refine TL.cut 3 fun K_236 hK_237 => ?_
      have hJ_238 : ∀ e_240 : Env, e_240 0 = .int .i64 x6 → e_240 1 = .int .i64 a2 → e_240 5 = .bool x4 → e_240 6 = ptrV x5.1 → e_240 7 = .int .i64 x8 → e_240 8 = ptrV x36.1 → e_240 41 = .bool (decide (x36.1 = none ∨ (¬ x36.2.1 = GErr.no))) → ∀ w, St E H [F38, rgF x36.2.2] w → K_236 e_240 w := by
        intro e_240 h_241 h_242 h_243 h_244 h_245 h_246 h_247
        refine TL.go hK_237 ?_
        refine TL.v (ltb rfl) (rv_mv (v := .bool (decide (x36.1 = none ∨ (¬ x36.2.1 = GErr.no)))) h_247) ?_
        have hp := bD' hp
        refine TL.cut 5 fun K_248 hK_249 => ?_
        have hJ_250 : ∀ (t40 : (Bool × Rgn)), fettlelaw11_DequeRow.jn310 x8 x36 t40 x_35 → ∀ e_252 : Env, e_252 0 = .int .i64 x6 → e_252 1 = .int .i64 a2 → e_252 5 = .bool x4 → e_252 6 = ptrV x5.1 → e_252 7 = .int .i64 x8 → e_252 8 = ptrV x36.1 → e_252 47 = .bool t40.1 → ∀ w, St E H [F38, rgF t40.2] w → K_248 e_252 w := by
          intro t40 hp e_252 h_253 h_254 h_255 h_256 h_257 h_258 h_259
          unfold fettlelaw11_DequeRow.jn310 at hp
          refine TL.go hK_249 ?_
          refine TL.nil ?_
          refine TC.go hK_235 ?_
          by_cases hc_260 : t40.1 = true
          · rw [if_pos hc_260] at hp
            refine TC.condT (h_259.trans (bbT hc_260)) ?_
            refine TC.seq fun K_261 hK_262 => ?_
            refine TC.region ?_
            refine TL.v (ltb rfl) (rv_as (v := .bool false) rfl) ?_
            refine TL.nil ?_
            refine TC.go hK_262 ?_
            refine TC.ret ?_
            have hp := hx_36 _ hp
            exact fun w hw => retOk ⟨false, hp, rfl, rfl⟩ (hw.pick [])
          · rw [if_neg hc_260] at hp
            refine TC.condF (h_259.trans (bbF hc_260)) ?_
            refine TC.skip ?_
            refine TC.go hK_233 ?_
            refine TC.seq fun K_263 hK_264 => ?_
            refine TC.region ?_
            refine TL.v (ltb rfl) (rv_mv (v := ptrV x36.1) h_258) ?_
            refine TL.pk' [1, 0] (L' := [rgF t40.2, F38]) rfl ?_
            obtain ⟨x41, hy_265, hp⟩ := bO' hp
            refine TL.callC (vs := [ptrV x36.1]) (R := deque_Op_Result.R t40.2 x41) [rgF t40.2] [F38] rfl cb_31 (ltb rfl) (mc rfl m0) (fun w hw => deque_Op_Result_ok (a1 := x36.1) (R3 := t40.2) hy_265 hw) fun v A' hR_266 => ?_
            obtain ⟨rfl, rfl⟩ := hR_266
            refine TL.norm (L' := [rgF t40.2, F38]) rfl ?_
            refine TL.v (ltb rfl) (rv_mv (v := .tuple #[.int .i64 x41.1, .int .i64 x41.2]) rfl) ?_
            refine TL.v (ltb rfl) (rv_extract (vs := #[.int .i64 x41.1, .int .i64 x41.2]) (v := .int .i64 x41.1) rfl rfl) ?_
            refine TL.v (ltb rfl) (rv_extract (vs := #[.int .i64 x41.1, .int .i64 x41.2]) (v := .int .i64 x41.2) rfl rfl) ?_
            refine TL.v (ltb rfl) (rv_as (v := .int .i64 x41.1) rfl) ?_
            refine TL.v (ltb rfl) (rv_as (v := .int .i64 x41.2) rfl) ?_
            refine TL.nil ?_
            refine TC.go hK_264 ?_
            refine TC.seq fun K_267 hK_268 => ?_
            refine TC.region ?_
            refine TL.v (ltb rfl) (rv_mv (v := .int .i64 x8) h_257) ?_
            refine TL.v (ltb rfl) (rv_lss (k := .i64) (m := x8) (n := 64) rfl rfl) ?_
            refine TL.v (ltb rfl) (rv_mv (v := .bool (decide (x8 < 64))) rfl) ?_
            refine TL.cut 3 fun K_269 hK_270 => ?_
            have hJ_271 : ∀ e_273 : Env, e_273 0 = .int .i64 x6 → e_273 1 = .int .i64 a2 → e_273 5 = .bool x4 → e_273 6 = ptrV x5.1 → e_273 7 = .int .i64 x8 → e_273 10 = .int .i64 x41.1 → e_273 58 = .bool (decide (x8 < 64 ∧ (¬ x41.1 = 1))) → ∀ w, St E H [rgF t40.2, F38] w → K_269 e_273 w := by
              intro e_273 h_274 h_275 h_276 h_277 h_278 h_279 h_280
              refine TL.go hK_270 ?_
              refine TL.v (ltb rfl) (rv_mv (v := .bool (decide (x8 < 64 ∧ (¬ x41.1 = 1)))) h_280) ?_
              refine TL.cut 7 fun K_281 hK_282 => ?_
              have hJ_283 : ∀ e_285 : Env, e_285 0 = .int .i64 x6 → e_285 1 = .int .i64 a2 → e_285 5 = .bool x4 → e_285 6 = ptrV x5.1 → e_285 7 = .int .i64 x8 → e_285 66 = .bool (decide ((x8 < 64 ∧ (¬ x41.1 = 1)) ∨ (x8 ≥ 64 ∧ (¬ x41.1 = 3)))) → ∀ w, St E H [rgF t40.2, F38] w → K_281 e_285 w := by
                intro e_285 h_286 h_287 h_288 h_289 h_290 h_291
                refine TL.go hK_282 ?_
                refine TL.nil ?_
                refine TC.go hK_268 ?_
                by_cases hc_292 : (x8 < 64 ∧ (¬ x41.1 = 1)) ∨ (x8 ≥ 64 ∧ (¬ x41.1 = 3))
                · rw [if_pos hc_292] at hp
                  refine TC.condT (h_291.trans (bT hc_292)) ?_
                  refine TC.seq fun K_293 hK_294 => ?_
                  refine TC.region ?_
                  refine TL.v (ltb rfl) (rv_as (v := .bool false) rfl) ?_
                  refine TL.nil ?_
                  refine TC.go hK_294 ?_
                  refine TC.ret ?_
                  have hp := hx_36 _ hp
                  exact fun w hw => retOk ⟨false, hp, rfl, rfl⟩ (hw.pick [])
                · rw [if_neg hc_292] at hp
                  refine TC.condF (h_291.trans (bF hc_292)) ?_
                  refine TC.skip ?_
                  refine TC.go hK_227 ?_
                  refine TC.region ?_
                  refine TL.v (ltb rfl) (rv_mv (v := .int .i64 x8) h_290) ?_
                  refine TL.v (ltb rfl) (rv_add (k := .i64) (m := x8) (n := 1) rfl rfl) ?_
                  refine TL.v (ltb rfl) (rv_as (v := .int .i64 (w64 (x8 + 1))) rfl) ?_
                  refine TL.nil ?_
                  exact fun w hw => goOkD hp ⟨t40.2, (w64 (x8 + 1)), rfl, h_286, h_287, h_288, h_289, rfl, rfl⟩ (hw.pick [0])
              by_cases hc_284 : x8 < 64 ∧ (¬ x41.1 = 1)
              · refine TL.gno true rfl (fun d hd => by cases hd; exact ltb rfl) (yieldE_of rfl (bT hc_284)) rfl ?_
                refine TL.gno true rfl (fun d hd => by cases hd; exact ltb rfl) (yieldE_of rfl (bT hc_284)) rfl ?_
                refine TL.gno true rfl (fun d hd => by cases hd; exact ltb rfl) (yieldE_of rfl (bT hc_284)) rfl ?_
                refine TL.gnon rfl (fun d hd => by cases hd; exact ltb rfl) (yieldE_un rfl rfl) ?_
                refine TL.gnon rfl (fun d hd => by cases hd; exact ltb rfl) (yieldE_un rfl rfl) ?_
                refine TL.gno true rfl (fun d hd => by cases hd; exact ltb rfl) (yieldE_of rfl (bT hc_284)) rfl ?_
                refine TL.v (ltb rfl) (rv_pickT true (bT hc_284) rfl (v := .bool true) rfl) ?_
                refine TL.nil (hJ_283 _ ?_ ?_ ?_ ?_ ?_ ?_)
                · exact h_274
                · exact h_275
                · exact h_276
                · exact h_277
                · exact h_278
                · exact (bOt hc_284)
              · refine TL.gyes false (yieldE_of rfl (bF hc_284)) rfl ?_
                refine TL.v (ltb rfl) (rv_mv (v := .int .i64 x8) h_278) ?_
                refine TL.gyes false (yieldE_of rfl (bF hc_284)) rfl ?_
                refine TL.v (ltb rfl) (rv_geq (k := .i64) (m := x8) (n := 64) rfl rfl) ?_
                refine TL.gyes false (yieldE_of rfl (bF hc_284)) rfl ?_
                refine TL.v (ltb rfl) (rv_mv (v := .bool (decide (x8 ≥ 64))) rfl) ?_
                refine TL.cut 3 fun K_295 hK_296 => ?_
                have hJ_297 : ∀ e_299 : Env, e_299 0 = .int .i64 x6 → e_299 1 = .int .i64 a2 → e_299 5 = .bool x4 → e_299 6 = ptrV x5.1 → e_299 7 = .int .i64 x8 → e_299 59 = .bool (decide (x8 < 64 ∧ (¬ x41.1 = 1))) → e_299 60 = .int .i64 x8 → e_299 61 = .bool (decide (x8 ≥ 64)) → e_299 62 = .bool (decide (x8 ≥ 64)) → e_299 65 = .bool (decide (x8 ≥ 64 ∧ (¬ x41.1 = 3))) → ∀ w, St E H [rgF t40.2, F38] w → K_295 e_299 w := by
                  intro e_299 h_300 h_301 h_302 h_303 h_304 h_305 h_306 h_307 h_308 h_309
                  refine TL.go hK_296 ?_
                  refine TL.v (ltb rfl) (rv_pickF false (h_305.trans (bF hc_284)) rfl (v := .bool (decide (x8 ≥ 64 ∧ (¬ x41.1 = 3)))) h_309) ?_
                  refine TL.nil (hJ_283 _ ?_ ?_ ?_ ?_ ?_ ?_)
                  · exact h_300
                  · exact h_301
                  · exact h_302
                  · exact h_303
                  · exact h_304
                  · exact (bOf hc_284)
                by_cases hc_298 : x8 ≥ 64
                · refine TL.gyes true (yieldE_of rfl (bT hc_298)) rfl ?_
                  refine TL.v (ltb rfl) (rv_mv (v := .int .i64 x41.1) h_279) ?_
                  refine TL.gyes true (yieldE_of rfl (bT hc_298)) rfl ?_
                  refine TL.v (ltb rfl) (rv_neq (k := .i64) (m := x41.1) (n := 3) rfl rfl) ?_
                  refine TL.gyes false (yieldE_of rfl (bF hc_284)) rfl ?_
                  refine TL.v (ltb rfl) (rv_pickT true (bT hc_298) rfl (v := .bool (decide (¬ x41.1 = 3))) rfl) ?_
                  refine TL.nil (hJ_297 _ ?_ ?_ ?_ ?_ ?_ ?_ ?_ ?_ ?_ ?_)
                  · exact h_274
                  · exact h_275
                  · exact h_276
                  · exact h_277
                  · exact h_278
                  · exact rfl
                  · exact rfl
                  · exact rfl
                  · exact rfl
                  · exact (bAt hc_298)
                · refine TL.gno false rfl (fun d hd => by cases hd; exact ltb rfl) (yieldE_of rfl (bF hc_298)) rfl ?_
                  refine TL.gno false rfl (fun d hd => by cases hd; exact ltb rfl) (yieldE_of rfl (bF hc_298)) rfl ?_
                  refine TL.gyes false (yieldE_of rfl (bF hc_284)) rfl ?_
                  refine TL.v (ltb rfl) (rv_pickF false (bF hc_298) rfl (v := .bool false) rfl) ?_
                  refine TL.nil (hJ_297 _ ?_ ?_ ?_ ?_ ?_ ?_ ?_ ?_ ?_ ?_)
                  · exact h_274
                  · exact h_275
                  · exact h_276
                  · exact h_277
                  · exact h_278
                  · exact rfl
                  · exact rfl
                  · exact rfl
                  · exact rfl
                  · exact (bAf hc_298)
            by_cases hc_272 : x8 < 64
            · refine TL.gyes true (yieldE_of rfl (bT hc_272)) rfl ?_
              refine TL.v (ltb rfl) (rv_mv (v := .int .i64 x41.1) rfl) ?_
              refine TL.gyes true (yieldE_of rfl (bT hc_272)) rfl ?_
              refine TL.v (ltb rfl) (rv_neq (k := .i64) (m := x41.1) (n := 1) rfl rfl) ?_
              refine TL.v (ltb rfl) (rv_pickT true (bT hc_272) rfl (v := .bool (decide (¬ x41.1 = 1))) rfl) ?_
              refine TL.nil (hJ_271 _ ?_ ?_ ?_ ?_ ?_ ?_ ?_)
              · exact h_253
              · exact h_254
              · exact h_255
              · exact h_256
              · exact h_257
              · exact rfl
              · exact (bAt hc_272)
            · refine TL.gno false rfl (fun d hd => by cases hd; exact ltb rfl) (yieldE_of rfl (bF hc_272)) rfl ?_
              refine TL.gno false rfl (fun d hd => by cases hd; exact ltb rfl) (yieldE_of rfl (bF hc_272)) rfl ?_
              refine TL.v (ltb rfl) (rv_pickF false (bF hc_272) rfl (v := .bool false) rfl) ?_
              refine TL.nil (hJ_271 _ ?_ ?_ ?_ ?_ ?_ ?_ ?_)
              · exact h_253
              · exact h_254
              · exact h_255
              · exact h_256
              · exact h_257
              · exact rfl
              · exact (bAf hc_272)
        by_cases hc_251 : x36.1 = none ∨ (¬ x36.2.1 = GErr.no)
        · rw [if_pos hc_251] at hp
          refine TL.gno true rfl (fun d hd => by cases hd; exact ltb rfl) (yieldE_of rfl (bT hc_251)) rfl ?_
          refine TL.gno true rfl (fun d hd => by cases hd; exact ltb rfl) (yieldE_of rfl (bT hc_251)) rfl ?_
          refine TL.gno true rfl (fun d hd => by cases hd; exact ltb rfl) (yieldE_of rfl (bT hc_251)) rfl ?_
          refine TL.gno true rfl (fun d hd => by cases hd; exact ltb rfl) (yieldE_of rfl (bT hc_251)) rfl ?_
          refine TL.v (ltb rfl) (rv_pickT true (bT hc_251) rfl (v := .bool true) rfl) ?_
          refine TL.nil (hJ_250 (true, x36.2.2) hp _ ?_ ?_ ?_ ?_ ?_ ?_ ?_)
          · exact h_241
          · exact h_242
          · exact h_243
          · exact h_244
          · exact h_245
          · exact h_246
          · exact rfl
        · rw [if_neg hc_251] at hp
          refine TL.gyes false (yieldE_of rfl (bF hc_251)) rfl ?_
          refine TL.v (ltb rfl) (rv_mv (v := ptrV x5.1) h_244) ?_
          refine TL.gyes false (yieldE_of rfl (bF hc_251)) rfl ?_
          refine TL.v (ltb rfl) (rv_mv (v := ptrV x36.1) h_246) ?_
          refine TL.gyes false (yieldE_of rfl (bF hc_251)) rfl ?_
          refine TL.pk' [1, 0] (L' := [rgF x36.2.2, F38]) rfl ?_
          obtain ⟨x42, hy_312, hp⟩ := bO' hp
          refine TL.callC (vs := [ptrV x5.1, ptrV x36.1]) (R := fettlelaw11_done.R x42) [rgF x36.2.2] [F38] rfl cb_35 (ltb rfl) (mc rfl (mc rfl m0)) (fun w hw => fettlelaw11_done_ok (a1 := x5.1) (a2 := x36.1) (R4 := x36.2.2) hy_312 hw) fun v A' hR_313 => ?_
          obtain ⟨rfl, rfl⟩ := hR_313
          refine TL.norm (L' := [rgF x42.2, F38]) rfl ?_
          refine TL.gyes false (yieldE_of rfl (bF hc_251)) rfl ?_
          refine TL.v (ltb rfl) (rv_not (b := x42.1) rfl) ?_
          refine TL.v (ltb rfl) (rv_pickF false (bF hc_251) rfl (v := .bool (!x42.1)) rfl) ?_
          refine TL.pk' [1, 0] (L' := [F38, rgF x42.2]) rfl ?_
          refine TL.nil (hJ_250 ((!x42.1), x42.2) hp _ ?_ ?_ ?_ ?_ ?_ ?_ ?_)
          · exact h_241
          · exact h_242
          · exact h_243
          · exact h_244
          · exact h_245
          · exact h_246
          · exact rfl
      by_cases hc_239 : x36.1 = none
      · refine TL.gno true rfl (fun d hd => by cases hd; exact ltb rfl) (yieldE_of rfl (bT hc_239)) rfl ?_
        refine TL.gno true rfl (fun d hd => by cases hd; exact ltb rfl) (yieldE_of rfl (bT hc_239)) rfl ?_
        refine TL.v (ltb rfl) (rv_pickT true (bT hc_239) rfl (v := .bool true) rfl) ?_
        refine TL.nil (hJ_238 _ ?_ ?_ ?_ ?_ ?_ ?_ ?_)
        · exact h_27
        · exact h_28
        · exact h_29
        · exact h_30
        · exact h_31
        · exact rfl
        · exact (bOt hc_239)
      · refine TL.gyes false (yieldE_of rfl (bF hc_239)) rfl ?_
        refine TL.v (ltb rfl) (rv_mv (v := v37) rfl) ?_
        refine TL.gyes false (yieldE_of rfl (bF hc_239)) rfl ?_
        refine TL.v (ltb rfl) (rv_neqEN ifc_49 h39 rfl) ?_
        refine TL.v (ltb rfl) (rv_pickF false (bF hc_239) rfl (v := .bool (decide (¬ x36.2.1 = GErr.no))) rfl) ?_
        refine TL.nil (hJ_238 _ ?_ ?_ ?_ ?_ ?_ ?_ ?_)
        · exact h_27
        · exact h_28
        · exact h_29
        · exact h_30
        · exact h_31
        · exact rfl
        · exact (bOf hc_239)
    · rw [if_neg hc_225] at hp
      refine TC.condF (bF hc_225) ?_
      refine TC.exit ?_
      refine fun w hw => hJ_220 R7 _ ?_ ?_ ?_ ?_ (hx_36 _ hp) w (hw.pick [0])
      · exact h_27
      · exact h_28
      · exact h_29
      · exact h_30
end Go.Proofs.Ytoflleabpkgdpaa
