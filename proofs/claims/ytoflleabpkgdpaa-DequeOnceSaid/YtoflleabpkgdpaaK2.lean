/- The walk through the program's functions: each one's pure reading, and that a call does what it says. No conditions. -/
import Derived.Test.YtoflleabpkgdpaaK1
set_option linter.unusedVariables false
set_option linter.unusedSimpArgs false
namespace Go.Proofs.Ytoflleabpkgdpaa
open Go Go.Proofs

/-! ### fettle/deque.New -/
abbrev deque_New.R (Q : (Option Nat × Rgn) → Prop) (v : Value) (A : List FP) : Prop := ∃ r, Q r ∧ ptrV r.1 = v ∧ A = [rgF r.2]
def deque_New (R2 : Rgn) : D (Option Nat × Rgn) :=
  freshD (Rgn.names R2) fun b3 =>
  rD ((some b3), (R2.add_ds b3 (⟨A64.zero, 0, 0, none⟩ : QDeque)))
theorem deque_New_ok {E : World} {H : FP} {w : World} {R2 : Rgn} {Q : (Option Nat × Rgn) → Prop}  (hp : deque_New R2 Q) (hst : St E H [rgF R2] w) :
    Fn Try.prog 26 #[] w fun v w' => ∃ A, deque_New.R Q v A ∧ St E H A w' := by
  refine Fn.body (fn := Try.f26) (args := []) E H [rgF R2] [.tmp 0] 3 Try.func26 rfl rfl rfl rfl (leb rfl) hst ?_
  unfold deque_New at hp
  refine TC.seq fun K_1 hK_2 => ?_
  refine TC.region ?_
  refine TL.v (ltb rfl) (rv_as (v := .pointer none) rfl) ?_
  refine TL.nil ?_
  refine TC.go hK_2 ?_
  refine TC.seq fun K_3 hK_4 => ?_
  refine TC.region ?_
  refine TL.v (ltb rfl) (rv_bv (vs := []) (ds := (arrC A64.zero ++ ([.int .i64 0, .int .i64 0, .pointer none] : List Value))) p0 (fun w => by kernel_rfl)) ?_
  refine TL.boxR (cs := (arrC A64.zero ++ ([.int .i64 0, .int .i64 0, .pointer none] : List Value))) (v := .agg ((arrC A64.zero ++ ([.int .i64 0, .int .i64 0, .pointer none] : List Value))).toArray) (F' := fun b3 => rgF (R2.add_ds b3 (⟨A64.zero, 0, 0, none⟩ : QDeque))) 0 rfl (ltb rfl) rfl rfl (add_ds_perm R2 (⟨A64.zero, 0, 0, none⟩ : QDeque) rfl) fun b3 hb_5 => ?_
  have hp := hp b3 hb_5
  refine TL.norm (L' := [rgF (R2.add_ds b3 (⟨A64.zero, 0, 0, none⟩ : QDeque))]) rfl ?_
  refine TL.v (ltb rfl) (rv_as (v := .pointer (some ⟨b3, 0, none⟩)) rfl) ?_
  refine TL.nil ?_
  refine TC.go hK_4 ?_
  refine TC.ret ?_
  exact fun w hw => retOk ⟨((some b3), (R2.add_ds b3 (⟨A64.zero, 0, 0, none⟩ : QDeque))), hp, rfl, rfl⟩ (hw.pick [0])

/-! ### (*fettle/deque.Deque).Push -/
abbrev deque_Deque_Push.R (Q : (Option Nat × GErr × Rgn) → Prop) (v : Value) (A : List FP) : Prop := ∃ r, Q r ∧ ∃ (w1 : Value) (G1 : FP), .tuple #[ptrV r.1, w1] = v ∧ A = [G1, rgF r.2.2] ∧ ErO 72 143 145 r.2.1 w1 G1
def deque_Deque_Push (a1 : Option Nat) (a2 : Int) (R4 : Rgn) : D (Option Nat × GErr × Rgn) :=
  freshD (Rgn.names R4) fun b5 =>
  bO (deque_Deque_begin a1 (some b5) (R4.add_os b5 (⟨a1, 1, 0, 0, 0, a2, 0⟩ : QOp))) fun x6 =>
  rD (x6.1, x6.2.1, x6.2.2)
theorem deque_Deque_Push_ok {E : World} {H : FP} {w : World} {a1 : Option Nat} {a2 : Int} {R4 : Rgn} {Q : (Option Nat × GErr × Rgn) → Prop}  (hp : deque_Deque_Push a1 a2 R4 Q) (hst : St E H [rgF R4] w) :
    Fn Try.prog 34 #[ptrV a1, .int .i64 a2] w fun v w' => ∃ A, deque_Deque_Push.R Q v A ∧ St E H A w' := by
  refine Fn.body (fn := Try.f34) (args := [ptrV a1, .int .i64 a2]) E H [rgF R4] [.tmp 4, .tmp 5] 14 Try.func34 rfl rfl rfl rfl (leb rfl) hst ?_
  unfold deque_Deque_Push at hp
  refine TC.seq fun K_1 hK_2 => ?_
  refine TC.region ?_
  refine TL.v (ltb rfl) (rv_as (v := .pointer none) rfl) ?_
  refine TL.v (ltb rfl) (rv_as (v := .nilIface) rfl) ?_
  refine TL.nil ?_
  refine TC.go hK_2 ?_
  refine TC.seq fun K_3 hK_4 => ?_
  refine TC.region ?_
  refine TL.v (ltb rfl) (rv_mv (v := ptrV a1) rfl) ?_
  refine TL.v (ltb rfl) (rv_mv (v := ptrV a1) rfl) ?_
  refine TL.v (ltb rfl) (rv_mv (v := .int .i64 a2) rfl) ?_
  refine TL.v (ltb rfl) (rv_bv (vs := [(0, ptrV a1), (1, .int .i64 1), (5, .int .i64 a2)]) (ds := [ptrV a1, .int .i64 1, .int .i64 0, .int .i64 0, .int .i64 0, .int .i64 a2, .int .i64 0]) (pc rfl (pc rfl (pc rfl p0))) (fun w => by kernel_rfl)) ?_
  refine TL.boxR (cs := [ptrV a1, .int .i64 1, .int .i64 0, .int .i64 0, .int .i64 0, .int .i64 a2, .int .i64 0]) (v := .agg #[ptrV a1, .int .i64 1, .int .i64 0, .int .i64 0, .int .i64 0, .int .i64 a2, .int .i64 0]) (F' := fun b5 => rgF (R4.add_os b5 (⟨a1, 1, 0, 0, 0, a2, 0⟩ : QOp))) 0 rfl (ltb rfl) rfl rfl (add_os_perm R4 (⟨a1, 1, 0, 0, 0, a2, 0⟩ : QOp) rfl) fun b5 hb_5 => ?_
  have hp := hp b5 hb_5
  refine TL.norm (L' := [rgF (R4.add_os b5 (⟨a1, 1, 0, 0, 0, a2, 0⟩ : QOp))]) rfl ?_
  obtain ⟨x6, hy_6, hp⟩ := bO' hp
  refine TL.callC (vs := [ptrV a1, .pointer (some ⟨b5, 0, none⟩)]) (R := deque_Deque_begin.R x6) [rgF (R4.add_os b5 (⟨a1, 1, 0, 0, 0, a2, 0⟩ : QOp))] [] rfl cb_67 (ltb rfl) (mc rfl (mc rfl m0)) (fun w hw => deque_Deque_begin_ok (a1 := a1) (a2 := (some b5)) (R4 := (R4.add_os b5 (⟨a1, 1, 0, 0, 0, a2, 0⟩ : QOp))) hy_6 hw) fun v A' hR_7 => ?_
  obtain ⟨v7, F8, rfl, rfl, h9⟩ := hR_7
  refine TL.norm (L' := [F8, rgF x6.2.2]) rfl ?_
  refine TL.v (ltb rfl) (rv_extract (vs := #[ptrV x6.1, v7]) (v := ptrV x6.1) rfl rfl) ?_
  refine TL.v (ltb rfl) (rv_extract (vs := #[ptrV x6.1, v7]) (v := v7) rfl rfl) ?_
  refine TL.v (ltb rfl) (rv_as (v := ptrV x6.1) rfl) ?_
  refine TL.v (ltb rfl) (rv_as (v := v7) rfl) ?_
  refine TL.nil ?_
  refine TC.go hK_4 ?_
  refine TC.ret ?_
  exact fun w hw => retOk ⟨(x6.1, x6.2.1, x6.2.2), hp, v7, F8, (tu2 rfl rfl).symm, rfl, h9⟩ (hw.pick [0, 0])

/-! ### (*fettle/deque.Deque).Pop -/
abbrev deque_Deque_Pop.R (Q : (Option Nat × GErr × Rgn) → Prop) (v : Value) (A : List FP) : Prop := ∃ r, Q r ∧ ∃ (w1 : Value) (G1 : FP), .tuple #[ptrV r.1, w1] = v ∧ A = [G1, rgF r.2.2] ∧ ErO 72 143 145 r.2.1 w1 G1
def deque_Deque_Pop (a1 : Option Nat) (R3 : Rgn) : D (Option Nat × GErr × Rgn) :=
  freshD (Rgn.names R3) fun b4 =>
  bO (deque_Deque_begin a1 (some b4) (R3.add_os b4 (⟨a1, 2, 0, 0, 0, 0, 0⟩ : QOp))) fun x5 =>
  rD (x5.1, x5.2.1, x5.2.2)
theorem deque_Deque_Pop_ok {E : World} {H : FP} {w : World} {a1 : Option Nat} {R3 : Rgn} {Q : (Option Nat × GErr × Rgn) → Prop}  (hp : deque_Deque_Pop a1 R3 Q) (hst : St E H [rgF R3] w) :
    Fn Try.prog 63 #[ptrV a1] w fun v w' => ∃ A, deque_Deque_Pop.R Q v A ∧ St E H A w' := by
  refine Fn.body (fn := Try.f63) (args := [ptrV a1]) E H [rgF R3] [.tmp 2, .tmp 3] 11 Try.func63 rfl rfl rfl rfl (leb rfl) hst ?_
  unfold deque_Deque_Pop at hp
  refine TC.seq fun K_1 hK_2 => ?_
  refine TC.region ?_
  refine TL.v (ltb rfl) (rv_as (v := .pointer none) rfl) ?_
  refine TL.v (ltb rfl) (rv_as (v := .nilIface) rfl) ?_
  refine TL.nil ?_
  refine TC.go hK_2 ?_
  refine TC.seq fun K_3 hK_4 => ?_
  refine TC.region ?_
  refine TL.v (ltb rfl) (rv_mv (v := ptrV a1) rfl) ?_
  refine TL.v (ltb rfl) (rv_mv (v := ptrV a1) rfl) ?_
  refine TL.v (ltb rfl) (rv_bv (vs := [(0, ptrV a1), (1, .int .i64 2)]) (ds := [ptrV a1, .int .i64 2, .int .i64 0, .int .i64 0, .int .i64 0, .int .i64 0, .int .i64 0]) (pc rfl (pc rfl p0)) (fun w => by kernel_rfl)) ?_
  refine TL.boxR (cs := [ptrV a1, .int .i64 2, .int .i64 0, .int .i64 0, .int .i64 0, .int .i64 0, .int .i64 0]) (v := .agg #[ptrV a1, .int .i64 2, .int .i64 0, .int .i64 0, .int .i64 0, .int .i64 0, .int .i64 0]) (F' := fun b4 => rgF (R3.add_os b4 (⟨a1, 2, 0, 0, 0, 0, 0⟩ : QOp))) 0 rfl (ltb rfl) rfl rfl (add_os_perm R3 (⟨a1, 2, 0, 0, 0, 0, 0⟩ : QOp) rfl) fun b4 hb_5 => ?_
  have hp := hp b4 hb_5
  refine TL.norm (L' := [rgF (R3.add_os b4 (⟨a1, 2, 0, 0, 0, 0, 0⟩ : QOp))]) rfl ?_
  obtain ⟨x5, hy_6, hp⟩ := bO' hp
  refine TL.callC (vs := [ptrV a1, .pointer (some ⟨b4, 0, none⟩)]) (R := deque_Deque_begin.R x5) [rgF (R3.add_os b4 (⟨a1, 2, 0, 0, 0, 0, 0⟩ : QOp))] [] rfl cb_67 (ltb rfl) (mc rfl (mc rfl m0)) (fun w hw => deque_Deque_begin_ok (a1 := a1) (a2 := (some b4)) (R4 := (R3.add_os b4 (⟨a1, 2, 0, 0, 0, 0, 0⟩ : QOp))) hy_6 hw) fun v A' hR_7 => ?_
  obtain ⟨v6, F7, rfl, rfl, h8⟩ := hR_7
  refine TL.norm (L' := [F7, rgF x5.2.2]) rfl ?_
  refine TL.v (ltb rfl) (rv_extract (vs := #[ptrV x5.1, v6]) (v := ptrV x5.1) rfl rfl) ?_
  refine TL.v (ltb rfl) (rv_extract (vs := #[ptrV x5.1, v6]) (v := v6) rfl rfl) ?_
  refine TL.v (ltb rfl) (rv_as (v := ptrV x5.1) rfl) ?_
  refine TL.v (ltb rfl) (rv_as (v := v6) rfl) ?_
  refine TL.nil ?_
  refine TC.go hK_4 ?_
  refine TC.ret ?_
  exact fun w hw => retOk ⟨(x5.1, x5.2.1, x5.2.2), hp, v6, F7, (tu2 rfl rfl).symm, rfl, h8⟩ (hw.pick [0, 0])

/-! ### (*fettle/deque.Deque).Steal -/
abbrev deque_Deque_Steal.R (Q : (Option Nat × Rgn) → Prop) (v : Value) (A : List FP) : Prop := ∃ r, Q r ∧ ptrV r.1 = v ∧ A = [rgF r.2]
def deque_Deque_Steal (a1 : Option Nat) (R3 : Rgn) : D (Option Nat × Rgn) :=
  freshD (Rgn.names R3) fun b4 =>
  rD ((some b4), (R3.add_os b4 (⟨a1, 3, 0, 0, 0, 0, 0⟩ : QOp)))
theorem deque_Deque_Steal_ok {E : World} {H : FP} {w : World} {a1 : Option Nat} {R3 : Rgn} {Q : (Option Nat × Rgn) → Prop}  (hp : deque_Deque_Steal a1 R3 Q) (hst : St E H [rgF R3] w) :
    Fn Try.prog 36 #[ptrV a1] w fun v w' => ∃ A, deque_Deque_Steal.R Q v A ∧ St E H A w' := by
  refine Fn.body (fn := Try.f36) (args := [ptrV a1]) E H [rgF R3] [.tmp 2] 6 Try.func36 rfl rfl rfl rfl (leb rfl) hst ?_
  unfold deque_Deque_Steal at hp
  refine TC.seq fun K_1 hK_2 => ?_
  refine TC.region ?_
  refine TL.v (ltb rfl) (rv_as (v := .pointer none) rfl) ?_
  refine TL.nil ?_
  refine TC.go hK_2 ?_
  refine TC.seq fun K_3 hK_4 => ?_
  refine TC.region ?_
  refine TL.v (ltb rfl) (rv_mv (v := ptrV a1) rfl) ?_
  refine TL.v (ltb rfl) (rv_bv (vs := [(0, ptrV a1), (1, .int .i64 3)]) (ds := [ptrV a1, .int .i64 3, .int .i64 0, .int .i64 0, .int .i64 0, .int .i64 0, .int .i64 0]) (pc rfl (pc rfl p0)) (fun w => by kernel_rfl)) ?_
  refine TL.boxR (cs := [ptrV a1, .int .i64 3, .int .i64 0, .int .i64 0, .int .i64 0, .int .i64 0, .int .i64 0]) (v := .agg #[ptrV a1, .int .i64 3, .int .i64 0, .int .i64 0, .int .i64 0, .int .i64 0, .int .i64 0]) (F' := fun b4 => rgF (R3.add_os b4 (⟨a1, 3, 0, 0, 0, 0, 0⟩ : QOp))) 0 rfl (ltb rfl) rfl rfl (add_os_perm R3 (⟨a1, 3, 0, 0, 0, 0, 0⟩ : QOp) rfl) fun b4 hb_5 => ?_
  have hp := hp b4 hb_5
  refine TL.norm (L' := [rgF (R3.add_os b4 (⟨a1, 3, 0, 0, 0, 0, 0⟩ : QOp))]) rfl ?_
  refine TL.v (ltb rfl) (rv_as (v := .pointer (some ⟨b4, 0, none⟩)) rfl) ?_
  refine TL.nil ?_
  refine TC.go hK_4 ?_
  refine TC.ret ?_
  exact fun w hw => retOk ⟨((some b4), (R3.add_os b4 (⟨a1, 3, 0, 0, 0, 0, 0⟩ : QOp))), hp, rfl, rfl⟩ (hw.pick [0])

/-! ### fettle/fettlelaw11.begin -/
abbrev fettlelaw11_begin.R (Q : (Option Nat × Rgn) → Prop) (v : Value) (A : List FP) : Prop := ∃ r, Q r ∧ ptrV r.1 = v ∧ A = [rgF r.2]
def fettlelaw11_begin.jn18  (R7 : Rgn) (x8 : Option Nat) : D (Option Nat × Rgn) :=
  rD (x8, R7)
def fettlelaw11_begin (a1 : Option Nat) (a2 : Int) (a3 : Int) (R5 : Rgn) : D (Option Nat × Rgn) :=
  if a2 = 2 then
    bD (deque_Deque_Steal a1 R5) fun x6 =>
    rD (x6.1, x6.2)
  else
    if a2 = 0 then
      bD (deque_Deque_Push a1 a3 R5) fun x9 =>
      fettlelaw11_begin.jn18 x9.2.2 x9.1
    else
      bD (deque_Deque_Pop a1 R5) fun x13 =>
      fettlelaw11_begin.jn18 x13.2.2 x13.1
theorem fettlelaw11_begin_ok {E : World} {H : FP} {w : World} {a1 : Option Nat} {a2 : Int} {a3 : Int} {R5 : Rgn} {Q : (Option Nat × Rgn) → Prop}  (hp : fettlelaw11_begin a1 a2 a3 R5 Q) (hst : St E H [rgF R5] w) :
    Fn Try.prog 29 #[ptrV a1, .int .i64 a2, .int .i64 a3] w fun v w' => ∃ A, fettlelaw11_begin.R Q v A ∧ St E H A w' := by
  refine Fn.body (fn := Try.f29) (args := [ptrV a1, .int .i64 a2, .int .i64 a3]) E H [rgF R5] [.tmp 6] 26 Try.func29 rfl rfl rfl rfl (leb rfl) hst ?_
  unfold fettlelaw11_begin at hp
  refine TC.seq fun K_1 hK_2 => ?_
  refine TC.region ?_
  refine TL.v (ltb rfl) (rv_as (v := .pointer none) rfl) ?_
  refine TL.nil ?_
  refine TC.go hK_2 ?_
  refine TC.seq fun K_3 hK_4 => ?_
  refine TC.seq fun K_5 hK_6 => ?_
  refine TC.region ?_
  refine TL.v (ltb rfl) (rv_mv (v := .int .i64 a2) rfl) ?_
  refine TL.v (ltb rfl) (rv_eql (k := .i64) (m := a2) (n := 2) rfl rfl) ?_
  refine TL.nil ?_
  refine TC.go hK_6 ?_
  by_cases hc_7 : a2 = 2
  · rw [if_pos hc_7] at hp
    refine TC.condT (bT hc_7) ?_
    refine TC.seq fun K_8 hK_9 => ?_
    refine TC.region ?_
    refine TL.v (ltb rfl) (rv_mv (v := ptrV a1) rfl) ?_
    have hp := bD' hp
    refine TL.callC (vs := [ptrV a1]) (R := deque_Deque_Steal.R _) [rgF R5] [] rfl cb_36 (ltb rfl) (mc rfl m0) (fun w hw => deque_Deque_Steal_ok (a1 := a1) (R3 := R5) hp hw) fun v A' hR_11 => ?_
    obtain ⟨x6, hp, rfl, rfl⟩ := hR_11
    refine TL.norm (L' := [rgF x6.2]) rfl ?_
    refine TL.v (ltb rfl) (rv_as (v := ptrV x6.1) rfl) ?_
    refine TL.nil ?_
    refine TC.go hK_9 ?_
    refine TC.ret ?_
    exact fun w hw => retOk ⟨(x6.1, x6.2), hp, rfl, rfl⟩ (hw.pick [0])
  · rw [if_neg hc_7] at hp
    refine TC.condF (bF hc_7) ?_
    refine TC.skip ?_
    refine TC.go hK_4 ?_
    refine TC.seq fun K_12 hK_13 => ?_
    refine TC.region ?_
    refine TL.v (ltb rfl) (rv_as (v := .pointer none) rfl) ?_
    refine TL.nil ?_
    refine TC.go hK_13 ?_
    refine TC.seq fun K_14 hK_15 => ?_
    have hJ_18 : ∀ (R7 : Rgn) (x8 : Option Nat) (e_16 : Env) (h_17 : e_16 7 = ptrV x8) (hp : fettlelaw11_begin.jn18 R7 x8 Q), ∀ w, St E H [rgF R7] w → K_14 e_16 w := by
      intro R7 x8 e_16 h_17 hp
      unfold fettlelaw11_begin.jn18 at hp
      refine TC.go hK_15 ?_
      refine TC.seq fun K_19 hK_20 => ?_
      refine TC.region ?_
      refine TL.v (ltb rfl) (rv_mv (v := ptrV x8) h_17) ?_
      refine TL.v (ltb rfl) (rv_as (v := ptrV x8) rfl) ?_
      refine TL.nil ?_
      refine TC.go hK_20 ?_
      refine TC.ret ?_
      exact fun w hw => retOk ⟨(x8, R7), hp, rfl, rfl⟩ (hw.pick [0])
    refine TC.seq fun K_21 hK_22 => ?_
    refine TC.region ?_
    refine TL.v (ltb rfl) (rv_mv (v := .int .i64 a2) rfl) ?_
    refine TL.v (ltb rfl) (rv_eql (k := .i64) (m := a2) (n := 0) rfl rfl) ?_
    refine TL.nil ?_
    refine TC.go hK_22 ?_
    by_cases hc_23 : a2 = 0
    · rw [if_pos hc_23] at hp
      refine TC.condT (bT hc_23) ?_
      refine TC.region ?_
      refine TL.v (ltb rfl) (rv_mv (v := ptrV a1) rfl) ?_
      refine TL.v (ltb rfl) (rv_mv (v := .int .i64 a3) rfl) ?_
      have hp := bD' hp
      refine TL.callC (vs := [ptrV a1, .int .i64 a3]) (R := deque_Deque_Push.R _) [rgF R5] [] rfl cb_34 (ltb rfl) (mc rfl (mc rfl m0)) (fun w hw => deque_Deque_Push_ok (a1 := a1) (a2 := a3) (R4 := R5) hp hw) fun v A' hR_25 => ?_
      obtain ⟨x9, hp, v10, F11, rfl, rfl, h12⟩ := hR_25
      refine TL.norm (L' := [F11, rgF x9.2.2]) rfl ?_
      refine TL.v (ltb rfl) (rv_mv (v := .tuple #[ptrV x9.1, v10]) rfl) ?_
      refine TL.v (ltb rfl) (rv_extract (vs := #[ptrV x9.1, v10]) (v := ptrV x9.1) rfl rfl) ?_
      refine TL.v (ltb rfl) (rv_extract (vs := #[ptrV x9.1, v10]) (v := v10) rfl rfl) ?_
      refine TL.v (ltb rfl) (rv_as (v := ptrV x9.1) rfl) ?_
      refine TL.nil ?_
      refine fun w hw => hJ_18 x9.2.2 x9.1 _ ?_ hp w (hw.pick [1])
      · exact rfl
    · rw [if_neg hc_23] at hp
      refine TC.condF (bF hc_23) ?_
      refine TC.region ?_
      refine TL.v (ltb rfl) (rv_mv (v := ptrV a1) rfl) ?_
      have hp := bD' hp
      refine TL.callC (vs := [ptrV a1]) (R := deque_Deque_Pop.R _) [rgF R5] [] rfl cb_63 (ltb rfl) (mc rfl m0) (fun w hw => deque_Deque_Pop_ok (a1 := a1) (R3 := R5) hp hw) fun v A' hR_27 => ?_
      obtain ⟨x13, hp, v14, F15, rfl, rfl, h16⟩ := hR_27
      refine TL.norm (L' := [F15, rgF x13.2.2]) rfl ?_
      refine TL.v (ltb rfl) (rv_mv (v := .tuple #[ptrV x13.1, v14]) rfl) ?_
      refine TL.v (ltb rfl) (rv_extract (vs := #[ptrV x13.1, v14]) (v := ptrV x13.1) rfl rfl) ?_
      refine TL.v (ltb rfl) (rv_extract (vs := #[ptrV x13.1, v14]) (v := v14) rfl rfl) ?_
      refine TL.v (ltb rfl) (rv_as (v := ptrV x13.1) rfl) ?_
      refine TL.nil ?_
      refine fun w hw => hJ_18 x13.2.2 x13.1 _ ?_ hp w (hw.pick [1])
      · exact rfl

/-! ### fettle/fettlelaw11.up -/
abbrev fettlelaw11_up.R (Q : Bool → Prop) (v : Value) (A : List FP) : Prop := ∃ r, Q r ∧ .bool r = v ∧ A = []
def fettlelaw11_up.jn78 (x8 : Option Nat × GErr × Rgn) (t12 : (Bool × Rgn)) : D Bool :=
  if t12.1 = true then
    rD false
  else
    bO (deque_Op_Result x8.1 t12.2) fun x13 =>
    rD (decide (x13.1 = 1 ∧ x13.2 = 7))
def fettlelaw11_up.jn82 (x2 : Option Nat × Rgn) (t7 : (Bool × Rgn)) : D Bool :=
  if t7.1 = true then
    rD false
  else
    bD (deque_Deque_Pop x2.1 t7.2) fun x8 =>
    bD (if x8.1 = none ∨ (¬ x8.2.1 = GErr.no) then rD (true, x8.2.2) else bO (fettlelaw11_done x2.1 x8.1 x8.2.2) fun x14 =>
    rD ((!x14.1), x14.2)) fun t12 =>
    fettlelaw11_up.jn78 x8 t12
def fettlelaw11_up  : D Bool :=
  bD (deque_New Rgn.zero) fun x2 =>
  if x2.1 = none then
    rD false
  else
    bD (deque_Deque_Push x2.1 7 x2.2) fun x3 =>
    bD (if x3.1 = none ∨ (¬ x3.2.1 = GErr.no) then rD (true, x3.2.2) else bO (fettlelaw11_done x2.1 x3.1 x3.2.2) fun x15 =>
    rD ((!x15.1), x15.2)) fun t7 =>
    fettlelaw11_up.jn82 x2 t7
theorem fettlelaw11_up_ok {E : World} {H : FP} {w : World} {Q : Bool → Prop}  (hp : fettlelaw11_up Q) (hst : St E H [] w) :
    Fn Try.prog 25 #[] w fun v w' => ∃ A, fettlelaw11_up.R Q v A ∧ St E H A w' := by
  refine Fn.body (fn := Try.f25) (args := []) E H [] [.tmp 0] 56 Try.func25 rfl rfl rfl rfl (leb rfl) hst ?_
  refine TC.perm (L' := [rgF Rgn.zero]) (List.Perm.refl _) ?_
  unfold fettlelaw11_up at hp
  refine TC.seq fun K_1 hK_2 => ?_
  refine TC.region ?_
  refine TL.v (ltb rfl) (rv_as (v := .bool false) rfl) ?_
  refine TL.nil ?_
  refine TC.go hK_2 ?_
  refine TC.seq fun K_3 hK_4 => ?_
  refine TC.region ?_
  have hp := bD' hp
  refine TL.callC (vs := []) (R := deque_New.R _) [rgF Rgn.zero] [] rfl cb_26 (ltb rfl) m0 (fun w hw => deque_New_ok (R2 := Rgn.zero) hp hw) fun v A' hR_6 => ?_
  obtain ⟨x2, hp, rfl, rfl⟩ := hR_6
  refine TL.norm (L' := [rgF x2.2]) rfl ?_
  refine TL.v (ltb rfl) (rv_as (v := ptrV x2.1) rfl) ?_
  refine TL.nil ?_
  refine TC.go hK_4 ?_
  refine TC.seq fun K_7 hK_8 => ?_
  refine TC.seq fun K_9 hK_10 => ?_
  refine TC.region ?_
  refine TL.v (ltb rfl) (rv_mv (v := ptrV x2.1) rfl) ?_
  refine TL.v (ltb rfl) (rv_eqlPN (p := x2.1) pn_37 rfl rfl) ?_
  refine TL.nil ?_
  refine TC.go hK_10 ?_
  by_cases hc_11 : x2.1 = none
  · rw [if_pos hc_11] at hp
    refine TC.condT (bT hc_11) ?_
    refine TC.seq fun K_12 hK_13 => ?_
    refine TC.region ?_
    refine TL.v (ltb rfl) (rv_as (v := .bool false) rfl) ?_
    refine TL.nil ?_
    refine TC.go hK_13 ?_
    refine TC.ret ?_
    exact fun w hw => retOk ⟨false, hp, rfl, rfl⟩ (hw.pick [])
  · rw [if_neg hc_11] at hp
    refine TC.condF (bF hc_11) ?_
    refine TC.skip ?_
    refine TC.go hK_8 ?_
    refine TC.seq fun K_14 hK_15 => ?_
    refine TC.region ?_
    refine TL.v (ltb rfl) (rv_mv (v := ptrV x2.1) rfl) ?_
    have hp := bD' hp
    refine TL.callC (vs := [ptrV x2.1, .int .i64 7]) (R := deque_Deque_Push.R _) [rgF x2.2] [] rfl cb_34 (ltb rfl) (mc rfl (mc rfl m0)) (fun w hw => deque_Deque_Push_ok (a1 := x2.1) (a2 := 7) (R4 := x2.2) hp hw) fun v A' hR_17 => ?_
    obtain ⟨x3, hp, v4, F5, rfl, rfl, h6⟩ := hR_17
    refine TL.norm (L' := [F5, rgF x3.2.2]) rfl ?_
    refine TL.v (ltb rfl) (rv_mv (v := .tuple #[ptrV x3.1, v4]) rfl) ?_
    refine TL.v (ltb rfl) (rv_extract (vs := #[ptrV x3.1, v4]) (v := ptrV x3.1) rfl rfl) ?_
    refine TL.v (ltb rfl) (rv_extract (vs := #[ptrV x3.1, v4]) (v := v4) rfl rfl) ?_
    refine TL.v (ltb rfl) (rv_as (v := ptrV x3.1) rfl) ?_
    refine TL.v (ltb rfl) (rv_as (v := v4) rfl) ?_
    refine TL.nil ?_
    refine TC.go hK_15 ?_
    refine TC.seq fun K_18 hK_19 => ?_
    refine TC.seq fun K_20 hK_21 => ?_
    refine TC.region ?_
    refine TL.v (ltb rfl) (rv_mv (v := ptrV x3.1) rfl) ?_
    refine TL.v (ltb rfl) (rv_eqlPN (p := x3.1) pn_44 rfl rfl) ?_
    refine TL.v (ltb rfl) (rv_mv (v := .bool (decide (x3.1 = none))) rfl) ?_
    refine TL.cut 3 fun K_22 hK_23 => ?_
    have hJ_24 : ∀ e_26 : Env, e_26 1 = ptrV x2.1 → e_26 2 = ptrV x3.1 → e_26 21 = .bool (decide (x3.1 = none ∨ (¬ x3.2.1 = GErr.no))) → ∀ w, St E H [F5, rgF x3.2.2] w → K_22 e_26 w := by
      intro e_26 h_27 h_28 h_29
      refine TL.go hK_23 ?_
      refine TL.v (ltb rfl) (rv_mv (v := .bool (decide (x3.1 = none ∨ (¬ x3.2.1 = GErr.no)))) h_29) ?_
      have hp := bD' hp
      refine TL.cut 5 fun K_30 hK_31 => ?_
      have hJ_32 : ∀ (t7 : (Bool × Rgn)), fettlelaw11_up.jn82 x2 t7 Q → ∀ e_34 : Env, e_34 1 = ptrV x2.1 → e_34 27 = .bool t7.1 → ∀ w, St E H [F5, rgF t7.2] w → K_30 e_34 w := by
        intro t7 hp e_34 h_35 h_36
        unfold fettlelaw11_up.jn82 at hp
        refine TL.go hK_31 ?_
        refine TL.nil ?_
        refine TC.go hK_21 ?_
        by_cases hc_37 : t7.1 = true
        · rw [if_pos hc_37] at hp
          refine TC.condT (h_36.trans (bbT hc_37)) ?_
          refine TC.seq fun K_38 hK_39 => ?_
          refine TC.region ?_
          refine TL.v (ltb rfl) (rv_as (v := .bool false) rfl) ?_
          refine TL.nil ?_
          refine TC.go hK_39 ?_
          refine TC.ret ?_
          exact fun w hw => retOk ⟨false, hp, rfl, rfl⟩ (hw.pick [])
        · rw [if_neg hc_37] at hp
          refine TC.condF (h_36.trans (bbF hc_37)) ?_
          refine TC.skip ?_
          refine TC.go hK_19 ?_
          refine TC.seq fun K_40 hK_41 => ?_
          refine TC.region ?_
          refine TL.v (ltb rfl) (rv_mv (v := ptrV x2.1) h_35) ?_
          refine TL.pk' [1, 0] (L' := [rgF t7.2, F5]) rfl ?_
          have hp := bD' hp
          refine TL.callC (vs := [ptrV x2.1]) (R := deque_Deque_Pop.R _) [rgF t7.2] [F5] rfl cb_63 (ltb rfl) (mc rfl m0) (fun w hw => deque_Deque_Pop_ok (a1 := x2.1) (R3 := t7.2) hp hw) fun v A' hR_43 => ?_
          obtain ⟨x8, hp, v9, F10, rfl, rfl, h11⟩ := hR_43
          refine TL.norm (L' := [F10, rgF x8.2.2, F5]) rfl ?_
          refine TL.v (ltb rfl) (rv_mv (v := .tuple #[ptrV x8.1, v9]) rfl) ?_
          refine TL.v (ltb rfl) (rv_extract (vs := #[ptrV x8.1, v9]) (v := ptrV x8.1) rfl rfl) ?_
          refine TL.v (ltb rfl) (rv_extract (vs := #[ptrV x8.1, v9]) (v := v9) rfl rfl) ?_
          refine TL.v (ltb rfl) (rv_as (v := ptrV x8.1) rfl) ?_
          refine TL.v (ltb rfl) (rv_as (v := v9) rfl) ?_
          refine TL.nil ?_
          refine TC.go hK_41 ?_
          refine TC.seq fun K_44 hK_45 => ?_
          refine TC.seq fun K_46 hK_47 => ?_
          refine TC.region ?_
          refine TL.v (ltb rfl) (rv_mv (v := ptrV x8.1) rfl) ?_
          refine TL.v (ltb rfl) (rv_eqlPN (p := x8.1) pn_44 rfl rfl) ?_
          refine TL.v (ltb rfl) (rv_mv (v := .bool (decide (x8.1 = none))) rfl) ?_
          refine TL.cut 3 fun K_48 hK_49 => ?_
          have hJ_50 : ∀ e_52 : Env, e_52 1 = ptrV x2.1 → e_52 4 = ptrV x8.1 → e_52 38 = .bool (decide (x8.1 = none ∨ (¬ x8.2.1 = GErr.no))) → ∀ w, St E H [F10, rgF x8.2.2, F5] w → K_48 e_52 w := by
            intro e_52 h_53 h_54 h_55
            refine TL.go hK_49 ?_
            refine TL.v (ltb rfl) (rv_mv (v := .bool (decide (x8.1 = none ∨ (¬ x8.2.1 = GErr.no)))) h_55) ?_
            have hp := bD' hp
            refine TL.cut 5 fun K_56 hK_57 => ?_
            have hJ_58 : ∀ (t12 : (Bool × Rgn)), fettlelaw11_up.jn78 x8 t12 Q → ∀ e_60 : Env, e_60 4 = ptrV x8.1 → e_60 44 = .bool t12.1 → ∀ w, St E H [F10, rgF t12.2, F5] w → K_56 e_60 w := by
              intro t12 hp e_60 h_61 h_62
              unfold fettlelaw11_up.jn78 at hp
              refine TL.go hK_57 ?_
              refine TL.nil ?_
              refine TC.go hK_47 ?_
              by_cases hc_63 : t12.1 = true
              · rw [if_pos hc_63] at hp
                refine TC.condT (h_62.trans (bbT hc_63)) ?_
                refine TC.seq fun K_64 hK_65 => ?_
                refine TC.region ?_
                refine TL.v (ltb rfl) (rv_as (v := .bool false) rfl) ?_
                refine TL.nil ?_
                refine TC.go hK_65 ?_
                refine TC.ret ?_
                exact fun w hw => retOk ⟨false, hp, rfl, rfl⟩ (hw.pick [])
              · rw [if_neg hc_63] at hp
                refine TC.condF (h_62.trans (bbF hc_63)) ?_
                refine TC.skip ?_
                refine TC.go hK_45 ?_
                refine TC.seq fun K_66 hK_67 => ?_
                refine TC.region ?_
                refine TL.v (ltb rfl) (rv_mv (v := ptrV x8.1) h_61) ?_
                refine TL.pk' [1, 0, 0] (L' := [rgF t12.2, F10, F5]) rfl ?_
                obtain ⟨x13, hy_68, hp⟩ := bO' hp
                refine TL.callC (vs := [ptrV x8.1]) (R := deque_Op_Result.R t12.2 x13) [rgF t12.2] [F10, F5] rfl cb_31 (ltb rfl) (mc rfl m0) (fun w hw => deque_Op_Result_ok (a1 := x8.1) (R3 := t12.2) hy_68 hw) fun v A' hR_69 => ?_
                obtain ⟨rfl, rfl⟩ := hR_69
                refine TL.norm (L' := [rgF t12.2, F10, F5]) rfl ?_
                refine TL.v (ltb rfl) (rv_mv (v := .tuple #[.int .i64 x13.1, .int .i64 x13.2]) rfl) ?_
                refine TL.v (ltb rfl) (rv_extract (vs := #[.int .i64 x13.1, .int .i64 x13.2]) (v := .int .i64 x13.1) rfl rfl) ?_
                refine TL.v (ltb rfl) (rv_extract (vs := #[.int .i64 x13.1, .int .i64 x13.2]) (v := .int .i64 x13.2) rfl rfl) ?_
                refine TL.v (ltb rfl) (rv_as (v := .int .i64 x13.1) rfl) ?_
                refine TL.v (ltb rfl) (rv_as (v := .int .i64 x13.2) rfl) ?_
                refine TL.nil ?_
                refine TC.go hK_67 ?_
                refine TC.seq fun K_70 hK_71 => ?_
                refine TC.region ?_
                refine TL.v (ltb rfl) (rv_mv (v := .int .i64 x13.1) rfl) ?_
                refine TL.v (ltb rfl) (rv_eql (k := .i64) (m := x13.1) (n := 1) rfl rfl) ?_
                refine TL.v (ltb rfl) (rv_mv (v := .bool (decide (x13.1 = 1))) rfl) ?_
                refine TL.cut 3 fun K_72 hK_73 => ?_
                have hJ_74 : ∀ e_76 : Env, e_76 55 = .bool (decide (x13.1 = 1 ∧ x13.2 = 7)) → ∀ w, St E H [rgF t12.2, F10, F5] w → K_72 e_76 w := by
                  intro e_76 h_77
                  refine TL.go hK_73 ?_
                  refine TL.v (ltb rfl) (rv_as (v := .bool (decide (x13.1 = 1 ∧ x13.2 = 7))) h_77) ?_
                  refine TL.nil ?_
                  refine TC.go hK_71 ?_
                  refine TC.ret ?_
                  exact fun w hw => retOk ⟨(decide (x13.1 = 1 ∧ x13.2 = 7)), hp, rfl, rfl⟩ (hw.pick [])
                by_cases hc_75 : x13.1 = 1
                · refine TL.gyes true (yieldE_of rfl (bT hc_75)) rfl ?_
                  refine TL.v (ltb rfl) (rv_mv (v := .int .i64 x13.2) rfl) ?_
                  refine TL.gyes true (yieldE_of rfl (bT hc_75)) rfl ?_
                  refine TL.v (ltb rfl) (rv_eql (k := .i64) (m := x13.2) (n := 7) rfl rfl) ?_
                  refine TL.v (ltb rfl) (rv_pickT true (bT hc_75) rfl (v := .bool (decide (x13.2 = 7))) rfl) ?_
                  refine TL.nil (hJ_74 _ ?_)
                  · exact (bAt hc_75)
                · refine TL.gno false rfl (fun d hd => by cases hd; exact ltb rfl) (yieldE_of rfl (bF hc_75)) rfl ?_
                  refine TL.gno false rfl (fun d hd => by cases hd; exact ltb rfl) (yieldE_of rfl (bF hc_75)) rfl ?_
                  refine TL.v (ltb rfl) (rv_pickF false (bF hc_75) rfl (v := .bool false) rfl) ?_
                  refine TL.nil (hJ_74 _ ?_)
                  · exact (bAf hc_75)
            by_cases hc_59 : x8.1 = none ∨ (¬ x8.2.1 = GErr.no)
            · rw [if_pos hc_59] at hp
              refine TL.gno true rfl (fun d hd => by cases hd; exact ltb rfl) (yieldE_of rfl (bT hc_59)) rfl ?_
              refine TL.gno true rfl (fun d hd => by cases hd; exact ltb rfl) (yieldE_of rfl (bT hc_59)) rfl ?_
              refine TL.gno true rfl (fun d hd => by cases hd; exact ltb rfl) (yieldE_of rfl (bT hc_59)) rfl ?_
              refine TL.gno true rfl (fun d hd => by cases hd; exact ltb rfl) (yieldE_of rfl (bT hc_59)) rfl ?_
              refine TL.v (ltb rfl) (rv_pickT true (bT hc_59) rfl (v := .bool true) rfl) ?_
              refine TL.nil (hJ_58 (true, x8.2.2) hp _ ?_ ?_)
              · exact h_54
              · exact rfl
            · rw [if_neg hc_59] at hp
              refine TL.gyes false (yieldE_of rfl (bF hc_59)) rfl ?_
              refine TL.v (ltb rfl) (rv_mv (v := ptrV x2.1) h_53) ?_
              refine TL.gyes false (yieldE_of rfl (bF hc_59)) rfl ?_
              refine TL.v (ltb rfl) (rv_mv (v := ptrV x8.1) h_54) ?_
              refine TL.gyes false (yieldE_of rfl (bF hc_59)) rfl ?_
              refine TL.pk' [1, 0, 0] (L' := [rgF x8.2.2, F10, F5]) rfl ?_
              obtain ⟨x14, hy_80, hp⟩ := bO' hp
              refine TL.callC (vs := [ptrV x2.1, ptrV x8.1]) (R := fettlelaw11_done.R x14) [rgF x8.2.2] [F10, F5] rfl cb_35 (ltb rfl) (mc rfl (mc rfl m0)) (fun w hw => fettlelaw11_done_ok (a1 := x2.1) (a2 := x8.1) (R4 := x8.2.2) hy_80 hw) fun v A' hR_81 => ?_
              obtain ⟨rfl, rfl⟩ := hR_81
              refine TL.norm (L' := [rgF x14.2, F10, F5]) rfl ?_
              refine TL.gyes false (yieldE_of rfl (bF hc_59)) rfl ?_
              refine TL.v (ltb rfl) (rv_not (b := x14.1) rfl) ?_
              refine TL.v (ltb rfl) (rv_pickF false (bF hc_59) rfl (v := .bool (!x14.1)) rfl) ?_
              refine TL.pk' [1, 0, 0] (L' := [F10, rgF x14.2, F5]) rfl ?_
              refine TL.nil (hJ_58 ((!x14.1), x14.2) hp _ ?_ ?_)
              · exact h_54
              · exact rfl
          by_cases hc_51 : x8.1 = none
          · refine TL.gno true rfl (fun d hd => by cases hd; exact ltb rfl) (yieldE_of rfl (bT hc_51)) rfl ?_
            refine TL.gno true rfl (fun d hd => by cases hd; exact ltb rfl) (yieldE_of rfl (bT hc_51)) rfl ?_
            refine TL.v (ltb rfl) (rv_pickT true (bT hc_51) rfl (v := .bool true) rfl) ?_
            refine TL.nil (hJ_50 _ ?_ ?_ ?_)
            · exact h_35
            · exact rfl
            · exact (bOt hc_51)
          · refine TL.gyes false (yieldE_of rfl (bF hc_51)) rfl ?_
            refine TL.v (ltb rfl) (rv_mv (v := v9) rfl) ?_
            refine TL.gyes false (yieldE_of rfl (bF hc_51)) rfl ?_
            refine TL.v (ltb rfl) (rv_neqEN ifc_49 h11 rfl) ?_
            refine TL.v (ltb rfl) (rv_pickF false (bF hc_51) rfl (v := .bool (decide (¬ x8.2.1 = GErr.no))) rfl) ?_
            refine TL.nil (hJ_50 _ ?_ ?_ ?_)
            · exact h_35
            · exact rfl
            · exact (bOf hc_51)
      by_cases hc_33 : x3.1 = none ∨ (¬ x3.2.1 = GErr.no)
      · rw [if_pos hc_33] at hp
        refine TL.gno true rfl (fun d hd => by cases hd; exact ltb rfl) (yieldE_of rfl (bT hc_33)) rfl ?_
        refine TL.gno true rfl (fun d hd => by cases hd; exact ltb rfl) (yieldE_of rfl (bT hc_33)) rfl ?_
        refine TL.gno true rfl (fun d hd => by cases hd; exact ltb rfl) (yieldE_of rfl (bT hc_33)) rfl ?_
        refine TL.gno true rfl (fun d hd => by cases hd; exact ltb rfl) (yieldE_of rfl (bT hc_33)) rfl ?_
        refine TL.v (ltb rfl) (rv_pickT true (bT hc_33) rfl (v := .bool true) rfl) ?_
        refine TL.nil (hJ_32 (true, x3.2.2) hp _ ?_ ?_)
        · exact h_27
        · exact rfl
      · rw [if_neg hc_33] at hp
        refine TL.gyes false (yieldE_of rfl (bF hc_33)) rfl ?_
        refine TL.v (ltb rfl) (rv_mv (v := ptrV x2.1) h_27) ?_
        refine TL.gyes false (yieldE_of rfl (bF hc_33)) rfl ?_
        refine TL.v (ltb rfl) (rv_mv (v := ptrV x3.1) h_28) ?_
        refine TL.gyes false (yieldE_of rfl (bF hc_33)) rfl ?_
        refine TL.pk' [1, 0] (L' := [rgF x3.2.2, F5]) rfl ?_
        obtain ⟨x15, hy_84, hp⟩ := bO' hp
        refine TL.callC (vs := [ptrV x2.1, ptrV x3.1]) (R := fettlelaw11_done.R x15) [rgF x3.2.2] [F5] rfl cb_35 (ltb rfl) (mc rfl (mc rfl m0)) (fun w hw => fettlelaw11_done_ok (a1 := x2.1) (a2 := x3.1) (R4 := x3.2.2) hy_84 hw) fun v A' hR_85 => ?_
        obtain ⟨rfl, rfl⟩ := hR_85
        refine TL.norm (L' := [rgF x15.2, F5]) rfl ?_
        refine TL.gyes false (yieldE_of rfl (bF hc_33)) rfl ?_
        refine TL.v (ltb rfl) (rv_not (b := x15.1) rfl) ?_
        refine TL.v (ltb rfl) (rv_pickF false (bF hc_33) rfl (v := .bool (!x15.1)) rfl) ?_
        refine TL.pk' [1, 0] (L' := [F5, rgF x15.2]) rfl ?_
        refine TL.nil (hJ_32 ((!x15.1), x15.2) hp _ ?_ ?_)
        · exact h_27
        · exact rfl
    by_cases hc_25 : x3.1 = none
    · refine TL.gno true rfl (fun d hd => by cases hd; exact ltb rfl) (yieldE_of rfl (bT hc_25)) rfl ?_
      refine TL.gno true rfl (fun d hd => by cases hd; exact ltb rfl) (yieldE_of rfl (bT hc_25)) rfl ?_
      refine TL.v (ltb rfl) (rv_pickT true (bT hc_25) rfl (v := .bool true) rfl) ?_
      refine TL.nil (hJ_24 _ ?_ ?_ ?_)
      · exact rfl
      · exact rfl
      · exact (bOt hc_25)
    · refine TL.gyes false (yieldE_of rfl (bF hc_25)) rfl ?_
      refine TL.v (ltb rfl) (rv_mv (v := v4) rfl) ?_
      refine TL.gyes false (yieldE_of rfl (bF hc_25)) rfl ?_
      refine TL.v (ltb rfl) (rv_neqEN ifc_49 h6 rfl) ?_
      refine TL.v (ltb rfl) (rv_pickF false (bF hc_25) rfl (v := .bool (decide (¬ x3.2.1 = GErr.no))) rfl) ?_
      refine TL.nil (hJ_24 _ ?_ ?_ ?_)
      · exact rfl
      · exact rfl
      · exact (bOf hc_25)

/-! ### fettle/fettlelaw11.left -/
abbrev fettlelaw11_left.R (Q : (Bool × Rgn) → Prop) (v : Value) (A : List FP) : Prop := ∃ r, Q r ∧ .bool r.1 = v ∧ A = [rgF r.2]
def fettlelaw11_left.nx15  (R9 : Rgn) : D (Bool × Rgn) :=
  rD (true, R9)
def fettlelaw11_left.jn83 (x8 : Int) (t14 : (Bool × Rgn)) (t16 : Bool) : D (Ex (Ex (Bool × Rgn) Rgn) (Rgn × Int)) :=
  if t16 = true then
    rD (.ret (.ret (false, t14.2)))
  else
    rD (.go (t14.2, (w64 (x8 - 1))))
def fettlelaw11_left.jn86 (a2 : List Int) (x8 : Int) (x10 : Option Nat × GErr × Rgn) (t14 : (Bool × Rgn)) : D (Ex (Ex (Bool × Rgn) Rgn) (Rgn × Int)) :=
  if t14.1 = true then
    rD (.ret (.ret (false, t14.2)))
  else
    bO (deque_Op_Result x10.1 t14.2) fun x15 =>
    if x8 = 0 then
      rD (.ret (.ret ((decide (x15.1 = 2)), t14.2)))
    else
      bD (if ¬ x15.1 = 1 then rD true else bO (idx a2 (w64 (x8 - 1))) fun x17 =>
      rD (decide (¬ x15.2 = x17))) fun t16 =>
      fettlelaw11_left.jn83 x8 t14 t16
def fettlelaw11_left.bd15 (a1 : Option Nat) (a2 : List Int) (R7 : Rgn) (x8 : Int) : D (Ex (Ex (Bool × Rgn) Rgn) (Rgn × Int)) :=
  if x8 ≥ 0 then
    bD (deque_Deque_Pop a1 R7) fun x10 =>
    bD (if x10.1 = none ∨ (¬ x10.2.1 = GErr.no) then rD (true, x10.2.2) else bO (fettlelaw11_done a1 x10.1 x10.2.2) fun x23 =>
    rD ((!x23.1), x23.2)) fun t14 =>
    fettlelaw11_left.jn86 a2 x8 x10 t14
  else
    rD (.ret (.go R7))
def fettlelaw11_left (a1 : Option Nat) (a2 : List Int) (R6 : Rgn) : D (Bool × Rgn) :=
  bD (whlD (fun (s : (Rgn × Int)) => fettlelaw11_left.bd15 a1 a2 s.1 s.2) FUEL (R6, (len a2))) fun z =>
  match z with
    | .ret r => rD r
    | .go p => fettlelaw11_left.nx15 p
theorem fettlelaw11_left_ok {E : World} {H : FP} {w : World} {a1 : Option Nat} {a2 : List Int} {R6 : Rgn} {v3 : Value} {Q : (Bool × Rgn) → Prop} (h4 : SlI (kInt .i64) H a2 v3) (hp : fettlelaw11_left a1 a2 R6 Q) (hst : St E H [rgF R6] w) :
    Fn Try.prog 33 #[ptrV a1, v3] w fun v w' => ∃ A, fettlelaw11_left.R Q v A ∧ St E H A w' := by
  refine Fn.body (fn := Try.f33) (args := [ptrV a1, v3]) E H [rgF R6] [.tmp 4] 53 Try.func33 rfl rfl rfl rfl (leb rfl) hst ?_
  unfold fettlelaw11_left at hp
  refine TC.seq fun K_1 hK_2 => ?_
  refine TC.region ?_
  refine TL.v (ltb rfl) (rv_as (v := .bool false) rfl) ?_
  refine TL.nil ?_
  refine TC.go hK_2 ?_
  refine TC.seq fun K_3 hK_4 => ?_
  refine TC.seq fun K_5 hK_6 => ?_
  refine TC.region ?_
  refine TL.v (ltb rfl) (rv_mv (v := v3) rfl) ?_
  refine TL.v (ltb rfl) (rv_lenI (v := v3) Try.underlying22 rfl h4) ?_
  refine TL.v (ltb rfl) (rv_as (v := .int .i64 (len a2)) rfl) ?_
  refine TL.nil ?_
  refine TC.go hK_6 ?_
  refine TC.block ?_
  have hJ_19 : ∀ (R9 : Rgn) (e_16 : Env) (hp : fettlelaw11_left.nx15 R9 Q), ∀ w, St E H [rgF R9] w → K_3 e_16 w := by
    intro R9 e_16 hp
    unfold fettlelaw11_left.nx15 at hp
    refine TC.go hK_4 ?_
    refine TC.seq fun K_17 hK_18 => ?_
    refine TC.region ?_
    refine TL.v (ltb rfl) (rv_as (v := .bool true) rfl) ?_
    refine TL.nil ?_
    refine TC.go hK_18 ?_
    refine TC.ret ?_
    exact fun w hw => retOk ⟨(true, R9), hp, rfl, rfl⟩ (hw.pick [0])
  have hp := bD' hp
  refine TC.pk' [0] (L' := [rgF R6]) rfl ?_
  refine TC.loopD (fun (s : (Rgn × Int)) (e_7 : Env) (L_90 : List FP) => ∃ (R7 : Rgn) (x8 : Int), s = (R7, x8) ∧ e_7 0 = ptrV a1 ∧ e_7 1 = v3 ∧ e_7 5 = .int .i64 x8 ∧ L_90 = [rgF R7]) ?_ FUEL _ _ _ hp ⟨R6, (len a2), rfl, rfl, rfl, rfl, rfl⟩
  rintro s e_7 L_90 ⟨R7, x8, rfl, h_8, h_9, h_10, rfl⟩ x_14 hp hx_15
  replace hp : fettlelaw11_left.bd15 a1 a2 R7 x8 x_14 := hp
  unfold fettlelaw11_left.bd15 at hp
  refine TC.seq fun K_20 hK_21 => ?_
  refine TC.seq fun K_22 hK_23 => ?_
  refine TC.region ?_
  refine TL.v (ltb rfl) (rv_mv (v := .int .i64 x8) h_10) ?_
  refine TL.v (ltb rfl) (rv_geq (k := .i64) (m := x8) (n := 0) rfl rfl) ?_
  refine TL.nil ?_
  refine TC.go hK_23 ?_
  by_cases hc_24 : x8 ≥ 0
  · rw [if_pos hc_24] at hp
    refine TC.condT (bT hc_24) ?_
    refine TC.skip ?_
    refine TC.go hK_21 ?_
    refine TC.seq fun K_25 hK_26 => ?_
    refine TC.block ?_
    refine TC.seq fun K_27 hK_28 => ?_
    refine TC.region ?_
    refine TL.v (ltb rfl) (rv_mv (v := ptrV a1) h_8) ?_
    have hp := bD' hp
    refine TL.callC (vs := [ptrV a1]) (R := deque_Deque_Pop.R _) [rgF R7] [] rfl cb_63 (ltb rfl) (mc rfl m0) (fun w hw => deque_Deque_Pop_ok (a1 := a1) (R3 := R7) hp hw) fun v A' hR_30 => ?_
    obtain ⟨x10, hp, v11, F12, rfl, rfl, h13⟩ := hR_30
    refine TL.norm (L' := [F12, rgF x10.2.2]) rfl ?_
    refine TL.v (ltb rfl) (rv_mv (v := .tuple #[ptrV x10.1, v11]) rfl) ?_
    refine TL.v (ltb rfl) (rv_extract (vs := #[ptrV x10.1, v11]) (v := ptrV x10.1) rfl rfl) ?_
    refine TL.v (ltb rfl) (rv_extract (vs := #[ptrV x10.1, v11]) (v := v11) rfl rfl) ?_
    refine TL.v (ltb rfl) (rv_as (v := ptrV x10.1) rfl) ?_
    refine TL.v (ltb rfl) (rv_as (v := v11) rfl) ?_
    refine TL.nil ?_
    refine TC.go hK_28 ?_
    refine TC.seq fun K_31 hK_32 => ?_
    refine TC.seq fun K_33 hK_34 => ?_
    refine TC.region ?_
    refine TL.v (ltb rfl) (rv_mv (v := ptrV x10.1) rfl) ?_
    refine TL.v (ltb rfl) (rv_eqlPN (p := x10.1) pn_44 rfl rfl) ?_
    refine TL.v (ltb rfl) (rv_mv (v := .bool (decide (x10.1 = none))) rfl) ?_
    refine TL.cut 3 fun K_35 hK_36 => ?_
    have hJ_37 : ∀ e_39 : Env, e_39 0 = ptrV a1 → e_39 1 = v3 → e_39 5 = .int .i64 x8 → e_39 6 = ptrV x10.1 → e_39 26 = .bool (decide (x10.1 = none ∨ (¬ x10.2.1 = GErr.no))) → ∀ w, St E H [F12, rgF x10.2.2] w → K_35 e_39 w := by
      intro e_39 h_40 h_41 h_42 h_43 h_44
      refine TL.go hK_36 ?_
      refine TL.v (ltb rfl) (rv_mv (v := .bool (decide (x10.1 = none ∨ (¬ x10.2.1 = GErr.no)))) h_44) ?_
      have hp := bD' hp
      refine TL.cut 5 fun K_45 hK_46 => ?_
      have hJ_47 : ∀ (t14 : (Bool × Rgn)), fettlelaw11_left.jn86 a2 x8 x10 t14 x_14 → ∀ e_49 : Env, e_49 0 = ptrV a1 → e_49 1 = v3 → e_49 5 = .int .i64 x8 → e_49 6 = ptrV x10.1 → e_49 32 = .bool t14.1 → ∀ w, St E H [F12, rgF t14.2] w → K_45 e_49 w := by
        intro t14 hp e_49 h_50 h_51 h_52 h_53 h_54
        unfold fettlelaw11_left.jn86 at hp
        refine TL.go hK_46 ?_
        refine TL.nil ?_
        refine TC.go hK_34 ?_
        by_cases hc_55 : t14.1 = true
        · rw [if_pos hc_55] at hp
          refine TC.condT (h_54.trans (bbT hc_55)) ?_
          refine TC.seq fun K_56 hK_57 => ?_
          refine TC.region ?_
          refine TL.v (ltb rfl) (rv_as (v := .bool false) rfl) ?_
          refine TL.nil ?_
          refine TC.go hK_57 ?_
          refine TC.ret ?_
          have hp := hx_15 _ hp
          exact fun w hw => retOk ⟨(false, t14.2), hp, rfl, rfl⟩ (hw.pick [1])
        · rw [if_neg hc_55] at hp
          refine TC.condF (h_54.trans (bbF hc_55)) ?_
          refine TC.skip ?_
          refine TC.go hK_32 ?_
          refine TC.seq fun K_58 hK_59 => ?_
          refine TC.region ?_
          refine TL.v (ltb rfl) (rv_mv (v := ptrV x10.1) h_53) ?_
          refine TL.pk' [1, 0] (L' := [rgF t14.2, F12]) rfl ?_
          obtain ⟨x15, hy_60, hp⟩ := bO' hp
          refine TL.callC (vs := [ptrV x10.1]) (R := deque_Op_Result.R t14.2 x15) [rgF t14.2] [F12] rfl cb_31 (ltb rfl) (mc rfl m0) (fun w hw => deque_Op_Result_ok (a1 := x10.1) (R3 := t14.2) hy_60 hw) fun v A' hR_61 => ?_
          obtain ⟨rfl, rfl⟩ := hR_61
          refine TL.norm (L' := [rgF t14.2, F12]) rfl ?_
          refine TL.v (ltb rfl) (rv_mv (v := .tuple #[.int .i64 x15.1, .int .i64 x15.2]) rfl) ?_
          refine TL.v (ltb rfl) (rv_extract (vs := #[.int .i64 x15.1, .int .i64 x15.2]) (v := .int .i64 x15.1) rfl rfl) ?_
          refine TL.v (ltb rfl) (rv_extract (vs := #[.int .i64 x15.1, .int .i64 x15.2]) (v := .int .i64 x15.2) rfl rfl) ?_
          refine TL.v (ltb rfl) (rv_as (v := .int .i64 x15.1) rfl) ?_
          refine TL.v (ltb rfl) (rv_as (v := .int .i64 x15.2) rfl) ?_
          refine TL.nil ?_
          refine TC.go hK_59 ?_
          refine TC.seq fun K_62 hK_63 => ?_
          refine TC.seq fun K_64 hK_65 => ?_
          refine TC.region ?_
          refine TL.v (ltb rfl) (rv_mv (v := .int .i64 x8) h_52) ?_
          refine TL.v (ltb rfl) (rv_eql (k := .i64) (m := x8) (n := 0) rfl rfl) ?_
          refine TL.nil ?_
          refine TC.go hK_65 ?_
          by_cases hc_66 : x8 = 0
          · rw [if_pos hc_66] at hp
            refine TC.condT (bT hc_66) ?_
            refine TC.seq fun K_67 hK_68 => ?_
            refine TC.region ?_
            refine TL.v (ltb rfl) (rv_mv (v := .int .i64 x15.1) rfl) ?_
            refine TL.v (ltb rfl) (rv_eql (k := .i64) (m := x15.1) (n := 2) rfl rfl) ?_
            refine TL.v (ltb rfl) (rv_as (v := .bool (decide (x15.1 = 2))) rfl) ?_
            refine TL.nil ?_
            refine TC.go hK_68 ?_
            refine TC.ret ?_
            have hp := hx_15 _ hp
            exact fun w hw => retOk ⟨((decide (x15.1 = 2)), t14.2), hp, rfl, rfl⟩ (hw.pick [0])
          · rw [if_neg hc_66] at hp
            refine TC.condF (bF hc_66) ?_
            refine TC.skip ?_
            refine TC.go hK_63 ?_
            refine TC.seq fun K_69 hK_70 => ?_
            refine TC.region ?_
            refine TL.v (ltb rfl) (rv_mv (v := .int .i64 x15.1) rfl) ?_
            refine TL.v (ltb rfl) (rv_neq (k := .i64) (m := x15.1) (n := 1) rfl rfl) ?_
            refine TL.v (ltb rfl) (rv_mv (v := .bool (decide (¬ x15.1 = 1))) rfl) ?_
            have hp := bD' hp
            refine TL.cut 8 fun K_71 hK_72 => ?_
            have hJ_73 : ∀ (t16 : Bool), fettlelaw11_left.jn83 x8 t14 t16 x_14 → ∀ e_75 : Env, e_75 0 = ptrV a1 → e_75 1 = v3 → e_75 5 = .int .i64 x8 → e_75 52 = .bool t16 → ∀ w, St E H [rgF t14.2, F12] w → K_71 e_75 w := by
              intro t16 hp e_75 h_76 h_77 h_78 h_79
              unfold fettlelaw11_left.jn83 at hp
              refine TL.go hK_72 ?_
              refine TL.nil ?_
              refine TC.go hK_70 ?_
              by_cases hc_80 : t16 = true
              · rw [if_pos hc_80] at hp
                refine TC.condT (h_79.trans (bbT hc_80)) ?_
                refine TC.seq fun K_81 hK_82 => ?_
                refine TC.region ?_
                refine TL.v (ltb rfl) (rv_as (v := .bool false) rfl) ?_
                refine TL.nil ?_
                refine TC.go hK_82 ?_
                refine TC.ret ?_
                have hp := hx_15 _ hp
                exact fun w hw => retOk ⟨(false, t14.2), hp, rfl, rfl⟩ (hw.pick [0])
              · rw [if_neg hc_80] at hp
                refine TC.condF (h_79.trans (bbF hc_80)) ?_
                refine TC.skip ?_
                refine TC.go hK_26 ?_
                refine TC.region ?_
                refine TL.v (ltb rfl) (rv_mv (v := .int .i64 x8) h_78) ?_
                refine TL.v (ltb rfl) (rv_sub (k := .i64) (m := x8) (n := 1) rfl rfl) ?_
                refine TL.v (ltb rfl) (rv_as (v := .int .i64 (w64 (x8 - 1))) rfl) ?_
                refine TL.nil ?_
                exact fun w hw => goOkD hp ⟨t14.2, (w64 (x8 - 1)), rfl, h_76, h_77, rfl, rfl⟩ (hw.pick [0])
            by_cases hc_74 : ¬ x15.1 = 1
            · rw [if_pos hc_74] at hp
              refine TL.gno true rfl (fun d hd => by cases hd; exact ltb rfl) (yieldE_of rfl (bT hc_74)) rfl ?_
              refine TL.gno true rfl (fun d hd => by cases hd; exact ltb rfl) (yieldE_of rfl (bT hc_74)) rfl ?_
              refine TL.gno true rfl (fun d hd => by cases hd; exact ltb rfl) (yieldE_of rfl (bT hc_74)) rfl ?_
              refine TL.gno true rfl (fun d hd => by cases hd; exact ltb rfl) (yieldE_of rfl (bT hc_74)) rfl ?_
              refine TL.gno true rfl (fun d hd => by cases hd; exact ltb rfl) (yieldE_of rfl (bT hc_74)) rfl ?_
              refine TL.gno true rfl (fun d hd => by cases hd; exact ltb rfl) (yieldE_of rfl (bT hc_74)) rfl ?_
              refine TL.gno true rfl (fun d hd => by cases hd; exact ltb rfl) (yieldE_of rfl (bT hc_74)) rfl ?_
              refine TL.v (ltb rfl) (rv_pickT true (bT hc_74) rfl (v := .bool true) rfl) ?_
              refine TL.nil (hJ_73 true hp _ ?_ ?_ ?_ ?_)
              · exact h_50
              · exact h_51
              · exact h_52
              · exact rfl
            · rw [if_neg hc_74] at hp
              refine TL.gyes false (yieldE_of rfl (bF hc_74)) rfl ?_
              refine TL.v (ltb rfl) (rv_mv (v := .int .i64 x15.2) rfl) ?_
              refine TL.gyes false (yieldE_of rfl (bF hc_74)) rfl ?_
              refine TL.v (ltb rfl) (rv_mv (v := v3) h_51) ?_
              refine TL.gyes false (yieldE_of rfl (bF hc_74)) rfl ?_
              refine TL.v (ltb rfl) (rv_mv (v := .int .i64 x8) h_52) ?_
              refine TL.gyes false (yieldE_of rfl (bF hc_74)) rfl ?_
              refine TL.v (ltb rfl) (rv_sub (k := .i64) (m := x8) (n := 1) rfl rfl) ?_
              refine TL.gyes false (yieldE_of rfl (bF hc_74)) rfl ?_
              obtain ⟨x17, hx_85, hp⟩ := bO' hp
              refine TL.v3 (ltb rfl) (rv_ix 22 (.tmp 46) (.tmp 48) (v := v3) (i := (w64 (x8 - 1))) Try.underlying22 inf_3 rfl rfl rfl h4 hx_85) fun b18 o19 c20 h21 h22 => ?_
              obtain rfl := h21
              refine TL.gyes false (yieldE_of rfl (bF hc_74)) rfl ?_
              refine TL.v (ltb rfl) (rv_ld (v := .int .i64 x17) (o := o19) (o' := o19) (j := 0) sc_3 rfl Src.H h22 rfl rfl) ?_
              refine TL.gyes false (yieldE_of rfl (bF hc_74)) rfl ?_
              refine TL.v (ltb rfl) (rv_neq (k := .i64) (m := x15.2) (n := x17) rfl rfl) ?_
              refine TL.v (ltb rfl) (rv_pickF false (bF hc_74) rfl (v := .bool (decide (¬ x15.2 = x17))) rfl) ?_
              refine TL.nil (hJ_73 (decide (¬ x15.2 = x17)) hp _ ?_ ?_ ?_ ?_)
              · exact h_50
              · exact h_51
              · exact h_52
              · exact rfl
      by_cases hc_48 : x10.1 = none ∨ (¬ x10.2.1 = GErr.no)
      · rw [if_pos hc_48] at hp
        refine TL.gno true rfl (fun d hd => by cases hd; exact ltb rfl) (yieldE_of rfl (bT hc_48)) rfl ?_
        refine TL.gno true rfl (fun d hd => by cases hd; exact ltb rfl) (yieldE_of rfl (bT hc_48)) rfl ?_
        refine TL.gno true rfl (fun d hd => by cases hd; exact ltb rfl) (yieldE_of rfl (bT hc_48)) rfl ?_
        refine TL.gno true rfl (fun d hd => by cases hd; exact ltb rfl) (yieldE_of rfl (bT hc_48)) rfl ?_
        refine TL.v (ltb rfl) (rv_pickT true (bT hc_48) rfl (v := .bool true) rfl) ?_
        refine TL.nil (hJ_47 (true, x10.2.2) hp _ ?_ ?_ ?_ ?_ ?_)
        · exact h_40
        · exact h_41
        · exact h_42
        · exact h_43
        · exact rfl
      · rw [if_neg hc_48] at hp
        refine TL.gyes false (yieldE_of rfl (bF hc_48)) rfl ?_
        refine TL.v (ltb rfl) (rv_mv (v := ptrV a1) h_40) ?_
        refine TL.gyes false (yieldE_of rfl (bF hc_48)) rfl ?_
        refine TL.v (ltb rfl) (rv_mv (v := ptrV x10.1) h_43) ?_
        refine TL.gyes false (yieldE_of rfl (bF hc_48)) rfl ?_
        refine TL.pk' [1, 0] (L' := [rgF x10.2.2, F12]) rfl ?_
        obtain ⟨x23, hy_88, hp⟩ := bO' hp
        refine TL.callC (vs := [ptrV a1, ptrV x10.1]) (R := fettlelaw11_done.R x23) [rgF x10.2.2] [F12] rfl cb_35 (ltb rfl) (mc rfl (mc rfl m0)) (fun w hw => fettlelaw11_done_ok (a1 := a1) (a2 := x10.1) (R4 := x10.2.2) hy_88 hw) fun v A' hR_89 => ?_
        obtain ⟨rfl, rfl⟩ := hR_89
        refine TL.norm (L' := [rgF x23.2, F12]) rfl ?_
        refine TL.gyes false (yieldE_of rfl (bF hc_48)) rfl ?_
        refine TL.v (ltb rfl) (rv_not (b := x23.1) rfl) ?_
        refine TL.v (ltb rfl) (rv_pickF false (bF hc_48) rfl (v := .bool (!x23.1)) rfl) ?_
        refine TL.pk' [1, 0] (L' := [F12, rgF x23.2]) rfl ?_
        refine TL.nil (hJ_47 ((!x23.1), x23.2) hp _ ?_ ?_ ?_ ?_ ?_)
        · exact h_40
        · exact h_41
        · exact h_42
        · exact h_43
        · exact rfl
    by_cases hc_38 : x10.1 = none
    · refine TL.gno true rfl (fun d hd => by cases hd; exact ltb rfl) (yieldE_of rfl (bT hc_38)) rfl ?_
      refine TL.gno true rfl (fun d hd => by cases hd; exact ltb rfl) (yieldE_of rfl (bT hc_38)) rfl ?_
      refine TL.v (ltb rfl) (rv_pickT true (bT hc_38) rfl (v := .bool true) rfl) ?_
      refine TL.nil (hJ_37 _ ?_ ?_ ?_ ?_ ?_)
      · exact h_8
      · exact h_9
      · exact h_10
      · exact rfl
      · exact (bOt hc_38)
    · refine TL.gyes false (yieldE_of rfl (bF hc_38)) rfl ?_
      refine TL.v (ltb rfl) (rv_mv (v := v11) rfl) ?_
      refine TL.gyes false (yieldE_of rfl (bF hc_38)) rfl ?_
      refine TL.v (ltb rfl) (rv_neqEN ifc_49 h13 rfl) ?_
      refine TL.v (ltb rfl) (rv_pickF false (bF hc_38) rfl (v := .bool (decide (¬ x10.2.1 = GErr.no))) rfl) ?_
      refine TL.nil (hJ_37 _ ?_ ?_ ?_ ?_ ?_)
      · exact h_8
      · exact h_9
      · exact h_10
      · exact rfl
      · exact (bOf hc_38)
  · rw [if_neg hc_24] at hp
    refine TC.condF (bF hc_24) ?_
    refine TC.exit ?_
    refine fun w hw => hJ_19 R7 _ (hx_15 _ hp) w (hw.pick [0])

/-! ### fettle/fettlelaw11.pick -/
abbrev fettlelaw11_pick.R (r : Int) (v : Value) (A : List FP) : Prop := .int .i64 r = v ∧ A = []
def fettlelaw11_pick.jn8 (a2 : Int) (x3 : Int) : Option Int :=
  (remO x3 a2).bind fun x4 =>
  some (Int.tmod x3 a2)
def fettlelaw11_pick (a1 : Int) (a2 : Int) : Option Int :=
  if a1 < 0 then
    fettlelaw11_pick.jn8 a2 (w64 (0 - (w64 (a1 + 1))))
  else
    fettlelaw11_pick.jn8 a2 a1
theorem fettlelaw11_pick_ok {E : World} {H : FP} {w : World} {a1 : Int} {a2 : Int} {r : Int}  (hp : fettlelaw11_pick a1 a2 = some r) (hst : St E H [] w) :
    Fn Try.prog 27 #[.int .i64 a1, .int .i64 a2] w fun v w' => ∃ A, fettlelaw11_pick.R r v A ∧ St E H A w' := by
  refine Fn.body (fn := Try.f27) (args := [.int .i64 a1, .int .i64 a2]) E H [] [.tmp 4] 13 Try.func27 rfl rfl rfl rfl (leb rfl) hst ?_
  unfold fettlelaw11_pick at hp
  refine TC.seq fun K_1 hK_2 => ?_
  refine TC.region ?_
  refine TL.v (ltb rfl) (rv_as (v := .int .i64 0) rfl) ?_
  refine TL.nil ?_
  refine TC.go hK_2 ?_
  refine TC.seq fun K_3 hK_4 => ?_
  have hJ_8 : ∀ (x3 : Int) (e_5 : Env) (h_6 : e_5 0 = .int .i64 x3) (h_7 : e_5 1 = .int .i64 a2) (hp : fettlelaw11_pick.jn8 a2 x3 = some r), ∀ w, St E H [] w → K_3 e_5 w := by
    intro x3 e_5 h_6 h_7 hp
    unfold fettlelaw11_pick.jn8 at hp
    refine TC.go hK_4 ?_
    refine TC.seq fun K_9 hK_10 => ?_
    refine TC.region ?_
    refine TL.v (ltb rfl) (rv_mv (v := .int .i64 x3) h_6) ?_
    refine TL.v (ltb rfl) (rv_mv (v := .int .i64 a2) h_7) ?_
    obtain ⟨x4, hx_11, hp⟩ := bind_some' hp
    refine TL.v (ltb rfl) (rv_rem (k := .i64) (m := x3) (n := a2) rfl rfl (remO_some hx_11)) ?_
    refine TL.v (ltb rfl) (rv_as (v := .int .i64 (Int.tmod x3 a2)) rfl) ?_
    refine TL.nil ?_
    refine TC.go hK_10 ?_
    refine TC.ret ?_
    obtain rfl := Option.some.inj hp
    exact fun w hw => retOk ⟨rfl, rfl⟩ (hw.pick [])
  refine TC.seq fun K_12 hK_13 => ?_
  refine TC.region ?_
  refine TL.v (ltb rfl) (rv_mv (v := .int .i64 a1) rfl) ?_
  refine TL.v (ltb rfl) (rv_lss (k := .i64) (m := a1) (n := 0) rfl rfl) ?_
  refine TL.nil ?_
  refine TC.go hK_13 ?_
  by_cases hc_14 : a1 < 0
  · rw [if_pos hc_14] at hp
    refine TC.condT (bT hc_14) ?_
    refine TC.region ?_
    refine TL.v (ltb rfl) (rv_mv (v := .int .i64 a1) rfl) ?_
    refine TL.v (ltb rfl) (rv_add (k := .i64) (m := a1) (n := 1) rfl rfl) ?_
    refine TL.v (ltb rfl) (rv_neg (k := .i64) (m := (w64 (a1 + 1))) rfl) ?_
    refine TL.v (ltb rfl) (rv_as (v := .int .i64 (w64 (0 - (w64 (a1 + 1))))) rfl) ?_
    refine TL.nil ?_
    refine fun w hw => hJ_8 (w64 (0 - (w64 (a1 + 1)))) _ ?_ ?_ hp w (hw.pick [])
    · exact rfl
    · exact rfl
  · rw [if_neg hc_14] at hp
    refine TC.condF (bF hc_14) ?_
    refine TC.skip ?_
    refine fun w hw => hJ_8 a1 _ ?_ ?_ hp w (hw.pick [])
    · exact rfl
    · exact rfl

/-! ### fettle/fettlelaw11.free -/
abbrev fettlelaw11_free.R (r : Bool) (v : Value) (A : List FP) : Prop := .bool r = v ∧ A = []
def fettlelaw11_free.nx14  : Option Bool :=
  some true
def fettlelaw11_free.bd14 (a1 : List PUnder) (x4 : Int) : Option (Ex (Ex Bool Unit) Int) :=
  if x4 < (len a1) then
    (idx a1 x4).bind fun x5 =>
    if ¬ x5.kind = 2 then
      some (.ret (.ret false))
    else
      some (.go (w64 (x4 + 1)))
  else
    some (.ret (.go ()))
def fettlelaw11_free (a1 : List PUnder) : Option Bool :=
  (whl (fun (s : Int) => fettlelaw11_free.bd14 a1 s) FUEL 0).bind fun z =>
  match z with
    | .ret r => some r
    | .go p => fettlelaw11_free.nx14
theorem fettlelaw11_free_ok {E : World} {H : FP} {w : World} {a1 : List PUnder} {v2 : Value} {r : Bool} (h3 : SlI kUnder H a1 v2) (hp : fettlelaw11_free a1 = some r) (hst : St E H [] w) :
    Fn Try.prog 28 #[v2] w fun v w' => ∃ A, fettlelaw11_free.R r v A ∧ St E H A w' := by
  refine Fn.body (fn := Try.f28) (args := [v2]) E H [] [.tmp 2] 16 Try.func28 rfl rfl rfl rfl (leb rfl) hst ?_
  unfold fettlelaw11_free at hp
  refine TC.seq fun K_1 hK_2 => ?_
  refine TC.region ?_
  refine TL.v (ltb rfl) (rv_as (v := .bool false) rfl) ?_
  refine TL.nil ?_
  refine TC.go hK_2 ?_
  refine TC.seq fun K_3 hK_4 => ?_
  refine TC.seq fun K_5 hK_6 => ?_
  refine TC.region ?_
  refine TL.v (ltb rfl) (rv_as (v := .int .i64 0) rfl) ?_
  refine TL.nil ?_
  refine TC.go hK_6 ?_
  refine TC.block ?_
  obtain ⟨z_10, hz_11, hr_12⟩ := bind_some' hp
  clear hp
  have hJ_18 : ∀ (e_15 : Env) (hq_19 : .go () = z_10), ∀ w, St E H [] w → K_3 e_15 w := by
    intro e_15 hq_19
    subst hq_19
    replace hp : fettlelaw11_free.nx14 = some r := hr_12
    unfold fettlelaw11_free.nx14 at hp
    refine TC.go hK_4 ?_
    refine TC.seq fun K_16 hK_17 => ?_
    refine TC.region ?_
    refine TL.v (ltb rfl) (rv_as (v := .bool true) rfl) ?_
    refine TL.nil ?_
    refine TC.go hK_17 ?_
    refine TC.ret ?_
    obtain rfl := Option.some.inj hp
    exact fun w hw => retOk ⟨rfl, rfl⟩ (hw.pick [])
  refine TC.pk' [] (L' := []) rfl ?_
  refine TC.loopW (r := z_10) (fun (x4 : Int) (e_7 : Env) (L_33 : List FP) => e_7 0 = v2 ∧ e_7 3 = .int .i64 x4 ∧ L_33 = []) ?_ FUEL _ _ _ hz_11 ⟨rfl, rfl, rfl⟩
  rintro x4 e_7 L_33 ⟨h_8, h_9, rfl⟩ x_13 hp hx_14
  replace hp : fettlelaw11_free.bd14 a1 x4 = some x_13 := hp
  unfold fettlelaw11_free.bd14 at hp
  refine TC.seq fun K_20 hK_21 => ?_
  refine TC.seq fun K_22 hK_23 => ?_
  refine TC.region ?_
  refine TL.v (ltb rfl) (rv_mv (v := .int .i64 x4) h_9) ?_
  refine TL.v (ltb rfl) (rv_mv (v := v2) h_8) ?_
  refine TL.v (ltb rfl) (rv_lenI (v := v2) Try.underlying39 rfl h3) ?_
  refine TL.v (ltb rfl) (rv_lss (k := .i64) (m := x4) (n := (len a1)) rfl rfl) ?_
  refine TL.nil ?_
  refine TC.go hK_23 ?_
  by_cases hc_24 : x4 < (len a1)
  · rw [if_pos hc_24] at hp
    refine TC.condT (bT hc_24) ?_
    refine TC.skip ?_
    refine TC.go hK_21 ?_
    refine TC.seq fun K_25 hK_26 => ?_
    refine TC.block ?_
    refine TC.seq fun K_27 hK_28 => ?_
    refine TC.region ?_
    refine TL.v (ltb rfl) (rv_mv (v := v2) h_8) ?_
    refine TL.v (ltb rfl) (rv_mv (v := .int .i64 x4) h_9) ?_
    obtain ⟨x5, hx_29, hp⟩ := bind_some' hp
    refine TL.v3 (ltb rfl) (rv_ix 39 (.tmp 10) (.tmp 11) (v := v2) (i := x4) Try.underlying39 inf_47 rfl rfl rfl h3 hx_29) fun b6 o7 c8 h9 h10 => ?_
    obtain rfl := h9
    refine TL.v (ltb rfl) (rv_fa (b := b6) (o := o7) fa_47_1 rfl) ?_
    refine TL.v (ltb rfl) (rv_ld (v := .int .i64 x5.kind) (o := o7 + 1) (o' := o7) (j := 1) sc_3 rfl Src.H h10 rfl rfl) ?_
    refine TL.v (ltb rfl) (rv_neq (k := .i64) (m := x5.kind) (n := 2) rfl rfl) ?_
    refine TL.nil ?_
    refine TC.go hK_28 ?_
    by_cases hc_30 : ¬ x5.kind = 2
    · rw [if_pos hc_30] at hp
      refine TC.condT (bT hc_30) ?_
      refine TC.seq fun K_31 hK_32 => ?_
      refine TC.region ?_
      refine TL.v (ltb rfl) (rv_as (v := .bool false) rfl) ?_
      refine TL.nil ?_
      refine TC.go hK_32 ?_
      refine TC.ret ?_
      obtain rfl := ex_ret hp hx_14
      obtain rfl := Option.some.inj hr_12
      exact fun w hw => retOk ⟨rfl, rfl⟩ (hw.pick [])
    · rw [if_neg hc_30] at hp
      refine TC.condF (bF hc_30) ?_
      refine TC.skip ?_
      refine TC.go hK_26 ?_
      refine TC.region ?_
      refine TL.v (ltb rfl) (rv_mv (v := .int .i64 x4) h_9) ?_
      refine TL.v (ltb rfl) (rv_add (k := .i64) (m := x4) (n := 1) rfl rfl) ?_
      refine TL.v (ltb rfl) (rv_as (v := .int .i64 (w64 (x4 + 1))) rfl) ?_
      refine TL.nil ?_
      exact fun w hw => goOk hp ⟨h_8, rfl, rfl⟩ (hw.pick [])
  · rw [if_neg hc_24] at hp
    refine TC.condF (bF hc_24) ?_
    refine TC.exit ?_
    refine fun w hw => hJ_18 _ (ex_ret hp hx_14) w (hw.pick [])

/-! ### fettle/fettlelaw11.without -/
abbrev fettlelaw11_without.R (r : List Int × Bool) (v : Value) (A : List FP) : Prop := ∃ (w1 : Value) (G1 : FP), .tuple #[w1, .bool r.2] = v ∧ A = [G1] ∧ SlO 3 (kInt .i64) r.1 w1 G1
def fettlelaw11_without.nx15 (a1 : List Int) : Option (List Int × Bool) :=
  some (a1, false)
def fettlelaw11_without.bd15 (a1 : List Int) (a5 : Int) (x6 : Int) : Option (Ex (Ex (List Int × Bool) Unit) Int) :=
  if x6 < (len a1) then
    (idx a1 x6).bind fun x7 =>
    if x7 = a5 then
      (upto a1 x6).bind fun x1214 =>
      (from_ a1 (w64 (x6 + 1))).bind fun x3214 =>
      (cat ([] : List Int) x1214).bind fun x1614 =>
      (cat x1614 x3214).bind fun x3614 =>
      some (.ret (.ret (x3614, true)))
    else
      some (.go (w64 (x6 + 1)))
  else
    some (.ret (.go ()))
def fettlelaw11_without (a1 : List Int) (a5 : Int) : Option (List Int × Bool) :=
  (whl (fun (s : Int) => fettlelaw11_without.bd15 a1 a5 s) FUEL 0).bind fun z =>
  match z with
    | .ret r => some r
    | .go p => fettlelaw11_without.nx15 a1
theorem fettlelaw11_without_ok {E : World} {H : FP} {w : World} {a1 : List Int} {a5 : Int} {v2 : Value} {F3 : FP} {r : List Int × Bool} (h4 : SlO 3 (kInt .i64) a1 v2 F3) (hp : fettlelaw11_without a1 a5 = some r) (hst : St E H [F3] w) :
    Fn Try.prog 32 #[v2, .int .i64 a5] w fun v w' => ∃ A, fettlelaw11_without.R r v A ∧ St E H A w' := by
  refine Fn.body (fn := Try.f32) (args := [v2, .int .i64 a5]) E H [F3] [.tmp 4, .tmp 5] 30 Try.func32 rfl rfl rfl rfl (leb rfl) hst ?_
  unfold fettlelaw11_without at hp
  refine TC.seq fun K_1 hK_2 => ?_
  refine TC.region ?_
  refine TL.v (ltb rfl) (rv_as (v := .slice none 0 0) rfl) ?_
  refine TL.v (ltb rfl) (rv_as (v := .bool false) rfl) ?_
  refine TL.nil ?_
  refine TC.go hK_2 ?_
  refine TC.seq fun K_3 hK_4 => ?_
  refine TC.seq fun K_5 hK_6 => ?_
  refine TC.region ?_
  refine TL.v (ltb rfl) (rv_as (v := .int .i64 0) rfl) ?_
  refine TL.nil ?_
  refine TC.go hK_6 ?_
  refine TC.block ?_
  obtain ⟨z_11, hz_12, hr_13⟩ := bind_some' hp
  clear hp
  have hJ_20 : ∀ (e_16 : Env) (h_17 : e_16 0 = v2) (hq_21 : .go () = z_11), ∀ w, St E H [F3] w → K_3 e_16 w := by
    intro e_16 h_17 hq_21
    subst hq_21
    replace hp : fettlelaw11_without.nx15 a1 = some r := hr_13
    unfold fettlelaw11_without.nx15 at hp
    refine TC.go hK_4 ?_
    refine TC.seq fun K_18 hK_19 => ?_
    refine TC.region ?_
    refine TL.v (ltb rfl) (rv_mv (v := v2) h_17) ?_
    refine TL.v (ltb rfl) (rv_as (v := v2) rfl) ?_
    refine TL.v (ltb rfl) (rv_as (v := .bool false) rfl) ?_
    refine TL.nil ?_
    refine TC.go hK_19 ?_
    refine TC.ret ?_
    obtain rfl := Option.some.inj hp
    exact fun w hw => retOk ⟨v2, F3, (tu2 rfl rfl).symm, rfl, h4⟩ (hw.pick [0])
  refine TC.pk' [0] (L' := [F3]) rfl ?_
  refine TC.loopW (r := z_11) (fun (x6 : Int) (e_7 : Env) (L_45 : List FP) => e_7 0 = v2 ∧ e_7 1 = .int .i64 a5 ∧ e_7 6 = .int .i64 x6 ∧ L_45 = [F3]) ?_ FUEL _ _ _ hz_12 ⟨rfl, rfl, rfl, rfl⟩
  rintro x6 e_7 L_45 ⟨h_8, h_9, h_10, rfl⟩ x_14 hp hx_15
  replace hp : fettlelaw11_without.bd15 a1 a5 x6 = some x_14 := hp
  unfold fettlelaw11_without.bd15 at hp
  refine TC.seq fun K_22 hK_23 => ?_
  refine TC.seq fun K_24 hK_25 => ?_
  refine TC.region ?_
  refine TL.v (ltb rfl) (rv_mv (v := .int .i64 x6) h_10) ?_
  refine TL.v (ltb rfl) (rv_mv (v := v2) h_8) ?_
  refine TL.v (ltb rfl) (rv_lenI (v := v2) Try.underlying22 rfl h4.ro) ?_
  refine TL.v (ltb rfl) (rv_lss (k := .i64) (m := x6) (n := (len a1)) rfl rfl) ?_
  refine TL.nil ?_
  refine TC.go hK_25 ?_
  by_cases hc_26 : x6 < (len a1)
  · rw [if_pos hc_26] at hp
    refine TC.condT (bT hc_26) ?_
    refine TC.skip ?_
    refine TC.go hK_23 ?_
    refine TC.seq fun K_27 hK_28 => ?_
    refine TC.block ?_
    refine TC.seq fun K_29 hK_30 => ?_
    refine TC.region ?_
    refine TL.v (ltb rfl) (rv_mv (v := v2) h_8) ?_
    refine TL.v (ltb rfl) (rv_mv (v := .int .i64 x6) h_10) ?_
    obtain ⟨x7, hx_31, hp⟩ := bind_some' hp
    refine TL.v3 (ltb rfl) (rv_ix 22 (.tmp 13) (.tmp 14) (v := v2) (i := x6) Try.underlying22 inf_3 rfl rfl rfl (h4).ro hx_31) fun b8 o9 c10 h11 h12 => ?_
    obtain rfl := h11
    refine TL.v (ltb rfl) (rv_ld (v := .int .i64 x7) (o := o9) (o' := o9) (j := 0) sc_3 rfl (Src.at_ 0 rfl) h12 rfl rfl) ?_
    refine TL.v (ltb rfl) (rv_mv (v := .int .i64 a5) h_9) ?_
    refine TL.v (ltb rfl) (rv_eql (k := .i64) (m := x7) (n := a5) rfl rfl) ?_
    refine TL.nil ?_
    refine TC.go hK_30 ?_
    by_cases hc_32 : x7 = a5
    · rw [if_pos hc_32] at hp
      refine TC.condT (bT hc_32) ?_
      refine TC.seq fun K_33 hK_34 => ?_
      refine TC.held ([F3].flatten ++ H) mix (srcG 0 rfl srcG0) ?_
      refine HL.v 1 rfl trivial (by kernel_rfl) (by kernel_rfl) (by kernel_rfl) (ltb rfl) (rv_mv (v := v2) h_8) ?_
      refine HL.v 2 rfl trivial (by kernel_rfl) (by kernel_rfl) (by kernel_rfl) (ltb rfl) (rv_mv (v := .int .i64 x6) h_10) ?_
      obtain ⟨x1214, hz_35, hp⟩ := bind_some' hp
      refine HL.w1 3 rfl trivial (by kernel_rfl) (by kernel_rfl) (by kernel_rfl) (ltb rfl) (rv_slTo 22 (.tmp 20) (.tmp 21) (v := v2) (m := x6) Try.underlying22 inf_3 rfl rfl rfl h4.ro hz_35) fun v1215 h1216 => ?_
      refine HL.v 5 rfl trivial (by kernel_rfl) (by kernel_rfl) (by kernel_rfl) (ltb rfl) (rv_mv (v := v2) h_8) ?_
      refine HL.v 6 rfl trivial (by kernel_rfl) (by kernel_rfl) (by kernel_rfl) (ltb rfl) (rv_mv (v := .int .i64 x6) h_10) ?_
      refine HL.v 7 rfl trivial (by kernel_rfl) (by kernel_rfl) (by kernel_rfl) (ltb rfl) (rv_add (k := .i64) (m := x6) (n := 1) rfl rfl) ?_
      obtain ⟨x3214, hz_36, hp⟩ := bind_some' hp
      refine HL.w1 8 rfl trivial (by kernel_rfl) (by kernel_rfl) (by kernel_rfl) (ltb rfl) (rv_slFrom 22 (.tmp 24) (.tmp 26) (v := v2) (l := (w64 (x6 + 1))) Try.underlying22 inf_3 rfl rfl rfl h4.ro hz_36) fun v3215 h3216 => ?_
      refine HL.one 0 rfl (by kernel_rfl) fun K_37 hK_38 => ?_
      refine TL.bs0 Try.underlying22 inf_3 (ltb rfl) fun b14 => ?_
      refine TL.nil (hK_38 _ _ (srcG 1 rfl srcG0) ?_)
      refine HL.one 4 rfl (by kernel_rfl) fun K_39 hK_40 => ?_
      obtain ⟨x1614, hz_41, hp⟩ := bind_some' hp
      refine TL.appI (u := v1215) (fInt .i64) Try.underlying22 inf_3 (ltb rfl) rfl (ltb rfl) rfl (leb rfl) rfl rfl (SlO.lit0 (k := (kInt .i64)) b14) h1216 (Src.at_ 1 rfl) hz_41 fun v1615 F1616 h1617 => ?_
      refine TL.nil (hK_40 _ _ (srcG 1 rfl srcG0) ?_)
      refine HL.one 9 rfl (by kernel_rfl) fun K_42 hK_43 => ?_
      obtain ⟨x3614, hz_44, hp⟩ := bind_some' hp
      refine TL.appI (u := v3215) (fInt .i64) Try.underlying22 inf_3 (ltb rfl) rfl (ltb rfl) rfl (leb rfl) rfl rfl h1617 h3216 (Src.at_ 1 rfl) hz_44 fun v3615 F3616 h3617 => ?_
      refine TL.nil (hK_43 _ _ (srcG 1 rfl srcG0) ?_)
      refine HL.v 10 rfl trivial (by kernel_rfl) (by kernel_rfl) (by kernel_rfl) (ltb rfl) (rv_as (v := v3615) rfl) ?_
      refine HL.v 11 rfl trivial (by kernel_rfl) (by kernel_rfl) (by kernel_rfl) (ltb rfl) (rv_as (v := .bool true) rfl) ?_
      refine HL.done (by kernel_rfl) ?_
      refine TC.go hK_34 ?_
      refine TC.ret ?_
      obtain rfl := ex_ret hp hx_15
      obtain rfl := Option.some.inj hr_13
      exact fun w hw => retOk ⟨v3615, F3616, (tu2 rfl rfl).symm, rfl, h3617⟩ (hw.pick [0])
    · rw [if_neg hc_32] at hp
      refine TC.condF (bF hc_32) ?_
      refine TC.skip ?_
      refine TC.go hK_28 ?_
      refine TC.region ?_
      refine TL.v (ltb rfl) (rv_mv (v := .int .i64 x6) h_10) ?_
      refine TL.v (ltb rfl) (rv_add (k := .i64) (m := x6) (n := 1) rfl rfl) ?_
      refine TL.v (ltb rfl) (rv_as (v := .int .i64 (w64 (x6 + 1))) rfl) ?_
      refine TL.nil ?_
      exact fun w hw => goOk hp ⟨h_8, h_9, rfl, rfl⟩ (hw.pick [0])
  · rw [if_neg hc_26] at hp
    refine TC.condF (bF hc_26) ?_
    refine TC.exit ?_
    refine fun w hw => hJ_20 _ ?_ (ex_ret hp hx_15) w (hw.pick [0])
    · exact h_8
end Go.Proofs.Ytoflleabpkgdpaa
