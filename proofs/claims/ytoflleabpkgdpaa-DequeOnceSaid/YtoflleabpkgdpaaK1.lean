/- The walk through the program's functions: each one's pure reading, and that a call does what it says. No conditions. -/
import Derived.Test.YtoflleabpkgdpaaRg
set_option linter.unusedVariables false
set_option linter.unusedSimpArgs false
namespace Go.Proofs.Ytoflleabpkgdpaa
open Go Go.Proofs

/-! ### (*fettle/deque.Deque).take -/
abbrev deque_Deque_take.R (r : Bool × Rgn) (v : Value) (A : List FP) : Prop := .bool r.1 = v ∧ A = [rgF r.2]
def deque_Deque_take (a1 : Option Nat) (a2 : Int) (R4 : Rgn) : Option (Bool × Rgn) :=
  (a1).bind fun b5 =>
  (look (R4).ds b5).bind fun x6 =>
  if ¬ x6.top = a2 then
    some (false, R4)
  else
    some (true, (R4.set_ds b5 (⟨x6.cells, (w64 (x6.top + 1)), x6.bottom, x6.owner⟩ : QDeque)))
theorem deque_Deque_take_ok {E : World} {H : FP} {w : World} {a1 : Option Nat} {a2 : Int} {R4 : Rgn} {r : Bool × Rgn}  (hp : deque_Deque_take a1 a2 R4 = some r) (hst : St E H [rgF R4] w) :
    Fn Try.prog 89 #[ptrV a1, .int .i64 a2] w fun v w' => ∃ A, deque_Deque_take.R r v A ∧ St E H A w' := by
  refine Fn.body (fn := Try.f89) (args := [ptrV a1, .int .i64 a2]) E H [rgF R4] [.tmp 4] 18 Try.func89 rfl rfl rfl rfl (leb rfl) hst ?_
  unfold deque_Deque_take at hp
  refine TC.seq fun K_1 hK_2 => ?_
  refine TC.region ?_
  refine TL.v (ltb rfl) (rv_as (v := .bool false) rfl) ?_
  refine TL.nil ?_
  refine TC.go hK_2 ?_
  refine TC.seq fun K_3 hK_4 => ?_
  refine TC.seq fun K_5 hK_6 => ?_
  refine TC.region ?_
  refine TL.v (ltb rfl) (rv_mv (v := ptrV a1) rfl) ?_
  obtain ⟨b5, hb_7, hp⟩ := bind_some' hp
  refine TL.v (ltb rfl) (rv_nilCheck (a := ⟨b5, 0, none⟩) (ptrE hb_7)) ?_
  refine TL.v (ltb rfl) (rv_fa (b := b5) (o := 0) fa_121_1 rfl) ?_
  obtain ⟨x6, hx_8, hp⟩ := bind_some' hp
  refine TL.v (ltb rfl) (rv_ld (v := .int .i64 x6.top) (o := 64) (o' := 0) (j := 64) sc_3 rfl (Src.at_ 0 rfl) (in_ds (R := R4) (cs := (arrC x6.cells ++ ([.int .i64 x6.top, .int .i64 x6.bottom, ptrV x6.owner] : List Value))) hx_8 rfl) rfl (Eq.trans (arr_ge _ _ 0) rfl)) ?_
  refine TL.v (ltb rfl) (rv_mv (v := .int .i64 a2) rfl) ?_
  refine TL.v (ltb rfl) (rv_neq (k := .i64) (m := x6.top) (n := a2) rfl rfl) ?_
  refine TL.nil ?_
  refine TC.go hK_6 ?_
  by_cases hc_9 : ¬ x6.top = a2
  · rw [if_pos hc_9] at hp
    refine TC.condT (bT hc_9) ?_
    refine TC.seq fun K_10 hK_11 => ?_
    refine TC.region ?_
    refine TL.v (ltb rfl) (rv_as (v := .bool false) rfl) ?_
    refine TL.nil ?_
    refine TC.go hK_11 ?_
    refine TC.ret ?_
    obtain rfl := Option.some.inj hp
    exact fun w hw => retOk ⟨rfl, rfl⟩ (hw.pick [0])
  · rw [if_neg hc_9] at hp
    refine TC.condF (bF hc_9) ?_
    refine TC.skip ?_
    refine TC.go hK_4 ?_
    refine TC.seq fun K_12 hK_13 => ?_
    refine TC.region ?_
    refine TL.v (ltb rfl) (rv_mv (v := ptrV a1) rfl) ?_
    refine TL.v (ltb rfl) (rv_nilCheck (a := ⟨b5, 0, none⟩) (ptrE hb_7)) ?_
    refine TL.v (ltb rfl) (rv_fa (b := b5) (o := 0) fa_121_1 rfl) ?_
    refine TL.v (ltb rfl) (rv_ld (v := .int .i64 x6.top) (o := 64) (o' := 0) (j := 64) sc_3 rfl (Src.at_ 0 rfl) (in_ds (R := R4) (cs := (arrC x6.cells ++ ([.int .i64 x6.top, .int .i64 x6.bottom, ptrV x6.owner] : List Value))) hx_8 rfl) rfl (Eq.trans (arr_ge _ _ 0) rfl)) ?_
    refine TL.v (ltb rfl) (rv_add (k := .i64) (m := x6.top) (n := 1) rfl rfl) ?_
    refine TL.v (ltb rfl) (rv_nilCheck (a := ⟨b5, 0, none⟩) (ptrE hb_7)) ?_
    refine TL.v (ltb rfl) (rv_fa (b := b5) (o := 0) fa_121_1 rfl) ?_
    refine TL.stR (F := rgF R4) (F' := rgF (R4.set_ds b5 (⟨x6.cells, (w64 (x6.top + 1)), x6.bottom, x6.owner⟩ : QDeque))) (ds := [.int .i64 (w64 (x6.top + 1))]) (o := 64) (cs := (arrC x6.cells ++ ([.int .i64 x6.top, .int .i64 x6.bottom, ptrV x6.owner] : List Value))) (u := .int .i64 (w64 (x6.top + 1))) 0 rfl ms_3 rfl rfl rfl (oc rfl oc0) (by rw [ds_len]; exact leb rfl) (spl_ds (R := R4) hx_8 (⟨x6.cells, (w64 (x6.top + 1)), x6.bottom, x6.owner⟩ : QDeque) rfl (over_arr x6.cells [.int .i64 x6.top, .int .i64 x6.bottom, ptrV x6.owner] [.int .i64 (w64 (x6.top + 1))] 0).symm) ?_
    refine TL.norm (L' := [rgF (R4.set_ds b5 (⟨x6.cells, (w64 (x6.top + 1)), x6.bottom, x6.owner⟩ : QDeque))]) rfl ?_
    refine TL.nil ?_
    refine TC.go hK_13 ?_
    refine TC.seq fun K_14 hK_15 => ?_
    refine TC.region ?_
    refine TL.v (ltb rfl) (rv_as (v := .bool true) rfl) ?_
    refine TL.nil ?_
    refine TC.go hK_15 ?_
    refine TC.ret ?_
    obtain rfl := Option.some.inj hp
    exact fun w hw => retOk ⟨rfl, rfl⟩ (hw.pick [0])

/-! ### (*fettle/deque.Deque).cell -/
abbrev deque_Deque_cell.R (R4 : Rgn) (r : (Nat × Int)) (v : Value) (A : List FP) : Prop := .pointer (some ⟨r.1, 0 + (r.2).toNat, none⟩) = v ∧ A = [rgF R4]
def deque_Deque_cell (a1 : Option Nat) (a2 : Int) (R4 : Rgn) : Option (Nat × Int) :=
  (a1).bind fun b5 =>
  (in64 (Int.tmod (w64 ((Int.tmod a2 64) + 64)) 64)).bind fun u6 =>
  some (b5, (Int.tmod (w64 ((Int.tmod a2 64) + 64)) 64))
theorem deque_Deque_cell_ok {E : World} {H : FP} {w : World} {a1 : Option Nat} {a2 : Int} {R4 : Rgn} {r : (Nat × Int)}  (hp : deque_Deque_cell a1 a2 R4 = some r) (hst : St E H [rgF R4] w) :
    Fn Try.prog 88 #[ptrV a1, .int .i64 a2] w fun v w' => ∃ A, deque_Deque_cell.R R4 r v A ∧ St E H A w' := by
  refine Fn.body (fn := Try.f88) (args := [ptrV a1, .int .i64 a2]) E H [rgF R4] [.tmp 4] 13 Try.func88 rfl rfl rfl rfl (leb rfl) hst ?_
  unfold deque_Deque_cell at hp
  refine TC.seq fun K_1 hK_2 => ?_
  refine TC.region ?_
  refine TL.v (ltb rfl) (rv_as (v := .pointer none) rfl) ?_
  refine TL.nil ?_
  refine TC.go hK_2 ?_
  refine TC.seq fun K_3 hK_4 => ?_
  refine TC.region ?_
  refine TL.v (ltb rfl) (rv_mv (v := ptrV a1) rfl) ?_
  refine TL.v (ltb rfl) (rv_mv (v := .int .i64 a2) rfl) ?_
  refine TL.v (ltb rfl) (rv_rem (k := .i64) (m := a2) (n := 64) rfl rfl (by decide)) ?_
  refine TL.v (ltb rfl) (rv_add (k := .i64) (m := (Int.tmod a2 64)) (n := 64) rfl rfl) ?_
  refine TL.v (ltb rfl) (rv_rem (k := .i64) (m := (w64 ((Int.tmod a2 64) + 64))) (n := 64) rfl rfl (by decide)) ?_
  obtain ⟨b5, hb_5, hp⟩ := bind_some' hp
  refine TL.v (ltb rfl) (rv_nilCheck (a := ⟨b5, 0, none⟩) (ptrE hb_5)) ?_
  refine TL.v (ltb rfl) (rv_fa (b := b5) (o := 0) fa_121_0 rfl) ?_
  obtain ⟨u6, hx_6, hp⟩ := bind_some' hp
  refine TL.v (ltb rfl) (rv_ixA (b := b5) (o := 0) (i := (Int.tmod (w64 ((Int.tmod a2 64) + 64)) 64)) al_119 inf_3 rfl rfl (in64_some hx_6).1 (in64_some hx_6).2) ?_
  refine TL.v (ltb rfl) (rv_as (v := .pointer (some ⟨b5, 0 + ((Int.tmod (w64 ((Int.tmod a2 64) + 64)) 64)).toNat, none⟩)) rfl) ?_
  refine TL.nil ?_
  refine TC.go hK_4 ?_
  refine TC.ret ?_
  obtain rfl := Option.some.inj hp
  exact fun w hw => retOk ⟨rfl, rfl⟩ (hw.pick [0])

/-! ### (*fettle/deque.Deque).push -/
abbrev deque_Deque_push.R (r : Int × Rgn) (v : Value) (A : List FP) : Prop := .int .i64 r.1 = v ∧ A = [rgF r.2]
def deque_Deque_push.jn6  (R5 : Rgn) : Option (Int × Rgn) :=
  some (0, R5)
def deque_Deque_push (a1 : Option Nat) (a2 : Option Nat) (R4 : Rgn) : Option (Int × Rgn) :=
  (a2).bind fun b6 =>
  (look (R4).os b6).bind fun x7 =>
  if x7.at_ = 0 then
    (a1).bind fun b8 =>
    (look (R4).ds b8).bind fun x9 =>
    deque_Deque_push.jn6 (R4.set_os b6 (⟨x7.d, x7.kind, x7.at_, x7.t, x9.bottom, x7.x, x7.got⟩ : QOp))
  else
    if x7.at_ = 1 then
      (a1).bind fun b10 =>
      (look (R4).ds b10).bind fun x11 =>
      if (w64 (x7.b - x11.top)) ≥ 64 then
        some (3, (R4.set_os b6 (⟨x7.d, x7.kind, x7.at_, x11.top, x7.b, x7.x, x7.got⟩ : QOp)))
      else
        deque_Deque_push.jn6 (R4.set_os b6 (⟨x7.d, x7.kind, x7.at_, x11.top, x7.b, x7.x, x7.got⟩ : QOp))
    else
      if x7.at_ = 2 then
        (deque_Deque_cell a1 x7.b R4).bind fun x2013 =>
        (look (R4).ds x2013.1).bind fun x4413 =>
        (A64.get x4413.cells x2013.2).bind fun x4414 =>
        deque_Deque_push.jn6 (R4.set_ds x2013.1 (⟨(x4413.cells.put x2013.2 x7.x), x4413.top, x4413.bottom, x4413.owner⟩ : QDeque))
      else
        (a1).bind fun b4813 =>
        (look (R4).ds b4813).bind fun x4814 =>
        some (1, (R4.set_ds b4813 (⟨x4814.cells, x4814.top, (w64 (x7.b + 1)), x4814.owner⟩ : QDeque)))
theorem deque_Deque_push_ok {E : World} {H : FP} {w : World} {a1 : Option Nat} {a2 : Option Nat} {R4 : Rgn} {r : Int × Rgn}  (hp : deque_Deque_push a1 a2 R4 = some r) (hst : St E H [rgF R4] w) :
    Fn Try.prog 64 #[ptrV a1, ptrV a2] w fun v w' => ∃ A, deque_Deque_push.R r v A ∧ St E H A w' := by
  refine Fn.body (fn := Try.f64) (args := [ptrV a1, ptrV a2]) E H [rgF R4] [.tmp 4] 58 Try.func64 rfl rfl rfl rfl (leb rfl) hst ?_
  unfold deque_Deque_push at hp
  refine TC.seq fun K_1 hK_2 => ?_
  refine TC.region ?_
  refine TL.v (ltb rfl) (rv_as (v := .int .i64 0) rfl) ?_
  refine TL.nil ?_
  refine TC.go hK_2 ?_
  refine TC.seq fun K_3 hK_4 => ?_
  have hJ_6 : ∀ (R5 : Rgn) (e_5 : Env) (hp : deque_Deque_push.jn6 R5 = some r), ∀ w, St E H [rgF R5] w → K_3 e_5 w := by
    intro R5 e_5 hp
    unfold deque_Deque_push.jn6 at hp
    refine TC.go hK_4 ?_
    refine TC.seq fun K_7 hK_8 => ?_
    refine TC.region ?_
    refine TL.v (ltb rfl) (rv_as (v := .int .i64 0) rfl) ?_
    refine TL.nil ?_
    refine TC.go hK_8 ?_
    refine TC.ret ?_
    obtain rfl := Option.some.inj hp
    exact fun w hw => retOk ⟨rfl, rfl⟩ (hw.pick [0])
  refine TC.seq fun K_9 hK_10 => ?_
  refine TC.region ?_
  refine TL.v (ltb rfl) (rv_mv (v := ptrV a2) rfl) ?_
  obtain ⟨b6, hb_11, hp⟩ := bind_some' hp
  refine TL.v (ltb rfl) (rv_nilCheck (a := ⟨b6, 0, none⟩) (ptrE hb_11)) ?_
  refine TL.v (ltb rfl) (rv_fa (b := b6) (o := 0) fa_123_2 rfl) ?_
  obtain ⟨x7, hx_12, hp⟩ := bind_some' hp
  refine TL.v (ltb rfl) (rv_ld (v := .int .i64 x7.at_) (o := 2) (o' := 0) (j := 2) sc_3 rfl (Src.at_ 0 rfl) (in_os (R := R4) (cs := [ptrV x7.d, .int .i64 x7.kind, .int .i64 x7.at_, .int .i64 x7.t, .int .i64 x7.b, .int .i64 x7.x, .int .i64 x7.got]) hx_12 rfl) rfl rfl) ?_
  refine TL.nil ?_
  refine TC.go hK_10 ?_
  refine TC.block ?_
  refine TC.seq fun K_13 hK_14 => ?_
  refine TC.region ?_
  refine TL.v (ltb rfl) (rv_eql (k := .i64) (m := x7.at_) (n := 0) rfl rfl) ?_
  refine TL.v (ltb rfl) (rv_as (v := .bool (decide (x7.at_ = 0))) rfl) ?_
  refine TL.nil ?_
  refine TC.go hK_14 ?_
  by_cases hc_15 : x7.at_ = 0
  · rw [if_pos hc_15] at hp
    refine TC.condT (bT hc_15) ?_
    refine TC.region ?_
    refine TL.v (ltb rfl) (rv_mv (v := ptrV a2) rfl) ?_
    refine TL.v (ltb rfl) (rv_mv (v := ptrV a1) rfl) ?_
    obtain ⟨b8, hb_16, hp⟩ := bind_some' hp
    refine TL.v (ltb rfl) (rv_nilCheck (a := ⟨b8, 0, none⟩) (ptrE hb_16)) ?_
    refine TL.v (ltb rfl) (rv_fa (b := b8) (o := 0) fa_121_2 rfl) ?_
    obtain ⟨x9, hx_17, hp⟩ := bind_some' hp
    refine TL.v (ltb rfl) (rv_ld (v := .int .i64 x9.bottom) (o := 65) (o' := 0) (j := 65) sc_3 rfl (Src.at_ 0 rfl) (in_ds (R := R4) (cs := (arrC x9.cells ++ ([.int .i64 x9.top, .int .i64 x9.bottom, ptrV x9.owner] : List Value))) hx_17 rfl) rfl (Eq.trans (arr_ge _ _ 1) rfl)) ?_
    refine TL.v (ltb rfl) (rv_nilCheck (a := ⟨b6, 0, none⟩) (ptrE hb_11)) ?_
    refine TL.v (ltb rfl) (rv_fa (b := b6) (o := 0) fa_123_4 rfl) ?_
    refine TL.stR (F := rgF R4) (F' := rgF (R4.set_os b6 (⟨x7.d, x7.kind, x7.at_, x7.t, x9.bottom, x7.x, x7.got⟩ : QOp))) (ds := [.int .i64 x9.bottom]) (o := 4) (cs := [ptrV x7.d, .int .i64 x7.kind, .int .i64 x7.at_, .int .i64 x7.t, .int .i64 x7.b, .int .i64 x7.x, .int .i64 x7.got]) (u := .int .i64 x9.bottom) 0 rfl ms_3 rfl rfl rfl (oc rfl oc0) (leb rfl) (spl_os (R := R4) hx_12 (⟨x7.d, x7.kind, x7.at_, x7.t, x9.bottom, x7.x, x7.got⟩ : QOp) rfl rfl) ?_
    refine TL.norm (L' := [rgF (R4.set_os b6 (⟨x7.d, x7.kind, x7.at_, x7.t, x9.bottom, x7.x, x7.got⟩ : QOp))]) rfl ?_
    refine TL.nil ?_
    refine fun w hw => hJ_6 (R4.set_os b6 (⟨x7.d, x7.kind, x7.at_, x7.t, x9.bottom, x7.x, x7.got⟩ : QOp)) _ hp w (hw.pick [0])
  · rw [if_neg hc_15] at hp
    refine TC.condF (bF hc_15) ?_
    refine TC.seq fun K_18 hK_19 => ?_
    refine TC.region ?_
    refine TL.v (ltb rfl) (rv_eql (k := .i64) (m := x7.at_) (n := 1) rfl rfl) ?_
    refine TL.v (ltb rfl) (rv_as (v := .bool (decide (x7.at_ = 1))) rfl) ?_
    refine TL.nil ?_
    refine TC.go hK_19 ?_
    by_cases hc_20 : x7.at_ = 1
    · rw [if_pos hc_20] at hp
      refine TC.condT (bT hc_20) ?_
      refine TC.seq fun K_21 hK_22 => ?_
      refine TC.region ?_
      refine TL.v (ltb rfl) (rv_mv (v := ptrV a2) rfl) ?_
      refine TL.v (ltb rfl) (rv_mv (v := ptrV a1) rfl) ?_
      obtain ⟨b10, hb_23, hp⟩ := bind_some' hp
      refine TL.v (ltb rfl) (rv_nilCheck (a := ⟨b10, 0, none⟩) (ptrE hb_23)) ?_
      refine TL.v (ltb rfl) (rv_fa (b := b10) (o := 0) fa_121_1 rfl) ?_
      obtain ⟨x11, hx_24, hp⟩ := bind_some' hp
      refine TL.v (ltb rfl) (rv_ld (v := .int .i64 x11.top) (o := 64) (o' := 0) (j := 64) sc_3 rfl (Src.at_ 0 rfl) (in_ds (R := R4) (cs := (arrC x11.cells ++ ([.int .i64 x11.top, .int .i64 x11.bottom, ptrV x11.owner] : List Value))) hx_24 rfl) rfl (Eq.trans (arr_ge _ _ 0) rfl)) ?_
      refine TL.v (ltb rfl) (rv_nilCheck (a := ⟨b6, 0, none⟩) (ptrE hb_11)) ?_
      refine TL.v (ltb rfl) (rv_fa (b := b6) (o := 0) fa_123_3 rfl) ?_
      refine TL.stR (F := rgF R4) (F' := rgF (R4.set_os b6 (⟨x7.d, x7.kind, x7.at_, x11.top, x7.b, x7.x, x7.got⟩ : QOp))) (ds := [.int .i64 x11.top]) (o := 3) (cs := [ptrV x7.d, .int .i64 x7.kind, .int .i64 x7.at_, .int .i64 x7.t, .int .i64 x7.b, .int .i64 x7.x, .int .i64 x7.got]) (u := .int .i64 x11.top) 0 rfl ms_3 rfl rfl rfl (oc rfl oc0) (leb rfl) (spl_os (R := R4) hx_12 (⟨x7.d, x7.kind, x7.at_, x11.top, x7.b, x7.x, x7.got⟩ : QOp) rfl rfl) ?_
      refine TL.norm (L' := [rgF (R4.set_os b6 (⟨x7.d, x7.kind, x7.at_, x11.top, x7.b, x7.x, x7.got⟩ : QOp))]) rfl ?_
      refine TL.nil ?_
      refine TC.go hK_22 ?_
      refine TC.seq fun K_25 hK_26 => ?_
      refine TC.quiet mix (by kernel_rfl) ?_
      refine QL.v (ltb rfl) (rv_mv (v := ptrV a2) rfl) ?_
      refine QL.v (ltb rfl) (rv_nilCheck (a := ⟨b6, 0, none⟩) (ptrE hb_11)) ?_
      refine QL.v (ltb rfl) (rv_fa (b := b6) (o := 0) fa_123_4 rfl) ?_
      refine QL.v (ltb rfl) (rv_ld (v := .int .i64 x7.b) (o := 4) (o' := 0) (j := 4) sc_3 rfl (Src.at_ 0 rfl) (in_os (R := (R4.set_os b6 (⟨x7.d, x7.kind, x7.at_, x11.top, x7.b, x7.x, x7.got⟩ : QOp))) (cs := [ptrV x7.d, .int .i64 x7.kind, .int .i64 x7.at_, .int .i64 x11.top, .int .i64 x7.b, .int .i64 x7.x, .int .i64 x7.got]) (look_setL _ _ _ _ hx_12) rfl) rfl rfl) ?_
      refine QL.v (ltb rfl) (rv_mv (v := ptrV a2) rfl) ?_
      refine QL.v (ltb rfl) (rv_nilCheck (a := ⟨b6, 0, none⟩) (ptrE hb_11)) ?_
      refine QL.v (ltb rfl) (rv_fa (b := b6) (o := 0) fa_123_3 rfl) ?_
      refine QL.v (ltb rfl) (rv_ld (v := .int .i64 x11.top) (o := 3) (o' := 0) (j := 3) sc_3 rfl (Src.at_ 0 rfl) (in_os (R := (R4.set_os b6 (⟨x7.d, x7.kind, x7.at_, x11.top, x7.b, x7.x, x7.got⟩ : QOp))) (cs := [ptrV x7.d, .int .i64 x7.kind, .int .i64 x7.at_, .int .i64 x11.top, .int .i64 x7.b, .int .i64 x7.x, .int .i64 x7.got]) (look_setL _ _ _ _ hx_12) rfl) rfl rfl) ?_
      refine QL.v (ltb rfl) (rv_sub (k := .i64) (m := x7.b) (n := x11.top) rfl rfl) ?_
      refine QL.v (ltb rfl) (rv_geq (k := .i64) (m := (w64 (x7.b - x11.top))) (n := 64) rfl rfl) ?_
      refine QL.nil ?_
      refine TC.go hK_26 ?_
      by_cases hc_27 : (w64 (x7.b - x11.top)) ≥ 64
      · rw [if_pos hc_27] at hp
        refine TC.condT (bT hc_27) ?_
        refine TC.seq fun K_28 hK_29 => ?_
        refine TC.region ?_
        refine TL.v (ltb rfl) (rv_as (v := .int .i64 3) rfl) ?_
        refine TL.nil ?_
        refine TC.go hK_29 ?_
        refine TC.ret ?_
        obtain rfl := Option.some.inj hp
        exact fun w hw => retOk ⟨rfl, rfl⟩ (hw.pick [0])
      · rw [if_neg hc_27] at hp
        refine TC.condF (bF hc_27) ?_
        refine TC.skip ?_
        refine fun w hw => hJ_6 (R4.set_os b6 (⟨x7.d, x7.kind, x7.at_, x11.top, x7.b, x7.x, x7.got⟩ : QOp)) _ hp w (hw.pick [0])
    · rw [if_neg hc_20] at hp
      refine TC.condF (bF hc_20) ?_
      refine TC.seq fun K_30 hK_31 => ?_
      refine TC.region ?_
      refine TL.v (ltb rfl) (rv_eql (k := .i64) (m := x7.at_) (n := 2) rfl rfl) ?_
      refine TL.v (ltb rfl) (rv_as (v := .bool (decide (x7.at_ = 2))) rfl) ?_
      refine TL.nil ?_
      refine TC.go hK_31 ?_
      by_cases hc_32 : x7.at_ = 2
      · rw [if_pos hc_32] at hp
        refine TC.condT (bT hc_32) ?_
        refine TC.held ([].flatten ++ H) mix srcG0 ?_
        refine HL.v 0 rfl trivial (by kernel_rfl) (by kernel_rfl) (by kernel_rfl) (ltb rfl) (rv_mv (v := ptrV a1) rfl) ?_
        refine HL.v 1 rfl trivial (by kernel_rfl) (by kernel_rfl) (by kernel_rfl) (ltb rfl) (rv_mv (v := ptrV a2) rfl) ?_
        refine HL.v 2 rfl trivial (by kernel_rfl) (by kernel_rfl) (by kernel_rfl) (ltb rfl) (rv_nilCheck (a := ⟨b6, 0, none⟩) (ptrE hb_11)) ?_
        refine HL.v 3 rfl trivial (by kernel_rfl) (by kernel_rfl) (by kernel_rfl) (ltb rfl) (rv_fa (b := b6) (o := 0) fa_123_4 rfl) ?_
        refine HL.v 6 rfl trivial (by kernel_rfl) (by kernel_rfl) (by kernel_rfl) (ltb rfl) (rv_mv (v := ptrV a2) rfl) ?_
        refine HL.v 7 rfl trivial (by kernel_rfl) (by kernel_rfl) (by kernel_rfl) (ltb rfl) (rv_nilCheck (a := ⟨b6, 0, none⟩) (ptrE hb_11)) ?_
        refine HL.v 8 rfl trivial (by kernel_rfl) (by kernel_rfl) (by kernel_rfl) (ltb rfl) (rv_fa (b := b6) (o := 0) fa_123_5 rfl) ?_
        refine HL.all [4, 9] (by kernel_rfl) (by simp) (HL.al ⟨_, rfl, fun K_33 hK_34 => ?_⟩ (HL.al ⟨_, rfl, fun K_55 hK_56 => ?_⟩ HL.al0))
        · refine TL.v (ltb rfl) (rv_ld (v := .int .i64 x7.b) (o := 4) (o' := 0) (j := 4) sc_3 rfl (Src.at_ 0 rfl) (in_os (R := R4) (cs := [ptrV x7.d, .int .i64 x7.kind, .int .i64 x7.at_, .int .i64 x7.t, .int .i64 x7.b, .int .i64 x7.x, .int .i64 x7.got]) hx_12 rfl) rfl rfl) ?_
          refine TL.nil (hK_34 _ _ srcG0 ?_)
          refine HL.all [5, 9] (by kernel_rfl) (by simp) (HL.al ⟨_, rfl, fun K_35 hK_36 => ?_⟩ (HL.al ⟨_, rfl, fun K_45 hK_46 => ?_⟩ HL.al0))
          · obtain ⟨x2013, hy_37, hp⟩ := bind_some' hp
            refine TL.callC (vs := [ptrV a1, .int .i64 x7.b]) (R := deque_Deque_cell.R R4 x2013) [rgF R4] [] rfl cb_88 (ltb rfl) (mc rfl (mc rfl m0)) (fun w hw => deque_Deque_cell_ok (a1 := a1) (a2 := x7.b) (R4 := R4) hy_37 hw) fun v A' hR_38 => ?_
            obtain ⟨rfl, rfl⟩ := hR_38
            refine TL.norm (L' := [rgF R4]) rfl ?_
            refine TL.nil (hK_36 _ _ srcG0 ?_)
            refine HL.one 9 rfl (by kernel_rfl) fun K_39 hK_40 => ?_
            refine TL.v (ltb rfl) (rv_ld (v := .int .i64 x7.x) (o := 5) (o' := 0) (j := 5) sc_3 rfl (Src.at_ 0 rfl) (in_os (R := R4) (cs := [ptrV x7.d, .int .i64 x7.kind, .int .i64 x7.at_, .int .i64 x7.t, .int .i64 x7.b, .int .i64 x7.x, .int .i64 x7.got]) hx_12 rfl) rfl rfl) ?_
            refine TL.nil (hK_40 _ _ srcG0 ?_)
            refine HL.v 10 rfl trivial (by kernel_rfl) (by kernel_rfl) (by kernel_rfl) (ltb rfl) (rv_nilCheck (a := ⟨x2013.1, 0 + (x2013.2).toNat, none⟩) rfl) ?_
            refine HL.one 11 rfl (by kernel_rfl) fun K_41 hK_42 => ?_
            obtain ⟨x4413, hx_43, hp⟩ := bind_some' hp
            obtain ⟨x4414, hx_44, hp⟩ := bind_some' hp
            refine TL.stR (F := rgF R4) (F' := rgF (R4.set_ds x2013.1 (⟨(x4413.cells.put x2013.2 x7.x), x4413.top, x4413.bottom, x4413.owner⟩ : QDeque))) (ds := [.int .i64 x7.x]) (o := 0 + (x2013.2).toNat) (cs := (arrC x4413.cells ++ ([.int .i64 x4413.top, .int .i64 x4413.bottom, ptrV x4413.owner] : List Value))) (u := .int .i64 x7.x) 0 rfl ms_3 rfl rfl rfl (oc rfl oc0) (arr_fit (cs := (arrC x4413.cells ++ ([.int .i64 x4413.top, .int .i64 x4413.bottom, ptrV x4413.owner] : List Value))) (pre := []) (post := [.int .i64 x4413.top, .int .i64 x4413.bottom, ptrV x4413.owner]) (a := x4413.cells) rfl rfl hx_44) (spl_ds (R := R4) hx_43 (⟨(x4413.cells.put x2013.2 x7.x), x4413.top, x4413.bottom, x4413.owner⟩ : QDeque) rfl (arr_over (cs := (arrC x4413.cells ++ ([.int .i64 x4413.top, .int .i64 x4413.bottom, ptrV x4413.owner] : List Value))) (pre := []) (post := [.int .i64 x4413.top, .int .i64 x4413.bottom, ptrV x4413.owner]) (a := x4413.cells) rfl rfl hx_44 rfl).symm) ?_
            refine TL.norm (L' := [rgF (R4.set_ds x2013.1 (⟨(x4413.cells.put x2013.2 x7.x), x4413.top, x4413.bottom, x4413.owner⟩ : QDeque))]) rfl ?_
            refine TL.nil (hK_42 _ _ srcG0 ?_)
            refine HL.done (by kernel_rfl) ?_
            refine fun w hw => hJ_6 (R4.set_ds x2013.1 (⟨(x4413.cells.put x2013.2 x7.x), x4413.top, x4413.bottom, x4413.owner⟩ : QDeque)) _ hp w (hw.pick [0])
          · refine TL.v (ltb rfl) (rv_ld (v := .int .i64 x7.x) (o := 5) (o' := 0) (j := 5) sc_3 rfl (Src.at_ 0 rfl) (in_os (R := R4) (cs := [ptrV x7.d, .int .i64 x7.kind, .int .i64 x7.at_, .int .i64 x7.t, .int .i64 x7.b, .int .i64 x7.x, .int .i64 x7.got]) hx_12 rfl) rfl rfl) ?_
            refine TL.nil (hK_46 _ _ srcG0 ?_)
            refine HL.one 5 rfl (by kernel_rfl) fun K_47 hK_48 => ?_
            obtain ⟨x2013, hy_49, hp⟩ := bind_some' hp
            refine TL.callC (vs := [ptrV a1, .int .i64 x7.b]) (R := deque_Deque_cell.R R4 x2013) [rgF R4] [] rfl cb_88 (ltb rfl) (mc rfl (mc rfl m0)) (fun w hw => deque_Deque_cell_ok (a1 := a1) (a2 := x7.b) (R4 := R4) hy_49 hw) fun v A' hR_50 => ?_
            obtain ⟨rfl, rfl⟩ := hR_50
            refine TL.norm (L' := [rgF R4]) rfl ?_
            refine TL.nil (hK_48 _ _ srcG0 ?_)
            refine HL.v 10 rfl trivial (by kernel_rfl) (by kernel_rfl) (by kernel_rfl) (ltb rfl) (rv_nilCheck (a := ⟨x2013.1, 0 + (x2013.2).toNat, none⟩) rfl) ?_
            refine HL.one 11 rfl (by kernel_rfl) fun K_51 hK_52 => ?_
            obtain ⟨x4413, hx_53, hp⟩ := bind_some' hp
            obtain ⟨x4414, hx_54, hp⟩ := bind_some' hp
            refine TL.stR (F := rgF R4) (F' := rgF (R4.set_ds x2013.1 (⟨(x4413.cells.put x2013.2 x7.x), x4413.top, x4413.bottom, x4413.owner⟩ : QDeque))) (ds := [.int .i64 x7.x]) (o := 0 + (x2013.2).toNat) (cs := (arrC x4413.cells ++ ([.int .i64 x4413.top, .int .i64 x4413.bottom, ptrV x4413.owner] : List Value))) (u := .int .i64 x7.x) 0 rfl ms_3 rfl rfl rfl (oc rfl oc0) (arr_fit (cs := (arrC x4413.cells ++ ([.int .i64 x4413.top, .int .i64 x4413.bottom, ptrV x4413.owner] : List Value))) (pre := []) (post := [.int .i64 x4413.top, .int .i64 x4413.bottom, ptrV x4413.owner]) (a := x4413.cells) rfl rfl hx_54) (spl_ds (R := R4) hx_53 (⟨(x4413.cells.put x2013.2 x7.x), x4413.top, x4413.bottom, x4413.owner⟩ : QDeque) rfl (arr_over (cs := (arrC x4413.cells ++ ([.int .i64 x4413.top, .int .i64 x4413.bottom, ptrV x4413.owner] : List Value))) (pre := []) (post := [.int .i64 x4413.top, .int .i64 x4413.bottom, ptrV x4413.owner]) (a := x4413.cells) rfl rfl hx_54 rfl).symm) ?_
            refine TL.norm (L' := [rgF (R4.set_ds x2013.1 (⟨(x4413.cells.put x2013.2 x7.x), x4413.top, x4413.bottom, x4413.owner⟩ : QDeque))]) rfl ?_
            refine TL.nil (hK_52 _ _ srcG0 ?_)
            refine HL.done (by kernel_rfl) ?_
            refine fun w hw => hJ_6 (R4.set_ds x2013.1 (⟨(x4413.cells.put x2013.2 x7.x), x4413.top, x4413.bottom, x4413.owner⟩ : QDeque)) _ hp w (hw.pick [0])
        · refine TL.v (ltb rfl) (rv_ld (v := .int .i64 x7.x) (o := 5) (o' := 0) (j := 5) sc_3 rfl (Src.at_ 0 rfl) (in_os (R := R4) (cs := [ptrV x7.d, .int .i64 x7.kind, .int .i64 x7.at_, .int .i64 x7.t, .int .i64 x7.b, .int .i64 x7.x, .int .i64 x7.got]) hx_12 rfl) rfl rfl) ?_
          refine TL.nil (hK_56 _ _ srcG0 ?_)
          refine HL.one 4 rfl (by kernel_rfl) fun K_57 hK_58 => ?_
          refine TL.v (ltb rfl) (rv_ld (v := .int .i64 x7.b) (o := 4) (o' := 0) (j := 4) sc_3 rfl (Src.at_ 0 rfl) (in_os (R := R4) (cs := [ptrV x7.d, .int .i64 x7.kind, .int .i64 x7.at_, .int .i64 x7.t, .int .i64 x7.b, .int .i64 x7.x, .int .i64 x7.got]) hx_12 rfl) rfl rfl) ?_
          refine TL.nil (hK_58 _ _ srcG0 ?_)
          refine HL.one 5 rfl (by kernel_rfl) fun K_59 hK_60 => ?_
          obtain ⟨x2013, hy_61, hp⟩ := bind_some' hp
          refine TL.callC (vs := [ptrV a1, .int .i64 x7.b]) (R := deque_Deque_cell.R R4 x2013) [rgF R4] [] rfl cb_88 (ltb rfl) (mc rfl (mc rfl m0)) (fun w hw => deque_Deque_cell_ok (a1 := a1) (a2 := x7.b) (R4 := R4) hy_61 hw) fun v A' hR_62 => ?_
          obtain ⟨rfl, rfl⟩ := hR_62
          refine TL.norm (L' := [rgF R4]) rfl ?_
          refine TL.nil (hK_60 _ _ srcG0 ?_)
          refine HL.v 10 rfl trivial (by kernel_rfl) (by kernel_rfl) (by kernel_rfl) (ltb rfl) (rv_nilCheck (a := ⟨x2013.1, 0 + (x2013.2).toNat, none⟩) rfl) ?_
          refine HL.one 11 rfl (by kernel_rfl) fun K_63 hK_64 => ?_
          obtain ⟨x4413, hx_65, hp⟩ := bind_some' hp
          obtain ⟨x4414, hx_66, hp⟩ := bind_some' hp
          refine TL.stR (F := rgF R4) (F' := rgF (R4.set_ds x2013.1 (⟨(x4413.cells.put x2013.2 x7.x), x4413.top, x4413.bottom, x4413.owner⟩ : QDeque))) (ds := [.int .i64 x7.x]) (o := 0 + (x2013.2).toNat) (cs := (arrC x4413.cells ++ ([.int .i64 x4413.top, .int .i64 x4413.bottom, ptrV x4413.owner] : List Value))) (u := .int .i64 x7.x) 0 rfl ms_3 rfl rfl rfl (oc rfl oc0) (arr_fit (cs := (arrC x4413.cells ++ ([.int .i64 x4413.top, .int .i64 x4413.bottom, ptrV x4413.owner] : List Value))) (pre := []) (post := [.int .i64 x4413.top, .int .i64 x4413.bottom, ptrV x4413.owner]) (a := x4413.cells) rfl rfl hx_66) (spl_ds (R := R4) hx_65 (⟨(x4413.cells.put x2013.2 x7.x), x4413.top, x4413.bottom, x4413.owner⟩ : QDeque) rfl (arr_over (cs := (arrC x4413.cells ++ ([.int .i64 x4413.top, .int .i64 x4413.bottom, ptrV x4413.owner] : List Value))) (pre := []) (post := [.int .i64 x4413.top, .int .i64 x4413.bottom, ptrV x4413.owner]) (a := x4413.cells) rfl rfl hx_66 rfl).symm) ?_
          refine TL.norm (L' := [rgF (R4.set_ds x2013.1 (⟨(x4413.cells.put x2013.2 x7.x), x4413.top, x4413.bottom, x4413.owner⟩ : QDeque))]) rfl ?_
          refine TL.nil (hK_64 _ _ srcG0 ?_)
          refine HL.done (by kernel_rfl) ?_
          refine fun w hw => hJ_6 (R4.set_ds x2013.1 (⟨(x4413.cells.put x2013.2 x7.x), x4413.top, x4413.bottom, x4413.owner⟩ : QDeque)) _ hp w (hw.pick [0])
      · rw [if_neg hc_32] at hp
        refine TC.condF (bF hc_32) ?_
        refine TC.seq fun K_67 hK_68 => ?_
        refine TC.region ?_
        refine TL.v (ltb rfl) (rv_mv (v := ptrV a1) rfl) ?_
        refine TL.v (ltb rfl) (rv_mv (v := ptrV a2) rfl) ?_
        refine TL.v (ltb rfl) (rv_nilCheck (a := ⟨b6, 0, none⟩) (ptrE hb_11)) ?_
        refine TL.v (ltb rfl) (rv_fa (b := b6) (o := 0) fa_123_4 rfl) ?_
        refine TL.v (ltb rfl) (rv_ld (v := .int .i64 x7.b) (o := 4) (o' := 0) (j := 4) sc_3 rfl (Src.at_ 0 rfl) (in_os (R := R4) (cs := [ptrV x7.d, .int .i64 x7.kind, .int .i64 x7.at_, .int .i64 x7.t, .int .i64 x7.b, .int .i64 x7.x, .int .i64 x7.got]) hx_12 rfl) rfl rfl) ?_
        refine TL.v (ltb rfl) (rv_add (k := .i64) (m := x7.b) (n := 1) rfl rfl) ?_
        obtain ⟨b4813, hb_69, hp⟩ := bind_some' hp
        refine TL.v (ltb rfl) (rv_nilCheck (a := ⟨b4813, 0, none⟩) (ptrE hb_69)) ?_
        refine TL.v (ltb rfl) (rv_fa (b := b4813) (o := 0) fa_121_2 rfl) ?_
        obtain ⟨x4814, hx_70, hp⟩ := bind_some' hp
        refine TL.stR (F := rgF R4) (F' := rgF (R4.set_ds b4813 (⟨x4814.cells, x4814.top, (w64 (x7.b + 1)), x4814.owner⟩ : QDeque))) (ds := [.int .i64 (w64 (x7.b + 1))]) (o := 65) (cs := (arrC x4814.cells ++ ([.int .i64 x4814.top, .int .i64 x4814.bottom, ptrV x4814.owner] : List Value))) (u := .int .i64 (w64 (x7.b + 1))) 0 rfl ms_3 rfl rfl rfl (oc rfl oc0) (by rw [ds_len]; exact leb rfl) (spl_ds (R := R4) hx_70 (⟨x4814.cells, x4814.top, (w64 (x7.b + 1)), x4814.owner⟩ : QDeque) rfl (over_arr x4814.cells [.int .i64 x4814.top, .int .i64 x4814.bottom, ptrV x4814.owner] [.int .i64 (w64 (x7.b + 1))] 1).symm) ?_
        refine TL.norm (L' := [rgF (R4.set_ds b4813 (⟨x4814.cells, x4814.top, (w64 (x7.b + 1)), x4814.owner⟩ : QDeque))]) rfl ?_
        refine TL.nil ?_
        refine TC.go hK_68 ?_
        refine TC.seq fun K_71 hK_72 => ?_
        refine TC.region ?_
        refine TL.v (ltb rfl) (rv_as (v := .int .i64 1) rfl) ?_
        refine TL.nil ?_
        refine TC.go hK_72 ?_
        refine TC.ret ?_
        obtain rfl := Option.some.inj hp
        exact fun w hw => retOk ⟨rfl, rfl⟩ (hw.pick [0])

/-! ### (*fettle/deque.Deque).pop -/
abbrev deque_Deque_pop.R (r : Int × Rgn) (v : Value) (A : List FP) : Prop := .int .i64 r.1 = v ∧ A = [rgF r.2]
def deque_Deque_pop.jn6  (R5 : Rgn) : Option (Int × Rgn) :=
  some (0, R5)
def deque_Deque_pop.jn37 (a1 : Option Nat) (a2 : Option Nat) (R4 : Rgn) (x7 : QOp) (x12 : Bool) : Option (Int × Rgn) :=
  if x12 = true then
    (a2).bind fun b13 =>
    (look (R4).os b13).bind fun x14 =>
    (a1).bind fun b15 =>
    (look (R4).ds b15).bind fun x16 =>
    some (2, (R4.set_ds b15 (⟨x16.cells, x16.top, (w64 (x14.b + 1)), x16.owner⟩ : QDeque)))
  else
    if x7.at_ = 20 then
      (a2).bind fun b17 =>
      (look (R4).os b17).bind fun x18 =>
      (deque_Deque_cell a1 x18.b R4).bind fun x19 =>
      (look (R4).ds x19.1).bind fun x20 =>
      (A64.get x20.cells x19.2).bind fun x21 =>
      if x18.t < x18.b then
        some (1, (R4.set_os b17 (⟨x18.d, x18.kind, x18.at_, x18.t, x18.b, x21, x18.got⟩ : QOp)))
      else
        deque_Deque_pop.jn6 ((R4.set_os b17 (⟨x18.d, x18.kind, x18.at_, x18.t, x18.b, x21, x18.got⟩ : QOp)).set_os b17 (⟨x18.d, x18.kind, 29, x18.t, x18.b, x21, x18.got⟩ : QOp))
    else
      if x7.at_ = 30 then
        (a2).bind fun b22 =>
        (look (R4).os b22).bind fun x23 =>
        (deque_Deque_take a1 x23.t R4).bind fun x24 =>
        (look (x24.2).os b22).bind fun x25 =>
        if x24.1 = true then
          deque_Deque_pop.jn6 ((x24.2.set_os b22 (⟨x25.d, x25.kind, 49, x25.t, x25.b, x25.x, x25.got⟩ : QOp)).set_os b22 (⟨x25.d, x25.kind, 39, x25.t, x25.b, x25.x, x25.got⟩ : QOp))
        else
          deque_Deque_pop.jn6 (x24.2.set_os b22 (⟨x25.d, x25.kind, 49, x25.t, x25.b, x25.x, x25.got⟩ : QOp))
      else
        (a2).bind fun b26 =>
        (look (R4).os b26).bind fun x27 =>
        (a1).bind fun b28 =>
        (look (R4).ds b28).bind fun x29 =>
        some (1, (R4.set_ds b28 (⟨x29.cells, x29.top, (w64 (x27.b + 1)), x29.owner⟩ : QDeque)))
def deque_Deque_pop (a1 : Option Nat) (a2 : Option Nat) (R4 : Rgn) : Option (Int × Rgn) :=
  (a2).bind fun b6 =>
  (look (R4).os b6).bind fun x7 =>
  if x7.at_ = 0 then
    (a1).bind fun b8 =>
    (look (R4).ds b8).bind fun x9 =>
    deque_Deque_pop.jn6 ((R4.set_os b6 (⟨x7.d, x7.kind, x7.at_, x7.t, (w64 (x9.bottom - 1)), x7.x, x7.got⟩ : QOp)).set_ds b8 (⟨x9.cells, x9.top, (w64 (x9.bottom - 1)), x9.owner⟩ : QDeque))
  else
    if x7.at_ = 1 then
      (a1).bind fun b10 =>
      (look (R4).ds b10).bind fun x11 =>
      if x11.top > x7.b then
        deque_Deque_pop.jn6 (((R4.set_os b6 (⟨x7.d, x7.kind, x7.at_, x11.top, x7.b, x7.x, x7.got⟩ : QOp)).set_os b6 (⟨x7.d, x7.kind, 19, x11.top, x7.b, x7.x, x7.got⟩ : QOp)).set_os b6 (⟨x7.d, x7.kind, 9, x11.top, x7.b, x7.x, x7.got⟩ : QOp))
      else
        deque_Deque_pop.jn6 ((R4.set_os b6 (⟨x7.d, x7.kind, x7.at_, x11.top, x7.b, x7.x, x7.got⟩ : QOp)).set_os b6 (⟨x7.d, x7.kind, 19, x11.top, x7.b, x7.x, x7.got⟩ : QOp))
    else
      if x7.at_ = 10 then
        deque_Deque_pop.jn37 a1 a2 R4 x7 (decide (x7.at_ = 10))
      else
        deque_Deque_pop.jn37 a1 a2 R4 x7 (decide (x7.at_ = 50))
set_option maxHeartbeats 4000000 in
theorem deque_Deque_pop_ok {E : World} {H : FP} {w : World} {a1 : Option Nat} {a2 : Option Nat} {R4 : Rgn} {r : Int × Rgn}  (hp : deque_Deque_pop a1 a2 R4 = some r) (hst : St E H [rgF R4] w) :
    Fn Try.prog 65 #[ptrV a1, ptrV a2] w fun v w' => ∃ A, deque_Deque_pop.R r v A ∧ St E H A w' := by
  refine Fn.body (fn := Try.f65) (args := [ptrV a1, ptrV a2]) E H [rgF R4] [.tmp 4] 110 Try.func65 rfl rfl rfl rfl (leb rfl) hst ?_
  unfold deque_Deque_pop at hp
  refine TC.seq fun K_1 hK_2 => ?_
  refine TC.region ?_
  refine TL.v (ltb rfl) (rv_as (v := .int .i64 0) rfl) ?_
  refine TL.nil ?_
  refine TC.go hK_2 ?_
  refine TC.seq fun K_3 hK_4 => ?_
  have hJ_6 : ∀ (R5 : Rgn) (e_5 : Env) (hp : deque_Deque_pop.jn6 R5 = some r), ∀ w, St E H [rgF R5] w → K_3 e_5 w := by
    intro R5 e_5 hp
    unfold deque_Deque_pop.jn6 at hp
    refine TC.go hK_4 ?_
    refine TC.seq fun K_7 hK_8 => ?_
    refine TC.region ?_
    refine TL.v (ltb rfl) (rv_as (v := .int .i64 0) rfl) ?_
    refine TL.nil ?_
    refine TC.go hK_8 ?_
    refine TC.ret ?_
    obtain rfl := Option.some.inj hp
    exact fun w hw => retOk ⟨rfl, rfl⟩ (hw.pick [0])
  refine TC.seq fun K_9 hK_10 => ?_
  refine TC.region ?_
  refine TL.v (ltb rfl) (rv_mv (v := ptrV a2) rfl) ?_
  obtain ⟨b6, hb_11, hp⟩ := bind_some' hp
  refine TL.v (ltb rfl) (rv_nilCheck (a := ⟨b6, 0, none⟩) (ptrE hb_11)) ?_
  refine TL.v (ltb rfl) (rv_fa (b := b6) (o := 0) fa_123_2 rfl) ?_
  obtain ⟨x7, hx_12, hp⟩ := bind_some' hp
  refine TL.v (ltb rfl) (rv_ld (v := .int .i64 x7.at_) (o := 2) (o' := 0) (j := 2) sc_3 rfl (Src.at_ 0 rfl) (in_os (R := R4) (cs := [ptrV x7.d, .int .i64 x7.kind, .int .i64 x7.at_, .int .i64 x7.t, .int .i64 x7.b, .int .i64 x7.x, .int .i64 x7.got]) hx_12 rfl) rfl rfl) ?_
  refine TL.nil ?_
  refine TC.go hK_10 ?_
  refine TC.block ?_
  refine TC.seq fun K_13 hK_14 => ?_
  refine TC.region ?_
  refine TL.v (ltb rfl) (rv_eql (k := .i64) (m := x7.at_) (n := 0) rfl rfl) ?_
  refine TL.v (ltb rfl) (rv_as (v := .bool (decide (x7.at_ = 0))) rfl) ?_
  refine TL.nil ?_
  refine TC.go hK_14 ?_
  by_cases hc_15 : x7.at_ = 0
  · rw [if_pos hc_15] at hp
    refine TC.condT (bT hc_15) ?_
    refine TC.seq fun K_16 hK_17 => ?_
    refine TC.region ?_
    refine TL.v (ltb rfl) (rv_mv (v := ptrV a2) rfl) ?_
    refine TL.v (ltb rfl) (rv_mv (v := ptrV a1) rfl) ?_
    obtain ⟨b8, hb_18, hp⟩ := bind_some' hp
    refine TL.v (ltb rfl) (rv_nilCheck (a := ⟨b8, 0, none⟩) (ptrE hb_18)) ?_
    refine TL.v (ltb rfl) (rv_fa (b := b8) (o := 0) fa_121_2 rfl) ?_
    obtain ⟨x9, hx_19, hp⟩ := bind_some' hp
    refine TL.v (ltb rfl) (rv_ld (v := .int .i64 x9.bottom) (o := 65) (o' := 0) (j := 65) sc_3 rfl (Src.at_ 0 rfl) (in_ds (R := R4) (cs := (arrC x9.cells ++ ([.int .i64 x9.top, .int .i64 x9.bottom, ptrV x9.owner] : List Value))) hx_19 rfl) rfl (Eq.trans (arr_ge _ _ 1) rfl)) ?_
    refine TL.v (ltb rfl) (rv_sub (k := .i64) (m := x9.bottom) (n := 1) rfl rfl) ?_
    refine TL.v (ltb rfl) (rv_nilCheck (a := ⟨b6, 0, none⟩) (ptrE hb_11)) ?_
    refine TL.v (ltb rfl) (rv_fa (b := b6) (o := 0) fa_123_4 rfl) ?_
    refine TL.stR (F := rgF R4) (F' := rgF (R4.set_os b6 (⟨x7.d, x7.kind, x7.at_, x7.t, (w64 (x9.bottom - 1)), x7.x, x7.got⟩ : QOp))) (ds := [.int .i64 (w64 (x9.bottom - 1))]) (o := 4) (cs := [ptrV x7.d, .int .i64 x7.kind, .int .i64 x7.at_, .int .i64 x7.t, .int .i64 x7.b, .int .i64 x7.x, .int .i64 x7.got]) (u := .int .i64 (w64 (x9.bottom - 1))) 0 rfl ms_3 rfl rfl rfl (oc rfl oc0) (leb rfl) (spl_os (R := R4) hx_12 (⟨x7.d, x7.kind, x7.at_, x7.t, (w64 (x9.bottom - 1)), x7.x, x7.got⟩ : QOp) rfl rfl) ?_
    refine TL.norm (L' := [rgF (R4.set_os b6 (⟨x7.d, x7.kind, x7.at_, x7.t, (w64 (x9.bottom - 1)), x7.x, x7.got⟩ : QOp))]) rfl ?_
    refine TL.nil ?_
    refine TC.go hK_17 ?_
    refine TC.region ?_
    refine TL.v (ltb rfl) (rv_mv (v := ptrV a1) rfl) ?_
    refine TL.v (ltb rfl) (rv_mv (v := ptrV a2) rfl) ?_
    refine TL.v (ltb rfl) (rv_nilCheck (a := ⟨b6, 0, none⟩) (ptrE hb_11)) ?_
    refine TL.v (ltb rfl) (rv_fa (b := b6) (o := 0) fa_123_4 rfl) ?_
    refine TL.v (ltb rfl) (rv_ld (v := .int .i64 (w64 (x9.bottom - 1))) (o := 4) (o' := 0) (j := 4) sc_3 rfl (Src.at_ 0 rfl) (in_os (R := (R4.set_os b6 (⟨x7.d, x7.kind, x7.at_, x7.t, (w64 (x9.bottom - 1)), x7.x, x7.got⟩ : QOp))) (cs := [ptrV x7.d, .int .i64 x7.kind, .int .i64 x7.at_, .int .i64 x7.t, .int .i64 (w64 (x9.bottom - 1)), .int .i64 x7.x, .int .i64 x7.got]) (look_setL _ _ _ _ hx_12) rfl) rfl rfl) ?_
    refine TL.v (ltb rfl) (rv_nilCheck (a := ⟨b8, 0, none⟩) (ptrE hb_18)) ?_
    refine TL.v (ltb rfl) (rv_fa (b := b8) (o := 0) fa_121_2 rfl) ?_
    refine TL.stR (F := rgF (R4.set_os b6 (⟨x7.d, x7.kind, x7.at_, x7.t, (w64 (x9.bottom - 1)), x7.x, x7.got⟩ : QOp))) (F' := rgF ((R4.set_os b6 (⟨x7.d, x7.kind, x7.at_, x7.t, (w64 (x9.bottom - 1)), x7.x, x7.got⟩ : QOp)).set_ds b8 (⟨x9.cells, x9.top, (w64 (x9.bottom - 1)), x9.owner⟩ : QDeque))) (ds := [.int .i64 (w64 (x9.bottom - 1))]) (o := 65) (cs := (arrC x9.cells ++ ([.int .i64 x9.top, .int .i64 x9.bottom, ptrV x9.owner] : List Value))) (u := .int .i64 (w64 (x9.bottom - 1))) 0 rfl ms_3 rfl rfl rfl (oc rfl oc0) (by rw [ds_len]; exact leb rfl) (spl_ds (R := (R4.set_os b6 (⟨x7.d, x7.kind, x7.at_, x7.t, (w64 (x9.bottom - 1)), x7.x, x7.got⟩ : QOp))) hx_19 (⟨x9.cells, x9.top, (w64 (x9.bottom - 1)), x9.owner⟩ : QDeque) rfl (over_arr x9.cells [.int .i64 x9.top, .int .i64 x9.bottom, ptrV x9.owner] [.int .i64 (w64 (x9.bottom - 1))] 1).symm) ?_
    refine TL.norm (L' := [rgF ((R4.set_os b6 (⟨x7.d, x7.kind, x7.at_, x7.t, (w64 (x9.bottom - 1)), x7.x, x7.got⟩ : QOp)).set_ds b8 (⟨x9.cells, x9.top, (w64 (x9.bottom - 1)), x9.owner⟩ : QDeque))]) rfl ?_
    refine TL.nil ?_
    refine fun w hw => hJ_6 ((R4.set_os b6 (⟨x7.d, x7.kind, x7.at_, x7.t, (w64 (x9.bottom - 1)), x7.x, x7.got⟩ : QOp)).set_ds b8 (⟨x9.cells, x9.top, (w64 (x9.bottom - 1)), x9.owner⟩ : QDeque)) _ hp w (hw.pick [0])
  · rw [if_neg hc_15] at hp
    refine TC.condF (bF hc_15) ?_
    refine TC.seq fun K_20 hK_21 => ?_
    refine TC.region ?_
    refine TL.v (ltb rfl) (rv_eql (k := .i64) (m := x7.at_) (n := 1) rfl rfl) ?_
    refine TL.v (ltb rfl) (rv_as (v := .bool (decide (x7.at_ = 1))) rfl) ?_
    refine TL.nil ?_
    refine TC.go hK_21 ?_
    by_cases hc_22 : x7.at_ = 1
    · rw [if_pos hc_22] at hp
      refine TC.condT (bT hc_22) ?_
      refine TC.seq fun K_23 hK_24 => ?_
      refine TC.region ?_
      refine TL.v (ltb rfl) (rv_mv (v := ptrV a2) rfl) ?_
      refine TL.v (ltb rfl) (rv_mv (v := ptrV a2) rfl) ?_
      refine TL.v (ltb rfl) (rv_mv (v := ptrV a1) rfl) ?_
      obtain ⟨b10, hb_25, hp⟩ := bind_some' hp
      refine TL.v (ltb rfl) (rv_nilCheck (a := ⟨b10, 0, none⟩) (ptrE hb_25)) ?_
      refine TL.v (ltb rfl) (rv_fa (b := b10) (o := 0) fa_121_1 rfl) ?_
      obtain ⟨x11, hx_26, hp⟩ := bind_some' hp
      refine TL.v (ltb rfl) (rv_ld (v := .int .i64 x11.top) (o := 64) (o' := 0) (j := 64) sc_3 rfl (Src.at_ 0 rfl) (in_ds (R := R4) (cs := (arrC x11.cells ++ ([.int .i64 x11.top, .int .i64 x11.bottom, ptrV x11.owner] : List Value))) hx_26 rfl) rfl (Eq.trans (arr_ge _ _ 0) rfl)) ?_
      refine TL.v (ltb rfl) (rv_nilCheck (a := ⟨b6, 0, none⟩) (ptrE hb_11)) ?_
      refine TL.v (ltb rfl) (rv_fa (b := b6) (o := 0) fa_123_3 rfl) ?_
      refine TL.stR (F := rgF R4) (F' := rgF (R4.set_os b6 (⟨x7.d, x7.kind, x7.at_, x11.top, x7.b, x7.x, x7.got⟩ : QOp))) (ds := [.int .i64 x11.top]) (o := 3) (cs := [ptrV x7.d, .int .i64 x7.kind, .int .i64 x7.at_, .int .i64 x7.t, .int .i64 x7.b, .int .i64 x7.x, .int .i64 x7.got]) (u := .int .i64 x11.top) 0 rfl ms_3 rfl rfl rfl (oc rfl oc0) (leb rfl) (spl_os (R := R4) hx_12 (⟨x7.d, x7.kind, x7.at_, x11.top, x7.b, x7.x, x7.got⟩ : QOp) rfl rfl) ?_
      refine TL.norm (L' := [rgF (R4.set_os b6 (⟨x7.d, x7.kind, x7.at_, x11.top, x7.b, x7.x, x7.got⟩ : QOp))]) rfl ?_
      refine TL.v (ltb rfl) (rv_nilCheck (a := ⟨b6, 0, none⟩) (ptrE hb_11)) ?_
      refine TL.v (ltb rfl) (rv_fa (b := b6) (o := 0) fa_123_2 rfl) ?_
      refine TL.stR (F := rgF (R4.set_os b6 (⟨x7.d, x7.kind, x7.at_, x11.top, x7.b, x7.x, x7.got⟩ : QOp))) (F' := rgF ((R4.set_os b6 (⟨x7.d, x7.kind, x7.at_, x11.top, x7.b, x7.x, x7.got⟩ : QOp)).set_os b6 (⟨x7.d, x7.kind, 19, x11.top, x7.b, x7.x, x7.got⟩ : QOp))) (ds := [.int .i64 19]) (o := 2) (cs := [ptrV x7.d, .int .i64 x7.kind, .int .i64 x7.at_, .int .i64 x11.top, .int .i64 x7.b, .int .i64 x7.x, .int .i64 x7.got]) (u := .int .i64 19) 0 rfl ms_3 rfl rfl rfl (oc rfl oc0) (leb rfl) (spl_os (R := (R4.set_os b6 (⟨x7.d, x7.kind, x7.at_, x11.top, x7.b, x7.x, x7.got⟩ : QOp))) (look_setL _ _ _ _ hx_12) (⟨x7.d, x7.kind, 19, x11.top, x7.b, x7.x, x7.got⟩ : QOp) rfl rfl) ?_
      refine TL.norm (L' := [rgF ((R4.set_os b6 (⟨x7.d, x7.kind, x7.at_, x11.top, x7.b, x7.x, x7.got⟩ : QOp)).set_os b6 (⟨x7.d, x7.kind, 19, x11.top, x7.b, x7.x, x7.got⟩ : QOp))]) rfl ?_
      refine TL.nil ?_
      refine TC.go hK_24 ?_
      refine TC.seq fun K_27 hK_28 => ?_
      refine TC.quiet mix (by kernel_rfl) ?_
      refine QL.v (ltb rfl) (rv_mv (v := ptrV a2) rfl) ?_
      refine QL.v (ltb rfl) (rv_nilCheck (a := ⟨b6, 0, none⟩) (ptrE hb_11)) ?_
      refine QL.v (ltb rfl) (rv_fa (b := b6) (o := 0) fa_123_3 rfl) ?_
      refine QL.v (ltb rfl) (rv_ld (v := .int .i64 x11.top) (o := 3) (o' := 0) (j := 3) sc_3 rfl (Src.at_ 0 rfl) (in_os (R := ((R4.set_os b6 (⟨x7.d, x7.kind, x7.at_, x11.top, x7.b, x7.x, x7.got⟩ : QOp)).set_os b6 (⟨x7.d, x7.kind, 19, x11.top, x7.b, x7.x, x7.got⟩ : QOp))) (cs := [ptrV x7.d, .int .i64 x7.kind, .int .i64 19, .int .i64 x11.top, .int .i64 x7.b, .int .i64 x7.x, .int .i64 x7.got]) (look_setL _ _ _ _ (look_setL _ _ _ _ hx_12)) rfl) rfl rfl) ?_
      refine QL.v (ltb rfl) (rv_mv (v := ptrV a2) rfl) ?_
      refine QL.v (ltb rfl) (rv_nilCheck (a := ⟨b6, 0, none⟩) (ptrE hb_11)) ?_
      refine QL.v (ltb rfl) (rv_fa (b := b6) (o := 0) fa_123_4 rfl) ?_
      refine QL.v (ltb rfl) (rv_ld (v := .int .i64 x7.b) (o := 4) (o' := 0) (j := 4) sc_3 rfl (Src.at_ 0 rfl) (in_os (R := ((R4.set_os b6 (⟨x7.d, x7.kind, x7.at_, x11.top, x7.b, x7.x, x7.got⟩ : QOp)).set_os b6 (⟨x7.d, x7.kind, 19, x11.top, x7.b, x7.x, x7.got⟩ : QOp))) (cs := [ptrV x7.d, .int .i64 x7.kind, .int .i64 19, .int .i64 x11.top, .int .i64 x7.b, .int .i64 x7.x, .int .i64 x7.got]) (look_setL _ _ _ _ (look_setL _ _ _ _ hx_12)) rfl) rfl rfl) ?_
      refine QL.v (ltb rfl) (rv_gtr (k := .i64) (m := x11.top) (n := x7.b) rfl rfl) ?_
      refine QL.nil ?_
      refine TC.go hK_28 ?_
      by_cases hc_29 : x11.top > x7.b
      · rw [if_pos hc_29] at hp
        refine TC.condT (bT hc_29) ?_
        refine TC.region ?_
        refine TL.v (ltb rfl) (rv_mv (v := ptrV a2) rfl) ?_
        refine TL.v (ltb rfl) (rv_nilCheck (a := ⟨b6, 0, none⟩) (ptrE hb_11)) ?_
        refine TL.v (ltb rfl) (rv_fa (b := b6) (o := 0) fa_123_2 rfl) ?_
        refine TL.stR (F := rgF ((R4.set_os b6 (⟨x7.d, x7.kind, x7.at_, x11.top, x7.b, x7.x, x7.got⟩ : QOp)).set_os b6 (⟨x7.d, x7.kind, 19, x11.top, x7.b, x7.x, x7.got⟩ : QOp))) (F' := rgF (((R4.set_os b6 (⟨x7.d, x7.kind, x7.at_, x11.top, x7.b, x7.x, x7.got⟩ : QOp)).set_os b6 (⟨x7.d, x7.kind, 19, x11.top, x7.b, x7.x, x7.got⟩ : QOp)).set_os b6 (⟨x7.d, x7.kind, 9, x11.top, x7.b, x7.x, x7.got⟩ : QOp))) (ds := [.int .i64 9]) (o := 2) (cs := [ptrV x7.d, .int .i64 x7.kind, .int .i64 19, .int .i64 x11.top, .int .i64 x7.b, .int .i64 x7.x, .int .i64 x7.got]) (u := .int .i64 9) 0 rfl ms_3 rfl rfl rfl (oc rfl oc0) (leb rfl) (spl_os (R := ((R4.set_os b6 (⟨x7.d, x7.kind, x7.at_, x11.top, x7.b, x7.x, x7.got⟩ : QOp)).set_os b6 (⟨x7.d, x7.kind, 19, x11.top, x7.b, x7.x, x7.got⟩ : QOp))) (look_setL _ _ _ _ (look_setL _ _ _ _ hx_12)) (⟨x7.d, x7.kind, 9, x11.top, x7.b, x7.x, x7.got⟩ : QOp) rfl rfl) ?_
        refine TL.norm (L' := [rgF (((R4.set_os b6 (⟨x7.d, x7.kind, x7.at_, x11.top, x7.b, x7.x, x7.got⟩ : QOp)).set_os b6 (⟨x7.d, x7.kind, 19, x11.top, x7.b, x7.x, x7.got⟩ : QOp)).set_os b6 (⟨x7.d, x7.kind, 9, x11.top, x7.b, x7.x, x7.got⟩ : QOp))]) rfl ?_
        refine TL.nil ?_
        refine fun w hw => hJ_6 (((R4.set_os b6 (⟨x7.d, x7.kind, x7.at_, x11.top, x7.b, x7.x, x7.got⟩ : QOp)).set_os b6 (⟨x7.d, x7.kind, 19, x11.top, x7.b, x7.x, x7.got⟩ : QOp)).set_os b6 (⟨x7.d, x7.kind, 9, x11.top, x7.b, x7.x, x7.got⟩ : QOp)) _ hp w (hw.pick [0])
      · rw [if_neg hc_29] at hp
        refine TC.condF (bF hc_29) ?_
        refine TC.skip ?_
        refine fun w hw => hJ_6 ((R4.set_os b6 (⟨x7.d, x7.kind, x7.at_, x11.top, x7.b, x7.x, x7.got⟩ : QOp)).set_os b6 (⟨x7.d, x7.kind, 19, x11.top, x7.b, x7.x, x7.got⟩ : QOp)) _ hp w (hw.pick [0])
    · rw [if_neg hc_22] at hp
      refine TC.condF (bF hc_22) ?_
      refine TC.seq fun K_30 hK_31 => ?_
      have hJ_37 : ∀ (x12 : Bool) (e_32 : Env) (h_33 : e_32 0 = ptrV a1) (h_34 : e_32 1 = ptrV a2) (h_35 : e_32 9 = .int .i64 x7.at_) (h_36 : e_32 59 = .bool x12) (hp : deque_Deque_pop.jn37 a1 a2 R4 x7 x12 = some r), ∀ w, St E H [rgF R4] w → K_30 e_32 w := by
        intro x12 e_32 h_33 h_34 h_35 h_36 hp
        unfold deque_Deque_pop.jn37 at hp
        refine TC.go hK_31 ?_
        by_cases hc_38 : x12 = true
        · rw [if_pos hc_38] at hp
          refine TC.condT (h_36.trans (bbT hc_38)) ?_
          refine TC.seq fun K_39 hK_40 => ?_
          refine TC.region ?_
          refine TL.v (ltb rfl) (rv_mv (v := ptrV a1) h_33) ?_
          refine TL.v (ltb rfl) (rv_mv (v := ptrV a2) h_34) ?_
          obtain ⟨b13, hb_41, hp⟩ := bind_some' hp
          refine TL.v (ltb rfl) (rv_nilCheck (a := ⟨b13, 0, none⟩) (ptrE hb_41)) ?_
          refine TL.v (ltb rfl) (rv_fa (b := b13) (o := 0) fa_123_4 rfl) ?_
          obtain ⟨x14, hx_42, hp⟩ := bind_some' hp
          refine TL.v (ltb rfl) (rv_ld (v := .int .i64 x14.b) (o := 4) (o' := 0) (j := 4) sc_3 rfl (Src.at_ 0 rfl) (in_os (R := R4) (cs := [ptrV x14.d, .int .i64 x14.kind, .int .i64 x14.at_, .int .i64 x14.t, .int .i64 x14.b, .int .i64 x14.x, .int .i64 x14.got]) hx_42 rfl) rfl rfl) ?_
          refine TL.v (ltb rfl) (rv_add (k := .i64) (m := x14.b) (n := 1) rfl rfl) ?_
          obtain ⟨b15, hb_43, hp⟩ := bind_some' hp
          refine TL.v (ltb rfl) (rv_nilCheck (a := ⟨b15, 0, none⟩) (ptrE hb_43)) ?_
          refine TL.v (ltb rfl) (rv_fa (b := b15) (o := 0) fa_121_2 rfl) ?_
          obtain ⟨x16, hx_44, hp⟩ := bind_some' hp
          refine TL.stR (F := rgF R4) (F' := rgF (R4.set_ds b15 (⟨x16.cells, x16.top, (w64 (x14.b + 1)), x16.owner⟩ : QDeque))) (ds := [.int .i64 (w64 (x14.b + 1))]) (o := 65) (cs := (arrC x16.cells ++ ([.int .i64 x16.top, .int .i64 x16.bottom, ptrV x16.owner] : List Value))) (u := .int .i64 (w64 (x14.b + 1))) 0 rfl ms_3 rfl rfl rfl (oc rfl oc0) (by rw [ds_len]; exact leb rfl) (spl_ds (R := R4) hx_44 (⟨x16.cells, x16.top, (w64 (x14.b + 1)), x16.owner⟩ : QDeque) rfl (over_arr x16.cells [.int .i64 x16.top, .int .i64 x16.bottom, ptrV x16.owner] [.int .i64 (w64 (x14.b + 1))] 1).symm) ?_
          refine TL.norm (L' := [rgF (R4.set_ds b15 (⟨x16.cells, x16.top, (w64 (x14.b + 1)), x16.owner⟩ : QDeque))]) rfl ?_
          refine TL.nil ?_
          refine TC.go hK_40 ?_
          refine TC.seq fun K_45 hK_46 => ?_
          refine TC.region ?_
          refine TL.v (ltb rfl) (rv_as (v := .int .i64 2) rfl) ?_
          refine TL.nil ?_
          refine TC.go hK_46 ?_
          refine TC.ret ?_
          obtain rfl := Option.some.inj hp
          exact fun w hw => retOk ⟨rfl, rfl⟩ (hw.pick [0])
        · rw [if_neg hc_38] at hp
          refine TC.condF (h_36.trans (bbF hc_38)) ?_
          refine TC.seq fun K_47 hK_48 => ?_
          refine TC.region ?_
          refine TL.v (ltb rfl) (rv_eql (k := .i64) (m := x7.at_) (n := 20) h_35 rfl) ?_
          refine TL.v (ltb rfl) (rv_as (v := .bool (decide (x7.at_ = 20))) rfl) ?_
          refine TL.nil ?_
          refine TC.go hK_48 ?_
          by_cases hc_49 : x7.at_ = 20
          · rw [if_pos hc_49] at hp
            refine TC.condT (bT hc_49) ?_
            refine TC.seq fun K_50 hK_51 => ?_
            refine TC.region ?_
            refine TL.v (ltb rfl) (rv_mv (v := ptrV a2) h_34) ?_
            refine TL.v (ltb rfl) (rv_mv (v := ptrV a1) h_33) ?_
            refine TL.v (ltb rfl) (rv_mv (v := ptrV a2) h_34) ?_
            obtain ⟨b17, hb_52, hp⟩ := bind_some' hp
            refine TL.v (ltb rfl) (rv_nilCheck (a := ⟨b17, 0, none⟩) (ptrE hb_52)) ?_
            refine TL.v (ltb rfl) (rv_fa (b := b17) (o := 0) fa_123_4 rfl) ?_
            obtain ⟨x18, hx_53, hp⟩ := bind_some' hp
            refine TL.v (ltb rfl) (rv_ld (v := .int .i64 x18.b) (o := 4) (o' := 0) (j := 4) sc_3 rfl (Src.at_ 0 rfl) (in_os (R := R4) (cs := [ptrV x18.d, .int .i64 x18.kind, .int .i64 x18.at_, .int .i64 x18.t, .int .i64 x18.b, .int .i64 x18.x, .int .i64 x18.got]) hx_53 rfl) rfl rfl) ?_
            obtain ⟨x19, hy_54, hp⟩ := bind_some' hp
            refine TL.callC (vs := [ptrV a1, .int .i64 x18.b]) (R := deque_Deque_cell.R R4 x19) [rgF R4] [] rfl cb_88 (ltb rfl) (mc rfl (mc rfl m0)) (fun w hw => deque_Deque_cell_ok (a1 := a1) (a2 := x18.b) (R4 := R4) hy_54 hw) fun v A' hR_55 => ?_
            obtain ⟨rfl, rfl⟩ := hR_55
            refine TL.norm (L' := [rgF R4]) rfl ?_
            refine TL.v (ltb rfl) (rv_nilCheck (a := ⟨x19.1, 0 + (x19.2).toNat, none⟩) rfl) ?_
            obtain ⟨x20, hx_56, hp⟩ := bind_some' hp
            obtain ⟨x21, hx_57, hp⟩ := bind_some' hp
            refine TL.v (ltb rfl) (rv_ld (v := .int .i64 x21) (o := 0 + (x19.2).toNat) (o' := 0) (j := 0 + (x19.2).toNat) sc_3 rfl (Src.at_ 0 rfl) (in_ds (R := R4) (cs := (arrC x20.cells ++ ([.int .i64 x20.top, .int .i64 x20.bottom, ptrV x20.owner] : List Value))) hx_56 rfl) (Nat.zero_add _) (arr_at (pre := []) (post := [.int .i64 x20.top, .int .i64 x20.bottom, ptrV x20.owner]) (a := x20.cells) (cs := (arrC x20.cells ++ ([.int .i64 x20.top, .int .i64 x20.bottom, ptrV x20.owner] : List Value))) rfl rfl hx_57)) ?_
            refine TL.v (ltb rfl) (rv_nilCheck (a := ⟨b17, 0, none⟩) (ptrE hb_52)) ?_
            refine TL.v (ltb rfl) (rv_fa (b := b17) (o := 0) fa_123_5 rfl) ?_
            refine TL.stR (F := rgF R4) (F' := rgF (R4.set_os b17 (⟨x18.d, x18.kind, x18.at_, x18.t, x18.b, x21, x18.got⟩ : QOp))) (ds := [.int .i64 x21]) (o := 5) (cs := [ptrV x18.d, .int .i64 x18.kind, .int .i64 x18.at_, .int .i64 x18.t, .int .i64 x18.b, .int .i64 x18.x, .int .i64 x18.got]) (u := .int .i64 x21) 0 rfl ms_3 rfl rfl rfl (oc rfl oc0) (leb rfl) (spl_os (R := R4) hx_53 (⟨x18.d, x18.kind, x18.at_, x18.t, x18.b, x21, x18.got⟩ : QOp) rfl rfl) ?_
            refine TL.norm (L' := [rgF (R4.set_os b17 (⟨x18.d, x18.kind, x18.at_, x18.t, x18.b, x21, x18.got⟩ : QOp))]) rfl ?_
            refine TL.nil ?_
            refine TC.go hK_51 ?_
            refine TC.seq fun K_58 hK_59 => ?_
            refine TC.seq fun K_60 hK_61 => ?_
            refine TC.quiet mix (by kernel_rfl) ?_
            refine QL.v (ltb rfl) (rv_mv (v := ptrV a2) h_34) ?_
            refine QL.v (ltb rfl) (rv_nilCheck (a := ⟨b17, 0, none⟩) (ptrE hb_52)) ?_
            refine QL.v (ltb rfl) (rv_fa (b := b17) (o := 0) fa_123_3 rfl) ?_
            refine QL.v (ltb rfl) (rv_ld (v := .int .i64 x18.t) (o := 3) (o' := 0) (j := 3) sc_3 rfl (Src.at_ 0 rfl) (in_os (R := (R4.set_os b17 (⟨x18.d, x18.kind, x18.at_, x18.t, x18.b, x21, x18.got⟩ : QOp))) (cs := [ptrV x18.d, .int .i64 x18.kind, .int .i64 x18.at_, .int .i64 x18.t, .int .i64 x18.b, .int .i64 x21, .int .i64 x18.got]) (look_setL _ _ _ _ hx_53) rfl) rfl rfl) ?_
            refine QL.v (ltb rfl) (rv_mv (v := ptrV a2) h_34) ?_
            refine QL.v (ltb rfl) (rv_nilCheck (a := ⟨b17, 0, none⟩) (ptrE hb_52)) ?_
            refine QL.v (ltb rfl) (rv_fa (b := b17) (o := 0) fa_123_4 rfl) ?_
            refine QL.v (ltb rfl) (rv_ld (v := .int .i64 x18.b) (o := 4) (o' := 0) (j := 4) sc_3 rfl (Src.at_ 0 rfl) (in_os (R := (R4.set_os b17 (⟨x18.d, x18.kind, x18.at_, x18.t, x18.b, x21, x18.got⟩ : QOp))) (cs := [ptrV x18.d, .int .i64 x18.kind, .int .i64 x18.at_, .int .i64 x18.t, .int .i64 x18.b, .int .i64 x21, .int .i64 x18.got]) (look_setL _ _ _ _ hx_53) rfl) rfl rfl) ?_
            refine QL.v (ltb rfl) (rv_lss (k := .i64) (m := x18.t) (n := x18.b) rfl rfl) ?_
            refine QL.nil ?_
            refine TC.go hK_61 ?_
            by_cases hc_62 : x18.t < x18.b
            · rw [if_pos hc_62] at hp
              refine TC.condT (bT hc_62) ?_
              refine TC.seq fun K_63 hK_64 => ?_
              refine TC.region ?_
              refine TL.v (ltb rfl) (rv_as (v := .int .i64 1) rfl) ?_
              refine TL.nil ?_
              refine TC.go hK_64 ?_
              refine TC.ret ?_
              obtain rfl := Option.some.inj hp
              exact fun w hw => retOk ⟨rfl, rfl⟩ (hw.pick [0])
            · rw [if_neg hc_62] at hp
              refine TC.condF (bF hc_62) ?_
              refine TC.skip ?_
              refine TC.go hK_59 ?_
              refine TC.region ?_
              refine TL.v (ltb rfl) (rv_mv (v := ptrV a2) h_34) ?_
              refine TL.v (ltb rfl) (rv_nilCheck (a := ⟨b17, 0, none⟩) (ptrE hb_52)) ?_
              refine TL.v (ltb rfl) (rv_fa (b := b17) (o := 0) fa_123_2 rfl) ?_
              refine TL.stR (F := rgF (R4.set_os b17 (⟨x18.d, x18.kind, x18.at_, x18.t, x18.b, x21, x18.got⟩ : QOp))) (F' := rgF ((R4.set_os b17 (⟨x18.d, x18.kind, x18.at_, x18.t, x18.b, x21, x18.got⟩ : QOp)).set_os b17 (⟨x18.d, x18.kind, 29, x18.t, x18.b, x21, x18.got⟩ : QOp))) (ds := [.int .i64 29]) (o := 2) (cs := [ptrV x18.d, .int .i64 x18.kind, .int .i64 x18.at_, .int .i64 x18.t, .int .i64 x18.b, .int .i64 x21, .int .i64 x18.got]) (u := .int .i64 29) 0 rfl ms_3 rfl rfl rfl (oc rfl oc0) (leb rfl) (spl_os (R := (R4.set_os b17 (⟨x18.d, x18.kind, x18.at_, x18.t, x18.b, x21, x18.got⟩ : QOp))) (look_setL _ _ _ _ hx_53) (⟨x18.d, x18.kind, 29, x18.t, x18.b, x21, x18.got⟩ : QOp) rfl rfl) ?_
              refine TL.norm (L' := [rgF ((R4.set_os b17 (⟨x18.d, x18.kind, x18.at_, x18.t, x18.b, x21, x18.got⟩ : QOp)).set_os b17 (⟨x18.d, x18.kind, 29, x18.t, x18.b, x21, x18.got⟩ : QOp))]) rfl ?_
              refine TL.nil ?_
              refine fun w hw => hJ_6 ((R4.set_os b17 (⟨x18.d, x18.kind, x18.at_, x18.t, x18.b, x21, x18.got⟩ : QOp)).set_os b17 (⟨x18.d, x18.kind, 29, x18.t, x18.b, x21, x18.got⟩ : QOp)) _ hp w (hw.pick [0])
          · rw [if_neg hc_49] at hp
            refine TC.condF (bF hc_49) ?_
            refine TC.seq fun K_65 hK_66 => ?_
            refine TC.region ?_
            refine TL.v (ltb rfl) (rv_eql (k := .i64) (m := x7.at_) (n := 30) h_35 rfl) ?_
            refine TL.v (ltb rfl) (rv_as (v := .bool (decide (x7.at_ = 30))) rfl) ?_
            refine TL.nil ?_
            refine TC.go hK_66 ?_
            by_cases hc_67 : x7.at_ = 30
            · rw [if_pos hc_67] at hp
              refine TC.condT (bT hc_67) ?_
              refine TC.seq fun K_68 hK_69 => ?_
              refine TC.region ?_
              refine TL.v (ltb rfl) (rv_mv (v := ptrV a1) h_33) ?_
              refine TL.v (ltb rfl) (rv_mv (v := ptrV a2) h_34) ?_
              obtain ⟨b22, hb_70, hp⟩ := bind_some' hp
              refine TL.v (ltb rfl) (rv_nilCheck (a := ⟨b22, 0, none⟩) (ptrE hb_70)) ?_
              refine TL.v (ltb rfl) (rv_fa (b := b22) (o := 0) fa_123_3 rfl) ?_
              obtain ⟨x23, hx_71, hp⟩ := bind_some' hp
              refine TL.v (ltb rfl) (rv_ld (v := .int .i64 x23.t) (o := 3) (o' := 0) (j := 3) sc_3 rfl (Src.at_ 0 rfl) (in_os (R := R4) (cs := [ptrV x23.d, .int .i64 x23.kind, .int .i64 x23.at_, .int .i64 x23.t, .int .i64 x23.b, .int .i64 x23.x, .int .i64 x23.got]) hx_71 rfl) rfl rfl) ?_
              obtain ⟨x24, hy_72, hp⟩ := bind_some' hp
              refine TL.callC (vs := [ptrV a1, .int .i64 x23.t]) (R := deque_Deque_take.R x24) [rgF R4] [] rfl cb_89 (ltb rfl) (mc rfl (mc rfl m0)) (fun w hw => deque_Deque_take_ok (a1 := a1) (a2 := x23.t) (R4 := R4) hy_72 hw) fun v A' hR_73 => ?_
              obtain ⟨rfl, rfl⟩ := hR_73
              refine TL.norm (L' := [rgF x24.2]) rfl ?_
              refine TL.v (ltb rfl) (rv_as (v := .bool x24.1) rfl) ?_
              refine TL.nil ?_
              refine TC.go hK_69 ?_
              refine TC.seq fun K_74 hK_75 => ?_
              refine TC.region ?_
              refine TL.v (ltb rfl) (rv_mv (v := ptrV a2) h_34) ?_
              refine TL.v (ltb rfl) (rv_nilCheck (a := ⟨b22, 0, none⟩) (ptrE hb_70)) ?_
              refine TL.v (ltb rfl) (rv_fa (b := b22) (o := 0) fa_123_2 rfl) ?_
              obtain ⟨x25, hx_76, hp⟩ := bind_some' hp
              refine TL.stR (F := rgF x24.2) (F' := rgF (x24.2.set_os b22 (⟨x25.d, x25.kind, 49, x25.t, x25.b, x25.x, x25.got⟩ : QOp))) (ds := [.int .i64 49]) (o := 2) (cs := [ptrV x25.d, .int .i64 x25.kind, .int .i64 x25.at_, .int .i64 x25.t, .int .i64 x25.b, .int .i64 x25.x, .int .i64 x25.got]) (u := .int .i64 49) 0 rfl ms_3 rfl rfl rfl (oc rfl oc0) (leb rfl) (spl_os (R := x24.2) hx_76 (⟨x25.d, x25.kind, 49, x25.t, x25.b, x25.x, x25.got⟩ : QOp) rfl rfl) ?_
              refine TL.norm (L' := [rgF (x24.2.set_os b22 (⟨x25.d, x25.kind, 49, x25.t, x25.b, x25.x, x25.got⟩ : QOp))]) rfl ?_
              refine TL.nil ?_
              refine TC.go hK_75 ?_
              refine TC.seq fun K_77 hK_78 => ?_
              refine TC.region ?_
              refine TL.v (ltb rfl) (rv_mv (v := .bool x24.1) rfl) ?_
              refine TL.nil ?_
              refine TC.go hK_78 ?_
              by_cases hc_79 : x24.1 = true
              · rw [if_pos hc_79] at hp
                refine TC.condT (bbT hc_79) ?_
                refine TC.region ?_
                refine TL.v (ltb rfl) (rv_mv (v := ptrV a2) h_34) ?_
                refine TL.v (ltb rfl) (rv_nilCheck (a := ⟨b22, 0, none⟩) (ptrE hb_70)) ?_
                refine TL.v (ltb rfl) (rv_fa (b := b22) (o := 0) fa_123_2 rfl) ?_
                refine TL.stR (F := rgF (x24.2.set_os b22 (⟨x25.d, x25.kind, 49, x25.t, x25.b, x25.x, x25.got⟩ : QOp))) (F' := rgF ((x24.2.set_os b22 (⟨x25.d, x25.kind, 49, x25.t, x25.b, x25.x, x25.got⟩ : QOp)).set_os b22 (⟨x25.d, x25.kind, 39, x25.t, x25.b, x25.x, x25.got⟩ : QOp))) (ds := [.int .i64 39]) (o := 2) (cs := [ptrV x25.d, .int .i64 x25.kind, .int .i64 49, .int .i64 x25.t, .int .i64 x25.b, .int .i64 x25.x, .int .i64 x25.got]) (u := .int .i64 39) 0 rfl ms_3 rfl rfl rfl (oc rfl oc0) (leb rfl) (spl_os (R := (x24.2.set_os b22 (⟨x25.d, x25.kind, 49, x25.t, x25.b, x25.x, x25.got⟩ : QOp))) (look_setL _ _ _ _ hx_76) (⟨x25.d, x25.kind, 39, x25.t, x25.b, x25.x, x25.got⟩ : QOp) rfl rfl) ?_
                refine TL.norm (L' := [rgF ((x24.2.set_os b22 (⟨x25.d, x25.kind, 49, x25.t, x25.b, x25.x, x25.got⟩ : QOp)).set_os b22 (⟨x25.d, x25.kind, 39, x25.t, x25.b, x25.x, x25.got⟩ : QOp))]) rfl ?_
                refine TL.nil ?_
                refine fun w hw => hJ_6 ((x24.2.set_os b22 (⟨x25.d, x25.kind, 49, x25.t, x25.b, x25.x, x25.got⟩ : QOp)).set_os b22 (⟨x25.d, x25.kind, 39, x25.t, x25.b, x25.x, x25.got⟩ : QOp)) _ hp w (hw.pick [0])
              · rw [if_neg hc_79] at hp
                refine TC.condF (bbF hc_79) ?_
                refine TC.skip ?_
                refine fun w hw => hJ_6 (x24.2.set_os b22 (⟨x25.d, x25.kind, 49, x25.t, x25.b, x25.x, x25.got⟩ : QOp)) _ hp w (hw.pick [0])
            · rw [if_neg hc_67] at hp
              refine TC.condF (bF hc_67) ?_
              refine TC.seq fun K_80 hK_81 => ?_
              refine TC.region ?_
              refine TL.v (ltb rfl) (rv_mv (v := ptrV a1) h_33) ?_
              refine TL.v (ltb rfl) (rv_mv (v := ptrV a2) h_34) ?_
              obtain ⟨b26, hb_82, hp⟩ := bind_some' hp
              refine TL.v (ltb rfl) (rv_nilCheck (a := ⟨b26, 0, none⟩) (ptrE hb_82)) ?_
              refine TL.v (ltb rfl) (rv_fa (b := b26) (o := 0) fa_123_4 rfl) ?_
              obtain ⟨x27, hx_83, hp⟩ := bind_some' hp
              refine TL.v (ltb rfl) (rv_ld (v := .int .i64 x27.b) (o := 4) (o' := 0) (j := 4) sc_3 rfl (Src.at_ 0 rfl) (in_os (R := R4) (cs := [ptrV x27.d, .int .i64 x27.kind, .int .i64 x27.at_, .int .i64 x27.t, .int .i64 x27.b, .int .i64 x27.x, .int .i64 x27.got]) hx_83 rfl) rfl rfl) ?_
              refine TL.v (ltb rfl) (rv_add (k := .i64) (m := x27.b) (n := 1) rfl rfl) ?_
              obtain ⟨b28, hb_84, hp⟩ := bind_some' hp
              refine TL.v (ltb rfl) (rv_nilCheck (a := ⟨b28, 0, none⟩) (ptrE hb_84)) ?_
              refine TL.v (ltb rfl) (rv_fa (b := b28) (o := 0) fa_121_2 rfl) ?_
              obtain ⟨x29, hx_85, hp⟩ := bind_some' hp
              refine TL.stR (F := rgF R4) (F' := rgF (R4.set_ds b28 (⟨x29.cells, x29.top, (w64 (x27.b + 1)), x29.owner⟩ : QDeque))) (ds := [.int .i64 (w64 (x27.b + 1))]) (o := 65) (cs := (arrC x29.cells ++ ([.int .i64 x29.top, .int .i64 x29.bottom, ptrV x29.owner] : List Value))) (u := .int .i64 (w64 (x27.b + 1))) 0 rfl ms_3 rfl rfl rfl (oc rfl oc0) (by rw [ds_len]; exact leb rfl) (spl_ds (R := R4) hx_85 (⟨x29.cells, x29.top, (w64 (x27.b + 1)), x29.owner⟩ : QDeque) rfl (over_arr x29.cells [.int .i64 x29.top, .int .i64 x29.bottom, ptrV x29.owner] [.int .i64 (w64 (x27.b + 1))] 1).symm) ?_
              refine TL.norm (L' := [rgF (R4.set_ds b28 (⟨x29.cells, x29.top, (w64 (x27.b + 1)), x29.owner⟩ : QDeque))]) rfl ?_
              refine TL.nil ?_
              refine TC.go hK_81 ?_
              refine TC.seq fun K_86 hK_87 => ?_
              refine TC.region ?_
              refine TL.v (ltb rfl) (rv_as (v := .int .i64 1) rfl) ?_
              refine TL.nil ?_
              refine TC.go hK_87 ?_
              refine TC.ret ?_
              obtain rfl := Option.some.inj hp
              exact fun w hw => retOk ⟨rfl, rfl⟩ (hw.pick [0])
      refine TC.seq fun K_88 hK_89 => ?_
      refine TC.region ?_
      refine TL.v (ltb rfl) (rv_eql (k := .i64) (m := x7.at_) (n := 10) rfl rfl) ?_
      refine TL.v (ltb rfl) (rv_as (v := .bool (decide (x7.at_ = 10))) rfl) ?_
      refine TL.nil ?_
      refine TC.go hK_89 ?_
      by_cases hc_90 : x7.at_ = 10
      · rw [if_pos hc_90] at hp
        refine TC.condT (bT hc_90) ?_
        refine TC.skip ?_
        refine fun w hw => hJ_37 (decide (x7.at_ = 10)) _ ?_ ?_ ?_ ?_ hp w (hw.pick [0])
        · exact rfl
        · exact rfl
        · exact rfl
        · exact rfl
      · rw [if_neg hc_90] at hp
        refine TC.condF (bF hc_90) ?_
        refine TC.region ?_
        refine TL.v (ltb rfl) (rv_eql (k := .i64) (m := x7.at_) (n := 50) rfl rfl) ?_
        refine TL.v (ltb rfl) (rv_as (v := .bool (decide (x7.at_ = 50))) rfl) ?_
        refine TL.nil ?_
        refine fun w hw => hJ_37 (decide (x7.at_ = 50)) _ ?_ ?_ ?_ ?_ hp w (hw.pick [0])
        · exact rfl
        · exact rfl
        · exact rfl
        · exact rfl

/-! ### (*fettle/deque.Deque).steal -/
abbrev deque_Deque_steal.R (r : Int × Rgn) (v : Value) (A : List FP) : Prop := .int .i64 r.1 = v ∧ A = [rgF r.2]
def deque_Deque_steal.jn6  (R5 : Rgn) : Option (Int × Rgn) :=
  some (0, R5)
def deque_Deque_steal (a1 : Option Nat) (a2 : Option Nat) (R4 : Rgn) : Option (Int × Rgn) :=
  (a2).bind fun b6 =>
  (look (R4).os b6).bind fun x7 =>
  if x7.at_ = 0 then
    (a1).bind fun b8 =>
    (look (R4).ds b8).bind fun x9 =>
    deque_Deque_steal.jn6 (R4.set_os b6 (⟨x7.d, x7.kind, x7.at_, x9.top, x7.b, x7.x, x7.got⟩ : QOp))
  else
    if x7.at_ = 1 then
      (a1).bind fun b10 =>
      (look (R4).ds b10).bind fun x11 =>
      if x7.t ≥ x11.bottom then
        some (2, (R4.set_os b6 (⟨x7.d, x7.kind, x7.at_, x7.t, x11.bottom, x7.x, x7.got⟩ : QOp)))
      else
        deque_Deque_steal.jn6 (R4.set_os b6 (⟨x7.d, x7.kind, x7.at_, x7.t, x11.bottom, x7.x, x7.got⟩ : QOp))
    else
      if x7.at_ = 2 then
        (deque_Deque_cell a1 x7.t R4).bind fun x12 =>
        (look (R4).ds x12.1).bind fun x13 =>
        (A64.get x13.cells x12.2).bind fun x14 =>
        deque_Deque_steal.jn6 (R4.set_os b6 (⟨x7.d, x7.kind, x7.at_, x7.t, x7.b, x14, x7.got⟩ : QOp))
      else
        (deque_Deque_take a1 x7.t R4).bind fun x15 =>
        if x15.1 = true then
          some (1, x15.2)
        else
          some (4, x15.2)
theorem deque_Deque_steal_ok {E : World} {H : FP} {w : World} {a1 : Option Nat} {a2 : Option Nat} {R4 : Rgn} {r : Int × Rgn}  (hp : deque_Deque_steal a1 a2 R4 = some r) (hst : St E H [rgF R4] w) :
    Fn Try.prog 66 #[ptrV a1, ptrV a2] w fun v w' => ∃ A, deque_Deque_steal.R r v A ∧ St E H A w' := by
  refine Fn.body (fn := Try.f66) (args := [ptrV a1, ptrV a2]) E H [rgF R4] [.tmp 4] 55 Try.func66 rfl rfl rfl rfl (leb rfl) hst ?_
  unfold deque_Deque_steal at hp
  refine TC.seq fun K_1 hK_2 => ?_
  refine TC.region ?_
  refine TL.v (ltb rfl) (rv_as (v := .int .i64 0) rfl) ?_
  refine TL.nil ?_
  refine TC.go hK_2 ?_
  refine TC.seq fun K_3 hK_4 => ?_
  have hJ_6 : ∀ (R5 : Rgn) (e_5 : Env) (hp : deque_Deque_steal.jn6 R5 = some r), ∀ w, St E H [rgF R5] w → K_3 e_5 w := by
    intro R5 e_5 hp
    unfold deque_Deque_steal.jn6 at hp
    refine TC.go hK_4 ?_
    refine TC.seq fun K_7 hK_8 => ?_
    refine TC.region ?_
    refine TL.v (ltb rfl) (rv_as (v := .int .i64 0) rfl) ?_
    refine TL.nil ?_
    refine TC.go hK_8 ?_
    refine TC.ret ?_
    obtain rfl := Option.some.inj hp
    exact fun w hw => retOk ⟨rfl, rfl⟩ (hw.pick [0])
  refine TC.seq fun K_9 hK_10 => ?_
  refine TC.region ?_
  refine TL.v (ltb rfl) (rv_mv (v := ptrV a2) rfl) ?_
  obtain ⟨b6, hb_11, hp⟩ := bind_some' hp
  refine TL.v (ltb rfl) (rv_nilCheck (a := ⟨b6, 0, none⟩) (ptrE hb_11)) ?_
  refine TL.v (ltb rfl) (rv_fa (b := b6) (o := 0) fa_123_2 rfl) ?_
  obtain ⟨x7, hx_12, hp⟩ := bind_some' hp
  refine TL.v (ltb rfl) (rv_ld (v := .int .i64 x7.at_) (o := 2) (o' := 0) (j := 2) sc_3 rfl (Src.at_ 0 rfl) (in_os (R := R4) (cs := [ptrV x7.d, .int .i64 x7.kind, .int .i64 x7.at_, .int .i64 x7.t, .int .i64 x7.b, .int .i64 x7.x, .int .i64 x7.got]) hx_12 rfl) rfl rfl) ?_
  refine TL.nil ?_
  refine TC.go hK_10 ?_
  refine TC.block ?_
  refine TC.seq fun K_13 hK_14 => ?_
  refine TC.region ?_
  refine TL.v (ltb rfl) (rv_eql (k := .i64) (m := x7.at_) (n := 0) rfl rfl) ?_
  refine TL.v (ltb rfl) (rv_as (v := .bool (decide (x7.at_ = 0))) rfl) ?_
  refine TL.nil ?_
  refine TC.go hK_14 ?_
  by_cases hc_15 : x7.at_ = 0
  · rw [if_pos hc_15] at hp
    refine TC.condT (bT hc_15) ?_
    refine TC.region ?_
    refine TL.v (ltb rfl) (rv_mv (v := ptrV a2) rfl) ?_
    refine TL.v (ltb rfl) (rv_mv (v := ptrV a1) rfl) ?_
    obtain ⟨b8, hb_16, hp⟩ := bind_some' hp
    refine TL.v (ltb rfl) (rv_nilCheck (a := ⟨b8, 0, none⟩) (ptrE hb_16)) ?_
    refine TL.v (ltb rfl) (rv_fa (b := b8) (o := 0) fa_121_1 rfl) ?_
    obtain ⟨x9, hx_17, hp⟩ := bind_some' hp
    refine TL.v (ltb rfl) (rv_ld (v := .int .i64 x9.top) (o := 64) (o' := 0) (j := 64) sc_3 rfl (Src.at_ 0 rfl) (in_ds (R := R4) (cs := (arrC x9.cells ++ ([.int .i64 x9.top, .int .i64 x9.bottom, ptrV x9.owner] : List Value))) hx_17 rfl) rfl (Eq.trans (arr_ge _ _ 0) rfl)) ?_
    refine TL.v (ltb rfl) (rv_nilCheck (a := ⟨b6, 0, none⟩) (ptrE hb_11)) ?_
    refine TL.v (ltb rfl) (rv_fa (b := b6) (o := 0) fa_123_3 rfl) ?_
    refine TL.stR (F := rgF R4) (F' := rgF (R4.set_os b6 (⟨x7.d, x7.kind, x7.at_, x9.top, x7.b, x7.x, x7.got⟩ : QOp))) (ds := [.int .i64 x9.top]) (o := 3) (cs := [ptrV x7.d, .int .i64 x7.kind, .int .i64 x7.at_, .int .i64 x7.t, .int .i64 x7.b, .int .i64 x7.x, .int .i64 x7.got]) (u := .int .i64 x9.top) 0 rfl ms_3 rfl rfl rfl (oc rfl oc0) (leb rfl) (spl_os (R := R4) hx_12 (⟨x7.d, x7.kind, x7.at_, x9.top, x7.b, x7.x, x7.got⟩ : QOp) rfl rfl) ?_
    refine TL.norm (L' := [rgF (R4.set_os b6 (⟨x7.d, x7.kind, x7.at_, x9.top, x7.b, x7.x, x7.got⟩ : QOp))]) rfl ?_
    refine TL.nil ?_
    refine fun w hw => hJ_6 (R4.set_os b6 (⟨x7.d, x7.kind, x7.at_, x9.top, x7.b, x7.x, x7.got⟩ : QOp)) _ hp w (hw.pick [0])
  · rw [if_neg hc_15] at hp
    refine TC.condF (bF hc_15) ?_
    refine TC.seq fun K_18 hK_19 => ?_
    refine TC.region ?_
    refine TL.v (ltb rfl) (rv_eql (k := .i64) (m := x7.at_) (n := 1) rfl rfl) ?_
    refine TL.v (ltb rfl) (rv_as (v := .bool (decide (x7.at_ = 1))) rfl) ?_
    refine TL.nil ?_
    refine TC.go hK_19 ?_
    by_cases hc_20 : x7.at_ = 1
    · rw [if_pos hc_20] at hp
      refine TC.condT (bT hc_20) ?_
      refine TC.seq fun K_21 hK_22 => ?_
      refine TC.region ?_
      refine TL.v (ltb rfl) (rv_mv (v := ptrV a2) rfl) ?_
      refine TL.v (ltb rfl) (rv_mv (v := ptrV a1) rfl) ?_
      obtain ⟨b10, hb_23, hp⟩ := bind_some' hp
      refine TL.v (ltb rfl) (rv_nilCheck (a := ⟨b10, 0, none⟩) (ptrE hb_23)) ?_
      refine TL.v (ltb rfl) (rv_fa (b := b10) (o := 0) fa_121_2 rfl) ?_
      obtain ⟨x11, hx_24, hp⟩ := bind_some' hp
      refine TL.v (ltb rfl) (rv_ld (v := .int .i64 x11.bottom) (o := 65) (o' := 0) (j := 65) sc_3 rfl (Src.at_ 0 rfl) (in_ds (R := R4) (cs := (arrC x11.cells ++ ([.int .i64 x11.top, .int .i64 x11.bottom, ptrV x11.owner] : List Value))) hx_24 rfl) rfl (Eq.trans (arr_ge _ _ 1) rfl)) ?_
      refine TL.v (ltb rfl) (rv_nilCheck (a := ⟨b6, 0, none⟩) (ptrE hb_11)) ?_
      refine TL.v (ltb rfl) (rv_fa (b := b6) (o := 0) fa_123_4 rfl) ?_
      refine TL.stR (F := rgF R4) (F' := rgF (R4.set_os b6 (⟨x7.d, x7.kind, x7.at_, x7.t, x11.bottom, x7.x, x7.got⟩ : QOp))) (ds := [.int .i64 x11.bottom]) (o := 4) (cs := [ptrV x7.d, .int .i64 x7.kind, .int .i64 x7.at_, .int .i64 x7.t, .int .i64 x7.b, .int .i64 x7.x, .int .i64 x7.got]) (u := .int .i64 x11.bottom) 0 rfl ms_3 rfl rfl rfl (oc rfl oc0) (leb rfl) (spl_os (R := R4) hx_12 (⟨x7.d, x7.kind, x7.at_, x7.t, x11.bottom, x7.x, x7.got⟩ : QOp) rfl rfl) ?_
      refine TL.norm (L' := [rgF (R4.set_os b6 (⟨x7.d, x7.kind, x7.at_, x7.t, x11.bottom, x7.x, x7.got⟩ : QOp))]) rfl ?_
      refine TL.nil ?_
      refine TC.go hK_22 ?_
      refine TC.seq fun K_25 hK_26 => ?_
      refine TC.quiet mix (by kernel_rfl) ?_
      refine QL.v (ltb rfl) (rv_mv (v := ptrV a2) rfl) ?_
      refine QL.v (ltb rfl) (rv_nilCheck (a := ⟨b6, 0, none⟩) (ptrE hb_11)) ?_
      refine QL.v (ltb rfl) (rv_fa (b := b6) (o := 0) fa_123_3 rfl) ?_
      refine QL.v (ltb rfl) (rv_ld (v := .int .i64 x7.t) (o := 3) (o' := 0) (j := 3) sc_3 rfl (Src.at_ 0 rfl) (in_os (R := (R4.set_os b6 (⟨x7.d, x7.kind, x7.at_, x7.t, x11.bottom, x7.x, x7.got⟩ : QOp))) (cs := [ptrV x7.d, .int .i64 x7.kind, .int .i64 x7.at_, .int .i64 x7.t, .int .i64 x11.bottom, .int .i64 x7.x, .int .i64 x7.got]) (look_setL _ _ _ _ hx_12) rfl) rfl rfl) ?_
      refine QL.v (ltb rfl) (rv_mv (v := ptrV a2) rfl) ?_
      refine QL.v (ltb rfl) (rv_nilCheck (a := ⟨b6, 0, none⟩) (ptrE hb_11)) ?_
      refine QL.v (ltb rfl) (rv_fa (b := b6) (o := 0) fa_123_4 rfl) ?_
      refine QL.v (ltb rfl) (rv_ld (v := .int .i64 x11.bottom) (o := 4) (o' := 0) (j := 4) sc_3 rfl (Src.at_ 0 rfl) (in_os (R := (R4.set_os b6 (⟨x7.d, x7.kind, x7.at_, x7.t, x11.bottom, x7.x, x7.got⟩ : QOp))) (cs := [ptrV x7.d, .int .i64 x7.kind, .int .i64 x7.at_, .int .i64 x7.t, .int .i64 x11.bottom, .int .i64 x7.x, .int .i64 x7.got]) (look_setL _ _ _ _ hx_12) rfl) rfl rfl) ?_
      refine QL.v (ltb rfl) (rv_geq (k := .i64) (m := x7.t) (n := x11.bottom) rfl rfl) ?_
      refine QL.nil ?_
      refine TC.go hK_26 ?_
      by_cases hc_27 : x7.t ≥ x11.bottom
      · rw [if_pos hc_27] at hp
        refine TC.condT (bT hc_27) ?_
        refine TC.seq fun K_28 hK_29 => ?_
        refine TC.region ?_
        refine TL.v (ltb rfl) (rv_as (v := .int .i64 2) rfl) ?_
        refine TL.nil ?_
        refine TC.go hK_29 ?_
        refine TC.ret ?_
        obtain rfl := Option.some.inj hp
        exact fun w hw => retOk ⟨rfl, rfl⟩ (hw.pick [0])
      · rw [if_neg hc_27] at hp
        refine TC.condF (bF hc_27) ?_
        refine TC.skip ?_
        refine fun w hw => hJ_6 (R4.set_os b6 (⟨x7.d, x7.kind, x7.at_, x7.t, x11.bottom, x7.x, x7.got⟩ : QOp)) _ hp w (hw.pick [0])
    · rw [if_neg hc_20] at hp
      refine TC.condF (bF hc_20) ?_
      refine TC.seq fun K_30 hK_31 => ?_
      refine TC.region ?_
      refine TL.v (ltb rfl) (rv_eql (k := .i64) (m := x7.at_) (n := 2) rfl rfl) ?_
      refine TL.v (ltb rfl) (rv_as (v := .bool (decide (x7.at_ = 2))) rfl) ?_
      refine TL.nil ?_
      refine TC.go hK_31 ?_
      by_cases hc_32 : x7.at_ = 2
      · rw [if_pos hc_32] at hp
        refine TC.condT (bT hc_32) ?_
        refine TC.region ?_
        refine TL.v (ltb rfl) (rv_mv (v := ptrV a2) rfl) ?_
        refine TL.v (ltb rfl) (rv_mv (v := ptrV a1) rfl) ?_
        refine TL.v (ltb rfl) (rv_mv (v := ptrV a2) rfl) ?_
        refine TL.v (ltb rfl) (rv_nilCheck (a := ⟨b6, 0, none⟩) (ptrE hb_11)) ?_
        refine TL.v (ltb rfl) (rv_fa (b := b6) (o := 0) fa_123_3 rfl) ?_
        refine TL.v (ltb rfl) (rv_ld (v := .int .i64 x7.t) (o := 3) (o' := 0) (j := 3) sc_3 rfl (Src.at_ 0 rfl) (in_os (R := R4) (cs := [ptrV x7.d, .int .i64 x7.kind, .int .i64 x7.at_, .int .i64 x7.t, .int .i64 x7.b, .int .i64 x7.x, .int .i64 x7.got]) hx_12 rfl) rfl rfl) ?_
        obtain ⟨x12, hy_33, hp⟩ := bind_some' hp
        refine TL.callC (vs := [ptrV a1, .int .i64 x7.t]) (R := deque_Deque_cell.R R4 x12) [rgF R4] [] rfl cb_88 (ltb rfl) (mc rfl (mc rfl m0)) (fun w hw => deque_Deque_cell_ok (a1 := a1) (a2 := x7.t) (R4 := R4) hy_33 hw) fun v A' hR_34 => ?_
        obtain ⟨rfl, rfl⟩ := hR_34
        refine TL.norm (L' := [rgF R4]) rfl ?_
        refine TL.v (ltb rfl) (rv_nilCheck (a := ⟨x12.1, 0 + (x12.2).toNat, none⟩) rfl) ?_
        obtain ⟨x13, hx_35, hp⟩ := bind_some' hp
        obtain ⟨x14, hx_36, hp⟩ := bind_some' hp
        refine TL.v (ltb rfl) (rv_ld (v := .int .i64 x14) (o := 0 + (x12.2).toNat) (o' := 0) (j := 0 + (x12.2).toNat) sc_3 rfl (Src.at_ 0 rfl) (in_ds (R := R4) (cs := (arrC x13.cells ++ ([.int .i64 x13.top, .int .i64 x13.bottom, ptrV x13.owner] : List Value))) hx_35 rfl) (Nat.zero_add _) (arr_at (pre := []) (post := [.int .i64 x13.top, .int .i64 x13.bottom, ptrV x13.owner]) (a := x13.cells) (cs := (arrC x13.cells ++ ([.int .i64 x13.top, .int .i64 x13.bottom, ptrV x13.owner] : List Value))) rfl rfl hx_36)) ?_
        refine TL.v (ltb rfl) (rv_nilCheck (a := ⟨b6, 0, none⟩) (ptrE hb_11)) ?_
        refine TL.v (ltb rfl) (rv_fa (b := b6) (o := 0) fa_123_5 rfl) ?_
        refine TL.stR (F := rgF R4) (F' := rgF (R4.set_os b6 (⟨x7.d, x7.kind, x7.at_, x7.t, x7.b, x14, x7.got⟩ : QOp))) (ds := [.int .i64 x14]) (o := 5) (cs := [ptrV x7.d, .int .i64 x7.kind, .int .i64 x7.at_, .int .i64 x7.t, .int .i64 x7.b, .int .i64 x7.x, .int .i64 x7.got]) (u := .int .i64 x14) 0 rfl ms_3 rfl rfl rfl (oc rfl oc0) (leb rfl) (spl_os (R := R4) hx_12 (⟨x7.d, x7.kind, x7.at_, x7.t, x7.b, x14, x7.got⟩ : QOp) rfl rfl) ?_
        refine TL.norm (L' := [rgF (R4.set_os b6 (⟨x7.d, x7.kind, x7.at_, x7.t, x7.b, x14, x7.got⟩ : QOp))]) rfl ?_
        refine TL.nil ?_
        refine fun w hw => hJ_6 (R4.set_os b6 (⟨x7.d, x7.kind, x7.at_, x7.t, x7.b, x14, x7.got⟩ : QOp)) _ hp w (hw.pick [0])
      · rw [if_neg hc_32] at hp
        refine TC.condF (bF hc_32) ?_
        refine TC.seq fun K_37 hK_38 => ?_
        refine TC.seq fun K_39 hK_40 => ?_
        refine TC.region ?_
        refine TL.v (ltb rfl) (rv_mv (v := ptrV a1) rfl) ?_
        refine TL.v (ltb rfl) (rv_mv (v := ptrV a2) rfl) ?_
        refine TL.v (ltb rfl) (rv_nilCheck (a := ⟨b6, 0, none⟩) (ptrE hb_11)) ?_
        refine TL.v (ltb rfl) (rv_fa (b := b6) (o := 0) fa_123_3 rfl) ?_
        refine TL.v (ltb rfl) (rv_ld (v := .int .i64 x7.t) (o := 3) (o' := 0) (j := 3) sc_3 rfl (Src.at_ 0 rfl) (in_os (R := R4) (cs := [ptrV x7.d, .int .i64 x7.kind, .int .i64 x7.at_, .int .i64 x7.t, .int .i64 x7.b, .int .i64 x7.x, .int .i64 x7.got]) hx_12 rfl) rfl rfl) ?_
        obtain ⟨x15, hy_41, hp⟩ := bind_some' hp
        refine TL.callC (vs := [ptrV a1, .int .i64 x7.t]) (R := deque_Deque_take.R x15) [rgF R4] [] rfl cb_89 (ltb rfl) (mc rfl (mc rfl m0)) (fun w hw => deque_Deque_take_ok (a1 := a1) (a2 := x7.t) (R4 := R4) hy_41 hw) fun v A' hR_42 => ?_
        obtain ⟨rfl, rfl⟩ := hR_42
        refine TL.norm (L' := [rgF x15.2]) rfl ?_
        refine TL.nil ?_
        refine TC.go hK_40 ?_
        by_cases hc_43 : x15.1 = true
        · rw [if_pos hc_43] at hp
          refine TC.condT (bbT hc_43) ?_
          refine TC.seq fun K_44 hK_45 => ?_
          refine TC.region ?_
          refine TL.v (ltb rfl) (rv_as (v := .int .i64 1) rfl) ?_
          refine TL.nil ?_
          refine TC.go hK_45 ?_
          refine TC.ret ?_
          obtain rfl := Option.some.inj hp
          exact fun w hw => retOk ⟨rfl, rfl⟩ (hw.pick [0])
        · rw [if_neg hc_43] at hp
          refine TC.condF (bbF hc_43) ?_
          refine TC.skip ?_
          refine TC.go hK_38 ?_
          refine TC.seq fun K_46 hK_47 => ?_
          refine TC.region ?_
          refine TL.v (ltb rfl) (rv_as (v := .int .i64 4) rfl) ?_
          refine TL.nil ?_
          refine TC.go hK_47 ?_
          refine TC.ret ?_
          obtain rfl := Option.some.inj hp
          exact fun w hw => retOk ⟨rfl, rfl⟩ (hw.pick [0])

/-! ### (*fettle/deque.Deque).begin -/
abbrev deque_Deque_begin.R (r : Option Nat × GErr × Rgn) (v : Value) (A : List FP) : Prop := ∃ (w1 : Value) (G1 : FP), .tuple #[ptrV r.1, w1] = v ∧ A = [G1, rgF r.2.2] ∧ ErO 72 143 145 r.2.1 w1 G1
def deque_Deque_begin (a1 : Option Nat) (a2 : Option Nat) (R4 : Rgn) : Option (Option Nat × GErr × Rgn) :=
  (a1).bind fun b5 =>
  (look (R4).ds b5).bind fun x6 =>
  if ¬ x6.owner = none then
    some (none, (GErr.code 7), R4)
  else
    some (a2, GErr.no, (R4.set_ds b5 (⟨x6.cells, x6.top, x6.bottom, a2⟩ : QDeque)))
theorem deque_Deque_begin_ok {E : World} {H : FP} {w : World} {a1 : Option Nat} {a2 : Option Nat} {R4 : Rgn} {r : Option Nat × GErr × Rgn}  (hp : deque_Deque_begin a1 a2 R4 = some r) (hst : St E H [rgF R4] w) :
    Fn Try.prog 67 #[ptrV a1, ptrV a2] w fun v w' => ∃ A, deque_Deque_begin.R r v A ∧ St E H A w' := by
  refine Fn.body (fn := Try.f67) (args := [ptrV a1, ptrV a2]) E H [rgF R4] [.tmp 4, .tmp 5] 17 Try.func67 rfl rfl rfl rfl (leb rfl) hst ?_
  unfold deque_Deque_begin at hp
  refine TC.seq fun K_1 hK_2 => ?_
  refine TC.region ?_
  refine TL.v (ltb rfl) (rv_as (v := .pointer none) rfl) ?_
  refine TL.v (ltb rfl) (rv_as (v := .nilIface) rfl) ?_
  refine TL.nil ?_
  refine TC.go hK_2 ?_
  refine TC.seq fun K_3 hK_4 => ?_
  refine TC.seq fun K_5 hK_6 => ?_
  refine TC.region ?_
  refine TL.v (ltb rfl) (rv_mv (v := ptrV a1) rfl) ?_
  obtain ⟨b5, hb_7, hp⟩ := bind_some' hp
  refine TL.v (ltb rfl) (rv_nilCheck (a := ⟨b5, 0, none⟩) (ptrE hb_7)) ?_
  refine TL.v (ltb rfl) (rv_fa (b := b5) (o := 0) fa_121_3 rfl) ?_
  obtain ⟨x6, hx_8, hp⟩ := bind_some' hp
  refine TL.v (ltb rfl) (rv_ld (v := ptrV x6.owner) (o := 66) (o' := 0) (j := 66) sc_44 rfl (Src.at_ 0 rfl) (in_ds (R := R4) (cs := (arrC x6.cells ++ ([.int .i64 x6.top, .int .i64 x6.bottom, ptrV x6.owner] : List Value))) hx_8 rfl) rfl (Eq.trans (arr_ge _ _ 2) rfl)) ?_
  refine TL.v (ltb rfl) (rv_neqPN (p := x6.owner) pn_44 rfl rfl) ?_
  refine TL.nil ?_
  refine TC.go hK_6 ?_
  by_cases hc_9 : ¬ x6.owner = none
  · rw [if_pos hc_9] at hp
    refine TC.condT (bT hc_9) ?_
    refine TC.seq fun K_10 hK_11 => ?_
    refine TC.region ?_
    refine TL.v (ltb rfl) (rv_makeIface (v := .int .i64 7) Try.underlying72 (fun ms h => by cases h) rfl) ?_
    refine TL.v (ltb rfl) (rv_as (v := .pointer none) rfl) ?_
    refine TL.v (ltb rfl) (rv_as (v := .iface 72 (.int .i64 7)) rfl) ?_
    refine TL.nil ?_
    refine TC.go hK_11 ?_
    refine TC.ret ?_
    refine W.new0 ?_
    obtain rfl := Option.some.inj hp
    exact fun w hw => retOk ⟨(.iface 72 (.int .i64 7)), ([] : FP), (tu2 rfl rfl).symm, rfl, (ErO.mk _ : ErO 72 143 145 (GErr.code 7) (.iface 72 (.int .i64 7)) [])⟩ (hw.pick [0, 0])
  · rw [if_neg hc_9] at hp
    refine TC.condF (bF hc_9) ?_
    refine TC.skip ?_
    refine TC.go hK_4 ?_
    refine TC.seq fun K_12 hK_13 => ?_
    refine TC.region ?_
    refine TL.v (ltb rfl) (rv_mv (v := ptrV a1) rfl) ?_
    refine TL.v (ltb rfl) (rv_mv (v := ptrV a2) rfl) ?_
    refine TL.v (ltb rfl) (rv_nilCheck (a := ⟨b5, 0, none⟩) (ptrE hb_7)) ?_
    refine TL.v (ltb rfl) (rv_fa (b := b5) (o := 0) fa_121_3 rfl) ?_
    refine TL.stR (F := rgF R4) (F' := rgF (R4.set_ds b5 (⟨x6.cells, x6.top, x6.bottom, a2⟩ : QDeque))) (ds := [ptrV a2]) (o := 66) (cs := (arrC x6.cells ++ ([.int .i64 x6.top, .int .i64 x6.bottom, ptrV x6.owner] : List Value))) (u := ptrV a2) 0 rfl ms_44 rfl rfl rfl (oc rfl oc0) (by rw [ds_len]; exact leb rfl) (spl_ds (R := R4) hx_8 (⟨x6.cells, x6.top, x6.bottom, a2⟩ : QDeque) rfl (over_arr x6.cells [.int .i64 x6.top, .int .i64 x6.bottom, ptrV x6.owner] [ptrV a2] 2).symm) ?_
    refine TL.norm (L' := [rgF (R4.set_ds b5 (⟨x6.cells, x6.top, x6.bottom, a2⟩ : QDeque))]) rfl ?_
    refine TL.nil ?_
    refine TC.go hK_13 ?_
    refine TC.seq fun K_14 hK_15 => ?_
    refine TC.region ?_
    refine TL.v (ltb rfl) (rv_mv (v := ptrV a2) rfl) ?_
    refine TL.v (ltb rfl) (rv_as (v := ptrV a2) rfl) ?_
    refine TL.v (ltb rfl) (rv_as (v := .nilIface) rfl) ?_
    refine TL.nil ?_
    refine TC.go hK_15 ?_
    refine TC.ret ?_
    refine W.new0 ?_
    obtain rfl := Option.some.inj hp
    exact fun w hw => retOk ⟨.nilIface, ([] : FP), (tu2 rfl rfl).symm, rfl, (ErO.nil : ErO 72 143 145 GErr.no .nilIface [])⟩ (hw.pick [0, 0])

/-! ### (*fettle/deque.Deque).Step -/
abbrev deque_Deque_Step.R (r : Bool × GErr × Rgn) (v : Value) (A : List FP) : Prop := ∃ (w1 : Value) (G1 : FP), .tuple #[.bool r.1, w1] = v ∧ A = [G1, rgF r.2.2] ∧ ErO 72 143 145 r.2.1 w1 G1
def deque_Deque_Step.jn17 (a2 : Option Nat) (R8 : Rgn) : Option (Bool × GErr × Rgn) :=
  (a2).bind fun b9 =>
  (look (R8).os b9).bind fun x10 =>
  some ((decide (¬ x10.got = 0)), GErr.no, R8)
def deque_Deque_Step.jn8 (a1 : Option Nat) (a2 : Option Nat) (R5 : Rgn) : Option (Bool × GErr × Rgn) :=
  (a2).bind fun b6 =>
  (look (R5).os b6).bind fun x7 =>
  (if ¬ x7.got = 0 then (a1).bind fun b15 =>
  (look ((R5.set_os b6 (⟨x7.d, x7.kind, (w64 (x7.at_ + 1)), x7.t, x7.b, x7.x, x7.got⟩ : QOp))).ds b15).bind fun x16 =>
  (eqP ((R5.set_os b6 (⟨x7.d, x7.kind, (w64 (x7.at_ + 1)), x7.t, x7.b, x7.x, x7.got⟩ : QOp))).os x16.owner a2).bind fun t17 =>
  some (decide (x16.owner = a2)) else some false).bind fun t12 =>
  if t12 = true then
    (a1).bind fun b13 =>
    (look ((R5.set_os b6 (⟨x7.d, x7.kind, (w64 (x7.at_ + 1)), x7.t, x7.b, x7.x, x7.got⟩ : QOp))).ds b13).bind fun x14 =>
    deque_Deque_Step.jn17 a2 ((R5.set_os b6 (⟨x7.d, x7.kind, (w64 (x7.at_ + 1)), x7.t, x7.b, x7.x, x7.got⟩ : QOp)).set_ds b13 (⟨x14.cells, x14.top, x14.bottom, none⟩ : QDeque))
  else
    deque_Deque_Step.jn17 a2 (R5.set_os b6 (⟨x7.d, x7.kind, (w64 (x7.at_ + 1)), x7.t, x7.b, x7.x, x7.got⟩ : QOp))
def deque_Deque_Step (a1 : Option Nat) (a2 : Option Nat) (R4 : Rgn) : Option (Bool × GErr × Rgn) :=
  (if a2 = none then some true else (a2).bind fun b29 =>
  (look (R4).os b29).bind fun x30 =>
  (eqP (R4).ds x30.d a1).bind fun t31 =>
  some (decide (¬ x30.d = a1))).bind fun t18 =>
  if t18 = true then
    some (false, (GErr.code 1), R4)
  else
    (a2).bind fun b20 =>
    (look (R4).os b20).bind fun x21 =>
    if ¬ x21.got = 0 then
      some (false, (GErr.code 7), R4)
    else
      if x21.kind = 1 then
        (deque_Deque_push a1 a2 R4).bind fun x23 =>
        (look (x23.2).os b20).bind fun x24 =>
        deque_Deque_Step.jn8 a1 a2 (x23.2.set_os b20 (⟨x24.d, x24.kind, x24.at_, x24.t, x24.b, x24.x, x23.1⟩ : QOp))
      else
        if x21.kind = 2 then
          (deque_Deque_pop a1 a2 R4).bind fun x25 =>
          (look (x25.2).os b20).bind fun x26 =>
          deque_Deque_Step.jn8 a1 a2 (x25.2.set_os b20 (⟨x26.d, x26.kind, x26.at_, x26.t, x26.b, x26.x, x25.1⟩ : QOp))
        else
          (deque_Deque_steal a1 a2 R4).bind fun x27 =>
          (look (x27.2).os b20).bind fun x28 =>
          deque_Deque_Step.jn8 a1 a2 (x27.2.set_os b20 (⟨x28.d, x28.kind, x28.at_, x28.t, x28.b, x28.x, x27.1⟩ : QOp))
theorem deque_Deque_Step_ok {E : World} {H : FP} {w : World} {a1 : Option Nat} {a2 : Option Nat} {R4 : Rgn} {r : Bool × GErr × Rgn}  (hp : deque_Deque_Step a1 a2 R4 = some r) (hst : St E H [rgF R4] w) :
    Fn Try.prog 30 #[ptrV a1, ptrV a2] w fun v w' => ∃ A, deque_Deque_Step.R r v A ∧ St E H A w' := by
  refine Fn.body (fn := Try.f30) (args := [ptrV a1, ptrV a2]) E H [rgF R4] [.tmp 4, .tmp 5] 83 Try.func30 rfl rfl rfl rfl (leb rfl) hst ?_
  unfold deque_Deque_Step at hp
  refine TC.seq fun K_1 hK_2 => ?_
  refine TC.region ?_
  refine TL.v (ltb rfl) (rv_as (v := .bool false) rfl) ?_
  refine TL.v (ltb rfl) (rv_as (v := .nilIface) rfl) ?_
  refine TL.nil ?_
  refine TC.go hK_2 ?_
  refine TC.seq fun K_3 hK_4 => ?_
  have hJ_8 : ∀ (R5 : Rgn) (e_5 : Env) (h_6 : e_5 0 = ptrV a1) (h_7 : e_5 1 = ptrV a2) (hp : deque_Deque_Step.jn8 a1 a2 R5 = some r), ∀ w, St E H [rgF R5] w → K_3 e_5 w := by
    intro R5 e_5 h_6 h_7 hp
    unfold deque_Deque_Step.jn8 at hp
    refine TC.go hK_4 ?_
    refine TC.seq fun K_9 hK_10 => ?_
    refine TC.region ?_
    refine TL.v (ltb rfl) (rv_mv (v := ptrV a2) h_7) ?_
    obtain ⟨b6, hb_11, hp⟩ := bind_some' hp
    refine TL.v (ltb rfl) (rv_nilCheck (a := ⟨b6, 0, none⟩) (ptrE hb_11)) ?_
    refine TL.v (ltb rfl) (rv_fa (b := b6) (o := 0) fa_123_2 rfl) ?_
    obtain ⟨x7, hx_12, hp⟩ := bind_some' hp
    refine TL.v (ltb rfl) (rv_ld (v := .int .i64 x7.at_) (o := 2) (o' := 0) (j := 2) sc_3 rfl (Src.at_ 0 rfl) (in_os (R := R5) (cs := [ptrV x7.d, .int .i64 x7.kind, .int .i64 x7.at_, .int .i64 x7.t, .int .i64 x7.b, .int .i64 x7.x, .int .i64 x7.got]) hx_12 rfl) rfl rfl) ?_
    refine TL.v (ltb rfl) (rv_add (k := .i64) (m := x7.at_) (n := 1) rfl rfl) ?_
    refine TL.v (ltb rfl) (rv_nilCheck (a := ⟨b6, 0, none⟩) (ptrE hb_11)) ?_
    refine TL.v (ltb rfl) (rv_fa (b := b6) (o := 0) fa_123_2 rfl) ?_
    refine TL.stR (F := rgF R5) (F' := rgF (R5.set_os b6 (⟨x7.d, x7.kind, (w64 (x7.at_ + 1)), x7.t, x7.b, x7.x, x7.got⟩ : QOp))) (ds := [.int .i64 (w64 (x7.at_ + 1))]) (o := 2) (cs := [ptrV x7.d, .int .i64 x7.kind, .int .i64 x7.at_, .int .i64 x7.t, .int .i64 x7.b, .int .i64 x7.x, .int .i64 x7.got]) (u := .int .i64 (w64 (x7.at_ + 1))) 0 rfl ms_3 rfl rfl rfl (oc rfl oc0) (leb rfl) (spl_os (R := R5) hx_12 (⟨x7.d, x7.kind, (w64 (x7.at_ + 1)), x7.t, x7.b, x7.x, x7.got⟩ : QOp) rfl rfl) ?_
    refine TL.norm (L' := [rgF (R5.set_os b6 (⟨x7.d, x7.kind, (w64 (x7.at_ + 1)), x7.t, x7.b, x7.x, x7.got⟩ : QOp))]) rfl ?_
    refine TL.nil ?_
    refine TC.go hK_10 ?_
    refine TC.seq fun K_13 hK_14 => ?_
    have hJ_17 : ∀ (R8 : Rgn) (e_15 : Env) (h_16 : e_15 1 = ptrV a2) (hp : deque_Deque_Step.jn17 a2 R8 = some r), ∀ w, St E H [rgF R8] w → K_13 e_15 w := by
      intro R8 e_15 h_16 hp
      unfold deque_Deque_Step.jn17 at hp
      refine TC.go hK_14 ?_
      refine TC.seq fun K_18 hK_19 => ?_
      refine TC.region ?_
      refine TL.v (ltb rfl) (rv_mv (v := ptrV a2) h_16) ?_
      obtain ⟨b9, hb_20, hp⟩ := bind_some' hp
      refine TL.v (ltb rfl) (rv_nilCheck (a := ⟨b9, 0, none⟩) (ptrE hb_20)) ?_
      refine TL.v (ltb rfl) (rv_fa (b := b9) (o := 0) fa_123_6 rfl) ?_
      obtain ⟨x10, hx_21, hp⟩ := bind_some' hp
      refine TL.v (ltb rfl) (rv_ld (v := .int .i64 x10.got) (o := 6) (o' := 0) (j := 6) sc_3 rfl (Src.at_ 0 rfl) (in_os (R := R8) (cs := [ptrV x10.d, .int .i64 x10.kind, .int .i64 x10.at_, .int .i64 x10.t, .int .i64 x10.b, .int .i64 x10.x, .int .i64 x10.got]) hx_21 rfl) rfl rfl) ?_
      refine TL.v (ltb rfl) (rv_neq (k := .i64) (m := x10.got) (n := 0) rfl rfl) ?_
      refine TL.v (ltb rfl) (rv_as (v := .bool (decide (¬ x10.got = 0))) rfl) ?_
      refine TL.v (ltb rfl) (rv_as (v := .nilIface) rfl) ?_
      refine TL.nil ?_
      refine TC.go hK_19 ?_
      refine TC.ret ?_
      refine W.new0 ?_
      obtain rfl := Option.some.inj hp
      exact fun w hw => retOk ⟨.nilIface, ([] : FP), (tu2 rfl rfl).symm, rfl, (ErO.nil : ErO 72 143 145 GErr.no .nilIface [])⟩ (hw.pick [0, 0])
    refine TC.seq fun K_22 hK_23 => ?_
    refine TC.region ?_
    refine TL.v (ltb rfl) (rv_mv (v := ptrV a2) h_7) ?_
    refine TL.v (ltb rfl) (rv_nilCheck (a := ⟨b6, 0, none⟩) (ptrE hb_11)) ?_
    refine TL.v (ltb rfl) (rv_fa (b := b6) (o := 0) fa_123_6 rfl) ?_
    refine TL.v (ltb rfl) (rv_ld (v := .int .i64 x7.got) (o := 6) (o' := 0) (j := 6) sc_3 rfl (Src.at_ 0 rfl) (in_os (R := (R5.set_os b6 (⟨x7.d, x7.kind, (w64 (x7.at_ + 1)), x7.t, x7.b, x7.x, x7.got⟩ : QOp))) (cs := [ptrV x7.d, .int .i64 x7.kind, .int .i64 (w64 (x7.at_ + 1)), .int .i64 x7.t, .int .i64 x7.b, .int .i64 x7.x, .int .i64 x7.got]) (look_setL _ _ _ _ hx_12) rfl) rfl rfl) ?_
    refine TL.v (ltb rfl) (rv_neq (k := .i64) (m := x7.got) (n := 0) rfl rfl) ?_
    refine TL.v (ltb rfl) (rv_mv (v := .bool (decide (¬ x7.got = 0))) rfl) ?_
    obtain ⟨t12, ht_35, hp⟩ := bind_some' hp
    refine TL.cut 7 fun K_24 hK_25 => ?_
    have hJ_26 : ∀ e_28 : Env, e_28 0 = ptrV a1 → e_28 1 = ptrV a2 → e_28 74 = .bool t12 → ∀ w, St E H [rgF (R5.set_os b6 (⟨x7.d, x7.kind, (w64 (x7.at_ + 1)), x7.t, x7.b, x7.x, x7.got⟩ : QOp))] w → K_24 e_28 w := by
      intro e_28 h_29 h_30 h_31
      refine TL.go hK_25 ?_
      refine TL.nil ?_
      refine TC.go hK_23 ?_
      by_cases hc_32 : t12 = true
      · rw [if_pos hc_32] at hp
        refine TC.condT (h_31.trans (bbT hc_32)) ?_
        refine TC.region ?_
        refine TL.v (ltb rfl) (rv_mv (v := ptrV a1) h_29) ?_
        obtain ⟨b13, hb_33, hp⟩ := bind_some' hp
        refine TL.v (ltb rfl) (rv_nilCheck (a := ⟨b13, 0, none⟩) (ptrE hb_33)) ?_
        refine TL.v (ltb rfl) (rv_fa (b := b13) (o := 0) fa_121_3 rfl) ?_
        obtain ⟨x14, hx_34, hp⟩ := bind_some' hp
        refine TL.stR (F := rgF (R5.set_os b6 (⟨x7.d, x7.kind, (w64 (x7.at_ + 1)), x7.t, x7.b, x7.x, x7.got⟩ : QOp))) (F' := rgF ((R5.set_os b6 (⟨x7.d, x7.kind, (w64 (x7.at_ + 1)), x7.t, x7.b, x7.x, x7.got⟩ : QOp)).set_ds b13 (⟨x14.cells, x14.top, x14.bottom, none⟩ : QDeque))) (ds := [.pointer none]) (o := 66) (cs := (arrC x14.cells ++ ([.int .i64 x14.top, .int .i64 x14.bottom, ptrV x14.owner] : List Value))) (u := .pointer none) 0 rfl ms_44 rfl rfl rfl (oc rfl oc0) (by rw [ds_len]; exact leb rfl) (spl_ds (R := (R5.set_os b6 (⟨x7.d, x7.kind, (w64 (x7.at_ + 1)), x7.t, x7.b, x7.x, x7.got⟩ : QOp))) hx_34 (⟨x14.cells, x14.top, x14.bottom, none⟩ : QDeque) rfl (over_arr x14.cells [.int .i64 x14.top, .int .i64 x14.bottom, ptrV x14.owner] [.pointer none] 2).symm) ?_
        refine TL.norm (L' := [rgF ((R5.set_os b6 (⟨x7.d, x7.kind, (w64 (x7.at_ + 1)), x7.t, x7.b, x7.x, x7.got⟩ : QOp)).set_ds b13 (⟨x14.cells, x14.top, x14.bottom, none⟩ : QDeque))]) rfl ?_
        refine TL.nil ?_
        refine fun w hw => hJ_17 ((R5.set_os b6 (⟨x7.d, x7.kind, (w64 (x7.at_ + 1)), x7.t, x7.b, x7.x, x7.got⟩ : QOp)).set_ds b13 (⟨x14.cells, x14.top, x14.bottom, none⟩ : QDeque)) _ ?_ hp w (hw.pick [0])
        · exact h_30
      · rw [if_neg hc_32] at hp
        refine TC.condF (h_31.trans (bbF hc_32)) ?_
        refine TC.skip ?_
        refine fun w hw => hJ_17 (R5.set_os b6 (⟨x7.d, x7.kind, (w64 (x7.at_ + 1)), x7.t, x7.b, x7.x, x7.got⟩ : QOp)) _ ?_ hp w (hw.pick [0])
        · exact h_30
    clear hp
    have hp := ht_35
    clear ht_35
    by_cases hc_27 : ¬ x7.got = 0
    · rw [if_pos hc_27] at hp
      refine TL.gyes true (yieldE_of rfl (bT hc_27)) rfl ?_
      refine TL.v (ltb rfl) (rv_mv (v := ptrV a1) h_6) ?_
      refine TL.gyes true (yieldE_of rfl (bT hc_27)) rfl ?_
      obtain ⟨b15, hb_36, hp⟩ := bind_some' hp
      refine TL.v (ltb rfl) (rv_nilCheck (a := ⟨b15, 0, none⟩) (ptrE hb_36)) ?_
      refine TL.gyes true (yieldE_of rfl (bT hc_27)) rfl ?_
      refine TL.v (ltb rfl) (rv_fa (b := b15) (o := 0) fa_121_3 rfl) ?_
      refine TL.gyes true (yieldE_of rfl (bT hc_27)) rfl ?_
      obtain ⟨x16, hx_37, hp⟩ := bind_some' hp
      refine TL.v (ltb rfl) (rv_ld (v := ptrV x16.owner) (o := 66) (o' := 0) (j := 66) sc_44 rfl (Src.at_ 0 rfl) (in_ds (R := (R5.set_os b6 (⟨x7.d, x7.kind, (w64 (x7.at_ + 1)), x7.t, x7.b, x7.x, x7.got⟩ : QOp))) (cs := (arrC x16.cells ++ ([.int .i64 x16.top, .int .i64 x16.bottom, ptrV x16.owner] : List Value))) hx_37 rfl) rfl (Eq.trans (arr_ge _ _ 2) rfl)) ?_
      refine TL.gyes true (yieldE_of rfl (bT hc_27)) rfl ?_
      refine TL.v (ltb rfl) (rv_mv (v := ptrV a2) h_7) ?_
      refine TL.gyes true (yieldE_of rfl (bT hc_27)) rfl ?_
      obtain ⟨t17, ht_38, hp⟩ := bind_some' hp
      refine TL.v (ltb rfl) (rv_eqlPP (p := x16.owner) (q := a2) (F := rgF (R5.set_os b6 (⟨x7.d, x7.kind, (w64 (x7.at_ + 1)), x7.t, x7.b, x7.x, x7.got⟩ : QOp))) Try.underlying44 inf_123 (Src.at_ 0 rfl) (eq_os (R := (R5.set_os b6 (⟨x7.d, x7.kind, (w64 (x7.at_ + 1)), x7.t, x7.b, x7.x, x7.got⟩ : QOp))) ht_38).1 (eq_os (R := (R5.set_os b6 (⟨x7.d, x7.kind, (w64 (x7.at_ + 1)), x7.t, x7.b, x7.x, x7.got⟩ : QOp))) ht_38).2 rfl rfl) ?_
      refine TL.v (ltb rfl) (rv_pickT true (bT hc_27) rfl (v := .bool (decide (x16.owner = a2))) rfl) ?_
      obtain rfl := Option.some.inj hp
      refine TL.nil (hJ_26 _ ?_ ?_ ?_)
      · exact h_6
      · exact h_7
      · exact rfl
    · rw [if_neg hc_27] at hp
      refine TL.gno false rfl (fun d hd => by cases hd; exact ltb rfl) (yieldE_of rfl (bF hc_27)) rfl ?_
      refine TL.gno false rfl (fun d hd => by cases hd; exact ltb rfl) (yieldE_of rfl (bF hc_27)) rfl ?_
      refine TL.gno false rfl (fun d hd => by cases hd; exact ltb rfl) (yieldE_of rfl (bF hc_27)) rfl ?_
      refine TL.gno false rfl (fun d hd => by cases hd; exact ltb rfl) (yieldE_of rfl (bF hc_27)) rfl ?_
      refine TL.gno false rfl (fun d hd => by cases hd; exact ltb rfl) (yieldE_of rfl (bF hc_27)) rfl ?_
      refine TL.gno false rfl (fun d hd => by cases hd; exact ltb rfl) (yieldE_of rfl (bF hc_27)) rfl ?_
      refine TL.v (ltb rfl) (rv_pickF false (bF hc_27) rfl (v := .bool false) rfl) ?_
      obtain rfl := Option.some.inj hp
      refine TL.nil (hJ_26 _ ?_ ?_ ?_)
      · exact h_6
      · exact h_7
      · exact rfl
  refine TC.block ?_
  refine TC.seq fun K_39 hK_40 => ?_
  refine TC.region ?_
  refine TL.v (ltb rfl) (rv_mv (v := ptrV a2) rfl) ?_
  refine TL.v (ltb rfl) (rv_eqlPN (p := a2) pn_44 rfl rfl) ?_
  refine TL.v (ltb rfl) (rv_mv (v := .bool (decide (a2 = none))) rfl) ?_
  obtain ⟨t18, ht_74, hp⟩ := bind_some' hp
  refine TL.cut 7 fun K_41 hK_42 => ?_
  have hJ_43 : ∀ e_45 : Env, e_45 0 = ptrV a1 → e_45 1 = ptrV a2 → e_45 22 = .bool t18 → ∀ w, St E H [rgF R4] w → K_41 e_45 w := by
    intro e_45 h_46 h_47 h_48
    refine TL.go hK_42 ?_
    refine TL.v (ltb rfl) (rv_as (v := .bool t18) h_48) ?_
    refine TL.nil ?_
    refine TC.go hK_40 ?_
    by_cases hc_49 : t18 = true
    · rw [if_pos hc_49] at hp
      refine TC.condT (bbT hc_49) ?_
      refine TC.seq fun K_50 hK_51 => ?_
      refine TC.region ?_
      refine TL.v (ltb rfl) (rv_makeIface (v := .int .i64 1) Try.underlying72 (fun ms h => by cases h) rfl) ?_
      refine TL.v (ltb rfl) (rv_as (v := .bool false) rfl) ?_
      refine TL.v (ltb rfl) (rv_as (v := .iface 72 (.int .i64 1)) rfl) ?_
      refine TL.nil ?_
      refine TC.go hK_51 ?_
      refine TC.ret ?_
      refine W.new0 ?_
      obtain rfl := Option.some.inj hp
      exact fun w hw => retOk ⟨(.iface 72 (.int .i64 1)), ([] : FP), (tu2 rfl rfl).symm, rfl, (ErO.mk _ : ErO 72 143 145 (GErr.code 1) (.iface 72 (.int .i64 1)) [])⟩ (hw.pick [0, 0])
    · rw [if_neg hc_49] at hp
      refine TC.condF (bbF hc_49) ?_
      refine TC.seq fun K_52 hK_53 => ?_
      refine TC.region ?_
      refine TL.v (ltb rfl) (rv_mv (v := ptrV a2) h_47) ?_
      obtain ⟨b20, hb_54, hp⟩ := bind_some' hp
      refine TL.v (ltb rfl) (rv_nilCheck (a := ⟨b20, 0, none⟩) (ptrE hb_54)) ?_
      refine TL.v (ltb rfl) (rv_fa (b := b20) (o := 0) fa_123_6 rfl) ?_
      obtain ⟨x21, hx_55, hp⟩ := bind_some' hp
      refine TL.v (ltb rfl) (rv_ld (v := .int .i64 x21.got) (o := 6) (o' := 0) (j := 6) sc_3 rfl (Src.at_ 0 rfl) (in_os (R := R4) (cs := [ptrV x21.d, .int .i64 x21.kind, .int .i64 x21.at_, .int .i64 x21.t, .int .i64 x21.b, .int .i64 x21.x, .int .i64 x21.got]) hx_55 rfl) rfl rfl) ?_
      refine TL.v (ltb rfl) (rv_neq (k := .i64) (m := x21.got) (n := 0) rfl rfl) ?_
      refine TL.v (ltb rfl) (rv_as (v := .bool (decide (¬ x21.got = 0))) rfl) ?_
      refine TL.nil ?_
      refine TC.go hK_53 ?_
      by_cases hc_56 : ¬ x21.got = 0
      · rw [if_pos hc_56] at hp
        refine TC.condT (bT hc_56) ?_
        refine TC.seq fun K_57 hK_58 => ?_
        refine TC.region ?_
        refine TL.v (ltb rfl) (rv_makeIface (v := .int .i64 7) Try.underlying72 (fun ms h => by cases h) rfl) ?_
        refine TL.v (ltb rfl) (rv_as (v := .bool false) rfl) ?_
        refine TL.v (ltb rfl) (rv_as (v := .iface 72 (.int .i64 7)) rfl) ?_
        refine TL.nil ?_
        refine TC.go hK_58 ?_
        refine TC.ret ?_
        refine W.new0 ?_
        obtain rfl := Option.some.inj hp
        exact fun w hw => retOk ⟨(.iface 72 (.int .i64 7)), ([] : FP), (tu2 rfl rfl).symm, rfl, (ErO.mk _ : ErO 72 143 145 (GErr.code 7) (.iface 72 (.int .i64 7)) [])⟩ (hw.pick [0, 0])
      · rw [if_neg hc_56] at hp
        refine TC.condF (bF hc_56) ?_
        refine TC.seq fun K_59 hK_60 => ?_
        refine TC.region ?_
        refine TL.v (ltb rfl) (rv_mv (v := ptrV a2) h_47) ?_
        refine TL.v (ltb rfl) (rv_nilCheck (a := ⟨b20, 0, none⟩) (ptrE hb_54)) ?_
        refine TL.v (ltb rfl) (rv_fa (b := b20) (o := 0) fa_123_1 rfl) ?_
        refine TL.v (ltb rfl) (rv_ld (v := .int .i64 x21.kind) (o := 1) (o' := 0) (j := 1) sc_3 rfl (Src.at_ 0 rfl) (in_os (R := R4) (cs := [ptrV x21.d, .int .i64 x21.kind, .int .i64 x21.at_, .int .i64 x21.t, .int .i64 x21.b, .int .i64 x21.x, .int .i64 x21.got]) hx_55 rfl) rfl rfl) ?_
        refine TL.v (ltb rfl) (rv_eql (k := .i64) (m := x21.kind) (n := 1) rfl rfl) ?_
        refine TL.v (ltb rfl) (rv_as (v := .bool (decide (x21.kind = 1))) rfl) ?_
        refine TL.nil ?_
        refine TC.go hK_60 ?_
        by_cases hc_61 : x21.kind = 1
        · rw [if_pos hc_61] at hp
          refine TC.condT (bT hc_61) ?_
          refine TC.region ?_
          refine TL.v (ltb rfl) (rv_mv (v := ptrV a2) h_47) ?_
          refine TL.v (ltb rfl) (rv_mv (v := ptrV a1) h_46) ?_
          refine TL.v (ltb rfl) (rv_mv (v := ptrV a2) h_47) ?_
          obtain ⟨x23, hy_62, hp⟩ := bind_some' hp
          refine TL.callC (vs := [ptrV a1, ptrV a2]) (R := deque_Deque_push.R x23) [rgF R4] [] rfl cb_64 (ltb rfl) (mc rfl (mc rfl m0)) (fun w hw => deque_Deque_push_ok (a1 := a1) (a2 := a2) (R4 := R4) hy_62 hw) fun v A' hR_63 => ?_
          obtain ⟨rfl, rfl⟩ := hR_63
          refine TL.norm (L' := [rgF x23.2]) rfl ?_
          refine TL.v (ltb rfl) (rv_nilCheck (a := ⟨b20, 0, none⟩) (ptrE hb_54)) ?_
          refine TL.v (ltb rfl) (rv_fa (b := b20) (o := 0) fa_123_6 rfl) ?_
          obtain ⟨x24, hx_64, hp⟩ := bind_some' hp
          refine TL.stR (F := rgF x23.2) (F' := rgF (x23.2.set_os b20 (⟨x24.d, x24.kind, x24.at_, x24.t, x24.b, x24.x, x23.1⟩ : QOp))) (ds := [.int .i64 x23.1]) (o := 6) (cs := [ptrV x24.d, .int .i64 x24.kind, .int .i64 x24.at_, .int .i64 x24.t, .int .i64 x24.b, .int .i64 x24.x, .int .i64 x24.got]) (u := .int .i64 x23.1) 0 rfl ms_3 rfl rfl rfl (oc rfl oc0) (leb rfl) (spl_os (R := x23.2) hx_64 (⟨x24.d, x24.kind, x24.at_, x24.t, x24.b, x24.x, x23.1⟩ : QOp) rfl rfl) ?_
          refine TL.norm (L' := [rgF (x23.2.set_os b20 (⟨x24.d, x24.kind, x24.at_, x24.t, x24.b, x24.x, x23.1⟩ : QOp))]) rfl ?_
          refine TL.nil ?_
          refine fun w hw => hJ_8 (x23.2.set_os b20 (⟨x24.d, x24.kind, x24.at_, x24.t, x24.b, x24.x, x23.1⟩ : QOp)) _ ?_ ?_ hp w (hw.pick [0])
          · exact h_46
          · exact h_47
        · rw [if_neg hc_61] at hp
          refine TC.condF (bF hc_61) ?_
          refine TC.seq fun K_65 hK_66 => ?_
          refine TC.region ?_
          refine TL.v (ltb rfl) (rv_mv (v := ptrV a2) h_47) ?_
          refine TL.v (ltb rfl) (rv_nilCheck (a := ⟨b20, 0, none⟩) (ptrE hb_54)) ?_
          refine TL.v (ltb rfl) (rv_fa (b := b20) (o := 0) fa_123_1 rfl) ?_
          refine TL.v (ltb rfl) (rv_ld (v := .int .i64 x21.kind) (o := 1) (o' := 0) (j := 1) sc_3 rfl (Src.at_ 0 rfl) (in_os (R := R4) (cs := [ptrV x21.d, .int .i64 x21.kind, .int .i64 x21.at_, .int .i64 x21.t, .int .i64 x21.b, .int .i64 x21.x, .int .i64 x21.got]) hx_55 rfl) rfl rfl) ?_
          refine TL.v (ltb rfl) (rv_eql (k := .i64) (m := x21.kind) (n := 2) rfl rfl) ?_
          refine TL.v (ltb rfl) (rv_as (v := .bool (decide (x21.kind = 2))) rfl) ?_
          refine TL.nil ?_
          refine TC.go hK_66 ?_
          by_cases hc_67 : x21.kind = 2
          · rw [if_pos hc_67] at hp
            refine TC.condT (bT hc_67) ?_
            refine TC.region ?_
            refine TL.v (ltb rfl) (rv_mv (v := ptrV a2) h_47) ?_
            refine TL.v (ltb rfl) (rv_mv (v := ptrV a1) h_46) ?_
            refine TL.v (ltb rfl) (rv_mv (v := ptrV a2) h_47) ?_
            obtain ⟨x25, hy_68, hp⟩ := bind_some' hp
            refine TL.callC (vs := [ptrV a1, ptrV a2]) (R := deque_Deque_pop.R x25) [rgF R4] [] rfl cb_65 (ltb rfl) (mc rfl (mc rfl m0)) (fun w hw => deque_Deque_pop_ok (a1 := a1) (a2 := a2) (R4 := R4) hy_68 hw) fun v A' hR_69 => ?_
            obtain ⟨rfl, rfl⟩ := hR_69
            refine TL.norm (L' := [rgF x25.2]) rfl ?_
            refine TL.v (ltb rfl) (rv_nilCheck (a := ⟨b20, 0, none⟩) (ptrE hb_54)) ?_
            refine TL.v (ltb rfl) (rv_fa (b := b20) (o := 0) fa_123_6 rfl) ?_
            obtain ⟨x26, hx_70, hp⟩ := bind_some' hp
            refine TL.stR (F := rgF x25.2) (F' := rgF (x25.2.set_os b20 (⟨x26.d, x26.kind, x26.at_, x26.t, x26.b, x26.x, x25.1⟩ : QOp))) (ds := [.int .i64 x25.1]) (o := 6) (cs := [ptrV x26.d, .int .i64 x26.kind, .int .i64 x26.at_, .int .i64 x26.t, .int .i64 x26.b, .int .i64 x26.x, .int .i64 x26.got]) (u := .int .i64 x25.1) 0 rfl ms_3 rfl rfl rfl (oc rfl oc0) (leb rfl) (spl_os (R := x25.2) hx_70 (⟨x26.d, x26.kind, x26.at_, x26.t, x26.b, x26.x, x25.1⟩ : QOp) rfl rfl) ?_
            refine TL.norm (L' := [rgF (x25.2.set_os b20 (⟨x26.d, x26.kind, x26.at_, x26.t, x26.b, x26.x, x25.1⟩ : QOp))]) rfl ?_
            refine TL.nil ?_
            refine fun w hw => hJ_8 (x25.2.set_os b20 (⟨x26.d, x26.kind, x26.at_, x26.t, x26.b, x26.x, x25.1⟩ : QOp)) _ ?_ ?_ hp w (hw.pick [0])
            · exact h_46
            · exact h_47
          · rw [if_neg hc_67] at hp
            refine TC.condF (bF hc_67) ?_
            refine TC.region ?_
            refine TL.v (ltb rfl) (rv_mv (v := ptrV a2) h_47) ?_
            refine TL.v (ltb rfl) (rv_mv (v := ptrV a1) h_46) ?_
            refine TL.v (ltb rfl) (rv_mv (v := ptrV a2) h_47) ?_
            obtain ⟨x27, hy_71, hp⟩ := bind_some' hp
            refine TL.callC (vs := [ptrV a1, ptrV a2]) (R := deque_Deque_steal.R x27) [rgF R4] [] rfl cb_66 (ltb rfl) (mc rfl (mc rfl m0)) (fun w hw => deque_Deque_steal_ok (a1 := a1) (a2 := a2) (R4 := R4) hy_71 hw) fun v A' hR_72 => ?_
            obtain ⟨rfl, rfl⟩ := hR_72
            refine TL.norm (L' := [rgF x27.2]) rfl ?_
            refine TL.v (ltb rfl) (rv_nilCheck (a := ⟨b20, 0, none⟩) (ptrE hb_54)) ?_
            refine TL.v (ltb rfl) (rv_fa (b := b20) (o := 0) fa_123_6 rfl) ?_
            obtain ⟨x28, hx_73, hp⟩ := bind_some' hp
            refine TL.stR (F := rgF x27.2) (F' := rgF (x27.2.set_os b20 (⟨x28.d, x28.kind, x28.at_, x28.t, x28.b, x28.x, x27.1⟩ : QOp))) (ds := [.int .i64 x27.1]) (o := 6) (cs := [ptrV x28.d, .int .i64 x28.kind, .int .i64 x28.at_, .int .i64 x28.t, .int .i64 x28.b, .int .i64 x28.x, .int .i64 x28.got]) (u := .int .i64 x27.1) 0 rfl ms_3 rfl rfl rfl (oc rfl oc0) (leb rfl) (spl_os (R := x27.2) hx_73 (⟨x28.d, x28.kind, x28.at_, x28.t, x28.b, x28.x, x27.1⟩ : QOp) rfl rfl) ?_
            refine TL.norm (L' := [rgF (x27.2.set_os b20 (⟨x28.d, x28.kind, x28.at_, x28.t, x28.b, x28.x, x27.1⟩ : QOp))]) rfl ?_
            refine TL.nil ?_
            refine fun w hw => hJ_8 (x27.2.set_os b20 (⟨x28.d, x28.kind, x28.at_, x28.t, x28.b, x28.x, x27.1⟩ : QOp)) _ ?_ ?_ hp w (hw.pick [0])
            · exact h_46
            · exact h_47
  clear hp
  have hp := ht_74
  clear ht_74
  by_cases hc_44 : a2 = none
  · rw [if_pos hc_44] at hp
    refine TL.gno true rfl (fun d hd => by cases hd; exact ltb rfl) (yieldE_of rfl (bT hc_44)) rfl ?_
    refine TL.gno true rfl (fun d hd => by cases hd; exact ltb rfl) (yieldE_of rfl (bT hc_44)) rfl ?_
    refine TL.gno true rfl (fun d hd => by cases hd; exact ltb rfl) (yieldE_of rfl (bT hc_44)) rfl ?_
    refine TL.gno true rfl (fun d hd => by cases hd; exact ltb rfl) (yieldE_of rfl (bT hc_44)) rfl ?_
    refine TL.gno true rfl (fun d hd => by cases hd; exact ltb rfl) (yieldE_of rfl (bT hc_44)) rfl ?_
    refine TL.gno true rfl (fun d hd => by cases hd; exact ltb rfl) (yieldE_of rfl (bT hc_44)) rfl ?_
    refine TL.v (ltb rfl) (rv_pickT true (bT hc_44) rfl (v := .bool true) rfl) ?_
    obtain rfl := Option.some.inj hp
    refine TL.nil (hJ_43 _ ?_ ?_ ?_)
    · exact rfl
    · exact rfl
    · exact rfl
  · rw [if_neg hc_44] at hp
    refine TL.gyes false (yieldE_of rfl (bF hc_44)) rfl ?_
    refine TL.v (ltb rfl) (rv_mv (v := ptrV a2) rfl) ?_
    refine TL.gyes false (yieldE_of rfl (bF hc_44)) rfl ?_
    obtain ⟨b29, hb_75, hp⟩ := bind_some' hp
    refine TL.v (ltb rfl) (rv_nilCheck (a := ⟨b29, 0, none⟩) (ptrE hb_75)) ?_
    refine TL.gyes false (yieldE_of rfl (bF hc_44)) rfl ?_
    refine TL.v (ltb rfl) (rv_fa (b := b29) (o := 0) fa_123_0 rfl) ?_
    refine TL.gyes false (yieldE_of rfl (bF hc_44)) rfl ?_
    obtain ⟨x30, hx_76, hp⟩ := bind_some' hp
    refine TL.v (ltb rfl) (rv_ld (v := ptrV x30.d) (o := 0) (o' := 0) (j := 0) sc_37 rfl (Src.at_ 0 rfl) (in_os (R := R4) (cs := [ptrV x30.d, .int .i64 x30.kind, .int .i64 x30.at_, .int .i64 x30.t, .int .i64 x30.b, .int .i64 x30.x, .int .i64 x30.got]) hx_76 rfl) rfl rfl) ?_
    refine TL.gyes false (yieldE_of rfl (bF hc_44)) rfl ?_
    refine TL.v (ltb rfl) (rv_mv (v := ptrV a1) rfl) ?_
    refine TL.gyes false (yieldE_of rfl (bF hc_44)) rfl ?_
    obtain ⟨t31, ht_77, hp⟩ := bind_some' hp
    refine TL.v (ltb rfl) (rv_neqPP (p := x30.d) (q := a1) (F := rgF R4) Try.underlying37 inf_121 (Src.at_ 0 rfl) (eq_ds (R := R4) ht_77).1 (eq_ds (R := R4) ht_77).2 rfl rfl) ?_
    refine TL.v (ltb rfl) (rv_pickF false (bF hc_44) rfl (v := .bool (decide (¬ x30.d = a1))) rfl) ?_
    obtain rfl := Option.some.inj hp
    refine TL.nil (hJ_43 _ ?_ ?_ ?_)
    · exact rfl
    · exact rfl
    · exact rfl

/-! ### (*fettle/deque.Op).Result -/
abbrev deque_Op_Result.R (R3 : Rgn) (r : Int × Int) (v : Value) (A : List FP) : Prop := .tuple #[.int .i64 r.1, .int .i64 r.2] = v ∧ A = [rgF R3]
def deque_Op_Result (a1 : Option Nat) (R3 : Rgn) : Option (Int × Int) :=
  (a1).bind fun b4 =>
  (look (R3).os b4).bind fun x5 =>
  if ¬ x5.got = 1 then
    some (x5.got, 0)
  else
    some (x5.got, x5.x)
theorem deque_Op_Result_ok {E : World} {H : FP} {w : World} {a1 : Option Nat} {R3 : Rgn} {r : Int × Int}  (hp : deque_Op_Result a1 R3 = some r) (hst : St E H [rgF R3] w) :
    Fn Try.prog 31 #[ptrV a1] w fun v w' => ∃ A, deque_Op_Result.R R3 r v A ∧ St E H A w' := by
  refine Fn.body (fn := Try.f31) (args := [ptrV a1]) E H [rgF R3] [.tmp 2, .tmp 3] 21 Try.func31 rfl rfl rfl rfl (leb rfl) hst ?_
  unfold deque_Op_Result at hp
  refine TC.seq fun K_1 hK_2 => ?_
  refine TC.region ?_
  refine TL.v (ltb rfl) (rv_as (v := .int .i64 0) rfl) ?_
  refine TL.v (ltb rfl) (rv_as (v := .int .i64 0) rfl) ?_
  refine TL.nil ?_
  refine TC.go hK_2 ?_
  refine TC.seq fun K_3 hK_4 => ?_
  refine TC.seq fun K_5 hK_6 => ?_
  refine TC.region ?_
  refine TL.v (ltb rfl) (rv_mv (v := ptrV a1) rfl) ?_
  obtain ⟨b4, hb_7, hp⟩ := bind_some' hp
  refine TL.v (ltb rfl) (rv_nilCheck (a := ⟨b4, 0, none⟩) (ptrE hb_7)) ?_
  refine TL.v (ltb rfl) (rv_fa (b := b4) (o := 0) fa_123_6 rfl) ?_
  obtain ⟨x5, hx_8, hp⟩ := bind_some' hp
  refine TL.v (ltb rfl) (rv_ld (v := .int .i64 x5.got) (o := 6) (o' := 0) (j := 6) sc_3 rfl (Src.at_ 0 rfl) (in_os (R := R3) (cs := [ptrV x5.d, .int .i64 x5.kind, .int .i64 x5.at_, .int .i64 x5.t, .int .i64 x5.b, .int .i64 x5.x, .int .i64 x5.got]) hx_8 rfl) rfl rfl) ?_
  refine TL.v (ltb rfl) (rv_neq (k := .i64) (m := x5.got) (n := 1) rfl rfl) ?_
  refine TL.nil ?_
  refine TC.go hK_6 ?_
  by_cases hc_9 : ¬ x5.got = 1
  · rw [if_pos hc_9] at hp
    refine TC.condT (bT hc_9) ?_
    refine TC.seq fun K_10 hK_11 => ?_
    refine TC.region ?_
    refine TL.v (ltb rfl) (rv_mv (v := ptrV a1) rfl) ?_
    refine TL.v (ltb rfl) (rv_nilCheck (a := ⟨b4, 0, none⟩) (ptrE hb_7)) ?_
    refine TL.v (ltb rfl) (rv_fa (b := b4) (o := 0) fa_123_6 rfl) ?_
    refine TL.v (ltb rfl) (rv_ld (v := .int .i64 x5.got) (o := 6) (o' := 0) (j := 6) sc_3 rfl (Src.at_ 0 rfl) (in_os (R := R3) (cs := [ptrV x5.d, .int .i64 x5.kind, .int .i64 x5.at_, .int .i64 x5.t, .int .i64 x5.b, .int .i64 x5.x, .int .i64 x5.got]) hx_8 rfl) rfl rfl) ?_
    refine TL.v (ltb rfl) (rv_as (v := .int .i64 x5.got) rfl) ?_
    refine TL.v (ltb rfl) (rv_as (v := .int .i64 0) rfl) ?_
    refine TL.nil ?_
    refine TC.go hK_11 ?_
    refine TC.ret ?_
    obtain rfl := Option.some.inj hp
    exact fun w hw => retOk ⟨(tu2 rfl rfl).symm, rfl⟩ (hw.pick [0])
  · rw [if_neg hc_9] at hp
    refine TC.condF (bF hc_9) ?_
    refine TC.skip ?_
    refine TC.go hK_4 ?_
    refine TC.seq fun K_12 hK_13 => ?_
    refine TC.quiet mix (by kernel_rfl) ?_
    refine QL.v (ltb rfl) (rv_mv (v := ptrV a1) rfl) ?_
    refine QL.v (ltb rfl) (rv_nilCheck (a := ⟨b4, 0, none⟩) (ptrE hb_7)) ?_
    refine QL.v (ltb rfl) (rv_fa (b := b4) (o := 0) fa_123_6 rfl) ?_
    refine QL.v (ltb rfl) (rv_ld (v := .int .i64 x5.got) (o := 6) (o' := 0) (j := 6) sc_3 rfl (Src.at_ 0 rfl) (in_os (R := R3) (cs := [ptrV x5.d, .int .i64 x5.kind, .int .i64 x5.at_, .int .i64 x5.t, .int .i64 x5.b, .int .i64 x5.x, .int .i64 x5.got]) hx_8 rfl) rfl rfl) ?_
    refine QL.v (ltb rfl) (rv_mv (v := ptrV a1) rfl) ?_
    refine QL.v (ltb rfl) (rv_nilCheck (a := ⟨b4, 0, none⟩) (ptrE hb_7)) ?_
    refine QL.v (ltb rfl) (rv_fa (b := b4) (o := 0) fa_123_5 rfl) ?_
    refine QL.v (ltb rfl) (rv_ld (v := .int .i64 x5.x) (o := 5) (o' := 0) (j := 5) sc_3 rfl (Src.at_ 0 rfl) (in_os (R := R3) (cs := [ptrV x5.d, .int .i64 x5.kind, .int .i64 x5.at_, .int .i64 x5.t, .int .i64 x5.b, .int .i64 x5.x, .int .i64 x5.got]) hx_8 rfl) rfl rfl) ?_
    refine QL.v (ltb rfl) (rv_as (v := .int .i64 x5.got) rfl) ?_
    refine QL.v (ltb rfl) (rv_as (v := .int .i64 x5.x) rfl) ?_
    refine QL.nil ?_
    refine TC.go hK_13 ?_
    refine TC.ret ?_
    obtain rfl := Option.some.inj hp
    exact fun w hw => retOk ⟨(tu2 rfl rfl).symm, rfl⟩ (hw.pick [0])

/-! ### (*fettle/deque.Deque).State -/
abbrev deque_Deque_State.R (R3 : Rgn) (r : Int × Int) (v : Value) (A : List FP) : Prop := .tuple #[.int .i64 r.1, .int .i64 r.2] = v ∧ A = [rgF R3]
def deque_Deque_State (a1 : Option Nat) (R3 : Rgn) : Option (Int × Int) :=
  (a1).bind fun b4 =>
  (look (R3).ds b4).bind fun x5 =>
  some (x5.top, x5.bottom)
theorem deque_Deque_State_ok {E : World} {H : FP} {w : World} {a1 : Option Nat} {R3 : Rgn} {r : Int × Int}  (hp : deque_Deque_State a1 R3 = some r) (hst : St E H [rgF R3] w) :
    Fn Try.prog 41 #[ptrV a1] w fun v w' => ∃ A, deque_Deque_State.R R3 r v A ∧ St E H A w' := by
  refine Fn.body (fn := Try.f41) (args := [ptrV a1]) E H [rgF R3] [.tmp 2, .tmp 3] 12 Try.func41 rfl rfl rfl rfl (leb rfl) hst ?_
  unfold deque_Deque_State at hp
  refine TC.seq fun K_1 hK_2 => ?_
  refine TC.region ?_
  refine TL.v (ltb rfl) (rv_as (v := .int .i64 0) rfl) ?_
  refine TL.v (ltb rfl) (rv_as (v := .int .i64 0) rfl) ?_
  refine TL.nil ?_
  refine TC.go hK_2 ?_
  refine TC.seq fun K_3 hK_4 => ?_
  refine TC.quiet mix (by kernel_rfl) ?_
  refine QL.v (ltb rfl) (rv_mv (v := ptrV a1) rfl) ?_
  obtain ⟨b4, hb_5, hp⟩ := bind_some' hp
  refine QL.v (ltb rfl) (rv_nilCheck (a := ⟨b4, 0, none⟩) (ptrE hb_5)) ?_
  refine QL.v (ltb rfl) (rv_fa (b := b4) (o := 0) fa_121_1 rfl) ?_
  obtain ⟨x5, hx_6, hp⟩ := bind_some' hp
  refine QL.v (ltb rfl) (rv_ld (v := .int .i64 x5.top) (o := 64) (o' := 0) (j := 64) sc_3 rfl (Src.at_ 0 rfl) (in_ds (R := R3) (cs := (arrC x5.cells ++ ([.int .i64 x5.top, .int .i64 x5.bottom, ptrV x5.owner] : List Value))) hx_6 rfl) rfl (Eq.trans (arr_ge _ _ 0) rfl)) ?_
  refine QL.v (ltb rfl) (rv_mv (v := ptrV a1) rfl) ?_
  refine QL.v (ltb rfl) (rv_nilCheck (a := ⟨b4, 0, none⟩) (ptrE hb_5)) ?_
  refine QL.v (ltb rfl) (rv_fa (b := b4) (o := 0) fa_121_2 rfl) ?_
  refine QL.v (ltb rfl) (rv_ld (v := .int .i64 x5.bottom) (o := 65) (o' := 0) (j := 65) sc_3 rfl (Src.at_ 0 rfl) (in_ds (R := R3) (cs := (arrC x5.cells ++ ([.int .i64 x5.top, .int .i64 x5.bottom, ptrV x5.owner] : List Value))) hx_6 rfl) rfl (Eq.trans (arr_ge _ _ 1) rfl)) ?_
  refine QL.v (ltb rfl) (rv_as (v := .int .i64 x5.top) rfl) ?_
  refine QL.v (ltb rfl) (rv_as (v := .int .i64 x5.bottom) rfl) ?_
  refine QL.nil ?_
  refine TC.go hK_4 ?_
  refine TC.ret ?_
  obtain rfl := Option.some.inj hp
  exact fun w hw => retOk ⟨(tu2 rfl rfl).symm, rfl⟩ (hw.pick [0])

/-! ### fettle/fettlelaw11.done -/
abbrev fettlelaw11_done.R (r : Bool × Rgn) (v : Value) (A : List FP) : Prop := .bool r.1 = v ∧ A = [rgF r.2]
def fettlelaw11_done.nx15  (R7 : Rgn) : Option (Bool × Rgn) :=
  some (false, R7)
def fettlelaw11_done.bd15 (a1 : Option Nat) (a2 : Option Nat) (R5 : Rgn) (x6 : Int) : Option (Ex (Ex (Bool × Rgn) Rgn) (Rgn × Int)) :=
  if x6 < 6 then
    (deque_Deque_Step a1 a2 R5).bind fun x8 =>
    if ¬ x8.2.1 = GErr.no then
      some (.ret (.ret (false, x8.2.2)))
    else
      if x8.1 = true then
        some (.ret (.ret (true, x8.2.2)))
      else
        some (.go (x8.2.2, (w64 (x6 + 1))))
  else
    some (.ret (.go R5))
def fettlelaw11_done (a1 : Option Nat) (a2 : Option Nat) (R4 : Rgn) : Option (Bool × Rgn) :=
  (whl (fun (s : (Rgn × Int)) => fettlelaw11_done.bd15 a1 a2 s.1 s.2) FUEL (R4, 0)).bind fun z =>
  match z with
    | .ret r => some r
    | .go p => fettlelaw11_done.nx15 p
theorem fettlelaw11_done_ok {E : World} {H : FP} {w : World} {a1 : Option Nat} {a2 : Option Nat} {R4 : Rgn} {r : Bool × Rgn}  (hp : fettlelaw11_done a1 a2 R4 = some r) (hst : St E H [rgF R4] w) :
    Fn Try.prog 35 #[ptrV a1, ptrV a2] w fun v w' => ∃ A, fettlelaw11_done.R r v A ∧ St E H A w' := by
  refine Fn.body (fn := Try.f35) (args := [ptrV a1, ptrV a2]) E H [rgF R4] [.tmp 4] 21 Try.func35 rfl rfl rfl rfl (leb rfl) hst ?_
  unfold fettlelaw11_done at hp
  refine TC.seq fun K_1 hK_2 => ?_
  refine TC.region ?_
  refine TL.v (ltb rfl) (rv_as (v := .bool false) rfl) ?_
  refine TL.nil ?_
  refine TC.go hK_2 ?_
  refine TC.seq fun K_3 hK_4 => ?_
  refine TC.seq fun K_5 hK_6 => ?_
  refine TC.region ?_
  refine TL.v (ltb rfl) (rv_as (v := .int .i64 0) rfl) ?_
  refine TL.nil ?_
  refine TC.go hK_6 ?_
  refine TC.block ?_
  obtain ⟨z_11, hz_12, hr_13⟩ := bind_some' hp
  clear hp
  have hJ_19 : ∀ (R7 : Rgn) (e_16 : Env) (hq_20 : .go R7 = z_11), ∀ w, St E H [rgF R7] w → K_3 e_16 w := by
    intro R7 e_16 hq_20
    subst hq_20
    replace hp : fettlelaw11_done.nx15 R7 = some r := hr_13
    unfold fettlelaw11_done.nx15 at hp
    refine TC.go hK_4 ?_
    refine TC.seq fun K_17 hK_18 => ?_
    refine TC.region ?_
    refine TL.v (ltb rfl) (rv_as (v := .bool false) rfl) ?_
    refine TL.nil ?_
    refine TC.go hK_18 ?_
    refine TC.ret ?_
    obtain rfl := Option.some.inj hp
    exact fun w hw => retOk ⟨rfl, rfl⟩ (hw.pick [0])
  refine TC.pk' [0] (L' := [rgF R4]) rfl ?_
  refine TC.loopW (r := z_11) (fun (s : (Rgn × Int)) (e_7 : Env) (L_44 : List FP) => ∃ (R5 : Rgn) (x6 : Int), s = (R5, x6) ∧ e_7 0 = ptrV a1 ∧ e_7 1 = ptrV a2 ∧ e_7 5 = .int .i64 x6 ∧ L_44 = [rgF R5]) ?_ FUEL _ _ _ hz_12 ⟨R4, 0, rfl, rfl, rfl, rfl, rfl⟩
  rintro s e_7 L_44 ⟨R5, x6, rfl, h_8, h_9, h_10, rfl⟩ x_14 hp hx_15
  replace hp : fettlelaw11_done.bd15 a1 a2 R5 x6 = some x_14 := hp
  unfold fettlelaw11_done.bd15 at hp
  refine TC.seq fun K_21 hK_22 => ?_
  refine TC.seq fun K_23 hK_24 => ?_
  refine TC.region ?_
  refine TL.v (ltb rfl) (rv_mv (v := .int .i64 x6) h_10) ?_
  refine TL.v (ltb rfl) (rv_lss (k := .i64) (m := x6) (n := 6) rfl rfl) ?_
  refine TL.nil ?_
  refine TC.go hK_24 ?_
  by_cases hc_25 : x6 < 6
  · rw [if_pos hc_25] at hp
    refine TC.condT (bT hc_25) ?_
    refine TC.skip ?_
    refine TC.go hK_22 ?_
    refine TC.seq fun K_26 hK_27 => ?_
    refine TC.block ?_
    refine TC.seq fun K_28 hK_29 => ?_
    refine TC.region ?_
    refine TL.v (ltb rfl) (rv_mv (v := ptrV a1) h_8) ?_
    refine TL.v (ltb rfl) (rv_mv (v := ptrV a2) h_9) ?_
    obtain ⟨x8, hy_30, hp⟩ := bind_some' hp
    refine TL.callC (vs := [ptrV a1, ptrV a2]) (R := deque_Deque_Step.R x8) [rgF R5] [] rfl cb_30 (ltb rfl) (mc rfl (mc rfl m0)) (fun w hw => deque_Deque_Step_ok (a1 := a1) (a2 := a2) (R4 := R5) hy_30 hw) fun v A' hR_31 => ?_
    obtain ⟨v9, F10, rfl, rfl, h11⟩ := hR_31
    refine TL.norm (L' := [F10, rgF x8.2.2]) rfl ?_
    refine TL.v (ltb rfl) (rv_mv (v := .tuple #[.bool x8.1, v9]) rfl) ?_
    refine TL.v (ltb rfl) (rv_extract (vs := #[.bool x8.1, v9]) (v := .bool x8.1) rfl rfl) ?_
    refine TL.v (ltb rfl) (rv_extract (vs := #[.bool x8.1, v9]) (v := v9) rfl rfl) ?_
    refine TL.v (ltb rfl) (rv_as (v := .bool x8.1) rfl) ?_
    refine TL.v (ltb rfl) (rv_as (v := v9) rfl) ?_
    refine TL.nil ?_
    refine TC.go hK_29 ?_
    refine TC.seq fun K_32 hK_33 => ?_
    refine TC.seq fun K_34 hK_35 => ?_
    refine TC.region ?_
    refine TL.v (ltb rfl) (rv_mv (v := v9) rfl) ?_
    refine TL.v (ltb rfl) (rv_neqEN ifc_49 h11 rfl) ?_
    refine TL.nil ?_
    refine TC.go hK_35 ?_
    by_cases hc_36 : ¬ x8.2.1 = GErr.no
    · rw [if_pos hc_36] at hp
      refine TC.condT (bT hc_36) ?_
      refine TC.seq fun K_37 hK_38 => ?_
      refine TC.region ?_
      refine TL.v (ltb rfl) (rv_as (v := .bool false) rfl) ?_
      refine TL.nil ?_
      refine TC.go hK_38 ?_
      refine TC.ret ?_
      obtain rfl := ex_ret hp hx_15
      obtain rfl := Option.some.inj hr_13
      exact fun w hw => retOk ⟨rfl, rfl⟩ (hw.pick [1])
    · rw [if_neg hc_36] at hp
      refine TC.condF (bF hc_36) ?_
      refine TC.skip ?_
      refine TC.go hK_33 ?_
      refine TC.seq fun K_39 hK_40 => ?_
      refine TC.region ?_
      refine TL.v (ltb rfl) (rv_mv (v := .bool x8.1) rfl) ?_
      refine TL.nil ?_
      refine TC.go hK_40 ?_
      by_cases hc_41 : x8.1 = true
      · rw [if_pos hc_41] at hp
        refine TC.condT (bbT hc_41) ?_
        refine TC.seq fun K_42 hK_43 => ?_
        refine TC.region ?_
        refine TL.v (ltb rfl) (rv_as (v := .bool true) rfl) ?_
        refine TL.nil ?_
        refine TC.go hK_43 ?_
        refine TC.ret ?_
        obtain rfl := ex_ret hp hx_15
        obtain rfl := Option.some.inj hr_13
        exact fun w hw => retOk ⟨rfl, rfl⟩ (hw.pick [1])
      · rw [if_neg hc_41] at hp
        refine TC.condF (bbF hc_41) ?_
        refine TC.skip ?_
        refine TC.go hK_27 ?_
        refine TC.region ?_
        refine TL.v (ltb rfl) (rv_mv (v := .int .i64 x6) h_10) ?_
        refine TL.v (ltb rfl) (rv_add (k := .i64) (m := x6) (n := 1) rfl rfl) ?_
        refine TL.v (ltb rfl) (rv_as (v := .int .i64 (w64 (x6 + 1))) rfl) ?_
        refine TL.nil ?_
        exact fun w hw => goOk hp ⟨x8.2.2, (w64 (x6 + 1)), rfl, h_8, h_9, rfl, rfl⟩ (hw.pick [1])
  · rw [if_neg hc_25] at hp
    refine TC.condF (bF hc_25) ?_
    refine TC.exit ?_
    refine fun w hw => hJ_19 R5 _ (ex_ret hp hx_15) w (hw.pick [0])
end Go.Proofs.Ytoflleabpkgdpaa
