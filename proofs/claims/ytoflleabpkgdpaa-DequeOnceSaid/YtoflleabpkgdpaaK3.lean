/- The walk through the program's functions: each one's pure reading, and that a call does what it says. No conditions. -/
import Derived.Test.YtoflleabpkgdpaaK2
set_option linter.unusedVariables false
set_option linter.unusedSimpArgs false
namespace Go.Proofs.Ytoflleabpkgdpaa
open Go Go.Proofs

/-! ### fettle/fettleref11.cell -/
abbrev fettleref11_cell.R (r : Int) (v : Value) (A : List FP) : Prop := .int .i64 r = v ∧ A = []
def fettleref11_cell.jn9  (x2 : Int) : Option Int :=
  some x2
def fettleref11_cell (a1 : Int) : Option Int :=
  if (Int.tmod a1 64) < 0 then
    fettleref11_cell.jn9 (w64 ((Int.tmod a1 64) + 64))
  else
    fettleref11_cell.jn9 (Int.tmod a1 64)
theorem fettleref11_cell_ok {E : World} {H : FP} {w : World} {a1 : Int} {r : Int}  (hp : fettleref11_cell a1 = some r) (hst : St E H [] w) :
    Fn Try.prog 90 #[.int .i64 a1] w fun v w' => ∃ A, fettleref11_cell.R r v A ∧ St E H A w' := by
  refine Fn.body (fn := Try.f90) (args := [.int .i64 a1]) E H [] [.tmp 2] 10 Try.func90 rfl rfl rfl rfl (leb rfl) hst ?_
  unfold fettleref11_cell at hp
  refine TC.seq fun K_1 hK_2 => ?_
  refine TC.region ?_
  refine TL.v (ltb rfl) (rv_as (v := .int .i64 0) rfl) ?_
  refine TL.nil ?_
  refine TC.go hK_2 ?_
  refine TC.seq fun K_3 hK_4 => ?_
  refine TC.region ?_
  refine TL.v (ltb rfl) (rv_mv (v := .int .i64 a1) rfl) ?_
  refine TL.v (ltb rfl) (rv_rem (k := .i64) (m := a1) (n := 64) rfl rfl (by decide)) ?_
  refine TL.v (ltb rfl) (rv_as (v := .int .i64 (Int.tmod a1 64)) rfl) ?_
  refine TL.nil ?_
  refine TC.go hK_4 ?_
  refine TC.seq fun K_5 hK_6 => ?_
  have hJ_9 : ∀ (x2 : Int) (e_7 : Env) (h_8 : e_7 0 = .int .i64 x2) (hp : fettleref11_cell.jn9 x2 = some r), ∀ w, St E H [] w → K_5 e_7 w := by
    intro x2 e_7 h_8 hp
    unfold fettleref11_cell.jn9 at hp
    refine TC.go hK_6 ?_
    refine TC.seq fun K_10 hK_11 => ?_
    refine TC.region ?_
    refine TL.v (ltb rfl) (rv_mv (v := .int .i64 x2) h_8) ?_
    refine TL.v (ltb rfl) (rv_as (v := .int .i64 x2) rfl) ?_
    refine TL.nil ?_
    refine TC.go hK_11 ?_
    refine TC.ret ?_
    obtain rfl := Option.some.inj hp
    exact fun w hw => retOk ⟨rfl, rfl⟩ (hw.pick [])
  refine TC.seq fun K_12 hK_13 => ?_
  refine TC.region ?_
  refine TL.v (ltb rfl) (rv_mv (v := .int .i64 (Int.tmod a1 64)) rfl) ?_
  refine TL.v (ltb rfl) (rv_lss (k := .i64) (m := (Int.tmod a1 64)) (n := 0) rfl rfl) ?_
  refine TL.nil ?_
  refine TC.go hK_13 ?_
  by_cases hc_14 : (Int.tmod a1 64) < 0
  · rw [if_pos hc_14] at hp
    refine TC.condT (bT hc_14) ?_
    refine TC.region ?_
    refine TL.v (ltb rfl) (rv_mv (v := .int .i64 (Int.tmod a1 64)) rfl) ?_
    refine TL.v (ltb rfl) (rv_add (k := .i64) (m := (Int.tmod a1 64)) (n := 64) rfl rfl) ?_
    refine TL.v (ltb rfl) (rv_as (v := .int .i64 (w64 ((Int.tmod a1 64) + 64))) rfl) ?_
    refine TL.nil ?_
    refine fun w hw => hJ_9 (w64 ((Int.tmod a1 64) + 64)) _ ?_ hp w (hw.pick [])
    · exact rfl
  · rw [if_neg hc_14] at hp
    refine TC.condF (bF hc_14) ?_
    refine TC.skip ?_
    refine fun w hw => hJ_9 (Int.tmod a1 64) _ ?_ hp w (hw.pick [])
    · exact rfl

/-! ### (*fettle/fettleref11.Deque).push -/
abbrev fettleref11_Deque_push.R (b1 : Nat) (a2 : PDeque) (r : List Int × Int × Rgn) (v : Value) (A : List FP) : Prop := ∃ (w1 : Value) (G1 : FP), .tuple #[] = v ∧ A = [bx b1 74 [w1, .int .i64 a2.top, .int .i64 r.2.1, .bool a2.busy], G1, rgF r.2.2] ∧ SlO 3 (kInt .i64) r.1 w1 G1
def fettleref11_Deque_push (a2 : PDeque) (a7 : Option Nat) (R9 : Rgn) : Option (List Int × Int × Rgn) :=
  (a7).bind fun b10 =>
  (look (R9).rs b10).bind fun x11 =>
  if x11.next = 1 then
    some (a2.cells, a2.bottom, (R9.set_rs b10 (⟨x11.kind, x11.next, a2.bottom, x11.t, x11.x, x11.got, x11.won⟩ : POp)))
  else
    if x11.next = 2 then
      if (w64 (x11.b - a2.top)) ≥ 64 then
        some (a2.cells, a2.bottom, ((R9.set_rs b10 (⟨x11.kind, x11.next, x11.b, a2.top, x11.x, x11.got, x11.won⟩ : POp)).set_rs b10 (⟨x11.kind, x11.next, x11.b, a2.top, x11.x, 3, x11.won⟩ : POp)))
      else
        some (a2.cells, a2.bottom, (R9.set_rs b10 (⟨x11.kind, x11.next, x11.b, a2.top, x11.x, x11.got, x11.won⟩ : POp)))
    else
      if x11.next = 3 then
        (fettleref11_cell x11.b).bind fun x3213 =>
        (idx a2.cells x3213).bind fun x5213 =>
        some ((a2.cells.set (x3213).toNat x11.x), a2.bottom, R9)
      else
        if x11.next = 4 then
          some (a2.cells, (w64 (x11.b + 1)), (R9.set_rs b10 (⟨x11.kind, x11.next, x11.b, x11.t, x11.x, 1, x11.won⟩ : POp)))
        else
          some (a2.cells, a2.bottom, R9)
theorem fettleref11_Deque_push_ok {E : World} {H : FP} {w : World} {a2 : PDeque} {a7 : Option Nat} {R9 : Rgn} {b1 : Nat} {v3 : Value} {F4 : FP} {r : List Int × Int × Rgn} (h5 : SlO 3 (kInt .i64) a2.cells v3 F4) (hp : fettleref11_Deque_push a2 a7 R9 = some r) (hst : St E H [bx b1 74 [v3, .int .i64 a2.top, .int .i64 a2.bottom, .bool a2.busy], F4, rgF R9] w) :
    Fn Try.prog 68 #[.pointer (some ⟨b1, 0, none⟩), ptrV a7] w fun v w' => ∃ A, fettleref11_Deque_push.R b1 a2 r v A ∧ St E H A w' := by
  refine Fn.body (fn := Try.f68) (args := [.pointer (some ⟨b1, 0, none⟩), ptrV a7]) E H [bx b1 74 [v3, .int .i64 a2.top, .int .i64 a2.bottom, .bool a2.busy], F4, rgF R9] [] 68 Try.func68 rfl rfl rfl rfl (leb rfl) hst ?_
  unfold fettleref11_Deque_push at hp
  refine TC.seq fun K_1 hK_2 => ?_
  refine TC.region ?_
  refine TL.v (ltb rfl) (rv_mv (v := ptrV a7) rfl) ?_
  obtain ⟨b10, hb_3, hp⟩ := bind_some' hp
  refine TL.v (ltb rfl) (rv_nilCheck (a := ⟨b10, 0, none⟩) (ptrE hb_3)) ?_
  refine TL.v (ltb rfl) (rv_fa (b := b10) (o := 0) fa_127_1 rfl) ?_
  obtain ⟨x11, hx_4, hp⟩ := bind_some' hp
  refine TL.v (ltb rfl) (rv_ld (v := .int .i64 x11.next) (o := 1) (o' := 0) (j := 1) sc_3 rfl (Src.at_ 2 rfl) (in_rs (R := R9) (cs := [.int .i64 x11.kind, .int .i64 x11.next, .int .i64 x11.b, .int .i64 x11.t, .int .i64 x11.x, .int .i64 x11.got, .bool x11.won]) hx_4 rfl) rfl rfl) ?_
  refine TL.nil ?_
  refine TC.go hK_2 ?_
  refine TC.block ?_
  refine TC.seq fun K_5 hK_6 => ?_
  refine TC.region ?_
  refine TL.v (ltb rfl) (rv_eql (k := .i64) (m := x11.next) (n := 1) rfl rfl) ?_
  refine TL.v (ltb rfl) (rv_as (v := .bool (decide (x11.next = 1))) rfl) ?_
  refine TL.nil ?_
  refine TC.go hK_6 ?_
  by_cases hc_7 : x11.next = 1
  · rw [if_pos hc_7] at hp
    refine TC.condT (bT hc_7) ?_
    refine TC.region ?_
    refine TL.v (ltb rfl) (rv_mv (v := ptrV a7) rfl) ?_
    refine TL.v (ltb rfl) (rv_mv (v := .pointer (some ⟨b1, 0, none⟩)) rfl) ?_
    refine TL.v (ltb rfl) (rv_nilCheck (a := ⟨b1, 0, none⟩) rfl) ?_
    refine TL.v (ltb rfl) (rv_fa (b := b1) (o := 0) fa_74_2 rfl) ?_
    refine TL.v (ltb rfl) (rv_ld (v := .int .i64 a2.bottom) (o := 2) (o' := 0) (j := 2) sc_3 rfl (Src.at_ 0 rfl) (bx_cells b1 74 _) rfl rfl) ?_
    refine TL.v (ltb rfl) (rv_nilCheck (a := ⟨b10, 0, none⟩) (ptrE hb_3)) ?_
    refine TL.v (ltb rfl) (rv_fa (b := b10) (o := 0) fa_127_2 rfl) ?_
    refine TL.stR (F := rgF R9) (F' := rgF (R9.set_rs b10 (⟨x11.kind, x11.next, a2.bottom, x11.t, x11.x, x11.got, x11.won⟩ : POp))) (ds := [.int .i64 a2.bottom]) (o := 2) (cs := [.int .i64 x11.kind, .int .i64 x11.next, .int .i64 x11.b, .int .i64 x11.t, .int .i64 x11.x, .int .i64 x11.got, .bool x11.won]) (u := .int .i64 a2.bottom) 2 rfl ms_3 rfl rfl rfl (oc rfl oc0) (leb rfl) (spl_rs (R := R9) hx_4 (⟨x11.kind, x11.next, a2.bottom, x11.t, x11.x, x11.got, x11.won⟩ : POp) rfl rfl) ?_
    refine TL.norm (L' := [bx b1 74 [v3, .int .i64 a2.top, .int .i64 a2.bottom, .bool a2.busy], F4, rgF (R9.set_rs b10 (⟨x11.kind, x11.next, a2.bottom, x11.t, x11.x, x11.got, x11.won⟩ : POp))]) rfl ?_
    refine TL.nil ?_
    obtain rfl := Option.some.inj hp
    exact fun w hw => retOk ⟨v3, F4, rfl, rfl, h5⟩ (hw.pick [0, 0, 0])
  · rw [if_neg hc_7] at hp
    refine TC.condF (bF hc_7) ?_
    refine TC.seq fun K_8 hK_9 => ?_
    refine TC.region ?_
    refine TL.v (ltb rfl) (rv_eql (k := .i64) (m := x11.next) (n := 2) rfl rfl) ?_
    refine TL.v (ltb rfl) (rv_as (v := .bool (decide (x11.next = 2))) rfl) ?_
    refine TL.nil ?_
    refine TC.go hK_9 ?_
    by_cases hc_10 : x11.next = 2
    · rw [if_pos hc_10] at hp
      refine TC.condT (bT hc_10) ?_
      refine TC.seq fun K_11 hK_12 => ?_
      refine TC.region ?_
      refine TL.v (ltb rfl) (rv_mv (v := ptrV a7) rfl) ?_
      refine TL.v (ltb rfl) (rv_mv (v := .pointer (some ⟨b1, 0, none⟩)) rfl) ?_
      refine TL.v (ltb rfl) (rv_nilCheck (a := ⟨b1, 0, none⟩) rfl) ?_
      refine TL.v (ltb rfl) (rv_fa (b := b1) (o := 0) fa_74_1 rfl) ?_
      refine TL.v (ltb rfl) (rv_ld (v := .int .i64 a2.top) (o := 1) (o' := 0) (j := 1) sc_3 rfl (Src.at_ 0 rfl) (bx_cells b1 74 _) rfl rfl) ?_
      refine TL.v (ltb rfl) (rv_nilCheck (a := ⟨b10, 0, none⟩) (ptrE hb_3)) ?_
      refine TL.v (ltb rfl) (rv_fa (b := b10) (o := 0) fa_127_3 rfl) ?_
      refine TL.stR (F := rgF R9) (F' := rgF (R9.set_rs b10 (⟨x11.kind, x11.next, x11.b, a2.top, x11.x, x11.got, x11.won⟩ : POp))) (ds := [.int .i64 a2.top]) (o := 3) (cs := [.int .i64 x11.kind, .int .i64 x11.next, .int .i64 x11.b, .int .i64 x11.t, .int .i64 x11.x, .int .i64 x11.got, .bool x11.won]) (u := .int .i64 a2.top) 2 rfl ms_3 rfl rfl rfl (oc rfl oc0) (leb rfl) (spl_rs (R := R9) hx_4 (⟨x11.kind, x11.next, x11.b, a2.top, x11.x, x11.got, x11.won⟩ : POp) rfl rfl) ?_
      refine TL.norm (L' := [bx b1 74 [v3, .int .i64 a2.top, .int .i64 a2.bottom, .bool a2.busy], F4, rgF (R9.set_rs b10 (⟨x11.kind, x11.next, x11.b, a2.top, x11.x, x11.got, x11.won⟩ : POp))]) rfl ?_
      refine TL.nil ?_
      refine TC.go hK_12 ?_
      refine TC.seq fun K_13 hK_14 => ?_
      refine TC.quiet mix (by kernel_rfl) ?_
      refine QL.v (ltb rfl) (rv_mv (v := ptrV a7) rfl) ?_
      refine QL.v (ltb rfl) (rv_nilCheck (a := ⟨b10, 0, none⟩) (ptrE hb_3)) ?_
      refine QL.v (ltb rfl) (rv_fa (b := b10) (o := 0) fa_127_2 rfl) ?_
      refine QL.v (ltb rfl) (rv_ld (v := .int .i64 x11.b) (o := 2) (o' := 0) (j := 2) sc_3 rfl (Src.at_ 2 rfl) (in_rs (R := (R9.set_rs b10 (⟨x11.kind, x11.next, x11.b, a2.top, x11.x, x11.got, x11.won⟩ : POp))) (cs := [.int .i64 x11.kind, .int .i64 x11.next, .int .i64 x11.b, .int .i64 a2.top, .int .i64 x11.x, .int .i64 x11.got, .bool x11.won]) (look_setL _ _ _ _ hx_4) rfl) rfl rfl) ?_
      refine QL.v (ltb rfl) (rv_mv (v := ptrV a7) rfl) ?_
      refine QL.v (ltb rfl) (rv_nilCheck (a := ⟨b10, 0, none⟩) (ptrE hb_3)) ?_
      refine QL.v (ltb rfl) (rv_fa (b := b10) (o := 0) fa_127_3 rfl) ?_
      refine QL.v (ltb rfl) (rv_ld (v := .int .i64 a2.top) (o := 3) (o' := 0) (j := 3) sc_3 rfl (Src.at_ 2 rfl) (in_rs (R := (R9.set_rs b10 (⟨x11.kind, x11.next, x11.b, a2.top, x11.x, x11.got, x11.won⟩ : POp))) (cs := [.int .i64 x11.kind, .int .i64 x11.next, .int .i64 x11.b, .int .i64 a2.top, .int .i64 x11.x, .int .i64 x11.got, .bool x11.won]) (look_setL _ _ _ _ hx_4) rfl) rfl rfl) ?_
      refine QL.v (ltb rfl) (rv_sub (k := .i64) (m := x11.b) (n := a2.top) rfl rfl) ?_
      refine QL.v (ltb rfl) (rv_geq (k := .i64) (m := (w64 (x11.b - a2.top))) (n := 64) rfl rfl) ?_
      refine QL.nil ?_
      refine TC.go hK_14 ?_
      by_cases hc_15 : (w64 (x11.b - a2.top)) ≥ 64
      · rw [if_pos hc_15] at hp
        refine TC.condT (bT hc_15) ?_
        refine TC.region ?_
        refine TL.v (ltb rfl) (rv_mv (v := ptrV a7) rfl) ?_
        refine TL.v (ltb rfl) (rv_nilCheck (a := ⟨b10, 0, none⟩) (ptrE hb_3)) ?_
        refine TL.v (ltb rfl) (rv_fa (b := b10) (o := 0) fa_127_5 rfl) ?_
        refine TL.stR (F := rgF (R9.set_rs b10 (⟨x11.kind, x11.next, x11.b, a2.top, x11.x, x11.got, x11.won⟩ : POp))) (F' := rgF ((R9.set_rs b10 (⟨x11.kind, x11.next, x11.b, a2.top, x11.x, x11.got, x11.won⟩ : POp)).set_rs b10 (⟨x11.kind, x11.next, x11.b, a2.top, x11.x, 3, x11.won⟩ : POp))) (ds := [.int .i64 3]) (o := 5) (cs := [.int .i64 x11.kind, .int .i64 x11.next, .int .i64 x11.b, .int .i64 a2.top, .int .i64 x11.x, .int .i64 x11.got, .bool x11.won]) (u := .int .i64 3) 2 rfl ms_3 rfl rfl rfl (oc rfl oc0) (leb rfl) (spl_rs (R := (R9.set_rs b10 (⟨x11.kind, x11.next, x11.b, a2.top, x11.x, x11.got, x11.won⟩ : POp))) (look_setL _ _ _ _ hx_4) (⟨x11.kind, x11.next, x11.b, a2.top, x11.x, 3, x11.won⟩ : POp) rfl rfl) ?_
        refine TL.norm (L' := [bx b1 74 [v3, .int .i64 a2.top, .int .i64 a2.bottom, .bool a2.busy], F4, rgF ((R9.set_rs b10 (⟨x11.kind, x11.next, x11.b, a2.top, x11.x, x11.got, x11.won⟩ : POp)).set_rs b10 (⟨x11.kind, x11.next, x11.b, a2.top, x11.x, 3, x11.won⟩ : POp))]) rfl ?_
        refine TL.nil ?_
        obtain rfl := Option.some.inj hp
        exact fun w hw => retOk ⟨v3, F4, rfl, rfl, h5⟩ (hw.pick [0, 0, 0])
      · rw [if_neg hc_15] at hp
        refine TC.condF (bF hc_15) ?_
        refine TC.skip ?_
        obtain rfl := Option.some.inj hp
        exact fun w hw => retOk ⟨v3, F4, rfl, rfl, h5⟩ (hw.pick [0, 0, 0])
    · rw [if_neg hc_10] at hp
      refine TC.condF (bF hc_10) ?_
      refine TC.seq fun K_16 hK_17 => ?_
      refine TC.region ?_
      refine TL.v (ltb rfl) (rv_eql (k := .i64) (m := x11.next) (n := 3) rfl rfl) ?_
      refine TL.v (ltb rfl) (rv_as (v := .bool (decide (x11.next = 3))) rfl) ?_
      refine TL.nil ?_
      refine TC.go hK_17 ?_
      by_cases hc_18 : x11.next = 3
      · rw [if_pos hc_18] at hp
        refine TC.condT (bT hc_18) ?_
        refine TC.held ([bx b1 74 [v3, .int .i64 a2.top, .int .i64 a2.bottom, .bool a2.busy], rgF R9].flatten ++ H) mix (srcG 0 rfl (srcG 2 rfl srcG0)) ?_
        refine HL.v 0 rfl trivial (by kernel_rfl) (by kernel_rfl) (by kernel_rfl) (ltb rfl) (rv_mv (v := .pointer (some ⟨b1, 0, none⟩)) rfl) ?_
        refine HL.v 1 rfl trivial (by kernel_rfl) (by kernel_rfl) (by kernel_rfl) (ltb rfl) (rv_nilCheck (a := ⟨b1, 0, none⟩) rfl) ?_
        refine HL.v 2 rfl trivial (by kernel_rfl) (by kernel_rfl) (by kernel_rfl) (ltb rfl) (rv_fa (b := b1) (o := 0) fa_74_0 rfl) ?_
        refine HL.v 3 rfl trivial (by kernel_rfl) (by kernel_rfl) (by kernel_rfl) (ltb rfl) (rv_ld (v := v3) (o := 0) (o' := 0) (j := 0) sc_22 rfl (srcInG 0 rfl) (bx_cells b1 74 _) rfl rfl) ?_
        refine HL.v 4 rfl trivial (by kernel_rfl) (by kernel_rfl) (by kernel_rfl) (ltb rfl) (rv_mv (v := ptrV a7) rfl) ?_
        refine HL.v 5 rfl trivial (by kernel_rfl) (by kernel_rfl) (by kernel_rfl) (ltb rfl) (rv_nilCheck (a := ⟨b10, 0, none⟩) (ptrE hb_3)) ?_
        refine HL.v 6 rfl trivial (by kernel_rfl) (by kernel_rfl) (by kernel_rfl) (ltb rfl) (rv_fa (b := b10) (o := 0) fa_127_2 rfl) ?_
        refine HL.v 7 rfl trivial (by kernel_rfl) (by kernel_rfl) (by kernel_rfl) (ltb rfl) (rv_ld (v := .int .i64 x11.b) (o := 2) (o' := 0) (j := 2) sc_3 rfl (srcInG 1 rfl) (in_rs (R := R9) (cs := [.int .i64 x11.kind, .int .i64 x11.next, .int .i64 x11.b, .int .i64 x11.t, .int .i64 x11.x, .int .i64 x11.got, .bool x11.won]) hx_4 rfl) rfl rfl) ?_
        refine HL.v 9 rfl trivial (by kernel_rfl) (by kernel_rfl) (by kernel_rfl) (ltb rfl) (rv_mv (v := ptrV a7) rfl) ?_
        refine HL.v 10 rfl trivial (by kernel_rfl) (by kernel_rfl) (by kernel_rfl) (ltb rfl) (rv_nilCheck (a := ⟨b10, 0, none⟩) (ptrE hb_3)) ?_
        refine HL.v 11 rfl trivial (by kernel_rfl) (by kernel_rfl) (by kernel_rfl) (ltb rfl) (rv_fa (b := b10) (o := 0) fa_127_4 rfl) ?_
        refine HL.v 12 rfl trivial (by kernel_rfl) (by kernel_rfl) (by kernel_rfl) (ltb rfl) (rv_ld (v := .int .i64 x11.x) (o := 4) (o' := 0) (j := 4) sc_3 rfl (srcInG 1 rfl) (in_rs (R := R9) (cs := [.int .i64 x11.kind, .int .i64 x11.next, .int .i64 x11.b, .int .i64 x11.t, .int .i64 x11.x, .int .i64 x11.got, .bool x11.won]) hx_4 rfl) rfl rfl) ?_
        refine HL.one 8 rfl (by kernel_rfl) fun K_19 hK_20 => ?_
        obtain ⟨x3213, hy_21, hp⟩ := bind_some' hp
        refine TL.callC (vs := [.int .i64 x11.b]) (R := fettleref11_cell.R x3213) [] [bx b1 74 [v3, .int .i64 a2.top, .int .i64 a2.bottom, .bool a2.busy], F4, rgF R9] rfl cb_90 (ltb rfl) (mc rfl m0) (fun w hw => fettleref11_cell_ok (a1 := x11.b) hy_21 hw) fun v A' hR_22 => ?_
        obtain ⟨rfl, rfl⟩ := hR_22
        refine TL.norm (L' := [bx b1 74 [v3, .int .i64 a2.top, .int .i64 a2.bottom, .bool a2.busy], F4, rgF R9]) rfl ?_
        refine TL.nil (hK_20 _ _ (srcG 0 rfl (srcG 2 rfl srcG0)) ?_)
        obtain ⟨x5213, hx_23, hp⟩ := bind_some' hp
        refine HL.w2 13 rfl trivial (by kernel_rfl) (by kernel_rfl) (by kernel_rfl) (ltb rfl) (rv_ixO 22 (.tmp 44) (.tmp 49) (v := v3) (i := x3213) Try.underlying22 inf_3 rfl rfl rfl h5 (idx_some hx_23).1 (idx_some hx_23).2.1) fun b5214 o5215 h5216 => ?_
        refine HL.one 14 rfl (by kernel_rfl) fun K_24 hK_25 => ?_
        refine TL.pk' [1, 0, 0] (L' := [F4, bx b1 74 [v3, .int .i64 a2.top, .int .i64 a2.bottom, .bool a2.busy], rgF R9]) rfl ?_
        refine TL.stE0 (ds := [.int .i64 x11.x]) (u := .int .i64 x11.x) (a := x11.x) h5 h5216 ms_3 rfl rfl rfl ⟨rfl, rfl⟩ fun F5613 h5614 => ?_
        refine TL.nil (hK_25 _ _ (srcG 1 rfl (srcG 2 rfl srcG0)) ?_)
        refine HL.done (by kernel_rfl) ?_
        obtain rfl := Option.some.inj hp
        exact fun w hw => retOk ⟨v3, F5613, rfl, rfl, h5614⟩ (hw.pick [1, 0, 0])
      · rw [if_neg hc_18] at hp
        refine TC.condF (bF hc_18) ?_
        refine TC.seq fun K_26 hK_27 => ?_
        refine TC.region ?_
        refine TL.v (ltb rfl) (rv_eql (k := .i64) (m := x11.next) (n := 4) rfl rfl) ?_
        refine TL.v (ltb rfl) (rv_as (v := .bool (decide (x11.next = 4))) rfl) ?_
        refine TL.nil ?_
        refine TC.go hK_27 ?_
        by_cases hc_28 : x11.next = 4
        · rw [if_pos hc_28] at hp
          refine TC.condT (bT hc_28) ?_
          refine TC.seq fun K_29 hK_30 => ?_
          refine TC.region ?_
          refine TL.v (ltb rfl) (rv_mv (v := .pointer (some ⟨b1, 0, none⟩)) rfl) ?_
          refine TL.v (ltb rfl) (rv_mv (v := ptrV a7) rfl) ?_
          refine TL.v (ltb rfl) (rv_nilCheck (a := ⟨b10, 0, none⟩) (ptrE hb_3)) ?_
          refine TL.v (ltb rfl) (rv_fa (b := b10) (o := 0) fa_127_2 rfl) ?_
          refine TL.v (ltb rfl) (rv_ld (v := .int .i64 x11.b) (o := 2) (o' := 0) (j := 2) sc_3 rfl (Src.at_ 2 rfl) (in_rs (R := R9) (cs := [.int .i64 x11.kind, .int .i64 x11.next, .int .i64 x11.b, .int .i64 x11.t, .int .i64 x11.x, .int .i64 x11.got, .bool x11.won]) hx_4 rfl) rfl rfl) ?_
          refine TL.v (ltb rfl) (rv_add (k := .i64) (m := x11.b) (n := 1) rfl rfl) ?_
          refine TL.v (ltb rfl) (rv_nilCheck (a := ⟨b1, 0, none⟩) rfl) ?_
          refine TL.v (ltb rfl) (rv_fa (b := b1) (o := 0) fa_74_2 rfl) ?_
          refine TL.stB (ds := [.int .i64 (w64 (x11.b + 1))]) (o := 2) (cs := [v3, .int .i64 a2.top, .int .i64 a2.bottom, .bool a2.busy]) (b := b1) (u := .int .i64 (w64 (x11.b + 1))) 0 rfl ms_3 rfl rfl rfl (oc rfl oc0) (leb rfl) ?_
          refine TL.norm (L' := [bx b1 74 [v3, .int .i64 a2.top, .int .i64 (w64 (x11.b + 1)), .bool a2.busy], F4, rgF R9]) rfl ?_
          refine TL.nil ?_
          refine TC.go hK_30 ?_
          refine TC.region ?_
          refine TL.v (ltb rfl) (rv_mv (v := ptrV a7) rfl) ?_
          refine TL.v (ltb rfl) (rv_nilCheck (a := ⟨b10, 0, none⟩) (ptrE hb_3)) ?_
          refine TL.v (ltb rfl) (rv_fa (b := b10) (o := 0) fa_127_5 rfl) ?_
          refine TL.stR (F := rgF R9) (F' := rgF (R9.set_rs b10 (⟨x11.kind, x11.next, x11.b, x11.t, x11.x, 1, x11.won⟩ : POp))) (ds := [.int .i64 1]) (o := 5) (cs := [.int .i64 x11.kind, .int .i64 x11.next, .int .i64 x11.b, .int .i64 x11.t, .int .i64 x11.x, .int .i64 x11.got, .bool x11.won]) (u := .int .i64 1) 2 rfl ms_3 rfl rfl rfl (oc rfl oc0) (leb rfl) (spl_rs (R := R9) hx_4 (⟨x11.kind, x11.next, x11.b, x11.t, x11.x, 1, x11.won⟩ : POp) rfl rfl) ?_
          refine TL.norm (L' := [bx b1 74 [v3, .int .i64 a2.top, .int .i64 (w64 (x11.b + 1)), .bool a2.busy], F4, rgF (R9.set_rs b10 (⟨x11.kind, x11.next, x11.b, x11.t, x11.x, 1, x11.won⟩ : POp))]) rfl ?_
          refine TL.nil ?_
          obtain rfl := Option.some.inj hp
          exact fun w hw => retOk ⟨v3, F4, rfl, rfl, h5⟩ (hw.pick [0, 0, 0])
        · rw [if_neg hc_28] at hp
          refine TC.condF (bF hc_28) ?_
          refine TC.skip ?_
          obtain rfl := Option.some.inj hp
          exact fun w hw => retOk ⟨v3, F4, rfl, rfl, h5⟩ (hw.pick [0, 0, 0])

/-! ### (*fettle/fettleref11.Deque).pop -/
abbrev fettleref11_Deque_pop.R (b1 : Nat) (a2 : PDeque) (v3 : Value) (r : Int × Int × Rgn) (v : Value) (A : List FP) : Prop := .tuple #[] = v ∧ A = [bx b1 74 [v3, .int .i64 r.1, .int .i64 r.2.1, .bool a2.busy], rgF r.2.2]
def fettleref11_Deque_pop (a2 : PDeque) (a6 : Option Nat) (R8 : Rgn) : Option (Int × Int × Rgn) :=
  (a6).bind fun b9 =>
  (look (R8).rs b9).bind fun x10 =>
  if x10.next = 1 then
    some (a2.top, (w64 (a2.bottom - 1)), (R8.set_rs b9 (⟨x10.kind, x10.next, a2.bottom, x10.t, x10.x, x10.got, x10.won⟩ : POp)))
  else
    if x10.next = 2 then
      some (a2.top, a2.bottom, (R8.set_rs b9 (⟨x10.kind, x10.next, x10.b, a2.top, x10.x, x10.got, x10.won⟩ : POp)))
    else
      if x10.next = 3 then
        if x10.t > (w64 (x10.b - 1)) then
          some (a2.top, x10.b, (R8.set_rs b9 (⟨x10.kind, x10.next, x10.b, x10.t, x10.x, 2, x10.won⟩ : POp)))
        else
          (fettleref11_cell (w64 (x10.b - 1))).bind fun x4012 =>
          (idx a2.cells x4012).bind fun x4412 =>
          if x10.t < (w64 (x10.b - 1)) then
            some (a2.top, a2.bottom, ((R8.set_rs b9 (⟨x10.kind, x10.next, x10.b, x10.t, x4412, x10.got, x10.won⟩ : POp)).set_rs b9 (⟨x10.kind, x10.next, x10.b, x10.t, x4412, 1, x10.won⟩ : POp)))
          else
            some (a2.top, a2.bottom, (R8.set_rs b9 (⟨x10.kind, x10.next, x10.b, x10.t, x4412, x10.got, x10.won⟩ : POp)))
      else
        if x10.next = 4 then
          if a2.top = x10.t then
            some ((w64 (x10.t + 1)), a2.bottom, (R8.set_rs b9 (⟨x10.kind, x10.next, x10.b, x10.t, x10.x, x10.got, (decide (a2.top = x10.t))⟩ : POp)))
          else
            some (a2.top, a2.bottom, (R8.set_rs b9 (⟨x10.kind, x10.next, x10.b, x10.t, x10.x, x10.got, (decide (a2.top = x10.t))⟩ : POp)))
        else
          if x10.next = 5 then
            if x10.won = true then
              some (a2.top, x10.b, ((R8.set_rs b9 (⟨x10.kind, x10.next, x10.b, x10.t, x10.x, 2, x10.won⟩ : POp)).set_rs b9 (⟨x10.kind, x10.next, x10.b, x10.t, x10.x, 1, x10.won⟩ : POp)))
            else
              some (a2.top, x10.b, (R8.set_rs b9 (⟨x10.kind, x10.next, x10.b, x10.t, x10.x, 2, x10.won⟩ : POp)))
          else
            some (a2.top, a2.bottom, R8)
set_option maxHeartbeats 4000000 in
theorem fettleref11_Deque_pop_ok {E : World} {H : FP} {w : World} {a2 : PDeque} {a6 : Option Nat} {R8 : Rgn} {b1 : Nat} {v3 : Value} {r : Int × Int × Rgn} (h4 : SlI (kInt .i64) H a2.cells v3) (hp : fettleref11_Deque_pop a2 a6 R8 = some r) (hst : St E H [bx b1 74 [v3, .int .i64 a2.top, .int .i64 a2.bottom, .bool a2.busy], rgF R8] w) :
    Fn Try.prog 69 #[.pointer (some ⟨b1, 0, none⟩), ptrV a6] w fun v w' => ∃ A, fettleref11_Deque_pop.R b1 a2 v3 r v A ∧ St E H A w' := by
  refine Fn.body (fn := Try.f69) (args := [.pointer (some ⟨b1, 0, none⟩), ptrV a6]) E H [bx b1 74 [v3, .int .i64 a2.top, .int .i64 a2.bottom, .bool a2.busy], rgF R8] [] 129 Try.func69 rfl rfl rfl rfl (leb rfl) hst ?_
  unfold fettleref11_Deque_pop at hp
  refine TC.seq fun K_1 hK_2 => ?_
  refine TC.region ?_
  refine TL.v (ltb rfl) (rv_mv (v := ptrV a6) rfl) ?_
  obtain ⟨b9, hb_3, hp⟩ := bind_some' hp
  refine TL.v (ltb rfl) (rv_nilCheck (a := ⟨b9, 0, none⟩) (ptrE hb_3)) ?_
  refine TL.v (ltb rfl) (rv_fa (b := b9) (o := 0) fa_127_1 rfl) ?_
  obtain ⟨x10, hx_4, hp⟩ := bind_some' hp
  refine TL.v (ltb rfl) (rv_ld (v := .int .i64 x10.next) (o := 1) (o' := 0) (j := 1) sc_3 rfl (Src.at_ 1 rfl) (in_rs (R := R8) (cs := [.int .i64 x10.kind, .int .i64 x10.next, .int .i64 x10.b, .int .i64 x10.t, .int .i64 x10.x, .int .i64 x10.got, .bool x10.won]) hx_4 rfl) rfl rfl) ?_
  refine TL.nil ?_
  refine TC.go hK_2 ?_
  refine TC.block ?_
  refine TC.seq fun K_5 hK_6 => ?_
  refine TC.region ?_
  refine TL.v (ltb rfl) (rv_eql (k := .i64) (m := x10.next) (n := 1) rfl rfl) ?_
  refine TL.v (ltb rfl) (rv_as (v := .bool (decide (x10.next = 1))) rfl) ?_
  refine TL.nil ?_
  refine TC.go hK_6 ?_
  by_cases hc_7 : x10.next = 1
  · rw [if_pos hc_7] at hp
    refine TC.condT (bT hc_7) ?_
    refine TC.seq fun K_8 hK_9 => ?_
    refine TC.region ?_
    refine TL.v (ltb rfl) (rv_mv (v := ptrV a6) rfl) ?_
    refine TL.v (ltb rfl) (rv_mv (v := .pointer (some ⟨b1, 0, none⟩)) rfl) ?_
    refine TL.v (ltb rfl) (rv_nilCheck (a := ⟨b1, 0, none⟩) rfl) ?_
    refine TL.v (ltb rfl) (rv_fa (b := b1) (o := 0) fa_74_2 rfl) ?_
    refine TL.v (ltb rfl) (rv_ld (v := .int .i64 a2.bottom) (o := 2) (o' := 0) (j := 2) sc_3 rfl (Src.at_ 0 rfl) (bx_cells b1 74 _) rfl rfl) ?_
    refine TL.v (ltb rfl) (rv_nilCheck (a := ⟨b9, 0, none⟩) (ptrE hb_3)) ?_
    refine TL.v (ltb rfl) (rv_fa (b := b9) (o := 0) fa_127_2 rfl) ?_
    refine TL.stR (F := rgF R8) (F' := rgF (R8.set_rs b9 (⟨x10.kind, x10.next, a2.bottom, x10.t, x10.x, x10.got, x10.won⟩ : POp))) (ds := [.int .i64 a2.bottom]) (o := 2) (cs := [.int .i64 x10.kind, .int .i64 x10.next, .int .i64 x10.b, .int .i64 x10.t, .int .i64 x10.x, .int .i64 x10.got, .bool x10.won]) (u := .int .i64 a2.bottom) 1 rfl ms_3 rfl rfl rfl (oc rfl oc0) (leb rfl) (spl_rs (R := R8) hx_4 (⟨x10.kind, x10.next, a2.bottom, x10.t, x10.x, x10.got, x10.won⟩ : POp) rfl rfl) ?_
    refine TL.norm (L' := [bx b1 74 [v3, .int .i64 a2.top, .int .i64 a2.bottom, .bool a2.busy], rgF (R8.set_rs b9 (⟨x10.kind, x10.next, a2.bottom, x10.t, x10.x, x10.got, x10.won⟩ : POp))]) rfl ?_
    refine TL.nil ?_
    refine TC.go hK_9 ?_
    refine TC.region ?_
    refine TL.v (ltb rfl) (rv_mv (v := .pointer (some ⟨b1, 0, none⟩)) rfl) ?_
    refine TL.v (ltb rfl) (rv_mv (v := ptrV a6) rfl) ?_
    refine TL.v (ltb rfl) (rv_nilCheck (a := ⟨b9, 0, none⟩) (ptrE hb_3)) ?_
    refine TL.v (ltb rfl) (rv_fa (b := b9) (o := 0) fa_127_2 rfl) ?_
    refine TL.v (ltb rfl) (rv_ld (v := .int .i64 a2.bottom) (o := 2) (o' := 0) (j := 2) sc_3 rfl (Src.at_ 1 rfl) (in_rs (R := (R8.set_rs b9 (⟨x10.kind, x10.next, a2.bottom, x10.t, x10.x, x10.got, x10.won⟩ : POp))) (cs := [.int .i64 x10.kind, .int .i64 x10.next, .int .i64 a2.bottom, .int .i64 x10.t, .int .i64 x10.x, .int .i64 x10.got, .bool x10.won]) (look_setL _ _ _ _ hx_4) rfl) rfl rfl) ?_
    refine TL.v (ltb rfl) (rv_sub (k := .i64) (m := a2.bottom) (n := 1) rfl rfl) ?_
    refine TL.v (ltb rfl) (rv_nilCheck (a := ⟨b1, 0, none⟩) rfl) ?_
    refine TL.v (ltb rfl) (rv_fa (b := b1) (o := 0) fa_74_2 rfl) ?_
    refine TL.stB (ds := [.int .i64 (w64 (a2.bottom - 1))]) (o := 2) (cs := [v3, .int .i64 a2.top, .int .i64 a2.bottom, .bool a2.busy]) (b := b1) (u := .int .i64 (w64 (a2.bottom - 1))) 0 rfl ms_3 rfl rfl rfl (oc rfl oc0) (leb rfl) ?_
    refine TL.norm (L' := [bx b1 74 [v3, .int .i64 a2.top, .int .i64 (w64 (a2.bottom - 1)), .bool a2.busy], rgF (R8.set_rs b9 (⟨x10.kind, x10.next, a2.bottom, x10.t, x10.x, x10.got, x10.won⟩ : POp))]) rfl ?_
    refine TL.nil ?_
    obtain rfl := Option.some.inj hp
    exact fun w hw => retOk ⟨rfl, rfl⟩ (hw.pick [0, 0])
  · rw [if_neg hc_7] at hp
    refine TC.condF (bF hc_7) ?_
    refine TC.seq fun K_10 hK_11 => ?_
    refine TC.region ?_
    refine TL.v (ltb rfl) (rv_eql (k := .i64) (m := x10.next) (n := 2) rfl rfl) ?_
    refine TL.v (ltb rfl) (rv_as (v := .bool (decide (x10.next = 2))) rfl) ?_
    refine TL.nil ?_
    refine TC.go hK_11 ?_
    by_cases hc_12 : x10.next = 2
    · rw [if_pos hc_12] at hp
      refine TC.condT (bT hc_12) ?_
      refine TC.region ?_
      refine TL.v (ltb rfl) (rv_mv (v := ptrV a6) rfl) ?_
      refine TL.v (ltb rfl) (rv_mv (v := .pointer (some ⟨b1, 0, none⟩)) rfl) ?_
      refine TL.v (ltb rfl) (rv_nilCheck (a := ⟨b1, 0, none⟩) rfl) ?_
      refine TL.v (ltb rfl) (rv_fa (b := b1) (o := 0) fa_74_1 rfl) ?_
      refine TL.v (ltb rfl) (rv_ld (v := .int .i64 a2.top) (o := 1) (o' := 0) (j := 1) sc_3 rfl (Src.at_ 0 rfl) (bx_cells b1 74 _) rfl rfl) ?_
      refine TL.v (ltb rfl) (rv_nilCheck (a := ⟨b9, 0, none⟩) (ptrE hb_3)) ?_
      refine TL.v (ltb rfl) (rv_fa (b := b9) (o := 0) fa_127_3 rfl) ?_
      refine TL.stR (F := rgF R8) (F' := rgF (R8.set_rs b9 (⟨x10.kind, x10.next, x10.b, a2.top, x10.x, x10.got, x10.won⟩ : POp))) (ds := [.int .i64 a2.top]) (o := 3) (cs := [.int .i64 x10.kind, .int .i64 x10.next, .int .i64 x10.b, .int .i64 x10.t, .int .i64 x10.x, .int .i64 x10.got, .bool x10.won]) (u := .int .i64 a2.top) 1 rfl ms_3 rfl rfl rfl (oc rfl oc0) (leb rfl) (spl_rs (R := R8) hx_4 (⟨x10.kind, x10.next, x10.b, a2.top, x10.x, x10.got, x10.won⟩ : POp) rfl rfl) ?_
      refine TL.norm (L' := [bx b1 74 [v3, .int .i64 a2.top, .int .i64 a2.bottom, .bool a2.busy], rgF (R8.set_rs b9 (⟨x10.kind, x10.next, x10.b, a2.top, x10.x, x10.got, x10.won⟩ : POp))]) rfl ?_
      refine TL.nil ?_
      obtain rfl := Option.some.inj hp
      exact fun w hw => retOk ⟨rfl, rfl⟩ (hw.pick [0, 0])
    · rw [if_neg hc_12] at hp
      refine TC.condF (bF hc_12) ?_
      refine TC.seq fun K_13 hK_14 => ?_
      refine TC.region ?_
      refine TL.v (ltb rfl) (rv_eql (k := .i64) (m := x10.next) (n := 3) rfl rfl) ?_
      refine TL.v (ltb rfl) (rv_as (v := .bool (decide (x10.next = 3))) rfl) ?_
      refine TL.nil ?_
      refine TC.go hK_14 ?_
      by_cases hc_15 : x10.next = 3
      · rw [if_pos hc_15] at hp
        refine TC.condT (bT hc_15) ?_
        refine TC.seq fun K_16 hK_17 => ?_
        refine TC.seq fun K_18 hK_19 => ?_
        refine TC.quiet mix (by kernel_rfl) ?_
        refine QL.v (ltb rfl) (rv_mv (v := ptrV a6) rfl) ?_
        refine QL.v (ltb rfl) (rv_nilCheck (a := ⟨b9, 0, none⟩) (ptrE hb_3)) ?_
        refine QL.v (ltb rfl) (rv_fa (b := b9) (o := 0) fa_127_3 rfl) ?_
        refine QL.v (ltb rfl) (rv_ld (v := .int .i64 x10.t) (o := 3) (o' := 0) (j := 3) sc_3 rfl (Src.at_ 1 rfl) (in_rs (R := R8) (cs := [.int .i64 x10.kind, .int .i64 x10.next, .int .i64 x10.b, .int .i64 x10.t, .int .i64 x10.x, .int .i64 x10.got, .bool x10.won]) hx_4 rfl) rfl rfl) ?_
        refine QL.v (ltb rfl) (rv_mv (v := ptrV a6) rfl) ?_
        refine QL.v (ltb rfl) (rv_nilCheck (a := ⟨b9, 0, none⟩) (ptrE hb_3)) ?_
        refine QL.v (ltb rfl) (rv_fa (b := b9) (o := 0) fa_127_2 rfl) ?_
        refine QL.v (ltb rfl) (rv_ld (v := .int .i64 x10.b) (o := 2) (o' := 0) (j := 2) sc_3 rfl (Src.at_ 1 rfl) (in_rs (R := R8) (cs := [.int .i64 x10.kind, .int .i64 x10.next, .int .i64 x10.b, .int .i64 x10.t, .int .i64 x10.x, .int .i64 x10.got, .bool x10.won]) hx_4 rfl) rfl rfl) ?_
        refine QL.v (ltb rfl) (rv_sub (k := .i64) (m := x10.b) (n := 1) rfl rfl) ?_
        refine QL.v (ltb rfl) (rv_gtr (k := .i64) (m := x10.t) (n := (w64 (x10.b - 1))) rfl rfl) ?_
        refine QL.nil ?_
        refine TC.go hK_19 ?_
        by_cases hc_20 : x10.t > (w64 (x10.b - 1))
        · rw [if_pos hc_20] at hp
          refine TC.condT (bT hc_20) ?_
          refine TC.seq fun K_21 hK_22 => ?_
          refine TC.region ?_
          refine TL.v (ltb rfl) (rv_mv (v := .pointer (some ⟨b1, 0, none⟩)) rfl) ?_
          refine TL.v (ltb rfl) (rv_mv (v := ptrV a6) rfl) ?_
          refine TL.v (ltb rfl) (rv_nilCheck (a := ⟨b9, 0, none⟩) (ptrE hb_3)) ?_
          refine TL.v (ltb rfl) (rv_fa (b := b9) (o := 0) fa_127_2 rfl) ?_
          refine TL.v (ltb rfl) (rv_ld (v := .int .i64 x10.b) (o := 2) (o' := 0) (j := 2) sc_3 rfl (Src.at_ 1 rfl) (in_rs (R := R8) (cs := [.int .i64 x10.kind, .int .i64 x10.next, .int .i64 x10.b, .int .i64 x10.t, .int .i64 x10.x, .int .i64 x10.got, .bool x10.won]) hx_4 rfl) rfl rfl) ?_
          refine TL.v (ltb rfl) (rv_nilCheck (a := ⟨b1, 0, none⟩) rfl) ?_
          refine TL.v (ltb rfl) (rv_fa (b := b1) (o := 0) fa_74_2 rfl) ?_
          refine TL.stB (ds := [.int .i64 x10.b]) (o := 2) (cs := [v3, .int .i64 a2.top, .int .i64 a2.bottom, .bool a2.busy]) (b := b1) (u := .int .i64 x10.b) 0 rfl ms_3 rfl rfl rfl (oc rfl oc0) (leb rfl) ?_
          refine TL.norm (L' := [bx b1 74 [v3, .int .i64 a2.top, .int .i64 x10.b, .bool a2.busy], rgF R8]) rfl ?_
          refine TL.nil ?_
          refine TC.go hK_22 ?_
          refine TC.seq fun K_23 hK_24 => ?_
          refine TC.region ?_
          refine TL.v (ltb rfl) (rv_mv (v := ptrV a6) rfl) ?_
          refine TL.v (ltb rfl) (rv_nilCheck (a := ⟨b9, 0, none⟩) (ptrE hb_3)) ?_
          refine TL.v (ltb rfl) (rv_fa (b := b9) (o := 0) fa_127_5 rfl) ?_
          refine TL.stR (F := rgF R8) (F' := rgF (R8.set_rs b9 (⟨x10.kind, x10.next, x10.b, x10.t, x10.x, 2, x10.won⟩ : POp))) (ds := [.int .i64 2]) (o := 5) (cs := [.int .i64 x10.kind, .int .i64 x10.next, .int .i64 x10.b, .int .i64 x10.t, .int .i64 x10.x, .int .i64 x10.got, .bool x10.won]) (u := .int .i64 2) 1 rfl ms_3 rfl rfl rfl (oc rfl oc0) (leb rfl) (spl_rs (R := R8) hx_4 (⟨x10.kind, x10.next, x10.b, x10.t, x10.x, 2, x10.won⟩ : POp) rfl rfl) ?_
          refine TL.norm (L' := [bx b1 74 [v3, .int .i64 a2.top, .int .i64 x10.b, .bool a2.busy], rgF (R8.set_rs b9 (⟨x10.kind, x10.next, x10.b, x10.t, x10.x, 2, x10.won⟩ : POp))]) rfl ?_
          refine TL.nil ?_
          refine TC.go hK_24 ?_
          refine TC.ret ?_
          obtain rfl := Option.some.inj hp
          exact fun w hw => retOk ⟨rfl, rfl⟩ (hw.pick [0, 0])
        · rw [if_neg hc_20] at hp
          refine TC.condF (bF hc_20) ?_
          refine TC.skip ?_
          refine TC.go hK_17 ?_
          refine TC.seq fun K_25 hK_26 => ?_
          refine TC.held ([bx b1 74 [v3, .int .i64 a2.top, .int .i64 a2.bottom, .bool a2.busy]].flatten ++ H) mix (srcG 0 rfl srcG0) ?_
          refine HL.v 0 rfl trivial (by kernel_rfl) (by kernel_rfl) (by kernel_rfl) (ltb rfl) (rv_mv (v := ptrV a6) rfl) ?_
          refine HL.v 1 rfl trivial (by kernel_rfl) (by kernel_rfl) (by kernel_rfl) (ltb rfl) (rv_mv (v := .pointer (some ⟨b1, 0, none⟩)) rfl) ?_
          refine HL.v 2 rfl trivial (by kernel_rfl) (by kernel_rfl) (by kernel_rfl) (ltb rfl) (rv_nilCheck (a := ⟨b1, 0, none⟩) rfl) ?_
          refine HL.v 3 rfl trivial (by kernel_rfl) (by kernel_rfl) (by kernel_rfl) (ltb rfl) (rv_fa (b := b1) (o := 0) fa_74_0 rfl) ?_
          refine HL.v 4 rfl trivial (by kernel_rfl) (by kernel_rfl) (by kernel_rfl) (ltb rfl) (rv_ld (v := v3) (o := 0) (o' := 0) (j := 0) sc_22 rfl (srcInG 0 rfl) (bx_cells b1 74 _) rfl rfl) ?_
          refine HL.v 5 rfl trivial (by kernel_rfl) (by kernel_rfl) (by kernel_rfl) (ltb rfl) (rv_mv (v := ptrV a6) rfl) ?_
          refine HL.v 6 rfl trivial (by kernel_rfl) (by kernel_rfl) (by kernel_rfl) (ltb rfl) (rv_nilCheck (a := ⟨b9, 0, none⟩) (ptrE hb_3)) ?_
          refine HL.v 7 rfl trivial (by kernel_rfl) (by kernel_rfl) (by kernel_rfl) (ltb rfl) (rv_fa (b := b9) (o := 0) fa_127_2 rfl) ?_
          refine HL.one 8 rfl (by kernel_rfl) fun K_27 hK_28 => ?_
          refine TL.v (ltb rfl) (rv_ld (v := .int .i64 x10.b) (o := 2) (o' := 0) (j := 2) sc_3 rfl (Src.at_ 1 rfl) (in_rs (R := R8) (cs := [.int .i64 x10.kind, .int .i64 x10.next, .int .i64 x10.b, .int .i64 x10.t, .int .i64 x10.x, .int .i64 x10.got, .bool x10.won]) hx_4 rfl) rfl rfl) ?_
          refine TL.nil (hK_28 _ _ (srcG 0 rfl srcG0) ?_)
          refine HL.v 9 rfl trivial (by kernel_rfl) (by kernel_rfl) (by kernel_rfl) (ltb rfl) (rv_sub (k := .i64) (m := x10.b) (n := 1) rfl rfl) ?_
          refine HL.one 10 rfl (by kernel_rfl) fun K_29 hK_30 => ?_
          obtain ⟨x4012, hy_31, hp⟩ := bind_some' hp
          refine TL.callC (vs := [.int .i64 (w64 (x10.b - 1))]) (R := fettleref11_cell.R x4012) [] [bx b1 74 [v3, .int .i64 a2.top, .int .i64 a2.bottom, .bool a2.busy], rgF R8] rfl cb_90 (ltb rfl) (mc rfl m0) (fun w hw => fettleref11_cell_ok (a1 := (w64 (x10.b - 1))) hy_31 hw) fun v A' hR_32 => ?_
          obtain ⟨rfl, rfl⟩ := hR_32
          refine TL.norm (L' := [bx b1 74 [v3, .int .i64 a2.top, .int .i64 a2.bottom, .bool a2.busy], rgF R8]) rfl ?_
          refine TL.nil (hK_30 _ _ (srcG 0 rfl srcG0) ?_)
          obtain ⟨x4412, hx_33, hp⟩ := bind_some' hp
          refine HL.w3 11 rfl trivial (by kernel_rfl) (by kernel_rfl) (by kernel_rfl) (ltb rfl) (rv_ix 22 (.tmp 60) (.tmp 66) (v := v3) (i := x4012) Try.underlying22 inf_3 rfl rfl rfl h4 hx_33) fun b4413 o4414 c4415 h4416 h4417 => ?_
          obtain rfl := h4416
          refine HL.v 12 rfl trivial (by kernel_rfl) (by kernel_rfl) (by kernel_rfl) (ltb rfl) (rv_ld (v := .int .i64 x4412) (o := o4414) (o' := o4414) (j := 0) sc_3 rfl srcInH h4417 rfl rfl) ?_
          refine HL.v 13 rfl trivial (by kernel_rfl) (by kernel_rfl) (by kernel_rfl) (ltb rfl) (rv_nilCheck (a := ⟨b9, 0, none⟩) (ptrE hb_3)) ?_
          refine HL.v 14 rfl trivial (by kernel_rfl) (by kernel_rfl) (by kernel_rfl) (ltb rfl) (rv_fa (b := b9) (o := 0) fa_127_4 rfl) ?_
          refine HL.one 15 rfl (by kernel_rfl) fun K_34 hK_35 => ?_
          refine TL.stR (F := rgF R8) (F' := rgF (R8.set_rs b9 (⟨x10.kind, x10.next, x10.b, x10.t, x4412, x10.got, x10.won⟩ : POp))) (ds := [.int .i64 x4412]) (o := 4) (cs := [.int .i64 x10.kind, .int .i64 x10.next, .int .i64 x10.b, .int .i64 x10.t, .int .i64 x10.x, .int .i64 x10.got, .bool x10.won]) (u := .int .i64 x4412) 1 rfl ms_3 rfl rfl rfl (oc rfl oc0) (leb rfl) (spl_rs (R := R8) hx_4 (⟨x10.kind, x10.next, x10.b, x10.t, x4412, x10.got, x10.won⟩ : POp) rfl rfl) ?_
          refine TL.norm (L' := [bx b1 74 [v3, .int .i64 a2.top, .int .i64 a2.bottom, .bool a2.busy], rgF (R8.set_rs b9 (⟨x10.kind, x10.next, x10.b, x10.t, x4412, x10.got, x10.won⟩ : POp))]) rfl ?_
          refine TL.nil (hK_35 _ _ (srcG 0 rfl srcG0) ?_)
          refine HL.done (by kernel_rfl) ?_
          refine TC.go hK_26 ?_
          refine TC.seq fun K_36 hK_37 => ?_
          refine TC.quiet mix (by kernel_rfl) ?_
          refine QL.v (ltb rfl) (rv_mv (v := ptrV a6) rfl) ?_
          refine QL.v (ltb rfl) (rv_nilCheck (a := ⟨b9, 0, none⟩) (ptrE hb_3)) ?_
          refine QL.v (ltb rfl) (rv_fa (b := b9) (o := 0) fa_127_3 rfl) ?_
          refine QL.v (ltb rfl) (rv_ld (v := .int .i64 x10.t) (o := 3) (o' := 0) (j := 3) sc_3 rfl (Src.at_ 1 rfl) (in_rs (R := (R8.set_rs b9 (⟨x10.kind, x10.next, x10.b, x10.t, x4412, x10.got, x10.won⟩ : POp))) (cs := [.int .i64 x10.kind, .int .i64 x10.next, .int .i64 x10.b, .int .i64 x10.t, .int .i64 x4412, .int .i64 x10.got, .bool x10.won]) (look_setL _ _ _ _ hx_4) rfl) rfl rfl) ?_
          refine QL.v (ltb rfl) (rv_mv (v := ptrV a6) rfl) ?_
          refine QL.v (ltb rfl) (rv_nilCheck (a := ⟨b9, 0, none⟩) (ptrE hb_3)) ?_
          refine QL.v (ltb rfl) (rv_fa (b := b9) (o := 0) fa_127_2 rfl) ?_
          refine QL.v (ltb rfl) (rv_ld (v := .int .i64 x10.b) (o := 2) (o' := 0) (j := 2) sc_3 rfl (Src.at_ 1 rfl) (in_rs (R := (R8.set_rs b9 (⟨x10.kind, x10.next, x10.b, x10.t, x4412, x10.got, x10.won⟩ : POp))) (cs := [.int .i64 x10.kind, .int .i64 x10.next, .int .i64 x10.b, .int .i64 x10.t, .int .i64 x4412, .int .i64 x10.got, .bool x10.won]) (look_setL _ _ _ _ hx_4) rfl) rfl rfl) ?_
          refine QL.v (ltb rfl) (rv_sub (k := .i64) (m := x10.b) (n := 1) rfl rfl) ?_
          refine QL.v (ltb rfl) (rv_lss (k := .i64) (m := x10.t) (n := (w64 (x10.b - 1))) rfl rfl) ?_
          refine QL.nil ?_
          refine TC.go hK_37 ?_
          by_cases hc_38 : x10.t < (w64 (x10.b - 1))
          · rw [if_pos hc_38] at hp
            refine TC.condT (bT hc_38) ?_
            refine TC.region ?_
            refine TL.v (ltb rfl) (rv_mv (v := ptrV a6) rfl) ?_
            refine TL.v (ltb rfl) (rv_nilCheck (a := ⟨b9, 0, none⟩) (ptrE hb_3)) ?_
            refine TL.v (ltb rfl) (rv_fa (b := b9) (o := 0) fa_127_5 rfl) ?_
            refine TL.stR (F := rgF (R8.set_rs b9 (⟨x10.kind, x10.next, x10.b, x10.t, x4412, x10.got, x10.won⟩ : POp))) (F' := rgF ((R8.set_rs b9 (⟨x10.kind, x10.next, x10.b, x10.t, x4412, x10.got, x10.won⟩ : POp)).set_rs b9 (⟨x10.kind, x10.next, x10.b, x10.t, x4412, 1, x10.won⟩ : POp))) (ds := [.int .i64 1]) (o := 5) (cs := [.int .i64 x10.kind, .int .i64 x10.next, .int .i64 x10.b, .int .i64 x10.t, .int .i64 x4412, .int .i64 x10.got, .bool x10.won]) (u := .int .i64 1) 1 rfl ms_3 rfl rfl rfl (oc rfl oc0) (leb rfl) (spl_rs (R := (R8.set_rs b9 (⟨x10.kind, x10.next, x10.b, x10.t, x4412, x10.got, x10.won⟩ : POp))) (look_setL _ _ _ _ hx_4) (⟨x10.kind, x10.next, x10.b, x10.t, x4412, 1, x10.won⟩ : POp) rfl rfl) ?_
            refine TL.norm (L' := [bx b1 74 [v3, .int .i64 a2.top, .int .i64 a2.bottom, .bool a2.busy], rgF ((R8.set_rs b9 (⟨x10.kind, x10.next, x10.b, x10.t, x4412, x10.got, x10.won⟩ : POp)).set_rs b9 (⟨x10.kind, x10.next, x10.b, x10.t, x4412, 1, x10.won⟩ : POp))]) rfl ?_
            refine TL.nil ?_
            obtain rfl := Option.some.inj hp
            exact fun w hw => retOk ⟨rfl, rfl⟩ (hw.pick [0, 0])
          · rw [if_neg hc_38] at hp
            refine TC.condF (bF hc_38) ?_
            refine TC.skip ?_
            obtain rfl := Option.some.inj hp
            exact fun w hw => retOk ⟨rfl, rfl⟩ (hw.pick [0, 0])
      · rw [if_neg hc_15] at hp
        refine TC.condF (bF hc_15) ?_
        refine TC.seq fun K_39 hK_40 => ?_
        refine TC.region ?_
        refine TL.v (ltb rfl) (rv_eql (k := .i64) (m := x10.next) (n := 4) rfl rfl) ?_
        refine TL.v (ltb rfl) (rv_as (v := .bool (decide (x10.next = 4))) rfl) ?_
        refine TL.nil ?_
        refine TC.go hK_40 ?_
        by_cases hc_41 : x10.next = 4
        · rw [if_pos hc_41] at hp
          refine TC.condT (bT hc_41) ?_
          refine TC.seq fun K_42 hK_43 => ?_
          refine TC.held ([bx b1 74 [v3, .int .i64 a2.top, .int .i64 a2.bottom, .bool a2.busy]].flatten ++ H) mix (srcG 0 rfl srcG0) ?_
          refine HL.v 0 rfl trivial (by kernel_rfl) (by kernel_rfl) (by kernel_rfl) (ltb rfl) (rv_mv (v := ptrV a6) rfl) ?_
          refine HL.v 1 rfl trivial (by kernel_rfl) (by kernel_rfl) (by kernel_rfl) (ltb rfl) (rv_mv (v := .pointer (some ⟨b1, 0, none⟩)) rfl) ?_
          refine HL.v 2 rfl trivial (by kernel_rfl) (by kernel_rfl) (by kernel_rfl) (ltb rfl) (rv_nilCheck (a := ⟨b1, 0, none⟩) rfl) ?_
          refine HL.v 3 rfl trivial (by kernel_rfl) (by kernel_rfl) (by kernel_rfl) (ltb rfl) (rv_fa (b := b1) (o := 0) fa_74_1 rfl) ?_
          refine HL.v 4 rfl trivial (by kernel_rfl) (by kernel_rfl) (by kernel_rfl) (ltb rfl) (rv_ld (v := .int .i64 a2.top) (o := 1) (o' := 0) (j := 1) sc_3 rfl (srcInG 0 rfl) (bx_cells b1 74 _) rfl rfl) ?_
          refine HL.v 5 rfl trivial (by kernel_rfl) (by kernel_rfl) (by kernel_rfl) (ltb rfl) (rv_mv (v := ptrV a6) rfl) ?_
          refine HL.v 6 rfl trivial (by kernel_rfl) (by kernel_rfl) (by kernel_rfl) (ltb rfl) (rv_nilCheck (a := ⟨b9, 0, none⟩) (ptrE hb_3)) ?_
          refine HL.v 7 rfl trivial (by kernel_rfl) (by kernel_rfl) (by kernel_rfl) (ltb rfl) (rv_fa (b := b9) (o := 0) fa_127_3 rfl) ?_
          refine HL.one 8 rfl (by kernel_rfl) fun K_44 hK_45 => ?_
          refine TL.v (ltb rfl) (rv_ld (v := .int .i64 x10.t) (o := 3) (o' := 0) (j := 3) sc_3 rfl (Src.at_ 1 rfl) (in_rs (R := R8) (cs := [.int .i64 x10.kind, .int .i64 x10.next, .int .i64 x10.b, .int .i64 x10.t, .int .i64 x10.x, .int .i64 x10.got, .bool x10.won]) hx_4 rfl) rfl rfl) ?_
          refine TL.nil (hK_45 _ _ (srcG 0 rfl srcG0) ?_)
          refine HL.v 9 rfl trivial (by kernel_rfl) (by kernel_rfl) (by kernel_rfl) (ltb rfl) (rv_eql (k := .i64) (m := a2.top) (n := x10.t) rfl rfl) ?_
          refine HL.v 10 rfl trivial (by kernel_rfl) (by kernel_rfl) (by kernel_rfl) (ltb rfl) (rv_nilCheck (a := ⟨b9, 0, none⟩) (ptrE hb_3)) ?_
          refine HL.v 11 rfl trivial (by kernel_rfl) (by kernel_rfl) (by kernel_rfl) (ltb rfl) (rv_fa (b := b9) (o := 0) fa_127_6 rfl) ?_
          refine HL.one 12 rfl (by kernel_rfl) fun K_46 hK_47 => ?_
          refine TL.stR (F := rgF R8) (F' := rgF (R8.set_rs b9 (⟨x10.kind, x10.next, x10.b, x10.t, x10.x, x10.got, (decide (a2.top = x10.t))⟩ : POp))) (ds := [.bool (decide (a2.top = x10.t))]) (o := 6) (cs := [.int .i64 x10.kind, .int .i64 x10.next, .int .i64 x10.b, .int .i64 x10.t, .int .i64 x10.x, .int .i64 x10.got, .bool x10.won]) (u := .bool (decide (a2.top = x10.t))) 1 rfl ms_4 rfl rfl rfl (oc rfl oc0) (leb rfl) (spl_rs (R := R8) hx_4 (⟨x10.kind, x10.next, x10.b, x10.t, x10.x, x10.got, (decide (a2.top = x10.t))⟩ : POp) rfl rfl) ?_
          refine TL.norm (L' := [bx b1 74 [v3, .int .i64 a2.top, .int .i64 a2.bottom, .bool a2.busy], rgF (R8.set_rs b9 (⟨x10.kind, x10.next, x10.b, x10.t, x10.x, x10.got, (decide (a2.top = x10.t))⟩ : POp))]) rfl ?_
          refine TL.nil (hK_47 _ _ (srcG 0 rfl srcG0) ?_)
          refine HL.done (by kernel_rfl) ?_
          refine TC.go hK_43 ?_
          refine TC.seq fun K_48 hK_49 => ?_
          refine TC.region ?_
          refine TL.v (ltb rfl) (rv_mv (v := ptrV a6) rfl) ?_
          refine TL.v (ltb rfl) (rv_nilCheck (a := ⟨b9, 0, none⟩) (ptrE hb_3)) ?_
          refine TL.v (ltb rfl) (rv_fa (b := b9) (o := 0) fa_127_6 rfl) ?_
          refine TL.v (ltb rfl) (rv_ld (v := .bool (decide (a2.top = x10.t))) (o := 6) (o' := 0) (j := 6) sc_4 rfl (Src.at_ 1 rfl) (in_rs (R := (R8.set_rs b9 (⟨x10.kind, x10.next, x10.b, x10.t, x10.x, x10.got, (decide (a2.top = x10.t))⟩ : POp))) (cs := [.int .i64 x10.kind, .int .i64 x10.next, .int .i64 x10.b, .int .i64 x10.t, .int .i64 x10.x, .int .i64 x10.got, .bool (decide (a2.top = x10.t))]) (look_setL _ _ _ _ hx_4) rfl) rfl rfl) ?_
          refine TL.nil ?_
          refine TC.go hK_49 ?_
          by_cases hc_50 : a2.top = x10.t
          · rw [if_pos hc_50] at hp
            refine TC.condT (bT hc_50) ?_
            refine TC.region ?_
            refine TL.v (ltb rfl) (rv_mv (v := .pointer (some ⟨b1, 0, none⟩)) rfl) ?_
            refine TL.v (ltb rfl) (rv_mv (v := ptrV a6) rfl) ?_
            refine TL.v (ltb rfl) (rv_nilCheck (a := ⟨b9, 0, none⟩) (ptrE hb_3)) ?_
            refine TL.v (ltb rfl) (rv_fa (b := b9) (o := 0) fa_127_3 rfl) ?_
            refine TL.v (ltb rfl) (rv_ld (v := .int .i64 x10.t) (o := 3) (o' := 0) (j := 3) sc_3 rfl (Src.at_ 1 rfl) (in_rs (R := (R8.set_rs b9 (⟨x10.kind, x10.next, x10.b, x10.t, x10.x, x10.got, (decide (a2.top = x10.t))⟩ : POp))) (cs := [.int .i64 x10.kind, .int .i64 x10.next, .int .i64 x10.b, .int .i64 x10.t, .int .i64 x10.x, .int .i64 x10.got, .bool (decide (a2.top = x10.t))]) (look_setL _ _ _ _ hx_4) rfl) rfl rfl) ?_
            refine TL.v (ltb rfl) (rv_add (k := .i64) (m := x10.t) (n := 1) rfl rfl) ?_
            refine TL.v (ltb rfl) (rv_nilCheck (a := ⟨b1, 0, none⟩) rfl) ?_
            refine TL.v (ltb rfl) (rv_fa (b := b1) (o := 0) fa_74_1 rfl) ?_
            refine TL.stB (ds := [.int .i64 (w64 (x10.t + 1))]) (o := 1) (cs := [v3, .int .i64 a2.top, .int .i64 a2.bottom, .bool a2.busy]) (b := b1) (u := .int .i64 (w64 (x10.t + 1))) 0 rfl ms_3 rfl rfl rfl (oc rfl oc0) (leb rfl) ?_
            refine TL.norm (L' := [bx b1 74 [v3, .int .i64 (w64 (x10.t + 1)), .int .i64 a2.bottom, .bool a2.busy], rgF (R8.set_rs b9 (⟨x10.kind, x10.next, x10.b, x10.t, x10.x, x10.got, (decide (a2.top = x10.t))⟩ : POp))]) rfl ?_
            refine TL.nil ?_
            obtain rfl := Option.some.inj hp
            exact fun w hw => retOk ⟨rfl, rfl⟩ (hw.pick [0, 0])
          · rw [if_neg hc_50] at hp
            refine TC.condF (bF hc_50) ?_
            refine TC.skip ?_
            obtain rfl := Option.some.inj hp
            exact fun w hw => retOk ⟨rfl, rfl⟩ (hw.pick [0, 0])
        · rw [if_neg hc_41] at hp
          refine TC.condF (bF hc_41) ?_
          refine TC.seq fun K_51 hK_52 => ?_
          refine TC.region ?_
          refine TL.v (ltb rfl) (rv_eql (k := .i64) (m := x10.next) (n := 5) rfl rfl) ?_
          refine TL.v (ltb rfl) (rv_as (v := .bool (decide (x10.next = 5))) rfl) ?_
          refine TL.nil ?_
          refine TC.go hK_52 ?_
          by_cases hc_53 : x10.next = 5
          · rw [if_pos hc_53] at hp
            refine TC.condT (bT hc_53) ?_
            refine TC.seq fun K_54 hK_55 => ?_
            refine TC.region ?_
            refine TL.v (ltb rfl) (rv_mv (v := .pointer (some ⟨b1, 0, none⟩)) rfl) ?_
            refine TL.v (ltb rfl) (rv_mv (v := ptrV a6) rfl) ?_
            refine TL.v (ltb rfl) (rv_nilCheck (a := ⟨b9, 0, none⟩) (ptrE hb_3)) ?_
            refine TL.v (ltb rfl) (rv_fa (b := b9) (o := 0) fa_127_2 rfl) ?_
            refine TL.v (ltb rfl) (rv_ld (v := .int .i64 x10.b) (o := 2) (o' := 0) (j := 2) sc_3 rfl (Src.at_ 1 rfl) (in_rs (R := R8) (cs := [.int .i64 x10.kind, .int .i64 x10.next, .int .i64 x10.b, .int .i64 x10.t, .int .i64 x10.x, .int .i64 x10.got, .bool x10.won]) hx_4 rfl) rfl rfl) ?_
            refine TL.v (ltb rfl) (rv_nilCheck (a := ⟨b1, 0, none⟩) rfl) ?_
            refine TL.v (ltb rfl) (rv_fa (b := b1) (o := 0) fa_74_2 rfl) ?_
            refine TL.stB (ds := [.int .i64 x10.b]) (o := 2) (cs := [v3, .int .i64 a2.top, .int .i64 a2.bottom, .bool a2.busy]) (b := b1) (u := .int .i64 x10.b) 0 rfl ms_3 rfl rfl rfl (oc rfl oc0) (leb rfl) ?_
            refine TL.norm (L' := [bx b1 74 [v3, .int .i64 a2.top, .int .i64 x10.b, .bool a2.busy], rgF R8]) rfl ?_
            refine TL.nil ?_
            refine TC.go hK_55 ?_
            refine TC.seq fun K_56 hK_57 => ?_
            refine TC.region ?_
            refine TL.v (ltb rfl) (rv_mv (v := ptrV a6) rfl) ?_
            refine TL.v (ltb rfl) (rv_nilCheck (a := ⟨b9, 0, none⟩) (ptrE hb_3)) ?_
            refine TL.v (ltb rfl) (rv_fa (b := b9) (o := 0) fa_127_5 rfl) ?_
            refine TL.stR (F := rgF R8) (F' := rgF (R8.set_rs b9 (⟨x10.kind, x10.next, x10.b, x10.t, x10.x, 2, x10.won⟩ : POp))) (ds := [.int .i64 2]) (o := 5) (cs := [.int .i64 x10.kind, .int .i64 x10.next, .int .i64 x10.b, .int .i64 x10.t, .int .i64 x10.x, .int .i64 x10.got, .bool x10.won]) (u := .int .i64 2) 1 rfl ms_3 rfl rfl rfl (oc rfl oc0) (leb rfl) (spl_rs (R := R8) hx_4 (⟨x10.kind, x10.next, x10.b, x10.t, x10.x, 2, x10.won⟩ : POp) rfl rfl) ?_
            refine TL.norm (L' := [bx b1 74 [v3, .int .i64 a2.top, .int .i64 x10.b, .bool a2.busy], rgF (R8.set_rs b9 (⟨x10.kind, x10.next, x10.b, x10.t, x10.x, 2, x10.won⟩ : POp))]) rfl ?_
            refine TL.nil ?_
            refine TC.go hK_57 ?_
            refine TC.seq fun K_58 hK_59 => ?_
            refine TC.region ?_
            refine TL.v (ltb rfl) (rv_mv (v := ptrV a6) rfl) ?_
            refine TL.v (ltb rfl) (rv_nilCheck (a := ⟨b9, 0, none⟩) (ptrE hb_3)) ?_
            refine TL.v (ltb rfl) (rv_fa (b := b9) (o := 0) fa_127_6 rfl) ?_
            refine TL.v (ltb rfl) (rv_ld (v := .bool x10.won) (o := 6) (o' := 0) (j := 6) sc_4 rfl (Src.at_ 1 rfl) (in_rs (R := (R8.set_rs b9 (⟨x10.kind, x10.next, x10.b, x10.t, x10.x, 2, x10.won⟩ : POp))) (cs := [.int .i64 x10.kind, .int .i64 x10.next, .int .i64 x10.b, .int .i64 x10.t, .int .i64 x10.x, .int .i64 2, .bool x10.won]) (look_setL _ _ _ _ hx_4) rfl) rfl rfl) ?_
            refine TL.nil ?_
            refine TC.go hK_59 ?_
            by_cases hc_60 : x10.won = true
            · rw [if_pos hc_60] at hp
              refine TC.condT (bbT hc_60) ?_
              refine TC.region ?_
              refine TL.v (ltb rfl) (rv_mv (v := ptrV a6) rfl) ?_
              refine TL.v (ltb rfl) (rv_nilCheck (a := ⟨b9, 0, none⟩) (ptrE hb_3)) ?_
              refine TL.v (ltb rfl) (rv_fa (b := b9) (o := 0) fa_127_5 rfl) ?_
              refine TL.stR (F := rgF (R8.set_rs b9 (⟨x10.kind, x10.next, x10.b, x10.t, x10.x, 2, x10.won⟩ : POp))) (F' := rgF ((R8.set_rs b9 (⟨x10.kind, x10.next, x10.b, x10.t, x10.x, 2, x10.won⟩ : POp)).set_rs b9 (⟨x10.kind, x10.next, x10.b, x10.t, x10.x, 1, x10.won⟩ : POp))) (ds := [.int .i64 1]) (o := 5) (cs := [.int .i64 x10.kind, .int .i64 x10.next, .int .i64 x10.b, .int .i64 x10.t, .int .i64 x10.x, .int .i64 2, .bool x10.won]) (u := .int .i64 1) 1 rfl ms_3 rfl rfl rfl (oc rfl oc0) (leb rfl) (spl_rs (R := (R8.set_rs b9 (⟨x10.kind, x10.next, x10.b, x10.t, x10.x, 2, x10.won⟩ : POp))) (look_setL _ _ _ _ hx_4) (⟨x10.kind, x10.next, x10.b, x10.t, x10.x, 1, x10.won⟩ : POp) rfl rfl) ?_
              refine TL.norm (L' := [bx b1 74 [v3, .int .i64 a2.top, .int .i64 x10.b, .bool a2.busy], rgF ((R8.set_rs b9 (⟨x10.kind, x10.next, x10.b, x10.t, x10.x, 2, x10.won⟩ : POp)).set_rs b9 (⟨x10.kind, x10.next, x10.b, x10.t, x10.x, 1, x10.won⟩ : POp))]) rfl ?_
              refine TL.nil ?_
              obtain rfl := Option.some.inj hp
              exact fun w hw => retOk ⟨rfl, rfl⟩ (hw.pick [0, 0])
            · rw [if_neg hc_60] at hp
              refine TC.condF (bbF hc_60) ?_
              refine TC.skip ?_
              obtain rfl := Option.some.inj hp
              exact fun w hw => retOk ⟨rfl, rfl⟩ (hw.pick [0, 0])
          · rw [if_neg hc_53] at hp
            refine TC.condF (bF hc_53) ?_
            refine TC.skip ?_
            obtain rfl := Option.some.inj hp
            exact fun w hw => retOk ⟨rfl, rfl⟩ (hw.pick [0, 0])

/-! ### (*fettle/fettleref11.Deque).steal -/
abbrev fettleref11_Deque_steal.R (b1 : Nat) (a2 : PDeque) (v3 : Value) (r : Int × Rgn) (v : Value) (A : List FP) : Prop := .tuple #[] = v ∧ A = [bx b1 74 [v3, .int .i64 r.1, .int .i64 a2.bottom, .bool a2.busy], rgF r.2]
def fettleref11_Deque_steal (a2 : PDeque) (a6 : Option Nat) (R8 : Rgn) : Option (Int × Rgn) :=
  (a6).bind fun b9 =>
  (look (R8).rs b9).bind fun x10 =>
  if x10.next = 1 then
    some (a2.top, (R8.set_rs b9 (⟨x10.kind, x10.next, x10.b, a2.top, x10.x, x10.got, x10.won⟩ : POp)))
  else
    if x10.next = 2 then
      if x10.t ≥ a2.bottom then
        some (a2.top, ((R8.set_rs b9 (⟨x10.kind, x10.next, a2.bottom, x10.t, x10.x, x10.got, x10.won⟩ : POp)).set_rs b9 (⟨x10.kind, x10.next, a2.bottom, x10.t, x10.x, 2, x10.won⟩ : POp)))
      else
        some (a2.top, (R8.set_rs b9 (⟨x10.kind, x10.next, a2.bottom, x10.t, x10.x, x10.got, x10.won⟩ : POp)))
    else
      if x10.next = 3 then
        (fettleref11_cell x10.t).bind fun x3612 =>
        (idx a2.cells x3612).bind fun x4012 =>
        some (a2.top, (R8.set_rs b9 (⟨x10.kind, x10.next, x10.b, x10.t, x4012, x10.got, x10.won⟩ : POp)))
      else
        if x10.next = 4 then
          if a2.top = x10.t then
            some ((w64 (x10.t + 1)), ((R8.set_rs b9 (⟨x10.kind, x10.next, x10.b, x10.t, x10.x, 4, x10.won⟩ : POp)).set_rs b9 (⟨x10.kind, x10.next, x10.b, x10.t, x10.x, 1, x10.won⟩ : POp)))
          else
            some (a2.top, (R8.set_rs b9 (⟨x10.kind, x10.next, x10.b, x10.t, x10.x, 4, x10.won⟩ : POp)))
        else
          some (a2.top, R8)
theorem fettleref11_Deque_steal_ok {E : World} {H : FP} {w : World} {a2 : PDeque} {a6 : Option Nat} {R8 : Rgn} {b1 : Nat} {v3 : Value} {r : Int × Rgn} (h4 : SlI (kInt .i64) H a2.cells v3) (hp : fettleref11_Deque_steal a2 a6 R8 = some r) (hst : St E H [bx b1 74 [v3, .int .i64 a2.top, .int .i64 a2.bottom, .bool a2.busy], rgF R8] w) :
    Fn Try.prog 70 #[.pointer (some ⟨b1, 0, none⟩), ptrV a6] w fun v w' => ∃ A, fettleref11_Deque_steal.R b1 a2 v3 r v A ∧ St E H A w' := by
  refine Fn.body (fn := Try.f70) (args := [.pointer (some ⟨b1, 0, none⟩), ptrV a6]) E H [bx b1 74 [v3, .int .i64 a2.top, .int .i64 a2.bottom, .bool a2.busy], rgF R8] [] 79 Try.func70 rfl rfl rfl rfl (leb rfl) hst ?_
  unfold fettleref11_Deque_steal at hp
  refine TC.seq fun K_1 hK_2 => ?_
  refine TC.region ?_
  refine TL.v (ltb rfl) (rv_mv (v := ptrV a6) rfl) ?_
  obtain ⟨b9, hb_3, hp⟩ := bind_some' hp
  refine TL.v (ltb rfl) (rv_nilCheck (a := ⟨b9, 0, none⟩) (ptrE hb_3)) ?_
  refine TL.v (ltb rfl) (rv_fa (b := b9) (o := 0) fa_127_1 rfl) ?_
  obtain ⟨x10, hx_4, hp⟩ := bind_some' hp
  refine TL.v (ltb rfl) (rv_ld (v := .int .i64 x10.next) (o := 1) (o' := 0) (j := 1) sc_3 rfl (Src.at_ 1 rfl) (in_rs (R := R8) (cs := [.int .i64 x10.kind, .int .i64 x10.next, .int .i64 x10.b, .int .i64 x10.t, .int .i64 x10.x, .int .i64 x10.got, .bool x10.won]) hx_4 rfl) rfl rfl) ?_
  refine TL.nil ?_
  refine TC.go hK_2 ?_
  refine TC.block ?_
  refine TC.seq fun K_5 hK_6 => ?_
  refine TC.region ?_
  refine TL.v (ltb rfl) (rv_eql (k := .i64) (m := x10.next) (n := 1) rfl rfl) ?_
  refine TL.v (ltb rfl) (rv_as (v := .bool (decide (x10.next = 1))) rfl) ?_
  refine TL.nil ?_
  refine TC.go hK_6 ?_
  by_cases hc_7 : x10.next = 1
  · rw [if_pos hc_7] at hp
    refine TC.condT (bT hc_7) ?_
    refine TC.region ?_
    refine TL.v (ltb rfl) (rv_mv (v := ptrV a6) rfl) ?_
    refine TL.v (ltb rfl) (rv_mv (v := .pointer (some ⟨b1, 0, none⟩)) rfl) ?_
    refine TL.v (ltb rfl) (rv_nilCheck (a := ⟨b1, 0, none⟩) rfl) ?_
    refine TL.v (ltb rfl) (rv_fa (b := b1) (o := 0) fa_74_1 rfl) ?_
    refine TL.v (ltb rfl) (rv_ld (v := .int .i64 a2.top) (o := 1) (o' := 0) (j := 1) sc_3 rfl (Src.at_ 0 rfl) (bx_cells b1 74 _) rfl rfl) ?_
    refine TL.v (ltb rfl) (rv_nilCheck (a := ⟨b9, 0, none⟩) (ptrE hb_3)) ?_
    refine TL.v (ltb rfl) (rv_fa (b := b9) (o := 0) fa_127_3 rfl) ?_
    refine TL.stR (F := rgF R8) (F' := rgF (R8.set_rs b9 (⟨x10.kind, x10.next, x10.b, a2.top, x10.x, x10.got, x10.won⟩ : POp))) (ds := [.int .i64 a2.top]) (o := 3) (cs := [.int .i64 x10.kind, .int .i64 x10.next, .int .i64 x10.b, .int .i64 x10.t, .int .i64 x10.x, .int .i64 x10.got, .bool x10.won]) (u := .int .i64 a2.top) 1 rfl ms_3 rfl rfl rfl (oc rfl oc0) (leb rfl) (spl_rs (R := R8) hx_4 (⟨x10.kind, x10.next, x10.b, a2.top, x10.x, x10.got, x10.won⟩ : POp) rfl rfl) ?_
    refine TL.norm (L' := [bx b1 74 [v3, .int .i64 a2.top, .int .i64 a2.bottom, .bool a2.busy], rgF (R8.set_rs b9 (⟨x10.kind, x10.next, x10.b, a2.top, x10.x, x10.got, x10.won⟩ : POp))]) rfl ?_
    refine TL.nil ?_
    obtain rfl := Option.some.inj hp
    exact fun w hw => retOk ⟨rfl, rfl⟩ (hw.pick [0, 0])
  · rw [if_neg hc_7] at hp
    refine TC.condF (bF hc_7) ?_
    refine TC.seq fun K_8 hK_9 => ?_
    refine TC.region ?_
    refine TL.v (ltb rfl) (rv_eql (k := .i64) (m := x10.next) (n := 2) rfl rfl) ?_
    refine TL.v (ltb rfl) (rv_as (v := .bool (decide (x10.next = 2))) rfl) ?_
    refine TL.nil ?_
    refine TC.go hK_9 ?_
    by_cases hc_10 : x10.next = 2
    · rw [if_pos hc_10] at hp
      refine TC.condT (bT hc_10) ?_
      refine TC.seq fun K_11 hK_12 => ?_
      refine TC.region ?_
      refine TL.v (ltb rfl) (rv_mv (v := ptrV a6) rfl) ?_
      refine TL.v (ltb rfl) (rv_mv (v := .pointer (some ⟨b1, 0, none⟩)) rfl) ?_
      refine TL.v (ltb rfl) (rv_nilCheck (a := ⟨b1, 0, none⟩) rfl) ?_
      refine TL.v (ltb rfl) (rv_fa (b := b1) (o := 0) fa_74_2 rfl) ?_
      refine TL.v (ltb rfl) (rv_ld (v := .int .i64 a2.bottom) (o := 2) (o' := 0) (j := 2) sc_3 rfl (Src.at_ 0 rfl) (bx_cells b1 74 _) rfl rfl) ?_
      refine TL.v (ltb rfl) (rv_nilCheck (a := ⟨b9, 0, none⟩) (ptrE hb_3)) ?_
      refine TL.v (ltb rfl) (rv_fa (b := b9) (o := 0) fa_127_2 rfl) ?_
      refine TL.stR (F := rgF R8) (F' := rgF (R8.set_rs b9 (⟨x10.kind, x10.next, a2.bottom, x10.t, x10.x, x10.got, x10.won⟩ : POp))) (ds := [.int .i64 a2.bottom]) (o := 2) (cs := [.int .i64 x10.kind, .int .i64 x10.next, .int .i64 x10.b, .int .i64 x10.t, .int .i64 x10.x, .int .i64 x10.got, .bool x10.won]) (u := .int .i64 a2.bottom) 1 rfl ms_3 rfl rfl rfl (oc rfl oc0) (leb rfl) (spl_rs (R := R8) hx_4 (⟨x10.kind, x10.next, a2.bottom, x10.t, x10.x, x10.got, x10.won⟩ : POp) rfl rfl) ?_
      refine TL.norm (L' := [bx b1 74 [v3, .int .i64 a2.top, .int .i64 a2.bottom, .bool a2.busy], rgF (R8.set_rs b9 (⟨x10.kind, x10.next, a2.bottom, x10.t, x10.x, x10.got, x10.won⟩ : POp))]) rfl ?_
      refine TL.nil ?_
      refine TC.go hK_12 ?_
      refine TC.seq fun K_13 hK_14 => ?_
      refine TC.quiet mix (by kernel_rfl) ?_
      refine QL.v (ltb rfl) (rv_mv (v := ptrV a6) rfl) ?_
      refine QL.v (ltb rfl) (rv_nilCheck (a := ⟨b9, 0, none⟩) (ptrE hb_3)) ?_
      refine QL.v (ltb rfl) (rv_fa (b := b9) (o := 0) fa_127_3 rfl) ?_
      refine QL.v (ltb rfl) (rv_ld (v := .int .i64 x10.t) (o := 3) (o' := 0) (j := 3) sc_3 rfl (Src.at_ 1 rfl) (in_rs (R := (R8.set_rs b9 (⟨x10.kind, x10.next, a2.bottom, x10.t, x10.x, x10.got, x10.won⟩ : POp))) (cs := [.int .i64 x10.kind, .int .i64 x10.next, .int .i64 a2.bottom, .int .i64 x10.t, .int .i64 x10.x, .int .i64 x10.got, .bool x10.won]) (look_setL _ _ _ _ hx_4) rfl) rfl rfl) ?_
      refine QL.v (ltb rfl) (rv_mv (v := ptrV a6) rfl) ?_
      refine QL.v (ltb rfl) (rv_nilCheck (a := ⟨b9, 0, none⟩) (ptrE hb_3)) ?_
      refine QL.v (ltb rfl) (rv_fa (b := b9) (o := 0) fa_127_2 rfl) ?_
      refine QL.v (ltb rfl) (rv_ld (v := .int .i64 a2.bottom) (o := 2) (o' := 0) (j := 2) sc_3 rfl (Src.at_ 1 rfl) (in_rs (R := (R8.set_rs b9 (⟨x10.kind, x10.next, a2.bottom, x10.t, x10.x, x10.got, x10.won⟩ : POp))) (cs := [.int .i64 x10.kind, .int .i64 x10.next, .int .i64 a2.bottom, .int .i64 x10.t, .int .i64 x10.x, .int .i64 x10.got, .bool x10.won]) (look_setL _ _ _ _ hx_4) rfl) rfl rfl) ?_
      refine QL.v (ltb rfl) (rv_geq (k := .i64) (m := x10.t) (n := a2.bottom) rfl rfl) ?_
      refine QL.nil ?_
      refine TC.go hK_14 ?_
      by_cases hc_15 : x10.t ≥ a2.bottom
      · rw [if_pos hc_15] at hp
        refine TC.condT (bT hc_15) ?_
        refine TC.region ?_
        refine TL.v (ltb rfl) (rv_mv (v := ptrV a6) rfl) ?_
        refine TL.v (ltb rfl) (rv_nilCheck (a := ⟨b9, 0, none⟩) (ptrE hb_3)) ?_
        refine TL.v (ltb rfl) (rv_fa (b := b9) (o := 0) fa_127_5 rfl) ?_
        refine TL.stR (F := rgF (R8.set_rs b9 (⟨x10.kind, x10.next, a2.bottom, x10.t, x10.x, x10.got, x10.won⟩ : POp))) (F' := rgF ((R8.set_rs b9 (⟨x10.kind, x10.next, a2.bottom, x10.t, x10.x, x10.got, x10.won⟩ : POp)).set_rs b9 (⟨x10.kind, x10.next, a2.bottom, x10.t, x10.x, 2, x10.won⟩ : POp))) (ds := [.int .i64 2]) (o := 5) (cs := [.int .i64 x10.kind, .int .i64 x10.next, .int .i64 a2.bottom, .int .i64 x10.t, .int .i64 x10.x, .int .i64 x10.got, .bool x10.won]) (u := .int .i64 2) 1 rfl ms_3 rfl rfl rfl (oc rfl oc0) (leb rfl) (spl_rs (R := (R8.set_rs b9 (⟨x10.kind, x10.next, a2.bottom, x10.t, x10.x, x10.got, x10.won⟩ : POp))) (look_setL _ _ _ _ hx_4) (⟨x10.kind, x10.next, a2.bottom, x10.t, x10.x, 2, x10.won⟩ : POp) rfl rfl) ?_
        refine TL.norm (L' := [bx b1 74 [v3, .int .i64 a2.top, .int .i64 a2.bottom, .bool a2.busy], rgF ((R8.set_rs b9 (⟨x10.kind, x10.next, a2.bottom, x10.t, x10.x, x10.got, x10.won⟩ : POp)).set_rs b9 (⟨x10.kind, x10.next, a2.bottom, x10.t, x10.x, 2, x10.won⟩ : POp))]) rfl ?_
        refine TL.nil ?_
        obtain rfl := Option.some.inj hp
        exact fun w hw => retOk ⟨rfl, rfl⟩ (hw.pick [0, 0])
      · rw [if_neg hc_15] at hp
        refine TC.condF (bF hc_15) ?_
        refine TC.skip ?_
        obtain rfl := Option.some.inj hp
        exact fun w hw => retOk ⟨rfl, rfl⟩ (hw.pick [0, 0])
    · rw [if_neg hc_10] at hp
      refine TC.condF (bF hc_10) ?_
      refine TC.seq fun K_16 hK_17 => ?_
      refine TC.region ?_
      refine TL.v (ltb rfl) (rv_eql (k := .i64) (m := x10.next) (n := 3) rfl rfl) ?_
      refine TL.v (ltb rfl) (rv_as (v := .bool (decide (x10.next = 3))) rfl) ?_
      refine TL.nil ?_
      refine TC.go hK_17 ?_
      by_cases hc_18 : x10.next = 3
      · rw [if_pos hc_18] at hp
        refine TC.condT (bT hc_18) ?_
        refine TC.held ([bx b1 74 [v3, .int .i64 a2.top, .int .i64 a2.bottom, .bool a2.busy]].flatten ++ H) mix (srcG 0 rfl srcG0) ?_
        refine HL.v 0 rfl trivial (by kernel_rfl) (by kernel_rfl) (by kernel_rfl) (ltb rfl) (rv_mv (v := ptrV a6) rfl) ?_
        refine HL.v 1 rfl trivial (by kernel_rfl) (by kernel_rfl) (by kernel_rfl) (ltb rfl) (rv_mv (v := .pointer (some ⟨b1, 0, none⟩)) rfl) ?_
        refine HL.v 2 rfl trivial (by kernel_rfl) (by kernel_rfl) (by kernel_rfl) (ltb rfl) (rv_nilCheck (a := ⟨b1, 0, none⟩) rfl) ?_
        refine HL.v 3 rfl trivial (by kernel_rfl) (by kernel_rfl) (by kernel_rfl) (ltb rfl) (rv_fa (b := b1) (o := 0) fa_74_0 rfl) ?_
        refine HL.v 4 rfl trivial (by kernel_rfl) (by kernel_rfl) (by kernel_rfl) (ltb rfl) (rv_ld (v := v3) (o := 0) (o' := 0) (j := 0) sc_22 rfl (srcInG 0 rfl) (bx_cells b1 74 _) rfl rfl) ?_
        refine HL.v 5 rfl trivial (by kernel_rfl) (by kernel_rfl) (by kernel_rfl) (ltb rfl) (rv_mv (v := ptrV a6) rfl) ?_
        refine HL.v 6 rfl trivial (by kernel_rfl) (by kernel_rfl) (by kernel_rfl) (ltb rfl) (rv_nilCheck (a := ⟨b9, 0, none⟩) (ptrE hb_3)) ?_
        refine HL.v 7 rfl trivial (by kernel_rfl) (by kernel_rfl) (by kernel_rfl) (ltb rfl) (rv_fa (b := b9) (o := 0) fa_127_3 rfl) ?_
        refine HL.one 8 rfl (by kernel_rfl) fun K_19 hK_20 => ?_
        refine TL.v (ltb rfl) (rv_ld (v := .int .i64 x10.t) (o := 3) (o' := 0) (j := 3) sc_3 rfl (Src.at_ 1 rfl) (in_rs (R := R8) (cs := [.int .i64 x10.kind, .int .i64 x10.next, .int .i64 x10.b, .int .i64 x10.t, .int .i64 x10.x, .int .i64 x10.got, .bool x10.won]) hx_4 rfl) rfl rfl) ?_
        refine TL.nil (hK_20 _ _ (srcG 0 rfl srcG0) ?_)
        refine HL.one 9 rfl (by kernel_rfl) fun K_21 hK_22 => ?_
        obtain ⟨x3612, hy_23, hp⟩ := bind_some' hp
        refine TL.callC (vs := [.int .i64 x10.t]) (R := fettleref11_cell.R x3612) [] [bx b1 74 [v3, .int .i64 a2.top, .int .i64 a2.bottom, .bool a2.busy], rgF R8] rfl cb_90 (ltb rfl) (mc rfl m0) (fun w hw => fettleref11_cell_ok (a1 := x10.t) hy_23 hw) fun v A' hR_24 => ?_
        obtain ⟨rfl, rfl⟩ := hR_24
        refine TL.norm (L' := [bx b1 74 [v3, .int .i64 a2.top, .int .i64 a2.bottom, .bool a2.busy], rgF R8]) rfl ?_
        refine TL.nil (hK_22 _ _ (srcG 0 rfl srcG0) ?_)
        obtain ⟨x4012, hx_25, hp⟩ := bind_some' hp
        refine HL.w3 10 rfl trivial (by kernel_rfl) (by kernel_rfl) (by kernel_rfl) (ltb rfl) (rv_ix 22 (.tmp 44) (.tmp 49) (v := v3) (i := x3612) Try.underlying22 inf_3 rfl rfl rfl h4 hx_25) fun b4013 o4014 c4015 h4016 h4017 => ?_
        obtain rfl := h4016
        refine HL.v 11 rfl trivial (by kernel_rfl) (by kernel_rfl) (by kernel_rfl) (ltb rfl) (rv_ld (v := .int .i64 x4012) (o := o4014) (o' := o4014) (j := 0) sc_3 rfl srcInH h4017 rfl rfl) ?_
        refine HL.v 12 rfl trivial (by kernel_rfl) (by kernel_rfl) (by kernel_rfl) (ltb rfl) (rv_nilCheck (a := ⟨b9, 0, none⟩) (ptrE hb_3)) ?_
        refine HL.v 13 rfl trivial (by kernel_rfl) (by kernel_rfl) (by kernel_rfl) (ltb rfl) (rv_fa (b := b9) (o := 0) fa_127_4 rfl) ?_
        refine HL.one 14 rfl (by kernel_rfl) fun K_26 hK_27 => ?_
        refine TL.stR (F := rgF R8) (F' := rgF (R8.set_rs b9 (⟨x10.kind, x10.next, x10.b, x10.t, x4012, x10.got, x10.won⟩ : POp))) (ds := [.int .i64 x4012]) (o := 4) (cs := [.int .i64 x10.kind, .int .i64 x10.next, .int .i64 x10.b, .int .i64 x10.t, .int .i64 x10.x, .int .i64 x10.got, .bool x10.won]) (u := .int .i64 x4012) 1 rfl ms_3 rfl rfl rfl (oc rfl oc0) (leb rfl) (spl_rs (R := R8) hx_4 (⟨x10.kind, x10.next, x10.b, x10.t, x4012, x10.got, x10.won⟩ : POp) rfl rfl) ?_
        refine TL.norm (L' := [bx b1 74 [v3, .int .i64 a2.top, .int .i64 a2.bottom, .bool a2.busy], rgF (R8.set_rs b9 (⟨x10.kind, x10.next, x10.b, x10.t, x4012, x10.got, x10.won⟩ : POp))]) rfl ?_
        refine TL.nil (hK_27 _ _ (srcG 0 rfl srcG0) ?_)
        refine HL.done (by kernel_rfl) ?_
        obtain rfl := Option.some.inj hp
        exact fun w hw => retOk ⟨rfl, rfl⟩ (hw.pick [0, 0])
      · rw [if_neg hc_18] at hp
        refine TC.condF (bF hc_18) ?_
        refine TC.seq fun K_28 hK_29 => ?_
        refine TC.region ?_
        refine TL.v (ltb rfl) (rv_eql (k := .i64) (m := x10.next) (n := 4) rfl rfl) ?_
        refine TL.v (ltb rfl) (rv_as (v := .bool (decide (x10.next = 4))) rfl) ?_
        refine TL.nil ?_
        refine TC.go hK_29 ?_
        by_cases hc_30 : x10.next = 4
        · rw [if_pos hc_30] at hp
          refine TC.condT (bT hc_30) ?_
          refine TC.seq fun K_31 hK_32 => ?_
          refine TC.region ?_
          refine TL.v (ltb rfl) (rv_mv (v := ptrV a6) rfl) ?_
          refine TL.v (ltb rfl) (rv_nilCheck (a := ⟨b9, 0, none⟩) (ptrE hb_3)) ?_
          refine TL.v (ltb rfl) (rv_fa (b := b9) (o := 0) fa_127_5 rfl) ?_
          refine TL.stR (F := rgF R8) (F' := rgF (R8.set_rs b9 (⟨x10.kind, x10.next, x10.b, x10.t, x10.x, 4, x10.won⟩ : POp))) (ds := [.int .i64 4]) (o := 5) (cs := [.int .i64 x10.kind, .int .i64 x10.next, .int .i64 x10.b, .int .i64 x10.t, .int .i64 x10.x, .int .i64 x10.got, .bool x10.won]) (u := .int .i64 4) 1 rfl ms_3 rfl rfl rfl (oc rfl oc0) (leb rfl) (spl_rs (R := R8) hx_4 (⟨x10.kind, x10.next, x10.b, x10.t, x10.x, 4, x10.won⟩ : POp) rfl rfl) ?_
          refine TL.norm (L' := [bx b1 74 [v3, .int .i64 a2.top, .int .i64 a2.bottom, .bool a2.busy], rgF (R8.set_rs b9 (⟨x10.kind, x10.next, x10.b, x10.t, x10.x, 4, x10.won⟩ : POp))]) rfl ?_
          refine TL.nil ?_
          refine TC.go hK_32 ?_
          refine TC.seq fun K_33 hK_34 => ?_
          refine TC.quiet mix (by kernel_rfl) ?_
          refine QL.v (ltb rfl) (rv_mv (v := .pointer (some ⟨b1, 0, none⟩)) rfl) ?_
          refine QL.v (ltb rfl) (rv_nilCheck (a := ⟨b1, 0, none⟩) rfl) ?_
          refine QL.v (ltb rfl) (rv_fa (b := b1) (o := 0) fa_74_1 rfl) ?_
          refine QL.v (ltb rfl) (rv_ld (v := .int .i64 a2.top) (o := 1) (o' := 0) (j := 1) sc_3 rfl (Src.at_ 0 rfl) (bx_cells b1 74 _) rfl rfl) ?_
          refine QL.v (ltb rfl) (rv_mv (v := ptrV a6) rfl) ?_
          refine QL.v (ltb rfl) (rv_nilCheck (a := ⟨b9, 0, none⟩) (ptrE hb_3)) ?_
          refine QL.v (ltb rfl) (rv_fa (b := b9) (o := 0) fa_127_3 rfl) ?_
          refine QL.v (ltb rfl) (rv_ld (v := .int .i64 x10.t) (o := 3) (o' := 0) (j := 3) sc_3 rfl (Src.at_ 1 rfl) (in_rs (R := (R8.set_rs b9 (⟨x10.kind, x10.next, x10.b, x10.t, x10.x, 4, x10.won⟩ : POp))) (cs := [.int .i64 x10.kind, .int .i64 x10.next, .int .i64 x10.b, .int .i64 x10.t, .int .i64 x10.x, .int .i64 4, .bool x10.won]) (look_setL _ _ _ _ hx_4) rfl) rfl rfl) ?_
          refine QL.v (ltb rfl) (rv_eql (k := .i64) (m := a2.top) (n := x10.t) rfl rfl) ?_
          refine QL.nil ?_
          refine TC.go hK_34 ?_
          by_cases hc_35 : a2.top = x10.t
          · rw [if_pos hc_35] at hp
            refine TC.condT (bT hc_35) ?_
            refine TC.seq fun K_36 hK_37 => ?_
            refine TC.region ?_
            refine TL.v (ltb rfl) (rv_mv (v := .pointer (some ⟨b1, 0, none⟩)) rfl) ?_
            refine TL.v (ltb rfl) (rv_mv (v := ptrV a6) rfl) ?_
            refine TL.v (ltb rfl) (rv_nilCheck (a := ⟨b9, 0, none⟩) (ptrE hb_3)) ?_
            refine TL.v (ltb rfl) (rv_fa (b := b9) (o := 0) fa_127_3 rfl) ?_
            refine TL.v (ltb rfl) (rv_ld (v := .int .i64 x10.t) (o := 3) (o' := 0) (j := 3) sc_3 rfl (Src.at_ 1 rfl) (in_rs (R := (R8.set_rs b9 (⟨x10.kind, x10.next, x10.b, x10.t, x10.x, 4, x10.won⟩ : POp))) (cs := [.int .i64 x10.kind, .int .i64 x10.next, .int .i64 x10.b, .int .i64 x10.t, .int .i64 x10.x, .int .i64 4, .bool x10.won]) (look_setL _ _ _ _ hx_4) rfl) rfl rfl) ?_
            refine TL.v (ltb rfl) (rv_add (k := .i64) (m := x10.t) (n := 1) rfl rfl) ?_
            refine TL.v (ltb rfl) (rv_nilCheck (a := ⟨b1, 0, none⟩) rfl) ?_
            refine TL.v (ltb rfl) (rv_fa (b := b1) (o := 0) fa_74_1 rfl) ?_
            refine TL.stB (ds := [.int .i64 (w64 (x10.t + 1))]) (o := 1) (cs := [v3, .int .i64 a2.top, .int .i64 a2.bottom, .bool a2.busy]) (b := b1) (u := .int .i64 (w64 (x10.t + 1))) 0 rfl ms_3 rfl rfl rfl (oc rfl oc0) (leb rfl) ?_
            refine TL.norm (L' := [bx b1 74 [v3, .int .i64 (w64 (x10.t + 1)), .int .i64 a2.bottom, .bool a2.busy], rgF (R8.set_rs b9 (⟨x10.kind, x10.next, x10.b, x10.t, x10.x, 4, x10.won⟩ : POp))]) rfl ?_
            refine TL.nil ?_
            refine TC.go hK_37 ?_
            refine TC.region ?_
            refine TL.v (ltb rfl) (rv_mv (v := ptrV a6) rfl) ?_
            refine TL.v (ltb rfl) (rv_nilCheck (a := ⟨b9, 0, none⟩) (ptrE hb_3)) ?_
            refine TL.v (ltb rfl) (rv_fa (b := b9) (o := 0) fa_127_5 rfl) ?_
            refine TL.stR (F := rgF (R8.set_rs b9 (⟨x10.kind, x10.next, x10.b, x10.t, x10.x, 4, x10.won⟩ : POp))) (F' := rgF ((R8.set_rs b9 (⟨x10.kind, x10.next, x10.b, x10.t, x10.x, 4, x10.won⟩ : POp)).set_rs b9 (⟨x10.kind, x10.next, x10.b, x10.t, x10.x, 1, x10.won⟩ : POp))) (ds := [.int .i64 1]) (o := 5) (cs := [.int .i64 x10.kind, .int .i64 x10.next, .int .i64 x10.b, .int .i64 x10.t, .int .i64 x10.x, .int .i64 4, .bool x10.won]) (u := .int .i64 1) 1 rfl ms_3 rfl rfl rfl (oc rfl oc0) (leb rfl) (spl_rs (R := (R8.set_rs b9 (⟨x10.kind, x10.next, x10.b, x10.t, x10.x, 4, x10.won⟩ : POp))) (look_setL _ _ _ _ hx_4) (⟨x10.kind, x10.next, x10.b, x10.t, x10.x, 1, x10.won⟩ : POp) rfl rfl) ?_
            refine TL.norm (L' := [bx b1 74 [v3, .int .i64 (w64 (x10.t + 1)), .int .i64 a2.bottom, .bool a2.busy], rgF ((R8.set_rs b9 (⟨x10.kind, x10.next, x10.b, x10.t, x10.x, 4, x10.won⟩ : POp)).set_rs b9 (⟨x10.kind, x10.next, x10.b, x10.t, x10.x, 1, x10.won⟩ : POp))]) rfl ?_
            refine TL.nil ?_
            obtain rfl := Option.some.inj hp
            exact fun w hw => retOk ⟨rfl, rfl⟩ (hw.pick [0, 0])
          · rw [if_neg hc_35] at hp
            refine TC.condF (bF hc_35) ?_
            refine TC.skip ?_
            obtain rfl := Option.some.inj hp
            exact fun w hw => retOk ⟨rfl, rfl⟩ (hw.pick [0, 0])
        · rw [if_neg hc_30] at hp
          refine TC.condF (bF hc_30) ?_
          refine TC.skip ?_
          obtain rfl := Option.some.inj hp
          exact fun w hw => retOk ⟨rfl, rfl⟩ (hw.pick [0, 0])

/-! ### (*fettle/fettleref11.Deque).Step -/
abbrev fettleref11_Deque_Step.R (b1 : Nat) (r : List Int × Int × Int × Bool × Rgn) (v : Value) (A : List FP) : Prop := ∃ (w1 : Value) (G1 : FP), .tuple #[] = v ∧ A = [bx b1 74 [w1, .int .i64 r.2.1, .int .i64 r.2.2.1, .bool r.2.2.2.1], G1, rgF r.2.2.2.2] ∧ SlO 3 (kInt .i64) r.1 w1 G1
def fettleref11_Deque_Step.jn10 (a2 : PDeque) (a7 : Option Nat) (x12 : List Int) (x16 : Int) (x17 : Int) (R18 : Rgn) : Option (List Int × Int × Int × Bool × Rgn) :=
  (a7).bind fun b19 =>
  (look (R18).rs b19).bind fun x20 =>
  if (¬ x20.got = 0) ∧ (¬ x20.kind = 3) then
    some (x12, x16, x17, false, R18)
  else
    some (x12, x16, x17, a2.busy, R18)
def fettleref11_Deque_Step (a2 : PDeque) (a7 : Option Nat) (R9 : Rgn) : Option (List Int × Int × Int × Bool × Rgn) :=
  (a7).bind fun b10 =>
  (look (R9).rs b10).bind fun x11 =>
  if x11.kind = 1 then
    (fettleref11_Deque_push a2 a7 (R9.set_rs b10 (⟨x11.kind, (w64 (x11.next + 1)), x11.b, x11.t, x11.x, x11.got, x11.won⟩ : POp))).bind fun x21 =>
    fettleref11_Deque_Step.jn10 a2 a7 x21.1 a2.top x21.2.1 x21.2.2
  else
    if x11.kind = 2 then
      (fettleref11_Deque_pop a2 a7 (R9.set_rs b10 (⟨x11.kind, (w64 (x11.next + 1)), x11.b, x11.t, x11.x, x11.got, x11.won⟩ : POp))).bind fun x25 =>
      fettleref11_Deque_Step.jn10 a2 a7 a2.cells x25.1 x25.2.1 x25.2.2
    else
      (fettleref11_Deque_steal a2 a7 (R9.set_rs b10 (⟨x11.kind, (w64 (x11.next + 1)), x11.b, x11.t, x11.x, x11.got, x11.won⟩ : POp))).bind fun x26 =>
      fettleref11_Deque_Step.jn10 a2 a7 a2.cells x26.1 a2.bottom x26.2
theorem fettleref11_Deque_Step_ok {E : World} {H : FP} {w : World} {a2 : PDeque} {a7 : Option Nat} {R9 : Rgn} {b1 : Nat} {v3 : Value} {F4 : FP} {r : List Int × Int × Int × Bool × Rgn} (h5 : SlO 3 (kInt .i64) a2.cells v3 F4) (hp : fettleref11_Deque_Step a2 a7 R9 = some r) (hst : St E H [bx b1 74 [v3, .int .i64 a2.top, .int .i64 a2.bottom, .bool a2.busy], F4, rgF R9] w) :
    Fn Try.prog 39 #[.pointer (some ⟨b1, 0, none⟩), ptrV a7] w fun v w' => ∃ A, fettleref11_Deque_Step.R b1 r v A ∧ St E H A w' := by
  refine Fn.body (fn := Try.f39) (args := [.pointer (some ⟨b1, 0, none⟩), ptrV a7]) E H [bx b1 74 [v3, .int .i64 a2.top, .int .i64 a2.bottom, .bool a2.busy], F4, rgF R9] [] 43 Try.func39 rfl rfl rfl rfl (leb rfl) hst ?_
  unfold fettleref11_Deque_Step at hp
  refine TC.seq fun K_1 hK_2 => ?_
  refine TC.region ?_
  refine TL.v (ltb rfl) (rv_mv (v := ptrV a7) rfl) ?_
  obtain ⟨b10, hb_3, hp⟩ := bind_some' hp
  refine TL.v (ltb rfl) (rv_nilCheck (a := ⟨b10, 0, none⟩) (ptrE hb_3)) ?_
  refine TL.v (ltb rfl) (rv_fa (b := b10) (o := 0) fa_127_1 rfl) ?_
  obtain ⟨x11, hx_4, hp⟩ := bind_some' hp
  refine TL.v (ltb rfl) (rv_ld (v := .int .i64 x11.next) (o := 1) (o' := 0) (j := 1) sc_3 rfl (Src.at_ 2 rfl) (in_rs (R := R9) (cs := [.int .i64 x11.kind, .int .i64 x11.next, .int .i64 x11.b, .int .i64 x11.t, .int .i64 x11.x, .int .i64 x11.got, .bool x11.won]) hx_4 rfl) rfl rfl) ?_
  refine TL.v (ltb rfl) (rv_add (k := .i64) (m := x11.next) (n := 1) rfl rfl) ?_
  refine TL.v (ltb rfl) (rv_nilCheck (a := ⟨b10, 0, none⟩) (ptrE hb_3)) ?_
  refine TL.v (ltb rfl) (rv_fa (b := b10) (o := 0) fa_127_1 rfl) ?_
  refine TL.stR (F := rgF R9) (F' := rgF (R9.set_rs b10 (⟨x11.kind, (w64 (x11.next + 1)), x11.b, x11.t, x11.x, x11.got, x11.won⟩ : POp))) (ds := [.int .i64 (w64 (x11.next + 1))]) (o := 1) (cs := [.int .i64 x11.kind, .int .i64 x11.next, .int .i64 x11.b, .int .i64 x11.t, .int .i64 x11.x, .int .i64 x11.got, .bool x11.won]) (u := .int .i64 (w64 (x11.next + 1))) 2 rfl ms_3 rfl rfl rfl (oc rfl oc0) (leb rfl) (spl_rs (R := R9) hx_4 (⟨x11.kind, (w64 (x11.next + 1)), x11.b, x11.t, x11.x, x11.got, x11.won⟩ : POp) rfl rfl) ?_
  refine TL.norm (L' := [bx b1 74 [v3, .int .i64 a2.top, .int .i64 a2.bottom, .bool a2.busy], F4, rgF (R9.set_rs b10 (⟨x11.kind, (w64 (x11.next + 1)), x11.b, x11.t, x11.x, x11.got, x11.won⟩ : POp))]) rfl ?_
  refine TL.nil ?_
  refine TC.go hK_2 ?_
  refine TC.seq fun K_5 hK_6 => ?_
  have hJ_10 : ∀ (x12 : List Int) (x16 : Int) (x17 : Int) (R18 : Rgn) (v13 : Value) (F14 : FP) (e_7 : Env) (h15 : SlO 3 (kInt .i64) x12 v13 F14) (h_8 : e_7 0 = .pointer (some ⟨b1, 0, none⟩)) (h_9 : e_7 1 = ptrV a7) (hp : fettleref11_Deque_Step.jn10 a2 a7 x12 x16 x17 R18 = some r), ∀ w, St E H [bx b1 74 [v13, .int .i64 x16, .int .i64 x17, .bool a2.busy], F14, rgF R18] w → K_5 e_7 w := by
    intro x12 x16 x17 R18 v13 F14 e_7 h15 h_8 h_9 hp
    unfold fettleref11_Deque_Step.jn10 at hp
    refine TC.go hK_6 ?_
    refine TC.seq fun K_11 hK_12 => ?_
    refine TC.region ?_
    refine TL.v (ltb rfl) (rv_mv (v := ptrV a7) h_9) ?_
    obtain ⟨b19, hb_13, hp⟩ := bind_some' hp
    refine TL.v (ltb rfl) (rv_nilCheck (a := ⟨b19, 0, none⟩) (ptrE hb_13)) ?_
    refine TL.v (ltb rfl) (rv_fa (b := b19) (o := 0) fa_127_5 rfl) ?_
    obtain ⟨x20, hx_14, hp⟩ := bind_some' hp
    refine TL.v (ltb rfl) (rv_ld (v := .int .i64 x20.got) (o := 5) (o' := 0) (j := 5) sc_3 rfl (Src.at_ 2 rfl) (in_rs (R := R18) (cs := [.int .i64 x20.kind, .int .i64 x20.next, .int .i64 x20.b, .int .i64 x20.t, .int .i64 x20.x, .int .i64 x20.got, .bool x20.won]) hx_14 rfl) rfl rfl) ?_
    refine TL.v (ltb rfl) (rv_neq (k := .i64) (m := x20.got) (n := 0) rfl rfl) ?_
    refine TL.v (ltb rfl) (rv_mv (v := .bool (decide (¬ x20.got = 0))) rfl) ?_
    refine TL.cut 6 fun K_15 hK_16 => ?_
    have hJ_17 : ∀ e_19 : Env, e_19 0 = .pointer (some ⟨b1, 0, none⟩) → e_19 39 = .bool (decide ((¬ x20.got = 0) ∧ (¬ x20.kind = 3))) → ∀ w, St E H [bx b1 74 [v13, .int .i64 x16, .int .i64 x17, .bool a2.busy], F14, rgF R18] w → K_15 e_19 w := by
      intro e_19 h_20 h_21
      refine TL.go hK_16 ?_
      refine TL.nil ?_
      refine TC.go hK_12 ?_
      by_cases hc_22 : (¬ x20.got = 0) ∧ (¬ x20.kind = 3)
      · rw [if_pos hc_22] at hp
        refine TC.condT (h_21.trans (bT hc_22)) ?_
        refine TC.region ?_
        refine TL.v (ltb rfl) (rv_mv (v := .pointer (some ⟨b1, 0, none⟩)) h_20) ?_
        refine TL.v (ltb rfl) (rv_nilCheck (a := ⟨b1, 0, none⟩) rfl) ?_
        refine TL.v (ltb rfl) (rv_fa (b := b1) (o := 0) fa_74_3 rfl) ?_
        refine TL.stB (ds := [.bool false]) (o := 3) (cs := [v13, .int .i64 x16, .int .i64 x17, .bool a2.busy]) (b := b1) (u := .bool false) 0 rfl ms_4 rfl rfl rfl (oc rfl oc0) (leb rfl) ?_
        refine TL.norm (L' := [bx b1 74 [v13, .int .i64 x16, .int .i64 x17, .bool false], F14, rgF R18]) rfl ?_
        refine TL.nil ?_
        obtain rfl := Option.some.inj hp
        exact fun w hw => retOk ⟨v13, F14, rfl, rfl, h15⟩ (hw.pick [0, 0, 0])
      · rw [if_neg hc_22] at hp
        refine TC.condF (h_21.trans (bF hc_22)) ?_
        refine TC.skip ?_
        obtain rfl := Option.some.inj hp
        exact fun w hw => retOk ⟨v13, F14, rfl, rfl, h15⟩ (hw.pick [0, 0, 0])
    by_cases hc_18 : ¬ x20.got = 0
    · refine TL.gyes true (yieldE_of rfl (bT hc_18)) rfl ?_
      refine TL.v (ltb rfl) (rv_mv (v := ptrV a7) h_9) ?_
      refine TL.gyes true (yieldE_of rfl (bT hc_18)) rfl ?_
      refine TL.v (ltb rfl) (rv_nilCheck (a := ⟨b19, 0, none⟩) (ptrE hb_13)) ?_
      refine TL.gyes true (yieldE_of rfl (bT hc_18)) rfl ?_
      refine TL.v (ltb rfl) (rv_fa (b := b19) (o := 0) fa_127_0 rfl) ?_
      refine TL.gyes true (yieldE_of rfl (bT hc_18)) rfl ?_
      refine TL.v (ltb rfl) (rv_ld (v := .int .i64 x20.kind) (o := 0) (o' := 0) (j := 0) sc_3 rfl (Src.at_ 2 rfl) (in_rs (R := R18) (cs := [.int .i64 x20.kind, .int .i64 x20.next, .int .i64 x20.b, .int .i64 x20.t, .int .i64 x20.x, .int .i64 x20.got, .bool x20.won]) hx_14 rfl) rfl rfl) ?_
      refine TL.gyes true (yieldE_of rfl (bT hc_18)) rfl ?_
      refine TL.v (ltb rfl) (rv_neq (k := .i64) (m := x20.kind) (n := 3) rfl rfl) ?_
      refine TL.v (ltb rfl) (rv_pickT true (bT hc_18) rfl (v := .bool (decide (¬ x20.kind = 3))) rfl) ?_
      refine TL.nil (hJ_17 _ ?_ ?_)
      · exact h_8
      · exact (bAt hc_18)
    · refine TL.gno false rfl (fun d hd => by cases hd; exact ltb rfl) (yieldE_of rfl (bF hc_18)) rfl ?_
      refine TL.gno false rfl (fun d hd => by cases hd; exact ltb rfl) (yieldE_of rfl (bF hc_18)) rfl ?_
      refine TL.gno false rfl (fun d hd => by cases hd; exact ltb rfl) (yieldE_of rfl (bF hc_18)) rfl ?_
      refine TL.gno false rfl (fun d hd => by cases hd; exact ltb rfl) (yieldE_of rfl (bF hc_18)) rfl ?_
      refine TL.gno false rfl (fun d hd => by cases hd; exact ltb rfl) (yieldE_of rfl (bF hc_18)) rfl ?_
      refine TL.v (ltb rfl) (rv_pickF false (bF hc_18) rfl (v := .bool false) rfl) ?_
      refine TL.nil (hJ_17 _ ?_ ?_)
      · exact h_8
      · exact (bAf hc_18)
  refine TC.seq fun K_23 hK_24 => ?_
  refine TC.region ?_
  refine TL.v (ltb rfl) (rv_mv (v := ptrV a7) rfl) ?_
  refine TL.v (ltb rfl) (rv_nilCheck (a := ⟨b10, 0, none⟩) (ptrE hb_3)) ?_
  refine TL.v (ltb rfl) (rv_fa (b := b10) (o := 0) fa_127_0 rfl) ?_
  refine TL.v (ltb rfl) (rv_ld (v := .int .i64 x11.kind) (o := 0) (o' := 0) (j := 0) sc_3 rfl (Src.at_ 2 rfl) (in_rs (R := (R9.set_rs b10 (⟨x11.kind, (w64 (x11.next + 1)), x11.b, x11.t, x11.x, x11.got, x11.won⟩ : POp))) (cs := [.int .i64 x11.kind, .int .i64 (w64 (x11.next + 1)), .int .i64 x11.b, .int .i64 x11.t, .int .i64 x11.x, .int .i64 x11.got, .bool x11.won]) (look_setL _ _ _ _ hx_4) rfl) rfl rfl) ?_
  refine TL.nil ?_
  refine TC.go hK_24 ?_
  refine TC.block ?_
  refine TC.seq fun K_25 hK_26 => ?_
  refine TC.region ?_
  refine TL.v (ltb rfl) (rv_eql (k := .i64) (m := x11.kind) (n := 1) rfl rfl) ?_
  refine TL.v (ltb rfl) (rv_as (v := .bool (decide (x11.kind = 1))) rfl) ?_
  refine TL.nil ?_
  refine TC.go hK_26 ?_
  by_cases hc_27 : x11.kind = 1
  · rw [if_pos hc_27] at hp
    refine TC.condT (bT hc_27) ?_
    refine TC.region ?_
    refine TL.v (ltb rfl) (rv_mv (v := .pointer (some ⟨b1, 0, none⟩)) rfl) ?_
    refine TL.v (ltb rfl) (rv_mv (v := ptrV a7) rfl) ?_
    obtain ⟨x21, hy_28, hp⟩ := bind_some' hp
    refine TL.callC (vs := [.pointer (some ⟨b1, 0, none⟩), ptrV a7]) (R := fettleref11_Deque_push.R b1 a2 x21) [bx b1 74 [v3, .int .i64 a2.top, .int .i64 a2.bottom, .bool a2.busy], F4, rgF (R9.set_rs b10 (⟨x11.kind, (w64 (x11.next + 1)), x11.b, x11.t, x11.x, x11.got, x11.won⟩ : POp))] [] rfl cb_68 (ltb rfl) (mc rfl (mc rfl m0)) (fun w hw => fettleref11_Deque_push_ok (a2 := a2) (a7 := a7) (R9 := (R9.set_rs b10 (⟨x11.kind, (w64 (x11.next + 1)), x11.b, x11.t, x11.x, x11.got, x11.won⟩ : POp))) h5 hy_28 hw) fun v A' hR_29 => ?_
    obtain ⟨v22, F23, rfl, rfl, h24⟩ := hR_29
    refine TL.norm (L' := [bx b1 74 [v22, .int .i64 a2.top, .int .i64 x21.2.1, .bool a2.busy], F23, rgF x21.2.2]) rfl ?_
    refine TL.nil ?_
    refine fun w hw => hJ_10 x21.1 a2.top x21.2.1 x21.2.2 v22 F23 _ h24 ?_ ?_ hp w (hw.pick [0, 0, 0])
    · exact rfl
    · exact rfl
  · rw [if_neg hc_27] at hp
    refine TC.condF (bF hc_27) ?_
    refine TC.seq fun K_30 hK_31 => ?_
    refine TC.region ?_
    refine TL.v (ltb rfl) (rv_eql (k := .i64) (m := x11.kind) (n := 2) rfl rfl) ?_
    refine TL.v (ltb rfl) (rv_as (v := .bool (decide (x11.kind = 2))) rfl) ?_
    refine TL.nil ?_
    refine TC.go hK_31 ?_
    by_cases hc_32 : x11.kind = 2
    · rw [if_pos hc_32] at hp
      refine TC.condT (bT hc_32) ?_
      refine TC.region ?_
      refine TL.v (ltb rfl) (rv_mv (v := .pointer (some ⟨b1, 0, none⟩)) rfl) ?_
      refine TL.v (ltb rfl) (rv_mv (v := ptrV a7) rfl) ?_
      refine TL.pk' [0, 1, 0] (L' := [bx b1 74 [v3, .int .i64 a2.top, .int .i64 a2.bottom, .bool a2.busy], rgF (R9.set_rs b10 (⟨x11.kind, (w64 (x11.next + 1)), x11.b, x11.t, x11.x, x11.got, x11.won⟩ : POp)), F4]) rfl ?_
      obtain ⟨x25, hy_33, hp⟩ := bind_some' hp
      refine TL.callC (vs := [.pointer (some ⟨b1, 0, none⟩), ptrV a7]) (R := fettleref11_Deque_pop.R b1 a2 v3 x25) [bx b1 74 [v3, .int .i64 a2.top, .int .i64 a2.bottom, .bool a2.busy], rgF (R9.set_rs b10 (⟨x11.kind, (w64 (x11.next + 1)), x11.b, x11.t, x11.x, x11.got, x11.won⟩ : POp))] [F4] rfl cb_69 (ltb rfl) (mc rfl (mc rfl m0)) (fun w hw => fettleref11_Deque_pop_ok (a2 := a2) (a6 := a7) (R8 := (R9.set_rs b10 (⟨x11.kind, (w64 (x11.next + 1)), x11.b, x11.t, x11.x, x11.got, x11.won⟩ : POp))) (h5.ro.mono (subB 0 rfl)) hy_33 hw) fun v A' hR_34 => ?_
      obtain ⟨rfl, rfl⟩ := hR_34
      refine TL.norm (L' := [bx b1 74 [v3, .int .i64 x25.1, .int .i64 x25.2.1, .bool a2.busy], rgF x25.2.2, F4]) rfl ?_
      refine TL.nil ?_
      refine fun w hw => hJ_10 a2.cells x25.1 x25.2.1 x25.2.2 v3 F4 _ h5 ?_ ?_ hp w (hw.pick [0, 1, 0])
      · exact rfl
      · exact rfl
    · rw [if_neg hc_32] at hp
      refine TC.condF (bF hc_32) ?_
      refine TC.region ?_
      refine TL.v (ltb rfl) (rv_mv (v := .pointer (some ⟨b1, 0, none⟩)) rfl) ?_
      refine TL.v (ltb rfl) (rv_mv (v := ptrV a7) rfl) ?_
      refine TL.pk' [0, 1, 0] (L' := [bx b1 74 [v3, .int .i64 a2.top, .int .i64 a2.bottom, .bool a2.busy], rgF (R9.set_rs b10 (⟨x11.kind, (w64 (x11.next + 1)), x11.b, x11.t, x11.x, x11.got, x11.won⟩ : POp)), F4]) rfl ?_
      obtain ⟨x26, hy_35, hp⟩ := bind_some' hp
      refine TL.callC (vs := [.pointer (some ⟨b1, 0, none⟩), ptrV a7]) (R := fettleref11_Deque_steal.R b1 a2 v3 x26) [bx b1 74 [v3, .int .i64 a2.top, .int .i64 a2.bottom, .bool a2.busy], rgF (R9.set_rs b10 (⟨x11.kind, (w64 (x11.next + 1)), x11.b, x11.t, x11.x, x11.got, x11.won⟩ : POp))] [F4] rfl cb_70 (ltb rfl) (mc rfl (mc rfl m0)) (fun w hw => fettleref11_Deque_steal_ok (a2 := a2) (a6 := a7) (R8 := (R9.set_rs b10 (⟨x11.kind, (w64 (x11.next + 1)), x11.b, x11.t, x11.x, x11.got, x11.won⟩ : POp))) (h5.ro.mono (subB 0 rfl)) hy_35 hw) fun v A' hR_36 => ?_
      obtain ⟨rfl, rfl⟩ := hR_36
      refine TL.norm (L' := [bx b1 74 [v3, .int .i64 x26.1, .int .i64 a2.bottom, .bool a2.busy], rgF x26.2, F4]) rfl ?_
      refine TL.nil ?_
      refine fun w hw => hJ_10 a2.cells x26.1 a2.bottom x26.2 v3 F4 _ h5 ?_ ?_ hp w (hw.pick [0, 1, 0])
      · exact rfl
      · exact rfl

/-! ### (*fettle/fettleref11.Op).Result -/
abbrev fettleref11_Op_Result.R (R3 : Rgn) (r : Int × Int) (v : Value) (A : List FP) : Prop := .tuple #[.int .i64 r.1, .int .i64 r.2] = v ∧ A = [rgF R3]
def fettleref11_Op_Result (a1 : Option Nat) (R3 : Rgn) : Option (Int × Int) :=
  (a1).bind fun b4 =>
  (look (R3).rs b4).bind fun x5 =>
  if x5.got = 1 then
    some (1, x5.x)
  else
    some (x5.got, 0)
theorem fettleref11_Op_Result_ok {E : World} {H : FP} {w : World} {a1 : Option Nat} {R3 : Rgn} {r : Int × Int}  (hp : fettleref11_Op_Result a1 R3 = some r) (hst : St E H [rgF R3] w) :
    Fn Try.prog 40 #[ptrV a1] w fun v w' => ∃ A, fettleref11_Op_Result.R R3 r v A ∧ St E H A w' := by
  refine Fn.body (fn := Try.f40) (args := [ptrV a1]) E H [rgF R3] [.tmp 2, .tmp 3] 17 Try.func40 rfl rfl rfl rfl (leb rfl) hst ?_
  unfold fettleref11_Op_Result at hp
  refine TC.seq fun K_1 hK_2 => ?_
  refine TC.region ?_
  refine TL.v (ltb rfl) (rv_as (v := .int .i64 0) rfl) ?_
  refine TL.v (ltb rfl) (rv_as (v := .int .i64 0) rfl) ?_
  refine TL.nil ?_
  refine TC.go hK_2 ?_
  refine TC.seq fun K_3 hK_4 => ?_
  refine TC.seq fun K_5 hK_6 => ?_
  refine TC.region ?_
  refine TL.v (ltb rfl) (rv_mv (v := ptrV a1) rfl) ?_
  obtain ⟨b4, hb_7, hp⟩ := bind_some' hp
  refine TL.v (ltb rfl) (rv_nilCheck (a := ⟨b4, 0, none⟩) (ptrE hb_7)) ?_
  refine TL.v (ltb rfl) (rv_fa (b := b4) (o := 0) fa_127_5 rfl) ?_
  obtain ⟨x5, hx_8, hp⟩ := bind_some' hp
  refine TL.v (ltb rfl) (rv_ld (v := .int .i64 x5.got) (o := 5) (o' := 0) (j := 5) sc_3 rfl (Src.at_ 0 rfl) (in_rs (R := R3) (cs := [.int .i64 x5.kind, .int .i64 x5.next, .int .i64 x5.b, .int .i64 x5.t, .int .i64 x5.x, .int .i64 x5.got, .bool x5.won]) hx_8 rfl) rfl rfl) ?_
  refine TL.v (ltb rfl) (rv_eql (k := .i64) (m := x5.got) (n := 1) rfl rfl) ?_
  refine TL.nil ?_
  refine TC.go hK_6 ?_
  by_cases hc_9 : x5.got = 1
  · rw [if_pos hc_9] at hp
    refine TC.condT (bT hc_9) ?_
    refine TC.seq fun K_10 hK_11 => ?_
    refine TC.quiet mix (by kernel_rfl) ?_
    refine QL.v (ltb rfl) (rv_mv (v := ptrV a1) rfl) ?_
    refine QL.v (ltb rfl) (rv_nilCheck (a := ⟨b4, 0, none⟩) (ptrE hb_7)) ?_
    refine QL.v (ltb rfl) (rv_fa (b := b4) (o := 0) fa_127_4 rfl) ?_
    refine QL.v (ltb rfl) (rv_ld (v := .int .i64 x5.x) (o := 4) (o' := 0) (j := 4) sc_3 rfl (Src.at_ 0 rfl) (in_rs (R := R3) (cs := [.int .i64 x5.kind, .int .i64 x5.next, .int .i64 x5.b, .int .i64 x5.t, .int .i64 x5.x, .int .i64 x5.got, .bool x5.won]) hx_8 rfl) rfl rfl) ?_
    refine QL.v (ltb rfl) (rv_as (v := .int .i64 1) rfl) ?_
    refine QL.v (ltb rfl) (rv_as (v := .int .i64 x5.x) rfl) ?_
    refine QL.nil ?_
    refine TC.go hK_11 ?_
    refine TC.ret ?_
    obtain rfl := Option.some.inj hp
    exact fun w hw => retOk ⟨(tu2 rfl rfl).symm, rfl⟩ (hw.pick [0])
  · rw [if_neg hc_9] at hp
    refine TC.condF (bF hc_9) ?_
    refine TC.skip ?_
    refine TC.go hK_4 ?_
    refine TC.seq fun K_12 hK_13 => ?_
    refine TC.region ?_
    refine TL.v (ltb rfl) (rv_mv (v := ptrV a1) rfl) ?_
    refine TL.v (ltb rfl) (rv_nilCheck (a := ⟨b4, 0, none⟩) (ptrE hb_7)) ?_
    refine TL.v (ltb rfl) (rv_fa (b := b4) (o := 0) fa_127_5 rfl) ?_
    refine TL.v (ltb rfl) (rv_ld (v := .int .i64 x5.got) (o := 5) (o' := 0) (j := 5) sc_3 rfl (Src.at_ 0 rfl) (in_rs (R := R3) (cs := [.int .i64 x5.kind, .int .i64 x5.next, .int .i64 x5.b, .int .i64 x5.t, .int .i64 x5.x, .int .i64 x5.got, .bool x5.won]) hx_8 rfl) rfl rfl) ?_
    refine TL.v (ltb rfl) (rv_as (v := .int .i64 x5.got) rfl) ?_
    refine TL.v (ltb rfl) (rv_as (v := .int .i64 0) rfl) ?_
    refine TL.nil ?_
    refine TC.go hK_13 ?_
    refine TC.ret ?_
    obtain rfl := Option.some.inj hp
    exact fun w hw => retOk ⟨(tu2 rfl rfl).symm, rfl⟩ (hw.pick [0])

/-! ### fettle/fettleref11.New -/
abbrev fettleref11_New.R (r : PDeque) (v : Value) (A : List FP) : Prop := ∃ (n1 : Nat) (w2 : Value) (G2 : FP), .pointer (some ⟨n1, 0, none⟩) = v ∧ A = [bx n1 74 [w2, .int .i64 r.top, .int .i64 r.bottom, .bool r.busy], G2] ∧ SlO 3 (kInt .i64) r.cells w2 G2
def fettleref11_New  : Option PDeque :=
  (mkl 64 (0 : Int)).bind fun x1 =>
  some (⟨x1, 0, 0, false⟩ : PDeque)
theorem fettleref11_New_ok {E : World} {H : FP} {w : World} {r : PDeque}  (hp : fettleref11_New = some r) (hst : St E H [] w) :
    Fn Try.prog 37 #[] w fun v w' => ∃ A, fettleref11_New.R r v A ∧ St E H A w' := by
  refine Fn.body (fn := Try.f37) (args := []) E H [] [.tmp 0] 4 Try.func37 rfl rfl rfl rfl (leb rfl) hst ?_
  unfold fettleref11_New at hp
  refine TC.seq fun K_1 hK_2 => ?_
  refine TC.region ?_
  refine TL.v (ltb rfl) (rv_as (v := .pointer none) rfl) ?_
  refine TL.nil ?_
  refine TC.go hK_2 ?_
  refine TC.seq fun K_3 hK_4 => ?_
  refine TC.region ?_
  obtain ⟨x1, hz_5, hp⟩ := bind_some' hp
  refine TL.mk (k := (kInt .i64)) (n := 64) (x0 := (0 : Int)) Try.underlying22 inf_3 (ltb rfl) (ltb rfl) rfl rfl (leb rfl) rfl ⟨rfl, rfl⟩ hz_5 fun v2 F3 h4 => ?_
  refine TL.v (ltb rfl) (rv_bv (vs := [(0, v2)]) (ds := [v2, .int .i64 0, .int .i64 0, .bool false]) (pc rfl p0) (fun w => by obtain ⟨_, _, rfl⟩ := (h4).len; kernel_rfl)) ?_
  refine TL.box (cs := [v2, .int .i64 0, .int .i64 0, .bool false]) (v := .agg #[v2, .int .i64 0, .int .i64 0, .bool false]) (ltb rfl) rfl rfl fun b5 => ?_
  refine TL.v (ltb rfl) (rv_as (v := .pointer (some ⟨b5, 0, none⟩)) rfl) ?_
  refine TL.nil ?_
  refine TC.go hK_4 ?_
  refine TC.ret ?_
  obtain rfl := Option.some.inj hp
  exact fun w hw => retOk ⟨b5, v2, F3, rfl, rfl, h4⟩ (hw.pick [0, 0])

/-! ### fettle/fettlelaw11.begun -/
abbrev fettlelaw11_begun.R (b2 : Nat) (a3 : PDeque) (v4 : Value) (Q : (PPair × Bool × Bool × Bool × Rgn) → Prop) (v : Value) (A : List FP) : Prop := ∃ r, Q r ∧ .tuple #[.agg #[ptrV r.1.o, ptrV r.1.m], .bool r.2.1, .bool r.2.2.1] = v ∧ A = [bx b2 74 [v4, .int .i64 a3.top, .int .i64 a3.bottom, .bool r.2.2.2.1], rgF r.2.2.2.2]
def fettlelaw11_begun.jn28 (a3 : PDeque) (a7 : Int) (a8 : Int) (R14 : Rgn) (x15 : Option Nat) (x16 : GErr) : D (PPair × Bool × Bool × Bool × Rgn) :=
  if a3.busy = true then
    rD ((⟨none, none⟩ : PPair), false, (decide (x16 = (GErr.code 7) ∧ x15 = none)), a3.busy, R14)
  else
    freshD (Rgn.names R14) fun b20 =>
    rD ((⟨x15, (some b20)⟩ : PPair), (decide (¬ x15 = none)), (decide (x16 = GErr.no ∧ (¬ x15 = none))), true, (R14.add_rs b20 (⟨(w64 (a7 + 1)), 0, 0, 0, a8, 0, false⟩ : POp)))
def fettlelaw11_begun (a1 : Option Nat) (a3 : PDeque) (a7 : Int) (a8 : Int) (R10 : Rgn) : D (PPair × Bool × Bool × Bool × Rgn) :=
  if a7 = 2 then
    bD (deque_Deque_Steal a1 R10) fun x12 =>
    freshD (Rgn.names x12.2) fun b13 =>
    rD ((⟨x12.1, (some b13)⟩ : PPair), (decide (¬ x12.1 = none)), (decide (¬ x12.1 = none)), a3.busy, (x12.2.add_rs b13 (⟨3, 0, 0, 0, 0, 0, false⟩ : POp)))
  else
    if a7 = 0 then
      bD (deque_Deque_Push a1 a8 R10) fun x21 =>
      fettlelaw11_begun.jn28 a3 a7 a8 x21.2.2 x21.1 x21.2.1
    else
      bD (deque_Deque_Pop a1 R10) fun x25 =>
      fettlelaw11_begun.jn28 a3 a7 a8 x25.2.2 x25.1 x25.2.1
theorem fettlelaw11_begun_ok {E : World} {H : FP} {w : World} {a1 : Option Nat} {a3 : PDeque} {a7 : Int} {a8 : Int} {R10 : Rgn} {b2 : Nat} {v4 : Value} {Q : (PPair × Bool × Bool × Bool × Rgn) → Prop} (h5 : SlI (kInt .i64) H a3.cells v4) (hp : fettlelaw11_begun a1 a3 a7 a8 R10 Q) (hst : St E H [bx b2 74 [v4, .int .i64 a3.top, .int .i64 a3.bottom, .bool a3.busy], rgF R10] w) :
    Fn Try.prog 38 #[ptrV a1, .pointer (some ⟨b2, 0, none⟩), .int .i64 a7, .int .i64 a8] w fun v w' => ∃ A, fettlelaw11_begun.R b2 a3 v4 Q v A ∧ St E H A w' := by
  refine Fn.bodyV (fn := Try.f38) (args := [ptrV a1, .pointer (some ⟨b2, 0, none⟩), .int .i64 a7, .int .i64 a8]) E H [bx b2 74 [v4, .int .i64 a3.top, .int .i64 a3.bottom, .bool a3.busy], rgF R10] 69 Try.func38 rfl rfl (leb rfl) hst ?_
  unfold fettlelaw11_begun at hp
  refine TC.seq fun K_1 hK_2 => ?_
  refine TC.region ?_
  refine TL.alloc (cs := [.pointer none, .pointer none]) inf_68 (ltb rfl) rfl fun b11 => ?_
  refine TL.v (ltb rfl) (rv_as (v := .bool false) rfl) ?_
  refine TL.v (ltb rfl) (rv_as (v := .bool false) rfl) ?_
  refine TL.nil ?_
  refine TC.go hK_2 ?_
  refine TC.seq fun K_3 hK_4 => ?_
  refine TC.seq fun K_5 hK_6 => ?_
  refine TC.region ?_
  refine TL.v (ltb rfl) (rv_mv (v := .int .i64 a7) rfl) ?_
  refine TL.v (ltb rfl) (rv_eql (k := .i64) (m := a7) (n := 2) rfl rfl) ?_
  refine TL.nil ?_
  refine TC.go hK_6 ?_
  by_cases hc_7 : a7 = 2
  · rw [if_pos hc_7] at hp
    refine TC.condT (bT hc_7) ?_
    refine TC.seq fun K_8 hK_9 => ?_
    refine TC.region ?_
    refine TL.v (ltb rfl) (rv_mv (v := ptrV a1) rfl) ?_
    refine TL.pk' [2, 0, 0] (L' := [rgF R10, bx b11 68 [.pointer none, .pointer none], bx b2 74 [v4, .int .i64 a3.top, .int .i64 a3.bottom, .bool a3.busy]]) rfl ?_
    have hp := bD' hp
    refine TL.callC (vs := [ptrV a1]) (R := deque_Deque_Steal.R _) [rgF R10] [bx b11 68 [.pointer none, .pointer none], bx b2 74 [v4, .int .i64 a3.top, .int .i64 a3.bottom, .bool a3.busy]] rfl cb_36 (ltb rfl) (mc rfl m0) (fun w hw => deque_Deque_Steal_ok (a1 := a1) (R3 := R10) hp hw) fun v A' hR_11 => ?_
    obtain ⟨x12, hp, rfl, rfl⟩ := hR_11
    refine TL.norm (L' := [rgF x12.2, bx b11 68 [.pointer none, .pointer none], bx b2 74 [v4, .int .i64 a3.top, .int .i64 a3.bottom, .bool a3.busy]]) rfl ?_
    refine TL.v (ltb rfl) (rv_as (v := ptrV x12.1) rfl) ?_
    refine TL.nil ?_
    refine TC.go hK_9 ?_
    refine TC.seq fun K_12 hK_13 => ?_
    refine TC.region ?_
    refine TL.v (ltb rfl) (rv_mv (v := ptrV x12.1) rfl) ?_
    refine TL.v (ltb rfl) (rv_bv (vs := [(0, .int .i64 3)]) (ds := [.int .i64 3, .int .i64 0, .int .i64 0, .int .i64 0, .int .i64 0, .int .i64 0, .bool false]) (pc rfl p0) (fun w => by kernel_rfl)) ?_
    refine TL.boxR (cs := [.int .i64 3, .int .i64 0, .int .i64 0, .int .i64 0, .int .i64 0, .int .i64 0, .bool false]) (v := .agg #[.int .i64 3, .int .i64 0, .int .i64 0, .int .i64 0, .int .i64 0, .int .i64 0, .bool false]) (F' := fun b13 => rgF (x12.2.add_rs b13 (⟨3, 0, 0, 0, 0, 0, false⟩ : POp))) 0 rfl (ltb rfl) rfl rfl (add_rs_perm x12.2 (⟨3, 0, 0, 0, 0, 0, false⟩ : POp) rfl) fun b13 hb_14 => ?_
    have hp := hp b13 hb_14
    refine TL.norm (L' := [rgF (x12.2.add_rs b13 (⟨3, 0, 0, 0, 0, 0, false⟩ : POp)), bx b11 68 [.pointer none, .pointer none], bx b2 74 [v4, .int .i64 a3.top, .int .i64 a3.bottom, .bool a3.busy]]) rfl ?_
    refine TL.v (ltb rfl) (rv_bv (vs := [(0, ptrV x12.1), (1, .pointer (some ⟨b13, 0, none⟩))]) (ds := [ptrV x12.1, .pointer (some ⟨b13, 0, none⟩)]) (pc rfl (pc rfl p0)) (fun w => by kernel_rfl)) ?_
    refine TL.v (ltb rfl) (rv_mv (v := ptrV x12.1) rfl) ?_
    refine TL.v (ltb rfl) (rv_neqPN (p := x12.1) pn_44 rfl rfl) ?_
    refine TL.v (ltb rfl) (rv_mv (v := ptrV x12.1) rfl) ?_
    refine TL.v (ltb rfl) (rv_neqPN (p := x12.1) pn_44 rfl rfl) ?_
    refine TL.stB (ds := [ptrV x12.1, .pointer (some ⟨b13, 0, none⟩)]) (o := 0) (cs := [.pointer none, .pointer none]) (b := b11) (u := .agg #[ptrV x12.1, .pointer (some ⟨b13, 0, none⟩)]) 1 rfl ms_68 rfl rfl rfl (oc rfl (oc rfl oc0)) (leb rfl) ?_
    refine TL.norm (L' := [rgF (x12.2.add_rs b13 (⟨3, 0, 0, 0, 0, 0, false⟩ : POp)), bx b11 68 [ptrV x12.1, .pointer (some ⟨b13, 0, none⟩)], bx b2 74 [v4, .int .i64 a3.top, .int .i64 a3.bottom, .bool a3.busy]]) rfl ?_
    refine TL.v (ltb rfl) (rv_as (v := .bool (decide (¬ x12.1 = none))) rfl) ?_
    refine TL.v (ltb rfl) (rv_as (v := .bool (decide (¬ x12.1 = none))) rfl) ?_
    refine TL.nil ?_
    refine TC.go hK_13 ?_
    refine TC.ret ?_
    exact fun w hw => retC3 hw rfl rfl rfl rfl ag_68 1 rfl rfl ⟨((⟨x12.1, (some b13)⟩ : PPair), (decide (¬ x12.1 = none)), (decide (¬ x12.1 = none)), a3.busy, (x12.2.add_rs b13 (⟨3, 0, 0, 0, 0, 0, false⟩ : POp))), hp, rfl, rfl⟩ (hw.pick [2, 0])
  · rw [if_neg hc_7] at hp
    refine TC.condF (bF hc_7) ?_
    refine TC.skip ?_
    refine TC.go hK_4 ?_
    refine TC.seq fun K_15 hK_16 => ?_
    refine TC.region ?_
    refine TL.v (ltb rfl) (rv_as (v := .pointer none) rfl) ?_
    refine TL.nil ?_
    refine TC.go hK_16 ?_
    refine TC.seq fun K_17 hK_18 => ?_
    refine TC.region ?_
    refine TL.v (ltb rfl) (rv_as (v := .nilIface) rfl) ?_
    refine TL.nil ?_
    refine TC.go hK_18 ?_
    refine TC.seq fun K_19 hK_20 => ?_
    have hJ_28 : ∀ (R14 : Rgn) (x15 : Option Nat) (x16 : GErr) (v17 : Value) (F18 : FP) (e_21 : Env) (h19 : ErO 72 143 145 x16 v17 F18) (h_22 : e_21 1 = .pointer (some ⟨b2, 0, none⟩)) (h_23 : e_21 2 = .int .i64 a7) (h_24 : e_21 3 = .int .i64 a8) (h_25 : e_21 8 = .pointer (some ⟨b11, 0, none⟩)) (h_26 : e_21 12 = ptrV x15) (h_27 : e_21 13 = v17) (hp : fettlelaw11_begun.jn28 a3 a7 a8 R14 x15 x16 Q), ∀ w, St E H [bx b2 74 [v4, .int .i64 a3.top, .int .i64 a3.bottom, .bool a3.busy], rgF R14, bx b11 68 [.pointer none, .pointer none], F18] w → K_19 e_21 w := by
      intro R14 x15 x16 v17 F18 e_21 h19 h_22 h_23 h_24 h_25 h_26 h_27 hp
      unfold fettlelaw11_begun.jn28 at hp
      refine TC.go hK_20 ?_
      refine TC.seq fun K_29 hK_30 => ?_
      refine TC.seq fun K_31 hK_32 => ?_
      refine TC.region ?_
      refine TL.v (ltb rfl) (rv_mv (v := .pointer (some ⟨b2, 0, none⟩)) h_22) ?_
      refine TL.v (ltb rfl) (rv_nilCheck (a := ⟨b2, 0, none⟩) rfl) ?_
      refine TL.v (ltb rfl) (rv_fa (b := b2) (o := 0) fa_74_3 rfl) ?_
      refine TL.v (ltb rfl) (rv_ld (v := .bool a3.busy) (o := 3) (o' := 0) (j := 3) sc_4 rfl (Src.at_ 0 rfl) (bx_cells b2 74 _) rfl rfl) ?_
      refine TL.nil ?_
      refine TC.go hK_32 ?_
      by_cases hc_33 : a3.busy = true
      · rw [if_pos hc_33] at hp
        refine TC.condT (bbT hc_33) ?_
        refine TC.seq fun K_34 hK_35 => ?_
        refine TC.region ?_
        refine TL.v (ltb rfl) (rv_bv (vs := []) (ds := [.pointer none, .pointer none]) p0 (fun w => by kernel_rfl)) ?_
        refine TL.v (ltb rfl) (rv_mv (v := v17) h_27) ?_
        refine TL.v (ltb rfl) (rv_makeIface (v := .int .i64 7) Try.underlying72 (fun ms h => by cases h) rfl) ?_
        refine TL.v (ltb rfl) (rv_eqlEC ifc_49 cmp_72 Try.underlying72 Try.underlying143 (by decide) h19 rfl rfl) ?_
        refine TL.v (ltb rfl) (rv_mv (v := .bool (decide (x16 = (GErr.code 7)))) rfl) ?_
        refine TL.cut 3 fun K_36 hK_37 => ?_
        have hJ_38 : ∀ e_40 : Env, e_40 8 = .pointer (some ⟨b11, 0, none⟩) → e_40 43 = .agg #[.pointer none, .pointer none] → e_40 50 = .bool (decide (x16 = (GErr.code 7) ∧ x15 = none)) → ∀ w, St E H [bx b2 74 [v4, .int .i64 a3.top, .int .i64 a3.bottom, .bool a3.busy], rgF R14, bx b11 68 [.pointer none, .pointer none], F18] w → K_36 e_40 w := by
          intro e_40 h_41 h_42 h_43
          refine TL.go hK_37 ?_
          refine TL.stB (ds := [.pointer none, .pointer none]) (o := 0) (cs := [.pointer none, .pointer none]) (b := b11) (u := .agg #[.pointer none, .pointer none]) 2 rfl ms_68 h_41 h_42 rfl (oc rfl (oc rfl oc0)) (leb rfl) ?_
          refine TL.norm (L' := [bx b2 74 [v4, .int .i64 a3.top, .int .i64 a3.bottom, .bool a3.busy], rgF R14, bx b11 68 [.pointer none, .pointer none], F18]) rfl ?_
          refine TL.v (ltb rfl) (rv_as (v := .bool false) rfl) ?_
          refine TL.v (ltb rfl) (rv_as (v := .bool (decide (x16 = (GErr.code 7) ∧ x15 = none))) h_43) ?_
          refine TL.nil ?_
          refine TC.go hK_35 ?_
          refine TC.ret ?_
          exact fun w hw => retC3 hw rfl h_41 rfl rfl ag_68 2 rfl rfl ⟨((⟨none, none⟩ : PPair), false, (decide (x16 = (GErr.code 7) ∧ x15 = none)), a3.busy, R14), hp, rfl, rfl⟩ (hw.pick [0, 0])
        by_cases hc_39 : x16 = (GErr.code 7)
        · refine TL.gyes true (yieldE_of rfl (bT hc_39)) rfl ?_
          refine TL.v (ltb rfl) (rv_mv (v := ptrV x15) h_26) ?_
          refine TL.gyes true (yieldE_of rfl (bT hc_39)) rfl ?_
          refine TL.v (ltb rfl) (rv_eqlPN (p := x15) pn_44 rfl rfl) ?_
          refine TL.v (ltb rfl) (rv_pickT true (bT hc_39) rfl (v := .bool (decide (x15 = none))) rfl) ?_
          refine TL.nil (hJ_38 _ ?_ ?_ ?_)
          · exact h_25
          · exact rfl
          · exact (bAt hc_39)
        · refine TL.gno false rfl (fun d hd => by cases hd; exact ltb rfl) (yieldE_of rfl (bF hc_39)) rfl ?_
          refine TL.gno false rfl (fun d hd => by cases hd; exact ltb rfl) (yieldE_of rfl (bF hc_39)) rfl ?_
          refine TL.v (ltb rfl) (rv_pickF false (bF hc_39) rfl (v := .bool false) rfl) ?_
          refine TL.nil (hJ_38 _ ?_ ?_ ?_)
          · exact h_25
          · exact rfl
          · exact (bAf hc_39)
      · rw [if_neg hc_33] at hp
        refine TC.condF (bbF hc_33) ?_
        refine TC.skip ?_
        refine TC.go hK_30 ?_
        refine TC.seq fun K_44 hK_45 => ?_
        refine TC.region ?_
        refine TL.v (ltb rfl) (rv_mv (v := .pointer (some ⟨b2, 0, none⟩)) h_22) ?_
        refine TL.v (ltb rfl) (rv_nilCheck (a := ⟨b2, 0, none⟩) rfl) ?_
        refine TL.v (ltb rfl) (rv_fa (b := b2) (o := 0) fa_74_3 rfl) ?_
        refine TL.stB (ds := [.bool true]) (o := 3) (cs := [v4, .int .i64 a3.top, .int .i64 a3.bottom, .bool a3.busy]) (b := b2) (u := .bool true) 0 rfl ms_4 rfl rfl rfl (oc rfl oc0) (leb rfl) ?_
        refine TL.norm (L' := [bx b2 74 [v4, .int .i64 a3.top, .int .i64 a3.bottom, .bool true], rgF R14, bx b11 68 [.pointer none, .pointer none], F18]) rfl ?_
        refine TL.nil ?_
        refine TC.go hK_45 ?_
        refine TC.seq fun K_46 hK_47 => ?_
        refine TC.region ?_
        refine TL.v (ltb rfl) (rv_mv (v := ptrV x15) h_26) ?_
        refine TL.v (ltb rfl) (rv_mv (v := .int .i64 a7) h_23) ?_
        refine TL.v (ltb rfl) (rv_add (k := .i64) (m := a7) (n := 1) rfl rfl) ?_
        refine TL.v (ltb rfl) (rv_mv (v := .int .i64 a8) h_24) ?_
        refine TL.v (ltb rfl) (rv_bv (vs := [(0, .int .i64 (w64 (a7 + 1))), (4, .int .i64 a8)]) (ds := [.int .i64 (w64 (a7 + 1)), .int .i64 0, .int .i64 0, .int .i64 0, .int .i64 a8, .int .i64 0, .bool false]) (pc rfl (pc rfl p0)) (fun w => by kernel_rfl)) ?_
        refine TL.boxR (cs := [.int .i64 (w64 (a7 + 1)), .int .i64 0, .int .i64 0, .int .i64 0, .int .i64 a8, .int .i64 0, .bool false]) (v := .agg #[.int .i64 (w64 (a7 + 1)), .int .i64 0, .int .i64 0, .int .i64 0, .int .i64 a8, .int .i64 0, .bool false]) (F' := fun b20 => rgF (R14.add_rs b20 (⟨(w64 (a7 + 1)), 0, 0, 0, a8, 0, false⟩ : POp))) 1 rfl (ltb rfl) rfl rfl (add_rs_perm R14 (⟨(w64 (a7 + 1)), 0, 0, 0, a8, 0, false⟩ : POp) rfl) fun b20 hb_48 => ?_
        have hp := hp b20 hb_48
        refine TL.norm (L' := [bx b2 74 [v4, .int .i64 a3.top, .int .i64 a3.bottom, .bool true], rgF (R14.add_rs b20 (⟨(w64 (a7 + 1)), 0, 0, 0, a8, 0, false⟩ : POp)), bx b11 68 [.pointer none, .pointer none], F18]) rfl ?_
        refine TL.v (ltb rfl) (rv_bv (vs := [(0, ptrV x15), (1, .pointer (some ⟨b20, 0, none⟩))]) (ds := [ptrV x15, .pointer (some ⟨b20, 0, none⟩)]) (pc rfl (pc rfl p0)) (fun w => by kernel_rfl)) ?_
        refine TL.v (ltb rfl) (rv_mv (v := ptrV x15) h_26) ?_
        refine TL.v (ltb rfl) (rv_neqPN (p := x15) pn_44 rfl rfl) ?_
        refine TL.v (ltb rfl) (rv_mv (v := v17) h_27) ?_
        refine TL.v (ltb rfl) (rv_eqlEN ifc_49 h19 rfl) ?_
        refine TL.v (ltb rfl) (rv_mv (v := .bool (decide (x16 = GErr.no))) rfl) ?_
        refine TL.cut 3 fun K_49 hK_50 => ?_
        have hJ_51 : ∀ e_53 : Env, e_53 8 = .pointer (some ⟨b11, 0, none⟩) → e_53 60 = .agg #[ptrV x15, .pointer (some ⟨b20, 0, none⟩)] → e_53 62 = .bool (decide (¬ x15 = none)) → e_53 68 = .bool (decide (x16 = GErr.no ∧ (¬ x15 = none))) → ∀ w, St E H [bx b2 74 [v4, .int .i64 a3.top, .int .i64 a3.bottom, .bool true], rgF (R14.add_rs b20 (⟨(w64 (a7 + 1)), 0, 0, 0, a8, 0, false⟩ : POp)), bx b11 68 [.pointer none, .pointer none], F18] w → K_49 e_53 w := by
          intro e_53 h_54 h_55 h_56 h_57
          refine TL.go hK_50 ?_
          refine TL.stB (ds := [ptrV x15, .pointer (some ⟨b20, 0, none⟩)]) (o := 0) (cs := [.pointer none, .pointer none]) (b := b11) (u := .agg #[ptrV x15, .pointer (some ⟨b20, 0, none⟩)]) 2 rfl ms_68 h_54 h_55 rfl (oc rfl (oc rfl oc0)) (leb rfl) ?_
          refine TL.norm (L' := [bx b2 74 [v4, .int .i64 a3.top, .int .i64 a3.bottom, .bool true], rgF (R14.add_rs b20 (⟨(w64 (a7 + 1)), 0, 0, 0, a8, 0, false⟩ : POp)), bx b11 68 [ptrV x15, .pointer (some ⟨b20, 0, none⟩)], F18]) rfl ?_
          refine TL.v (ltb rfl) (rv_as (v := .bool (decide (¬ x15 = none))) h_56) ?_
          refine TL.v (ltb rfl) (rv_as (v := .bool (decide (x16 = GErr.no ∧ (¬ x15 = none)))) h_57) ?_
          refine TL.nil ?_
          refine TC.go hK_47 ?_
          refine TC.ret ?_
          exact fun w hw => retC3 hw rfl h_54 rfl rfl ag_68 2 rfl rfl ⟨((⟨x15, (some b20)⟩ : PPair), (decide (¬ x15 = none)), (decide (x16 = GErr.no ∧ (¬ x15 = none))), true, (R14.add_rs b20 (⟨(w64 (a7 + 1)), 0, 0, 0, a8, 0, false⟩ : POp))), hp, rfl, rfl⟩ (hw.pick [0, 0])
        by_cases hc_52 : x16 = GErr.no
        · refine TL.gyes true (yieldE_of rfl (bT hc_52)) rfl ?_
          refine TL.v (ltb rfl) (rv_mv (v := ptrV x15) h_26) ?_
          refine TL.gyes true (yieldE_of rfl (bT hc_52)) rfl ?_
          refine TL.v (ltb rfl) (rv_neqPN (p := x15) pn_44 rfl rfl) ?_
          refine TL.v (ltb rfl) (rv_pickT true (bT hc_52) rfl (v := .bool (decide (¬ x15 = none))) rfl) ?_
          refine TL.nil (hJ_51 _ ?_ ?_ ?_ ?_)
          · exact h_25
          · exact rfl
          · exact rfl
          · exact (bAt hc_52)
        · refine TL.gno false rfl (fun d hd => by cases hd; exact ltb rfl) (yieldE_of rfl (bF hc_52)) rfl ?_
          refine TL.gno false rfl (fun d hd => by cases hd; exact ltb rfl) (yieldE_of rfl (bF hc_52)) rfl ?_
          refine TL.v (ltb rfl) (rv_pickF false (bF hc_52) rfl (v := .bool false) rfl) ?_
          refine TL.nil (hJ_51 _ ?_ ?_ ?_ ?_)
          · exact h_25
          · exact rfl
          · exact rfl
          · exact (bAf hc_52)
    refine TC.seq fun K_58 hK_59 => ?_
    refine TC.region ?_
    refine TL.v (ltb rfl) (rv_mv (v := .int .i64 a7) rfl) ?_
    refine TL.v (ltb rfl) (rv_eql (k := .i64) (m := a7) (n := 0) rfl rfl) ?_
    refine TL.nil ?_
    refine TC.go hK_59 ?_
    by_cases hc_60 : a7 = 0
    · rw [if_pos hc_60] at hp
      refine TC.condT (bT hc_60) ?_
      refine TC.region ?_
      refine TL.v (ltb rfl) (rv_mv (v := ptrV a1) rfl) ?_
      refine TL.v (ltb rfl) (rv_mv (v := .int .i64 a8) rfl) ?_
      refine TL.pk' [2, 0, 0] (L' := [rgF R10, bx b11 68 [.pointer none, .pointer none], bx b2 74 [v4, .int .i64 a3.top, .int .i64 a3.bottom, .bool a3.busy]]) rfl ?_
      have hp := bD' hp
      refine TL.callC (vs := [ptrV a1, .int .i64 a8]) (R := deque_Deque_Push.R _) [rgF R10] [bx b11 68 [.pointer none, .pointer none], bx b2 74 [v4, .int .i64 a3.top, .int .i64 a3.bottom, .bool a3.busy]] rfl cb_34 (ltb rfl) (mc rfl (mc rfl m0)) (fun w hw => deque_Deque_Push_ok (a1 := a1) (a2 := a8) (R4 := R10) hp hw) fun v A' hR_62 => ?_
      obtain ⟨x21, hp, v22, F23, rfl, rfl, h24⟩ := hR_62
      refine TL.norm (L' := [F23, rgF x21.2.2, bx b11 68 [.pointer none, .pointer none], bx b2 74 [v4, .int .i64 a3.top, .int .i64 a3.bottom, .bool a3.busy]]) rfl ?_
      refine TL.v (ltb rfl) (rv_mv (v := .tuple #[ptrV x21.1, v22]) rfl) ?_
      refine TL.v (ltb rfl) (rv_extract (vs := #[ptrV x21.1, v22]) (v := ptrV x21.1) rfl rfl) ?_
      refine TL.v (ltb rfl) (rv_extract (vs := #[ptrV x21.1, v22]) (v := v22) rfl rfl) ?_
      refine TL.v (ltb rfl) (rv_as (v := ptrV x21.1) rfl) ?_
      refine TL.v (ltb rfl) (rv_as (v := v22) rfl) ?_
      refine TL.nil ?_
      refine fun w hw => hJ_28 x21.2.2 x21.1 x21.2.1 v22 F23 _ h24 ?_ ?_ ?_ ?_ ?_ ?_ hp w (hw.pick [3, 1, 1, 0])
      · exact rfl
      · exact rfl
      · exact rfl
      · exact rfl
      · exact rfl
      · exact rfl
    · rw [if_neg hc_60] at hp
      refine TC.condF (bF hc_60) ?_
      refine TC.region ?_
      refine TL.v (ltb rfl) (rv_mv (v := ptrV a1) rfl) ?_
      refine TL.pk' [2, 0, 0] (L' := [rgF R10, bx b11 68 [.pointer none, .pointer none], bx b2 74 [v4, .int .i64 a3.top, .int .i64 a3.bottom, .bool a3.busy]]) rfl ?_
      have hp := bD' hp
      refine TL.callC (vs := [ptrV a1]) (R := deque_Deque_Pop.R _) [rgF R10] [bx b11 68 [.pointer none, .pointer none], bx b2 74 [v4, .int .i64 a3.top, .int .i64 a3.bottom, .bool a3.busy]] rfl cb_63 (ltb rfl) (mc rfl m0) (fun w hw => deque_Deque_Pop_ok (a1 := a1) (R3 := R10) hp hw) fun v A' hR_64 => ?_
      obtain ⟨x25, hp, v26, F27, rfl, rfl, h28⟩ := hR_64
      refine TL.norm (L' := [F27, rgF x25.2.2, bx b11 68 [.pointer none, .pointer none], bx b2 74 [v4, .int .i64 a3.top, .int .i64 a3.bottom, .bool a3.busy]]) rfl ?_
      refine TL.v (ltb rfl) (rv_mv (v := .tuple #[ptrV x25.1, v26]) rfl) ?_
      refine TL.v (ltb rfl) (rv_extract (vs := #[ptrV x25.1, v26]) (v := ptrV x25.1) rfl rfl) ?_
      refine TL.v (ltb rfl) (rv_extract (vs := #[ptrV x25.1, v26]) (v := v26) rfl rfl) ?_
      refine TL.v (ltb rfl) (rv_as (v := ptrV x25.1) rfl) ?_
      refine TL.v (ltb rfl) (rv_as (v := v26) rfl) ?_
      refine TL.nil ?_
      refine fun w hw => hJ_28 x25.2.2 x25.1 x25.2.1 v26 F27 _ h28 ?_ ?_ ?_ ?_ ?_ ?_ hp w (hw.pick [3, 1, 1, 0])
      · exact rfl
      · exact rfl
      · exact rfl
      · exact rfl
      · exact rfl
      · exact rfl
end Go.Proofs.Ytoflleabpkgdpaa
