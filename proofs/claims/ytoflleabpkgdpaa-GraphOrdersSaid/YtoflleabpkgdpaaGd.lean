/- The walk through the program's functions: each one's pure reading, and that a call does what it says. No conditions. -/
import Derived.Test.YtoflleabpkgdpaaGc
set_option linter.unusedVariables false
set_option linter.unusedSimpArgs false
namespace Go.Proofs.Ytoflleabpkgdpaa
open Go Go.Proofs

/-! ### fettle/fettlelaw05.GraphStays -/
abbrev fettlelaw05_GraphStays.R (r : Bool) (v : Value) (A : List FP) : Prop := .bool r = v ∧ A = []
def fettlelaw05_GraphStays.nx121 (a1 : PFunc) (x7 : Bool) (x9 : PFunc) (x56 : List Int) : Option Bool :=
  (graph_Order x9).bind fun x59 =>
  (if x7 = true then (fettleref02_SameFunc x9 a1).bind fun x72 =>
  some x72 else some false).bind fun t63 =>
  (if t63 = true ∧ (len x59) = (len x56) then (if (len x59) = 0 then some true else (idx x59 0).bind fun x66 =>
  some (decide (x66 = 0))).bind fun t65 =>
  some t65 else some false).bind fun t64 =>
  some t64
def fettlelaw05_GraphStays.bd121  (x52 : List Int) (x55 : Int) : Option (Ex (List Int) (List Int × Int)) :=
  if x55 < (len x52) then
    (idx x52 x55).bind fun x73 =>
    some (.go ((x52.set (x55).toNat (-1)), (w64 (x55 + 1))))
  else
    some (.ret x52)
def fettlelaw05_GraphStays.nx101 (a1 : PFunc) (x7 : Bool) (x9 : PFunc) (x28 : List Int) : Option Bool :=
  (whl (fun (s : (List Int × Int)) => fettlelaw05_GraphStays.bd121 s.1 s.2) FUEL (x28, 0)).bind fun z =>
  fettlelaw05_GraphStays.nx121 a1 x7 x9 z
def fettlelaw05_GraphStays.nx201 (x51 : Int) (x83 : List (List Int)) : Option (Ex Unit (List (List Int) × Int)) :=
  some (.go (x83, (w64 (x51 + 1))))
def fettlelaw05_GraphStays.bd201 (x51 : Int) (x79 : List (List Int)) (x82 : Int) : Option (Ex (List (List Int)) (List (List Int) × Int)) :=
  (idx x79 x51).bind fun x86 =>
  if x82 < (len x86) then
    (idx x79 x51).bind fun x94 =>
    (idx x94 x82).bind fun x104 =>
    some (.go ((x79.set (x51).toNat (x94.set (x82).toNat 9)), (w64 (x82 + 1))))
  else
    some (.ret x79)
def fettlelaw05_GraphStays.bd101  (x48 : List (List Int)) (x51 : Int) : Option (Ex Unit (List (List Int) × Int)) :=
  if x51 < (len x48) then
    (whl (fun (s : (List (List Int) × Int)) => fettlelaw05_GraphStays.bd201 x51 s.1 s.2) FUEL (x48, 0)).bind fun z =>
    fettlelaw05_GraphStays.nx201 x51 z
  else
    some (.ret ())
def fettlelaw05_GraphStays.nx76 (a1 : PFunc) (x7 : Bool) (x9 : PFunc) (x28 : List Int) : Option Bool :=
  (graph_Next x9).bind fun x44 =>
  (whl (fun (s : (List (List Int) × Int)) => fettlelaw05_GraphStays.bd101 s.1 s.2) FUEL (x44, 0)).bind fun z =>
  fettlelaw05_GraphStays.nx101 a1 x7 x9 x28
def fettlelaw05_GraphStays.nx270 (x43 : Int) (x123 : List PBlock) : Option (Ex Unit (List PBlock × Int)) :=
  some (.go (x123, (w64 (x43 + 1))))
def fettlelaw05_GraphStays.nx303 (x122 : Int) (x142 : List PBlock) : Option (Ex (List PBlock) (List PBlock × Int)) :=
  some (.go (x142, (w64 (x122 + 1))))
def fettlelaw05_GraphStays.bd303 (x43 : Int) (x122 : Int) (x138 : List PBlock) (x141 : Int) : Option (Ex (List PBlock) (List PBlock × Int)) :=
  (idx x138 x43).bind fun x145 =>
  (idx x145.ins x122).bind fun x157 =>
  if x141 < (len x157.args) then
    (idx x138 x43).bind fun x165 =>
    (idx x165.ins x122).bind fun x182 =>
    (idx x182.args x141).bind fun x193 =>
    some (.go ((x138.set (x43).toNat (⟨x165.phis, (x165.ins.set (x122).toNat (⟨x182.op, x182.dst, (x182.args.set (x141).toNat 9), x182.imm, x182.fn⟩ : PInstr)), (⟨x165.term.kind, x165.term.arg, x165.term.to⟩ : PTerm)⟩ : PBlock)), (w64 (x141 + 1))))
  else
    some (.ret x138)
def fettlelaw05_GraphStays.bd270 (x43 : Int) (x119 : List PBlock) (x122 : Int) : Option (Ex (List PBlock) (List PBlock × Int)) :=
  (idx x119 x43).bind fun x126 =>
  if x122 < (len x126.ins) then
    (whl (fun (s : (List PBlock × Int)) => fettlelaw05_GraphStays.bd303 x43 x122 s.1 s.2) FUEL (x119, 0)).bind fun z =>
    fettlelaw05_GraphStays.nx303 x122 z
  else
    some (.ret x119)
def fettlelaw05_GraphStays.nx248 (x43 : Int) (x116 : List PBlock) : Option (Ex Unit (List PBlock × Int)) :=
  (whl (fun (s : (List PBlock × Int)) => fettlelaw05_GraphStays.bd270 x43 s.1 s.2) FUEL (x116, 0)).bind fun z =>
  fettlelaw05_GraphStays.nx270 x43 z
def fettlelaw05_GraphStays.bd248 (x43 : Int) (x112 : List PBlock) (x115 : Int) : Option (Ex (List PBlock) (List PBlock × Int)) :=
  (idx x112 x43).bind fun x203 =>
  if x115 < (len x203.term.to) then
    (idx x112 x43).bind fun x215 =>
    (idx x215.term.to x115).bind fun x232 =>
    some (.go ((x112.set (x43).toNat (⟨x215.phis, x215.ins, (⟨x215.term.kind, x215.term.arg, (x215.term.to.set (x115).toNat 9)⟩ : PTerm)⟩ : PBlock)), (w64 (x115 + 1))))
  else
    some (.ret x112)
def fettlelaw05_GraphStays.bd76  (x40 : List PBlock) (x43 : Int) : Option (Ex Unit (List PBlock × Int)) :=
  if x43 < (len x40) then
    (whl (fun (s : (List PBlock × Int)) => fettlelaw05_GraphStays.bd248 x43 s.1 s.2) FUEL (x40, 0)).bind fun z =>
    fettlelaw05_GraphStays.nx248 x43 z
  else
    some (.ret ())
def fettlelaw05_GraphStays.nx54 (a1 : PFunc) (x7 : Bool) (x9 : PFunc) (x17 : PFunc × List Int) (x28 : List Int) (x37 : List Int) : Option Bool :=
  (whl (fun (s : (List PBlock × Int)) => fettlelaw05_GraphStays.bd76 s.1 s.2) FUEL (x17.1.blocks, 0)).bind fun z =>
  fettlelaw05_GraphStays.nx76 a1 x7 x9 x28
def fettlelaw05_GraphStays.bd54  (x33 : List Int) (x36 : Int) : Option (Ex (List Int) (List Int × Int)) :=
  if x36 < (len x33) then
    (idx x33 x36).bind fun x240 =>
    some (.go ((x33.set (x36).toNat 9), (w64 (x36 + 1))))
  else
    some (.ret x33)
def fettlelaw05_GraphStays (a1 : PFunc) : Option Bool :=
  (fettlelaw05_up).bind fun x7 =>
  (fettlelaw05_small a1).bind fun x8 =>
  if (!x8) = true then
    some x7
  else
    (fettleref02_CopyFunc a1).bind fun x9 =>
    (graph_Trim x9).bind fun x17 =>
    (graph_Order x9).bind fun x28 =>
    (fettleref02_SameFunc x9 a1).bind fun x32 =>
    if (!x32) = true then
      some false
    else
      (whl (fun (s : (List Int × Int)) => fettlelaw05_GraphStays.bd54 s.1 s.2) FUEL (x17.1.regs, 0)).bind fun z =>
      fettlelaw05_GraphStays.nx54 a1 x7 x9 x17 x28 z
set_option maxHeartbeats 4000000 in
theorem fettlelaw05_GraphStays_ok {E : World} {H : FP} {w : World} {a1 : PFunc} {v2 : Value} {v4 : Value} {r : Bool} (h3 : SlI (kInt .i64) H a1.regs v2) (h5 : SlI kBlock H a1.blocks v4) (hp : fettlelaw05_GraphStays a1 = some r) (hst : St E H [] w) :
    Fn Try.prog 9 #[.agg #[.int .i64 a1.params, .int .i64 a1.result, v2, v4]] w fun v w' => ∃ A, fettlelaw05_GraphStays.R r v A ∧ St E H A w' := by
  refine Fn.body (fn := Try.f9) (args := [.agg #[.int .i64 a1.params, .int .i64 a1.result, v2, v4]]) E H [] [.tmp 2] 173 Try.func9 rfl rfl rfl rfl (leb rfl) hst ?_
  unfold fettlelaw05_GraphStays at hp
  refine TC.seq fun K_1 hK_2 => ?_
  refine TC.region ?_
  refine TL.box (cs := [.int .i64 a1.params, .int .i64 a1.result, v2, v4]) (v := .agg #[.int .i64 a1.params, .int .i64 a1.result, v2, v4]) (ltb rfl) rfl rfl fun b6 => ?_
  refine TL.v (ltb rfl) (rv_as (v := .bool false) rfl) ?_
  refine TL.nil ?_
  refine TC.go hK_2 ?_
  refine TC.seq fun K_3 hK_4 => ?_
  refine TC.region ?_
  obtain ⟨x7, hy_5, hp⟩ := bind_some' hp
  refine TL.callC (vs := []) (R := fettlelaw05_up.R x7) [] [bx b6 25 [.int .i64 a1.params, .int .i64 a1.result, v2, v4]] rfl cb_16 (ltb rfl) m0 (fun w hw => fettlelaw05_up_ok hy_5 hw) fun v A' hR_6 => ?_
  obtain ⟨rfl, rfl⟩ := hR_6
  refine TL.norm (L' := [bx b6 25 [.int .i64 a1.params, .int .i64 a1.result, v2, v4]]) rfl ?_
  refine TL.v (ltb rfl) (rv_as (v := .bool x7) rfl) ?_
  refine TL.nil ?_
  refine TC.go hK_4 ?_
  refine TC.seq fun K_7 hK_8 => ?_
  refine TC.region ?_
  refine TL.v (ltb rfl) (rv_lda (o := 0) (o' := 0) (j := 0) (ds := [.int .i64 a1.params, .int .i64 a1.result, v2, v4]) ag_25 rfl (Src.at_ 0 rfl) (bx_cells b6 25 _) rfl rfl rfl) ?_
  obtain ⟨x8, hy_9, hp⟩ := bind_some' hp
  refine TL.callC (vs := [.agg #[.int .i64 a1.params, .int .i64 a1.result, v2, v4]]) (R := fettlelaw05_small.R x8) [] [bx b6 25 [.int .i64 a1.params, .int .i64 a1.result, v2, v4]] rfl cb_17 (ltb rfl) (mc rfl m0) (fun w hw => fettlelaw05_small_ok (a1 := a1) (h3.mono subH) (h5.mono subH) hy_9 hw) fun v A' hR_10 => ?_
  obtain ⟨rfl, rfl⟩ := hR_10
  refine TL.norm (L' := [bx b6 25 [.int .i64 a1.params, .int .i64 a1.result, v2, v4]]) rfl ?_
  refine TL.v (ltb rfl) (rv_as (v := .bool x8) rfl) ?_
  refine TL.nil ?_
  refine TC.go hK_8 ?_
  refine TC.seq fun K_11 hK_12 => ?_
  refine TC.seq fun K_13 hK_14 => ?_
  refine TC.region ?_
  refine TL.v (ltb rfl) (rv_mv (v := .bool x8) rfl) ?_
  refine TL.v (ltb rfl) (rv_not (b := x8) rfl) ?_
  refine TL.nil ?_
  refine TC.go hK_14 ?_
  by_cases hc_15 : (!x8) = true
  · rw [if_pos hc_15] at hp
    refine TC.condT (bbT hc_15) ?_
    refine TC.seq fun K_16 hK_17 => ?_
    refine TC.region ?_
    refine TL.v (ltb rfl) (rv_mv (v := .bool x7) rfl) ?_
    refine TL.v (ltb rfl) (rv_as (v := .bool x7) rfl) ?_
    refine TL.nil ?_
    refine TC.go hK_17 ?_
    refine TC.ret ?_
    obtain rfl := Option.some.inj hp
    exact fun w hw => retOk ⟨rfl, rfl⟩ (hw.pick [])
  · rw [if_neg hc_15] at hp
    refine TC.condF (bbF hc_15) ?_
    refine TC.skip ?_
    refine TC.go hK_12 ?_
    refine TC.seq fun K_18 hK_19 => ?_
    refine TC.region ?_
    refine TL.v (ltb rfl) (rv_lda (o := 0) (o' := 0) (j := 0) (ds := [.int .i64 a1.params, .int .i64 a1.result, v2, v4]) ag_25 rfl (Src.at_ 0 rfl) (bx_cells b6 25 _) rfl rfl rfl) ?_
    obtain ⟨x9, hy_20, hp⟩ := bind_some' hp
    refine TL.callC (vs := [.agg #[.int .i64 a1.params, .int .i64 a1.result, v2, v4]]) (R := fettleref02_CopyFunc.R x9) [] [bx b6 25 [.int .i64 a1.params, .int .i64 a1.result, v2, v4]] rfl cb_46 (ltb rfl) (mc rfl m0) (fun w hw => fettleref02_CopyFunc_ok (a1 := a1) (h3.mono subH) (h5.mono subH) hy_20 hw) fun v A' hR_21 => ?_
    obtain ⟨v10, F11, v13, F14, rfl, rfl, h12, h15⟩ := hR_21
    refine TL.norm (L' := [F11, F14, bx b6 25 [.int .i64 a1.params, .int .i64 a1.result, v2, v4]]) rfl ?_
    refine TL.alloc (cs := [.int .i64 0, .int .i64 0, .slice none 0 0, .slice none 0 0]) inf_25 (ltb rfl) rfl fun b16 => ?_
    refine TL.stB (ds := [.int .i64 x9.params, .int .i64 x9.result, v10, v13]) (o := 0) (cs := [.int .i64 0, .int .i64 0, .slice none 0 0, .slice none 0 0]) (b := b16) (u := .agg #[.int .i64 x9.params, .int .i64 x9.result, v10, v13]) 0 rfl ms_25 rfl rfl rfl (oc rfl (oc rfl (oc (h12).one (oc (h15).one oc0)))) (leb rfl) ?_
    refine TL.norm (L' := [bx b16 25 [.int .i64 x9.params, .int .i64 x9.result, v10, v13], F11, F14, bx b6 25 [.int .i64 a1.params, .int .i64 a1.result, v2, v4]]) rfl ?_
    refine TL.nil ?_
    refine TC.go hK_19 ?_
    refine TC.seq fun K_22 hK_23 => ?_
    refine TC.region ?_
    refine TL.v (ltb rfl) (rv_lda (o := 0) (o' := 0) (j := 0) (ds := [.int .i64 x9.params, .int .i64 x9.result, v10, v13]) ag_25 rfl (Src.at_ 0 rfl) (bx_cells b16 25 _) rfl rfl rfl) ?_
    obtain ⟨x17, hy_24, hp⟩ := bind_some' hp
    refine TL.callC (vs := [.agg #[.int .i64 x9.params, .int .i64 x9.result, v10, v13]]) (R := graph_Trim.R x17) [] [bx b16 25 [.int .i64 x9.params, .int .i64 x9.result, v10, v13], F11, F14, bx b6 25 [.int .i64 a1.params, .int .i64 a1.result, v2, v4]] rfl cb_42 (ltb rfl) (mc rfl m0) (fun w hw => graph_Trim_ok (a1 := x9) (h12.ro.mono (subB 1 rfl)) (h15.ro.mono (subB 2 rfl)) hy_24 hw) fun v A' hR_25 => ?_
    obtain ⟨v18, F19, v21, F22, v24, F25, rfl, rfl, h20, h23, h26⟩ := hR_25
    refine TL.norm (L' := [F19, F22, F25, bx b16 25 [.int .i64 x9.params, .int .i64 x9.result, v10, v13], F11, F14, bx b6 25 [.int .i64 a1.params, .int .i64 a1.result, v2, v4]]) rfl ?_
    refine TL.v (ltb rfl) (rv_mv (v := .tuple #[.agg #[.int .i64 x17.1.params, .int .i64 x17.1.result, v18, v21], v24]) rfl) ?_
    refine TL.v (ltb rfl) (rv_extract (vs := #[.agg #[.int .i64 x17.1.params, .int .i64 x17.1.result, v18, v21], v24]) (v := .agg #[.int .i64 x17.1.params, .int .i64 x17.1.result, v18, v21]) rfl rfl) ?_
    refine TL.v (ltb rfl) (rv_extract (vs := #[.agg #[.int .i64 x17.1.params, .int .i64 x17.1.result, v18, v21], v24]) (v := v24) rfl rfl) ?_
    refine TL.alloc (cs := [.int .i64 0, .int .i64 0, .slice none 0 0, .slice none 0 0]) inf_25 (ltb rfl) rfl fun b27 => ?_
    refine TL.stB (ds := [.int .i64 x17.1.params, .int .i64 x17.1.result, v18, v21]) (o := 0) (cs := [.int .i64 0, .int .i64 0, .slice none 0 0, .slice none 0 0]) (b := b27) (u := .agg #[.int .i64 x17.1.params, .int .i64 x17.1.result, v18, v21]) 0 rfl ms_25 rfl rfl rfl (oc rfl (oc rfl (oc (h20).one (oc (h23).one oc0)))) (leb rfl) ?_
    refine TL.norm (L' := [bx b27 25 [.int .i64 x17.1.params, .int .i64 x17.1.result, v18, v21], F19, F22, F25, bx b16 25 [.int .i64 x9.params, .int .i64 x9.result, v10, v13], F11, F14, bx b6 25 [.int .i64 a1.params, .int .i64 a1.result, v2, v4]]) rfl ?_
    refine TL.v (ltb rfl) (rv_as (v := v24) rfl) ?_
    refine TL.nil ?_
    refine TC.go hK_23 ?_
    refine TC.seq fun K_26 hK_27 => ?_
    refine TC.region ?_
    refine TL.v (ltb rfl) (rv_lda (o := 0) (o' := 0) (j := 0) (ds := [.int .i64 x9.params, .int .i64 x9.result, v10, v13]) ag_25 rfl (Src.at_ 4 rfl) (bx_cells b16 25 _) rfl rfl rfl) ?_
    obtain ⟨x28, hy_28, hp⟩ := bind_some' hp
    refine TL.callC (vs := [.agg #[.int .i64 x9.params, .int .i64 x9.result, v10, v13]]) (R := graph_Order.R x28) [] [bx b27 25 [.int .i64 x17.1.params, .int .i64 x17.1.result, v18, v21], F19, F22, F25, bx b16 25 [.int .i64 x9.params, .int .i64 x9.result, v10, v13], F11, F14, bx b6 25 [.int .i64 a1.params, .int .i64 a1.result, v2, v4]] rfl cb_20 (ltb rfl) (mc rfl m0) (fun w hw => graph_Order_ok (a1 := x9) (h12.ro.mono (subB 5 rfl)) (h15.ro.mono (subB 6 rfl)) hy_28 hw) fun v A' hR_29 => ?_
    obtain ⟨v29, F30, rfl, rfl, h31⟩ := hR_29
    refine TL.norm (L' := [F30, bx b27 25 [.int .i64 x17.1.params, .int .i64 x17.1.result, v18, v21], F19, F22, F25, bx b16 25 [.int .i64 x9.params, .int .i64 x9.result, v10, v13], F11, F14, bx b6 25 [.int .i64 a1.params, .int .i64 a1.result, v2, v4]]) rfl ?_
    refine TL.v (ltb rfl) (rv_as (v := v29) rfl) ?_
    refine TL.nil ?_
    refine TC.go hK_27 ?_
    refine TC.seq fun K_30 hK_31 => ?_
    refine TC.seq fun K_32 hK_33 => ?_
    refine TC.region ?_
    refine TL.v (ltb rfl) (rv_lda (o := 0) (o' := 0) (j := 0) (ds := [.int .i64 x9.params, .int .i64 x9.result, v10, v13]) ag_25 rfl (Src.at_ 5 rfl) (bx_cells b16 25 _) rfl rfl rfl) ?_
    refine TL.v (ltb rfl) (rv_lda (o := 0) (o' := 0) (j := 0) (ds := [.int .i64 a1.params, .int .i64 a1.result, v2, v4]) ag_25 rfl (Src.at_ 8 rfl) (bx_cells b6 25 _) rfl rfl rfl) ?_
    obtain ⟨x32, hy_34, hp⟩ := bind_some' hp
    refine TL.callC (vs := [.agg #[.int .i64 x9.params, .int .i64 x9.result, v10, v13], .agg #[.int .i64 a1.params, .int .i64 a1.result, v2, v4]]) (R := fettleref02_SameFunc.R x32) [] [F30, bx b27 25 [.int .i64 x17.1.params, .int .i64 x17.1.result, v18, v21], F19, F22, F25, bx b16 25 [.int .i64 x9.params, .int .i64 x9.result, v10, v13], F11, F14, bx b6 25 [.int .i64 a1.params, .int .i64 a1.result, v2, v4]] rfl cb_44 (ltb rfl) (mc rfl (mc rfl m0)) (fun w hw => fettleref02_SameFunc_ok (a1 := x9) (a6 := a1) (h12.ro.mono (subB 6 rfl)) (h15.ro.mono (subB 7 rfl)) (h3.mono subH) (h5.mono subH) hy_34 hw) fun v A' hR_35 => ?_
    obtain ⟨rfl, rfl⟩ := hR_35
    refine TL.norm (L' := [F30, bx b27 25 [.int .i64 x17.1.params, .int .i64 x17.1.result, v18, v21], F19, F22, F25, bx b16 25 [.int .i64 x9.params, .int .i64 x9.result, v10, v13], F11, F14, bx b6 25 [.int .i64 a1.params, .int .i64 a1.result, v2, v4]]) rfl ?_
    refine TL.v (ltb rfl) (rv_not (b := x32) rfl) ?_
    refine TL.nil ?_
    refine TC.go hK_33 ?_
    by_cases hc_36 : (!x32) = true
    · rw [if_pos hc_36] at hp
      refine TC.condT (bbT hc_36) ?_
      refine TC.seq fun K_37 hK_38 => ?_
      refine TC.region ?_
      refine TL.v (ltb rfl) (rv_as (v := .bool false) rfl) ?_
      refine TL.nil ?_
      refine TC.go hK_38 ?_
      refine TC.ret ?_
      obtain rfl := Option.some.inj hp
      exact fun w hw => retOk ⟨rfl, rfl⟩ (hw.pick [])
    · rw [if_neg hc_36] at hp
      refine TC.condF (bbF hc_36) ?_
      refine TC.skip ?_
      refine TC.go hK_31 ?_
      refine TC.seq fun K_39 hK_40 => ?_
      refine TC.seq fun K_41 hK_42 => ?_
      refine TC.region ?_
      refine TL.v (ltb rfl) (rv_as (v := .int .i64 0) rfl) ?_
      refine TL.nil ?_
      refine TC.go hK_42 ?_
      refine TC.block ?_
      obtain ⟨z_50, hz_51, hr_52⟩ := bind_some' hp
      clear hp
      have hJ_342 : ∀ (x37 : List Int) (F38 : FP) (e_55 : Env) (h39 : SlO 3 (kInt .i64) x37 v18 F38) (h_56 : e_55 1 = .pointer (some ⟨b6, 0, none⟩)) (h_57 : e_55 3 = .bool x7) (h_58 : e_55 5 = .pointer (some ⟨b16, 0, none⟩)) (h_59 : e_55 6 = .pointer (some ⟨b27, 0, none⟩)) (h_60 : e_55 8 = v29) (hq_343 : x37 = z_50), ∀ w, St E H [bx b6 25 [.int .i64 a1.params, .int .i64 a1.result, v2, v4], bx b16 25 [.int .i64 x9.params, .int .i64 x9.result, v10, v13], F11, F14, bx b27 25 [.int .i64 x17.1.params, .int .i64 x17.1.result, v18, v21], F38, F22, F30] w → K_39 e_55 w := by
        intro x37 F38 e_55 h39 h_56 h_57 h_58 h_59 h_60 hq_343
        subst hq_343
        replace hp : fettlelaw05_GraphStays.nx54 a1 x7 x9 x17 x28 x37 = some r := hr_52
        unfold fettlelaw05_GraphStays.nx54 at hp
        refine TC.go hK_40 ?_
        refine TC.seq fun K_61 hK_62 => ?_
        refine TC.seq fun K_63 hK_64 => ?_
        refine TC.region ?_
        refine TL.v (ltb rfl) (rv_as (v := .int .i64 0) rfl) ?_
        refine TL.nil ?_
        refine TC.go hK_64 ?_
        refine TC.block ?_
        obtain ⟨z_72, hz_73, hr_74⟩ := bind_some' hp
        clear hp
        have hJ_223 : ∀ (e_77 : Env) (h_78 : e_77 1 = .pointer (some ⟨b6, 0, none⟩)) (h_79 : e_77 3 = .bool x7) (h_80 : e_77 5 = .pointer (some ⟨b16, 0, none⟩)) (h_81 : e_77 8 = v29) (hq_224 : () = z_72), ∀ w, St E H [bx b6 25 [.int .i64 a1.params, .int .i64 a1.result, v2, v4], bx b16 25 [.int .i64 x9.params, .int .i64 x9.result, v10, v13], F11, F14, F30] w → K_61 e_77 w := by
          intro e_77 h_78 h_79 h_80 h_81 hq_224
          subst hq_224
          replace hp : fettlelaw05_GraphStays.nx76 a1 x7 x9 x28 = some r := hr_74
          unfold fettlelaw05_GraphStays.nx76 at hp
          refine TC.go hK_62 ?_
          refine TC.seq fun K_82 hK_83 => ?_
          refine TC.region ?_
          refine TL.v (ltb rfl) (rv_lda (o := 0) (o' := 0) (j := 0) (ds := [.int .i64 x9.params, .int .i64 x9.result, v10, v13]) ag_25 h_80 (Src.at_ 1 rfl) (bx_cells b16 25 _) rfl rfl rfl) ?_
          obtain ⟨x44, hy_84, hp⟩ := bind_some' hp
          refine TL.callC (vs := [.agg #[.int .i64 x9.params, .int .i64 x9.result, v10, v13]]) (R := graph_Next.R x44) [] [bx b6 25 [.int .i64 a1.params, .int .i64 a1.result, v2, v4], bx b16 25 [.int .i64 x9.params, .int .i64 x9.result, v10, v13], F11, F14, F30] rfl cb_18 (ltb rfl) (mc rfl m0) (fun w hw => graph_Next_ok (a1 := x9) (h12.ro.mono (subB 2 rfl)) (h15.ro.mono (subB 3 rfl)) hy_84 hw) fun v A' hR_85 => ?_
          obtain ⟨v45, F46, rfl, rfl, h47⟩ := hR_85
          refine TL.norm (L' := [F46, bx b6 25 [.int .i64 a1.params, .int .i64 a1.result, v2, v4], bx b16 25 [.int .i64 x9.params, .int .i64 x9.result, v10, v13], F11, F14, F30]) rfl ?_
          refine TL.v (ltb rfl) (rv_as (v := v45) rfl) ?_
          refine TL.nil ?_
          refine TC.go hK_83 ?_
          refine TC.seq fun K_86 hK_87 => ?_
          refine TC.seq fun K_88 hK_89 => ?_
          refine TC.region ?_
          refine TL.v (ltb rfl) (rv_as (v := .int .i64 0) rfl) ?_
          refine TL.nil ?_
          refine TC.go hK_89 ?_
          refine TC.block ?_
          obtain ⟨z_97, hz_98, hr_99⟩ := bind_some' hp
          clear hp
          have hJ_178 : ∀ (e_102 : Env) (h_103 : e_102 1 = .pointer (some ⟨b6, 0, none⟩)) (h_104 : e_102 3 = .bool x7) (h_105 : e_102 5 = .pointer (some ⟨b16, 0, none⟩)) (h_106 : e_102 8 = v29) (hq_179 : () = z_97), ∀ w, St E H [bx b6 25 [.int .i64 a1.params, .int .i64 a1.result, v2, v4], bx b16 25 [.int .i64 x9.params, .int .i64 x9.result, v10, v13], F11, F14, F30] w → K_86 e_102 w := by
            intro e_102 h_103 h_104 h_105 h_106 hq_179
            subst hq_179
            replace hp : fettlelaw05_GraphStays.nx101 a1 x7 x9 x28 = some r := hr_99
            unfold fettlelaw05_GraphStays.nx101 at hp
            refine TC.go hK_87 ?_
            refine TC.seq fun K_107 hK_108 => ?_
            refine TC.seq fun K_109 hK_110 => ?_
            refine TC.region ?_
            refine TL.v (ltb rfl) (rv_as (v := .int .i64 0) rfl) ?_
            refine TL.nil ?_
            refine TC.go hK_110 ?_
            refine TC.block ?_
            obtain ⟨z_117, hz_118, hr_119⟩ := bind_some' hp
            clear hp
            have hJ_167 : ∀ (x56 : List Int) (F57 : FP) (e_122 : Env) (h58 : SlO 3 (kInt .i64) x56 v29 F57) (h_123 : e_122 1 = .pointer (some ⟨b6, 0, none⟩)) (h_124 : e_122 3 = .bool x7) (h_125 : e_122 5 = .pointer (some ⟨b16, 0, none⟩)) (h_126 : e_122 8 = v29) (hq_168 : x56 = z_117), ∀ w, St E H [bx b6 25 [.int .i64 a1.params, .int .i64 a1.result, v2, v4], bx b16 25 [.int .i64 x9.params, .int .i64 x9.result, v10, v13], F11, F14, F57] w → K_107 e_122 w := by
              intro x56 F57 e_122 h58 h_123 h_124 h_125 h_126 hq_168
              subst hq_168
              replace hp : fettlelaw05_GraphStays.nx121 a1 x7 x9 x56 = some r := hr_119
              unfold fettlelaw05_GraphStays.nx121 at hp
              refine TC.go hK_108 ?_
              refine TC.seq fun K_127 hK_128 => ?_
              refine TC.region ?_
              refine TL.v (ltb rfl) (rv_lda (o := 0) (o' := 0) (j := 0) (ds := [.int .i64 x9.params, .int .i64 x9.result, v10, v13]) ag_25 h_125 (Src.at_ 1 rfl) (bx_cells b16 25 _) rfl rfl rfl) ?_
              obtain ⟨x59, hy_129, hp⟩ := bind_some' hp
              refine TL.callC (vs := [.agg #[.int .i64 x9.params, .int .i64 x9.result, v10, v13]]) (R := graph_Order.R x59) [] [bx b6 25 [.int .i64 a1.params, .int .i64 a1.result, v2, v4], bx b16 25 [.int .i64 x9.params, .int .i64 x9.result, v10, v13], F11, F14, F57] rfl cb_20 (ltb rfl) (mc rfl m0) (fun w hw => graph_Order_ok (a1 := x9) (h12.ro.mono (subB 2 rfl)) (h15.ro.mono (subB 3 rfl)) hy_129 hw) fun v A' hR_130 => ?_
              obtain ⟨v60, F61, rfl, rfl, h62⟩ := hR_130
              refine TL.norm (L' := [F61, bx b6 25 [.int .i64 a1.params, .int .i64 a1.result, v2, v4], bx b16 25 [.int .i64 x9.params, .int .i64 x9.result, v10, v13], F11, F14, F57]) rfl ?_
              refine TL.v (ltb rfl) (rv_as (v := v60) rfl) ?_
              refine TL.nil ?_
              refine TC.go hK_128 ?_
              refine TC.seq fun K_131 hK_132 => ?_
              refine TC.region ?_
              refine TL.v (ltb rfl) (rv_mv (v := .bool x7) h_124) ?_
              refine TL.v (ltb rfl) (rv_mv (v := .bool x7) rfl) ?_
              obtain ⟨t63, ht_164, hp⟩ := bind_some' hp
              refine TL.cut 4 fun K_133 hK_134 => ?_
              have hJ_135 : ∀ e_137 : Env, e_137 8 = v29 → e_137 18 = v60 → e_137 154 = .bool t63 → ∀ w, St E H [F61, bx b6 25 [.int .i64 a1.params, .int .i64 a1.result, v2, v4], bx b16 25 [.int .i64 x9.params, .int .i64 x9.result, v10, v13], F11, F14, F57] w → K_133 e_137 w := by
                intro e_137 h_138 h_139 h_140
                refine TL.go hK_134 ?_
                refine TL.v (ltb rfl) (rv_mv (v := .bool t63) h_140) ?_
                refine TL.cut 6 fun K_141 hK_142 => ?_
                have hJ_143 : ∀ e_145 : Env, e_145 18 = v60 → e_145 161 = .bool (decide (t63 = true ∧ (len x59) = (len x56))) → ∀ w, St E H [F61, bx b6 25 [.int .i64 a1.params, .int .i64 a1.result, v2, v4], bx b16 25 [.int .i64 x9.params, .int .i64 x9.result, v10, v13], F11, F14, F57] w → K_141 e_145 w := by
                  intro e_145 h_146 h_147
                  refine TL.go hK_142 ?_
                  refine TL.v (ltb rfl) (rv_mv (v := .bool (decide (t63 = true ∧ (len x59) = (len x56)))) h_147) ?_
                  obtain ⟨t64, ht_154, hp⟩ := bind_some' hp
                  refine TL.cut 10 fun K_148 hK_149 => ?_
                  have hJ_150 : ∀ e_152 : Env, e_152 172 = .bool t64 → ∀ w, St E H [F61, bx b6 25 [.int .i64 a1.params, .int .i64 a1.result, v2, v4], bx b16 25 [.int .i64 x9.params, .int .i64 x9.result, v10, v13], F11, F14, F57] w → K_148 e_152 w := by
                    intro e_152 h_153
                    refine TL.go hK_149 ?_
                    refine TL.v (ltb rfl) (rv_as (v := .bool t64) h_153) ?_
                    refine TL.nil ?_
                    refine TC.go hK_132 ?_
                    refine TC.ret ?_
                    obtain rfl := Option.some.inj hp
                    exact fun w hw => retOk ⟨rfl, rfl⟩ (hw.pick [])
                  clear hp
                  have hp := ht_154
                  clear ht_154
                  by_cases hc_151 : t63 = true ∧ (len x59) = (len x56)
                  · rw [if_pos hc_151] at hp
                    refine TL.gyes true (yieldE_of rfl (bT hc_151)) rfl ?_
                    refine TL.v (ltb rfl) (rv_mv (v := v60) h_146) ?_
                    refine TL.gyes true (yieldE_of rfl (bT hc_151)) rfl ?_
                    refine TL.v (ltb rfl) (rv_lenI (v := v60) Try.underlying22 rfl h62.ro) ?_
                    refine TL.gyes true (yieldE_of rfl (bT hc_151)) rfl ?_
                    refine TL.v (ltb rfl) (rv_eql (k := .i64) (m := (len x59)) (n := 0) rfl rfl) ?_
                    refine TL.gyes true (yieldE_of rfl (bT hc_151)) rfl ?_
                    refine TL.v (ltb rfl) (rv_mv (v := .bool (decide ((len x59) = 0))) rfl) ?_
                    obtain ⟨t65, ht_162, hp⟩ := bind_some' hp
                    refine TL.cut 5 fun K_155 hK_156 => ?_
                    have hJ_157 : ∀ e_159 : Env, e_159 162 = .bool (decide (t63 = true ∧ (len x59) = (len x56))) → e_159 171 = .bool t65 → ∀ w, St E H [F61, bx b6 25 [.int .i64 a1.params, .int .i64 a1.result, v2, v4], bx b16 25 [.int .i64 x9.params, .int .i64 x9.result, v10, v13], F11, F14, F57] w → K_155 e_159 w := by
                      intro e_159 h_160 h_161
                      refine TL.go hK_156 ?_
                      refine TL.v (ltb rfl) (rv_pickT true (h_160.trans (bT hc_151)) rfl (v := .bool t65) h_161) ?_
                      obtain rfl := Option.some.inj hp
                      refine TL.nil (hJ_150 _ ?_)
                      · exact rfl
                    clear hp
                    have hp := ht_162
                    clear ht_162
                    by_cases hc_158 : (len x59) = 0
                    · rw [if_pos hc_158] at hp
                      refine TL.gno true rfl (fun d hd => by cases hd; exact ltb rfl) (yieldE_of rfl (bT hc_158)) rfl ?_
                      refine TL.gno true rfl (fun d hd => by cases hd; exact ltb rfl) (yieldE_of rfl (bT hc_158)) rfl ?_
                      refine TL.gno true rfl (fun d hd => by cases hd; exact ltb rfl) (yieldE_of rfl (bT hc_158)) rfl ?_
                      refine TL.gno true rfl (fun d hd => by cases hd; exact ltb rfl) (yieldE_of rfl (bT hc_158)) rfl ?_
                      refine TL.gyes true (yieldE_of rfl (bT hc_151)) rfl ?_
                      refine TL.v (ltb rfl) (rv_pickT true (bT hc_158) rfl (v := .bool true) rfl) ?_
                      obtain rfl := Option.some.inj hp
                      refine TL.nil (hJ_157 _ ?_ ?_)
                      · exact rfl
                      · exact rfl
                    · rw [if_neg hc_158] at hp
                      refine TL.gyes false (yieldE_of rfl (bF hc_158)) rfl ?_
                      refine TL.v (ltb rfl) (rv_mv (v := v60) h_146) ?_
                      refine TL.gyes false (yieldE_of rfl (bF hc_158)) rfl ?_
                      obtain ⟨x66, hx_163, hp⟩ := bind_some' hp
                      refine TL.v3 (ltb rfl) (rv_ix 22 (.tmp 167) (.const (.int .i64 0)) (v := v60) (i := 0) Try.underlying22 inf_3 rfl rfl rfl (h62).ro hx_163) fun b67 o68 c69 h70 h71 => ?_
                      obtain rfl := h70
                      refine TL.gyes false (yieldE_of rfl (bF hc_158)) rfl ?_
                      refine TL.v (ltb rfl) (rv_ld (v := .int .i64 x66) (o := o68) (o' := o68) (j := 0) sc_3 rfl (Src.at_ 0 rfl) h71 rfl rfl) ?_
                      refine TL.gyes false (yieldE_of rfl (bF hc_158)) rfl ?_
                      refine TL.v (ltb rfl) (rv_eql (k := .i64) (m := x66) (n := 0) rfl rfl) ?_
                      refine TL.gyes true (yieldE_of rfl (bT hc_151)) rfl ?_
                      refine TL.v (ltb rfl) (rv_pickF false (bF hc_158) rfl (v := .bool (decide (x66 = 0))) rfl) ?_
                      obtain rfl := Option.some.inj hp
                      refine TL.nil (hJ_157 _ ?_ ?_)
                      · exact rfl
                      · exact rfl
                  · rw [if_neg hc_151] at hp
                    refine TL.gno false rfl (fun d hd => by cases hd; exact ltb rfl) (yieldE_of rfl (bF hc_151)) rfl ?_
                    refine TL.gno false rfl (fun d hd => by cases hd; exact ltb rfl) (yieldE_of rfl (bF hc_151)) rfl ?_
                    refine TL.gno false rfl (fun d hd => by cases hd; exact ltb rfl) (yieldE_of rfl (bF hc_151)) rfl ?_
                    refine TL.gno false rfl (fun d hd => by cases hd; exact ltb rfl) (yieldE_of rfl (bF hc_151)) rfl ?_
                    refine TL.gnon rfl (fun d hd => by cases hd; exact ltb rfl) (yieldE_un rfl rfl) ?_
                    refine TL.gnon rfl (fun d hd => by cases hd; exact ltb rfl) (yieldE_un rfl rfl) ?_
                    refine TL.gnon rfl (fun d hd => by cases hd; exact ltb rfl) (yieldE_un rfl rfl) ?_
                    refine TL.gnon rfl (fun d hd => by cases hd; exact ltb rfl) (yieldE_un rfl rfl) ?_
                    refine TL.gno false rfl (fun d hd => by cases hd; exact ltb rfl) (yieldE_of rfl (bF hc_151)) rfl ?_
                    refine TL.v (ltb rfl) (rv_pickF false (bF hc_151) rfl (v := .bool false) rfl) ?_
                    obtain rfl := Option.some.inj hp
                    refine TL.nil (hJ_150 _ ?_)
                    · exact rfl
                by_cases hc_144 : t63 = true
                · refine TL.gyes true (yieldE_of rfl (bbT hc_144)) rfl ?_
                  refine TL.v (ltb rfl) (rv_mv (v := v60) h_139) ?_
                  refine TL.gyes true (yieldE_of rfl (bbT hc_144)) rfl ?_
                  refine TL.v (ltb rfl) (rv_lenI (v := v60) Try.underlying22 rfl h62.ro) ?_
                  refine TL.gyes true (yieldE_of rfl (bbT hc_144)) rfl ?_
                  refine TL.v (ltb rfl) (rv_mv (v := v29) h_138) ?_
                  refine TL.gyes true (yieldE_of rfl (bbT hc_144)) rfl ?_
                  refine TL.v (ltb rfl) (rv_lenI (v := v29) Try.underlying22 rfl h58.ro) ?_
                  refine TL.gyes true (yieldE_of rfl (bbT hc_144)) rfl ?_
                  refine TL.v (ltb rfl) (rv_eql (k := .i64) (m := (len x59)) (n := (len x56)) rfl rfl) ?_
                  refine TL.v (ltb rfl) (rv_pickT true (bbT hc_144) rfl (v := .bool (decide ((len x59) = (len x56)))) rfl) ?_
                  refine TL.nil (hJ_143 _ ?_ ?_)
                  · exact h_139
                  · exact (bAt hc_144)
                · refine TL.gno false rfl (fun d hd => by cases hd; exact ltb rfl) (yieldE_of rfl (bbF hc_144)) rfl ?_
                  refine TL.gno false rfl (fun d hd => by cases hd; exact ltb rfl) (yieldE_of rfl (bbF hc_144)) rfl ?_
                  refine TL.gno false rfl (fun d hd => by cases hd; exact ltb rfl) (yieldE_of rfl (bbF hc_144)) rfl ?_
                  refine TL.gno false rfl (fun d hd => by cases hd; exact ltb rfl) (yieldE_of rfl (bbF hc_144)) rfl ?_
                  refine TL.gno false rfl (fun d hd => by cases hd; exact ltb rfl) (yieldE_of rfl (bbF hc_144)) rfl ?_
                  refine TL.v (ltb rfl) (rv_pickF false (bbF hc_144) rfl (v := .bool false) rfl) ?_
                  refine TL.nil (hJ_143 _ ?_ ?_)
                  · exact h_139
                  · exact (bAf hc_144)
              clear hp
              have hp := ht_164
              clear ht_164
              by_cases hc_136 : x7 = true
              · rw [if_pos hc_136] at hp
                refine TL.gyes true (yieldE_of rfl (bbT hc_136)) rfl ?_
                refine TL.v (ltb rfl) (rv_lda (o := 0) (o' := 0) (j := 0) (ds := [.int .i64 x9.params, .int .i64 x9.result, v10, v13]) ag_25 h_125 (Src.at_ 2 rfl) (bx_cells b16 25 _) rfl rfl rfl) ?_
                refine TL.gyes true (yieldE_of rfl (bbT hc_136)) rfl ?_
                refine TL.v (ltb rfl) (rv_lda (o := 0) (o' := 0) (j := 0) (ds := [.int .i64 a1.params, .int .i64 a1.result, v2, v4]) ag_25 h_123 (Src.at_ 1 rfl) (bx_cells b6 25 _) rfl rfl rfl) ?_
                refine TL.gyes true (yieldE_of rfl (bbT hc_136)) rfl ?_
                obtain ⟨x72, hy_165, hp⟩ := bind_some' hp
                refine TL.callC (vs := [.agg #[.int .i64 x9.params, .int .i64 x9.result, v10, v13], .agg #[.int .i64 a1.params, .int .i64 a1.result, v2, v4]]) (R := fettleref02_SameFunc.R x72) [] [F61, bx b6 25 [.int .i64 a1.params, .int .i64 a1.result, v2, v4], bx b16 25 [.int .i64 x9.params, .int .i64 x9.result, v10, v13], F11, F14, F57] rfl cb_44 (ltb rfl) (mc rfl (mc rfl m0)) (fun w hw => fettleref02_SameFunc_ok (a1 := x9) (a6 := a1) (h12.ro.mono (subB 3 rfl)) (h15.ro.mono (subB 4 rfl)) (h3.mono subH) (h5.mono subH) hy_165 hw) fun v A' hR_166 => ?_
                obtain ⟨rfl, rfl⟩ := hR_166
                refine TL.norm (L' := [F61, bx b6 25 [.int .i64 a1.params, .int .i64 a1.result, v2, v4], bx b16 25 [.int .i64 x9.params, .int .i64 x9.result, v10, v13], F11, F14, F57]) rfl ?_
                refine TL.v (ltb rfl) (rv_pickT true (bbT hc_136) rfl (v := .bool x72) rfl) ?_
                obtain rfl := Option.some.inj hp
                refine TL.nil (hJ_135 _ ?_ ?_ ?_)
                · exact h_126
                · exact rfl
                · exact rfl
              · rw [if_neg hc_136] at hp
                refine TL.gno false rfl (fun d hd => by cases hd; exact ltb rfl) (yieldE_of rfl (bbF hc_136)) rfl ?_
                refine TL.gno false rfl (fun d hd => by cases hd; exact ltb rfl) (yieldE_of rfl (bbF hc_136)) rfl ?_
                refine TL.gno false rfl (fun d hd => by cases hd; exact ltb rfl) (yieldE_of rfl (bbF hc_136)) rfl ?_
                refine TL.v (ltb rfl) (rv_pickF false (bbF hc_136) rfl (v := .bool false) rfl) ?_
                obtain rfl := Option.some.inj hp
                refine TL.nil (hJ_135 _ ?_ ?_ ?_)
                · exact h_126
                · exact rfl
                · exact rfl
            refine TC.pk' [0, 0, 0, 0, 0] (L' := [bx b6 25 [.int .i64 a1.params, .int .i64 a1.result, v2, v4], bx b16 25 [.int .i64 x9.params, .int .i64 x9.result, v10, v13], F11, F14, F30]) rfl ?_
            refine TC.loopW (r := z_117) (fun (s : (List Int × Int)) (e_111 : Env) (L_177 : List FP) => ∃ (x52 : List Int) (x55 : Int) (F53 : FP), s = (x52, x55) ∧ SlO 3 (kInt .i64) x52 v29 F53 ∧ e_111 1 = .pointer (some ⟨b6, 0, none⟩) ∧ e_111 3 = .bool x7 ∧ e_111 5 = .pointer (some ⟨b16, 0, none⟩) ∧ e_111 8 = v29 ∧ e_111 17 = .int .i64 x55 ∧ L_177 = [bx b6 25 [.int .i64 a1.params, .int .i64 a1.result, v2, v4], bx b16 25 [.int .i64 x9.params, .int .i64 x9.result, v10, v13], F11, F14, F53]) ?_ FUEL _ _ _ hz_118 ⟨x28, 0, F30, rfl, h31, h_103, h_104, h_105, h_106, rfl, rfl⟩
            rintro s e_111 L_177 ⟨x52, x55, F53, rfl, h54, h_112, h_113, h_114, h_115, h_116, rfl⟩ x_120 hp hx_121
            replace hp : fettlelaw05_GraphStays.bd121 x52 x55 = some x_120 := hp
            unfold fettlelaw05_GraphStays.bd121 at hp
            refine TC.seq fun K_169 hK_170 => ?_
            refine TC.seq fun K_171 hK_172 => ?_
            refine TC.region ?_
            refine TL.v (ltb rfl) (rv_mv (v := .int .i64 x55) h_116) ?_
            refine TL.v (ltb rfl) (rv_mv (v := v29) h_115) ?_
            refine TL.v (ltb rfl) (rv_lenI (v := v29) Try.underlying22 rfl h54.ro) ?_
            refine TL.v (ltb rfl) (rv_lss (k := .i64) (m := x55) (n := (len x52)) rfl rfl) ?_
            refine TL.nil ?_
            refine TC.go hK_172 ?_
            by_cases hc_173 : x55 < (len x52)
            · rw [if_pos hc_173] at hp
              refine TC.condT (bT hc_173) ?_
              refine TC.skip ?_
              refine TC.go hK_170 ?_
              refine TC.seq fun K_174 hK_175 => ?_
              refine TC.block ?_
              refine TC.region ?_
              refine TL.v (ltb rfl) (rv_mv (v := v29) h_115) ?_
              refine TL.v (ltb rfl) (rv_mv (v := .int .i64 x55) h_116) ?_
              obtain ⟨x73, hx_176, hp⟩ := bind_some' hp
              refine TL.v2 (ltb rfl) (rv_ixO 22 (.tmp 144) (.tmp 145) (v := v29) (i := x55) Try.underlying22 inf_3 rfl rfl rfl h54 (idx_some hx_176).1 (idx_some hx_176).2.1) fun b74 o75 h76 => ?_
              refine TL.pk' [4, 0, 0, 0, 0] (L' := [F53, bx b6 25 [.int .i64 a1.params, .int .i64 a1.result, v2, v4], bx b16 25 [.int .i64 x9.params, .int .i64 x9.result, v10, v13], F11, F14]) rfl ?_
              refine TL.stE0 (ds := [.int .i64 (-1)]) (u := .int .i64 (-1)) (a := -1) h54 h76 ms_3 rfl rfl rfl ⟨rfl, rfl⟩ fun F77 h78 => ?_
              refine TL.nil ?_
              refine TC.go hK_175 ?_
              refine TC.region ?_
              refine TL.v (ltb rfl) (rv_mv (v := .int .i64 x55) h_116) ?_
              refine TL.v (ltb rfl) (rv_add (k := .i64) (m := x55) (n := 1) rfl rfl) ?_
              refine TL.v (ltb rfl) (rv_as (v := .int .i64 (w64 (x55 + 1))) rfl) ?_
              refine TL.nil ?_
              exact fun w hw => goOk hp ⟨(x52.set (x55).toNat (-1)), (w64 (x55 + 1)), F77, rfl, h78, h_112, h_113, h_114, h_115, rfl, rfl⟩ (hw.pick [1, 1, 1, 1, 0])
            · rw [if_neg hc_173] at hp
              refine TC.condF (bF hc_173) ?_
              refine TC.exit ?_
              refine fun w hw => hJ_167 x52 F53 _ h54 ?_ ?_ ?_ ?_ (ex_ret hp hx_121) w (hw.pick [0, 0, 0, 0, 0])
              · exact h_112
              · exact h_113
              · exact h_114
              · exact h_115
          refine TC.pk' [1, 1, 1, 1, 1, 0] (L' := [bx b6 25 [.int .i64 a1.params, .int .i64 a1.result, v2, v4], bx b16 25 [.int .i64 x9.params, .int .i64 x9.result, v10, v13], F11, F14, F30, F46]) rfl ?_
          refine TC.loopW (r := z_97) (fun (s : (List (List Int) × Int)) (e_90 : Env) (L_222 : List FP) => ∃ (x48 : List (List Int)) (x51 : Int) (F49 : FP), s = (x48, x51) ∧ SlO 22 (kSl 3 (kInt .i64)) x48 v45 F49 ∧ e_90 1 = .pointer (some ⟨b6, 0, none⟩) ∧ e_90 3 = .bool x7 ∧ e_90 5 = .pointer (some ⟨b16, 0, none⟩) ∧ e_90 8 = v29 ∧ e_90 14 = v45 ∧ e_90 15 = .int .i64 x51 ∧ L_222 = [bx b6 25 [.int .i64 a1.params, .int .i64 a1.result, v2, v4], bx b16 25 [.int .i64 x9.params, .int .i64 x9.result, v10, v13], F11, F14, F30, F49]) ?_ FUEL _ _ _ hz_98 ⟨x44, 0, F46, rfl, h47, h_78, h_79, h_80, h_81, rfl, rfl, rfl⟩
          rintro s e_90 L_222 ⟨x48, x51, F49, rfl, h50, h_91, h_92, h_93, h_94, h_95, h_96, rfl⟩ x_100 hp hx_101
          replace hp : fettlelaw05_GraphStays.bd101 x48 x51 = some x_100 := hp
          unfold fettlelaw05_GraphStays.bd101 at hp
          refine TC.seq fun K_180 hK_181 => ?_
          refine TC.seq fun K_182 hK_183 => ?_
          refine TC.region ?_
          refine TL.v (ltb rfl) (rv_mv (v := .int .i64 x51) h_96) ?_
          refine TL.v (ltb rfl) (rv_mv (v := v45) h_95) ?_
          refine TL.v (ltb rfl) (rv_lenI (v := v45) Try.underlying28 rfl h50.ro) ?_
          refine TL.v (ltb rfl) (rv_lss (k := .i64) (m := x51) (n := (len x48)) rfl rfl) ?_
          refine TL.nil ?_
          refine TC.go hK_183 ?_
          by_cases hc_184 : x51 < (len x48)
          · rw [if_pos hc_184] at hp
            refine TC.condT (bT hc_184) ?_
            refine TC.skip ?_
            refine TC.go hK_181 ?_
            refine TC.seq fun K_185 hK_186 => ?_
            refine TC.block ?_
            refine TC.seq fun K_187 hK_188 => ?_
            refine TC.region ?_
            refine TL.v (ltb rfl) (rv_as (v := .int .i64 0) rfl) ?_
            refine TL.nil ?_
            refine TC.go hK_188 ?_
            refine TC.block ?_
            obtain ⟨z_197, hz_198, hr_199⟩ := bind_some' hp
            clear hp
            have hJ_209 : ∀ (x83 : List (List Int)) (F84 : FP) (e_202 : Env) (h85 : SlO 22 (kSl 3 (kInt .i64)) x83 v45 F84) (h_203 : e_202 1 = .pointer (some ⟨b6, 0, none⟩)) (h_204 : e_202 3 = .bool x7) (h_205 : e_202 5 = .pointer (some ⟨b16, 0, none⟩)) (h_206 : e_202 8 = v29) (h_207 : e_202 14 = v45) (h_208 : e_202 15 = .int .i64 x51) (hq_210 : x83 = z_197), ∀ w, St E H [bx b6 25 [.int .i64 a1.params, .int .i64 a1.result, v2, v4], bx b16 25 [.int .i64 x9.params, .int .i64 x9.result, v10, v13], F11, F14, F30, F84] w → K_185 e_202 w := by
              intro x83 F84 e_202 h85 h_203 h_204 h_205 h_206 h_207 h_208 hq_210
              subst hq_210
              replace hp : fettlelaw05_GraphStays.nx201 x51 x83 = some x_100 := hr_199
              unfold fettlelaw05_GraphStays.nx201 at hp
              refine TC.go hK_186 ?_
              refine TC.region ?_
              refine TL.v (ltb rfl) (rv_mv (v := .int .i64 x51) h_208) ?_
              refine TL.v (ltb rfl) (rv_add (k := .i64) (m := x51) (n := 1) rfl rfl) ?_
              refine TL.v (ltb rfl) (rv_as (v := .int .i64 (w64 (x51 + 1))) rfl) ?_
              refine TL.nil ?_
              exact fun w hw => goOk hp ⟨x83, (w64 (x51 + 1)), F84, rfl, h85, h_203, h_204, h_205, h_206, h_207, rfl, rfl⟩ (hw.pick [0, 0, 0, 0, 0, 0])
            refine TC.pk' [0, 0, 0, 0, 0, 0] (L' := [bx b6 25 [.int .i64 a1.params, .int .i64 a1.result, v2, v4], bx b16 25 [.int .i64 x9.params, .int .i64 x9.result, v10, v13], F11, F14, F30, F49]) rfl ?_
            refine TC.loopW (r := z_197) (fun (s : (List (List Int) × Int)) (e_189 : Env) (L_221 : List FP) => ∃ (x79 : List (List Int)) (x82 : Int) (F80 : FP), s = (x79, x82) ∧ SlO 22 (kSl 3 (kInt .i64)) x79 v45 F80 ∧ e_189 1 = .pointer (some ⟨b6, 0, none⟩) ∧ e_189 3 = .bool x7 ∧ e_189 5 = .pointer (some ⟨b16, 0, none⟩) ∧ e_189 8 = v29 ∧ e_189 14 = v45 ∧ e_189 15 = .int .i64 x51 ∧ e_189 16 = .int .i64 x82 ∧ L_221 = [bx b6 25 [.int .i64 a1.params, .int .i64 a1.result, v2, v4], bx b16 25 [.int .i64 x9.params, .int .i64 x9.result, v10, v13], F11, F14, F30, F80]) ?_ FUEL _ _ _ hz_198 ⟨x48, 0, F49, rfl, h50, h_91, h_92, h_93, h_94, h_95, h_96, rfl, rfl⟩
            rintro s e_189 L_221 ⟨x79, x82, F80, rfl, h81, h_190, h_191, h_192, h_193, h_194, h_195, h_196, rfl⟩ x_200 hp hx_201
            replace hp : fettlelaw05_GraphStays.bd201 x51 x79 x82 = some x_200 := hp
            unfold fettlelaw05_GraphStays.bd201 at hp
            refine TC.seq fun K_211 hK_212 => ?_
            refine TC.seq fun K_213 hK_214 => ?_
            refine TC.region ?_
            refine TL.v (ltb rfl) (rv_mv (v := .int .i64 x82) h_196) ?_
            refine TL.v (ltb rfl) (rv_mv (v := v45) h_194) ?_
            refine TL.v (ltb rfl) (rv_mv (v := .int .i64 x51) h_195) ?_
            obtain ⟨x86, hx_215, hp⟩ := bind_some' hp
            refine TL.v3 (ltb rfl) (rv_ix 28 (.tmp 124) (.tmp 125) (v := v45) (i := x51) Try.underlying28 inf_22 rfl rfl rfl (h81).ro hx_215) fun b87 o88 c89 h90 h91 => ?_
            obtain ⟨v92, rfl, h93⟩ := h90
            refine TL.v (ltb rfl) (rv_ld (v := v92) (o := o88) (o' := o88) (j := 0) sc_22 rfl (Src.at_ 5 rfl) h91 rfl rfl) ?_
            refine TL.v (ltb rfl) (rv_lenI (v := v92) Try.underlying22 rfl h93) ?_
            refine TL.v (ltb rfl) (rv_lss (k := .i64) (m := x82) (n := (len x86)) rfl rfl) ?_
            refine TL.nil ?_
            refine TC.go hK_214 ?_
            by_cases hc_216 : x82 < (len x86)
            · rw [if_pos hc_216] at hp
              refine TC.condT (bT hc_216) ?_
              refine TC.skip ?_
              refine TC.go hK_212 ?_
              refine TC.seq fun K_217 hK_218 => ?_
              refine TC.block ?_
              refine TC.region ?_
              refine TL.v (ltb rfl) (rv_mv (v := v45) h_194) ?_
              refine TL.v (ltb rfl) (rv_mv (v := .int .i64 x51) h_195) ?_
              refine TL.pk' [5, 0, 0, 0, 0, 0] (L' := [F80, bx b6 25 [.int .i64 a1.params, .int .i64 a1.result, v2, v4], bx b16 25 [.int .i64 x9.params, .int .i64 x9.result, v10, v13], F11, F14, F30]) rfl ?_
              obtain ⟨x94, hx_219, hp⟩ := bind_some' hp
              refine TL.open_ h81 hx_219 fun b95 c96 F97 F98 h99 h100 => ?_
              obtain ⟨v101, rfl, h102⟩ := h100
              have h103 := (idx_some hx_219).1
              refine TL.v (ltb rfl) (rv_ixH Try.underlying28 inf_22 (v := v45) (i := x51) rfl rfl h103 h99) ?_
              refine TL.v (ltb rfl) (rv_ld (v := v101) (o := (x51).toNat * 1) (o' := (x51).toNat * 1) (j := 0) sc_22 rfl (Src.at_ 0 rfl) (Hole.cells h99) rfl rfl) ?_
              refine TL.v (ltb rfl) (rv_mv (v := .int .i64 x82) h_196) ?_
              obtain ⟨x104, hx_220, hp⟩ := bind_some' hp
              refine TL.v2 (ltb rfl) (rv_ixO 22 (.tmp 135) (.tmp 136) (v := v101) (i := x82) Try.underlying22 inf_3 rfl rfl rfl h102 (idx_some hx_220).1 (idx_some hx_220).2.1) fun b105 o106 h107 => ?_
              refine TL.pk' [1, 0, 0, 0, 0, 0, 0] (L' := [F98, F97, bx b6 25 [.int .i64 a1.params, .int .i64 a1.result, v2, v4], bx b16 25 [.int .i64 x9.params, .int .i64 x9.result, v10, v13], F11, F14, F30]) rfl ?_
              refine TL.stE0 (ds := [.int .i64 9]) (u := .int .i64 9) (a := 9) h102 h107 ms_3 rfl rfl rfl ⟨rfl, rfl⟩ fun F108 h109 => ?_
              refine TL.nil ?_
              refine TC.go hK_218 ?_
              refine TC.region ?_
              refine TL.v (ltb rfl) (rv_mv (v := .int .i64 x82) h_196) ?_
              refine TL.v (ltb rfl) (rv_add (k := .i64) (m := x82) (n := 1) rfl rfl) ?_
              refine TL.v (ltb rfl) (rv_as (v := .int .i64 (w64 (x82 + 1))) rfl) ?_
              refine TL.nil ?_
              refine W.pk' [1, 0, 0, 0, 0, 0, 0] (L' := [F97, F108, bx b6 25 [.int .i64 a1.params, .int .i64 a1.result, v2, v4], bx b16 25 [.int .i64 x9.params, .int .i64 x9.result, v10, v13], F11, F14, F30]) rfl ?_
              refine W.shut (a := (x94.set (x82).toNat 9)) h99 ⟨_, rfl, h109⟩ fun F110 h111 => ?_
              exact fun w hw => goOk hp ⟨(x79.set (x51).toNat (x94.set (x82).toNat 9)), (w64 (x82 + 1)), F110, rfl, h111, h_190, h_191, h_192, h_193, h_194, h_195, rfl, rfl⟩ (hw.pick [1, 1, 1, 1, 1, 0])
            · rw [if_neg hc_216] at hp
              refine TC.condF (bF hc_216) ?_
              refine TC.exit ?_
              refine fun w hw => hJ_209 x79 F80 _ h81 ?_ ?_ ?_ ?_ ?_ ?_ (ex_ret hp hx_201) w (hw.pick [0, 0, 0, 0, 0, 0])
              · exact h_190
              · exact h_191
              · exact h_192
              · exact h_193
              · exact h_194
              · exact h_195
          · rw [if_neg hc_184] at hp
            refine TC.condF (bF hc_184) ?_
            refine TC.exit ?_
            refine fun w hw => hJ_178 _ ?_ ?_ ?_ ?_ (ex_ret hp hx_101) w (hw.pick [0, 0, 0, 0, 0])
            · exact h_91
            · exact h_92
            · exact h_93
            · exact h_94
        refine TC.pk' [0, 0, 0, 0, 0, 0, 0, 0] (L' := [bx b6 25 [.int .i64 a1.params, .int .i64 a1.result, v2, v4], bx b16 25 [.int .i64 x9.params, .int .i64 x9.result, v10, v13], F11, F14, bx b27 25 [.int .i64 x17.1.params, .int .i64 x17.1.result, v18, v21], F38, F22, F30]) rfl ?_
        refine TC.loopW (r := z_72) (fun (s : (List PBlock × Int)) (e_65 : Env) (L_341 : List FP) => ∃ (x40 : List PBlock) (x43 : Int) (F41 : FP), s = (x40, x43) ∧ SlO 85 kBlock x40 v21 F41 ∧ e_65 1 = .pointer (some ⟨b6, 0, none⟩) ∧ e_65 3 = .bool x7 ∧ e_65 5 = .pointer (some ⟨b16, 0, none⟩) ∧ e_65 6 = .pointer (some ⟨b27, 0, none⟩) ∧ e_65 8 = v29 ∧ e_65 10 = .int .i64 x43 ∧ L_341 = [bx b6 25 [.int .i64 a1.params, .int .i64 a1.result, v2, v4], bx b16 25 [.int .i64 x9.params, .int .i64 x9.result, v10, v13], F11, F14, bx b27 25 [.int .i64 x17.1.params, .int .i64 x17.1.result, v18, v21], F38, F41, F30]) ?_ FUEL _ _ _ hz_73 ⟨x17.1.blocks, 0, F22, rfl, h23, h_56, h_57, h_58, h_59, h_60, rfl, rfl⟩
        rintro s e_65 L_341 ⟨x40, x43, F41, rfl, h42, h_66, h_67, h_68, h_69, h_70, h_71, rfl⟩ x_75 hp hx_76
        replace hp : fettlelaw05_GraphStays.bd76 x40 x43 = some x_75 := hp
        unfold fettlelaw05_GraphStays.bd76 at hp
        refine TC.seq fun K_225 hK_226 => ?_
        refine TC.seq fun K_227 hK_228 => ?_
        refine TC.region ?_
        refine TL.v (ltb rfl) (rv_mv (v := .int .i64 x43) h_71) ?_
        refine TL.v (ltb rfl) (rv_fa (b := b27) (o := 0) fa_25_3 h_69) ?_
        refine TL.v (ltb rfl) (rv_ld (v := v21) (o := 3) (o' := 0) (j := 3) sc_23 rfl (Src.at_ 4 rfl) (bx_cells b27 25 _) rfl rfl) ?_
        refine TL.v (ltb rfl) (rv_lenI (v := v21) Try.underlying23 rfl h42.ro) ?_
        refine TL.v (ltb rfl) (rv_lss (k := .i64) (m := x43) (n := (len x40)) rfl rfl) ?_
        refine TL.nil ?_
        refine TC.go hK_228 ?_
        by_cases hc_229 : x43 < (len x40)
        · rw [if_pos hc_229] at hp
          refine TC.condT (bT hc_229) ?_
          refine TC.skip ?_
          refine TC.go hK_226 ?_
          refine TC.seq fun K_230 hK_231 => ?_
          refine TC.block ?_
          refine TC.seq fun K_232 hK_233 => ?_
          refine TC.seq fun K_234 hK_235 => ?_
          refine TC.region ?_
          refine TL.v (ltb rfl) (rv_as (v := .int .i64 0) rfl) ?_
          refine TL.nil ?_
          refine TC.go hK_235 ?_
          refine TC.block ?_
          obtain ⟨z_244, hz_245, hr_246⟩ := bind_some' hp
          clear hp
          have hJ_328 : ∀ (x116 : List PBlock) (F117 : FP) (e_249 : Env) (h118 : SlO 85 kBlock x116 v21 F117) (h_250 : e_249 1 = .pointer (some ⟨b6, 0, none⟩)) (h_251 : e_249 3 = .bool x7) (h_252 : e_249 5 = .pointer (some ⟨b16, 0, none⟩)) (h_253 : e_249 6 = .pointer (some ⟨b27, 0, none⟩)) (h_254 : e_249 8 = v29) (h_255 : e_249 10 = .int .i64 x43) (hq_329 : x116 = z_244), ∀ w, St E H [bx b6 25 [.int .i64 a1.params, .int .i64 a1.result, v2, v4], bx b16 25 [.int .i64 x9.params, .int .i64 x9.result, v10, v13], F11, F14, bx b27 25 [.int .i64 x17.1.params, .int .i64 x17.1.result, v18, v21], F38, F117, F30] w → K_232 e_249 w := by
            intro x116 F117 e_249 h118 h_250 h_251 h_252 h_253 h_254 h_255 hq_329
            subst hq_329
            replace hp : fettlelaw05_GraphStays.nx248 x43 x116 = some x_75 := hr_246
            unfold fettlelaw05_GraphStays.nx248 at hp
            refine TC.go hK_233 ?_
            refine TC.seq fun K_256 hK_257 => ?_
            refine TC.region ?_
            refine TL.v (ltb rfl) (rv_as (v := .int .i64 0) rfl) ?_
            refine TL.nil ?_
            refine TC.go hK_257 ?_
            refine TC.block ?_
            obtain ⟨z_266, hz_267, hr_268⟩ := bind_some' hp
            clear hp
            have hJ_278 : ∀ (x123 : List PBlock) (F124 : FP) (e_271 : Env) (h125 : SlO 85 kBlock x123 v21 F124) (h_272 : e_271 1 = .pointer (some ⟨b6, 0, none⟩)) (h_273 : e_271 3 = .bool x7) (h_274 : e_271 5 = .pointer (some ⟨b16, 0, none⟩)) (h_275 : e_271 6 = .pointer (some ⟨b27, 0, none⟩)) (h_276 : e_271 8 = v29) (h_277 : e_271 10 = .int .i64 x43) (hq_279 : x123 = z_266), ∀ w, St E H [bx b6 25 [.int .i64 a1.params, .int .i64 a1.result, v2, v4], bx b16 25 [.int .i64 x9.params, .int .i64 x9.result, v10, v13], F11, F14, bx b27 25 [.int .i64 x17.1.params, .int .i64 x17.1.result, v18, v21], F38, F124, F30] w → K_230 e_271 w := by
              intro x123 F124 e_271 h125 h_272 h_273 h_274 h_275 h_276 h_277 hq_279
              subst hq_279
              replace hp : fettlelaw05_GraphStays.nx270 x43 x123 = some x_75 := hr_268
              unfold fettlelaw05_GraphStays.nx270 at hp
              refine TC.go hK_231 ?_
              refine TC.region ?_
              refine TL.v (ltb rfl) (rv_mv (v := .int .i64 x43) h_277) ?_
              refine TL.v (ltb rfl) (rv_add (k := .i64) (m := x43) (n := 1) rfl rfl) ?_
              refine TL.v (ltb rfl) (rv_as (v := .int .i64 (w64 (x43 + 1))) rfl) ?_
              refine TL.nil ?_
              exact fun w hw => goOk hp ⟨x123, (w64 (x43 + 1)), F124, rfl, h125, h_272, h_273, h_274, h_275, h_276, rfl, rfl⟩ (hw.pick [0, 0, 0, 0, 0, 0, 0, 0])
            refine TC.pk' [0, 0, 0, 0, 0, 0, 0, 0] (L' := [bx b6 25 [.int .i64 a1.params, .int .i64 a1.result, v2, v4], bx b16 25 [.int .i64 x9.params, .int .i64 x9.result, v10, v13], F11, F14, bx b27 25 [.int .i64 x17.1.params, .int .i64 x17.1.result, v18, v21], F38, F117, F30]) rfl ?_
            refine TC.loopW (r := z_266) (fun (s : (List PBlock × Int)) (e_258 : Env) (L_327 : List FP) => ∃ (x119 : List PBlock) (x122 : Int) (F120 : FP), s = (x119, x122) ∧ SlO 85 kBlock x119 v21 F120 ∧ e_258 1 = .pointer (some ⟨b6, 0, none⟩) ∧ e_258 3 = .bool x7 ∧ e_258 5 = .pointer (some ⟨b16, 0, none⟩) ∧ e_258 6 = .pointer (some ⟨b27, 0, none⟩) ∧ e_258 8 = v29 ∧ e_258 10 = .int .i64 x43 ∧ e_258 12 = .int .i64 x122 ∧ L_327 = [bx b6 25 [.int .i64 a1.params, .int .i64 a1.result, v2, v4], bx b16 25 [.int .i64 x9.params, .int .i64 x9.result, v10, v13], F11, F14, bx b27 25 [.int .i64 x17.1.params, .int .i64 x17.1.result, v18, v21], F38, F120, F30]) ?_ FUEL _ _ _ hz_267 ⟨x116, 0, F117, rfl, h118, h_250, h_251, h_252, h_253, h_254, h_255, rfl, rfl⟩
            rintro s e_258 L_327 ⟨x119, x122, F120, rfl, h121, h_259, h_260, h_261, h_262, h_263, h_264, h_265, rfl⟩ x_269 hp hx_270
            replace hp : fettlelaw05_GraphStays.bd270 x43 x119 x122 = some x_269 := hp
            unfold fettlelaw05_GraphStays.bd270 at hp
            refine TC.seq fun K_280 hK_281 => ?_
            refine TC.seq fun K_282 hK_283 => ?_
            refine TC.region ?_
            refine TL.v (ltb rfl) (rv_mv (v := .int .i64 x122) h_265) ?_
            refine TL.v (ltb rfl) (rv_fa (b := b27) (o := 0) fa_25_3 h_262) ?_
            refine TL.v (ltb rfl) (rv_ld (v := v21) (o := 3) (o' := 0) (j := 3) sc_23 rfl (Src.at_ 4 rfl) (bx_cells b27 25 _) rfl rfl) ?_
            refine TL.v (ltb rfl) (rv_mv (v := .int .i64 x43) h_264) ?_
            obtain ⟨x126, hx_284, hp⟩ := bind_some' hp
            refine TL.v3 (ltb rfl) (rv_ix 23 (.tmp 79) (.tmp 80) (v := v21) (i := x43) Try.underlying23 inf_85 rfl rfl rfl (h121).ro hx_284) fun b127 o128 c129 h130 h131 => ?_
            obtain ⟨v132, v134, v136, rfl, h133, h135, h137⟩ := h130
            refine TL.v (ltb rfl) (rv_fa (b := b127) (o := o128) fa_85_1 rfl) ?_
            refine TL.v (ltb rfl) (rv_ld (v := v134) (o := o128 + 1) (o' := o128) (j := 1) sc_83 rfl (Src.at_ 6 rfl) h131 rfl rfl) ?_
            refine TL.v (ltb rfl) (rv_lenI (v := v134) Try.underlying83 rfl h135) ?_
            refine TL.v (ltb rfl) (rv_lss (k := .i64) (m := x122) (n := (len x126.ins)) rfl rfl) ?_
            refine TL.nil ?_
            refine TC.go hK_283 ?_
            by_cases hc_285 : x122 < (len x126.ins)
            · rw [if_pos hc_285] at hp
              refine TC.condT (bT hc_285) ?_
              refine TC.skip ?_
              refine TC.go hK_281 ?_
              refine TC.seq fun K_286 hK_287 => ?_
              refine TC.block ?_
              refine TC.seq fun K_288 hK_289 => ?_
              refine TC.region ?_
              refine TL.v (ltb rfl) (rv_as (v := .int .i64 0) rfl) ?_
              refine TL.nil ?_
              refine TC.go hK_289 ?_
              refine TC.block ?_
              obtain ⟨z_299, hz_300, hr_301⟩ := bind_some' hp
              clear hp
              have hJ_312 : ∀ (x142 : List PBlock) (F143 : FP) (e_304 : Env) (h144 : SlO 85 kBlock x142 v21 F143) (h_305 : e_304 1 = .pointer (some ⟨b6, 0, none⟩)) (h_306 : e_304 3 = .bool x7) (h_307 : e_304 5 = .pointer (some ⟨b16, 0, none⟩)) (h_308 : e_304 6 = .pointer (some ⟨b27, 0, none⟩)) (h_309 : e_304 8 = v29) (h_310 : e_304 10 = .int .i64 x43) (h_311 : e_304 12 = .int .i64 x122) (hq_313 : x142 = z_299), ∀ w, St E H [bx b6 25 [.int .i64 a1.params, .int .i64 a1.result, v2, v4], bx b16 25 [.int .i64 x9.params, .int .i64 x9.result, v10, v13], F11, F14, bx b27 25 [.int .i64 x17.1.params, .int .i64 x17.1.result, v18, v21], F38, F143, F30] w → K_286 e_304 w := by
                intro x142 F143 e_304 h144 h_305 h_306 h_307 h_308 h_309 h_310 h_311 hq_313
                subst hq_313
                replace hp : fettlelaw05_GraphStays.nx303 x122 x142 = some x_269 := hr_301
                unfold fettlelaw05_GraphStays.nx303 at hp
                refine TC.go hK_287 ?_
                refine TC.region ?_
                refine TL.v (ltb rfl) (rv_mv (v := .int .i64 x122) h_311) ?_
                refine TL.v (ltb rfl) (rv_add (k := .i64) (m := x122) (n := 1) rfl rfl) ?_
                refine TL.v (ltb rfl) (rv_as (v := .int .i64 (w64 (x122 + 1))) rfl) ?_
                refine TL.nil ?_
                exact fun w hw => goOk hp ⟨x142, (w64 (x122 + 1)), F143, rfl, h144, h_305, h_306, h_307, h_308, h_309, h_310, rfl, rfl⟩ (hw.pick [0, 0, 0, 0, 0, 0, 0, 0])
              refine TC.pk' [0, 0, 0, 0, 0, 0, 0, 0] (L' := [bx b6 25 [.int .i64 a1.params, .int .i64 a1.result, v2, v4], bx b16 25 [.int .i64 x9.params, .int .i64 x9.result, v10, v13], F11, F14, bx b27 25 [.int .i64 x17.1.params, .int .i64 x17.1.result, v18, v21], F38, F120, F30]) rfl ?_
              refine TC.loopW (r := z_299) (fun (s : (List PBlock × Int)) (e_290 : Env) (L_326 : List FP) => ∃ (x138 : List PBlock) (x141 : Int) (F139 : FP), s = (x138, x141) ∧ SlO 85 kBlock x138 v21 F139 ∧ e_290 1 = .pointer (some ⟨b6, 0, none⟩) ∧ e_290 3 = .bool x7 ∧ e_290 5 = .pointer (some ⟨b16, 0, none⟩) ∧ e_290 6 = .pointer (some ⟨b27, 0, none⟩) ∧ e_290 8 = v29 ∧ e_290 10 = .int .i64 x43 ∧ e_290 12 = .int .i64 x122 ∧ e_290 13 = .int .i64 x141 ∧ L_326 = [bx b6 25 [.int .i64 a1.params, .int .i64 a1.result, v2, v4], bx b16 25 [.int .i64 x9.params, .int .i64 x9.result, v10, v13], F11, F14, bx b27 25 [.int .i64 x17.1.params, .int .i64 x17.1.result, v18, v21], F38, F139, F30]) ?_ FUEL _ _ _ hz_300 ⟨x119, 0, F120, rfl, h121, h_259, h_260, h_261, h_262, h_263, h_264, h_265, rfl, rfl⟩
              rintro s e_290 L_326 ⟨x138, x141, F139, rfl, h140, h_291, h_292, h_293, h_294, h_295, h_296, h_297, h_298, rfl⟩ x_302 hp hx_303
              replace hp : fettlelaw05_GraphStays.bd303 x43 x122 x138 x141 = some x_302 := hp
              unfold fettlelaw05_GraphStays.bd303 at hp
              refine TC.seq fun K_314 hK_315 => ?_
              refine TC.seq fun K_316 hK_317 => ?_
              refine TC.region ?_
              refine TL.v (ltb rfl) (rv_mv (v := .int .i64 x141) h_298) ?_
              refine TL.v (ltb rfl) (rv_fa (b := b27) (o := 0) fa_25_3 h_294) ?_
              refine TL.v (ltb rfl) (rv_ld (v := v21) (o := 3) (o' := 0) (j := 3) sc_23 rfl (Src.at_ 4 rfl) (bx_cells b27 25 _) rfl rfl) ?_
              refine TL.v (ltb rfl) (rv_mv (v := .int .i64 x43) h_296) ?_
              obtain ⟨x145, hx_318, hp⟩ := bind_some' hp
              refine TL.v3 (ltb rfl) (rv_ix 23 (.tmp 90) (.tmp 91) (v := v21) (i := x43) Try.underlying23 inf_85 rfl rfl rfl (h140).ro hx_318) fun b146 o147 c148 h149 h150 => ?_
              obtain ⟨v151, v153, v155, rfl, h152, h154, h156⟩ := h149
              refine TL.v (ltb rfl) (rv_fa (b := b146) (o := o147) fa_85_1 rfl) ?_
              refine TL.v (ltb rfl) (rv_ld (v := v153) (o := o147 + 1) (o' := o147) (j := 1) sc_83 rfl (Src.at_ 6 rfl) h150 rfl rfl) ?_
              refine TL.v (ltb rfl) (rv_mv (v := .int .i64 x122) h_297) ?_
              obtain ⟨x157, hx_319, hp⟩ := bind_some' hp
              refine TL.v3 (ltb rfl) (rv_ix 83 (.tmp 94) (.tmp 95) (v := v153) (i := x122) Try.underlying83 inf_87 rfl rfl rfl h154 hx_319) fun b158 o159 c160 h161 h162 => ?_
              obtain ⟨v163, rfl, h164⟩ := h161
              refine TL.v (ltb rfl) (rv_fa (b := b158) (o := o159) fa_87_2 rfl) ?_
              refine TL.v (ltb rfl) (rv_ld (v := v163) (o := o159 + 2) (o' := o159) (j := 2) sc_22 rfl (Src.at_ 6 rfl) h162 rfl rfl) ?_
              refine TL.v (ltb rfl) (rv_lenI (v := v163) Try.underlying22 rfl h164) ?_
              refine TL.v (ltb rfl) (rv_lss (k := .i64) (m := x141) (n := (len x157.args)) rfl rfl) ?_
              refine TL.nil ?_
              refine TC.go hK_317 ?_
              by_cases hc_320 : x141 < (len x157.args)
              · rw [if_pos hc_320] at hp
                refine TC.condT (bT hc_320) ?_
                refine TC.skip ?_
                refine TC.go hK_315 ?_
                refine TC.seq fun K_321 hK_322 => ?_
                refine TC.block ?_
                refine TC.region ?_
                refine TL.v (ltb rfl) (rv_fa (b := b27) (o := 0) fa_25_3 h_294) ?_
                refine TL.v (ltb rfl) (rv_ld (v := v21) (o := 3) (o' := 0) (j := 3) sc_23 rfl (Src.at_ 4 rfl) (bx_cells b27 25 _) rfl rfl) ?_
                refine TL.v (ltb rfl) (rv_mv (v := .int .i64 x43) h_296) ?_
                refine TL.pk' [6, 0, 0, 0, 0, 0, 0, 0] (L' := [F139, bx b6 25 [.int .i64 a1.params, .int .i64 a1.result, v2, v4], bx b16 25 [.int .i64 x9.params, .int .i64 x9.result, v10, v13], F11, F14, bx b27 25 [.int .i64 x17.1.params, .int .i64 x17.1.result, v18, v21], F38, F30]) rfl ?_
                obtain ⟨x165, hx_323, hp⟩ := bind_some' hp
                refine TL.open_ h140 hx_323 fun b166 c167 F168 F169 h170 h171 => ?_
                obtain ⟨v172, F173, v175, F176, v178, F179, rfl, rfl, h174, h177, h180⟩ := h171
                have h181 := (idx_some hx_323).1
                refine TL.perm (L' := [F168, F173, F176, F179, bx b6 25 [.int .i64 a1.params, .int .i64 a1.result, v2, v4], bx b16 25 [.int .i64 x9.params, .int .i64 x9.result, v10, v13], F11, F14, bx b27 25 [.int .i64 x17.1.params, .int .i64 x17.1.result, v18, v21], F38, F30]) (by simp) ?_
                refine TL.v (ltb rfl) (rv_ixH Try.underlying23 inf_85 (v := v21) (i := x43) rfl rfl h181 h170) ?_
                refine TL.v (ltb rfl) (rv_fa (b := b166) (o := (x43).toNat * 5) fa_85_1 rfl) ?_
                refine TL.v (ltb rfl) (rv_ld (v := v175) (o := (x43).toNat * 5 + 1) (o' := (x43).toNat * 5) (j := 1) sc_83 rfl (Src.at_ 0 rfl) (Hole.cells h170) rfl rfl) ?_
                refine TL.v (ltb rfl) (rv_mv (v := .int .i64 x122) h_297) ?_
                refine TL.pk' [2, 0, 0, 0, 0, 0, 0, 0, 0, 0, 0] (L' := [F176, F168, F173, F179, bx b6 25 [.int .i64 a1.params, .int .i64 a1.result, v2, v4], bx b16 25 [.int .i64 x9.params, .int .i64 x9.result, v10, v13], F11, F14, bx b27 25 [.int .i64 x17.1.params, .int .i64 x17.1.result, v18, v21], F38, F30]) rfl ?_
                obtain ⟨x182, hx_324, hp⟩ := bind_some' hp
                refine TL.open_ h177 hx_324 fun b183 c184 F185 F186 h187 h188 => ?_
                obtain ⟨v189, F190, rfl, rfl, h191⟩ := h188
                have h192 := (idx_some hx_324).1
                refine TL.v (ltb rfl) (rv_ixH Try.underlying83 inf_87 (v := v175) (i := x122) rfl rfl h192 h187) ?_
                refine TL.v (ltb rfl) (rv_fa (b := b183) (o := (x122).toNat * 5) fa_87_2 rfl) ?_
                refine TL.v (ltb rfl) (rv_ld (v := v189) (o := (x122).toNat * 5 + 2) (o' := (x122).toNat * 5) (j := 2) sc_22 rfl (Src.at_ 0 rfl) (Hole.cells h187) rfl rfl) ?_
                refine TL.v (ltb rfl) (rv_mv (v := .int .i64 x141) h_298) ?_
                obtain ⟨x193, hx_325, hp⟩ := bind_some' hp
                refine TL.v2 (ltb rfl) (rv_ixO 22 (.tmp 112) (.tmp 113) (v := v189) (i := x141) Try.underlying22 inf_3 rfl rfl rfl h191 (idx_some hx_325).1 (idx_some hx_325).2.1) fun b194 o195 h196 => ?_
                refine TL.pk' [1, 0, 0, 0, 0, 0, 0, 0, 0, 0, 0, 0] (L' := [F186, F185, F168, F173, F179, bx b6 25 [.int .i64 a1.params, .int .i64 a1.result, v2, v4], bx b16 25 [.int .i64 x9.params, .int .i64 x9.result, v10, v13], F11, F14, bx b27 25 [.int .i64 x17.1.params, .int .i64 x17.1.result, v18, v21], F38, F30]) rfl ?_
                refine TL.stE0 (ds := [.int .i64 9]) (u := .int .i64 9) (a := 9) h191 h196 ms_3 rfl rfl rfl ⟨rfl, rfl⟩ fun F197 h198 => ?_
                refine TL.nil ?_
                refine TC.go hK_322 ?_
                refine TC.region ?_
                refine TL.v (ltb rfl) (rv_mv (v := .int .i64 x141) h_298) ?_
                refine TL.v (ltb rfl) (rv_add (k := .i64) (m := x141) (n := 1) rfl rfl) ?_
                refine TL.v (ltb rfl) (rv_as (v := .int .i64 (w64 (x141 + 1))) rfl) ?_
                refine TL.nil ?_
                refine W.pk' [1, 0, 0, 0, 0, 0, 0, 0, 0, 0, 0, 0] (L' := [F185, F197, F168, F173, F179, bx b6 25 [.int .i64 a1.params, .int .i64 a1.result, v2, v4], bx b16 25 [.int .i64 x9.params, .int .i64 x9.result, v10, v13], F11, F14, bx b27 25 [.int .i64 x17.1.params, .int .i64 x17.1.result, v18, v21], F38, F30]) rfl ?_
                refine W.shut (a := (⟨x182.op, x182.dst, (x182.args.set (x141).toNat 9), x182.imm, x182.fn⟩ : PInstr)) h187 ⟨_, _, rfl, rfl, h198⟩ fun F199 h200 => ?_
                refine W.pk' [1, 1, 0, 0, 0, 0, 0, 0, 0, 0, 0] (L' := [F168, F173, F199, F179, bx b6 25 [.int .i64 a1.params, .int .i64 a1.result, v2, v4], bx b16 25 [.int .i64 x9.params, .int .i64 x9.result, v10, v13], F11, F14, bx b27 25 [.int .i64 x17.1.params, .int .i64 x17.1.result, v18, v21], F38, F30]) rfl ?_
                refine W.perm (L' := [F168, F173 ++ (F199 ++ (F179)), bx b6 25 [.int .i64 a1.params, .int .i64 a1.result, v2, v4], bx b16 25 [.int .i64 x9.params, .int .i64 x9.result, v10, v13], F11, F14, bx b27 25 [.int .i64 x17.1.params, .int .i64 x17.1.result, v18, v21], F38, F30]) (by simp) ?_
                refine W.shut (a := (⟨x165.phis, (x165.ins.set (x122).toNat (⟨x182.op, x182.dst, (x182.args.set (x141).toNat 9), x182.imm, x182.fn⟩ : PInstr)), (⟨x165.term.kind, x165.term.arg, x165.term.to⟩ : PTerm)⟩ : PBlock)) h170 ⟨_, _, _, _, _, _, rfl, rfl, h174, h200, h180⟩ fun F201 h202 => ?_
                exact fun w hw => goOk hp ⟨(x138.set (x43).toNat (⟨x165.phis, (x165.ins.set (x122).toNat (⟨x182.op, x182.dst, (x182.args.set (x141).toNat 9), x182.imm, x182.fn⟩ : PInstr)), (⟨x165.term.kind, x165.term.arg, x165.term.to⟩ : PTerm)⟩ : PBlock)), (w64 (x141 + 1)), F201, rfl, h202, h_291, h_292, h_293, h_294, h_295, h_296, h_297, rfl, rfl⟩ (hw.pick [1, 1, 1, 1, 1, 1, 0, 0])
              · rw [if_neg hc_320] at hp
                refine TC.condF (bF hc_320) ?_
                refine TC.exit ?_
                refine fun w hw => hJ_312 x138 F139 _ h140 ?_ ?_ ?_ ?_ ?_ ?_ ?_ (ex_ret hp hx_303) w (hw.pick [0, 0, 0, 0, 0, 0, 0, 0])
                · exact h_291
                · exact h_292
                · exact h_293
                · exact h_294
                · exact h_295
                · exact h_296
                · exact h_297
            · rw [if_neg hc_285] at hp
              refine TC.condF (bF hc_285) ?_
              refine TC.exit ?_
              refine fun w hw => hJ_278 x119 F120 _ h121 ?_ ?_ ?_ ?_ ?_ ?_ (ex_ret hp hx_270) w (hw.pick [0, 0, 0, 0, 0, 0, 0, 0])
              · exact h_259
              · exact h_260
              · exact h_261
              · exact h_262
              · exact h_263
              · exact h_264
          refine TC.pk' [0, 0, 0, 0, 0, 0, 0, 0] (L' := [bx b6 25 [.int .i64 a1.params, .int .i64 a1.result, v2, v4], bx b16 25 [.int .i64 x9.params, .int .i64 x9.result, v10, v13], F11, F14, bx b27 25 [.int .i64 x17.1.params, .int .i64 x17.1.result, v18, v21], F38, F41, F30]) rfl ?_
          refine TC.loopW (r := z_244) (fun (s : (List PBlock × Int)) (e_236 : Env) (L_340 : List FP) => ∃ (x112 : List PBlock) (x115 : Int) (F113 : FP), s = (x112, x115) ∧ SlO 85 kBlock x112 v21 F113 ∧ e_236 1 = .pointer (some ⟨b6, 0, none⟩) ∧ e_236 3 = .bool x7 ∧ e_236 5 = .pointer (some ⟨b16, 0, none⟩) ∧ e_236 6 = .pointer (some ⟨b27, 0, none⟩) ∧ e_236 8 = v29 ∧ e_236 10 = .int .i64 x43 ∧ e_236 11 = .int .i64 x115 ∧ L_340 = [bx b6 25 [.int .i64 a1.params, .int .i64 a1.result, v2, v4], bx b16 25 [.int .i64 x9.params, .int .i64 x9.result, v10, v13], F11, F14, bx b27 25 [.int .i64 x17.1.params, .int .i64 x17.1.result, v18, v21], F38, F113, F30]) ?_ FUEL _ _ _ hz_245 ⟨x40, 0, F41, rfl, h42, h_66, h_67, h_68, h_69, h_70, h_71, rfl, rfl⟩
          rintro s e_236 L_340 ⟨x112, x115, F113, rfl, h114, h_237, h_238, h_239, h_240, h_241, h_242, h_243, rfl⟩ x_247 hp hx_248
          replace hp : fettlelaw05_GraphStays.bd248 x43 x112 x115 = some x_247 := hp
          unfold fettlelaw05_GraphStays.bd248 at hp
          refine TC.seq fun K_330 hK_331 => ?_
          refine TC.seq fun K_332 hK_333 => ?_
          refine TC.region ?_
          refine TL.v (ltb rfl) (rv_mv (v := .int .i64 x115) h_243) ?_
          refine TL.v (ltb rfl) (rv_fa (b := b27) (o := 0) fa_25_3 h_240) ?_
          refine TL.v (ltb rfl) (rv_ld (v := v21) (o := 3) (o' := 0) (j := 3) sc_23 rfl (Src.at_ 4 rfl) (bx_cells b27 25 _) rfl rfl) ?_
          refine TL.v (ltb rfl) (rv_mv (v := .int .i64 x43) h_242) ?_
          obtain ⟨x203, hx_334, hp⟩ := bind_some' hp
          refine TL.v3 (ltb rfl) (rv_ix 23 (.tmp 58) (.tmp 59) (v := v21) (i := x43) Try.underlying23 inf_85 rfl rfl rfl (h114).ro hx_334) fun b204 o205 c206 h207 h208 => ?_
          obtain ⟨v209, v211, v213, rfl, h210, h212, h214⟩ := h207
          refine TL.v (ltb rfl) (rv_fa (b := b204) (o := o205) fa_85_2 rfl) ?_
          refine TL.v (ltb rfl) (rv_fa (b := b204) (o := o205 + 2) fa_81_2 rfl) ?_
          refine TL.v (ltb rfl) (rv_ld (v := v213) (o := o205 + 4) (o' := o205) (j := 4) sc_22 rfl (Src.at_ 6 rfl) h208 rfl rfl) ?_
          refine TL.v (ltb rfl) (rv_lenI (v := v213) Try.underlying22 rfl h214) ?_
          refine TL.v (ltb rfl) (rv_lss (k := .i64) (m := x115) (n := (len x203.term.to)) rfl rfl) ?_
          refine TL.nil ?_
          refine TC.go hK_333 ?_
          by_cases hc_335 : x115 < (len x203.term.to)
          · rw [if_pos hc_335] at hp
            refine TC.condT (bT hc_335) ?_
            refine TC.skip ?_
            refine TC.go hK_331 ?_
            refine TC.seq fun K_336 hK_337 => ?_
            refine TC.block ?_
            refine TC.region ?_
            refine TL.v (ltb rfl) (rv_fa (b := b27) (o := 0) fa_25_3 h_240) ?_
            refine TL.v (ltb rfl) (rv_ld (v := v21) (o := 3) (o' := 0) (j := 3) sc_23 rfl (Src.at_ 4 rfl) (bx_cells b27 25 _) rfl rfl) ?_
            refine TL.v (ltb rfl) (rv_mv (v := .int .i64 x43) h_242) ?_
            refine TL.pk' [6, 0, 0, 0, 0, 0, 0, 0] (L' := [F113, bx b6 25 [.int .i64 a1.params, .int .i64 a1.result, v2, v4], bx b16 25 [.int .i64 x9.params, .int .i64 x9.result, v10, v13], F11, F14, bx b27 25 [.int .i64 x17.1.params, .int .i64 x17.1.result, v18, v21], F38, F30]) rfl ?_
            obtain ⟨x215, hx_338, hp⟩ := bind_some' hp
            refine TL.open_ h114 hx_338 fun b216 c217 F218 F219 h220 h221 => ?_
            obtain ⟨v222, F223, v225, F226, v228, F229, rfl, rfl, h224, h227, h230⟩ := h221
            have h231 := (idx_some hx_338).1
            refine TL.perm (L' := [F218, F223, F226, F229, bx b6 25 [.int .i64 a1.params, .int .i64 a1.result, v2, v4], bx b16 25 [.int .i64 x9.params, .int .i64 x9.result, v10, v13], F11, F14, bx b27 25 [.int .i64 x17.1.params, .int .i64 x17.1.result, v18, v21], F38, F30]) (by simp) ?_
            refine TL.v (ltb rfl) (rv_ixH Try.underlying23 inf_85 (v := v21) (i := x43) rfl rfl h231 h220) ?_
            refine TL.v (ltb rfl) (rv_fa (b := b216) (o := (x43).toNat * 5) fa_85_2 rfl) ?_
            refine TL.v (ltb rfl) (rv_fa (b := b216) (o := (x43).toNat * 5 + 2) fa_81_2 rfl) ?_
            refine TL.v (ltb rfl) (rv_ld (v := v228) (o := (x43).toNat * 5 + 4) (o' := (x43).toNat * 5) (j := 4) sc_22 rfl (Src.at_ 0 rfl) (Hole.cells h220) rfl rfl) ?_
            refine TL.v (ltb rfl) (rv_mv (v := .int .i64 x115) h_243) ?_
            obtain ⟨x232, hx_339, hp⟩ := bind_some' hp
            refine TL.v2 (ltb rfl) (rv_ixO 22 (.tmp 74) (.tmp 75) (v := v228) (i := x115) Try.underlying22 inf_3 rfl rfl rfl h230 (idx_some hx_339).1 (idx_some hx_339).2.1) fun b233 o234 h235 => ?_
            refine TL.pk' [3, 0, 0, 0, 0, 0, 0, 0, 0, 0, 0] (L' := [F229, F218, F223, F226, bx b6 25 [.int .i64 a1.params, .int .i64 a1.result, v2, v4], bx b16 25 [.int .i64 x9.params, .int .i64 x9.result, v10, v13], F11, F14, bx b27 25 [.int .i64 x17.1.params, .int .i64 x17.1.result, v18, v21], F38, F30]) rfl ?_
            refine TL.stE0 (ds := [.int .i64 9]) (u := .int .i64 9) (a := 9) h230 h235 ms_3 rfl rfl rfl ⟨rfl, rfl⟩ fun F236 h237 => ?_
            refine TL.nil ?_
            refine TC.go hK_337 ?_
            refine TC.region ?_
            refine TL.v (ltb rfl) (rv_mv (v := .int .i64 x115) h_243) ?_
            refine TL.v (ltb rfl) (rv_add (k := .i64) (m := x115) (n := 1) rfl rfl) ?_
            refine TL.v (ltb rfl) (rv_as (v := .int .i64 (w64 (x115 + 1))) rfl) ?_
            refine TL.nil ?_
            refine W.pk' [1, 1, 1, 0, 0, 0, 0, 0, 0, 0, 0] (L' := [F218, F223, F226, F236, bx b6 25 [.int .i64 a1.params, .int .i64 a1.result, v2, v4], bx b16 25 [.int .i64 x9.params, .int .i64 x9.result, v10, v13], F11, F14, bx b27 25 [.int .i64 x17.1.params, .int .i64 x17.1.result, v18, v21], F38, F30]) rfl ?_
            refine W.perm (L' := [F218, F223 ++ (F226 ++ (F236)), bx b6 25 [.int .i64 a1.params, .int .i64 a1.result, v2, v4], bx b16 25 [.int .i64 x9.params, .int .i64 x9.result, v10, v13], F11, F14, bx b27 25 [.int .i64 x17.1.params, .int .i64 x17.1.result, v18, v21], F38, F30]) (by simp) ?_
            refine W.shut (a := (⟨x215.phis, x215.ins, (⟨x215.term.kind, x215.term.arg, (x215.term.to.set (x115).toNat 9)⟩ : PTerm)⟩ : PBlock)) h220 ⟨_, _, _, _, _, _, rfl, rfl, h224, h227, h237⟩ fun F238 h239 => ?_
            exact fun w hw => goOk hp ⟨(x112.set (x43).toNat (⟨x215.phis, x215.ins, (⟨x215.term.kind, x215.term.arg, (x215.term.to.set (x115).toNat 9)⟩ : PTerm)⟩ : PBlock)), (w64 (x115 + 1)), F238, rfl, h239, h_237, h_238, h_239, h_240, h_241, h_242, rfl, rfl⟩ (hw.pick [1, 1, 1, 1, 1, 1, 0, 0])
          · rw [if_neg hc_335] at hp
            refine TC.condF (bF hc_335) ?_
            refine TC.exit ?_
            refine fun w hw => hJ_328 x112 F113 _ h114 ?_ ?_ ?_ ?_ ?_ ?_ (ex_ret hp hx_248) w (hw.pick [0, 0, 0, 0, 0, 0, 0, 0])
            · exact h_237
            · exact h_238
            · exact h_239
            · exact h_240
            · exact h_241
            · exact h_242
        · rw [if_neg hc_229] at hp
          refine TC.condF (bF hc_229) ?_
          refine TC.exit ?_
          refine fun w hw => hJ_223 _ ?_ ?_ ?_ ?_ (ex_ret hp hx_76) w (hw.pick [0, 0, 0, 0, 3])
          · exact h_66
          · exact h_67
          · exact h_68
          · exact h_70
      refine TC.pk' [8, 5, 5, 5, 1, 1, 1, 0] (L' := [bx b6 25 [.int .i64 a1.params, .int .i64 a1.result, v2, v4], bx b16 25 [.int .i64 x9.params, .int .i64 x9.result, v10, v13], F11, F14, bx b27 25 [.int .i64 x17.1.params, .int .i64 x17.1.result, v18, v21], F19, F22, F30]) rfl ?_
      refine TC.loopW (r := z_50) (fun (s : (List Int × Int)) (e_43 : Env) (L_352 : List FP) => ∃ (x33 : List Int) (x36 : Int) (F34 : FP), s = (x33, x36) ∧ SlO 3 (kInt .i64) x33 v18 F34 ∧ e_43 1 = .pointer (some ⟨b6, 0, none⟩) ∧ e_43 3 = .bool x7 ∧ e_43 5 = .pointer (some ⟨b16, 0, none⟩) ∧ e_43 6 = .pointer (some ⟨b27, 0, none⟩) ∧ e_43 8 = v29 ∧ e_43 9 = .int .i64 x36 ∧ L_352 = [bx b6 25 [.int .i64 a1.params, .int .i64 a1.result, v2, v4], bx b16 25 [.int .i64 x9.params, .int .i64 x9.result, v10, v13], F11, F14, bx b27 25 [.int .i64 x17.1.params, .int .i64 x17.1.result, v18, v21], F34, F22, F30]) ?_ FUEL _ _ _ hz_51 ⟨x17.1.regs, 0, F19, rfl, h20, rfl, rfl, rfl, rfl, rfl, rfl, rfl⟩
      rintro s e_43 L_352 ⟨x33, x36, F34, rfl, h35, h_44, h_45, h_46, h_47, h_48, h_49, rfl⟩ x_53 hp hx_54
      replace hp : fettlelaw05_GraphStays.bd54 x33 x36 = some x_53 := hp
      unfold fettlelaw05_GraphStays.bd54 at hp
      refine TC.seq fun K_344 hK_345 => ?_
      refine TC.seq fun K_346 hK_347 => ?_
      refine TC.region ?_
      refine TL.v (ltb rfl) (rv_mv (v := .int .i64 x36) h_49) ?_
      refine TL.v (ltb rfl) (rv_fa (b := b27) (o := 0) fa_25_2 h_47) ?_
      refine TL.v (ltb rfl) (rv_ld (v := v18) (o := 2) (o' := 0) (j := 2) sc_22 rfl (Src.at_ 4 rfl) (bx_cells b27 25 _) rfl rfl) ?_
      refine TL.v (ltb rfl) (rv_lenI (v := v18) Try.underlying22 rfl h35.ro) ?_
      refine TL.v (ltb rfl) (rv_lss (k := .i64) (m := x36) (n := (len x33)) rfl rfl) ?_
      refine TL.nil ?_
      refine TC.go hK_347 ?_
      by_cases hc_348 : x36 < (len x33)
      · rw [if_pos hc_348] at hp
        refine TC.condT (bT hc_348) ?_
        refine TC.skip ?_
        refine TC.go hK_345 ?_
        refine TC.seq fun K_349 hK_350 => ?_
        refine TC.block ?_
        refine TC.region ?_
        refine TL.v (ltb rfl) (rv_fa (b := b27) (o := 0) fa_25_2 h_47) ?_
        refine TL.v (ltb rfl) (rv_ld (v := v18) (o := 2) (o' := 0) (j := 2) sc_22 rfl (Src.at_ 4 rfl) (bx_cells b27 25 _) rfl rfl) ?_
        refine TL.v (ltb rfl) (rv_mv (v := .int .i64 x36) h_49) ?_
        obtain ⟨x240, hx_351, hp⟩ := bind_some' hp
        refine TL.v2 (ltb rfl) (rv_ixO 22 (.tmp 46) (.tmp 47) (v := v18) (i := x36) Try.underlying22 inf_3 rfl rfl rfl h35 (idx_some hx_351).1 (idx_some hx_351).2.1) fun b241 o242 h243 => ?_
        refine TL.pk' [5, 0, 0, 0, 0, 0, 0, 0] (L' := [F34, bx b6 25 [.int .i64 a1.params, .int .i64 a1.result, v2, v4], bx b16 25 [.int .i64 x9.params, .int .i64 x9.result, v10, v13], F11, F14, bx b27 25 [.int .i64 x17.1.params, .int .i64 x17.1.result, v18, v21], F22, F30]) rfl ?_
        refine TL.stE0 (ds := [.int .i64 9]) (u := .int .i64 9) (a := 9) h35 h243 ms_3 rfl rfl rfl ⟨rfl, rfl⟩ fun F244 h245 => ?_
        refine TL.nil ?_
        refine TC.go hK_350 ?_
        refine TC.region ?_
        refine TL.v (ltb rfl) (rv_mv (v := .int .i64 x36) h_49) ?_
        refine TL.v (ltb rfl) (rv_add (k := .i64) (m := x36) (n := 1) rfl rfl) ?_
        refine TL.v (ltb rfl) (rv_as (v := .int .i64 (w64 (x36 + 1))) rfl) ?_
        refine TL.nil ?_
        exact fun w hw => goOk hp ⟨(x33.set (x36).toNat 9), (w64 (x36 + 1)), F244, rfl, h245, h_44, h_45, h_46, h_47, h_48, rfl, rfl⟩ (hw.pick [1, 1, 1, 1, 1, 0, 0, 0])
      · rw [if_neg hc_348] at hp
        refine TC.condF (bF hc_348) ?_
        refine TC.exit ?_
        refine fun w hw => hJ_342 x33 F34 _ h35 ?_ ?_ ?_ ?_ ?_ (ex_ret hp hx_54) w (hw.pick [0, 0, 0, 0, 0, 0, 0, 0])
        · exact h_44
        · exact h_45
        · exact h_46
        · exact h_47
        · exact h_48
end Go.Proofs.Ytoflleabpkgdpaa
