/- The walk through the program's functions: each one's pure reading, and that a call does what it says. No conditions. -/
import Derived.Test.YtoflleabpkgdpaaGb
set_option linter.unusedVariables false
set_option linter.unusedSimpArgs false
namespace Go.Proofs.Ytoflleabpkgdpaa
open Go Go.Proofs

/-! ### fettle/fettleref05.Trim -/
abbrev fettleref05_Trim.R (r : PFunc × List Int) (v : Value) (A : List FP) : Prop := ∃ (w1 : Value) (G1 : FP) (w2 : Value) (G2 : FP) (w3 : Value) (G3 : FP), .tuple #[.agg #[.int .i64 r.1.params, .int .i64 r.1.result, w1, w2], w3] = v ∧ A = [G1, G2, G3] ∧ SlO 3 (kInt .i64) r.1.regs w1 G1 ∧ SlO 85 kBlock r.1.blocks w2 G2 ∧ SlO 3 (kInt .i64) r.2 w3 G3
def fettleref05_Trim.nx54 (x18 : List Int) (x22 : PFunc) (x39 : List PBlock) : Option (PFunc × List Int) :=
  some ((⟨x22.params, x22.result, x22.regs, x39⟩ : PFunc), x18)
def fettleref05_Trim.jn78 (x38 : Int) (x43 : List (Option PBlock)) (x46 : List PBlock) : Option (Ex (List PBlock) (List (Option PBlock) × List PBlock × Int)) :=
  some (.go (x43, x46, (w64 (x38 + 1))))
def fettleref05_Trim.nx139 (x31 : List (Option PBlock)) (x34 : List PBlock) (x38 : Int) (x56 : PBlock) (x84 : List PPhi) (x91 : List Int) : Option (Ex (List PBlock) (List (Option PBlock) × List PBlock × Int)) :=
  (cat x34 [(⟨x84, x56.ins, (⟨x56.term.kind, x56.term.arg, x91⟩ : PTerm)⟩ : PBlock)]).bind fun x95 =>
  fettleref05_Trim.jn78 x38 (x31.set (x38).toNat none) x95
def fettleref05_Trim.jn169 (x90 : Int) (x99 : List Int) : Option (Ex (List Int) (List Int × Int)) :=
  some (.go (x99, (w64 (x90 + 1))))
def fettleref05_Trim.bd139 (x18 : List Int) (x87 : List Int) (x90 : Int) : Option (Ex (List Int) (List Int × Int)) :=
  if x90 < (len x87) then
    (idx x87 x90).bind fun x102 =>
    if x102 ≥ 0 ∧ x102 < (len x18) then
      (idx x18 x102).bind fun x2509 =>
      (idx x87 x90).bind fun x3309 =>
      fettleref05_Trim.jn169 x90 (x87.set (x90).toNat x2509)
    else
      fettleref05_Trim.jn169 x90 x87
  else
    some (.ret x87)
def fettleref05_Trim.nx111 (x18 : List Int) (x31 : List (Option PBlock)) (x34 : List PBlock) (x38 : Int) (x56 : PBlock) (x84 : List PPhi) : Option (Ex (List PBlock) (List (Option PBlock) × List PBlock × Int)) :=
  (whl (fun (s : (List Int × Int)) => fettleref05_Trim.bd139 x18 s.1 s.2) FUEL (x56.term.to, 0)).bind fun z =>
  fettleref05_Trim.nx139 x31 x34 x38 x56 x84 z
def fettleref05_Trim.jn217 (x83 : Int) (x4109 : List PPhi) : Option (Ex (List PPhi) (List PPhi × Int)) :=
  some (.go (x4109, (w64 (x83 + 1))))
def fettleref05_Trim.nx247 (x80 : List PPhi) (x83 : Int) (x4125 : List Int) : Option (Ex (List PPhi) (List PPhi × Int)) :=
  (idx x80 x83).bind fun x4129 =>
  fettleref05_Trim.jn217 x83 (x80.set (x83).toNat (⟨x4129.dst, x4125⟩ : PPhi))
def fettleref05_Trim.jn283 (x4124 : Int) (x4144 : List Int) : Option (Ex (List Int) (List Int × Int)) :=
  some (.go (x4144, (w64 (x4124 + 1))))
def fettleref05_Trim.bd247 (x8 : List Bool) (x76 : List Int) (x80 : List PPhi) (x83 : Int) (x4120 : List Int) (x4124 : Int) : Option (Ex (List Int) (List Int × Int)) :=
  if x4124 < (len x76) then
    (idx x76 x4124).bind fun x4148 =>
    (idx x8 x4148).bind fun x4154 =>
    if x4154 = true then
      (idx x80 x83).bind fun x4160 =>
      (idx x4160.args x4124).bind fun x4168 =>
      (cat x4120 [x4168]).bind fun x4175 =>
      fettleref05_Trim.jn283 x4124 x4175
    else
      fettleref05_Trim.jn283 x4124 x4120
  else
    some (.ret x4120)
def fettleref05_Trim.bd111 (x8 : List Bool) (x76 : List Int) (x80 : List PPhi) (x83 : Int) : Option (Ex (List PPhi) (List PPhi × Int)) :=
  if x83 < (len x80) then
    (idx x80 x83).bind fun x4112 =>
    if ¬ (len x4112.args) = (len x76) then
      fettleref05_Trim.jn217 x83 x80
    else
      (whl (fun (s : (List Int × Int)) => fettleref05_Trim.bd247 x8 x76 x80 x83 s.1 s.2) FUEL (([] : List Int), 0)).bind fun z =>
      fettleref05_Trim.nx247 x80 x83 z
  else
    some (.ret x80)
def fettleref05_Trim.bd54 (a1 : PFunc) (x8 : List Bool) (x18 : List Int) (x31 : List (Option PBlock)) (x34 : List PBlock) (x38 : Int) : Option (Ex (List PBlock) (List (Option PBlock) × List PBlock × Int)) :=
  if x38 < (len x8) then
    (idx x8 x38).bind fun x50 =>
    if (!x50) = true then
      fettleref05_Trim.jn78 x38 x31 x34
    else
      (idxO x31 x38).bind fun x56 =>
      (fettleref02_Ahead a1 x38).bind fun x76 =>
      (whl (fun (s : (List PPhi × Int)) => fettleref05_Trim.bd111 x8 x76 s.1 s.2) FUEL (x56.phis, 0)).bind fun z =>
      fettleref05_Trim.nx111 x18 x31 x34 x38 x56 z
  else
    some (.ret x34)
def fettleref05_Trim.nx26 (a1 : PFunc) (x8 : List Bool) (x18 : List Int) : Option (PFunc × List Int) :=
  (fettleref02_CopyFunc a1).bind fun x22 =>
  (whl (fun (s : (List (Option PBlock) × List PBlock × Int)) => fettleref05_Trim.bd54 a1 x8 x18 s.1 s.2.1 s.2.2) FUEL ((List.map some x22.blocks), ([] : List PBlock), 0)).bind fun z =>
  fettleref05_Trim.nx54 x18 x22 z
def fettleref05_Trim.jn311 (x17 : Int) (x4181 : List Int) (x4185 : Int) : Option (Ex (List Int) (List Int × Int × Int)) :=
  some (.go (x4181, x4185, (w64 (x17 + 1))))
def fettleref05_Trim.bd26 (x8 : List Bool) (x12 : List Int) (x16 : Int) (x17 : Int) : Option (Ex (List Int) (List Int × Int × Int)) :=
  if x17 < (len x8) then
    (idx x8 x17).bind fun x4186 =>
    if x4186 = true then
      (cat x12 [x16]).bind fun x4193 =>
      fettleref05_Trim.jn311 x17 x4193 (w64 (x16 + 1))
    else
      (cat x12 [-1]).bind fun x4198 =>
      fettleref05_Trim.jn311 x17 x4198 x16
  else
    some (.ret x12)
def fettleref05_Trim (a1 : PFunc) : Option (PFunc × List Int) :=
  (fettleref05_From a1 0 (-1)).bind fun x8 =>
  (whl (fun (s : (List Int × Int × Int)) => fettleref05_Trim.bd26 x8 s.1 s.2.1 s.2.2) FUEL (([] : List Int), 0, 0)).bind fun z =>
  fettleref05_Trim.nx26 a1 x8 z
set_option maxHeartbeats 4000000 in
theorem fettleref05_Trim_ok {E : World} {H : FP} {w : World} {a1 : PFunc} {v2 : Value} {v4 : Value} {r : PFunc × List Int} (h3 : SlI (kInt .i64) H a1.regs v2) (h5 : SlI kBlock H a1.blocks v4) (hp : fettleref05_Trim a1 = some r) (hst : St E H [] w) :
    Fn Try.prog 43 #[.agg #[.int .i64 a1.params, .int .i64 a1.result, v2, v4]] w fun v w' => ∃ A, fettleref05_Trim.R r v A ∧ St E H A w' := by
  refine Fn.bodyV (fn := Try.f43) (args := [.agg #[.int .i64 a1.params, .int .i64 a1.result, v2, v4]]) E H [] 154 Try.func43 rfl rfl (leb rfl) hst ?_
  unfold fettleref05_Trim at hp
  refine TC.seq fun K_1 hK_2 => ?_
  refine TC.region ?_
  refine TL.box (cs := [.int .i64 a1.params, .int .i64 a1.result, v2, v4]) (v := .agg #[.int .i64 a1.params, .int .i64 a1.result, v2, v4]) (ltb rfl) rfl rfl fun b6 => ?_
  refine TL.alloc (cs := [.int .i64 0, .int .i64 0, .slice none 0 0, .slice none 0 0]) inf_25 (ltb rfl) rfl fun b7 => ?_
  refine TL.v (ltb rfl) (rv_as (v := .slice none 0 0) rfl) ?_
  refine TL.nil ?_
  refine TC.go hK_2 ?_
  refine TC.seq fun K_3 hK_4 => ?_
  refine TC.region ?_
  refine TL.v (ltb rfl) (rv_lda (o := 0) (o' := 0) (j := 0) (ds := [.int .i64 a1.params, .int .i64 a1.result, v2, v4]) ag_25 rfl (Src.at_ 1 rfl) (bx_cells b6 25 _) rfl rfl rfl) ?_
  obtain ⟨x8, hy_5, hp⟩ := bind_some' hp
  refine TL.callC (vs := [.agg #[.int .i64 a1.params, .int .i64 a1.result, v2, v4], .int .i64 0, .int .i64 (-1)]) (R := fettleref05_From.R x8) [] [bx b7 25 [.int .i64 0, .int .i64 0, .slice none 0 0, .slice none 0 0], bx b6 25 [.int .i64 a1.params, .int .i64 a1.result, v2, v4]] rfl cb_21 (ltb rfl) (mc rfl (mc rfl (mc rfl m0))) (fun w hw => fettleref05_From_ok (a1 := a1) (a6 := 0) (a7 := -1) (h3.mono subH) (h5.mono subH) hy_5 hw) fun v A' hR_6 => ?_
  obtain ⟨v9, F10, rfl, rfl, h11⟩ := hR_6
  refine TL.norm (L' := [F10, bx b7 25 [.int .i64 0, .int .i64 0, .slice none 0 0, .slice none 0 0], bx b6 25 [.int .i64 a1.params, .int .i64 a1.result, v2, v4]]) rfl ?_
  refine TL.v (ltb rfl) (rv_as (v := v9) rfl) ?_
  refine TL.nil ?_
  refine TC.go hK_4 ?_
  refine TC.seq fun K_7 hK_8 => ?_
  refine TC.region ?_
  refine TL.v (ltb rfl) (rv_as (v := .slice none 0 0) rfl) ?_
  refine TL.nil ?_
  refine TC.go hK_8 ?_
  refine TC.seq fun K_9 hK_10 => ?_
  refine TC.region ?_
  refine TL.v (ltb rfl) (rv_as (v := .int .i64 0) rfl) ?_
  refine TL.nil ?_
  refine TC.go hK_10 ?_
  refine TC.seq fun K_11 hK_12 => ?_
  refine TC.seq fun K_13 hK_14 => ?_
  refine TC.region ?_
  refine TL.v (ltb rfl) (rv_as (v := .int .i64 0) rfl) ?_
  refine TL.nil ?_
  refine TC.go hK_14 ?_
  refine TC.block ?_
  obtain ⟨z_22, hz_23, hr_24⟩ := bind_some' hp
  clear hp
  have hJ_295 : ∀ (x18 : List Int) (v19 : Value) (F20 : FP) (e_27 : Env) (h21 : SlO 3 (kInt .i64) x18 v19 F20) (h_28 : e_27 1 = .pointer (some ⟨b6, 0, none⟩)) (h_29 : e_27 2 = .pointer (some ⟨b7, 0, none⟩)) (h_30 : e_27 4 = v9) (h_31 : e_27 5 = v19) (hq_296 : x18 = z_22), ∀ w, St E H [bx b6 25 [.int .i64 a1.params, .int .i64 a1.result, v2, v4], bx b7 25 [.int .i64 0, .int .i64 0, .slice none 0 0, .slice none 0 0], F10, F20] w → K_11 e_27 w := by
    intro x18 v19 F20 e_27 h21 h_28 h_29 h_30 h_31 hq_296
    subst hq_296
    replace hp : fettleref05_Trim.nx26 a1 x8 x18 = some r := hr_24
    unfold fettleref05_Trim.nx26 at hp
    refine TC.go hK_12 ?_
    refine TC.seq fun K_32 hK_33 => ?_
    refine TC.region ?_
    refine TL.v (ltb rfl) (rv_lda (o := 0) (o' := 0) (j := 0) (ds := [.int .i64 a1.params, .int .i64 a1.result, v2, v4]) ag_25 h_28 (Src.at_ 0 rfl) (bx_cells b6 25 _) rfl rfl rfl) ?_
    obtain ⟨x22, hy_34, hp⟩ := bind_some' hp
    refine TL.callC (vs := [.agg #[.int .i64 a1.params, .int .i64 a1.result, v2, v4]]) (R := fettleref02_CopyFunc.R x22) [] [bx b6 25 [.int .i64 a1.params, .int .i64 a1.result, v2, v4], bx b7 25 [.int .i64 0, .int .i64 0, .slice none 0 0, .slice none 0 0], F10, F20] rfl cb_46 (ltb rfl) (mc rfl m0) (fun w hw => fettleref02_CopyFunc_ok (a1 := a1) (h3.mono subH) (h5.mono subH) hy_34 hw) fun v A' hR_35 => ?_
    obtain ⟨v23, F24, v26, F27, rfl, rfl, h25, h28⟩ := hR_35
    refine TL.norm (L' := [F24, F27, bx b6 25 [.int .i64 a1.params, .int .i64 a1.result, v2, v4], bx b7 25 [.int .i64 0, .int .i64 0, .slice none 0 0, .slice none 0 0], F10, F20]) rfl ?_
    refine TL.alloc (cs := [.int .i64 0, .int .i64 0, .slice none 0 0, .slice none 0 0]) inf_25 (ltb rfl) rfl fun b29 => ?_
    refine TL.stB (ds := [.int .i64 x22.params, .int .i64 x22.result, v23, v26]) (o := 0) (cs := [.int .i64 0, .int .i64 0, .slice none 0 0, .slice none 0 0]) (b := b29) (u := .agg #[.int .i64 x22.params, .int .i64 x22.result, v23, v26]) 0 rfl ms_25 rfl rfl rfl (oc rfl (oc rfl (oc (h25).one (oc (h28).one oc0)))) (leb rfl) ?_
    refine TL.norm (L' := [bx b29 25 [.int .i64 x22.params, .int .i64 x22.result, v23, v26], F24, F27, bx b6 25 [.int .i64 a1.params, .int .i64 a1.result, v2, v4], bx b7 25 [.int .i64 0, .int .i64 0, .slice none 0 0, .slice none 0 0], F10, F20]) rfl ?_
    refine TL.nil ?_
    refine TC.go hK_33 ?_
    refine TC.seq fun K_36 hK_37 => ?_
    refine TC.region ?_
    refine TL.v (ltb rfl) (rv_fa (b := b29) (o := 0) fa_25_0 rfl) ?_
    refine TL.v (ltb rfl) (rv_ld (v := .int .i64 x22.params) (o := 0) (o' := 0) (j := 0) sc_3 rfl (Src.at_ 0 rfl) (bx_cells b29 25 _) rfl rfl) ?_
    refine TL.v (ltb rfl) (rv_fa (b := b29) (o := 0) fa_25_1 rfl) ?_
    refine TL.v (ltb rfl) (rv_ld (v := .int .i64 x22.result) (o := 1) (o' := 0) (j := 1) sc_3 rfl (Src.at_ 0 rfl) (bx_cells b29 25 _) rfl rfl) ?_
    refine TL.v (ltb rfl) (rv_fa (b := b29) (o := 0) fa_25_2 rfl) ?_
    refine TL.v (ltb rfl) (rv_ld (v := v23) (o := 2) (o' := 0) (j := 2) sc_22 rfl (Src.at_ 0 rfl) (bx_cells b29 25 _) rfl rfl) ?_
    refine TL.v (ltb rfl) (rv_bv (vs := [(0, .int .i64 x22.params), (1, .int .i64 x22.result), (2, v23)]) (ds := [.int .i64 x22.params, .int .i64 x22.result, v23, .slice none 0 0]) (pc rfl (pc rfl (pc rfl p0))) (fun w => by obtain ⟨_, _, rfl⟩ := (h25).len; kernel_rfl)) ?_
    refine TL.alloc (cs := [.int .i64 0, .int .i64 0, .slice none 0 0, .slice none 0 0]) inf_25 (ltb rfl) rfl fun b30 => ?_
    refine TL.stB (ds := [.int .i64 x22.params, .int .i64 x22.result, v23, .slice none 0 0]) (o := 0) (cs := [.int .i64 0, .int .i64 0, .slice none 0 0, .slice none 0 0]) (b := b30) (u := .agg #[.int .i64 x22.params, .int .i64 x22.result, v23, .slice none 0 0]) 0 rfl ms_25 rfl rfl rfl (oc rfl (oc rfl (oc (h25).one (oc rfl oc0)))) (leb rfl) ?_
    refine TL.norm (L' := [bx b30 25 [.int .i64 x22.params, .int .i64 x22.result, v23, .slice none 0 0], bx b29 25 [.int .i64 x22.params, .int .i64 x22.result, v23, v26], F24, F27, bx b6 25 [.int .i64 a1.params, .int .i64 a1.result, v2, v4], bx b7 25 [.int .i64 0, .int .i64 0, .slice none 0 0, .slice none 0 0], F10, F20]) rfl ?_
    refine TL.nil ?_
    refine TC.go hK_37 ?_
    refine TC.seq fun K_38 hK_39 => ?_
    refine TC.seq fun K_40 hK_41 => ?_
    refine TC.region ?_
    refine TL.v (ltb rfl) (rv_as (v := .int .i64 0) rfl) ?_
    refine TL.nil ?_
    refine TC.go hK_41 ?_
    refine TC.block ?_
    obtain ⟨z_50, hz_51, hr_52⟩ := bind_some' hp
    clear hp
    have hJ_61 : ∀ (x39 : List PBlock) (v40 : Value) (F41 : FP) (e_55 : Env) (h42 : SlO 85 kBlock x39 v40 F41) (h_56 : e_55 2 = .pointer (some ⟨b7, 0, none⟩)) (h_57 : e_55 5 = v19) (h_58 : e_55 9 = .pointer (some ⟨b30, 0, none⟩)) (hq_62 : x39 = z_50), ∀ w, St E H [bx b7 25 [.int .i64 0, .int .i64 0, .slice none 0 0, .slice none 0 0], F20, bx b30 25 [.int .i64 x22.params, .int .i64 x22.result, v23, v40], F24, F41] w → K_38 e_55 w := by
      intro x39 v40 F41 e_55 h42 h_56 h_57 h_58 hq_62
      subst hq_62
      replace hp : fettleref05_Trim.nx54 x18 x22 x39 = some r := hr_52
      unfold fettleref05_Trim.nx54 at hp
      refine TC.go hK_39 ?_
      refine TC.seq fun K_59 hK_60 => ?_
      refine TC.region ?_
      refine TL.v (ltb rfl) (rv_lda (o := 0) (o' := 0) (j := 0) (ds := [.int .i64 x22.params, .int .i64 x22.result, v23, v40]) ag_25 h_58 (Src.at_ 2 rfl) (bx_cells b30 25 _) rfl rfl rfl) ?_
      refine TL.v (ltb rfl) (rv_mv (v := v19) h_57) ?_
      refine TL.stB (ds := [.int .i64 x22.params, .int .i64 x22.result, v23, v40]) (o := 0) (cs := [.int .i64 0, .int .i64 0, .slice none 0 0, .slice none 0 0]) (b := b7) (u := .agg #[.int .i64 x22.params, .int .i64 x22.result, v23, v40]) 0 rfl ms_25 h_56 rfl rfl (oc rfl (oc rfl (oc (h25).one (oc (h42).one oc0)))) (leb rfl) ?_
      refine TL.norm (L' := [bx b7 25 [.int .i64 x22.params, .int .i64 x22.result, v23, v40], F20, bx b30 25 [.int .i64 x22.params, .int .i64 x22.result, v23, v40], F24, F41]) rfl ?_
      refine TL.v (ltb rfl) (rv_as (v := v19) rfl) ?_
      refine TL.nil ?_
      refine TC.go hK_60 ?_
      refine TC.ret ?_
      obtain rfl := Option.some.inj hp
      exact fun w hw => retC2 hw rfl h_56 rfl ag_25 0 rfl rfl ⟨v23, F24, v40, F41, v19, F20, rfl, rfl, h25, h42, h21⟩ (hw.pick [3, 3, 1])
    refine W.new0 ?_
    refine TC.pk' [5, 5, 5, 5, 2, 2, 2, 1, 0] (L' := [bx b6 25 [.int .i64 a1.params, .int .i64 a1.result, v2, v4], bx b7 25 [.int .i64 0, .int .i64 0, .slice none 0 0, .slice none 0 0], F10, F20, bx b29 25 [.int .i64 x22.params, .int .i64 x22.result, v23, v26], F24, F27, bx b30 25 [.int .i64 x22.params, .int .i64 x22.result, v23, (.slice none 0 0)], ([] : FP)]) rfl ?_
    refine TC.loopW (r := z_50) (fun (s : (List (Option PBlock) × List PBlock × Int)) (e_42 : Env) (L_294 : List FP) => ∃ (x31 : List (Option PBlock)) (x34 : List PBlock) (x38 : Int) (F32 : FP) (v35 : Value) (F36 : FP), s = (x31, x34, x38) ∧ SlO 85 (kOpt kBlock) x31 v26 F32 ∧ SlO 85 kBlock x34 v35 F36 ∧ e_42 1 = .pointer (some ⟨b6, 0, none⟩) ∧ e_42 2 = .pointer (some ⟨b7, 0, none⟩) ∧ e_42 4 = v9 ∧ e_42 5 = v19 ∧ e_42 8 = .pointer (some ⟨b29, 0, none⟩) ∧ e_42 9 = .pointer (some ⟨b30, 0, none⟩) ∧ e_42 10 = .int .i64 x38 ∧ L_294 = [bx b6 25 [.int .i64 a1.params, .int .i64 a1.result, v2, v4], bx b7 25 [.int .i64 0, .int .i64 0, .slice none 0 0, .slice none 0 0], F10, F20, bx b29 25 [.int .i64 x22.params, .int .i64 x22.result, v23, v26], F24, F32, bx b30 25 [.int .i64 x22.params, .int .i64 x22.result, v23, v35], F36]) ?_ FUEL _ _ _ hz_51 ⟨(List.map some x22.blocks), ([] : List PBlock), 0, F27, (.slice none 0 0), ([] : FP), rfl, (SlO.toOpt h28), (SlO.nil 85), h_28, h_29, h_30, h_31, rfl, rfl, rfl, rfl⟩
    rintro s e_42 L_294 ⟨x31, x34, x38, F32, v35, F36, rfl, h33, h37, h_43, h_44, h_45, h_46, h_47, h_48, h_49, rfl⟩ x_53 hp hx_54
    replace hp : fettleref05_Trim.bd54 a1 x8 x18 x31 x34 x38 = some x_53 := hp
    unfold fettleref05_Trim.bd54 at hp
    refine TC.seq fun K_63 hK_64 => ?_
    refine TC.seq fun K_65 hK_66 => ?_
    refine TC.region ?_
    refine TL.v (ltb rfl) (rv_mv (v := .int .i64 x38) h_49) ?_
    refine TL.v (ltb rfl) (rv_mv (v := v9) h_45) ?_
    refine TL.v (ltb rfl) (rv_lenI (v := v9) Try.underlying30 rfl h11.ro) ?_
    refine TL.v (ltb rfl) (rv_lss (k := .i64) (m := x38) (n := (len x8)) rfl rfl) ?_
    refine TL.nil ?_
    refine TC.go hK_66 ?_
    by_cases hc_67 : x38 < (len x8)
    · rw [if_pos hc_67] at hp
      refine TC.condT (bT hc_67) ?_
      refine TC.skip ?_
      refine TC.go hK_64 ?_
      refine TC.seq fun K_68 hK_69 => ?_
      have hJ_78 : ∀ (x43 : List (Option PBlock)) (x46 : List PBlock) (F44 : FP) (v47 : Value) (F48 : FP) (e_70 : Env) (h45 : SlO 85 (kOpt kBlock) x43 v26 F44) (h49 : SlO 85 kBlock x46 v47 F48) (h_71 : e_70 1 = .pointer (some ⟨b6, 0, none⟩)) (h_72 : e_70 2 = .pointer (some ⟨b7, 0, none⟩)) (h_73 : e_70 4 = v9) (h_74 : e_70 5 = v19) (h_75 : e_70 8 = .pointer (some ⟨b29, 0, none⟩)) (h_76 : e_70 9 = .pointer (some ⟨b30, 0, none⟩)) (h_77 : e_70 10 = .int .i64 x38) (hp : fettleref05_Trim.jn78 x38 x43 x46 = some x_53), ∀ w, St E H [bx b6 25 [.int .i64 a1.params, .int .i64 a1.result, v2, v4], bx b7 25 [.int .i64 0, .int .i64 0, .slice none 0 0, .slice none 0 0], F10, F20, bx b29 25 [.int .i64 x22.params, .int .i64 x22.result, v23, v26], F24, F44, bx b30 25 [.int .i64 x22.params, .int .i64 x22.result, v23, v47], F48] w → K_68 e_70 w := by
        intro x43 x46 F44 v47 F48 e_70 h45 h49 h_71 h_72 h_73 h_74 h_75 h_76 h_77 hp
        unfold fettleref05_Trim.jn78 at hp
        refine TC.go hK_69 ?_
        refine TC.region ?_
        refine TL.v (ltb rfl) (rv_mv (v := .int .i64 x38) h_77) ?_
        refine TL.v (ltb rfl) (rv_add (k := .i64) (m := x38) (n := 1) rfl rfl) ?_
        refine TL.v (ltb rfl) (rv_as (v := .int .i64 (w64 (x38 + 1))) rfl) ?_
        refine TL.nil ?_
        exact fun w hw => goOk hp ⟨x43, x46, (w64 (x38 + 1)), F44, v47, F48, rfl, h45, h49, h_71, h_72, h_73, h_74, h_75, h_76, rfl, rfl⟩ (hw.pick [0, 0, 0, 0, 0, 0, 0, 0, 0])
      refine TC.block ?_
      refine TC.seq fun K_79 hK_80 => ?_
      refine TC.seq fun K_81 hK_82 => ?_
      refine TC.region ?_
      refine TL.v (ltb rfl) (rv_mv (v := v9) h_45) ?_
      refine TL.v (ltb rfl) (rv_mv (v := .int .i64 x38) h_49) ?_
      obtain ⟨x50, hx_83, hp⟩ := bind_some' hp
      refine TL.v3 (ltb rfl) (rv_ix 30 (.tmp 54) (.tmp 55) (v := v9) (i := x38) Try.underlying30 inf_4 rfl rfl rfl (h11).ro hx_83) fun b51 o52 c53 h54 h55 => ?_
      obtain rfl := h54
      refine TL.v (ltb rfl) (rv_ld (v := .bool x50) (o := o52) (o' := o52) (j := 0) sc_4 rfl (Src.at_ 2 rfl) h55 rfl rfl) ?_
      refine TL.v (ltb rfl) (rv_not (b := x50) rfl) ?_
      refine TL.nil ?_
      refine TC.go hK_82 ?_
      by_cases hc_84 : (!x50) = true
      · rw [if_pos hc_84] at hp
        refine TC.condT (bbT hc_84) ?_
        refine TC.exit ?_
        refine fun w hw => hJ_78 x31 x34 F32 v35 F36 _ h33 h37 ?_ ?_ ?_ ?_ ?_ ?_ ?_ hp w (hw.pick [0, 0, 0, 0, 0, 0, 0, 0, 0])
        · exact h_43
        · exact h_44
        · exact h_45
        · exact h_46
        · exact h_47
        · exact h_48
        · exact h_49
      · rw [if_neg hc_84] at hp
        refine TC.condF (bbF hc_84) ?_
        refine TC.skip ?_
        refine TC.go hK_80 ?_
        refine TC.seq fun K_85 hK_86 => ?_
        refine TC.region ?_
        refine TL.v (ltb rfl) (rv_fa (b := b29) (o := 0) fa_25_3 h_47) ?_
        refine TL.v (ltb rfl) (rv_ld (v := v26) (o := 3) (o' := 0) (j := 3) sc_23 rfl (Src.at_ 4 rfl) (bx_cells b29 25 _) rfl rfl) ?_
        refine TL.v (ltb rfl) (rv_mv (v := .int .i64 x38) h_49) ?_
        refine TL.pk' [6, 0, 0, 0, 0, 0, 0, 0, 0] (L' := [F32, bx b6 25 [.int .i64 a1.params, .int .i64 a1.result, v2, v4], bx b7 25 [.int .i64 0, .int .i64 0, .slice none 0 0, .slice none 0 0], F10, F20, bx b29 25 [.int .i64 x22.params, .int .i64 x22.result, v23, v26], F24, bx b30 25 [.int .i64 x22.params, .int .i64 x22.result, v23, v35], F36]) rfl ?_
        obtain ⟨x56, hx_87, hp⟩ := bind_some' hp
        refine TL.open_ h33 (idxO_some hx_87) fun b57 c58 F59 F60 h61 h62 => ?_
        obtain ⟨v63, F64, v66, F67, v69, F70, rfl, rfl, h65, h68, h71⟩ := h62
        have h72 := (idx_some (idxO_some hx_87)).1
        refine TL.perm (L' := [F59, F64, F67, F70, bx b6 25 [.int .i64 a1.params, .int .i64 a1.result, v2, v4], bx b7 25 [.int .i64 0, .int .i64 0, .slice none 0 0, .slice none 0 0], F10, F20, bx b29 25 [.int .i64 x22.params, .int .i64 x22.result, v23, v26], F24, bx b30 25 [.int .i64 x22.params, .int .i64 x22.result, v23, v35], F36]) (by simp) ?_
        refine TL.v (ltb rfl) (rv_ixH Try.underlying23 inf_85 (v := v26) (i := x38) rfl rfl h72 h61) ?_
        refine TL.v (ltb rfl) (rv_lda (o := (x38).toNat * 5) (o' := (x38).toNat * 5) (j := 0) (ds := [v63, v66, .int .i64 x56.term.kind, .int .i64 x56.term.arg, v69]) ag_85 rfl (Src.at_ 0 rfl) (Hole.cells h61) rfl rfl rfl) ?_
        refine TL.empty ?_
        refine TL.shut (a := none) h61 ⟨rfl, rfl, (oc (h65).one (oc (h68).one (oc rfl (oc rfl (oc (h71).one oc0)))))⟩ fun F73 h74 => ?_
        refine TL.alloc (cs := [.slice none 0 0, .slice none 0 0, .int .i64 0, .int .i64 0, .slice none 0 0]) inf_85 (ltb rfl) rfl fun b75 => ?_
        refine TL.stB (ds := [v63, v66, .int .i64 x56.term.kind, .int .i64 x56.term.arg, v69]) (o := 0) (cs := [.slice none 0 0, .slice none 0 0, .int .i64 0, .int .i64 0, .slice none 0 0]) (b := b75) (u := .agg #[v63, v66, .int .i64 x56.term.kind, .int .i64 x56.term.arg, v69]) 0 rfl ms_85 rfl rfl rfl (oc (h65).one (oc (h68).one (oc rfl (oc rfl (oc (h71).one oc0))))) (leb rfl) ?_
        refine TL.norm (L' := [bx b75 85 [v63, v66, .int .i64 x56.term.kind, .int .i64 x56.term.arg, v69], F73, F64, F67, F70, bx b6 25 [.int .i64 a1.params, .int .i64 a1.result, v2, v4], bx b7 25 [.int .i64 0, .int .i64 0, .slice none 0 0, .slice none 0 0], F10, F20, bx b29 25 [.int .i64 x22.params, .int .i64 x22.result, v23, v26], F24, bx b30 25 [.int .i64 x22.params, .int .i64 x22.result, v23, v35], F36]) rfl ?_
        refine TL.nil ?_
        refine TC.go hK_86 ?_
        refine TC.seq fun K_88 hK_89 => ?_
        refine TC.region ?_
        refine TL.v (ltb rfl) (rv_lda (o := 0) (o' := 0) (j := 0) (ds := [.int .i64 a1.params, .int .i64 a1.result, v2, v4]) ag_25 h_43 (Src.at_ 5 rfl) (bx_cells b6 25 _) rfl rfl rfl) ?_
        refine TL.v (ltb rfl) (rv_mv (v := .int .i64 x38) h_49) ?_
        obtain ⟨x76, hy_90, hp⟩ := bind_some' hp
        refine TL.callC (vs := [.agg #[.int .i64 a1.params, .int .i64 a1.result, v2, v4], .int .i64 x38]) (R := fettleref02_Ahead.R x76) [] [bx b75 85 [v63, v66, .int .i64 x56.term.kind, .int .i64 x56.term.arg, v69], F73, F64, F67, F70, bx b6 25 [.int .i64 a1.params, .int .i64 a1.result, v2, v4], bx b7 25 [.int .i64 0, .int .i64 0, .slice none 0 0, .slice none 0 0], F10, F20, bx b29 25 [.int .i64 x22.params, .int .i64 x22.result, v23, v26], F24, bx b30 25 [.int .i64 x22.params, .int .i64 x22.result, v23, v35], F36] rfl cb_74 (ltb rfl) (mc rfl (mc rfl m0)) (fun w hw => fettleref02_Ahead_ok (a1 := a1) (a6 := x38) (h3.mono subH) (h5.mono subH) hy_90 hw) fun v A' hR_91 => ?_
        obtain ⟨v77, F78, rfl, rfl, h79⟩ := hR_91
        refine TL.norm (L' := [F78, bx b75 85 [v63, v66, .int .i64 x56.term.kind, .int .i64 x56.term.arg, v69], F73, F64, F67, F70, bx b6 25 [.int .i64 a1.params, .int .i64 a1.result, v2, v4], bx b7 25 [.int .i64 0, .int .i64 0, .slice none 0 0, .slice none 0 0], F10, F20, bx b29 25 [.int .i64 x22.params, .int .i64 x22.result, v23, v26], F24, bx b30 25 [.int .i64 x22.params, .int .i64 x22.result, v23, v35], F36]) rfl ?_
        refine TL.v (ltb rfl) (rv_as (v := v77) rfl) ?_
        refine TL.nil ?_
        refine TC.go hK_89 ?_
        refine TC.seq fun K_92 hK_93 => ?_
        refine TC.seq fun K_94 hK_95 => ?_
        refine TC.region ?_
        refine TL.v (ltb rfl) (rv_as (v := .int .i64 0) rfl) ?_
        refine TL.nil ?_
        refine TC.go hK_95 ?_
        refine TC.block ?_
        obtain ⟨z_107, hz_108, hr_109⟩ := bind_some' hp
        clear hp
        have hJ_197 : ∀ (x84 : List PPhi) (F85 : FP) (e_112 : Env) (h86 : SlO 131 kPhi x84 v63 F85) (h_113 : e_112 1 = .pointer (some ⟨b6, 0, none⟩)) (h_114 : e_112 2 = .pointer (some ⟨b7, 0, none⟩)) (h_115 : e_112 4 = v9) (h_116 : e_112 5 = v19) (h_117 : e_112 8 = .pointer (some ⟨b29, 0, none⟩)) (h_118 : e_112 9 = .pointer (some ⟨b30, 0, none⟩)) (h_119 : e_112 10 = .int .i64 x38) (h_120 : e_112 11 = .pointer (some ⟨b75, 0, none⟩)) (hq_198 : x84 = z_107), ∀ w, St E H [bx b6 25 [.int .i64 a1.params, .int .i64 a1.result, v2, v4], bx b7 25 [.int .i64 0, .int .i64 0, .slice none 0 0, .slice none 0 0], F10, F20, bx b29 25 [.int .i64 x22.params, .int .i64 x22.result, v23, v26], F24, F73, bx b30 25 [.int .i64 x22.params, .int .i64 x22.result, v23, v35], F36, bx b75 85 [v63, v66, .int .i64 x56.term.kind, .int .i64 x56.term.arg, v69], F85, F67, F70] w → K_92 e_112 w := by
          intro x84 F85 e_112 h86 h_113 h_114 h_115 h_116 h_117 h_118 h_119 h_120 hq_198
          subst hq_198
          replace hp : fettleref05_Trim.nx111 x18 x31 x34 x38 x56 x84 = some x_53 := hr_109
          unfold fettleref05_Trim.nx111 at hp
          refine TC.go hK_93 ?_
          refine TC.seq fun K_121 hK_122 => ?_
          refine TC.seq fun K_123 hK_124 => ?_
          refine TC.region ?_
          refine TL.v (ltb rfl) (rv_as (v := .int .i64 0) rfl) ?_
          refine TL.nil ?_
          refine TC.go hK_124 ?_
          refine TC.block ?_
          obtain ⟨z_135, hz_136, hr_137⟩ := bind_some' hp
          clear hp
          have hJ_150 : ∀ (x91 : List Int) (F92 : FP) (e_140 : Env) (h93 : SlO 3 (kInt .i64) x91 v69 F92) (h_141 : e_140 1 = .pointer (some ⟨b6, 0, none⟩)) (h_142 : e_140 2 = .pointer (some ⟨b7, 0, none⟩)) (h_143 : e_140 4 = v9) (h_144 : e_140 5 = v19) (h_145 : e_140 8 = .pointer (some ⟨b29, 0, none⟩)) (h_146 : e_140 9 = .pointer (some ⟨b30, 0, none⟩)) (h_147 : e_140 10 = .int .i64 x38) (h_148 : e_140 11 = .pointer (some ⟨b75, 0, none⟩)) (hq_151 : x91 = z_135), ∀ w, St E H [bx b6 25 [.int .i64 a1.params, .int .i64 a1.result, v2, v4], bx b7 25 [.int .i64 0, .int .i64 0, .slice none 0 0, .slice none 0 0], F10, F20, bx b29 25 [.int .i64 x22.params, .int .i64 x22.result, v23, v26], F24, F73, bx b30 25 [.int .i64 x22.params, .int .i64 x22.result, v23, v35], F36, bx b75 85 [v63, v66, .int .i64 x56.term.kind, .int .i64 x56.term.arg, v69], F85, F67, F92] w → K_121 e_140 w := by
            intro x91 F92 e_140 h93 h_141 h_142 h_143 h_144 h_145 h_146 h_147 h_148 hq_151
            subst hq_151
            replace hp : fettleref05_Trim.nx139 x31 x34 x38 x56 x84 x91 = some x_53 := hr_137
            unfold fettleref05_Trim.nx139 at hp
            refine TC.go hK_122 ?_
            refine TC.region ?_
            refine TL.v (ltb rfl) (rv_fa (b := b30) (o := 0) fa_25_3 h_146) ?_
            refine TL.v (ltb rfl) (rv_ld (v := v35) (o := 3) (o' := 0) (j := 3) sc_23 rfl (Src.at_ 7 rfl) (bx_cells b30 25 _) rfl rfl) ?_
            refine TL.v (ltb rfl) (rv_lda (o := 0) (o' := 0) (j := 0) (ds := [v63, v66, .int .i64 x56.term.kind, .int .i64 x56.term.arg, v69]) ag_85 h_148 (Src.at_ 9 rfl) (bx_cells b75 85 _) rfl rfl rfl) ?_
            refine TL.bv (vs := [(0, .agg #[v63, v66, .int .i64 x56.term.kind, .int .i64 x56.term.arg, v69])]) (cs := [v63, v66, .int .i64 x56.term.kind, .int .i64 x56.term.arg, v69]) (pc rfl p0) Try.underlying23 inf_85 (ltb rfl) (by decide) (by decide) (by kernel_rfl) fun b94 => ?_
            refine TL.pk' [9, 0, 9, 9, 9, 0, 0, 0, 0, 0, 0, 0, 0, 0] (L' := [F36, bx b94 85 [v63, v66, .int .i64 x56.term.kind, .int .i64 x56.term.arg, v69], F85, F67, F92, bx b6 25 [.int .i64 a1.params, .int .i64 a1.result, v2, v4], bx b7 25 [.int .i64 0, .int .i64 0, .slice none 0 0, .slice none 0 0], F10, F20, bx b29 25 [.int .i64 x22.params, .int .i64 x22.result, v23, v26], F24, F73, bx b30 25 [.int .i64 x22.params, .int .i64 x22.result, v23, v35], bx b75 85 [v63, v66, .int .i64 x56.term.kind, .int .i64 x56.term.arg, v69]]) rfl ?_
            refine TL.perm (L' := [F36, bx b94 85 [v63, v66, .int .i64 x56.term.kind, .int .i64 x56.term.arg, v69], F85 ++ (F67 ++ (F92)) ++ [], bx b6 25 [.int .i64 a1.params, .int .i64 a1.result, v2, v4], bx b7 25 [.int .i64 0, .int .i64 0, .slice none 0 0, .slice none 0 0], F10, F20, bx b29 25 [.int .i64 x22.params, .int .i64 x22.result, v23, v26], F24, F73, bx b30 25 [.int .i64 x22.params, .int .i64 x22.result, v23, v35], bx b75 85 [v63, v66, .int .i64 x56.term.kind, .int .i64 x56.term.arg, v69]]) (by simp) ?_
            obtain ⟨x95, hz_149, hp⟩ := bind_some' hp
            refine TL.app Try.underlying23 inf_85 (ltb rfl) rfl (ltb rfl) rfl (leb rfl) rfl rfl h37 (RepL.to (RepL.cons (k := kBlock) (x := (⟨x84, x56.ins, (⟨x56.term.kind, x56.term.arg, x91⟩ : PTerm)⟩ : PBlock)) ⟨_, _, _, _, _, _, rfl, rfl, h86, h68, h93⟩ RepL.nil) rfl) rfl rfl hz_149 fun v96 F97 h98 => ?_
            refine TL.v (ltb rfl) (rv_fa (b := b30) (o := 0) fa_25_3 h_146) ?_
            refine TL.stB (ds := [v96]) (o := 3) (cs := [.int .i64 x22.params, .int .i64 x22.result, v23, v35]) (b := b30) (u := v96) 8 rfl ms_23 rfl rfl (SlO.cells h98) (oc (h98).one oc0) (leb rfl) ?_
            refine TL.norm (L' := [F97, bx b6 25 [.int .i64 a1.params, .int .i64 a1.result, v2, v4], bx b7 25 [.int .i64 0, .int .i64 0, .slice none 0 0, .slice none 0 0], F10, F20, bx b29 25 [.int .i64 x22.params, .int .i64 x22.result, v23, v26], F24, F73, bx b30 25 [.int .i64 x22.params, .int .i64 x22.result, v23, v96], bx b75 85 [v63, v66, .int .i64 x56.term.kind, .int .i64 x56.term.arg, v69]]) rfl ?_
            refine TL.nil ?_
            refine fun w hw => hJ_78 (x31.set (x38).toNat none) x95 F73 v96 F97 _ h74 h98 ?_ ?_ ?_ ?_ ?_ ?_ ?_ hp w (hw.pick [1, 1, 1, 1, 1, 1, 1, 1, 0])
            · exact h_141
            · exact h_142
            · exact h_143
            · exact h_144
            · exact h_145
            · exact h_146
            · exact h_147
          refine TC.pk' [0, 0, 0, 0, 0, 0, 0, 0, 0, 0, 0, 0, 0] (L' := [bx b6 25 [.int .i64 a1.params, .int .i64 a1.result, v2, v4], bx b7 25 [.int .i64 0, .int .i64 0, .slice none 0 0, .slice none 0 0], F10, F20, bx b29 25 [.int .i64 x22.params, .int .i64 x22.result, v23, v26], F24, F73, bx b30 25 [.int .i64 x22.params, .int .i64 x22.result, v23, v35], F36, bx b75 85 [v63, v66, .int .i64 x56.term.kind, .int .i64 x56.term.arg, v69], F85, F67, F70]) rfl ?_
          refine TC.loopW (r := z_135) (fun (s : (List Int × Int)) (e_125 : Env) (L_196 : List FP) => ∃ (x87 : List Int) (x90 : Int) (F88 : FP), s = (x87, x90) ∧ SlO 3 (kInt .i64) x87 v69 F88 ∧ e_125 1 = .pointer (some ⟨b6, 0, none⟩) ∧ e_125 2 = .pointer (some ⟨b7, 0, none⟩) ∧ e_125 4 = v9 ∧ e_125 5 = v19 ∧ e_125 8 = .pointer (some ⟨b29, 0, none⟩) ∧ e_125 9 = .pointer (some ⟨b30, 0, none⟩) ∧ e_125 10 = .int .i64 x38 ∧ e_125 11 = .pointer (some ⟨b75, 0, none⟩) ∧ e_125 16 = .int .i64 x90 ∧ L_196 = [bx b6 25 [.int .i64 a1.params, .int .i64 a1.result, v2, v4], bx b7 25 [.int .i64 0, .int .i64 0, .slice none 0 0, .slice none 0 0], F10, F20, bx b29 25 [.int .i64 x22.params, .int .i64 x22.result, v23, v26], F24, F73, bx b30 25 [.int .i64 x22.params, .int .i64 x22.result, v23, v35], F36, bx b75 85 [v63, v66, .int .i64 x56.term.kind, .int .i64 x56.term.arg, v69], F85, F67, F88]) ?_ FUEL _ _ _ hz_136 ⟨x56.term.to, 0, F70, rfl, h71, h_113, h_114, h_115, h_116, h_117, h_118, h_119, h_120, rfl, rfl⟩
          rintro s e_125 L_196 ⟨x87, x90, F88, rfl, h89, h_126, h_127, h_128, h_129, h_130, h_131, h_132, h_133, h_134, rfl⟩ x_138 hp hx_139
          replace hp : fettleref05_Trim.bd139 x18 x87 x90 = some x_138 := hp
          unfold fettleref05_Trim.bd139 at hp
          refine TC.seq fun K_152 hK_153 => ?_
          refine TC.seq fun K_154 hK_155 => ?_
          refine TC.region ?_
          refine TL.v (ltb rfl) (rv_mv (v := .int .i64 x90) h_134) ?_
          refine TL.v (ltb rfl) (rv_fa (b := b75) (o := 0) fa_85_2 h_133) ?_
          refine TL.v (ltb rfl) (rv_fa (b := b75) (o := 2) fa_81_2 rfl) ?_
          refine TL.v (ltb rfl) (rv_ld (v := v69) (o := 4) (o' := 0) (j := 4) sc_22 rfl (Src.at_ 9 rfl) (bx_cells b75 85 _) rfl rfl) ?_
          refine TL.v (ltb rfl) (rv_lenI (v := v69) Try.underlying22 rfl h89.ro) ?_
          refine TL.v (ltb rfl) (rv_lss (k := .i64) (m := x90) (n := (len x87)) rfl rfl) ?_
          refine TL.nil ?_
          refine TC.go hK_155 ?_
          by_cases hc_156 : x90 < (len x87)
          · rw [if_pos hc_156] at hp
            refine TC.condT (bT hc_156) ?_
            refine TC.skip ?_
            refine TC.go hK_153 ?_
            refine TC.seq fun K_157 hK_158 => ?_
            have hJ_169 : ∀ (x99 : List Int) (F100 : FP) (e_159 : Env) (h101 : SlO 3 (kInt .i64) x99 v69 F100) (h_160 : e_159 1 = .pointer (some ⟨b6, 0, none⟩)) (h_161 : e_159 2 = .pointer (some ⟨b7, 0, none⟩)) (h_162 : e_159 4 = v9) (h_163 : e_159 5 = v19) (h_164 : e_159 8 = .pointer (some ⟨b29, 0, none⟩)) (h_165 : e_159 9 = .pointer (some ⟨b30, 0, none⟩)) (h_166 : e_159 10 = .int .i64 x38) (h_167 : e_159 11 = .pointer (some ⟨b75, 0, none⟩)) (h_168 : e_159 16 = .int .i64 x90) (hp : fettleref05_Trim.jn169 x90 x99 = some x_138), ∀ w, St E H [bx b6 25 [.int .i64 a1.params, .int .i64 a1.result, v2, v4], bx b7 25 [.int .i64 0, .int .i64 0, .slice none 0 0, .slice none 0 0], F10, F20, bx b29 25 [.int .i64 x22.params, .int .i64 x22.result, v23, v26], F24, F73, bx b30 25 [.int .i64 x22.params, .int .i64 x22.result, v23, v35], F36, bx b75 85 [v63, v66, .int .i64 x56.term.kind, .int .i64 x56.term.arg, v69], F85, F67, F100] w → K_157 e_159 w := by
              intro x99 F100 e_159 h101 h_160 h_161 h_162 h_163 h_164 h_165 h_166 h_167 h_168 hp
              unfold fettleref05_Trim.jn169 at hp
              refine TC.go hK_158 ?_
              refine TC.region ?_
              refine TL.v (ltb rfl) (rv_mv (v := .int .i64 x90) h_168) ?_
              refine TL.v (ltb rfl) (rv_add (k := .i64) (m := x90) (n := 1) rfl rfl) ?_
              refine TL.v (ltb rfl) (rv_as (v := .int .i64 (w64 (x90 + 1))) rfl) ?_
              refine TL.nil ?_
              exact fun w hw => goOk hp ⟨x99, (w64 (x90 + 1)), F100, rfl, h101, h_160, h_161, h_162, h_163, h_164, h_165, h_166, h_167, rfl, rfl⟩ (hw.pick [0, 0, 0, 0, 0, 0, 0, 0, 0, 0, 0, 0, 0])
            refine TC.block ?_
            refine TC.seq fun K_170 hK_171 => ?_
            refine TC.region ?_
            refine TL.v (ltb rfl) (rv_fa (b := b75) (o := 0) fa_85_2 h_133) ?_
            refine TL.v (ltb rfl) (rv_fa (b := b75) (o := 2) fa_81_2 rfl) ?_
            refine TL.v (ltb rfl) (rv_ld (v := v69) (o := 4) (o' := 0) (j := 4) sc_22 rfl (Src.at_ 9 rfl) (bx_cells b75 85 _) rfl rfl) ?_
            refine TL.v (ltb rfl) (rv_mv (v := .int .i64 x90) h_134) ?_
            obtain ⟨x102, hx_172, hp⟩ := bind_some' hp
            refine TL.v3 (ltb rfl) (rv_ix 22 (.tmp 125) (.tmp 126) (v := v69) (i := x90) Try.underlying22 inf_3 rfl rfl rfl (h89).ro hx_172) fun b103 o104 c105 h106 h107 => ?_
            obtain rfl := h106
            refine TL.v (ltb rfl) (rv_ld (v := .int .i64 x102) (o := o104) (o' := o104) (j := 0) sc_3 rfl (Src.at_ 12 rfl) h107 rfl rfl) ?_
            refine TL.v (ltb rfl) (rv_as (v := .int .i64 x102) rfl) ?_
            refine TL.nil ?_
            refine TC.go hK_171 ?_
            refine TC.seq fun K_173 hK_174 => ?_
            refine TC.region ?_
            refine TL.v (ltb rfl) (rv_mv (v := .int .i64 x102) rfl) ?_
            refine TL.v (ltb rfl) (rv_geq (k := .i64) (m := x102) (n := 0) rfl rfl) ?_
            refine TL.v (ltb rfl) (rv_mv (v := .bool (decide (x102 ≥ 0))) rfl) ?_
            refine TL.cut 5 fun K_175 hK_176 => ?_
            have hJ_177 : ∀ e_179 : Env, e_179 1 = .pointer (some ⟨b6, 0, none⟩) → e_179 2 = .pointer (some ⟨b7, 0, none⟩) → e_179 4 = v9 → e_179 5 = v19 → e_179 8 = .pointer (some ⟨b29, 0, none⟩) → e_179 9 = .pointer (some ⟨b30, 0, none⟩) → e_179 10 = .int .i64 x38 → e_179 11 = .pointer (some ⟨b75, 0, none⟩) → e_179 16 = .int .i64 x90 → e_179 17 = .int .i64 x102 → e_179 136 = .bool (decide (x102 ≥ 0 ∧ x102 < (len x18))) → ∀ w, St E H [bx b6 25 [.int .i64 a1.params, .int .i64 a1.result, v2, v4], bx b7 25 [.int .i64 0, .int .i64 0, .slice none 0 0, .slice none 0 0], F10, F20, bx b29 25 [.int .i64 x22.params, .int .i64 x22.result, v23, v26], F24, F73, bx b30 25 [.int .i64 x22.params, .int .i64 x22.result, v23, v35], F36, bx b75 85 [v63, v66, .int .i64 x56.term.kind, .int .i64 x56.term.arg, v69], F85, F67, F88] w → K_175 e_179 w := by
              intro e_179 h_180 h_181 h_182 h_183 h_184 h_185 h_186 h_187 h_188 h_189 h_190
              refine TL.go hK_176 ?_
              refine TL.nil ?_
              refine TC.go hK_174 ?_
              by_cases hc_191 : x102 ≥ 0 ∧ x102 < (len x18)
              · rw [if_pos hc_191] at hp
                refine TC.condT (h_190.trans (bT hc_191)) ?_
                refine TC.held ([bx b6 25 [.int .i64 a1.params, .int .i64 a1.result, v2, v4], bx b7 25 [.int .i64 0, .int .i64 0, .slice none 0 0, .slice none 0 0], F10, F20, bx b29 25 [.int .i64 x22.params, .int .i64 x22.result, v23, v26], F24, F73, bx b30 25 [.int .i64 x22.params, .int .i64 x22.result, v23, v35], F36, bx b75 85 [v63, v66, .int .i64 x56.term.kind, .int .i64 x56.term.arg, v69], F85, F67].flatten ++ H) mix (srcG 0 rfl (srcG 1 rfl (srcG 2 rfl (srcG 3 rfl (srcG 4 rfl (srcG 5 rfl (srcG 6 rfl (srcG 7 rfl (srcG 8 rfl (srcG 9 rfl (srcG 10 rfl (srcG 11 rfl srcG0)))))))))))) ?_
                refine HL.v 0 rfl trivial (by kernel_rfl) (by kernel_rfl) (by kernel_rfl) (ltb rfl) (rv_fa (b := b75) (o := 0) fa_85_2 h_187) ?_
                refine HL.v 1 rfl trivial (by kernel_rfl) (by kernel_rfl) (by kernel_rfl) (ltb rfl) (rv_fa (b := b75) (o := 2) fa_81_2 rfl) ?_
                refine HL.v 2 rfl trivial (by kernel_rfl) (by kernel_rfl) (by kernel_rfl) (ltb rfl) (rv_ld (v := v69) (o := 4) (o' := 0) (j := 4) sc_22 rfl (srcInG 9 rfl) (bx_cells b75 85 _) rfl rfl) ?_
                refine HL.v 3 rfl trivial (by kernel_rfl) (by kernel_rfl) (by kernel_rfl) (ltb rfl) (rv_mv (v := .int .i64 x90) h_188) ?_
                refine HL.v 4 rfl trivial (by kernel_rfl) (by kernel_rfl) (by kernel_rfl) (ltb rfl) (rv_mv (v := v19) h_183) ?_
                refine HL.v 5 rfl trivial (by kernel_rfl) (by kernel_rfl) (by kernel_rfl) (ltb rfl) (rv_mv (v := .int .i64 x102) h_189) ?_
                obtain ⟨x2509, hx_192, hp⟩ := bind_some' hp
                refine HL.w3 6 rfl trivial (by kernel_rfl) (by kernel_rfl) (by kernel_rfl) (ltb rfl) (rv_ix 22 (.tmp 141) (.tmp 142) (v := v19) (i := x102) Try.underlying22 inf_3 rfl rfl rfl (h21).ro hx_192) fun b2510 o2511 c2512 h2513 h2514 => ?_
                obtain rfl := h2513
                refine HL.v 7 rfl trivial (by kernel_rfl) (by kernel_rfl) (by kernel_rfl) (ltb rfl) (rv_ld (v := .int .i64 x2509) (o := o2511) (o' := o2511) (j := 0) sc_3 rfl (srcInG 3 rfl) h2514 rfl rfl) ?_
                obtain ⟨x3309, hx_193, hp⟩ := bind_some' hp
                refine HL.w2 8 rfl trivial (by kernel_rfl) (by kernel_rfl) (by kernel_rfl) (ltb rfl) (rv_ixO 22 (.tmp 139) (.tmp 140) (v := v69) (i := x90) Try.underlying22 inf_3 rfl rfl rfl h89 (idx_some hx_193).1 (idx_some hx_193).2.1) fun b3310 o3311 h3312 => ?_
                refine HL.one 9 rfl (by kernel_rfl) fun K_194 hK_195 => ?_
                refine TL.pk' [12, 0, 0, 0, 0, 0, 0, 0, 0, 0, 0, 0, 0] (L' := [F88, bx b6 25 [.int .i64 a1.params, .int .i64 a1.result, v2, v4], bx b7 25 [.int .i64 0, .int .i64 0, .slice none 0 0, .slice none 0 0], F10, F20, bx b29 25 [.int .i64 x22.params, .int .i64 x22.result, v23, v26], F24, F73, bx b30 25 [.int .i64 x22.params, .int .i64 x22.result, v23, v35], F36, bx b75 85 [v63, v66, .int .i64 x56.term.kind, .int .i64 x56.term.arg, v69], F85, F67]) rfl ?_
                refine TL.stE0 (ds := [.int .i64 x2509]) (u := .int .i64 x2509) (a := x2509) h89 h3312 ms_3 rfl rfl rfl ⟨rfl, rfl⟩ fun F3709 h3710 => ?_
                refine TL.nil (hK_195 _ _ (srcG 1 rfl (srcG 2 rfl (srcG 3 rfl (srcG 4 rfl (srcG 5 rfl (srcG 6 rfl (srcG 7 rfl (srcG 8 rfl (srcG 9 rfl (srcG 10 rfl (srcG 11 rfl (srcG 12 rfl srcG0)))))))))))) ?_)
                refine HL.done (by kernel_rfl) ?_
                refine fun w hw => hJ_169 (x87.set (x90).toNat x2509) F3709 _ h3710 ?_ ?_ ?_ ?_ ?_ ?_ ?_ ?_ ?_ hp w (hw.pick [1, 1, 1, 1, 1, 1, 1, 1, 1, 1, 1, 1, 0])
                · exact h_180
                · exact h_181
                · exact h_182
                · exact h_183
                · exact h_184
                · exact h_185
                · exact h_186
                · exact h_187
                · exact h_188
              · rw [if_neg hc_191] at hp
                refine TC.condF (h_190.trans (bF hc_191)) ?_
                refine TC.skip ?_
                refine fun w hw => hJ_169 x87 F88 _ h89 ?_ ?_ ?_ ?_ ?_ ?_ ?_ ?_ ?_ hp w (hw.pick [0, 0, 0, 0, 0, 0, 0, 0, 0, 0, 0, 0, 0])
                · exact h_180
                · exact h_181
                · exact h_182
                · exact h_183
                · exact h_184
                · exact h_185
                · exact h_186
                · exact h_187
                · exact h_188
            by_cases hc_178 : x102 ≥ 0
            · refine TL.gyes true (yieldE_of rfl (bT hc_178)) rfl ?_
              refine TL.v (ltb rfl) (rv_mv (v := .int .i64 x102) rfl) ?_
              refine TL.gyes true (yieldE_of rfl (bT hc_178)) rfl ?_
              refine TL.v (ltb rfl) (rv_mv (v := v19) h_129) ?_
              refine TL.gyes true (yieldE_of rfl (bT hc_178)) rfl ?_
              refine TL.v (ltb rfl) (rv_lenI (v := v19) Try.underlying22 rfl h21.ro) ?_
              refine TL.gyes true (yieldE_of rfl (bT hc_178)) rfl ?_
              refine TL.v (ltb rfl) (rv_lss (k := .i64) (m := x102) (n := (len x18)) rfl rfl) ?_
              refine TL.v (ltb rfl) (rv_pickT true (bT hc_178) rfl (v := .bool (decide (x102 < (len x18)))) rfl) ?_
              refine TL.nil (hJ_177 _ ?_ ?_ ?_ ?_ ?_ ?_ ?_ ?_ ?_ ?_ ?_)
              · exact h_126
              · exact h_127
              · exact h_128
              · exact h_129
              · exact h_130
              · exact h_131
              · exact h_132
              · exact h_133
              · exact h_134
              · exact rfl
              · exact (bAt hc_178)
            · refine TL.gno false rfl (fun d hd => by cases hd; exact ltb rfl) (yieldE_of rfl (bF hc_178)) rfl ?_
              refine TL.gno false rfl (fun d hd => by cases hd; exact ltb rfl) (yieldE_of rfl (bF hc_178)) rfl ?_
              refine TL.gno false rfl (fun d hd => by cases hd; exact ltb rfl) (yieldE_of rfl (bF hc_178)) rfl ?_
              refine TL.gno false rfl (fun d hd => by cases hd; exact ltb rfl) (yieldE_of rfl (bF hc_178)) rfl ?_
              refine TL.v (ltb rfl) (rv_pickF false (bF hc_178) rfl (v := .bool false) rfl) ?_
              refine TL.nil (hJ_177 _ ?_ ?_ ?_ ?_ ?_ ?_ ?_ ?_ ?_ ?_ ?_)
              · exact h_126
              · exact h_127
              · exact h_128
              · exact h_129
              · exact h_130
              · exact h_131
              · exact h_132
              · exact h_133
              · exact h_134
              · exact rfl
              · exact (bAf hc_178)
          · rw [if_neg hc_156] at hp
            refine TC.condF (bF hc_156) ?_
            refine TC.exit ?_
            refine fun w hw => hJ_150 x87 F88 _ h89 ?_ ?_ ?_ ?_ ?_ ?_ ?_ ?_ (ex_ret hp hx_139) w (hw.pick [0, 0, 0, 0, 0, 0, 0, 0, 0, 0, 0, 0, 0])
            · exact h_126
            · exact h_127
            · exact h_128
            · exact h_129
            · exact h_130
            · exact h_131
            · exact h_132
            · exact h_133
        refine TC.pk' [6, 6, 6, 6, 6, 6, 2, 5, 5, 1, 1, 1, 1, 0] (L' := [bx b6 25 [.int .i64 a1.params, .int .i64 a1.result, v2, v4], bx b7 25 [.int .i64 0, .int .i64 0, .slice none 0 0, .slice none 0 0], F10, F20, bx b29 25 [.int .i64 x22.params, .int .i64 x22.result, v23, v26], F24, F73, bx b30 25 [.int .i64 x22.params, .int .i64 x22.result, v23, v35], F36, bx b75 85 [v63, v66, .int .i64 x56.term.kind, .int .i64 x56.term.arg, v69], F64, F67, F70, F78]) rfl ?_
        refine TC.loopW (r := z_107) (fun (s : (List PPhi × Int)) (e_96 : Env) (L_293 : List FP) => ∃ (x80 : List PPhi) (x83 : Int) (F81 : FP), s = (x80, x83) ∧ SlO 131 kPhi x80 v63 F81 ∧ e_96 1 = .pointer (some ⟨b6, 0, none⟩) ∧ e_96 2 = .pointer (some ⟨b7, 0, none⟩) ∧ e_96 4 = v9 ∧ e_96 5 = v19 ∧ e_96 8 = .pointer (some ⟨b29, 0, none⟩) ∧ e_96 9 = .pointer (some ⟨b30, 0, none⟩) ∧ e_96 10 = .int .i64 x38 ∧ e_96 11 = .pointer (some ⟨b75, 0, none⟩) ∧ e_96 12 = v77 ∧ e_96 13 = .int .i64 x83 ∧ L_293 = [bx b6 25 [.int .i64 a1.params, .int .i64 a1.result, v2, v4], bx b7 25 [.int .i64 0, .int .i64 0, .slice none 0 0, .slice none 0 0], F10, F20, bx b29 25 [.int .i64 x22.params, .int .i64 x22.result, v23, v26], F24, F73, bx b30 25 [.int .i64 x22.params, .int .i64 x22.result, v23, v35], F36, bx b75 85 [v63, v66, .int .i64 x56.term.kind, .int .i64 x56.term.arg, v69], F81, F67, F70, F78]) ?_ FUEL _ _ _ hz_108 ⟨x56.phis, 0, F64, rfl, h65, h_43, h_44, h_45, h_46, h_47, h_48, h_49, rfl, rfl, rfl, rfl⟩
        rintro s e_96 L_293 ⟨x80, x83, F81, rfl, h82, h_97, h_98, h_99, h_100, h_101, h_102, h_103, h_104, h_105, h_106, rfl⟩ x_110 hp hx_111
        replace hp : fettleref05_Trim.bd111 x8 x76 x80 x83 = some x_110 := hp
        unfold fettleref05_Trim.bd111 at hp
        refine TC.seq fun K_199 hK_200 => ?_
        refine TC.seq fun K_201 hK_202 => ?_
        refine TC.region ?_
        refine TL.v (ltb rfl) (rv_mv (v := .int .i64 x83) h_106) ?_
        refine TL.v (ltb rfl) (rv_fa (b := b75) (o := 0) fa_85_0 h_104) ?_
        refine TL.v (ltb rfl) (rv_ld (v := v63) (o := 0) (o' := 0) (j := 0) sc_82 rfl (Src.at_ 9 rfl) (bx_cells b75 85 _) rfl rfl) ?_
        refine TL.v (ltb rfl) (rv_lenI (v := v63) Try.underlying82 rfl h82.ro) ?_
        refine TL.v (ltb rfl) (rv_lss (k := .i64) (m := x83) (n := (len x80)) rfl rfl) ?_
        refine TL.nil ?_
        refine TC.go hK_202 ?_
        by_cases hc_203 : x83 < (len x80)
        · rw [if_pos hc_203] at hp
          refine TC.condT (bT hc_203) ?_
          refine TC.skip ?_
          refine TC.go hK_200 ?_
          refine TC.seq fun K_204 hK_205 => ?_
          have hJ_217 : ∀ (x4109 : List PPhi) (F4110 : FP) (e_206 : Env) (h4111 : SlO 131 kPhi x4109 v63 F4110) (h_207 : e_206 1 = .pointer (some ⟨b6, 0, none⟩)) (h_208 : e_206 2 = .pointer (some ⟨b7, 0, none⟩)) (h_209 : e_206 4 = v9) (h_210 : e_206 5 = v19) (h_211 : e_206 8 = .pointer (some ⟨b29, 0, none⟩)) (h_212 : e_206 9 = .pointer (some ⟨b30, 0, none⟩)) (h_213 : e_206 10 = .int .i64 x38) (h_214 : e_206 11 = .pointer (some ⟨b75, 0, none⟩)) (h_215 : e_206 12 = v77) (h_216 : e_206 13 = .int .i64 x83) (hp : fettleref05_Trim.jn217 x83 x4109 = some x_110), ∀ w, St E H [bx b6 25 [.int .i64 a1.params, .int .i64 a1.result, v2, v4], bx b7 25 [.int .i64 0, .int .i64 0, .slice none 0 0, .slice none 0 0], F10, F20, bx b29 25 [.int .i64 x22.params, .int .i64 x22.result, v23, v26], F24, F73, bx b30 25 [.int .i64 x22.params, .int .i64 x22.result, v23, v35], F36, bx b75 85 [v63, v66, .int .i64 x56.term.kind, .int .i64 x56.term.arg, v69], F4110, F67, F70, F78] w → K_204 e_206 w := by
            intro x4109 F4110 e_206 h4111 h_207 h_208 h_209 h_210 h_211 h_212 h_213 h_214 h_215 h_216 hp
            unfold fettleref05_Trim.jn217 at hp
            refine TC.go hK_205 ?_
            refine TC.region ?_
            refine TL.v (ltb rfl) (rv_mv (v := .int .i64 x83) h_216) ?_
            refine TL.v (ltb rfl) (rv_add (k := .i64) (m := x83) (n := 1) rfl rfl) ?_
            refine TL.v (ltb rfl) (rv_as (v := .int .i64 (w64 (x83 + 1))) rfl) ?_
            refine TL.nil ?_
            exact fun w hw => goOk hp ⟨x4109, (w64 (x83 + 1)), F4110, rfl, h4111, h_207, h_208, h_209, h_210, h_211, h_212, h_213, h_214, h_215, rfl, rfl⟩ (hw.pick [0, 0, 0, 0, 0, 0, 0, 0, 0, 0, 0, 0, 0, 0])
          refine TC.block ?_
          refine TC.seq fun K_218 hK_219 => ?_
          refine TC.seq fun K_220 hK_221 => ?_
          refine TC.region ?_
          refine TL.v (ltb rfl) (rv_fa (b := b75) (o := 0) fa_85_0 h_104) ?_
          refine TL.v (ltb rfl) (rv_ld (v := v63) (o := 0) (o' := 0) (j := 0) sc_82 rfl (Src.at_ 9 rfl) (bx_cells b75 85 _) rfl rfl) ?_
          refine TL.v (ltb rfl) (rv_mv (v := .int .i64 x83) h_106) ?_
          obtain ⟨x4112, hx_222, hp⟩ := bind_some' hp
          refine TL.v3 (ltb rfl) (rv_ix 82 (.tmp 75) (.tmp 76) (v := v63) (i := x83) Try.underlying82 inf_131 rfl rfl rfl (h82).ro hx_222) fun b4113 o4114 c4115 h4116 h4117 => ?_
          obtain ⟨v4118, rfl, h4119⟩ := h4116
          refine TL.v (ltb rfl) (rv_fa (b := b4113) (o := o4114) fa_131_1 rfl) ?_
          refine TL.v (ltb rfl) (rv_ld (v := v4118) (o := o4114 + 1) (o' := o4114) (j := 1) sc_22 rfl (Src.at_ 10 rfl) h4117 rfl rfl) ?_
          refine TL.v (ltb rfl) (rv_lenI (v := v4118) Try.underlying22 rfl h4119) ?_
          refine TL.v (ltb rfl) (rv_mv (v := v77) h_105) ?_
          refine TL.v (ltb rfl) (rv_lenI (v := v77) Try.underlying22 rfl h79.ro) ?_
          refine TL.v (ltb rfl) (rv_neq (k := .i64) (m := (len x4112.args)) (n := (len x76)) rfl rfl) ?_
          refine TL.nil ?_
          refine TC.go hK_221 ?_
          by_cases hc_223 : ¬ (len x4112.args) = (len x76)
          · rw [if_pos hc_223] at hp
            refine TC.condT (bT hc_223) ?_
            refine TC.exit ?_
            refine fun w hw => hJ_217 x80 F81 _ h82 ?_ ?_ ?_ ?_ ?_ ?_ ?_ ?_ ?_ ?_ hp w (hw.pick [0, 0, 0, 0, 0, 0, 0, 0, 0, 0, 0, 0, 0, 0])
            · exact h_97
            · exact h_98
            · exact h_99
            · exact h_100
            · exact h_101
            · exact h_102
            · exact h_103
            · exact h_104
            · exact h_105
            · exact h_106
          · rw [if_neg hc_223] at hp
            refine TC.condF (bF hc_223) ?_
            refine TC.skip ?_
            refine TC.go hK_219 ?_
            refine TC.seq fun K_224 hK_225 => ?_
            refine TC.region ?_
            refine TL.v (ltb rfl) (rv_as (v := .slice none 0 0) rfl) ?_
            refine TL.nil ?_
            refine TC.go hK_225 ?_
            refine TC.seq fun K_226 hK_227 => ?_
            refine TC.seq fun K_228 hK_229 => ?_
            refine TC.region ?_
            refine TL.v (ltb rfl) (rv_as (v := .int .i64 0) rfl) ?_
            refine TL.nil ?_
            refine TC.go hK_229 ?_
            refine TC.block ?_
            obtain ⟨z_243, hz_244, hr_245⟩ := bind_some' hp
            clear hp
            have hJ_261 : ∀ (x4125 : List Int) (v4126 : Value) (F4127 : FP) (e_248 : Env) (h4128 : SlO 3 (kInt .i64) x4125 v4126 F4127) (h_249 : e_248 1 = .pointer (some ⟨b6, 0, none⟩)) (h_250 : e_248 2 = .pointer (some ⟨b7, 0, none⟩)) (h_251 : e_248 4 = v9) (h_252 : e_248 5 = v19) (h_253 : e_248 8 = .pointer (some ⟨b29, 0, none⟩)) (h_254 : e_248 9 = .pointer (some ⟨b30, 0, none⟩)) (h_255 : e_248 10 = .int .i64 x38) (h_256 : e_248 11 = .pointer (some ⟨b75, 0, none⟩)) (h_257 : e_248 12 = v77) (h_258 : e_248 13 = .int .i64 x83) (h_259 : e_248 14 = v4126) (hq_262 : x4125 = z_243), ∀ w, St E H [bx b6 25 [.int .i64 a1.params, .int .i64 a1.result, v2, v4], bx b7 25 [.int .i64 0, .int .i64 0, .slice none 0 0, .slice none 0 0], F10, F20, bx b29 25 [.int .i64 x22.params, .int .i64 x22.result, v23, v26], F24, F73, bx b30 25 [.int .i64 x22.params, .int .i64 x22.result, v23, v35], F36, bx b75 85 [v63, v66, .int .i64 x56.term.kind, .int .i64 x56.term.arg, v69], F81, F67, F70, F78, F4127] w → K_226 e_248 w := by
              intro x4125 v4126 F4127 e_248 h4128 h_249 h_250 h_251 h_252 h_253 h_254 h_255 h_256 h_257 h_258 h_259 hq_262
              subst hq_262
              replace hp : fettleref05_Trim.nx247 x80 x83 x4125 = some x_110 := hr_245
              unfold fettleref05_Trim.nx247 at hp
              refine TC.go hK_227 ?_
              refine TC.region ?_
              refine TL.v (ltb rfl) (rv_fa (b := b75) (o := 0) fa_85_0 h_256) ?_
              refine TL.v (ltb rfl) (rv_ld (v := v63) (o := 0) (o' := 0) (j := 0) sc_82 rfl (Src.at_ 9 rfl) (bx_cells b75 85 _) rfl rfl) ?_
              refine TL.v (ltb rfl) (rv_mv (v := .int .i64 x83) h_258) ?_
              refine TL.v (ltb rfl) (rv_mv (v := v4126) h_259) ?_
              refine TL.pk' [10, 0, 0, 0, 0, 0, 0, 0, 0, 0, 0, 0, 0, 0, 0] (L' := [F81, bx b6 25 [.int .i64 a1.params, .int .i64 a1.result, v2, v4], bx b7 25 [.int .i64 0, .int .i64 0, .slice none 0 0, .slice none 0 0], F10, F20, bx b29 25 [.int .i64 x22.params, .int .i64 x22.result, v23, v26], F24, F73, bx b30 25 [.int .i64 x22.params, .int .i64 x22.result, v23, v35], F36, bx b75 85 [v63, v66, .int .i64 x56.term.kind, .int .i64 x56.term.arg, v69], F67, F70, F78, F4127]) rfl ?_
              obtain ⟨x4129, hx_260, hp⟩ := bind_some' hp
              refine TL.open_ h82 hx_260 fun b4130 c4131 F4132 F4133 h4134 h4135 => ?_
              obtain ⟨v4136, F4137, rfl, rfl, h4138⟩ := h4135
              have h4139 := (idx_some hx_260).1
              refine TL.v (ltb rfl) (rv_ixH Try.underlying82 inf_131 (v := v63) (i := x83) rfl rfl h4139 h4134) ?_
              refine TL.v (ltb rfl) (rv_fa (b := b4130) (o := (x83).toNat * 2) fa_131_1 rfl) ?_
              refine TL.stH (ds := [v4126]) (o := 1) (o' := (x83).toNat * 2 + 1) (u := v4126) h4134 ms_22 rfl rfl rfl (SlO.cells h4128) (oc (h4128).one oc0) (leb rfl) fun F4140 h4141 => ?_
              refine TL.nil ?_
              refine W.pk' [0, 14, 0, 0, 0, 0, 0, 0, 0, 0, 0, 0, 0, 0, 0, 0] (L' := [F4140, F4127, F4133, bx b6 25 [.int .i64 a1.params, .int .i64 a1.result, v2, v4], bx b7 25 [.int .i64 0, .int .i64 0, .slice none 0 0, .slice none 0 0], F10, F20, bx b29 25 [.int .i64 x22.params, .int .i64 x22.result, v23, v26], F24, F73, bx b30 25 [.int .i64 x22.params, .int .i64 x22.result, v23, v35], F36, bx b75 85 [v63, v66, .int .i64 x56.term.kind, .int .i64 x56.term.arg, v69], F67, F70, F78]) rfl ?_
              refine W.shut (a := (⟨x4129.dst, x4125⟩ : PPhi)) h4141 ⟨_, _, rfl, rfl, h4128⟩ fun F4142 h4143 => ?_
              refine fun w hw => hJ_217 (x80.set (x83).toNat (⟨x4129.dst, x4125⟩ : PPhi)) F4142 _ h4143 ?_ ?_ ?_ ?_ ?_ ?_ ?_ ?_ ?_ ?_ hp w (hw.pick [2, 2, 2, 2, 2, 2, 2, 2, 2, 2, 0, 1, 1, 1])
              · exact h_249
              · exact h_250
              · exact h_251
              · exact h_252
              · exact h_253
              · exact h_254
              · exact h_255
              · exact h_256
              · exact h_257
              · exact h_258
            refine W.new0 ?_
            refine TC.pk' [1, 1, 1, 1, 1, 1, 1, 1, 1, 1, 1, 1, 1, 1, 0] (L' := [bx b6 25 [.int .i64 a1.params, .int .i64 a1.result, v2, v4], bx b7 25 [.int .i64 0, .int .i64 0, .slice none 0 0, .slice none 0 0], F10, F20, bx b29 25 [.int .i64 x22.params, .int .i64 x22.result, v23, v26], F24, F73, bx b30 25 [.int .i64 x22.params, .int .i64 x22.result, v23, v35], F36, bx b75 85 [v63, v66, .int .i64 x56.term.kind, .int .i64 x56.term.arg, v69], F81, F67, F70, F78, ([] : FP)]) rfl ?_
            refine TC.loopW (r := z_243) (fun (s : (List Int × Int)) (e_230 : Env) (L_292 : List FP) => ∃ (x4120 : List Int) (x4124 : Int) (v4121 : Value) (F4122 : FP), s = (x4120, x4124) ∧ SlO 3 (kInt .i64) x4120 v4121 F4122 ∧ e_230 1 = .pointer (some ⟨b6, 0, none⟩) ∧ e_230 2 = .pointer (some ⟨b7, 0, none⟩) ∧ e_230 4 = v9 ∧ e_230 5 = v19 ∧ e_230 8 = .pointer (some ⟨b29, 0, none⟩) ∧ e_230 9 = .pointer (some ⟨b30, 0, none⟩) ∧ e_230 10 = .int .i64 x38 ∧ e_230 11 = .pointer (some ⟨b75, 0, none⟩) ∧ e_230 12 = v77 ∧ e_230 13 = .int .i64 x83 ∧ e_230 14 = v4121 ∧ e_230 15 = .int .i64 x4124 ∧ L_292 = [bx b6 25 [.int .i64 a1.params, .int .i64 a1.result, v2, v4], bx b7 25 [.int .i64 0, .int .i64 0, .slice none 0 0, .slice none 0 0], F10, F20, bx b29 25 [.int .i64 x22.params, .int .i64 x22.result, v23, v26], F24, F73, bx b30 25 [.int .i64 x22.params, .int .i64 x22.result, v23, v35], F36, bx b75 85 [v63, v66, .int .i64 x56.term.kind, .int .i64 x56.term.arg, v69], F81, F67, F70, F78, F4122]) ?_ FUEL _ _ _ hz_244 ⟨([] : List Int), 0, (.slice none 0 0), ([] : FP), rfl, (SlO.nil 3), h_97, h_98, h_99, h_100, h_101, h_102, h_103, h_104, h_105, h_106, rfl, rfl, rfl⟩
            rintro s e_230 L_292 ⟨x4120, x4124, v4121, F4122, rfl, h4123, h_231, h_232, h_233, h_234, h_235, h_236, h_237, h_238, h_239, h_240, h_241, h_242, rfl⟩ x_246 hp hx_247
            replace hp : fettleref05_Trim.bd247 x8 x76 x80 x83 x4120 x4124 = some x_246 := hp
            unfold fettleref05_Trim.bd247 at hp
            refine TC.seq fun K_263 hK_264 => ?_
            refine TC.seq fun K_265 hK_266 => ?_
            refine TC.region ?_
            refine TL.v (ltb rfl) (rv_mv (v := .int .i64 x4124) h_242) ?_
            refine TL.v (ltb rfl) (rv_mv (v := v77) h_239) ?_
            refine TL.v (ltb rfl) (rv_lenI (v := v77) Try.underlying22 rfl h79.ro) ?_
            refine TL.v (ltb rfl) (rv_lss (k := .i64) (m := x4124) (n := (len x76)) rfl rfl) ?_
            refine TL.nil ?_
            refine TC.go hK_266 ?_
            by_cases hc_267 : x4124 < (len x76)
            · rw [if_pos hc_267] at hp
              refine TC.condT (bT hc_267) ?_
              refine TC.skip ?_
              refine TC.go hK_264 ?_
              refine TC.seq fun K_268 hK_269 => ?_
              have hJ_283 : ∀ (x4144 : List Int) (v4145 : Value) (F4146 : FP) (e_270 : Env) (h4147 : SlO 3 (kInt .i64) x4144 v4145 F4146) (h_271 : e_270 1 = .pointer (some ⟨b6, 0, none⟩)) (h_272 : e_270 2 = .pointer (some ⟨b7, 0, none⟩)) (h_273 : e_270 4 = v9) (h_274 : e_270 5 = v19) (h_275 : e_270 8 = .pointer (some ⟨b29, 0, none⟩)) (h_276 : e_270 9 = .pointer (some ⟨b30, 0, none⟩)) (h_277 : e_270 10 = .int .i64 x38) (h_278 : e_270 11 = .pointer (some ⟨b75, 0, none⟩)) (h_279 : e_270 12 = v77) (h_280 : e_270 13 = .int .i64 x83) (h_281 : e_270 14 = v4145) (h_282 : e_270 15 = .int .i64 x4124) (hp : fettleref05_Trim.jn283 x4124 x4144 = some x_246), ∀ w, St E H [bx b6 25 [.int .i64 a1.params, .int .i64 a1.result, v2, v4], bx b7 25 [.int .i64 0, .int .i64 0, .slice none 0 0, .slice none 0 0], F10, F20, bx b29 25 [.int .i64 x22.params, .int .i64 x22.result, v23, v26], F24, F73, bx b30 25 [.int .i64 x22.params, .int .i64 x22.result, v23, v35], F36, bx b75 85 [v63, v66, .int .i64 x56.term.kind, .int .i64 x56.term.arg, v69], F81, F67, F70, F78, F4146] w → K_268 e_270 w := by
                intro x4144 v4145 F4146 e_270 h4147 h_271 h_272 h_273 h_274 h_275 h_276 h_277 h_278 h_279 h_280 h_281 h_282 hp
                unfold fettleref05_Trim.jn283 at hp
                refine TC.go hK_269 ?_
                refine TC.region ?_
                refine TL.v (ltb rfl) (rv_mv (v := .int .i64 x4124) h_282) ?_
                refine TL.v (ltb rfl) (rv_add (k := .i64) (m := x4124) (n := 1) rfl rfl) ?_
                refine TL.v (ltb rfl) (rv_as (v := .int .i64 (w64 (x4124 + 1))) rfl) ?_
                refine TL.nil ?_
                exact fun w hw => goOk hp ⟨x4144, (w64 (x4124 + 1)), v4145, F4146, rfl, h4147, h_271, h_272, h_273, h_274, h_275, h_276, h_277, h_278, h_279, h_280, h_281, rfl, rfl⟩ (hw.pick [0, 0, 0, 0, 0, 0, 0, 0, 0, 0, 0, 0, 0, 0, 0])
              refine TC.block ?_
              refine TC.seq fun K_284 hK_285 => ?_
              refine TC.region ?_
              refine TL.v (ltb rfl) (rv_mv (v := v9) h_233) ?_
              refine TL.v (ltb rfl) (rv_mv (v := v77) h_239) ?_
              refine TL.v (ltb rfl) (rv_mv (v := .int .i64 x4124) h_242) ?_
              obtain ⟨x4148, hx_286, hp⟩ := bind_some' hp
              refine TL.v3 (ltb rfl) (rv_ix 22 (.tmp 91) (.tmp 92) (v := v77) (i := x4124) Try.underlying22 inf_3 rfl rfl rfl (h79).ro hx_286) fun b4149 o4150 c4151 h4152 h4153 => ?_
              obtain rfl := h4152
              refine TL.v (ltb rfl) (rv_ld (v := .int .i64 x4148) (o := o4150) (o' := o4150) (j := 0) sc_3 rfl (Src.at_ 13 rfl) h4153 rfl rfl) ?_
              obtain ⟨x4154, hx_287, hp⟩ := bind_some' hp
              refine TL.v3 (ltb rfl) (rv_ix 30 (.tmp 90) (.tmp 94) (v := v9) (i := x4148) Try.underlying30 inf_4 rfl rfl rfl (h11).ro hx_287) fun b4155 o4156 c4157 h4158 h4159 => ?_
              obtain rfl := h4158
              refine TL.v (ltb rfl) (rv_ld (v := .bool x4154) (o := o4156) (o' := o4156) (j := 0) sc_4 rfl (Src.at_ 2 rfl) h4159 rfl rfl) ?_
              refine TL.nil ?_
              refine TC.go hK_285 ?_
              by_cases hc_288 : x4154 = true
              · rw [if_pos hc_288] at hp
                refine TC.condT (bbT hc_288) ?_
                refine TC.region ?_
                refine TL.v (ltb rfl) (rv_mv (v := v4121) h_241) ?_
                refine TL.v (ltb rfl) (rv_fa (b := b75) (o := 0) fa_85_0 h_238) ?_
                refine TL.v (ltb rfl) (rv_ld (v := v63) (o := 0) (o' := 0) (j := 0) sc_82 rfl (Src.at_ 9 rfl) (bx_cells b75 85 _) rfl rfl) ?_
                refine TL.v (ltb rfl) (rv_mv (v := .int .i64 x83) h_240) ?_
                obtain ⟨x4160, hx_289, hp⟩ := bind_some' hp
                refine TL.v3 (ltb rfl) (rv_ix 82 (.tmp 99) (.tmp 100) (v := v63) (i := x83) Try.underlying82 inf_131 rfl rfl rfl (h82).ro hx_289) fun b4161 o4162 c4163 h4164 h4165 => ?_
                obtain ⟨v4166, rfl, h4167⟩ := h4164
                refine TL.v (ltb rfl) (rv_fa (b := b4161) (o := o4162) fa_131_1 rfl) ?_
                refine TL.v (ltb rfl) (rv_ld (v := v4166) (o := o4162 + 1) (o' := o4162) (j := 1) sc_22 rfl (Src.at_ 10 rfl) h4165 rfl rfl) ?_
                refine TL.v (ltb rfl) (rv_mv (v := .int .i64 x4124) h_242) ?_
                obtain ⟨x4168, hx_290, hp⟩ := bind_some' hp
                refine TL.v3 (ltb rfl) (rv_ix 22 (.tmp 103) (.tmp 104) (v := v4166) (i := x4124) Try.underlying22 inf_3 rfl rfl rfl h4167 hx_290) fun b4169 o4170 c4171 h4172 h4173 => ?_
                obtain rfl := h4172
                refine TL.v (ltb rfl) (rv_ld (v := .int .i64 x4168) (o := o4170) (o' := o4170) (j := 0) sc_3 rfl (Src.at_ 10 rfl) h4173 rfl rfl) ?_
                refine TL.bv (vs := [(0, .int .i64 x4168)]) (cs := [.int .i64 x4168]) (pc rfl p0) Try.underlying22 inf_3 (ltb rfl) (by decide) (by decide) (by kernel_rfl) fun b4174 => ?_
                refine TL.pk' [15, 0, 0, 0, 0, 0, 0, 0, 0, 0, 0, 0, 0, 0, 0, 0] (L' := [F4122, bx b4174 3 [.int .i64 x4168], bx b6 25 [.int .i64 a1.params, .int .i64 a1.result, v2, v4], bx b7 25 [.int .i64 0, .int .i64 0, .slice none 0 0, .slice none 0 0], F10, F20, bx b29 25 [.int .i64 x22.params, .int .i64 x22.result, v23, v26], F24, F73, bx b30 25 [.int .i64 x22.params, .int .i64 x22.result, v23, v35], F36, bx b75 85 [v63, v66, .int .i64 x56.term.kind, .int .i64 x56.term.arg, v69], F81, F67, F70, F78]) rfl ?_
                refine TL.perm (L' := [F4122, bx b4174 3 [.int .i64 x4168], [], bx b6 25 [.int .i64 a1.params, .int .i64 a1.result, v2, v4], bx b7 25 [.int .i64 0, .int .i64 0, .slice none 0 0, .slice none 0 0], F10, F20, bx b29 25 [.int .i64 x22.params, .int .i64 x22.result, v23, v26], F24, F73, bx b30 25 [.int .i64 x22.params, .int .i64 x22.result, v23, v35], F36, bx b75 85 [v63, v66, .int .i64 x56.term.kind, .int .i64 x56.term.arg, v69], F81, F67, F70, F78]) (by simp) ?_
                obtain ⟨x4175, hz_291, hp⟩ := bind_some' hp
                refine TL.app Try.underlying22 inf_3 (ltb rfl) rfl (ltb rfl) rfl (leb rfl) rfl rfl h4123 (RepL.to (RepL.cons (k := (kInt .i64)) (x := x4168) ⟨rfl, rfl⟩ RepL.nil) rfl) rfl rfl hz_291 fun v4176 F4177 h4178 => ?_
                refine TL.v (ltb rfl) (rv_as (v := v4176) rfl) ?_
                refine TL.nil ?_
                refine fun w hw => hJ_283 x4175 v4176 F4177 _ h4178 ?_ ?_ ?_ ?_ ?_ ?_ ?_ ?_ ?_ ?_ ?_ ?_ hp w (hw.pick [1, 1, 1, 1, 1, 1, 1, 1, 1, 1, 1, 1, 1, 1, 0])
                · exact h_231
                · exact h_232
                · exact h_233
                · exact h_234
                · exact h_235
                · exact h_236
                · exact h_237
                · exact h_238
                · exact h_239
                · exact h_240
                · exact rfl
                · exact h_242
              · rw [if_neg hc_288] at hp
                refine TC.condF (bbF hc_288) ?_
                refine TC.skip ?_
                refine fun w hw => hJ_283 x4120 v4121 F4122 _ h4123 ?_ ?_ ?_ ?_ ?_ ?_ ?_ ?_ ?_ ?_ ?_ ?_ hp w (hw.pick [0, 0, 0, 0, 0, 0, 0, 0, 0, 0, 0, 0, 0, 0, 0])
                · exact h_231
                · exact h_232
                · exact h_233
                · exact h_234
                · exact h_235
                · exact h_236
                · exact h_237
                · exact h_238
                · exact h_239
                · exact h_240
                · exact h_241
                · exact h_242
            · rw [if_neg hc_267] at hp
              refine TC.condF (bF hc_267) ?_
              refine TC.exit ?_
              refine fun w hw => hJ_261 x4120 v4121 F4122 _ h4123 ?_ ?_ ?_ ?_ ?_ ?_ ?_ ?_ ?_ ?_ ?_ (ex_ret hp hx_247) w (hw.pick [0, 0, 0, 0, 0, 0, 0, 0, 0, 0, 0, 0, 0, 0, 0])
              · exact h_231
              · exact h_232
              · exact h_233
              · exact h_234
              · exact h_235
              · exact h_236
              · exact h_237
              · exact h_238
              · exact h_239
              · exact h_240
              · exact h_241
        · rw [if_neg hc_203] at hp
          refine TC.condF (bF hc_203) ?_
          refine TC.exit ?_
          refine fun w hw => hJ_197 x80 F81 _ h82 ?_ ?_ ?_ ?_ ?_ ?_ ?_ ?_ (ex_ret hp hx_111) w (hw.pick [0, 0, 0, 0, 0, 0, 0, 0, 0, 0, 0, 0, 0])
          · exact h_97
          · exact h_98
          · exact h_99
          · exact h_100
          · exact h_101
          · exact h_102
          · exact h_103
          · exact h_104
    · rw [if_neg hc_67] at hp
      refine TC.condF (bF hc_67) ?_
      refine TC.exit ?_
      refine fun w hw => hJ_61 x34 v35 F36 _ h37 ?_ ?_ ?_ (ex_ret hp hx_54) w (hw.pick [1, 2, 5, 3, 4])
      · exact h_44
      · exact h_46
      · exact h_48
  refine W.new0 ?_
  refine TC.pk' [3, 2, 1, 0] (L' := [bx b6 25 [.int .i64 a1.params, .int .i64 a1.result, v2, v4], bx b7 25 [.int .i64 0, .int .i64 0, .slice none 0 0, .slice none 0 0], F10, ([] : FP)]) rfl ?_
  refine TC.loopW (r := z_22) (fun (s : (List Int × Int × Int)) (e_15 : Env) (L_320 : List FP) => ∃ (x12 : List Int) (x16 : Int) (x17 : Int) (v13 : Value) (F14 : FP), s = (x12, x16, x17) ∧ SlO 3 (kInt .i64) x12 v13 F14 ∧ e_15 1 = .pointer (some ⟨b6, 0, none⟩) ∧ e_15 2 = .pointer (some ⟨b7, 0, none⟩) ∧ e_15 4 = v9 ∧ e_15 5 = v13 ∧ e_15 6 = .int .i64 x16 ∧ e_15 7 = .int .i64 x17 ∧ L_320 = [bx b6 25 [.int .i64 a1.params, .int .i64 a1.result, v2, v4], bx b7 25 [.int .i64 0, .int .i64 0, .slice none 0 0, .slice none 0 0], F10, F14]) ?_ FUEL _ _ _ hz_23 ⟨([] : List Int), 0, 0, (.slice none 0 0), ([] : FP), rfl, (SlO.nil 3), rfl, rfl, rfl, rfl, rfl, rfl, rfl⟩
  rintro s e_15 L_320 ⟨x12, x16, x17, v13, F14, rfl, h15, h_16, h_17, h_18, h_19, h_20, h_21, rfl⟩ x_25 hp hx_26
  replace hp : fettleref05_Trim.bd26 x8 x12 x16 x17 = some x_25 := hp
  unfold fettleref05_Trim.bd26 at hp
  refine TC.seq fun K_297 hK_298 => ?_
  refine TC.seq fun K_299 hK_300 => ?_
  refine TC.region ?_
  refine TL.v (ltb rfl) (rv_mv (v := .int .i64 x17) h_21) ?_
  refine TL.v (ltb rfl) (rv_mv (v := v9) h_18) ?_
  refine TL.v (ltb rfl) (rv_lenI (v := v9) Try.underlying30 rfl h11.ro) ?_
  refine TL.v (ltb rfl) (rv_lss (k := .i64) (m := x17) (n := (len x8)) rfl rfl) ?_
  refine TL.nil ?_
  refine TC.go hK_300 ?_
  by_cases hc_301 : x17 < (len x8)
  · rw [if_pos hc_301] at hp
    refine TC.condT (bT hc_301) ?_
    refine TC.skip ?_
    refine TC.go hK_298 ?_
    refine TC.seq fun K_302 hK_303 => ?_
    have hJ_311 : ∀ (x4181 : List Int) (x4185 : Int) (v4182 : Value) (F4183 : FP) (e_304 : Env) (h4184 : SlO 3 (kInt .i64) x4181 v4182 F4183) (h_305 : e_304 1 = .pointer (some ⟨b6, 0, none⟩)) (h_306 : e_304 2 = .pointer (some ⟨b7, 0, none⟩)) (h_307 : e_304 4 = v9) (h_308 : e_304 5 = v4182) (h_309 : e_304 6 = .int .i64 x4185) (h_310 : e_304 7 = .int .i64 x17) (hp : fettleref05_Trim.jn311 x17 x4181 x4185 = some x_25), ∀ w, St E H [bx b6 25 [.int .i64 a1.params, .int .i64 a1.result, v2, v4], bx b7 25 [.int .i64 0, .int .i64 0, .slice none 0 0, .slice none 0 0], F10, F4183] w → K_302 e_304 w := by
      intro x4181 x4185 v4182 F4183 e_304 h4184 h_305 h_306 h_307 h_308 h_309 h_310 hp
      unfold fettleref05_Trim.jn311 at hp
      refine TC.go hK_303 ?_
      refine TC.region ?_
      refine TL.v (ltb rfl) (rv_mv (v := .int .i64 x17) h_310) ?_
      refine TL.v (ltb rfl) (rv_add (k := .i64) (m := x17) (n := 1) rfl rfl) ?_
      refine TL.v (ltb rfl) (rv_as (v := .int .i64 (w64 (x17 + 1))) rfl) ?_
      refine TL.nil ?_
      exact fun w hw => goOk hp ⟨x4181, x4185, (w64 (x17 + 1)), v4182, F4183, rfl, h4184, h_305, h_306, h_307, h_308, h_309, rfl, rfl⟩ (hw.pick [0, 0, 0, 0])
    refine TC.block ?_
    refine TC.seq fun K_312 hK_313 => ?_
    refine TC.region ?_
    refine TL.v (ltb rfl) (rv_mv (v := v9) h_18) ?_
    refine TL.v (ltb rfl) (rv_mv (v := .int .i64 x17) h_21) ?_
    obtain ⟨x4186, hx_314, hp⟩ := bind_some' hp
    refine TL.v3 (ltb rfl) (rv_ix 30 (.tmp 26) (.tmp 27) (v := v9) (i := x17) Try.underlying30 inf_4 rfl rfl rfl (h11).ro hx_314) fun b4187 o4188 c4189 h4190 h4191 => ?_
    obtain rfl := h4190
    refine TL.v (ltb rfl) (rv_ld (v := .bool x4186) (o := o4188) (o' := o4188) (j := 0) sc_4 rfl (Src.at_ 2 rfl) h4191 rfl rfl) ?_
    refine TL.nil ?_
    refine TC.go hK_313 ?_
    by_cases hc_315 : x4186 = true
    · rw [if_pos hc_315] at hp
      refine TC.condT (bbT hc_315) ?_
      refine TC.seq fun K_316 hK_317 => ?_
      refine TC.region ?_
      refine TL.v (ltb rfl) (rv_mv (v := v13) h_19) ?_
      refine TL.v (ltb rfl) (rv_mv (v := .int .i64 x16) h_20) ?_
      refine TL.bv (vs := [(0, .int .i64 x16)]) (cs := [.int .i64 x16]) (pc rfl p0) Try.underlying22 inf_3 (ltb rfl) (by decide) (by decide) (by kernel_rfl) fun b4192 => ?_
      refine TL.pk' [4, 0, 0, 0, 0] (L' := [F14, bx b4192 3 [.int .i64 x16], bx b6 25 [.int .i64 a1.params, .int .i64 a1.result, v2, v4], bx b7 25 [.int .i64 0, .int .i64 0, .slice none 0 0, .slice none 0 0], F10]) rfl ?_
      refine TL.perm (L' := [F14, bx b4192 3 [.int .i64 x16], [], bx b6 25 [.int .i64 a1.params, .int .i64 a1.result, v2, v4], bx b7 25 [.int .i64 0, .int .i64 0, .slice none 0 0, .slice none 0 0], F10]) (by simp) ?_
      obtain ⟨x4193, hz_318, hp⟩ := bind_some' hp
      refine TL.app Try.underlying22 inf_3 (ltb rfl) rfl (ltb rfl) rfl (leb rfl) rfl rfl h15 (RepL.to (RepL.cons (k := (kInt .i64)) (x := x16) ⟨rfl, rfl⟩ RepL.nil) rfl) rfl rfl hz_318 fun v4194 F4195 h4196 => ?_
      refine TL.v (ltb rfl) (rv_as (v := v4194) rfl) ?_
      refine TL.nil ?_
      refine TC.go hK_317 ?_
      refine TC.region ?_
      refine TL.v (ltb rfl) (rv_mv (v := .int .i64 x16) h_20) ?_
      refine TL.v (ltb rfl) (rv_add (k := .i64) (m := x16) (n := 1) rfl rfl) ?_
      refine TL.v (ltb rfl) (rv_as (v := .int .i64 (w64 (x16 + 1))) rfl) ?_
      refine TL.nil ?_
      refine fun w hw => hJ_311 x4193 (w64 (x16 + 1)) v4194 F4195 _ h4196 ?_ ?_ ?_ ?_ ?_ ?_ hp w (hw.pick [1, 1, 1, 0])
      · exact h_16
      · exact h_17
      · exact h_18
      · exact rfl
      · exact rfl
      · exact h_21
    · rw [if_neg hc_315] at hp
      refine TC.condF (bbF hc_315) ?_
      refine TC.region ?_
      refine TL.v (ltb rfl) (rv_mv (v := v13) h_19) ?_
      refine TL.bv (vs := [(0, .int .i64 (-1))]) (cs := [.int .i64 (-1)]) (pc rfl p0) Try.underlying22 inf_3 (ltb rfl) (by decide) (by decide) (by kernel_rfl) fun b4197 => ?_
      refine TL.pk' [4, 0, 0, 0, 0] (L' := [F14, bx b4197 3 [.int .i64 (-1)], bx b6 25 [.int .i64 a1.params, .int .i64 a1.result, v2, v4], bx b7 25 [.int .i64 0, .int .i64 0, .slice none 0 0, .slice none 0 0], F10]) rfl ?_
      refine TL.perm (L' := [F14, bx b4197 3 [.int .i64 (-1)], [], bx b6 25 [.int .i64 a1.params, .int .i64 a1.result, v2, v4], bx b7 25 [.int .i64 0, .int .i64 0, .slice none 0 0, .slice none 0 0], F10]) (by simp) ?_
      obtain ⟨x4198, hz_319, hp⟩ := bind_some' hp
      refine TL.app Try.underlying22 inf_3 (ltb rfl) rfl (ltb rfl) rfl (leb rfl) rfl rfl h15 (RepL.to (RepL.cons (k := (kInt .i64)) (x := -1) ⟨rfl, rfl⟩ RepL.nil) rfl) rfl rfl hz_319 fun v4199 F4200 h4201 => ?_
      refine TL.v (ltb rfl) (rv_as (v := v4199) rfl) ?_
      refine TL.nil ?_
      refine fun w hw => hJ_311 x4198 x16 v4199 F4200 _ h4201 ?_ ?_ ?_ ?_ ?_ ?_ hp w (hw.pick [1, 1, 1, 0])
      · exact h_16
      · exact h_17
      · exact h_18
      · exact rfl
      · exact h_20
      · exact h_21
  · rw [if_neg hc_301] at hp
    refine TC.condF (bF hc_301) ?_
    refine TC.exit ?_
    refine fun w hw => hJ_295 x12 v13 F14 _ h15 ?_ ?_ ?_ ?_ (ex_ret hp hx_26) w (hw.pick [0, 0, 0, 0])
    · exact h_16
    · exact h_17
    · exact h_18
    · exact h_19

/-! ### fettle/fettlelaw05.GraphTrims -/
abbrev fettlelaw05_GraphTrims.R (r : Bool) (v : Value) (A : List FP) : Prop := .bool r = v ∧ A = []
def fettlelaw05_GraphTrims (a1 : PFunc) : Option Bool :=
  (fettlelaw05_up).bind fun x7 =>
  (fettlelaw05_small a1).bind fun x8 =>
  if (!x8) = true then
    some x7
  else
    (graph_Trim a1).bind fun x9 =>
    (fettleref05_Trim a1).bind fun x20 =>
    (if x7 = true then (fettleref02_SameFunc x9.1 x20.1).bind fun x34 =>
    some x34 else some false).bind fun t31 =>
    (if t31 = true then (fettlelaw05_Ints x9.2 x20.2).bind fun x33 =>
    some x33 else some false).bind fun t32 =>
    some t32
theorem fettlelaw05_GraphTrims_ok {E : World} {H : FP} {w : World} {a1 : PFunc} {v2 : Value} {v4 : Value} {r : Bool} (h3 : SlI (kInt .i64) H a1.regs v2) (h5 : SlI kBlock H a1.blocks v4) (hp : fettlelaw05_GraphTrims a1 = some r) (hst : St E H [] w) :
    Fn Try.prog 7 #[.agg #[.int .i64 a1.params, .int .i64 a1.result, v2, v4]] w fun v w' => ∃ A, fettlelaw05_GraphTrims.R r v A ∧ St E H A w' := by
  refine Fn.body (fn := Try.f7) (args := [.agg #[.int .i64 a1.params, .int .i64 a1.result, v2, v4]]) E H [] [.tmp 2] 36 Try.func7 rfl rfl rfl rfl (leb rfl) hst ?_
  unfold fettlelaw05_GraphTrims at hp
  refine TC.seq fun K_1 hK_2 => ?_
  refine TC.region ?_
  refine TL.box (cs := [.int .i64 a1.params, .int .i64 a1.result, v2, v4]) (v := .agg #[.int .i64 a1.params, .int .i64 a1.result, v2, v4]) (ltb rfl) rfl rfl fun b6 => ?_
  refine TL.v (ltb rfl) (rv_as (v := .bool false) rfl) ?_
  refine TL.nil ?_
  refine TC.go hK_2 ?_
  refine TC.seq fun K_3 hK_4 => ?_
  refine TC.region ?_
  obtain ⟨x7, hy_5, hp⟩ := bind_some' hp
  refine TL.callC (vs := []) (R := fettlelaw05_up.R x7) [] [bx b6 25 [.int .i64 a1.params, .int .i64 a1.result, v2, v4]] rfl cb_16 (ltb rfl) m0 (fun w hw => fettlelaw05_up_ok hy_5 hw) fun v A' hR_6 => ?_
  obtain ⟨rfl, rfl⟩ := hR_6
  refine TL.norm (L' := [bx b6 25 [.int .i64 a1.params, .int .i64 a1.result, v2, v4]]) rfl ?_
  refine TL.v (ltb rfl) (rv_as (v := .bool x7) rfl) ?_
  refine TL.nil ?_
  refine TC.go hK_4 ?_
  refine TC.seq fun K_7 hK_8 => ?_
  refine TC.region ?_
  refine TL.v (ltb rfl) (rv_lda (o := 0) (o' := 0) (j := 0) (ds := [.int .i64 a1.params, .int .i64 a1.result, v2, v4]) ag_25 rfl (Src.at_ 0 rfl) (bx_cells b6 25 _) rfl rfl rfl) ?_
  obtain ⟨x8, hy_9, hp⟩ := bind_some' hp
  refine TL.callC (vs := [.agg #[.int .i64 a1.params, .int .i64 a1.result, v2, v4]]) (R := fettlelaw05_small.R x8) [] [bx b6 25 [.int .i64 a1.params, .int .i64 a1.result, v2, v4]] rfl cb_17 (ltb rfl) (mc rfl m0) (fun w hw => fettlelaw05_small_ok (a1 := a1) (h3.mono subH) (h5.mono subH) hy_9 hw) fun v A' hR_10 => ?_
  obtain ⟨rfl, rfl⟩ := hR_10
  refine TL.norm (L' := [bx b6 25 [.int .i64 a1.params, .int .i64 a1.result, v2, v4]]) rfl ?_
  refine TL.v (ltb rfl) (rv_as (v := .bool x8) rfl) ?_
  refine TL.nil ?_
  refine TC.go hK_8 ?_
  refine TC.seq fun K_11 hK_12 => ?_
  refine TC.seq fun K_13 hK_14 => ?_
  refine TC.region ?_
  refine TL.v (ltb rfl) (rv_mv (v := .bool x8) rfl) ?_
  refine TL.v (ltb rfl) (rv_not (b := x8) rfl) ?_
  refine TL.nil ?_
  refine TC.go hK_14 ?_
  by_cases hc_15 : (!x8) = true
  · rw [if_pos hc_15] at hp
    refine TC.condT (bbT hc_15) ?_
    refine TC.seq fun K_16 hK_17 => ?_
    refine TC.region ?_
    refine TL.v (ltb rfl) (rv_mv (v := .bool x7) rfl) ?_
    refine TL.v (ltb rfl) (rv_as (v := .bool x7) rfl) ?_
    refine TL.nil ?_
    refine TC.go hK_17 ?_
    refine TC.ret ?_
    obtain rfl := Option.some.inj hp
    exact fun w hw => retOk ⟨rfl, rfl⟩ (hw.pick [])
  · rw [if_neg hc_15] at hp
    refine TC.condF (bbF hc_15) ?_
    refine TC.skip ?_
    refine TC.go hK_12 ?_
    refine TC.seq fun K_18 hK_19 => ?_
    refine TC.region ?_
    refine TL.v (ltb rfl) (rv_lda (o := 0) (o' := 0) (j := 0) (ds := [.int .i64 a1.params, .int .i64 a1.result, v2, v4]) ag_25 rfl (Src.at_ 0 rfl) (bx_cells b6 25 _) rfl rfl rfl) ?_
    obtain ⟨x9, hy_20, hp⟩ := bind_some' hp
    refine TL.callC (vs := [.agg #[.int .i64 a1.params, .int .i64 a1.result, v2, v4]]) (R := graph_Trim.R x9) [] [bx b6 25 [.int .i64 a1.params, .int .i64 a1.result, v2, v4]] rfl cb_42 (ltb rfl) (mc rfl m0) (fun w hw => graph_Trim_ok (a1 := a1) (h3.mono subH) (h5.mono subH) hy_20 hw) fun v A' hR_21 => ?_
    obtain ⟨v10, F11, v13, F14, v16, F17, rfl, rfl, h12, h15, h18⟩ := hR_21
    refine TL.norm (L' := [F11, F14, F17, bx b6 25 [.int .i64 a1.params, .int .i64 a1.result, v2, v4]]) rfl ?_
    refine TL.v (ltb rfl) (rv_mv (v := .tuple #[.agg #[.int .i64 x9.1.params, .int .i64 x9.1.result, v10, v13], v16]) rfl) ?_
    refine TL.v (ltb rfl) (rv_extract (vs := #[.agg #[.int .i64 x9.1.params, .int .i64 x9.1.result, v10, v13], v16]) (v := .agg #[.int .i64 x9.1.params, .int .i64 x9.1.result, v10, v13]) rfl rfl) ?_
    refine TL.v (ltb rfl) (rv_extract (vs := #[.agg #[.int .i64 x9.1.params, .int .i64 x9.1.result, v10, v13], v16]) (v := v16) rfl rfl) ?_
    refine TL.alloc (cs := [.int .i64 0, .int .i64 0, .slice none 0 0, .slice none 0 0]) inf_25 (ltb rfl) rfl fun b19 => ?_
    refine TL.stB (ds := [.int .i64 x9.1.params, .int .i64 x9.1.result, v10, v13]) (o := 0) (cs := [.int .i64 0, .int .i64 0, .slice none 0 0, .slice none 0 0]) (b := b19) (u := .agg #[.int .i64 x9.1.params, .int .i64 x9.1.result, v10, v13]) 0 rfl ms_25 rfl rfl rfl (oc rfl (oc rfl (oc (h12).one (oc (h15).one oc0)))) (leb rfl) ?_
    refine TL.norm (L' := [bx b19 25 [.int .i64 x9.1.params, .int .i64 x9.1.result, v10, v13], F11, F14, F17, bx b6 25 [.int .i64 a1.params, .int .i64 a1.result, v2, v4]]) rfl ?_
    refine TL.v (ltb rfl) (rv_as (v := v16) rfl) ?_
    refine TL.nil ?_
    refine TC.go hK_19 ?_
    refine TC.seq fun K_22 hK_23 => ?_
    refine TC.region ?_
    refine TL.v (ltb rfl) (rv_lda (o := 0) (o' := 0) (j := 0) (ds := [.int .i64 a1.params, .int .i64 a1.result, v2, v4]) ag_25 rfl (Src.at_ 4 rfl) (bx_cells b6 25 _) rfl rfl rfl) ?_
    obtain ⟨x20, hy_24, hp⟩ := bind_some' hp
    refine TL.callC (vs := [.agg #[.int .i64 a1.params, .int .i64 a1.result, v2, v4]]) (R := fettleref05_Trim.R x20) [] [bx b19 25 [.int .i64 x9.1.params, .int .i64 x9.1.result, v10, v13], F11, F14, F17, bx b6 25 [.int .i64 a1.params, .int .i64 a1.result, v2, v4]] rfl cb_43 (ltb rfl) (mc rfl m0) (fun w hw => fettleref05_Trim_ok (a1 := a1) (h3.mono subH) (h5.mono subH) hy_24 hw) fun v A' hR_25 => ?_
    obtain ⟨v21, F22, v24, F25, v27, F28, rfl, rfl, h23, h26, h29⟩ := hR_25
    refine TL.norm (L' := [F22, F25, F28, bx b19 25 [.int .i64 x9.1.params, .int .i64 x9.1.result, v10, v13], F11, F14, F17, bx b6 25 [.int .i64 a1.params, .int .i64 a1.result, v2, v4]]) rfl ?_
    refine TL.v (ltb rfl) (rv_mv (v := .tuple #[.agg #[.int .i64 x20.1.params, .int .i64 x20.1.result, v21, v24], v27]) rfl) ?_
    refine TL.v (ltb rfl) (rv_extract (vs := #[.agg #[.int .i64 x20.1.params, .int .i64 x20.1.result, v21, v24], v27]) (v := .agg #[.int .i64 x20.1.params, .int .i64 x20.1.result, v21, v24]) rfl rfl) ?_
    refine TL.v (ltb rfl) (rv_extract (vs := #[.agg #[.int .i64 x20.1.params, .int .i64 x20.1.result, v21, v24], v27]) (v := v27) rfl rfl) ?_
    refine TL.alloc (cs := [.int .i64 0, .int .i64 0, .slice none 0 0, .slice none 0 0]) inf_25 (ltb rfl) rfl fun b30 => ?_
    refine TL.stB (ds := [.int .i64 x20.1.params, .int .i64 x20.1.result, v21, v24]) (o := 0) (cs := [.int .i64 0, .int .i64 0, .slice none 0 0, .slice none 0 0]) (b := b30) (u := .agg #[.int .i64 x20.1.params, .int .i64 x20.1.result, v21, v24]) 0 rfl ms_25 rfl rfl rfl (oc rfl (oc rfl (oc (h23).one (oc (h26).one oc0)))) (leb rfl) ?_
    refine TL.norm (L' := [bx b30 25 [.int .i64 x20.1.params, .int .i64 x20.1.result, v21, v24], F22, F25, F28, bx b19 25 [.int .i64 x9.1.params, .int .i64 x9.1.result, v10, v13], F11, F14, F17, bx b6 25 [.int .i64 a1.params, .int .i64 a1.result, v2, v4]]) rfl ?_
    refine TL.v (ltb rfl) (rv_as (v := v27) rfl) ?_
    refine TL.nil ?_
    refine TC.go hK_23 ?_
    refine TC.seq fun K_26 hK_27 => ?_
    refine TC.region ?_
    refine TL.v (ltb rfl) (rv_mv (v := .bool x7) rfl) ?_
    refine TL.v (ltb rfl) (rv_mv (v := .bool x7) rfl) ?_
    obtain ⟨t31, ht_45, hp⟩ := bind_some' hp
    refine TL.cut 4 fun K_28 hK_29 => ?_
    have hJ_30 : ∀ e_32 : Env, e_32 6 = v16 → e_32 8 = v27 → e_32 30 = .bool t31 → ∀ w, St E H [bx b30 25 [.int .i64 x20.1.params, .int .i64 x20.1.result, v21, v24], F22, F25, F28, bx b19 25 [.int .i64 x9.1.params, .int .i64 x9.1.result, v10, v13], F11, F14, F17, bx b6 25 [.int .i64 a1.params, .int .i64 a1.result, v2, v4]] w → K_28 e_32 w := by
      intro e_32 h_33 h_34 h_35
      refine TL.go hK_29 ?_
      refine TL.v (ltb rfl) (rv_mv (v := .bool t31) h_35) ?_
      obtain ⟨t32, ht_42, hp⟩ := bind_some' hp
      refine TL.cut 4 fun K_36 hK_37 => ?_
      have hJ_38 : ∀ e_40 : Env, e_40 35 = .bool t32 → ∀ w, St E H [bx b30 25 [.int .i64 x20.1.params, .int .i64 x20.1.result, v21, v24], F22, F25, F28, bx b19 25 [.int .i64 x9.1.params, .int .i64 x9.1.result, v10, v13], F11, F14, F17, bx b6 25 [.int .i64 a1.params, .int .i64 a1.result, v2, v4]] w → K_36 e_40 w := by
        intro e_40 h_41
        refine TL.go hK_37 ?_
        refine TL.v (ltb rfl) (rv_as (v := .bool t32) h_41) ?_
        refine TL.nil ?_
        refine TC.go hK_27 ?_
        refine TC.ret ?_
        obtain rfl := Option.some.inj hp
        exact fun w hw => retOk ⟨rfl, rfl⟩ (hw.pick [])
      clear hp
      have hp := ht_42
      clear ht_42
      by_cases hc_39 : t31 = true
      · rw [if_pos hc_39] at hp
        refine TL.gyes true (yieldE_of rfl (bbT hc_39)) rfl ?_
        refine TL.v (ltb rfl) (rv_mv (v := v16) h_33) ?_
        refine TL.gyes true (yieldE_of rfl (bbT hc_39)) rfl ?_
        refine TL.v (ltb rfl) (rv_mv (v := v27) h_34) ?_
        refine TL.gyes true (yieldE_of rfl (bbT hc_39)) rfl ?_
        obtain ⟨x33, hy_43, hp⟩ := bind_some' hp
        refine TL.callC (vs := [v16, v27]) (R := fettlelaw05_Ints.R x33) [] [bx b30 25 [.int .i64 x20.1.params, .int .i64 x20.1.result, v21, v24], F22, F25, F28, bx b19 25 [.int .i64 x9.1.params, .int .i64 x9.1.result, v10, v13], F11, F14, F17, bx b6 25 [.int .i64 a1.params, .int .i64 a1.result, v2, v4]] rfl cb_22 (ltb rfl) (mc rfl (mc rfl m0)) (fun w hw => fettlelaw05_Ints_ok (a1 := x9.2) (a4 := x20.2) (h18.ro.mono (subB 7 rfl)) (h29.ro.mono (subB 3 rfl)) hy_43 hw) fun v A' hR_44 => ?_
        obtain ⟨rfl, rfl⟩ := hR_44
        refine TL.norm (L' := [bx b30 25 [.int .i64 x20.1.params, .int .i64 x20.1.result, v21, v24], F22, F25, F28, bx b19 25 [.int .i64 x9.1.params, .int .i64 x9.1.result, v10, v13], F11, F14, F17, bx b6 25 [.int .i64 a1.params, .int .i64 a1.result, v2, v4]]) rfl ?_
        refine TL.v (ltb rfl) (rv_pickT true (bbT hc_39) rfl (v := .bool x33) rfl) ?_
        obtain rfl := Option.some.inj hp
        refine TL.nil (hJ_38 _ ?_)
        · exact rfl
      · rw [if_neg hc_39] at hp
        refine TL.gno false rfl (fun d hd => by cases hd; exact ltb rfl) (yieldE_of rfl (bbF hc_39)) rfl ?_
        refine TL.gno false rfl (fun d hd => by cases hd; exact ltb rfl) (yieldE_of rfl (bbF hc_39)) rfl ?_
        refine TL.gno false rfl (fun d hd => by cases hd; exact ltb rfl) (yieldE_of rfl (bbF hc_39)) rfl ?_
        refine TL.v (ltb rfl) (rv_pickF false (bbF hc_39) rfl (v := .bool false) rfl) ?_
        obtain rfl := Option.some.inj hp
        refine TL.nil (hJ_38 _ ?_)
        · exact rfl
    clear hp
    have hp := ht_45
    clear ht_45
    by_cases hc_31 : x7 = true
    · rw [if_pos hc_31] at hp
      refine TL.gyes true (yieldE_of rfl (bbT hc_31)) rfl ?_
      refine TL.v (ltb rfl) (rv_lda (o := 0) (o' := 0) (j := 0) (ds := [.int .i64 x9.1.params, .int .i64 x9.1.result, v10, v13]) ag_25 rfl (Src.at_ 4 rfl) (bx_cells b19 25 _) rfl rfl rfl) ?_
      refine TL.gyes true (yieldE_of rfl (bbT hc_31)) rfl ?_
      refine TL.v (ltb rfl) (rv_lda (o := 0) (o' := 0) (j := 0) (ds := [.int .i64 x20.1.params, .int .i64 x20.1.result, v21, v24]) ag_25 rfl (Src.at_ 0 rfl) (bx_cells b30 25 _) rfl rfl rfl) ?_
      refine TL.gyes true (yieldE_of rfl (bbT hc_31)) rfl ?_
      obtain ⟨x34, hy_46, hp⟩ := bind_some' hp
      refine TL.callC (vs := [.agg #[.int .i64 x9.1.params, .int .i64 x9.1.result, v10, v13], .agg #[.int .i64 x20.1.params, .int .i64 x20.1.result, v21, v24]]) (R := fettleref02_SameFunc.R x34) [] [bx b30 25 [.int .i64 x20.1.params, .int .i64 x20.1.result, v21, v24], F22, F25, F28, bx b19 25 [.int .i64 x9.1.params, .int .i64 x9.1.result, v10, v13], F11, F14, F17, bx b6 25 [.int .i64 a1.params, .int .i64 a1.result, v2, v4]] rfl cb_44 (ltb rfl) (mc rfl (mc rfl m0)) (fun w hw => fettleref02_SameFunc_ok (a1 := x9.1) (a6 := x20.1) (h12.ro.mono (subB 5 rfl)) (h15.ro.mono (subB 6 rfl)) (h23.ro.mono (subB 1 rfl)) (h26.ro.mono (subB 2 rfl)) hy_46 hw) fun v A' hR_47 => ?_
      obtain ⟨rfl, rfl⟩ := hR_47
      refine TL.norm (L' := [bx b30 25 [.int .i64 x20.1.params, .int .i64 x20.1.result, v21, v24], F22, F25, F28, bx b19 25 [.int .i64 x9.1.params, .int .i64 x9.1.result, v10, v13], F11, F14, F17, bx b6 25 [.int .i64 a1.params, .int .i64 a1.result, v2, v4]]) rfl ?_
      refine TL.v (ltb rfl) (rv_pickT true (bbT hc_31) rfl (v := .bool x34) rfl) ?_
      obtain rfl := Option.some.inj hp
      refine TL.nil (hJ_30 _ ?_ ?_ ?_)
      · exact rfl
      · exact rfl
      · exact rfl
    · rw [if_neg hc_31] at hp
      refine TL.gno false rfl (fun d hd => by cases hd; exact ltb rfl) (yieldE_of rfl (bbF hc_31)) rfl ?_
      refine TL.gno false rfl (fun d hd => by cases hd; exact ltb rfl) (yieldE_of rfl (bbF hc_31)) rfl ?_
      refine TL.gno false rfl (fun d hd => by cases hd; exact ltb rfl) (yieldE_of rfl (bbF hc_31)) rfl ?_
      refine TL.v (ltb rfl) (rv_pickF false (bbF hc_31) rfl (v := .bool false) rfl) ?_
      obtain rfl := Option.some.inj hp
      refine TL.nil (hJ_30 _ ?_ ?_ ?_)
      · exact rfl
      · exact rfl
      · exact rfl
end Go.Proofs.Ytoflleabpkgdpaa
