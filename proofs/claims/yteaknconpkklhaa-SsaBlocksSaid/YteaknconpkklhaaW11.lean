/- The walk through the program's functions: each one's pure reading, and that a call does what it says. No conditions. -/
import Derived.Test.YteaknconpkklhaaW10
set_option linter.unusedVariables false
set_option linter.unusedSimpArgs false
namespace Go.Proofs.Yteaknconpkklhaa
open Go Go.Proofs

/-! ### fettle/ssa.Build -/
abbrev ssa_Build.R (r : PFunc × GErr) (v : Value) (A : List FP) : Prop := ∃ (w1 : Value) (G1 : FP) (w2 : Value) (G2 : FP) (w3 : Value) (G3 : FP), .tuple #[.agg #[.int .i64 r.1.params, .int .i64 r.1.result, w1, w2], w3] = v ∧ A = [G1, G2, G3] ∧ SlO 3 (kInt .i64) r.1.regs w1 G1 ∧ SlO 50 kBlock r.1.blocks w2 G2 ∧ ErO 70 96 98 r.2 w3 G3
def ssa_Build.nx57 (x26 : PFunc × List Int) (x3674 : List Int × List (List Int) × List Int × List (List Int)) (x8107 : List PBlock) (x8111 : Int) : Option (PFunc × GErr) :=
  if x8111 > 256 ∨ (len x3674.1) > 256 then
    some ((⟨0, 0, ([] : List Int), ([] : List PBlock)⟩ : PFunc), (GErr.code 5))
  else
    some ((⟨x26.1.params, x26.1.result, x3674.1, x8107⟩ : PFunc), GErr.no)
def ssa_Build.bd57 (x26 : PFunc × List Int) (x48 : List (List Bool) × List (List Bool) × GErr) (x1261 : List (List Int)) (x2061 : List Int) (x3663 : List (List Int) × List Int) (x3674 : List Int × List (List Int) × List Int × List (List Int)) (x3689 : List (List Int) × List (List Int)) (x8097 : List (List Int)) (x8101 : List PBlock) (x8105 : Int) (x8106 : Int) : Option (Ex (List PBlock × Int) (List PBlock × Int × Int)) :=
  if x8106 < (len x8097) then
    (idx x8097 x8106).bind fun x8116 =>
    (ssa_builder_block (⟨(⟨x26.1.params, x26.1.result, x26.1.regs, x26.1.blocks⟩ : PFunc), x48.1, x1261, x2061, x3663.1, x3663.2, x3674.1, x3674.2.1, x3674.2.2.1, x3674.2.2.2, x3689.1, x3689.2⟩ : PBuilder) x8106 x8116).bind fun x8124 =>
    (cat x8101 [x8124]).bind fun x8136 =>
    some (.go (x8136, (w64 (x8105 + (w64 ((w64 ((len x8124.phis) + (len x8124.ins))) + 1)))), (w64 (x8106 + 1))))
  else
    some (.ret (x8101, x8105))
def ssa_Build (a1 : PModule) (a4 : Int) : Option (PFunc × GErr) :=
  (check_Plain a1).bind fun x7 =>
  if ¬ x7 = GErr.no then
    some ((⟨0, 0, ([] : List Int), ([] : List PBlock)⟩ : PFunc), x7)
  else
    if a4 < 0 ∨ a4 ≥ (len a1.funcs) then
      some ((⟨0, 0, ([] : List Int), ([] : List PBlock)⟩ : PFunc), (GErr.code 1))
    else
      (idx a1.funcs a4).bind fun x16 =>
      (graph_Trim x16).bind fun x26 =>
      (slices_Clone_api_Func_api_Func a1.funcs).bind fun x37 =>
      (idx x37 a4).bind fun x42 =>
      (live_Live (⟨(x37.set (a4).toNat x26.1)⟩ : PModule) a4).bind fun x48 =>
      if ¬ x48.2.2 = GErr.no then
        some ((⟨0, 0, ([] : List Int), ([] : List PBlock)⟩ : PFunc), x48.2.2)
      else
        (dom_Frontier x26.1).bind fun x1261 =>
        (dom_Nearest x26.1).bind fun x2061 =>
        (ssa_builder_place (⟨(⟨x26.1.params, x26.1.result, x26.1.regs, x26.1.blocks⟩ : PFunc), x48.1, x1261, x2061, ([] : List (List Int)), ([] : List Int), [], [], [], [], [], []⟩ : PBuilder)).bind fun x3663 =>
        (ssa_builder_number (⟨(⟨x26.1.params, x26.1.result, x26.1.regs, x26.1.blocks⟩ : PFunc), x48.1, x1261, x2061, x3663.1, x3663.2, ([] : List Int), ([] : List (List Int)), ([] : List Int), ([] : List (List Int)), [], []⟩ : PBuilder)).bind fun x3674 =>
        (ssa_builder_versions (⟨(⟨x26.1.params, x26.1.result, x26.1.regs, x26.1.blocks⟩ : PFunc), x48.1, x1261, x2061, x3663.1, x3663.2, x3674.1, x3674.2.1, x3674.2.2.1, x3674.2.2.2, ([] : List (List Int)), ([] : List (List Int))⟩ : PBuilder)).bind fun x3689 =>
        (check_Ahead x26.1).bind fun x8097 =>
        (whl (fun (s : (List PBlock × Int × Int)) => ssa_Build.bd57 x26 x48 x1261 x2061 x3663 x3674 x3689 x8097 s.1 s.2.1 s.2.2) FUEL (([] : List PBlock), 0, 0)).bind fun z =>
        ssa_Build.nx57 x26 x3674 z.1 z.2
set_option maxHeartbeats 4000000 in
theorem ssa_Build_ok {E : World} {H : FP} {w : World} {a1 : PModule} {a4 : Int} {v2 : Value} {r : PFunc × GErr} (h3 : SlI kFunc H a1.funcs v2) (hp : ssa_Build a1 a4 = some r) (hst : St E H [] w) :
    Fn Try.prog 17 #[.agg #[v2], .int .i64 a4] w fun v w' => ∃ A, ssa_Build.R r v A ∧ St E H A w' := by
 refine Fn.bodyV (fn := Try.f17) (args := [.agg #[v2], .int .i64 a4]) E H [] 128 Try.func17 rfl rfl (leb rfl) hst <| sr <| tb [v2] rfl rfl fun b5 => tl i40 rfl fun b6 => ta rfl <| nz <| TC.seq fun K1 k2 => sr <| tv (lA (ds := [v2]) ag_35 1 rfl rfl rfl rfl) rfl <| bE hp fun x7 hy3 hp => tc 0 [_,_] rfl c39 (fun _ => check_Plain_ok (a1 := a1) (h3.mono subH) hy3) rfl ?_
 rintro _ _ ⟨v8, F9, rfl, rfl, h10⟩
 refine ta rfl <| nz <| sr <| tm rfl <| tv (rv_neqEN ifc_27 h10 rfl) rfl <| nz <| cD rfl hp (fun hc5 hp => ?_) fun hc5 hp => ?_
 · refine sr <| tv (rv_bv (vs := []) (ds := [.int .i64 0, .int .i64 0, .slice none 0 0, .slice none 0 0]) rfl (fun w => by kernel_rfl)) rfl <| tm rfl <| tS 1 m40 rfl rfl [.int .i64 0, .int .i64 0, .slice none 0 0, .slice none 0 0] rfl (oc rfl (oc rfl (oc rfl (oc rfl oc0)))) rfl rfl <| ta rfl <| nz <| TC.ret <| W.new0 <| W.new0 ?_
   obtain rfl := Option.some.inj hp
   exact fun w hw => retC2 hw rfl rfl rfl ag_40 3 rfl rfl ⟨(.slice none 0 0), ([] : FP), (.slice none 0 0), ([] : FP), v8, F9, rfl, rfl, (SlO.nil 3), (SlO.nil 50), h10⟩ (hw.pickA [1, 0, 2] rfl)
 · refine sk k2 rfl <| TC.seq fun K6 k7 => sr <| tm rfl <| tv (blt rfl rfl) rfl <| tm rfl <| TL.cut 6 fun K8 k9 => ?_
   have J10 {e12} : ∀ w, St E H [F9, bx b6 40 [.int .i64 0, .int .i64 0, .slice none 0 0, .slice none 0 0], bx b5 35 [v2]] w → K8 (ovr e12 [(33, .bool (decide (a4 < 0 ∨ a4 ≥ (len a1.funcs)))), (1, .int .i64 a4), (2, .pointer (some ⟨b5, 0, none⟩)), (4, .pointer (some ⟨b6, 0, none⟩))]) w := by
    refine tlg k9 <| nz <| cD rfl hp (fun hc13 hp => ?_) fun hc13 hp => ?_
    · refine sr <| tv (rv_bv (vs := []) (ds := [.int .i64 0, .int .i64 0, .slice none 0 0, .slice none 0 0]) rfl (fun w => by kernel_rfl)) rfl <| tv (mI u70 rfl) rfl <| tS 1 m40 rfl rfl [.int .i64 0, .int .i64 0, .slice none 0 0, .slice none 0 0] rfl (oc rfl (oc rfl (oc rfl (oc rfl oc0)))) rfl rfl <| ta rfl <| nz <| TC.ret <| W.new0 <| W.new0 <| W.new0 ?_
      obtain rfl := Option.some.inj hp
      exact fun w hw => retC2 hw rfl rfl rfl ag_40 4 rfl rfl ⟨(.slice none 0 0), ([] : FP), (.slice none 0 0), ([] : FP), (.iface 70 (.int .i64 1)), ([] : FP), rfl, rfl, (SlO.nil 3), (SlO.nil 50), (ErO.mk _ : ErO 70 96 98 (GErr.code 1) (.iface 70 (.int .i64 1)) [])⟩ (hw.pickA [2, 1, 0] rfl)
    · refine sk k7 rfl <| sr <| tv (fa f35_0 rfl) rfl <| tv (lb s33 2 rfl rfl rfl) rfl <| tm rfl <| ti u33 i40 h3 hp rfl rfl rfl rfl ?_
      rintro x16 b17 o18 _ hp ⟨v22, v24, rfl, h23, h25⟩ h21
      refine tv (lR (ds := [.int .i64 x16.params, .int .i64 x16.result, v22, v24]) ag_40 sH h21 0 rfl rfl rfl) rfl <| bE hp fun x26 hy15 hp => tc 0 [_,_,_] rfl c21 (fun _ => graph_Trim_ok (a1 := x16) (h23.mono subH) (h25.mono subH) hy15) rfl ?_
      rintro _ _ ⟨v27, F28, v30, F31, v33, F34, rfl, rfl, h29, h32, h35⟩
      refine tm rfl <| tv (xt rfl rfl) rfl <| tv (xt rfl rfl) rfl <| tl i40 rfl fun b36 => tS 0 m40 rfl rfl [.int .i64 x26.1.params, .int .i64 x26.1.result, v27, v30] rfl (oc rfl (oc rfl (oc (h29).one (oc (h32).one oc0)))) rfl rfl <| ta rfl <| nz <| sr <| tv (fa f35_0 rfl) rfl <| tv (lb s33 6 rfl rfl rfl) rfl <| bE hp fun x37 hy17 hp => tc 0 [_,_,_,_,_,_,_] rfl c40 (fun _ => slices_Clone_api_Func_api_Func_ok (G := H) subH h3 hy17) rfl ?_
      rintro _ _ ⟨v38, F39, rfl, rfl, h40⟩
      refine tv (rv_bv (vs := [(0, v38)]) (ds := [v38]) rfl (fun w => by obtain ⟨_, _, rfl⟩ := (h40).len; kernel_rfl)) rfl <| tl i35 rfl fun b41 => tS 0 m35 rfl rfl [v38] rfl (oc (h40).one oc0) rfl rfl <| nz <| sr <| tv (fa f35_0 rfl) rfl <| tv (lb s33 0 rfl rfl rfl) rfl <| tm rfl <| tv (lA (ds := [.int .i64 x26.1.params, .int .i64 x26.1.result, v27, v30]) ag_40 2 rfl rfl rfl rfl) rfl <| tO u33 i40 h40 hp rfl rfl rfl rfl fun x42 b43 o44 h45 hp => tp [1, 0, 2, 3, 4, 5, 6, 7, 8] [_,_,_,_,_,_,_,_,_] rfl rfl <| TL.stE0 (ds := [.int .i64 x26.1.params, .int .i64 x26.1.result, v27, v30]) (u := .agg #[.int .i64 x26.1.params, .int .i64 x26.1.result, v27, v30]) (a := x26.1) (SlO.refM (G' := (F28 ++ (F31 ++ H))) h40 (inR (inR inI))) h45 m40 rfl rfl rfl ⟨⟨⟨_, _, rfl, (h29.ro.mono ((inL inI))), (h32.ro.mono ((inR (inL inI))))⟩, (oc rfl (oc rfl (oc (h29).one (oc (h32).one oc0))))⟩, rfl⟩ fun F46 h47 => nz <| sr <| tv (lA (ds := [v38]) ag_35 1 rfl rfl rfl rfl) rfl <| tm rfl <| bE hp fun x48 hy19 hp => tc 0 [_,_,_,_,_,_,_,_,_] rfl c41 (fun _ => live_Live_ok (a1 := (⟨(x37.set (a4).toNat x26.1)⟩ : PModule)) (a4 := a4) ((SlO.refI h47).mono (subO (subB 0 rfl) (subO (subB 3 rfl) (subO (subB 4 rfl) subH)))) hy19) rfl ?_
      rintro _ _ ⟨v49, F50, v52, F53, v55, F56, rfl, rfl, h51, h54, h57⟩
      refine tm rfl <| tv (xt rfl rfl) rfl <| tv (xt rfl rfl) rfl <| tv (xt rfl rfl) rfl <| ta rfl <| ta rfl <| ta rfl <| nz <| TC.seq fun K21 k22 => sr <| tm rfl <| tv (rv_neqEN ifc_27 h57 rfl) rfl <| nz <| cD rfl hp (fun hc23 hp => ?_) fun hc23 hp => ?_
      · refine sr <| tv (rv_bv (vs := []) (ds := [.int .i64 0, .int .i64 0, .slice none 0 0, .slice none 0 0]) rfl (fun w => by kernel_rfl)) rfl <| tm rfl <| tS 10 m40 rfl rfl [.int .i64 0, .int .i64 0, .slice none 0 0, .slice none 0 0] rfl (oc rfl (oc rfl (oc rfl (oc rfl oc0)))) rfl rfl <| ta rfl <| nz <| TC.ret <| W.new0 <| W.new0 ?_
        obtain rfl := Option.some.inj hp
        exact fun w hw => retC2 hw rfl rfl rfl ag_40 12 rfl rfl ⟨(.slice none 0 0), ([] : FP), (.slice none 0 0), ([] : FP), v55, F56, rfl, rfl, (SlO.nil 3), (SlO.nil 50), h57⟩ (hw.pickA [1, 0, 4] rfl)
      · refine sk k22 rfl <| TC.seq fun K24 k25 => ch mix [F50, F53, F56, F46, bx b41 35 [v38], bx b36 40 [.int .i64 x26.1.params, .int .i64 x26.1.result, v27, v30], F28, F31, F34, F9, bx b6 40 [.int .i64 0, .int .i64 0, .slice none 0 0, .slice none 0 0], bx b5 35 [v2]] (srcG 0 rfl (srcG 1 rfl (srcG 2 rfl (srcG 3 rfl (srcG 4 rfl (srcG 5 rfl (srcG 6 rfl (srcG 7 rfl (srcG 8 rfl (srcG 9 rfl (srcG 10 rfl (srcG 11 rfl srcG0)))))))))))) <| hv 0 rfl (lAG (ds := [.int .i64 x26.1.params, .int .i64 x26.1.result, v27, v30]) ag_40 5 rfl rfl rfl rfl) (by kernel_rfl) rfl <| hv 1 rfl mv (by kernel_rfl) rfl <| hv 2 rfl (lAG (ds := [.int .i64 x26.1.params, .int .i64 x26.1.result, v27, v30]) ag_40 5 rfl rfl rfl rfl) (by kernel_rfl) rfl <| hv 4 rfl (lAG (ds := [.int .i64 x26.1.params, .int .i64 x26.1.result, v27, v30]) ag_40 5 rfl rfl rfl rfl) (by kernel_rfl) rfl <| ho 3 rfl (by kernel_rfl) fun K26 k27 => bE hp fun x1261 hy28 hp => tc 0 [_,_,_,_,_,_,_,_,_,_,_,_] rfl c42 (fun _ => dom_Frontier_ok (a1 := x26.1) (h29.ro.mono (subB 6 rfl)) (h32.ro.mono (subB 7 rfl)) hy28) rfl ?_
        rintro _ _ ⟨v1262, F1263, rfl, rfl, h1264⟩
        refine hk k27 (srcG 1 rfl (srcG 2 rfl (srcG 3 rfl (srcG 4 rfl (srcG 5 rfl (srcG 6 rfl (srcG 7 rfl (srcG 8 rfl (srcG 9 rfl (srcG 10 rfl (srcG 11 rfl (srcG 12 rfl srcG0)))))))))))) <| ho 5 rfl (by kernel_rfl) fun K30 k31 => bE hp fun x2061 hy32 hp => tc 0 [_,_,_,_,_,_,_,_,_,_,_,_,_] rfl c43 (fun _ => dom_Nearest_ok (a1 := x26.1) (h29.ro.mono (subB 7 rfl)) (h32.ro.mono (subB 8 rfl)) hy32) rfl ?_
        rintro _ _ ⟨v2062, F2063, rfl, rfl, h2064⟩
        refine hk k31 (srcG 2 rfl (srcG 3 rfl (srcG 4 rfl (srcG 5 rfl (srcG 6 rfl (srcG 7 rfl (srcG 8 rfl (srcG 9 rfl (srcG 10 rfl (srcG 11 rfl (srcG 12 rfl (srcG 13 rfl srcG0)))))))))))) <| hv 6 rfl (rv_bv (vs := [(0, .agg #[.int .i64 x26.1.params, .int .i64 x26.1.result, v27, v30]), (1, v49), (2, v1262), (3, v2062)]) (ds := [.int .i64 x26.1.params, .int .i64 x26.1.result, v27, v30, v49, v1262, v2062, .slice none 0 0, .slice none 0 0, .slice none 0 0, .slice none 0 0, .slice none 0 0, .slice none 0 0, .slice none 0 0, .slice none 0 0]) rfl (fun w => by obtain ⟨_, _, rfl⟩ := (h51).len; obtain ⟨_, _, rfl⟩ := (h1264).len; obtain ⟨_, _, rfl⟩ := (h2064).len; kernel_rfl)) (by kernel_rfl) rfl <| ho 7 rfl (by kernel_rfl) fun K34 k35 => tb [.int .i64 x26.1.params, .int .i64 x26.1.result, v27, v30, v49, v1262, v2062, .slice none 0 0, .slice none 0 0, .slice none 0 0, .slice none 0 0, .slice none 0 0, .slice none 0 0, .slice none 0 0, .slice none 0 0] rfl rfl fun b2861 => hk k35 (srcG 3 rfl (srcG 4 rfl (srcG 5 rfl (srcG 6 rfl (srcG 7 rfl (srcG 8 rfl (srcG 9 rfl (srcG 10 rfl (srcG 11 rfl (srcG 12 rfl (srcG 13 rfl (srcG 14 rfl srcG0)))))))))))) <| hv 8 rfl sg (by kernel_rfl) rfl <| hz (by kernel_rfl) <| tg k25 <| sr <| tm rfl <| TL.new0 <| TL.new0 <| tp [2, 1, 0, 3, 4, 5, 6, 7, 8, 9, 10, 11, 12, 13, 14, 15, 16] [_,_,_,_,_,_,_,_,_,_,_,_,_,_,_,_,_] rfl rfl <| bE hp fun x3663 hy36 hp => tc 3 [_,_,_,_,_,_,_,_,_,_,_,_,_,_] rfl c44 (fun _ => ssa_builder_place_ok (a2 := (⟨(⟨x26.1.params, x26.1.result, x26.1.regs, x26.1.blocks⟩ : PFunc), x48.1, x1261, x2061, ([] : List (List Int)), ([] : List Int), [], [], [], [], [], []⟩ : PBuilder)) (h29.ro.mono (subB 8 rfl)) (h32.ro.mono (subB 9 rfl)) (h51.ro.mono (subB 2 rfl)) (h1264.ro.mono (subB 1 rfl)) (h2064.ro.mono (subB 0 rfl)) (SlO.nil 25) (SlO.nil 3) ((SlI.nil (G := H) none 0).mono subH) ((SlI.nil (G := H) none 0).mono subH) ((SlI.nil (G := H) none 0).mono subH) ((SlI.nil (G := H) none 0).mono subH) ((SlI.nil (G := H) none 0).mono subH) ((SlI.nil (G := H) none 0).mono subH) hy36) rfl ?_
        rintro _ _ ⟨v3664, F3665, v3667, F3668, rfl, rfl, h3666, h3669⟩
        refine nz <| sr <| tm rfl <| TL.new0 <| TL.new0 <| TL.new0 <| TL.new0 <| tp [4, 3, 2, 1, 0, 5, 6, 7, 8, 9, 10, 11, 12, 13, 14, 15, 16, 17, 18, 19, 20] [_,_,_,_,_,_,_,_,_,_,_,_,_,_,_,_,_,_,_,_,_] rfl rfl <| bE hp fun x3674 hy38 hp => tc 5 [_,_,_,_,_,_,_,_,_,_,_,_,_,_,_,_] rfl c45 (fun _ => ssa_builder_number_ok (a2 := (⟨(⟨x26.1.params, x26.1.result, x26.1.regs, x26.1.blocks⟩ : PFunc), x48.1, x1261, x2061, x3663.1, x3663.2, ([] : List Int), ([] : List (List Int)), ([] : List Int), ([] : List (List Int)), [], []⟩ : PBuilder)) (h29.ro.mono (subB 10 rfl)) (h32.ro.mono (subB 11 rfl)) (h51.ro.mono (subB 4 rfl)) (h1264.ro.mono (subB 3 rfl)) (h2064.ro.mono (subB 2 rfl)) (h3666.ro.mono (subB 0 rfl)) (h3669.ro.mono (subB 1 rfl)) (SlO.nil 3) (SlO.nil 25) (SlO.nil 3) (SlO.nil 25) ((SlI.nil (G := H) none 0).mono subH) ((SlI.nil (G := H) none 0).mono subH) hy38) rfl ?_
        rintro _ _ ⟨v3675, F3676, v3678, F3679, v3681, F3682, v3684, F3685, rfl, rfl, h3677, h3680, h3683, h3686⟩
        refine nz <| sr <| tm rfl <| TL.new0 <| TL.new0 <| tp [2, 1, 0, 3, 4, 5, 6, 7, 8, 9, 10, 11, 12, 13, 14, 15, 16, 17, 18, 19, 20, 21, 22] [_,_,_,_,_,_,_,_,_,_,_,_,_,_,_,_,_,_,_,_,_,_,_] rfl rfl <| bE hp fun x3689 hy40 hp => tc 3 [_,_,_,_,_,_,_,_,_,_,_,_,_,_,_,_,_,_,_,_] rfl c46 (fun _ => ssa_builder_versions_ok (a2 := (⟨(⟨x26.1.params, x26.1.result, x26.1.regs, x26.1.blocks⟩ : PFunc), x48.1, x1261, x2061, x3663.1, x3663.2, x3674.1, x3674.2.1, x3674.2.2.1, x3674.2.2.2, ([] : List (List Int)), ([] : List (List Int))⟩ : PBuilder)) (h29.ro.mono (subB 14 rfl)) (h32.ro.mono (subB 15 rfl)) (h51.ro.mono (subB 8 rfl)) (h1264.ro.mono (subB 7 rfl)) (h2064.ro.mono (subB 6 rfl)) (h3666.ro.mono (subB 4 rfl)) (h3669.ro.mono (subB 5 rfl)) (h3677.ro.mono (subB 0 rfl)) (h3680.ro.mono (subB 1 rfl)) (h3683.ro.mono (subB 2 rfl)) (h3686.ro.mono (subB 3 rfl)) (SlO.nil 25) (SlO.nil 25) hy40) rfl ?_
        rintro _ _ ⟨v3690, F3691, v3693, F3694, rfl, rfl, h3692, h3695⟩
        refine nz <| TC.seq fun K42 k43 => ch mix [bx b2861 85 [.int .i64 x26.1.params, .int .i64 x26.1.result, v27, v30, v49, v1262, v2062, v3664, v3667, v3675, v3678, v3681, v3684, v3690, v3693], F3691, F3694, F3676, F3679, F3682, F3685, F3665, F3668, F2063, F1263, F50, F53, F56, F46, bx b41 35 [v38], bx b36 40 [.int .i64 x26.1.params, .int .i64 x26.1.result, v27, v30], F28, F31, F34, F9, bx b6 40 [.int .i64 0, .int .i64 0, .slice none 0 0, .slice none 0 0], bx b5 35 [v2]] (srcG 0 rfl (srcG 1 rfl (srcG 2 rfl (srcG 3 rfl (srcG 4 rfl (srcG 5 rfl (srcG 6 rfl (srcG 7 rfl (srcG 8 rfl (srcG 9 rfl (srcG 10 rfl (srcG 11 rfl (srcG 12 rfl (srcG 13 rfl (srcG 14 rfl (srcG 15 rfl (srcG 16 rfl (srcG 17 rfl (srcG 18 rfl (srcG 19 rfl (srcG 20 rfl (srcG 21 rfl (srcG 22 rfl srcG0))))))))))))))))))))))) <| hv 0 rfl (fa f40_0 rfl) (by kernel_rfl) rfl <| hv 1 rfl (lbG s3 16 rfl rfl rfl) (by kernel_rfl) rfl <| hv 2 rfl (fa f40_1 rfl) (by kernel_rfl) rfl <| hv 3 rfl (lbG s3 16 rfl rfl rfl) (by kernel_rfl) rfl <| hv 4 rfl mv (by kernel_rfl) rfl <| hv 5 rfl (rv_nilCheck rfl) (by kernel_rfl) rfl <| hv 6 rfl (fa f85_6 rfl) (by kernel_rfl) rfl <| hv 7 rfl (lbG s25 0 rfl rfl rfl) (by kernel_rfl) rfl <| hv 8 rfl (rv_bv (vs := [(0, .int .i64 x26.1.params), (1, .int .i64 x26.1.result), (2, v3675)]) (ds := [.int .i64 x26.1.params, .int .i64 x26.1.result, v3675, .slice none 0 0]) rfl (fun w => by obtain ⟨_, _, rfl⟩ := (h3677).len; kernel_rfl)) (by kernel_rfl) rfl <| ho 9 rfl (by kernel_rfl) fun K44 k45 => tl i40 rfl fun b7297 => hk k45 (srcG 1 rfl (srcG 2 rfl (srcG 3 rfl (srcG 4 rfl (srcG 5 rfl (srcG 6 rfl (srcG 7 rfl (srcG 8 rfl (srcG 9 rfl (srcG 10 rfl (srcG 11 rfl (srcG 12 rfl (srcG 13 rfl (srcG 14 rfl (srcG 15 rfl (srcG 16 rfl (srcG 17 rfl (srcG 18 rfl (srcG 19 rfl (srcG 20 rfl (srcG 21 rfl (srcG 22 rfl (srcG 23 rfl srcG0))))))))))))))))))))))) <| ho 10 rfl (by kernel_rfl) fun K46 k47 => tS 0 m40 rfl rfl [.int .i64 x26.1.params, .int .i64 x26.1.result, v3675, .slice none 0 0] rfl (oc rfl (oc rfl (oc (h3677).one (oc rfl oc0)))) rfl rfl <| hk k47 (srcG 1 rfl (srcG 2 rfl (srcG 3 rfl (srcG 4 rfl (srcG 5 rfl (srcG 6 rfl (srcG 7 rfl (srcG 8 rfl (srcG 9 rfl (srcG 10 rfl (srcG 11 rfl (srcG 12 rfl (srcG 13 rfl (srcG 14 rfl (srcG 15 rfl (srcG 16 rfl (srcG 17 rfl (srcG 18 rfl (srcG 19 rfl (srcG 20 rfl (srcG 21 rfl (srcG 22 rfl (srcG 23 rfl srcG0))))))))))))))))))))))) <| hz (by kernel_rfl) <| tg k43 <| sr <| ta rfl <| nz <| TC.seq fun K48 k49 => sr <| tv (lA (ds := [.int .i64 x26.1.params, .int .i64 x26.1.result, v27, v30]) ag_40 17 rfl rfl rfl rfl) rfl <| bE hp fun x8097 hy50 hp => tc 0 [_,_,_,_,_,_,_,_,_,_,_,_,_,_,_,_,_,_,_,_,_,_,_,_] rfl c47 (fun _ => check_Ahead_ok (a1 := x26.1) (h29.ro.mono (subB 18 rfl)) (h32.ro.mono (subB 19 rfl)) hy50) rfl ?_
        rintro _ _ ⟨v8098, F8099, rfl, rfl, h8100⟩
        refine tv (ln u60 h8100.ro rfl) rfl <| tm rfl <| nz <| TC.block <| bE hp fun z_53 hz54 hr55 => ?_
        have J67 {x8107 x8111 v8108 F8109 e58} (h8110 : SlO 50 kBlock x8107 v8108 F8109) (hq68 : (x8107, x8111) = z_53) : ∀ w, St E H [bx b6 40 [.int .i64 0, .int .i64 0, .slice none 0 0, .slice none 0 0], bx b7297 40 [.int .i64 x26.1.params, .int .i64 x26.1.result, v3675, v8108], F3676, F8109] w → K48 (ovr e58 [(4, .pointer (some ⟨b6, 0, none⟩)), (14, .pointer (some ⟨b7297, 0, none⟩)), (15, .int .i64 x8111)]) w := by
         subst hq68
         replace hp : ssa_Build.nx57 x26 x3674 x8107 x8111 = some r := hr55
         refine tg k49 <| TC.seq fun K59 k60 => sr <| tm rfl <| tv (bgt rfl rfl) rfl <| tm rfl <| TL.cut 5 fun K61 k62 => ?_
         have J63 {e65} : ∀ w, St E H [bx b6 40 [.int .i64 0, .int .i64 0, .slice none 0 0, .slice none 0 0], bx b7297 40 [.int .i64 x26.1.params, .int .i64 x26.1.result, v3675, v8108], F3676, F8109] w → K61 (ovr e65 [(124, .bool (decide (x8111 > 256 ∨ (len x3674.1) > 256))), (4, .pointer (some ⟨b6, 0, none⟩)), (14, .pointer (some ⟨b7297, 0, none⟩))]) w := by
          refine tlg k62 <| nz <| cD rfl hp (fun hc66 hp => ?_) fun hc66 hp => ?_
          · refine sr <| tv (rv_bv (vs := []) (ds := [.int .i64 0, .int .i64 0, .slice none 0 0, .slice none 0 0]) rfl (fun w => by kernel_rfl)) rfl <| tv (mI u70 rfl) rfl <| tS 0 m40 rfl rfl [.int .i64 0, .int .i64 0, .slice none 0 0, .slice none 0 0] rfl (oc rfl (oc rfl (oc rfl (oc rfl oc0)))) rfl rfl <| ta rfl <| nz <| TC.ret <| W.new0 <| W.new0 <| W.new0 ?_
            obtain rfl := Option.some.inj hp
            exact fun w hw => retC2 hw rfl rfl rfl ag_40 3 rfl rfl ⟨(.slice none 0 0), ([] : FP), (.slice none 0 0), ([] : FP), (.iface 70 (.int .i64 5)), ([] : FP), rfl, rfl, (SlO.nil 3), (SlO.nil 50), (ErO.mk _ : ErO 70 96 98 (GErr.code 5) (.iface 70 (.int .i64 5)) [])⟩ (hw.pickA [2, 1, 0] rfl)
          · refine sk k60 rfl <| sr <| tv (lA (ds := [.int .i64 x26.1.params, .int .i64 x26.1.result, v3675, v8108]) ag_40 1 rfl rfl rfl rfl) rfl <| tS 0 m40 rfl rfl [.int .i64 x26.1.params, .int .i64 x26.1.result, v3675, v8108] rfl (oc rfl (oc rfl (oc (h3677).one (oc (h8110).one oc0)))) rfl rfl <| ta rfl <| nz <| TC.ret <| W.new0 ?_
            obtain rfl := Option.some.inj hp
            exact fun w hw => retC2 hw rfl rfl rfl ag_40 1 rfl rfl ⟨v3675, F3676, v8108, F8109, .nilIface, ([] : FP), rfl, rfl, h3677, h8110, (ErO.nil : ErO 70 96 98 GErr.no .nilIface [])⟩ (hw.pickA [3, 4, 0] rfl)
         by_cases hc64 : x8111 > 256
         · exact gn rfl (bT hc64) rfl rfl <| gn rfl (bT hc64) rfl rfl <| gn rfl (bT hc64) rfl rfl <| gn rfl (bT hc64) rfl rfl <| tv (pT (bT hc64)) rfl <| nj J63 (bOt hc64)
         · exact gy rfl (bF hc64) <| tv (fa f40_2 rfl) rfl <| gy rfl (bF hc64) <| tv (lb s25 1 rfl rfl rfl) rfl <| gy rfl (bF hc64) <| tv (ln u25 h3677.ro rfl) rfl <| gy rfl (bF hc64) <| tv (bgt rfl rfl) rfl <| tv (pF (bF hc64)) rfl <| nj J63 (bOf hc64)
        refine W.new0 <| lp hz54 [24, 3, 20, 21, 14, 13, 12, 10, 11, 6, 7, 8, 9, 4, 5, 2, 0, 1] rfl (fun s e L => ∃ x8101 x8105 x8106 v8102 F8103 e52, s = (x8101, x8105, x8106) ∧ SlO 50 kBlock x8101 v8102 F8103 ∧ e = ovr e52 [(4, .pointer (some ⟨b6, 0, none⟩)), (13, .pointer (some ⟨b2861, 0, none⟩)), (14, .pointer (some ⟨b7297, 0, none⟩)), (15, .int .i64 x8105), (89, v8098), (90, .int .i64 (len x8097)), (91, .int .i64 x8106)] ∧ L = [bx b6 40 [.int .i64 0, .int .i64 0, .slice none 0 0, .slice none 0 0], bx b2861 85 [.int .i64 x26.1.params, .int .i64 x26.1.result, v27, v30, v49, v1262, v2062, v3664, v3667, v3675, v3678, v3681, v3684, v3690, v3693], F28, F31, F50, F1263, F2063, F3665, F3668, F3676, F3679, F3682, F3685, F3691, F3694, bx b7297 40 [.int .i64 x26.1.params, .int .i64 x26.1.result, v3675, v8102], F8103, F8099]) ⟨_, _, _, (.slice none 0 0), ([] : FP), _, rfl, (SlO.nil 50), ovr_eq _ _ rfl, rfl⟩ ?_
        rintro _ _ _ ⟨x8101, x8105, x8106, v8102, F8103, e52, rfl, h8104, rfl, rfl⟩ X56 hp hx57
        replace hp : ssa_Build.bd57 x26 x48 x1261 x2061 x3663 x3674 x3689 x8097 x8101 x8105 x8106 = some X56 := hp
        refine sr <| tv (blt rfl rfl) rfl <| nz <| TC.seq fun K69 k70 => cD rfl hp (fun hc71 hp => ?_) fun hc71 hp => ?_
        · refine sk k70 rfl <| TC.seq fun K72 k73 => TC.block <| sr <| tm rfl <| ti u60 i25 (h8100).ro hp rfl rfl rfl rfl ?_
          rintro x8116 b8117 o8118 _ hp ⟨v8122, rfl, h8123⟩ h8121
          refine tv (lr s25 (Src.at_ 17 rfl) h8121 0 rfl rfl) rfl <| ta rfl <| ta rfl <| nz <| sr <| tm rfl <| tm rfl <| tm rfl <| bE hp fun x8124 hy75 hp => tc 0 [_,_,_,_,_,_,_,_,_,_,_,_,_,_,_,_,_,_] rfl c48 (fun _ => ssa_builder_block_ok (a2 := (⟨(⟨x26.1.params, x26.1.result, x26.1.regs, x26.1.blocks⟩ : PFunc), x48.1, x1261, x2061, x3663.1, x3663.2, x3674.1, x3674.2.1, x3674.2.2.1, x3674.2.2.2, x3689.1, x3689.2⟩ : PBuilder)) (a31 := x8106) (a32 := x8116) ((bx_cells b2861 85 _).mono (subB 1 rfl)) (h29.ro.mono (subB 2 rfl)) (h32.ro.mono (subB 3 rfl)) (h51.ro.mono (subB 4 rfl)) (h1264.ro.mono (subB 5 rfl)) (h2064.ro.mono (subB 6 rfl)) (h3666.ro.mono (subB 7 rfl)) (h3669.ro.mono (subB 8 rfl)) (h3677.ro.mono (subB 9 rfl)) (h3680.ro.mono (subB 10 rfl)) (h3683.ro.mono (subB 11 rfl)) (h3686.ro.mono (subB 12 rfl)) (h3692.ro.mono (subB 13 rfl)) (h3695.ro.mono (subB 14 rfl)) (h8123.mono (subB 17 rfl)) hy75) rfl ?_
          rintro _ _ ⟨v8125, F8126, v8128, F8129, v8131, F8132, rfl, rfl, h8127, h8130, h8133⟩
          exact tl i50 rfl fun b8134 => tS 0 m50 rfl rfl [v8125, v8128, .int .i64 x8124.term.kind, .int .i64 x8124.term.arg, v8131] rfl (oc (h8127).one (oc (h8130).one (oc rfl (oc rfl (oc (h8133).one oc0))))) rfl rfl <| nz <| sr <| tm rfl <| tv (fa f50_0 rfl) rfl <| tv (lb s47 0 rfl rfl rfl) rfl <| tv (ln u47 h8127.ro rfl) rfl <| tv (fa f50_1 rfl) rfl <| tv (lb s48 0 rfl rfl rfl) rfl <| tv (ln u48 h8130.ro rfl) rfl <| tv (bad rfl rfl) rfl <| tv (bad rfl rfl) rfl <| tv (bad rfl rfl) rfl <| ta rfl <| nz <| TC.region <| tv (fa f40_3 rfl) rfl <| tv (lb s38 19 rfl rfl rfl) rfl <| tv (lA (ds := [v8125, v8128, .int .i64 x8124.term.kind, .int .i64 x8124.term.arg, v8131]) ag_50 0 rfl rfl rfl rfl) rfl <| tbs [(0, .agg #[v8125, v8128, .int .i64 x8124.term.kind, .int .i64 x8124.term.arg, v8131])] [v8125, v8128, .int .i64 x8124.term.kind, .int .i64 x8124.term.arg, v8131] u38 i50 (by kernel_rfl) rfl rfl rfl rfl fun b8135 => tp [21, 0, 2, 3, 4, 1, 5, 6, 7, 8, 9, 10, 11, 12, 13, 14, 15, 16, 17, 18, 19, 20, 22] [_,_,_,_,_,_,_,_,_,_,_,_,_,_,_,_,_,_,_,_,_,_,_] rfl rfl <| tf 2 3 [_,_,_,_,_,_,_,_,_,_,_,_,_,_,_,_,_,_,_,_,_] rfl <| tp2 u38 i50 h8104 hp (RepL.to (G' := F8126 ++ (F8129 ++ (F8132))) (RepL.cons (k := kBlock) (x := x8124) ⟨_, _, _, _, _, _, rfl, rfl, h8127, h8130, h8133⟩ RepL.nil) (by simp)) rfl rfl rfl rfl rfl rfl rfl rfl rfl fun x8136 v8137 F8138 h8139 hp => tv (fa f40_3 rfl) rfl <| ts 17 m38 rfl rfl h8139.o1 rfl <| nl <| tg k73 <| TC.region <| tv (bad rfl rfl) rfl <| tm rfl <| nl <| gk hp [2, 3, 4, 5, 6, 7, 8, 9, 10, 11, 12, 13, 14, 15, 16, 17, 0, 18] ⟨_, _, _, v8137, F8138, _, rfl, h8139, ovr_eq _ _ rfl, rfl⟩
        · exact TC.exit <| jn [0, 15, 9, 16] (J67 h8104 (ex_ret hp hx57))
   by_cases hc11 : a4 < 0
   · exact gn rfl (bT hc11) rfl rfl <| gn rfl (bT hc11) rfl rfl <| gn rfl (bT hc11) rfl rfl <| gn rfl (bT hc11) rfl rfl <| gn rfl (bT hc11) rfl rfl <| tv (pT (bT hc11)) rfl <| nj J10 (bOt hc11)
   · exact gy rfl (bF hc11) <| tm rfl <| gy rfl (bF hc11) <| tv (fa f35_0 rfl) rfl <| gy rfl (bF hc11) <| tv (lb s33 2 rfl rfl rfl) rfl <| gy rfl (bF hc11) <| tv (ln u33 h3 rfl) rfl <| gy rfl (bF hc11) <| tv (bge rfl rfl) rfl <| tv (pF (bF hc11)) rfl <| nj J10 (bOf hc11)

/-! ### fettle/fettleref02.ints -/
abbrev fettleref02_ints.R (r : Bool) (v : Value) (A : List FP) : Prop := .bool r = v ∧ A = []
def fettleref02_ints.nx11  : Option Bool :=
  some true
def fettleref02_ints.bd11 (a1 : List Int) (a4 : List Int) (x7 : Int) : Option (Ex (Ex Bool Unit) Int) :=
  if x7 < (len a1) then
    (idx a1 x7).bind fun x8 =>
    (idx a4 x7).bind fun x14 =>
    if ¬ x8 = x14 then
      some (.ret (.ret false))
    else
      some (.go (w64 (x7 + 1)))
  else
    some (.ret (.go ()))
def fettleref02_ints (a1 : List Int) (a4 : List Int) : Option Bool :=
  if ¬ (len a1) = (len a4) then
    some false
  else
    (whl (fun (s : Int) => fettleref02_ints.bd11 a1 a4 s) FUEL 0).bind fun z =>
    match z with
      | .ret r => some r
      | .go p => fettleref02_ints.nx11
theorem fettleref02_ints_ok {E : World} {H : FP} {w : World} {a1 : List Int} {a4 : List Int} {v2 : Value} {v5 : Value} {r : Bool} (h3 : SlI (kInt .i64) H a1 v2) (h6 : SlI (kInt .i64) H a4 v5) (hp : fettleref02_ints a1 a4 = some r) (hst : St E H [] w) :
    Fn Try.prog 49 #[v2, v5] w fun v w' => ∃ A, fettleref02_ints.R r v A ∧ St E H A w' := by
 refine fb 26 [.tmp 4] Try.func49 rfl rfl rfl rfl rfl hst <| sr <| ta rfl <| nz <| TC.seq fun K1 k2 => sr <| tm rfl <| tv (ln u25 h3 rfl) rfl <| tm rfl <| tv (ln u25 h6 rfl) rfl <| tv (bne rfl rfl) rfl <| nz <| cD rfl hp (fun hc3 hp => ?_) fun hc3 hp => ?_
 · exact sr <| ta rfl <| nz <| TC.ret <| rt hp [] ⟨rfl, rfl⟩
 · refine sk k2 rfl <| TC.seq fun K4 k5 => sr <| ta rfl <| nz <| TC.block <| bE hp fun z_7 hz8 hr9 => ?_
   have J13 {e12} (hq14 : .go () = z_7) : ∀ w, St E H [] w → K4 (ovr e12 []) w := by
    subst hq14
    replace hp : fettleref02_ints.nx11 = some r := hr9
    exact tg k5 <| sr <| ta rfl <| nz <| TC.ret <| rt hp [] ⟨rfl, rfl⟩
   refine lp hz8 [] rfl (fun s e L => ∃ e6, e = ovr e6 [(0, v2), (1, v5), (5, .int .i64 s)] ∧ L = []) ⟨_, ovr_eq _ _ rfl, rfl⟩ ?_
   rintro x7 _ _ ⟨e6, rfl, rfl⟩ X10 hp hx11
   replace hp : fettleref02_ints.bd11 a1 a4 x7 = some X10 := hp
   refine TC.seq fun K15 k16 => sr <| tm rfl <| tm rfl <| tv (ln u25 h3 rfl) rfl <| tv (blt rfl rfl) rfl <| nz <| cD rfl hp (fun hc17 hp => ?_) fun hc17 hp => ?_
   · refine sk k16 rfl <| TC.seq fun K18 k19 => TC.block <| TC.seq fun K20 k21 => cq mix (by kernel_rfl) <| qv mv rfl <| qv mv rfl <| qi u25 i3 h3 hp rfl rfl rfl rfl ?_
     rintro x8 b9 o10 _ hp rfl h13
     refine qv (lr s3 sH h13 0 rfl rfl) rfl <| qv mv rfl <| qv mv rfl <| qi u25 i3 h6 hp rfl rfl rfl rfl ?_
     rintro x14 b15 o16 _ hp rfl h19
     refine qv (lr s3 sH h19 0 rfl rfl) rfl <| qv (bne rfl rfl) rfl <| QL.nil <| tg k21 <| cD rfl hp (fun hc24 hp => ?_) fun hc24 hp => ?_
     · refine sr <| ta rfl <| nz <| TC.ret ?_
       obtain rfl := ex_ret hp hx11
       exact rt hr9 [] ⟨rfl, rfl⟩
     · exact sk k19 rfl <| TC.region <| tm rfl <| tv (bad rfl rfl) rfl <| ta rfl <| nl <| gk hp [] ⟨_, ovr_eq _ _ rfl, rfl⟩
   · exact TC.exit <| jn [] (J13 (ex_ret hp hx11))

/-! ### fettle/fettleref02.sameBlock -/
abbrev fettleref02_sameBlock.R (r : Bool) (v : Value) (A : List FP) : Prop := .bool r = v ∧ A = []
def fettleref02_sameBlock.nx40  : Option Bool :=
  some true
def fettleref02_sameBlock.bd40 (a1 : PBlock) (a8 : PBlock) (x19 : Int) : Option (Ex (Ex Bool Unit) Int) :=
  if x19 < (len a1.ins) then
    (idx a1.ins x19).bind fun x20 =>
    (idx a8.ins x19).bind fun x29 =>
    (if (¬ x20.op = x29.op) ∨ (¬ x20.dst = x29.dst) then some true else (fettleref02_ints x20.args x29.args).bind fun x39 =>
    some (!x39)).bind fun t38 =>
    if (t38 = true ∨ (¬ x20.imm = x29.imm)) ∨ (¬ x20.fn = x29.fn) then
      some (.ret (.ret false))
    else
      some (.go (w64 (x19 + 1)))
  else
    some (.ret (.go ()))
def fettleref02_sameBlock.nx31 (a1 : PBlock) (a8 : PBlock) : Option Bool :=
  (whl (fun (s : Int) => fettleref02_sameBlock.bd40 a1 a8 s) FUEL 0).bind fun z =>
  match z with
    | .ret r => some r
    | .go p => fettleref02_sameBlock.nx40
def fettleref02_sameBlock.bd31 (a1 : PBlock) (a8 : PBlock) (x18 : Int) : Option (Ex (Ex Bool Unit) Int) :=
  if x18 < (len a1.phis) then
    (idx a1.phis x18).bind fun x40 =>
    (idx a8.phis x18).bind fun x48 =>
    (if ¬ x40.dst = x48.dst then some true else (idx a1.phis x18).bind fun x57 =>
    (idx a8.phis x18).bind fun x65 =>
    (fettleref02_ints x57.args x65.args).bind fun x73 =>
    some (!x73)).bind fun t56 =>
    if t56 = true then
      some (.ret (.ret false))
    else
      some (.go (w64 (x18 + 1)))
  else
    some (.ret (.go ()))
def fettleref02_sameBlock (a1 : PBlock) (a8 : PBlock) : Option Bool :=
  (if (((¬ (len a1.phis) = (len a8.phis)) ∨ (¬ (len a1.ins) = (len a8.ins))) ∨ (¬ a1.term.kind = a8.term.kind)) ∨ (¬ a1.term.arg = a8.term.arg) then some true else (fettleref02_ints a1.term.to a8.term.to).bind fun x74 =>
  some (!x74)).bind fun t17 =>
  if t17 = true then
    some false
  else
    (whl (fun (s : Int) => fettleref02_sameBlock.bd31 a1 a8 s) FUEL 0).bind fun z =>
    match z with
      | .ret r => some r
      | .go p => fettleref02_sameBlock.nx31 a1 a8
set_option maxHeartbeats 4000000 in
theorem fettleref02_sameBlock_ok {E : World} {H : FP} {w : World} {a1 : PBlock} {a8 : PBlock} {v2 : Value} {v4 : Value} {v6 : Value} {v9 : Value} {v11 : Value} {v13 : Value} {r : Bool} (h3 : SlI kPhi H a1.phis v2) (h5 : SlI kInstr H a1.ins v4) (h7 : SlI (kInt .i64) H a1.term.to v6) (h10 : SlI kPhi H a8.phis v9) (h12 : SlI kInstr H a8.ins v11) (h14 : SlI (kInt .i64) H a8.term.to v13) (hp : fettleref02_sameBlock a1 a8 = some r) (hst : St E H [] w) :
    Fn Try.prog 50 #[.agg #[v2, v4, .int .i64 a1.term.kind, .int .i64 a1.term.arg, v6], .agg #[v9, v11, .int .i64 a8.term.kind, .int .i64 a8.term.arg, v13]] w fun v w' => ∃ A, fettleref02_sameBlock.R r v A ∧ St E H A w' := by
 refine fb 140 [.tmp 4] Try.func50 rfl rfl rfl rfl rfl hst <| sr <| tb [v2, v4, .int .i64 a1.term.kind, .int .i64 a1.term.arg, v6] rfl rfl fun b15 => tb [v9, v11, .int .i64 a8.term.kind, .int .i64 a8.term.arg, v13] rfl rfl fun b16 => ta rfl <| nz <| TC.seq fun K1 k2 => sr <| tv (fa f50_0 rfl) rfl <| tv (lb s47 1 rfl rfl rfl) rfl <| tv (ln u47 h3 rfl) rfl <| tv (fa f50_0 rfl) rfl <| tv (lb s47 0 rfl rfl rfl) rfl <| tv (ln u47 h10 rfl) rfl <| tv (bne rfl rfl) rfl <| tm rfl <| TL.cut 8 fun K3 k4 => ?_
 have J5 {e7} : ∀ w, St E H [bx b16 50 [v9, v11, .int .i64 a8.term.kind, .int .i64 a8.term.arg, v13], bx b15 50 [v2, v4, .int .i64 a1.term.kind, .int .i64 a1.term.arg, v6]] w → K3 (ovr e7 [(24, .bool (decide ((¬ (len a1.phis) = (len a8.phis)) ∨ (¬ (len a1.ins) = (len a8.ins))))), (2, .pointer (some ⟨b15, 0, none⟩)), (3, .pointer (some ⟨b16, 0, none⟩))]) w := by
  refine tlg k4 <| tm rfl <| TL.cut 8 fun K8 k9 => ?_
  have J10 {e12} : ∀ w, St E H [bx b16 50 [v9, v11, .int .i64 a8.term.kind, .int .i64 a8.term.arg, v13], bx b15 50 [v2, v4, .int .i64 a1.term.kind, .int .i64 a1.term.arg, v6]] w → K8 (ovr e12 [(33, .bool (decide (((¬ (len a1.phis) = (len a8.phis)) ∨ (¬ (len a1.ins) = (len a8.ins))) ∨ (¬ a1.term.kind = a8.term.kind)))), (2, .pointer (some ⟨b15, 0, none⟩)), (3, .pointer (some ⟨b16, 0, none⟩))]) w := by
   refine tlg k9 <| tm rfl <| TL.cut 8 fun K13 k14 => ?_
   have J15 {e17} : ∀ w, St E H [bx b16 50 [v9, v11, .int .i64 a8.term.kind, .int .i64 a8.term.arg, v13], bx b15 50 [v2, v4, .int .i64 a1.term.kind, .int .i64 a1.term.arg, v6]] w → K13 (ovr e17 [(42, .bool (decide ((((¬ (len a1.phis) = (len a8.phis)) ∨ (¬ (len a1.ins) = (len a8.ins))) ∨ (¬ a1.term.kind = a8.term.kind)) ∨ (¬ a1.term.arg = a8.term.arg)))), (2, .pointer (some ⟨b15, 0, none⟩)), (3, .pointer (some ⟨b16, 0, none⟩))]) w := by
    refine tlg k14 <| tm rfl <| bE hp fun t17 ht100 hp => TL.cut 9 fun K18 k19 => ?_
    have J20 {e22} : ∀ w, St E H [bx b16 50 [v9, v11, .int .i64 a8.term.kind, .int .i64 a8.term.arg, v13], bx b15 50 [v2, v4, .int .i64 a1.term.kind, .int .i64 a1.term.arg, v6]] w → K18 (ovr e22 [(52, .bool t17), (2, .pointer (some ⟨b15, 0, none⟩)), (3, .pointer (some ⟨b16, 0, none⟩))]) w := by
     refine tlg k19 <| nz <| cB rfl hp (fun hc23 hp => ?_) fun hc23 hp => ?_
     · exact sr <| ta rfl <| nz <| TC.ret <| rt hp [] ⟨rfl, rfl⟩
     · refine sk k2 rfl <| TC.seq fun K24 k25 => sr <| ta rfl <| nz <| TC.block <| bE hp fun z_27 hz28 hr29 => ?_
       have J77 {e32} (hq78 : .go () = z_27) : ∀ w, St E H [bx b15 50 [v2, v4, .int .i64 a1.term.kind, .int .i64 a1.term.arg, v6], bx b16 50 [v9, v11, .int .i64 a8.term.kind, .int .i64 a8.term.arg, v13]] w → K24 (ovr e32 [(2, .pointer (some ⟨b15, 0, none⟩)), (3, .pointer (some ⟨b16, 0, none⟩))]) w := by
        subst hq78
        replace hp : fettleref02_sameBlock.nx31 a1 a8 = some r := hr29
        refine tg k25 <| TC.seq fun K33 k34 => sr <| ta rfl <| nz <| TC.block <| bE hp fun z_36 hz37 hr38 => ?_
        have J42 {e41} (hq43 : .go () = z_36) : ∀ w, St E H [] w → K33 (ovr e41 []) w := by
         subst hq43
         replace hp : fettleref02_sameBlock.nx40 = some r := hr38
         exact tg k34 <| sr <| ta rfl <| nz <| TC.ret <| rt hp [] ⟨rfl, rfl⟩
        refine lp hz37 [0, 1] rfl (fun s e L => ∃ e35, e = ovr e35 [(2, .pointer (some ⟨b15, 0, none⟩)), (3, .pointer (some ⟨b16, 0, none⟩)), (6, .int .i64 s)] ∧ L = [bx b15 50 [v2, v4, .int .i64 a1.term.kind, .int .i64 a1.term.arg, v6], bx b16 50 [v9, v11, .int .i64 a8.term.kind, .int .i64 a8.term.arg, v13]]) ⟨_, ovr_eq _ _ rfl, rfl⟩ ?_
        rintro x19 _ _ ⟨e35, rfl, rfl⟩ X39 hp hx40
        replace hp : fettleref02_sameBlock.bd40 a1 a8 x19 = some X39 := hp
        refine TC.seq fun K44 k45 => sr <| tm rfl <| tv (fa f50_1 rfl) rfl <| tv (lb s48 0 rfl rfl rfl) rfl <| tv (ln u48 h5 rfl) rfl <| tv (blt rfl rfl) rfl <| nz <| cD rfl hp (fun hc46 hp => ?_) fun hc46 hp => ?_
        · refine sk k45 rfl <| TC.seq fun K47 k48 => TC.block <| sr <| tv (fa f50_1 rfl) rfl <| tv (lb s48 0 rfl rfl rfl) rfl <| tm rfl <| ti u48 i52 h5 hp rfl rfl rfl rfl ?_
          rintro x20 b21 o22 _ hp ⟨v26, rfl, h27⟩ h25
          refine tv (lR (ds := [.int .i64 x20.op, .int .i64 x20.dst, v26, .int .i64 x20.imm, .int .i64 x20.fn]) ag_52 sH h25 0 rfl rfl rfl) rfl <| tl i52 rfl fun b28 => tS 0 m52 rfl rfl [.int .i64 x20.op, .int .i64 x20.dst, v26, .int .i64 x20.imm, .int .i64 x20.fn] rfl (oc rfl (oc rfl (oc (h27).one (oc rfl (oc rfl oc0))))) rfl rfl <| nz <| sr <| tv (fa f50_1 rfl) rfl <| tv (lb s48 2 rfl rfl rfl) rfl <| tm rfl <| ti u48 i52 h12 hp rfl rfl rfl rfl ?_
          rintro x29 b30 o31 _ hp ⟨v35, rfl, h36⟩ h34
          refine tv (lR (ds := [.int .i64 x29.op, .int .i64 x29.dst, v35, .int .i64 x29.imm, .int .i64 x29.fn]) ag_52 sH h34 0 rfl rfl rfl) rfl <| tl i52 rfl fun b37 => tS 0 m52 rfl rfl [.int .i64 x29.op, .int .i64 x29.dst, v35, .int .i64 x29.imm, .int .i64 x29.fn] rfl (oc rfl (oc rfl (oc (h36).one (oc rfl (oc rfl oc0))))) rfl rfl <| nz <| sr <| tv (fa f52_0 rfl) rfl <| tv (lb s3 1 rfl rfl rfl) rfl <| tv (fa f52_0 rfl) rfl <| tv (lb s3 0 rfl rfl rfl) rfl <| tv (bne rfl rfl) rfl <| tm rfl <| TL.cut 6 fun K51 k52 => ?_
          have J53 {e55} : ∀ w, St E H [bx b37 52 [.int .i64 x29.op, .int .i64 x29.dst, v35, .int .i64 x29.imm, .int .i64 x29.fn], bx b28 52 [.int .i64 x20.op, .int .i64 x20.dst, v26, .int .i64 x20.imm, .int .i64 x20.fn], bx b15 50 [v2, v4, .int .i64 a1.term.kind, .int .i64 a1.term.arg, v6], bx b16 50 [v9, v11, .int .i64 a8.term.kind, .int .i64 a8.term.arg, v13]] w → K51 (ovr e55 [(117, .bool (decide ((¬ x20.op = x29.op) ∨ (¬ x20.dst = x29.dst)))), (2, .pointer (some ⟨b15, 0, none⟩)), (3, .pointer (some ⟨b16, 0, none⟩)), (6, .int .i64 x19), (7, .pointer (some ⟨b28, 0, none⟩)), (8, .pointer (some ⟨b37, 0, none⟩))]) w := by
           refine tlg k52 <| tm rfl <| bE hp fun t38 ht72 hp => TL.cut 7 fun K56 k57 => ?_
           have J58 {e60} : ∀ w, St E H [bx b37 52 [.int .i64 x29.op, .int .i64 x29.dst, v35, .int .i64 x29.imm, .int .i64 x29.fn], bx b28 52 [.int .i64 x20.op, .int .i64 x20.dst, v26, .int .i64 x20.imm, .int .i64 x20.fn], bx b15 50 [v2, v4, .int .i64 a1.term.kind, .int .i64 a1.term.arg, v6], bx b16 50 [v9, v11, .int .i64 a8.term.kind, .int .i64 a8.term.arg, v13]] w → K56 (ovr e60 [(125, .bool t38), (2, .pointer (some ⟨b15, 0, none⟩)), (3, .pointer (some ⟨b16, 0, none⟩)), (6, .int .i64 x19), (7, .pointer (some ⟨b28, 0, none⟩)), (8, .pointer (some ⟨b37, 0, none⟩))]) w := by
            refine tlg k57 <| tm rfl <| TL.cut 6 fun K61 k62 => ?_
            have J63 {e65} : ∀ w, St E H [bx b37 52 [.int .i64 x29.op, .int .i64 x29.dst, v35, .int .i64 x29.imm, .int .i64 x29.fn], bx b28 52 [.int .i64 x20.op, .int .i64 x20.dst, v26, .int .i64 x20.imm, .int .i64 x20.fn], bx b15 50 [v2, v4, .int .i64 a1.term.kind, .int .i64 a1.term.arg, v6], bx b16 50 [v9, v11, .int .i64 a8.term.kind, .int .i64 a8.term.arg, v13]] w → K61 (ovr e65 [(132, .bool (decide (t38 = true ∨ (¬ x20.imm = x29.imm)))), (2, .pointer (some ⟨b15, 0, none⟩)), (3, .pointer (some ⟨b16, 0, none⟩)), (6, .int .i64 x19), (7, .pointer (some ⟨b28, 0, none⟩)), (8, .pointer (some ⟨b37, 0, none⟩))]) w := by
             refine tlg k62 <| tm rfl <| TL.cut 6 fun K66 k67 => ?_
             have J68 {e70} : ∀ w, St E H [bx b37 52 [.int .i64 x29.op, .int .i64 x29.dst, v35, .int .i64 x29.imm, .int .i64 x29.fn], bx b28 52 [.int .i64 x20.op, .int .i64 x20.dst, v26, .int .i64 x20.imm, .int .i64 x20.fn], bx b15 50 [v2, v4, .int .i64 a1.term.kind, .int .i64 a1.term.arg, v6], bx b16 50 [v9, v11, .int .i64 a8.term.kind, .int .i64 a8.term.arg, v13]] w → K66 (ovr e70 [(139, .bool (decide ((t38 = true ∨ (¬ x20.imm = x29.imm)) ∨ (¬ x20.fn = x29.fn)))), (2, .pointer (some ⟨b15, 0, none⟩)), (3, .pointer (some ⟨b16, 0, none⟩)), (6, .int .i64 x19)]) w := by
              refine tlg k67 <| nz <| cD rfl hp (fun hc71 hp => ?_) fun hc71 hp => ?_
              · refine sr <| ta rfl <| nz <| TC.ret ?_
                obtain rfl := ex_ret hp hx40
                exact rt hr38 [] ⟨rfl, rfl⟩
              · exact sk k48 rfl <| TC.region <| tm rfl <| tv (bad rfl rfl) rfl <| ta rfl <| nl <| gk hp [2, 3] ⟨_, ovr_eq _ _ rfl, rfl⟩
             by_cases hc69 : t38 = true ∨ (¬ x20.imm = x29.imm)
             · exact gn rfl (bT hc69) rfl rfl <| gn rfl (bT hc69) rfl rfl <| gn rfl (bT hc69) rfl rfl <| gn rfl (bT hc69) rfl rfl <| gn rfl (bT hc69) rfl rfl <| tv (pT (bT hc69)) rfl <| nj J68 (bOt hc69)
             · exact gy rfl (bF hc69) <| tv (fa f52_4 rfl) rfl <| gy rfl (bF hc69) <| tv (lb s3 1 rfl rfl rfl) rfl <| gy rfl (bF hc69) <| tv (fa f52_4 rfl) rfl <| gy rfl (bF hc69) <| tv (lb s3 0 rfl rfl rfl) rfl <| gy rfl (bF hc69) <| tv (bne rfl rfl) rfl <| tv (pF (bF hc69)) rfl <| nj J68 (bOf hc69)
            by_cases hc64 : t38 = true
            · exact gn rfl (bbT hc64) rfl rfl <| gn rfl (bbT hc64) rfl rfl <| gn rfl (bbT hc64) rfl rfl <| gn rfl (bbT hc64) rfl rfl <| gn rfl (bbT hc64) rfl rfl <| tv (pT (bbT hc64)) rfl <| nj J63 (bOt hc64)
            · exact gy rfl (bbF hc64) <| tv (fa f52_3 rfl) rfl <| gy rfl (bbF hc64) <| tv (lb s2 1 rfl rfl rfl) rfl <| gy rfl (bbF hc64) <| tv (fa f52_3 rfl) rfl <| gy rfl (bbF hc64) <| tv (lb s2 0 rfl rfl rfl) rfl <| gy rfl (bbF hc64) <| tv (bne rfl rfl) rfl <| tv (pF (bbF hc64)) rfl <| nj J63 (bOf hc64)
           refine ifE ht72 (fun hc59 hp => ?_) fun hc59 hp => ?_
           · refine gn rfl (bT hc59) rfl rfl <| gn rfl (bT hc59) rfl rfl <| gn rfl (bT hc59) rfl rfl <| gn rfl (bT hc59) rfl rfl <| gn rfl (bT hc59) rfl rfl <| gn rfl (bT hc59) rfl rfl <| tv (pT (bT hc59)) rfl ?_
             obtain rfl := Option.some.inj hp
             exact nj J58 rfl
           · refine gy rfl (bF hc59) <| tv (fa f52_2 rfl) rfl <| gy rfl (bF hc59) <| tv (lb s25 1 rfl rfl rfl) rfl <| gy rfl (bF hc59) <| tv (fa f52_2 rfl) rfl <| gy rfl (bF hc59) <| tv (lb s25 0 rfl rfl rfl) rfl <| gy rfl (bF hc59) <| bE hp fun x39 hy73 hp => tc 0 [_,_,_,_] rfl c49 (fun _ => fettleref02_ints_ok (a1 := x20.args) (a4 := x29.args) (h27.mono subH) (h36.mono subH) hy73) rfl ?_
             rintro _ _ ⟨rfl, rfl⟩
             refine gy rfl (bF hc59) <| tv (rv_not rfl) rfl <| tv (pF (bF hc59)) rfl ?_
             obtain rfl := Option.some.inj hp
             exact nj J58 rfl
          by_cases hc54 : ¬ x20.op = x29.op
          · exact gn rfl (bT hc54) rfl rfl <| gn rfl (bT hc54) rfl rfl <| gn rfl (bT hc54) rfl rfl <| gn rfl (bT hc54) rfl rfl <| gn rfl (bT hc54) rfl rfl <| tv (pT (bT hc54)) rfl <| nj J53 (bOt hc54)
          · exact gy rfl (bF hc54) <| tv (fa f52_1 rfl) rfl <| gy rfl (bF hc54) <| tv (lb s3 1 rfl rfl rfl) rfl <| gy rfl (bF hc54) <| tv (fa f52_1 rfl) rfl <| gy rfl (bF hc54) <| tv (lb s3 0 rfl rfl rfl) rfl <| gy rfl (bF hc54) <| tv (bne rfl rfl) rfl <| tv (pF (bF hc54)) rfl <| nj J53 (bOf hc54)
        · exact TC.exit <| jn [] (J42 (ex_ret hp hx40))
       refine lp hz28 [1, 0] rfl (fun s e L => ∃ e26, e = ovr e26 [(2, .pointer (some ⟨b15, 0, none⟩)), (3, .pointer (some ⟨b16, 0, none⟩)), (5, .int .i64 s)] ∧ L = [bx b15 50 [v2, v4, .int .i64 a1.term.kind, .int .i64 a1.term.arg, v6], bx b16 50 [v9, v11, .int .i64 a8.term.kind, .int .i64 a8.term.arg, v13]]) ⟨_, ovr_eq _ _ rfl, rfl⟩ ?_
       rintro x18 _ _ ⟨e26, rfl, rfl⟩ X30 hp hx31
       replace hp : fettleref02_sameBlock.bd31 a1 a8 x18 = some X30 := hp
       refine TC.seq fun K79 k80 => sr <| tm rfl <| tv (fa f50_0 rfl) rfl <| tv (lb s47 0 rfl rfl rfl) rfl <| tv (ln u47 h3 rfl) rfl <| tv (blt rfl rfl) rfl <| nz <| cD rfl hp (fun hc81 hp => ?_) fun hc81 hp => ?_
       · refine sk k80 rfl <| TC.seq fun K82 k83 => TC.block <| TC.seq fun K84 k85 => cq mix (by kernel_rfl) <| qv (fa f50_0 rfl) rfl <| qv (lb s47 0 rfl rfl rfl) rfl <| qv mv rfl <| qi u47 i76 h3 hp rfl rfl rfl rfl ?_
         rintro x40 b41 o42 _ hp ⟨v46, rfl, h47⟩ h45
         refine qv (fa f76_0 rfl) rfl <| qv (lr s3 sH h45 0 rfl rfl) rfl <| qv (fa f50_0 rfl) rfl <| qv (lb s47 1 rfl rfl rfl) rfl <| qv mv rfl <| qi u47 i76 h10 hp rfl rfl rfl rfl ?_
         rintro x48 b49 o50 _ hp ⟨v54, rfl, h55⟩ h53
         refine qv (fa f76_0 rfl) rfl <| qv (lr s3 sH h53 0 rfl rfl) rfl <| qv (bne rfl rfl) rfl <| qv mv rfl <| bE hp fun t56 ht94 hp => QL.cut 15 fun K88 k89 => ?_
         have J90 {e92} : K88 (ovr e92 [(88, .bool t56), (2, .pointer (some ⟨b15, 0, none⟩)), (3, .pointer (some ⟨b16, 0, none⟩)), (5, .int .i64 x18)]) := by
          refine k89 _ <| QL.nil <| tg k85 <| cB rfl hp (fun hc93 hp => ?_) fun hc93 hp => ?_
          · refine sr <| ta rfl <| nz <| TC.ret ?_
            obtain rfl := ex_ret hp hx31
            exact rt hr29 [] ⟨rfl, rfl⟩
          · exact sk k83 rfl <| TC.region <| tm rfl <| tv (bad rfl rfl) rfl <| ta rfl <| nl <| gk hp [0, 1] ⟨_, ovr_eq _ _ rfl, rfl⟩
         refine ifE ht94 (fun hc91 hp => ?_) fun hc91 hp => ?_
         · refine qgn rfl (bT hc91) rfl rfl <| qgn rfl (bT hc91) rfl rfl <| qgn rfl (bT hc91) rfl rfl <| qgn rfl (bT hc91) rfl rfl <| qgn rfl (bT hc91) rfl rfl <| qgn rfl (bT hc91) rfl rfl <| qgn rfl (bT hc91) rfl rfl <| qgn rfl (bT hc91) rfl rfl <| qgn rfl (bT hc91) rfl rfl <| qgn rfl (bT hc91) rfl rfl <| qgn rfl (bT hc91) rfl rfl <| qgn rfl (bT hc91) rfl rfl <| qgn rfl (bT hc91) rfl rfl <| qgn rfl (bT hc91) rfl rfl <| qv (pT (bT hc91)) rfl ?_
           obtain rfl := Option.some.inj hp
           exact qj J90 rfl
         · refine qgy rfl (bF hc91) <| qv (fa f50_0 rfl) rfl <| qgy rfl (bF hc91) <| qv (lb s47 0 rfl rfl rfl) rfl <| qgy rfl (bF hc91) <| qv mv rfl <| qgy rfl (bF hc91) <| qi u47 i76 h3 hp rfl rfl rfl rfl ?_
           rintro x57 b58 o59 _ hp ⟨v63, rfl, h64⟩ h62
           refine qgy rfl (bF hc91) <| qv (fa f76_1 rfl) rfl <| qgy rfl (bF hc91) <| qv (lr s25 sH h62 1 rfl rfl) rfl <| qgy rfl (bF hc91) <| qv (fa f50_0 rfl) rfl <| qgy rfl (bF hc91) <| qv (lb s47 1 rfl rfl rfl) rfl <| qgy rfl (bF hc91) <| qv mv rfl <| qgy rfl (bF hc91) <| qi u47 i76 h10 hp rfl rfl rfl rfl ?_
           rintro x65 b66 o67 _ hp ⟨v71, rfl, h72⟩ h70
           refine qgy rfl (bF hc91) <| qv (fa f76_1 rfl) rfl <| qgy rfl (bF hc91) <| qv (lr s25 sH h70 1 rfl rfl) rfl <| qgy rfl (bF hc91) <| bE hp fun x73 hy97 hp => qc (.bool x73) c49 (fun _ => fettleref02_ints_ok (a1 := x57.args) (a4 := x65.args) (h64.mono subH) (h72.mono subH) hy97) (fun _ _ h => ⟨h.1.symm, h.2⟩) rfl <| qgy rfl (bF hc91) <| qv (rv_not rfl) rfl <| qv (pF (bF hc91)) rfl ?_
           obtain rfl := Option.some.inj hp
           exact qj J90 rfl
       · exact TC.exit <| jn [0, 1] (J77 (ex_ret hp hx31))
    refine ifE ht100 (fun hc21 hp => ?_) fun hc21 hp => ?_
    · refine gn rfl (bT hc21) rfl rfl <| gn rfl (bT hc21) rfl rfl <| gn rfl (bT hc21) rfl rfl <| gn rfl (bT hc21) rfl rfl <| gn rfl (bT hc21) rfl rfl <| gn rfl (bT hc21) rfl rfl <| gn rfl (bT hc21) rfl rfl <| gn rfl (bT hc21) rfl rfl <| tv (pT (bT hc21)) rfl ?_
      obtain rfl := Option.some.inj hp
      exact nj J20 rfl
    · refine gy rfl (bF hc21) <| tv (fa f50_2 rfl) rfl <| gy rfl (bF hc21) <| tv (fa f46_2 rfl) rfl <| gy rfl (bF hc21) <| tv (lb s25 1 rfl rfl rfl) rfl <| gy rfl (bF hc21) <| tv (fa f50_2 rfl) rfl <| gy rfl (bF hc21) <| tv (fa f46_2 rfl) rfl <| gy rfl (bF hc21) <| tv (lb s25 0 rfl rfl rfl) rfl <| gy rfl (bF hc21) <| bE hp fun x74 hy101 hp => tc 0 [_,_] rfl c49 (fun _ => fettleref02_ints_ok (a1 := a1.term.to) (a4 := a8.term.to) (h7.mono subH) (h14.mono subH) hy101) rfl ?_
      rintro _ _ ⟨rfl, rfl⟩
      refine gy rfl (bF hc21) <| tv (rv_not rfl) rfl <| tv (pF (bF hc21)) rfl ?_
      obtain rfl := Option.some.inj hp
      exact nj J20 rfl
   by_cases hc16 : ((¬ (len a1.phis) = (len a8.phis)) ∨ (¬ (len a1.ins) = (len a8.ins))) ∨ (¬ a1.term.kind = a8.term.kind)
   · exact gn rfl (bT hc16) rfl rfl <| gn rfl (bT hc16) rfl rfl <| gn rfl (bT hc16) rfl rfl <| gn rfl (bT hc16) rfl rfl <| gn rfl (bT hc16) rfl rfl <| gn rfl (bT hc16) rfl rfl <| gn rfl (bT hc16) rfl rfl <| tv (pT (bT hc16)) rfl <| nj J15 (bOt hc16)
   · exact gy rfl (bF hc16) <| tv (fa f50_2 rfl) rfl <| gy rfl (bF hc16) <| tv (fa f46_1 rfl) rfl <| gy rfl (bF hc16) <| tv (lb s3 1 rfl rfl rfl) rfl <| gy rfl (bF hc16) <| tv (fa f50_2 rfl) rfl <| gy rfl (bF hc16) <| tv (fa f46_1 rfl) rfl <| gy rfl (bF hc16) <| tv (lb s3 0 rfl rfl rfl) rfl <| gy rfl (bF hc16) <| tv (bne rfl rfl) rfl <| tv (pF (bF hc16)) rfl <| nj J15 (bOf hc16)
  by_cases hc11 : (¬ (len a1.phis) = (len a8.phis)) ∨ (¬ (len a1.ins) = (len a8.ins))
  · exact gn rfl (bT hc11) rfl rfl <| gn rfl (bT hc11) rfl rfl <| gn rfl (bT hc11) rfl rfl <| gn rfl (bT hc11) rfl rfl <| gn rfl (bT hc11) rfl rfl <| gn rfl (bT hc11) rfl rfl <| gn rfl (bT hc11) rfl rfl <| tv (pT (bT hc11)) rfl <| nj J10 (bOt hc11)
  · exact gy rfl (bF hc11) <| tv (fa f50_2 rfl) rfl <| gy rfl (bF hc11) <| tv (fa f46_0 rfl) rfl <| gy rfl (bF hc11) <| tv (lb s3 1 rfl rfl rfl) rfl <| gy rfl (bF hc11) <| tv (fa f50_2 rfl) rfl <| gy rfl (bF hc11) <| tv (fa f46_0 rfl) rfl <| gy rfl (bF hc11) <| tv (lb s3 0 rfl rfl rfl) rfl <| gy rfl (bF hc11) <| tv (bne rfl rfl) rfl <| tv (pF (bF hc11)) rfl <| nj J10 (bOf hc11)
 by_cases hc6 : ¬ (len a1.phis) = (len a8.phis)
 · exact gn rfl (bT hc6) rfl rfl <| gn rfl (bT hc6) rfl rfl <| gn rfl (bT hc6) rfl rfl <| gn rfl (bT hc6) rfl rfl <| gn rfl (bT hc6) rfl rfl <| gn rfl (bT hc6) rfl rfl <| gn rfl (bT hc6) rfl rfl <| tv (pT (bT hc6)) rfl <| nj J5 (bOt hc6)
 · exact gy rfl (bF hc6) <| tv (fa f50_1 rfl) rfl <| gy rfl (bF hc6) <| tv (lb s48 1 rfl rfl rfl) rfl <| gy rfl (bF hc6) <| tv (ln u48 h5 rfl) rfl <| gy rfl (bF hc6) <| tv (fa f50_1 rfl) rfl <| gy rfl (bF hc6) <| tv (lb s48 0 rfl rfl rfl) rfl <| gy rfl (bF hc6) <| tv (ln u48 h12 rfl) rfl <| gy rfl (bF hc6) <| tv (bne rfl rfl) rfl <| tv (pF (bF hc6)) rfl <| nj J5 (bOf hc6)

/-! ### fettle/fettleref02.SameFunc -/
abbrev fettleref02_SameFunc.R (r : Bool) (v : Value) (A : List FP) : Prop := .bool r = v ∧ A = []
def fettleref02_SameFunc.nx26  : Option Bool :=
  some true
def fettleref02_SameFunc.bd26 (a1 : PFunc) (a6 : PFunc) (x14 : Int) : Option (Ex (Ex Bool Unit) Int) :=
  if x14 < (len a1.blocks) then
    (idx a1.blocks x14).bind fun x15 =>
    (idx a6.blocks x14).bind fun x27 =>
    (fettleref02_sameBlock x15 x27).bind fun x39 =>
    if (!x39) = true then
      some (.ret (.ret false))
    else
      some (.go (w64 (x14 + 1)))
  else
    some (.ret (.go ()))
def fettleref02_SameFunc (a1 : PFunc) (a6 : PFunc) : Option Bool :=
  (if (¬ a1.params = a6.params) ∨ (¬ a1.result = a6.result) then some true else (fettleref02_ints a1.regs a6.regs).bind fun x40 =>
  some (!x40)).bind fun t13 =>
  if t13 = true ∨ (¬ (len a1.blocks) = (len a6.blocks)) then
    some false
  else
    (whl (fun (s : Int) => fettleref02_SameFunc.bd26 a1 a6 s) FUEL 0).bind fun z =>
    match z with
      | .ret r => some r
      | .go p => fettleref02_SameFunc.nx26
set_option maxHeartbeats 4000000 in
theorem fettleref02_SameFunc_ok {E : World} {H : FP} {w : World} {a1 : PFunc} {a6 : PFunc} {v2 : Value} {v4 : Value} {v7 : Value} {v9 : Value} {r : Bool} (h3 : SlI (kInt .i64) H a1.regs v2) (h5 : SlI kBlock H a1.blocks v4) (h8 : SlI (kInt .i64) H a6.regs v7) (h10 : SlI kBlock H a6.blocks v9) (hp : fettleref02_SameFunc a1 a6 = some r) (hst : St E H [] w) :
    Fn Try.prog 20 #[.agg #[.int .i64 a1.params, .int .i64 a1.result, v2, v4], .agg #[.int .i64 a6.params, .int .i64 a6.result, v7, v9]] w fun v w' => ∃ A, fettleref02_SameFunc.R r v A ∧ St E H A w' := by
 refine fb 56 [.tmp 4] Try.func20 rfl rfl rfl rfl rfl hst <| sr <| tb [.int .i64 a1.params, .int .i64 a1.result, v2, v4] rfl rfl fun b11 => tb [.int .i64 a6.params, .int .i64 a6.result, v7, v9] rfl rfl fun b12 => ta rfl <| nz <| TC.seq fun K1 k2 => sr <| tv (fa f40_0 rfl) rfl <| tv (lb s3 1 rfl rfl rfl) rfl <| tv (fa f40_0 rfl) rfl <| tv (lb s3 0 rfl rfl rfl) rfl <| tv (bne rfl rfl) rfl <| tm rfl <| TL.cut 6 fun K3 k4 => ?_
 have J5 {e7} : ∀ w, St E H [bx b12 40 [.int .i64 a6.params, .int .i64 a6.result, v7, v9], bx b11 40 [.int .i64 a1.params, .int .i64 a1.result, v2, v4]] w → K3 (ovr e7 [(18, .bool (decide ((¬ a1.params = a6.params) ∨ (¬ a1.result = a6.result)))), (2, .pointer (some ⟨b11, 0, none⟩)), (3, .pointer (some ⟨b12, 0, none⟩))]) w := by
  refine tlg k4 <| tm rfl <| bE hp fun t13 ht43 hp => TL.cut 7 fun K8 k9 => ?_
  have J10 {e12} : ∀ w, St E H [bx b12 40 [.int .i64 a6.params, .int .i64 a6.result, v7, v9], bx b11 40 [.int .i64 a1.params, .int .i64 a1.result, v2, v4]] w → K8 (ovr e12 [(26, .bool t13), (2, .pointer (some ⟨b11, 0, none⟩)), (3, .pointer (some ⟨b12, 0, none⟩))]) w := by
   refine tlg k9 <| tm rfl <| TL.cut 8 fun K13 k14 => ?_
   have J15 {e17} : ∀ w, St E H [bx b12 40 [.int .i64 a6.params, .int .i64 a6.result, v7, v9], bx b11 40 [.int .i64 a1.params, .int .i64 a1.result, v2, v4]] w → K13 (ovr e17 [(35, .bool (decide (t13 = true ∨ (¬ (len a1.blocks) = (len a6.blocks))))), (2, .pointer (some ⟨b11, 0, none⟩)), (3, .pointer (some ⟨b12, 0, none⟩))]) w := by
    refine tlg k14 <| nz <| cD rfl hp (fun hc18 hp => ?_) fun hc18 hp => ?_
    · exact sr <| ta rfl <| nz <| TC.ret <| rt hp [] ⟨rfl, rfl⟩
    · refine sk k2 rfl <| TC.seq fun K19 k20 => sr <| ta rfl <| nz <| TC.block <| bE hp fun z_22 hz23 hr24 => ?_
      have J28 {e27} (hq29 : .go () = z_22) : ∀ w, St E H [] w → K19 (ovr e27 []) w := by
       subst hq29
       replace hp : fettleref02_SameFunc.nx26 = some r := hr24
       exact tg k20 <| sr <| ta rfl <| nz <| TC.ret <| rt hp [] ⟨rfl, rfl⟩
      refine lp hz23 [1, 0] rfl (fun s e L => ∃ e21, e = ovr e21 [(2, .pointer (some ⟨b11, 0, none⟩)), (3, .pointer (some ⟨b12, 0, none⟩)), (5, .int .i64 s)] ∧ L = [bx b11 40 [.int .i64 a1.params, .int .i64 a1.result, v2, v4], bx b12 40 [.int .i64 a6.params, .int .i64 a6.result, v7, v9]]) ⟨_, ovr_eq _ _ rfl, rfl⟩ ?_
      rintro x14 _ _ ⟨e21, rfl, rfl⟩ X25 hp hx26
      replace hp : fettleref02_SameFunc.bd26 a1 a6 x14 = some X25 := hp
      refine TC.seq fun K30 k31 => sr <| tm rfl <| tv (fa f40_3 rfl) rfl <| tv (lb s38 0 rfl rfl rfl) rfl <| tv (ln u38 h5 rfl) rfl <| tv (blt rfl rfl) rfl <| nz <| cD rfl hp (fun hc32 hp => ?_) fun hc32 hp => ?_
      · refine sk k31 rfl <| TC.seq fun K33 k34 => TC.block <| TC.seq fun K35 k36 => cq mix (by kernel_rfl) <| qv (fa f40_3 rfl) rfl <| qv (lb s38 0 rfl rfl rfl) rfl <| qv mv rfl <| qi u38 i50 h5 hp rfl rfl rfl rfl ?_
        rintro x15 b16 o17 _ hp ⟨v21, v23, v25, rfl, h22, h24, h26⟩ h20
        refine qv (lR (ds := [v21, v23, .int .i64 x15.term.kind, .int .i64 x15.term.arg, v25]) ag_50 sH h20 0 rfl rfl rfl) rfl <| qv (fa f40_3 rfl) rfl <| qv (lb s38 1 rfl rfl rfl) rfl <| qv mv rfl <| qi u38 i50 h10 hp rfl rfl rfl rfl ?_
        rintro x27 b28 o29 _ hp ⟨v33, v35, v37, rfl, h34, h36, h38⟩ h32
        refine qv (lR (ds := [v33, v35, .int .i64 x27.term.kind, .int .i64 x27.term.arg, v37]) ag_50 sH h32 0 rfl rfl rfl) rfl <| bE hp fun x39 hy39 hp => qc (.bool x39) c50 (fun _ => fettleref02_sameBlock_ok (a1 := x15) (a8 := x27) (h22.mono subH) (h24.mono subH) (h26.mono subH) (h34.mono subH) (h36.mono subH) (h38.mono subH) hy39) (fun _ _ h => ⟨h.1.symm, h.2⟩) rfl <| qv sg rfl <| QL.nil <| tg k36 <| sr <| tm rfl <| tv (rv_not rfl) rfl <| nz <| cB rfl hp (fun hc40 hp => ?_) fun hc40 hp => ?_
        · refine sr <| ta rfl <| nz <| TC.ret ?_
          obtain rfl := ex_ret hp hx26
          exact rt hr24 [] ⟨rfl, rfl⟩
        · exact sk k34 rfl <| TC.region <| tm rfl <| tv (bad rfl rfl) rfl <| ta rfl <| nl <| gk hp [0, 1] ⟨_, ovr_eq _ _ rfl, rfl⟩
      · exact TC.exit <| jn [] (J28 (ex_ret hp hx26))
   by_cases hc16 : t13 = true
   · exact gn rfl (bbT hc16) rfl rfl <| gn rfl (bbT hc16) rfl rfl <| gn rfl (bbT hc16) rfl rfl <| gn rfl (bbT hc16) rfl rfl <| gn rfl (bbT hc16) rfl rfl <| gn rfl (bbT hc16) rfl rfl <| gn rfl (bbT hc16) rfl rfl <| tv (pT (bbT hc16)) rfl <| nj J15 (bOt hc16)
   · exact gy rfl (bbF hc16) <| tv (fa f40_3 rfl) rfl <| gy rfl (bbF hc16) <| tv (lb s38 1 rfl rfl rfl) rfl <| gy rfl (bbF hc16) <| tv (ln u38 h5 rfl) rfl <| gy rfl (bbF hc16) <| tv (fa f40_3 rfl) rfl <| gy rfl (bbF hc16) <| tv (lb s38 0 rfl rfl rfl) rfl <| gy rfl (bbF hc16) <| tv (ln u38 h10 rfl) rfl <| gy rfl (bbF hc16) <| tv (bne rfl rfl) rfl <| tv (pF (bbF hc16)) rfl <| nj J15 (bOf hc16)
  refine ifE ht43 (fun hc11 hp => ?_) fun hc11 hp => ?_
  · refine gn rfl (bT hc11) rfl rfl <| gn rfl (bT hc11) rfl rfl <| gn rfl (bT hc11) rfl rfl <| gn rfl (bT hc11) rfl rfl <| gn rfl (bT hc11) rfl rfl <| gn rfl (bT hc11) rfl rfl <| tv (pT (bT hc11)) rfl ?_
    obtain rfl := Option.some.inj hp
    exact nj J10 rfl
  · refine gy rfl (bF hc11) <| tv (fa f40_2 rfl) rfl <| gy rfl (bF hc11) <| tv (lb s25 1 rfl rfl rfl) rfl <| gy rfl (bF hc11) <| tv (fa f40_2 rfl) rfl <| gy rfl (bF hc11) <| tv (lb s25 0 rfl rfl rfl) rfl <| gy rfl (bF hc11) <| bE hp fun x40 hy44 hp => tc 0 [_,_] rfl c49 (fun _ => fettleref02_ints_ok (a1 := a1.regs) (a4 := a6.regs) (h3.mono subH) (h8.mono subH) hy44) rfl ?_
    rintro _ _ ⟨rfl, rfl⟩
    refine gy rfl (bF hc11) <| tv (rv_not rfl) rfl <| tv (pF (bF hc11)) rfl ?_
    obtain rfl := Option.some.inj hp
    exact nj J10 rfl
 by_cases hc6 : ¬ a1.params = a6.params
 · exact gn rfl (bT hc6) rfl rfl <| gn rfl (bT hc6) rfl rfl <| gn rfl (bT hc6) rfl rfl <| gn rfl (bT hc6) rfl rfl <| gn rfl (bT hc6) rfl rfl <| tv (pT (bT hc6)) rfl <| nj J5 (bOt hc6)
 · exact gy rfl (bF hc6) <| tv (fa f40_1 rfl) rfl <| gy rfl (bF hc6) <| tv (lb s3 1 rfl rfl rfl) rfl <| gy rfl (bF hc6) <| tv (fa f40_1 rfl) rfl <| gy rfl (bF hc6) <| tv (lb s3 0 rfl rfl rfl) rfl <| gy rfl (bF hc6) <| tv (bne rfl rfl) rfl <| tv (pF (bF hc6)) rfl <| nj J5 (bOf hc6)
end Go.Proofs.Yteaknconpkklhaa
