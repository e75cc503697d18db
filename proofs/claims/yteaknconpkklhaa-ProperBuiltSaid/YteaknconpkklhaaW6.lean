/- The walk through the program's functions: each one's pure reading, and that a call does what it says. No conditions. -/
import Derived.Test.YteaknconpkklhaaW5
set_option linter.unusedVariables false
set_option linter.unusedSimpArgs false
namespace Go.Proofs.Yteaknconpkklhaa
open Go Go.Proofs
/-! ### fettle/proper.Form -/
abbrev proper_Form.R (r : GErr) (v : Value) (A : List FP) : Prop := ∃ (w1 : Value) (G1 : FP), w1 = v ∧ A = [G1] ∧ ErO 70 96 98 r w1 G1
def proper_Form.nx35 (x11 : PFunc) (x27 : List PMaker × List Int) : Option GErr :=
  (dom_Dominates x11).bind fun x1236 =>
  (proper_looker_all (⟨(⟨x11.params, x11.result, x11.regs, x11.blocks⟩ : PFunc), x27.1, x1236, -1⟩ : PProperLooker)).bind fun x2836 =>
  if x2836 ≥ 0 then
    some (GErr.spot x2836 (GErr.code 4))
  else
    some GErr.no
def proper_Form.bd35 (x11 : PFunc) (x27 : List PMaker × List Int) (x34 : Int) : Option (Ex (Ex GErr Unit) Int) :=
  if x34 < (len x27.2) then
    (idx x27.2 x34).bind fun x2841 =>
    if x2841 > 1 ∨ (x2841 > 0 ∧ x34 < x11.params) then
      some (.ret (.ret (GErr.spot x34 (GErr.code 7))))
    else
      some (.go (w64 (x34 + 1)))
  else
    some (.ret (.go ()))
def proper_Form.nx24 (x11 : PFunc) : Option GErr :=
  (proper_made x11).bind fun x27 =>
  (whl (fun (s : Int) => proper_Form.bd35 x11 x27 s) FUEL 0).bind fun z =>
  match z with
    | .ret r => some r
    | .go p => proper_Form.nx35 x11 x27
def proper_Form.bd24 (x22 : List Bool) (x26 : Int) : Option (Ex (Ex GErr Unit) Int) :=
  if x26 < (len x22) then
    (idx x22 x26).bind fun x2850 =>
    if (!x2850) = true then
      some (.ret (.ret (GErr.code 6)))
    else
      some (.go (w64 (x26 + 1)))
  else
    some (.ret (.go ()))
def proper_Form (a1 : PModule) (a4 : Int) : Option GErr :=
  (check_Module a1).bind fun x6 =>
  if ¬ x6 = GErr.no then
    some x6
  else
    if a4 < 0 ∨ a4 ≥ (len a1.funcs) then
      some (GErr.code 1)
    else
      (idx a1.funcs a4).bind fun x11 =>
      (graph_Reached x11).bind fun x22 =>
      (whl (fun (s : Int) => proper_Form.bd24 x22 s) FUEL 0).bind fun z =>
      match z with
        | .ret r => some r
        | .go p => proper_Form.nx24 x11
set_option maxHeartbeats 4000000 in
theorem proper_Form_ok {E : World} {H : FP} {w : World} {a1 : PModule} {a4 : Int} {v2 : Value} {r : GErr} (h3 : SlI kFunc H a1.funcs v2) (hp : proper_Form a1 a4 = some r) (hst : St E H [] w) :
    Fn Try.prog 23 #[.agg #[v2], .int .i64 a4] w fun v w' => ∃ A, proper_Form.R r v A ∧ St E H A w' := by
 refine fb 96 [.tmp 4] Try.func23 rfl rfl rfl rfl rfl hst <| sr <| tb [v2] rfl rfl fun b5 => ta rfl <| nz <| TC.seq fun K1 k2 => sr <| tv (lA (ds := [v2]) ag_35 0 rfl rfl rfl rfl) rfl <| bE hp fun x6 hy3 hp => tc 0 [_] rfl c56 (fun _ => check_Module_ok (a1 := a1) (h3.mono subH) hy3) rfl ?_
 rintro _ _ ⟨v7, F8, rfl, rfl, h9⟩
 refine ta rfl <| nz <| sr <| tm rfl <| tv (rv_neqEN ifc_27 h9 rfl) rfl <| nz <| cD rfl hp (fun hc5 hp => ?_) fun hc5 hp => ?_
 · exact sr <| tm rfl <| ta rfl <| nz <| TC.ret <| rt hp [0] ⟨v7, F8, rfl, rfl, h9⟩
 · refine sk k2 rfl <| TC.seq fun K6 k7 => sr <| tm rfl <| tv (blt rfl rfl) rfl <| tm rfl <| TL.cut 6 fun K8 k9 => ?_
   have J10 {e12} : ∀ w, St E H [F8, bx b5 35 [v2]] w → K8 (ovr e12 [(27, .bool (decide (a4 < 0 ∨ a4 ≥ (len a1.funcs)))), (1, .int .i64 a4), (2, .pointer (some ⟨b5, 0, none⟩))]) w := by
    refine tlg k9 <| nz <| cD rfl hp (fun hc13 hp => ?_) fun hc13 hp => ?_
    · exact sr <| tv (mI u70 rfl) rfl <| ta rfl <| nz <| TC.ret <| W.new0 <| rt hp [0] ⟨(.iface 70 (.int .i64 1)), ([] : FP), rfl, rfl, (ErO.mk _ : ErO 70 96 98 (GErr.code 1) (.iface 70 (.int .i64 1)) [])⟩
    · refine sk k7 rfl <| sr <| tv (fa f35_0 rfl) rfl <| tv (lb s33 1 rfl rfl rfl) rfl <| tm rfl <| ti u33 i40 h3 hp rfl rfl rfl rfl ?_
      rintro x11 b12 o13 _ hp ⟨v17, v19, rfl, h18, h20⟩ h16
      refine tv (lR (ds := [.int .i64 x11.params, .int .i64 x11.result, v17, v19]) ag_40 sH h16 0 rfl rfl rfl) rfl <| tl i40 rfl fun b21 => tS 0 m40 rfl rfl [.int .i64 x11.params, .int .i64 x11.result, v17, v19] rfl (oc rfl (oc rfl (oc (h18).one (oc (h20).one oc0)))) rfl rfl <| nz <| TC.seq fun K15 k16 => sr <| tv (lA (ds := [.int .i64 x11.params, .int .i64 x11.result, v17, v19]) ag_40 0 rfl rfl rfl rfl) rfl <| bE hp fun x22 hy17 hp => tc 0 [_,_,_] rfl c52 (fun _ => graph_Reached_ok (a1 := x11) (h18.mono subH) (h20.mono subH) hy17) rfl ?_
      rintro _ _ ⟨v23, F24, rfl, rfl, h25⟩
      refine tv (ln u88 h25.ro rfl) rfl <| tm rfl <| nz <| TC.block <| bE hp fun z_20 hz21 hr22 => ?_
      have J71 {e25} (hq72 : .go () = z_20) : ∀ w, St E H [bx b21 40 [.int .i64 x11.params, .int .i64 x11.result, v17, v19]] w → K15 (ovr e25 [(6, .pointer (some ⟨b21, 0, none⟩))]) w := by
       subst hq72
       replace hp : proper_Form.nx24 x11 = some r := hr22
       refine tg k16 <| sr <| tv (lA (ds := [.int .i64 x11.params, .int .i64 x11.result, v17, v19]) ag_40 0 rfl rfl rfl rfl) rfl <| bE hp fun x27 hy26 hp => tc 0 [_] rfl c57 (fun _ => proper_made_ok (a1 := x11) (h18.mono subH) (h20.mono subH) hy26) rfl ?_
       rintro _ _ ⟨v28, F29, v31, F32, rfl, rfl, h30, h33⟩
       refine tm rfl <| tv (xt rfl rfl) rfl <| tv (xt rfl rfl) rfl <| ta rfl <| ta rfl <| nz <| TC.seq fun K28 k29 => sr <| tm rfl <| tv (ln u25 h33.ro rfl) rfl <| tm rfl <| nz <| TC.block <| bE hp fun z_31 hz32 hr33 => ?_
       have J50 {e36} (hq51 : .go () = z_31) : ∀ w, St E H [bx b21 40 [.int .i64 x11.params, .int .i64 x11.result, v17, v19], F29] w → K28 (ovr e36 [(6, .pointer (some ⟨b21, 0, none⟩)), (9, v28)]) w := by
        subst hq51
        replace hp : proper_Form.nx35 x11 x27 = some r := hr33
        refine tg k29 <| TC.seq fun K37 k38 => ch mix [bx b21 40 [.int .i64 x11.params, .int .i64 x11.result, v17, v19], F29] (srcG 0 rfl (srcG 1 rfl srcG0)) <| hv 0 rfl (lAG (ds := [.int .i64 x11.params, .int .i64 x11.result, v17, v19]) ag_40 0 rfl rfl rfl rfl) (by kernel_rfl) rfl <| hv 1 rfl mv (by kernel_rfl) rfl <| hv 2 rfl (lAG (ds := [.int .i64 x11.params, .int .i64 x11.result, v17, v19]) ag_40 0 rfl rfl rfl rfl) (by kernel_rfl) rfl <| ho 3 rfl (by kernel_rfl) fun K39 k40 => bE hp fun x1236 hy41 hp => tc 0 [_,_] rfl c58 (fun _ => dom_Dominates_ok (a1 := x11) (h18.mono subH) (h20.mono subH) hy41) rfl ?_
        rintro _ _ ⟨v1237, F1238, rfl, rfl, h1239⟩
        refine hk k40 (srcG 1 rfl (srcG 2 rfl srcG0)) <| hv 4 rfl (rv_bv (vs := [(0, .agg #[.int .i64 x11.params, .int .i64 x11.result, v17, v19]), (1, v28), (2, v1237), (3, .int .i64 (-1))]) (ds := [.int .i64 x11.params, .int .i64 x11.result, v17, v19, v28, v1237, .int .i64 (-1)]) rfl (fun w => by obtain ⟨_, _, rfl⟩ := (h30).len; obtain ⟨_, _, rfl⟩ := (h1239).len; kernel_rfl)) (by kernel_rfl) rfl <| ho 5 rfl (by kernel_rfl) fun K43 k44 => tb [.int .i64 x11.params, .int .i64 x11.result, v17, v19, v28, v1237, .int .i64 (-1)] rfl rfl fun b2036 => hk k44 (srcG 2 rfl (srcG 3 rfl srcG0)) <| hv 6 rfl sg (by kernel_rfl) rfl <| hz (by kernel_rfl) <| tg k38 <| sr <| tm rfl <| bE hp fun x2836 hy45 hp => tc 1 [_,_,_] rfl c59 (fun _ => proper_looker_all_ok (a2 := (⟨(⟨x11.params, x11.result, x11.regs, x11.blocks⟩ : PFunc), x27.1, x1236, -1⟩ : PProperLooker)) (h18.mono subH) (h20.mono subH) (h30.ro.mono (subB 2 rfl)) (h1239.ro.mono (subB 0 rfl)) hy45) rfl ?_
        rintro _ _ ⟨rfl, rfl⟩
        refine nz <| TC.seq fun K47 k48 => sr <| tm rfl <| tv (rv_nilCheck rfl) rfl <| tv (fa f102_3 rfl) rfl <| tv (lb s3 0 rfl rfl rfl) rfl <| tv (bge rfl rfl) rfl <| nz <| cD rfl hp (fun hc49 hp => ?_) fun hc49 hp => ?_
        · exact sr <| tm rfl <| tv (rv_nilCheck rfl) rfl <| tv (fa f102_3 rfl) rfl <| tv (lb s3 0 rfl rfl rfl) rfl <| tv (mI u70 rfl) rfl <| tv (rv_bv (vs := [(0, .int .i64 x2836), (1, .iface 70 (.int .i64 4))]) (ds := [.int .i64 x2836, .iface 70 (.int .i64 4)]) rfl (fun w => by kernel_rfl)) rfl <| tb [.int .i64 x2836, .iface 70 (.int .i64 4)] rfl rfl fun b2837 => TL.new0 <| tv (mI u96 rfl) rfl <| tp [1, 0, 2, 3, 4, 5] [_,_,_,_,_,_] rfl rfl <| tf 0 2 [_,_,_,_,_] rfl <| ta rfl <| nz <| TC.ret <| rt hp [0] ⟨(.iface 96 (.pointer (some ⟨b2837, 0, none⟩))), (bx b2837 98 [.int .i64 x2836, (.iface 70 (.int .i64 4))] ++ (([] : FP))), rfl, rfl, (ErO.at_ x2836 b2837 (ErO.mk _ : ErO 70 96 98 (GErr.code 4) (.iface 70 (.int .i64 4)) []))⟩
        · exact sk k48 rfl <| sr <| ta rfl <| nz <| TC.ret <| W.new0 <| rt hp [0] ⟨.nilIface, ([] : FP), rfl, rfl, (ErO.nil : ErO 70 96 98 GErr.no .nilIface [])⟩
       refine lp hz32 [2, 0, 1] rfl (fun s e L => ∃ e30, e = ovr e30 [(6, .pointer (some ⟨b21, 0, none⟩)), (9, v28), (50, v31), (51, .int .i64 (len x27.2)), (52, .int .i64 s)] ∧ L = [bx b21 40 [.int .i64 x11.params, .int .i64 x11.result, v17, v19], F29, F32]) ⟨_, ovr_eq _ _ rfl, rfl⟩ ?_
       rintro x34 _ _ ⟨e30, rfl, rfl⟩ X34 hp hx35
       replace hp : proper_Form.bd35 x11 x27 x34 = some X34 := hp
       refine sr <| tv (blt rfl rfl) rfl <| nz <| TC.seq fun K52 k53 => cD rfl hp (fun hc54 hp => ?_) fun hc54 hp => ?_
       · refine sk k53 rfl <| TC.seq fun K55 k56 => TC.block <| sr <| tm rfl <| ti u25 i3 (h33).ro hp rfl rfl rfl rfl ?_
         rintro x2841 b2842 o2843 _ hp rfl h2846
         refine tv (lr s3 (Src.at_ 2 rfl) h2846 0 rfl rfl) rfl <| ta rfl <| ta rfl <| nz <| sr <| tm rfl <| tv (bgt rfl rfl) rfl <| tm rfl <| TL.cut 9 fun K58 k59 => ?_
         have J60 {e62} : ∀ w, St E H [bx b21 40 [.int .i64 x11.params, .int .i64 x11.result, v17, v19], F29, F32] w → K58 (ovr e62 [(68, .bool (decide (x2841 > 1 ∨ (x2841 > 0 ∧ x34 < x11.params)))), (6, .pointer (some ⟨b21, 0, none⟩)), (9, v28), (11, .int .i64 x34), (50, v31), (51, .int .i64 (len x27.2)), (52, .int .i64 x34)]) w := by
          refine tlg k59 <| nz <| cD rfl hp (fun hc63 hp => ?_) fun hc63 hp => ?_
          · refine sr <| tm rfl <| tv (mI u70 rfl) rfl <| tv (rv_bv (vs := [(0, .int .i64 x34), (1, .iface 70 (.int .i64 7))]) (ds := [.int .i64 x34, .iface 70 (.int .i64 7)]) rfl (fun w => by kernel_rfl)) rfl <| tb [.int .i64 x34, .iface 70 (.int .i64 7)] rfl rfl fun b2847 => TL.new0 <| tv (mI u96 rfl) rfl <| tp [1, 0, 2, 3, 4] [_,_,_,_,_] rfl rfl <| tf 0 2 [_,_,_,_] rfl <| ta rfl <| nz <| TC.ret ?_
            obtain rfl := ex_ret hp hx35
            exact rt hr33 [0] ⟨(.iface 96 (.pointer (some ⟨b2847, 0, none⟩))), (bx b2847 98 [.int .i64 x34, (.iface 70 (.int .i64 7))] ++ (([] : FP))), rfl, rfl, (ErO.at_ x34 b2847 (ErO.mk _ : ErO 70 96 98 (GErr.code 7) (.iface 70 (.int .i64 7)) []))⟩
          · exact sk k56 rfl <| TC.region <| tv (bad rfl rfl) rfl <| tm rfl <| nl <| gk hp [0, 1, 2] ⟨_, ovr_eq _ _ rfl, rfl⟩
         by_cases hc61 : x2841 > 1
         · exact gn rfl (bT hc61) rfl rfl <| gn rfl (bT hc61) rfl rfl <| gn rfl (bT hc61) rfl rfl <| gu rfl rfl rfl <| gu rfl rfl rfl <| gu rfl rfl rfl <| gu rfl rfl rfl <| gn rfl (bT hc61) rfl rfl <| tv (pT (bT hc61)) rfl <| nj J60 (bOt hc61)
         · refine gy rfl (bF hc61) <| tm rfl <| gy rfl (bF hc61) <| tv (bgt rfl rfl) rfl <| gy rfl (bF hc61) <| tm rfl <| TL.cut 5 fun K64 k65 => ?_
           have J66 {e68} : ∀ w, St E H [bx b21 40 [.int .i64 x11.params, .int .i64 x11.result, v17, v19], F29, F32] w → K64 (ovr e68 [(67, .bool (decide (x2841 > 0 ∧ x34 < x11.params))), (6, .pointer (some ⟨b21, 0, none⟩)), (9, v28), (11, .int .i64 x34), (50, v31), (51, .int .i64 (len x27.2)), (52, .int .i64 x34), (59, .bool (decide (x2841 > 1))), (60, .int .i64 x2841), (61, .bool (decide (x2841 > 0))), (62, .bool (decide (x2841 > 0)))]) w := by
            exact tlg k65 <| tv (pF (bF hc61)) rfl <| nj J60 (bOf hc61)
           by_cases hc67 : x2841 > 0
           · exact gy rfl (bT hc67) <| tm rfl <| gy rfl (bT hc67) <| tv (fa f40_0 rfl) rfl <| gy rfl (bT hc67) <| tv (lb s3 0 rfl rfl rfl) rfl <| gy rfl (bT hc67) <| tv (blt rfl rfl) rfl <| gy rfl (bF hc61) <| tv (pT (bT hc67)) rfl <| nj J66 (bAt hc67)
           · exact gn rfl (bF hc67) rfl rfl <| gn rfl (bF hc67) rfl rfl <| gn rfl (bF hc67) rfl rfl <| gn rfl (bF hc67) rfl rfl <| gy rfl (bF hc61) <| tv (pF (bF hc67)) rfl <| nj J66 (bAf hc67)
       · exact TC.exit <| jn [0, 1] (J50 (ex_ret hp hx35))
      refine lp hz21 [1, 0] rfl (fun s e L => ∃ e19, e = ovr e19 [(6, .pointer (some ⟨b21, 0, none⟩)), (35, v23), (36, .int .i64 (len x22)), (37, .int .i64 s)] ∧ L = [bx b21 40 [.int .i64 x11.params, .int .i64 x11.result, v17, v19], F24]) ⟨_, ovr_eq _ _ rfl, rfl⟩ ?_
      rintro x26 _ _ ⟨e19, rfl, rfl⟩ X23 hp hx24
      replace hp : proper_Form.bd24 x22 x26 = some X23 := hp
      refine sr <| tv (blt rfl rfl) rfl <| nz <| TC.seq fun K73 k74 => cD rfl hp (fun hc75 hp => ?_) fun hc75 hp => ?_
      · refine sk k74 rfl <| TC.seq fun K76 k77 => TC.block <| sr <| ti u88 i4 (h25).ro hp rfl rfl rfl rfl ?_
        rintro x2850 b2851 o2852 _ hp rfl h2855
        refine tv (lr s4 (Src.at_ 1 rfl) h2855 0 rfl rfl) rfl <| ta rfl <| nz <| sr <| tm rfl <| tv (rv_not rfl) rfl <| nz <| cB rfl hp (fun hc79 hp => ?_) fun hc79 hp => ?_
        · refine sr <| tv (mI u70 rfl) rfl <| ta rfl <| nz <| TC.ret <| W.new0 ?_
          obtain rfl := ex_ret hp hx24
          exact rt hr22 [0] ⟨(.iface 70 (.int .i64 6)), ([] : FP), rfl, rfl, (ErO.mk _ : ErO 70 96 98 (GErr.code 6) (.iface 70 (.int .i64 6)) [])⟩
        · exact sk k77 rfl <| TC.region <| tv (bad rfl rfl) rfl <| tm rfl <| nl <| gk hp [0, 1] ⟨_, ovr_eq _ _ rfl, rfl⟩
      · exact TC.exit <| jn [0] (J71 (ex_ret hp hx24))
   by_cases hc11 : a4 < 0
   · exact gn rfl (bT hc11) rfl rfl <| gn rfl (bT hc11) rfl rfl <| gn rfl (bT hc11) rfl rfl <| gn rfl (bT hc11) rfl rfl <| gn rfl (bT hc11) rfl rfl <| tv (pT (bT hc11)) rfl <| nj J10 (bOt hc11)
   · exact gy rfl (bF hc11) <| tm rfl <| gy rfl (bF hc11) <| tv (fa f35_0 rfl) rfl <| gy rfl (bF hc11) <| tv (lb s33 1 rfl rfl rfl) rfl <| gy rfl (bF hc11) <| tv (ln u33 h3 rfl) rfl <| gy rfl (bF hc11) <| tv (bge rfl rfl) rfl <| tv (pF (bF hc11)) rfl <| nj J10 (bOf hc11)
/-! ### fettle/fettlelaw13.up -/
abbrev fettlelaw13_up.R (r : Bool) (v : Value) (A : List FP) : Prop := .bool r = v ∧ A = []
def fettlelaw13_up  : Option Bool :=
  (proper_Form (⟨[(⟨1, 1, [1], [(⟨([] : List PPhi), ([] : List PInstr), (⟨3, 0, ([] : List Int)⟩ : PTerm)⟩ : PBlock)]⟩ : PFunc)]⟩ : PModule) 0).bind fun x14 =>
  (proper_Form (⟨[]⟩ : PModule) 0).bind fun x18 =>
  some (decide (x14 = GErr.no ∧ x18 = (GErr.code 1)))
theorem fettlelaw13_up_ok {E : World} {H : FP} {w : World} {r : Bool}  (hp : fettlelaw13_up = some r) (hst : St E H [] w) :
    Fn Try.prog 22 #[] w fun v w' => ∃ A, fettlelaw13_up.R r v A ∧ St E H A w' := by
 refine fb 22 [.tmp 0] Try.func22 rfl rfl rfl rfl rfl hst <| sr <| ta rfl <| nz <| sr <| tbs [(0, .int .i64 1)] [.int .i64 1] u25 i3 (by kernel_rfl) rfl rfl rfl rfl fun b1 => tv (rv_bv (vs := [(0, .int .i64 3)]) (ds := [.int .i64 3, .int .i64 0, .slice none 0 0]) rfl (fun w => by kernel_rfl)) rfl <| tv (rv_bv (vs := [(2, .agg #[.int .i64 3, .int .i64 0, .slice none 0 0])]) (ds := [.slice none 0 0, .slice none 0 0, .int .i64 3, .int .i64 0, .slice none 0 0]) rfl (fun w => by kernel_rfl)) rfl <| tbs [(0, .agg #[.slice none 0 0, .slice none 0 0, .int .i64 3, .int .i64 0, .slice none 0 0])] [.slice none 0 0, .slice none 0 0, .int .i64 3, .int .i64 0, .slice none 0 0] u38 i50 (by kernel_rfl) rfl rfl rfl rfl fun b2 => tv (rv_bv (vs := [(0, .int .i64 1), (1, .int .i64 1), (2, .slice (some ⟨b1, 0, none⟩) 1 1), (3, .slice (some ⟨b2, 0, none⟩) 1 1)]) (ds := [.int .i64 1, .int .i64 1, .slice (some ⟨b1, 0, none⟩) 1 1, .slice (some ⟨b2, 0, none⟩) 1 1]) rfl (fun w => by kernel_rfl)) rfl <| tl i40 rfl fun b3 => tp [2, 0, 1] [_,_,_] rfl rfl <| tf 1 0 [_,_,_,_] rfl <| TL.litOwn (n := 1) (xs := [1]) (RepL.to (RepL.cons (k := (kInt .i64)) (x := 1) ⟨rfl, rfl⟩ RepL.nil) rfl) rfl rfl (ltb rfl) fun F4 h5 => TL.new0 <| TL.new0 <| TL.new0 <| tp [5, 2, 1, 0, 3, 4] [_,_,_,_,_,_] rfl rfl <| tf 1 3 [_,_,_,_] rfl <| TL.litOwn (n := 1) (xs := [(⟨([] : List PPhi), ([] : List PInstr), (⟨3, 0, ([] : List Int)⟩ : PTerm)⟩ : PBlock)]) (RepL.to (G' := ([] : FP) ++ (([] : FP) ++ (([] : FP)))) (RepL.cons (k := kBlock) (x := (⟨([] : List PPhi), ([] : List PInstr), (⟨3, 0, ([] : List Int)⟩ : PTerm)⟩ : PBlock)) ⟨_, _, _, _, _, _, rfl, rfl, (SlO.nil 76), (SlO.nil 52), (SlO.nil 3)⟩ RepL.nil) (by simp)) rfl rfl (ltb rfl) fun F9 h10 => tS 2 m40 rfl rfl [.int .i64 1, .int .i64 1, (.slice (some ⟨b1, 0, none⟩) 1 1), (.slice (some ⟨b2, 0, none⟩) 1 1)] rfl (oc rfl (oc rfl (oc (h5).one (oc (h10).one oc0)))) rfl rfl <| nz <| sr <| tv (lA (ds := [.int .i64 1, .int .i64 1, (.slice (some ⟨b1, 0, none⟩) 1 1), (.slice (some ⟨b2, 0, none⟩) 1 1)]) ag_40 2 rfl rfl rfl rfl) rfl <| tbs [(0, .agg #[.int .i64 1, .int .i64 1, (.slice (some ⟨b1, 0, none⟩) 1 1), (.slice (some ⟨b2, 0, none⟩) 1 1)])] [.int .i64 1, .int .i64 1, (.slice (some ⟨b1, 0, none⟩) 1 1), (.slice (some ⟨b2, 0, none⟩) 1 1)] u33 i40 (by kernel_rfl) rfl rfl rfl rfl fun b11 => tv (rv_bv (vs := [(0, .slice (some ⟨b11, 0, none⟩) 1 1)]) (ds := [.slice (some ⟨b11, 0, none⟩) 1 1]) rfl (fun w => by kernel_rfl)) rfl <| tp [0, 2, 1, 3] [_,_,_,_] rfl rfl <| tf 1 2 [_,_,_] rfl <| TL.litOwn (n := 1) (xs := [(⟨1, 1, [1], [(⟨([] : List PPhi), ([] : List PInstr), (⟨3, 0, ([] : List Int)⟩ : PTerm)⟩ : PBlock)]⟩ : PFunc)]) (RepL.to (G' := F4 ++ (F9)) (RepL.cons (k := kFunc) (x := (⟨1, 1, [1], [(⟨([] : List PPhi), ([] : List PInstr), (⟨3, 0, ([] : List Int)⟩ : PTerm)⟩ : PBlock)]⟩ : PFunc)) ⟨_, _, _, _, rfl, rfl, h5, h10⟩ RepL.nil) (by simp)) rfl rfl (ltb rfl) fun F12 h13 => bE hp fun x14 hy1 hp => tc 0 [_,_] rfl c23 (fun _ => proper_Form_ok (a1 := (⟨[(⟨1, 1, [1], [(⟨([] : List PPhi), ([] : List PInstr), (⟨3, 0, ([] : List Int)⟩ : PTerm)⟩ : PBlock)]⟩ : PFunc)]⟩ : PModule)) (a4 := 0) (h13.ro.mono (subB 0 rfl)) hy1) rfl ?_
 rintro _ _ ⟨v15, F16, rfl, rfl, h17⟩
 refine ta rfl <| nz <| sr <| tv (rv_bv (vs := []) (ds := [.slice none 0 0]) rfl (fun w => by kernel_rfl)) rfl <| bE hp fun x18 hy3 hp => tc 0 [_,_,_] rfl c23 (fun _ => proper_Form_ok (a1 := (⟨[]⟩ : PModule)) (a4 := 0) ((SlI.nil (G := H) none 0).mono subH) hy3) rfl ?_
 rintro _ _ ⟨v19, F20, rfl, rfl, h21⟩
 refine ta rfl <| nz <| sr <| tm rfl <| tv (rv_eqlEN ifc_27 h17 rfl) rfl <| tm rfl <| TL.cut 4 fun K5 k6 => ?_
 have J7 {e9} : ∀ w, St E H [F20, F16, F12, bx b3 40 [.int .i64 1, .int .i64 1, (.slice (some ⟨b1, 0, none⟩) 1 1), (.slice (some ⟨b2, 0, none⟩) 1 1)]] w → K5 (ovr e9 [(21, .bool (decide (x14 = GErr.no ∧ x18 = (GErr.code 1))))]) w := by
  exact tlg k6 <| ta rfl <| nz <| TC.ret <| rt hp [] ⟨rfl, rfl⟩
 by_cases hc8 : x14 = GErr.no
 · exact gy rfl (bT hc8) <| tm rfl <| gy rfl (bT hc8) <| tv (mI u70 rfl) rfl <| gy rfl (bT hc8) <| tv (rv_eqlEC ifc_27 cmp_70 Try.underlying70 Try.underlying96 (by decide) h21 rfl rfl) rfl <| tv (pT (bT hc8)) rfl <| nj J7 (bAt hc8)
 · exact gn rfl (bF hc8) rfl rfl <| gn rfl (bF hc8) rfl rfl <| gn rfl (bF hc8) rfl rfl <| tv (pF (bF hc8)) rfl <| nj J7 (bAf hc8)
/-! ### fettle/fettleref02.Small -/
abbrev fettleref02_Small.R (r : Bool) (v : Value) (A : List FP) : Prop := .bool r = v ∧ A = []
def fettleref02_Small.nx11  : Option Bool :=
  some true
def fettleref02_Small.nx39 (x5 : Int) : Option (Ex (Ex Bool Unit) Int) :=
  some (.go (w64 (x5 + 1)))
def fettleref02_Small.nx76 (x17 : Int) : Option (Ex (Ex Bool Unit) Int) :=
  some (.go (w64 (x17 + 1)))
def fettleref02_Small.bd76 (x18 : PBlock) (x32 : Int) : Option (Ex (Ex Bool Unit) Int) :=
  if x32 < (len x18.phis) then
    (idx x18.phis x32).bind fun x33 =>
    if (len x33.args) > 300 then
      some (.ret (.ret false))
    else
      some (.go (w64 (x32 + 1)))
  else
    some (.ret (.go ()))
def fettleref02_Small.nx69 (x17 : Int) (x18 : PBlock) : Option (Ex (Ex Bool Unit) Int) :=
  (whl (fun (s : Int) => fettleref02_Small.bd76 x18 s) FUEL 0).bind fun z =>
  match z with
    | .ret r => some (.ret (.ret r))
    | .go p => fettleref02_Small.nx76 x17
def fettleref02_Small.bd69 (x18 : PBlock) (x31 : Int) : Option (Ex (Ex Bool Unit) Int) :=
  if x31 < (len x18.ins) then
    (idx x18.ins x31).bind fun x41 =>
    if (len x41.args) > 300 then
      some (.ret (.ret false))
    else
      some (.go (w64 (x31 + 1)))
  else
    some (.ret (.go ()))
def fettleref02_Small.bd39 (x6 : PFunc) (x17 : Int) : Option (Ex (Ex Bool Unit) Int) :=
  if x17 < (len x6.blocks) then
    (idx x6.blocks x17).bind fun x18 =>
    if ((len x18.ins) > 300 ∨ (len x18.phis) > 300) ∨ (len x18.term.to) > 70 then
      some (.ret (.ret false))
    else
      (whl (fun (s : Int) => fettleref02_Small.bd69 x18 s) FUEL 0).bind fun z =>
      match z with
        | .ret r => some (.ret (.ret r))
        | .go p => fettleref02_Small.nx69 x17 x18
  else
    some (.ret (.go ()))
def fettleref02_Small.bd11 (a1 : PModule) (x5 : Int) : Option (Ex (Ex Bool Unit) Int) :=
  if x5 < (len a1.funcs) then
    (idx a1.funcs x5).bind fun x6 =>
    if ((len x6.blocks) > 70 ∨ (len x6.regs) > 300) ∨ x6.params > 1000 then
      some (.ret (.ret false))
    else
      (whl (fun (s : Int) => fettleref02_Small.bd39 x6 s) FUEL 0).bind fun z =>
      match z with
        | .ret r => some (.ret (.ret r))
        | .go p => fettleref02_Small.nx39 x5
  else
    some (.ret (.go ()))
def fettleref02_Small (a1 : PModule) : Option Bool :=
  if (len a1.funcs) > 40 then
    some false
  else
    (whl (fun (s : Int) => fettleref02_Small.bd11 a1 s) FUEL 0).bind fun z =>
    match z with
      | .ret r => some r
      | .go p => fettleref02_Small.nx11
set_option maxHeartbeats 4000000 in
theorem fettleref02_Small_ok {E : World} {H : FP} {w : World} {a1 : PModule} {v2 : Value} {r : Bool} (h3 : SlI kFunc H a1.funcs v2) (hp : fettleref02_Small a1 = some r) (hst : St E H [] w) :
    Fn Try.prog 15 #[.agg #[v2]] w fun v w' => ∃ A, fettleref02_Small.R r v A ∧ St E H A w' := by
 refine fb 99 [.tmp 2] Try.func15 rfl rfl rfl rfl rfl hst <| sr <| tb [v2] rfl rfl fun b4 => ta rfl <| nz <| TC.seq fun K1 k2 => sr <| tv (fa f35_0 rfl) rfl <| tv (lb s33 0 rfl rfl rfl) rfl <| tv (ln u33 h3 rfl) rfl <| tv (bgt rfl rfl) rfl <| nz <| cD rfl hp (fun hc3 hp => ?_) fun hc3 hp => ?_
 · exact sr <| ta rfl <| nz <| TC.ret <| rt hp [] ⟨rfl, rfl⟩
 · refine sk k2 rfl <| TC.seq fun K4 k5 => sr <| ta rfl <| nz <| TC.block <| bE hp fun z_7 hz8 hr9 => ?_
   have J13 {e12} (hq14 : .go () = z_7) : ∀ w, St E H [] w → K4 (ovr e12 []) w := by
    subst hq14
    replace hp : fettleref02_Small.nx11 = some r := hr9
    exact tg k5 <| sr <| ta rfl <| nz <| TC.ret <| rt hp [] ⟨rfl, rfl⟩
   refine lp hz8 [0] rfl (fun s e L => ∃ e6, e = ovr e6 [(1, .pointer (some ⟨b4, 0, none⟩)), (3, .int .i64 s)] ∧ L = [bx b4 35 [v2]]) ⟨_, ovr_eq _ _ rfl, rfl⟩ ?_
   rintro x5 _ _ ⟨e6, rfl, rfl⟩ X10 hp hx11
   replace hp : fettleref02_Small.bd11 a1 x5 = some X10 := hp
   refine TC.seq fun K15 k16 => sr <| tm rfl <| tv (fa f35_0 rfl) rfl <| tv (lb s33 0 rfl rfl rfl) rfl <| tv (ln u33 h3 rfl) rfl <| tv (blt rfl rfl) rfl <| nz <| cD rfl hp (fun hc17 hp => ?_) fun hc17 hp => ?_
   · refine sk k16 rfl <| TC.seq fun K18 k19 => TC.block <| sr <| tv (fa f35_0 rfl) rfl <| tv (lb s33 0 rfl rfl rfl) rfl <| tm rfl <| ti u33 i40 h3 hp rfl rfl rfl rfl ?_
     rintro x6 b7 o8 _ hp ⟨v12, v14, rfl, h13, h15⟩ h11
     refine tv (lR (ds := [.int .i64 x6.params, .int .i64 x6.result, v12, v14]) ag_40 sH h11 0 rfl rfl rfl) rfl <| tl i40 rfl fun b16 => tS 0 m40 rfl rfl [.int .i64 x6.params, .int .i64 x6.result, v12, v14] rfl (oc rfl (oc rfl (oc (h13).one (oc (h15).one oc0)))) rfl rfl <| nz <| TC.seq fun K21 k22 => sr <| tv (fa f40_3 rfl) rfl <| tv (lb s38 0 rfl rfl rfl) rfl <| tv (ln u38 h15 rfl) rfl <| tv (bgt rfl rfl) rfl <| tm rfl <| TL.cut 5 fun K23 k24 => ?_
     have J25 {e27} : ∀ w, St E H [bx b16 40 [.int .i64 x6.params, .int .i64 x6.result, v12, v14], bx b4 35 [v2]] w → K23 (ovr e27 [(34, .bool (decide ((len x6.blocks) > 70 ∨ (len x6.regs) > 300))), (1, .pointer (some ⟨b4, 0, none⟩)), (3, .int .i64 x5), (4, .pointer (some ⟨b16, 0, none⟩))]) w := by
      refine tlg k24 <| tm rfl <| TL.cut 4 fun K28 k29 => ?_
      have J30 {e32} : ∀ w, St E H [bx b16 40 [.int .i64 x6.params, .int .i64 x6.result, v12, v14], bx b4 35 [v2]] w → K28 (ovr e32 [(39, .bool (decide (((len x6.blocks) > 70 ∨ (len x6.regs) > 300) ∨ x6.params > 1000))), (1, .pointer (some ⟨b4, 0, none⟩)), (3, .int .i64 x5), (4, .pointer (some ⟨b16, 0, none⟩))]) w := by
       refine tlg k29 <| nz <| cD rfl hp (fun hc33 hp => ?_) fun hc33 hp => ?_
       · refine sr <| ta rfl <| nz <| TC.ret ?_
         obtain rfl := ex_ret hp hx11
         exact rt hr9 [] ⟨rfl, rfl⟩
       · refine sk k22 rfl <| sr <| ta rfl <| nz <| TC.block <| bE hp fun z_35 hz36 hr37 => ?_
         have J41 {e40} (hq42 : .go () = z_35) : ∀ w, St E H [bx b4 35 [v2]] w → K18 (ovr e40 [(1, .pointer (some ⟨b4, 0, none⟩)), (3, .int .i64 x5)]) w := by
          subst hq42
          replace hp : fettleref02_Small.nx39 x5 = some X10 := hr37
          exact tg k19 <| TC.region <| tm rfl <| tv (bad rfl rfl) rfl <| ta rfl <| nl <| gk hp [0] ⟨_, ovr_eq _ _ rfl, rfl⟩
         refine lp hz36 [1, 0] rfl (fun s e L => ∃ e34, e = ovr e34 [(1, .pointer (some ⟨b4, 0, none⟩)), (3, .int .i64 x5), (4, .pointer (some ⟨b16, 0, none⟩)), (5, .int .i64 s)] ∧ L = [bx b4 35 [v2], bx b16 40 [.int .i64 x6.params, .int .i64 x6.result, v12, v14]]) ⟨_, ovr_eq _ _ rfl, rfl⟩ ?_
         rintro x17 _ _ ⟨e34, rfl, rfl⟩ X38 hp hx39
         replace hp : fettleref02_Small.bd39 x6 x17 = some X38 := hp
         refine TC.seq fun K43 k44 => sr <| tm rfl <| tv (fa f40_3 rfl) rfl <| tv (lb s38 1 rfl rfl rfl) rfl <| tv (ln u38 h15 rfl) rfl <| tv (blt rfl rfl) rfl <| nz <| cD rfl hp (fun hc45 hp => ?_) fun hc45 hp => ?_
         · refine sk k44 rfl <| TC.seq fun K46 k47 => TC.block <| sr <| tv (fa f40_3 rfl) rfl <| tv (lb s38 1 rfl rfl rfl) rfl <| tm rfl <| ti u38 i50 h15 hp rfl rfl rfl rfl ?_
           rintro x18 b19 o20 _ hp ⟨v24, v26, v28, rfl, h25, h27, h29⟩ h23
           refine tv (lR (ds := [v24, v26, .int .i64 x18.term.kind, .int .i64 x18.term.arg, v28]) ag_50 sH h23 0 rfl rfl rfl) rfl <| tl i50 rfl fun b30 => tS 0 m50 rfl rfl [v24, v26, .int .i64 x18.term.kind, .int .i64 x18.term.arg, v28] rfl (oc (h25).one (oc (h27).one (oc rfl (oc rfl (oc (h29).one oc0))))) rfl rfl <| nz <| TC.seq fun K49 k50 => sr <| tv (fa f50_1 rfl) rfl <| tv (lb s48 0 rfl rfl rfl) rfl <| tv (ln u48 h27 rfl) rfl <| tv (bgt rfl rfl) rfl <| tm rfl <| TL.cut 5 fun K51 k52 => ?_
           have J53 {e55} : ∀ w, St E H [bx b30 50 [v24, v26, .int .i64 x18.term.kind, .int .i64 x18.term.arg, v28], bx b4 35 [v2], bx b16 40 [.int .i64 x6.params, .int .i64 x6.result, v12, v14]] w → K51 (ovr e55 [(61, .bool (decide ((len x18.ins) > 300 ∨ (len x18.phis) > 300))), (1, .pointer (some ⟨b4, 0, none⟩)), (3, .int .i64 x5), (4, .pointer (some ⟨b16, 0, none⟩)), (5, .int .i64 x17), (6, .pointer (some ⟨b30, 0, none⟩))]) w := by
            refine tlg k52 <| tm rfl <| TL.cut 6 fun K56 k57 => ?_
            have J58 {e60} : ∀ w, St E H [bx b30 50 [v24, v26, .int .i64 x18.term.kind, .int .i64 x18.term.arg, v28], bx b4 35 [v2], bx b16 40 [.int .i64 x6.params, .int .i64 x6.result, v12, v14]] w → K56 (ovr e60 [(68, .bool (decide (((len x18.ins) > 300 ∨ (len x18.phis) > 300) ∨ (len x18.term.to) > 70))), (1, .pointer (some ⟨b4, 0, none⟩)), (3, .int .i64 x5), (4, .pointer (some ⟨b16, 0, none⟩)), (5, .int .i64 x17), (6, .pointer (some ⟨b30, 0, none⟩))]) w := by
             refine tlg k57 <| nz <| cD rfl hp (fun hc61 hp => ?_) fun hc61 hp => ?_
             · refine sr <| ta rfl <| nz <| TC.ret ?_
               obtain rfl := ex_ret hp hx39
               obtain rfl := ex_ret hr37 hx11
               exact rt hr9 [] ⟨rfl, rfl⟩
             · refine sk k50 rfl <| TC.seq fun K62 k63 => sr <| ta rfl <| nz <| TC.block <| bE hp fun z_65 hz66 hr67 => ?_
               have J89 {e70} (hq90 : .go () = z_65) : ∀ w, St E H [bx b4 35 [v2], bx b16 40 [.int .i64 x6.params, .int .i64 x6.result, v12, v14], bx b30 50 [v24, v26, .int .i64 x18.term.kind, .int .i64 x18.term.arg, v28]] w → K62 (ovr e70 [(1, .pointer (some ⟨b4, 0, none⟩)), (3, .int .i64 x5), (4, .pointer (some ⟨b16, 0, none⟩)), (5, .int .i64 x17), (6, .pointer (some ⟨b30, 0, none⟩))]) w := by
                subst hq90
                replace hp : fettleref02_Small.nx69 x17 x18 = some X38 := hr67
                refine tg k63 <| sr <| ta rfl <| nz <| TC.block <| bE hp fun z_72 hz73 hr74 => ?_
                have J78 {e77} (hq79 : .go () = z_72) : ∀ w, St E H [bx b4 35 [v2], bx b16 40 [.int .i64 x6.params, .int .i64 x6.result, v12, v14]] w → K46 (ovr e77 [(1, .pointer (some ⟨b4, 0, none⟩)), (3, .int .i64 x5), (4, .pointer (some ⟨b16, 0, none⟩)), (5, .int .i64 x17)]) w := by
                 subst hq79
                 replace hp : fettleref02_Small.nx76 x17 = some X38 := hr74
                 exact tg k47 <| TC.region <| tm rfl <| tv (bad rfl rfl) rfl <| ta rfl <| nl <| gk hp [0, 1] ⟨_, ovr_eq _ _ rfl, rfl⟩
                refine lp hz73 [0, 1, 2] rfl (fun s e L => ∃ e71, e = ovr e71 [(1, .pointer (some ⟨b4, 0, none⟩)), (3, .int .i64 x5), (4, .pointer (some ⟨b16, 0, none⟩)), (5, .int .i64 x17), (6, .pointer (some ⟨b30, 0, none⟩)), (8, .int .i64 s)] ∧ L = [bx b4 35 [v2], bx b16 40 [.int .i64 x6.params, .int .i64 x6.result, v12, v14], bx b30 50 [v24, v26, .int .i64 x18.term.kind, .int .i64 x18.term.arg, v28]]) ⟨_, ovr_eq _ _ rfl, rfl⟩ ?_
                rintro x32 _ _ ⟨e71, rfl, rfl⟩ X75 hp hx76
                replace hp : fettleref02_Small.bd76 x18 x32 = some X75 := hp
                refine TC.seq fun K80 k81 => sr <| tm rfl <| tv (fa f50_0 rfl) rfl <| tv (lb s47 2 rfl rfl rfl) rfl <| tv (ln u47 h25 rfl) rfl <| tv (blt rfl rfl) rfl <| nz <| cD rfl hp (fun hc82 hp => ?_) fun hc82 hp => ?_
                · refine sk k81 rfl <| TC.seq fun K83 k84 => TC.block <| sr <| tv (fa f50_0 rfl) rfl <| tv (lb s47 2 rfl rfl rfl) rfl <| tm rfl <| ti u47 i76 h25 hp rfl rfl rfl rfl ?_
                  rintro x33 b34 o35 _ hp ⟨v39, rfl, h40⟩ h38
                  refine tv (fa f76_1 rfl) rfl <| tv (lr s25 sH h38 1 rfl rfl) rfl <| tv (ln u25 h40 rfl) rfl <| tv (bgt rfl rfl) rfl <| nz <| cD rfl hp (fun hc86 hp => ?_) fun hc86 hp => ?_
                  · refine sr <| ta rfl <| nz <| TC.ret ?_
                    obtain rfl := ex_ret hp hx76
                    obtain rfl := ex_ret hr74 hx39
                    obtain rfl := ex_ret hr37 hx11
                    exact rt hr9 [] ⟨rfl, rfl⟩
                  · exact sk k84 rfl <| TC.region <| tm rfl <| tv (bad rfl rfl) rfl <| ta rfl <| nl <| gk hp [0, 1, 2] ⟨_, ovr_eq _ _ rfl, rfl⟩
                · exact TC.exit <| jn [0, 1] (J78 (ex_ret hp hx76))
               refine lp hz66 [1, 2, 0] rfl (fun s e L => ∃ e64, e = ovr e64 [(1, .pointer (some ⟨b4, 0, none⟩)), (3, .int .i64 x5), (4, .pointer (some ⟨b16, 0, none⟩)), (5, .int .i64 x17), (6, .pointer (some ⟨b30, 0, none⟩)), (7, .int .i64 s)] ∧ L = [bx b4 35 [v2], bx b16 40 [.int .i64 x6.params, .int .i64 x6.result, v12, v14], bx b30 50 [v24, v26, .int .i64 x18.term.kind, .int .i64 x18.term.arg, v28]]) ⟨_, ovr_eq _ _ rfl, rfl⟩ ?_
               rintro x31 _ _ ⟨e64, rfl, rfl⟩ X68 hp hx69
               replace hp : fettleref02_Small.bd69 x18 x31 = some X68 := hp
               refine TC.seq fun K91 k92 => sr <| tm rfl <| tv (fa f50_1 rfl) rfl <| tv (lb s48 2 rfl rfl rfl) rfl <| tv (ln u48 h27 rfl) rfl <| tv (blt rfl rfl) rfl <| nz <| cD rfl hp (fun hc93 hp => ?_) fun hc93 hp => ?_
               · refine sk k92 rfl <| TC.seq fun K94 k95 => TC.block <| sr <| tv (fa f50_1 rfl) rfl <| tv (lb s48 2 rfl rfl rfl) rfl <| tm rfl <| ti u48 i52 h27 hp rfl rfl rfl rfl ?_
                 rintro x41 b42 o43 _ hp ⟨v47, rfl, h48⟩ h46
                 refine tv (fa f52_2 rfl) rfl <| tv (lr s25 sH h46 2 rfl rfl) rfl <| tv (ln u25 h48 rfl) rfl <| tv (bgt rfl rfl) rfl <| nz <| cD rfl hp (fun hc97 hp => ?_) fun hc97 hp => ?_
                 · refine sr <| ta rfl <| nz <| TC.ret ?_
                   obtain rfl := ex_ret hp hx69
                   obtain rfl := ex_ret hr67 hx39
                   obtain rfl := ex_ret hr37 hx11
                   exact rt hr9 [] ⟨rfl, rfl⟩
                 · exact sk k95 rfl <| TC.region <| tm rfl <| tv (bad rfl rfl) rfl <| ta rfl <| nl <| gk hp [0, 1, 2] ⟨_, ovr_eq _ _ rfl, rfl⟩
               · exact TC.exit <| jn [0, 1, 2] (J89 (ex_ret hp hx69))
            by_cases hc59 : (len x18.ins) > 300 ∨ (len x18.phis) > 300
            · exact gn rfl (bT hc59) rfl rfl <| gn rfl (bT hc59) rfl rfl <| gn rfl (bT hc59) rfl rfl <| gn rfl (bT hc59) rfl rfl <| gn rfl (bT hc59) rfl rfl <| tv (pT (bT hc59)) rfl <| nj J58 (bOt hc59)
            · exact gy rfl (bF hc59) <| tv (fa f50_2 rfl) rfl <| gy rfl (bF hc59) <| tv (fa f46_2 rfl) rfl <| gy rfl (bF hc59) <| tv (lb s25 0 rfl rfl rfl) rfl <| gy rfl (bF hc59) <| tv (ln u25 h29 rfl) rfl <| gy rfl (bF hc59) <| tv (bgt rfl rfl) rfl <| tv (pF (bF hc59)) rfl <| nj J58 (bOf hc59)
           by_cases hc54 : (len x18.ins) > 300
           · exact gn rfl (bT hc54) rfl rfl <| gn rfl (bT hc54) rfl rfl <| gn rfl (bT hc54) rfl rfl <| gn rfl (bT hc54) rfl rfl <| tv (pT (bT hc54)) rfl <| nj J53 (bOt hc54)
           · exact gy rfl (bF hc54) <| tv (fa f50_0 rfl) rfl <| gy rfl (bF hc54) <| tv (lb s47 0 rfl rfl rfl) rfl <| gy rfl (bF hc54) <| tv (ln u47 h25 rfl) rfl <| gy rfl (bF hc54) <| tv (bgt rfl rfl) rfl <| tv (pF (bF hc54)) rfl <| nj J53 (bOf hc54)
         · exact TC.exit <| jn [0] (J41 (ex_ret hp hx39))
      by_cases hc31 : (len x6.blocks) > 70 ∨ (len x6.regs) > 300
      · exact gn rfl (bT hc31) rfl rfl <| gn rfl (bT hc31) rfl rfl <| gn rfl (bT hc31) rfl rfl <| tv (pT (bT hc31)) rfl <| nj J30 (bOt hc31)
      · exact gy rfl (bF hc31) <| tv (fa f40_0 rfl) rfl <| gy rfl (bF hc31) <| tv (lb s3 0 rfl rfl rfl) rfl <| gy rfl (bF hc31) <| tv (bgt rfl rfl) rfl <| tv (pF (bF hc31)) rfl <| nj J30 (bOf hc31)
     by_cases hc26 : (len x6.blocks) > 70
     · exact gn rfl (bT hc26) rfl rfl <| gn rfl (bT hc26) rfl rfl <| gn rfl (bT hc26) rfl rfl <| gn rfl (bT hc26) rfl rfl <| tv (pT (bT hc26)) rfl <| nj J25 (bOt hc26)
     · exact gy rfl (bF hc26) <| tv (fa f40_2 rfl) rfl <| gy rfl (bF hc26) <| tv (lb s25 0 rfl rfl rfl) rfl <| gy rfl (bF hc26) <| tv (ln u25 h13 rfl) rfl <| gy rfl (bF hc26) <| tv (bgt rfl rfl) rfl <| tv (pF (bF hc26)) rfl <| nj J25 (bOf hc26)
   · exact TC.exit <| jn [] (J13 (ex_ret hp hx11))
/-! ### fettle/check.Plain$1 -/
abbrev check_Plain_1.R (r : Bool) (v : Value) (A : List FP) : Prop := .bool r = v ∧ A = []
def check_Plain_1 (a1 : PBlock) : Option Bool :=
  some (decide ((len a1.phis) > 0))
theorem check_Plain_1_ok {E : World} {H : FP} {w : World} {a1 : PBlock} {v2 : Value} {v4 : Value} {v6 : Value} {r : Bool} (h3 : SlI kPhi H a1.phis v2) (h5 : SlI kInstr H a1.ins v4) (h7 : SlI (kInt .i64) H a1.term.to v6) (hp : check_Plain_1 a1 = some r) (hst : St E H [] w) :
    Fn Try.prog 72 #[.agg #[v2, v4, .int .i64 a1.term.kind, .int .i64 a1.term.arg, v6]] w fun v w' => ∃ A, check_Plain_1.R r v A ∧ St E H A w' := by
 exact fb 7 [.tmp 2] Try.func72 rfl rfl rfl rfl rfl hst <| sr <| tb [v2, v4, .int .i64 a1.term.kind, .int .i64 a1.term.arg, v6] rfl rfl fun b8 => ta rfl <| nz <| sr <| tv (fa f50_0 rfl) rfl <| tv (lb s47 0 rfl rfl rfl) rfl <| tv (ln u47 h3 rfl) rfl <| tv (bgt rfl rfl) rfl <| ta rfl <| nz <| TC.ret <| rt hp [] ⟨rfl, rfl⟩
/-! ### slices.IndexFunc[[]fettle/api.Block,fettle/api.Block] -/
abbrev slices_IndexFunc_api_Block_api_Block_check_Plain_1.R (r : Int) (v : Value) (A : List FP) : Prop := .int .i64 r = v ∧ A = []
def slices_IndexFunc_api_Block_api_Block_check_Plain_1.nx8  : Option Int :=
  some (-1)
def slices_IndexFunc_api_Block_api_Block_check_Plain_1.bd8 (a1 : List PBlock) (x5 : Int) : Option (Ex (Ex Int Unit) Int) :=
  if x5 < (len a1) then
    (idx a1 x5).bind fun x6 =>
    (check_Plain_1 x6).bind fun x18 =>
    if x18 = true then
      some (.ret (.ret x5))
    else
      some (.go (w64 (x5 + 1)))
  else
    some (.ret (.go ()))
def slices_IndexFunc_api_Block_api_Block_check_Plain_1 (a1 : List PBlock) : Option Int :=
  (whl (fun (s : Int) => slices_IndexFunc_api_Block_api_Block_check_Plain_1.bd8 a1 s) FUEL 0).bind fun z =>
  match z with
    | .ret r => some r
    | .go p => slices_IndexFunc_api_Block_api_Block_check_Plain_1.nx8
theorem slices_IndexFunc_api_Block_api_Block_check_Plain_1_ok {E : World} {H : FP} {w : World} {a1 : List PBlock} {v2 : Value} {r : Int} (h3 : SlI kBlock H a1 v2) (hp : slices_IndexFunc_api_Block_api_Block_check_Plain_1 a1 = some r) (hst : St E H [] w) :
    Fn Try.prog 92 #[v2, .func (.func 72) #[] #[]] w fun v w' => ∃ A, slices_IndexFunc_api_Block_api_Block_check_Plain_1.R r v A ∧ St E H A w' := by
 refine fb 19 [.tmp 4] Try.func92 rfl rfl rfl rfl rfl hst <| sr <| ta rfl <| nz <| TC.seq fun K1 k2 => sr <| tm rfl <| tv (ln u38 h3 rfl) rfl <| tm rfl <| nz <| TC.block <| bE hp fun z_4 hz5 hr6 => ?_
 have J10 {e9} (hq11 : .go () = z_4) : ∀ w, St E H [] w → K1 (ovr e9 []) w := by
  subst hq11
  replace hp : slices_IndexFunc_api_Block_api_Block_check_Plain_1.nx8 = some r := hr6
  exact tg k2 <| sr <| ta rfl <| nz <| TC.ret <| rt hp [] ⟨rfl, rfl⟩
 refine lp hz5 [] rfl (fun s e L => ∃ e3, e = ovr e3 [(0, v2), (1, .func (.func 72) #[] #[]), (7, .int .i64 (len a1)), (8, .int .i64 s)] ∧ L = []) ⟨_, ovr_eq _ _ rfl, rfl⟩ ?_
 rintro x5 _ _ ⟨e3, rfl, rfl⟩ X7 hp hx8
 replace hp : slices_IndexFunc_api_Block_api_Block_check_Plain_1.bd8 a1 x5 = some X7 := hp
 refine sr <| tv (blt rfl rfl) rfl <| nz <| TC.seq fun K12 k13 => cD rfl hp (fun hc14 hp => ?_) fun hc14 hp => ?_
 · refine sk k13 rfl <| TC.seq fun K15 k16 => TC.block <| sr <| tm rfl <| ta rfl <| nz <| sr <| tm rfl <| tm rfl <| tm rfl <| ti u38 i50 h3 hp rfl rfl rfl rfl ?_
   rintro x6 b7 o8 _ hp ⟨v12, v14, v16, rfl, h13, h15, h17⟩ h11
   refine tv (lR (ds := [v12, v14, .int .i64 x6.term.kind, .int .i64 x6.term.arg, v16]) ag_50 sH h11 0 rfl rfl rfl) rfl <| bE hp fun x18 hy18 hp => tcv 0 [] rfl c72 rfl (fun _ => check_Plain_1_ok (a1 := x6) (h13.mono subH) (h15.mono subH) (h17.mono subH) hy18) rfl ?_
   rintro _ _ ⟨rfl, rfl⟩
   refine nz <| cB rfl hp (fun hc20 hp => ?_) fun hc20 hp => ?_
   · refine sr <| tm rfl <| ta rfl <| nz <| TC.ret ?_
     obtain rfl := ex_ret hp hx8
     exact rt hr6 [] ⟨rfl, rfl⟩
   · exact sk k16 rfl <| TC.region <| tv (bad rfl rfl) rfl <| tm rfl <| nl <| gk hp [] ⟨_, ovr_eq _ _ rfl, rfl⟩
 · exact TC.exit <| jn [] (J10 (ex_ret hp hx8))
/-! ### slices.ContainsFunc[[]fettle/api.Block,fettle/api.Block] -/
abbrev slices_ContainsFunc_api_Block_api_Block_check_Plain_1.R (r : Bool) (v : Value) (A : List FP) : Prop := .bool r = v ∧ A = []
def slices_ContainsFunc_api_Block_api_Block_check_Plain_1 (a1 : List PBlock) : Option Bool :=
  (slices_IndexFunc_api_Block_api_Block_check_Plain_1 a1).bind fun x5 =>
  some (decide (x5 ≥ 0))
theorem slices_ContainsFunc_api_Block_api_Block_check_Plain_1_ok {E : World} {H : FP} {w : World} {a1 : List PBlock} {v2 : Value} {r : Bool} (h3 : SlI kBlock H a1 v2) (hp : slices_ContainsFunc_api_Block_api_Block_check_Plain_1 a1 = some r) (hst : St E H [] w) :
    Fn Try.prog 71 #[v2, .func (.func 72) #[] #[]] w fun v w' => ∃ A, slices_ContainsFunc_api_Block_api_Block_check_Plain_1.R r v A ∧ St E H A w' := by
 refine fb 9 [.tmp 4] Try.func71 rfl rfl rfl rfl rfl hst <| sr <| ta rfl <| nz <| sr <| tm rfl <| tm rfl <| bE hp fun x5 hy1 hp => tc 0 [] rfl c92 (fun _ => slices_IndexFunc_api_Block_api_Block_check_Plain_1_ok (a1 := a1) (h3.mono subH) hy1) rfl ?_
 rintro _ _ ⟨rfl, rfl⟩
 exact tv (bge rfl rfl) rfl <| ta rfl <| nz <| TC.ret <| rt hp [] ⟨rfl, rfl⟩
/-! ### fettle/check.Plain -/
abbrev check_Plain.R (r : GErr) (v : Value) (A : List FP) : Prop := ∃ (w1 : Value) (G1 : FP), w1 = v ∧ A = [G1] ∧ ErO 70 96 98 r w1 G1
def check_Plain.nx13  : Option GErr :=
  some GErr.no
def check_Plain.bd13 (a1 : PModule) (x9 : Int) : Option (Ex (Ex GErr Unit) Int) :=
  if x9 < (len a1.funcs) then
    (idx a1.funcs x9).bind fun x11 =>
    (slices_ContainsFunc_api_Block_api_Block_check_Plain_1 x11.blocks).bind fun x22 =>
    if x22 = true then
      some (.ret (.ret (GErr.spot x9 (GErr.code 6))))
    else
      some (.go (w64 (x9 + 1)))
  else
    some (.ret (.go ()))
def check_Plain (a1 : PModule) : Option GErr :=
  (check_Module a1).bind fun x5 =>
  if ¬ x5 = GErr.no then
    some x5
  else
    (whl (fun (s : Int) => check_Plain.bd13 a1 s) FUEL 0).bind fun z =>
    match z with
      | .ret r => some r
      | .go p => check_Plain.nx13
theorem check_Plain_ok {E : World} {H : FP} {w : World} {a1 : PModule} {v2 : Value} {r : GErr} (h3 : SlI kFunc H a1.funcs v2) (hp : check_Plain a1 = some r) (hst : St E H [] w) :
    Fn Try.prog 39 #[.agg #[v2]] w fun v w' => ∃ A, check_Plain.R r v A ∧ St E H A w' := by
 refine fb 28 [.tmp 2] Try.func39 rfl rfl rfl rfl rfl hst <| sr <| tb [v2] rfl rfl fun b4 => ta rfl <| nz <| TC.seq fun K1 k2 => sr <| tv (lA (ds := [v2]) ag_35 0 rfl rfl rfl rfl) rfl <| bE hp fun x5 hy3 hp => tc 0 [_] rfl c56 (fun _ => check_Module_ok (a1 := a1) (h3.mono subH) hy3) rfl ?_
 rintro _ _ ⟨v6, F7, rfl, rfl, h8⟩
 refine ta rfl <| nz <| sr <| tm rfl <| tv (rv_neqEN ifc_27 h8 rfl) rfl <| nz <| cD rfl hp (fun hc5 hp => ?_) fun hc5 hp => ?_
 · exact sr <| tm rfl <| ta rfl <| nz <| TC.ret <| rt hp [0] ⟨v6, F7, rfl, rfl, h8⟩
 · refine sk k2 rfl <| TC.seq fun K6 k7 => sr <| tv (fa f35_0 rfl) rfl <| tv (lb s33 1 rfl rfl rfl) rfl <| tv (ln u33 h3 rfl) rfl <| tm rfl <| nz <| TC.block <| bE hp fun z_9 hz10 hr11 => ?_
   have J15 {e14} (hq16 : .go () = z_9) : ∀ w, St E H [] w → K6 (ovr e14 []) w := by
    subst hq16
    replace hp : check_Plain.nx13 = some r := hr11
    exact tg k7 <| sr <| ta rfl <| nz <| TC.ret <| W.new0 <| rt hp [0] ⟨.nilIface, ([] : FP), rfl, rfl, (ErO.nil : ErO 70 96 98 GErr.no .nilIface [])⟩
   refine lp hz10 [] rfl (fun s e L => ∃ e8, e = ovr e8 [(12, v2), (13, .int .i64 (len a1.funcs)), (14, .int .i64 s)] ∧ L = []) ⟨_, ovr_eq _ _ rfl, rfl⟩ ?_
   rintro x9 _ _ ⟨e8, rfl, rfl⟩ X12 hp hx13
   replace hp : check_Plain.bd13 a1 x9 = some X12 := hp
   refine sr <| tv (blt rfl rfl) rfl <| nz <| TC.seq fun K17 k18 => cD rfl hp (fun hc19 hp => ?_) fun hc19 hp => ?_
   · refine sk k18 rfl <| TC.seq fun K20 k21 => TC.block <| sr <| tm rfl <| ti u33 i40 h3 hp rfl rfl rfl rfl ?_
     rintro x11 b12 o13 _ hp ⟨v17, v19, rfl, h18, h20⟩ h16
     refine tv (lR (ds := [.int .i64 x11.params, .int .i64 x11.result, v17, v19]) ag_40 sH h16 0 rfl rfl rfl) rfl <| tl i40 rfl fun b21 => ta rfl <| tS 0 m40 rfl rfl [.int .i64 x11.params, .int .i64 x11.result, v17, v19] rfl (oc rfl (oc rfl (oc (h18).one (oc (h20).one oc0)))) rfl rfl <| nz <| sr <| tv (fa f40_3 rfl) rfl <| tv (lb s38 0 rfl rfl rfl) rfl <| bE hp fun x22 hy23 hp => tc 0 [_] rfl c71 (fun _ => slices_ContainsFunc_api_Block_api_Block_check_Plain_1_ok (a1 := x11.blocks) (h20.mono subH) hy23) rfl ?_
     rintro _ _ ⟨rfl, rfl⟩
     refine nz <| cB rfl hp (fun hc25 hp => ?_) fun hc25 hp => ?_
     · refine sr <| tm rfl <| tv (mI u70 rfl) rfl <| tv (rv_bv (vs := [(0, .int .i64 x9), (1, .iface 70 (.int .i64 6))]) (ds := [.int .i64 x9, .iface 70 (.int .i64 6)]) rfl (fun w => by kernel_rfl)) rfl <| tb [.int .i64 x9, .iface 70 (.int .i64 6)] rfl rfl fun b23 => TL.new0 <| tv (mI u96 rfl) rfl <| tp [1, 0, 2] [_,_,_] rfl rfl <| tf 0 2 [_,_] rfl <| ta rfl <| nz <| TC.ret ?_
       obtain rfl := ex_ret hp hx13
       exact rt hr11 [0] ⟨(.iface 96 (.pointer (some ⟨b23, 0, none⟩))), (bx b23 98 [.int .i64 x9, (.iface 70 (.int .i64 6))] ++ (([] : FP))), rfl, rfl, (ErO.at_ x9 b23 (ErO.mk _ : ErO 70 96 98 (GErr.code 6) (.iface 70 (.int .i64 6)) []))⟩
     · exact sk k21 rfl <| TC.region <| tv (bad rfl rfl) rfl <| tm rfl <| nl <| gk hp [] ⟨_, ovr_eq _ _ rfl, rfl⟩
   · exact TC.exit <| jn [] (J15 (ex_ret hp hx13))
/-! ### fettle/graph.ahead -/
abbrev graph_ahead.R (r : List (List Int)) (v : Value) (A : List FP) : Prop := ∃ (w1 : Value) (G1 : FP), w1 = v ∧ A = [G1] ∧ SlO 25 (kSl 3 (kInt .i64)) r w1 G1
def graph_ahead.nx9  (x12 : List (List Int)) : Option (List (List Int)) :=
  some x12
def graph_ahead.nx24 (x11 : Int) (x27 : List (List Int)) : Option (Ex (List (List Int)) (List (List Int) × Int)) :=
  some (.go (x27, (w64 (x11 + 1))))
def graph_ahead.bd24 (x11 : Int) (x15 : List Int) (x23 : List (List Int)) (x26 : Int) : Option (Ex (List (List Int)) (List (List Int) × Int)) :=
  if x26 < (len x15) then
    (idx x15 x26).bind fun x30 =>
    (idx x23 x30).bind fun x36 =>
    (cat x36 [x11]).bind fun x46 =>
    some (.go ((x23.set (x30).toNat x46), (w64 (x26 + 1))))
  else
    some (.ret x23)
def graph_ahead.bd9 (a1 : List (List Int)) (x8 : List (List Int)) (x11 : Int) : Option (Ex (List (List Int)) (List (List Int) × Int)) :=
  if x11 < (len a1) then
    (idx a1 x11).bind fun x15 =>
    (whl (fun (s : (List (List Int) × Int)) => graph_ahead.bd24 x11 x15 s.1 s.2) FUEL (x8, 0)).bind fun z =>
    graph_ahead.nx24 x11 z
  else
    some (.ret x8)
def graph_ahead (a1 : List (List Int)) : Option (List (List Int)) :=
  (mkl (len a1) ([] : List Int)).bind fun x4 =>
  (whl (fun (s : (List (List Int) × Int)) => graph_ahead.bd9 a1 s.1 s.2) FUEL (x4, 0)).bind fun z =>
  graph_ahead.nx9 z
set_option maxHeartbeats 4000000 in
theorem graph_ahead_ok {E : World} {H : FP} {w : World} {a1 : List (List Int)} {v2 : Value} {r : List (List Int)} (h3 : SlI (kSl 3 (kInt .i64)) H a1 v2) (hp : graph_ahead a1 = some r) (hst : St E H [] w) :
    Fn Try.prog 53 #[v2] w fun v w' => ∃ A, graph_ahead.R r v A ∧ St E H A w' := by
 refine fb 37 [.tmp 2] Try.func53 rfl rfl rfl rfl rfl hst <| sr <| ta rfl <| nz <| sr <| tm rfl <| tv (ln u60 h3 rfl) rfl <| tk (k := (kSl 3 (kInt .i64))) u60 i25 hp ⟨_, rfl, SlO.nil 3⟩ rfl rfl rfl rfl rfl rfl fun x4 v5 F6 h7 hp => ta rfl <| nz <| TC.seq fun K2 k3 => sr <| tm rfl <| tv (ln u60 h3 rfl) rfl <| tm rfl <| nz <| TC.block <| bE hp fun z_5 hz6 hr7 => ?_
 have J11 {x12 F13 e10} (h14 : SlO 25 (kSl 3 (kInt .i64)) x12 v5 F13) (hq12 : x12 = z_5) : ∀ w, St E H [F13] w → K2 (ovr e10 [(3, v5)]) w := by
  subst hq12
  replace hp : graph_ahead.nx9 x12 = some r := hr7
  exact tg k3 <| sr <| tm rfl <| ta rfl <| nz <| TC.ret <| rt hp [0] ⟨v5, F13, rfl, rfl, h14⟩
 refine lp hz6 [0] rfl (fun s e L => ∃ x8 x11 F9 e4, s = (x8, x11) ∧ SlO 25 (kSl 3 (kInt .i64)) x8 v5 F9 ∧ e = ovr e4 [(3, v5), (11, v2), (12, .int .i64 (len a1)), (13, .int .i64 x11)] ∧ L = [F9]) ⟨_, _, F6, _, rfl, h7, ovr_eq _ _ rfl, rfl⟩ ?_
 rintro _ _ _ ⟨x8, x11, F9, e4, rfl, h10, rfl, rfl⟩ X8 hp hx9
 replace hp : graph_ahead.bd9 a1 x8 x11 = some X8 := hp
 refine sr <| tv (blt rfl rfl) rfl <| nz <| TC.seq fun K13 k14 => cD rfl hp (fun hc15 hp => ?_) fun hc15 hp => ?_
 · refine sk k14 rfl <| TC.seq fun K16 k17 => TC.block <| sr <| tm rfl <| ti u60 i25 h3 hp rfl rfl rfl rfl ?_
   rintro x15 b16 o17 _ hp ⟨v21, rfl, h22⟩ h20
   refine tv (lr s25 sH h20 0 rfl rfl) rfl <| ta rfl <| ta rfl <| nz <| sr <| tm rfl <| tv (ln u25 h22 rfl) rfl <| tm rfl <| nz <| TC.block <| bE hp fun z_20 hz21 hr22 => ?_
   have J26 {x27 F28 e25} (h29 : SlO 25 (kSl 3 (kInt .i64)) x27 v5 F28) (hq27 : x27 = z_20) : ∀ w, St E H [F28] w → K16 (ovr e25 [(3, v5), (11, v2), (12, .int .i64 (len a1)), (13, .int .i64 x11)]) w := by
    subst hq27
    replace hp : graph_ahead.nx24 x11 x27 = some X8 := hr22
    exact tg k17 <| TC.region <| tv (bad rfl rfl) rfl <| tm rfl <| nl <| gk hp [0] ⟨_, _, F28, _, rfl, h29, ovr_eq _ _ rfl, rfl⟩
   refine lp hz21 [0] rfl (fun s e L => ∃ x23 x26 F24 e19, s = (x23, x26) ∧ SlO 25 (kSl 3 (kInt .i64)) x23 v5 F24 ∧ e = ovr e19 [(3, v5), (4, .int .i64 x11), (11, v2), (12, .int .i64 (len a1)), (13, .int .i64 x11), (18, v21), (19, .int .i64 (len x15)), (20, .int .i64 x26)] ∧ L = [F24]) ⟨_, _, F9, _, rfl, h10, ovr_eq _ _ rfl, rfl⟩ ?_
   rintro _ _ _ ⟨x23, x26, F24, e19, rfl, h25, rfl, rfl⟩ X23 hp hx24
   replace hp : graph_ahead.bd24 x11 x15 x23 x26 = some X23 := hp
   refine sr <| tv (blt rfl rfl) rfl <| nz <| TC.seq fun K28 k29 => cD rfl hp (fun hc30 hp => ?_) fun hc30 hp => ?_
   · refine sk k29 rfl <| TC.seq fun K31 k32 => TC.block <| sr <| ti u25 i3 h22 hp rfl rfl rfl rfl ?_
     rintro x30 b31 o32 _ hp rfl h35
     refine tv (lr s3 sH h35 0 rfl rfl) rfl <| ta rfl <| nz <| TC.region <| tm rfl <| tm rfl <| tm rfl <| tm rfl <| bE hp fun x36 hx34 hp => TL.open_ h25 hx34 ?_
     rintro b37 _ F39 F40 h41 ⟨v43, rfl, h44⟩
     exact tv (rv_ixH u60 i25 rfl rfl (idx_some hx34).1 h41) rfl <| tv (lr s25 (Src.at_ 0 rfl) (Hole.cells h41) 0 rfl rfl) rfl <| tm rfl <| tbs [(0, .int .i64 x11)] [.int .i64 x11] u25 i3 (by kernel_rfl) rfl rfl rfl rfl fun b45 => tp [2, 0, 1] [_,_,_] rfl rfl <| tf 2 0 [_,_,_,_] rfl <| tp2 u25 i3 h44 hp (RepL.to (RepL.cons (k := (kInt .i64)) (x := x11) ⟨rfl, rfl⟩ RepL.nil) rfl) rfl rfl rfl rfl rfl rfl rfl rfl rfl fun x46 v47 F48 h49 hp => tv (rv_ixH u60 i25 rfl rfl (idx_some hx34).1 h41) rfl <| tp [1, 0] [_,_] rfl rfl <| tsH h41 m25 0 rfl h49.o1 rfl fun F51 h52 => nl <| tg k32 <| TC.region <| tv (bad rfl rfl) rfl <| tm rfl <| nl <| W.shut (a := x46) h52 ⟨_, rfl, h49⟩ fun F53 h54 => gk hp [0] ⟨_, _, F53, _, rfl, h54, ovr_eq _ _ rfl, rfl⟩
   · exact TC.exit <| jn [0] (J26 h25 (ex_ret hp hx24))
 · exact TC.exit <| jn [0] (J11 h10 (ex_ret hp hx9))
/-! ### slices.Clone[[]int,int] -/
abbrev slices_Clone.R (r : List Int) (v : Value) (A : List FP) : Prop := ∃ (w1 : Value) (G1 : FP), w1 = v ∧ A = [G1] ∧ SlO 3 (kInt .i64) r w1 G1
def slices_Clone (a1 : List Int) : Option (List Int) :=
  (cat ([] : List Int) a1).bind fun x7 =>
  some x7
theorem slices_Clone_ok {E : World} {H : FP} {w : World} {a1 : List Int} {v2 : Value} {r : List Int} (h3 : SlI (kInt .i64) H a1 v2) (hp : slices_Clone a1 = some r) (hst : St E H [] w) :
    Fn Try.prog 54 #[v2] w fun v w' => ∃ A, slices_Clone.R r v A ∧ St E H A w' := by
 refine fb 8 [.tmp 2] Try.func54 rfl rfl rfl rfl rfl hst <| sr <| ta rfl <| nz <| TC.seq fun K1 k2 => sr <| tm rfl ?_
 obtain ⟨q4, hq3, hv4⟩ := nilEq (P := Try.prog) Try.underlying25 h3
 refine tv (rv_nil rfl hv4) rfl <| nz ?_
 by_cases hc5 : q4 = true
 · replace hp : ((cat ([] : List Int) a1).bind fun x7 => some x7) = some r := hp
   have hx7 := hq3 hc5
   replace hp : (some ([] : List Int)) = some r := by rw [hx7] at hp; simpa [cat, LIM] using hp
   exact TC.condT (bbT hc5) <| sr <| ta rfl <| nz <| TC.ret <| W.new0 <| rt hp [0] ⟨(.slice none 0 0), ([] : FP), rfl, rfl, (SlO.nil 3)⟩
 · exact TC.condF (bbF hc5) <| sk k2 rfl <| sr <| TL.bs0 u25 i3 (ltb rfl) fun b6 => tm rfl <| tpI (fInt .i64) u25 i3 (SlO.lit0 (k := (kInt .i64)) b6) h3 sH hp rfl rfl rfl rfl rfl rfl rfl fun x7 v8 F9 h10 hp => ta rfl <| nz <| TC.ret <| rt hp [0] ⟨v8, F9, rfl, rfl, h10⟩
/-! ### fettle/graph.kept -/
abbrev graph_kept.R (r : List Int) (v : Value) (A : List FP) : Prop := ∃ (w1 : Value) (G1 : FP), w1 = v ∧ A = [G1] ∧ SlO 3 (kInt .i64) r w1 G1
def graph_kept.nx13  (x19 : List Int) : Option (List Int) :=
  some x19
def graph_kept.jn23 (x18 : Int) (x23 : List Int) : Option (Ex (List Int) (List Int × Int)) :=
  some (.go (x23, (w64 (x18 + 1))))
def graph_kept.bd13 (a1 : List Int) (a4 : List Int) (a7 : List Bool) (x14 : List Int) (x18 : Int) : Option (Ex (List Int) (List Int × Int)) :=
  if x18 < (len a1) then
    (idx a1 x18).bind fun x27 =>
    (idx a4 x18).bind fun x33 =>
    (idx a7 x33).bind fun x39 =>
    if x39 = true then
      (cat x14 [x27]).bind fun x46 =>
      graph_kept.jn23 x18 x46
    else
      graph_kept.jn23 x18 x14
  else
    some (.ret x14)
def graph_kept (a1 : List Int) (a4 : List Int) (a7 : List Bool) : Option (List Int) :=
  if ¬ (len a1) = (len a4) then
    (slices_Clone a1).bind fun x10 =>
    some x10
  else
    (whl (fun (s : (List Int × Int)) => graph_kept.bd13 a1 a4 a7 s.1 s.2) FUEL (([] : List Int), 0)).bind fun z =>
    graph_kept.nx13 z
theorem graph_kept_ok {E : World} {H : FP} {w : World} {a1 : List Int} {a4 : List Int} {a7 : List Bool} {v2 : Value} {v5 : Value} {v8 : Value} {r : List Int} (h3 : SlI (kInt .i64) H a1 v2) (h6 : SlI (kInt .i64) H a4 v5) (h9 : SlI kBool H a7 v8) (hp : graph_kept a1 a4 a7 = some r) (hst : St E H [] w) :
    Fn Try.prog 55 #[v2, v5, v8] w fun v w' => ∃ A, graph_kept.R r v A ∧ St E H A w' := by
 refine fb 37 [.tmp 6] Try.func55 rfl rfl rfl rfl rfl hst <| sr <| ta rfl <| nz <| TC.seq fun K1 k2 => sr <| tm rfl <| tv (ln u25 h3 rfl) rfl <| tm rfl <| tv (ln u25 h6 rfl) rfl <| tv (bne rfl rfl) rfl <| nz <| cD rfl hp (fun hc3 hp => ?_) fun hc3 hp => ?_
 · refine sr <| tm rfl <| bE hp fun x10 hy4 hp => tc 0 [] rfl c54 (fun _ => slices_Clone_ok (a1 := a1) (h3.mono subH) hy4) rfl ?_
   rintro _ _ ⟨v11, F12, rfl, rfl, h13⟩
   exact ta rfl <| nz <| TC.ret <| rt hp [0] ⟨v11, F12, rfl, rfl, h13⟩
 · refine sk k2 rfl <| sr <| ta rfl <| nz <| TC.seq fun K6 k7 => sr <| tm rfl <| tv (ln u25 h3 rfl) rfl <| tm rfl <| nz <| TC.block <| bE hp fun z_9 hz10 hr11 => ?_
   have J15 {x19 v20 F21 e14} (h22 : SlO 3 (kInt .i64) x19 v20 F21) (hq16 : x19 = z_9) : ∀ w, St E H [F21] w → K6 (ovr e14 [(7, v20)]) w := by
    subst hq16
    replace hp : graph_kept.nx13 x19 = some r := hr11
    exact tg k7 <| sr <| tm rfl <| ta rfl <| nz <| TC.ret <| rt hp [0] ⟨v20, F21, rfl, rfl, h22⟩
   refine W.new0 <| lp hz10 [0] rfl (fun s e L => ∃ x14 x18 v15 F16 e8, s = (x14, x18) ∧ SlO 3 (kInt .i64) x14 v15 F16 ∧ e = ovr e8 [(1, v5), (2, v8), (7, v15), (17, v2), (18, .int .i64 (len a1)), (19, .int .i64 x18)] ∧ L = [F16]) ⟨_, _, (.slice none 0 0), ([] : FP), _, rfl, (SlO.nil 3), ovr_eq _ _ rfl, rfl⟩ ?_
   rintro _ _ _ ⟨x14, x18, v15, F16, e8, rfl, h17, rfl, rfl⟩ X12 hp hx13
   replace hp : graph_kept.bd13 a1 a4 a7 x14 x18 = some X12 := hp
   refine sr <| tv (blt rfl rfl) rfl <| nz <| TC.seq fun K17 k18 => cD rfl hp (fun hc19 hp => ?_) fun hc19 hp => ?_
   · refine sk k18 rfl <| TC.seq fun K20 k21 => ?_
     have J23 {x23 v24 F25 e22} (h26 : SlO 3 (kInt .i64) x23 v24 F25) (hp : graph_kept.jn23 x18 x23 = some X12) : ∀ w, St E H [F25] w → K20 (ovr e22 [(1, v5), (2, v8), (7, v24), (17, v2), (18, .int .i64 (len a1)), (19, .int .i64 x18)]) w := by
      exact tg k21 <| TC.region <| tv (bad rfl rfl) rfl <| tm rfl <| nl <| gk hp [0] ⟨_, _, v24, F25, _, rfl, h26, ovr_eq _ _ rfl, rfl⟩
     refine TC.block <| sr <| tm rfl <| ti u25 i3 h3 hp rfl rfl rfl rfl ?_
     rintro x27 b28 o29 _ hp rfl h32
     refine tv (lr s3 sH h32 0 rfl rfl) rfl <| ta rfl <| ta rfl <| nz <| sr <| tm rfl <| tm rfl <| tm rfl <| ti u25 i3 h6 hp rfl rfl rfl rfl ?_
     rintro x33 b34 o35 _ hp rfl h38
     refine tv (lr s3 sH h38 0 rfl rfl) rfl <| ti u88 i4 h9 hp rfl rfl rfl rfl ?_
     rintro x39 b40 o41 _ hp rfl h44
     refine tv (lr s4 sH h44 0 rfl rfl) rfl <| nz <| cB rfl hp (fun hc27 hp => ?_) fun hc27 hp => ?_
     · exact TC.region <| tm rfl <| tm rfl <| tbs [(0, .int .i64 x27)] [.int .i64 x27] u25 i3 (by kernel_rfl) rfl rfl rfl rfl fun b45 => tp [1, 0] [_,_] rfl rfl <| tf 2 0 [_,_,_] rfl <| tp2 u25 i3 h17 hp (RepL.to (RepL.cons (k := (kInt .i64)) (x := x27) ⟨rfl, rfl⟩ RepL.nil) rfl) rfl rfl rfl rfl rfl rfl rfl rfl rfl fun x46 v47 F48 h49 hp => ta rfl <| nl <| jn [0] (J23 h49 hp)
     · exact TC.skip <| jn [0] (J23 h17 hp)
   · exact TC.exit <| jn [0] (J15 h17 (ex_ret hp hx13))
end Go.Proofs.Yteaknconpkklhaa
