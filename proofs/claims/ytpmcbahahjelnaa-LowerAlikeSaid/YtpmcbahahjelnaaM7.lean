/- The walk through the program's functions: each one's pure reading, and that a call does what it says. No conditions. -/
import Derived.Test.YtpmcbahahjelnaaM6
set_option linter.unusedVariables false
set_option linter.unusedSimpArgs false
namespace Go.Proofs.Ytpmcbahahjelnaa
open Go Go.Proofs

/-! ### fettle/proper.Form -/
abbrev proper_Form.R (r : GErr) (v : Value) (A : List FP) : Prop := ∃ (w1 : Value) (G1 : FP), w1 = v ∧ A = [G1] ∧ ErO 63 106 108 r w1 G1
def proper_Form.nx35 (x11 : PFunc) (x27 : List PMaker × List Int) : Option GErr :=
  (dom_Dominates x11).bind fun x1236 =>
  (proper_looker_all (⟨(⟨x11.params, x11.result, x11.regs, x11.blocks⟩ : PFunc), x27.1, x1236, -1⟩ : PProperLooker)).bind fun x2836 =>
  if x2836 ≥ 0 then
    some (GErr.spot x2836 (GErr.code 4))
  else
    some GErr.no
def proper_Form.bd35 (x11 : PFunc) (x27 : List PMaker × List Int) (x34 : Int) : Option (Ex (Ex GErr Unit) Int) :=
  if x34 < (len x27.2) then
    (idx x27.2 x34).bind fun x2841 =>
    if x2841 > 1 ∨ (x2841 > 0 ∧ x34 < x11.params) then
      some (.ret (.ret (GErr.spot x34 (GErr.code 7))))
    else
      some (.go (w64 (x34 + 1)))
  else
    some (.ret (.go ()))
def proper_Form.nx24 (x11 : PFunc) : Option GErr :=
  (proper_made x11).bind fun x27 =>
  (whl (fun (s : Int) => proper_Form.bd35 x11 x27 s) FUEL 0).bind fun z =>
  match z with
    | .ret r => some r
    | .go p => proper_Form.nx35 x11 x27
def proper_Form.bd24 (x22 : List Bool) (x26 : Int) : Option (Ex (Ex GErr Unit) Int) :=
  if x26 < (len x22) then
    (idx x22 x26).bind fun x2850 =>
    if (!x2850) = true then
      some (.ret (.ret (GErr.code 6)))
    else
      some (.go (w64 (x26 + 1)))
  else
    some (.ret (.go ()))
def proper_Form (a1 : PModule) (a4 : Int) : Option GErr :=
  (check_Module a1).bind fun x6 =>
  if ¬ x6 = GErr.no then
    some x6
  else
    if a4 < 0 ∨ a4 ≥ (len a1.funcs) then
      some (GErr.code 1)
    else
      (idx a1.funcs a4).bind fun x11 =>
      (graph_Reached x11).bind fun x22 =>
      (whl (fun (s : Int) => proper_Form.bd24 x22 s) FUEL 0).bind fun z =>
      match z with
        | .ret r => some r
        | .go p => proper_Form.nx24 x11
set_option maxHeartbeats 4000000 in
theorem proper_Form_ok {E : World} {H : FP} {w : World} {a1 : PModule} {a4 : Int} {v2 : Value} {r : GErr} (h3 : SlI kFunc H a1.funcs v2) (hp : proper_Form a1 a4 = some r) (hst : St E H [] w) :
    Fn Try.prog 26 #[.agg #[v2], .int .i64 a4] w fun v w' => ∃ A, proper_Form.R r v A ∧ St E H A w' := by
 refine fb 96 [.tmp 4] Try.func26 rfl rfl rfl rfl rfl hst <| sr <| tb [v2] rfl rfl fun b5 => ta rfl <| nz <| TC.seq fun K1 k2 => sr <| tv (lA (ds := [v2]) ag_35 0 rfl rfl rfl rfl) rfl <| bE hp fun x6 hy3 hp => tc 0 [_] rfl c47 (fun _ => check_Module_ok (a1 := a1) (h3.mono subH) hy3) rfl ?_
 rintro _ _ ⟨v7, F8, rfl, rfl, h9⟩
 refine ta rfl <| nz <| sr <| tm rfl <| tv (rv_neqEN ifc_27 h9 rfl) rfl <| nz <| cD rfl hp (fun hc5 hp => ?_) fun hc5 hp => ?_
 · exact sr <| tm rfl <| ta rfl <| nz <| TC.ret <| rt hp [0] ⟨v7, F8, rfl, rfl, h9⟩
 · refine sk k2 rfl <| TC.seq fun K6 k7 => sr <| tm rfl <| tv (blt rfl rfl) rfl <| tm rfl <| TL.cut 6 fun K8 k9 => ?_
   have J10 {e12} : ∀ w, St E H [F8, bx b5 35 [v2]] w → K8 (ovr e12 [(27, .bool (decide (a4 < 0 ∨ a4 ≥ (len a1.funcs)))), (1, .int .i64 a4), (2, .pointer (some ⟨b5, 0, none⟩))]) w := by
    refine tlg k9 <| nz <| cD rfl hp (fun hc13 hp => ?_) fun hc13 hp => ?_
    · exact sr <| tv (mI u63 rfl) rfl <| ta rfl <| nz <| TC.ret <| W.new0 <| rt hp [0] ⟨(.iface 63 (.int .i64 1)), ([] : FP), rfl, rfl, (ErO.mk _ : ErO 63 106 108 (GErr.code 1) (.iface 63 (.int .i64 1)) [])⟩
    · refine sk k7 rfl <| sr <| tv (fa f35_0 rfl) rfl <| tv (lb s33 1 rfl rfl rfl) rfl <| tm rfl <| ti u33 i41 h3 hp rfl rfl rfl rfl ?_
      rintro x11 b12 o13 _ hp ⟨v17, v19, rfl, h18, h20⟩ h16
      refine tv (lR (ds := [.int .i64 x11.params, .int .i64 x11.result, v17, v19]) ag_41 sH h16 0 rfl rfl rfl) rfl <| tl i41 rfl fun b21 => tS 0 m41 rfl rfl [.int .i64 x11.params, .int .i64 x11.result, v17, v19] rfl (oc rfl (oc rfl (oc (h18).one (oc (h20).one oc0)))) rfl rfl <| nz <| TC.seq fun K15 k16 => sr <| tv (lA (ds := [.int .i64 x11.params, .int .i64 x11.result, v17, v19]) ag_41 0 rfl rfl rfl rfl) rfl <| bE hp fun x22 hy17 hp => tc 0 [_,_,_] rfl c48 (fun _ => graph_Reached_ok (a1 := x11) (h18.mono subH) (h20.mono subH) hy17) rfl ?_
      rintro _ _ ⟨v23, F24, rfl, rfl, h25⟩
      refine tv (ln u58 h25.ro rfl) rfl <| tm rfl <| nz <| TC.block <| bE hp fun z_20 hz21 hr22 => ?_
      have J71 {e25} (hq72 : .go () = z_20) : ∀ w, St E H [bx b21 41 [.int .i64 x11.params, .int .i64 x11.result, v17, v19]] w → K15 (ovr e25 [(6, .pointer (some ⟨b21, 0, none⟩))]) w := by
       subst hq72
       replace hp : proper_Form.nx24 x11 = some r := hr22
       refine tg k16 <| sr <| tv (lA (ds := [.int .i64 x11.params, .int .i64 x11.result, v17, v19]) ag_41 0 rfl rfl rfl rfl) rfl <| bE hp fun x27 hy26 hp => tc 0 [_] rfl c49 (fun _ => proper_made_ok (a1 := x11) (h18.mono subH) (h20.mono subH) hy26) rfl ?_
       rintro _ _ ⟨v28, F29, v31, F32, rfl, rfl, h30, h33⟩
       refine tm rfl <| tv (xt rfl rfl) rfl <| tv (xt rfl rfl) rfl <| ta rfl <| ta rfl <| nz <| TC.seq fun K28 k29 => sr <| tm rfl <| tv (ln u25 h33.ro rfl) rfl <| tm rfl <| nz <| TC.block <| bE hp fun z_31 hz32 hr33 => ?_
       have J50 {e36} (hq51 : .go () = z_31) : ∀ w, St E H [bx b21 41 [.int .i64 x11.params, .int .i64 x11.result, v17, v19], F29] w → K28 (ovr e36 [(6, .pointer (some ⟨b21, 0, none⟩)), (9, v28)]) w := by
        subst hq51
        replace hp : proper_Form.nx35 x11 x27 = some r := hr33
        refine tg k29 <| TC.seq fun K37 k38 => ch mix [bx b21 41 [.int .i64 x11.params, .int .i64 x11.result, v17, v19], F29] (srcG 0 rfl (srcG 1 rfl srcG0)) <| hv 0 rfl (lAG (ds := [.int .i64 x11.params, .int .i64 x11.result, v17, v19]) ag_41 0 rfl rfl rfl rfl) (by kernel_rfl) rfl <| hv 1 rfl mv (by kernel_rfl) rfl <| hv 2 rfl (lAG (ds := [.int .i64 x11.params, .int .i64 x11.result, v17, v19]) ag_41 0 rfl rfl rfl rfl) (by kernel_rfl) rfl <| ho 3 rfl (by kernel_rfl) fun K39 k40 => bE hp fun x1236 hy41 hp => tc 0 [_,_] rfl c50 (fun _ => dom_Dominates_ok (a1 := x11) (h18.mono subH) (h20.mono subH) hy41) rfl ?_
        rintro _ _ ⟨v1237, F1238, rfl, rfl, h1239⟩
        refine hk k40 (srcG 1 rfl (srcG 2 rfl srcG0)) <| hv 4 rfl (rv_bv (vs := [(0, .agg #[.int .i64 x11.params, .int .i64 x11.result, v17, v19]), (1, v28), (2, v1237), (3, .int .i64 (-1))]) (ds := [.int .i64 x11.params, .int .i64 x11.result, v17, v19, v28, v1237, .int .i64 (-1)]) rfl (fun w => by obtain ⟨_, _, rfl⟩ := (h30).len; obtain ⟨_, _, rfl⟩ := (h1239).len; kernel_rfl)) (by kernel_rfl) rfl <| ho 5 rfl (by kernel_rfl) fun K43 k44 => tb [.int .i64 x11.params, .int .i64 x11.result, v17, v19, v28, v1237, .int .i64 (-1)] rfl rfl fun b2036 => hk k44 (srcG 2 rfl (srcG 3 rfl srcG0)) <| hv 6 rfl sg (by kernel_rfl) rfl <| hz (by kernel_rfl) <| tg k38 <| sr <| tm rfl <| bE hp fun x2836 hy45 hp => tc 1 [_,_,_] rfl c51 (fun _ => proper_looker_all_ok (a2 := (⟨(⟨x11.params, x11.result, x11.regs, x11.blocks⟩ : PFunc), x27.1, x1236, -1⟩ : PProperLooker)) (h18.mono subH) (h20.mono subH) (h30.ro.mono (subB 2 rfl)) (h1239.ro.mono (subB 0 rfl)) hy45) rfl ?_
        rintro _ _ ⟨rfl, rfl⟩
        refine nz <| TC.seq fun K47 k48 => sr <| tm rfl <| tv (rv_nilCheck rfl) rfl <| tv (fa f112_3 rfl) rfl <| tv (lb s3 0 rfl rfl rfl) rfl <| tv (bge rfl rfl) rfl <| nz <| cD rfl hp (fun hc49 hp => ?_) fun hc49 hp => ?_
        · exact sr <| tm rfl <| tv (rv_nilCheck rfl) rfl <| tv (fa f112_3 rfl) rfl <| tv (lb s3 0 rfl rfl rfl) rfl <| tv (mI u63 rfl) rfl <| tv (rv_bv (vs := [(0, .int .i64 x2836), (1, .iface 63 (.int .i64 4))]) (ds := [.int .i64 x2836, .iface 63 (.int .i64 4)]) rfl (fun w => by kernel_rfl)) rfl <| tb [.int .i64 x2836, .iface 63 (.int .i64 4)] rfl rfl fun b2837 => TL.new0 <| tv (mI u106 rfl) rfl <| tp [1, 0, 2, 3, 4, 5] [_,_,_,_,_,_] rfl rfl <| tf 0 2 [_,_,_,_,_] rfl <| ta rfl <| nz <| TC.ret <| rt hp [0] ⟨(.iface 106 (.pointer (some ⟨b2837, 0, none⟩))), (bx b2837 108 [.int .i64 x2836, (.iface 63 (.int .i64 4))] ++ (([] : FP))), rfl, rfl, (ErO.at_ x2836 b2837 (ErO.mk _ : ErO 63 106 108 (GErr.code 4) (.iface 63 (.int .i64 4)) []))⟩
        · exact sk k48 rfl <| sr <| ta rfl <| nz <| TC.ret <| W.new0 <| rt hp [0] ⟨.nilIface, ([] : FP), rfl, rfl, (ErO.nil : ErO 63 106 108 GErr.no .nilIface [])⟩
       refine lp hz32 [2, 0, 1] rfl (fun s e L => ∃ e30, e = ovr e30 [(6, .pointer (some ⟨b21, 0, none⟩)), (9, v28), (50, v31), (51, .int .i64 (len x27.2)), (52, .int .i64 s)] ∧ L = [bx b21 41 [.int .i64 x11.params, .int .i64 x11.result, v17, v19], F29, F32]) ⟨_, ovr_eq _ _ rfl, rfl⟩ ?_
       rintro x34 _ _ ⟨e30, rfl, rfl⟩ X34 hp hx35
       replace hp : proper_Form.bd35 x11 x27 x34 = some X34 := hp
       refine sr <| tv (blt rfl rfl) rfl <| nz <| TC.seq fun K52 k53 => cD rfl hp (fun hc54 hp => ?_) fun hc54 hp => ?_
       · refine sk k53 rfl <| TC.seq fun K55 k56 => TC.block <| sr <| tm rfl <| ti u25 i3 (h33).ro hp rfl rfl rfl rfl ?_
         rintro x2841 b2842 o2843 _ hp rfl h2846
         refine tv (lr s3 (Src.at_ 2 rfl) h2846 0 rfl rfl) rfl <| ta rfl <| ta rfl <| nz <| sr <| tm rfl <| tv (bgt rfl rfl) rfl <| tm rfl <| TL.cut 9 fun K58 k59 => ?_
         have J60 {e62} : ∀ w, St E H [bx b21 41 [.int .i64 x11.params, .int .i64 x11.result, v17, v19], F29, F32] w → K58 (ovr e62 [(68, .bool (decide (x2841 > 1 ∨ (x2841 > 0 ∧ x34 < x11.params)))), (6, .pointer (some ⟨b21, 0, none⟩)), (9, v28), (11, .int .i64 x34), (50, v31), (51, .int .i64 (len x27.2)), (52, .int .i64 x34)]) w := by
          refine tlg k59 <| nz <| cD rfl hp (fun hc63 hp => ?_) fun hc63 hp => ?_
          · refine sr <| tm rfl <| tv (mI u63 rfl) rfl <| tv (rv_bv (vs := [(0, .int .i64 x34), (1, .iface 63 (.int .i64 7))]) (ds := [.int .i64 x34, .iface 63 (.int .i64 7)]) rfl (fun w => by kernel_rfl)) rfl <| tb [.int .i64 x34, .iface 63 (.int .i64 7)] rfl rfl fun b2847 => TL.new0 <| tv (mI u106 rfl) rfl <| tp [1, 0, 2, 3, 4] [_,_,_,_,_] rfl rfl <| tf 0 2 [_,_,_,_] rfl <| ta rfl <| nz <| TC.ret ?_
            obtain rfl := ex_ret hp hx35
            exact rt hr33 [0] ⟨(.iface 106 (.pointer (some ⟨b2847, 0, none⟩))), (bx b2847 108 [.int .i64 x34, (.iface 63 (.int .i64 7))] ++ (([] : FP))), rfl, rfl, (ErO.at_ x34 b2847 (ErO.mk _ : ErO 63 106 108 (GErr.code 7) (.iface 63 (.int .i64 7)) []))⟩
          · exact sk k56 rfl <| TC.region <| tv (bad rfl rfl) rfl <| tm rfl <| nl <| gk hp [0, 1, 2] ⟨_, ovr_eq _ _ rfl, rfl⟩
         by_cases hc61 : x2841 > 1
         · exact gn rfl (bT hc61) rfl rfl <| gn rfl (bT hc61) rfl rfl <| gn rfl (bT hc61) rfl rfl <| gu rfl rfl rfl <| gu rfl rfl rfl <| gu rfl rfl rfl <| gu rfl rfl rfl <| gn rfl (bT hc61) rfl rfl <| tv (pT (bT hc61)) rfl <| nj J60 (bOt hc61)
         · refine gy rfl (bF hc61) <| tm rfl <| gy rfl (bF hc61) <| tv (bgt rfl rfl) rfl <| gy rfl (bF hc61) <| tm rfl <| TL.cut 5 fun K64 k65 => ?_
           have J66 {e68} : ∀ w, St E H [bx b21 41 [.int .i64 x11.params, .int .i64 x11.result, v17, v19], F29, F32] w → K64 (ovr e68 [(67, .bool (decide (x2841 > 0 ∧ x34 < x11.params))), (6, .pointer (some ⟨b21, 0, none⟩)), (9, v28), (11, .int .i64 x34), (50, v31), (51, .int .i64 (len x27.2)), (52, .int .i64 x34), (59, .bool (decide (x2841 > 1))), (60, .int .i64 x2841), (61, .bool (decide (x2841 > 0))), (62, .bool (decide (x2841 > 0)))]) w := by
            exact tlg k65 <| tv (pF (bF hc61)) rfl <| nj J60 (bOf hc61)
           by_cases hc67 : x2841 > 0
           · exact gy rfl (bT hc67) <| tm rfl <| gy rfl (bT hc67) <| tv (fa f41_0 rfl) rfl <| gy rfl (bT hc67) <| tv (lb s3 0 rfl rfl rfl) rfl <| gy rfl (bT hc67) <| tv (blt rfl rfl) rfl <| gy rfl (bF hc61) <| tv (pT (bT hc67)) rfl <| nj J66 (bAt hc67)
           · exact gn rfl (bF hc67) rfl rfl <| gn rfl (bF hc67) rfl rfl <| gn rfl (bF hc67) rfl rfl <| gn rfl (bF hc67) rfl rfl <| gy rfl (bF hc61) <| tv (pF (bF hc67)) rfl <| nj J66 (bAf hc67)
       · exact TC.exit <| jn [0, 1] (J50 (ex_ret hp hx35))
      refine lp hz21 [1, 0] rfl (fun s e L => ∃ e19, e = ovr e19 [(6, .pointer (some ⟨b21, 0, none⟩)), (35, v23), (36, .int .i64 (len x22)), (37, .int .i64 s)] ∧ L = [bx b21 41 [.int .i64 x11.params, .int .i64 x11.result, v17, v19], F24]) ⟨_, ovr_eq _ _ rfl, rfl⟩ ?_
      rintro x26 _ _ ⟨e19, rfl, rfl⟩ X23 hp hx24
      replace hp : proper_Form.bd24 x22 x26 = some X23 := hp
      refine sr <| tv (blt rfl rfl) rfl <| nz <| TC.seq fun K73 k74 => cD rfl hp (fun hc75 hp => ?_) fun hc75 hp => ?_
      · refine sk k74 rfl <| TC.seq fun K76 k77 => TC.block <| sr <| ti u58 i4 (h25).ro hp rfl rfl rfl rfl ?_
        rintro x2850 b2851 o2852 _ hp rfl h2855
        refine tv (lr s4 (Src.at_ 1 rfl) h2855 0 rfl rfl) rfl <| ta rfl <| nz <| sr <| tm rfl <| tv (rv_not rfl) rfl <| nz <| cB rfl hp (fun hc79 hp => ?_) fun hc79 hp => ?_
        · refine sr <| tv (mI u63 rfl) rfl <| ta rfl <| nz <| TC.ret <| W.new0 ?_
          obtain rfl := ex_ret hp hx24
          exact rt hr22 [0] ⟨(.iface 63 (.int .i64 6)), ([] : FP), rfl, rfl, (ErO.mk _ : ErO 63 106 108 (GErr.code 6) (.iface 63 (.int .i64 6)) [])⟩
        · exact sk k77 rfl <| TC.region <| tv (bad rfl rfl) rfl <| tm rfl <| nl <| gk hp [0, 1] ⟨_, ovr_eq _ _ rfl, rfl⟩
      · exact TC.exit <| jn [0] (J71 (ex_ret hp hx24))
   by_cases hc11 : a4 < 0
   · exact gn rfl (bT hc11) rfl rfl <| gn rfl (bT hc11) rfl rfl <| gn rfl (bT hc11) rfl rfl <| gn rfl (bT hc11) rfl rfl <| gn rfl (bT hc11) rfl rfl <| tv (pT (bT hc11)) rfl <| nj J10 (bOt hc11)
   · exact gy rfl (bF hc11) <| tm rfl <| gy rfl (bF hc11) <| tv (fa f35_0 rfl) rfl <| gy rfl (bF hc11) <| tv (lb s33 1 rfl rfl rfl) rfl <| gy rfl (bF hc11) <| tv (ln u33 h3 rfl) rfl <| gy rfl (bF hc11) <| tv (bge rfl rfl) rfl <| tv (pF (bF hc11)) rfl <| nj J10 (bOf hc11)

/-! ### slices.Clone[[]int,int] -/
abbrev slices_Clone.R (r : List Int) (v : Value) (A : List FP) : Prop := ∃ (w1 : Value) (G1 : FP), w1 = v ∧ A = [G1] ∧ SlO 3 (kInt .i64) r w1 G1
def slices_Clone (a1 : List Int) : Option (List Int) :=
  (cat ([] : List Int) a1).bind fun x7 =>
  some x7
theorem slices_Clone_ok {E : World} {H : FP} {w : World} {a1 : List Int} {v2 : Value} {r : List Int} (h3 : SlI (kInt .i64) H a1 v2) (hp : slices_Clone a1 = some r) (hst : St E H [] w) :
    Fn Try.prog 28 #[v2] w fun v w' => ∃ A, slices_Clone.R r v A ∧ St E H A w' := by
 refine fb 8 [.tmp 2] Try.func28 rfl rfl rfl rfl rfl hst <| sr <| ta rfl <| nz <| TC.seq fun K1 k2 => sr <| tm rfl ?_
 obtain ⟨q4, hq3, hv4⟩ := nilEq (P := Try.prog) Try.underlying25 h3
 refine tv (rv_nil rfl hv4) rfl <| nz ?_
 by_cases hc5 : q4 = true
 · replace hp : ((cat ([] : List Int) a1).bind fun x7 => some x7) = some r := hp
   have hx7 := hq3 hc5
   replace hp : (some ([] : List Int)) = some r := by rw [hx7] at hp; simpa [cat, LIM] using hp
   exact TC.condT (bbT hc5) <| sr <| ta rfl <| nz <| TC.ret <| W.new0 <| rt hp [0] ⟨(.slice none 0 0), ([] : FP), rfl, rfl, (SlO.nil 3)⟩
 · exact TC.condF (bbF hc5) <| sk k2 rfl <| sr <| TL.bs0 u25 i3 (ltb rfl) fun b6 => tm rfl <| tpI (fInt .i64) u25 i3 (SlO.lit0 (k := (kInt .i64)) b6) h3 sH hp rfl rfl rfl rfl rfl rfl rfl fun x7 v8 F9 h10 hp => ta rfl <| nz <| TC.ret <| rt hp [0] ⟨v8, F9, rfl, rfl, h10⟩

/-! ### fettle/lower.copied -/
abbrev lower_copied.R (r : PBlock) (v : Value) (A : List FP) : Prop := ∃ (w1 : Value) (G1 : FP) (w2 : Value) (G2 : FP) (w3 : Value) (G3 : FP), .agg #[w1, w2, .int .i64 r.term.kind, .int .i64 r.term.arg, w3] = v ∧ A = [G1, G2, G3] ∧ SlO 70 kPhi r.phis w1 G1 ∧ SlO 52 kInstr r.ins w2 G2 ∧ SlO 3 (kInt .i64) r.term.to w3 G3
def lower_copied.nx12 (a1 : PBlock) (x11 : List Int) (x20 : List PInstr) : Option PBlock :=
  some (⟨([] : List PPhi), x20, (⟨a1.term.kind, a1.term.arg, x11⟩ : PTerm)⟩ : PBlock)
def lower_copied.bd12 (a1 : PBlock) (x15 : List PInstr) (x19 : Int) : Option (Ex (List PInstr) (List PInstr × Int)) :=
  if x19 < (len a1.ins) then
    (idx a1.ins x19).bind fun x25 =>
    (slices_Clone x25.args).bind fun x34 =>
    (cat x15 [(⟨x25.op, x25.dst, x34, x25.imm, x25.fn⟩ : PInstr)]).bind fun x39 =>
    some (.go (x39, (w64 (x19 + 1))))
  else
    some (.ret x15)
def lower_copied.jn4 (a1 : PBlock) (x11 : List Int) : Option PBlock :=
  (whl (fun (s : (List PInstr × Int)) => lower_copied.bd12 a1 s.1 s.2) FUEL (([] : List PInstr), 0)).bind fun z =>
  lower_copied.nx12 a1 x11 z
def lower_copied (a1 : PBlock) : Option PBlock :=
  (slices_Clone a1.term.to).bind fun x3645 =>
  lower_copied.jn4 a1 x3645
set_option maxHeartbeats 4000000 in
theorem lower_copied_ok {E : World} {H : FP} {w : World} {a1 : PBlock} {v2 : Value} {v4 : Value} {v6 : Value} {r : PBlock} (h3 : SlI kPhi H a1.phis v2) (h5 : SlI kInstr H a1.ins v4) (h7 : SlI (kInt .i64) H a1.term.to v6) (hp : lower_copied a1 = some r) (hst : St E H [] w) :
    Fn Try.prog 29 #[.agg #[v2, v4, .int .i64 a1.term.kind, .int .i64 a1.term.arg, v6]] w fun v w' => ∃ A, lower_copied.R r v A ∧ St E H A w' := by
 refine Fn.bodyV (fn := Try.f29) (args := [.agg #[v2, v4, .int .i64 a1.term.kind, .int .i64 a1.term.arg, v6]]) E H [] 37 Try.func29 rfl rfl (leb rfl) hst <| sr <| tb [v2, v4, .int .i64 a1.term.kind, .int .i64 a1.term.arg, v6] rfl rfl fun b8 => tl i50 rfl fun b9 => nz <| TC.seq fun K1 k2 => ?_
 have J4 {x11 b10 v12 F13 e3} (h14 : SlO 3 (kInt .i64) x11 v12 F13) (hp : lower_copied.jn4 a1 x11 = some r) : ∀ w, St E H [bx b8 50 [v2, v4, .int .i64 a1.term.kind, .int .i64 a1.term.arg, v6], bx b9 50 [.slice none 0 0, .slice none 0 0, .int .i64 0, .int .i64 0, .slice none 0 0], bx b10 50 [.slice none 0 0, .slice none 0 0, .int .i64 a1.term.kind, .int .i64 a1.term.arg, v12], F13] w → K1 (ovr e3 [(1, .pointer (some ⟨b8, 0, none⟩)), (2, .pointer (some ⟨b9, 0, none⟩)), (3, .pointer (some ⟨b10, 0, none⟩))]) w := by
  refine tg k2 <| TC.seq fun K5 k6 => sr <| tv (fa f50_1 rfl) rfl <| tv (lb s48 0 rfl rfl rfl) rfl <| tv (ln u48 h5 rfl) rfl <| tm rfl <| nz <| TC.block <| bE hp fun z_8 hz9 hr10 => ?_
  have J14 {x20 v21 F22 e13} (h23 : SlO 52 kInstr x20 v21 F22) (hq15 : x20 = z_8) : ∀ w, St E H [bx b9 50 [.slice none 0 0, .slice none 0 0, .int .i64 0, .int .i64 0, .slice none 0 0], bx b10 50 [.slice none 0 0, v21, .int .i64 a1.term.kind, .int .i64 a1.term.arg, v12], F22, F13] w → K5 (ovr e13 [(2, .pointer (some ⟨b9, 0, none⟩)), (3, .pointer (some ⟨b10, 0, none⟩))]) w := by
   subst hq15
   replace hp : lower_copied.nx12 a1 x11 x20 = some r := hr10
   refine tg k6 <| sr <| tv (lA (ds := [.slice none 0 0, v21, .int .i64 a1.term.kind, .int .i64 a1.term.arg, v12]) ag_50 1 rfl rfl rfl rfl) rfl <| tS 0 m50 rfl rfl [.slice none 0 0, v21, .int .i64 a1.term.kind, .int .i64 a1.term.arg, v12] rfl (oc rfl (oc (h23).one (oc rfl (oc rfl (oc (h14).one oc0))))) rfl rfl <| nz <| TC.ret <| W.new0 ?_
   obtain rfl := Option.some.inj hp
   exact fun w hw => retC1 hw rfl rfl ag_50 1 rfl rfl ⟨(.slice none 0 0), ([] : FP), v21, F22, v12, F13, rfl, rfl, (SlO.nil 70), h23, h14⟩ (hw.pickA [0, 3, 4] rfl)
  refine W.new0 <| lp hz9 [2, 3, 0, 4] rfl (fun s e L => ∃ x15 x19 v16 F17 e7, s = (x15, x19) ∧ SlO 52 kInstr x15 v16 F17 ∧ e = ovr e7 [(2, .pointer (some ⟨b9, 0, none⟩)), (3, .pointer (some ⟨b10, 0, none⟩)), (19, v4), (20, .int .i64 (len a1.ins)), (21, .int .i64 x19)] ∧ L = [bx b9 50 [.slice none 0 0, .slice none 0 0, .int .i64 0, .int .i64 0, .slice none 0 0], bx b10 50 [.slice none 0 0, v16, .int .i64 a1.term.kind, .int .i64 a1.term.arg, v12], F17, F13]) ⟨_, _, (.slice none 0 0), ([] : FP), _, rfl, (SlO.nil 52), ovr_eq _ _ rfl, rfl⟩ ?_
  rintro _ _ _ ⟨x15, x19, v16, F17, e7, rfl, h18, rfl, rfl⟩ X11 hp hx12
  replace hp : lower_copied.bd12 a1 x15 x19 = some X11 := hp
  refine sr <| tv (blt rfl rfl) rfl <| nz <| TC.seq fun K16 k17 => cD rfl hp (fun hc18 hp => ?_) fun hc18 hp => ?_
  · refine sk k17 rfl <| TC.seq fun K19 k20 => TC.block <| sr <| ti u48 i52 h5 hp rfl rfl rfl rfl ?_
    rintro x25 b26 o27 _ hp ⟨v31, rfl, h32⟩ h30
    refine tv (lR (ds := [.int .i64 x25.op, .int .i64 x25.dst, v31, .int .i64 x25.imm, .int .i64 x25.fn]) ag_52 sH h30 0 rfl rfl rfl) rfl <| tl i52 rfl fun b33 => tS 0 m52 rfl rfl [.int .i64 x25.op, .int .i64 x25.dst, v31, .int .i64 x25.imm, .int .i64 x25.fn] rfl (oc rfl (oc rfl (oc (h32).one (oc rfl (oc rfl oc0))))) rfl rfl <| nz <| sr <| tv (fa f52_2 rfl) rfl <| tv (lb s25 0 rfl rfl rfl) rfl <| bE hp fun x34 hy22 hp => tc 0 [_,_,_,_,_] rfl c28 (fun _ => slices_Clone_ok (a1 := x25.args) (h32.mono subH) hy22) rfl ?_
    rintro _ _ ⟨v35, F36, rfl, rfl, h37⟩
    exact tv (fa f52_2 rfl) rfl <| ts 1 m25 rfl rfl h37.o1 rfl <| nz <| TC.region <| tv (fa f50_1 rfl) rfl <| tv (lb s48 3 rfl rfl rfl) rfl <| tv (lA (ds := [.int .i64 x25.op, .int .i64 x25.dst, v35, .int .i64 x25.imm, .int .i64 x25.fn]) ag_52 1 rfl rfl rfl rfl) rfl <| tbs [(0, .agg #[.int .i64 x25.op, .int .i64 x25.dst, v35, .int .i64 x25.imm, .int .i64 x25.fn])] [.int .i64 x25.op, .int .i64 x25.dst, v35, .int .i64 x25.imm, .int .i64 x25.fn] u48 i52 (by kernel_rfl) rfl rfl rfl rfl fun b38 => tp [5, 0, 1, 2, 3, 4, 6] [_,_,_,_,_,_,_] rfl rfl <| tp2 u48 i52 h18 hp (RepL.to (G' := F36) (RepL.cons (k := kInstr) (x := (⟨x25.op, x25.dst, x34, x25.imm, x25.fn⟩ : PInstr)) ⟨_, _, rfl, rfl, h37⟩ RepL.nil) (by simp)) rfl rfl rfl rfl rfl rfl rfl rfl rfl fun x39 v40 F41 h42 hp => tv (fa f50_1 rfl) rfl <| ts 3 m48 rfl rfl h42.o1 rfl <| nl <| tg k20 <| TC.region <| tv (bad rfl rfl) rfl <| tm rfl <| nl <| gk hp [2, 3, 0, 4] ⟨_, _, v40, F41, _, rfl, h42, ovr_eq _ _ rfl, rfl⟩
  · exact TC.exit <| jn [0, 1, 2, 3] (J14 h18 (ex_ret hp hx12))
 refine ch mix [bx b9 50 [.slice none 0 0, .slice none 0 0, .int .i64 0, .int .i64 0, .slice none 0 0], bx b8 50 [v2, v4, .int .i64 a1.term.kind, .int .i64 a1.term.arg, v6]] (srcG 0 rfl (srcG 1 rfl srcG0)) <| hv 0 rfl (fa f50_2 rfl) (by kernel_rfl) rfl <| hv 1 rfl (fa f46_0 rfl) (by kernel_rfl) rfl <| hv 2 rfl (lbG s3 1 rfl rfl rfl) (by kernel_rfl) rfl <| hv 3 rfl (fa f50_2 rfl) (by kernel_rfl) rfl <| hv 4 rfl (fa f46_1 rfl) (by kernel_rfl) rfl <| hv 5 rfl (lbG s3 1 rfl rfl rfl) (by kernel_rfl) rfl <| hv 6 rfl (fa f50_2 rfl) (by kernel_rfl) rfl <| hv 7 rfl (fa f46_2 rfl) (by kernel_rfl) rfl <| hv 8 rfl (lbG s25 1 rfl rfl rfl) (by kernel_rfl) rfl <| HL.all [9, 12] (by kernel_rfl) (by simp) (HL.al ⟨_, rfl, fun K27 k28 => ?_⟩ (HL.al ⟨_, rfl, fun K35 k36 => ?_⟩ HL.al0))
 · refine bE hp fun x3645 hy29 hp => tc 0 [_,_] rfl c28 (fun _ => slices_Clone_ok (a1 := a1.term.to) (h7.mono subH) hy29) rfl ?_
   rintro _ _ ⟨v3646, F3647, rfl, rfl, h3648⟩
   exact hk k28 (srcG 1 rfl (srcG 2 rfl srcG0)) <| hv 10 rfl (rv_bv (vs := [(0, .int .i64 a1.term.kind), (1, .int .i64 a1.term.arg), (2, v3646)]) (ds := [.int .i64 a1.term.kind, .int .i64 a1.term.arg, v3646]) rfl (fun w => by obtain ⟨_, _, rfl⟩ := (h3648).len; kernel_rfl)) (by kernel_rfl) rfl <| hv 11 rfl (rv_bv (vs := [(2, .agg #[.int .i64 a1.term.kind, .int .i64 a1.term.arg, v3646])]) (ds := [.slice none 0 0, .slice none 0 0, .int .i64 a1.term.kind, .int .i64 a1.term.arg, v3646]) rfl (fun w => by kernel_rfl)) (by kernel_rfl) rfl <| ho 12 rfl (by kernel_rfl) fun K31 k32 => tl i50 rfl fun b4845 => hk k32 (srcG 2 rfl (srcG 3 rfl srcG0)) <| ho 13 rfl (by kernel_rfl) fun K33 k34 => tS 0 m50 rfl rfl [.slice none 0 0, .slice none 0 0, .int .i64 a1.term.kind, .int .i64 a1.term.arg, v3646] rfl (oc rfl (oc rfl (oc rfl (oc rfl (oc (h3648).one oc0))))) rfl rfl <| hk k34 (srcG 2 rfl (srcG 3 rfl srcG0)) <| hz (by kernel_rfl) <| jn [3, 2, 0, 1] (J4 h3648 hp)
 · refine tl i50 rfl fun b4845 => hk k36 (srcG 1 rfl (srcG 2 rfl srcG0)) <| ho 9 rfl (by kernel_rfl) fun K37 k38 => bE hp fun x3645 hy39 hp => tc 0 [_,_,_] rfl c28 (fun _ => slices_Clone_ok (a1 := a1.term.to) (h7.mono subH) hy39) rfl ?_
   rintro _ _ ⟨v3646, F3647, rfl, rfl, h3648⟩
   exact hk k38 (srcG 2 rfl (srcG 3 rfl srcG0)) <| hv 10 rfl (rv_bv (vs := [(0, .int .i64 a1.term.kind), (1, .int .i64 a1.term.arg), (2, v3646)]) (ds := [.int .i64 a1.term.kind, .int .i64 a1.term.arg, v3646]) rfl (fun w => by obtain ⟨_, _, rfl⟩ := (h3648).len; kernel_rfl)) (by kernel_rfl) rfl <| hv 11 rfl (rv_bv (vs := [(2, .agg #[.int .i64 a1.term.kind, .int .i64 a1.term.arg, v3646])]) (ds := [.slice none 0 0, .slice none 0 0, .int .i64 a1.term.kind, .int .i64 a1.term.arg, v3646]) rfl (fun w => by kernel_rfl)) (by kernel_rfl) rfl <| ho 13 rfl (by kernel_rfl) fun K41 k42 => tS 1 m50 rfl rfl [.slice none 0 0, .slice none 0 0, .int .i64 a1.term.kind, .int .i64 a1.term.arg, v3646] rfl (oc rfl (oc rfl (oc rfl (oc rfl (oc (h3648).one oc0))))) rfl rfl <| hk k42 (srcG 2 rfl (srcG 3 rfl srcG0)) <| hz (by kernel_rfl) <| jn [3, 2, 1, 0] (J4 h3648 hp)

/-! ### fettle/lower.moves -/
abbrev lower_moves.R (r : List PPair) (v : Value) (A : List FP) : Prop := ∃ (w1 : Value) (G1 : FP), w1 = v ∧ A = [G1] ∧ SlO 31 kPair r w1 G1
def lower_moves.nx8  (x10 : List PPair) : Option (List PPair) :=
  some x10
def lower_moves.bd8 (a1 : List PPhi) (a4 : Int) (x5 : List PPair) (x9 : Int) : Option (Ex (List PPair) (List PPair × Int)) :=
  if x9 < (len a1) then
    (idx a1 x9).bind fun x14 =>
    (idx x14.args a4).bind fun x2424 =>
    (cat x5 [(⟨x14.dst, x2424⟩ : PPair)]).bind fun x4024 =>
    some (.go (x4024, (w64 (x9 + 1))))
  else
    some (.ret x5)
def lower_moves (a1 : List PPhi) (a4 : Int) : Option (List PPair) :=
  (whl (fun (s : (List PPair × Int)) => lower_moves.bd8 a1 a4 s.1 s.2) FUEL (([] : List PPair), 0)).bind fun z =>
  lower_moves.nx8 z
theorem lower_moves_ok {E : World} {H : FP} {w : World} {a1 : List PPhi} {a4 : Int} {v2 : Value} {r : List PPair} (h3 : SlI kPhi H a1 v2) (hp : lower_moves a1 a4 = some r) (hst : St E H [] w) :
    Fn Try.prog 76 #[v2, .int .i64 a4] w fun v w' => ∃ A, lower_moves.R r v A ∧ St E H A w' := by
 refine fb 27 [.tmp 4] Try.func76 rfl rfl rfl rfl rfl hst <| sr <| ta rfl <| nz <| sr <| ta rfl <| nz <| TC.seq fun K1 k2 => sr <| tm rfl <| tv (ln u47 h3 rfl) rfl <| tm rfl <| nz <| TC.block <| bE hp fun z_4 hz5 hr6 => ?_
 have J10 {x10 v11 F12 e9} (h13 : SlO 31 kPair x10 v11 F12) (hq11 : x10 = z_4) : ∀ w, St E H [F12] w → K1 (ovr e9 [(5, v11)]) w := by
  subst hq11
  replace hp : lower_moves.nx8 x10 = some r := hr6
  exact tg k2 <| sr <| tm rfl <| ta rfl <| nz <| TC.ret <| rt hp [0] ⟨v11, F12, rfl, rfl, h13⟩
 refine W.new0 <| lp hz5 [0] rfl (fun s e L => ∃ x5 x9 v6 F7 e3, s = (x5, x9) ∧ SlO 31 kPair x5 v6 F7 ∧ e = ovr e3 [(1, .int .i64 a4), (5, v6), (8, v2), (9, .int .i64 (len a1)), (10, .int .i64 x9)] ∧ L = [F7]) ⟨_, _, (.slice none 0 0), ([] : FP), _, rfl, (SlO.nil 31), ovr_eq _ _ rfl, rfl⟩ ?_
 rintro _ _ _ ⟨x5, x9, v6, F7, e3, rfl, h8, rfl, rfl⟩ X7 hp hx8
 replace hp : lower_moves.bd8 a1 a4 x5 x9 = some X7 := hp
 refine sr <| tv (blt rfl rfl) rfl <| nz <| TC.seq fun K12 k13 => cD rfl hp (fun hc14 hp => ?_) fun hc14 hp => ?_
 · refine sk k13 rfl <| TC.seq fun K15 k16 => TC.block <| sr <| ti u47 i70 h3 hp rfl rfl rfl rfl ?_
   rintro x14 b15 o16 _ hp ⟨v20, rfl, h21⟩ h19
   refine tv (lR (ds := [.int .i64 x14.dst, v20]) ag_70 sH h19 0 rfl rfl rfl) rfl <| tl i70 rfl fun b22 => tS 0 m70 rfl rfl [.int .i64 x14.dst, v20] rfl (oc rfl (oc (h21).one oc0)) rfl rfl <| nz <| ch mix [bx b22 70 [.int .i64 x14.dst, v20]] (srcG 0 rfl srcG0) <| hv 0 rfl mv (by kernel_rfl) rfl <| hv 1 rfl (fa f70_0 rfl) (by kernel_rfl) rfl <| hv 2 rfl (lbG s3 0 rfl rfl rfl) (by kernel_rfl) rfl <| hv 3 rfl (fa f70_1 rfl) (by kernel_rfl) rfl <| hv 4 rfl (lbG s25 0 rfl rfl rfl) (by kernel_rfl) rfl <| hv 5 rfl mv (by kernel_rfl) rfl <| hi 6 rfl u25 i3 h21 hp rfl rfl rfl (by kernel_rfl) rfl ?_
   rintro x2424 b2425 o2426 _ hp rfl h2429
   exact hv 7 rfl (lr s3 srcInH h2429 0 rfl rfl) (by kernel_rfl) rfl <| hv 8 rfl (rv_bv (vs := [(0, .int .i64 x14.dst), (1, .int .i64 x2424)]) (ds := [.int .i64 x14.dst, .int .i64 x2424]) rfl (fun w => by kernel_rfl)) (by kernel_rfl) rfl <| ho 9 rfl (by kernel_rfl) fun K19 k20 => tbs [(0, .agg #[.int .i64 x14.dst, .int .i64 x2424])] [.int .i64 x14.dst, .int .i64 x2424] u22 i31 (by kernel_rfl) rfl rfl rfl rfl fun b3624 => hk k20 (srcG 1 rfl srcG0) <| ho 10 rfl (by kernel_rfl) fun K21 k22 => tp [2, 0, 1] [_,_,_] rfl rfl <| tf 2 0 [_,_,_,_] rfl <| tp2 u22 i31 h8 hp (RepL.to (RepL.cons (k := kPair) (x := (⟨x14.dst, x2424⟩ : PPair)) ⟨rfl, rfl⟩ RepL.nil) rfl) rfl rfl rfl rfl rfl rfl rfl rfl rfl fun x4024 v4025 F4026 h4027 hp => hk k22 (srcG 1 rfl srcG0) <| hv 11 rfl sg (by kernel_rfl) rfl <| hz (by kernel_rfl) <| tg k16 <| TC.region <| tv (bad rfl rfl) rfl <| tm rfl <| nl <| gk hp [0] ⟨_, _, v4025, F4026, _, rfl, h4027, ovr_eq _ _ rfl, rfl⟩
 · exact TC.exit <| jn [0] (J10 h8 (ex_ret hp hx8))
end Go.Proofs.Ytpmcbahahjelnaa
