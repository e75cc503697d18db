/- The walk through the program's functions: each one's pure reading, and that a call does what it says. No conditions. -/
import Derived.Test.YteaknconpkklhaaW13
set_option linter.unusedVariables false
set_option linter.unusedSimpArgs false
namespace Go.Proofs.Yteaknconpkklhaa
open Go Go.Proofs
/-! ### fettle/fettleref02.Copy -/
abbrev fettleref02_Copy.R (r : PModule) (v : Value) (A : List FP) : Prop := ∃ (w1 : Value) (G1 : FP), .agg #[w1] = v ∧ A = [G1] ∧ SlO 40 kFunc r.funcs w1 G1
def fettleref02_Copy.nx8  (x12 : List PFunc) : Option PModule :=
  some (⟨x12⟩ : PModule)
def fettleref02_Copy.jn18 (x11 : Int) (x16 : List PFunc) : Option (Ex (List PFunc) (List PFunc × Int)) :=
  some (.go (x16, (w64 (x11 + 1))))
def fettleref02_Copy.bd8 (a1 : PModule) (x7 : List PFunc) (x11 : Int) : Option (Ex (List PFunc) (List PFunc × Int)) :=
  if x11 < (len a1.funcs) then
    (idx a1.funcs x11).bind fun x2021 =>
    (fettleref02_CopyFunc x2021).bind fun x2821 =>
    (cat x7 [x2821]).bind fun x3621 =>
    fettleref02_Copy.jn18 x11 x3621
  else
    some (.ret x7)
def fettleref02_Copy (a1 : PModule) : Option PModule :=
  (whl (fun (s : (List PFunc × Int)) => fettleref02_Copy.bd8 a1 s.1 s.2) FUEL (([] : List PFunc), 0)).bind fun z =>
  fettleref02_Copy.nx8 z
set_option maxHeartbeats 4000000 in
theorem fettleref02_Copy_ok {E : World} {H : FP} {w : World} {a1 : PModule} {v2 : Value} {r : PModule} (h3 : SlI kFunc H a1.funcs v2) (hp : fettleref02_Copy a1 = some r) (hst : St E H [] w) :
    Fn Try.prog 16 #[.agg #[v2]] w fun v w' => ∃ A, fettleref02_Copy.R r v A ∧ St E H A w' := by
 refine Fn.bodyV (fn := Try.f16) (args := [.agg #[v2]]) E H [] 24 Try.func16 rfl rfl (leb rfl) hst <| sr <| tb [v2] rfl rfl fun b4 => tl i35 rfl fun b5 => nz <| sr <| tl i35 rfl fun b6 => nz <| TC.seq fun K1 k2 => sr <| ta rfl <| nz <| TC.block <| bE hp fun z_4 hz5 hr6 => ?_
 have J10 {x12 v13 F14 e9} (h15 : SlO 40 kFunc x12 v13 F14) (hq11 : x12 = z_4) : ∀ w, St E H [bx b5 35 [.slice none 0 0], bx b6 35 [v13], F14] w → K1 (ovr e9 [(2, .pointer (some ⟨b5, 0, none⟩)), (3, .pointer (some ⟨b6, 0, none⟩))]) w := by
  subst hq11
  replace hp : fettleref02_Copy.nx8 x12 = some r := hr6
  refine tg k2 <| sr <| tv (lA (ds := [v13]) ag_35 1 rfl rfl rfl rfl) rfl <| tS 0 m35 rfl rfl [v13] rfl (oc (h15).one oc0) rfl rfl <| nz <| TC.ret ?_
  obtain rfl := Option.some.inj hp
  exact fun w hw => retC1 hw rfl rfl ag_35 0 rfl rfl ⟨v13, F14, rfl, rfl, h15⟩ (hw.pickA [2] rfl)
 refine W.new0 <| lp hz5 [3, 2, 1, 0] rfl (fun s e L => ∃ x7 x11 v8 F9 e3, s = (x7, x11) ∧ SlO 40 kFunc x7 v8 F9 ∧ e = ovr e3 [(1, .pointer (some ⟨b4, 0, none⟩)), (2, .pointer (some ⟨b5, 0, none⟩)), (3, .pointer (some ⟨b6, 0, none⟩)), (4, .int .i64 x11)] ∧ L = [bx b4 35 [v2], bx b5 35 [.slice none 0 0], bx b6 35 [v8], F9]) ⟨_, _, (.slice none 0 0), ([] : FP), _, rfl, (SlO.nil 40), ovr_eq _ _ rfl, rfl⟩ ?_
 rintro _ _ _ ⟨x7, x11, v8, F9, e3, rfl, h10, rfl, rfl⟩ X7 hp hx8
 replace hp : fettleref02_Copy.bd8 a1 x7 x11 = some X7 := hp
 refine TC.seq fun K12 k13 => sr <| tm rfl <| tv (fa f35_0 rfl) rfl <| tv (lb s33 0 rfl rfl rfl) rfl <| tv (ln u33 h3 rfl) rfl <| tv (blt rfl rfl) rfl <| nz <| cD rfl hp (fun hc14 hp => ?_) fun hc14 hp => ?_
 · refine sk k13 rfl <| TC.seq fun K15 k16 => ?_
   have J18 {x16 v17 F18 e17} (h19 : SlO 40 kFunc x16 v17 F18) (hp : fettleref02_Copy.jn18 x11 x16 = some X7) : ∀ w, St E H [bx b4 35 [v2], bx b5 35 [.slice none 0 0], bx b6 35 [v17], F18] w → K15 (ovr e17 [(1, .pointer (some ⟨b4, 0, none⟩)), (2, .pointer (some ⟨b5, 0, none⟩)), (3, .pointer (some ⟨b6, 0, none⟩)), (4, .int .i64 x11)]) w := by
    exact tg k16 <| TC.region <| tm rfl <| tv (bad rfl rfl) rfl <| ta rfl <| nl <| gk hp [0, 1, 2, 3] ⟨_, _, v17, F18, _, rfl, h19, ovr_eq _ _ rfl, rfl⟩
   refine TC.block <| ch mix [bx b4 35 [v2], bx b5 35 [.slice none 0 0]] (srcG 0 rfl (srcG 1 rfl srcG0)) <| hv 0 rfl (fa f35_0 rfl) (by kernel_rfl) rfl <| hv 2 rfl (fa f35_0 rfl) (by kernel_rfl) rfl <| hv 3 rfl (lbG s33 0 rfl rfl rfl) (by kernel_rfl) rfl <| hv 4 rfl mv (by kernel_rfl) rfl <| hi 5 rfl u33 i40 h3 hp rfl rfl rfl (by kernel_rfl) rfl ?_
   rintro x2021 b2022 o2023 _ hp ⟨v2027, v2029, rfl, h2028, h2030⟩ h2026
   refine hv 6 rfl (lR (ds := [.int .i64 x2021.params, .int .i64 x2021.result, v2027, v2029]) ag_40 srcInH h2026 0 rfl rfl rfl) (by kernel_rfl) rfl <| HL.all [1, 7] (by kernel_rfl) (by simp) (HL.al ⟨_, rfl, fun K20 k21 => ?_⟩ (HL.al ⟨_, rfl, fun K33 k34 => ?_⟩ HL.al0))
   · refine tv (lb s33 2 rfl rfl rfl) rfl <| hk k21 (srcG 0 rfl (srcG 1 rfl srcG0)) <| ho 7 rfl (by kernel_rfl) fun K22 k23 => bE hp fun x2821 hy24 hp => tc 0 [_,_,_,_] rfl c18 (fun _ => fettleref02_CopyFunc_ok (a1 := x2021) (h2028.mono subH) (h2030.mono subH) hy24) rfl ?_
     rintro _ _ ⟨v2822, F2823, v2825, F2826, rfl, rfl, h2824, h2827⟩
     exact hk k23 (srcG 2 rfl (srcG 3 rfl srcG0)) <| ho 8 rfl (by kernel_rfl) fun K26 k27 => tbs [(0, .agg #[.int .i64 x2821.params, .int .i64 x2821.result, v2822, v2825])] [.int .i64 x2821.params, .int .i64 x2821.result, v2822, v2825] u33 i40 (by kernel_rfl) rfl rfl rfl rfl fun b3221 => hk k27 (srcG 3 rfl (srcG 4 rfl srcG0)) <| ho 9 rfl (by kernel_rfl) fun K28 k29 => tp [6, 0, 1, 2, 3, 4, 5] [_,_,_,_,_,_,_] rfl rfl <| tf 2 2 [_,_,_,_,_,_] rfl <| tp2 u33 i40 h10 hp (RepL.to (G' := F2823 ++ (F2826)) (RepL.cons (k := kFunc) (x := x2821) ⟨_, _, _, _, rfl, rfl, h2824, h2827⟩ RepL.nil) (by simp)) rfl rfl rfl rfl rfl rfl rfl rfl rfl fun x3621 v3622 F3623 h3624 hp => hk k29 (srcG 1 rfl (srcG 2 rfl srcG0)) <| hv 10 rfl (fa f35_0 rfl) (by kernel_rfl) rfl <| ho 11 rfl (by kernel_rfl) fun K31 k32 => ts 3 m33 rfl rfl h3624.o1 rfl <| hk k32 (srcG 1 rfl (srcG 2 rfl srcG0)) <| hz (by kernel_rfl) <| jn [1, 2, 3, 0] (J18 h3624 hp)
   · refine bE hp fun x2821 hy35 hp => tc 0 [_,_,_,_] rfl c18 (fun _ => fettleref02_CopyFunc_ok (a1 := x2021) (h2028.mono subH) (h2030.mono subH) hy35) rfl ?_
     rintro _ _ ⟨v2822, F2823, v2825, F2826, rfl, rfl, h2824, h2827⟩
     refine hk k34 (srcG 2 rfl (srcG 3 rfl srcG0)) <| HL.all [1, 8] (by kernel_rfl) (by simp) (HL.al ⟨_, rfl, fun K37 k38 => ?_⟩ (HL.al ⟨_, rfl, fun K46 k47 => ?_⟩ HL.al0))
     · exact tv (lb s33 4 rfl rfl rfl) rfl <| hk k38 (srcG 2 rfl (srcG 3 rfl srcG0)) <| ho 8 rfl (by kernel_rfl) fun K39 k40 => tbs [(0, .agg #[.int .i64 x2821.params, .int .i64 x2821.result, v2822, v2825])] [.int .i64 x2821.params, .int .i64 x2821.result, v2822, v2825] u33 i40 (by kernel_rfl) rfl rfl rfl rfl fun b3221 => hk k40 (srcG 3 rfl (srcG 4 rfl srcG0)) <| ho 9 rfl (by kernel_rfl) fun K41 k42 => tp [6, 0, 1, 2, 3, 4, 5] [_,_,_,_,_,_,_] rfl rfl <| tf 2 2 [_,_,_,_,_,_] rfl <| tp2 u33 i40 h10 hp (RepL.to (G' := F2823 ++ (F2826)) (RepL.cons (k := kFunc) (x := x2821) ⟨_, _, _, _, rfl, rfl, h2824, h2827⟩ RepL.nil) (by simp)) rfl rfl rfl rfl rfl rfl rfl rfl rfl fun x3621 v3622 F3623 h3624 hp => hk k42 (srcG 1 rfl (srcG 2 rfl srcG0)) <| hv 10 rfl (fa f35_0 rfl) (by kernel_rfl) rfl <| ho 11 rfl (by kernel_rfl) fun K44 k45 => ts 3 m33 rfl rfl h3624.o1 rfl <| hk k45 (srcG 1 rfl (srcG 2 rfl srcG0)) <| hz (by kernel_rfl) <| jn [1, 2, 3, 0] (J18 h3624 hp)
     · exact tbs [(0, .agg #[.int .i64 x2821.params, .int .i64 x2821.result, v2822, v2825])] [.int .i64 x2821.params, .int .i64 x2821.result, v2822, v2825] u33 i40 (by kernel_rfl) rfl rfl rfl rfl fun b3221 => hk k47 (srcG 3 rfl (srcG 4 rfl srcG0)) <| ho 1 rfl (by kernel_rfl) fun K48 k49 => tv (lb s33 5 rfl rfl rfl) rfl <| hk k49 (srcG 3 rfl (srcG 4 rfl srcG0)) <| ho 9 rfl (by kernel_rfl) fun K50 k51 => tp [6, 0, 1, 2, 3, 4, 5] [_,_,_,_,_,_,_] rfl rfl <| tf 2 2 [_,_,_,_,_,_] rfl <| tp2 u33 i40 h10 hp (RepL.to (G' := F2823 ++ (F2826)) (RepL.cons (k := kFunc) (x := x2821) ⟨_, _, _, _, rfl, rfl, h2824, h2827⟩ RepL.nil) (by simp)) rfl rfl rfl rfl rfl rfl rfl rfl rfl fun x3621 v3622 F3623 h3624 hp => hk k51 (srcG 1 rfl (srcG 2 rfl srcG0)) <| hv 10 rfl (fa f35_0 rfl) (by kernel_rfl) rfl <| ho 11 rfl (by kernel_rfl) fun K53 k54 => ts 3 m33 rfl rfl h3624.o1 rfl <| hk k54 (srcG 1 rfl (srcG 2 rfl srcG0)) <| hz (by kernel_rfl) <| jn [1, 2, 3, 0] (J18 h3624 hp)
 · exact TC.exit <| jn [1, 2, 3] (J10 h10 (ex_ret hp hx8))
/-! ### fettle/fettlelaw13.ProperBuilt -/
abbrev fettlelaw13_ProperBuilt.R (r : Bool) (v : Value) (A : List FP) : Prop := .bool r = v ∧ A = []
def fettlelaw13_ProperBuilt (a1 : PModule) (a4 : Int) : Option Bool :=
  (fettlelaw13_up).bind fun x6 =>
  (fettleref02_Small a1).bind fun x7 =>
  if (!x7) = true then
    some x6
  else
    (ssa_Build a1 a4).bind fun x8 =>
    if ((¬ x8.2 = GErr.no) ∨ a4 < 0) ∨ a4 ≥ (len a1.funcs) then
      some (decide (x6 = true ∧ (¬ x8.2 = GErr.no)))
    else
      (fettleref02_Copy a1).bind fun x19 =>
      (idx x19.funcs a4).bind fun x24 =>
      (proper_Form (⟨(x19.funcs.set (a4).toNat x8.1)⟩ : PModule) a4).bind fun x30 =>
      some (decide (x6 = true ∧ x30 = GErr.no))
set_option maxHeartbeats 4000000 in
theorem fettlelaw13_ProperBuilt_ok {E : World} {H : FP} {w : World} {a1 : PModule} {a4 : Int} {v2 : Value} {r : Bool} (h3 : SlI kFunc H a1.funcs v2) (hp : fettlelaw13_ProperBuilt a1 a4 = some r) (hst : St E H [] w) :
    Fn Try.prog 6 #[.agg #[v2], .int .i64 a4] w fun v w' => ∃ A, fettlelaw13_ProperBuilt.R r v A ∧ St E H A w' := by
 refine fb 56 [.tmp 4] Try.func6 rfl rfl rfl rfl rfl hst <| sr <| tb [v2] rfl rfl fun b5 => ta rfl <| nz <| sr <| bE hp fun x6 hy1 hp => tc 0 [_] rfl c22 (fun _ => fettlelaw13_up_ok hy1) rfl ?_
 rintro _ _ ⟨rfl, rfl⟩
 refine ta rfl <| nz <| sr <| tv (lA (ds := [v2]) ag_35 0 rfl rfl rfl rfl) rfl <| bE hp fun x7 hy3 hp => tc 0 [_] rfl c15 (fun _ => fettleref02_Small_ok (a1 := a1) (h3.mono subH) hy3) rfl ?_
 rintro _ _ ⟨rfl, rfl⟩
 refine ta rfl <| nz <| TC.seq fun K5 k6 => sr <| tm rfl <| tv (rv_not rfl) rfl <| nz <| cB rfl hp (fun hc7 hp => ?_) fun hc7 hp => ?_
 · exact sr <| tm rfl <| ta rfl <| nz <| TC.ret <| rt hp [] ⟨rfl, rfl⟩
 · refine sk k6 rfl <| sr <| tv (lA (ds := [v2]) ag_35 0 rfl rfl rfl rfl) rfl <| tm rfl <| bE hp fun x8 hy8 hp => tc 0 [_] rfl c17 (fun _ => ssa_Build_ok (a1 := a1) (a4 := a4) (h3.mono subH) hy8) rfl ?_
   rintro _ _ ⟨v9, F10, v12, F13, v15, F16, rfl, rfl, h11, h14, h17⟩
   refine tm rfl <| tv (xt rfl rfl) rfl <| tv (xt rfl rfl) rfl <| tl i40 rfl fun b18 => tS 0 m40 rfl rfl [.int .i64 x8.1.params, .int .i64 x8.1.result, v9, v12] rfl (oc rfl (oc rfl (oc (h11).one (oc (h14).one oc0)))) rfl rfl <| ta rfl <| nz <| TC.seq fun K10 k11 => sr <| tm rfl <| tv (rv_neqEN ifc_27 h17 rfl) rfl <| tm rfl <| TL.cut 3 fun K12 k13 => ?_
   have J14 {e16} : ∀ w, St E H [bx b18 40 [.int .i64 x8.1.params, .int .i64 x8.1.result, v9, v12], F10, F13, F16, bx b5 35 [v2]] w → K12 (ovr e16 [(28, .bool (decide ((¬ x8.2 = GErr.no) ∨ a4 < 0))), (1, .int .i64 a4), (2, .pointer (some ⟨b5, 0, none⟩)), (5, .bool x6), (7, .pointer (some ⟨b18, 0, none⟩)), (8, v15)]) w := by
    refine tlg k13 <| tm rfl <| TL.cut 6 fun K17 k18 => ?_
    have J19 {e21} : ∀ w, St E H [bx b18 40 [.int .i64 x8.1.params, .int .i64 x8.1.result, v9, v12], F10, F13, F16, bx b5 35 [v2]] w → K17 (ovr e21 [(35, .bool (decide (((¬ x8.2 = GErr.no) ∨ a4 < 0) ∨ a4 ≥ (len a1.funcs)))), (1, .int .i64 a4), (2, .pointer (some ⟨b5, 0, none⟩)), (5, .bool x6), (7, .pointer (some ⟨b18, 0, none⟩)), (8, v15)]) w := by
     refine tlg k18 <| nz <| cD rfl hp (fun hc22 hp => ?_) fun hc22 hp => ?_
     · refine sr <| tm rfl <| tm rfl <| TL.cut 3 fun K23 k24 => ?_
       have J25 {e27} : ∀ w, St E H [bx b18 40 [.int .i64 x8.1.params, .int .i64 x8.1.result, v9, v12], F10, F13, F16, bx b5 35 [v2]] w → K23 (ovr e27 [(40, .bool (decide (x6 = true ∧ (¬ x8.2 = GErr.no))))]) w := by
        exact tlg k24 <| ta rfl <| nz <| TC.ret <| rt hp [] ⟨rfl, rfl⟩
       by_cases hc26 : x6 = true
       · exact gy rfl (bbT hc26) <| tm rfl <| gy rfl (bbT hc26) <| tv (rv_neqEN ifc_27 h17 rfl) rfl <| tv (pT (bbT hc26)) rfl <| nj J25 (bAt hc26)
       · exact gn rfl (bbF hc26) rfl rfl <| gn rfl (bbF hc26) rfl rfl <| tv (pF (bbF hc26)) rfl <| nj J25 (bAf hc26)
     · refine sk k11 rfl <| sr <| tv (lA (ds := [v2]) ag_35 4 rfl rfl rfl rfl) rfl <| bE hp fun x19 hy28 hp => tc 0 [_,_,_,_,_] rfl c16 (fun _ => fettleref02_Copy_ok (a1 := a1) (h3.mono subH) hy28) rfl ?_
       rintro _ _ ⟨v20, F21, rfl, rfl, h22⟩
       refine tl i35 rfl fun b23 => tS 0 m35 rfl rfl [v20] rfl (oc (h22).one oc0) rfl rfl <| nz <| sr <| tv (fa f35_0 rfl) rfl <| tv (lb s33 0 rfl rfl rfl) rfl <| tm rfl <| tv (lA (ds := [.int .i64 x8.1.params, .int .i64 x8.1.result, v9, v12]) ag_40 2 rfl rfl rfl rfl) rfl <| tO u33 i40 h22 hp rfl rfl rfl rfl fun x24 b25 o26 h27 hp => tp [1, 3, 4, 0, 2, 5, 6] [_,_,_,_,_,_,_] rfl rfl <| tf 1 2 [_,_,_,_,_,_] rfl <| TL.stE (ds := [.int .i64 x8.1.params, .int .i64 x8.1.result, v9, v12]) (u := .agg #[.int .i64 x8.1.params, .int .i64 x8.1.result, v9, v12]) (a := x8.1) h22 h27 m40 rfl rfl rfl ⟨_, _, _, _, rfl, rfl, h11, h14⟩ fun F28 h29 => nz <| sr <| tv (lA (ds := [v20]) ag_35 1 rfl rfl rfl rfl) rfl <| tm rfl <| bE hp fun x30 hy31 hp => tc 0 [_,_,_,_,_] rfl c23 (fun _ => proper_Form_ok (a1 := (⟨(x19.funcs.set (a4).toNat x8.1)⟩ : PModule)) (a4 := a4) (h29.ro.mono (subB 0 rfl)) hy31) rfl ?_
       rintro _ _ ⟨v31, F32, rfl, rfl, h33⟩
       refine ta rfl <| nz <| sr <| tm rfl <| tm rfl <| TL.cut 3 fun K33 k34 => ?_
       have J35 {e37} : ∀ w, St E H [F32, F28, bx b23 35 [v20], bx b18 40 [.int .i64 x8.1.params, .int .i64 x8.1.result, v9, v12], F16, bx b5 35 [v2]] w → K33 (ovr e37 [(55, .bool (decide (x6 = true ∧ x30 = GErr.no)))]) w := by
        exact tlg k34 <| ta rfl <| nz <| TC.ret <| rt hp [] ⟨rfl, rfl⟩
       by_cases hc36 : x6 = true
       · exact gy rfl (bbT hc36) <| tm rfl <| gy rfl (bbT hc36) <| tv (rv_eqlEN ifc_27 h33 rfl) rfl <| tv (pT (bbT hc36)) rfl <| nj J35 (bAt hc36)
       · exact gn rfl (bbF hc36) rfl rfl <| gn rfl (bbF hc36) rfl rfl <| tv (pF (bbF hc36)) rfl <| nj J35 (bAf hc36)
    by_cases hc20 : (¬ x8.2 = GErr.no) ∨ a4 < 0
    · exact gn rfl (bT hc20) rfl rfl <| gn rfl (bT hc20) rfl rfl <| gn rfl (bT hc20) rfl rfl <| gn rfl (bT hc20) rfl rfl <| gn rfl (bT hc20) rfl rfl <| tv (pT (bT hc20)) rfl <| nj J19 (bOt hc20)
    · exact gy rfl (bF hc20) <| tm rfl <| gy rfl (bF hc20) <| tv (fa f35_0 rfl) rfl <| gy rfl (bF hc20) <| tv (lb s33 4 rfl rfl rfl) rfl <| gy rfl (bF hc20) <| tv (ln u33 h3 rfl) rfl <| gy rfl (bF hc20) <| tv (bge rfl rfl) rfl <| tv (pF (bF hc20)) rfl <| nj J19 (bOf hc20)
   by_cases hc15 : ¬ x8.2 = GErr.no
   · exact gn rfl (bT hc15) rfl rfl <| gn rfl (bT hc15) rfl rfl <| tv (pT (bT hc15)) rfl <| nj J14 (bOt hc15)
   · exact gy rfl (bF hc15) <| tm rfl <| gy rfl (bF hc15) <| tv (blt rfl rfl) rfl <| tv (pF (bF hc15)) rfl <| nj J14 (bOf hc15)
end Go.Proofs.Yteaknconpkklhaa
