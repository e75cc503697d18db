/- The walk through the program's functions: each one's pure reading, and that a call does what it says. No conditions. -/
import Derived.Test.YtpmcbahahjelnaaM1
set_option linter.unusedVariables false
set_option linter.unusedSimpArgs false
namespace Go.Proofs.Ytpmcbahahjelnaa
open Go Go.Proofs

/-! ### fettle/check.Ahead -/
abbrev check_Ahead.R (r : List (List Int)) (v : Value) (A : List FP) : Prop := ∃ (w1 : Value) (G1 : FP), w1 = v ∧ A = [G1] ∧ SlO 25 (kSl 3 (kInt .i64)) r w1 G1
def check_Ahead.nx9  (x15 : List (List Int)) : Option (List (List Int)) :=
  some x15
def check_Ahead.nx24 (x14 : Int) (x35 : List (List Int)) : Option (Ex (List (List Int)) (List (List Int) × Int)) :=
  some (.go (x35, (w64 (x14 + 1))))
def check_Ahead.jn34 (x34 : Int) (x38 : List (List Int)) : Option (Ex (List (List Int)) (List (List Int) × Int)) :=
  some (.go (x38, (w64 (x34 + 1))))
def check_Ahead.bd24 (x14 : Int) (x18 : PBlock) (x31 : List (List Int)) (x34 : Int) : Option (Ex (List (List Int)) (List (List Int) × Int)) :=
  if x34 < (len x18.term.to) then
    (idx x18.term.to x34).bind fun x41 =>
    (if x41 ≥ 0 ∧ x41 < (len x31) then (idx x31 x41).bind fun x67 =>
    (slices_Contains x67 x14).bind fun x75 =>
    some (!x75) else some false).bind fun t47 =>
    if t47 = true then
      (idx x31 x41).bind fun x48 =>
      (cat x48 [x14]).bind fun x58 =>
      check_Ahead.jn34 x34 (x31.set (x41).toNat x58)
    else
      check_Ahead.jn34 x34 x31
  else
    some (.ret x31)
def check_Ahead.bd9 (a1 : PFunc) (x11 : List (List Int)) (x14 : Int) : Option (Ex (List (List Int)) (List (List Int) × Int)) :=
  if x14 < (len a1.blocks) then
    (idx a1.blocks x14).bind fun x18 =>
    (whl (fun (s : (List (List Int) × Int)) => check_Ahead.bd24 x14 x18 s.1 s.2) FUEL (x11, 0)).bind fun z =>
    check_Ahead.nx24 x14 z
  else
    some (.ret x11)
def check_Ahead (a1 : PFunc) : Option (List (List Int)) :=
  (mkl (len a1.blocks) ([] : List Int)).bind fun x7 =>
  (whl (fun (s : (List (List Int) × Int)) => check_Ahead.bd9 a1 s.1 s.2) FUEL (x7, 0)).bind fun z =>
  check_Ahead.nx9 z
set_option maxHeartbeats 4000000 in
theorem check_Ahead_ok {E : World} {H : FP} {w : World} {a1 : PFunc} {v2 : Value} {v4 : Value} {r : List (List Int)} (h3 : SlI (kInt .i64) H a1.regs v2) (h5 : SlI kBlock H a1.blocks v4) (hp : check_Ahead a1 = some r) (hst : St E H [] w) :
    Fn Try.prog 27 #[.agg #[.int .i64 a1.params, .int .i64 a1.result, v2, v4]] w fun v w' => ∃ A, check_Ahead.R r v A ∧ St E H A w' := by
 refine fb 58 [.tmp 2] Try.func27 rfl rfl rfl rfl rfl hst <| sr <| tb [.int .i64 a1.params, .int .i64 a1.result, v2, v4] rfl rfl fun b6 => ta rfl <| nz <| sr <| tv (fa f41_3 rfl) rfl <| tv (lb s39 0 rfl rfl rfl) rfl <| tv (ln u39 h5 rfl) rfl <| tk (k := (kSl 3 (kInt .i64))) u73 i25 hp ⟨_, rfl, SlO.nil 3⟩ rfl rfl rfl rfl rfl rfl fun x7 v8 F9 h10 hp => ta rfl <| nz <| TC.seq fun K2 k3 => sr <| tv (fa f41_3 rfl) rfl <| tv (lb s39 1 rfl rfl rfl) rfl <| tv (ln u39 h5 rfl) rfl <| tm rfl <| nz <| TC.block <| bE hp fun z_5 hz6 hr7 => ?_
 have J11 {x15 F16 e10} (h17 : SlO 25 (kSl 3 (kInt .i64)) x15 v8 F16) (hq12 : x15 = z_5) : ∀ w, St E H [F16] w → K2 (ovr e10 [(3, v8)]) w := by
  subst hq12
  replace hp : check_Ahead.nx9 x15 = some r := hr7
  exact tg k3 <| sr <| tm rfl <| ta rfl <| nz <| TC.ret <| rt hp [0] ⟨v8, F16, rfl, rfl, h17⟩
 refine lp hz6 [0] rfl (fun s e L => ∃ x11 x14 F12 e4, s = (x11, x14) ∧ SlO 25 (kSl 3 (kInt .i64)) x11 v8 F12 ∧ e = ovr e4 [(3, v8), (13, v4), (14, .int .i64 (len a1.blocks)), (15, .int .i64 x14)] ∧ L = [F12]) ⟨_, _, F9, _, rfl, h10, ovr_eq _ _ rfl, rfl⟩ ?_
 rintro _ _ _ ⟨x11, x14, F12, e4, rfl, h13, rfl, rfl⟩ X8 hp hx9
 replace hp : check_Ahead.bd9 a1 x11 x14 = some X8 := hp
 refine sr <| tv (blt rfl rfl) rfl <| nz <| TC.seq fun K13 k14 => cD rfl hp (fun hc15 hp => ?_) fun hc15 hp => ?_
 · refine sk k14 rfl <| TC.seq fun K16 k17 => TC.block <| sr <| tm rfl <| ti u39 i50 h5 hp rfl rfl rfl rfl ?_
   rintro x18 b19 o20 _ hp ⟨v24, v26, v28, rfl, h25, h27, h29⟩ h23
   refine tv (lR (ds := [v24, v26, .int .i64 x18.term.kind, .int .i64 x18.term.arg, v28]) ag_50 sH h23 0 rfl rfl rfl) rfl <| tl i50 rfl fun b30 => ta rfl <| tS 0 m50 rfl rfl [v24, v26, .int .i64 x18.term.kind, .int .i64 x18.term.arg, v28] rfl (oc (h25).one (oc (h27).one (oc rfl (oc rfl (oc (h29).one oc0))))) rfl rfl <| nz <| sr <| tv (fa f50_2 rfl) rfl <| tv (fa f46_2 rfl) rfl <| tv (lb s25 0 rfl rfl rfl) rfl <| tv (ln u25 h29 rfl) rfl <| tm rfl <| nz <| TC.block <| bE hp fun z_20 hz21 hr22 => ?_
   have J26 {x35 F36 e25} (h37 : SlO 25 (kSl 3 (kInt .i64)) x35 v8 F36) (hq27 : x35 = z_20) : ∀ w, St E H [F36] w → K16 (ovr e25 [(3, v8), (13, v4), (14, .int .i64 (len a1.blocks)), (15, .int .i64 x14)]) w := by
    subst hq27
    replace hp : check_Ahead.nx24 x14 x35 = some X8 := hr22
    exact tg k17 <| TC.region <| tv (bad rfl rfl) rfl <| tm rfl <| nl <| gk hp [0] ⟨_, _, F36, _, rfl, h37, ovr_eq _ _ rfl, rfl⟩
   refine lp hz21 [1] rfl (fun s e L => ∃ x31 x34 F32 e19, s = (x31, x34) ∧ SlO 25 (kSl 3 (kInt .i64)) x31 v8 F32 ∧ e = ovr e19 [(3, v8), (4, .int .i64 x14), (13, v4), (14, .int .i64 (len a1.blocks)), (15, .int .i64 x14), (22, v28), (23, .int .i64 (len x18.term.to)), (24, .int .i64 x34)] ∧ L = [F32]) ⟨_, _, F12, _, rfl, h13, ovr_eq _ _ rfl, rfl⟩ ?_
   rintro _ _ _ ⟨x31, x34, F32, e19, rfl, h33, rfl, rfl⟩ X23 hp hx24
   replace hp : check_Ahead.bd24 x14 x18 x31 x34 = some X23 := hp
   refine sr <| tv (blt rfl rfl) rfl <| nz <| TC.seq fun K28 k29 => cD rfl hp (fun hc30 hp => ?_) fun hc30 hp => ?_
   · refine sk k29 rfl <| TC.seq fun K31 k32 => ?_
     have J34 {x38 F39 e33} (h40 : SlO 25 (kSl 3 (kInt .i64)) x38 v8 F39) (hp : check_Ahead.jn34 x34 x38 = some X23) : ∀ w, St E H [F39] w → K31 (ovr e33 [(3, v8), (4, .int .i64 x14), (13, v4), (14, .int .i64 (len a1.blocks)), (15, .int .i64 x14), (22, v28), (23, .int .i64 (len x18.term.to)), (24, .int .i64 x34)]) w := by
      exact tg k32 <| TC.region <| tv (bad rfl rfl) rfl <| tm rfl <| nl <| gk hp [0] ⟨_, _, F39, _, rfl, h40, ovr_eq _ _ rfl, rfl⟩
     refine TC.block <| sr <| ti u25 i3 h29 hp rfl rfl rfl rfl ?_
     rintro x41 b42 o43 _ hp rfl h46
     refine tv (lr s3 sH h46 0 rfl rfl) rfl <| ta rfl <| nz <| sr <| tm rfl <| tv (bge rfl rfl) rfl <| tm rfl <| TL.cut 5 fun K36 k37 => ?_
     have J38 {e40} : ∀ w, St E H [F32] w → K36 (ovr e40 [(35, .bool (decide (x41 ≥ 0 ∧ x41 < (len x31)))), (3, v8), (4, .int .i64 x14), (7, .int .i64 x41), (13, v4), (14, .int .i64 (len a1.blocks)), (15, .int .i64 x14), (22, v28), (23, .int .i64 (len x18.term.to)), (24, .int .i64 x34)]) w := by
      refine tlg k37 <| tm rfl <| bE hp fun t47 ht50 hp => TL.cut 8 fun K41 k42 => ?_
      have J43 {e45} : ∀ w, St E H [F32] w → K41 (ovr e45 [(44, .bool t47), (3, v8), (4, .int .i64 x14), (7, .int .i64 x41), (13, v4), (14, .int .i64 (len a1.blocks)), (15, .int .i64 x14), (22, v28), (23, .int .i64 (len x18.term.to)), (24, .int .i64 x34)]) w := by
       refine tlg k42 <| nz <| cB rfl hp (fun hc46 hp => ?_) fun hc46 hp => ?_
       · refine TC.region <| tm rfl <| tm rfl <| tm rfl <| tm rfl <| bE hp fun x48 hx47 hp => TL.open_ h33 hx47 ?_
         rintro b49 _ F51 F52 h53 ⟨v55, rfl, h56⟩
         exact tv (rv_ixH u73 i25 rfl rfl (idx_some hx47).1 h53) rfl <| tv (lr s25 (Src.at_ 0 rfl) (Hole.cells h53) 0 rfl rfl) rfl <| tm rfl <| tbs [(0, .int .i64 x14)] [.int .i64 x14] u25 i3 (by kernel_rfl) rfl rfl rfl rfl fun b57 => tp [2, 0, 1] [_,_,_] rfl rfl <| tf 2 0 [_,_,_,_] rfl <| tp2 u25 i3 h56 hp (RepL.to (RepL.cons (k := (kInt .i64)) (x := x14) ⟨rfl, rfl⟩ RepL.nil) rfl) rfl rfl rfl rfl rfl rfl rfl rfl rfl fun x58 v59 F60 h61 hp => tv (rv_ixH u73 i25 rfl rfl (idx_some hx47).1 h53) rfl <| tp [1, 0] [_,_] rfl rfl <| tsH h53 m25 0 rfl h61.o1 rfl fun F63 h64 => nl <| W.shut (a := x58) h64 ⟨_, rfl, h61⟩ fun F65 h66 => jn [0] (J34 h66 hp)
       · exact TC.skip <| jn [0] (J34 h33 hp)
      refine ifE ht50 (fun hc44 hp => ?_) fun hc44 hp => ?_
      · refine gy rfl (bT hc44) <| tm rfl <| gy rfl (bT hc44) <| tm rfl <| gy rfl (bT hc44) <| ti u73 i25 (h33).ro hp rfl rfl rfl rfl ?_
        rintro x67 b68 o69 _ hp ⟨v73, rfl, h74⟩ h72
        refine gy rfl (bT hc44) <| tv (lr s25 (Src.at_ 0 rfl) h72 0 rfl rfl) rfl <| gy rfl (bT hc44) <| tm rfl <| gy rfl (bT hc44) <| bE hp fun x75 hy52 hp => tc 0 [_] rfl c52 (fun _ => slices_Contains_ok (a1 := x67) (a4 := x14) (h74.mono (subB 0 rfl)) hy52) rfl ?_
        rintro _ _ ⟨rfl, rfl⟩
        refine gy rfl (bT hc44) <| tv (rv_not rfl) rfl <| tv (pT (bT hc44)) rfl ?_
        obtain rfl := Option.some.inj hp
        exact nj J43 rfl
      · refine gn rfl (bF hc44) rfl rfl <| gn rfl (bF hc44) rfl rfl <| gn rfl (bF hc44) rfl rfl <| gn rfl (bF hc44) rfl rfl <| gn rfl (bF hc44) rfl rfl <| gn rfl (bF hc44) rfl rfl <| gn rfl (bF hc44) rfl rfl <| tv (pF (bF hc44)) rfl ?_
        obtain rfl := Option.some.inj hp
        exact nj J43 rfl
     by_cases hc39 : x41 ≥ 0
     · exact gy rfl (bT hc39) <| tm rfl <| gy rfl (bT hc39) <| tm rfl <| gy rfl (bT hc39) <| tv (ln u73 h33.ro rfl) rfl <| gy rfl (bT hc39) <| tv (blt rfl rfl) rfl <| tv (pT (bT hc39)) rfl <| nj J38 (bAt hc39)
     · exact gn rfl (bF hc39) rfl rfl <| gn rfl (bF hc39) rfl rfl <| gn rfl (bF hc39) rfl rfl <| gn rfl (bF hc39) rfl rfl <| tv (pF (bF hc39)) rfl <| nj J38 (bAf hc39)
   · exact TC.exit <| jn [0] (J26 h33 (ex_ret hp hx24))
 · exact TC.exit <| jn [0] (J11 h13 (ex_ret hp hx9))

/-! ### (*fettle/check.looker).has$1 -/
abbrev check_looker_has_1.R (r : Bool) (v : Value) (A : List FP) : Prop := .bool r = v ∧ A = []
def check_looker_has_1 (a1 : Int) (a5 : PLooker) : Option Bool :=
  some (decide (a1 < 0 ∨ a1 ≥ (len a5.f.regs)))
theorem check_looker_has_1_ok {E : World} {H : FP} {w : World} {a1 : Int} {a5 : PLooker} {b2 : Nat} {o3 : Nat} {b6 : Nat} {o7 : Nat} {v9 : Value} {v11 : Value} {v13 : Value} {r : Bool} (h4 : CellsIn H b2 o3 [.pointer (some ⟨b6, o7, none⟩)]) (h8 : CellsIn H b6 o7 [v9, .int .i64 a5.f.params, .int .i64 a5.f.result, v11, v13]) (h10 : SlI kFunc H a5.m.funcs v9) (h12 : SlI (kInt .i64) H a5.f.regs v11) (h14 : SlI kBlock H a5.f.blocks v13) (hp : check_looker_has_1 a1 a5 = some r) (hst : St E H [] w) :
    Fn Try.prog 105 #[.int .i64 a1, .pointer (some ⟨b2, o3, none⟩)] w fun v w' => ∃ A, check_looker_has_1.R r v A ∧ St E H A w' := by
 refine fb 16 [.tmp 3] Try.func105 rfl rfl rfl rfl rfl hst <| sr <| ta rfl <| nz <| sr <| tm rfl <| tv (blt rfl rfl) rfl <| tm rfl <| TL.cut 9 fun K1 k2 => ?_
 have J3 {e5} : ∀ w, St E H [] w → K1 (ovr e5 [(15, .bool (decide (a1 < 0 ∨ a1 ≥ (len a5.f.regs))))]) w := by
  exact tlg k2 <| ta rfl <| nz <| TC.ret <| rt hp [] ⟨rfl, rfl⟩
 by_cases hc4 : a1 < 0
 · exact gn rfl (bT hc4) rfl rfl <| gn rfl (bT hc4) rfl rfl <| gn rfl (bT hc4) rfl rfl <| gn rfl (bT hc4) rfl rfl <| gn rfl (bT hc4) rfl rfl <| gn rfl (bT hc4) rfl rfl <| gn rfl (bT hc4) rfl rfl <| gn rfl (bT hc4) rfl rfl <| tv (pT (bT hc4)) rfl <| nj J3 (bOt hc4)
 · exact gy rfl (bF hc4) <| tm rfl <| gy rfl (bF hc4) <| tv (lr s143 sH h4 0 rfl rfl) rfl <| gy rfl (bF hc4) <| tv (rv_nilCheck rfl) rfl <| gy rfl (bF hc4) <| tv (fa f145_1 rfl) rfl <| gy rfl (bF hc4) <| tv (fa f41_2 rfl) rfl <| gy rfl (bF hc4) <| tv (lr s25 sH h8 3 rfl rfl) rfl <| gy rfl (bF hc4) <| tv (ln u25 h12 rfl) rfl <| gy rfl (bF hc4) <| tv (bge rfl rfl) rfl <| tv (pF (bF hc4)) rfl <| nj J3 (bOf hc4)

/-! ### slices.IndexFunc[[]int,int] -/
abbrev slices_IndexFunc_check_looker_has_1.R (r : Int) (v : Value) (A : List FP) : Prop := .int .i64 r = v ∧ A = []
def slices_IndexFunc_check_looker_has_1.nx8  : Option Int :=
  some (-1)
def slices_IndexFunc_check_looker_has_1.bd8 (a1 : List Int) (a8 : PLooker) (x18 : Int) : Option (Ex (Ex Int Unit) Int) :=
  if x18 < (len a1) then
    (idx a1 x18).bind fun x19 =>
    (check_looker_has_1 x19 a8).bind fun x25 =>
    if x25 = true then
      some (.ret (.ret x18))
    else
      some (.go (w64 (x18 + 1)))
  else
    some (.ret (.go ()))
def slices_IndexFunc_check_looker_has_1 (a1 : List Int) (a8 : PLooker) : Option Int :=
  (whl (fun (s : Int) => slices_IndexFunc_check_looker_has_1.bd8 a1 a8 s) FUEL 0).bind fun z =>
  match z with
    | .ret r => some r
    | .go p => slices_IndexFunc_check_looker_has_1.nx8
theorem slices_IndexFunc_check_looker_has_1_ok {E : World} {H : FP} {w : World} {a1 : List Int} {a8 : PLooker} {v2 : Value} {b5 : Nat} {o6 : Nat} {b9 : Nat} {o10 : Nat} {v12 : Value} {v14 : Value} {v16 : Value} {r : Int} (h3 : SlI (kInt .i64) H a1 v2) (h7 : CellsIn H b5 o6 [.pointer (some ⟨b9, o10, none⟩)]) (h11 : CellsIn H b9 o10 [v12, .int .i64 a8.f.params, .int .i64 a8.f.result, v14, v16]) (h13 : SlI kFunc H a8.m.funcs v12) (h15 : SlI (kInt .i64) H a8.f.regs v14) (h17 : SlI kBlock H a8.f.blocks v16) (hp : slices_IndexFunc_check_looker_has_1 a1 a8 = some r) (hst : St E H [] w) :
    Fn Try.prog 100 #[v2, .func (.func 105) #[] #[.pointer (some ⟨b5, o6, none⟩)]] w fun v w' => ∃ A, slices_IndexFunc_check_looker_has_1.R r v A ∧ St E H A w' := by
 refine fb 19 [.tmp 4] Try.func100 rfl rfl rfl rfl rfl hst <| sr <| ta rfl <| nz <| TC.seq fun K1 k2 => sr <| tm rfl <| tv (ln u25 h3 rfl) rfl <| tm rfl <| nz <| TC.block <| bE hp fun z_4 hz5 hr6 => ?_
 have J10 {e9} (hq11 : .go () = z_4) : ∀ w, St E H [] w → K1 (ovr e9 []) w := by
  subst hq11
  replace hp : slices_IndexFunc_check_looker_has_1.nx8 = some r := hr6
  exact tg k2 <| sr <| ta rfl <| nz <| TC.ret <| rt hp [] ⟨rfl, rfl⟩
 refine lp hz5 [] rfl (fun s e L => ∃ e3, e = ovr e3 [(0, v2), (1, .func (.func 105) #[] #[.pointer (some ⟨b5, o6, none⟩)]), (7, .int .i64 (len a1)), (8, .int .i64 s)] ∧ L = []) ⟨_, ovr_eq _ _ rfl, rfl⟩ ?_
 rintro x18 _ _ ⟨e3, rfl, rfl⟩ X7 hp hx8
 replace hp : slices_IndexFunc_check_looker_has_1.bd8 a1 a8 x18 = some X7 := hp
 refine sr <| tv (blt rfl rfl) rfl <| nz <| TC.seq fun K12 k13 => cD rfl hp (fun hc14 hp => ?_) fun hc14 hp => ?_
 · refine sk k13 rfl <| TC.seq fun K15 k16 => TC.block <| sr <| tm rfl <| ta rfl <| nz <| sr <| tm rfl <| tm rfl <| tm rfl <| ti u25 i3 h3 hp rfl rfl rfl rfl ?_
   rintro x19 b20 o21 _ hp rfl h24
   refine tv (lr s3 sH h24 0 rfl rfl) rfl <| bE hp fun x25 hy18 hp => tcv 0 [] rfl c105 rfl (fun _ => check_looker_has_1_ok (a1 := x19) (a5 := a8) (h7.mono subH) (h11.mono subH) (h13.mono subH) (h15.mono subH) (h17.mono subH) hy18) rfl ?_
   rintro _ _ ⟨rfl, rfl⟩
   refine nz <| cB rfl hp (fun hc20 hp => ?_) fun hc20 hp => ?_
   · refine sr <| tm rfl <| ta rfl <| nz <| TC.ret ?_
     obtain rfl := ex_ret hp hx8
     exact rt hr6 [] ⟨rfl, rfl⟩
   · exact sk k16 rfl <| TC.region <| tv (bad rfl rfl) rfl <| tm rfl <| nl <| gk hp [] ⟨_, ovr_eq _ _ rfl, rfl⟩
 · exact TC.exit <| jn [] (J10 (ex_ret hp hx8))

/-! ### slices.ContainsFunc[[]int,int] -/
abbrev slices_ContainsFunc_check_looker_has_1.R (r : Bool) (v : Value) (A : List FP) : Prop := .bool r = v ∧ A = []
def slices_ContainsFunc_check_looker_has_1 (a1 : List Int) (a8 : PLooker) : Option Bool :=
  (slices_IndexFunc_check_looker_has_1 a1 a8).bind fun x18 =>
  some (decide (x18 ≥ 0))
theorem slices_ContainsFunc_check_looker_has_1_ok {E : World} {H : FP} {w : World} {a1 : List Int} {a8 : PLooker} {v2 : Value} {b5 : Nat} {o6 : Nat} {b9 : Nat} {o10 : Nat} {v12 : Value} {v14 : Value} {v16 : Value} {r : Bool} (h3 : SlI (kInt .i64) H a1 v2) (h7 : CellsIn H b5 o6 [.pointer (some ⟨b9, o10, none⟩)]) (h11 : CellsIn H b9 o10 [v12, .int .i64 a8.f.params, .int .i64 a8.f.result, v14, v16]) (h13 : SlI kFunc H a8.m.funcs v12) (h15 : SlI (kInt .i64) H a8.f.regs v14) (h17 : SlI kBlock H a8.f.blocks v16) (hp : slices_ContainsFunc_check_looker_has_1 a1 a8 = some r) (hst : St E H [] w) :
    Fn Try.prog 95 #[v2, .func (.func 105) #[] #[.pointer (some ⟨b5, o6, none⟩)]] w fun v w' => ∃ A, slices_ContainsFunc_check_looker_has_1.R r v A ∧ St E H A w' := by
 refine fb 9 [.tmp 4] Try.func95 rfl rfl rfl rfl rfl hst <| sr <| ta rfl <| nz <| sr <| tm rfl <| tm rfl <| bE hp fun x18 hy1 hp => tc 0 [] rfl c100 (fun _ => slices_IndexFunc_check_looker_has_1_ok (a1 := a1) (a8 := a8) (h3.mono subH) (h7.mono subH) (h11.mono subH) (h13.mono subH) (h15.mono subH) (h17.mono subH) hy1) rfl ?_
 rintro _ _ ⟨rfl, rfl⟩
 exact tv (bge rfl rfl) rfl <| ta rfl <| nz <| TC.ret <| rt hp [] ⟨rfl, rfl⟩

/-! ### (*fettle/check.looker).has -/
abbrev check_looker_has.R (r : Bool) (v : Value) (A : List FP) : Prop := .bool r = v ∧ A = []
def check_looker_has (a2 : PLooker) (a11 : List Int) : Option Bool :=
  (slices_ContainsFunc_check_looker_has_1 a11 a2).bind fun x15 =>
  some (!x15)
theorem check_looker_has_ok {E : World} {H : FP} {w : World} {a2 : PLooker} {a11 : List Int} {b1 : Nat} {o3 : Nat} {v5 : Value} {v7 : Value} {v9 : Value} {v12 : Value} {r : Bool} (h4 : CellsIn H b1 o3 [v5, .int .i64 a2.f.params, .int .i64 a2.f.result, v7, v9]) (h6 : SlI kFunc H a2.m.funcs v5) (h8 : SlI (kInt .i64) H a2.f.regs v7) (h10 : SlI kBlock H a2.f.blocks v9) (h13 : SlI (kInt .i64) H a11 v12) (hp : check_looker_has a2 a11 = some r) (hst : St E H [] w) :
    Fn Try.prog 101 #[.pointer (some ⟨b1, o3, none⟩), v12] w fun v w' => ∃ A, check_looker_has.R r v A ∧ St E H A w' := by
 refine fb 9 [.tmp 4] Try.func101 rfl rfl rfl rfl rfl hst <| sr <| tb [.pointer (some ⟨b1, o3, none⟩)] rfl rfl fun b14 => ta rfl <| nz <| sr <| tm rfl <| tv mF rfl <| bE hp fun x15 hy1 hp => tc 0 [_] rfl c95 (fun _ => slices_ContainsFunc_check_looker_has_1_ok (a1 := a11) (a8 := a2) (h13.mono subH) ((bx_cells b14 143 _).mono (subB 0 rfl)) (h4.mono subH) (h6.mono subH) (h8.mono subH) (h10.mono subH) hy1) rfl ?_
 rintro _ _ ⟨rfl, rfl⟩
 exact tv (rv_not rfl) rfl <| ta rfl <| nz <| TC.ret <| rt hp [] ⟨rfl, rfl⟩

/-! ### (*fettle/check.looker).are$1 -/
abbrev check_looker_are_1.R (r : Bool) (v : Value) (A : List FP) : Prop := .bool r = v ∧ A = []
def check_looker_are_1 (a1 : Int) (a5 : PLooker) (a16 : Int) : Option Bool :=
  (idx a5.f.regs a1).bind fun x19 =>
  some (decide (¬ x19 = a16))
theorem check_looker_are_1_ok {E : World} {H : FP} {w : World} {a1 : Int} {a5 : PLooker} {a16 : Int} {b2 : Nat} {o3 : Nat} {b6 : Nat} {o7 : Nat} {v9 : Value} {v11 : Value} {v13 : Value} {b15 : Nat} {o17 : Nat} {r : Bool} (h4 : CellsIn H b2 o3 [.pointer (some ⟨b6, o7, none⟩)]) (h8 : CellsIn H b6 o7 [v9, .int .i64 a5.f.params, .int .i64 a5.f.result, v11, v13]) (h10 : SlI kFunc H a5.m.funcs v9) (h12 : SlI (kInt .i64) H a5.f.regs v11) (h14 : SlI kBlock H a5.f.blocks v13) (h18 : CellsIn H b15 o17 [.int .i64 a16]) (hp : check_looker_are_1 a1 a5 a16 = some r) (hst : St E H [] w) :
    Fn Try.prog 106 #[.int .i64 a1, .pointer (some ⟨b2, o3, none⟩), .pointer (some ⟨b15, o17, none⟩)] w fun v w' => ∃ A, check_looker_are_1.R r v A ∧ St E H A w' := by
 refine fb 15 [.tmp 4] Try.func106 rfl rfl rfl rfl rfl hst <| sr <| ta rfl <| nz <| TC.seq fun K1 k2 => cq mix (by kernel_rfl) <| qv (lr s143 sH h4 0 rfl rfl) rfl <| qv (rv_nilCheck rfl) rfl <| qv (fa f145_1 rfl) rfl <| qv (fa f41_2 rfl) rfl <| qv (lr s25 sH h8 3 rfl rfl) rfl <| qv mv rfl <| qi u25 i3 h12 hp rfl rfl rfl rfl ?_
 rintro x19 b20 o21 _ hp rfl h24
 exact qv (lr s3 sH h24 0 rfl rfl) rfl <| qv (lr s3 sH h18 0 rfl rfl) rfl <| qv (bne rfl rfl) rfl <| qv sg rfl <| QL.nil <| tg k2 <| TC.ret <| rt hp [] ⟨rfl, rfl⟩

/-! ### slices.IndexFunc[[]int,int] -/
abbrev slices_IndexFunc_check_looker_are_1.R (r : Int) (v : Value) (A : List FP) : Prop := .int .i64 r = v ∧ A = []
def slices_IndexFunc_check_looker_are_1.nx8  : Option Int :=
  some (-1)
def slices_IndexFunc_check_looker_are_1.bd8 (a1 : List Int) (a8 : PLooker) (a19 : Int) (x22 : Int) : Option (Ex (Ex Int Unit) Int) :=
  if x22 < (len a1) then
    (idx a1 x22).bind fun x23 =>
    (check_looker_are_1 x23 a8 a19).bind fun x29 =>
    if x29 = true then
      some (.ret (.ret x22))
    else
      some (.go (w64 (x22 + 1)))
  else
    some (.ret (.go ()))
def slices_IndexFunc_check_looker_are_1 (a1 : List Int) (a8 : PLooker) (a19 : Int) : Option Int :=
  (whl (fun (s : Int) => slices_IndexFunc_check_looker_are_1.bd8 a1 a8 a19 s) FUEL 0).bind fun z =>
  match z with
    | .ret r => some r
    | .go p => slices_IndexFunc_check_looker_are_1.nx8
theorem slices_IndexFunc_check_looker_are_1_ok {E : World} {H : FP} {w : World} {a1 : List Int} {a8 : PLooker} {a19 : Int} {v2 : Value} {b5 : Nat} {o6 : Nat} {b9 : Nat} {o10 : Nat} {v12 : Value} {v14 : Value} {v16 : Value} {b18 : Nat} {o20 : Nat} {r : Int} (h3 : SlI (kInt .i64) H a1 v2) (h7 : CellsIn H b5 o6 [.pointer (some ⟨b9, o10, none⟩)]) (h11 : CellsIn H b9 o10 [v12, .int .i64 a8.f.params, .int .i64 a8.f.result, v14, v16]) (h13 : SlI kFunc H a8.m.funcs v12) (h15 : SlI (kInt .i64) H a8.f.regs v14) (h17 : SlI kBlock H a8.f.blocks v16) (h21 : CellsIn H b18 o20 [.int .i64 a19]) (hp : slices_IndexFunc_check_looker_are_1 a1 a8 a19 = some r) (hst : St E H [] w) :
    Fn Try.prog 100 #[v2, .func (.func 106) #[] #[.pointer (some ⟨b5, o6, none⟩), .pointer (some ⟨b18, o20, none⟩)]] w fun v w' => ∃ A, slices_IndexFunc_check_looker_are_1.R r v A ∧ St E H A w' := by
 refine fb 19 [.tmp 4] Try.func100 rfl rfl rfl rfl rfl hst <| sr <| ta rfl <| nz <| TC.seq fun K1 k2 => sr <| tm rfl <| tv (ln u25 h3 rfl) rfl <| tm rfl <| nz <| TC.block <| bE hp fun z_4 hz5 hr6 => ?_
 have J10 {e9} (hq11 : .go () = z_4) : ∀ w, St E H [] w → K1 (ovr e9 []) w := by
  subst hq11
  replace hp : slices_IndexFunc_check_looker_are_1.nx8 = some r := hr6
  exact tg k2 <| sr <| ta rfl <| nz <| TC.ret <| rt hp [] ⟨rfl, rfl⟩
 refine lp hz5 [] rfl (fun s e L => ∃ e3, e = ovr e3 [(0, v2), (1, .func (.func 106) #[] #[.pointer (some ⟨b5, o6, none⟩), .pointer (some ⟨b18, o20, none⟩)]), (7, .int .i64 (len a1)), (8, .int .i64 s)] ∧ L = []) ⟨_, ovr_eq _ _ rfl, rfl⟩ ?_
 rintro x22 _ _ ⟨e3, rfl, rfl⟩ X7 hp hx8
 replace hp : slices_IndexFunc_check_looker_are_1.bd8 a1 a8 a19 x22 = some X7 := hp
 refine sr <| tv (blt rfl rfl) rfl <| nz <| TC.seq fun K12 k13 => cD rfl hp (fun hc14 hp => ?_) fun hc14 hp => ?_
 · refine sk k13 rfl <| TC.seq fun K15 k16 => TC.block <| sr <| tm rfl <| ta rfl <| nz <| sr <| tm rfl <| tm rfl <| tm rfl <| ti u25 i3 h3 hp rfl rfl rfl rfl ?_
   rintro x23 b24 o25 _ hp rfl h28
   refine tv (lr s3 sH h28 0 rfl rfl) rfl <| bE hp fun x29 hy18 hp => tcv 0 [] rfl c106 rfl (fun _ => check_looker_are_1_ok (a1 := x23) (a5 := a8) (a16 := a19) (h7.mono subH) (h11.mono subH) (h13.mono subH) (h15.mono subH) (h17.mono subH) (h21.mono subH) hy18) rfl ?_
   rintro _ _ ⟨rfl, rfl⟩
   refine nz <| cB rfl hp (fun hc20 hp => ?_) fun hc20 hp => ?_
   · refine sr <| tm rfl <| ta rfl <| nz <| TC.ret ?_
     obtain rfl := ex_ret hp hx8
     exact rt hr6 [] ⟨rfl, rfl⟩
   · exact sk k16 rfl <| TC.region <| tv (bad rfl rfl) rfl <| tm rfl <| nl <| gk hp [] ⟨_, ovr_eq _ _ rfl, rfl⟩
 · exact TC.exit <| jn [] (J10 (ex_ret hp hx8))

/-! ### slices.ContainsFunc[[]int,int] -/
abbrev slices_ContainsFunc_check_looker_are_1.R (r : Bool) (v : Value) (A : List FP) : Prop := .bool r = v ∧ A = []
def slices_ContainsFunc_check_looker_are_1 (a1 : List Int) (a8 : PLooker) (a19 : Int) : Option Bool :=
  (slices_IndexFunc_check_looker_are_1 a1 a8 a19).bind fun x22 =>
  some (decide (x22 ≥ 0))
theorem slices_ContainsFunc_check_looker_are_1_ok {E : World} {H : FP} {w : World} {a1 : List Int} {a8 : PLooker} {a19 : Int} {v2 : Value} {b5 : Nat} {o6 : Nat} {b9 : Nat} {o10 : Nat} {v12 : Value} {v14 : Value} {v16 : Value} {b18 : Nat} {o20 : Nat} {r : Bool} (h3 : SlI (kInt .i64) H a1 v2) (h7 : CellsIn H b5 o6 [.pointer (some ⟨b9, o10, none⟩)]) (h11 : CellsIn H b9 o10 [v12, .int .i64 a8.f.params, .int .i64 a8.f.result, v14, v16]) (h13 : SlI kFunc H a8.m.funcs v12) (h15 : SlI (kInt .i64) H a8.f.regs v14) (h17 : SlI kBlock H a8.f.blocks v16) (h21 : CellsIn H b18 o20 [.int .i64 a19]) (hp : slices_ContainsFunc_check_looker_are_1 a1 a8 a19 = some r) (hst : St E H [] w) :
    Fn Try.prog 95 #[v2, .func (.func 106) #[] #[.pointer (some ⟨b5, o6, none⟩), .pointer (some ⟨b18, o20, none⟩)]] w fun v w' => ∃ A, slices_ContainsFunc_check_looker_are_1.R r v A ∧ St E H A w' := by
 refine fb 9 [.tmp 4] Try.func95 rfl rfl rfl rfl rfl hst <| sr <| ta rfl <| nz <| sr <| tm rfl <| tm rfl <| bE hp fun x22 hy1 hp => tc 0 [] rfl c100 (fun _ => slices_IndexFunc_check_looker_are_1_ok (a1 := a1) (a8 := a8) (a19 := a19) (h3.mono subH) (h7.mono subH) (h11.mono subH) (h13.mono subH) (h15.mono subH) (h17.mono subH) (h21.mono subH) hy1) rfl ?_
 rintro _ _ ⟨rfl, rfl⟩
 exact tv (bge rfl rfl) rfl <| ta rfl <| nz <| TC.ret <| rt hp [] ⟨rfl, rfl⟩

/-! ### (*fettle/check.looker).are -/
abbrev check_looker_are.R (r : Bool) (v : Value) (A : List FP) : Prop := .bool r = v ∧ A = []
def check_looker_are (a2 : PLooker) (a11 : Int) (a12 : List Int) : Option Bool :=
  (slices_ContainsFunc_check_looker_are_1 a12 a2 a11).bind fun x17 =>
  some (!x17)
theorem check_looker_are_ok {E : World} {H : FP} {w : World} {a2 : PLooker} {a11 : Int} {a12 : List Int} {b1 : Nat} {o3 : Nat} {v5 : Value} {v7 : Value} {v9 : Value} {v13 : Value} {r : Bool} (h4 : CellsIn H b1 o3 [v5, .int .i64 a2.f.params, .int .i64 a2.f.result, v7, v9]) (h6 : SlI kFunc H a2.m.funcs v5) (h8 : SlI (kInt .i64) H a2.f.regs v7) (h10 : SlI kBlock H a2.f.blocks v9) (h14 : SlI (kInt .i64) H a12 v13) (hp : check_looker_are a2 a11 a12 = some r) (hst : St E H [] w) :
    Fn Try.prog 102 #[.pointer (some ⟨b1, o3, none⟩), .int .i64 a11, v13] w fun v w' => ∃ A, check_looker_are.R r v A ∧ St E H A w' := by
 refine fb 11 [.tmp 6] Try.func102 rfl rfl rfl rfl rfl hst <| sr <| tb [.pointer (some ⟨b1, o3, none⟩)] rfl rfl fun b15 => tb [.int .i64 a11] rfl rfl fun b16 => ta rfl <| nz <| sr <| tm rfl <| tv mF rfl <| bE hp fun x17 hy1 hp => tc 0 [_,_] rfl c95 (fun _ => slices_ContainsFunc_check_looker_are_1_ok (a1 := a12) (a8 := a2) (a19 := a11) (h14.mono subH) ((bx_cells b15 143 _).mono (subB 1 rfl)) (h4.mono subH) (h6.mono subH) (h8.mono subH) (h10.mono subH) ((bx_cells b16 3 _).mono (subB 0 rfl)) hy1) rfl ?_
 rintro _ _ ⟨rfl, rfl⟩
 exact tv (rv_not rfl) rfl <| ta rfl <| nz <| TC.ret <| rt hp [] ⟨rfl, rfl⟩

/-! ### (*fettle/check.looker).phi -/
abbrev check_looker_phi.R (r : GErr) (v : Value) (A : List FP) : Prop := ∃ (w1 : Value) (G1 : FP), w1 = v ∧ A = [G1] ∧ ErO 63 106 108 r w1 G1
def check_looker_phi (a2 : PLooker) (a11 : PPhi) : Option GErr :=
  (check_looker_has a2 ([a11.dst])).bind fun x18 =>
  (if (!x18) = true then some true else (check_looker_has a2 a11.args).bind fun x30 =>
  some (!x30)).bind fun t19 =>
  if t19 = true then
    some (GErr.code 4)
  else
    (idx a2.f.regs a11.dst).bind fun x21 =>
    (check_looker_are a2 x21 a11.args).bind fun x27 =>
    if (!x27) = true then
      some (GErr.code 3)
    else
      some GErr.no
theorem check_looker_phi_ok {E : World} {H : FP} {w : World} {a2 : PLooker} {a11 : PPhi} {b1 : Nat} {o3 : Nat} {v5 : Value} {v7 : Value} {v9 : Value} {v12 : Value} {r : GErr} (h4 : CellsIn H b1 o3 [v5, .int .i64 a2.f.params, .int .i64 a2.f.result, v7, v9]) (h6 : SlI kFunc H a2.m.funcs v5) (h8 : SlI (kInt .i64) H a2.f.regs v7) (h10 : SlI kBlock H a2.f.blocks v9) (h13 : SlI (kInt .i64) H a11.args v12) (hp : check_looker_phi a2 a11 = some r) (hst : St E H [] w) :
    Fn Try.prog 96 #[.pointer (some ⟨b1, o3, none⟩), .agg #[.int .i64 a11.dst, v12]] w fun v w' => ∃ A, check_looker_phi.R r v A ∧ St E H A w' := by
 refine fb 36 [.tmp 4] Try.func96 rfl rfl rfl rfl rfl hst <| sr <| tb [.int .i64 a11.dst, v12] rfl rfl fun b14 => ta rfl <| nz <| TC.seq fun K1 k2 => TC.block <| sr <| tm rfl <| tv (fa f70_0 rfl) rfl <| tv (lb s3 0 rfl rfl rfl) rfl <| tbs [(0, .int .i64 a11.dst)] [.int .i64 a11.dst] u25 i3 (by kernel_rfl) rfl rfl rfl rfl fun b15 => tf 1 0 [_,_,_] rfl <| TL.litOwn (n := 1) (xs := [a11.dst]) (RepL.to (RepL.cons (k := (kInt .i64)) (x := a11.dst) ⟨rfl, rfl⟩ RepL.nil) rfl) rfl rfl (ltb rfl) fun F16 h17 => bE hp fun x18 hy3 hp => tc 0 [_,_] rfl c101 (fun _ => check_looker_has_ok (a2 := a2) (a11 := [a11.dst]) (h4.mono subH) (h6.mono subH) (h8.mono subH) (h10.mono subH) (h17.ro.mono (subB 0 rfl)) hy3) rfl ?_
 rintro _ _ ⟨rfl, rfl⟩
 refine tv (rv_not rfl) rfl <| tm rfl <| bE hp fun t19 ht16 hp => TL.cut 6 fun K5 k6 => ?_
 have J7 {e9} : ∀ w, St E H [F16, bx b14 70 [.int .i64 a11.dst, v12]] w → K5 (ovr e9 [(18, .bool t19), (0, .pointer (some ⟨b1, o3, none⟩)), (3, .pointer (some ⟨b14, 0, none⟩))]) w := by
  refine tlg k6 <| ta rfl <| nz <| cB rfl hp (fun hc10 hp => ?_) fun hc10 hp => ?_
  · exact sr <| tv (mI u63 rfl) rfl <| ta rfl <| nz <| TC.ret <| W.new0 <| rt hp [0] ⟨(.iface 63 (.int .i64 4)), ([] : FP), rfl, rfl, (ErO.mk _ : ErO 63 106 108 (GErr.code 4) (.iface 63 (.int .i64 4)) [])⟩
  · refine TC.seq fun K11 k12 => cq mix (by kernel_rfl) <| qv mv rfl <| qv mv rfl <| qv (rv_nilCheck rfl) rfl <| qv (fa f145_1 rfl) rfl <| qv (fa f41_2 rfl) rfl <| qv (lr s25 sH h4 3 rfl rfl) rfl <| qv (fa f70_0 rfl) rfl <| qv (lb s3 1 rfl rfl rfl) rfl <| qi u25 i3 h8 hp rfl rfl rfl rfl ?_
    rintro x21 b22 o23 _ hp rfl h26
    refine qv (lr s3 sH h26 0 rfl rfl) rfl <| qv (fa f70_1 rfl) rfl <| qv (lb s25 1 rfl rfl rfl) rfl <| bE hp fun x27 hy14 hp => qc (.bool x27) c102 (fun _ => check_looker_are_ok (a2 := a2) (a11 := x21) (a12 := a11.args) (h4.mono subH) (h6.mono subH) (h8.mono subH) (h10.mono subH) (h13.mono subH) hy14) (fun _ _ h => ⟨h.1.symm, h.2⟩) rfl <| qv (rv_not rfl) rfl <| qv sg rfl <| QL.nil <| tg k12 <| cB rfl hp (fun hc15 hp => ?_) fun hc15 hp => ?_
    · exact sr <| tv (mI u63 rfl) rfl <| ta rfl <| nz <| TC.ret <| W.new0 <| rt hp [0] ⟨(.iface 63 (.int .i64 3)), ([] : FP), rfl, rfl, (ErO.mk _ : ErO 63 106 108 (GErr.code 3) (.iface 63 (.int .i64 3)) [])⟩
    · exact sk k2 rfl <| sr <| ta rfl <| nz <| TC.ret <| W.new0 <| rt hp [0] ⟨.nilIface, ([] : FP), rfl, rfl, (ErO.nil : ErO 63 106 108 GErr.no .nilIface [])⟩
 refine ifE ht16 (fun hc8 hp => ?_) fun hc8 hp => ?_
 · refine gn rfl (bbT hc8) rfl rfl <| gn rfl (bbT hc8) rfl rfl <| gn rfl (bbT hc8) rfl rfl <| gn rfl (bbT hc8) rfl rfl <| gn rfl (bbT hc8) rfl rfl <| tv (pT (bbT hc8)) rfl ?_
   obtain rfl := Option.some.inj hp
   exact nj J7 rfl
 · refine gy rfl (bbF hc8) <| tm rfl <| gy rfl (bbF hc8) <| tv (fa f70_1 rfl) rfl <| gy rfl (bbF hc8) <| tv (lb s25 1 rfl rfl rfl) rfl <| gy rfl (bbF hc8) <| bE hp fun x30 hy17 hp => tc 0 [_,_] rfl c101 (fun _ => check_looker_has_ok (a2 := a2) (a11 := a11.args) (h4.mono subH) (h6.mono subH) (h8.mono subH) (h10.mono subH) (h13.mono subH) hy17) rfl ?_
   rintro _ _ ⟨rfl, rfl⟩
   refine gy rfl (bbF hc8) <| tv (rv_not rfl) rfl <| tv (pF (bbF hc8)) rfl ?_
   obtain rfl := Option.some.inj hp
   exact nj J7 rfl

/-! ### fettle/arith.Args -/
abbrev arith_Args.R (r : Int × Bool) (v : Value) (A : List FP) : Prop := .tuple #[.int .i64 r.1, .bool r.2] = v ∧ A = []
def arith_Args (a1 : Int) : Option (Int × Bool) :=
  if a1 = 2 ∨ a1 = 14 then
    some (1, true)
  else
    if a1 ≥ 3 ∧ a1 ≤ 13 then
      some (2, true)
    else
      some (0, false)
theorem arith_Args_ok {E : World} {H : FP} {w : World} {a1 : Int} {r : Int × Bool}  (hp : arith_Args a1 = some r) (hst : St E H [] w) :
    Fn Try.prog 57 #[.int .i64 a1] w fun v w' => ∃ A, arith_Args.R r v A ∧ St E H A w' := by
 refine fb 18 [.tmp 2, .tmp 3] Try.func57 rfl rfl rfl rfl rfl hst <| sr <| ta rfl <| ta rfl <| nz <| TC.seq fun K1 k2 => TC.block <| sr <| tm rfl <| tv (beq rfl rfl) rfl <| tm rfl <| TL.cut 3 fun K3 k4 => ?_
 have J5 {e7} : ∀ w, St E H [] w → K3 (ovr e7 [(10, .bool (decide (a1 = 2 ∨ a1 = 14))), (0, .int .i64 a1)]) w := by
  refine tlg k4 <| ta rfl <| nz <| cD rfl hp (fun hc8 hp => ?_) fun hc8 hp => ?_
  · exact sr <| ta rfl <| ta rfl <| nz <| TC.ret <| rt hp [] ⟨rfl, rfl⟩
  · refine sr <| tm rfl <| tv (bge rfl rfl) rfl <| tm rfl <| TL.cut 3 fun K9 k10 => ?_
    have J11 {e13} : ∀ w, St E H [] w → K9 (ovr e13 [(17, .bool (decide (a1 ≥ 3 ∧ a1 ≤ 13)))]) w := by
     refine tlg k10 <| ta rfl <| nz <| cD rfl hp (fun hc14 hp => ?_) fun hc14 hp => ?_
     · exact sr <| ta rfl <| ta rfl <| nz <| TC.ret <| rt hp [] ⟨rfl, rfl⟩
     · exact sk k2 rfl <| sr <| ta rfl <| ta rfl <| nz <| TC.ret <| rt hp [] ⟨rfl, rfl⟩
    by_cases hc12 : a1 ≥ 3
    · exact gy rfl (bT hc12) <| tm rfl <| gy rfl (bT hc12) <| tv (ble rfl rfl) rfl <| tv (pT (bT hc12)) rfl <| nj J11 (bAt hc12)
    · exact gn rfl (bF hc12) rfl rfl <| gn rfl (bF hc12) rfl rfl <| tv (pF (bF hc12)) rfl <| nj J11 (bAf hc12)
 by_cases hc6 : a1 = 2
 · exact gn rfl (bT hc6) rfl rfl <| gn rfl (bT hc6) rfl rfl <| tv (pT (bT hc6)) rfl <| nj J5 (bOt hc6)
 · exact gy rfl (bF hc6) <| tm rfl <| gy rfl (bF hc6) <| tv (beq rfl rfl) rfl <| tv (pF (bF hc6)) rfl <| nj J5 (bOf hc6)

/-! ### (*fettle/check.looker).arity -/
abbrev check_looker_arity.R (r : Int × Int × GErr) (v : Value) (A : List FP) : Prop := ∃ (w1 : Value) (G1 : FP), .tuple #[.int .i64 r.1, .int .i64 r.2.1, w1] = v ∧ A = [G1] ∧ ErO 63 106 108 r.2.2 w1 G1
def check_looker_arity (a2 : PLooker) (a11 : PInstr) : Option (Int × Int × GErr) :=
  (arith_Args a11.op).bind fun x15 =>
  if x15.2 = true then
    some (x15.1, 1, GErr.no)
  else
    if a11.op = 1 then
      some (0, 1, GErr.no)
    else
      if a11.op = 15 then
        some (1, 1, GErr.no)
      else
        if a11.op = 18 then
          some (1, 0, GErr.no)
        else
          if a11.op = 16 then
            some (2, 0, GErr.no)
          else
            if a11.op = 17 then
              if a11.fn < 0 ∨ a11.fn ≥ (len a2.m.funcs) then
                some (0, 0, (GErr.code 4))
              else
                (idx a2.m.funcs a11.fn).bind fun x2823 =>
                some (x2823.params, x2823.result, GErr.no)
            else
              some (0, 0, (GErr.code 6))
set_option maxHeartbeats 4000000 in
theorem check_looker_arity_ok {E : World} {H : FP} {w : World} {a2 : PLooker} {a11 : PInstr} {b1 : Nat} {o3 : Nat} {v5 : Value} {v7 : Value} {v9 : Value} {v12 : Value} {r : Int × Int × GErr} (h4 : CellsIn H b1 o3 [v5, .int .i64 a2.f.params, .int .i64 a2.f.result, v7, v9]) (h6 : SlI kFunc H a2.m.funcs v5) (h8 : SlI (kInt .i64) H a2.f.regs v7) (h10 : SlI kBlock H a2.f.blocks v9) (h13 : SlI (kInt .i64) H a11.args v12) (hp : check_looker_arity a2 a11 = some r) (hst : St E H [] w) :
    Fn Try.prog 103 #[.pointer (some ⟨b1, o3, none⟩), .agg #[.int .i64 a11.op, .int .i64 a11.dst, v12, .int .i64 a11.imm, .int .i64 a11.fn]] w fun v w' => ∃ A, check_looker_arity.R r v A ∧ St E H A w' := by
 refine fb 59 [.tmp 4, .tmp 5, .tmp 6] Try.func103 rfl rfl rfl rfl rfl hst <| sr <| tb [.int .i64 a11.op, .int .i64 a11.dst, v12, .int .i64 a11.imm, .int .i64 a11.fn] rfl rfl fun b14 => ta rfl <| ta rfl <| ta rfl <| nz <| TC.seq fun K1 k2 => sr <| tv (fa f52_0 rfl) rfl <| tv (lb s3 0 rfl rfl rfl) rfl <| bE hp fun x15 hy3 hp => tc 0 [_] rfl c57 (fun _ => arith_Args_ok (a1 := a11.op) hy3) rfl ?_
 rintro _ _ ⟨rfl, rfl⟩
 refine tm rfl <| tv (xt rfl rfl) rfl <| tv (xt rfl rfl) rfl <| ta rfl <| ta rfl <| nz <| sr <| tm rfl <| nz <| cB rfl hp (fun hc5 hp => ?_) fun hc5 hp => ?_
 · exact sr <| tm rfl <| ta rfl <| ta rfl <| ta rfl <| nz <| TC.ret <| W.new0 <| rt hp [0] ⟨.nilIface, ([] : FP), rfl, rfl, (ErO.nil : ErO 63 106 108 GErr.no .nilIface [])⟩
 · refine sk k2 rfl <| TC.seq fun K6 k7 => sr <| tv (fa f52_0 rfl) rfl <| tv (lb s3 0 rfl rfl rfl) rfl <| nz <| TC.block <| sr <| tv (beq rfl rfl) rfl <| ta rfl <| nz <| cD rfl hp (fun hc8 hp => ?_) fun hc8 hp => ?_
   · exact sr <| ta rfl <| ta rfl <| ta rfl <| nz <| TC.ret <| W.new0 <| rt hp [0] ⟨.nilIface, ([] : FP), rfl, rfl, (ErO.nil : ErO 63 106 108 GErr.no .nilIface [])⟩
   · refine sr <| tv (beq rfl rfl) rfl <| ta rfl <| nz <| cD rfl hp (fun hc9 hp => ?_) fun hc9 hp => ?_
     · exact sr <| ta rfl <| ta rfl <| ta rfl <| nz <| TC.ret <| W.new0 <| rt hp [0] ⟨.nilIface, ([] : FP), rfl, rfl, (ErO.nil : ErO 63 106 108 GErr.no .nilIface [])⟩
     · refine sr <| tv (beq rfl rfl) rfl <| ta rfl <| nz <| cD rfl hp (fun hc10 hp => ?_) fun hc10 hp => ?_
       · exact sr <| ta rfl <| ta rfl <| ta rfl <| nz <| TC.ret <| W.new0 <| rt hp [0] ⟨.nilIface, ([] : FP), rfl, rfl, (ErO.nil : ErO 63 106 108 GErr.no .nilIface [])⟩
       · refine sr <| tv (beq rfl rfl) rfl <| ta rfl <| nz <| cD rfl hp (fun hc11 hp => ?_) fun hc11 hp => ?_
         · exact sr <| ta rfl <| ta rfl <| ta rfl <| nz <| TC.ret <| W.new0 <| rt hp [0] ⟨.nilIface, ([] : FP), rfl, rfl, (ErO.nil : ErO 63 106 108 GErr.no .nilIface [])⟩
         · refine sr <| tv (beq rfl rfl) rfl <| ta rfl <| nz <| cD rfl hp (fun hc12 hp => ?_) fun hc12 hp => ?_
           · refine TC.seq fun K13 k14 => TC.seq fun K15 k16 => cq mix (by kernel_rfl) <| qv (fa f52_4 rfl) rfl <| qv (lb s3 0 rfl rfl rfl) rfl <| qv (blt rfl rfl) rfl <| qv mv rfl <| QL.cut 10 fun K17 k18 => ?_
             have J19 {e21} : K17 (ovr e21 [(43, .bool (decide (a11.fn < 0 ∨ a11.fn ≥ (len a2.m.funcs)))), (0, .pointer (some ⟨b1, o3, none⟩)), (3, .pointer (some ⟨b14, 0, none⟩))]) := by
              refine k18 _ <| QL.nil <| tg k16 <| cD rfl hp (fun hc22 hp => ?_) fun hc22 hp => ?_
              · exact sr <| tv (mI u63 rfl) rfl <| ta rfl <| ta rfl <| ta rfl <| nz <| TC.ret <| W.new0 <| rt hp [0] ⟨(.iface 63 (.int .i64 4)), ([] : FP), rfl, rfl, (ErO.mk _ : ErO 63 106 108 (GErr.code 4) (.iface 63 (.int .i64 4)) [])⟩
              · refine sk k14 rfl <| TC.seq fun K23 k24 => ch mix [bx b14 52 [.int .i64 a11.op, .int .i64 a11.dst, v12, .int .i64 a11.imm, .int .i64 a11.fn]] (srcG 0 rfl srcG0) <| hv 0 rfl mv (by kernel_rfl) rfl <| hv 1 rfl (rv_nilCheck rfl) (by kernel_rfl) rfl <| hv 2 rfl (fa f145_0 rfl) (by kernel_rfl) rfl <| hv 3 rfl (fa f35_0 rfl) (by kernel_rfl) rfl <| hv 4 rfl (lr s33 srcInH h4 0 rfl rfl) (by kernel_rfl) rfl <| hv 5 rfl (fa f52_4 rfl) (by kernel_rfl) rfl <| hv 6 rfl (lbG s3 0 rfl rfl rfl) (by kernel_rfl) rfl <| hi 7 rfl u33 i41 h6 hp rfl rfl rfl (by kernel_rfl) rfl ?_
                rintro x2823 b2824 o2825 _ hp ⟨v2829, v2831, rfl, h2830, h2832⟩ h2828
                exact hv 8 rfl (lR (ds := [.int .i64 x2823.params, .int .i64 x2823.result, v2829, v2831]) ag_41 srcInH h2828 0 rfl rfl rfl) (by kernel_rfl) rfl <| ho 9 rfl (by kernel_rfl) fun K26 k27 => tl i41 rfl fun b3623 => hk k27 (srcG 1 rfl srcG0) <| ho 10 rfl (by kernel_rfl) fun K28 k29 => tS 0 m41 rfl rfl [.int .i64 x2823.params, .int .i64 x2823.result, v2829, v2831] rfl (oc rfl (oc rfl (oc (h2830).one (oc (h2832).one oc0)))) rfl rfl <| hk k29 (srcG 1 rfl srcG0) <| hz (by kernel_rfl) <| tg k24 <| TC.seq fun K30 k31 => cq mix (by kernel_rfl) <| qv (fa f41_0 rfl) rfl <| qv (lb s3 0 rfl rfl rfl) rfl <| qv (fa f41_1 rfl) rfl <| qv (lb s3 0 rfl rfl rfl) rfl <| qv sg rfl <| qv sg rfl <| qv sg rfl <| QL.nil <| tg k31 <| TC.ret <| W.new0 <| rt hp [0] ⟨.nilIface, ([] : FP), rfl, rfl, (ErO.nil : ErO 63 106 108 GErr.no .nilIface [])⟩
             by_cases hc20 : a11.fn < 0
             · exact qgn rfl (bT hc20) rfl rfl <| qgn rfl (bT hc20) rfl rfl <| qgn rfl (bT hc20) rfl rfl <| qgn rfl (bT hc20) rfl rfl <| qgn rfl (bT hc20) rfl rfl <| qgn rfl (bT hc20) rfl rfl <| qgn rfl (bT hc20) rfl rfl <| qgn rfl (bT hc20) rfl rfl <| qgn rfl (bT hc20) rfl rfl <| qv (pT (bT hc20)) rfl <| qj J19 (bOt hc20)
             · exact qgy rfl (bF hc20) <| qv (fa f52_4 rfl) rfl <| qgy rfl (bF hc20) <| qv (lb s3 0 rfl rfl rfl) rfl <| qgy rfl (bF hc20) <| qv mv rfl <| qgy rfl (bF hc20) <| qv (rv_nilCheck rfl) rfl <| qgy rfl (bF hc20) <| qv (fa f145_0 rfl) rfl <| qgy rfl (bF hc20) <| qv (fa f35_0 rfl) rfl <| qgy rfl (bF hc20) <| qv (lr s33 sH h4 0 rfl rfl) rfl <| qgy rfl (bF hc20) <| qv (ln u33 h6 rfl) rfl <| qgy rfl (bF hc20) <| qv (bge rfl rfl) rfl <| qv (pF (bF hc20)) rfl <| qj J19 (bOf hc20)
           · exact sk k7 rfl <| sr <| tv (mI u63 rfl) rfl <| ta rfl <| ta rfl <| ta rfl <| nz <| TC.ret <| W.new0 <| rt hp [0] ⟨(.iface 63 (.int .i64 6)), ([] : FP), rfl, rfl, (ErO.mk _ : ErO 63 106 108 (GErr.code 6) (.iface 63 (.int .i64 6)) [])⟩

/-! ### (*fettle/check.looker).call -/
abbrev check_looker_call.R (r : Bool) (v : Value) (A : List FP) : Prop := .bool r = v ∧ A = []
def check_looker_call.nx23 (a2 : PLooker) (a11 : PInstr) (x2816 : PFunc) : Option Bool :=
  (if x2816.result = 0 then some true else (check_looker_are a2 x2816.result ([a11.dst])).bind fun x4421 =>
  some x4421).bind fun t4417 =>
  some t4417
def check_looker_call.bd23 (a2 : PLooker) (a11 : PInstr) (x2816 : PFunc) (x4416 : Int) : Option (Ex (Ex Bool Unit) Int) :=
  if x4416 < (len a11.args) then
    (idx a11.args x4416).bind fun x4422 =>
    (idx x2816.regs x4416).bind fun x4428 =>
    (check_looker_are a2 x4428 ([x4422])).bind fun x4437 =>
    if (!x4437) = true then
      some (.ret (.ret false))
    else
      some (.go (w64 (x4416 + 1)))
  else
    some (.ret (.go ()))
def check_looker_call (a2 : PLooker) (a11 : PInstr) : Option Bool :=
  (idx a2.m.funcs a11.fn).bind fun x2816 =>
  if x2816.params < 0 ∨ x2816.params > (len x2816.regs) then
    some false
  else
    (whl (fun (s : Int) => check_looker_call.bd23 a2 a11 x2816 s) FUEL 0).bind fun z =>
    match z with
      | .ret r => some r
      | .go p => check_looker_call.nx23 a2 a11 x2816
set_option maxHeartbeats 4000000 in
theorem check_looker_call_ok {E : World} {H : FP} {w : World} {a2 : PLooker} {a11 : PInstr} {b1 : Nat} {o3 : Nat} {v5 : Value} {v7 : Value} {v9 : Value} {v12 : Value} {r : Bool} (h4 : CellsIn H b1 o3 [v5, .int .i64 a2.f.params, .int .i64 a2.f.result, v7, v9]) (h6 : SlI kFunc H a2.m.funcs v5) (h8 : SlI (kInt .i64) H a2.f.regs v7) (h10 : SlI kBlock H a2.f.blocks v9) (h13 : SlI (kInt .i64) H a11.args v12) (hp : check_looker_call a2 a11 = some r) (hst : St E H [] w) :
    Fn Try.prog 107 #[.pointer (some ⟨b1, o3, none⟩), .agg #[.int .i64 a11.op, .int .i64 a11.dst, v12, .int .i64 a11.imm, .int .i64 a11.fn]] w fun v w' => ∃ A, check_looker_call.R r v A ∧ St E H A w' := by
 refine fb 59 [.tmp 4] Try.func107 rfl rfl rfl rfl rfl hst <| sr <| tb [.int .i64 a11.op, .int .i64 a11.dst, v12, .int .i64 a11.imm, .int .i64 a11.fn] rfl rfl fun b14 => ta rfl <| nz <| TC.seq fun K1 k2 => ch mix [bx b14 52 [.int .i64 a11.op, .int .i64 a11.dst, v12, .int .i64 a11.imm, .int .i64 a11.fn]] (srcG 0 rfl srcG0) <| hv 0 rfl mv (by kernel_rfl) rfl <| hv 1 rfl (rv_nilCheck rfl) (by kernel_rfl) rfl <| hv 2 rfl (fa f145_0 rfl) (by kernel_rfl) rfl <| hv 3 rfl (fa f35_0 rfl) (by kernel_rfl) rfl <| hv 4 rfl (lr s33 srcInH h4 0 rfl rfl) (by kernel_rfl) rfl <| hv 5 rfl (fa f52_4 rfl) (by kernel_rfl) rfl <| hv 6 rfl (lbG s3 0 rfl rfl rfl) (by kernel_rfl) rfl <| hi 7 rfl u33 i41 h6 hp rfl rfl rfl (by kernel_rfl) rfl ?_
 rintro x2816 b2817 o2818 _ hp ⟨v2822, v2824, rfl, h2823, h2825⟩ h2821
 refine hv 8 rfl (lR (ds := [.int .i64 x2816.params, .int .i64 x2816.result, v2822, v2824]) ag_41 srcInH h2821 0 rfl rfl rfl) (by kernel_rfl) rfl <| ho 9 rfl (by kernel_rfl) fun K4 k5 => tl i41 rfl fun b3616 => hk k5 (srcG 1 rfl srcG0) <| ho 10 rfl (by kernel_rfl) fun K6 k7 => tS 0 m41 rfl rfl [.int .i64 x2816.params, .int .i64 x2816.result, v2822, v2824] rfl (oc rfl (oc rfl (oc (h2823).one (oc (h2825).one oc0)))) rfl rfl <| hk k7 (srcG 1 rfl srcG0) <| hz (by kernel_rfl) <| tg k2 <| TC.seq fun K8 k9 => sr <| tv (fa f41_0 rfl) rfl <| tv (lb s3 0 rfl rfl rfl) rfl <| tv (blt rfl rfl) rfl <| tm rfl <| TL.cut 7 fun K10 k11 => ?_
 have J12 {e14} : ∀ w, St E H [bx b3616 41 [.int .i64 x2816.params, .int .i64 x2816.result, v2822, v2824], bx b14 52 [.int .i64 a11.op, .int .i64 a11.dst, v12, .int .i64 a11.imm, .int .i64 a11.fn]] w → K10 (ovr e14 [(27, .bool (decide (x2816.params < 0 ∨ x2816.params > (len x2816.regs)))), (0, .pointer (some ⟨b1, o3, none⟩)), (3, .pointer (some ⟨b14, 0, none⟩)), (5, .pointer (some ⟨b3616, 0, none⟩))]) w := by
  refine tlg k11 <| nz <| cD rfl hp (fun hc15 hp => ?_) fun hc15 hp => ?_
  · exact sr <| ta rfl <| nz <| TC.ret <| rt hp [] ⟨rfl, rfl⟩
  · refine sk k9 rfl <| TC.seq fun K16 k17 => sr <| tv (fa f52_2 rfl) rfl <| tv (lb s25 1 rfl rfl rfl) rfl <| tv (ln u25 h13 rfl) rfl <| tm rfl <| nz <| TC.block <| bE hp fun z_19 hz20 hr21 => ?_
    have J33 {e24} (hq34 : .go () = z_19) : ∀ w, St E H [bx b14 52 [.int .i64 a11.op, .int .i64 a11.dst, v12, .int .i64 a11.imm, .int .i64 a11.fn], bx b3616 41 [.int .i64 x2816.params, .int .i64 x2816.result, v2822, v2824]] w → K16 (ovr e24 [(0, .pointer (some ⟨b1, o3, none⟩)), (3, .pointer (some ⟨b14, 0, none⟩)), (5, .pointer (some ⟨b3616, 0, none⟩))]) w := by
     subst hq34
     replace hp : check_looker_call.nx23 a2 a11 x2816 = some r := hr21
     refine tg k17 <| sr <| tv (fa f41_1 rfl) rfl <| tv (lb s3 1 rfl rfl rfl) rfl <| tv (beq rfl rfl) rfl <| tm rfl <| bE hp fun t4417 ht30 hp => TL.cut 8 fun K25 k26 => ?_
     have J27 {e29} : ∀ w, St E H [bx b14 52 [.int .i64 a11.op, .int .i64 a11.dst, v12, .int .i64 a11.imm, .int .i64 a11.fn], bx b3616 41 [.int .i64 x2816.params, .int .i64 x2816.result, v2822, v2824]] w → K25 (ovr e29 [(58, .bool t4417)]) w := by
      exact tlg k26 <| ta rfl <| nz <| TC.ret <| rt hp [] ⟨rfl, rfl⟩
     refine ifE ht30 (fun hc28 hp => ?_) fun hc28 hp => ?_
     · refine gn rfl (bT hc28) rfl rfl <| gn rfl (bT hc28) rfl rfl <| gn rfl (bT hc28) rfl rfl <| gn rfl (bT hc28) rfl rfl <| gn rfl (bT hc28) rfl rfl <| gn rfl (bT hc28) rfl rfl <| gn rfl (bT hc28) rfl rfl <| tv (pT (bT hc28)) rfl ?_
       obtain rfl := Option.some.inj hp
       exact nj J27 rfl
     · refine gy rfl (bF hc28) <| tm rfl <| gy rfl (bF hc28) <| tv (fa f41_1 rfl) rfl <| gy rfl (bF hc28) <| tv (lb s3 1 rfl rfl rfl) rfl <| gy rfl (bF hc28) <| tv (fa f52_1 rfl) rfl <| gy rfl (bF hc28) <| tv (lb s3 0 rfl rfl rfl) rfl <| gy rfl (bF hc28) <| tbs [(0, .int .i64 a11.dst)] [.int .i64 a11.dst] u25 i3 (by kernel_rfl) rfl rfl rfl rfl fun b4418 => gy rfl (bF hc28) <| tf 1 0 [_,_,_,_] rfl <| TL.litOwn (n := 1) (xs := [a11.dst]) (RepL.to (RepL.cons (k := (kInt .i64)) (x := a11.dst) ⟨rfl, rfl⟩ RepL.nil) rfl) rfl rfl (ltb rfl) fun F4419 h4420 => bE hp fun x4421 hy31 hp => tc 0 [_,_,_] rfl c102 (fun _ => check_looker_are_ok (a2 := a2) (a11 := x2816.result) (a12 := [a11.dst]) (h4.mono subH) (h6.mono subH) (h8.mono subH) (h10.mono subH) (h4420.ro.mono (subB 0 rfl)) hy31) rfl ?_
       rintro _ _ ⟨rfl, rfl⟩
       refine tv (pF (bF hc28)) rfl <| tp [1, 2] [_,_] rfl rfl ?_
       obtain rfl := Option.some.inj hp
       exact nj J27 rfl
    refine lp hz20 [1, 0] rfl (fun s e L => ∃ e18, e = ovr e18 [(0, .pointer (some ⟨b1, o3, none⟩)), (3, .pointer (some ⟨b14, 0, none⟩)), (5, .pointer (some ⟨b3616, 0, none⟩)), (29, v12), (30, .int .i64 (len a11.args)), (31, .int .i64 s)] ∧ L = [bx b14 52 [.int .i64 a11.op, .int .i64 a11.dst, v12, .int .i64 a11.imm, .int .i64 a11.fn], bx b3616 41 [.int .i64 x2816.params, .int .i64 x2816.result, v2822, v2824]]) ⟨_, ovr_eq _ _ rfl, rfl⟩ ?_
    rintro x4416 _ _ ⟨e18, rfl, rfl⟩ X22 hp hx23
    replace hp : check_looker_call.bd23 a2 a11 x2816 x4416 = some X22 := hp
    refine sr <| tv (blt rfl rfl) rfl <| nz <| TC.seq fun K35 k36 => cD rfl hp (fun hc37 hp => ?_) fun hc37 hp => ?_
    · refine sk k36 rfl <| TC.seq fun K38 k39 => TC.block <| sr <| tm rfl <| ti u25 i3 h13 hp rfl rfl rfl rfl ?_
      rintro x4422 b4423 o4424 _ hp rfl h4427
      refine tv (lr s3 sH h4427 0 rfl rfl) rfl <| ta rfl <| ta rfl <| nz <| sr <| tm rfl <| tv (fa f41_2 rfl) rfl <| tv (lb s25 1 rfl rfl rfl) rfl <| tm rfl <| ti u25 i3 h2823 hp rfl rfl rfl rfl ?_
      rintro x4428 b4429 o4430 _ hp rfl h4433
      refine tv (lr s3 sH h4433 0 rfl rfl) rfl <| tm rfl <| tbs [(0, .int .i64 x4422)] [.int .i64 x4422] u25 i3 (by kernel_rfl) rfl rfl rfl rfl fun b4434 => tf 1 0 [_,_,_,_] rfl <| TL.litOwn (n := 1) (xs := [x4422]) (RepL.to (RepL.cons (k := (kInt .i64)) (x := x4422) ⟨rfl, rfl⟩ RepL.nil) rfl) rfl rfl (ltb rfl) fun F4435 h4436 => bE hp fun x4437 hy42 hp => tc 0 [_,_,_] rfl c102 (fun _ => check_looker_are_ok (a2 := a2) (a11 := x4428) (a12 := [x4422]) (h4.mono subH) (h6.mono subH) (h8.mono subH) (h10.mono subH) (h4436.ro.mono (subB 0 rfl)) hy42) rfl ?_
      rintro _ _ ⟨rfl, rfl⟩
      refine tv (rv_not rfl) rfl <| nz <| cB rfl hp (fun hc44 hp => ?_) fun hc44 hp => ?_
      · refine sr <| ta rfl <| nz <| TC.ret ?_
        obtain rfl := ex_ret hp hx23
        exact rt hr21 [] ⟨rfl, rfl⟩
      · exact sk k39 rfl <| TC.region <| tv (bad rfl rfl) rfl <| tm rfl <| nl <| gk hp [1, 2] ⟨_, ovr_eq _ _ rfl, rfl⟩
    · exact TC.exit <| jn [0, 1] (J33 (ex_ret hp hx23))
 by_cases hc13 : x2816.params < 0
 · exact gn rfl (bT hc13) rfl rfl <| gn rfl (bT hc13) rfl rfl <| gn rfl (bT hc13) rfl rfl <| gn rfl (bT hc13) rfl rfl <| gn rfl (bT hc13) rfl rfl <| gn rfl (bT hc13) rfl rfl <| tv (pT (bT hc13)) rfl <| nj J12 (bOt hc13)
 · exact gy rfl (bF hc13) <| tv (fa f41_0 rfl) rfl <| gy rfl (bF hc13) <| tv (lb s3 0 rfl rfl rfl) rfl <| gy rfl (bF hc13) <| tv (fa f41_2 rfl) rfl <| gy rfl (bF hc13) <| tv (lb s25 0 rfl rfl rfl) rfl <| gy rfl (bF hc13) <| tv (ln u25 h2823 rfl) rfl <| gy rfl (bF hc13) <| tv (bgt rfl rfl) rfl <| tv (pF (bF hc13)) rfl <| nj J12 (bOf hc13)
end Go.Proofs.Ytpmcbahahjelnaa
