/- The walk through the program's functions: each one's pure reading, and that a call does what it says. No conditions. -/
import Derived.Test.YtpmcbahahjelnaaM3
set_option linter.unusedVariables false
set_option linter.unusedSimpArgs false
namespace Go.Proofs.Ytpmcbahahjelnaa
open Go Go.Proofs

/-! ### fettle/check.Module -/
abbrev check_Module.R (r : GErr) (v : Value) (A : List FP) : Prop := ∃ (w1 : Value) (G1 : FP), w1 = v ∧ A = [G1] ∧ ErO 63 106 108 r w1 G1
def check_Module.nx11  : Option GErr :=
  some GErr.no
def check_Module.bd11 (a1 : PModule) (x6 : Int) : Option (Ex (Ex GErr Unit) Int) :=
  if x6 < (len a1.funcs) then
    (check_Func a1 x6).bind fun x8 =>
    if ¬ x8 = GErr.no then
      some (.ret (.ret (GErr.spot x6 x8)))
    else
      some (.go (w64 (x6 + 1)))
  else
    some (.ret (.go ()))
def check_Module (a1 : PModule) : Option GErr :=
  if (len a1.funcs) > 32 then
    some (GErr.code 5)
  else
    (whl (fun (s : Int) => check_Module.bd11 a1 s) FUEL 0).bind fun z =>
    match z with
      | .ret r => some r
      | .go p => check_Module.nx11
theorem check_Module_ok {E : World} {H : FP} {w : World} {a1 : PModule} {v2 : Value} {r : GErr} (h3 : SlI kFunc H a1.funcs v2) (hp : check_Module a1 = some r) (hst : St E H [] w) :
    Fn Try.prog 47 #[.agg #[v2]] w fun v w' => ∃ A, check_Module.R r v A ∧ St E H A w' := by
 refine fb 27 [.tmp 2] Try.func47 rfl rfl rfl rfl rfl hst <| sr <| tb [v2] rfl rfl fun b4 => ta rfl <| nz <| TC.seq fun K1 k2 => sr <| tv (fa f35_0 rfl) rfl <| tv (lb s33 0 rfl rfl rfl) rfl <| tv (ln u33 h3 rfl) rfl <| tv (bgt rfl rfl) rfl <| nz <| cD rfl hp (fun hc3 hp => ?_) fun hc3 hp => ?_
 · exact sr <| tv (mI u63 rfl) rfl <| ta rfl <| nz <| TC.ret <| W.new0 <| rt hp [0] ⟨(.iface 63 (.int .i64 5)), ([] : FP), rfl, rfl, (ErO.mk _ : ErO 63 106 108 (GErr.code 5) (.iface 63 (.int .i64 5)) [])⟩
 · refine sk k2 rfl <| TC.seq fun K4 k5 => sr <| tv (fa f35_0 rfl) rfl <| tv (lb s33 0 rfl rfl rfl) rfl <| tv (ln u33 h3 rfl) rfl <| tm rfl <| nz <| TC.block <| bE hp fun z_7 hz8 hr9 => ?_
   have J13 {e12} (hq14 : .go () = z_7) : ∀ w, St E H [] w → K4 (ovr e12 []) w := by
    subst hq14
    replace hp : check_Module.nx11 = some r := hr9
    exact tg k5 <| sr <| ta rfl <| nz <| TC.ret <| W.new0 <| rt hp [0] ⟨.nilIface, ([] : FP), rfl, rfl, (ErO.nil : ErO 63 106 108 GErr.no .nilIface [])⟩
   refine lp hz8 [0] rfl (fun s e L => ∃ e6, e = ovr e6 [(1, .pointer (some ⟨b4, 0, none⟩)), (12, .int .i64 (len a1.funcs)), (13, .int .i64 s)] ∧ L = [bx b4 35 [v2]]) ⟨_, ovr_eq _ _ rfl, rfl⟩ ?_
   rintro x6 _ _ ⟨e6, rfl, rfl⟩ X10 hp hx11
   replace hp : check_Module.bd11 a1 x6 = some X10 := hp
   refine sr <| tv (blt rfl rfl) rfl <| nz <| TC.seq fun K15 k16 => cD rfl hp (fun hc17 hp => ?_) fun hc17 hp => ?_
   · refine sk k16 rfl <| TC.seq fun K18 k19 => TC.block <| sr <| tm rfl <| ta rfl <| nz <| sr <| tv (lA (ds := [v2]) ag_35 0 rfl rfl rfl rfl) rfl <| tm rfl <| bE hp fun x8 hy20 hp => tc 0 [_] rfl c72 (fun _ => check_Func_ok (a1 := a1) (a4 := x6) (h3.mono subH) hy20) rfl ?_
     rintro _ _ ⟨v9, F10, rfl, rfl, h11⟩
     refine ta rfl <| nz <| sr <| tm rfl <| tv (rv_neqEN ifc_27 h11 rfl) rfl <| nz <| cD rfl hp (fun hc22 hp => ?_) fun hc22 hp => ?_
     · refine sr <| tm rfl <| tm rfl <| tv (rv_bv (vs := [(0, .int .i64 x6), (1, v9)]) (ds := [.int .i64 x6, v9]) rfl (fun w => by rcases (h11).shp with rfl | ⟨_, _, rfl⟩ <;> kernel_rfl)) rfl <| tb [.int .i64 x6, v9] rfl rfl fun b12 => tv (mI u106 rfl) rfl <| tf 0 2 [_,_] rfl <| ta rfl <| nz <| TC.ret ?_
       obtain rfl := ex_ret hp hx11
       exact rt hr9 [0] ⟨(.iface 106 (.pointer (some ⟨b12, 0, none⟩))), (bx b12 108 [.int .i64 x6, v9] ++ (F10)), rfl, rfl, (ErO.at_ x6 b12 h11)⟩
     · exact sk k19 rfl <| TC.region <| tv (bad rfl rfl) rfl <| tm rfl <| nl <| gk hp [1] ⟨_, ovr_eq _ _ rfl, rfl⟩
   · exact TC.exit <| jn [] (J13 (ex_ret hp hx11))

/-! ### fettle/graph.Next -/
abbrev graph_Next.R (r : List (List Int)) (v : Value) (A : List FP) : Prop := ∃ (w1 : Value) (G1 : FP), w1 = v ∧ A = [G1] ∧ SlO 25 (kSl 3 (kInt .i64)) r w1 G1
def graph_Next.nx9  (x15 : List (List Int)) : Option (List (List Int)) :=
  some x15
def graph_Next.nx24 (x14 : Int) (x35 : List (List Int)) : Option (Ex (List (List Int)) (List (List Int) × Int)) :=
  some (.go (x35, (w64 (x14 + 1))))
def graph_Next.jn34 (x34 : Int) (x38 : List (List Int)) : Option (Ex (List (List Int)) (List (List Int) × Int)) :=
  some (.go (x38, (w64 (x34 + 1))))
def graph_Next.bd24 (x14 : Int) (x18 : PBlock) (x31 : List (List Int)) (x34 : Int) : Option (Ex (List (List Int)) (List (List Int) × Int)) :=
  if x34 < (len x18.term.to) then
    (idx x18.term.to x34).bind fun x41 =>
    (if x41 ≥ 0 ∧ x41 < (len x31) then (idx x31 x14).bind fun x67 =>
    (slices_Contains x67 x41).bind fun x75 =>
    some (!x75) else some false).bind fun t47 =>
    if t47 = true then
      (idx x31 x14).bind fun x48 =>
      (cat x48 [x41]).bind fun x58 =>
      graph_Next.jn34 x34 (x31.set (x14).toNat x58)
    else
      graph_Next.jn34 x34 x31
  else
    some (.ret x31)
def graph_Next.bd9 (a1 : PFunc) (x11 : List (List Int)) (x14 : Int) : Option (Ex (List (List Int)) (List (List Int) × Int)) :=
  if x14 < (len a1.blocks) then
    (idx a1.blocks x14).bind fun x18 =>
    (whl (fun (s : (List (List Int) × Int)) => graph_Next.bd24 x14 x18 s.1 s.2) FUEL (x11, 0)).bind fun z =>
    graph_Next.nx24 x14 z
  else
    some (.ret x11)
def graph_Next (a1 : PFunc) : Option (List (List Int)) :=
  (mkl (len a1.blocks) ([] : List Int)).bind fun x7 =>
  (whl (fun (s : (List (List Int) × Int)) => graph_Next.bd9 a1 s.1 s.2) FUEL (x7, 0)).bind fun z =>
  graph_Next.nx9 z
set_option maxHeartbeats 4000000 in
theorem graph_Next_ok {E : World} {H : FP} {w : World} {a1 : PFunc} {v2 : Value} {v4 : Value} {r : List (List Int)} (h3 : SlI (kInt .i64) H a1.regs v2) (h5 : SlI kBlock H a1.blocks v4) (hp : graph_Next a1 = some r) (hst : St E H [] w) :
    Fn Try.prog 58 #[.agg #[.int .i64 a1.params, .int .i64 a1.result, v2, v4]] w fun v w' => ∃ A, graph_Next.R r v A ∧ St E H A w' := by
 refine fb 58 [.tmp 2] Try.func58 rfl rfl rfl rfl rfl hst <| sr <| tb [.int .i64 a1.params, .int .i64 a1.result, v2, v4] rfl rfl fun b6 => ta rfl <| nz <| sr <| tv (fa f41_3 rfl) rfl <| tv (lb s39 0 rfl rfl rfl) rfl <| tv (ln u39 h5 rfl) rfl <| tk (k := (kSl 3 (kInt .i64))) u73 i25 hp ⟨_, rfl, SlO.nil 3⟩ rfl rfl rfl rfl rfl rfl fun x7 v8 F9 h10 hp => ta rfl <| nz <| TC.seq fun K2 k3 => sr <| tv (fa f41_3 rfl) rfl <| tv (lb s39 1 rfl rfl rfl) rfl <| tv (ln u39 h5 rfl) rfl <| tm rfl <| nz <| TC.block <| bE hp fun z_5 hz6 hr7 => ?_
 have J11 {x15 F16 e10} (h17 : SlO 25 (kSl 3 (kInt .i64)) x15 v8 F16) (hq12 : x15 = z_5) : ∀ w, St E H [F16] w → K2 (ovr e10 [(3, v8)]) w := by
  subst hq12
  replace hp : graph_Next.nx9 x15 = some r := hr7
  exact tg k3 <| sr <| tm rfl <| ta rfl <| nz <| TC.ret <| rt hp [0] ⟨v8, F16, rfl, rfl, h17⟩
 refine lp hz6 [0] rfl (fun s e L => ∃ x11 x14 F12 e4, s = (x11, x14) ∧ SlO 25 (kSl 3 (kInt .i64)) x11 v8 F12 ∧ e = ovr e4 [(3, v8), (13, v4), (14, .int .i64 (len a1.blocks)), (15, .int .i64 x14)] ∧ L = [F12]) ⟨_, _, F9, _, rfl, h10, ovr_eq _ _ rfl, rfl⟩ ?_
 rintro _ _ _ ⟨x11, x14, F12, e4, rfl, h13, rfl, rfl⟩ X8 hp hx9
 replace hp : graph_Next.bd9 a1 x11 x14 = some X8 := hp
 refine sr <| tv (blt rfl rfl) rfl <| nz <| TC.seq fun K13 k14 => cD rfl hp (fun hc15 hp => ?_) fun hc15 hp => ?_
 · refine sk k14 rfl <| TC.seq fun K16 k17 => TC.block <| sr <| tm rfl <| ti u39 i50 h5 hp rfl rfl rfl rfl ?_
   rintro x18 b19 o20 _ hp ⟨v24, v26, v28, rfl, h25, h27, h29⟩ h23
   refine tv (lR (ds := [v24, v26, .int .i64 x18.term.kind, .int .i64 x18.term.arg, v28]) ag_50 sH h23 0 rfl rfl rfl) rfl <| tl i50 rfl fun b30 => ta rfl <| tS 0 m50 rfl rfl [v24, v26, .int .i64 x18.term.kind, .int .i64 x18.term.arg, v28] rfl (oc (h25).one (oc (h27).one (oc rfl (oc rfl (oc (h29).one oc0))))) rfl rfl <| nz <| sr <| tv (fa f50_2 rfl) rfl <| tv (fa f46_2 rfl) rfl <| tv (lb s25 0 rfl rfl rfl) rfl <| tv (ln u25 h29 rfl) rfl <| tm rfl <| nz <| TC.block <| bE hp fun z_20 hz21 hr22 => ?_
   have J26 {x35 F36 e25} (h37 : SlO 25 (kSl 3 (kInt .i64)) x35 v8 F36) (hq27 : x35 = z_20) : ∀ w, St E H [F36] w → K16 (ovr e25 [(3, v8), (13, v4), (14, .int .i64 (len a1.blocks)), (15, .int .i64 x14)]) w := by
    subst hq27
    replace hp : graph_Next.nx24 x14 x35 = some X8 := hr22
    exact tg k17 <| TC.region <| tv (bad rfl rfl) rfl <| tm rfl <| nl <| gk hp [0] ⟨_, _, F36, _, rfl, h37, ovr_eq _ _ rfl, rfl⟩
   refine lp hz21 [1] rfl (fun s e L => ∃ x31 x34 F32 e19, s = (x31, x34) ∧ SlO 25 (kSl 3 (kInt .i64)) x31 v8 F32 ∧ e = ovr e19 [(3, v8), (4, .int .i64 x14), (13, v4), (14, .int .i64 (len a1.blocks)), (15, .int .i64 x14), (22, v28), (23, .int .i64 (len x18.term.to)), (24, .int .i64 x34)] ∧ L = [F32]) ⟨_, _, F12, _, rfl, h13, ovr_eq _ _ rfl, rfl⟩ ?_
   rintro _ _ _ ⟨x31, x34, F32, e19, rfl, h33, rfl, rfl⟩ X23 hp hx24
   replace hp : graph_Next.bd24 x14 x18 x31 x34 = some X23 := hp
   refine sr <| tv (blt rfl rfl) rfl <| nz <| TC.seq fun K28 k29 => cD rfl hp (fun hc30 hp => ?_) fun hc30 hp => ?_
   · refine sk k29 rfl <| TC.seq fun K31 k32 => ?_
     have J34 {x38 F39 e33} (h40 : SlO 25 (kSl 3 (kInt .i64)) x38 v8 F39) (hp : graph_Next.jn34 x34 x38 = some X23) : ∀ w, St E H [F39] w → K31 (ovr e33 [(3, v8), (4, .int .i64 x14), (13, v4), (14, .int .i64 (len a1.blocks)), (15, .int .i64 x14), (22, v28), (23, .int .i64 (len x18.term.to)), (24, .int .i64 x34)]) w := by
      exact tg k32 <| TC.region <| tv (bad rfl rfl) rfl <| tm rfl <| nl <| gk hp [0] ⟨_, _, F39, _, rfl, h40, ovr_eq _ _ rfl, rfl⟩
     refine TC.block <| sr <| ti u25 i3 h29 hp rfl rfl rfl rfl ?_
     rintro x41 b42 o43 _ hp rfl h46
     refine tv (lr s3 sH h46 0 rfl rfl) rfl <| ta rfl <| nz <| sr <| tm rfl <| tv (bge rfl rfl) rfl <| tm rfl <| TL.cut 5 fun K36 k37 => ?_
     have J38 {e40} : ∀ w, St E H [F32] w → K36 (ovr e40 [(35, .bool (decide (x41 ≥ 0 ∧ x41 < (len x31)))), (3, v8), (4, .int .i64 x14), (7, .int .i64 x41), (13, v4), (14, .int .i64 (len a1.blocks)), (15, .int .i64 x14), (22, v28), (23, .int .i64 (len x18.term.to)), (24, .int .i64 x34)]) w := by
      refine tlg k37 <| tm rfl <| bE hp fun t47 ht50 hp => TL.cut 8 fun K41 k42 => ?_
      have J43 {e45} : ∀ w, St E H [F32] w → K41 (ovr e45 [(44, .bool t47), (3, v8), (4, .int .i64 x14), (7, .int .i64 x41), (13, v4), (14, .int .i64 (len a1.blocks)), (15, .int .i64 x14), (22, v28), (23, .int .i64 (len x18.term.to)), (24, .int .i64 x34)]) w := by
       refine tlg k42 <| nz <| cB rfl hp (fun hc46 hp => ?_) fun hc46 hp => ?_
       · refine TC.region <| tm rfl <| tm rfl <| tm rfl <| tm rfl <| bE hp fun x48 hx47 hp => TL.open_ h33 hx47 ?_
         rintro b49 _ F51 F52 h53 ⟨v55, rfl, h56⟩
         exact tv (rv_ixH u73 i25 rfl rfl (idx_some hx47).1 h53) rfl <| tv (lr s25 (Src.at_ 0 rfl) (Hole.cells h53) 0 rfl rfl) rfl <| tm rfl <| tbs [(0, .int .i64 x41)] [.int .i64 x41] u25 i3 (by kernel_rfl) rfl rfl rfl rfl fun b57 => tp [2, 0, 1] [_,_,_] rfl rfl <| tf 2 0 [_,_,_,_] rfl <| tp2 u25 i3 h56 hp (RepL.to (RepL.cons (k := (kInt .i64)) (x := x41) ⟨rfl, rfl⟩ RepL.nil) rfl) rfl rfl rfl rfl rfl rfl rfl rfl rfl fun x58 v59 F60 h61 hp => tv (rv_ixH u73 i25 rfl rfl (idx_some hx47).1 h53) rfl <| tp [1, 0] [_,_] rfl rfl <| tsH h53 m25 0 rfl h61.o1 rfl fun F63 h64 => nl <| W.shut (a := x58) h64 ⟨_, rfl, h61⟩ fun F65 h66 => jn [0] (J34 h66 hp)
       · exact TC.skip <| jn [0] (J34 h33 hp)
      refine ifE ht50 (fun hc44 hp => ?_) fun hc44 hp => ?_
      · refine gy rfl (bT hc44) <| tm rfl <| gy rfl (bT hc44) <| tm rfl <| gy rfl (bT hc44) <| ti u73 i25 (h33).ro hp rfl rfl rfl rfl ?_
        rintro x67 b68 o69 _ hp ⟨v73, rfl, h74⟩ h72
        refine gy rfl (bT hc44) <| tv (lr s25 (Src.at_ 0 rfl) h72 0 rfl rfl) rfl <| gy rfl (bT hc44) <| tm rfl <| gy rfl (bT hc44) <| bE hp fun x75 hy52 hp => tc 0 [_] rfl c52 (fun _ => slices_Contains_ok (a1 := x67) (a4 := x41) (h74.mono (subB 0 rfl)) hy52) rfl ?_
        rintro _ _ ⟨rfl, rfl⟩
        refine gy rfl (bT hc44) <| tv (rv_not rfl) rfl <| tv (pT (bT hc44)) rfl ?_
        obtain rfl := Option.some.inj hp
        exact nj J43 rfl
      · refine gn rfl (bF hc44) rfl rfl <| gn rfl (bF hc44) rfl rfl <| gn rfl (bF hc44) rfl rfl <| gn rfl (bF hc44) rfl rfl <| gn rfl (bF hc44) rfl rfl <| gn rfl (bF hc44) rfl rfl <| gn rfl (bF hc44) rfl rfl <| tv (pF (bF hc44)) rfl ?_
        obtain rfl := Option.some.inj hp
        exact nj J43 rfl
     by_cases hc39 : x41 ≥ 0
     · exact gy rfl (bT hc39) <| tm rfl <| gy rfl (bT hc39) <| tm rfl <| gy rfl (bT hc39) <| tv (ln u73 h33.ro rfl) rfl <| gy rfl (bT hc39) <| tv (blt rfl rfl) rfl <| tv (pT (bT hc39)) rfl <| nj J38 (bAt hc39)
     · exact gn rfl (bF hc39) rfl rfl <| gn rfl (bF hc39) rfl rfl <| gn rfl (bF hc39) rfl rfl <| gn rfl (bF hc39) rfl rfl <| tv (pF (bF hc39)) rfl <| nj J38 (bAf hc39)
   · exact TC.exit <| jn [0] (J26 h33 (ex_ret hp hx24))
 · exact TC.exit <| jn [0] (J11 h13 (ex_ret hp hx9))

/-! ### fettle/graph.order$1 -/
abbrev graph_order_1.R (b2 : Nat) (b17 : Nat) (r : List Bool × List Int) (v : Value) (A : List FP) : Prop := ∃ (w1 : Value) (G1 : FP) (w2 : Value) (G2 : FP), .tuple #[] = v ∧ A = [bx b2 58 [w1], G1, bx b17 25 [w2], G2] ∧ SlO 4 kBool r.1 w1 G1 ∧ SlO 3 (kInt .i64) r.2 w2 G2
def graph_order_1.nx10 (a1 : Int) (x46 : List Bool) (x50 : List Int) : Option (List Bool × List Int) :=
  (cat x50 [a1]).bind fun x55 =>
  some (x46, x55)
def graph_order_1.jn21 (x45 : Int) (x59 : List Bool) (x63 : List Int) : Option (Ex (List Bool × List Int) (List Bool × List Int × Int)) :=
  some (.go (x59, x63, (w64 (x45 + 1))))
def graph_order_1.bd10 (a9 : List (List Int)) (rec : Int → (List Bool) → (List (List Int)) → (List Int) → Option (List Bool × List Int)) (x29 : List Int) (x37 : List Bool) (x41 : List Int) (x45 : Int) : Option (Ex (List Bool × List Int) (List Bool × List Int × Int)) :=
  if x45 < (len x29) then
    (idx x29 x45).bind fun x67 =>
    (idx x37 x67).bind fun x73 =>
    if (!x73) = true then
      (rec x67 x37 a9 x41).bind fun x79 =>
      graph_order_1.jn21 x45 x79.1 x79.2
    else
      graph_order_1.jn21 x45 x37 x41
  else
    some (.ret (x37, x41))
def graph_order_1.body (rec : Int → (List Bool) → (List (List Int)) → (List Int) → Option (List Bool × List Int)) (a1 : Int) (a3 : List Bool) (a9 : List (List Int)) (a18 : List Int) : Option (List Bool × List Int) :=
  (idx a3 a1).bind fun x23 =>
  (idx a9 a1).bind fun x29 =>
  (whl (fun (s : (List Bool × List Int × Int)) => graph_order_1.bd10 a9 rec x29 s.1 s.2.1 s.2.2) FUEL ((a3.set (a1).toNat true), a18, 0)).bind fun z =>
  graph_order_1.nx10 a1 z.1 z.2
set_option maxHeartbeats 4000000 in
theorem graph_order_1.body_ok {rec : Int → (List Bool) → (List (List Int)) → (List Int) → Option (List Bool × List Int)} (hrec : ∀ (E : World) (H : FP) (w : World) (a1 : Int) (a3 : List Bool) (a9 : List (List Int)) (a18 : List Int) (b2 : Nat) (v4 : Value) (F5 : FP) (b8 : Nat) (o10 : Nat) (v12 : Value) (b14 : Nat) (o15 : Nat) (b17 : Nat) (v19 : Value) (F20 : FP) (r : List Bool × List Int) (h6 : SlO 4 kBool a3 v4 F5) (h11 : CellsIn H b8 o10 [v12]) (h13 : SlI (kSl 3 (kInt .i64)) H a9 v12) (h16 : CellsIn H b14 o15 [.func (.func 88) #[] #[.pointer (some ⟨b2, 0, none⟩), .pointer (some ⟨b8, o10, none⟩), .pointer (some ⟨b14, o15, none⟩), .pointer (some ⟨b17, 0, none⟩)]]) (h21 : SlO 3 (kInt .i64) a18 v19 F20), rec a1 a3 a9 a18 = some r → St E H [bx b2 58 [v4], F5, bx b17 25 [v19], F20] w →
    Fn Try.prog 88 #[.int .i64 a1, .pointer (some ⟨b2, 0, none⟩), .pointer (some ⟨b8, o10, none⟩), .pointer (some ⟨b14, o15, none⟩), .pointer (some ⟨b17, 0, none⟩)] w fun v w' => ∃ A, graph_order_1.R b2 b17 r v A ∧ St E H A w')
    {E : World} {H : FP} {w : World} {a1 : Int} {a3 : List Bool} {a9 : List (List Int)} {a18 : List Int} {b2 : Nat} {v4 : Value} {F5 : FP} {b8 : Nat} {o10 : Nat} {v12 : Value} {b14 : Nat} {o15 : Nat} {b17 : Nat} {v19 : Value} {F20 : FP} {r : List Bool × List Int} (h6 : SlO 4 kBool a3 v4 F5) (h11 : CellsIn H b8 o10 [v12]) (h13 : SlI (kSl 3 (kInt .i64)) H a9 v12) (h16 : CellsIn H b14 o15 [.func (.func 88) #[] #[.pointer (some ⟨b2, 0, none⟩), .pointer (some ⟨b8, o10, none⟩), .pointer (some ⟨b14, o15, none⟩), .pointer (some ⟨b17, 0, none⟩)]]) (h21 : SlO 3 (kInt .i64) a18 v19 F20) (hp : graph_order_1.body rec a1 a3 a9 a18 = some r) (hst : St E H [bx b2 58 [v4], F5, bx b17 25 [v19], F20] w) :
    Fn Try.prog 88 #[.int .i64 a1, .pointer (some ⟨b2, 0, none⟩), .pointer (some ⟨b8, o10, none⟩), .pointer (some ⟨b14, o15, none⟩), .pointer (some ⟨b17, 0, none⟩)] w fun v w' => ∃ A, graph_order_1.R b2 b17 r v A ∧ St E H A w' := by
 refine fb 33 [] Try.func88 rfl rfl rfl rfl rfl hst <| sr <| tv (lb s58 0 rfl rfl rfl) rfl <| tm rfl <| tO u58 i4 h6 hp rfl rfl rfl rfl fun x23 b24 o25 h26 hp => tp [1, 0, 2, 3] [_,_,_,_] rfl rfl <| tE h6 h26 m4 rfl ⟨rfl, rfl⟩ w1 fun F27 h28 => nz <| TC.seq fun K2 k3 => sr <| tv (lr s73 sH h11 0 rfl rfl) rfl <| tm rfl <| ti u73 i25 h13 hp rfl rfl rfl rfl ?_
 rintro x29 b30 o31 _ hp ⟨v35, rfl, h36⟩ h34
 refine tv (lr s25 sH h34 0 rfl rfl) rfl <| tv (ln u25 h36 rfl) rfl <| tm rfl <| nz <| TC.block <| bE hp fun z_6 hz7 hr8 => ?_
 have J13 {x46 x50 v47 F48 v51 F52 e11} (h49 : SlO 4 kBool x46 v47 F48) (h53 : SlO 3 (kInt .i64) x50 v51 F52) (hq14 : (x46, x50) = z_6) : ∀ w, St E H [bx b2 58 [v47], F48, bx b17 25 [v51], F52] w → K2 (ovr e11 [(0, .int .i64 a1), (4, .pointer (some ⟨b17, 0, none⟩))]) w := by
  subst hq14
  replace hp : graph_order_1.nx10 a1 x46 x50 = some r := hr8
  exact tg k3 <| TC.region <| tv (lb s25 2 rfl rfl rfl) rfl <| tm rfl <| tbs [(0, .int .i64 a1)] [.int .i64 a1] u25 i3 (by kernel_rfl) rfl rfl rfl rfl fun b54 => tp [4, 0, 1, 2, 3] [_,_,_,_,_] rfl rfl <| tf 2 0 [_,_,_,_,_,_] rfl <| tp2 u25 i3 h53 hp (RepL.to (RepL.cons (k := (kInt .i64)) (x := a1) ⟨rfl, rfl⟩ RepL.nil) rfl) rfl rfl rfl rfl rfl rfl rfl rfl rfl fun x55 v56 F57 h58 hp => ts 3 m25 rfl rfl h58.o1 rfl <| nl <| rt hp [1, 2, 3, 0] ⟨v47, F48, v56, F57, rfl, rfl, h49, h58⟩
 refine lp hz7 [1, 0, 2, 3] rfl (fun s e L => ∃ x37 x41 x45 v38 F39 v42 F43 e5, s = (x37, x41, x45) ∧ SlO 4 kBool x37 v38 F39 ∧ SlO 3 (kInt .i64) x41 v42 F43 ∧ e = ovr e5 [(0, .int .i64 a1), (1, .pointer (some ⟨b2, 0, none⟩)), (3, .pointer (some ⟨b14, o15, none⟩)), (4, .pointer (some ⟨b17, 0, none⟩)), (14, v35), (15, .int .i64 (len x29)), (16, .int .i64 x45)] ∧ L = [bx b2 58 [v38], F39, bx b17 25 [v42], F43]) ⟨_, _, _, v4, F27, v19, F20, _, rfl, h28, h21, ovr_eq _ _ rfl, rfl⟩ ?_
 rintro _ _ _ ⟨x37, x41, x45, v38, F39, v42, F43, e5, rfl, h40, h44, rfl, rfl⟩ X9 hp hx10
 replace hp : graph_order_1.bd10 a9 rec x29 x37 x41 x45 = some X9 := hp
 refine sr <| tv (blt rfl rfl) rfl <| nz <| TC.seq fun K15 k16 => cD rfl hp (fun hc17 hp => ?_) fun hc17 hp => ?_
 · refine sk k16 rfl <| TC.seq fun K18 k19 => ?_
   have J21 {x59 x63 v60 F61 v64 F65 e20} (h62 : SlO 4 kBool x59 v60 F61) (h66 : SlO 3 (kInt .i64) x63 v64 F65) (hp : graph_order_1.jn21 x45 x59 x63 = some X9) : ∀ w, St E H [bx b2 58 [v60], F61, bx b17 25 [v64], F65] w → K18 (ovr e20 [(0, .int .i64 a1), (1, .pointer (some ⟨b2, 0, none⟩)), (3, .pointer (some ⟨b14, o15, none⟩)), (4, .pointer (some ⟨b17, 0, none⟩)), (14, v35), (15, .int .i64 (len x29)), (16, .int .i64 x45)]) w := by
    exact tg k19 <| TC.region <| tv (bad rfl rfl) rfl <| tm rfl <| nl <| gk hp [0, 1, 2, 3] ⟨_, _, _, v60, F61, v64, F65, _, rfl, h62, h66, ovr_eq _ _ rfl, rfl⟩
   refine TC.block <| sr <| ti u25 i3 h36 hp rfl rfl rfl rfl ?_
   rintro x67 b68 o69 _ hp rfl h72
   refine tv (lr s3 sH h72 0 rfl rfl) rfl <| ta rfl <| nz <| sr <| tv (lb s58 0 rfl rfl rfl) rfl <| tm rfl <| ti u58 i4 (h40).ro hp rfl rfl rfl rfl ?_
   rintro x73 b74 o75 _ hp rfl h78
   refine tv (lr s4 (Src.at_ 1 rfl) h78 0 rfl rfl) rfl <| tv (rv_not rfl) rfl <| nz <| cB rfl hp (fun hc24 hp => ?_) fun hc24 hp => ?_
   · refine TC.region <| tv (lr s116 sH h16 0 rfl rfl) rfl <| tm rfl <| bE hp fun x79 hy25 hp => tcv 4 [] rfl c88 rfl (fun _ => hrec _ _ _ x67 x37 a9 x41 _ _ _ _ _ _ _ _ _ _ _ _ h40 (h11.mono subH) (h13.mono subH) (h16.mono subH) h44 hy25) rfl ?_
     rintro _ _ ⟨v80, F81, v83, F84, rfl, rfl, h82, h85⟩
     exact nl <| jn [0, 1, 2, 3] (J21 h82 h85 hp)
   · exact TC.skip <| jn [0, 1, 2, 3] (J21 h40 h44 hp)
 · exact TC.exit <| jn [0, 1, 2, 3] (J13 h40 h44 (ex_ret hp hx10))
def graph_order_1.it : Nat → Int → (List Bool) → (List (List Int)) → (List Int) → Option (List Bool × List Int)
  | 0 => fun _ _ _ _ => none
  | n + 1 => graph_order_1.body (graph_order_1.it n)
set_option maxHeartbeats 4000000 in
theorem graph_order_1.it_ok (n : Nat) : ∀ (E : World) (H : FP) (w : World) (a1 : Int) (a3 : List Bool) (a9 : List (List Int)) (a18 : List Int) (b2 : Nat) (v4 : Value) (F5 : FP) (b8 : Nat) (o10 : Nat) (v12 : Value) (b14 : Nat) (o15 : Nat) (b17 : Nat) (v19 : Value) (F20 : FP) (r : List Bool × List Int) (h6 : SlO 4 kBool a3 v4 F5) (h11 : CellsIn H b8 o10 [v12]) (h13 : SlI (kSl 3 (kInt .i64)) H a9 v12) (h16 : CellsIn H b14 o15 [.func (.func 88) #[] #[.pointer (some ⟨b2, 0, none⟩), .pointer (some ⟨b8, o10, none⟩), .pointer (some ⟨b14, o15, none⟩), .pointer (some ⟨b17, 0, none⟩)]]) (h21 : SlO 3 (kInt .i64) a18 v19 F20), graph_order_1.it n a1 a3 a9 a18 = some r → St E H [bx b2 58 [v4], F5, bx b17 25 [v19], F20] w →
    Fn Try.prog 88 #[.int .i64 a1, .pointer (some ⟨b2, 0, none⟩), .pointer (some ⟨b8, o10, none⟩), .pointer (some ⟨b14, o15, none⟩), .pointer (some ⟨b17, 0, none⟩)] w fun v w' => ∃ A, graph_order_1.R b2 b17 r v A ∧ St E H A w' := by
  induction n with
  | zero => intro E H w a1 a3 a9 a18 b2 v4 F5 b8 o10 v12 b14 o15 b17 v19 F20 r h6 h11 h13 h16 h21 hp; exact absurd hp (by simp [graph_order_1.it])
  | succ n ih => intro E H w a1 a3 a9 a18 b2 v4 F5 b8 o10 v12 b14 o15 b17 v19 F20 r h6 h11 h13 h16 h21 hp hst; exact graph_order_1.body_ok ih h6 h11 h13 h16 h21 hp hst
def graph_order_1 (a1 : Int) (a3 : List Bool) (a9 : List (List Int)) (a18 : List Int) : Option (List Bool × List Int) := graph_order_1.it FUEL a1 a3 a9 a18
set_option maxHeartbeats 4000000 in
theorem graph_order_1_ok {E : World} {H : FP} {w : World} {a1 : Int} {a3 : List Bool} {a9 : List (List Int)} {a18 : List Int} {b2 : Nat} {v4 : Value} {F5 : FP} {b8 : Nat} {o10 : Nat} {v12 : Value} {b14 : Nat} {o15 : Nat} {b17 : Nat} {v19 : Value} {F20 : FP} {r : List Bool × List Int} (h6 : SlO 4 kBool a3 v4 F5) (h11 : CellsIn H b8 o10 [v12]) (h13 : SlI (kSl 3 (kInt .i64)) H a9 v12) (h16 : CellsIn H b14 o15 [.func (.func 88) #[] #[.pointer (some ⟨b2, 0, none⟩), .pointer (some ⟨b8, o10, none⟩), .pointer (some ⟨b14, o15, none⟩), .pointer (some ⟨b17, 0, none⟩)]]) (h21 : SlO 3 (kInt .i64) a18 v19 F20) (hp : graph_order_1 a1 a3 a9 a18 = some r) (hst : St E H [bx b2 58 [v4], F5, bx b17 25 [v19], F20] w) :
    Fn Try.prog 88 #[.int .i64 a1, .pointer (some ⟨b2, 0, none⟩), .pointer (some ⟨b8, o10, none⟩), .pointer (some ⟨b14, o15, none⟩), .pointer (some ⟨b17, 0, none⟩)] w fun v w' => ∃ A, graph_order_1.R b2 b17 r v A ∧ St E H A w' :=
  graph_order_1.it_ok FUEL _ _ _ _ _ _ _ _ _ _ _ _ _ _ _ _ _ _ _ h6 h11 h13 h16 h21 hp hst

/-! ### slices.Reverse[[]int,int] -/
abbrev slices_Reverse.R (v2 : Value) (r : List Int) (v : Value) (A : List FP) : Prop := ∃ (G1 : FP), .tuple #[] = v ∧ A = [G1] ∧ SlO 3 (kInt .i64) r v2 G1
def slices_Reverse.nx8  (x10 : List Int) : Option (List Int) :=
  some x10
def slices_Reverse.jn18 (x8 : Int) (x9 : Int) (x13 : List Int) : Option (Ex (List Int) (List Int × Int × Int)) :=
  some (.go (x13, (w64 (x8 + 1)), (w64 (x9 - 1))))
def slices_Reverse.bd8  (x5 : List Int) (x8 : Int) (x9 : Int) : Option (Ex (List Int) (List Int × Int × Int)) :=
  if x8 < x9 then
    (idx x5 x9).bind fun x2417 =>
    (idx x5 x8).bind fun x4017 =>
    (idx x5 x8).bind fun x4817 =>
    (idx (x5.set (x8).toNat x2417) x9).bind fun x5617 =>
    slices_Reverse.jn18 x8 x9 ((x5.set (x8).toNat x2417).set (x9).toNat x4017)
  else
    some (.ret x5)
def slices_Reverse (a1 : List Int) : Option (List Int) :=
  (whl (fun (s : (List Int × Int × Int)) => slices_Reverse.bd8 s.1 s.2.1 s.2.2) FUEL (a1, 0, (w64 ((len a1) - 1)))).bind fun z =>
  slices_Reverse.nx8 z
theorem slices_Reverse_ok {E : World} {H : FP} {w : World} {a1 : List Int} {v2 : Value} {F3 : FP} {r : List Int} (h4 : SlO 3 (kInt .i64) a1 v2 F3) (hp : slices_Reverse a1 = some r) (hst : St E H [F3] w) :
    Fn Try.prog 89 #[v2] w fun v w' => ∃ A, slices_Reverse.R v2 r v A ∧ St E H A w' := by
 refine fb 28 [] Try.func89 rfl rfl rfl rfl rfl hst <| sr <| tm rfl <| tv (ln u25 h4.ro rfl) rfl <| tv (bsu rfl rfl) rfl <| ta rfl <| ta rfl <| nz <| TC.named fun K1 k2 => TC.block <| bE hp fun z_4 hz5 hr6 => ?_
 have J10 {x10 F11 e9} (h12 : SlO 3 (kInt .i64) x10 v2 F11) (hq11 : x10 = z_4) : ∀ w, St E H [F11] w → K1 (ovr e9 []) w := by
  subst hq11
  replace hp : slices_Reverse.nx8 x10 = some r := hr6
  exact viaK k2 <| rt hp [0] ⟨F11, rfl, rfl, h12⟩
 refine lp hz5 [0] rfl (fun s e L => ∃ x5 x8 x9 F6 e3, s = (x5, x8, x9) ∧ SlO 3 (kInt .i64) x5 v2 F6 ∧ e = ovr e3 [(0, v2), (2, .int .i64 x8), (3, .int .i64 x9)] ∧ L = [F6]) ⟨_, _, _, F3, _, rfl, h4, ovr_eq _ _ rfl, rfl⟩ ?_
 rintro _ _ _ ⟨x5, x8, x9, F6, e3, rfl, h7, rfl, rfl⟩ X7 hp hx8
 replace hp : slices_Reverse.bd8 x5 x8 x9 = some X7 := hp
 refine TC.seq fun K12 k13 => sr <| tm rfl <| tm rfl <| tv (blt rfl rfl) rfl <| nz <| cD rfl hp (fun hc14 hp => ?_) fun hc14 hp => ?_
 · refine sk k13 rfl <| TC.seq fun K15 k16 => ?_
   have J18 {x13 F14 e17} (h15 : SlO 3 (kInt .i64) x13 v2 F14) (hp : slices_Reverse.jn18 x8 x9 x13 = some X7) : ∀ w, St E H [F14] w → K15 (ovr e17 [(0, v2), (2, .int .i64 x8), (3, .int .i64 x9)]) w := by
    exact tg k16 <| TC.region <| tm rfl <| tv (bad rfl rfl) rfl <| tm rfl <| tv (bsu rfl rfl) rfl <| ta rfl <| ta rfl <| nl <| gk hp [0] ⟨_, _, _, F14, _, rfl, h15, ovr_eq _ _ rfl, rfl⟩
   refine TC.block <| ch mix [] srcG0 <| hv 0 rfl mv (by kernel_rfl) rfl <| hv 1 rfl mv (by kernel_rfl) rfl <| hv 2 rfl mv (by kernel_rfl) rfl <| hv 3 rfl mv (by kernel_rfl) rfl <| hv 4 rfl mv (by kernel_rfl) rfl <| hv 5 rfl mv (by kernel_rfl) rfl <| hi 6 rfl u25 i3 (h7).ro hp rfl rfl rfl (by kernel_rfl) rfl ?_
   rintro x2417 b2418 o2419 _ hp rfl h2422
   refine hv 8 rfl mv (by kernel_rfl) rfl <| hv 9 rfl mv (by kernel_rfl) rfl <| hi 10 rfl u25 i3 (h7).ro hp rfl rfl rfl (by kernel_rfl) rfl ?_
   rintro x4017 b4018 o4019 _ hp rfl h4022
   refine HL.all [7, 11] (by kernel_rfl) (by simp) (HL.al ⟨_, rfl, fun K21 k22 => ?_⟩ (HL.al ⟨_, rfl, fun K31 k32 => ?_⟩ HL.al0))
   · exact tv (lr s3 (Src.at_ 0 rfl) h2422 0 rfl rfl) rfl <| hk k22 srcG0 <| ho 11 rfl (by kernel_rfl) fun K23 k24 => tv (lr s3 (Src.at_ 0 rfl) h4022 0 rfl rfl) rfl <| hk k24 srcG0 <| hO 12 rfl u25 i3 h7 hp rfl rfl rfl (by kernel_rfl) rfl fun x4817 b4818 o4819 h4820 hp => ho 13 rfl (by kernel_rfl) fun K26 k27 => tE h7 h4820 m3 rfl ⟨rfl, rfl⟩ w1 fun F5217 h5218 => hk k27 srcG0 <| hO 14 rfl u25 i3 h5218 hp rfl rfl rfl (by kernel_rfl) rfl fun x5617 b5618 o5619 h5620 hp => ho 15 rfl (by kernel_rfl) fun K29 k30 => tE h5218 h5620 m3 rfl ⟨rfl, rfl⟩ w1 fun F6017 h6018 => hk k30 srcG0 <| hz (by kernel_rfl) <| jn [0] (J18 h6018 hp)
   · exact tv (lr s3 (Src.at_ 0 rfl) h4022 0 rfl rfl) rfl <| hk k32 srcG0 <| ho 7 rfl (by kernel_rfl) fun K33 k34 => tv (lr s3 (Src.at_ 0 rfl) h2422 0 rfl rfl) rfl <| hk k34 srcG0 <| hO 12 rfl u25 i3 h7 hp rfl rfl rfl (by kernel_rfl) rfl fun x4817 b4818 o4819 h4820 hp => ho 13 rfl (by kernel_rfl) fun K36 k37 => tE h7 h4820 m3 rfl ⟨rfl, rfl⟩ w1 fun F5217 h5218 => hk k37 srcG0 <| hO 14 rfl u25 i3 h5218 hp rfl rfl rfl (by kernel_rfl) rfl fun x5617 b5618 o5619 h5620 hp => ho 15 rfl (by kernel_rfl) fun K39 k40 => tE h5218 h5620 m3 rfl ⟨rfl, rfl⟩ w1 fun F6017 h6018 => hk k40 srcG0 <| hz (by kernel_rfl) <| jn [0] (J18 h6018 hp)
 · exact TC.exit <| jn [0] (J10 h7 (ex_ret hp hx8))

/-! ### fettle/graph.order -/
abbrev graph_order.R (r : List Int × List Bool) (v : Value) (A : List FP) : Prop := ∃ (w1 : Value) (G1 : FP) (w2 : Value) (G2 : FP), .tuple #[w1, w2] = v ∧ A = [G1, G2] ∧ SlO 3 (kInt .i64) r.1 w1 G1 ∧ SlO 4 kBool r.2 w2 G2
def graph_order.jn7  (x19 : List Bool) (x23 : List Int) : Option (List Int × List Bool) :=
  (slices_Reverse x23).bind fun x27 =>
  some (x27, x19)
def graph_order (a1 : PFunc) : Option (List Int × List Bool) :=
  (graph_Next a1).bind fun x7 =>
  (mkl (len x7) false).bind fun x12 =>
  if (len x7) > 0 then
    (graph_order_1 0 x12 x7 ([] : List Int)).bind fun x31 =>
    graph_order.jn7 x31.1 x31.2
  else
    graph_order.jn7 x12 ([] : List Int)
theorem graph_order_ok {E : World} {H : FP} {w : World} {a1 : PFunc} {v2 : Value} {v4 : Value} {r : List Int × List Bool} (h3 : SlI (kInt .i64) H a1.regs v2) (h5 : SlI kBlock H a1.blocks v4) (hp : graph_order a1 = some r) (hst : St E H [] w) :
    Fn Try.prog 73 #[.agg #[.int .i64 a1.params, .int .i64 a1.result, v2, v4]] w fun v w' => ∃ A, graph_order.R r v A ∧ St E H A w' := by
 refine fb 23 [.tmp 2, .tmp 3] Try.func73 rfl rfl rfl rfl rfl hst <| sr <| tb [.int .i64 a1.params, .int .i64 a1.result, v2, v4] rfl rfl fun b6 => ta rfl <| ta rfl <| nz <| sr <| tv (lA (ds := [.int .i64 a1.params, .int .i64 a1.result, v2, v4]) ag_41 0 rfl rfl rfl rfl) rfl <| bE hp fun x7 hy1 hp => tc 0 [_] rfl c58 (fun _ => graph_Next_ok (a1 := a1) (h3.mono subH) (h5.mono subH) hy1) rfl ?_
 rintro _ _ ⟨v8, F9, rfl, rfl, h10⟩
 refine tl i73 rfl fun b11 => ts 0 m73 rfl rfl h10.o1 rfl <| nz <| sr <| tv (lb s73 0 rfl rfl rfl) rfl <| tv (ln u73 h10.ro rfl) rfl <| tk (k := kBool) u58 i4 hp ⟨rfl, rfl⟩ rfl rfl rfl rfl rfl rfl fun x12 v13 F14 h15 hp => tl i58 rfl fun b16 => ts 0 m58 rfl rfl h15.o1 rfl <| nz <| sr <| tl i25 rfl fun b17 => nz <| sr <| tl i116 rfl fun b18 => nz <| sr <| tv mF rfl <| ts 0 m116 rfl rfl w1 rfl <| nz <| TC.seq fun K4 k5 => ?_
 have J7 {x19 x23 v20 F21 v24 F25 e6} (h22 : SlO 4 kBool x19 v20 F21) (h26 : SlO 3 (kInt .i64) x23 v24 F25) (hp : graph_order.jn7 x19 x23 = some r) : ∀ w, St E H [bx b16 58 [v20], F21, bx b17 25 [v24], F25] w → K4 (ovr e6 [(5, .pointer (some ⟨b16, 0, none⟩)), (6, .pointer (some ⟨b17, 0, none⟩))]) w := by
  refine tg k5 <| sr <| tv (lb s25 2 rfl rfl rfl) rfl <| tp [3, 0, 1, 2] [_,_,_,_] rfl rfl <| bE hp fun x27 hy8 hp => tc 1 [_,_,_] rfl c89 (fun _ => slices_Reverse_ok (a1 := x23) h26 hy8) rfl ?_
  rintro _ _ ⟨F28, rfl, rfl, h29⟩
  exact nz <| TC.seq fun K10 k11 => cq mix (by kernel_rfl) <| qv (lb s25 3 rfl rfl rfl) rfl <| qv (lb s58 1 rfl rfl rfl) rfl <| qv sg rfl <| qv sg rfl <| QL.nil <| tg k11 <| TC.ret <| rt hp [0, 2] ⟨v24, F28, v20, F21, rfl, rfl, h29, h22⟩
 refine sr <| tv (lb s73 4 rfl rfl rfl) rfl <| tv (ln u73 h10.ro rfl) rfl <| tv (bgt rfl rfl) rfl <| nz <| cD rfl hp (fun hc12 hp => ?_) fun hc12 hp => ?_
 · refine TC.region <| tv (lb s116 0 rfl rfl rfl) rfl <| TL.new0 <| tp [3, 4, 2, 0, 1, 5, 6, 7] [_,_,_,_,_,_,_,_] rfl rfl <| bE hp fun x31 hy13 hp => tcv 4 [_,_,_,_] rfl c88 rfl (fun _ => graph_order_1_ok (a1 := 0) (a3 := x12) (a9 := x7) (a18 := ([] : List Int)) h15 ((bx_cells b11 73 _).mono (subB 1 rfl)) (h10.ro.mono (subB 2 rfl)) ((bx_cells b18 116 _).mono (subB 0 rfl)) (SlO.nil 3) hy13) rfl ?_
   rintro _ _ ⟨v32, F33, v35, F36, rfl, rfl, h34, h37⟩
   exact nl <| jn [0, 1, 2, 3] (J7 h34 h37 hp)
 · exact TC.skip <| W.new0 <| jn [3, 4, 2, 0] (J7 h15 (SlO.nil 3) hp)

/-! ### fettle/graph.Reached -/
abbrev graph_Reached.R (r : List Bool) (v : Value) (A : List FP) : Prop := ∃ (w1 : Value) (G1 : FP), w1 = v ∧ A = [G1] ∧ SlO 4 kBool r w1 G1
def graph_Reached (a1 : PFunc) : Option (List Bool) :=
  (graph_order a1).bind fun x7 =>
  some x7.2
theorem graph_Reached_ok {E : World} {H : FP} {w : World} {a1 : PFunc} {v2 : Value} {v4 : Value} {r : List Bool} (h3 : SlI (kInt .i64) H a1.regs v2) (h5 : SlI kBlock H a1.blocks v4) (hp : graph_Reached a1 = some r) (hst : St E H [] w) :
    Fn Try.prog 48 #[.agg #[.int .i64 a1.params, .int .i64 a1.result, v2, v4]] w fun v w' => ∃ A, graph_Reached.R r v A ∧ St E H A w' := by
 refine fb 11 [.tmp 2] Try.func48 rfl rfl rfl rfl rfl hst <| sr <| tb [.int .i64 a1.params, .int .i64 a1.result, v2, v4] rfl rfl fun b6 => ta rfl <| nz <| sr <| tv (lA (ds := [.int .i64 a1.params, .int .i64 a1.result, v2, v4]) ag_41 0 rfl rfl rfl rfl) rfl <| bE hp fun x7 hy1 hp => tc 0 [_] rfl c73 (fun _ => graph_order_ok (a1 := a1) (h3.mono subH) (h5.mono subH) hy1) rfl ?_
 rintro _ _ ⟨v8, F9, v11, F12, rfl, rfl, h10, h13⟩
 exact tm rfl <| tv (xt rfl rfl) rfl <| tv (xt rfl rfl) rfl <| ta rfl <| ta rfl <| nz <| sr <| tm rfl <| ta rfl <| nz <| TC.ret <| rt hp [1] ⟨v11, F12, rfl, rfl, h13⟩

/-! ### fettle/proper.made$1 -/
abbrev proper_made_1.R (b4 : Nat) (b10 : Nat) (r : List PMaker × List Int) (v : Value) (A : List FP) : Prop := ∃ (w1 : Value) (G1 : FP) (w2 : Value) (G2 : FP), .tuple #[] = v ∧ A = [bx b4 103 [w1], G1, bx b10 25 [w2], G2] ∧ SlO 133 kMaker r.1 w1 G1 ∧ SlO 3 (kInt .i64) r.2 w2 G2
def proper_made_1.jn12 (a1 : Int) (a11 : List Int) (x16 : List PMaker) : Option (List PMaker × List Int) :=
  (idx a11 a1).bind fun x19 =>
  (idx a11 a1).bind fun x25 =>
  some (x16, (a11.set (a1).toNat (w64 (x19 + 1))))
def proper_made_1 (a1 : Int) (a2 : Int) (a3 : Int) (a5 : List PMaker) (a11 : List Int) : Option (List PMaker × List Int) :=
  if a1 < 0 ∨ a1 ≥ (len a5) then
    some (a5, a11)
  else
    (idx a11 a1).bind fun x31 =>
    if x31 = 0 then
      (idx a5 a1).bind fun x37 =>
      proper_made_1.jn12 a1 a11 (a5.set (a1).toNat (⟨a2, a3⟩ : PMaker))
    else
      proper_made_1.jn12 a1 a11 a5
theorem proper_made_1_ok {E : World} {H : FP} {w : World} {a1 : Int} {a2 : Int} {a3 : Int} {a5 : List PMaker} {a11 : List Int} {b4 : Nat} {v6 : Value} {F7 : FP} {b10 : Nat} {v12 : Value} {F13 : FP} {r : List PMaker × List Int} (h8 : SlO 133 kMaker a5 v6 F7) (h14 : SlO 3 (kInt .i64) a11 v12 F13) (hp : proper_made_1 a1 a2 a3 a5 a11 = some r) (hst : St E H [bx b4 103 [v6], F7, bx b10 25 [v12], F13] w) :
    Fn Try.prog 74 #[.int .i64 a1, .int .i64 a2, .int .i64 a3, .pointer (some ⟨b4, 0, none⟩), .pointer (some ⟨b10, 0, none⟩)] w fun v w' => ∃ A, proper_made_1.R b4 b10 r v A ∧ St E H A w' := by
 refine fb 33 [] Try.func74 rfl rfl rfl rfl rfl hst <| TC.seq fun K1 k2 => sr <| tm rfl <| tv (blt rfl rfl) rfl <| tm rfl <| TL.cut 5 fun K3 k4 => ?_
 have J5 {e7} : ∀ w, St E H [bx b4 103 [v6], F7, bx b10 25 [v12], F13] w → K3 (ovr e7 [(15, .bool (decide (a1 < 0 ∨ a1 ≥ (len a5)))), (0, .int .i64 a1), (1, .int .i64 a2), (2, .int .i64 a3), (3, .pointer (some ⟨b4, 0, none⟩)), (4, .pointer (some ⟨b10, 0, none⟩))]) w := by
  refine tlg k4 <| nz <| cD rfl hp (fun hc8 hp => ?_) fun hc8 hp => ?_
  · exact TC.ret <| rt hp [0, 1, 2, 3] ⟨v6, F7, v12, F13, rfl, rfl, h8, h14⟩
  · refine sk k2 rfl <| TC.seq fun K9 k10 => ?_
    have J12 {x16 F17 e11} (h18 : SlO 133 kMaker x16 v6 F17) (hp : proper_made_1.jn12 a1 a11 x16 = some r) : ∀ w, St E H [bx b4 103 [v6], F17, bx b10 25 [v12], F13] w → K9 (ovr e11 [(0, .int .i64 a1), (4, .pointer (some ⟨b10, 0, none⟩))]) w := by
     refine tg k10 <| TC.region <| tv (lb s25 2 rfl rfl rfl) rfl <| tm rfl <| ti u25 i3 (h14).ro hp rfl rfl rfl rfl ?_
     rintro x19 b20 o21 _ hp rfl h24
     exact tv (lr s3 (Src.at_ 3 rfl) h24 0 rfl rfl) rfl <| tv (bad rfl rfl) rfl <| tO u25 i3 h14 hp rfl rfl rfl rfl fun x25 b26 o27 h28 hp => tp [3, 0, 1, 2] [_,_,_,_] rfl rfl <| tE h14 h28 m3 rfl ⟨rfl, rfl⟩ w1 fun F29 h30 => nl <| rt hp [1, 2, 3, 0] ⟨v6, F17, v12, F29, rfl, rfl, h18, h30⟩
    refine sr <| tv (lb s25 2 rfl rfl rfl) rfl <| tm rfl <| ti u25 i3 (h14).ro hp rfl rfl rfl rfl ?_
    rintro x31 b32 o33 _ hp rfl h36
    refine tv (lr s3 (Src.at_ 3 rfl) h36 0 rfl rfl) rfl <| tv (beq rfl rfl) rfl <| nz <| cD rfl hp (fun hc16 hp => ?_) fun hc16 hp => ?_
    · exact TC.region <| tv (lb s103 0 rfl rfl rfl) rfl <| tm rfl <| tm rfl <| tm rfl <| tv (rv_bv (vs := [(0, .int .i64 a2), (1, .int .i64 a3)]) (ds := [.int .i64 a2, .int .i64 a3]) rfl (fun w => by kernel_rfl)) rfl <| tO u103 i133 h8 hp rfl rfl rfl rfl fun x37 b38 o39 h40 hp => tp [1, 0, 2, 3] [_,_,_,_] rfl rfl <| TL.stE0 (ds := [.int .i64 a2, .int .i64 a3]) (u := .agg #[.int .i64 a2, .int .i64 a3]) (a := (⟨a2, a3⟩ : PMaker)) h8 h40 m133 rfl rfl rfl ⟨rfl, rfl⟩ fun F41 h42 => nl <| jn [1, 0, 2, 3] (J12 h42 hp)
    · exact TC.skip <| jn [0, 1, 2, 3] (J12 h8 hp)
 by_cases hc6 : a1 < 0
 · exact gn rfl (bT hc6) rfl rfl <| gn rfl (bT hc6) rfl rfl <| gn rfl (bT hc6) rfl rfl <| gn rfl (bT hc6) rfl rfl <| tv (pT (bT hc6)) rfl <| nj J5 (bOt hc6)
 · exact gy rfl (bF hc6) <| tm rfl <| gy rfl (bF hc6) <| tv (lb s103 0 rfl rfl rfl) rfl <| gy rfl (bF hc6) <| tv (ln u103 h8.ro rfl) rfl <| gy rfl (bF hc6) <| tv (bge rfl rfl) rfl <| tv (pF (bF hc6)) rfl <| nj J5 (bOf hc6)
end Go.Proofs.Ytpmcbahahjelnaa
