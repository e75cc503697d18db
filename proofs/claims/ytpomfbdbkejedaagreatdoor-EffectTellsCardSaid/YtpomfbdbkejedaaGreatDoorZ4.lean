/- The walk through the program's functions: each one's pure reading, and that a call does what it says. No conditions. -/
import Derived.Test.YtpomfbdbkejedaaGreatDoorZ3
set_option linter.unusedVariables false
set_option linter.unusedSimpArgs false
namespace Go.Proofs.YtpomfbdbkejedaaGreatDoor
open Go Go.Proofs

/-! ### slices.Reverse[[]int,int] -/
abbrev slices_Reverse.R (v2 : Value) (r : List Int) (v : Value) (A : List FP) : Prop := ∃ (G1 : FP), .tuple #[] = v ∧ A = [G1] ∧ SlO 3 (kInt .i64) r v2 G1
def slices_Reverse.nx8  (x10 : List Int) : Option (List Int) :=
  some x10
def slices_Reverse.jn18 (x8 : Int) (x9 : Int) (x13 : List Int) : Option (Ex (List Int) (List Int × Int × Int)) :=
  some (.go (x13, (w64 (x8 + 1)), (w64 (x9 - 1))))
def slices_Reverse.bd8  (x5 : List Int) (x8 : Int) (x9 : Int) : Option (Ex (List Int) (List Int × Int × Int)) :=
  if x8 < x9 then
    (idx x5 x9).bind fun x2417 =>
    (idx x5 x8).bind fun x4017 =>
    (idx x5 x8).bind fun x4817 =>
    (idx (x5.set (x8).toNat x2417) x9).bind fun x5617 =>
    slices_Reverse.jn18 x8 x9 ((x5.set (x8).toNat x2417).set (x9).toNat x4017)
  else
    some (.ret x5)
def slices_Reverse (a1 : List Int) : Option (List Int) :=
  (whl (fun (s : (List Int × Int × Int)) => slices_Reverse.bd8 s.1 s.2.1 s.2.2) FUEL (a1, 0, (w64 ((len a1) - 1)))).bind fun z =>
  slices_Reverse.nx8 z
theorem slices_Reverse_ok {E : World} {H : FP} {w : World} {a1 : List Int} {v2 : Value} {F3 : FP} {r : List Int} (h4 : SlO 3 (kInt .i64) a1 v2 F3) (hp : slices_Reverse a1 = some r) (hst : St E H [F3] w) :
    Fn Tryz.prog 86 #[v2] w fun v w' => ∃ A, slices_Reverse.R v2 r v A ∧ St E H A w' := by
 refine fb 28 [] Tryz.func86 rfl rfl rfl rfl rfl hst <| sr <| tm rfl <| tv (ln u38 h4.ro rfl) rfl <| tv (bsu rfl rfl) rfl <| ta rfl <| ta rfl <| nz <| TC.named fun K1 k2 => TC.block <| bE hp fun z_4 hz5 hr6 => ?_
 have J10 {x10 F11 e9} (h12 : SlO 3 (kInt .i64) x10 v2 F11) (hq11 : x10 = z_4) : ∀ w, St E H [F11] w → K1 (ovr e9 []) w := by
  subst hq11
  replace hp : slices_Reverse.nx8 x10 = some r := hr6
  exact viaK k2 <| rt hp [0] ⟨F11, rfl, rfl, h12⟩
 refine lp hz5 [0] rfl (fun s e L => ∃ x5 x8 x9 F6 e3, s = (x5, x8, x9) ∧ SlO 3 (kInt .i64) x5 v2 F6 ∧ e = ovr e3 [(0, v2), (2, .int .i64 x8), (3, .int .i64 x9)] ∧ L = [F6]) ⟨_, _, _, F3, _, rfl, h4, ovr_eq _ _ rfl, rfl⟩ ?_
 rintro _ _ _ ⟨x5, x8, x9, F6, e3, rfl, h7, rfl, rfl⟩ X7 hp hx8
 replace hp : slices_Reverse.bd8 x5 x8 x9 = some X7 := hp
 refine TC.seq fun K12 k13 => sr <| tm rfl <| tm rfl <| tv (blt rfl rfl) rfl <| nz <| cD rfl hp (fun hc14 hp => ?_) fun hc14 hp => ?_
 · refine sk k13 rfl <| TC.seq fun K15 k16 => ?_
   have J18 {x13 F14 e17} (h15 : SlO 3 (kInt .i64) x13 v2 F14) (hp : slices_Reverse.jn18 x8 x9 x13 = some X7) : ∀ w, St E H [F14] w → K15 (ovr e17 [(0, v2), (2, .int .i64 x8), (3, .int .i64 x9)]) w := by
    exact tg k16 <| TC.region <| tm rfl <| tv (bad rfl rfl) rfl <| tm rfl <| tv (bsu rfl rfl) rfl <| ta rfl <| ta rfl <| nl <| gk hp [0] ⟨_, _, _, F14, _, rfl, h15, ovr_eq _ _ rfl, rfl⟩
   refine TC.block <| ch mix [] srcG0 <| hv 0 rfl mv (by kernel_rfl) rfl <| hv 1 rfl mv (by kernel_rfl) rfl <| hv 2 rfl mv (by kernel_rfl) rfl <| hv 3 rfl mv (by kernel_rfl) rfl <| hv 4 rfl mv (by kernel_rfl) rfl <| hv 5 rfl mv (by kernel_rfl) rfl <| hi 6 rfl u38 i3 (h7).ro hp rfl rfl rfl (by kernel_rfl) rfl ?_
   rintro x2417 b2418 o2419 _ hp rfl h2422
   refine hv 8 rfl mv (by kernel_rfl) rfl <| hv 9 rfl mv (by kernel_rfl) rfl <| hi 10 rfl u38 i3 (h7).ro hp rfl rfl rfl (by kernel_rfl) rfl ?_
   rintro x4017 b4018 o4019 _ hp rfl h4022
   refine HL.all [7, 11] (by kernel_rfl) (by simp) (HL.al ⟨_, rfl, fun K21 k22 => ?_⟩ (HL.al ⟨_, rfl, fun K31 k32 => ?_⟩ HL.al0))
   · exact tv (lr s3 (Src.at_ 0 rfl) h2422 0 rfl rfl) rfl <| hk k22 srcG0 <| ho 11 rfl (by kernel_rfl) fun K23 k24 => tv (lr s3 (Src.at_ 0 rfl) h4022 0 rfl rfl) rfl <| hk k24 srcG0 <| hO 12 rfl u38 i3 h7 hp rfl rfl rfl (by kernel_rfl) rfl fun x4817 b4818 o4819 h4820 hp => ho 13 rfl (by kernel_rfl) fun K26 k27 => tE h7 h4820 m3 rfl ⟨rfl, rfl⟩ w1 fun F5217 h5218 => hk k27 srcG0 <| hO 14 rfl u38 i3 h5218 hp rfl rfl rfl (by kernel_rfl) rfl fun x5617 b5618 o5619 h5620 hp => ho 15 rfl (by kernel_rfl) fun K29 k30 => tE h5218 h5620 m3 rfl ⟨rfl, rfl⟩ w1 fun F6017 h6018 => hk k30 srcG0 <| hz (by kernel_rfl) <| jn [0] (J18 h6018 hp)
   · exact tv (lr s3 (Src.at_ 0 rfl) h4022 0 rfl rfl) rfl <| hk k32 srcG0 <| ho 7 rfl (by kernel_rfl) fun K33 k34 => tv (lr s3 (Src.at_ 0 rfl) h2422 0 rfl rfl) rfl <| hk k34 srcG0 <| hO 12 rfl u38 i3 h7 hp rfl rfl rfl (by kernel_rfl) rfl fun x4817 b4818 o4819 h4820 hp => ho 13 rfl (by kernel_rfl) fun K36 k37 => tE h7 h4820 m3 rfl ⟨rfl, rfl⟩ w1 fun F5217 h5218 => hk k37 srcG0 <| hO 14 rfl u38 i3 h5218 hp rfl rfl rfl (by kernel_rfl) rfl fun x5617 b5618 o5619 h5620 hp => ho 15 rfl (by kernel_rfl) fun K39 k40 => tE h5218 h5620 m3 rfl ⟨rfl, rfl⟩ w1 fun F6017 h6018 => hk k40 srcG0 <| hz (by kernel_rfl) <| jn [0] (J18 h6018 hp)
 · exact TC.exit <| jn [0] (J10 h7 (ex_ret hp hx8))

/-! ### fettle/graph.order -/
abbrev graph_order.R (r : List Int × List Bool) (v : Value) (A : List FP) : Prop := ∃ (w1 : Value) (G1 : FP) (w2 : Value) (G2 : FP), .tuple #[w1, w2] = v ∧ A = [G1, G2] ∧ SlO 3 (kInt .i64) r.1 w1 G1 ∧ SlO 4 kBool r.2 w2 G2
def graph_order.jn7  (x19 : List Bool) (x23 : List Int) : Option (List Int × List Bool) :=
  (slices_Reverse x23).bind fun x27 =>
  some (x27, x19)
def graph_order (a1 : PFunc) : Option (List Int × List Bool) :=
  (graph_Next a1).bind fun x7 =>
  (mkl (len x7) false).bind fun x12 =>
  if (len x7) > 0 then
    (graph_order_1 0 x12 x7 ([] : List Int)).bind fun x31 =>
    graph_order.jn7 x31.1 x31.2
  else
    graph_order.jn7 x12 ([] : List Int)
theorem graph_order_ok {E : World} {H : FP} {w : World} {a1 : PFunc} {v2 : Value} {v4 : Value} {r : List Int × List Bool} (h3 : SlI (kInt .i64) H a1.regs v2) (h5 : SlI kBlock H a1.blocks v4) (hp : graph_order a1 = some r) (hst : St E H [] w) :
    Fn Tryz.prog 58 #[.agg #[.int .i64 a1.params, .int .i64 a1.result, v2, v4]] w fun v w' => ∃ A, graph_order.R r v A ∧ St E H A w' := by
 refine fb 23 [.tmp 2, .tmp 3] Tryz.func58 rfl rfl rfl rfl rfl hst <| sr <| tb [.int .i64 a1.params, .int .i64 a1.result, v2, v4] rfl rfl fun b6 => ta rfl <| ta rfl <| nz <| sr <| tv (lA (ds := [.int .i64 a1.params, .int .i64 a1.result, v2, v4]) ag_47 0 rfl rfl rfl rfl) rfl <| bE hp fun x7 hy1 hp => tc 0 [_] rfl c54 (fun _ => graph_Next_ok (a1 := a1) (h3.mono subH) (h5.mono subH) hy1) rfl ?_
 rintro _ _ ⟨v8, F9, rfl, rfl, h10⟩
 refine tl i54 rfl fun b11 => ts 0 m54 rfl rfl h10.o1 rfl <| nz <| sr <| tv (lb s54 0 rfl rfl rfl) rfl <| tv (ln u54 h10.ro rfl) rfl <| tk (k := kBool) u69 i4 hp ⟨rfl, rfl⟩ rfl rfl rfl rfl rfl rfl fun x12 v13 F14 h15 hp => tl i69 rfl fun b16 => ts 0 m69 rfl rfl h15.o1 rfl <| nz <| sr <| tl i38 rfl fun b17 => nz <| sr <| tl i119 rfl fun b18 => nz <| sr <| tv mF rfl <| ts 0 m119 rfl rfl w1 rfl <| nz <| TC.seq fun K4 k5 => ?_
 have J7 {x19 x23 v20 F21 v24 F25 e6} (h22 : SlO 4 kBool x19 v20 F21) (h26 : SlO 3 (kInt .i64) x23 v24 F25) (hp : graph_order.jn7 x19 x23 = some r) : ∀ w, St E H [bx b16 69 [v20], F21, bx b17 38 [v24], F25] w → K4 (ovr e6 [(5, .pointer (some ⟨b16, 0, none⟩)), (6, .pointer (some ⟨b17, 0, none⟩))]) w := by
  refine tg k5 <| sr <| tv (lb s38 2 rfl rfl rfl) rfl <| tp [3, 0, 1, 2] [_,_,_,_] rfl rfl <| bE hp fun x27 hy8 hp => tc 1 [_,_,_] rfl c86 (fun _ => slices_Reverse_ok (a1 := x23) h26 hy8) rfl ?_
  rintro _ _ ⟨F28, rfl, rfl, h29⟩
  exact nz <| TC.seq fun K10 k11 => cq mix (by kernel_rfl) <| qv (lb s38 3 rfl rfl rfl) rfl <| qv (lb s69 1 rfl rfl rfl) rfl <| qv sg rfl <| qv sg rfl <| QL.nil <| tg k11 <| TC.ret <| rt hp [0, 2] ⟨v24, F28, v20, F21, rfl, rfl, h29, h22⟩
 refine sr <| tv (lb s54 4 rfl rfl rfl) rfl <| tv (ln u54 h10.ro rfl) rfl <| tv (bgt rfl rfl) rfl <| nz <| cD rfl hp (fun hc12 hp => ?_) fun hc12 hp => ?_
 · refine TC.region <| tv (lb s119 0 rfl rfl rfl) rfl <| TL.new0 <| tp [3, 4, 2, 0, 1, 5, 6, 7] [_,_,_,_,_,_,_,_] rfl rfl <| bE hp fun x31 hy13 hp => tcv 4 [_,_,_,_] rfl c85 rfl (fun _ => graph_order_1_ok (a1 := 0) (a3 := x12) (a9 := x7) (a18 := ([] : List Int)) h15 ((bx_cells b11 54 _).mono (subB 1 rfl)) (h10.ro.mono (subB 2 rfl)) ((bx_cells b18 119 _).mono (subB 0 rfl)) (SlO.nil 3) hy13) rfl ?_
   rintro _ _ ⟨v32, F33, v35, F36, rfl, rfl, h34, h37⟩
   exact nl <| jn [0, 1, 2, 3] (J7 h34 h37 hp)
 · exact TC.skip <| W.new0 <| jn [3, 4, 2, 0] (J7 h15 (SlO.nil 3) hp)

/-! ### fettle/graph.Order -/
abbrev graph_Order.R (r : List Int) (v : Value) (A : List FP) : Prop := ∃ (w1 : Value) (G1 : FP), w1 = v ∧ A = [G1] ∧ SlO 3 (kInt .i64) r w1 G1
def graph_Order (a1 : PFunc) : Option (List Int) :=
  (graph_order a1).bind fun x7 =>
  some x7.1
theorem graph_Order_ok {E : World} {H : FP} {w : World} {a1 : PFunc} {v2 : Value} {v4 : Value} {r : List Int} (h3 : SlI (kInt .i64) H a1.regs v2) (h5 : SlI kBlock H a1.blocks v4) (hp : graph_Order a1 = some r) (hst : St E H [] w) :
    Fn Tryz.prog 55 #[.agg #[.int .i64 a1.params, .int .i64 a1.result, v2, v4]] w fun v w' => ∃ A, graph_Order.R r v A ∧ St E H A w' := by
 refine fb 11 [.tmp 2] Tryz.func55 rfl rfl rfl rfl rfl hst <| sr <| tb [.int .i64 a1.params, .int .i64 a1.result, v2, v4] rfl rfl fun b6 => ta rfl <| nz <| sr <| tv (lA (ds := [.int .i64 a1.params, .int .i64 a1.result, v2, v4]) ag_47 0 rfl rfl rfl rfl) rfl <| bE hp fun x7 hy1 hp => tc 0 [_] rfl c58 (fun _ => graph_order_ok (a1 := a1) (h3.mono subH) (h5.mono subH) hy1) rfl ?_
 rintro _ _ ⟨v8, F9, v11, F12, rfl, rfl, h10, h13⟩
 exact tm rfl <| tv (xt rfl rfl) rfl <| tv (xt rfl rfl) rfl <| ta rfl <| ta rfl <| nz <| sr <| tm rfl <| ta rfl <| nz <| TC.ret <| rt hp [0] ⟨v8, F9, rfl, rfl, h10⟩

/-! ### fettle/effect.turns$1 -/
abbrev effect_turns_1.R (r : Bool) (v : Value) (A : List FP) : Prop := .bool r = v ∧ A = []
def effect_turns_1 (a1 : Int) (a3 : List Int) (a9 : Int) : Option Bool :=
  (idx a3 a1).bind fun x12 =>
  (idx a3 a9).bind fun x18 =>
  some (decide (x12 ≤ x18))
theorem effect_turns_1_ok {E : World} {H : FP} {w : World} {a1 : Int} {a3 : List Int} {a9 : Int} {b2 : Nat} {o4 : Nat} {v6 : Value} {b8 : Nat} {o10 : Nat} {r : Bool} (h5 : CellsIn H b2 o4 [v6]) (h7 : SlI (kInt .i64) H a3 v6) (h11 : CellsIn H b8 o10 [.int .i64 a9]) (hp : effect_turns_1 a1 a3 a9 = some r) (hst : St E H [] w) :
    Fn Tryz.prog 57 #[.int .i64 a1, .pointer (some ⟨b2, o4, none⟩), .pointer (some ⟨b8, o10, none⟩)] w fun v w' => ∃ A, effect_turns_1.R r v A ∧ St E H A w' := by
 refine fb 14 [.tmp 4] Tryz.func57 rfl rfl rfl rfl rfl hst <| sr <| ta rfl <| nz <| TC.seq fun K1 k2 => cq mix (by kernel_rfl) <| qv (lr s38 sH h5 0 rfl rfl) rfl <| qv mv rfl <| qi u38 i3 h7 hp rfl rfl rfl rfl ?_
 rintro x12 b13 o14 _ hp rfl h17
 refine qv (lr s3 sH h17 0 rfl rfl) rfl <| qv (lr s38 sH h5 0 rfl rfl) rfl <| qv (lr s3 sH h11 0 rfl rfl) rfl <| qi u38 i3 h7 hp rfl rfl rfl rfl ?_
 rintro x18 b19 o20 _ hp rfl h23
 exact qv (lr s3 sH h23 0 rfl rfl) rfl <| qv (ble rfl rfl) rfl <| qv sg rfl <| QL.nil <| tg k2 <| TC.ret <| rt hp [] ⟨rfl, rfl⟩

/-! ### slices.IndexFunc[[]int,int] -/
abbrev slices_IndexFunc_effect_turns_1.R (r : Int) (v : Value) (A : List FP) : Prop := .int .i64 r = v ∧ A = []
def slices_IndexFunc_effect_turns_1.nx8  : Option Int :=
  some (-1)
def slices_IndexFunc_effect_turns_1.bd8 (a1 : List Int) (a6 : List Int) (a12 : Int) (x15 : Int) : Option (Ex (Ex Int Unit) Int) :=
  if x15 < (len a1) then
    (idx a1 x15).bind fun x16 =>
    (effect_turns_1 x16 a6 a12).bind fun x22 =>
    if x22 = true then
      some (.ret (.ret x15))
    else
      some (.go (w64 (x15 + 1)))
  else
    some (.ret (.go ()))
def slices_IndexFunc_effect_turns_1 (a1 : List Int) (a6 : List Int) (a12 : Int) : Option Int :=
  (whl (fun (s : Int) => slices_IndexFunc_effect_turns_1.bd8 a1 a6 a12 s) FUEL 0).bind fun z =>
  match z with
    | .ret r => some r
    | .go p => slices_IndexFunc_effect_turns_1.nx8
theorem slices_IndexFunc_effect_turns_1_ok {E : World} {H : FP} {w : World} {a1 : List Int} {a6 : List Int} {a12 : Int} {v2 : Value} {b5 : Nat} {o7 : Nat} {v9 : Value} {b11 : Nat} {o13 : Nat} {r : Int} (h3 : SlI (kInt .i64) H a1 v2) (h8 : CellsIn H b5 o7 [v9]) (h10 : SlI (kInt .i64) H a6 v9) (h14 : CellsIn H b11 o13 [.int .i64 a12]) (hp : slices_IndexFunc_effect_turns_1 a1 a6 a12 = some r) (hst : St E H [] w) :
    Fn Tryz.prog 84 #[v2, .func (.func 57) #[] #[.pointer (some ⟨b5, o7, none⟩), .pointer (some ⟨b11, o13, none⟩)]] w fun v w' => ∃ A, slices_IndexFunc_effect_turns_1.R r v A ∧ St E H A w' := by
 refine fb 19 [.tmp 4] Tryz.func84 rfl rfl rfl rfl rfl hst <| sr <| ta rfl <| nz <| TC.seq fun K1 k2 => sr <| tm rfl <| tv (ln u38 h3 rfl) rfl <| tm rfl <| nz <| TC.block <| bE hp fun z_4 hz5 hr6 => ?_
 have J10 {e9} (hq11 : .go () = z_4) : ∀ w, St E H [] w → K1 (ovr e9 []) w := by
  subst hq11
  replace hp : slices_IndexFunc_effect_turns_1.nx8 = some r := hr6
  exact tg k2 <| sr <| ta rfl <| nz <| TC.ret <| rt hp [] ⟨rfl, rfl⟩
 refine lp hz5 [] rfl (fun s e L => ∃ e3, e = ovr e3 [(0, v2), (1, .func (.func 57) #[] #[.pointer (some ⟨b5, o7, none⟩), .pointer (some ⟨b11, o13, none⟩)]), (7, .int .i64 (len a1)), (8, .int .i64 s)] ∧ L = []) ⟨_, ovr_eq _ _ rfl, rfl⟩ ?_
 rintro x15 _ _ ⟨e3, rfl, rfl⟩ X7 hp hx8
 replace hp : slices_IndexFunc_effect_turns_1.bd8 a1 a6 a12 x15 = some X7 := hp
 refine sr <| tv (blt rfl rfl) rfl <| nz <| TC.seq fun K12 k13 => cD rfl hp (fun hc14 hp => ?_) fun hc14 hp => ?_
 · refine sk k13 rfl <| TC.seq fun K15 k16 => TC.block <| sr <| tm rfl <| ta rfl <| nz <| sr <| tm rfl <| tm rfl <| tm rfl <| ti u38 i3 h3 hp rfl rfl rfl rfl ?_
   rintro x16 b17 o18 _ hp rfl h21
   refine tv (lr s3 sH h21 0 rfl rfl) rfl <| bE hp fun x22 hy18 hp => tcv 0 [] rfl c57 rfl (fun _ => effect_turns_1_ok (a1 := x16) (a3 := a6) (a9 := a12) (h8.mono subH) (h10.mono subH) (h14.mono subH) hy18) rfl ?_
   rintro _ _ ⟨rfl, rfl⟩
   refine nz <| cB rfl hp (fun hc20 hp => ?_) fun hc20 hp => ?_
   · refine sr <| tm rfl <| ta rfl <| nz <| TC.ret ?_
     obtain rfl := ex_ret hp hx8
     exact rt hr6 [] ⟨rfl, rfl⟩
   · exact sk k16 rfl <| TC.region <| tv (bad rfl rfl) rfl <| tm rfl <| nl <| gk hp [] ⟨_, ovr_eq _ _ rfl, rfl⟩
 · exact TC.exit <| jn [] (J10 (ex_ret hp hx8))

/-! ### slices.ContainsFunc[[]int,int] -/
abbrev slices_ContainsFunc_effect_turns_1.R (r : Bool) (v : Value) (A : List FP) : Prop := .bool r = v ∧ A = []
def slices_ContainsFunc_effect_turns_1 (a1 : List Int) (a6 : List Int) (a12 : Int) : Option Bool :=
  (slices_IndexFunc_effect_turns_1 a1 a6 a12).bind fun x15 =>
  some (decide (x15 ≥ 0))
theorem slices_ContainsFunc_effect_turns_1_ok {E : World} {H : FP} {w : World} {a1 : List Int} {a6 : List Int} {a12 : Int} {v2 : Value} {b5 : Nat} {o7 : Nat} {v9 : Value} {b11 : Nat} {o13 : Nat} {r : Bool} (h3 : SlI (kInt .i64) H a1 v2) (h8 : CellsIn H b5 o7 [v9]) (h10 : SlI (kInt .i64) H a6 v9) (h14 : CellsIn H b11 o13 [.int .i64 a12]) (hp : slices_ContainsFunc_effect_turns_1 a1 a6 a12 = some r) (hst : St E H [] w) :
    Fn Tryz.prog 56 #[v2, .func (.func 57) #[] #[.pointer (some ⟨b5, o7, none⟩), .pointer (some ⟨b11, o13, none⟩)]] w fun v w' => ∃ A, slices_ContainsFunc_effect_turns_1.R r v A ∧ St E H A w' := by
 refine fb 9 [.tmp 4] Tryz.func56 rfl rfl rfl rfl rfl hst <| sr <| ta rfl <| nz <| sr <| tm rfl <| tm rfl <| bE hp fun x15 hy1 hp => tc 0 [] rfl c84 (fun _ => slices_IndexFunc_effect_turns_1_ok (a1 := a1) (a6 := a6) (a12 := a12) (h3.mono subH) (h8.mono subH) (h10.mono subH) (h14.mono subH) hy1) rfl ?_
 rintro _ _ ⟨rfl, rfl⟩
 exact tv (bge rfl rfl) rfl <| ta rfl <| nz <| TC.ret <| rt hp [] ⟨rfl, rfl⟩

/-! ### fettle/effect.turns -/
abbrev effect_turns.R (r : Bool) (v : Value) (A : List FP) : Prop := .bool r = v ∧ A = []
def effect_turns.nx23  : Option Bool :=
  some false
def effect_turns.bd23 (x7 : List (List Int)) (x16 : List Int) (x24 : List Int) (x27 : Int) : Option (Ex (Ex Bool Unit) Int) :=
  if x27 < (len x16) then
    (idx x16 x27).bind fun x28 =>
    (idx x7 x28).bind fun x35 =>
    (slices_ContainsFunc_effect_turns_1 x35 x24 x28).bind fun x43 =>
    if x43 = true then
      some (.ret (.ret true))
    else
      some (.go (w64 (x27 + 1)))
  else
    some (.ret (.go ()))
def effect_turns.nx14 (x7 : List (List Int)) (x16 : List Int) (x24 : List Int) : Option Bool :=
  (whl (fun (s : Int) => effect_turns.bd23 x7 x16 x24 s) FUEL 0).bind fun z =>
  match z with
    | .ret r => some r
    | .go p => effect_turns.nx23
def effect_turns.bd14 (x16 : List Int) (x20 : List Int) (x23 : Int) : Option (Ex (List Int) (List Int × Int)) :=
  if x23 < (len x16) then
    (idx x16 x23).bind fun x44 =>
    (idx x20 x44).bind fun x50 =>
    some (.go ((x20.set (x44).toNat x23), (w64 (x23 + 1))))
  else
    some (.ret x20)
def effect_turns.jn4 (a1 : PFunc) (x7 : List (List Int)) (x12 : List Int) : Option Bool :=
  (graph_Order a1).bind fun x16 =>
  (whl (fun (s : (List Int × Int)) => effect_turns.bd14 x16 s.1 s.2) FUEL (x12, 0)).bind fun z =>
  effect_turns.nx14 x7 x16 z
def effect_turns (a1 : PFunc) : Option Bool :=
  (graph_Next a1).bind fun x457 =>
  (mkl (len a1.blocks) (0 : Int)).bind fun x2057 =>
  effect_turns.jn4 a1 x457 x2057
set_option maxHeartbeats 4000000 in
theorem effect_turns_ok {E : World} {H : FP} {w : World} {a1 : PFunc} {v2 : Value} {v4 : Value} {r : Bool} (h3 : SlI (kInt .i64) H a1.regs v2) (h5 : SlI kBlock H a1.blocks v4) (hp : effect_turns a1 = some r) (hst : St E H [] w) :
    Fn Tryz.prog 28 #[.agg #[.int .i64 a1.params, .int .i64 a1.result, v2, v4]] w fun v w' => ∃ A, effect_turns.R r v A ∧ St E H A w' := by
 refine fb 43 [.tmp 2] Tryz.func28 rfl rfl rfl rfl rfl hst <| sr <| tb [.int .i64 a1.params, .int .i64 a1.result, v2, v4] rfl rfl fun b6 => ta rfl <| nz <| TC.seq fun K1 k2 => ?_
 have J4 {x7 x12 v8 F9 b11 v13 F14 e3} (h10 : SlO 38 (kSl 3 (kInt .i64)) x7 v8 F9) (h15 : SlO 3 (kInt .i64) x12 v13 F14) (hp : effect_turns.jn4 a1 x7 x12 = some r) : ∀ w, St E H [bx b6 47 [.int .i64 a1.params, .int .i64 a1.result, v2, v4], F9, bx b11 38 [v13], F14] w → K1 (ovr e3 [(1, .pointer (some ⟨b6, 0, none⟩)), (3, v8), (4, .pointer (some ⟨b11, 0, none⟩))]) w := by
  refine tg k2 <| sr <| tv (lA (ds := [.int .i64 a1.params, .int .i64 a1.result, v2, v4]) ag_47 0 rfl rfl rfl rfl) rfl <| bE hp fun x16 hy5 hp => tc 0 [_,_,_,_] rfl c55 (fun _ => graph_Order_ok (a1 := a1) (h3.mono subH) (h5.mono subH) hy5) rfl ?_
  rintro _ _ ⟨v17, F18, rfl, rfl, h19⟩
  refine ta rfl <| nz <| TC.seq fun K7 k8 => sr <| tm rfl <| tv (ln u38 h19.ro rfl) rfl <| tm rfl <| nz <| TC.block <| bE hp fun z_10 hz11 hr12 => ?_
  have J39 {x24 F25 e15} (h26 : SlO 3 (kInt .i64) x24 v13 F25) (hq40 : x24 = z_10) : ∀ w, St E H [F9, bx b11 38 [v13], F25, F18] w → K7 (ovr e15 [(3, v8), (4, .pointer (some ⟨b11, 0, none⟩)), (5, v17)]) w := by
   subst hq40
   replace hp : effect_turns.nx14 x7 x16 x24 = some r := hr12
   refine tg k8 <| TC.seq fun K16 k17 => sr <| tm rfl <| tv (ln u38 h19.ro rfl) rfl <| tm rfl <| nz <| TC.block <| bE hp fun z_19 hz20 hr21 => ?_
   have J25 {e24} (hq26 : .go () = z_19) : ∀ w, St E H [] w → K16 (ovr e24 []) w := by
    subst hq26
    replace hp : effect_turns.nx23 = some r := hr21
    exact tg k17 <| sr <| ta rfl <| nz <| TC.ret <| rt hp [] ⟨rfl, rfl⟩
   refine lp hz20 [0, 1, 2, 3] rfl (fun s e L => ∃ e18, e = ovr e18 [(3, v8), (4, .pointer (some ⟨b11, 0, none⟩)), (30, v17), (31, .int .i64 (len x16)), (32, .int .i64 s)] ∧ L = [F9, bx b11 38 [v13], F25, F18]) ⟨_, ovr_eq _ _ rfl, rfl⟩ ?_
   rintro x27 _ _ ⟨e18, rfl, rfl⟩ X22 hp hx23
   replace hp : effect_turns.bd23 x7 x16 x24 x27 = some X22 := hp
   refine sr <| tv (blt rfl rfl) rfl <| nz <| TC.seq fun K27 k28 => cD rfl hp (fun hc29 hp => ?_) fun hc29 hp => ?_
   · refine sk k28 rfl <| TC.seq fun K30 k31 => TC.block <| sr <| ti u38 i3 (h19).ro hp rfl rfl rfl rfl ?_
     rintro x28 b29 o30 _ hp rfl h33
     refine tv (lr s3 (Src.at_ 3 rfl) h33 0 rfl rfl) rfl <| tl i3 rfl fun b34 => ts 0 m3 rfl rfl w1 rfl <| nz <| sr <| tm rfl <| tv (lb s3 0 rfl rfl rfl) rfl <| ti u54 i38 (h10).ro hp rfl rfl rfl rfl ?_
     rintro x35 b36 o37 _ hp ⟨v41, rfl, h42⟩ h40
     refine tv (lr s38 (Src.at_ 1 rfl) h40 0 rfl rfl) rfl <| tv mF rfl <| bE hp fun x43 hy34 hp => tc 0 [_,_,_,_,_] rfl c56 (fun _ => slices_ContainsFunc_effect_turns_1_ok (a1 := x35) (a6 := x24) (a12 := x28) (h42.mono (subB 1 rfl)) ((bx_cells b11 38 _).mono (subB 2 rfl)) (h26.ro.mono (subB 3 rfl)) ((bx_cells b34 3 _).mono (subB 0 rfl)) hy34) rfl ?_
     rintro _ _ ⟨rfl, rfl⟩
     refine nz <| cB rfl hp (fun hc36 hp => ?_) fun hc36 hp => ?_
     · refine sr <| ta rfl <| nz <| TC.ret ?_
       obtain rfl := ex_ret hp hx23
       exact rt hr21 [] ⟨rfl, rfl⟩
     · exact sk k31 rfl <| TC.region <| tv (bad rfl rfl) rfl <| tm rfl <| nl <| gk hp [1, 2, 3, 4] ⟨_, ovr_eq _ _ rfl, rfl⟩
   · exact TC.exit <| jn [] (J25 (ex_ret hp hx23))
  refine lp hz11 [2, 3, 4, 0] rfl (fun s e L => ∃ x20 x23 F21 e9, s = (x20, x23) ∧ SlO 3 (kInt .i64) x20 v13 F21 ∧ e = ovr e9 [(3, v8), (4, .pointer (some ⟨b11, 0, none⟩)), (5, v17), (18, v17), (19, .int .i64 (len x16)), (20, .int .i64 x23)] ∧ L = [F9, bx b11 38 [v13], F21, F18]) ⟨_, _, F14, _, rfl, h15, ovr_eq _ _ rfl, rfl⟩ ?_
  rintro _ _ _ ⟨x20, x23, F21, e9, rfl, h22, rfl, rfl⟩ X13 hp hx14
  replace hp : effect_turns.bd14 x16 x20 x23 = some X13 := hp
  refine sr <| tv (blt rfl rfl) rfl <| nz <| TC.seq fun K41 k42 => cD rfl hp (fun hc43 hp => ?_) fun hc43 hp => ?_
  · refine sk k42 rfl <| TC.seq fun K44 k45 => TC.block <| sr <| tm rfl <| ti u38 i3 (h19).ro hp rfl rfl rfl rfl ?_
    rintro x44 b45 o46 _ hp rfl h49
    exact tv (lr s3 (Src.at_ 3 rfl) h49 0 rfl rfl) rfl <| ta rfl <| ta rfl <| nz <| TC.region <| tv (lb s38 1 rfl rfl rfl) rfl <| tm rfl <| tm rfl <| tO u38 i3 h22 hp rfl rfl rfl rfl fun x50 b51 o52 h53 hp => tp [2, 0, 1, 3] [_,_,_,_] rfl rfl <| tE h22 h53 m3 rfl ⟨rfl, rfl⟩ w1 fun F54 h55 => nl <| tg k45 <| TC.region <| tv (bad rfl rfl) rfl <| tm rfl <| nl <| gk hp [1, 2, 0, 3] ⟨_, _, F54, _, rfl, h55, ovr_eq _ _ rfl, rfl⟩
  · exact TC.exit <| jn [0, 1, 2, 3] (J39 h22 (ex_ret hp hx14))
 refine bE hp fun x457 hY1_1 hp => bE hp fun x2057 hY1_5 hp => ch mix [bx b6 47 [.int .i64 a1.params, .int .i64 a1.result, v2, v4]] (srcG 0 rfl srcG0) <| hv 0 rfl (lAG (ds := [.int .i64 a1.params, .int .i64 a1.result, v2, v4]) ag_47 0 rfl rfl rfl rfl) (by kernel_rfl) rfl <| hv 2 rfl (fa f47_3 rfl) (by kernel_rfl) rfl <| hv 3 rfl (lbG s45 0 rfl rfl rfl) (by kernel_rfl) rfl <| hv 4 rfl (ln u45 h5 rfl) (by kernel_rfl) rfl <| HL.all [1, 5, 6] (by kernel_rfl) (by simp) (HL.al ⟨_, rfl, fun K50 k51 => ?_⟩ (HL.al ⟨_, rfl, fun K68 k69 => ?_⟩ (HL.al ⟨_, rfl, fun K87 k88 => ?_⟩ HL.al0)))
 · refine tc 0 [_] rfl c54 (fun _ => graph_Next_ok (a1 := a1) (h3.mono subH) (h5.mono subH) hY1_1) rfl ?_
   rintro _ _ ⟨v458, F459, rfl, rfl, h460⟩
   refine hk k51 (srcG 1 rfl srcG0) <| HL.all [5, 6] (by kernel_rfl) (by simp) (HL.al ⟨_, rfl, fun K54 k55 => ?_⟩ (HL.al ⟨_, rfl, fun K61 k62 => ?_⟩ HL.al0))
   · exact tk0 (k := (kInt .i64)) u38 i3 hY1_5 ⟨rfl, rfl⟩ rfl rfl rfl rfl rfl rfl fun v2058 F2059 h2060 => hk k55 (srcG 2 rfl srcG0) <| ho 6 rfl (by kernel_rfl) fun K57 k58 => tl i38 rfl fun b2457 => hk k58 (srcG 3 rfl srcG0) <| hv 7 rfl sg (by kernel_rfl) rfl <| ho 8 rfl (by kernel_rfl) fun K59 k60 => ts 0 m38 rfl rfl h2060.o1 rfl <| hk k60 (srcG 3 rfl srcG0) <| hz (by kernel_rfl) <| jn [3, 2, 0, 1] (J4 h460 h2060 hp)
   · exact tl i38 rfl fun b2457 => hk k62 (srcG 2 rfl srcG0) <| hv 7 rfl sg (by kernel_rfl) rfl <| ho 5 rfl (by kernel_rfl) fun K63 k64 => tk0 (k := (kInt .i64)) u38 i3 hY1_5 ⟨rfl, rfl⟩ rfl rfl rfl rfl rfl rfl fun v2058 F2059 h2060 => hk k64 (srcG 3 rfl srcG0) <| ho 8 rfl (by kernel_rfl) fun K66 k67 => ts 1 m38 rfl rfl h2060.o1 rfl <| hk k67 (srcG 3 rfl srcG0) <| hz (by kernel_rfl) <| jn [3, 2, 1, 0] (J4 h460 h2060 hp)
 · refine tk0 (k := (kInt .i64)) u38 i3 hY1_5 ⟨rfl, rfl⟩ rfl rfl rfl rfl rfl rfl fun v2058 F2059 h2060 => hk k69 (srcG 1 rfl srcG0) <| HL.all [1, 6] (by kernel_rfl) (by simp) (HL.al ⟨_, rfl, fun K71 k72 => ?_⟩ (HL.al ⟨_, rfl, fun K79 k80 => ?_⟩ HL.al0))
   · refine tc 0 [_,_] rfl c54 (fun _ => graph_Next_ok (a1 := a1) (h3.mono subH) (h5.mono subH) hY1_1) rfl ?_
     rintro _ _ ⟨v458, F459, rfl, rfl, h460⟩
     exact hk k72 (srcG 2 rfl srcG0) <| ho 6 rfl (by kernel_rfl) fun K75 k76 => tl i38 rfl fun b2457 => hk k76 (srcG 3 rfl srcG0) <| hv 7 rfl sg (by kernel_rfl) rfl <| ho 8 rfl (by kernel_rfl) fun K77 k78 => ts 0 m38 rfl rfl h2060.o1 rfl <| hk k78 (srcG 3 rfl srcG0) <| hz (by kernel_rfl) <| jn [3, 1, 0, 2] (J4 h460 h2060 hp)
   · refine tl i38 rfl fun b2457 => hk k80 (srcG 2 rfl srcG0) <| ho 1 rfl (by kernel_rfl) fun K81 k82 => tc 0 [_,_,_] rfl c54 (fun _ => graph_Next_ok (a1 := a1) (h3.mono subH) (h5.mono subH) hY1_1) rfl ?_
     rintro _ _ ⟨v458, F459, rfl, rfl, h460⟩
     exact hk k82 (srcG 3 rfl srcG0) <| hv 7 rfl sg (by kernel_rfl) rfl <| ho 8 rfl (by kernel_rfl) fun K85 k86 => ts 1 m38 rfl rfl h2060.o1 rfl <| hk k86 (srcG 3 rfl srcG0) <| hz (by kernel_rfl) <| jn [3, 0, 1, 2] (J4 h460 h2060 hp)
 · refine tl i38 rfl fun b2457 => hk k88 (srcG 1 rfl srcG0) <| HL.all [1, 5] (by kernel_rfl) (by simp) (HL.al ⟨_, rfl, fun K89 k90 => ?_⟩ (HL.al ⟨_, rfl, fun K98 k99 => ?_⟩ HL.al0))
   · refine tc 0 [_,_] rfl c54 (fun _ => graph_Next_ok (a1 := a1) (h3.mono subH) (h5.mono subH) hY1_1) rfl ?_
     rintro _ _ ⟨v458, F459, rfl, rfl, h460⟩
     exact hk k90 (srcG 2 rfl srcG0) <| hv 7 rfl sg (by kernel_rfl) rfl <| ho 5 rfl (by kernel_rfl) fun K93 k94 => tk0 (k := (kInt .i64)) u38 i3 hY1_5 ⟨rfl, rfl⟩ rfl rfl rfl rfl rfl rfl fun v2058 F2059 h2060 => hk k94 (srcG 3 rfl srcG0) <| ho 8 rfl (by kernel_rfl) fun K96 k97 => ts 2 m38 rfl rfl h2060.o1 rfl <| hk k97 (srcG 3 rfl srcG0) <| hz (by kernel_rfl) <| jn [3, 1, 2, 0] (J4 h460 h2060 hp)
   · refine tk0 (k := (kInt .i64)) u38 i3 hY1_5 ⟨rfl, rfl⟩ rfl rfl rfl rfl rfl rfl fun v2058 F2059 h2060 => hk k99 (srcG 2 rfl srcG0) <| ho 1 rfl (by kernel_rfl) fun K101 k102 => tc 0 [_,_,_] rfl c54 (fun _ => graph_Next_ok (a1 := a1) (h3.mono subH) (h5.mono subH) hY1_1) rfl ?_
     rintro _ _ ⟨v458, F459, rfl, rfl, h460⟩
     exact hk k102 (srcG 3 rfl srcG0) <| hv 7 rfl sg (by kernel_rfl) rfl <| ho 8 rfl (by kernel_rfl) fun K105 k106 => ts 2 m38 rfl rfl h2060.o1 rfl <| hk k106 (srcG 3 rfl srcG0) <| hz (by kernel_rfl) <| jn [3, 0, 2, 1] (J4 h460 h2060 hp)

/-! ### fettle/graph.Reached -/
abbrev graph_Reached.R (r : List Bool) (v : Value) (A : List FP) : Prop := ∃ (w1 : Value) (G1 : FP), w1 = v ∧ A = [G1] ∧ SlO 4 kBool r w1 G1
def graph_Reached (a1 : PFunc) : Option (List Bool) :=
  (graph_order a1).bind fun x7 =>
  some x7.2
theorem graph_Reached_ok {E : World} {H : FP} {w : World} {a1 : PFunc} {v2 : Value} {v4 : Value} {r : List Bool} (h3 : SlI (kInt .i64) H a1.regs v2) (h5 : SlI kBlock H a1.blocks v4) (hp : graph_Reached a1 = some r) (hst : St E H [] w) :
    Fn Tryz.prog 29 #[.agg #[.int .i64 a1.params, .int .i64 a1.result, v2, v4]] w fun v w' => ∃ A, graph_Reached.R r v A ∧ St E H A w' := by
 refine fb 11 [.tmp 2] Tryz.func29 rfl rfl rfl rfl rfl hst <| sr <| tb [.int .i64 a1.params, .int .i64 a1.result, v2, v4] rfl rfl fun b6 => ta rfl <| nz <| sr <| tv (lA (ds := [.int .i64 a1.params, .int .i64 a1.result, v2, v4]) ag_47 0 rfl rfl rfl rfl) rfl <| bE hp fun x7 hy1 hp => tc 0 [_] rfl c58 (fun _ => graph_order_ok (a1 := a1) (h3.mono subH) (h5.mono subH) hy1) rfl ?_
 rintro _ _ ⟨v8, F9, v11, F12, rfl, rfl, h10, h13⟩
 exact tm rfl <| tv (xt rfl rfl) rfl <| tv (xt rfl rfl) rfl <| ta rfl <| ta rfl <| nz <| sr <| tm rfl <| ta rfl <| nz <| TC.ret <| rt hp [1] ⟨v11, F12, rfl, rfl, h13⟩

/-! ### fettle/arith.Traps -/
abbrev arith_Traps.R (r : Bool) (v : Value) (A : List FP) : Prop := .bool r = v ∧ A = []
def arith_Traps (a1 : Int) : Option Bool :=
  some (decide (a1 = 11))
theorem arith_Traps_ok {E : World} {H : FP} {w : World} {a1 : Int} {r : Bool}  (hp : arith_Traps a1 = some r) (hst : St E H [] w) :
    Fn Tryz.prog 59 #[.int .i64 a1] w fun v w' => ∃ A, arith_Traps.R r v A ∧ St E H A w' := by
 exact fb 5 [.tmp 2] Tryz.func59 rfl rfl rfl rfl rfl hst <| sr <| ta rfl <| nz <| sr <| tm rfl <| tv (beq rfl rfl) rfl <| ta rfl <| nz <| TC.ret <| rt hp [] ⟨rfl, rfl⟩

/-! ### fettle/effect.instr -/
abbrev effect_instr.R (r : PEffect) (v : Value) (A : List FP) : Prop := .agg #[.bool r.reads, .bool r.writes, .bool r.outs, .bool r.traps, .bool r.turns] = v ∧ A = []
def effect_instr.jn6 (a1 : PInstr) (x6 : Bool) : Option PEffect :=
  some (⟨(decide (a1.op = 15)), (decide (a1.op = 16)), (decide (a1.op = 18)), x6, false⟩ : PEffect)
def effect_instr (a1 : PInstr) : Option PEffect :=
  if a1.op = 15 then
    effect_instr.jn6 a1 true
  else
    if a1.op = 16 then
      effect_instr.jn6 a1 true
    else
      (arith_Traps a1.op).bind fun x4808 =>
      effect_instr.jn6 a1 x4808
set_option maxHeartbeats 4000000 in
theorem effect_instr_ok {E : World} {H : FP} {w : World} {a1 : PInstr} {v2 : Value} {r : PEffect} (h3 : SlI (kInt .i64) H a1.args v2) (hp : effect_instr a1 = some r) (hst : St E H [] w) :
    Fn Tryz.prog 30 #[.agg #[.int .i64 a1.op, .int .i64 a1.dst, v2, .int .i64 a1.imm, .int .i64 a1.fn]] w fun v w' => ∃ A, effect_instr.R r v A ∧ St E H A w' := by
 refine Fn.bodyV (fn := Tryz.f30) (args := [.agg #[.int .i64 a1.op, .int .i64 a1.dst, v2, .int .i64 a1.imm, .int .i64 a1.fn]]) E H [] 26 Tryz.func30 rfl rfl (leb rfl) hst <| sr <| tb [.int .i64 a1.op, .int .i64 a1.dst, v2, .int .i64 a1.imm, .int .i64 a1.fn] rfl rfl fun b4 => tl i37 rfl fun b5 => nz <| TC.seq fun K1 k2 => cq mix (by kernel_rfl) <| qv (fa f50_0 rfl) rfl <| qv (lb s3 1 rfl rfl rfl) rfl <| qv (beq rfl rfl) rfl <| qv (fa f50_0 rfl) rfl <| qv (lb s3 1 rfl rfl rfl) rfl <| qv (beq rfl rfl) rfl <| qv sg rfl <| qv sg rfl <| QL.nil <| tg k2 <| TC.seq fun K3 k4 => ?_
 have J6 {x6 e5} (hp : effect_instr.jn6 a1 x6 = some r) : ∀ w, St E H [bx b5 37 [.bool (decide (a1.op = 15)), .bool (decide (a1.op = 16)), .bool (decide (a1.op = 18)), .bool x6, .bool false]] w → K3 (ovr e5 [(2, .pointer (some ⟨b5, 0, none⟩))]) w := by
  refine tg k4 <| TC.ret ?_
  obtain rfl := Option.some.inj hp
  exact fun w hw => retC1 hw rfl rfl ag_37 0 rfl rfl ⟨rfl, rfl⟩ (hw.pickA [] rfl)
 refine ch mix [bx b4 50 [.int .i64 a1.op, .int .i64 a1.dst, v2, .int .i64 a1.imm, .int .i64 a1.fn]] (srcG 1 rfl srcG0) <| hv 0 rfl mv (by kernel_rfl) rfl <| hv 1 rfl mv (by kernel_rfl) rfl <| hv 2 rfl (fa f50_0 rfl) (by kernel_rfl) rfl <| hv 3 rfl (lbG s3 0 rfl rfl rfl) (by kernel_rfl) rfl <| hv 4 rfl (beq rfl rfl) (by kernel_rfl) rfl <| hv 5 rfl mv (by kernel_rfl) rfl <| hv 6 rfl mv (by kernel_rfl) rfl <| ifE hp (fun hc7 hp => ?_) fun hc7 hp => ?_
 · exact hn 7 rfl rfl (bT hc7) rfl (by kernel_rfl) rfl <| hv 8 rfl (pT (bT hc7)) (by kernel_rfl) rfl <| hv 9 rfl mv (by kernel_rfl) rfl <| hn 10 rfl rfl (bbT rfl) rfl (by kernel_rfl) rfl <| hn 11 rfl rfl (bbT rfl) rfl (by kernel_rfl) rfl <| hn 12 rfl rfl (bbT rfl) rfl (by kernel_rfl) rfl <| hv 13 rfl (pT (bbT rfl)) (by kernel_rfl) rfl <| hv 14 rfl (rv_bv (vs := [(0, .bool (decide (a1.op = 15))), (1, .bool (decide (a1.op = 16))), (2, .bool (decide (a1.op = 18))), (3, .bool true)]) (ds := [.bool (decide (a1.op = 15)), .bool (decide (a1.op = 16)), .bool (decide (a1.op = 18)), .bool true, .bool false]) rfl (fun w => by kernel_rfl)) (by kernel_rfl) rfl <| ho 15 rfl (by kernel_rfl) fun K8 k9 => tS 0 m37 rfl rfl [.bool (decide (a1.op = 15)), .bool (decide (a1.op = 16)), .bool (decide (a1.op = 18)), .bool true, .bool false] rfl (oc rfl (oc rfl (oc rfl (oc rfl (oc rfl oc0))))) rfl rfl <| hk k9 (srcG 1 rfl srcG0) <| hz (by kernel_rfl) <| jn [0] (J6 hp)
 · refine hw 7 rfl rfl (bF hc7) mv (by kernel_rfl) rfl <| hv 8 rfl (pF (bF hc7)) (by kernel_rfl) rfl <| hv 9 rfl mv (by kernel_rfl) rfl <| ifE hp (fun hc10 hp => ?_) fun hc10 hp => ?_
   · exact hn 10 rfl rfl (bT hc10) rfl (by kernel_rfl) rfl <| hn 11 rfl rfl (bT hc10) rfl (by kernel_rfl) rfl <| hn 12 rfl rfl (bT hc10) rfl (by kernel_rfl) rfl <| hv 13 rfl (pT (bT hc10)) (by kernel_rfl) rfl <| hv 14 rfl (rv_bv (vs := [(0, .bool (decide (a1.op = 15))), (1, .bool (decide (a1.op = 16))), (2, .bool (decide (a1.op = 18))), (3, .bool true)]) (ds := [.bool (decide (a1.op = 15)), .bool (decide (a1.op = 16)), .bool (decide (a1.op = 18)), .bool true, .bool false]) rfl (fun w => by kernel_rfl)) (by kernel_rfl) rfl <| ho 15 rfl (by kernel_rfl) fun K11 k12 => tS 0 m37 rfl rfl [.bool (decide (a1.op = 15)), .bool (decide (a1.op = 16)), .bool (decide (a1.op = 18)), .bool true, .bool false] rfl (oc rfl (oc rfl (oc rfl (oc rfl (oc rfl oc0))))) rfl rfl <| hk k12 (srcG 1 rfl srcG0) <| hz (by kernel_rfl) <| jn [0] (J6 hp)
   · refine hw 10 rfl rfl (bF hc10) (fa f50_0 rfl) (by kernel_rfl) rfl <| hw 11 rfl rfl (bF hc10) (lbG s3 0 rfl rfl rfl) (by kernel_rfl) rfl <| ho 12 rfl (by kernel_rfl) fun K13 k14 => gy rfl (bF hc10) <| bE hp fun x4808 hy15 hp => tc 0 [_,_] rfl c59 (fun _ => arith_Traps_ok (a1 := a1.op) hy15) rfl ?_
     rintro _ _ ⟨rfl, rfl⟩
     exact hk k14 (srcG 1 rfl srcG0) <| hv 13 rfl (pF (bF hc10)) (by kernel_rfl) rfl <| hv 14 rfl (rv_bv (vs := [(0, .bool (decide (a1.op = 15))), (1, .bool (decide (a1.op = 16))), (2, .bool (decide (a1.op = 18))), (3, .bool x4808)]) (ds := [.bool (decide (a1.op = 15)), .bool (decide (a1.op = 16)), .bool (decide (a1.op = 18)), .bool x4808, .bool false]) rfl (fun w => by kernel_rfl)) (by kernel_rfl) rfl <| ho 15 rfl (by kernel_rfl) fun K17 k18 => tS 0 m37 rfl rfl [.bool (decide (a1.op = 15)), .bool (decide (a1.op = 16)), .bool (decide (a1.op = 18)), .bool x4808, .bool false] rfl (oc rfl (oc rfl (oc rfl (oc rfl (oc rfl oc0))))) rfl rfl <| hk k18 (srcG 1 rfl srcG0) <| hz (by kernel_rfl) <| jn [0] (J6 hp)

/-! ### fettle/effect.joined -/
abbrev effect_joined.R (r : PEffect) (v : Value) (A : List FP) : Prop := .agg #[.bool r.reads, .bool r.writes, .bool r.outs, .bool r.traps, .bool r.turns] = v ∧ A = []
def effect_joined (a1 : PEffect) (a2 : PEffect) : Option PEffect :=
  some (⟨(decide (a1.reads = true ∨ a2.reads = true)), (decide (a1.writes = true ∨ a2.writes = true)), (decide (a1.outs = true ∨ a2.outs = true)), (decide (a1.traps = true ∨ a2.traps = true)), (decide (a1.turns = true ∨ a2.turns = true))⟩ : PEffect)
set_option maxHeartbeats 4000000 in
theorem effect_joined_ok {E : World} {H : FP} {w : World} {a1 : PEffect} {a2 : PEffect} {r : PEffect}  (hp : effect_joined a1 a2 = some r) (hst : St E H [] w) :
    Fn Tryz.prog 17 #[.agg #[.bool a1.reads, .bool a1.writes, .bool a1.outs, .bool a1.traps, .bool a1.turns], .agg #[.bool a2.reads, .bool a2.writes, .bool a2.outs, .bool a2.traps, .bool a2.turns]] w fun v w' => ∃ A, effect_joined.R r v A ∧ St E H A w' := by
 refine Fn.bodyV (fn := Tryz.f17) (args := [.agg #[.bool a1.reads, .bool a1.writes, .bool a1.outs, .bool a1.traps, .bool a1.turns], .agg #[.bool a2.reads, .bool a2.writes, .bool a2.outs, .bool a2.traps, .bool a2.turns]]) E H [] 36 Tryz.func17 rfl rfl (leb rfl) hst <| sr <| tb [.bool a1.reads, .bool a1.writes, .bool a1.outs, .bool a1.traps, .bool a1.turns] rfl rfl fun b3 => tb [.bool a2.reads, .bool a2.writes, .bool a2.outs, .bool a2.traps, .bool a2.turns] rfl rfl fun b4 => tl i37 rfl fun b5 => nz <| sr <| tv (fa f37_0 rfl) rfl <| tv (lb s4 2 rfl rfl rfl) rfl <| tm rfl <| TL.cut 3 fun K1 k2 => ?_
 have J3 {e5} : ∀ w, St E H [bx b5 37 [.bool false, .bool false, .bool false, .bool false, .bool false], bx b4 37 [.bool a2.reads, .bool a2.writes, .bool a2.outs, .bool a2.traps, .bool a2.turns], bx b3 37 [.bool a1.reads, .bool a1.writes, .bool a1.outs, .bool a1.traps, .bool a1.turns]] w → K1 (ovr e5 [(10, .bool (decide (a1.reads = true ∨ a2.reads = true))), (2, .pointer (some ⟨b3, 0, none⟩)), (3, .pointer (some ⟨b4, 0, none⟩)), (4, .pointer (some ⟨b5, 0, none⟩))]) w := by
  refine tlg k2 <| tv (fa f37_1 rfl) rfl <| tv (lb s4 2 rfl rfl rfl) rfl <| tm rfl <| TL.cut 3 fun K6 k7 => ?_
  have J8 {e10} : ∀ w, St E H [bx b5 37 [.bool false, .bool false, .bool false, .bool false, .bool false], bx b4 37 [.bool a2.reads, .bool a2.writes, .bool a2.outs, .bool a2.traps, .bool a2.turns], bx b3 37 [.bool a1.reads, .bool a1.writes, .bool a1.outs, .bool a1.traps, .bool a1.turns]] w → K6 (ovr e10 [(16, .bool (decide (a1.writes = true ∨ a2.writes = true))), (2, .pointer (some ⟨b3, 0, none⟩)), (3, .pointer (some ⟨b4, 0, none⟩)), (4, .pointer (some ⟨b5, 0, none⟩)), (10, .bool (decide (a1.reads = true ∨ a2.reads = true)))]) w := by
   refine tlg k7 <| tv (fa f37_2 rfl) rfl <| tv (lb s4 2 rfl rfl rfl) rfl <| tm rfl <| TL.cut 3 fun K11 k12 => ?_
   have J13 {e15} : ∀ w, St E H [bx b5 37 [.bool false, .bool false, .bool false, .bool false, .bool false], bx b4 37 [.bool a2.reads, .bool a2.writes, .bool a2.outs, .bool a2.traps, .bool a2.turns], bx b3 37 [.bool a1.reads, .bool a1.writes, .bool a1.outs, .bool a1.traps, .bool a1.turns]] w → K11 (ovr e15 [(22, .bool (decide (a1.outs = true ∨ a2.outs = true))), (2, .pointer (some ⟨b3, 0, none⟩)), (3, .pointer (some ⟨b4, 0, none⟩)), (4, .pointer (some ⟨b5, 0, none⟩)), (10, .bool (decide (a1.reads = true ∨ a2.reads = true))), (16, .bool (decide (a1.writes = true ∨ a2.writes = true)))]) w := by
    refine tlg k12 <| tv (fa f37_3 rfl) rfl <| tv (lb s4 2 rfl rfl rfl) rfl <| tm rfl <| TL.cut 3 fun K16 k17 => ?_
    have J18 {e20} : ∀ w, St E H [bx b5 37 [.bool false, .bool false, .bool false, .bool false, .bool false], bx b4 37 [.bool a2.reads, .bool a2.writes, .bool a2.outs, .bool a2.traps, .bool a2.turns], bx b3 37 [.bool a1.reads, .bool a1.writes, .bool a1.outs, .bool a1.traps, .bool a1.turns]] w → K16 (ovr e20 [(28, .bool (decide (a1.traps = true ∨ a2.traps = true))), (2, .pointer (some ⟨b3, 0, none⟩)), (3, .pointer (some ⟨b4, 0, none⟩)), (4, .pointer (some ⟨b5, 0, none⟩)), (10, .bool (decide (a1.reads = true ∨ a2.reads = true))), (16, .bool (decide (a1.writes = true ∨ a2.writes = true))), (22, .bool (decide (a1.outs = true ∨ a2.outs = true)))]) w := by
     refine tlg k17 <| tv (fa f37_4 rfl) rfl <| tv (lb s4 2 rfl rfl rfl) rfl <| tm rfl <| TL.cut 3 fun K21 k22 => ?_
     have J23 {e25} : ∀ w, St E H [bx b5 37 [.bool false, .bool false, .bool false, .bool false, .bool false], bx b4 37 [.bool a2.reads, .bool a2.writes, .bool a2.outs, .bool a2.traps, .bool a2.turns], bx b3 37 [.bool a1.reads, .bool a1.writes, .bool a1.outs, .bool a1.traps, .bool a1.turns]] w → K21 (ovr e25 [(34, .bool (decide (a1.turns = true ∨ a2.turns = true))), (4, .pointer (some ⟨b5, 0, none⟩)), (10, .bool (decide (a1.reads = true ∨ a2.reads = true))), (16, .bool (decide (a1.writes = true ∨ a2.writes = true))), (22, .bool (decide (a1.outs = true ∨ a2.outs = true))), (28, .bool (decide (a1.traps = true ∨ a2.traps = true)))]) w := by
      refine tlg k22 <| tv (rv_bv (vs := [(0, .bool (decide (a1.reads = true ∨ a2.reads = true))), (1, .bool (decide (a1.writes = true ∨ a2.writes = true))), (2, .bool (decide (a1.outs = true ∨ a2.outs = true))), (3, .bool (decide (a1.traps = true ∨ a2.traps = true))), (4, .bool (decide (a1.turns = true ∨ a2.turns = true)))]) (ds := [.bool (decide (a1.reads = true ∨ a2.reads = true)), .bool (decide (a1.writes = true ∨ a2.writes = true)), .bool (decide (a1.outs = true ∨ a2.outs = true)), .bool (decide (a1.traps = true ∨ a2.traps = true)), .bool (decide (a1.turns = true ∨ a2.turns = true))]) rfl (fun w => by kernel_rfl)) rfl <| tS 0 m37 rfl rfl [.bool (decide (a1.reads = true ∨ a2.reads = true)), .bool (decide (a1.writes = true ∨ a2.writes = true)), .bool (decide (a1.outs = true ∨ a2.outs = true)), .bool (decide (a1.traps = true ∨ a2.traps = true)), .bool (decide (a1.turns = true ∨ a2.turns = true))] rfl (oc rfl (oc rfl (oc rfl (oc rfl (oc rfl oc0))))) rfl rfl <| nz <| TC.ret ?_
      obtain rfl := Option.some.inj hp
      exact fun w hw => retC1 hw rfl rfl ag_37 0 rfl rfl ⟨rfl, rfl⟩ (hw.pickA [] rfl)
     by_cases hc24 : a1.turns = true
     · exact gn rfl (bbT hc24) rfl rfl <| gn rfl (bbT hc24) rfl rfl <| tv (pT (bbT hc24)) rfl <| nj J23 (bOt hc24)
     · exact gy rfl (bbF hc24) <| tv (fa f37_4 rfl) rfl <| gy rfl (bbF hc24) <| tv (lb s4 1 rfl rfl rfl) rfl <| tv (pF (bbF hc24)) rfl <| nj J23 (bOf' hc24)
    by_cases hc19 : a1.traps = true
    · exact gn rfl (bbT hc19) rfl rfl <| gn rfl (bbT hc19) rfl rfl <| tv (pT (bbT hc19)) rfl <| nj J18 (bOt hc19)
    · exact gy rfl (bbF hc19) <| tv (fa f37_3 rfl) rfl <| gy rfl (bbF hc19) <| tv (lb s4 1 rfl rfl rfl) rfl <| tv (pF (bbF hc19)) rfl <| nj J18 (bOf' hc19)
   by_cases hc14 : a1.outs = true
   · exact gn rfl (bbT hc14) rfl rfl <| gn rfl (bbT hc14) rfl rfl <| tv (pT (bbT hc14)) rfl <| nj J13 (bOt hc14)
   · exact gy rfl (bbF hc14) <| tv (fa f37_2 rfl) rfl <| gy rfl (bbF hc14) <| tv (lb s4 1 rfl rfl rfl) rfl <| tv (pF (bbF hc14)) rfl <| nj J13 (bOf' hc14)
  by_cases hc9 : a1.writes = true
  · exact gn rfl (bbT hc9) rfl rfl <| gn rfl (bbT hc9) rfl rfl <| tv (pT (bbT hc9)) rfl <| nj J8 (bOt hc9)
  · exact gy rfl (bbF hc9) <| tv (fa f37_1 rfl) rfl <| gy rfl (bbF hc9) <| tv (lb s4 1 rfl rfl rfl) rfl <| tv (pF (bbF hc9)) rfl <| nj J8 (bOf' hc9)
 by_cases hc4 : a1.reads = true
 · exact gn rfl (bbT hc4) rfl rfl <| gn rfl (bbT hc4) rfl rfl <| tv (pT (bbT hc4)) rfl <| nj J3 (bOt hc4)
 · exact gy rfl (bbF hc4) <| tv (fa f37_0 rfl) rfl <| gy rfl (bbF hc4) <| tv (lb s4 1 rfl rfl rfl) rfl <| tv (pF (bbF hc4)) rfl <| nj J3 (bOf' hc4)

/-! ### fettle/effect.own -/
abbrev effect_own.R (r : PEffect × List Int) (v : Value) (A : List FP) : Prop := ∃ (w1 : Value) (G1 : FP), .tuple #[.agg #[.bool r.1.reads, .bool r.1.writes, .bool r.1.outs, .bool r.1.traps, .bool r.1.turns], w1] = v ∧ A = [G1] ∧ SlO 3 (kInt .i64) r.2 w1 G1
def effect_own.nx12  (x24 : Bool) (x25 : Bool) (x26 : Bool) (x27 : Bool) (x28 : Bool) (x29 : List Int) : Option (PEffect × List Int) :=
  some ((⟨x24, x25, x26, x27, x28⟩ : PEffect), x29)
def effect_own.jn22 (x23 : Int) (x33 : Bool) (x34 : Bool) (x35 : Bool) (x36 : Bool) (x37 : Bool) (x38 : List Int) : Option (Ex (Bool × Bool × Bool × Bool × Bool × List Int) (Bool × Bool × Bool × Bool × Bool × List Int × Int)) :=
  some (.go (x33, x34, x35, x36, x37, x38, (w64 (x23 + 1))))
def effect_own.nx33 (x23 : Int) (x70 : Bool) (x71 : Bool) (x72 : Bool) (x73 : Bool) (x74 : Bool) (x75 : List Int) : Option (Ex (Bool × Bool × Bool × Bool × Bool × List Int) (Bool × Bool × Bool × Bool × Bool × List Int × Int)) :=
  effect_own.jn22 x23 x70 x71 x72 x73 x74 x75
def effect_own.jn43 (x69 : Int) (x79 : Bool) (x80 : Bool) (x81 : Bool) (x82 : Bool) (x83 : Bool) (x84 : List Int) : Option (Ex (Bool × Bool × Bool × Bool × Bool × List Int) (Bool × Bool × Bool × Bool × Bool × List Int × Int)) :=
  some (.go (x79, x80, x81, x82, x83, x84, (w64 (x69 + 1))))
def effect_own.jn48 (x65 : List Int) (x69 : Int) (x88 : PInstr) (x97 : Bool) (x98 : Bool) (x99 : Bool) (x100 : Bool) (x101 : Bool) : Option (Ex (Bool × Bool × Bool × Bool × Bool × List Int) (Bool × Bool × Bool × Bool × Bool × List Int × Int)) :=
  if x88.op = 17 then
    (cat x65 [x88.fn]).bind fun x103 =>
    effect_own.jn43 x69 x97 x98 x99 x100 x101 x103
  else
    effect_own.jn43 x69 x97 x98 x99 x100 x101 x65
def effect_own.bd33 (x48 : PBlock) (x60 : Bool) (x61 : Bool) (x62 : Bool) (x63 : Bool) (x64 : Bool) (x65 : List Int) (x69 : Int) : Option (Ex (Bool × Bool × Bool × Bool × Bool × List Int) (Bool × Bool × Bool × Bool × Bool × List Int × Int)) :=
  if x69 < (len x48.ins) then
    (idx x48.ins x69).bind fun x88 =>
    (effect_instr x88).bind fun x908 =>
    (effect_joined (⟨x60, x61, x62, x63, x64⟩ : PEffect) x908).bind fun x1308 =>
    effect_own.jn48 x65 x69 x88 x1308.reads x1308.writes x1308.outs x1308.traps x1308.turns
  else
    some (.ret (x60, x61, x62, x63, x64, x65))
def effect_own.bd12 (a1 : PFunc) (x10 : List Bool) (x14 : Bool) (x15 : Bool) (x16 : Bool) (x17 : Bool) (x18 : Bool) (x19 : List Int) (x23 : Int) : Option (Ex (Bool × Bool × Bool × Bool × Bool × List Int) (Bool × Bool × Bool × Bool × Bool × List Int × Int)) :=
  if x23 < (len x10) then
    (idx x10 x23).bind fun x42 =>
    if (!x42) = true then
      effect_own.jn22 x23 x14 x15 x16 x17 x18 x19
    else
      (idx a1.blocks x23).bind fun x48 =>
      (whl (fun (s : (Bool × Bool × Bool × Bool × Bool × List Int × Int)) => effect_own.bd33 x48 s.1 s.2.1 s.2.2.1 s.2.2.2.1 s.2.2.2.2.1 s.2.2.2.2.2.1 s.2.2.2.2.2.2) FUEL (x14, x15, x16, x17, x18, x19, 0)).bind fun z =>
      effect_own.nx33 x23 z.1 z.2.1 z.2.2.1 z.2.2.2.1 z.2.2.2.2.1 z.2.2.2.2.2
  else
    some (.ret (x14, x15, x16, x17, x18, x19))
def effect_own (a1 : PFunc) : Option (PEffect × List Int) :=
  (effect_turns a1).bind fun x8 =>
  (graph_Reached a1).bind fun x10 =>
  (whl (fun (s : (Bool × Bool × Bool × Bool × Bool × List Int × Int)) => effect_own.bd12 a1 x10 s.1 s.2.1 s.2.2.1 s.2.2.2.1 s.2.2.2.2.1 s.2.2.2.2.2.1 s.2.2.2.2.2.2) FUEL (false, false, false, false, x8, ([] : List Int), 0)).bind fun z =>
  effect_own.nx12 z.1 z.2.1 z.2.2.1 z.2.2.2.1 z.2.2.2.2.1 z.2.2.2.2.2
set_option maxHeartbeats 4000000 in
theorem effect_own_ok {E : World} {H : FP} {w : World} {a1 : PFunc} {v2 : Value} {v4 : Value} {r : PEffect × List Int} (h3 : SlI (kInt .i64) H a1.regs v2) (h5 : SlI kBlock H a1.blocks v4) (hp : effect_own a1 = some r) (hst : St E H [] w) :
    Fn Tryz.prog 14 #[.agg #[.int .i64 a1.params, .int .i64 a1.result, v2, v4]] w fun v w' => ∃ A, effect_own.R r v A ∧ St E H A w' := by
 refine Fn.bodyV (fn := Tryz.f14) (args := [.agg #[.int .i64 a1.params, .int .i64 a1.result, v2, v4]]) E H [] 50 Tryz.func14 rfl rfl (leb rfl) hst <| sr <| tb [.int .i64 a1.params, .int .i64 a1.result, v2, v4] rfl rfl fun b6 => tl i37 rfl fun b7 => ta rfl <| nz <| sr <| tv (lA (ds := [.int .i64 a1.params, .int .i64 a1.result, v2, v4]) ag_47 1 rfl rfl rfl rfl) rfl <| bE hp fun x8 hy1 hp => tc 0 [_,_] rfl c28 (fun _ => effect_turns_ok (a1 := a1) (h3.mono subH) (h5.mono subH) hy1) rfl ?_
 rintro _ _ ⟨rfl, rfl⟩
 refine tv (rv_bv (vs := [(4, .bool x8)]) (ds := [.bool false, .bool false, .bool false, .bool false, .bool x8]) rfl (fun w => by kernel_rfl)) rfl <| tl i37 rfl fun b9 => tS 0 m37 rfl rfl [.bool false, .bool false, .bool false, .bool false, .bool x8] rfl (oc rfl (oc rfl (oc rfl (oc rfl (oc rfl oc0))))) rfl rfl <| nz <| sr <| ta rfl <| nz <| TC.seq fun K3 k4 => sr <| tv (lA (ds := [.int .i64 a1.params, .int .i64 a1.result, v2, v4]) ag_47 2 rfl rfl rfl rfl) rfl <| bE hp fun x10 hy5 hp => tc 0 [_,_,_] rfl c29 (fun _ => graph_Reached_ok (a1 := a1) (h3.mono subH) (h5.mono subH) hy5) rfl ?_
 rintro _ _ ⟨v11, F12, rfl, rfl, h13⟩
 refine tv (ln u69 h13.ro rfl) rfl <| tm rfl <| nz <| TC.block <| bE hp fun z_8 hz9 hr10 => ?_
 have J14 {x24 x25 x26 x27 x28 x29 v30 F31 e13} (h32 : SlO 3 (kInt .i64) x29 v30 F31) (hq15 : (x24, x25, x26, x27, x28, x29) = z_8) : ∀ w, St E H [bx b7 37 [.bool false, .bool false, .bool false, .bool false, .bool false], bx b9 37 [.bool x24, .bool x25, .bool x26, .bool x27, .bool x28], F31] w → K3 (ovr e13 [(2, .pointer (some ⟨b7, 0, none⟩)), (4, .pointer (some ⟨b9, 0, none⟩)), (5, v30)]) w := by
  subst hq15
  replace hp : effect_own.nx12 x24 x25 x26 x27 x28 x29 = some r := hr10
  refine tg k4 <| sr <| tv (lA (ds := [.bool x24, .bool x25, .bool x26, .bool x27, .bool x28]) ag_37 1 rfl rfl rfl rfl) rfl <| tm rfl <| tS 0 m37 rfl rfl [.bool x24, .bool x25, .bool x26, .bool x27, .bool x28] rfl (oc rfl (oc rfl (oc rfl (oc rfl (oc rfl oc0))))) rfl rfl <| ta rfl <| nz <| TC.ret ?_
  obtain rfl := Option.some.inj hp
  exact fun w hw => retC2 hw rfl rfl rfl ag_37 0 rfl rfl ⟨v30, F31, rfl, rfl, h32⟩ (hw.pickA [2] rfl)
 refine W.new0 <| lp hz9 [4, 3, 2, 0, 1] rfl (fun s e L => ∃ x14 x15 x16 x17 x18 x19 x23 v20 F21 e7, s = (x14, x15, x16, x17, x18, x19, x23) ∧ SlO 3 (kInt .i64) x19 v20 F21 ∧ e = ovr e7 [(1, .pointer (some ⟨b6, 0, none⟩)), (2, .pointer (some ⟨b7, 0, none⟩)), (4, .pointer (some ⟨b9, 0, none⟩)), (5, v20), (14, v11), (15, .int .i64 (len x10)), (16, .int .i64 x23)] ∧ L = [bx b6 47 [.int .i64 a1.params, .int .i64 a1.result, v2, v4], bx b7 37 [.bool false, .bool false, .bool false, .bool false, .bool false], bx b9 37 [.bool x14, .bool x15, .bool x16, .bool x17, .bool x18], F21, F12]) ⟨_, _, _, _, _, _, _, (.slice none 0 0), ([] : FP), _, rfl, (SlO.nil 3), ovr_eq _ _ rfl, rfl⟩ ?_
 rintro _ _ _ ⟨x14, x15, x16, x17, x18, x19, x23, v20, F21, e7, rfl, h22, rfl, rfl⟩ X11 hp hx12
 replace hp : effect_own.bd12 a1 x10 x14 x15 x16 x17 x18 x19 x23 = some X11 := hp
 refine sr <| tv (blt rfl rfl) rfl <| nz <| TC.seq fun K16 k17 => cD rfl hp (fun hc18 hp => ?_) fun hc18 hp => ?_
 · refine sk k17 rfl <| TC.seq fun K19 k20 => ?_
   have J22 {x33 x34 x35 x36 x37 x38 v39 F40 e21} (h41 : SlO 3 (kInt .i64) x38 v39 F40) (hp : effect_own.jn22 x23 x33 x34 x35 x36 x37 x38 = some X11) : ∀ w, St E H [bx b6 47 [.int .i64 a1.params, .int .i64 a1.result, v2, v4], bx b7 37 [.bool false, .bool false, .bool false, .bool false, .bool false], bx b9 37 [.bool x33, .bool x34, .bool x35, .bool x36, .bool x37], F40, F12] w → K19 (ovr e21 [(1, .pointer (some ⟨b6, 0, none⟩)), (2, .pointer (some ⟨b7, 0, none⟩)), (4, .pointer (some ⟨b9, 0, none⟩)), (5, v39), (14, v11), (15, .int .i64 (len x10)), (16, .int .i64 x23)]) w := by
    exact tg k20 <| TC.region <| tv (bad rfl rfl) rfl <| tm rfl <| nl <| gk hp [0, 1, 2, 3, 4] ⟨_, _, _, _, _, _, _, v39, F40, _, rfl, h41, ovr_eq _ _ rfl, rfl⟩
   refine TC.block <| sr <| tm rfl <| ti u69 i4 (h13).ro hp rfl rfl rfl rfl ?_
   rintro x42 b43 o44 _ hp rfl h47
   refine tv (lr s4 (Src.at_ 4 rfl) h47 0 rfl rfl) rfl <| ta rfl <| ta rfl <| nz <| TC.seq fun K24 k25 => sr <| tm rfl <| tv (rv_not rfl) rfl <| nz <| cB rfl hp (fun hc26 hp => ?_) fun hc26 hp => ?_
   · exact TC.exit <| jn [0, 1, 2, 3, 4] (J22 h22 hp)
   · refine sk k25 rfl <| sr <| tv (fa f47_3 rfl) rfl <| tv (lb s45 0 rfl rfl rfl) rfl <| tm rfl <| ti u45 i44 h5 hp rfl rfl rfl rfl ?_
     rintro x48 b49 o50 _ hp ⟨v54, v56, v58, rfl, h55, h57, h59⟩ h53
     refine tv (fa f44_1 rfl) rfl <| tv (lr s42 sH h53 1 rfl rfl) rfl <| tv (ln u42 h57 rfl) rfl <| tm rfl <| nz <| TC.block <| bE hp fun z_29 hz30 hr31 => ?_
     have J35 {x70 x71 x72 x73 x74 x75 v76 F77 e34} (h78 : SlO 3 (kInt .i64) x75 v76 F77) (hq36 : (x70, x71, x72, x73, x74, x75) = z_29) : ∀ w, St E H [bx b6 47 [.int .i64 a1.params, .int .i64 a1.result, v2, v4], bx b7 37 [.bool false, .bool false, .bool false, .bool false, .bool false], bx b9 37 [.bool x70, .bool x71, .bool x72, .bool x73, .bool x74], F77, F12] w → K19 (ovr e34 [(1, .pointer (some ⟨b6, 0, none⟩)), (2, .pointer (some ⟨b7, 0, none⟩)), (4, .pointer (some ⟨b9, 0, none⟩)), (5, v76), (14, v11), (15, .int .i64 (len x10)), (16, .int .i64 x23)]) w := by
      subst hq36
      replace hp : effect_own.nx33 x23 x70 x71 x72 x73 x74 x75 = some X11 := hr31
      exact jn [0, 1, 2, 3, 4] (J22 h78 hp)
     refine lp hz30 [0, 1, 2, 3, 4] rfl (fun s e L => ∃ x60 x61 x62 x63 x64 x65 x69 v66 F67 e28, s = (x60, x61, x62, x63, x64, x65, x69) ∧ SlO 3 (kInt .i64) x65 v66 F67 ∧ e = ovr e28 [(1, .pointer (some ⟨b6, 0, none⟩)), (2, .pointer (some ⟨b7, 0, none⟩)), (4, .pointer (some ⟨b9, 0, none⟩)), (5, v66), (14, v11), (15, .int .i64 (len x10)), (16, .int .i64 x23), (28, v56), (29, .int .i64 (len x48.ins)), (30, .int .i64 x69)] ∧ L = [bx b6 47 [.int .i64 a1.params, .int .i64 a1.result, v2, v4], bx b7 37 [.bool false, .bool false, .bool false, .bool false, .bool false], bx b9 37 [.bool x60, .bool x61, .bool x62, .bool x63, .bool x64], F67, F12]) ⟨_, _, _, _, _, _, _, v20, F21, _, rfl, h22, ovr_eq _ _ rfl, rfl⟩ ?_
     rintro _ _ _ ⟨x60, x61, x62, x63, x64, x65, x69, v66, F67, e28, rfl, h68, rfl, rfl⟩ X32 hp hx33
     replace hp : effect_own.bd33 x48 x60 x61 x62 x63 x64 x65 x69 = some X32 := hp
     refine sr <| tv (blt rfl rfl) rfl <| nz <| TC.seq fun K37 k38 => cD rfl hp (fun hc39 hp => ?_) fun hc39 hp => ?_
     · refine sk k38 rfl <| TC.seq fun K40 k41 => ?_
       have J43 {x79 x80 x81 x82 x83 x84 v85 F86 e42} (h87 : SlO 3 (kInt .i64) x84 v85 F86) (hp : effect_own.jn43 x69 x79 x80 x81 x82 x83 x84 = some X32) : ∀ w, St E H [bx b6 47 [.int .i64 a1.params, .int .i64 a1.result, v2, v4], bx b7 37 [.bool false, .bool false, .bool false, .bool false, .bool false], bx b9 37 [.bool x79, .bool x80, .bool x81, .bool x82, .bool x83], F86, F12] w → K40 (ovr e42 [(1, .pointer (some ⟨b6, 0, none⟩)), (2, .pointer (some ⟨b7, 0, none⟩)), (4, .pointer (some ⟨b9, 0, none⟩)), (5, v85), (14, v11), (15, .int .i64 (len x10)), (16, .int .i64 x23), (28, v56), (29, .int .i64 (len x48.ins)), (30, .int .i64 x69)]) w := by
        exact tg k41 <| TC.region <| tv (bad rfl rfl) rfl <| tm rfl <| nl <| gk hp [0, 1, 2, 3, 4] ⟨_, _, _, _, _, _, _, v85, F86, _, rfl, h87, ovr_eq _ _ rfl, rfl⟩
       refine TC.block <| sr <| ti u42 i50 h57 hp rfl rfl rfl rfl ?_
       rintro x88 b89 o90 _ hp ⟨v94, rfl, h95⟩ h93
       refine tv (lR (ds := [.int .i64 x88.op, .int .i64 x88.dst, v94, .int .i64 x88.imm, .int .i64 x88.fn]) ag_50 sH h93 0 rfl rfl rfl) rfl <| tl i50 rfl fun b96 => tS 0 m50 rfl rfl [.int .i64 x88.op, .int .i64 x88.dst, v94, .int .i64 x88.imm, .int .i64 x88.fn] rfl (oc rfl (oc rfl (oc (h95).one (oc rfl (oc rfl oc0))))) rfl rfl <| nz <| TC.seq fun K45 k46 => ?_
       have J48 {x97 x98 x99 x100 x101 e47} (hp : effect_own.jn48 x65 x69 x88 x97 x98 x99 x100 x101 = some X32) : ∀ w, St E H [bx b6 47 [.int .i64 a1.params, .int .i64 a1.result, v2, v4], bx b7 37 [.bool false, .bool false, .bool false, .bool false, .bool false], bx b9 37 [.bool x97, .bool x98, .bool x99, .bool x100, .bool x101], F67, bx b96 50 [.int .i64 x88.op, .int .i64 x88.dst, v94, .int .i64 x88.imm, .int .i64 x88.fn], F12] w → K45 (ovr e47 [(1, .pointer (some ⟨b6, 0, none⟩)), (2, .pointer (some ⟨b7, 0, none⟩)), (4, .pointer (some ⟨b9, 0, none⟩)), (5, v66), (9, .pointer (some ⟨b96, 0, none⟩)), (14, v11), (15, .int .i64 (len x10)), (16, .int .i64 x23), (28, v56), (29, .int .i64 (len x48.ins)), (30, .int .i64 x69)]) w := by
        refine tg k46 <| sr <| tv (fa f50_0 rfl) rfl <| tv (lb s3 4 rfl rfl rfl) rfl <| tv (beq rfl rfl) rfl <| nz <| cD rfl hp (fun hc49 hp => ?_) fun hc49 hp => ?_
        · exact TC.region <| tm rfl <| tv (fa f50_4 rfl) rfl <| tv (lb s3 4 rfl rfl rfl) rfl <| tbs [(0, .int .i64 x88.fn)] [.int .i64 x88.fn] u38 i3 (by kernel_rfl) rfl rfl rfl rfl fun b102 => tp [4, 0, 1, 2, 3, 5, 6] [_,_,_,_,_,_,_] rfl rfl <| tf 2 0 [_,_,_,_,_,_,_,_] rfl <| tp2 u38 i3 h68 hp (RepL.to (RepL.cons (k := (kInt .i64)) (x := x88.fn) ⟨rfl, rfl⟩ RepL.nil) rfl) rfl rfl rfl rfl rfl rfl rfl rfl rfl fun x103 v104 F105 h106 hp => ta rfl <| nl <| jn [1, 2, 3, 0, 5] (J43 h106 hp)
        · exact TC.skip <| jn [0, 1, 2, 3, 5] (J43 h68 hp)
       refine ch mix [bx b96 50 [.int .i64 x88.op, .int .i64 x88.dst, v94, .int .i64 x88.imm, .int .i64 x88.fn], bx b6 47 [.int .i64 a1.params, .int .i64 a1.result, v2, v4], bx b7 37 [.bool false, .bool false, .bool false, .bool false, .bool false], F67, F12] (srcG 0 rfl (srcG 1 rfl (srcG 2 rfl (srcG 4 rfl (srcG 5 rfl srcG0))))) <| hv 1 rfl (lAG (ds := [.int .i64 x88.op, .int .i64 x88.dst, v94, .int .i64 x88.imm, .int .i64 x88.fn]) ag_50 0 rfl rfl rfl rfl) (by kernel_rfl) rfl <| HL.all [0, 2] (by kernel_rfl) (by simp) (HL.al ⟨_, rfl, fun K51 k52 => ?_⟩ (HL.al ⟨_, rfl, fun K63 k64 => ?_⟩ HL.al0))
       · refine tv (lA (ds := [.bool x60, .bool x61, .bool x62, .bool x63, .bool x64]) ag_37 3 rfl rfl rfl rfl) rfl <| hk k52 (srcG 0 rfl (srcG 1 rfl (srcG 2 rfl (srcG 4 rfl (srcG 5 rfl srcG0))))) <| ho 2 rfl (by kernel_rfl) fun K53 k54 => bE hp fun x908 hy55 hp => tc 0 [_,_,_,_,_,_] rfl c30 (fun _ => effect_instr_ok (a1 := x88) (h95.mono subH) hy55) rfl ?_
         rintro _ _ ⟨rfl, rfl⟩
         refine hk k54 (srcG 0 rfl (srcG 1 rfl (srcG 2 rfl (srcG 4 rfl (srcG 5 rfl srcG0))))) <| ho 3 rfl (by kernel_rfl) fun K57 k58 => bE hp fun x1308 hy59 hp => tc 0 [_,_,_,_,_,_] rfl c17 (fun _ => effect_joined_ok (a1 := (⟨x60, x61, x62, x63, x64⟩ : PEffect)) (a2 := x908) hy59) rfl ?_
         rintro _ _ ⟨rfl, rfl⟩
         exact hk k58 (srcG 0 rfl (srcG 1 rfl (srcG 2 rfl (srcG 4 rfl (srcG 5 rfl srcG0))))) <| ho 4 rfl (by kernel_rfl) fun K61 k62 => tS 3 m37 rfl rfl [.bool x1308.reads, .bool x1308.writes, .bool x1308.outs, .bool x1308.traps, .bool x1308.turns] rfl (oc rfl (oc rfl (oc rfl (oc rfl (oc rfl oc0))))) rfl rfl <| hk k62 (srcG 0 rfl (srcG 1 rfl (srcG 2 rfl (srcG 4 rfl (srcG 5 rfl srcG0))))) <| hz (by kernel_rfl) <| jn [1, 2, 3, 4, 0, 5] (J48 hp)
       · refine bE hp fun x908 hy65 hp => tc 0 [_,_,_,_,_,_] rfl c30 (fun _ => effect_instr_ok (a1 := x88) (h95.mono subH) hy65) rfl ?_
         rintro _ _ ⟨rfl, rfl⟩
         refine hk k64 (srcG 0 rfl (srcG 1 rfl (srcG 2 rfl (srcG 4 rfl (srcG 5 rfl srcG0))))) <| ho 0 rfl (by kernel_rfl) fun K67 k68 => tv (lA (ds := [.bool x60, .bool x61, .bool x62, .bool x63, .bool x64]) ag_37 3 rfl rfl rfl rfl) rfl <| hk k68 (srcG 0 rfl (srcG 1 rfl (srcG 2 rfl (srcG 4 rfl (srcG 5 rfl srcG0))))) <| ho 3 rfl (by kernel_rfl) fun K69 k70 => bE hp fun x1308 hy71 hp => tc 0 [_,_,_,_,_,_] rfl c17 (fun _ => effect_joined_ok (a1 := (⟨x60, x61, x62, x63, x64⟩ : PEffect)) (a2 := x908) hy71) rfl ?_
         rintro _ _ ⟨rfl, rfl⟩
         exact hk k70 (srcG 0 rfl (srcG 1 rfl (srcG 2 rfl (srcG 4 rfl (srcG 5 rfl srcG0))))) <| ho 4 rfl (by kernel_rfl) fun K73 k74 => tS 3 m37 rfl rfl [.bool x1308.reads, .bool x1308.writes, .bool x1308.outs, .bool x1308.traps, .bool x1308.turns] rfl (oc rfl (oc rfl (oc rfl (oc rfl (oc rfl oc0))))) rfl rfl <| hk k74 (srcG 0 rfl (srcG 1 rfl (srcG 2 rfl (srcG 4 rfl (srcG 5 rfl srcG0))))) <| hz (by kernel_rfl) <| jn [1, 2, 3, 4, 0, 5] (J48 hp)
     · exact TC.exit <| jn [0, 1, 2, 3, 4] (J35 h68 (ex_ret hp hx33))
 · exact TC.exit <| jn [1, 2, 3] (J14 h22 (ex_ret hp hx12))

/-! ### slices.Clone[[]int,int] -/
abbrev slices_Clone.R (r : List Int) (v : Value) (A : List FP) : Prop := ∃ (w1 : Value) (G1 : FP), w1 = v ∧ A = [G1] ∧ SlO 3 (kInt .i64) r w1 G1
def slices_Clone (a1 : List Int) : Option (List Int) :=
  (cat ([] : List Int) a1).bind fun x7 =>
  some x7
theorem slices_Clone_ok {E : World} {H : FP} {w : World} {a1 : List Int} {v2 : Value} {r : List Int} (h3 : SlI (kInt .i64) H a1 v2) (hp : slices_Clone a1 = some r) (hst : St E H [] w) :
    Fn Tryz.prog 87 #[v2] w fun v w' => ∃ A, slices_Clone.R r v A ∧ St E H A w' := by
 refine fb 8 [.tmp 2] Tryz.func87 rfl rfl rfl rfl rfl hst <| sr <| ta rfl <| nz <| TC.seq fun K1 k2 => sr <| tm rfl ?_
 obtain ⟨q4, hq3, hv4⟩ := nilEq (P := Tryz.prog) Tryz.underlying38 h3
 refine tv (rv_nil rfl hv4) rfl <| nz ?_
 by_cases hc5 : q4 = true
 · replace hp : ((cat ([] : List Int) a1).bind fun x7 => some x7) = some r := hp
   have hx7 := hq3 hc5
   replace hp : (some ([] : List Int)) = some r := by rw [hx7] at hp; simpa [cat, LIM] using hp
   exact TC.condT (bbT hc5) <| sr <| ta rfl <| nz <| TC.ret <| W.new0 <| rt hp [0] ⟨(.slice none 0 0), ([] : FP), rfl, rfl, (SlO.nil 3)⟩
 · exact TC.condF (bbF hc5) <| sk k2 rfl <| sr <| TL.bs0 u38 i3 (ltb rfl) fun b6 => tm rfl <| tpI (fInt .i64) u38 i3 (SlO.lit0 (k := (kInt .i64)) b6) h3 sH hp rfl rfl rfl rfl rfl rfl rfl fun x7 v8 F9 h10 hp => ta rfl <| nz <| TC.ret <| rt hp [0] ⟨v8, F9, rfl, rfl, h10⟩
end Go.Proofs.YtpomfbdbkejedaaGreatDoor
