/- The walk through the program's functions: each one's pure reading, and that a call does what it says. No conditions. -/
import Derived.Test.YteaknconpkklhaaDoorV9
set_option linter.unusedVariables false
set_option linter.unusedSimpArgs false
namespace Go.Proofs.YteaknconpkklhaaDoor
open Go Go.Proofs
/-! ### slices.Reverse[[]int,int] -/
abbrev slices_Reverse.R (v2 : Value) (r : List Int) (v : Value) (A : List FP) : Prop := ∃ (G1 : FP), .tuple #[] = v ∧ A = [G1] ∧ SlO 3 (kInt .i64) r v2 G1
def slices_Reverse.nx8  (x10 : List Int) : Option (List Int) :=
  some x10
def slices_Reverse.jn18 (x8 : Int) (x9 : Int) (x13 : List Int) : Option (Ex (List Int) (List Int × Int × Int)) :=
  some (.go (x13, (w64 (x8 + 1)), (w64 (x9 - 1))))
def slices_Reverse.bd8  (x5 : List Int) (x8 : Int) (x9 : Int) : Option (Ex (List Int) (List Int × Int × Int)) :=
  if x8 < x9 then
    (idx x5 x9).bind fun x2417 =>
    (idx x5 x8).bind fun x4017 =>
    (idx x5 x8).bind fun x4817 =>
    (idx (x5.set (x8).toNat x2417) x9).bind fun x5617 =>
    slices_Reverse.jn18 x8 x9 ((x5.set (x8).toNat x2417).set (x9).toNat x4017)
  else
    some (.ret x5)
def slices_Reverse (a1 : List Int) : Option (List Int) :=
  (whl (fun (s : (List Int × Int × Int)) => slices_Reverse.bd8 s.1 s.2.1 s.2.2) FUEL (a1, 0, (w64 ((len a1) - 1)))).bind fun z =>
  slices_Reverse.nx8 z
theorem slices_Reverse_ok {E : World} {H : FP} {w : World} {a1 : List Int} {v2 : Value} {F3 : FP} {r : List Int} (h4 : SlO 3 (kInt .i64) a1 v2 F3) (hp : slices_Reverse a1 = some r) (hst : St E H [F3] w) :
    Fn Tryd.prog 75 #[v2] w fun v w' => ∃ A, slices_Reverse.R v2 r v A ∧ St E H A w' := by
 refine fb 28 [] Tryd.func75 rfl rfl rfl rfl rfl hst <| sr <| tm rfl <| tv (ln u32 h4.ro rfl) rfl <| tv (bsu rfl rfl) rfl <| ta rfl <| ta rfl <| nz <| TC.named fun K1 k2 => TC.block <| bE hp fun z_4 hz5 hr6 => ?_
 have J10 {x10 F11 e9} (h12 : SlO 3 (kInt .i64) x10 v2 F11) (hq11 : x10 = z_4) : ∀ w, St E H [F11] w → K1 (ovr e9 []) w := by
  subst hq11
  replace hp : slices_Reverse.nx8 x10 = some r := hr6
  exact viaK k2 <| rt hp [0] ⟨F11, rfl, rfl, h12⟩
 refine lp hz5 [0] rfl (fun s e L => ∃ x5 x8 x9 F6 e3, s = (x5, x8, x9) ∧ SlO 3 (kInt .i64) x5 v2 F6 ∧ e = ovr e3 [(0, v2), (2, .int .i64 x8), (3, .int .i64 x9)] ∧ L = [F6]) ⟨_, _, _, F3, _, rfl, h4, ovr_eq _ _ rfl, rfl⟩ ?_
 rintro _ _ _ ⟨x5, x8, x9, F6, e3, rfl, h7, rfl, rfl⟩ X7 hp hx8
 replace hp : slices_Reverse.bd8 x5 x8 x9 = some X7 := hp
 refine TC.seq fun K12 k13 => sr <| tm rfl <| tm rfl <| tv (blt rfl rfl) rfl <| nz <| cD rfl hp (fun hc14 hp => ?_) fun hc14 hp => ?_
 · refine sk k13 rfl <| TC.seq fun K15 k16 => ?_
   have J18 {x13 F14 e17} (h15 : SlO 3 (kInt .i64) x13 v2 F14) (hp : slices_Reverse.jn18 x8 x9 x13 = some X7) : ∀ w, St E H [F14] w → K15 (ovr e17 [(0, v2), (2, .int .i64 x8), (3, .int .i64 x9)]) w := by
    exact tg k16 <| TC.region <| tm rfl <| tv (bad rfl rfl) rfl <| tm rfl <| tv (bsu rfl rfl) rfl <| ta rfl <| ta rfl <| nl <| gk hp [0] ⟨_, _, _, F14, _, rfl, h15, ovr_eq _ _ rfl, rfl⟩
   refine TC.block <| ch mix [] srcG0 <| hv 0 rfl mv (by kernel_rfl) rfl <| hv 1 rfl mv (by kernel_rfl) rfl <| hv 2 rfl mv (by kernel_rfl) rfl <| hv 3 rfl mv (by kernel_rfl) rfl <| hv 4 rfl mv (by kernel_rfl) rfl <| hv 5 rfl mv (by kernel_rfl) rfl <| hi 6 rfl u32 i3 (h7).ro hp rfl rfl rfl (by kernel_rfl) rfl ?_
   rintro x2417 b2418 o2419 _ hp rfl h2422
   refine hv 8 rfl mv (by kernel_rfl) rfl <| hv 9 rfl mv (by kernel_rfl) rfl <| hi 10 rfl u32 i3 (h7).ro hp rfl rfl rfl (by kernel_rfl) rfl ?_
   rintro x4017 b4018 o4019 _ hp rfl h4022
   refine HL.all [7, 11] (by kernel_rfl) (by simp) (HL.al ⟨_, rfl, fun K21 k22 => ?_⟩ (HL.al ⟨_, rfl, fun K31 k32 => ?_⟩ HL.al0))
   · exact tv (lr s3 (Src.at_ 0 rfl) h2422 0 rfl rfl) rfl <| hk k22 srcG0 <| ho 11 rfl (by kernel_rfl) fun K23 k24 => tv (lr s3 (Src.at_ 0 rfl) h4022 0 rfl rfl) rfl <| hk k24 srcG0 <| hO 12 rfl u32 i3 h7 hp rfl rfl rfl (by kernel_rfl) rfl fun x4817 b4818 o4819 h4820 hp => ho 13 rfl (by kernel_rfl) fun K26 k27 => tE h7 h4820 m3 rfl ⟨rfl, rfl⟩ w1 fun F5217 h5218 => hk k27 srcG0 <| hO 14 rfl u32 i3 h5218 hp rfl rfl rfl (by kernel_rfl) rfl fun x5617 b5618 o5619 h5620 hp => ho 15 rfl (by kernel_rfl) fun K29 k30 => tE h5218 h5620 m3 rfl ⟨rfl, rfl⟩ w1 fun F6017 h6018 => hk k30 srcG0 <| hz (by kernel_rfl) <| jn [0] (J18 h6018 hp)
   · exact tv (lr s3 (Src.at_ 0 rfl) h4022 0 rfl rfl) rfl <| hk k32 srcG0 <| ho 7 rfl (by kernel_rfl) fun K33 k34 => tv (lr s3 (Src.at_ 0 rfl) h2422 0 rfl rfl) rfl <| hk k34 srcG0 <| hO 12 rfl u32 i3 h7 hp rfl rfl rfl (by kernel_rfl) rfl fun x4817 b4818 o4819 h4820 hp => ho 13 rfl (by kernel_rfl) fun K36 k37 => tE h7 h4820 m3 rfl ⟨rfl, rfl⟩ w1 fun F5217 h5218 => hk k37 srcG0 <| hO 14 rfl u32 i3 h5218 hp rfl rfl rfl (by kernel_rfl) rfl fun x5617 b5618 o5619 h5620 hp => ho 15 rfl (by kernel_rfl) fun K39 k40 => tE h5218 h5620 m3 rfl ⟨rfl, rfl⟩ w1 fun F6017 h6018 => hk k40 srcG0 <| hz (by kernel_rfl) <| jn [0] (J18 h6018 hp)
 · exact TC.exit <| jn [0] (J10 h7 (ex_ret hp hx8))
/-! ### fettle/graph.order -/
abbrev graph_order.R (r : List Int × List Bool) (v : Value) (A : List FP) : Prop := ∃ (w1 : Value) (G1 : FP) (w2 : Value) (G2 : FP), .tuple #[w1, w2] = v ∧ A = [G1, G2] ∧ SlO 3 (kInt .i64) r.1 w1 G1 ∧ SlO 4 kBool r.2 w2 G2
def graph_order.jn7  (x19 : List Bool) (x23 : List Int) : Option (List Int × List Bool) :=
  (slices_Reverse x23).bind fun x27 =>
  some (x27, x19)
def graph_order (a1 : PFunc) : Option (List Int × List Bool) :=
  (graph_Next a1).bind fun x7 =>
  (mkl (len x7) false).bind fun x12 =>
  if (len x7) > 0 then
    (graph_order_1 0 x12 x7 ([] : List Int)).bind fun x31 =>
    graph_order.jn7 x31.1 x31.2
  else
    graph_order.jn7 x12 ([] : List Int)
theorem graph_order_ok {E : World} {H : FP} {w : World} {a1 : PFunc} {v2 : Value} {v4 : Value} {r : List Int × List Bool} (h3 : SlI (kInt .i64) H a1.regs v2) (h5 : SlI kBlock H a1.blocks v4) (hp : graph_order a1 = some r) (hst : St E H [] w) :
    Fn Tryd.prog 57 #[.agg #[.int .i64 a1.params, .int .i64 a1.result, v2, v4]] w fun v w' => ∃ A, graph_order.R r v A ∧ St E H A w' := by
 refine fb 23 [.tmp 2, .tmp 3] Tryd.func57 rfl rfl rfl rfl rfl hst <| sr <| tb [.int .i64 a1.params, .int .i64 a1.result, v2, v4] rfl rfl fun b6 => ta rfl <| ta rfl <| nz <| sr <| tv (lA (ds := [.int .i64 a1.params, .int .i64 a1.result, v2, v4]) ag_41 0 rfl rfl rfl rfl) rfl <| bE hp fun x7 hy1 hp => tc 0 [_] rfl c21 (fun _ => graph_Next_ok (a1 := a1) (h3.mono subH) (h5.mono subH) hy1) rfl ?_
 rintro _ _ ⟨v8, F9, rfl, rfl, h10⟩
 refine tl i65 rfl fun b11 => ts 0 m65 rfl rfl h10.o1 rfl <| nz <| sr <| tv (lb s65 0 rfl rfl rfl) rfl <| tv (ln u65 h10.ro rfl) rfl <| tk (k := kBool) u42 i4 hp ⟨rfl, rfl⟩ rfl rfl rfl rfl rfl rfl fun x12 v13 F14 h15 hp => tl i42 rfl fun b16 => ts 0 m42 rfl rfl h15.o1 rfl <| nz <| sr <| tl i32 rfl fun b17 => nz <| sr <| tl i140 rfl fun b18 => nz <| sr <| tv mF rfl <| ts 0 m140 rfl rfl w1 rfl <| nz <| TC.seq fun K4 k5 => ?_
 have J7 {x19 x23 v20 F21 v24 F25 e6} (h22 : SlO 4 kBool x19 v20 F21) (h26 : SlO 3 (kInt .i64) x23 v24 F25) (hp : graph_order.jn7 x19 x23 = some r) : ∀ w, St E H [bx b16 42 [v20], F21, bx b17 32 [v24], F25] w → K4 (ovr e6 [(5, .pointer (some ⟨b16, 0, none⟩)), (6, .pointer (some ⟨b17, 0, none⟩))]) w := by
  refine tg k5 <| sr <| tv (lb s32 2 rfl rfl rfl) rfl <| tp [3, 0, 1, 2] [_,_,_,_] rfl rfl <| bE hp fun x27 hy8 hp => tc 1 [_,_,_] rfl c75 (fun _ => slices_Reverse_ok (a1 := x23) h26 hy8) rfl ?_
  rintro _ _ ⟨F28, rfl, rfl, h29⟩
  exact nz <| TC.seq fun K10 k11 => cq mix (by kernel_rfl) <| qv (lb s32 3 rfl rfl rfl) rfl <| qv (lb s42 1 rfl rfl rfl) rfl <| qv sg rfl <| qv sg rfl <| QL.nil <| tg k11 <| TC.ret <| rt hp [0, 2] ⟨v24, F28, v20, F21, rfl, rfl, h29, h22⟩
 refine sr <| tv (lb s65 4 rfl rfl rfl) rfl <| tv (ln u65 h10.ro rfl) rfl <| tv (bgt rfl rfl) rfl <| nz <| cD rfl hp (fun hc12 hp => ?_) fun hc12 hp => ?_
 · refine TC.region <| tv (lb s140 0 rfl rfl rfl) rfl <| TL.new0 <| tp [3, 4, 2, 0, 1, 5, 6, 7] [_,_,_,_,_,_,_,_] rfl rfl <| bE hp fun x31 hy13 hp => tcv 4 [_,_,_,_] rfl c74 rfl (fun _ => graph_order_1_ok (a1 := 0) (a3 := x12) (a9 := x7) (a18 := ([] : List Int)) h15 ((bx_cells b11 65 _).mono (subB 1 rfl)) (h10.ro.mono (subB 2 rfl)) ((bx_cells b18 140 _).mono (subB 0 rfl)) (SlO.nil 3) hy13) rfl ?_
   rintro _ _ ⟨v32, F33, v35, F36, rfl, rfl, h34, h37⟩
   exact nl <| jn [0, 1, 2, 3] (J7 h34 h37 hp)
 · exact TC.skip <| W.new0 <| jn [3, 4, 2, 0] (J7 h15 (SlO.nil 3) hp)
/-! ### fettle/graph.Reached -/
abbrev graph_Reached.R (r : List Bool) (v : Value) (A : List FP) : Prop := ∃ (w1 : Value) (G1 : FP), w1 = v ∧ A = [G1] ∧ SlO 4 kBool r w1 G1
def graph_Reached (a1 : PFunc) : Option (List Bool) :=
  (graph_order a1).bind fun x7 =>
  some x7.2
theorem graph_Reached_ok {E : World} {H : FP} {w : World} {a1 : PFunc} {v2 : Value} {v4 : Value} {r : List Bool} (h3 : SlI (kInt .i64) H a1.regs v2) (h5 : SlI kBlock H a1.blocks v4) (hp : graph_Reached a1 = some r) (hst : St E H [] w) :
    Fn Tryd.prog 34 #[.agg #[.int .i64 a1.params, .int .i64 a1.result, v2, v4]] w fun v w' => ∃ A, graph_Reached.R r v A ∧ St E H A w' := by
 refine fb 11 [.tmp 2] Tryd.func34 rfl rfl rfl rfl rfl hst <| sr <| tb [.int .i64 a1.params, .int .i64 a1.result, v2, v4] rfl rfl fun b6 => ta rfl <| nz <| sr <| tv (lA (ds := [.int .i64 a1.params, .int .i64 a1.result, v2, v4]) ag_41 0 rfl rfl rfl rfl) rfl <| bE hp fun x7 hy1 hp => tc 0 [_] rfl c57 (fun _ => graph_order_ok (a1 := a1) (h3.mono subH) (h5.mono subH) hy1) rfl ?_
 rintro _ _ ⟨v8, F9, v11, F12, rfl, rfl, h10, h13⟩
 exact tm rfl <| tv (xt rfl rfl) rfl <| tv (xt rfl rfl) rfl <| ta rfl <| ta rfl <| nz <| sr <| tm rfl <| ta rfl <| nz <| TC.ret <| rt hp [1] ⟨v11, F12, rfl, rfl, h13⟩
/-! ### fettle/proper.made$1 -/
abbrev proper_made_1.R (b4 : Nat) (b10 : Nat) (r : List PMaker × List Int) (v : Value) (A : List FP) : Prop := ∃ (w1 : Value) (G1 : FP) (w2 : Value) (G2 : FP), .tuple #[] = v ∧ A = [bx b4 51 [w1], G1, bx b10 32 [w2], G2] ∧ SlO 54 kMaker r.1 w1 G1 ∧ SlO 3 (kInt .i64) r.2 w2 G2
def proper_made_1.jn12 (a1 : Int) (a11 : List Int) (x16 : List PMaker) : Option (List PMaker × List Int) :=
  (idx a11 a1).bind fun x19 =>
  (idx a11 a1).bind fun x25 =>
  some (x16, (a11.set (a1).toNat (w64 (x19 + 1))))
def proper_made_1 (a1 : Int) (a2 : Int) (a3 : Int) (a5 : List PMaker) (a11 : List Int) : Option (List PMaker × List Int) :=
  if a1 < 0 ∨ a1 ≥ (len a5) then
    some (a5, a11)
  else
    (idx a11 a1).bind fun x31 =>
    if x31 = 0 then
      (idx a5 a1).bind fun x37 =>
      proper_made_1.jn12 a1 a11 (a5.set (a1).toNat (⟨a2, a3⟩ : PMaker))
    else
      proper_made_1.jn12 a1 a11 a5
theorem proper_made_1_ok {E : World} {H : FP} {w : World} {a1 : Int} {a2 : Int} {a3 : Int} {a5 : List PMaker} {a11 : List Int} {b4 : Nat} {v6 : Value} {F7 : FP} {b10 : Nat} {v12 : Value} {F13 : FP} {r : List PMaker × List Int} (h8 : SlO 54 kMaker a5 v6 F7) (h14 : SlO 3 (kInt .i64) a11 v12 F13) (hp : proper_made_1 a1 a2 a3 a5 a11 = some r) (hst : St E H [bx b4 51 [v6], F7, bx b10 32 [v12], F13] w) :
    Fn Tryd.prog 58 #[.int .i64 a1, .int .i64 a2, .int .i64 a3, .pointer (some ⟨b4, 0, none⟩), .pointer (some ⟨b10, 0, none⟩)] w fun v w' => ∃ A, proper_made_1.R b4 b10 r v A ∧ St E H A w' := by
 refine fb 33 [] Tryd.func58 rfl rfl rfl rfl rfl hst <| TC.seq fun K1 k2 => sr <| tm rfl <| tv (blt rfl rfl) rfl <| tm rfl <| TL.cut 5 fun K3 k4 => ?_
 have J5 {e7} : ∀ w, St E H [bx b4 51 [v6], F7, bx b10 32 [v12], F13] w → K3 (ovr e7 [(15, .bool (decide (a1 < 0 ∨ a1 ≥ (len a5)))), (0, .int .i64 a1), (1, .int .i64 a2), (2, .int .i64 a3), (3, .pointer (some ⟨b4, 0, none⟩)), (4, .pointer (some ⟨b10, 0, none⟩))]) w := by
  refine tlg k4 <| nz <| cD rfl hp (fun hc8 hp => ?_) fun hc8 hp => ?_
  · exact TC.ret <| rt hp [0, 1, 2, 3] ⟨v6, F7, v12, F13, rfl, rfl, h8, h14⟩
  · refine sk k2 rfl <| TC.seq fun K9 k10 => ?_
    have J12 {x16 F17 e11} (h18 : SlO 54 kMaker x16 v6 F17) (hp : proper_made_1.jn12 a1 a11 x16 = some r) : ∀ w, St E H [bx b4 51 [v6], F17, bx b10 32 [v12], F13] w → K9 (ovr e11 [(0, .int .i64 a1), (4, .pointer (some ⟨b10, 0, none⟩))]) w := by
     refine tg k10 <| TC.region <| tv (lb s32 2 rfl rfl rfl) rfl <| tm rfl <| ti u32 i3 (h14).ro hp rfl rfl rfl rfl ?_
     rintro x19 b20 o21 _ hp rfl h24
     exact tv (lr s3 (Src.at_ 3 rfl) h24 0 rfl rfl) rfl <| tv (bad rfl rfl) rfl <| tO u32 i3 h14 hp rfl rfl rfl rfl fun x25 b26 o27 h28 hp => tp [3, 0, 1, 2] [_,_,_,_] rfl rfl <| tE h14 h28 m3 rfl ⟨rfl, rfl⟩ w1 fun F29 h30 => nl <| rt hp [1, 2, 3, 0] ⟨v6, F17, v12, F29, rfl, rfl, h18, h30⟩
    refine sr <| tv (lb s32 2 rfl rfl rfl) rfl <| tm rfl <| ti u32 i3 (h14).ro hp rfl rfl rfl rfl ?_
    rintro x31 b32 o33 _ hp rfl h36
    refine tv (lr s3 (Src.at_ 3 rfl) h36 0 rfl rfl) rfl <| tv (beq rfl rfl) rfl <| nz <| cD rfl hp (fun hc16 hp => ?_) fun hc16 hp => ?_
    · exact TC.region <| tv (lb s51 0 rfl rfl rfl) rfl <| tm rfl <| tm rfl <| tm rfl <| tv (rv_bv (vs := [(0, .int .i64 a2), (1, .int .i64 a3)]) (ds := [.int .i64 a2, .int .i64 a3]) rfl (fun w => by kernel_rfl)) rfl <| tO u51 i54 h8 hp rfl rfl rfl rfl fun x37 b38 o39 h40 hp => tp [1, 0, 2, 3] [_,_,_,_] rfl rfl <| TL.stE0 (ds := [.int .i64 a2, .int .i64 a3]) (u := .agg #[.int .i64 a2, .int .i64 a3]) (a := (⟨a2, a3⟩ : PMaker)) h8 h40 m54 rfl rfl rfl ⟨rfl, rfl⟩ fun F41 h42 => nl <| jn [1, 0, 2, 3] (J12 h42 hp)
    · exact TC.skip <| jn [0, 1, 2, 3] (J12 h8 hp)
 by_cases hc6 : a1 < 0
 · exact gn rfl (bT hc6) rfl rfl <| gn rfl (bT hc6) rfl rfl <| gn rfl (bT hc6) rfl rfl <| gn rfl (bT hc6) rfl rfl <| tv (pT (bT hc6)) rfl <| nj J5 (bOt hc6)
 · exact gy rfl (bF hc6) <| tm rfl <| gy rfl (bF hc6) <| tv (lb s51 0 rfl rfl rfl) rfl <| gy rfl (bF hc6) <| tv (ln u51 h8.ro rfl) rfl <| gy rfl (bF hc6) <| tv (bge rfl rfl) rfl <| tv (pF (bF hc6)) rfl <| nj J5 (bOf hc6)
/-! ### fettle/proper.made -/
abbrev proper_made.R (r : List PMaker × List Int) (v : Value) (A : List FP) : Prop := ∃ (w1 : Value) (G1 : FP) (w2 : Value) (G2 : FP), .tuple #[w1, w2] = v ∧ A = [G1, G2] ∧ SlO 54 kMaker r.1 w1 G1 ∧ SlO 3 (kInt .i64) r.2 w2 G2
def proper_made.nx21  (x33 : List PMaker) (x37 : List Int) : Option (List PMaker × List Int) :=
  some (x33, x37)
def proper_made.nx47 (x32 : Int) (x80 : List PMaker) (x84 : List Int) : Option (Ex (List PMaker × List Int) (List PMaker × List Int × Int)) :=
  some (.go (x80, x84, (w64 (x32 + 1))))
def proper_made.bd47 (x32 : Int) (x41 : PBlock) (x71 : List PMaker) (x75 : List Int) (x79 : Int) : Option (Ex (List PMaker × List Int) (List PMaker × List Int × Int)) :=
  if x79 < (len x41.ins) then
    (idx x41.ins x79).bind fun x88 =>
    (proper_made_1 x88.dst x32 x79 x71 x75).bind fun x97 =>
    some (.go (x97.1, x97.2, (w64 (x79 + 1))))
  else
    some (.ret (x71, x75))
def proper_made.nx40 (x32 : Int) (x41 : PBlock) (x63 : List PMaker) (x67 : List Int) : Option (Ex (List PMaker × List Int) (List PMaker × List Int × Int)) :=
  (whl (fun (s : (List PMaker × List Int × Int)) => proper_made.bd47 x32 x41 s.1 s.2.1 s.2.2) FUEL (x63, x67, 0)).bind fun z =>
  proper_made.nx47 x32 z.1 z.2
def proper_made.bd40 (x32 : Int) (x41 : PBlock) (x54 : List PMaker) (x58 : List Int) (x62 : Int) : Option (Ex (List PMaker × List Int) (List PMaker × List Int × Int)) :=
  if x62 < (len x41.phis) then
    (idx x41.phis x62).bind fun x104 =>
    (proper_made_1 x104.dst x32 (-1) x54 x58).bind fun x113 =>
    some (.go (x113.1, x113.2, (w64 (x62 + 1))))
  else
    some (.ret (x54, x58))
def proper_made.bd21 (a1 : PFunc) (x24 : List PMaker) (x28 : List Int) (x32 : Int) : Option (Ex (List PMaker × List Int) (List PMaker × List Int × Int)) :=
  if x32 < (len a1.blocks) then
    (idx a1.blocks x32).bind fun x41 =>
    (whl (fun (s : (List PMaker × List Int × Int)) => proper_made.bd40 x32 x41 s.1 s.2.1 s.2.2) FUEL (x24, x28, 0)).bind fun z =>
    proper_made.nx40 x32 x41 z.1 z.2
  else
    some (.ret (x24, x28))
def proper_made.nx12 (a1 : PFunc) (x13 : List Int) (x21 : List PMaker) : Option (List PMaker × List Int) :=
  (whl (fun (s : (List PMaker × List Int × Int)) => proper_made.bd21 a1 s.1 s.2.1 s.2.2) FUEL (x21, x13, 0)).bind fun z =>
  proper_made.nx21 z.1 z.2
def proper_made.bd12 (x8 : List PMaker) (x17 : List PMaker) (x20 : Int) : Option (Ex (List PMaker) (List PMaker × Int)) :=
  if x20 < (len x8) then
    (idx x17 x20).bind fun x120 =>
    some (.go ((x17.set (x20).toNat (⟨-1, -2⟩ : PMaker)), (w64 (x20 + 1))))
  else
    some (.ret x17)
def proper_made.jn4 (a1 : PFunc) (x8 : List PMaker) (x13 : List Int) : Option (List PMaker × List Int) :=
  (whl (fun (s : (List PMaker × Int)) => proper_made.bd12 x8 s.1 s.2) FUEL (x8, 0)).bind fun z =>
  proper_made.nx12 a1 x13 z
def proper_made (a1 : PFunc) : Option (List PMaker × List Int) :=
  (mkl (len a1.regs) PMaker.zero).bind fun x1327 =>
  (mkl (len a1.regs) (0 : Int)).bind fun x2927 =>
  proper_made.jn4 a1 x1327 x2927
set_option maxHeartbeats 4000000 in
theorem proper_made_ok {E : World} {H : FP} {w : World} {a1 : PFunc} {v2 : Value} {v4 : Value} {r : List PMaker × List Int} (h3 : SlI (kInt .i64) H a1.regs v2) (h5 : SlI kBlock H a1.blocks v4) (hp : proper_made a1 = some r) (hst : St E H [] w) :
    Fn Tryd.prog 35 #[.agg #[.int .i64 a1.params, .int .i64 a1.result, v2, v4]] w fun v w' => ∃ A, proper_made.R r v A ∧ St E H A w' := by
 refine fb 72 [.tmp 2, .tmp 3] Tryd.func35 rfl rfl rfl rfl rfl hst <| sr <| tb [.int .i64 a1.params, .int .i64 a1.result, v2, v4] rfl rfl fun b6 => ta rfl <| ta rfl <| nz <| TC.seq fun K1 k2 => ?_
 have J4 {x8 x13 b7 v9 F10 b12 v14 F15 e3} (h11 : SlO 54 kMaker x8 v9 F10) (h16 : SlO 3 (kInt .i64) x13 v14 F15) (hp : proper_made.jn4 a1 x8 x13 = some r) : ∀ w, St E H [bx b6 41 [.int .i64 a1.params, .int .i64 a1.result, v2, v4], bx b7 51 [v9], F10, bx b12 32 [v14], F15] w → K1 (ovr e3 [(1, .pointer (some ⟨b6, 0, none⟩)), (4, .pointer (some ⟨b7, 0, none⟩)), (5, .pointer (some ⟨b12, 0, none⟩))]) w := by
  refine tg k2 <| TC.seq fun K5 k6 => sr <| tv (lb s51 1 rfl rfl rfl) rfl <| tv (ln u51 h11.ro rfl) rfl <| tm rfl <| nz <| TC.block <| bE hp fun z_8 hz9 hr10 => ?_
  have J75 {x21 F22 e13} (h23 : SlO 54 kMaker x21 v9 F22) (hq76 : x21 = z_8) : ∀ w, St E H [bx b6 41 [.int .i64 a1.params, .int .i64 a1.result, v2, v4], bx b7 51 [v9], F22, bx b12 32 [v14], F15] w → K5 (ovr e13 [(1, .pointer (some ⟨b6, 0, none⟩)), (4, .pointer (some ⟨b7, 0, none⟩)), (5, .pointer (some ⟨b12, 0, none⟩))]) w := by
   subst hq76
   replace hp : proper_made.nx12 a1 x13 x21 = some r := hr10
   refine tg k6 <| sr <| tv mF rfl <| ta rfl <| nz <| TC.seq fun K14 k15 => sr <| tv (fa f41_3 rfl) rfl <| tv (lb s39 0 rfl rfl rfl) rfl <| tv (ln u39 h5 rfl) rfl <| tm rfl <| nz <| TC.block <| bE hp fun z_17 hz18 hr19 => ?_
   have J25 {x33 x37 v34 F35 v38 F39 e22} (h36 : SlO 54 kMaker x33 v34 F35) (h40 : SlO 3 (kInt .i64) x37 v38 F39) (hq26 : (x33, x37) = z_17) : ∀ w, St E H [bx b7 51 [v34], F35, bx b12 32 [v38], F39] w → K14 (ovr e22 [(4, .pointer (some ⟨b7, 0, none⟩)), (5, .pointer (some ⟨b12, 0, none⟩))]) w := by
    subst hq26
    replace hp : proper_made.nx21 x33 x37 = some r := hr19
    exact tg k15 <| TC.seq fun K23 k24 => cq mix (by kernel_rfl) <| qv (lb s51 0 rfl rfl rfl) rfl <| qv (lb s32 2 rfl rfl rfl) rfl <| qv sg rfl <| qv sg rfl <| QL.nil <| tg k24 <| TC.ret <| rt hp [1, 3] ⟨v34, F35, v38, F39, rfl, rfl, h36, h40⟩
   refine lp hz18 [1, 2, 3, 4] rfl (fun s e L => ∃ x24 x28 x32 v25 F26 v29 F30 e16, s = (x24, x28, x32) ∧ SlO 54 kMaker x24 v25 F26 ∧ SlO 3 (kInt .i64) x28 v29 F30 ∧ e = ovr e16 [(4, .pointer (some ⟨b7, 0, none⟩)), (5, .pointer (some ⟨b12, 0, none⟩)), (7, .func (.func 58) #[] #[.pointer (some ⟨b7, 0, none⟩), .pointer (some ⟨b12, 0, none⟩)]), (34, v4), (35, .int .i64 (len a1.blocks)), (36, .int .i64 x32)] ∧ L = [bx b7 51 [v25], F26, bx b12 32 [v29], F30]) ⟨_, _, _, v9, F22, v14, F15, _, rfl, h23, h16, ovr_eq _ _ rfl, rfl⟩ ?_
   rintro _ _ _ ⟨x24, x28, x32, v25, F26, v29, F30, e16, rfl, h27, h31, rfl, rfl⟩ X20 hp hx21
   replace hp : proper_made.bd21 a1 x24 x28 x32 = some X20 := hp
   refine sr <| tv (blt rfl rfl) rfl <| nz <| TC.seq fun K27 k28 => cD rfl hp (fun hc29 hp => ?_) fun hc29 hp => ?_
   · refine sk k28 rfl <| TC.seq fun K30 k31 => TC.block <| sr <| tm rfl <| ti u39 i60 h5 hp rfl rfl rfl rfl ?_
     rintro x41 b42 o43 _ hp ⟨v47, v49, v51, rfl, h48, h50, h52⟩ h46
     refine tv (lR (ds := [v47, v49, .int .i64 x41.term.kind, .int .i64 x41.term.arg, v51]) ag_60 sH h46 0 rfl rfl rfl) rfl <| tl i60 rfl fun b53 => ta rfl <| tS 0 m60 rfl rfl [v47, v49, .int .i64 x41.term.kind, .int .i64 x41.term.arg, v51] rfl (oc (h48).one (oc (h50).one (oc rfl (oc rfl (oc (h52).one oc0))))) rfl rfl <| nz <| TC.seq fun K33 k34 => sr <| tv (fa f60_0 rfl) rfl <| tv (lb s57 0 rfl rfl rfl) rfl <| tv (ln u57 h48 rfl) rfl <| tm rfl <| nz <| TC.block <| bE hp fun z_36 hz37 hr38 => ?_
     have J61 {x63 x67 v64 F65 v68 F69 e41} (h66 : SlO 54 kMaker x63 v64 F65) (h70 : SlO 3 (kInt .i64) x67 v68 F69) (hq62 : (x63, x67) = z_36) : ∀ w, St E H [bx b7 51 [v64], F65, bx b12 32 [v68], F69, bx b53 60 [v47, v49, .int .i64 x41.term.kind, .int .i64 x41.term.arg, v51]] w → K33 (ovr e41 [(4, .pointer (some ⟨b7, 0, none⟩)), (5, .pointer (some ⟨b12, 0, none⟩)), (7, .func (.func 58) #[] #[.pointer (some ⟨b7, 0, none⟩), .pointer (some ⟨b12, 0, none⟩)]), (8, .int .i64 x32), (9, .pointer (some ⟨b53, 0, none⟩)), (34, v4), (35, .int .i64 (len a1.blocks)), (36, .int .i64 x32)]) w := by
      subst hq62
      replace hp : proper_made.nx40 x32 x41 x63 x67 = some X20 := hr38
      refine tg k34 <| sr <| tv (fa f60_1 rfl) rfl <| tv (lb s58 4 rfl rfl rfl) rfl <| tv (ln u58 h50 rfl) rfl <| tm rfl <| nz <| TC.block <| bE hp fun z_43 hz44 hr45 => ?_
      have J49 {x80 x84 v81 F82 v85 F86 e48} (h83 : SlO 54 kMaker x80 v81 F82) (h87 : SlO 3 (kInt .i64) x84 v85 F86) (hq50 : (x80, x84) = z_43) : ∀ w, St E H [bx b7 51 [v81], F82, bx b12 32 [v85], F86] w → K30 (ovr e48 [(4, .pointer (some ⟨b7, 0, none⟩)), (5, .pointer (some ⟨b12, 0, none⟩)), (7, .func (.func 58) #[] #[.pointer (some ⟨b7, 0, none⟩), .pointer (some ⟨b12, 0, none⟩)]), (34, v4), (35, .int .i64 (len a1.blocks)), (36, .int .i64 x32)]) w := by
       subst hq50
       replace hp : proper_made.nx47 x32 x80 x84 = some X20 := hr45
       exact tg k31 <| TC.region <| tv (bad rfl rfl) rfl <| tm rfl <| nl <| gk hp [0, 1, 2, 3] ⟨_, _, _, v81, F82, v85, F86, _, rfl, h83, h87, ovr_eq _ _ rfl, rfl⟩
      refine lp hz44 [0, 1, 2, 3] rfl (fun s e L => ∃ x71 x75 x79 v72 F73 v76 F77 e42, s = (x71, x75, x79) ∧ SlO 54 kMaker x71 v72 F73 ∧ SlO 3 (kInt .i64) x75 v76 F77 ∧ e = ovr e42 [(4, .pointer (some ⟨b7, 0, none⟩)), (5, .pointer (some ⟨b12, 0, none⟩)), (7, .func (.func 58) #[] #[.pointer (some ⟨b7, 0, none⟩), .pointer (some ⟨b12, 0, none⟩)]), (8, .int .i64 x32), (34, v4), (35, .int .i64 (len a1.blocks)), (36, .int .i64 x32), (55, v49), (56, .int .i64 (len x41.ins)), (57, .int .i64 x79)] ∧ L = [bx b7 51 [v72], F73, bx b12 32 [v76], F77]) ⟨_, _, _, v64, F65, v68, F69, _, rfl, h66, h70, ovr_eq _ _ rfl, rfl⟩ ?_
      rintro _ _ _ ⟨x71, x75, x79, v72, F73, v76, F77, e42, rfl, h74, h78, rfl, rfl⟩ X46 hp hx47
      replace hp : proper_made.bd47 x32 x41 x71 x75 x79 = some X46 := hp
      refine sr <| tv (blt rfl rfl) rfl <| nz <| TC.seq fun K51 k52 => cD rfl hp (fun hc53 hp => ?_) fun hc53 hp => ?_
      · refine sk k52 rfl <| TC.seq fun K54 k55 => TC.block <| sr <| tm rfl <| ti u58 i62 h50 hp rfl rfl rfl rfl ?_
        rintro x88 b89 o90 _ hp ⟨v94, rfl, h95⟩ h93
        refine tv (lR (ds := [.int .i64 x88.op, .int .i64 x88.dst, v94, .int .i64 x88.imm, .int .i64 x88.fn]) ag_62 sH h93 0 rfl rfl rfl) rfl <| tl i62 rfl fun b96 => ta rfl <| tS 0 m62 rfl rfl [.int .i64 x88.op, .int .i64 x88.dst, v94, .int .i64 x88.imm, .int .i64 x88.fn] rfl (oc rfl (oc rfl (oc (h95).one (oc rfl (oc rfl oc0))))) rfl rfl <| nz <| TC.region <| tm rfl <| tv (fa f62_1 rfl) rfl <| tv (lb s3 0 rfl rfl rfl) rfl <| tm rfl <| tm rfl <| tp [1, 2, 3, 4, 0] [_,_,_,_,_] rfl rfl <| bE hp fun x97 hy57 hp => tcv 4 [_] rfl c58 rfl (fun _ => proper_made_1_ok (a1 := x88.dst) (a2 := x32) (a3 := x79) (a5 := x71) (a11 := x75) h74 h78 hy57) rfl ?_
        rintro _ _ ⟨v98, F99, v101, F102, rfl, rfl, h100, h103⟩
        exact nl <| tg k55 <| TC.region <| tv (bad rfl rfl) rfl <| tm rfl <| nl <| gk hp [0, 1, 2, 3] ⟨_, _, _, v98, F99, v101, F102, _, rfl, h100, h103, ovr_eq _ _ rfl, rfl⟩
      · exact TC.exit <| jn [0, 1, 2, 3] (J49 h74 h78 (ex_ret hp hx47))
     refine lp hz37 [1, 2, 3, 4, 0] rfl (fun s e L => ∃ x54 x58 x62 v55 F56 v59 F60 e35, s = (x54, x58, x62) ∧ SlO 54 kMaker x54 v55 F56 ∧ SlO 3 (kInt .i64) x58 v59 F60 ∧ e = ovr e35 [(4, .pointer (some ⟨b7, 0, none⟩)), (5, .pointer (some ⟨b12, 0, none⟩)), (7, .func (.func 58) #[] #[.pointer (some ⟨b7, 0, none⟩), .pointer (some ⟨b12, 0, none⟩)]), (8, .int .i64 x32), (9, .pointer (some ⟨b53, 0, none⟩)), (34, v4), (35, .int .i64 (len a1.blocks)), (36, .int .i64 x32), (42, v47), (43, .int .i64 (len x41.phis)), (44, .int .i64 x62)] ∧ L = [bx b7 51 [v55], F56, bx b12 32 [v59], F60, bx b53 60 [v47, v49, .int .i64 x41.term.kind, .int .i64 x41.term.arg, v51]]) ⟨_, _, _, v25, F26, v29, F30, _, rfl, h27, h31, ovr_eq _ _ rfl, rfl⟩ ?_
     rintro _ _ _ ⟨x54, x58, x62, v55, F56, v59, F60, e35, rfl, h57, h61, rfl, rfl⟩ X39 hp hx40
     replace hp : proper_made.bd40 x32 x41 x54 x58 x62 = some X39 := hp
     refine sr <| tv (blt rfl rfl) rfl <| nz <| TC.seq fun K63 k64 => cD rfl hp (fun hc65 hp => ?_) fun hc65 hp => ?_
     · refine sk k64 rfl <| TC.seq fun K66 k67 => TC.block <| sr <| ti u57 i64 h48 hp rfl rfl rfl rfl ?_
       rintro x104 b105 o106 _ hp ⟨v110, rfl, h111⟩ h109
       refine tv (lR (ds := [.int .i64 x104.dst, v110]) ag_64 sH h109 0 rfl rfl rfl) rfl <| tl i64 rfl fun b112 => tS 0 m64 rfl rfl [.int .i64 x104.dst, v110] rfl (oc rfl (oc (h111).one oc0)) rfl rfl <| nz <| TC.region <| tm rfl <| tv (fa f64_0 rfl) rfl <| tv (lb s3 0 rfl rfl rfl) rfl <| tm rfl <| tp [1, 2, 3, 4, 0, 5] [_,_,_,_,_,_] rfl rfl <| bE hp fun x113 hy69 hp => tcv 4 [_,_] rfl c58 rfl (fun _ => proper_made_1_ok (a1 := x104.dst) (a2 := x32) (a3 := -1) (a5 := x54) (a11 := x58) h57 h61 hy69) rfl ?_
       rintro _ _ ⟨v114, F115, v117, F118, rfl, rfl, h116, h119⟩
       exact nl <| tg k67 <| TC.region <| tv (bad rfl rfl) rfl <| tm rfl <| nl <| gk hp [0, 1, 2, 3, 5] ⟨_, _, _, v114, F115, v117, F118, _, rfl, h116, h119, ovr_eq _ _ rfl, rfl⟩
     · exact TC.exit <| jn [0, 1, 2, 3, 4] (J61 h57 h61 (ex_ret hp hx40))
   · exact TC.exit <| jn [0, 1, 2, 3] (J25 h27 h31 (ex_ret hp hx21))
  refine lp hz9 [0, 1, 2, 3, 4] rfl (fun s e L => ∃ x17 x20 F18 e7, s = (x17, x20) ∧ SlO 54 kMaker x17 v9 F18 ∧ e = ovr e7 [(1, .pointer (some ⟨b6, 0, none⟩)), (4, .pointer (some ⟨b7, 0, none⟩)), (5, .pointer (some ⟨b12, 0, none⟩)), (23, .int .i64 (len x8)), (24, .int .i64 x20)] ∧ L = [bx b6 41 [.int .i64 a1.params, .int .i64 a1.result, v2, v4], bx b7 51 [v9], F18, bx b12 32 [v14], F15]) ⟨_, _, F10, _, rfl, h11, ovr_eq _ _ rfl, rfl⟩ ?_
  rintro _ _ _ ⟨x17, x20, F18, e7, rfl, h19, rfl, rfl⟩ X11 hp hx12
  replace hp : proper_made.bd12 x8 x17 x20 = some X11 := hp
  refine sr <| tv (blt rfl rfl) rfl <| nz <| TC.seq fun K77 k78 => cD rfl hp (fun hc79 hp => ?_) fun hc79 hp => ?_
  · exact sk k78 rfl <| TC.seq fun K80 k81 => TC.block <| sr <| tm rfl <| ta rfl <| nz <| TC.region <| tv (lb s51 1 rfl rfl rfl) rfl <| tm rfl <| tv (rv_bv (vs := [(0, .int .i64 (-1)), (1, .int .i64 (-2))]) (ds := [.int .i64 (-1), .int .i64 (-2)]) rfl (fun w => by kernel_rfl)) rfl <| tO u51 i54 h19 hp rfl rfl rfl rfl fun x120 b121 o122 h123 hp => tp [2, 0, 1, 3, 4] [_,_,_,_,_] rfl rfl <| TL.stE0 (ds := [.int .i64 (-1), .int .i64 (-2)]) (u := .agg #[.int .i64 (-1), .int .i64 (-2)]) (a := (⟨-1, -2⟩ : PMaker)) h19 h123 m54 rfl rfl rfl ⟨rfl, rfl⟩ fun F124 h125 => nl <| tg k81 <| TC.region <| tv (bad rfl rfl) rfl <| tm rfl <| nl <| gk hp [1, 2, 0, 3, 4] ⟨_, _, F124, _, rfl, h125, ovr_eq _ _ rfl, rfl⟩
  · exact TC.exit <| jn [0, 1, 2, 3, 4] (J75 h19 (ex_ret hp hx12))
 refine bE hp fun x1327 hY1_3 hp => bE hp fun x2927 hY1_7 hp => ch mix [bx b6 41 [.int .i64 a1.params, .int .i64 a1.result, v2, v4]] (srcG 0 rfl srcG0) <| hv 0 rfl (fa f41_2 rfl) (by kernel_rfl) rfl <| hv 1 rfl (lbG s32 0 rfl rfl rfl) (by kernel_rfl) rfl <| hv 2 rfl (ln u32 h3 rfl) (by kernel_rfl) rfl <| hv 4 rfl (fa f41_2 rfl) (by kernel_rfl) rfl <| hv 5 rfl (lbG s32 0 rfl rfl rfl) (by kernel_rfl) rfl <| hv 6 rfl (ln u32 h3 rfl) (by kernel_rfl) rfl <| HL.all [3, 7, 8, 9] (by kernel_rfl) (by simp) (HL.al ⟨_, rfl, fun K85 k86 => ?_⟩ (HL.al ⟨_, rfl, fun K161 k162 => ?_⟩ (HL.al ⟨_, rfl, fun K223 k224 => ?_⟩ (HL.al ⟨_, rfl, fun K303 k304 => ?_⟩ HL.al0))))
 · refine tk0 (k := kMaker) u51 i54 hY1_3 ⟨rfl, rfl⟩ rfl rfl rfl rfl rfl rfl fun v1328 F1329 h1330 => hk k86 (srcG 1 rfl srcG0) <| HL.all [7, 8, 9] (by kernel_rfl) (by simp) (HL.al ⟨_, rfl, fun K88 k89 => ?_⟩ (HL.al ⟨_, rfl, fun K107 k108 => ?_⟩ (HL.al ⟨_, rfl, fun K134 k135 => ?_⟩ HL.al0)))
   · refine tk0 (k := (kInt .i64)) u32 i3 hY1_7 ⟨rfl, rfl⟩ rfl rfl rfl rfl rfl rfl fun v2928 F2929 h2930 => hk k89 (srcG 2 rfl srcG0) <| HL.all [8, 9] (by kernel_rfl) (by simp) (HL.al ⟨_, rfl, fun K91 k92 => ?_⟩ (HL.al ⟨_, rfl, fun K99 k100 => ?_⟩ HL.al0))
     · exact tl i51 rfl fun b3327 => hk k92 (srcG 3 rfl srcG0) <| ho 9 rfl (by kernel_rfl) fun K93 k94 => tl i32 rfl fun b3727 => hk k94 (srcG 4 rfl srcG0) <| ho 10 rfl (by kernel_rfl) fun K95 k96 => ts 1 m51 rfl rfl h1330.o1 rfl <| hk k96 (srcG 4 rfl srcG0) <| ho 11 rfl (by kernel_rfl) fun K97 k98 => ts 0 m32 rfl rfl h2930.o1 rfl <| hk k98 (srcG 4 rfl srcG0) <| hz (by kernel_rfl) <| jn [4, 1, 3, 0, 2] (J4 h1330 h2930 hp)
     · exact tl i32 rfl fun b3727 => hk k100 (srcG 3 rfl srcG0) <| ho 8 rfl (by kernel_rfl) fun K101 k102 => tl i51 rfl fun b3327 => hk k102 (srcG 4 rfl srcG0) <| ho 10 rfl (by kernel_rfl) fun K103 k104 => ts 0 m51 rfl rfl h1330.o1 rfl <| hk k104 (srcG 4 rfl srcG0) <| ho 11 rfl (by kernel_rfl) fun K105 k106 => ts 1 m32 rfl rfl h2930.o1 rfl <| hk k106 (srcG 4 rfl srcG0) <| hz (by kernel_rfl) <| jn [4, 0, 3, 1, 2] (J4 h1330 h2930 hp)
   · refine tl i51 rfl fun b3327 => hk k108 (srcG 2 rfl srcG0) <| HL.all [7, 9] (by kernel_rfl) (by simp) (HL.al ⟨_, rfl, fun K109 k110 => ?_⟩ (HL.al ⟨_, rfl, fun K118 k119 => ?_⟩ HL.al0))
     · exact tk0 (k := (kInt .i64)) u32 i3 hY1_7 ⟨rfl, rfl⟩ rfl rfl rfl rfl rfl rfl fun v2928 F2929 h2930 => hk k110 (srcG 3 rfl srcG0) <| ho 9 rfl (by kernel_rfl) fun K112 k113 => tl i32 rfl fun b3727 => hk k113 (srcG 4 rfl srcG0) <| ho 10 rfl (by kernel_rfl) fun K114 k115 => ts 2 m51 rfl rfl h1330.o1 rfl <| hk k115 (srcG 4 rfl srcG0) <| ho 11 rfl (by kernel_rfl) fun K116 k117 => ts 0 m32 rfl rfl h2930.o1 rfl <| hk k117 (srcG 4 rfl srcG0) <| hz (by kernel_rfl) <| jn [4, 2, 3, 0, 1] (J4 h1330 h2930 hp)
     · refine tl i32 rfl fun b3727 => hk k119 (srcG 3 rfl srcG0) <| HL.all [7, 10] (by kernel_rfl) (by simp) (HL.al ⟨_, rfl, fun K120 k121 => ?_⟩ (HL.al ⟨_, rfl, fun K127 k128 => ?_⟩ HL.al0))
       · exact tk0 (k := (kInt .i64)) u32 i3 hY1_7 ⟨rfl, rfl⟩ rfl rfl rfl rfl rfl rfl fun v2928 F2929 h2930 => hk k121 (srcG 4 rfl srcG0) <| ho 10 rfl (by kernel_rfl) fun K123 k124 => ts 2 m51 rfl rfl h1330.o1 rfl <| hk k124 (srcG 4 rfl srcG0) <| ho 11 rfl (by kernel_rfl) fun K125 k126 => ts 1 m32 rfl rfl h2930.o1 rfl <| hk k126 (srcG 4 rfl srcG0) <| hz (by kernel_rfl) <| jn [4, 2, 3, 1, 0] (J4 h1330 h2930 hp)
       · exact ts 1 m51 rfl rfl h1330.o1 rfl <| hk k128 (srcG 3 rfl srcG0) <| ho 7 rfl (by kernel_rfl) fun K129 k130 => tk0 (k := (kInt .i64)) u32 i3 hY1_7 ⟨rfl, rfl⟩ rfl rfl rfl rfl rfl rfl fun v2928 F2929 h2930 => hk k130 (srcG 4 rfl srcG0) <| ho 11 rfl (by kernel_rfl) fun K132 k133 => ts 1 m32 rfl rfl h2930.o1 rfl <| hk k133 (srcG 4 rfl srcG0) <| hz (by kernel_rfl) <| jn [4, 2, 3, 1, 0] (J4 h1330 h2930 hp)
   · refine tl i32 rfl fun b3727 => hk k135 (srcG 2 rfl srcG0) <| HL.all [7, 8] (by kernel_rfl) (by simp) (HL.al ⟨_, rfl, fun K136 k137 => ?_⟩ (HL.al ⟨_, rfl, fun K145 k146 => ?_⟩ HL.al0))
     · exact tk0 (k := (kInt .i64)) u32 i3 hY1_7 ⟨rfl, rfl⟩ rfl rfl rfl rfl rfl rfl fun v2928 F2929 h2930 => hk k137 (srcG 3 rfl srcG0) <| ho 8 rfl (by kernel_rfl) fun K139 k140 => tl i51 rfl fun b3327 => hk k140 (srcG 4 rfl srcG0) <| ho 10 rfl (by kernel_rfl) fun K141 k142 => ts 0 m51 rfl rfl h1330.o1 rfl <| hk k142 (srcG 4 rfl srcG0) <| ho 11 rfl (by kernel_rfl) fun K143 k144 => ts 2 m32 rfl rfl h2930.o1 rfl <| hk k144 (srcG 4 rfl srcG0) <| hz (by kernel_rfl) <| jn [4, 0, 3, 2, 1] (J4 h1330 h2930 hp)
     · refine tl i51 rfl fun b3327 => hk k146 (srcG 3 rfl srcG0) <| HL.all [7, 10] (by kernel_rfl) (by simp) (HL.al ⟨_, rfl, fun K147 k148 => ?_⟩ (HL.al ⟨_, rfl, fun K154 k155 => ?_⟩ HL.al0))
       · exact tk0 (k := (kInt .i64)) u32 i3 hY1_7 ⟨rfl, rfl⟩ rfl rfl rfl rfl rfl rfl fun v2928 F2929 h2930 => hk k148 (srcG 4 rfl srcG0) <| ho 10 rfl (by kernel_rfl) fun K150 k151 => ts 1 m51 rfl rfl h1330.o1 rfl <| hk k151 (srcG 4 rfl srcG0) <| ho 11 rfl (by kernel_rfl) fun K152 k153 => ts 2 m32 rfl rfl h2930.o1 rfl <| hk k153 (srcG 4 rfl srcG0) <| hz (by kernel_rfl) <| jn [4, 1, 3, 2, 0] (J4 h1330 h2930 hp)
       · exact ts 0 m51 rfl rfl h1330.o1 rfl <| hk k155 (srcG 3 rfl srcG0) <| ho 7 rfl (by kernel_rfl) fun K156 k157 => tk0 (k := (kInt .i64)) u32 i3 hY1_7 ⟨rfl, rfl⟩ rfl rfl rfl rfl rfl rfl fun v2928 F2929 h2930 => hk k157 (srcG 4 rfl srcG0) <| ho 11 rfl (by kernel_rfl) fun K159 k160 => ts 2 m32 rfl rfl h2930.o1 rfl <| hk k160 (srcG 4 rfl srcG0) <| hz (by kernel_rfl) <| jn [4, 1, 3, 2, 0] (J4 h1330 h2930 hp)
 · refine tk0 (k := (kInt .i64)) u32 i3 hY1_7 ⟨rfl, rfl⟩ rfl rfl rfl rfl rfl rfl fun v2928 F2929 h2930 => hk k162 (srcG 1 rfl srcG0) <| HL.all [3, 8, 9] (by kernel_rfl) (by simp) (HL.al ⟨_, rfl, fun K164 k165 => ?_⟩ (HL.al ⟨_, rfl, fun K183 k184 => ?_⟩ (HL.al ⟨_, rfl, fun K203 k204 => ?_⟩ HL.al0)))
   · refine tk0 (k := kMaker) u51 i54 hY1_3 ⟨rfl, rfl⟩ rfl rfl rfl rfl rfl rfl fun v1328 F1329 h1330 => hk k165 (srcG 2 rfl srcG0) <| HL.all [8, 9] (by kernel_rfl) (by simp) (HL.al ⟨_, rfl, fun K167 k168 => ?_⟩ (HL.al ⟨_, rfl, fun K175 k176 => ?_⟩ HL.al0))
     · exact tl i51 rfl fun b3327 => hk k168 (srcG 3 rfl srcG0) <| ho 9 rfl (by kernel_rfl) fun K169 k170 => tl i32 rfl fun b3727 => hk k170 (srcG 4 rfl srcG0) <| ho 10 rfl (by kernel_rfl) fun K171 k172 => ts 1 m51 rfl rfl h1330.o1 rfl <| hk k172 (srcG 4 rfl srcG0) <| ho 11 rfl (by kernel_rfl) fun K173 k174 => ts 0 m32 rfl rfl h2930.o1 rfl <| hk k174 (srcG 4 rfl srcG0) <| hz (by kernel_rfl) <| jn [4, 1, 2, 0, 3] (J4 h1330 h2930 hp)
     · exact tl i32 rfl fun b3727 => hk k176 (srcG 3 rfl srcG0) <| ho 8 rfl (by kernel_rfl) fun K177 k178 => tl i51 rfl fun b3327 => hk k178 (srcG 4 rfl srcG0) <| ho 10 rfl (by kernel_rfl) fun K179 k180 => ts 0 m51 rfl rfl h1330.o1 rfl <| hk k180 (srcG 4 rfl srcG0) <| ho 11 rfl (by kernel_rfl) fun K181 k182 => ts 1 m32 rfl rfl h2930.o1 rfl <| hk k182 (srcG 4 rfl srcG0) <| hz (by kernel_rfl) <| jn [4, 0, 2, 1, 3] (J4 h1330 h2930 hp)
   · refine tl i51 rfl fun b3327 => hk k184 (srcG 2 rfl srcG0) <| HL.all [3, 9] (by kernel_rfl) (by simp) (HL.al ⟨_, rfl, fun K185 k186 => ?_⟩ (HL.al ⟨_, rfl, fun K194 k195 => ?_⟩ HL.al0))
     · exact tk0 (k := kMaker) u51 i54 hY1_3 ⟨rfl, rfl⟩ rfl rfl rfl rfl rfl rfl fun v1328 F1329 h1330 => hk k186 (srcG 3 rfl srcG0) <| ho 9 rfl (by kernel_rfl) fun K188 k189 => tl i32 rfl fun b3727 => hk k189 (srcG 4 rfl srcG0) <| ho 10 rfl (by kernel_rfl) fun K190 k191 => ts 2 m51 rfl rfl h1330.o1 rfl <| hk k191 (srcG 4 rfl srcG0) <| ho 11 rfl (by kernel_rfl) fun K192 k193 => ts 0 m32 rfl rfl h2930.o1 rfl <| hk k193 (srcG 4 rfl srcG0) <| hz (by kernel_rfl) <| jn [4, 2, 1, 0, 3] (J4 h1330 h2930 hp)
     · exact tl i32 rfl fun b3727 => hk k195 (srcG 3 rfl srcG0) <| ho 3 rfl (by kernel_rfl) fun K196 k197 => tk0 (k := kMaker) u51 i54 hY1_3 ⟨rfl, rfl⟩ rfl rfl rfl rfl rfl rfl fun v1328 F1329 h1330 => hk k197 (srcG 4 rfl srcG0) <| ho 10 rfl (by kernel_rfl) fun K199 k200 => ts 2 m51 rfl rfl h1330.o1 rfl <| hk k200 (srcG 4 rfl srcG0) <| ho 11 rfl (by kernel_rfl) fun K201 k202 => ts 1 m32 rfl rfl h2930.o1 rfl <| hk k202 (srcG 4 rfl srcG0) <| hz (by kernel_rfl) <| jn [4, 2, 0, 1, 3] (J4 h1330 h2930 hp)
   · refine tl i32 rfl fun b3727 => hk k204 (srcG 2 rfl srcG0) <| HL.all [3, 8] (by kernel_rfl) (by simp) (HL.al ⟨_, rfl, fun K205 k206 => ?_⟩ (HL.al ⟨_, rfl, fun K214 k215 => ?_⟩ HL.al0))
     · exact tk0 (k := kMaker) u51 i54 hY1_3 ⟨rfl, rfl⟩ rfl rfl rfl rfl rfl rfl fun v1328 F1329 h1330 => hk k206 (srcG 3 rfl srcG0) <| ho 8 rfl (by kernel_rfl) fun K208 k209 => tl i51 rfl fun b3327 => hk k209 (srcG 4 rfl srcG0) <| ho 10 rfl (by kernel_rfl) fun K210 k211 => ts 0 m51 rfl rfl h1330.o1 rfl <| hk k211 (srcG 4 rfl srcG0) <| ho 11 rfl (by kernel_rfl) fun K212 k213 => ts 2 m32 rfl rfl h2930.o1 rfl <| hk k213 (srcG 4 rfl srcG0) <| hz (by kernel_rfl) <| jn [4, 0, 1, 2, 3] (J4 h1330 h2930 hp)
     · exact tl i51 rfl fun b3327 => hk k215 (srcG 3 rfl srcG0) <| ho 3 rfl (by kernel_rfl) fun K216 k217 => tk0 (k := kMaker) u51 i54 hY1_3 ⟨rfl, rfl⟩ rfl rfl rfl rfl rfl rfl fun v1328 F1329 h1330 => hk k217 (srcG 4 rfl srcG0) <| ho 10 rfl (by kernel_rfl) fun K219 k220 => ts 1 m51 rfl rfl h1330.o1 rfl <| hk k220 (srcG 4 rfl srcG0) <| ho 11 rfl (by kernel_rfl) fun K221 k222 => ts 2 m32 rfl rfl h2930.o1 rfl <| hk k222 (srcG 4 rfl srcG0) <| hz (by kernel_rfl) <| jn [4, 1, 0, 2, 3] (J4 h1330 h2930 hp)
 · refine tl i51 rfl fun b3327 => hk k224 (srcG 1 rfl srcG0) <| HL.all [3, 7, 9] (by kernel_rfl) (by simp) (HL.al ⟨_, rfl, fun K225 k226 => ?_⟩ (HL.al ⟨_, rfl, fun K253 k254 => ?_⟩ (HL.al ⟨_, rfl, fun K274 k275 => ?_⟩ HL.al0)))
   · refine tk0 (k := kMaker) u51 i54 hY1_3 ⟨rfl, rfl⟩ rfl rfl rfl rfl rfl rfl fun v1328 F1329 h1330 => hk k226 (srcG 2 rfl srcG0) <| HL.all [7, 9] (by kernel_rfl) (by simp) (HL.al ⟨_, rfl, fun K228 k229 => ?_⟩ (HL.al ⟨_, rfl, fun K237 k238 => ?_⟩ HL.al0))
     · exact tk0 (k := (kInt .i64)) u32 i3 hY1_7 ⟨rfl, rfl⟩ rfl rfl rfl rfl rfl rfl fun v2928 F2929 h2930 => hk k229 (srcG 3 rfl srcG0) <| ho 9 rfl (by kernel_rfl) fun K231 k232 => tl i32 rfl fun b3727 => hk k232 (srcG 4 rfl srcG0) <| ho 10 rfl (by kernel_rfl) fun K233 k234 => ts 3 m51 rfl rfl h1330.o1 rfl <| hk k234 (srcG 4 rfl srcG0) <| ho 11 rfl (by kernel_rfl) fun K235 k236 => ts 0 m32 rfl rfl h2930.o1 rfl <| hk k236 (srcG 4 rfl srcG0) <| hz (by kernel_rfl) <| jn [4, 3, 2, 0, 1] (J4 h1330 h2930 hp)
     · refine tl i32 rfl fun b3727 => hk k238 (srcG 3 rfl srcG0) <| HL.all [7, 10] (by kernel_rfl) (by simp) (HL.al ⟨_, rfl, fun K239 k240 => ?_⟩ (HL.al ⟨_, rfl, fun K246 k247 => ?_⟩ HL.al0))
       · exact tk0 (k := (kInt .i64)) u32 i3 hY1_7 ⟨rfl, rfl⟩ rfl rfl rfl rfl rfl rfl fun v2928 F2929 h2930 => hk k240 (srcG 4 rfl srcG0) <| ho 10 rfl (by kernel_rfl) fun K242 k243 => ts 3 m51 rfl rfl h1330.o1 rfl <| hk k243 (srcG 4 rfl srcG0) <| ho 11 rfl (by kernel_rfl) fun K244 k245 => ts 1 m32 rfl rfl h2930.o1 rfl <| hk k245 (srcG 4 rfl srcG0) <| hz (by kernel_rfl) <| jn [4, 3, 2, 1, 0] (J4 h1330 h2930 hp)
       · exact ts 2 m51 rfl rfl h1330.o1 rfl <| hk k247 (srcG 3 rfl srcG0) <| ho 7 rfl (by kernel_rfl) fun K248 k249 => tk0 (k := (kInt .i64)) u32 i3 hY1_7 ⟨rfl, rfl⟩ rfl rfl rfl rfl rfl rfl fun v2928 F2929 h2930 => hk k249 (srcG 4 rfl srcG0) <| ho 11 rfl (by kernel_rfl) fun K251 k252 => ts 1 m32 rfl rfl h2930.o1 rfl <| hk k252 (srcG 4 rfl srcG0) <| hz (by kernel_rfl) <| jn [4, 3, 2, 1, 0] (J4 h1330 h2930 hp)
   · refine tk0 (k := (kInt .i64)) u32 i3 hY1_7 ⟨rfl, rfl⟩ rfl rfl rfl rfl rfl rfl fun v2928 F2929 h2930 => hk k254 (srcG 2 rfl srcG0) <| HL.all [3, 9] (by kernel_rfl) (by simp) (HL.al ⟨_, rfl, fun K256 k257 => ?_⟩ (HL.al ⟨_, rfl, fun K265 k266 => ?_⟩ HL.al0))
     · exact tk0 (k := kMaker) u51 i54 hY1_3 ⟨rfl, rfl⟩ rfl rfl rfl rfl rfl rfl fun v1328 F1329 h1330 => hk k257 (srcG 3 rfl srcG0) <| ho 9 rfl (by kernel_rfl) fun K259 k260 => tl i32 rfl fun b3727 => hk k260 (srcG 4 rfl srcG0) <| ho 10 rfl (by kernel_rfl) fun K261 k262 => ts 3 m51 rfl rfl h1330.o1 rfl <| hk k262 (srcG 4 rfl srcG0) <| ho 11 rfl (by kernel_rfl) fun K263 k264 => ts 0 m32 rfl rfl h2930.o1 rfl <| hk k264 (srcG 4 rfl srcG0) <| hz (by kernel_rfl) <| jn [4, 3, 1, 0, 2] (J4 h1330 h2930 hp)
     · exact tl i32 rfl fun b3727 => hk k266 (srcG 3 rfl srcG0) <| ho 3 rfl (by kernel_rfl) fun K267 k268 => tk0 (k := kMaker) u51 i54 hY1_3 ⟨rfl, rfl⟩ rfl rfl rfl rfl rfl rfl fun v1328 F1329 h1330 => hk k268 (srcG 4 rfl srcG0) <| ho 10 rfl (by kernel_rfl) fun K270 k271 => ts 3 m51 rfl rfl h1330.o1 rfl <| hk k271 (srcG 4 rfl srcG0) <| ho 11 rfl (by kernel_rfl) fun K272 k273 => ts 1 m32 rfl rfl h2930.o1 rfl <| hk k273 (srcG 4 rfl srcG0) <| hz (by kernel_rfl) <| jn [4, 3, 0, 1, 2] (J4 h1330 h2930 hp)
   · refine tl i32 rfl fun b3727 => hk k275 (srcG 2 rfl srcG0) <| HL.all [3, 7] (by kernel_rfl) (by simp) (HL.al ⟨_, rfl, fun K276 k277 => ?_⟩ (HL.al ⟨_, rfl, fun K293 k294 => ?_⟩ HL.al0))
     · refine tk0 (k := kMaker) u51 i54 hY1_3 ⟨rfl, rfl⟩ rfl rfl rfl rfl rfl rfl fun v1328 F1329 h1330 => hk k277 (srcG 3 rfl srcG0) <| HL.all [7, 10] (by kernel_rfl) (by simp) (HL.al ⟨_, rfl, fun K279 k280 => ?_⟩ (HL.al ⟨_, rfl, fun K286 k287 => ?_⟩ HL.al0))
       · exact tk0 (k := (kInt .i64)) u32 i3 hY1_7 ⟨rfl, rfl⟩ rfl rfl rfl rfl rfl rfl fun v2928 F2929 h2930 => hk k280 (srcG 4 rfl srcG0) <| ho 10 rfl (by kernel_rfl) fun K282 k283 => ts 3 m51 rfl rfl h1330.o1 rfl <| hk k283 (srcG 4 rfl srcG0) <| ho 11 rfl (by kernel_rfl) fun K284 k285 => ts 2 m32 rfl rfl h2930.o1 rfl <| hk k285 (srcG 4 rfl srcG0) <| hz (by kernel_rfl) <| jn [4, 3, 1, 2, 0] (J4 h1330 h2930 hp)
       · exact ts 2 m51 rfl rfl h1330.o1 rfl <| hk k287 (srcG 3 rfl srcG0) <| ho 7 rfl (by kernel_rfl) fun K288 k289 => tk0 (k := (kInt .i64)) u32 i3 hY1_7 ⟨rfl, rfl⟩ rfl rfl rfl rfl rfl rfl fun v2928 F2929 h2930 => hk k289 (srcG 4 rfl srcG0) <| ho 11 rfl (by kernel_rfl) fun K291 k292 => ts 2 m32 rfl rfl h2930.o1 rfl <| hk k292 (srcG 4 rfl srcG0) <| hz (by kernel_rfl) <| jn [4, 3, 1, 2, 0] (J4 h1330 h2930 hp)
     · exact tk0 (k := (kInt .i64)) u32 i3 hY1_7 ⟨rfl, rfl⟩ rfl rfl rfl rfl rfl rfl fun v2928 F2929 h2930 => hk k294 (srcG 3 rfl srcG0) <| ho 3 rfl (by kernel_rfl) fun K296 k297 => tk0 (k := kMaker) u51 i54 hY1_3 ⟨rfl, rfl⟩ rfl rfl rfl rfl rfl rfl fun v1328 F1329 h1330 => hk k297 (srcG 4 rfl srcG0) <| ho 10 rfl (by kernel_rfl) fun K299 k300 => ts 3 m51 rfl rfl h1330.o1 rfl <| hk k300 (srcG 4 rfl srcG0) <| ho 11 rfl (by kernel_rfl) fun K301 k302 => ts 2 m32 rfl rfl h2930.o1 rfl <| hk k302 (srcG 4 rfl srcG0) <| hz (by kernel_rfl) <| jn [4, 3, 0, 2, 1] (J4 h1330 h2930 hp)
 · refine tl i32 rfl fun b3727 => hk k304 (srcG 1 rfl srcG0) <| HL.all [3, 7, 8] (by kernel_rfl) (by simp) (HL.al ⟨_, rfl, fun K305 k306 => ?_⟩ (HL.al ⟨_, rfl, fun K333 k334 => ?_⟩ (HL.al ⟨_, rfl, fun K354 k355 => ?_⟩ HL.al0)))
   · refine tk0 (k := kMaker) u51 i54 hY1_3 ⟨rfl, rfl⟩ rfl rfl rfl rfl rfl rfl fun v1328 F1329 h1330 => hk k306 (srcG 2 rfl srcG0) <| HL.all [7, 8] (by kernel_rfl) (by simp) (HL.al ⟨_, rfl, fun K308 k309 => ?_⟩ (HL.al ⟨_, rfl, fun K317 k318 => ?_⟩ HL.al0))
     · exact tk0 (k := (kInt .i64)) u32 i3 hY1_7 ⟨rfl, rfl⟩ rfl rfl rfl rfl rfl rfl fun v2928 F2929 h2930 => hk k309 (srcG 3 rfl srcG0) <| ho 8 rfl (by kernel_rfl) fun K311 k312 => tl i51 rfl fun b3327 => hk k312 (srcG 4 rfl srcG0) <| ho 10 rfl (by kernel_rfl) fun K313 k314 => ts 0 m51 rfl rfl h1330.o1 rfl <| hk k314 (srcG 4 rfl srcG0) <| ho 11 rfl (by kernel_rfl) fun K315 k316 => ts 3 m32 rfl rfl h2930.o1 rfl <| hk k316 (srcG 4 rfl srcG0) <| hz (by kernel_rfl) <| jn [4, 0, 2, 3, 1] (J4 h1330 h2930 hp)
     · refine tl i51 rfl fun b3327 => hk k318 (srcG 3 rfl srcG0) <| HL.all [7, 10] (by kernel_rfl) (by simp) (HL.al ⟨_, rfl, fun K319 k320 => ?_⟩ (HL.al ⟨_, rfl, fun K326 k327 => ?_⟩ HL.al0))
       · exact tk0 (k := (kInt .i64)) u32 i3 hY1_7 ⟨rfl, rfl⟩ rfl rfl rfl rfl rfl rfl fun v2928 F2929 h2930 => hk k320 (srcG 4 rfl srcG0) <| ho 10 rfl (by kernel_rfl) fun K322 k323 => ts 1 m51 rfl rfl h1330.o1 rfl <| hk k323 (srcG 4 rfl srcG0) <| ho 11 rfl (by kernel_rfl) fun K324 k325 => ts 3 m32 rfl rfl h2930.o1 rfl <| hk k325 (srcG 4 rfl srcG0) <| hz (by kernel_rfl) <| jn [4, 1, 2, 3, 0] (J4 h1330 h2930 hp)
       · exact ts 0 m51 rfl rfl h1330.o1 rfl <| hk k327 (srcG 3 rfl srcG0) <| ho 7 rfl (by kernel_rfl) fun K328 k329 => tk0 (k := (kInt .i64)) u32 i3 hY1_7 ⟨rfl, rfl⟩ rfl rfl rfl rfl rfl rfl fun v2928 F2929 h2930 => hk k329 (srcG 4 rfl srcG0) <| ho 11 rfl (by kernel_rfl) fun K331 k332 => ts 3 m32 rfl rfl h2930.o1 rfl <| hk k332 (srcG 4 rfl srcG0) <| hz (by kernel_rfl) <| jn [4, 1, 2, 3, 0] (J4 h1330 h2930 hp)
   · refine tk0 (k := (kInt .i64)) u32 i3 hY1_7 ⟨rfl, rfl⟩ rfl rfl rfl rfl rfl rfl fun v2928 F2929 h2930 => hk k334 (srcG 2 rfl srcG0) <| HL.all [3, 8] (by kernel_rfl) (by simp) (HL.al ⟨_, rfl, fun K336 k337 => ?_⟩ (HL.al ⟨_, rfl, fun K345 k346 => ?_⟩ HL.al0))
     · exact tk0 (k := kMaker) u51 i54 hY1_3 ⟨rfl, rfl⟩ rfl rfl rfl rfl rfl rfl fun v1328 F1329 h1330 => hk k337 (srcG 3 rfl srcG0) <| ho 8 rfl (by kernel_rfl) fun K339 k340 => tl i51 rfl fun b3327 => hk k340 (srcG 4 rfl srcG0) <| ho 10 rfl (by kernel_rfl) fun K341 k342 => ts 0 m51 rfl rfl h1330.o1 rfl <| hk k342 (srcG 4 rfl srcG0) <| ho 11 rfl (by kernel_rfl) fun K343 k344 => ts 3 m32 rfl rfl h2930.o1 rfl <| hk k344 (srcG 4 rfl srcG0) <| hz (by kernel_rfl) <| jn [4, 0, 1, 3, 2] (J4 h1330 h2930 hp)
     · exact tl i51 rfl fun b3327 => hk k346 (srcG 3 rfl srcG0) <| ho 3 rfl (by kernel_rfl) fun K347 k348 => tk0 (k := kMaker) u51 i54 hY1_3 ⟨rfl, rfl⟩ rfl rfl rfl rfl rfl rfl fun v1328 F1329 h1330 => hk k348 (srcG 4 rfl srcG0) <| ho 10 rfl (by kernel_rfl) fun K350 k351 => ts 1 m51 rfl rfl h1330.o1 rfl <| hk k351 (srcG 4 rfl srcG0) <| ho 11 rfl (by kernel_rfl) fun K352 k353 => ts 3 m32 rfl rfl h2930.o1 rfl <| hk k353 (srcG 4 rfl srcG0) <| hz (by kernel_rfl) <| jn [4, 1, 0, 3, 2] (J4 h1330 h2930 hp)
   · refine tl i51 rfl fun b3327 => hk k355 (srcG 2 rfl srcG0) <| HL.all [3, 7] (by kernel_rfl) (by simp) (HL.al ⟨_, rfl, fun K356 k357 => ?_⟩ (HL.al ⟨_, rfl, fun K373 k374 => ?_⟩ HL.al0))
     · refine tk0 (k := kMaker) u51 i54 hY1_3 ⟨rfl, rfl⟩ rfl rfl rfl rfl rfl rfl fun v1328 F1329 h1330 => hk k357 (srcG 3 rfl srcG0) <| HL.all [7, 10] (by kernel_rfl) (by simp) (HL.al ⟨_, rfl, fun K359 k360 => ?_⟩ (HL.al ⟨_, rfl, fun K366 k367 => ?_⟩ HL.al0))
       · exact tk0 (k := (kInt .i64)) u32 i3 hY1_7 ⟨rfl, rfl⟩ rfl rfl rfl rfl rfl rfl fun v2928 F2929 h2930 => hk k360 (srcG 4 rfl srcG0) <| ho 10 rfl (by kernel_rfl) fun K362 k363 => ts 2 m51 rfl rfl h1330.o1 rfl <| hk k363 (srcG 4 rfl srcG0) <| ho 11 rfl (by kernel_rfl) fun K364 k365 => ts 3 m32 rfl rfl h2930.o1 rfl <| hk k365 (srcG 4 rfl srcG0) <| hz (by kernel_rfl) <| jn [4, 2, 1, 3, 0] (J4 h1330 h2930 hp)
       · exact ts 1 m51 rfl rfl h1330.o1 rfl <| hk k367 (srcG 3 rfl srcG0) <| ho 7 rfl (by kernel_rfl) fun K368 k369 => tk0 (k := (kInt .i64)) u32 i3 hY1_7 ⟨rfl, rfl⟩ rfl rfl rfl rfl rfl rfl fun v2928 F2929 h2930 => hk k369 (srcG 4 rfl srcG0) <| ho 11 rfl (by kernel_rfl) fun K371 k372 => ts 3 m32 rfl rfl h2930.o1 rfl <| hk k372 (srcG 4 rfl srcG0) <| hz (by kernel_rfl) <| jn [4, 2, 1, 3, 0] (J4 h1330 h2930 hp)
     · exact tk0 (k := (kInt .i64)) u32 i3 hY1_7 ⟨rfl, rfl⟩ rfl rfl rfl rfl rfl rfl fun v2928 F2929 h2930 => hk k374 (srcG 3 rfl srcG0) <| ho 3 rfl (by kernel_rfl) fun K376 k377 => tk0 (k := kMaker) u51 i54 hY1_3 ⟨rfl, rfl⟩ rfl rfl rfl rfl rfl rfl fun v1328 F1329 h1330 => hk k377 (srcG 4 rfl srcG0) <| ho 10 rfl (by kernel_rfl) fun K379 k380 => ts 2 m51 rfl rfl h1330.o1 rfl <| hk k380 (srcG 4 rfl srcG0) <| ho 11 rfl (by kernel_rfl) fun K381 k382 => ts 3 m32 rfl rfl h2930.o1 rfl <| hk k382 (srcG 4 rfl srcG0) <| hz (by kernel_rfl) <| jn [4, 2, 0, 3, 1] (J4 h1330 h2930 hp)
/-! ### fettle/graph.Order -/
abbrev graph_Order.R (r : List Int) (v : Value) (A : List FP) : Prop := ∃ (w1 : Value) (G1 : FP), w1 = v ∧ A = [G1] ∧ SlO 3 (kInt .i64) r w1 G1
def graph_Order (a1 : PFunc) : Option (List Int) :=
  (graph_order a1).bind fun x7 =>
  some x7.1
theorem graph_Order_ok {E : World} {H : FP} {w : World} {a1 : PFunc} {v2 : Value} {v4 : Value} {r : List Int} (h3 : SlI (kInt .i64) H a1.regs v2) (h5 : SlI kBlock H a1.blocks v4) (hp : graph_Order a1 = some r) (hst : St E H [] w) :
    Fn Tryd.prog 76 #[.agg #[.int .i64 a1.params, .int .i64 a1.result, v2, v4]] w fun v w' => ∃ A, graph_Order.R r v A ∧ St E H A w' := by
 refine fb 11 [.tmp 2] Tryd.func76 rfl rfl rfl rfl rfl hst <| sr <| tb [.int .i64 a1.params, .int .i64 a1.result, v2, v4] rfl rfl fun b6 => ta rfl <| nz <| sr <| tv (lA (ds := [.int .i64 a1.params, .int .i64 a1.result, v2, v4]) ag_41 0 rfl rfl rfl rfl) rfl <| bE hp fun x7 hy1 hp => tc 0 [_] rfl c57 (fun _ => graph_order_ok (a1 := a1) (h3.mono subH) (h5.mono subH) hy1) rfl ?_
 rintro _ _ ⟨v8, F9, v11, F12, rfl, rfl, h10, h13⟩
 exact tm rfl <| tv (xt rfl rfl) rfl <| tv (xt rfl rfl) rfl <| ta rfl <| ta rfl <| nz <| sr <| tm rfl <| ta rfl <| nz <| TC.ret <| rt hp [0] ⟨v8, F9, rfl, rfl, h10⟩
/-! ### fettle/dom.ahead -/
abbrev dom_ahead.R (r : List (List Int)) (v : Value) (A : List FP) : Prop := ∃ (w1 : Value) (G1 : FP), w1 = v ∧ A = [G1] ∧ SlO 32 (kSl 3 (kInt .i64)) r w1 G1
def dom_ahead.nx9  (x12 : List (List Int)) : Option (List (List Int)) :=
  some x12
def dom_ahead.nx24 (x11 : Int) (x27 : List (List Int)) : Option (Ex (List (List Int)) (List (List Int) × Int)) :=
  some (.go (x27, (w64 (x11 + 1))))
def dom_ahead.bd24 (x11 : Int) (x15 : List Int) (x23 : List (List Int)) (x26 : Int) : Option (Ex (List (List Int)) (List (List Int) × Int)) :=
  if x26 < (len x15) then
    (idx x15 x26).bind fun x30 =>
    (idx x23 x30).bind fun x36 =>
    (cat x36 [x11]).bind fun x46 =>
    some (.go ((x23.set (x30).toNat x46), (w64 (x26 + 1))))
  else
    some (.ret x23)
def dom_ahead.bd9 (a1 : List (List Int)) (x8 : List (List Int)) (x11 : Int) : Option (Ex (List (List Int)) (List (List Int) × Int)) :=
  if x11 < (len a1) then
    (idx a1 x11).bind fun x15 =>
    (whl (fun (s : (List (List Int) × Int)) => dom_ahead.bd24 x11 x15 s.1 s.2) FUEL (x8, 0)).bind fun z =>
    dom_ahead.nx24 x11 z
  else
    some (.ret x8)
def dom_ahead (a1 : List (List Int)) : Option (List (List Int)) :=
  (mkl (len a1) ([] : List Int)).bind fun x4 =>
  (whl (fun (s : (List (List Int) × Int)) => dom_ahead.bd9 a1 s.1 s.2) FUEL (x4, 0)).bind fun z =>
  dom_ahead.nx9 z
set_option maxHeartbeats 4000000 in
theorem dom_ahead_ok {E : World} {H : FP} {w : World} {a1 : List (List Int)} {v2 : Value} {r : List (List Int)} (h3 : SlI (kSl 3 (kInt .i64)) H a1 v2) (hp : dom_ahead a1 = some r) (hst : St E H [] w) :
    Fn Tryd.prog 77 #[v2] w fun v w' => ∃ A, dom_ahead.R r v A ∧ St E H A w' := by
 refine fb 37 [.tmp 2] Tryd.func77 rfl rfl rfl rfl rfl hst <| sr <| ta rfl <| nz <| sr <| tm rfl <| tv (ln u65 h3 rfl) rfl <| tk (k := (kSl 3 (kInt .i64))) u65 i32 hp ⟨_, rfl, SlO.nil 3⟩ rfl rfl rfl rfl rfl rfl fun x4 v5 F6 h7 hp => ta rfl <| nz <| TC.seq fun K2 k3 => sr <| tm rfl <| tv (ln u65 h3 rfl) rfl <| tm rfl <| nz <| TC.block <| bE hp fun z_5 hz6 hr7 => ?_
 have J11 {x12 F13 e10} (h14 : SlO 32 (kSl 3 (kInt .i64)) x12 v5 F13) (hq12 : x12 = z_5) : ∀ w, St E H [F13] w → K2 (ovr e10 [(3, v5)]) w := by
  subst hq12
  replace hp : dom_ahead.nx9 x12 = some r := hr7
  exact tg k3 <| sr <| tm rfl <| ta rfl <| nz <| TC.ret <| rt hp [0] ⟨v5, F13, rfl, rfl, h14⟩
 refine lp hz6 [0] rfl (fun s e L => ∃ x8 x11 F9 e4, s = (x8, x11) ∧ SlO 32 (kSl 3 (kInt .i64)) x8 v5 F9 ∧ e = ovr e4 [(3, v5), (11, v2), (12, .int .i64 (len a1)), (13, .int .i64 x11)] ∧ L = [F9]) ⟨_, _, F6, _, rfl, h7, ovr_eq _ _ rfl, rfl⟩ ?_
 rintro _ _ _ ⟨x8, x11, F9, e4, rfl, h10, rfl, rfl⟩ X8 hp hx9
 replace hp : dom_ahead.bd9 a1 x8 x11 = some X8 := hp
 refine sr <| tv (blt rfl rfl) rfl <| nz <| TC.seq fun K13 k14 => cD rfl hp (fun hc15 hp => ?_) fun hc15 hp => ?_
 · refine sk k14 rfl <| TC.seq fun K16 k17 => TC.block <| sr <| tm rfl <| ti u65 i32 h3 hp rfl rfl rfl rfl ?_
   rintro x15 b16 o17 _ hp ⟨v21, rfl, h22⟩ h20
   refine tv (lr s32 sH h20 0 rfl rfl) rfl <| ta rfl <| ta rfl <| nz <| sr <| tm rfl <| tv (ln u32 h22 rfl) rfl <| tm rfl <| nz <| TC.block <| bE hp fun z_20 hz21 hr22 => ?_
   have J26 {x27 F28 e25} (h29 : SlO 32 (kSl 3 (kInt .i64)) x27 v5 F28) (hq27 : x27 = z_20) : ∀ w, St E H [F28] w → K16 (ovr e25 [(3, v5), (11, v2), (12, .int .i64 (len a1)), (13, .int .i64 x11)]) w := by
    subst hq27
    replace hp : dom_ahead.nx24 x11 x27 = some X8 := hr22
    exact tg k17 <| TC.region <| tv (bad rfl rfl) rfl <| tm rfl <| nl <| gk hp [0] ⟨_, _, F28, _, rfl, h29, ovr_eq _ _ rfl, rfl⟩
   refine lp hz21 [0] rfl (fun s e L => ∃ x23 x26 F24 e19, s = (x23, x26) ∧ SlO 32 (kSl 3 (kInt .i64)) x23 v5 F24 ∧ e = ovr e19 [(3, v5), (4, .int .i64 x11), (11, v2), (12, .int .i64 (len a1)), (13, .int .i64 x11), (18, v21), (19, .int .i64 (len x15)), (20, .int .i64 x26)] ∧ L = [F24]) ⟨_, _, F9, _, rfl, h10, ovr_eq _ _ rfl, rfl⟩ ?_
   rintro _ _ _ ⟨x23, x26, F24, e19, rfl, h25, rfl, rfl⟩ X23 hp hx24
   replace hp : dom_ahead.bd24 x11 x15 x23 x26 = some X23 := hp
   refine sr <| tv (blt rfl rfl) rfl <| nz <| TC.seq fun K28 k29 => cD rfl hp (fun hc30 hp => ?_) fun hc30 hp => ?_
   · refine sk k29 rfl <| TC.seq fun K31 k32 => TC.block <| sr <| ti u32 i3 h22 hp rfl rfl rfl rfl ?_
     rintro x30 b31 o32 _ hp rfl h35
     refine tv (lr s3 sH h35 0 rfl rfl) rfl <| ta rfl <| nz <| TC.region <| tm rfl <| tm rfl <| tm rfl <| tm rfl <| bE hp fun x36 hx34 hp => TL.open_ h25 hx34 ?_
     rintro b37 _ F39 F40 h41 ⟨v43, rfl, h44⟩
     exact tv (rv_ixH u65 i32 rfl rfl (idx_some hx34).1 h41) rfl <| tv (lr s32 (Src.at_ 0 rfl) (Hole.cells h41) 0 rfl rfl) rfl <| tm rfl <| tbs [(0, .int .i64 x11)] [.int .i64 x11] u32 i3 (by kernel_rfl) rfl rfl rfl rfl fun b45 => tp [2, 0, 1] [_,_,_] rfl rfl <| tf 2 0 [_,_,_,_] rfl <| tp2 u32 i3 h44 hp (RepL.to (RepL.cons (k := (kInt .i64)) (x := x11) ⟨rfl, rfl⟩ RepL.nil) rfl) rfl rfl rfl rfl rfl rfl rfl rfl rfl fun x46 v47 F48 h49 hp => tv (rv_ixH u65 i32 rfl rfl (idx_some hx34).1 h41) rfl <| tp [1, 0] [_,_] rfl rfl <| tsH h41 m32 0 rfl h49.o1 rfl fun F51 h52 => nl <| tg k32 <| TC.region <| tv (bad rfl rfl) rfl <| tm rfl <| nl <| W.shut (a := x46) h52 ⟨_, rfl, h49⟩ fun F53 h54 => gk hp [0] ⟨_, _, F53, _, rfl, h54, ovr_eq _ _ rfl, rfl⟩
   · exact TC.exit <| jn [0] (J26 h25 (ex_ret hp hx24))
 · exact TC.exit <| jn [0] (J11 h10 (ex_ret hp hx9))
end Go.Proofs.YteaknconpkklhaaDoor
