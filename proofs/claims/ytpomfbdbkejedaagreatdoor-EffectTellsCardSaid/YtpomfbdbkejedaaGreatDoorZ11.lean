/- The walk through the program's functions: each one's pure reading, and that a call does what it says. No conditions. -/
import Derived.Test.YtpomfbdbkejedaaGreatDoorZ10
set_option linter.unusedVariables false
set_option linter.unusedSimpArgs false
namespace Go.Proofs.YtpomfbdbkejedaaGreatDoor
open Go Go.Proofs

/-! ### fettle/fettleref05.From -/
abbrev fettleref05_From.R (r : List Bool) (v : Value) (A : List FP) : Prop := ∃ (w1 : Value) (G1 : FP), w1 = v ∧ A = [G1] ∧ SlO 4 kBool r w1 G1
def fettleref05_From.nx23  (x23 : List Bool) : Option (List Bool) :=
  some x23
def fettleref05_From.nx37 (x22 : Int) (x30 : List Bool) : Option (Ex (List Bool) (List Bool × Int)) :=
  some (.go (x30, (w64 (x22 + 1))))
def fettleref05_From.jn47 (x29 : Int) (x33 : List Bool) : Option (Ex (List Bool) (List Bool × Int)) :=
  some (.go (x33, (w64 (x29 + 1))))
def fettleref05_From.nx59 (x29 : Int) (x50 : List Bool) : Option (Ex (List Bool) (List Bool × Int)) :=
  fettleref05_From.jn47 x29 x50
def fettleref05_From.jn69 (x49 : Int) (x53 : List Bool) : Option (Ex (List Bool) (List Bool × Int)) :=
  some (.go (x53, (w64 (x49 + 1))))
def fettleref05_From.bd59 (a7 : Int) (x42 : List Int) (x46 : List Bool) (x49 : Int) : Option (Ex (List Bool) (List Bool × Int)) :=
  if x49 < (len x42) then
    (idx x42 x49).bind fun x56 =>
    if ¬ x56 = a7 then
      (idx x42 x49).bind fun x62 =>
      (idx x46 x62).bind fun x68 =>
      fettleref05_From.jn69 x49 (x46.set (x62).toNat true)
    else
      fettleref05_From.jn69 x49 x46
  else
    some (.ret x46)
def fettleref05_From.bd37 (a1 : PFunc) (a7 : Int) (x26 : List Bool) (x29 : Int) : Option (Ex (List Bool) (List Bool × Int)) :=
  if x29 < (len x26) then
    (idx x26 x29).bind fun x36 =>
    if (!x36) = true then
      fettleref05_From.jn47 x29 x26
    else
      (fettleref05_Next a1 x29).bind fun x42 =>
      (whl (fun (s : (List Bool × Int)) => fettleref05_From.bd59 a7 x42 s.1 s.2) FUEL (x26, 0)).bind fun z =>
      fettleref05_From.nx59 x29 z
  else
    some (.ret x26)
def fettleref05_From.bd23 (a1 : PFunc) (a7 : Int) (x19 : List Bool) (x22 : Int) : Option (Ex (List Bool) (List Bool × Int)) :=
  if x22 < (len x19) then
    (whl (fun (s : (List Bool × Int)) => fettleref05_From.bd37 a1 a7 s.1 s.2) FUEL (x19, 0)).bind fun z =>
    fettleref05_From.nx37 x22 z
  else
    some (.ret x19)
def fettleref05_From (a1 : PFunc) (a6 : Int) (a7 : Int) : Option (List Bool) :=
  (mkl (len a1.blocks) false).bind fun x9 =>
  if (a6 < 0 ∨ a6 ≥ (len x9)) ∨ a6 = a7 then
    some x9
  else
    (idx x9 a6).bind fun x13 =>
    (whl (fun (s : (List Bool × Int)) => fettleref05_From.bd23 a1 a7 s.1 s.2) FUEL ((x9.set (a6).toNat true), 0)).bind fun z =>
    fettleref05_From.nx23 z
set_option maxHeartbeats 4000000 in
theorem fettleref05_From_ok {E : World} {H : FP} {w : World} {a1 : PFunc} {a6 : Int} {a7 : Int} {v2 : Value} {v4 : Value} {r : List Bool} (h3 : SlI (kInt .i64) H a1.regs v2) (h5 : SlI kBlock H a1.blocks v4) (hp : fettleref05_From a1 a6 a7 = some r) (hst : St E H [] w) :
    Fn Tryz.prog 22 #[.agg #[.int .i64 a1.params, .int .i64 a1.result, v2, v4], .int .i64 a6, .int .i64 a7] w fun v w' => ∃ A, fettleref05_From.R r v A ∧ St E H A w' := by
 refine fb 72 [.tmp 6] Tryz.func22 rfl rfl rfl rfl rfl hst <| sr <| tb [.int .i64 a1.params, .int .i64 a1.result, v2, v4] rfl rfl fun b8 => ta rfl <| nz <| sr <| tv (fa f47_3 rfl) rfl <| tv (lb s45 0 rfl rfl rfl) rfl <| tv (ln u45 h5 rfl) rfl <| tk (k := kBool) u69 i4 hp ⟨rfl, rfl⟩ rfl rfl rfl rfl rfl rfl fun x9 v10 F11 h12 hp => ta rfl <| nz <| TC.seq fun K2 k3 => sr <| tm rfl <| tv (blt rfl rfl) rfl <| tm rfl <| TL.cut 5 fun K4 k5 => ?_
 have J6 {e8} : ∀ w, St E H [F11, bx b8 47 [.int .i64 a1.params, .int .i64 a1.result, v2, v4]] w → K4 (ovr e8 [(23, .bool (decide (a6 < 0 ∨ a6 ≥ (len x9)))), (1, .int .i64 a6), (2, .int .i64 a7), (3, .pointer (some ⟨b8, 0, none⟩)), (7, v10)]) w := by
  refine tlg k5 <| tm rfl <| TL.cut 4 fun K9 k10 => ?_
  have J11 {e13} : ∀ w, St E H [F11, bx b8 47 [.int .i64 a1.params, .int .i64 a1.result, v2, v4]] w → K9 (ovr e13 [(28, .bool (decide ((a6 < 0 ∨ a6 ≥ (len x9)) ∨ a6 = a7))), (1, .int .i64 a6), (2, .int .i64 a7), (3, .pointer (some ⟨b8, 0, none⟩)), (7, v10)]) w := by
   refine tlg k10 <| nz <| cD rfl hp (fun hc14 hp => ?_) fun hc14 hp => ?_
   · exact sr <| tm rfl <| ta rfl <| nz <| TC.ret <| rt hp [0] ⟨v10, F11, rfl, rfl, h12⟩
   · refine sk k3 rfl <| sr <| tm rfl <| tm rfl <| tO u69 i4 h12 hp rfl rfl rfl rfl fun x13 b14 o15 h16 hp => tE h12 h16 m4 rfl ⟨rfl, rfl⟩ w1 fun F17 h18 => nz <| TC.seq fun K16 k17 => sr <| ta rfl <| nz <| TC.block <| bE hp fun z_19 hz20 hr21 => ?_
     have J25 {x23 F24 e24} (h25 : SlO 4 kBool x23 v10 F24) (hq26 : x23 = z_19) : ∀ w, St E H [F24] w → K16 (ovr e24 [(7, v10)]) w := by
      subst hq26
      replace hp : fettleref05_From.nx23 x23 = some r := hr21
      exact tg k17 <| sr <| tm rfl <| ta rfl <| nz <| TC.ret <| rt hp [0] ⟨v10, F24, rfl, rfl, h25⟩
     refine lp hz20 [1, 0] rfl (fun s e L => ∃ x19 x22 F20 e18, s = (x19, x22) ∧ SlO 4 kBool x19 v10 F20 ∧ e = ovr e18 [(2, .int .i64 a7), (3, .pointer (some ⟨b8, 0, none⟩)), (7, v10), (8, .int .i64 x22)] ∧ L = [bx b8 47 [.int .i64 a1.params, .int .i64 a1.result, v2, v4], F20]) ⟨_, _, F17, _, rfl, h18, ovr_eq _ _ rfl, rfl⟩ ?_
     rintro _ _ _ ⟨x19, x22, F20, e18, rfl, h21, rfl, rfl⟩ X22 hp hx23
     replace hp : fettleref05_From.bd23 a1 a7 x19 x22 = some X22 := hp
     refine TC.seq fun K27 k28 => sr <| tm rfl <| tm rfl <| tv (ln u69 h21.ro rfl) rfl <| tv (blt rfl rfl) rfl <| nz <| cD rfl hp (fun hc29 hp => ?_) fun hc29 hp => ?_
     · refine sk k28 rfl <| TC.seq fun K30 k31 => TC.block <| sr <| ta rfl <| nz <| TC.block <| bE hp fun z_33 hz34 hr35 => ?_
       have J39 {x30 F31 e38} (h32 : SlO 4 kBool x30 v10 F31) (hq40 : x30 = z_33) : ∀ w, St E H [bx b8 47 [.int .i64 a1.params, .int .i64 a1.result, v2, v4], F31] w → K30 (ovr e38 [(2, .int .i64 a7), (3, .pointer (some ⟨b8, 0, none⟩)), (7, v10), (8, .int .i64 x22)]) w := by
        subst hq40
        replace hp : fettleref05_From.nx37 x22 x30 = some X22 := hr35
        exact tg k31 <| TC.region <| tm rfl <| tv (bad rfl rfl) rfl <| ta rfl <| nl <| gk hp [0, 1] ⟨_, _, F31, _, rfl, h32, ovr_eq _ _ rfl, rfl⟩
       refine lp hz34 [0, 1] rfl (fun s e L => ∃ x26 x29 F27 e32, s = (x26, x29) ∧ SlO 4 kBool x26 v10 F27 ∧ e = ovr e32 [(2, .int .i64 a7), (3, .pointer (some ⟨b8, 0, none⟩)), (7, v10), (8, .int .i64 x22), (9, .int .i64 x29)] ∧ L = [bx b8 47 [.int .i64 a1.params, .int .i64 a1.result, v2, v4], F27]) ⟨_, _, F20, _, rfl, h21, ovr_eq _ _ rfl, rfl⟩ ?_
       rintro _ _ _ ⟨x26, x29, F27, e32, rfl, h28, rfl, rfl⟩ X36 hp hx37
       replace hp : fettleref05_From.bd37 a1 a7 x26 x29 = some X36 := hp
       refine TC.seq fun K41 k42 => sr <| tm rfl <| tm rfl <| tv (ln u69 h28.ro rfl) rfl <| tv (blt rfl rfl) rfl <| nz <| cD rfl hp (fun hc43 hp => ?_) fun hc43 hp => ?_
       · refine sk k42 rfl <| TC.seq fun K44 k45 => ?_
         have J47 {x33 F34 e46} (h35 : SlO 4 kBool x33 v10 F34) (hp : fettleref05_From.jn47 x29 x33 = some X36) : ∀ w, St E H [bx b8 47 [.int .i64 a1.params, .int .i64 a1.result, v2, v4], F34] w → K44 (ovr e46 [(2, .int .i64 a7), (3, .pointer (some ⟨b8, 0, none⟩)), (7, v10), (8, .int .i64 x22), (9, .int .i64 x29)]) w := by
          exact tg k45 <| TC.region <| tm rfl <| tv (bad rfl rfl) rfl <| ta rfl <| nl <| gk hp [0, 1] ⟨_, _, F34, _, rfl, h35, ovr_eq _ _ rfl, rfl⟩
         refine TC.block <| TC.seq fun K48 k49 => sr <| tm rfl <| tm rfl <| ti u69 i4 (h28).ro hp rfl rfl rfl rfl ?_
         rintro x36 b37 o38 _ hp rfl h41
         refine tv (lr s4 (Src.at_ 1 rfl) h41 0 rfl rfl) rfl <| tv (rv_not rfl) rfl <| nz <| cB rfl hp (fun hc51 hp => ?_) fun hc51 hp => ?_
         · exact TC.exit <| jn [0, 1] (J47 h28 hp)
         · refine sk k49 rfl <| sr <| tv (lA (ds := [.int .i64 a1.params, .int .i64 a1.result, v2, v4]) ag_47 0 rfl rfl rfl rfl) rfl <| tm rfl <| bE hp fun x42 hy52 hp => tc 0 [_,_] rfl c45 (fun _ => fettleref05_Next_ok (a1 := a1) (a6 := x29) (h3.mono subH) (h5.mono subH) hy52) rfl ?_
           rintro _ _ ⟨v43, F44, rfl, rfl, h45⟩
           refine ta rfl <| nz <| sr <| ta rfl <| nz <| TC.block <| bE hp fun z_55 hz56 hr57 => ?_
           have J61 {x50 F51 e60} (h52 : SlO 4 kBool x50 v10 F51) (hq62 : x50 = z_55) : ∀ w, St E H [bx b8 47 [.int .i64 a1.params, .int .i64 a1.result, v2, v4], F51] w → K44 (ovr e60 [(2, .int .i64 a7), (3, .pointer (some ⟨b8, 0, none⟩)), (7, v10), (8, .int .i64 x22), (9, .int .i64 x29)]) w := by
            subst hq62
            replace hp : fettleref05_From.nx59 x29 x50 = some X36 := hr57
            exact jn [0, 1] (J47 h52 hp)
           refine lp hz56 [1, 2, 0] rfl (fun s e L => ∃ x46 x49 F47 e54, s = (x46, x49) ∧ SlO 4 kBool x46 v10 F47 ∧ e = ovr e54 [(2, .int .i64 a7), (3, .pointer (some ⟨b8, 0, none⟩)), (7, v10), (8, .int .i64 x22), (9, .int .i64 x29), (10, v43), (11, .int .i64 x49)] ∧ L = [bx b8 47 [.int .i64 a1.params, .int .i64 a1.result, v2, v4], F47, F44]) ⟨_, _, F27, _, rfl, h28, ovr_eq _ _ rfl, rfl⟩ ?_
           rintro _ _ _ ⟨x46, x49, F47, e54, rfl, h48, rfl, rfl⟩ X58 hp hx59
           replace hp : fettleref05_From.bd59 a7 x42 x46 x49 = some X58 := hp
           refine TC.seq fun K63 k64 => sr <| tm rfl <| tm rfl <| tv (ln u38 h45.ro rfl) rfl <| tv (blt rfl rfl) rfl <| nz <| cD rfl hp (fun hc65 hp => ?_) fun hc65 hp => ?_
           · refine sk k64 rfl <| TC.seq fun K66 k67 => ?_
             have J69 {x53 F54 e68} (h55 : SlO 4 kBool x53 v10 F54) (hp : fettleref05_From.jn69 x49 x53 = some X58) : ∀ w, St E H [bx b8 47 [.int .i64 a1.params, .int .i64 a1.result, v2, v4], F54, F44] w → K66 (ovr e68 [(2, .int .i64 a7), (3, .pointer (some ⟨b8, 0, none⟩)), (7, v10), (8, .int .i64 x22), (9, .int .i64 x29), (10, v43), (11, .int .i64 x49)]) w := by
              exact tg k67 <| TC.region <| tm rfl <| tv (bad rfl rfl) rfl <| ta rfl <| nl <| gk hp [0, 1, 2] ⟨_, _, F54, _, rfl, h55, ovr_eq _ _ rfl, rfl⟩
             refine TC.block <| sr <| tm rfl <| tm rfl <| ti u38 i3 (h45).ro hp rfl rfl rfl rfl ?_
             rintro x56 b57 o58 _ hp rfl h61
             refine tv (lr s3 (Src.at_ 2 rfl) h61 0 rfl rfl) rfl <| tm rfl <| tv (bne rfl rfl) rfl <| nz <| cD rfl hp (fun hc71 hp => ?_) fun hc71 hp => ?_
             · refine TC.region <| tm rfl <| tm rfl <| tm rfl <| ti u38 i3 (h45).ro hp rfl rfl rfl rfl ?_
               rintro x62 b63 o64 _ hp rfl h67
               exact tv (lr s3 (Src.at_ 2 rfl) h67 0 rfl rfl) rfl <| tO u69 i4 h48 hp rfl rfl rfl rfl fun x68 b69 o70 h71 hp => tp [1, 0, 2] [_,_,_] rfl rfl <| tE h48 h71 m4 rfl ⟨rfl, rfl⟩ w1 fun F72 h73 => nl <| jn [1, 0, 2] (J69 h73 hp)
             · exact TC.skip <| jn [0, 1, 2] (J69 h48 hp)
           · exact TC.exit <| jn [0, 1] (J61 h48 (ex_ret hp hx59))
       · exact TC.exit <| jn [0, 1] (J39 h28 (ex_ret hp hx37))
     · exact TC.exit <| jn [1] (J25 h21 (ex_ret hp hx23))
  by_cases hc12 : a6 < 0 ∨ a6 ≥ (len x9)
  · exact gn rfl (bT hc12) rfl rfl <| gn rfl (bT hc12) rfl rfl <| gn rfl (bT hc12) rfl rfl <| tv (pT (bT hc12)) rfl <| nj J11 (bOt hc12)
  · exact gy rfl (bF hc12) <| tm rfl <| gy rfl (bF hc12) <| tm rfl <| gy rfl (bF hc12) <| tv (beq rfl rfl) rfl <| tv (pF (bF hc12)) rfl <| nj J11 (bOf hc12)
 by_cases hc7 : a6 < 0
 · exact gn rfl (bT hc7) rfl rfl <| gn rfl (bT hc7) rfl rfl <| gn rfl (bT hc7) rfl rfl <| gn rfl (bT hc7) rfl rfl <| tv (pT (bT hc7)) rfl <| nj J6 (bOt hc7)
 · exact gy rfl (bF hc7) <| tm rfl <| gy rfl (bF hc7) <| tm rfl <| gy rfl (bF hc7) <| tv (ln u69 h12.ro rfl) rfl <| gy rfl (bF hc7) <| tv (bge rfl rfl) rfl <| tv (pF (bF hc7)) rfl <| nj J6 (bOf hc7)

/-! ### fettle/fettleref15.round -/
abbrev fettleref15_round.R (r : Bool) (v : Value) (A : List FP) : Prop := .bool r = v ∧ A = []
def fettleref15_round.nx8  : Option Bool :=
  some false
def fettleref15_round.jn18 (x10 : Int) : Option (Ex (Ex Bool Unit) Int) :=
  some (.go (w64 (x10 + 1)))
def fettleref15_round.nx30 (x10 : Int) : Option (Ex (Ex Bool Unit) Int) :=
  fettleref15_round.jn18 x10
def fettleref15_round.bd30 (a1 : PFunc) (x10 : Int) (x17 : List Int) (x21 : Int) : Option (Ex (Ex Bool Unit) Int) :=
  if x21 < (len x17) then
    (idx x17 x21).bind fun x1223 =>
    (fettleref05_From a1 x1223 (-1)).bind fun x2023 =>
    (idx x2023 x10).bind fun x2823 =>
    if x2823 = true then
      some (.ret (.ret true))
    else
      some (.go (w64 (x21 + 1)))
  else
    some (.ret (.go ()))
def fettleref15_round.bd8 (a1 : PFunc) (a6 : List Bool) (x10 : Int) : Option (Ex (Ex Bool Unit) Int) :=
  if x10 < (len a6) then
    (idx a6 x10).bind fun x11 =>
    if (!x11) = true then
      fettleref15_round.jn18 x10
    else
      (fettleref05_Next a1 x10).bind fun x17 =>
      (whl (fun (s : Int) => fettleref15_round.bd30 a1 x10 x17 s) FUEL 0).bind fun z =>
      match z with
        | .ret r => some (.ret (.ret r))
        | .go p => fettleref15_round.nx30 x10
  else
    some (.ret (.go ()))
def fettleref15_round (a1 : PFunc) (a6 : List Bool) : Option Bool :=
  (whl (fun (s : Int) => fettleref15_round.bd8 a1 a6 s) FUEL 0).bind fun z =>
  match z with
    | .ret r => some r
    | .go p => fettleref15_round.nx8
set_option maxHeartbeats 4000000 in
theorem fettleref15_round_ok {E : World} {H : FP} {w : World} {a1 : PFunc} {a6 : List Bool} {v2 : Value} {v4 : Value} {v7 : Value} {r : Bool} (h3 : SlI (kInt .i64) H a1.regs v2) (h5 : SlI kBlock H a1.blocks v4) (h8 : SlI kBool H a6 v7) (hp : fettleref15_round a1 a6 = some r) (hst : St E H [] w) :
    Fn Tryz.prog 23 #[.agg #[.int .i64 a1.params, .int .i64 a1.result, v2, v4], v7] w fun v w' => ∃ A, fettleref15_round.R r v A ∧ St E H A w' := by
 refine fb 39 [.tmp 4] Tryz.func23 rfl rfl rfl rfl rfl hst <| sr <| tb [.int .i64 a1.params, .int .i64 a1.result, v2, v4] rfl rfl fun b9 => ta rfl <| nz <| TC.seq fun K1 k2 => sr <| ta rfl <| nz <| TC.block <| bE hp fun z_4 hz5 hr6 => ?_
 have J10 {e9} (hq11 : .go () = z_4) : ∀ w, St E H [] w → K1 (ovr e9 []) w := by
  subst hq11
  replace hp : fettleref15_round.nx8 = some r := hr6
  exact tg k2 <| sr <| ta rfl <| nz <| TC.ret <| rt hp [] ⟨rfl, rfl⟩
 refine lp hz5 [0] rfl (fun s e L => ∃ e3, e = ovr e3 [(1, v7), (2, .pointer (some ⟨b9, 0, none⟩)), (5, .int .i64 s)] ∧ L = [bx b9 47 [.int .i64 a1.params, .int .i64 a1.result, v2, v4]]) ⟨_, ovr_eq _ _ rfl, rfl⟩ ?_
 rintro x10 _ _ ⟨e3, rfl, rfl⟩ X7 hp hx8
 replace hp : fettleref15_round.bd8 a1 a6 x10 = some X7 := hp
 refine TC.seq fun K12 k13 => sr <| tm rfl <| tm rfl <| tv (ln u69 h8 rfl) rfl <| tv (blt rfl rfl) rfl <| nz <| cD rfl hp (fun hc14 hp => ?_) fun hc14 hp => ?_
 · refine sk k13 rfl <| TC.seq fun K15 k16 => ?_
   have J18 {e17} (hp : fettleref15_round.jn18 x10 = some X7) : ∀ w, St E H [bx b9 47 [.int .i64 a1.params, .int .i64 a1.result, v2, v4]] w → K15 (ovr e17 [(1, v7), (2, .pointer (some ⟨b9, 0, none⟩)), (5, .int .i64 x10)]) w := by
    exact tg k16 <| TC.region <| tm rfl <| tv (bad rfl rfl) rfl <| ta rfl <| nl <| gk hp [0] ⟨_, ovr_eq _ _ rfl, rfl⟩
   refine TC.block <| TC.seq fun K19 k20 => sr <| tm rfl <| tm rfl <| ti u69 i4 h8 hp rfl rfl rfl rfl ?_
   rintro x11 b12 o13 _ hp rfl h16
   refine tv (lr s4 sH h16 0 rfl rfl) rfl <| tv (rv_not rfl) rfl <| nz <| cB rfl hp (fun hc22 hp => ?_) fun hc22 hp => ?_
   · exact TC.exit <| jn [0] (J18 hp)
   · refine sk k20 rfl <| sr <| tv (lA (ds := [.int .i64 a1.params, .int .i64 a1.result, v2, v4]) ag_47 0 rfl rfl rfl rfl) rfl <| tm rfl <| bE hp fun x17 hy23 hp => tc 0 [_] rfl c45 (fun _ => fettleref05_Next_ok (a1 := a1) (a6 := x10) (h3.mono subH) (h5.mono subH) hy23) rfl ?_
     rintro _ _ ⟨v18, F19, rfl, rfl, h20⟩
     refine ta rfl <| nz <| sr <| ta rfl <| nz <| TC.block <| bE hp fun z_26 hz27 hr28 => ?_
     have J32 {e31} (hq33 : .go () = z_26) : ∀ w, St E H [bx b9 47 [.int .i64 a1.params, .int .i64 a1.result, v2, v4]] w → K15 (ovr e31 [(1, v7), (2, .pointer (some ⟨b9, 0, none⟩)), (5, .int .i64 x10)]) w := by
      subst hq33
      replace hp : fettleref15_round.nx30 x10 = some X7 := hr28
      exact jn [0] (J18 hp)
     refine lp hz27 [1, 0] rfl (fun s e L => ∃ e25, e = ovr e25 [(1, v7), (2, .pointer (some ⟨b9, 0, none⟩)), (5, .int .i64 x10), (6, v18), (7, .int .i64 s)] ∧ L = [bx b9 47 [.int .i64 a1.params, .int .i64 a1.result, v2, v4], F19]) ⟨_, ovr_eq _ _ rfl, rfl⟩ ?_
     rintro x21 _ _ ⟨e25, rfl, rfl⟩ X29 hp hx30
     replace hp : fettleref15_round.bd30 a1 x10 x17 x21 = some X29 := hp
     refine TC.seq fun K34 k35 => sr <| tm rfl <| tm rfl <| tv (ln u38 h20.ro rfl) rfl <| tv (blt rfl rfl) rfl <| nz <| cD rfl hp (fun hc36 hp => ?_) fun hc36 hp => ?_
     · refine sk k35 rfl <| TC.seq fun K37 k38 => TC.block <| TC.seq fun K39 k40 => ch mix [bx b9 47 [.int .i64 a1.params, .int .i64 a1.result, v2, v4], F19] (srcG 0 rfl (srcG 1 rfl srcG0)) <| hv 0 rfl (lAG (ds := [.int .i64 a1.params, .int .i64 a1.result, v2, v4]) ag_47 0 rfl rfl rfl rfl) (by kernel_rfl) rfl <| hv 1 rfl mv (by kernel_rfl) rfl <| hv 2 rfl mv (by kernel_rfl) rfl <| hi 3 rfl u38 i3 (h20).ro hp rfl rfl rfl (by kernel_rfl) rfl ?_
       rintro x1223 b1224 o1225 _ hp rfl h1228
       refine hv 4 rfl (lr s3 (srcInG 1 rfl) h1228 0 rfl rfl) (by kernel_rfl) rfl <| ho 5 rfl (by kernel_rfl) fun K42 k43 => bE hp fun x2023 hy44 hp => tc 0 [_,_] rfl c22 (fun _ => fettleref05_From_ok (a1 := a1) (a6 := x1223) (a7 := -1) (h3.mono subH) (h5.mono subH) hy44) rfl ?_
       rintro _ _ ⟨v2024, F2025, rfl, rfl, h2026⟩
       refine hk k43 (srcG 1 rfl (srcG 2 rfl srcG0)) <| hv 6 rfl sg (by kernel_rfl) rfl <| hz (by kernel_rfl) <| tg k40 <| sr <| tm rfl <| tm rfl <| ti u69 i4 (h2026).ro hp rfl rfl rfl rfl ?_
       rintro x2823 b2824 o2825 _ hp rfl h2828
       refine tv (lr s4 (Src.at_ 0 rfl) h2828 0 rfl rfl) rfl <| nz <| cB rfl hp (fun hc47 hp => ?_) fun hc47 hp => ?_
       · refine sr <| ta rfl <| nz <| TC.ret ?_
         obtain rfl := ex_ret hp hx30
         obtain rfl := ex_ret hr28 hx8
         exact rt hr6 [] ⟨rfl, rfl⟩
       · exact sk k38 rfl <| TC.region <| tm rfl <| tv (bad rfl rfl) rfl <| ta rfl <| nl <| gk hp [1, 2] ⟨_, ovr_eq _ _ rfl, rfl⟩
     · exact TC.exit <| jn [0] (J32 (ex_ret hp hx30))
 · exact TC.exit <| jn [] (J10 (ex_ret hp hx8))

/-! ### fettle/fettleref15.join -/
abbrev fettleref15_join.R (r : PEffect) (v : Value) (A : List FP) : Prop := .agg #[.bool r.reads, .bool r.writes, .bool r.outs, .bool r.traps, .bool r.turns] = v ∧ A = []
def fettleref15_join (a1 : PEffect) (a2 : PEffect) : Option PEffect :=
  some (⟨(decide (a1.reads = true ∨ a2.reads = true)), (decide (a1.writes = true ∨ a2.writes = true)), (decide (a1.outs = true ∨ a2.outs = true)), (decide (a1.traps = true ∨ a2.traps = true)), (decide (a1.turns = true ∨ a2.turns = true))⟩ : PEffect)
set_option maxHeartbeats 4000000 in
theorem fettleref15_join_ok {E : World} {H : FP} {w : World} {a1 : PEffect} {a2 : PEffect} {r : PEffect}  (hp : fettleref15_join a1 a2 = some r) (hst : St E H [] w) :
    Fn Tryz.prog 46 #[.agg #[.bool a1.reads, .bool a1.writes, .bool a1.outs, .bool a1.traps, .bool a1.turns], .agg #[.bool a2.reads, .bool a2.writes, .bool a2.outs, .bool a2.traps, .bool a2.turns]] w fun v w' => ∃ A, fettleref15_join.R r v A ∧ St E H A w' := by
 refine Fn.bodyV (fn := Tryz.f46) (args := [.agg #[.bool a1.reads, .bool a1.writes, .bool a1.outs, .bool a1.traps, .bool a1.turns], .agg #[.bool a2.reads, .bool a2.writes, .bool a2.outs, .bool a2.traps, .bool a2.turns]]) E H [] 36 Tryz.func46 rfl rfl (leb rfl) hst <| sr <| tb [.bool a1.reads, .bool a1.writes, .bool a1.outs, .bool a1.traps, .bool a1.turns] rfl rfl fun b3 => tb [.bool a2.reads, .bool a2.writes, .bool a2.outs, .bool a2.traps, .bool a2.turns] rfl rfl fun b4 => tl i37 rfl fun b5 => nz <| sr <| tv (fa f37_0 rfl) rfl <| tv (lb s4 2 rfl rfl rfl) rfl <| tm rfl <| TL.cut 3 fun K1 k2 => ?_
 have J3 {e5} : ∀ w, St E H [bx b5 37 [.bool false, .bool false, .bool false, .bool false, .bool false], bx b4 37 [.bool a2.reads, .bool a2.writes, .bool a2.outs, .bool a2.traps, .bool a2.turns], bx b3 37 [.bool a1.reads, .bool a1.writes, .bool a1.outs, .bool a1.traps, .bool a1.turns]] w → K1 (ovr e5 [(10, .bool (decide (a1.reads = true ∨ a2.reads = true))), (2, .pointer (some ⟨b3, 0, none⟩)), (3, .pointer (some ⟨b4, 0, none⟩)), (4, .pointer (some ⟨b5, 0, none⟩))]) w := by
  refine tlg k2 <| tv (fa f37_1 rfl) rfl <| tv (lb s4 2 rfl rfl rfl) rfl <| tm rfl <| TL.cut 3 fun K6 k7 => ?_
  have J8 {e10} : ∀ w, St E H [bx b5 37 [.bool false, .bool false, .bool false, .bool false, .bool false], bx b4 37 [.bool a2.reads, .bool a2.writes, .bool a2.outs, .bool a2.traps, .bool a2.turns], bx b3 37 [.bool a1.reads, .bool a1.writes, .bool a1.outs, .bool a1.traps, .bool a1.turns]] w → K6 (ovr e10 [(16, .bool (decide (a1.writes = true ∨ a2.writes = true))), (2, .pointer (some ⟨b3, 0, none⟩)), (3, .pointer (some ⟨b4, 0, none⟩)), (4, .pointer (some ⟨b5, 0, none⟩)), (10, .bool (decide (a1.reads = true ∨ a2.reads = true)))]) w := by
   refine tlg k7 <| tv (fa f37_2 rfl) rfl <| tv (lb s4 2 rfl rfl rfl) rfl <| tm rfl <| TL.cut 3 fun K11 k12 => ?_
   have J13 {e15} : ∀ w, St E H [bx b5 37 [.bool false, .bool false, .bool false, .bool false, .bool false], bx b4 37 [.bool a2.reads, .bool a2.writes, .bool a2.outs, .bool a2.traps, .bool a2.turns], bx b3 37 [.bool a1.reads, .bool a1.writes, .bool a1.outs, .bool a1.traps, .bool a1.turns]] w → K11 (ovr e15 [(22, .bool (decide (a1.outs = true ∨ a2.outs = true))), (2, .pointer (some ⟨b3, 0, none⟩)), (3, .pointer (some ⟨b4, 0, none⟩)), (4, .pointer (some ⟨b5, 0, none⟩)), (10, .bool (decide (a1.reads = true ∨ a2.reads = true))), (16, .bool (decide (a1.writes = true ∨ a2.writes = true)))]) w := by
    refine tlg k12 <| tv (fa f37_3 rfl) rfl <| tv (lb s4 2 rfl rfl rfl) rfl <| tm rfl <| TL.cut 3 fun K16 k17 => ?_
    have J18 {e20} : ∀ w, St E H [bx b5 37 [.bool false, .bool false, .bool false, .bool false, .bool false], bx b4 37 [.bool a2.reads, .bool a2.writes, .bool a2.outs, .bool a2.traps, .bool a2.turns], bx b3 37 [.bool a1.reads, .bool a1.writes, .bool a1.outs, .bool a1.traps, .bool a1.turns]] w → K16 (ovr e20 [(28, .bool (decide (a1.traps = true ∨ a2.traps = true))), (2, .pointer (some ⟨b3, 0, none⟩)), (3, .pointer (some ⟨b4, 0, none⟩)), (4, .pointer (some ⟨b5, 0, none⟩)), (10, .bool (decide (a1.reads = true ∨ a2.reads = true))), (16, .bool (decide (a1.writes = true ∨ a2.writes = true))), (22, .bool (decide (a1.outs = true ∨ a2.outs = true)))]) w := by
     refine tlg k17 <| tv (fa f37_4 rfl) rfl <| tv (lb s4 2 rfl rfl rfl) rfl <| tm rfl <| TL.cut 3 fun K21 k22 => ?_
     have J23 {e25} : ∀ w, St E H [bx b5 37 [.bool false, .bool false, .bool false, .bool false, .bool false], bx b4 37 [.bool a2.reads, .bool a2.writes, .bool a2.outs, .bool a2.traps, .bool a2.turns], bx b3 37 [.bool a1.reads, .bool a1.writes, .bool a1.outs, .bool a1.traps, .bool a1.turns]] w → K21 (ovr e25 [(34, .bool (decide (a1.turns = true ∨ a2.turns = true))), (4, .pointer (some ⟨b5, 0, none⟩)), (10, .bool (decide (a1.reads = true ∨ a2.reads = true))), (16, .bool (decide (a1.writes = true ∨ a2.writes = true))), (22, .bool (decide (a1.outs = true ∨ a2.outs = true))), (28, .bool (decide (a1.traps = true ∨ a2.traps = true)))]) w := by
      refine tlg k22 <| tv (rv_bv (vs := [(0, .bool (decide (a1.reads = true ∨ a2.reads = true))), (1, .bool (decide (a1.writes = true ∨ a2.writes = true))), (2, .bool (decide (a1.outs = true ∨ a2.outs = true))), (3, .bool (decide (a1.traps = true ∨ a2.traps = true))), (4, .bool (decide (a1.turns = true ∨ a2.turns = true)))]) (ds := [.bool (decide (a1.reads = true ∨ a2.reads = true)), .bool (decide (a1.writes = true ∨ a2.writes = true)), .bool (decide (a1.outs = true ∨ a2.outs = true)), .bool (decide (a1.traps = true ∨ a2.traps = true)), .bool (decide (a1.turns = true ∨ a2.turns = true))]) rfl (fun w => by kernel_rfl)) rfl <| tS 0 m37 rfl rfl [.bool (decide (a1.reads = true ∨ a2.reads = true)), .bool (decide (a1.writes = true ∨ a2.writes = true)), .bool (decide (a1.outs = true ∨ a2.outs = true)), .bool (decide (a1.traps = true ∨ a2.traps = true)), .bool (decide (a1.turns = true ∨ a2.turns = true))] rfl (oc rfl (oc rfl (oc rfl (oc rfl (oc rfl oc0))))) rfl rfl <| nz <| TC.ret ?_
      obtain rfl := Option.some.inj hp
      exact fun w hw => retC1 hw rfl rfl ag_37 0 rfl rfl ⟨rfl, rfl⟩ (hw.pickA [] rfl)
     by_cases hc24 : a1.turns = true
     · exact gn rfl (bbT hc24) rfl rfl <| gn rfl (bbT hc24) rfl rfl <| tv (pT (bbT hc24)) rfl <| nj J23 (bOt hc24)
     · exact gy rfl (bbF hc24) <| tv (fa f37_4 rfl) rfl <| gy rfl (bbF hc24) <| tv (lb s4 1 rfl rfl rfl) rfl <| tv (pF (bbF hc24)) rfl <| nj J23 (bOf' hc24)
    by_cases hc19 : a1.traps = true
    · exact gn rfl (bbT hc19) rfl rfl <| gn rfl (bbT hc19) rfl rfl <| tv (pT (bbT hc19)) rfl <| nj J18 (bOt hc19)
    · exact gy rfl (bbF hc19) <| tv (fa f37_3 rfl) rfl <| gy rfl (bbF hc19) <| tv (lb s4 1 rfl rfl rfl) rfl <| tv (pF (bbF hc19)) rfl <| nj J18 (bOf' hc19)
   by_cases hc14 : a1.outs = true
   · exact gn rfl (bbT hc14) rfl rfl <| gn rfl (bbT hc14) rfl rfl <| tv (pT (bbT hc14)) rfl <| nj J13 (bOt hc14)
   · exact gy rfl (bbF hc14) <| tv (fa f37_2 rfl) rfl <| gy rfl (bbF hc14) <| tv (lb s4 1 rfl rfl rfl) rfl <| tv (pF (bbF hc14)) rfl <| nj J13 (bOf' hc14)
  by_cases hc9 : a1.writes = true
  · exact gn rfl (bbT hc9) rfl rfl <| gn rfl (bbT hc9) rfl rfl <| tv (pT (bbT hc9)) rfl <| nj J8 (bOt hc9)
  · exact gy rfl (bbF hc9) <| tv (fa f37_1 rfl) rfl <| gy rfl (bbF hc9) <| tv (lb s4 1 rfl rfl rfl) rfl <| tv (pF (bbF hc9)) rfl <| nj J8 (bOf' hc9)
 by_cases hc4 : a1.reads = true
 · exact gn rfl (bbT hc4) rfl rfl <| gn rfl (bbT hc4) rfl rfl <| tv (pT (bbT hc4)) rfl <| nj J3 (bOt hc4)
 · exact gy rfl (bbF hc4) <| tv (fa f37_0 rfl) rfl <| gy rfl (bbF hc4) <| tv (lb s4 1 rfl rfl rfl) rfl <| tv (pF (bbF hc4)) rfl <| nj J3 (bOf' hc4)

/-! ### fettle/fettleref15.once -/
abbrev fettleref15_once.R (r : PEffect) (v : Value) (A : List FP) : Prop := .agg #[.bool r.reads, .bool r.writes, .bool r.outs, .bool r.traps, .bool r.turns] = v ∧ A = []
def fettleref15_once.nx12  (x38 : Bool) (x39 : Bool) (x40 : Bool) (x41 : Bool) (x42 : Bool) : Option PEffect :=
  some (⟨x38, x39, x40, x41, x42⟩ : PEffect)
def fettleref15_once.nx26 (x37 : Int) (x49 : Bool) (x50 : Bool) (x51 : Bool) (x52 : Bool) (x53 : Bool) : Option (Ex (Bool × Bool × Bool × Bool × Bool) (Bool × Bool × Bool × Bool × Bool × Int)) :=
  some (.go (x49, x50, x51, x52, x53, (w64 (x37 + 1))))
def fettleref15_once.jn42 (x48 : Int) (x67 : Bool) (x68 : Bool) (x69 : Bool) (x70 : Bool) (x71 : Bool) : Option (Ex (Bool × Bool × Bool × Bool × Bool) (Bool × Bool × Bool × Bool × Bool × Int)) :=
  some (.go (x67, x68, x69, x70, x71, (w64 (x48 + 1))))
def fettleref15_once.bd26 (a5 : List PEffect) (x10 : PFunc) (x21 : List Bool) (x37 : Int) (x43 : Bool) (x44 : Bool) (x45 : Bool) (x46 : Bool) (x47 : Bool) (x48 : Int) : Option (Ex (Bool × Bool × Bool × Bool × Bool) (Bool × Bool × Bool × Bool × Bool × Int)) :=
  (idx x10.blocks x37).bind fun x54 =>
  (if x48 < (len x54.ins) then (idx x21 x37).bind fun x3294 =>
  some x3294 else some false).bind fun t66 =>
  if t66 = true then
    (idx x10.blocks x37).bind fun x72 =>
    (idx x72.ins x48).bind fun x84 =>
    if x84.op = 17 then
      (idx a5 x84.fn).bind fun x1694 =>
      (fettleref15_join (⟨(decide (x43 = true ∨ x84.op = 15)), (decide (x44 = true ∨ x84.op = 16)), (decide (x45 = true ∨ x84.op = 18)), (decide (((x46 = true ∨ x84.op = 11) ∨ x84.op = 15) ∨ x84.op = 16)), x47⟩ : PEffect) x1694).bind fun x2494 =>
      fettleref15_once.jn42 x48 x2494.reads x2494.writes x2494.outs x2494.traps x2494.turns
    else
      fettleref15_once.jn42 x48 (decide (x43 = true ∨ x84.op = 15)) (decide (x44 = true ∨ x84.op = 16)) (decide (x45 = true ∨ x84.op = 18)) (decide (((x46 = true ∨ x84.op = 11) ∨ x84.op = 15) ∨ x84.op = 16)) x47
  else
    some (.ret (x43, x44, x45, x46, x47))
def fettleref15_once.bd12 (a5 : List PEffect) (x10 : PFunc) (x21 : List Bool) (x32 : Bool) (x33 : Bool) (x34 : Bool) (x35 : Bool) (x36 : Bool) (x37 : Int) : Option (Ex (Bool × Bool × Bool × Bool × Bool) (Bool × Bool × Bool × Bool × Bool × Int)) :=
  if x37 < (len x21) then
    (whl (fun (s : (Bool × Bool × Bool × Bool × Bool × Int)) => fettleref15_once.bd26 a5 x10 x21 x37 s.1 s.2.1 s.2.2.1 s.2.2.2.1 s.2.2.2.2.1 s.2.2.2.2.2) FUEL (x32, x33, x34, x35, x36, 0)).bind fun z =>
    fettleref15_once.nx26 x37 z.1 z.2.1 z.2.2.1 z.2.2.2.1 z.2.2.2.2
  else
    some (.ret (x32, x33, x34, x35, x36))
def fettleref15_once (a1 : PModule) (a4 : Int) (a5 : List PEffect) : Option PEffect :=
  (idx a1.funcs a4).bind fun x10 =>
  (fettleref05_From x10 0 (-1)).bind fun x21 =>
  (idx a5 a4).bind fun x25 =>
  (whl (fun (s : (Bool × Bool × Bool × Bool × Bool × Int)) => fettleref15_once.bd12 a5 x10 x21 s.1 s.2.1 s.2.2.1 s.2.2.2.1 s.2.2.2.2.1 s.2.2.2.2.2) FUEL (x25.reads, x25.writes, x25.outs, x25.traps, x25.turns, 0)).bind fun z =>
  fettleref15_once.nx12 z.1 z.2.1 z.2.2.1 z.2.2.2.1 z.2.2.2.2
set_option maxHeartbeats 4000000 in
theorem fettleref15_once_ok {E : World} {H : FP} {w : World} {a1 : PModule} {a4 : Int} {a5 : List PEffect} {v2 : Value} {v6 : Value} {r : PEffect} (h3 : SlI kFunc H a1.funcs v2) (h7 : SlI kEffect H a5 v6) (hp : fettleref15_once a1 a4 a5 = some r) (hst : St E H [] w) :
    Fn Tryz.prog 24 #[.agg #[v2], .int .i64 a4, v6] w fun v w' => ∃ A, fettleref15_once.R r v A ∧ St E H A w' := by
 refine Fn.bodyV (fn := Tryz.f24) (args := [.agg #[v2], .int .i64 a4, v6]) E H [] 109 Tryz.func24 rfl rfl (leb rfl) hst <| sr <| tb [v2] rfl rfl fun b8 => tl i37 rfl fun b9 => nz <| sr <| tv (fa f24_0 rfl) rfl <| tv (lb s22 1 rfl rfl rfl) rfl <| tm rfl <| ti u22 i47 h3 hp rfl rfl rfl rfl ?_
 rintro x10 b11 o12 _ hp ⟨v16, v18, rfl, h17, h19⟩ h15
 refine tv (lR (ds := [.int .i64 x10.params, .int .i64 x10.result, v16, v18]) ag_47 sH h15 0 rfl rfl rfl) rfl <| tl i47 rfl fun b20 => tS 0 m47 rfl rfl [.int .i64 x10.params, .int .i64 x10.result, v16, v18] rfl (oc rfl (oc rfl (oc (h17).one (oc (h19).one oc0)))) rfl rfl <| nz <| sr <| tv (lA (ds := [.int .i64 x10.params, .int .i64 x10.result, v16, v18]) ag_47 0 rfl rfl rfl rfl) rfl <| bE hp fun x21 hy2 hp => tc 0 [_,_,_] rfl c22 (fun _ => fettleref05_From_ok (a1 := x10) (a6 := 0) (a7 := -1) (h17.mono subH) (h19.mono subH) hy2) rfl ?_
 rintro _ _ ⟨v22, F23, rfl, rfl, h24⟩
 refine ta rfl <| nz <| sr <| tm rfl <| tm rfl <| ti u27 i37 h7 hp rfl rfl rfl rfl ?_
 rintro x25 b26 o27 _ hp rfl h30
 refine tv (lR (ds := [.bool x25.reads, .bool x25.writes, .bool x25.outs, .bool x25.traps, .bool x25.turns]) ag_37 sH h30 0 rfl rfl rfl) rfl <| tl i37 rfl fun b31 => tS 0 m37 rfl rfl [.bool x25.reads, .bool x25.writes, .bool x25.outs, .bool x25.traps, .bool x25.turns] rfl (oc rfl (oc rfl (oc rfl (oc rfl (oc rfl oc0))))) rfl rfl <| nz <| TC.seq fun K5 k6 => sr <| ta rfl <| nz <| TC.block <| bE hp fun z_8 hz9 hr10 => ?_
 have J14 {x38 x39 x40 x41 x42 e13} (hq15 : (x38, x39, x40, x41, x42) = z_8) : ∀ w, St E H [bx b9 37 [.bool false, .bool false, .bool false, .bool false, .bool false], bx b31 37 [.bool x38, .bool x39, .bool x40, .bool x41, .bool x42]] w → K5 (ovr e13 [(6, .pointer (some ⟨b9, 0, none⟩)), (9, .pointer (some ⟨b31, 0, none⟩))]) w := by
  subst hq15
  replace hp : fettleref15_once.nx12 x38 x39 x40 x41 x42 = some r := hr10
  refine tg k6 <| sr <| tv (lA (ds := [.bool x38, .bool x39, .bool x40, .bool x41, .bool x42]) ag_37 1 rfl rfl rfl rfl) rfl <| tS 0 m37 rfl rfl [.bool x38, .bool x39, .bool x40, .bool x41, .bool x42] rfl (oc rfl (oc rfl (oc rfl (oc rfl (oc rfl oc0))))) rfl rfl <| nz <| TC.ret ?_
  obtain rfl := Option.some.inj hp
  exact fun w hw => retC1 hw rfl rfl ag_37 0 rfl rfl ⟨rfl, rfl⟩ (hw.pickA [] rfl)
 refine lp hz9 [3, 2, 1, 0] rfl (fun s e L => ∃ x32 x33 x34 x35 x36 x37 e7, s = (x32, x33, x34, x35, x36, x37) ∧ e = ovr e7 [(2, v6), (6, .pointer (some ⟨b9, 0, none⟩)), (7, .pointer (some ⟨b20, 0, none⟩)), (8, v22), (9, .pointer (some ⟨b31, 0, none⟩)), (10, .int .i64 x37)] ∧ L = [bx b9 37 [.bool false, .bool false, .bool false, .bool false, .bool false], bx b20 47 [.int .i64 x10.params, .int .i64 x10.result, v16, v18], F23, bx b31 37 [.bool x32, .bool x33, .bool x34, .bool x35, .bool x36]]) ⟨_, _, _, _, _, _, _, rfl, ovr_eq _ _ rfl, rfl⟩ ?_
 rintro _ _ _ ⟨x32, x33, x34, x35, x36, x37, e7, rfl, rfl, rfl⟩ X11 hp hx12
 replace hp : fettleref15_once.bd12 a5 x10 x21 x32 x33 x34 x35 x36 x37 = some X11 := hp
 refine TC.seq fun K16 k17 => sr <| tm rfl <| tm rfl <| tv (ln u69 h24.ro rfl) rfl <| tv (blt rfl rfl) rfl <| nz <| cD rfl hp (fun hc18 hp => ?_) fun hc18 hp => ?_
 · refine sk k17 rfl <| TC.seq fun K19 k20 => TC.block <| sr <| ta rfl <| nz <| TC.block <| bE hp fun z_22 hz23 hr24 => ?_
   have J28 {x49 x50 x51 x52 x53 e27} (hq29 : (x49, x50, x51, x52, x53) = z_22) : ∀ w, St E H [bx b9 37 [.bool false, .bool false, .bool false, .bool false, .bool false], bx b20 47 [.int .i64 x10.params, .int .i64 x10.result, v16, v18], F23, bx b31 37 [.bool x49, .bool x50, .bool x51, .bool x52, .bool x53]] w → K19 (ovr e27 [(2, v6), (6, .pointer (some ⟨b9, 0, none⟩)), (7, .pointer (some ⟨b20, 0, none⟩)), (8, v22), (9, .pointer (some ⟨b31, 0, none⟩)), (10, .int .i64 x37)]) w := by
    subst hq29
    replace hp : fettleref15_once.nx26 x37 x49 x50 x51 x52 x53 = some X11 := hr24
    exact tg k20 <| TC.region <| tm rfl <| tv (bad rfl rfl) rfl <| ta rfl <| nl <| gk hp [0, 1, 2, 3] ⟨_, _, _, _, _, _, _, rfl, ovr_eq _ _ rfl, rfl⟩
   refine lp hz23 [0, 1, 2, 3] rfl (fun s e L => ∃ x43 x44 x45 x46 x47 x48 e21, s = (x43, x44, x45, x46, x47, x48) ∧ e = ovr e21 [(2, v6), (6, .pointer (some ⟨b9, 0, none⟩)), (7, .pointer (some ⟨b20, 0, none⟩)), (8, v22), (9, .pointer (some ⟨b31, 0, none⟩)), (10, .int .i64 x37), (11, .int .i64 x48)] ∧ L = [bx b9 37 [.bool false, .bool false, .bool false, .bool false, .bool false], bx b20 47 [.int .i64 x10.params, .int .i64 x10.result, v16, v18], F23, bx b31 37 [.bool x43, .bool x44, .bool x45, .bool x46, .bool x47]]) ⟨_, _, _, _, _, _, _, rfl, ovr_eq _ _ rfl, rfl⟩ ?_
   rintro _ _ _ ⟨x43, x44, x45, x46, x47, x48, e21, rfl, rfl, rfl⟩ X25 hp hx26
   replace hp : fettleref15_once.bd26 a5 x10 x21 x37 x43 x44 x45 x46 x47 x48 = some X25 := hp
   refine TC.seq fun K30 k31 => sr <| tm rfl <| tv (fa f47_3 rfl) rfl <| tv (lb s45 1 rfl rfl rfl) rfl <| tm rfl <| ti u45 i44 h19 hp rfl rfl rfl rfl ?_
   rintro x54 b55 o56 _ hp ⟨v60, v62, v64, rfl, h61, h63, h65⟩ h59
   refine tv (fa f44_1 rfl) rfl <| tv (lr s42 sH h59 1 rfl rfl) rfl <| tv (ln u42 h63 rfl) rfl <| tv (blt rfl rfl) rfl <| tm rfl <| bE hp fun t66 ht85 hp => TL.cut 5 fun K33 k34 => ?_
   have J35 {e37} : ∀ w, St E H [bx b9 37 [.bool false, .bool false, .bool false, .bool false, .bool false], bx b20 47 [.int .i64 x10.params, .int .i64 x10.result, v16, v18], F23, bx b31 37 [.bool x43, .bool x44, .bool x45, .bool x46, .bool x47]] w → K33 (ovr e37 [(44, .bool t66), (2, v6), (6, .pointer (some ⟨b9, 0, none⟩)), (7, .pointer (some ⟨b20, 0, none⟩)), (8, v22), (9, .pointer (some ⟨b31, 0, none⟩)), (10, .int .i64 x37), (11, .int .i64 x48)]) w := by
    refine tlg k34 <| nz <| cB rfl hp (fun hc38 hp => ?_) fun hc38 hp => ?_
    · refine sk k31 rfl <| TC.seq fun K39 k40 => ?_
      have J42 {x67 x68 x69 x70 x71 e41} (hp : fettleref15_once.jn42 x48 x67 x68 x69 x70 x71 = some X25) : ∀ w, St E H [bx b9 37 [.bool false, .bool false, .bool false, .bool false, .bool false], bx b20 47 [.int .i64 x10.params, .int .i64 x10.result, v16, v18], F23, bx b31 37 [.bool x67, .bool x68, .bool x69, .bool x70, .bool x71]] w → K39 (ovr e41 [(2, v6), (6, .pointer (some ⟨b9, 0, none⟩)), (7, .pointer (some ⟨b20, 0, none⟩)), (8, v22), (9, .pointer (some ⟨b31, 0, none⟩)), (10, .int .i64 x37), (11, .int .i64 x48)]) w := by
       exact tg k40 <| TC.region <| tm rfl <| tv (bad rfl rfl) rfl <| ta rfl <| nl <| gk hp [0, 1, 2, 3] ⟨_, _, _, _, _, _, _, rfl, ovr_eq _ _ rfl, rfl⟩
      refine TC.block <| sr <| tv (fa f47_3 rfl) rfl <| tv (lb s45 1 rfl rfl rfl) rfl <| tm rfl <| ti u45 i44 h19 hp rfl rfl rfl rfl ?_
      rintro x72 b73 o74 _ hp ⟨v78, v80, v82, rfl, h79, h81, h83⟩ h77
      refine tv (fa f44_1 rfl) rfl <| tv (lr s42 sH h77 1 rfl rfl) rfl <| tm rfl <| ti u42 i50 h81 hp rfl rfl rfl rfl ?_
      rintro x84 b85 o86 _ hp ⟨v90, rfl, h91⟩ h89
      refine tv (lR (ds := [.int .i64 x84.op, .int .i64 x84.dst, v90, .int .i64 x84.imm, .int .i64 x84.fn]) ag_50 sH h89 0 rfl rfl rfl) rfl <| tl i50 rfl fun b92 => tS 0 m50 rfl rfl [.int .i64 x84.op, .int .i64 x84.dst, v90, .int .i64 x84.imm, .int .i64 x84.fn] rfl (oc rfl (oc rfl (oc (h91).one (oc rfl (oc rfl oc0))))) rfl rfl <| nz <| sr <| tv (fa f37_0 rfl) rfl <| tv (lb s4 4 rfl rfl rfl) rfl <| tm rfl <| TL.cut 4 fun K45 k46 => ?_
      have J47 {e49} : ∀ w, St E H [bx b92 50 [.int .i64 x84.op, .int .i64 x84.dst, v90, .int .i64 x84.imm, .int .i64 x84.fn], bx b9 37 [.bool false, .bool false, .bool false, .bool false, .bool false], bx b20 47 [.int .i64 x10.params, .int .i64 x10.result, v16, v18], F23, bx b31 37 [.bool x43, .bool x44, .bool x45, .bool x46, .bool x47]] w → K45 (ovr e49 [(62, .bool (decide (x43 = true ∨ x84.op = 15))), (2, v6), (6, .pointer (some ⟨b9, 0, none⟩)), (7, .pointer (some ⟨b20, 0, none⟩)), (8, v22), (9, .pointer (some ⟨b31, 0, none⟩)), (10, .int .i64 x37), (11, .int .i64 x48), (12, .pointer (some ⟨b92, 0, none⟩))]) w := by
       refine tlg k46 <| tv (fa f37_0 rfl) rfl <| ts 4 m4 rfl rfl w1 rfl <| nz <| sr <| tv (fa f37_1 rfl) rfl <| tv (lb s4 4 rfl rfl rfl) rfl <| tm rfl <| TL.cut 4 fun K50 k51 => ?_
       have J52 {e54} : ∀ w, St E H [bx b92 50 [.int .i64 x84.op, .int .i64 x84.dst, v90, .int .i64 x84.imm, .int .i64 x84.fn], bx b9 37 [.bool false, .bool false, .bool false, .bool false, .bool false], bx b20 47 [.int .i64 x10.params, .int .i64 x10.result, v16, v18], F23, bx b31 37 [.bool (decide (x43 = true ∨ x84.op = 15)), .bool x44, .bool x45, .bool x46, .bool x47]] w → K50 (ovr e54 [(70, .bool (decide (x44 = true ∨ x84.op = 16))), (2, v6), (6, .pointer (some ⟨b9, 0, none⟩)), (7, .pointer (some ⟨b20, 0, none⟩)), (8, v22), (9, .pointer (some ⟨b31, 0, none⟩)), (10, .int .i64 x37), (11, .int .i64 x48), (12, .pointer (some ⟨b92, 0, none⟩))]) w := by
        refine tlg k51 <| tv (fa f37_1 rfl) rfl <| ts 4 m4 rfl rfl w1 rfl <| nz <| sr <| tv (fa f37_2 rfl) rfl <| tv (lb s4 4 rfl rfl rfl) rfl <| tm rfl <| TL.cut 4 fun K55 k56 => ?_
        have J57 {e59} : ∀ w, St E H [bx b92 50 [.int .i64 x84.op, .int .i64 x84.dst, v90, .int .i64 x84.imm, .int .i64 x84.fn], bx b9 37 [.bool false, .bool false, .bool false, .bool false, .bool false], bx b20 47 [.int .i64 x10.params, .int .i64 x10.result, v16, v18], F23, bx b31 37 [.bool (decide (x43 = true ∨ x84.op = 15)), .bool (decide (x44 = true ∨ x84.op = 16)), .bool x45, .bool x46, .bool x47]] w → K55 (ovr e59 [(78, .bool (decide (x45 = true ∨ x84.op = 18))), (2, v6), (6, .pointer (some ⟨b9, 0, none⟩)), (7, .pointer (some ⟨b20, 0, none⟩)), (8, v22), (9, .pointer (some ⟨b31, 0, none⟩)), (10, .int .i64 x37), (11, .int .i64 x48), (12, .pointer (some ⟨b92, 0, none⟩))]) w := by
         refine tlg k56 <| tv (fa f37_2 rfl) rfl <| ts 4 m4 rfl rfl w1 rfl <| nz <| sr <| tv (fa f37_3 rfl) rfl <| tv (lb s4 4 rfl rfl rfl) rfl <| tm rfl <| TL.cut 4 fun K60 k61 => ?_
         have J62 {e64} : ∀ w, St E H [bx b92 50 [.int .i64 x84.op, .int .i64 x84.dst, v90, .int .i64 x84.imm, .int .i64 x84.fn], bx b9 37 [.bool false, .bool false, .bool false, .bool false, .bool false], bx b20 47 [.int .i64 x10.params, .int .i64 x10.result, v16, v18], F23, bx b31 37 [.bool (decide (x43 = true ∨ x84.op = 15)), .bool (decide (x44 = true ∨ x84.op = 16)), .bool (decide (x45 = true ∨ x84.op = 18)), .bool x46, .bool x47]] w → K60 (ovr e64 [(86, .bool (decide (x46 = true ∨ x84.op = 11))), (2, v6), (6, .pointer (some ⟨b9, 0, none⟩)), (7, .pointer (some ⟨b20, 0, none⟩)), (8, v22), (9, .pointer (some ⟨b31, 0, none⟩)), (10, .int .i64 x37), (11, .int .i64 x48), (12, .pointer (some ⟨b92, 0, none⟩))]) w := by
          refine tlg k61 <| tm rfl <| TL.cut 4 fun K65 k66 => ?_
          have J67 {e69} : ∀ w, St E H [bx b92 50 [.int .i64 x84.op, .int .i64 x84.dst, v90, .int .i64 x84.imm, .int .i64 x84.fn], bx b9 37 [.bool false, .bool false, .bool false, .bool false, .bool false], bx b20 47 [.int .i64 x10.params, .int .i64 x10.result, v16, v18], F23, bx b31 37 [.bool (decide (x43 = true ∨ x84.op = 15)), .bool (decide (x44 = true ∨ x84.op = 16)), .bool (decide (x45 = true ∨ x84.op = 18)), .bool x46, .bool x47]] w → K65 (ovr e69 [(91, .bool (decide ((x46 = true ∨ x84.op = 11) ∨ x84.op = 15))), (2, v6), (6, .pointer (some ⟨b9, 0, none⟩)), (7, .pointer (some ⟨b20, 0, none⟩)), (8, v22), (9, .pointer (some ⟨b31, 0, none⟩)), (10, .int .i64 x37), (11, .int .i64 x48), (12, .pointer (some ⟨b92, 0, none⟩))]) w := by
           refine tlg k66 <| tm rfl <| TL.cut 4 fun K70 k71 => ?_
           have J72 {e74} : ∀ w, St E H [bx b92 50 [.int .i64 x84.op, .int .i64 x84.dst, v90, .int .i64 x84.imm, .int .i64 x84.fn], bx b9 37 [.bool false, .bool false, .bool false, .bool false, .bool false], bx b20 47 [.int .i64 x10.params, .int .i64 x10.result, v16, v18], F23, bx b31 37 [.bool (decide (x43 = true ∨ x84.op = 15)), .bool (decide (x44 = true ∨ x84.op = 16)), .bool (decide (x45 = true ∨ x84.op = 18)), .bool x46, .bool x47]] w → K70 (ovr e74 [(96, .bool (decide (((x46 = true ∨ x84.op = 11) ∨ x84.op = 15) ∨ x84.op = 16))), (2, v6), (6, .pointer (some ⟨b9, 0, none⟩)), (7, .pointer (some ⟨b20, 0, none⟩)), (8, v22), (9, .pointer (some ⟨b31, 0, none⟩)), (10, .int .i64 x37), (11, .int .i64 x48), (12, .pointer (some ⟨b92, 0, none⟩))]) w := by
            refine tlg k71 <| tv (fa f37_3 rfl) rfl <| ts 4 m4 rfl rfl w1 rfl <| nz <| sr <| tv (fa f50_0 rfl) rfl <| tv (lb s3 0 rfl rfl rfl) rfl <| tv (beq rfl rfl) rfl <| nz <| cD rfl hp (fun hc75 hp => ?_) fun hc75 hp => ?_
            · refine ch mix [bx b92 50 [.int .i64 x84.op, .int .i64 x84.dst, v90, .int .i64 x84.imm, .int .i64 x84.fn], bx b9 37 [.bool false, .bool false, .bool false, .bool false, .bool false], bx b20 47 [.int .i64 x10.params, .int .i64 x10.result, v16, v18], F23] (srcG 0 rfl (srcG 1 rfl (srcG 2 rfl (srcG 3 rfl srcG0)))) <| hv 1 rfl mv (by kernel_rfl) rfl <| hv 2 rfl (fa f50_4 rfl) (by kernel_rfl) rfl <| hv 3 rfl (lbG s3 0 rfl rfl rfl) (by kernel_rfl) rfl <| hi 4 rfl u27 i37 h7 hp rfl rfl rfl (by kernel_rfl) rfl ?_
              rintro x1694 b1695 o1696 _ hp rfl h1699
              refine hv 5 rfl (lR (ds := [.bool x1694.reads, .bool x1694.writes, .bool x1694.outs, .bool x1694.traps, .bool x1694.turns]) ag_37 srcInH h1699 0 rfl rfl rfl) (by kernel_rfl) rfl <| ho 0 rfl (by kernel_rfl) fun K77 k78 => tv (lA (ds := [.bool (decide (x43 = true ∨ x84.op = 15)), .bool (decide (x44 = true ∨ x84.op = 16)), .bool (decide (x45 = true ∨ x84.op = 18)), .bool (decide (((x46 = true ∨ x84.op = 11) ∨ x84.op = 15) ∨ x84.op = 16)), .bool x47]) ag_37 4 rfl rfl rfl rfl) rfl <| hk k78 (srcG 0 rfl (srcG 1 rfl (srcG 2 rfl (srcG 3 rfl srcG0)))) <| ho 6 rfl (by kernel_rfl) fun K79 k80 => bE hp fun x2494 hy81 hp => tc 0 [_,_,_,_,_] rfl c46 (fun _ => fettleref15_join_ok (a1 := (⟨(decide (x43 = true ∨ x84.op = 15)), (decide (x44 = true ∨ x84.op = 16)), (decide (x45 = true ∨ x84.op = 18)), (decide (((x46 = true ∨ x84.op = 11) ∨ x84.op = 15) ∨ x84.op = 16)), x47⟩ : PEffect)) (a2 := x1694) hy81) rfl ?_
              rintro _ _ ⟨rfl, rfl⟩
              exact hk k80 (srcG 0 rfl (srcG 1 rfl (srcG 2 rfl (srcG 3 rfl srcG0)))) <| ho 7 rfl (by kernel_rfl) fun K83 k84 => tS 4 m37 rfl rfl [.bool x2494.reads, .bool x2494.writes, .bool x2494.outs, .bool x2494.traps, .bool x2494.turns] rfl (oc rfl (oc rfl (oc rfl (oc rfl (oc rfl oc0))))) rfl rfl <| hk k84 (srcG 0 rfl (srcG 1 rfl (srcG 2 rfl (srcG 3 rfl srcG0)))) <| hz (by kernel_rfl) <| jn [1, 2, 3, 4] (J42 hp)
            · exact TC.skip <| jn [1, 2, 3, 4] (J42 hp)
           by_cases hc73 : (x46 = true ∨ x84.op = 11) ∨ x84.op = 15
           · exact gn rfl (bT hc73) rfl rfl <| gn rfl (bT hc73) rfl rfl <| gn rfl (bT hc73) rfl rfl <| tv (pT (bT hc73)) rfl <| nj J72 (bOt hc73)
           · exact gy rfl (bF hc73) <| tv (fa f50_0 rfl) rfl <| gy rfl (bF hc73) <| tv (lb s3 0 rfl rfl rfl) rfl <| gy rfl (bF hc73) <| tv (beq rfl rfl) rfl <| tv (pF (bF hc73)) rfl <| nj J72 (bOf hc73)
          by_cases hc68 : x46 = true ∨ x84.op = 11
          · exact gn rfl (bT hc68) rfl rfl <| gn rfl (bT hc68) rfl rfl <| gn rfl (bT hc68) rfl rfl <| tv (pT (bT hc68)) rfl <| nj J67 (bOt hc68)
          · exact gy rfl (bF hc68) <| tv (fa f50_0 rfl) rfl <| gy rfl (bF hc68) <| tv (lb s3 0 rfl rfl rfl) rfl <| gy rfl (bF hc68) <| tv (beq rfl rfl) rfl <| tv (pF (bF hc68)) rfl <| nj J67 (bOf hc68)
         by_cases hc63 : x46 = true
         · exact gn rfl (bbT hc63) rfl rfl <| gn rfl (bbT hc63) rfl rfl <| gn rfl (bbT hc63) rfl rfl <| tv (pT (bbT hc63)) rfl <| nj J62 (bOt hc63)
         · exact gy rfl (bbF hc63) <| tv (fa f50_0 rfl) rfl <| gy rfl (bbF hc63) <| tv (lb s3 0 rfl rfl rfl) rfl <| gy rfl (bbF hc63) <| tv (beq rfl rfl) rfl <| tv (pF (bbF hc63)) rfl <| nj J62 (bOf hc63)
        by_cases hc58 : x45 = true
        · exact gn rfl (bbT hc58) rfl rfl <| gn rfl (bbT hc58) rfl rfl <| gn rfl (bbT hc58) rfl rfl <| tv (pT (bbT hc58)) rfl <| nj J57 (bOt hc58)
        · exact gy rfl (bbF hc58) <| tv (fa f50_0 rfl) rfl <| gy rfl (bbF hc58) <| tv (lb s3 0 rfl rfl rfl) rfl <| gy rfl (bbF hc58) <| tv (beq rfl rfl) rfl <| tv (pF (bbF hc58)) rfl <| nj J57 (bOf hc58)
       by_cases hc53 : x44 = true
       · exact gn rfl (bbT hc53) rfl rfl <| gn rfl (bbT hc53) rfl rfl <| gn rfl (bbT hc53) rfl rfl <| tv (pT (bbT hc53)) rfl <| nj J52 (bOt hc53)
       · exact gy rfl (bbF hc53) <| tv (fa f50_0 rfl) rfl <| gy rfl (bbF hc53) <| tv (lb s3 0 rfl rfl rfl) rfl <| gy rfl (bbF hc53) <| tv (beq rfl rfl) rfl <| tv (pF (bbF hc53)) rfl <| nj J52 (bOf hc53)
      by_cases hc48 : x43 = true
      · exact gn rfl (bbT hc48) rfl rfl <| gn rfl (bbT hc48) rfl rfl <| gn rfl (bbT hc48) rfl rfl <| tv (pT (bbT hc48)) rfl <| nj J47 (bOt hc48)
      · exact gy rfl (bbF hc48) <| tv (fa f50_0 rfl) rfl <| gy rfl (bbF hc48) <| tv (lb s3 0 rfl rfl rfl) rfl <| gy rfl (bbF hc48) <| tv (beq rfl rfl) rfl <| tv (pF (bbF hc48)) rfl <| nj J47 (bOf hc48)
    · exact TC.exit <| jn [0, 1, 2, 3] (J28 (ex_ret hp hx26))
   refine ifE ht85 (fun hc36 hp => ?_) fun hc36 hp => ?_
   · refine gy rfl (bT hc36) <| tm rfl <| gy rfl (bT hc36) <| tm rfl <| gy rfl (bT hc36) <| ti u69 i4 (h24).ro hp rfl rfl rfl rfl ?_
     rintro x3294 b3295 o3296 _ hp rfl h3299
     refine gy rfl (bT hc36) <| tv (lr s4 (Src.at_ 2 rfl) h3299 0 rfl rfl) rfl <| tv (pT (bT hc36)) rfl ?_
     obtain rfl := Option.some.inj hp
     exact nj J35 rfl
   · refine gn rfl (bF hc36) rfl rfl <| gn rfl (bF hc36) rfl rfl <| gn rfl (bF hc36) rfl rfl <| gn rfl (bF hc36) rfl rfl <| tv (pF (bF hc36)) rfl ?_
     obtain rfl := Option.some.inj hp
     exact nj J35 rfl
 · exact TC.exit <| jn [0, 3] (J14 (ex_ret hp hx12))

/-! ### fettle/fettleref15.Effects -/
abbrev fettleref15_Effects.R (r : List PEffect) (v : Value) (A : List FP) : Prop := ∃ (w1 : Value) (G1 : FP), w1 = v ∧ A = [G1] ∧ SlO 37 kEffect r w1 G1
def fettleref15_Effects.nx20  (x24 : List PEffect) : Option (List PEffect) :=
  some x24
def fettleref15_Effects.nx34 (x23 : Int) (x31 : List PEffect) : Option (Ex (List PEffect) (List PEffect × Int)) :=
  some (.go (x31, (w64 (x23 + 1))))
def fettleref15_Effects.bd34 (a1 : PModule) (x27 : List PEffect) (x30 : Int) : Option (Ex (List PEffect) (List PEffect × Int)) :=
  if x30 < (len x27) then
    (fettleref15_once a1 x30 x27).bind fun x34 =>
    (idx x27 x30).bind fun x35 =>
    some (.go ((x27.set (x30).toNat x34), (w64 (x30 + 1))))
  else
    some (.ret x27)
def fettleref15_Effects.bd20 (a1 : PModule) (x20 : List PEffect) (x23 : Int) : Option (Ex (List PEffect) (List PEffect × Int)) :=
  if x23 ≤ (len x20) then
    (whl (fun (s : (List PEffect × Int)) => fettleref15_Effects.bd34 a1 s.1 s.2) FUEL (x20, 0)).bind fun z =>
    fettleref15_Effects.nx34 x23 z
  else
    some (.ret x20)
def fettleref15_Effects.nx11 (a1 : PModule) (x17 : List PEffect) : Option (List PEffect) :=
  (whl (fun (s : (List PEffect × Int)) => fettleref15_Effects.bd20 a1 s.1 s.2) FUEL (x17, 0)).bind fun z =>
  fettleref15_Effects.nx20 z
def fettleref15_Effects.bd11 (a1 : PModule) (x9 : List (List Bool)) (x13 : List PEffect) (x16 : Int) : Option (Ex (List PEffect) (List PEffect × Int)) :=
  if x16 < (len x13) then
    (idx a1.funcs x16).bind fun x41 =>
    (fettleref05_From x41 0 (-1)).bind fun x51 =>
    (idx x9 x16).bind fun x55 =>
    (idx x55 x16).bind fun x63 =>
    (if x63 = true then some true else (idx a1.funcs x16).bind fun x81 =>
    (fettleref15_round x81 x51).bind fun x91 =>
    some x91).bind fun t69 =>
    (idx x13 x16).bind fun x70 =>
    some (.go ((x13.set (x16).toNat (⟨x70.reads, x70.writes, x70.outs, x70.traps, t69⟩ : PEffect)), (w64 (x16 + 1))))
  else
    some (.ret x13)
def fettleref15_Effects (a1 : PModule) : Option (List PEffect) :=
  (mkl (len a1.funcs) PEffect.zero).bind fun x5 =>
  (fettleref09_To a1).bind fun x9 =>
  (whl (fun (s : (List PEffect × Int)) => fettleref15_Effects.bd11 a1 x9 s.1 s.2) FUEL (x5, 0)).bind fun z =>
  fettleref15_Effects.nx11 a1 z
set_option maxHeartbeats 4000000 in
theorem fettleref15_Effects_ok {E : World} {H : FP} {w : World} {a1 : PModule} {v2 : Value} {r : List PEffect} (h3 : SlI kFunc H a1.funcs v2) (hp : fettleref15_Effects a1 = some r) (hst : St E H [] w) :
    Fn Tryz.prog 9 #[.agg #[v2]] w fun v w' => ∃ A, fettleref15_Effects.R r v A ∧ St E H A w' := by
 refine fb 67 [.tmp 2] Tryz.func9 rfl rfl rfl rfl rfl hst <| sr <| tb [v2] rfl rfl fun b4 => ta rfl <| nz <| sr <| tv (fa f24_0 rfl) rfl <| tv (lb s22 0 rfl rfl rfl) rfl <| tv (ln u22 h3 rfl) rfl <| tk (k := kEffect) u27 i37 hp ⟨rfl, rfl⟩ rfl rfl rfl rfl rfl rfl fun x5 v6 F7 h8 hp => ta rfl <| nz <| sr <| tv (lA (ds := [v2]) ag_24 1 rfl rfl rfl rfl) rfl <| bE hp fun x9 hy2 hp => tc 0 [_,_] rfl c21 (fun _ => fettleref09_To_ok (a1 := a1) (h3.mono subH) hy2) rfl ?_
 rintro _ _ ⟨v10, F11, rfl, rfl, h12⟩
 refine ta rfl <| nz <| TC.seq fun K4 k5 => sr <| ta rfl <| nz <| TC.block <| bE hp fun z_7 hz8 hr9 => ?_
 have J50 {x17 F18 e12} (h19 : SlO 37 kEffect x17 v6 F18) (hq51 : x17 = z_7) : ∀ w, St E H [bx b4 24 [v2], F18] w → K4 (ovr e12 [(1, .pointer (some ⟨b4, 0, none⟩)), (3, v6)]) w := by
  subst hq51
  replace hp : fettleref15_Effects.nx11 a1 x17 = some r := hr9
  refine tg k5 <| TC.seq fun K13 k14 => sr <| ta rfl <| nz <| TC.block <| bE hp fun z_16 hz17 hr18 => ?_
  have J22 {x24 F25 e21} (h26 : SlO 37 kEffect x24 v6 F25) (hq23 : x24 = z_16) : ∀ w, St E H [F25] w → K13 (ovr e21 [(3, v6)]) w := by
   subst hq23
   replace hp : fettleref15_Effects.nx20 x24 = some r := hr18
   exact tg k14 <| sr <| tm rfl <| ta rfl <| nz <| TC.ret <| rt hp [0] ⟨v6, F25, rfl, rfl, h26⟩
  refine lp hz17 [0, 1] rfl (fun s e L => ∃ x20 x23 F21 e15, s = (x20, x23) ∧ SlO 37 kEffect x20 v6 F21 ∧ e = ovr e15 [(1, .pointer (some ⟨b4, 0, none⟩)), (3, v6), (7, .int .i64 x23)] ∧ L = [bx b4 24 [v2], F21]) ⟨_, _, F18, _, rfl, h19, ovr_eq _ _ rfl, rfl⟩ ?_
  rintro _ _ _ ⟨x20, x23, F21, e15, rfl, h22, rfl, rfl⟩ X19 hp hx20
  replace hp : fettleref15_Effects.bd20 a1 x20 x23 = some X19 := hp
  refine TC.seq fun K24 k25 => sr <| tm rfl <| tm rfl <| tv (ln u27 h22.ro rfl) rfl <| tv (ble rfl rfl) rfl <| nz <| cD rfl hp (fun hc26 hp => ?_) fun hc26 hp => ?_
  · refine sk k25 rfl <| TC.seq fun K27 k28 => TC.block <| sr <| ta rfl <| nz <| TC.block <| bE hp fun z_30 hz31 hr32 => ?_
    have J36 {x31 F32 e35} (h33 : SlO 37 kEffect x31 v6 F32) (hq37 : x31 = z_30) : ∀ w, St E H [bx b4 24 [v2], F32] w → K27 (ovr e35 [(1, .pointer (some ⟨b4, 0, none⟩)), (3, v6), (7, .int .i64 x23)]) w := by
     subst hq37
     replace hp : fettleref15_Effects.nx34 x23 x31 = some X19 := hr32
     exact tg k28 <| TC.region <| tm rfl <| tv (bad rfl rfl) rfl <| ta rfl <| nl <| gk hp [0, 1] ⟨_, _, F32, _, rfl, h33, ovr_eq _ _ rfl, rfl⟩
    refine lp hz31 [0, 1] rfl (fun s e L => ∃ x27 x30 F28 e29, s = (x27, x30) ∧ SlO 37 kEffect x27 v6 F28 ∧ e = ovr e29 [(1, .pointer (some ⟨b4, 0, none⟩)), (3, v6), (7, .int .i64 x23), (8, .int .i64 x30)] ∧ L = [bx b4 24 [v2], F28]) ⟨_, _, F21, _, rfl, h22, ovr_eq _ _ rfl, rfl⟩ ?_
    rintro _ _ _ ⟨x27, x30, F28, e29, rfl, h29, rfl, rfl⟩ X33 hp hx34
    replace hp : fettleref15_Effects.bd34 a1 x27 x30 = some X33 := hp
    refine TC.seq fun K38 k39 => sr <| tm rfl <| tm rfl <| tv (ln u27 h29.ro rfl) rfl <| tv (blt rfl rfl) rfl <| nz <| cD rfl hp (fun hc40 hp => ?_) fun hc40 hp => ?_
    · refine sk k39 rfl <| TC.seq fun K41 k42 => TC.block <| TC.region <| tm rfl <| tm rfl <| tv (lA (ds := [v2]) ag_24 0 rfl rfl rfl rfl) rfl <| tm rfl <| tm rfl <| bE hp fun x34 hy43 hp => tc 0 [_,_] rfl c24 (fun _ => fettleref15_once_ok (a1 := a1) (a4 := x30) (a5 := x27) (h3.mono subH) (h29.ro.mono (subB 1 rfl)) hy43) rfl ?_
      rintro _ _ ⟨rfl, rfl⟩
      exact tO u27 i37 h29 hp rfl rfl rfl rfl fun x35 b36 o37 h38 hp => tp [1, 0] [_,_] rfl rfl <| TL.stE0 (ds := [.bool x34.reads, .bool x34.writes, .bool x34.outs, .bool x34.traps, .bool x34.turns]) (u := .agg #[.bool x34.reads, .bool x34.writes, .bool x34.outs, .bool x34.traps, .bool x34.turns]) (a := x34) h29 h38 m37 rfl rfl rfl ⟨rfl, rfl⟩ fun F39 h40 => nl <| tg k42 <| TC.region <| tm rfl <| tv (bad rfl rfl) rfl <| ta rfl <| nl <| gk hp [1, 0] ⟨_, _, F39, _, rfl, h40, ovr_eq _ _ rfl, rfl⟩
    · exact TC.exit <| jn [0, 1] (J36 h29 (ex_ret hp hx34))
  · exact TC.exit <| jn [1] (J22 h22 (ex_ret hp hx20))
 refine lp hz8 [2, 1, 0] rfl (fun s e L => ∃ x13 x16 F14 e6, s = (x13, x16) ∧ SlO 37 kEffect x13 v6 F14 ∧ e = ovr e6 [(1, .pointer (some ⟨b4, 0, none⟩)), (3, v6), (4, v10), (5, .int .i64 x16)] ∧ L = [bx b4 24 [v2], F14, F11]) ⟨_, _, F7, _, rfl, h8, ovr_eq _ _ rfl, rfl⟩ ?_
 rintro _ _ _ ⟨x13, x16, F14, e6, rfl, h15, rfl, rfl⟩ X10 hp hx11
 replace hp : fettleref15_Effects.bd11 a1 x9 x13 x16 = some X10 := hp
 refine TC.seq fun K52 k53 => sr <| tm rfl <| tm rfl <| tv (ln u27 h15.ro rfl) rfl <| tv (blt rfl rfl) rfl <| nz <| cD rfl hp (fun hc54 hp => ?_) fun hc54 hp => ?_
 · refine sk k53 rfl <| TC.seq fun K55 k56 => TC.block <| sr <| tv (fa f24_0 rfl) rfl <| tv (lb s22 0 rfl rfl rfl) rfl <| tm rfl <| ti u22 i47 h3 hp rfl rfl rfl rfl ?_
   rintro x41 b42 o43 _ hp ⟨v47, v49, rfl, h48, h50⟩ h46
   refine tv (lR (ds := [.int .i64 x41.params, .int .i64 x41.result, v47, v49]) ag_47 sH h46 0 rfl rfl rfl) rfl <| bE hp fun x51 hy58 hp => tc 0 [_,_,_] rfl c22 (fun _ => fettleref05_From_ok (a1 := x41) (a6 := 0) (a7 := -1) (h48.mono subH) (h50.mono subH) hy58) rfl ?_
   rintro _ _ ⟨v52, F53, rfl, rfl, h54⟩
   refine ta rfl <| nz <| TC.region <| tm rfl <| tm rfl <| tm rfl <| tm rfl <| ti u67 i69 (h12).ro hp rfl rfl rfl rfl ?_
   rintro x55 b56 o57 _ hp ⟨v61, rfl, h62⟩ h60
   refine tv (lr s69 (Src.at_ 3 rfl) h60 0 rfl rfl) rfl <| tm rfl <| ti u69 i4 h62 hp rfl rfl rfl rfl ?_
   rintro x63 b64 o65 _ hp rfl h68
   refine tv (lr s4 (Src.at_ 3 rfl) h68 0 rfl rfl) rfl <| tm rfl <| bE hp fun t69 ht68 hp => TL.cut 8 fun K62 k63 => ?_
   have J64 {e66} : ∀ w, St E H [F53, bx b4 24 [v2], F14, F11] w → K62 (ovr e66 [(44, .bool t69), (1, .pointer (some ⟨b4, 0, none⟩)), (3, v6), (4, v10), (5, .int .i64 x16), (27, v6), (28, .int .i64 x16)]) w := by
    refine tlg k63 <| tp [2, 0, 1, 3] [_,_,_,_] rfl rfl <| bE hp fun x70 hx67 hp => TL.open_ h15 hx67 ?_
    rintro b71 _ F73 F74 h75 ⟨rfl, rfl⟩
    exact TL.perm (L' := [F73, F53, bx b4 24 [v2], F11]) (by simp) <| tv (rv_ixH u27 i37 rfl rfl (idx_some hx67).1 h75) rfl <| tv (fa f37_4 rfl) rfl <| tsH h75 m4 4 rfl w1 rfl fun F77 h78 => nl <| tg k56 <| TC.region <| tm rfl <| tv (bad rfl rfl) rfl <| ta rfl <| nl <| W.empty <| W.shut (a := (⟨x70.reads, x70.writes, x70.outs, x70.traps, t69⟩ : PEffect)) h78 ⟨rfl, rfl⟩ fun F79 h80 => gk hp [2, 0, 3] ⟨_, _, F79, _, rfl, h80, ovr_eq _ _ rfl, rfl⟩
   refine ifE ht68 (fun hc65 hp => ?_) fun hc65 hp => ?_
   · refine gn rfl (bbT hc65) rfl rfl <| gn rfl (bbT hc65) rfl rfl <| gn rfl (bbT hc65) rfl rfl <| gn rfl (bbT hc65) rfl rfl <| gn rfl (bbT hc65) rfl rfl <| gn rfl (bbT hc65) rfl rfl <| gn rfl (bbT hc65) rfl rfl <| tv (pT (bbT hc65)) rfl ?_
     obtain rfl := Option.some.inj hp
     exact nj J64 rfl
   · refine gy rfl (bbF hc65) <| tv (fa f24_0 rfl) rfl <| gy rfl (bbF hc65) <| tv (lb s22 1 rfl rfl rfl) rfl <| gy rfl (bbF hc65) <| tm rfl <| gy rfl (bbF hc65) <| ti u22 i47 h3 hp rfl rfl rfl rfl ?_
     rintro x81 b82 o83 _ hp ⟨v87, v89, rfl, h88, h90⟩ h86
     refine gy rfl (bbF hc65) <| tv (lR (ds := [.int .i64 x81.params, .int .i64 x81.result, v87, v89]) ag_47 sH h86 0 rfl rfl rfl) rfl <| gy rfl (bbF hc65) <| tm rfl <| gy rfl (bbF hc65) <| bE hp fun x91 hy70 hp => tc 0 [_,_,_,_] rfl c23 (fun _ => fettleref15_round_ok (a1 := x81) (a6 := x51) (h88.mono subH) (h90.mono subH) (h54.ro.mono (subB 0 rfl)) hy70) rfl ?_
     rintro _ _ ⟨rfl, rfl⟩
     refine tv (pF (bbF hc65)) rfl ?_
     obtain rfl := Option.some.inj hp
     exact nj J64 rfl
 · exact TC.exit <| jn [0, 1] (J50 h15 (ex_ret hp hx11))
end Go.Proofs.YtpomfbdbkejedaaGreatDoor
