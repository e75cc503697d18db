/- The walk through the program's functions: each one's pure reading, and that a call does what it says. No conditions. -/
import Derived.Test.YteaknconpkklhaaDoorV7
set_option linter.unusedVariables false
set_option linter.unusedSimpArgs false
namespace Go.Proofs.YteaknconpkklhaaDoor
open Go Go.Proofs
/-! ### fettle/fettleref05.Next -/
abbrev fettleref05_Next.R (r : List Int) (v : Value) (A : List FP) : Prop := ∃ (w1 : Value) (G1 : FP), w1 = v ∧ A = [G1] ∧ SlO 3 (kInt .i64) r w1 G1
def fettleref05_Next.nx8  (x13 : List Int) : Option (List Int) :=
  some x13
def fettleref05_Next.jn19 (x12 : Int) (x29 : List Int) : Option (Ex (List Int) (List Int × Int)) :=
  some (.go (x29, (w64 (x12 + 1))))
def fettleref05_Next.nx34 (x8 : List Int) (x12 : Int) (x45 : Int) (x53 : Bool) : Option (Ex (List Int) (List Int × Int)) :=
  if (!x53) = true then
    (cat x8 [x45]).bind fun x55 =>
    fettleref05_Next.jn19 x12 x55
  else
    fettleref05_Next.jn19 x12 x8
def fettleref05_Next.bd34 (x8 : List Int) (x45 : Int) (x51 : Bool) (x52 : Int) : Option (Ex Bool (Bool × Int)) :=
  if x52 < (len x8) then
    (if x51 = true then some true else (idx x8 x52).bind fun x60 =>
    some (decide (x60 = x45))).bind fun t59 =>
    some (.go (t59, (w64 (x52 + 1))))
  else
    some (.ret x51)
def fettleref05_Next.bd8 (a1 : PFunc) (a6 : Int) (x8 : List Int) (x12 : Int) : Option (Ex (List Int) (List Int × Int)) :=
  (idx a1.blocks a6).bind fun x17 =>
  if x12 < (len x17.term.to) then
    (idx a1.blocks a6).bind fun x33 =>
    (idx x33.term.to x12).bind fun x45 =>
    (whl (fun (s : (Bool × Int)) => fettleref05_Next.bd34 x8 x45 s.1 s.2) FUEL ((decide (x45 < 0 ∨ x45 ≥ (len a1.blocks))), 0)).bind fun z =>
    fettleref05_Next.nx34 x8 x12 x45 z
  else
    some (.ret x8)
def fettleref05_Next (a1 : PFunc) (a6 : Int) : Option (List Int) :=
  (whl (fun (s : (List Int × Int)) => fettleref05_Next.bd8 a1 a6 s.1 s.2) FUEL (([] : List Int), 0)).bind fun z =>
  fettleref05_Next.nx8 z
set_option maxHeartbeats 4000000 in
theorem fettleref05_Next_ok {E : World} {H : FP} {w : World} {a1 : PFunc} {a6 : Int} {v2 : Value} {v4 : Value} {r : List Int} (h3 : SlI (kInt .i64) H a1.regs v2) (h5 : SlI kBlock H a1.blocks v4) (hp : fettleref05_Next a1 a6 = some r) (hst : St E H [] w) :
    Fn Tryd.prog 28 #[.agg #[.int .i64 a1.params, .int .i64 a1.result, v2, v4], .int .i64 a6] w fun v w' => ∃ A, fettleref05_Next.R r v A ∧ St E H A w' := by
 refine fb 63 [.tmp 4] Tryd.func28 rfl rfl rfl rfl rfl hst <| sr <| tb [.int .i64 a1.params, .int .i64 a1.result, v2, v4] rfl rfl fun b7 => ta rfl <| nz <| sr <| ta rfl <| nz <| TC.seq fun K1 k2 => sr <| ta rfl <| nz <| TC.block <| bE hp fun z_4 hz5 hr6 => ?_
 have J10 {x13 v14 F15 e9} (h16 : SlO 3 (kInt .i64) x13 v14 F15) (hq11 : x13 = z_4) : ∀ w, St E H [F15] w → K1 (ovr e9 [(5, v14)]) w := by
  subst hq11
  replace hp : fettleref05_Next.nx8 x13 = some r := hr6
  exact tg k2 <| sr <| tm rfl <| ta rfl <| nz <| TC.ret <| rt hp [0] ⟨v14, F15, rfl, rfl, h16⟩
 refine W.new0 <| lp hz5 [1, 0] rfl (fun s e L => ∃ x8 x12 v9 F10 e3, s = (x8, x12) ∧ SlO 3 (kInt .i64) x8 v9 F10 ∧ e = ovr e3 [(1, .int .i64 a6), (2, .pointer (some ⟨b7, 0, none⟩)), (5, v9), (6, .int .i64 x12)] ∧ L = [bx b7 41 [.int .i64 a1.params, .int .i64 a1.result, v2, v4], F10]) ⟨_, _, (.slice none 0 0), ([] : FP), _, rfl, (SlO.nil 3), ovr_eq _ _ rfl, rfl⟩ ?_
 rintro _ _ _ ⟨x8, x12, v9, F10, e3, rfl, h11, rfl, rfl⟩ X7 hp hx8
 replace hp : fettleref05_Next.bd8 a1 a6 x8 x12 = some X7 := hp
 refine TC.seq fun K12 k13 => sr <| tm rfl <| tv (fa f41_3 rfl) rfl <| tv (lb s39 0 rfl rfl rfl) rfl <| tm rfl <| ti u39 i60 h5 hp rfl rfl rfl rfl ?_
 rintro x17 b18 o19 _ hp ⟨v23, v25, v27, rfl, h24, h26, h28⟩ h22
 refine tv (fa f60_2 rfl) rfl <| tv (fa f56_2 rfl) rfl <| tv (lr s32 sH h22 4 rfl rfl) rfl <| tv (ln u32 h28 rfl) rfl <| tv (blt rfl rfl) rfl <| nz <| cD rfl hp (fun hc15 hp => ?_) fun hc15 hp => ?_
 · refine sk k13 rfl <| TC.seq fun K16 k17 => ?_
   have J19 {x29 v30 F31 e18} (h32 : SlO 3 (kInt .i64) x29 v30 F31) (hp : fettleref05_Next.jn19 x12 x29 = some X7) : ∀ w, St E H [bx b7 41 [.int .i64 a1.params, .int .i64 a1.result, v2, v4], F31] w → K16 (ovr e18 [(1, .int .i64 a6), (2, .pointer (some ⟨b7, 0, none⟩)), (5, v30), (6, .int .i64 x12)]) w := by
    exact tg k17 <| TC.region <| tm rfl <| tv (bad rfl rfl) rfl <| ta rfl <| nl <| gk hp [0, 1] ⟨_, _, v30, F31, _, rfl, h32, ovr_eq _ _ rfl, rfl⟩
   refine TC.block <| sr <| tv (fa f41_3 rfl) rfl <| tv (lb s39 0 rfl rfl rfl) rfl <| tm rfl <| ti u39 i60 h5 hp rfl rfl rfl rfl ?_
   rintro x33 b34 o35 _ hp ⟨v39, v41, v43, rfl, h40, h42, h44⟩ h38
   refine tv (fa f60_2 rfl) rfl <| tv (fa f56_2 rfl) rfl <| tv (lr s32 sH h38 4 rfl rfl) rfl <| tm rfl <| ti u32 i3 h44 hp rfl rfl rfl rfl ?_
   rintro x45 b46 o47 _ hp rfl h50
   refine tv (lr s3 sH h50 0 rfl rfl) rfl <| ta rfl <| nz <| sr <| tm rfl <| tv (blt rfl rfl) rfl <| tm rfl <| TL.cut 6 fun K22 k23 => ?_
   have J24 {e26} : ∀ w, St E H [bx b7 41 [.int .i64 a1.params, .int .i64 a1.result, v2, v4], F10] w → K22 (ovr e26 [(40, .bool (decide (x45 < 0 ∨ x45 ≥ (len a1.blocks)))), (1, .int .i64 a6), (2, .pointer (some ⟨b7, 0, none⟩)), (5, v9), (6, .int .i64 x12), (7, .int .i64 x45)]) w := by
    refine tlg k23 <| ta rfl <| nz <| TC.seq fun K27 k28 => sr <| ta rfl <| nz <| TC.block <| bE hp fun z_30 hz31 hr32 => ?_
    have J38 {x53 e35} (hq39 : x53 = z_30) : ∀ w, St E H [bx b7 41 [.int .i64 a1.params, .int .i64 a1.result, v2, v4], F10] w → K27 (ovr e35 [(1, .int .i64 a6), (2, .pointer (some ⟨b7, 0, none⟩)), (5, v9), (6, .int .i64 x12), (7, .int .i64 x45), (8, .bool x53)]) w := by
     subst hq39
     replace hp : fettleref05_Next.nx34 x8 x12 x45 x53 = some X7 := hr32
     refine tg k28 <| sr <| tm rfl <| tv (rv_not rfl) rfl <| nz <| cB rfl hp (fun hc36 hp => ?_) fun hc36 hp => ?_
     · exact TC.region <| tm rfl <| tm rfl <| tbs [(0, .int .i64 x45)] [.int .i64 x45] u32 i3 (by kernel_rfl) rfl rfl rfl rfl fun b54 => tp [2, 0, 1] [_,_,_] rfl rfl <| tf 2 0 [_,_,_,_] rfl <| tp2 u32 i3 h11 hp (RepL.to (RepL.cons (k := (kInt .i64)) (x := x45) ⟨rfl, rfl⟩ RepL.nil) rfl) rfl rfl rfl rfl rfl rfl rfl rfl rfl fun x55 v56 F57 h58 hp => ta rfl <| nl <| jn [1, 0] (J19 h58 hp)
     · exact TC.skip <| jn [0, 1] (J19 h11 hp)
    refine lp hz31 [0, 1] rfl (fun s e L => ∃ x51 x52 e29, s = (x51, x52) ∧ e = ovr e29 [(1, .int .i64 a6), (2, .pointer (some ⟨b7, 0, none⟩)), (5, v9), (6, .int .i64 x12), (7, .int .i64 x45), (8, .bool x51), (9, .int .i64 x52)] ∧ L = [bx b7 41 [.int .i64 a1.params, .int .i64 a1.result, v2, v4], F10]) ⟨_, _, _, rfl, ovr_eq _ _ rfl, rfl⟩ ?_
    rintro _ _ _ ⟨x51, x52, e29, rfl, rfl, rfl⟩ X33 hp hx34
    replace hp : fettleref05_Next.bd34 x8 x45 x51 x52 = some X33 := hp
    refine TC.seq fun K40 k41 => sr <| tm rfl <| tm rfl <| tv (ln u32 h11.ro rfl) rfl <| tv (blt rfl rfl) rfl <| nz <| cD rfl hp (fun hc42 hp => ?_) fun hc42 hp => ?_
    · refine sk k41 rfl <| TC.seq fun K43 k44 => TC.block <| TC.region <| tm rfl <| tm rfl <| bE hp fun t59 ht50 hp => TL.cut 7 fun K45 k46 => ?_
      have J47 {e49} : ∀ w, St E H [bx b7 41 [.int .i64 a1.params, .int .i64 a1.result, v2, v4], F10] w → K45 (ovr e49 [(55, .bool t59), (1, .int .i64 a6), (2, .pointer (some ⟨b7, 0, none⟩)), (5, v9), (6, .int .i64 x12), (7, .int .i64 x45), (9, .int .i64 x52)]) w := by
       exact tlg k46 <| ta rfl <| nl <| tg k44 <| TC.region <| tm rfl <| tv (bad rfl rfl) rfl <| ta rfl <| nl <| gk hp [0, 1] ⟨_, _, _, rfl, ovr_eq _ _ rfl, rfl⟩
      refine ifE ht50 (fun hc48 hp => ?_) fun hc48 hp => ?_
      · refine gn rfl (bbT hc48) rfl rfl <| gn rfl (bbT hc48) rfl rfl <| gn rfl (bbT hc48) rfl rfl <| gn rfl (bbT hc48) rfl rfl <| gn rfl (bbT hc48) rfl rfl <| gn rfl (bbT hc48) rfl rfl <| tv (pT (bbT hc48)) rfl ?_
        obtain rfl := Option.some.inj hp
        exact nj J47 rfl
      · refine gy rfl (bbF hc48) <| tm rfl <| gy rfl (bbF hc48) <| tm rfl <| gy rfl (bbF hc48) <| ti u32 i3 (h11).ro hp rfl rfl rfl rfl ?_
        rintro x60 b61 o62 _ hp rfl h65
        refine gy rfl (bbF hc48) <| tv (lr s3 (Src.at_ 1 rfl) h65 0 rfl rfl) rfl <| gy rfl (bbF hc48) <| tm rfl <| gy rfl (bbF hc48) <| tv (beq rfl rfl) rfl <| tv (pF (bbF hc48)) rfl ?_
        obtain rfl := Option.some.inj hp
        exact nj J47 rfl
    · exact TC.exit <| jn [0, 1] (J38 (ex_ret hp hx34))
   by_cases hc25 : x45 < 0
   · exact gn rfl (bT hc25) rfl rfl <| gn rfl (bT hc25) rfl rfl <| gn rfl (bT hc25) rfl rfl <| gn rfl (bT hc25) rfl rfl <| gn rfl (bT hc25) rfl rfl <| tv (pT (bT hc25)) rfl <| nj J24 (bOt hc25)
   · exact gy rfl (bF hc25) <| tm rfl <| gy rfl (bF hc25) <| tv (fa f41_3 rfl) rfl <| gy rfl (bF hc25) <| tv (lb s39 0 rfl rfl rfl) rfl <| gy rfl (bF hc25) <| tv (ln u39 h5 rfl) rfl <| gy rfl (bF hc25) <| tv (bge rfl rfl) rfl <| tv (pF (bF hc25)) rfl <| nj J24 (bOf hc25)
 · exact TC.exit <| jn [1] (J10 h11 (ex_ret hp hx8))
/-! ### fettle/fettleref08.along -/
abbrev fettleref08_along.R (r : Bool) (v : Value) (A : List FP) : Prop := .bool r = v ∧ A = []
def fettleref08_along.nx10  : Option Bool :=
  some false
def fettleref08_along.nx25 (x14 : Int) : Option (Ex (Ex Bool Unit) Int) :=
  some (.go (w64 (x14 + 1)))
def fettleref08_along.bd25 (a1 : PFunc) (a6 : Int) (a7 : Int) (a8 : Int) (x10 : List Int) (x14 : Int) (x27 : Int) : Option (Ex (Ex Bool Unit) Int) :=
  if x27 < (len x10) then
    (idx x10 x27).bind fun x28 =>
    (if x28 = a6 then (idx a1.blocks a7).bind fun x35 =>
    (idx x35.phis x14).bind fun x47 =>
    (idx x47.args x27).bind fun x55 =>
    some (decide (x55 = a8)) else some false).bind fun t34 =>
    if t34 = true then
      some (.ret (.ret true))
    else
      some (.go (w64 (x27 + 1)))
  else
    some (.ret (.go ()))
def fettleref08_along.bd10 (a1 : PFunc) (a6 : Int) (a7 : Int) (a8 : Int) (x10 : List Int) (x14 : Int) : Option (Ex (Ex Bool Unit) Int) :=
  (idx a1.blocks a7).bind fun x15 =>
  if x14 < (len x15.phis) then
    (whl (fun (s : Int) => fettleref08_along.bd25 a1 a6 a7 a8 x10 x14 s) FUEL 0).bind fun z =>
    match z with
      | .ret r => some (.ret (.ret r))
      | .go p => fettleref08_along.nx25 x14
  else
    some (.ret (.go ()))
def fettleref08_along (a1 : PFunc) (a6 : Int) (a7 : Int) (a8 : Int) : Option Bool :=
  (fettleref02_Ahead a1 a7).bind fun x10 =>
  (whl (fun (s : Int) => fettleref08_along.bd10 a1 a6 a7 a8 x10 s) FUEL 0).bind fun z =>
  match z with
    | .ret r => some r
    | .go p => fettleref08_along.nx10
set_option maxHeartbeats 4000000 in
theorem fettleref08_along_ok {E : World} {H : FP} {w : World} {a1 : PFunc} {a6 : Int} {a7 : Int} {a8 : Int} {v2 : Value} {v4 : Value} {r : Bool} (h3 : SlI (kInt .i64) H a1.regs v2) (h5 : SlI kBlock H a1.blocks v4) (hp : fettleref08_along a1 a6 a7 a8 = some r) (hst : St E H [] w) :
    Fn Tryd.prog 29 #[.agg #[.int .i64 a1.params, .int .i64 a1.result, v2, v4], .int .i64 a6, .int .i64 a7, .int .i64 a8] w fun v w' => ∃ A, fettleref08_along.R r v A ∧ St E H A w' := by
 refine fb 55 [.tmp 8] Tryd.func29 rfl rfl rfl rfl rfl hst <| sr <| tb [.int .i64 a1.params, .int .i64 a1.result, v2, v4] rfl rfl fun b9 => ta rfl <| nz <| sr <| tv (lA (ds := [.int .i64 a1.params, .int .i64 a1.result, v2, v4]) ag_41 0 rfl rfl rfl rfl) rfl <| tm rfl <| bE hp fun x10 hy1 hp => tc 0 [_] rfl c54 (fun _ => fettleref02_Ahead_ok (a1 := a1) (a6 := a7) (h3.mono subH) (h5.mono subH) hy1) rfl ?_
 rintro _ _ ⟨v11, F12, rfl, rfl, h13⟩
 refine ta rfl <| nz <| TC.seq fun K3 k4 => sr <| ta rfl <| nz <| TC.block <| bE hp fun z_6 hz7 hr8 => ?_
 have J12 {e11} (hq13 : .go () = z_6) : ∀ w, St E H [] w → K3 (ovr e11 []) w := by
  subst hq13
  replace hp : fettleref08_along.nx10 = some r := hr8
  exact tg k4 <| sr <| ta rfl <| nz <| TC.ret <| rt hp [] ⟨rfl, rfl⟩
 refine lp hz7 [1, 0] rfl (fun s e L => ∃ e5, e = ovr e5 [(1, .int .i64 a6), (2, .int .i64 a7), (3, .int .i64 a8), (4, .pointer (some ⟨b9, 0, none⟩)), (9, v11), (10, .int .i64 s)] ∧ L = [bx b9 41 [.int .i64 a1.params, .int .i64 a1.result, v2, v4], F12]) ⟨_, ovr_eq _ _ rfl, rfl⟩ ?_
 rintro x14 _ _ ⟨e5, rfl, rfl⟩ X9 hp hx10
 replace hp : fettleref08_along.bd10 a1 a6 a7 a8 x10 x14 = some X9 := hp
 refine TC.seq fun K14 k15 => sr <| tm rfl <| tv (fa f41_3 rfl) rfl <| tv (lb s39 0 rfl rfl rfl) rfl <| tm rfl <| ti u39 i60 h5 hp rfl rfl rfl rfl ?_
 rintro x15 b16 o17 _ hp ⟨v21, v23, v25, rfl, h22, h24, h26⟩ h20
 refine tv (fa f60_0 rfl) rfl <| tv (lr s57 sH h20 0 rfl rfl) rfl <| tv (ln u57 h22 rfl) rfl <| tv (blt rfl rfl) rfl <| nz <| cD rfl hp (fun hc17 hp => ?_) fun hc17 hp => ?_
 · refine sk k15 rfl <| TC.seq fun K18 k19 => TC.block <| sr <| ta rfl <| nz <| TC.block <| bE hp fun z_21 hz22 hr23 => ?_
   have J27 {e26} (hq28 : .go () = z_21) : ∀ w, St E H [bx b9 41 [.int .i64 a1.params, .int .i64 a1.result, v2, v4], F12] w → K18 (ovr e26 [(1, .int .i64 a6), (2, .int .i64 a7), (3, .int .i64 a8), (4, .pointer (some ⟨b9, 0, none⟩)), (9, v11), (10, .int .i64 x14)]) w := by
    subst hq28
    replace hp : fettleref08_along.nx25 x14 = some X9 := hr23
    exact tg k19 <| TC.region <| tm rfl <| tv (bad rfl rfl) rfl <| ta rfl <| nl <| gk hp [0, 1] ⟨_, ovr_eq _ _ rfl, rfl⟩
   refine lp hz22 [0, 1] rfl (fun s e L => ∃ e20, e = ovr e20 [(1, .int .i64 a6), (2, .int .i64 a7), (3, .int .i64 a8), (4, .pointer (some ⟨b9, 0, none⟩)), (9, v11), (10, .int .i64 x14), (11, .int .i64 s)] ∧ L = [bx b9 41 [.int .i64 a1.params, .int .i64 a1.result, v2, v4], F12]) ⟨_, ovr_eq _ _ rfl, rfl⟩ ?_
   rintro x27 _ _ ⟨e20, rfl, rfl⟩ X24 hp hx25
   replace hp : fettleref08_along.bd25 a1 a6 a7 a8 x10 x14 x27 = some X24 := hp
   refine TC.seq fun K29 k30 => sr <| tm rfl <| tm rfl <| tv (ln u32 h13.ro rfl) rfl <| tv (blt rfl rfl) rfl <| nz <| cD rfl hp (fun hc31 hp => ?_) fun hc31 hp => ?_
   · refine sk k30 rfl <| TC.seq fun K32 k33 => TC.block <| sr <| tm rfl <| tm rfl <| ti u32 i3 (h13).ro hp rfl rfl rfl rfl ?_
     rintro x28 b29 o30 _ hp rfl h33
     refine tv (lr s3 (Src.at_ 1 rfl) h33 0 rfl rfl) rfl <| tm rfl <| tv (beq rfl rfl) rfl <| tm rfl <| bE hp fun t34 ht41 hp => TL.cut 16 fun K35 k36 => ?_
     have J37 {e39} : ∀ w, St E H [bx b9 41 [.int .i64 a1.params, .int .i64 a1.result, v2, v4], F12] w → K35 (ovr e39 [(54, .bool t34), (1, .int .i64 a6), (2, .int .i64 a7), (3, .int .i64 a8), (4, .pointer (some ⟨b9, 0, none⟩)), (9, v11), (10, .int .i64 x14), (11, .int .i64 x27)]) w := by
      refine tlg k36 <| nz <| cB rfl hp (fun hc40 hp => ?_) fun hc40 hp => ?_
      · refine sr <| ta rfl <| nz <| TC.ret ?_
        obtain rfl := ex_ret hp hx25
        obtain rfl := ex_ret hr23 hx10
        exact rt hr8 [] ⟨rfl, rfl⟩
      · exact sk k33 rfl <| TC.region <| tm rfl <| tv (bad rfl rfl) rfl <| ta rfl <| nl <| gk hp [0, 1] ⟨_, ovr_eq _ _ rfl, rfl⟩
     refine ifE ht41 (fun hc38 hp => ?_) fun hc38 hp => ?_
     · refine gy rfl (bT hc38) <| tv (fa f41_3 rfl) rfl <| gy rfl (bT hc38) <| tv (lb s39 0 rfl rfl rfl) rfl <| gy rfl (bT hc38) <| tm rfl <| gy rfl (bT hc38) <| ti u39 i60 h5 hp rfl rfl rfl rfl ?_
       rintro x35 b36 o37 _ hp ⟨v41, v43, v45, rfl, h42, h44, h46⟩ h40
       refine gy rfl (bT hc38) <| tv (fa f60_0 rfl) rfl <| gy rfl (bT hc38) <| tv (lr s57 sH h40 0 rfl rfl) rfl <| gy rfl (bT hc38) <| tm rfl <| gy rfl (bT hc38) <| ti u57 i64 h42 hp rfl rfl rfl rfl ?_
       rintro x47 b48 o49 _ hp ⟨v53, rfl, h54⟩ h52
       refine gy rfl (bT hc38) <| tv (fa f64_1 rfl) rfl <| gy rfl (bT hc38) <| tv (lr s32 sH h52 1 rfl rfl) rfl <| gy rfl (bT hc38) <| tm rfl <| gy rfl (bT hc38) <| ti u32 i3 h54 hp rfl rfl rfl rfl ?_
       rintro x55 b56 o57 _ hp rfl h60
       refine gy rfl (bT hc38) <| tv (lr s3 sH h60 0 rfl rfl) rfl <| gy rfl (bT hc38) <| tm rfl <| gy rfl (bT hc38) <| tv (beq rfl rfl) rfl <| tv (pT (bT hc38)) rfl ?_
       obtain rfl := Option.some.inj hp
       exact nj J37 rfl
     · refine gn rfl (bF hc38) rfl rfl <| gn rfl (bF hc38) rfl rfl <| gn rfl (bF hc38) rfl rfl <| gn rfl (bF hc38) rfl rfl <| gn rfl (bF hc38) rfl rfl <| gn rfl (bF hc38) rfl rfl <| gn rfl (bF hc38) rfl rfl <| gn rfl (bF hc38) rfl rfl <| gn rfl (bF hc38) rfl rfl <| gn rfl (bF hc38) rfl rfl <| gn rfl (bF hc38) rfl rfl <| gn rfl (bF hc38) rfl rfl <| gn rfl (bF hc38) rfl rfl <| gn rfl (bF hc38) rfl rfl <| gn rfl (bF hc38) rfl rfl <| tv (pF (bF hc38)) rfl ?_
       obtain rfl := Option.some.inj hp
       exact nj J37 rfl
   · exact TC.exit <| jn [0, 1] (J27 (ex_ret hp hx25))
 · exact TC.exit <| jn [] (J12 (ex_ret hp hx10))
/-! ### fettle/fettleref08.has -/
abbrev fettleref08_has.R (r : Bool) (v : Value) (A : List FP) : Prop := .bool r = v ∧ A = []
def fettleref08_has.nx8  : Option Bool :=
  some false
def fettleref08_has.bd8 (a1 : List Int) (a4 : Int) (x5 : Int) : Option (Ex (Ex Bool Unit) Int) :=
  if x5 < (len a1) then
    (idx a1 x5).bind fun x6 =>
    if x6 = a4 then
      some (.ret (.ret true))
    else
      some (.go (w64 (x5 + 1)))
  else
    some (.ret (.go ()))
def fettleref08_has (a1 : List Int) (a4 : Int) : Option Bool :=
  (whl (fun (s : Int) => fettleref08_has.bd8 a1 a4 s) FUEL 0).bind fun z =>
  match z with
    | .ret r => some r
    | .go p => fettleref08_has.nx8
theorem fettleref08_has_ok {E : World} {H : FP} {w : World} {a1 : List Int} {a4 : Int} {v2 : Value} {r : Bool} (h3 : SlI (kInt .i64) H a1 v2) (hp : fettleref08_has a1 a4 = some r) (hst : St E H [] w) :
    Fn Tryd.prog 55 #[v2, .int .i64 a4] w fun v w' => ∃ A, fettleref08_has.R r v A ∧ St E H A w' := by
 refine fb 18 [.tmp 4] Tryd.func55 rfl rfl rfl rfl rfl hst <| sr <| ta rfl <| nz <| TC.seq fun K1 k2 => sr <| ta rfl <| nz <| TC.block <| bE hp fun z_4 hz5 hr6 => ?_
 have J10 {e9} (hq11 : .go () = z_4) : ∀ w, St E H [] w → K1 (ovr e9 []) w := by
  subst hq11
  replace hp : fettleref08_has.nx8 = some r := hr6
  exact tg k2 <| sr <| ta rfl <| nz <| TC.ret <| rt hp [] ⟨rfl, rfl⟩
 refine lp hz5 [] rfl (fun s e L => ∃ e3, e = ovr e3 [(0, v2), (1, .int .i64 a4), (5, .int .i64 s)] ∧ L = []) ⟨_, ovr_eq _ _ rfl, rfl⟩ ?_
 rintro x5 _ _ ⟨e3, rfl, rfl⟩ X7 hp hx8
 replace hp : fettleref08_has.bd8 a1 a4 x5 = some X7 := hp
 refine TC.seq fun K12 k13 => sr <| tm rfl <| tm rfl <| tv (ln u32 h3 rfl) rfl <| tv (blt rfl rfl) rfl <| nz <| cD rfl hp (fun hc14 hp => ?_) fun hc14 hp => ?_
 · refine sk k13 rfl <| TC.seq fun K15 k16 => TC.block <| sr <| tm rfl <| tm rfl <| ti u32 i3 h3 hp rfl rfl rfl rfl ?_
   rintro x6 b7 o8 _ hp rfl h11
   refine tv (lr s3 sH h11 0 rfl rfl) rfl <| tm rfl <| tv (beq rfl rfl) rfl <| nz <| cD rfl hp (fun hc18 hp => ?_) fun hc18 hp => ?_
   · refine sr <| ta rfl <| nz <| TC.ret ?_
     obtain rfl := ex_ret hp hx8
     exact rt hr6 [] ⟨rfl, rfl⟩
   · exact sk k16 rfl <| TC.region <| tm rfl <| tv (bad rfl rfl) rfl <| ta rfl <| nl <| gk hp [] ⟨_, ovr_eq _ _ rfl, rfl⟩
 · exact TC.exit <| jn [] (J10 (ex_ret hp hx8))
/-! ### fettle/fettleref08.uses -/
abbrev fettleref08_uses.R (r : Bool) (v : Value) (A : List FP) : Prop := .bool r = v ∧ A = []
def fettleref08_uses.nx8 (a1 : PBlock) (a8 : Int) : Option Bool :=
  some (decide (a1.term.arg = a8))
def fettleref08_uses.bd8 (a1 : PBlock) (a8 : Int) (x10 : Int) : Option (Ex (Ex Bool Unit) Int) :=
  if x10 < (len a1.ins) then
    (idx a1.ins x10).bind fun x11 =>
    (fettleref08_has x11.args a8).bind fun x19 =>
    if x19 = true then
      some (.ret (.ret true))
    else
      (idx a1.ins x10).bind fun x20 =>
      if x20.dst = a8 then
        some (.ret (.ret false))
      else
        some (.go (w64 (x10 + 1)))
  else
    some (.ret (.go ()))
def fettleref08_uses (a1 : PBlock) (a8 : Int) : Option Bool :=
  (whl (fun (s : Int) => fettleref08_uses.bd8 a1 a8 s) FUEL 0).bind fun z =>
  match z with
    | .ret r => some r
    | .go p => fettleref08_uses.nx8 a1 a8
theorem fettleref08_uses_ok {E : World} {H : FP} {w : World} {a1 : PBlock} {a8 : Int} {v2 : Value} {v4 : Value} {v6 : Value} {r : Bool} (h3 : SlI kPhi H a1.phis v2) (h5 : SlI kInstr H a1.ins v4) (h7 : SlI (kInt .i64) H a1.term.to v6) (hp : fettleref08_uses a1 a8 = some r) (hst : St E H [] w) :
    Fn Tryd.prog 30 #[.agg #[v2, v4, .int .i64 a1.term.kind, .int .i64 a1.term.arg, v6], .int .i64 a8] w fun v w' => ∃ A, fettleref08_uses.R r v A ∧ St E H A w' := by
 refine fb 36 [.tmp 4] Tryd.func30 rfl rfl rfl rfl rfl hst <| sr <| tb [v2, v4, .int .i64 a1.term.kind, .int .i64 a1.term.arg, v6] rfl rfl fun b9 => ta rfl <| nz <| TC.seq fun K1 k2 => sr <| ta rfl <| nz <| TC.block <| bE hp fun z_4 hz5 hr6 => ?_
 have J10 {e9} (hq11 : .go () = z_4) : ∀ w, St E H [bx b9 60 [v2, v4, .int .i64 a1.term.kind, .int .i64 a1.term.arg, v6]] w → K1 (ovr e9 [(1, .int .i64 a8), (2, .pointer (some ⟨b9, 0, none⟩))]) w := by
  subst hq11
  replace hp : fettleref08_uses.nx8 a1 a8 = some r := hr6
  exact tg k2 <| sr <| tv (fa f60_2 rfl) rfl <| tv (fa f56_1 rfl) rfl <| tv (lb s3 0 rfl rfl rfl) rfl <| tm rfl <| tv (beq rfl rfl) rfl <| ta rfl <| nz <| TC.ret <| rt hp [] ⟨rfl, rfl⟩
 refine lp hz5 [0] rfl (fun s e L => ∃ e3, e = ovr e3 [(1, .int .i64 a8), (2, .pointer (some ⟨b9, 0, none⟩)), (5, .int .i64 s)] ∧ L = [bx b9 60 [v2, v4, .int .i64 a1.term.kind, .int .i64 a1.term.arg, v6]]) ⟨_, ovr_eq _ _ rfl, rfl⟩ ?_
 rintro x10 _ _ ⟨e3, rfl, rfl⟩ X7 hp hx8
 replace hp : fettleref08_uses.bd8 a1 a8 x10 = some X7 := hp
 refine TC.seq fun K12 k13 => sr <| tm rfl <| tv (fa f60_1 rfl) rfl <| tv (lb s58 0 rfl rfl rfl) rfl <| tv (ln u58 h5 rfl) rfl <| tv (blt rfl rfl) rfl <| nz <| cD rfl hp (fun hc14 hp => ?_) fun hc14 hp => ?_
 · refine sk k13 rfl <| TC.seq fun K15 k16 => TC.block <| sr <| tv (fa f60_1 rfl) rfl <| tv (lb s58 0 rfl rfl rfl) rfl <| tm rfl <| ti u58 i62 h5 hp rfl rfl rfl rfl ?_
   rintro x11 b12 o13 _ hp ⟨v17, rfl, h18⟩ h16
   refine tv (fa f62_2 rfl) rfl <| tv (lr s32 sH h16 2 rfl rfl) rfl <| tm rfl <| bE hp fun x19 hy18 hp => tc 0 [_] rfl c55 (fun _ => fettleref08_has_ok (a1 := x11.args) (a4 := a8) (h18.mono subH) hy18) rfl ?_
   rintro _ _ ⟨rfl, rfl⟩
   refine ta rfl <| nz <| TC.seq fun K20 k21 => sr <| tm rfl <| nz <| cB rfl hp (fun hc22 hp => ?_) fun hc22 hp => ?_
   · refine sr <| ta rfl <| nz <| TC.ret ?_
     obtain rfl := ex_ret hp hx8
     exact rt hr6 [] ⟨rfl, rfl⟩
   · refine sk k21 rfl <| sr <| tv (fa f60_1 rfl) rfl <| tv (lb s58 0 rfl rfl rfl) rfl <| tm rfl <| ti u58 i62 h5 hp rfl rfl rfl rfl ?_
     rintro x20 b21 o22 _ hp ⟨v26, rfl, h27⟩ h25
     refine tv (fa f62_1 rfl) rfl <| tv (lr s3 sH h25 1 rfl rfl) rfl <| tm rfl <| tv (beq rfl rfl) rfl <| nz <| cD rfl hp (fun hc24 hp => ?_) fun hc24 hp => ?_
     · refine sr <| ta rfl <| nz <| TC.ret ?_
       obtain rfl := ex_ret hp hx8
       exact rt hr6 [] ⟨rfl, rfl⟩
     · exact sk k16 rfl <| TC.region <| tm rfl <| tv (bad rfl rfl) rfl <| ta rfl <| nl <| gk hp [0] ⟨_, ovr_eq _ _ rfl, rfl⟩
 · exact TC.exit <| jn [0] (J10 (ex_ret hp hx8))
/-! ### fettle/fettleref08.makes -/
abbrev fettleref08_makes.R (r : Bool) (v : Value) (A : List FP) : Prop := .bool r = v ∧ A = []
def fettleref08_makes.nx8  : Option Bool :=
  some false
def fettleref08_makes.bd8 (a1 : PBlock) (a8 : Int) (x10 : Int) : Option (Ex (Ex Bool Unit) Int) :=
  if x10 < (len a1.ins) then
    (idx a1.ins x10).bind fun x11 =>
    if x11.dst = a8 then
      some (.ret (.ret true))
    else
      some (.go (w64 (x10 + 1)))
  else
    some (.ret (.go ()))
def fettleref08_makes (a1 : PBlock) (a8 : Int) : Option Bool :=
  (whl (fun (s : Int) => fettleref08_makes.bd8 a1 a8 s) FUEL 0).bind fun z =>
  match z with
    | .ret r => some r
    | .go p => fettleref08_makes.nx8
theorem fettleref08_makes_ok {E : World} {H : FP} {w : World} {a1 : PBlock} {a8 : Int} {v2 : Value} {v4 : Value} {v6 : Value} {r : Bool} (h3 : SlI kPhi H a1.phis v2) (h5 : SlI kInstr H a1.ins v4) (h7 : SlI (kInt .i64) H a1.term.to v6) (hp : fettleref08_makes a1 a8 = some r) (hst : St E H [] w) :
    Fn Tryd.prog 31 #[.agg #[v2, v4, .int .i64 a1.term.kind, .int .i64 a1.term.arg, v6], .int .i64 a8] w fun v w' => ∃ A, fettleref08_makes.R r v A ∧ St E H A w' := by
 refine fb 21 [.tmp 4] Tryd.func31 rfl rfl rfl rfl rfl hst <| sr <| tb [v2, v4, .int .i64 a1.term.kind, .int .i64 a1.term.arg, v6] rfl rfl fun b9 => ta rfl <| nz <| TC.seq fun K1 k2 => sr <| ta rfl <| nz <| TC.block <| bE hp fun z_4 hz5 hr6 => ?_
 have J10 {e9} (hq11 : .go () = z_4) : ∀ w, St E H [] w → K1 (ovr e9 []) w := by
  subst hq11
  replace hp : fettleref08_makes.nx8 = some r := hr6
  exact tg k2 <| sr <| ta rfl <| nz <| TC.ret <| rt hp [] ⟨rfl, rfl⟩
 refine lp hz5 [0] rfl (fun s e L => ∃ e3, e = ovr e3 [(1, .int .i64 a8), (2, .pointer (some ⟨b9, 0, none⟩)), (5, .int .i64 s)] ∧ L = [bx b9 60 [v2, v4, .int .i64 a1.term.kind, .int .i64 a1.term.arg, v6]]) ⟨_, ovr_eq _ _ rfl, rfl⟩ ?_
 rintro x10 _ _ ⟨e3, rfl, rfl⟩ X7 hp hx8
 replace hp : fettleref08_makes.bd8 a1 a8 x10 = some X7 := hp
 refine TC.seq fun K12 k13 => sr <| tm rfl <| tv (fa f60_1 rfl) rfl <| tv (lb s58 0 rfl rfl rfl) rfl <| tv (ln u58 h5 rfl) rfl <| tv (blt rfl rfl) rfl <| nz <| cD rfl hp (fun hc14 hp => ?_) fun hc14 hp => ?_
 · refine sk k13 rfl <| TC.seq fun K15 k16 => TC.block <| sr <| tv (fa f60_1 rfl) rfl <| tv (lb s58 0 rfl rfl rfl) rfl <| tm rfl <| ti u58 i62 h5 hp rfl rfl rfl rfl ?_
   rintro x11 b12 o13 _ hp ⟨v17, rfl, h18⟩ h16
   refine tv (fa f62_1 rfl) rfl <| tv (lr s3 sH h16 1 rfl rfl) rfl <| tm rfl <| tv (beq rfl rfl) rfl <| nz <| cD rfl hp (fun hc18 hp => ?_) fun hc18 hp => ?_
   · refine sr <| ta rfl <| nz <| TC.ret ?_
     obtain rfl := ex_ret hp hx8
     exact rt hr6 [] ⟨rfl, rfl⟩
   · exact sk k16 rfl <| TC.region <| tm rfl <| tv (bad rfl rfl) rfl <| ta rfl <| nl <| gk hp [0] ⟨_, ovr_eq _ _ rfl, rfl⟩
 · exact TC.exit <| jn [] (J10 (ex_ret hp hx8))
/-! ### fettle/fettleref08.phi -/
abbrev fettleref08_phi.R (r : Bool) (v : Value) (A : List FP) : Prop := .bool r = v ∧ A = []
def fettleref08_phi.nx8  : Option Bool :=
  some false
def fettleref08_phi.bd8 (a1 : PBlock) (a8 : Int) (x10 : Int) : Option (Ex (Ex Bool Unit) Int) :=
  if x10 < (len a1.phis) then
    (idx a1.phis x10).bind fun x11 =>
    if x11.dst = a8 then
      some (.ret (.ret true))
    else
      some (.go (w64 (x10 + 1)))
  else
    some (.ret (.go ()))
def fettleref08_phi (a1 : PBlock) (a8 : Int) : Option Bool :=
  (whl (fun (s : Int) => fettleref08_phi.bd8 a1 a8 s) FUEL 0).bind fun z =>
  match z with
    | .ret r => some r
    | .go p => fettleref08_phi.nx8
theorem fettleref08_phi_ok {E : World} {H : FP} {w : World} {a1 : PBlock} {a8 : Int} {v2 : Value} {v4 : Value} {v6 : Value} {r : Bool} (h3 : SlI kPhi H a1.phis v2) (h5 : SlI kInstr H a1.ins v4) (h7 : SlI (kInt .i64) H a1.term.to v6) (hp : fettleref08_phi a1 a8 = some r) (hst : St E H [] w) :
    Fn Tryd.prog 32 #[.agg #[v2, v4, .int .i64 a1.term.kind, .int .i64 a1.term.arg, v6], .int .i64 a8] w fun v w' => ∃ A, fettleref08_phi.R r v A ∧ St E H A w' := by
 refine fb 21 [.tmp 4] Tryd.func32 rfl rfl rfl rfl rfl hst <| sr <| tb [v2, v4, .int .i64 a1.term.kind, .int .i64 a1.term.arg, v6] rfl rfl fun b9 => ta rfl <| nz <| TC.seq fun K1 k2 => sr <| ta rfl <| nz <| TC.block <| bE hp fun z_4 hz5 hr6 => ?_
 have J10 {e9} (hq11 : .go () = z_4) : ∀ w, St E H [] w → K1 (ovr e9 []) w := by
  subst hq11
  replace hp : fettleref08_phi.nx8 = some r := hr6
  exact tg k2 <| sr <| ta rfl <| nz <| TC.ret <| rt hp [] ⟨rfl, rfl⟩
 refine lp hz5 [0] rfl (fun s e L => ∃ e3, e = ovr e3 [(1, .int .i64 a8), (2, .pointer (some ⟨b9, 0, none⟩)), (5, .int .i64 s)] ∧ L = [bx b9 60 [v2, v4, .int .i64 a1.term.kind, .int .i64 a1.term.arg, v6]]) ⟨_, ovr_eq _ _ rfl, rfl⟩ ?_
 rintro x10 _ _ ⟨e3, rfl, rfl⟩ X7 hp hx8
 replace hp : fettleref08_phi.bd8 a1 a8 x10 = some X7 := hp
 refine TC.seq fun K12 k13 => sr <| tm rfl <| tv (fa f60_0 rfl) rfl <| tv (lb s57 0 rfl rfl rfl) rfl <| tv (ln u57 h3 rfl) rfl <| tv (blt rfl rfl) rfl <| nz <| cD rfl hp (fun hc14 hp => ?_) fun hc14 hp => ?_
 · refine sk k13 rfl <| TC.seq fun K15 k16 => TC.block <| sr <| tv (fa f60_0 rfl) rfl <| tv (lb s57 0 rfl rfl rfl) rfl <| tm rfl <| ti u57 i64 h3 hp rfl rfl rfl rfl ?_
   rintro x11 b12 o13 _ hp ⟨v17, rfl, h18⟩ h16
   refine tv (fa f64_0 rfl) rfl <| tv (lr s3 sH h16 0 rfl rfl) rfl <| tm rfl <| tv (beq rfl rfl) rfl <| nz <| cD rfl hp (fun hc18 hp => ?_) fun hc18 hp => ?_
   · refine sr <| ta rfl <| nz <| TC.ret ?_
     obtain rfl := ex_ret hp hx8
     exact rt hr6 [] ⟨rfl, rfl⟩
   · exact sk k16 rfl <| TC.region <| tm rfl <| tv (bad rfl rfl) rfl <| ta rfl <| nl <| gk hp [0] ⟨_, ovr_eq _ _ rfl, rfl⟩
 · exact TC.exit <| jn [] (J10 (ex_ret hp hx8))
/-! ### fettle/fettleref08.Live -/
abbrev fettleref08_Live.R (r : List Bool × List Bool) (v : Value) (A : List FP) : Prop := ∃ (w1 : Value) (G1 : FP) (w2 : Value) (G2 : FP), .tuple #[w1, w2] = v ∧ A = [G1, G2] ∧ SlO 4 kBool r.1 w1 G1 ∧ SlO 4 kBool r.2 w2 G2
def fettleref08_Live.nx10  (x23 : List Bool) (x26 : List Bool) : Option (List Bool × List Bool) :=
  some (x23, x26)
def fettleref08_Live.nx24 (x22 : Int) (x36 : List Bool) (x39 : List Bool) : Option (Ex (List Bool × List Bool) (List Bool × List Bool × Int)) :=
  some (.go (x36, x39, (w64 (x22 + 1))))
def fettleref08_Live.nx42 (a1 : PFunc) (a6 : Int) (x29 : List Bool) (x35 : Int) (x50 : List Bool) : Option (Ex (List Bool × List Bool) (List Bool × List Bool × Int)) :=
  (idx a1.blocks x35).bind fun x53 =>
  (fettleref08_uses x53 a6).bind fun x65 =>
  (idx a1.blocks x35).bind fun x66 =>
  (fettleref08_makes x66 a6).bind fun x78 =>
  (idx a1.blocks x35).bind fun x79 =>
  (fettleref08_phi x79 a6).bind fun x91 =>
  (if (!x91) = true then (if x65 = true then some true else (idx x50 x35).bind fun x100 =>
  some (decide (x100 = true ∧ (!x78) = true))).bind fun t99 =>
  some t99 else some false).bind fun t92 =>
  (idx x29 x35).bind fun x93 =>
  some (.go ((x29.set (x35).toNat t92), x50, (w64 (x35 + 1))))
def fettleref08_Live.bd42 (a1 : PFunc) (a6 : Int) (x29 : List Bool) (x35 : Int) (x42 : List Int) (x46 : List Bool) (x49 : Int) : Option (Ex (List Bool) (List Bool × Int)) :=
  if x49 < (len x42) then
    (idx x42 x49).bind fun x106 =>
    (fettleref08_along a1 x35 x106 a6).bind fun x112 =>
    (idx x46 x35).bind fun x113 =>
    (if x113 = true ∨ x112 = true then some true else (idx x42 x49).bind fun x126 =>
    (idx x29 x126).bind fun x132 =>
    some x132).bind fun t119 =>
    (idx x46 x35).bind fun x120 =>
    some (.go ((x46.set (x35).toNat t119), (w64 (x49 + 1))))
  else
    some (.ret x46)
def fettleref08_Live.bd24 (a1 : PFunc) (a6 : Int) (x29 : List Bool) (x32 : List Bool) (x35 : Int) : Option (Ex (List Bool × List Bool) (List Bool × List Bool × Int)) :=
  if x35 < (len a1.blocks) then
    (fettleref05_Next a1 x35).bind fun x42 =>
    (whl (fun (s : (List Bool × Int)) => fettleref08_Live.bd42 a1 a6 x29 x35 x42 s.1 s.2) FUEL (x32, 0)).bind fun z =>
    fettleref08_Live.nx42 a1 a6 x29 x35 z
  else
    some (.ret (x29, x32))
def fettleref08_Live.bd10 (a1 : PFunc) (a6 : Int) (x16 : List Bool) (x19 : List Bool) (x22 : Int) : Option (Ex (List Bool × List Bool) (List Bool × List Bool × Int)) :=
  if x22 ≤ (w64 (2 * (len a1.blocks))) then
    (whl (fun (s : (List Bool × List Bool × Int)) => fettleref08_Live.bd24 a1 a6 s.1 s.2.1 s.2.2) FUEL (x16, x19, 0)).bind fun z =>
    fettleref08_Live.nx24 x22 z.1 z.2
  else
    some (.ret (x16, x19))
def fettleref08_Live (a1 : PFunc) (a6 : Int) : Option (List Bool × List Bool) :=
  (mkl (len a1.blocks) false).bind fun x8 =>
  (mkl (len a1.blocks) false).bind fun x12 =>
  (whl (fun (s : (List Bool × List Bool × Int)) => fettleref08_Live.bd10 a1 a6 s.1 s.2.1 s.2.2) FUEL (x8, x12, 0)).bind fun z =>
  fettleref08_Live.nx10 z.1 z.2
set_option maxHeartbeats 4000000 in
theorem fettleref08_Live_ok {E : World} {H : FP} {w : World} {a1 : PFunc} {a6 : Int} {v2 : Value} {v4 : Value} {r : List Bool × List Bool} (h3 : SlI (kInt .i64) H a1.regs v2) (h5 : SlI kBlock H a1.blocks v4) (hp : fettleref08_Live a1 a6 = some r) (hst : St E H [] w) :
    Fn Tryd.prog 12 #[.agg #[.int .i64 a1.params, .int .i64 a1.result, v2, v4], .int .i64 a6] w fun v w' => ∃ A, fettleref08_Live.R r v A ∧ St E H A w' := by
 refine fb 116 [.tmp 4, .tmp 5] Tryd.func12 rfl rfl rfl rfl rfl hst <| sr <| tb [.int .i64 a1.params, .int .i64 a1.result, v2, v4] rfl rfl fun b7 => ta rfl <| ta rfl <| nz <| sr <| tv (fa f41_3 rfl) rfl <| tv (lb s39 0 rfl rfl rfl) rfl <| tv (ln u39 h5 rfl) rfl <| tk (k := kBool) u42 i4 hp ⟨rfl, rfl⟩ rfl rfl rfl rfl rfl rfl fun x8 v9 F10 h11 hp => ta rfl <| nz <| sr <| tv (fa f41_3 rfl) rfl <| tv (lb s39 1 rfl rfl rfl) rfl <| tv (ln u39 h5 rfl) rfl <| tk (k := kBool) u42 i4 hp ⟨rfl, rfl⟩ rfl rfl rfl rfl rfl rfl fun x12 v13 F14 h15 hp => ta rfl <| nz <| TC.seq fun K3 k4 => sr <| ta rfl <| nz <| TC.block <| bE hp fun z_6 hz7 hr8 => ?_
 have J12 {x23 x26 F24 F27 e11} (h25 : SlO 4 kBool x23 v9 F24) (h28 : SlO 4 kBool x26 v13 F27) (hq13 : (x23, x26) = z_6) : ∀ w, St E H [F24, F27] w → K3 (ovr e11 [(6, v9), (7, v13)]) w := by
  subst hq13
  replace hp : fettleref08_Live.nx10 x23 x26 = some r := hr8
  exact tg k4 <| sr <| tm rfl <| tm rfl <| ta rfl <| ta rfl <| nz <| TC.ret <| rt hp [0, 1] ⟨v9, F24, v13, F27, rfl, rfl, h25, h28⟩
 refine lp hz7 [2, 1, 0] rfl (fun s e L => ∃ x16 x19 x22 F17 F20 e5, s = (x16, x19, x22) ∧ SlO 4 kBool x16 v9 F17 ∧ SlO 4 kBool x19 v13 F20 ∧ e = ovr e5 [(1, .int .i64 a6), (2, .pointer (some ⟨b7, 0, none⟩)), (6, v9), (7, v13), (8, .int .i64 x22)] ∧ L = [bx b7 41 [.int .i64 a1.params, .int .i64 a1.result, v2, v4], F17, F20]) ⟨_, _, _, F10, F14, _, rfl, h11, h15, ovr_eq _ _ rfl, rfl⟩ ?_
 rintro _ _ _ ⟨x16, x19, x22, F17, F20, e5, rfl, h18, h21, rfl, rfl⟩ X9 hp hx10
 replace hp : fettleref08_Live.bd10 a1 a6 x16 x19 x22 = some X9 := hp
 refine TC.seq fun K14 k15 => sr <| tm rfl <| tv (fa f41_3 rfl) rfl <| tv (lb s39 0 rfl rfl rfl) rfl <| tv (ln u39 h5 rfl) rfl <| tv (bmu rfl rfl) rfl <| tv (ble rfl rfl) rfl <| nz <| cD rfl hp (fun hc16 hp => ?_) fun hc16 hp => ?_
 · refine sk k15 rfl <| TC.seq fun K17 k18 => TC.block <| sr <| ta rfl <| nz <| TC.block <| bE hp fun z_20 hz21 hr22 => ?_
   have J26 {x36 x39 F37 F40 e25} (h38 : SlO 4 kBool x36 v9 F37) (h41 : SlO 4 kBool x39 v13 F40) (hq27 : (x36, x39) = z_20) : ∀ w, St E H [bx b7 41 [.int .i64 a1.params, .int .i64 a1.result, v2, v4], F37, F40] w → K17 (ovr e25 [(1, .int .i64 a6), (2, .pointer (some ⟨b7, 0, none⟩)), (6, v9), (7, v13), (8, .int .i64 x22)]) w := by
    subst hq27
    replace hp : fettleref08_Live.nx24 x22 x36 x39 = some X9 := hr22
    exact tg k18 <| TC.region <| tm rfl <| tv (bad rfl rfl) rfl <| ta rfl <| nl <| gk hp [0, 1, 2] ⟨_, _, _, F37, F40, _, rfl, h38, h41, ovr_eq _ _ rfl, rfl⟩
   refine lp hz21 [0, 1, 2] rfl (fun s e L => ∃ x29 x32 x35 F30 F33 e19, s = (x29, x32, x35) ∧ SlO 4 kBool x29 v9 F30 ∧ SlO 4 kBool x32 v13 F33 ∧ e = ovr e19 [(1, .int .i64 a6), (2, .pointer (some ⟨b7, 0, none⟩)), (6, v9), (7, v13), (8, .int .i64 x22), (9, .int .i64 x35)] ∧ L = [bx b7 41 [.int .i64 a1.params, .int .i64 a1.result, v2, v4], F30, F33]) ⟨_, _, _, F17, F20, _, rfl, h18, h21, ovr_eq _ _ rfl, rfl⟩ ?_
   rintro _ _ _ ⟨x29, x32, x35, F30, F33, e19, rfl, h31, h34, rfl, rfl⟩ X23 hp hx24
   replace hp : fettleref08_Live.bd24 a1 a6 x29 x32 x35 = some X23 := hp
   refine TC.seq fun K28 k29 => sr <| tm rfl <| tv (fa f41_3 rfl) rfl <| tv (lb s39 0 rfl rfl rfl) rfl <| tv (ln u39 h5 rfl) rfl <| tv (blt rfl rfl) rfl <| nz <| cD rfl hp (fun hc30 hp => ?_) fun hc30 hp => ?_
   · refine sk k29 rfl <| TC.seq fun K31 k32 => TC.block <| sr <| tv (lA (ds := [.int .i64 a1.params, .int .i64 a1.result, v2, v4]) ag_41 0 rfl rfl rfl rfl) rfl <| tm rfl <| bE hp fun x42 hy33 hp => tc 0 [_,_,_] rfl c28 (fun _ => fettleref05_Next_ok (a1 := a1) (a6 := x35) (h3.mono subH) (h5.mono subH) hy33) rfl ?_
     rintro _ _ ⟨v43, F44, rfl, rfl, h45⟩
     refine ta rfl <| nz <| TC.seq fun K35 k36 => sr <| ta rfl <| nz <| TC.block <| bE hp fun z_38 hz39 hr40 => ?_
     have J72 {x50 F51 e43} (h52 : SlO 4 kBool x50 v13 F51) (hq73 : x50 = z_38) : ∀ w, St E H [bx b7 41 [.int .i64 a1.params, .int .i64 a1.result, v2, v4], F30, F51] w → K35 (ovr e43 [(1, .int .i64 a6), (2, .pointer (some ⟨b7, 0, none⟩)), (6, v9), (7, v13), (8, .int .i64 x22), (9, .int .i64 x35)]) w := by
      subst hq73
      replace hp : fettleref08_Live.nx42 a1 a6 x29 x35 x50 = some X23 := hr40
      refine tg k36 <| sr <| tv (fa f41_3 rfl) rfl <| tv (lb s39 0 rfl rfl rfl) rfl <| tm rfl <| ti u39 i60 h5 hp rfl rfl rfl rfl ?_
      rintro x53 b54 o55 _ hp ⟨v59, v61, v63, rfl, h60, h62, h64⟩ h58
      refine tv (lR (ds := [v59, v61, .int .i64 x53.term.kind, .int .i64 x53.term.arg, v63]) ag_60 sH h58 0 rfl rfl rfl) rfl <| tm rfl <| bE hp fun x65 hy45 hp => tc 0 [_,_,_] rfl c30 (fun _ => fettleref08_uses_ok (a1 := x53) (a8 := a6) (h60.mono subH) (h62.mono subH) (h64.mono subH) hy45) rfl ?_
      rintro _ _ ⟨rfl, rfl⟩
      refine ta rfl <| nz <| sr <| tv (fa f41_3 rfl) rfl <| tv (lb s39 0 rfl rfl rfl) rfl <| tm rfl <| ti u39 i60 h5 hp rfl rfl rfl rfl ?_
      rintro x66 b67 o68 _ hp ⟨v72, v74, v76, rfl, h73, h75, h77⟩ h71
      refine tv (lR (ds := [v72, v74, .int .i64 x66.term.kind, .int .i64 x66.term.arg, v76]) ag_60 sH h71 0 rfl rfl rfl) rfl <| tm rfl <| bE hp fun x78 hy48 hp => tc 0 [_,_,_] rfl c31 (fun _ => fettleref08_makes_ok (a1 := x66) (a8 := a6) (h73.mono subH) (h75.mono subH) (h77.mono subH) hy48) rfl ?_
      rintro _ _ ⟨rfl, rfl⟩
      refine ta rfl <| nz <| sr <| tv (fa f41_3 rfl) rfl <| tv (lb s39 0 rfl rfl rfl) rfl <| tm rfl <| ti u39 i60 h5 hp rfl rfl rfl rfl ?_
      rintro x79 b80 o81 _ hp ⟨v85, v87, v89, rfl, h86, h88, h90⟩ h84
      refine tv (lR (ds := [v85, v87, .int .i64 x79.term.kind, .int .i64 x79.term.arg, v89]) ag_60 sH h84 0 rfl rfl rfl) rfl <| tm rfl <| bE hp fun x91 hy51 hp => tc 0 [_,_,_] rfl c32 (fun _ => fettleref08_phi_ok (a1 := x79) (a8 := a6) (h86.mono subH) (h88.mono subH) (h90.mono subH) hy51) rfl ?_
      rintro _ _ ⟨rfl, rfl⟩
      refine ta rfl <| nz <| TC.region <| tm rfl <| tm rfl <| tm rfl <| tv (rv_not rfl) rfl <| tm rfl <| bE hp fun t92 ht59 hp => TL.cut 12 fun K53 k54 => ?_
      have J55 {e57} : ∀ w, St E H [bx b7 41 [.int .i64 a1.params, .int .i64 a1.result, v2, v4], F30, F51] w → K53 (ovr e57 [(112, .bool t92), (1, .int .i64 a6), (2, .pointer (some ⟨b7, 0, none⟩)), (6, v9), (7, v13), (8, .int .i64 x22), (9, .int .i64 x35), (96, v9), (97, .int .i64 x35)]) w := by
       exact tlg k54 <| tO u42 i4 h31 hp rfl rfl rfl rfl fun x93 b94 o95 h96 hp => tp [1, 0, 2] [_,_,_] rfl rfl <| tE h31 h96 m4 rfl ⟨rfl, rfl⟩ w1 fun F97 h98 => nl <| tg k32 <| TC.region <| tm rfl <| tv (bad rfl rfl) rfl <| ta rfl <| nl <| gk hp [1, 0, 2] ⟨_, _, _, F97, F51, _, rfl, h98, h52, ovr_eq _ _ rfl, rfl⟩
      refine ifE ht59 (fun hc56 hp => ?_) fun hc56 hp => ?_
      · refine gy rfl (bbT hc56) <| tm rfl <| gy rfl (bbT hc56) <| tm rfl <| bE hp fun t99 ht65 hp => TL.cut 9 fun K60 k61 => ?_
        have J62 {e64} : ∀ w, St E H [bx b7 41 [.int .i64 a1.params, .int .i64 a1.result, v2, v4], F30, F51] w → K60 (ovr e64 [(111, .bool t99), (1, .int .i64 a6), (2, .pointer (some ⟨b7, 0, none⟩)), (6, v9), (7, v13), (8, .int .i64 x22), (9, .int .i64 x35), (96, v9), (97, .int .i64 x35), (100, .bool (!x91)), (101, .bool x65), (102, .bool x65)]) w := by
         refine tlg k61 <| tv (pT (bbT hc56)) rfl ?_
         obtain rfl := Option.some.inj hp
         exact nj J55 rfl
        refine ifE ht65 (fun hc63 hp => ?_) fun hc63 hp => ?_
        · refine gn rfl (bbT hc63) rfl rfl <| gn rfl (bbT hc63) rfl rfl <| gn rfl (bbT hc63) rfl rfl <| gn rfl (bbT hc63) rfl rfl <| gn rfl (bbT hc63) rfl rfl <| gu rfl rfl rfl <| gu rfl rfl rfl <| gn rfl (bbT hc63) rfl rfl <| gy rfl (bbT hc56) <| tv (pT (bbT hc63)) rfl ?_
          obtain rfl := Option.some.inj hp
          exact nj J62 rfl
        · refine gy rfl (bbF hc63) <| tm rfl <| gy rfl (bbF hc63) <| tm rfl <| gy rfl (bbF hc63) <| ti u42 i4 (h52).ro hp rfl rfl rfl rfl ?_
          rintro x100 b101 o102 _ hp rfl h105
          refine gy rfl (bbF hc63) <| tv (lr s4 (Src.at_ 2 rfl) h105 0 rfl rfl) rfl <| gy rfl (bbF hc63) <| tm rfl <| TL.cut 3 fun K67 k68 => ?_
          have J69 {e71} : ∀ w, St E H [bx b7 41 [.int .i64 a1.params, .int .i64 a1.result, v2, v4], F30, F51] w → K67 (ovr e71 [(110, .bool (decide (x100 = true ∧ (!x78) = true))), (1, .int .i64 a6), (2, .pointer (some ⟨b7, 0, none⟩)), (6, v9), (7, v13), (8, .int .i64 x22), (9, .int .i64 x35), (96, v9), (97, .int .i64 x35), (100, .bool (!x91)), (101, .bool x65), (102, .bool x65), (103, v13), (104, .int .i64 x35), (105, .pointer (some ⟨b101, o102, none⟩)), (106, .bool x100), (107, .bool x100)]) w := by
           refine tlg k68 <| gy rfl (bbT hc56) <| tv (pF (bbF hc63)) rfl ?_
           obtain rfl := Option.some.inj hp
           exact nj J62 rfl
          by_cases hc70 : x100 = true
          · exact gy rfl (bbT hc70) <| tm rfl <| gy rfl (bbT hc70) <| tv (rv_not rfl) rfl <| gy rfl (bbF hc63) <| tv (pT (bbT hc70)) rfl <| nj J69 (bAt' hc70)
          · exact gn rfl (bbF hc70) rfl rfl <| gn rfl (bbF hc70) rfl rfl <| gy rfl (bbF hc63) <| tv (pF (bbF hc70)) rfl <| nj J69 (bAf hc70)
      · refine gn rfl (bbF hc56) rfl rfl <| gn rfl (bbF hc56) rfl rfl <| gu rfl rfl rfl <| gu rfl rfl rfl <| gu rfl rfl rfl <| gu rfl rfl rfl <| gu rfl rfl rfl <| gu rfl rfl rfl <| gu rfl rfl rfl <| gu rfl rfl rfl <| gn rfl (bbF hc56) rfl rfl <| tv (pF (bbF hc56)) rfl ?_
        obtain rfl := Option.some.inj hp
        exact nj J55 rfl
     refine lp hz39 [1, 2, 3, 0] rfl (fun s e L => ∃ x46 x49 F47 e37, s = (x46, x49) ∧ SlO 4 kBool x46 v13 F47 ∧ e = ovr e37 [(1, .int .i64 a6), (2, .pointer (some ⟨b7, 0, none⟩)), (6, v9), (7, v13), (8, .int .i64 x22), (9, .int .i64 x35), (10, v43), (11, .int .i64 x49)] ∧ L = [bx b7 41 [.int .i64 a1.params, .int .i64 a1.result, v2, v4], F30, F47, F44]) ⟨_, _, F33, _, rfl, h34, ovr_eq _ _ rfl, rfl⟩ ?_
     rintro _ _ _ ⟨x46, x49, F47, e37, rfl, h48, rfl, rfl⟩ X41 hp hx42
     replace hp : fettleref08_Live.bd42 a1 a6 x29 x35 x42 x46 x49 = some X41 := hp
     refine TC.seq fun K74 k75 => sr <| tm rfl <| tm rfl <| tv (ln u32 h45.ro rfl) rfl <| tv (blt rfl rfl) rfl <| nz <| cD rfl hp (fun hc76 hp => ?_) fun hc76 hp => ?_
     · refine sk k75 rfl <| TC.seq fun K77 k78 => TC.block <| TC.seq fun K79 k80 => cq mix (by kernel_rfl) <| qv (lA (ds := [.int .i64 a1.params, .int .i64 a1.result, v2, v4]) ag_41 0 rfl rfl rfl rfl) rfl <| qv mv rfl <| qv mv rfl <| qv mv rfl <| qi u32 i3 (h45).ro hp rfl rfl rfl rfl ?_
       rintro x106 b107 o108 _ hp rfl h111
       refine qv (lr s3 (Src.at_ 3 rfl) h111 0 rfl rfl) rfl <| qv mv rfl <| bE hp fun x112 hy82 hp => qc (.bool x112) c29 (fun _ => fettleref08_along_ok (a1 := a1) (a6 := x35) (a7 := x106) (a8 := a6) (h3.mono subH) (h5.mono subH) hy82) (fun _ _ h => ⟨h.1.symm, h.2⟩) rfl <| qv sg rfl <| QL.nil <| tg k80 <| TC.region <| tm rfl <| tm rfl <| tm rfl <| tm rfl <| ti u42 i4 (h48).ro hp rfl rfl rfl rfl ?_
       rintro x113 b114 o115 _ hp rfl h118
       refine tv (lr s4 (Src.at_ 2 rfl) h118 0 rfl rfl) rfl <| tm rfl <| TL.cut 2 fun K84 k85 => ?_
       have J86 {e88} : ∀ w, St E H [bx b7 41 [.int .i64 a1.params, .int .i64 a1.result, v2, v4], F30, F47, F44] w → K84 (ovr e88 [(64, .bool (decide (x113 = true ∨ x112 = true))), (1, .int .i64 a6), (2, .pointer (some ⟨b7, 0, none⟩)), (6, v9), (7, v13), (8, .int .i64 x22), (9, .int .i64 x35), (10, v43), (11, .int .i64 x49), (56, v13), (57, .int .i64 x35)]) w := by
        refine tlg k85 <| tm rfl <| bE hp fun t119 ht95 hp => TL.cut 8 fun K89 k90 => ?_
        have J91 {e93} : ∀ w, St E H [bx b7 41 [.int .i64 a1.params, .int .i64 a1.result, v2, v4], F30, F47, F44] w → K89 (ovr e93 [(73, .bool t119), (1, .int .i64 a6), (2, .pointer (some ⟨b7, 0, none⟩)), (6, v9), (7, v13), (8, .int .i64 x22), (9, .int .i64 x35), (10, v43), (11, .int .i64 x49), (56, v13), (57, .int .i64 x35)]) w := by
         exact tlg k90 <| tO u42 i4 h48 hp rfl rfl rfl rfl fun x120 b121 o122 h123 hp => tp [2, 0, 1, 3] [_,_,_,_] rfl rfl <| tE h48 h123 m4 rfl ⟨rfl, rfl⟩ w1 fun F124 h125 => nl <| tg k78 <| TC.region <| tm rfl <| tv (bad rfl rfl) rfl <| ta rfl <| nl <| gk hp [1, 2, 0, 3] ⟨_, _, F124, _, rfl, h125, ovr_eq _ _ rfl, rfl⟩
        refine ifE ht95 (fun hc92 hp => ?_) fun hc92 hp => ?_
        · refine gn rfl (bT hc92) rfl rfl <| gn rfl (bT hc92) rfl rfl <| gn rfl (bT hc92) rfl rfl <| gn rfl (bT hc92) rfl rfl <| gn rfl (bT hc92) rfl rfl <| gn rfl (bT hc92) rfl rfl <| gn rfl (bT hc92) rfl rfl <| tv (pT (bT hc92)) rfl ?_
          obtain rfl := Option.some.inj hp
          exact nj J91 rfl
        · refine gy rfl (bF hc92) <| tm rfl <| gy rfl (bF hc92) <| tm rfl <| gy rfl (bF hc92) <| tm rfl <| gy rfl (bF hc92) <| ti u32 i3 (h45).ro hp rfl rfl rfl rfl ?_
          rintro x126 b127 o128 _ hp rfl h131
          refine gy rfl (bF hc92) <| tv (lr s3 (Src.at_ 3 rfl) h131 0 rfl rfl) rfl <| gy rfl (bF hc92) <| ti u42 i4 (h31).ro hp rfl rfl rfl rfl ?_
          rintro x132 b133 o134 _ hp rfl h137
          refine gy rfl (bF hc92) <| tv (lr s4 (Src.at_ 1 rfl) h137 0 rfl rfl) rfl <| tv (pF (bF hc92)) rfl ?_
          obtain rfl := Option.some.inj hp
          exact nj J91 rfl
       by_cases hc87 : x113 = true
       · exact gn rfl (bbT hc87) rfl rfl <| tv (pT (bbT hc87)) rfl <| nj J86 (bOt hc87)
       · exact gy rfl (bbF hc87) <| tm rfl <| tv (pF (bbF hc87)) rfl <| nj J86 (bOf' hc87)
     · exact TC.exit <| jn [0, 1, 2] (J72 h48 (ex_ret hp hx42))
   · exact TC.exit <| jn [0, 1, 2] (J26 h31 h34 (ex_ret hp hx24))
 · exact TC.exit <| jn [1, 2] (J12 h18 h21 (ex_ret hp hx10))
end Go.Proofs.YteaknconpkklhaaDoor
