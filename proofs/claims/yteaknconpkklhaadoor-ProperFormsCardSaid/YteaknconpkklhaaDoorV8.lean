/- The walk through the program's functions: each one's pure reading, and that a call does what it says. No conditions. -/
import Derived.Test.YteaknconpkklhaaDoorV7
set_option linter.unusedVariables false
set_option linter.unusedSimpArgs false
namespace Go.Proofs.YteaknconpkklhaaDoor
open Go Go.Proofs
/-! ### fettle/fettleref05.Next -/
abbrev fettleref05_Next.R (r : List Int) (v : Value) (A : List FP) : Prop := ∃ (w1 : Value) (G1 : FP), w1 = v ∧ A = [G1] ∧ SlO 3 (kInt .i64) r w1 G1
def fettleref05_Next.nx8  (x13 : List Int) : Option (List Int) :=
  some x13
def fettleref05_Next.jn19 (x12 : Int) (x29 : List Int) : Option (Ex (List Int) (List Int × Int)) :=
  some (.go (x29, (w64 (x12 + 1))))
def fettleref05_Next.nx34 (x8 : List Int) (x12 : Int) (x45 : Int) (x53 : Bool) : Option (Ex (List Int) (List Int × Int)) :=
  if (!x53) = true then
    (cat x8 [x45]).bind fun x55 =>
    fettleref05_Next.jn19 x12 x55
  else
    fettleref05_Next.jn19 x12 x8
def fettleref05_Next.bd34 (x8 : List Int) (x45 : Int) (x51 : Bool) (x52 : Int) : Option (Ex Bool (Bool × Int)) :=
  if x52 < (len x8) then
    (if x51 = true then some true else (idx x8 x52).bind fun x60 =>
    some (decide (x60 = x45))).bind fun t59 =>
    some (.go (t59, (w64 (x52 + 1))))
  else
    some (.ret x51)
def fettleref05_Next.bd8 (a1 : PFunc) (a6 : Int) (x8 : List Int) (x12 : Int) : Option (Ex (List Int) (List Int × Int)) :=
  (idx a1.blocks a6).bind fun x17 =>
  if x12 < (len x17.term.to) then
    (idx a1.blocks a6).bind fun x33 =>
    (idx x33.term.to x12).bind fun x45 =>
    (whl (fun (s : (Bool × Int)) => fettleref05_Next.bd34 x8 x45 s.1 s.2) FUEL ((decide (x45 < 0 ∨ x45 ≥ (len a1.blocks))), 0)).bind fun z =>
    fettleref05_Next.nx34 x8 x12 x45 z
  else
    some (.ret x8)
def fettleref05_Next (a1 : PFunc) (a6 : Int) : Option (List Int) :=
  (whl (fun (s : (List Int × Int)) => fettleref05_Next.bd8 a1 a6 s.1 s.2) FUEL (([] : List Int), 0)).bind fun z =>
  fettleref05_Next.nx8 z
set_option maxHeartbeats 4000000 in
theorem fettleref05_Next_ok {E : World} {H : FP} {w : World} {a1 : PFunc} {a6 : Int} {v2 : Value} {v4 : Value} {r : List Int} (h3 : SlI (kInt .i64) H a1.regs v2) (h5 : SlI kBlock H a1.blocks v4) (hp : fettleref05_Next a1 a6 = some r) (hst : St E H [] w) :
    Fn Tryd.prog 28 #[.agg #[.int .i64 a1.params, .int .i64 a1.result, v2, v4], .int .i64 a6] w fun v w' => ∃ A, fettleref05_Next.R r v A ∧ St E H A w' := by
 refine fb 63 [.tmp 4] Tryd.func28 rfl rfl rfl rfl rfl hst <| sr <| tb [.int .i64 a1.params, .int .i64 a1.result, v2, v4] rfl rfl fun b7 => ta rfl <| nz <| sr <| ta rfl <| nz <| TC.seq fun K1 k2 => sr <| ta rfl <| nz <| TC.block <| bE hp fun z_4 hz5 hr6 => ?_
 have J10 {x13 v14 F15 e9} (h16 : SlO 3 (kInt .i64) x13 v14 F15) (hq11 : x13 = z_4) : ∀ w, St E H [F15] w → K1 (ovr e9 [(5, v14)]) w := by
  subst hq11
  replace hp : fettleref05_Next.nx8 x13 = some r := hr6
  exact tg k2 <| sr <| tm rfl <| ta rfl <| nz <| TC.ret <| rt hp [0] ⟨v14, F15, rfl, rfl, h16⟩
 refine W.new0 <| lp hz5 [1, 0] rfl (fun s e L => ∃ x8 x12 v9 F10 e3, s = (x8, x12) ∧ SlO 3 (kInt .i64) x8 v9 F10 ∧ e = ovr e3 [(1, .int .i64 a6), (2, .pointer (some ⟨b7, 0, none⟩)), (5, v9), (6, .int .i64 x12)] ∧ L = [bx b7 41 [.int .i64 a1.params, .int .i64 a1.result, v2, v4], F10]) ⟨_, _, (.slice none 0 0), ([] : FP), _, rfl, (SlO.nil 3), ovr_eq _ _ rfl, rfl⟩ ?_
 rintro _ _ _ ⟨x8, x12, v9, F10, e3, rfl, h11, rfl, rfl⟩ X7 hp hx8
 replace hp : fettleref05_Next.bd8 a1 a6 x8 x12 = some X7 := hp
 refine TC.seq fun K12 k13 => sr <| tm rfl <| tv (fa f41_3 rfl) rfl <| tv (lb s39 0 rfl rfl rfl) rfl <| tm rfl <| ti u39 i60 h5 hp rfl rfl rfl rfl ?_
 rintro x17 b18 o19 _ hp ⟨v23, v25, v27, rfl, h24, h26, h28⟩ h22
 refine tv (fa f60_2 rfl) rfl <| tv (fa f56_2 rfl) rfl <| tv (lr s32 sH h22 4 rfl rfl) rfl <| tv (ln u32 h28 rfl) rfl <| tv (blt rfl rfl) rfl <| nz <| cD rfl hp (fun hc15 hp => ?_) fun hc15 hp => ?_
 · refine sk k13 rfl <| TC.seq fun K16 k17 => ?_
   have J19 {x29 v30 F31 e18} (h32 : SlO 3 (kInt .i64) x29 v30 F31) (hp : fettleref05_Next.jn19 x12 x29 = some X7) : ∀ w, St E H [bx b7 41 [.int .i64 a1.params, .int .i64 a1.result, v2, v4], F31] w → K16 (ovr e18 [(1, .int .i64 a6), (2, .pointer (some ⟨b7, 0, none⟩)), (5, v30), (6, .int .i64 x12)]) w := by
    exact tg k17 <| TC.region <| tm rfl <| tv (bad rfl rfl) rfl <| ta rfl <| nl <| gk hp [0, 1] ⟨_, _, v30, F31, _, rfl, h32, ovr_eq _ _ rfl, rfl⟩
   refine TC.block <| sr <| tv (fa f41_3 rfl) rfl <| tv (lb s39 0 rfl rfl rfl) rfl <| tm rfl <| ti u39 i60 h5 hp rfl rfl rfl rfl ?_
   rintro x33 b34 o35 _ hp ⟨v39, v41, v43, rfl, h40, h42, h44⟩ h38
   refine tv (fa f60_2 rfl) rfl <| tv (fa f56_2 rfl) rfl <| tv (lr s32 sH h38 4 rfl rfl) rfl <| tm rfl <| ti u32 i3 h44 hp rfl rfl rfl rfl ?_
   rintro x45 b46 o47 _ hp rfl h50
   refine tv (lr s3 sH h50 0 rfl rfl) rfl <| ta rfl <| nz <| sr <| tm rfl <| tv (blt rfl rfl) rfl <| tm rfl <| TL.cut 6 fun K22 k23 => ?_
   have J24 {e26} : ∀ w, St E H [bx b7 41 [.int .i64 a1.params, .int .i64 a1.result, v2, v4], F10] w → K22 (ovr e26 [(40, .bool (decide (x45 < 0 ∨ x45 ≥ (len a1.blocks)))), (1, .int .i64 a6), (2, .pointer (some ⟨b7, 0, none⟩)), (5, v9), (6, .int .i64 x12), (7, .int .i64 x45)]) w := by
    refine tlg k23 <| ta rfl <| nz <| TC.seq fun K27 k28 => sr <| ta rfl <| nz <| TC.block <| bE hp fun z_30 hz31 hr32 => ?_
    have J38 {x53 e35} (hq39 : x53 = z_30) : ∀ w, St E H [bx b7 41 [.int .i64 a1.params, .int .i64 a1.result, v2, v4], F10] w → K27 (ovr e35 [(1, .int .i64 a6), (2, .pointer (some ⟨b7, 0, none⟩)), (5, v9), (6, .int .i64 x12), (7, .int .i64 x45), (8, .bool x53)]) w := by
     subst hq39
     replace hp : fettleref05_Next.nx34 x8 x12 x45 x53 = some X7 := hr32
     refine tg k28 <| sr <| tm rfl <| tv (rv_not rfl) rfl <| nz <| cB rfl hp (fun hc36 hp => ?_) fun hc36 hp => ?_
     · exact TC.region <| tm rfl <| tm rfl <| tbs [(0, .int .i64 x45)] [.int .i64 x45] u32 i3 (by kernel_rfl) rfl rfl rfl rfl fun b54 => tp [2, 0, 1] [_,_,_] rfl rfl <| tf 2 0 [_,_,_,_] rfl <| tp2 u32 i3 h11 hp (RepL.to (RepL.cons (k := (kInt .i64)) (x := x45) ⟨rfl, rfl⟩ RepL.nil) rfl) rfl rfl rfl rfl rfl rfl rfl rfl rfl fun x55 v56 F57 h58 hp => ta rfl <| nl <| jn [1, 0] (J19 h58 hp)
     · exact TC.skip <| jn [0, 1] (J19 h11 hp)
    refine lp hz31 [0, 1] rfl (fun s e L => ∃ x51 x52 e29, s = (x51, x52) ∧ e = ovr e29 [(1, .int .i64 a6), (2, .pointer (some ⟨b7, 0, none⟩)), (5, v9), (6, .int .i64 x12), (7, .int .i64 x45), (8, .bool x51), (9, .int .i64 x52)] ∧ L = [bx b7 41 [.int .i64 a1.params, .int .i64 a1.result, v2, v4], F10]) ⟨_, _, _, rfl, ovr_eq _ _ rfl, rfl⟩ ?_
    rintro _ _ _ ⟨x51, x52, e29, rfl, rfl, rfl⟩ X33 hp hx34
    replace hp : fettleref05_Next.bd34 x8 x45 x51 x52 = some X33 := hp
    refine TC.seq fun K40 k41 => sr <| tm rfl <| tm rfl <| tv (ln u32 h11.ro rfl) rfl <| tv (blt rfl rfl) rfl <| nz <| cD rfl hp (fun hc42 hp => ?_) fun hc42 hp => ?_
    · refine sk k41 rfl <| TC.seq fun K43 k44 => TC.block <| TC.region <| tm rfl <| tm rfl <| bE hp fun t59 ht50 hp => TL.cut 7 fun K45 k46 => ?_
      have J47 {e49} : ∀ w, St E H [bx b7 41 [.int .i64 a1.params, .int .i64 a1.result, v2, v4], F10] w → K45 (ovr e49 [(55, .bool t59), (1, .int .i64 a6), (2, .pointer (some ⟨b7, 0, none⟩)), (5, v9), (6, .int .i64 x12), (7, .int .i64 x45), (9, .int .i64 x52)]) w := by
       exact tlg k46 <| ta rfl <| nl <| tg k44 <| TC.region <| tm rfl <| tv (bad rfl rfl) rfl <| ta rfl <| nl <| gk hp [0, 1] ⟨_, _, _, rfl, ovr_eq _ _ rfl, rfl⟩
      refine ifE ht50 (fun hc48 hp => ?_) fun hc48 hp => ?_
      · refine gn rfl (bbT hc48) rfl rfl <| gn rfl (bbT hc48) rfl rfl <| gn rfl (bbT hc48) rfl rfl <| gn rfl (bbT hc48) rfl rfl <| gn rfl (bbT hc48) rfl rfl <| gn rfl (bbT hc48) rfl rfl <| tv (pT (bbT hc48)) rfl ?_
        obtain rfl := Option.some.inj hp
        exact nj J47 rfl
      · refine gy rfl (bbF hc48) <| tm rfl <| gy rfl (bbF hc48) <| tm rfl <| gy rfl (bbF hc48) <| ti u32 i3 (h11).ro hp rfl rfl rfl rfl ?_
        rintro x60 b61 o62 _ hp rfl h65
        refine gy rfl (bbF hc48) <| tv (lr s3 (Src.at_ 1 rfl) h65 0 rfl rfl) rfl <| gy rfl (bbF hc48) <| tm rfl <| gy rfl (bbF hc48) <| tv (beq rfl rfl) rfl <| tv (pF (bbF hc48)) rfl ?_
        obtain rfl := Option.some.inj hp
        exact nj J47 rfl
    · exact TC.exit <| jn [0, 1] (J38 (ex_ret hp hx34))
   by_cases hc25 : x45 < 0
   · exact gn rfl (bT hc25) rfl rfl <| gn rfl (bT hc25) rfl rfl <| gn rfl (bT hc25) rfl rfl <| gn rfl (bT hc25) rfl rfl <| gn rfl (bT hc25) rfl rfl <| tv (pT (bT hc25)) rfl <| nj J24 (bOt hc25)
   · exact gy rfl (bF hc25) <| tm rfl <| gy rfl (bF hc25) <| tv (fa f41_3 rfl) rfl <| gy rfl (bF hc25) <| tv (lb s39 0 rfl rfl rfl) rfl <| gy rfl (bF hc25) <| tv (ln u39 h5 rfl) rfl <| gy rfl (bF hc25) <| tv (bge rfl rfl) rfl <| tv (pF (bF hc25)) rfl <| nj J24 (bOf hc25)
 · exact TC.exit <| jn [1] (J10 h11 (ex_ret hp hx8))
/-! ### fettle/fettleref08.along -/
abbrev fettleref08_along.R (r : Bool) (v : Value) (A : List FP) : Prop := .bool r = v ∧ A = []
def fettleref08_along.nx10  : Option Bool :=
  some false
def fettleref08_along.nx25 (x14 : Int) : Option (Ex (Ex Bool Unit) Int) :=
  some (.go (w64 (x14 + 1)))
def fettleref08_along.bd25 (a1 : PFunc) (a6 : Int) (a7 : Int) (a8 : Int) (x10 : List Int) (x14 : Int) (x27 : Int) : Option (Ex (Ex Bool Unit) Int) :=
  if x27 < (len x10) then
    (idx x10 x27).bind fun x28 =>
    (if x28 = a6 then (idx a1.blocks a7).bind fun x35 =>
    (idx x35.phis x14).bind fun x47 =>
    (idx x47.args x27).bind fun x55 =>
    some (decide (x55 = a8)) else some false).bind fun t34 =>
    if t34 = true then
      some (.ret (.ret true))
    else
      some (.go (w64 (x27 + 1)))
  else
    some (.ret (.go ()))
def fettleref08_along.bd10 (a1 : PFunc) (a6 : Int) (a7 : Int) (a8 : Int) (x10 : List Int) (x14 : Int) : Option (Ex (Ex Bool Unit) Int) :=
  (idx a1.blocks a7).bind fun x15 =>
  if x14 < (len x15.phis) then
    (whl (fun (s : Int) => fettleref08_along.bd25 a1 a6 a7 a8 x10 x14 s) FUEL 0).bind fun z =>
    match z with
      | .ret r => some (.ret (.ret r))
      | .go p => fettleref08_along.nx25 x14
  else
    some (.ret (.go ()))
def fettleref08_along (a1 : PFunc) (a6 : Int) (a7 : Int) (a8 : Int) : Option Bool :=
  (fettleref02_Ahead a1 a7).bind fun x10 =>
  (whl (fun (s : Int) => fettleref08_along.bd10 a1 a6 a7 a8 x10 s) FUEL 0).bind fun z =>
  match z with
    | .ret r => some r
    | .go p => fettleref08_along.nx10
/-! ### fettle/fettleref08.has -/
abbrev fettleref08_has.R (r : Bool) (v : Value) (A : List FP) : Prop := .bool r = v ∧ A = []
def fettleref08_has.nx8  : Option Bool :=
  some false
def fettleref08_has.bd8 (a1 : List Int) (a4 : Int) (x5 : Int) : Option (Ex (Ex Bool Unit) Int) :=
  if x5 < (len a1) then
    (idx a1 x5).bind fun x6 =>
    if x6 = a4 then
      some (.ret (.ret true))
    else
      some (.go (w64 (x5 + 1)))
  else
    some (.ret (.go ()))
def fettleref08_has (a1 : List Int) (a4 : Int) : Option Bool :=
  (whl (fun (s : Int) => fettleref08_has.bd8 a1 a4 s) FUEL 0).bind fun z =>
  match z with
    | .ret r => some r
    | .go p => fettleref08_has.nx8
/-! ### fettle/fettleref08.uses -/
abbrev fettleref08_uses.R (r : Bool) (v : Value) (A : List FP) : Prop := .bool r = v ∧ A = []
def fettleref08_uses.nx8 (a1 : PBlock) (a8 : Int) : Option Bool :=
  some (decide (a1.term.arg = a8))
def fettleref08_uses.bd8 (a1 : PBlock) (a8 : Int) (x10 : Int) : Option (Ex (Ex Bool Unit) Int) :=
  if x10 < (len a1.ins) then
    (idx a1.ins x10).bind fun x11 =>
    (fettleref08_has x11.args a8).bind fun x19 =>
    if x19 = true then
      some (.ret (.ret true))
    else
      (idx a1.ins x10).bind fun x20 =>
      if x20.dst = a8 then
        some (.ret (.ret false))
      else
        some (.go (w64 (x10 + 1)))
  else
    some (.ret (.go ()))
def fettleref08_uses (a1 : PBlock) (a8 : Int) : Option Bool :=
  (whl (fun (s : Int) => fettleref08_uses.bd8 a1 a8 s) FUEL 0).bind fun z =>
  match z with
    | .ret r => some r
    | .go p => fettleref08_uses.nx8 a1 a8
/-! ### fettle/fettleref08.makes -/
abbrev fettleref08_makes.R (r : Bool) (v : Value) (A : List FP) : Prop := .bool r = v ∧ A = []
def fettleref08_makes.nx8  : Option Bool :=
  some false
def fettleref08_makes.bd8 (a1 : PBlock) (a8 : Int) (x10 : Int) : Option (Ex (Ex Bool Unit) Int) :=
  if x10 < (len a1.ins) then
    (idx a1.ins x10).bind fun x11 =>
    if x11.dst = a8 then
      some (.ret (.ret true))
    else
      some (.go (w64 (x10 + 1)))
  else
    some (.ret (.go ()))
def fettleref08_makes (a1 : PBlock) (a8 : Int) : Option Bool :=
  (whl (fun (s : Int) => fettleref08_makes.bd8 a1 a8 s) FUEL 0).bind fun z =>
  match z with
    | .ret r => some r
    | .go p => fettleref08_makes.nx8
/-! ### fettle/fettleref08.phi -/
abbrev fettleref08_phi.R (r : Bool) (v : Value) (A : List FP) : Prop := .bool r = v ∧ A = []
def fettleref08_phi.nx8  : Option Bool :=
  some false
def fettleref08_phi.bd8 (a1 : PBlock) (a8 : Int) (x10 : Int) : Option (Ex (Ex Bool Unit) Int) :=
  if x10 < (len a1.phis) then
    (idx a1.phis x10).bind fun x11 =>
    if x11.dst = a8 then
      some (.ret (.ret true))
    else
      some (.go (w64 (x10 + 1)))
  else
    some (.ret (.go ()))
def fettleref08_phi (a1 : PBlock) (a8 : Int) : Option Bool :=
  (whl (fun (s : Int) => fettleref08_phi.bd8 a1 a8 s) FUEL 0).bind fun z =>
  match z with
    | .ret r => some r
    | .go p => fettleref08_phi.nx8
/-! ### fettle/fettleref08.Live -/
abbrev fettleref08_Live.R (r : List Bool × List Bool) (v : Value) (A : List FP) : Prop := ∃ (w1 : Value) (G1 : FP) (w2 : Value) (G2 : FP), .tuple #[w1, w2] = v ∧ A = [G1, G2] ∧ SlO 4 kBool r.1 w1 G1 ∧ SlO 4 kBool r.2 w2 G2
def fettleref08_Live.nx10  (x23 : List Bool) (x26 : List Bool) : Option (List Bool × List Bool) :=
  some (x23, x26)
def fettleref08_Live.nx24 (x22 : Int) (x36 : List Bool) (x39 : List Bool) : Option (Ex (List Bool × List Bool) (List Bool × List Bool × Int)) :=
  some (.go (x36, x39, (w64 (x22 + 1))))
def fettleref08_Live.nx42 (a1 : PFunc) (a6 : Int) (x29 : List Bool) (x35 : Int) (x50 : List Bool) : Option (Ex (List Bool × List Bool) (List Bool × List Bool × Int)) :=
  (idx a1.blocks x35).bind fun x53 =>
  (fettleref08_uses x53 a6).bind fun x65 =>
  (idx a1.blocks x35).bind fun x66 =>
  (fettleref08_makes x66 a6).bind fun x78 =>
  (idx a1.blocks x35).bind fun x79 =>
  (fettleref08_phi x79 a6).bind fun x91 =>
  (if (!x91) = true then (if x65 = true then some true else (idx x50 x35).bind fun x100 =>
  some (decide (x100 = true ∧ (!x78) = true))).bind fun t99 =>
  some t99 else some false).bind fun t92 =>
  (idx x29 x35).bind fun x93 =>
  some (.go ((x29.set (x35).toNat t92), x50, (w64 (x35 + 1))))
def fettleref08_Live.bd42 (a1 : PFunc) (a6 : Int) (x29 : List Bool) (x35 : Int) (x42 : List Int) (x46 : List Bool) (x49 : Int) : Option (Ex (List Bool) (List Bool × Int)) :=
  if x49 < (len x42) then
    (idx x42 x49).bind fun x106 =>
    (fettleref08_along a1 x35 x106 a6).bind fun x112 =>
    (idx x46 x35).bind fun x113 =>
    (if x113 = true ∨ x112 = true then some true else (idx x42 x49).bind fun x126 =>
    (idx x29 x126).bind fun x132 =>
    some x132).bind fun t119 =>
    (idx x46 x35).bind fun x120 =>
    some (.go ((x46.set (x35).toNat t119), (w64 (x49 + 1))))
  else
    some (.ret x46)
def fettleref08_Live.bd24 (a1 : PFunc) (a6 : Int) (x29 : List Bool) (x32 : List Bool) (x35 : Int) : Option (Ex (List Bool × List Bool) (List Bool × List Bool × Int)) :=
  if x35 < (len a1.blocks) then
    (fettleref05_Next a1 x35).bind fun x42 =>
    (whl (fun (s : (List Bool × Int)) => fettleref08_Live.bd42 a1 a6 x29 x35 x42 s.1 s.2) FUEL (x32, 0)).bind fun z =>
    fettleref08_Live.nx42 a1 a6 x29 x35 z
  else
    some (.ret (x29, x32))
def fettleref08_Live.bd10 (a1 : PFunc) (a6 : Int) (x16 : List Bool) (x19 : List Bool) (x22 : Int) : Option (Ex (List Bool × List Bool) (List Bool × List Bool × Int)) :=
  if x22 ≤ (w64 (2 * (len a1.blocks))) then
    (whl (fun (s : (List Bool × List Bool × Int)) => fettleref08_Live.bd24 a1 a6 s.1 s.2.1 s.2.2) FUEL (x16, x19, 0)).bind fun z =>
    fettleref08_Live.nx24 x22 z.1 z.2
  else
    some (.ret (x16, x19))
def fettleref08_Live (a1 : PFunc) (a6 : Int) : Option (List Bool × List Bool) :=
  (mkl (len a1.blocks) false).bind fun x8 =>
  (mkl (len a1.blocks) false).bind fun x12 =>
  (whl (fun (s : (List Bool × List Bool × Int)) => fettleref08_Live.bd10 a1 a6 s.1 s.2.1 s.2.2) FUEL (x8, x12, 0)).bind fun z =>
  fettleref08_Live.nx10 z.1 z.2
end Go.Proofs.YteaknconpkklhaaDoor
