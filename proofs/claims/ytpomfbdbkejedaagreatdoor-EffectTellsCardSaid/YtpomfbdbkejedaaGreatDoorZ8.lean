/- The walk through the program's functions: each one's pure reading, and that a call does what it says. No conditions. -/
import Derived.Test.YtpomfbdbkejedaaGreatDoorZ7
set_option linter.unusedVariables false
set_option linter.unusedSimpArgs false
namespace Go.Proofs.YtpomfbdbkejedaaGreatDoor
open Go Go.Proofs

/-! ### fettle/fettleref02.shape -/
abbrev fettleref02_shape.R (r : Bool) (v : Value) (A : List FP) : Prop := .bool r = v ∧ A = []
def fettleref02_shape.nx8 (a6 : PTerm) : Option Bool :=
  (if a6.kind = 1 ∧ (len a6.to) = 1 then some true else (if a6.kind = 2 ∧ (len a6.to) = 2 then (idx a6.to 0).bind fun x14 =>
  (idx a6.to 1).bind fun x20 =>
  some (decide (¬ x14 = x20)) else some false).bind fun t13 =>
  some t13).bind fun t12 =>
  some (decide (t12 = true ∨ (a6.kind = 3 ∧ (len a6.to) = 0)))
def fettleref02_shape.bd8 (a1 : PFunc) (a6 : PTerm) (x11 : Int) : Option (Ex (Ex Bool Unit) Int) :=
  if x11 < (len a6.to) then
    (idx a6.to x11).bind fun x26 =>
    (if x26 < 1 then some true else (idx a6.to x11).bind fun x33 =>
    some (decide (x33 ≥ (len a1.blocks)))).bind fun t32 =>
    if t32 = true then
      some (.ret (.ret false))
    else
      some (.go (w64 (x11 + 1)))
  else
    some (.ret (.go ()))
def fettleref02_shape (a1 : PFunc) (a6 : PTerm) : Option Bool :=
  (whl (fun (s : Int) => fettleref02_shape.bd8 a1 a6 s) FUEL 0).bind fun z =>
  match z with
    | .ret r => some r
    | .go p => fettleref02_shape.nx8 a6
set_option maxHeartbeats 4000000 in
theorem fettleref02_shape_ok {E : World} {H : FP} {w : World} {a1 : PFunc} {a6 : PTerm} {v2 : Value} {v4 : Value} {v7 : Value} {r : Bool} (h3 : SlI (kInt .i64) H a1.regs v2) (h5 : SlI kBlock H a1.blocks v4) (h8 : SlI (kInt .i64) H a6.to v7) (hp : fettleref02_shape a1 a6 = some r) (hst : St E H [] w) :
    Fn Tryz.prog 65 #[.agg #[.int .i64 a1.params, .int .i64 a1.result, v2, v4], .agg #[.int .i64 a6.kind, .int .i64 a6.arg, v7]] w fun v w' => ∃ A, fettleref02_shape.R r v A ∧ St E H A w' := by
 refine fb 72 [.tmp 4] Tryz.func65 rfl rfl rfl rfl rfl hst <| sr <| tb [.int .i64 a1.params, .int .i64 a1.result, v2, v4] rfl rfl fun b9 => tb [.int .i64 a6.kind, .int .i64 a6.arg, v7] rfl rfl fun b10 => ta rfl <| nz <| TC.seq fun K1 k2 => sr <| ta rfl <| nz <| TC.block <| bE hp fun z_4 hz5 hr6 => ?_
 have J46 {e9} (hq47 : .go () = z_4) : ∀ w, St E H [bx b10 40 [.int .i64 a6.kind, .int .i64 a6.arg, v7]] w → K1 (ovr e9 [(3, .pointer (some ⟨b10, 0, none⟩))]) w := by
  subst hq47
  replace hp : fettleref02_shape.nx8 a6 = some r := hr6
  refine tg k2 <| TC.seq fun K10 k11 => cq mix (by kernel_rfl) <| qv (fa f40_0 rfl) rfl <| qv (lb s3 0 rfl rfl rfl) rfl <| qv (beq rfl rfl) rfl <| qv mv rfl <| QL.cut 5 fun K12 k13 => ?_
  have J14 {e16} : K12 (ovr e16 [(38, .bool (decide (a6.kind = 1 ∧ (len a6.to) = 1))), (3, .pointer (some ⟨b10, 0, none⟩))]) := by
   refine k13 _ <| qv mv rfl <| bE hp fun t12 ht32 hp => QL.cut 21 fun K17 k18 => ?_
   have J19 {e21} : K17 (ovr e21 [(60, .bool t12), (3, .pointer (some ⟨b10, 0, none⟩))]) := by
    refine k18 _ <| qv mv rfl <| QL.cut 10 fun K22 k23 => ?_
    have J24 {e26} : K22 (ovr e26 [(71, .bool (decide (t12 = true ∨ (a6.kind = 3 ∧ (len a6.to) = 0))))]) := by
     exact k23 _ <| qv sg rfl <| QL.nil <| tg k11 <| TC.ret <| rt hp [] ⟨rfl, rfl⟩
    by_cases hc25 : t12 = true
    · exact qgn rfl (bbT hc25) rfl rfl <| qgn rfl (bbT hc25) rfl rfl <| qgn rfl (bbT hc25) rfl rfl <| qgn rfl (bbT hc25) rfl rfl <| qgu rfl rfl rfl <| qgu rfl rfl rfl <| qgu rfl rfl rfl <| qgu rfl rfl rfl <| qgn rfl (bbT hc25) rfl rfl <| qv (pT (bbT hc25)) rfl <| qj J24 (bOt hc25)
    · refine qgy rfl (bbF hc25) <| qv (fa f40_0 rfl) rfl <| qgy rfl (bbF hc25) <| qv (lb s3 0 rfl rfl rfl) rfl <| qgy rfl (bbF hc25) <| qv (beq rfl rfl) rfl <| qgy rfl (bbF hc25) <| qv mv rfl <| QL.cut 5 fun K27 k28 => ?_
      have J29 {e31} : K27 (ovr e31 [(70, .bool (decide (a6.kind = 3 ∧ (len a6.to) = 0))), (61, .bool t12)]) := by
       exact k28 _ <| qv (pF (bbF hc25)) rfl <| qj J24 (bOf hc25)
      by_cases hc30 : a6.kind = 3
      · exact qgy rfl (bT hc30) <| qv (fa f40_2 rfl) rfl <| qgy rfl (bT hc30) <| qv (lb s38 0 rfl rfl rfl) rfl <| qgy rfl (bT hc30) <| qv (ln u38 h8 rfl) rfl <| qgy rfl (bT hc30) <| qv (beq rfl rfl) rfl <| qgy rfl (bbF hc25) <| qv (pT (bT hc30)) rfl <| qj J29 (bAt hc30)
      · exact qgn rfl (bF hc30) rfl rfl <| qgn rfl (bF hc30) rfl rfl <| qgn rfl (bF hc30) rfl rfl <| qgn rfl (bF hc30) rfl rfl <| qgy rfl (bbF hc25) <| qv (pF (bF hc30)) rfl <| qj J29 (bAf hc30)
   refine ifE ht32 (fun hc20 hp => ?_) fun hc20 hp => ?_
   · refine qgn rfl (bT hc20) rfl rfl <| qgn rfl (bT hc20) rfl rfl <| qgn rfl (bT hc20) rfl rfl <| qgn rfl (bT hc20) rfl rfl <| qgu rfl rfl rfl <| qgu rfl rfl rfl <| qgu rfl rfl rfl <| qgu rfl rfl rfl <| qgn rfl (bT hc20) rfl rfl <| qgn rfl (bT hc20) rfl rfl <| qgu rfl rfl rfl <| qgu rfl rfl rfl <| qgu rfl rfl rfl <| qgu rfl rfl rfl <| qgu rfl rfl rfl <| qgu rfl rfl rfl <| qgu rfl rfl rfl <| qgu rfl rfl rfl <| qgu rfl rfl rfl <| qgn rfl (bT hc20) rfl rfl <| qv (pT (bT hc20)) rfl ?_
     obtain rfl := Option.some.inj hp
     exact qj J19 rfl
   · refine qgy rfl (bF hc20) <| qv (fa f40_0 rfl) rfl <| qgy rfl (bF hc20) <| qv (lb s3 0 rfl rfl rfl) rfl <| qgy rfl (bF hc20) <| qv (beq rfl rfl) rfl <| qgy rfl (bF hc20) <| qv mv rfl <| QL.cut 5 fun K33 k34 => ?_
     have J35 {e37} : K33 (ovr e37 [(48, .bool (decide (a6.kind = 2 ∧ (len a6.to) = 2))), (3, .pointer (some ⟨b10, 0, none⟩)), (39, .bool (decide (a6.kind = 1 ∧ (len a6.to) = 1)))]) := by
      refine k34 _ <| qgy rfl (bF hc20) <| qv mv rfl <| bE hp fun t13 ht43 hp => QL.cut 10 fun K38 k39 => ?_
      have J40 {e42} : K38 (ovr e42 [(59, .bool t13), (3, .pointer (some ⟨b10, 0, none⟩)), (39, .bool (decide (a6.kind = 1 ∧ (len a6.to) = 1)))]) := by
       refine k39 _ <| qv (pF (bF hc20)) rfl ?_
       obtain rfl := Option.some.inj hp
       exact qj J19 rfl
      refine ifE ht43 (fun hc41 hp => ?_) fun hc41 hp => ?_
      · refine qgy rfl (bT hc41) <| qv (fa f40_2 rfl) rfl <| qgy rfl (bT hc41) <| qv (lb s38 0 rfl rfl rfl) rfl <| qgy rfl (bT hc41) <| qi u38 i3 h8 hp rfl rfl rfl rfl ?_
        rintro x14 b15 o16 _ hp rfl h19
        refine qgy rfl (bT hc41) <| qv (lr s3 sH h19 0 rfl rfl) rfl <| qgy rfl (bT hc41) <| qv (fa f40_2 rfl) rfl <| qgy rfl (bT hc41) <| qv (lb s38 0 rfl rfl rfl) rfl <| qgy rfl (bT hc41) <| qi u38 i3 h8 hp rfl rfl rfl rfl ?_
        rintro x20 b21 o22 _ hp rfl h25
        refine qgy rfl (bT hc41) <| qv (lr s3 sH h25 0 rfl rfl) rfl <| qgy rfl (bT hc41) <| qv (bne rfl rfl) rfl <| qgy rfl (bF hc20) <| qv (pT (bT hc41)) rfl ?_
        obtain rfl := Option.some.inj hp
        exact qj J40 rfl
      · refine qgn rfl (bF hc41) rfl rfl <| qgn rfl (bF hc41) rfl rfl <| qgn rfl (bF hc41) rfl rfl <| qgn rfl (bF hc41) rfl rfl <| qgn rfl (bF hc41) rfl rfl <| qgn rfl (bF hc41) rfl rfl <| qgn rfl (bF hc41) rfl rfl <| qgn rfl (bF hc41) rfl rfl <| qgn rfl (bF hc41) rfl rfl <| qgy rfl (bF hc20) <| qv (pF (bF hc41)) rfl ?_
        obtain rfl := Option.some.inj hp
        exact qj J40 rfl
     by_cases hc36 : a6.kind = 2
     · exact qgy rfl (bT hc36) <| qv (fa f40_2 rfl) rfl <| qgy rfl (bT hc36) <| qv (lb s38 0 rfl rfl rfl) rfl <| qgy rfl (bT hc36) <| qv (ln u38 h8 rfl) rfl <| qgy rfl (bT hc36) <| qv (beq rfl rfl) rfl <| qgy rfl (bF hc20) <| qv (pT (bT hc36)) rfl <| qj J35 (bAt hc36)
     · exact qgn rfl (bF hc36) rfl rfl <| qgn rfl (bF hc36) rfl rfl <| qgn rfl (bF hc36) rfl rfl <| qgn rfl (bF hc36) rfl rfl <| qgy rfl (bF hc20) <| qv (pF (bF hc36)) rfl <| qj J35 (bAf hc36)
  by_cases hc15 : a6.kind = 1
  · exact qgy rfl (bT hc15) <| qv (fa f40_2 rfl) rfl <| qgy rfl (bT hc15) <| qv (lb s38 0 rfl rfl rfl) rfl <| qgy rfl (bT hc15) <| qv (ln u38 h8 rfl) rfl <| qgy rfl (bT hc15) <| qv (beq rfl rfl) rfl <| qv (pT (bT hc15)) rfl <| qj J14 (bAt hc15)
  · exact qgn rfl (bF hc15) rfl rfl <| qgn rfl (bF hc15) rfl rfl <| qgn rfl (bF hc15) rfl rfl <| qgn rfl (bF hc15) rfl rfl <| qv (pF (bF hc15)) rfl <| qj J14 (bAf hc15)
 refine lp hz5 [1, 0] rfl (fun s e L => ∃ e3, e = ovr e3 [(2, .pointer (some ⟨b9, 0, none⟩)), (3, .pointer (some ⟨b10, 0, none⟩)), (5, .int .i64 s)] ∧ L = [bx b9 47 [.int .i64 a1.params, .int .i64 a1.result, v2, v4], bx b10 40 [.int .i64 a6.kind, .int .i64 a6.arg, v7]]) ⟨_, ovr_eq _ _ rfl, rfl⟩ ?_
 rintro x11 _ _ ⟨e3, rfl, rfl⟩ X7 hp hx8
 replace hp : fettleref02_shape.bd8 a1 a6 x11 = some X7 := hp
 refine TC.seq fun K48 k49 => sr <| tm rfl <| tv (fa f40_2 rfl) rfl <| tv (lb s38 1 rfl rfl rfl) rfl <| tv (ln u38 h8 rfl) rfl <| tv (blt rfl rfl) rfl <| nz <| cD rfl hp (fun hc50 hp => ?_) fun hc50 hp => ?_
 · refine sk k49 rfl <| TC.seq fun K51 k52 => TC.block <| TC.seq fun K53 k54 => cq mix (by kernel_rfl) <| qv (fa f40_2 rfl) rfl <| qv (lb s38 1 rfl rfl rfl) rfl <| qv mv rfl <| qi u38 i3 h8 hp rfl rfl rfl rfl ?_
   rintro x26 b27 o28 _ hp rfl h31
   refine qv (lr s3 sH h31 0 rfl rfl) rfl <| qv (blt rfl rfl) rfl <| qv mv rfl <| bE hp fun t32 ht62 hp => QL.cut 10 fun K56 k57 => ?_
   have J58 {e60} : K56 (ovr e60 [(29, .bool t32), (2, .pointer (some ⟨b9, 0, none⟩)), (3, .pointer (some ⟨b10, 0, none⟩)), (5, .int .i64 x11)]) := by
    refine k57 _ <| QL.nil <| tg k54 <| cB rfl hp (fun hc61 hp => ?_) fun hc61 hp => ?_
    · refine sr <| ta rfl <| nz <| TC.ret ?_
      obtain rfl := ex_ret hp hx8
      exact rt hr6 [] ⟨rfl, rfl⟩
    · exact sk k52 rfl <| TC.region <| tm rfl <| tv (bad rfl rfl) rfl <| ta rfl <| nl <| gk hp [0, 1] ⟨_, ovr_eq _ _ rfl, rfl⟩
   refine ifE ht62 (fun hc59 hp => ?_) fun hc59 hp => ?_
   · refine qgn rfl (bT hc59) rfl rfl <| qgn rfl (bT hc59) rfl rfl <| qgn rfl (bT hc59) rfl rfl <| qgn rfl (bT hc59) rfl rfl <| qgn rfl (bT hc59) rfl rfl <| qgn rfl (bT hc59) rfl rfl <| qgn rfl (bT hc59) rfl rfl <| qgn rfl (bT hc59) rfl rfl <| qgn rfl (bT hc59) rfl rfl <| qv (pT (bT hc59)) rfl ?_
     obtain rfl := Option.some.inj hp
     exact qj J58 rfl
   · refine qgy rfl (bF hc59) <| qv (fa f40_2 rfl) rfl <| qgy rfl (bF hc59) <| qv (lb s38 1 rfl rfl rfl) rfl <| qgy rfl (bF hc59) <| qv mv rfl <| qgy rfl (bF hc59) <| qi u38 i3 h8 hp rfl rfl rfl rfl ?_
     rintro x33 b34 o35 _ hp rfl h38
     refine qgy rfl (bF hc59) <| qv (lr s3 sH h38 0 rfl rfl) rfl <| qgy rfl (bF hc59) <| qv (fa f47_3 rfl) rfl <| qgy rfl (bF hc59) <| qv (lb s45 0 rfl rfl rfl) rfl <| qgy rfl (bF hc59) <| qv (ln u45 h5 rfl) rfl <| qgy rfl (bF hc59) <| qv (bge rfl rfl) rfl <| qv (pF (bF hc59)) rfl ?_
     obtain rfl := Option.some.inj hp
     exact qj J58 rfl
 · exact TC.exit <| jn [1] (J46 (ex_ret hp hx8))

/-! ### fettle/fettleref02.Ahead -/
abbrev fettleref02_Ahead.R (r : List Int) (v : Value) (A : List FP) : Prop := ∃ (w1 : Value) (G1 : FP), w1 = v ∧ A = [G1] ∧ SlO 3 (kInt .i64) r w1 G1
def fettleref02_Ahead.nx8  (x13 : List Int) : Option (List Int) :=
  some x13
def fettleref02_Ahead.jn18 (x12 : Int) (x17 : List Int) : Option (Ex (List Int) (List Int × Int)) :=
  some (.go (x17, (w64 (x12 + 1))))
def fettleref02_Ahead.nx26 (x8 : List Int) (x12 : Int) (x23 : Bool) : Option (Ex (List Int) (List Int × Int)) :=
  if x23 = true then
    (cat x8 [x12]).bind fun x25 =>
    fettleref02_Ahead.jn18 x12 x25
  else
    fettleref02_Ahead.jn18 x12 x8
def fettleref02_Ahead.bd26 (a1 : PFunc) (a6 : Int) (x12 : Int) (x21 : Bool) (x22 : Int) : Option (Ex Bool (Bool × Int)) :=
  (idx a1.blocks x12).bind fun x29 =>
  if x22 < (len x29.term.to) then
    (if x21 = true then some true else (idx a1.blocks x12).bind fun x42 =>
    (idx x42.term.to x22).bind fun x54 =>
    some (decide (x54 = a6))).bind fun t41 =>
    some (.go (t41, (w64 (x22 + 1))))
  else
    some (.ret x21)
def fettleref02_Ahead.bd8 (a1 : PFunc) (a6 : Int) (x8 : List Int) (x12 : Int) : Option (Ex (List Int) (List Int × Int)) :=
  if x12 < (len a1.blocks) then
    (whl (fun (s : (Bool × Int)) => fettleref02_Ahead.bd26 a1 a6 x12 s.1 s.2) FUEL (false, 0)).bind fun z =>
    fettleref02_Ahead.nx26 x8 x12 z
  else
    some (.ret x8)
def fettleref02_Ahead (a1 : PFunc) (a6 : Int) : Option (List Int) :=
  (whl (fun (s : (List Int × Int)) => fettleref02_Ahead.bd8 a1 a6 s.1 s.2) FUEL (([] : List Int), 0)).bind fun z =>
  fettleref02_Ahead.nx8 z
set_option maxHeartbeats 4000000 in
theorem fettleref02_Ahead_ok {E : World} {H : FP} {w : World} {a1 : PFunc} {a6 : Int} {v2 : Value} {v4 : Value} {r : List Int} (h3 : SlI (kInt .i64) H a1.regs v2) (h5 : SlI kBlock H a1.blocks v4) (hp : fettleref02_Ahead a1 a6 = some r) (hst : St E H [] w) :
    Fn Tryz.prog 66 #[.agg #[.int .i64 a1.params, .int .i64 a1.result, v2, v4], .int .i64 a6] w fun v w' => ∃ A, fettleref02_Ahead.R r v A ∧ St E H A w' := by
 refine fb 49 [.tmp 4] Tryz.func66 rfl rfl rfl rfl rfl hst <| sr <| tb [.int .i64 a1.params, .int .i64 a1.result, v2, v4] rfl rfl fun b7 => ta rfl <| nz <| sr <| ta rfl <| nz <| TC.seq fun K1 k2 => sr <| ta rfl <| nz <| TC.block <| bE hp fun z_4 hz5 hr6 => ?_
 have J10 {x13 v14 F15 e9} (h16 : SlO 3 (kInt .i64) x13 v14 F15) (hq11 : x13 = z_4) : ∀ w, St E H [F15] w → K1 (ovr e9 [(5, v14)]) w := by
  subst hq11
  replace hp : fettleref02_Ahead.nx8 x13 = some r := hr6
  exact tg k2 <| sr <| tm rfl <| ta rfl <| nz <| TC.ret <| rt hp [0] ⟨v14, F15, rfl, rfl, h16⟩
 refine W.new0 <| lp hz5 [1, 0] rfl (fun s e L => ∃ x8 x12 v9 F10 e3, s = (x8, x12) ∧ SlO 3 (kInt .i64) x8 v9 F10 ∧ e = ovr e3 [(1, .int .i64 a6), (2, .pointer (some ⟨b7, 0, none⟩)), (5, v9), (6, .int .i64 x12)] ∧ L = [bx b7 47 [.int .i64 a1.params, .int .i64 a1.result, v2, v4], F10]) ⟨_, _, (.slice none 0 0), ([] : FP), _, rfl, (SlO.nil 3), ovr_eq _ _ rfl, rfl⟩ ?_
 rintro _ _ _ ⟨x8, x12, v9, F10, e3, rfl, h11, rfl, rfl⟩ X7 hp hx8
 replace hp : fettleref02_Ahead.bd8 a1 a6 x8 x12 = some X7 := hp
 refine TC.seq fun K12 k13 => sr <| tm rfl <| tv (fa f47_3 rfl) rfl <| tv (lb s45 0 rfl rfl rfl) rfl <| tv (ln u45 h5 rfl) rfl <| tv (blt rfl rfl) rfl <| nz <| cD rfl hp (fun hc14 hp => ?_) fun hc14 hp => ?_
 · refine sk k13 rfl <| TC.seq fun K15 k16 => ?_
   have J18 {x17 v18 F19 e17} (h20 : SlO 3 (kInt .i64) x17 v18 F19) (hp : fettleref02_Ahead.jn18 x12 x17 = some X7) : ∀ w, St E H [bx b7 47 [.int .i64 a1.params, .int .i64 a1.result, v2, v4], F19] w → K15 (ovr e17 [(1, .int .i64 a6), (2, .pointer (some ⟨b7, 0, none⟩)), (5, v18), (6, .int .i64 x12)]) w := by
    exact tg k16 <| TC.region <| tm rfl <| tv (bad rfl rfl) rfl <| ta rfl <| nl <| gk hp [0, 1] ⟨_, _, v18, F19, _, rfl, h20, ovr_eq _ _ rfl, rfl⟩
   refine TC.block <| sr <| ta rfl <| nz <| TC.seq fun K19 k20 => sr <| ta rfl <| nz <| TC.block <| bE hp fun z_22 hz23 hr24 => ?_
   have J30 {x23 e27} (hq31 : x23 = z_22) : ∀ w, St E H [bx b7 47 [.int .i64 a1.params, .int .i64 a1.result, v2, v4], F10] w → K19 (ovr e27 [(1, .int .i64 a6), (2, .pointer (some ⟨b7, 0, none⟩)), (5, v9), (6, .int .i64 x12), (7, .bool x23)]) w := by
    subst hq31
    replace hp : fettleref02_Ahead.nx26 x8 x12 x23 = some X7 := hr24
    refine tg k20 <| sr <| tm rfl <| nz <| cB rfl hp (fun hc28 hp => ?_) fun hc28 hp => ?_
    · exact TC.region <| tm rfl <| tm rfl <| tbs [(0, .int .i64 x12)] [.int .i64 x12] u38 i3 (by kernel_rfl) rfl rfl rfl rfl fun b24 => tp [2, 0, 1] [_,_,_] rfl rfl <| tf 2 0 [_,_,_,_] rfl <| tp2 u38 i3 h11 hp (RepL.to (RepL.cons (k := (kInt .i64)) (x := x12) ⟨rfl, rfl⟩ RepL.nil) rfl) rfl rfl rfl rfl rfl rfl rfl rfl rfl fun x25 v26 F27 h28 hp => ta rfl <| nl <| jn [1, 0] (J18 h28 hp)
    · exact TC.skip <| jn [0, 1] (J18 h11 hp)
   refine lp hz23 [0, 1] rfl (fun s e L => ∃ x21 x22 e21, s = (x21, x22) ∧ e = ovr e21 [(1, .int .i64 a6), (2, .pointer (some ⟨b7, 0, none⟩)), (5, v9), (6, .int .i64 x12), (7, .bool x21), (8, .int .i64 x22)] ∧ L = [bx b7 47 [.int .i64 a1.params, .int .i64 a1.result, v2, v4], F10]) ⟨_, _, _, rfl, ovr_eq _ _ rfl, rfl⟩ ?_
   rintro _ _ _ ⟨x21, x22, e21, rfl, rfl, rfl⟩ X25 hp hx26
   replace hp : fettleref02_Ahead.bd26 a1 a6 x12 x21 x22 = some X25 := hp
   refine TC.seq fun K32 k33 => sr <| tm rfl <| tv (fa f47_3 rfl) rfl <| tv (lb s45 0 rfl rfl rfl) rfl <| tm rfl <| ti u45 i44 h5 hp rfl rfl rfl rfl ?_
   rintro x29 b30 o31 _ hp ⟨v35, v37, v39, rfl, h36, h38, h40⟩ h34
   refine tv (fa f44_2 rfl) rfl <| tv (fa f40_2 rfl) rfl <| tv (lr s38 sH h34 4 rfl rfl) rfl <| tv (ln u38 h40 rfl) rfl <| tv (blt rfl rfl) rfl <| nz <| cD rfl hp (fun hc35 hp => ?_) fun hc35 hp => ?_
   · refine sk k33 rfl <| TC.seq fun K36 k37 => TC.block <| TC.region <| tm rfl <| tm rfl <| bE hp fun t41 ht43 hp => TL.cut 13 fun K38 k39 => ?_
     have J40 {e42} : ∀ w, St E H [bx b7 47 [.int .i64 a1.params, .int .i64 a1.result, v2, v4], F10] w → K38 (ovr e42 [(42, .bool t41), (1, .int .i64 a6), (2, .pointer (some ⟨b7, 0, none⟩)), (5, v9), (6, .int .i64 x12), (8, .int .i64 x22)]) w := by
      exact tlg k39 <| ta rfl <| nl <| tg k37 <| TC.region <| tm rfl <| tv (bad rfl rfl) rfl <| ta rfl <| nl <| gk hp [0, 1] ⟨_, _, _, rfl, ovr_eq _ _ rfl, rfl⟩
     refine ifE ht43 (fun hc41 hp => ?_) fun hc41 hp => ?_
     · refine gn rfl (bbT hc41) rfl rfl <| gn rfl (bbT hc41) rfl rfl <| gn rfl (bbT hc41) rfl rfl <| gn rfl (bbT hc41) rfl rfl <| gn rfl (bbT hc41) rfl rfl <| gn rfl (bbT hc41) rfl rfl <| gn rfl (bbT hc41) rfl rfl <| gn rfl (bbT hc41) rfl rfl <| gn rfl (bbT hc41) rfl rfl <| gn rfl (bbT hc41) rfl rfl <| gn rfl (bbT hc41) rfl rfl <| gn rfl (bbT hc41) rfl rfl <| tv (pT (bbT hc41)) rfl ?_
       obtain rfl := Option.some.inj hp
       exact nj J40 rfl
     · refine gy rfl (bbF hc41) <| tv (fa f47_3 rfl) rfl <| gy rfl (bbF hc41) <| tv (lb s45 0 rfl rfl rfl) rfl <| gy rfl (bbF hc41) <| tm rfl <| gy rfl (bbF hc41) <| ti u45 i44 h5 hp rfl rfl rfl rfl ?_
       rintro x42 b43 o44 _ hp ⟨v48, v50, v52, rfl, h49, h51, h53⟩ h47
       refine gy rfl (bbF hc41) <| tv (fa f44_2 rfl) rfl <| gy rfl (bbF hc41) <| tv (fa f40_2 rfl) rfl <| gy rfl (bbF hc41) <| tv (lr s38 sH h47 4 rfl rfl) rfl <| gy rfl (bbF hc41) <| tm rfl <| gy rfl (bbF hc41) <| ti u38 i3 h53 hp rfl rfl rfl rfl ?_
       rintro x54 b55 o56 _ hp rfl h59
       refine gy rfl (bbF hc41) <| tv (lr s3 sH h59 0 rfl rfl) rfl <| gy rfl (bbF hc41) <| tm rfl <| gy rfl (bbF hc41) <| tv (beq rfl rfl) rfl <| tv (pF (bbF hc41)) rfl ?_
       obtain rfl := Option.some.inj hp
       exact nj J40 rfl
   · exact TC.exit <| jn [0, 1] (J30 (ex_ret hp hx26))
 · exact TC.exit <| jn [1] (J10 h11 (ex_ret hp hx8))

/-! ### fettle/fettleref02.outer -/
abbrev fettleref02_outer.R (r : Int) (v : Value) (A : List FP) : Prop := .int .i64 r = v ∧ A = []
def fettleref02_outer.nx76  : Option Int :=
  some 0
def fettleref02_outer.nx90 (x12 : Int) : Option (Ex (Ex Int Unit) Int) :=
  some (.go (w64 (x12 + 1)))
def fettleref02_outer.bd90 (a1 : PFunc) (x12 : Int) (x13 : Int) : Option (Ex (Ex Int Unit) Int) :=
  (idx a1.blocks x12).bind fun x14 =>
  if x13 < (len x14.phis) then
    (idx a1.blocks x12).bind fun x1227 =>
    (idx x1227.phis x13).bind fun x2827 =>
    (fettleref02_Ahead a1 x12).bind fun x5227 =>
    if ¬ (len x2827.args) = (len x5227) then
      some (.ret (.ret 6))
    else
      some (.go (w64 (x13 + 1)))
  else
    some (.ret (.go ()))
def fettleref02_outer.bd76 (a1 : PFunc) (x12 : Int) : Option (Ex (Ex Int Unit) Int) :=
  if x12 < (len a1.blocks) then
    (whl (fun (s : Int) => fettleref02_outer.bd90 a1 x12 s) FUEL 0).bind fun z =>
    match z with
      | .ret r => some (.ret (.ret r))
      | .go p => fettleref02_outer.nx90 x12
  else
    some (.ret (.go ()))
def fettleref02_outer.nx67 (a1 : PFunc) : Option Int :=
  (whl (fun (s : Int) => fettleref02_outer.bd76 a1 s) FUEL 0).bind fun z =>
  match z with
    | .ret r => some r
    | .go p => fettleref02_outer.nx76
def fettleref02_outer.bd67 (a1 : PFunc) (x11 : Int) : Option (Ex (Ex Int Unit) Int) :=
  if x11 < (len a1.blocks) then
    (idx a1.blocks x11).bind fun x6427 =>
    (fettleref02_shape a1 x6427.term).bind fun x6439 =>
    if (!x6439) = true then
      some (.ret (.ret 6))
    else
      some (.go (w64 (x11 + 1)))
  else
    some (.ret (.go ()))
def fettleref02_outer.nx35 (a1 : PFunc) : Option Int :=
  if (((a1.params < 0 ∨ a1.params > 8) ∨ a1.params > (len a1.regs)) ∨ a1.result < 0) ∨ a1.result > 2 then
    some 3
  else
    (whl (fun (s : Int) => fettleref02_outer.bd67 a1 s) FUEL 0).bind fun z =>
    match z with
      | .ret r => some r
      | .go p => fettleref02_outer.nx67 a1
def fettleref02_outer.bd35 (a1 : PFunc) (x10 : Int) : Option (Ex (Ex Int Unit) Int) :=
  if x10 < (len a1.regs) then
    (idx a1.regs x10).bind fun x6440 =>
    (if ¬ x6440 = 1 then (idx a1.regs x10).bind fun x6447 =>
    some (decide (¬ x6447 = 2)) else some false).bind fun t6446 =>
    if t6446 = true then
      some (.ret (.ret 3))
    else
      some (.go (w64 (x10 + 1)))
  else
    some (.ret (.go ()))
def fettleref02_outer.nx8 (a1 : PFunc) (x9 : Int) : Option Int :=
  if (((len a1.blocks) < 1 ∨ (len a1.blocks) > 64) ∨ (len a1.regs) > 256) ∨ x9 > 256 then
    some 5
  else
    (whl (fun (s : Int) => fettleref02_outer.bd35 a1 s) FUEL 0).bind fun z =>
    match z with
      | .ret r => some r
      | .go p => fettleref02_outer.nx35 a1
def fettleref02_outer.bd8 (a1 : PFunc) (x7 : Int) (x8 : Int) : Option (Ex Int (Int × Int)) :=
  if x8 < (len a1.blocks) then
    (idx a1.blocks x8).bind fun x6453 =>
    (idx a1.blocks x8).bind fun x6465 =>
    some (.go ((w64 ((w64 ((w64 (x7 + (len x6453.phis))) + (len x6465.ins))) + 1)), (w64 (x8 + 1))))
  else
    some (.ret x7)
def fettleref02_outer (a1 : PFunc) : Option Int :=
  (whl (fun (s : (Int × Int)) => fettleref02_outer.bd8 a1 s.1 s.2) FUEL (0, 0)).bind fun z =>
  fettleref02_outer.nx8 a1 z
set_option maxHeartbeats 4000000 in
theorem fettleref02_outer_ok {E : World} {H : FP} {w : World} {a1 : PFunc} {v2 : Value} {v4 : Value} {r : Int} (h3 : SlI (kInt .i64) H a1.regs v2) (h5 : SlI kBlock H a1.blocks v4) (hp : fettleref02_outer a1 = some r) (hst : St E H [] w) :
    Fn Tryz.prog 39 #[.agg #[.int .i64 a1.params, .int .i64 a1.result, v2, v4]] w fun v w' => ∃ A, fettleref02_outer.R r v A ∧ St E H A w' := by
 refine fb 153 [.tmp 2] Tryz.func39 rfl rfl rfl rfl rfl hst <| sr <| tb [.int .i64 a1.params, .int .i64 a1.result, v2, v4] rfl rfl fun b6 => ta rfl <| nz <| sr <| ta rfl <| nz <| TC.seq fun K1 k2 => sr <| ta rfl <| nz <| TC.block <| bE hp fun z_4 hz5 hr6 => ?_
 have J145 {x9 e9} (hq146 : x9 = z_4) : ∀ w, St E H [bx b6 47 [.int .i64 a1.params, .int .i64 a1.result, v2, v4]] w → K1 (ovr e9 [(1, .pointer (some ⟨b6, 0, none⟩)), (3, .int .i64 x9)]) w := by
  subst hq146
  replace hp : fettleref02_outer.nx8 a1 x9 = some r := hr6
  refine tg k2 <| TC.seq fun K10 k11 => sr <| tv (fa f47_3 rfl) rfl <| tv (lb s45 0 rfl rfl rfl) rfl <| tv (ln u45 h5 rfl) rfl <| tv (blt rfl rfl) rfl <| tm rfl <| TL.cut 5 fun K12 k13 => ?_
  have J14 {e16} : ∀ w, St E H [bx b6 47 [.int .i64 a1.params, .int .i64 a1.result, v2, v4]] w → K12 (ovr e16 [(44, .bool (decide ((len a1.blocks) < 1 ∨ (len a1.blocks) > 64))), (1, .pointer (some ⟨b6, 0, none⟩)), (3, .int .i64 x9)]) w := by
   refine tlg k13 <| tm rfl <| TL.cut 5 fun K17 k18 => ?_
   have J19 {e21} : ∀ w, St E H [bx b6 47 [.int .i64 a1.params, .int .i64 a1.result, v2, v4]] w → K17 (ovr e21 [(50, .bool (decide (((len a1.blocks) < 1 ∨ (len a1.blocks) > 64) ∨ (len a1.regs) > 256))), (1, .pointer (some ⟨b6, 0, none⟩)), (3, .int .i64 x9)]) w := by
    refine tlg k18 <| tm rfl <| TL.cut 3 fun K22 k23 => ?_
    have J24 {e26} : ∀ w, St E H [bx b6 47 [.int .i64 a1.params, .int .i64 a1.result, v2, v4]] w → K22 (ovr e26 [(54, .bool (decide ((((len a1.blocks) < 1 ∨ (len a1.blocks) > 64) ∨ (len a1.regs) > 256) ∨ x9 > 256))), (1, .pointer (some ⟨b6, 0, none⟩))]) w := by
     refine tlg k23 <| nz <| cD rfl hp (fun hc27 hp => ?_) fun hc27 hp => ?_
     · exact sr <| ta rfl <| nz <| TC.ret <| rt hp [] ⟨rfl, rfl⟩
     · refine sk k11 rfl <| TC.seq fun K28 k29 => sr <| ta rfl <| nz <| TC.block <| bE hp fun z_31 hz32 hr33 => ?_
       have J127 {e36} (hq128 : .go () = z_31) : ∀ w, St E H [bx b6 47 [.int .i64 a1.params, .int .i64 a1.result, v2, v4]] w → K28 (ovr e36 [(1, .pointer (some ⟨b6, 0, none⟩))]) w := by
        subst hq128
        replace hp : fettleref02_outer.nx35 a1 = some r := hr33
        refine tg k29 <| TC.seq fun K37 k38 => sr <| tv (fa f47_0 rfl) rfl <| tv (lb s3 0 rfl rfl rfl) rfl <| tv (blt rfl rfl) rfl <| tm rfl <| TL.cut 4 fun K39 k40 => ?_
        have J41 {e43} : ∀ w, St E H [bx b6 47 [.int .i64 a1.params, .int .i64 a1.result, v2, v4]] w → K39 (ovr e43 [(83, .bool (decide (a1.params < 0 ∨ a1.params > 8))), (1, .pointer (some ⟨b6, 0, none⟩))]) w := by
         refine tlg k40 <| tm rfl <| TL.cut 7 fun K44 k45 => ?_
         have J46 {e48} : ∀ w, St E H [bx b6 47 [.int .i64 a1.params, .int .i64 a1.result, v2, v4]] w → K44 (ovr e48 [(91, .bool (decide ((a1.params < 0 ∨ a1.params > 8) ∨ a1.params > (len a1.regs)))), (1, .pointer (some ⟨b6, 0, none⟩))]) w := by
          refine tlg k45 <| tm rfl <| TL.cut 4 fun K49 k50 => ?_
          have J51 {e53} : ∀ w, St E H [bx b6 47 [.int .i64 a1.params, .int .i64 a1.result, v2, v4]] w → K49 (ovr e53 [(96, .bool (decide (((a1.params < 0 ∨ a1.params > 8) ∨ a1.params > (len a1.regs)) ∨ a1.result < 0))), (1, .pointer (some ⟨b6, 0, none⟩))]) w := by
           refine tlg k50 <| tm rfl <| TL.cut 4 fun K54 k55 => ?_
           have J56 {e58} : ∀ w, St E H [bx b6 47 [.int .i64 a1.params, .int .i64 a1.result, v2, v4]] w → K54 (ovr e58 [(101, .bool (decide ((((a1.params < 0 ∨ a1.params > 8) ∨ a1.params > (len a1.regs)) ∨ a1.result < 0) ∨ a1.result > 2))), (1, .pointer (some ⟨b6, 0, none⟩))]) w := by
            refine tlg k55 <| nz <| cD rfl hp (fun hc59 hp => ?_) fun hc59 hp => ?_
            · exact sr <| ta rfl <| nz <| TC.ret <| rt hp [] ⟨rfl, rfl⟩
            · refine sk k38 rfl <| TC.seq fun K60 k61 => sr <| ta rfl <| nz <| TC.block <| bE hp fun z_63 hz64 hr65 => ?_
              have J113 {e68} (hq114 : .go () = z_63) : ∀ w, St E H [bx b6 47 [.int .i64 a1.params, .int .i64 a1.result, v2, v4]] w → K60 (ovr e68 [(1, .pointer (some ⟨b6, 0, none⟩))]) w := by
               subst hq114
               replace hp : fettleref02_outer.nx67 a1 = some r := hr65
               refine tg k61 <| TC.seq fun K69 k70 => sr <| ta rfl <| nz <| TC.block <| bE hp fun z_72 hz73 hr74 => ?_
               have J78 {e77} (hq79 : .go () = z_72) : ∀ w, St E H [] w → K69 (ovr e77 []) w := by
                subst hq79
                replace hp : fettleref02_outer.nx76 = some r := hr74
                exact tg k70 <| sr <| ta rfl <| nz <| TC.ret <| rt hp [] ⟨rfl, rfl⟩
               refine lp hz73 [0] rfl (fun s e L => ∃ e71, e = ovr e71 [(1, .pointer (some ⟨b6, 0, none⟩)), (8, .int .i64 s)] ∧ L = [bx b6 47 [.int .i64 a1.params, .int .i64 a1.result, v2, v4]]) ⟨_, ovr_eq _ _ rfl, rfl⟩ ?_
               rintro x12 _ _ ⟨e71, rfl, rfl⟩ X75 hp hx76
               replace hp : fettleref02_outer.bd76 a1 x12 = some X75 := hp
               refine TC.seq fun K80 k81 => sr <| tm rfl <| tv (fa f47_3 rfl) rfl <| tv (lb s45 0 rfl rfl rfl) rfl <| tv (ln u45 h5 rfl) rfl <| tv (blt rfl rfl) rfl <| nz <| cD rfl hp (fun hc82 hp => ?_) fun hc82 hp => ?_
               · refine sk k81 rfl <| TC.seq fun K83 k84 => TC.block <| sr <| ta rfl <| nz <| TC.block <| bE hp fun z_86 hz87 hr88 => ?_
                 have J92 {e91} (hq93 : .go () = z_86) : ∀ w, St E H [bx b6 47 [.int .i64 a1.params, .int .i64 a1.result, v2, v4]] w → K83 (ovr e91 [(1, .pointer (some ⟨b6, 0, none⟩)), (8, .int .i64 x12)]) w := by
                  subst hq93
                  replace hp : fettleref02_outer.nx90 x12 = some X75 := hr88
                  exact tg k84 <| TC.region <| tm rfl <| tv (bad rfl rfl) rfl <| ta rfl <| nl <| gk hp [0] ⟨_, ovr_eq _ _ rfl, rfl⟩
                 refine lp hz87 [0] rfl (fun s e L => ∃ e85, e = ovr e85 [(1, .pointer (some ⟨b6, 0, none⟩)), (8, .int .i64 x12), (9, .int .i64 s)] ∧ L = [bx b6 47 [.int .i64 a1.params, .int .i64 a1.result, v2, v4]]) ⟨_, ovr_eq _ _ rfl, rfl⟩ ?_
                 rintro x13 _ _ ⟨e85, rfl, rfl⟩ X89 hp hx90
                 replace hp : fettleref02_outer.bd90 a1 x12 x13 = some X89 := hp
                 refine TC.seq fun K94 k95 => sr <| tm rfl <| tv (fa f47_3 rfl) rfl <| tv (lb s45 0 rfl rfl rfl) rfl <| tm rfl <| ti u45 i44 h5 hp rfl rfl rfl rfl ?_
                 rintro x14 b15 o16 _ hp ⟨v20, v22, v24, rfl, h21, h23, h25⟩ h19
                 refine tv (fa f44_0 rfl) rfl <| tv (lr s41 sH h19 0 rfl rfl) rfl <| tv (ln u41 h21 rfl) rfl <| tv (blt rfl rfl) rfl <| nz <| cD rfl hp (fun hc97 hp => ?_) fun hc97 hp => ?_
                 · refine sk k95 rfl <| TC.seq fun K98 k99 => TC.block <| TC.seq fun K100 k101 => ch mix [bx b6 47 [.int .i64 a1.params, .int .i64 a1.result, v2, v4]] (srcG 0 rfl srcG0) <| hv 0 rfl (fa f47_3 rfl) (by kernel_rfl) rfl <| hv 1 rfl (lbG s45 0 rfl rfl rfl) (by kernel_rfl) rfl <| hv 2 rfl mv (by kernel_rfl) rfl <| hi 3 rfl u45 i44 h5 hp rfl rfl rfl (by kernel_rfl) rfl ?_
                   rintro x1227 b1228 o1229 _ hp ⟨v1233, v1235, v1237, rfl, h1234, h1236, h1238⟩ h1232
                   refine hv 4 rfl (fa f44_0 rfl) (by kernel_rfl) rfl <| hv 5 rfl (lr s41 srcInH h1232 0 rfl rfl) (by kernel_rfl) rfl <| hv 6 rfl mv (by kernel_rfl) rfl <| hi 7 rfl u41 i52 h1234 hp rfl rfl rfl (by kernel_rfl) rfl ?_
                   rintro x2827 b2828 o2829 _ hp ⟨v2833, rfl, h2834⟩ h2832
                   refine hv 8 rfl (fa f52_1 rfl) (by kernel_rfl) rfl <| hv 9 rfl (lr s38 srcInH h2832 1 rfl rfl) (by kernel_rfl) rfl <| hv 10 rfl (ln u38 h2834 rfl) (by kernel_rfl) rfl <| hv 11 rfl (lAG (ds := [.int .i64 a1.params, .int .i64 a1.result, v2, v4]) ag_47 0 rfl rfl rfl rfl) (by kernel_rfl) rfl <| hv 12 rfl mv (by kernel_rfl) rfl <| ho 13 rfl (by kernel_rfl) fun K104 k105 => bE hp fun x5227 hy106 hp => tc 0 [_] rfl c66 (fun _ => fettleref02_Ahead_ok (a1 := a1) (a6 := x12) (h3.mono subH) (h5.mono subH) hy106) rfl ?_
                   rintro _ _ ⟨v5228, F5229, rfl, rfl, h5230⟩
                   refine hk k105 (srcG 1 rfl srcG0) <| hv 14 rfl (ln u38 h5230.ro rfl) (by kernel_rfl) rfl <| hv 15 rfl (bne rfl rfl) (by kernel_rfl) rfl <| hz (by kernel_rfl) <| tg k101 <| cD rfl hp (fun hc108 hp => ?_) fun hc108 hp => ?_
                   · refine sr <| ta rfl <| nz <| TC.ret ?_
                     obtain rfl := ex_ret hp hx90
                     obtain rfl := ex_ret hr88 hx76
                     exact rt hr74 [] ⟨rfl, rfl⟩
                   · exact sk k99 rfl <| TC.region <| tm rfl <| tv (bad rfl rfl) rfl <| ta rfl <| nl <| gk hp [1] ⟨_, ovr_eq _ _ rfl, rfl⟩
                 · exact TC.exit <| jn [0] (J92 (ex_ret hp hx90))
               · exact TC.exit <| jn [] (J78 (ex_ret hp hx76))
              refine lp hz64 [0] rfl (fun s e L => ∃ e62, e = ovr e62 [(1, .pointer (some ⟨b6, 0, none⟩)), (6, .int .i64 s)] ∧ L = [bx b6 47 [.int .i64 a1.params, .int .i64 a1.result, v2, v4]]) ⟨_, ovr_eq _ _ rfl, rfl⟩ ?_
              rintro x11 _ _ ⟨e62, rfl, rfl⟩ X66 hp hx67
              replace hp : fettleref02_outer.bd67 a1 x11 = some X66 := hp
              refine TC.seq fun K115 k116 => sr <| tm rfl <| tv (fa f47_3 rfl) rfl <| tv (lb s45 0 rfl rfl rfl) rfl <| tv (ln u45 h5 rfl) rfl <| tv (blt rfl rfl) rfl <| nz <| cD rfl hp (fun hc117 hp => ?_) fun hc117 hp => ?_
              · refine sk k116 rfl <| TC.seq fun K118 k119 => TC.block <| TC.seq fun K120 k121 => cq mix (by kernel_rfl) <| qv (lA (ds := [.int .i64 a1.params, .int .i64 a1.result, v2, v4]) ag_47 0 rfl rfl rfl rfl) rfl <| qv (fa f47_3 rfl) rfl <| qv (lb s45 0 rfl rfl rfl) rfl <| qv mv rfl <| qi u45 i44 h5 hp rfl rfl rfl rfl ?_
                rintro x6427 b6428 o6429 _ hp ⟨v6433, v6435, v6437, rfl, h6434, h6436, h6438⟩ h6432
                refine qv (fa f44_2 rfl) rfl <| qv (lR (ds := [.int .i64 x6427.term.kind, .int .i64 x6427.term.arg, v6437]) ag_40 sH h6432 2 rfl rfl rfl) rfl <| bE hp fun x6439 hy123 hp => qc (.bool x6439) c65 (fun _ => fettleref02_shape_ok (a1 := a1) (a6 := x6427.term) (h3.mono subH) (h5.mono subH) (h6438.mono subH) hy123) (fun _ _ h => ⟨h.1.symm, h.2⟩) rfl <| qv sg rfl <| QL.nil <| tg k121 <| sr <| tm rfl <| tv (rv_not rfl) rfl <| nz <| cB rfl hp (fun hc124 hp => ?_) fun hc124 hp => ?_
                · refine sr <| ta rfl <| nz <| TC.ret ?_
                  obtain rfl := ex_ret hp hx67
                  exact rt hr65 [] ⟨rfl, rfl⟩
                · exact sk k119 rfl <| TC.region <| tm rfl <| tv (bad rfl rfl) rfl <| ta rfl <| nl <| gk hp [0] ⟨_, ovr_eq _ _ rfl, rfl⟩
              · exact TC.exit <| jn [0] (J113 (ex_ret hp hx67))
           by_cases hc57 : ((a1.params < 0 ∨ a1.params > 8) ∨ a1.params > (len a1.regs)) ∨ a1.result < 0
           · exact gn rfl (bT hc57) rfl rfl <| gn rfl (bT hc57) rfl rfl <| gn rfl (bT hc57) rfl rfl <| tv (pT (bT hc57)) rfl <| nj J56 (bOt hc57)
           · exact gy rfl (bF hc57) <| tv (fa f47_1 rfl) rfl <| gy rfl (bF hc57) <| tv (lb s3 0 rfl rfl rfl) rfl <| gy rfl (bF hc57) <| tv (bgt rfl rfl) rfl <| tv (pF (bF hc57)) rfl <| nj J56 (bOf hc57)
          by_cases hc52 : (a1.params < 0 ∨ a1.params > 8) ∨ a1.params > (len a1.regs)
          · exact gn rfl (bT hc52) rfl rfl <| gn rfl (bT hc52) rfl rfl <| gn rfl (bT hc52) rfl rfl <| tv (pT (bT hc52)) rfl <| nj J51 (bOt hc52)
          · exact gy rfl (bF hc52) <| tv (fa f47_1 rfl) rfl <| gy rfl (bF hc52) <| tv (lb s3 0 rfl rfl rfl) rfl <| gy rfl (bF hc52) <| tv (blt rfl rfl) rfl <| tv (pF (bF hc52)) rfl <| nj J51 (bOf hc52)
         by_cases hc47 : a1.params < 0 ∨ a1.params > 8
         · exact gn rfl (bT hc47) rfl rfl <| gn rfl (bT hc47) rfl rfl <| gn rfl (bT hc47) rfl rfl <| gn rfl (bT hc47) rfl rfl <| gn rfl (bT hc47) rfl rfl <| gn rfl (bT hc47) rfl rfl <| tv (pT (bT hc47)) rfl <| nj J46 (bOt hc47)
         · exact gy rfl (bF hc47) <| tv (fa f47_0 rfl) rfl <| gy rfl (bF hc47) <| tv (lb s3 0 rfl rfl rfl) rfl <| gy rfl (bF hc47) <| tv (fa f47_2 rfl) rfl <| gy rfl (bF hc47) <| tv (lb s38 0 rfl rfl rfl) rfl <| gy rfl (bF hc47) <| tv (ln u38 h3 rfl) rfl <| gy rfl (bF hc47) <| tv (bgt rfl rfl) rfl <| tv (pF (bF hc47)) rfl <| nj J46 (bOf hc47)
        by_cases hc42 : a1.params < 0
        · exact gn rfl (bT hc42) rfl rfl <| gn rfl (bT hc42) rfl rfl <| gn rfl (bT hc42) rfl rfl <| tv (pT (bT hc42)) rfl <| nj J41 (bOt hc42)
        · exact gy rfl (bF hc42) <| tv (fa f47_0 rfl) rfl <| gy rfl (bF hc42) <| tv (lb s3 0 rfl rfl rfl) rfl <| gy rfl (bF hc42) <| tv (bgt rfl rfl) rfl <| tv (pF (bF hc42)) rfl <| nj J41 (bOf hc42)
       refine lp hz32 [0] rfl (fun s e L => ∃ e30, e = ovr e30 [(1, .pointer (some ⟨b6, 0, none⟩)), (5, .int .i64 s)] ∧ L = [bx b6 47 [.int .i64 a1.params, .int .i64 a1.result, v2, v4]]) ⟨_, ovr_eq _ _ rfl, rfl⟩ ?_
       rintro x10 _ _ ⟨e30, rfl, rfl⟩ X34 hp hx35
       replace hp : fettleref02_outer.bd35 a1 x10 = some X34 := hp
       refine TC.seq fun K129 k130 => sr <| tm rfl <| tv (fa f47_2 rfl) rfl <| tv (lb s38 0 rfl rfl rfl) rfl <| tv (ln u38 h3 rfl) rfl <| tv (blt rfl rfl) rfl <| nz <| cD rfl hp (fun hc131 hp => ?_) fun hc131 hp => ?_
       · refine sk k130 rfl <| TC.seq fun K132 k133 => TC.block <| sr <| tv (fa f47_2 rfl) rfl <| tv (lb s38 0 rfl rfl rfl) rfl <| tm rfl <| ti u38 i3 h3 hp rfl rfl rfl rfl ?_
         rintro x6440 b6441 o6442 _ hp rfl h6445
         refine tv (lr s3 sH h6445 0 rfl rfl) rfl <| tv (bne rfl rfl) rfl <| tm rfl <| bE hp fun t6446 ht141 hp => TL.cut 7 fun K135 k136 => ?_
         have J137 {e139} : ∀ w, St E H [bx b6 47 [.int .i64 a1.params, .int .i64 a1.result, v2, v4]] w → K135 (ovr e139 [(75, .bool t6446), (1, .pointer (some ⟨b6, 0, none⟩)), (5, .int .i64 x10)]) w := by
          refine tlg k136 <| nz <| cB rfl hp (fun hc140 hp => ?_) fun hc140 hp => ?_
          · refine sr <| ta rfl <| nz <| TC.ret ?_
            obtain rfl := ex_ret hp hx35
            exact rt hr33 [] ⟨rfl, rfl⟩
          · exact sk k133 rfl <| TC.region <| tm rfl <| tv (bad rfl rfl) rfl <| ta rfl <| nl <| gk hp [0] ⟨_, ovr_eq _ _ rfl, rfl⟩
         refine ifE ht141 (fun hc138 hp => ?_) fun hc138 hp => ?_
         · refine gy rfl (bT hc138) <| tv (fa f47_2 rfl) rfl <| gy rfl (bT hc138) <| tv (lb s38 0 rfl rfl rfl) rfl <| gy rfl (bT hc138) <| tm rfl <| gy rfl (bT hc138) <| ti u38 i3 h3 hp rfl rfl rfl rfl ?_
           rintro x6447 b6448 o6449 _ hp rfl h6452
           refine gy rfl (bT hc138) <| tv (lr s3 sH h6452 0 rfl rfl) rfl <| gy rfl (bT hc138) <| tv (bne rfl rfl) rfl <| tv (pT (bT hc138)) rfl ?_
           obtain rfl := Option.some.inj hp
           exact nj J137 rfl
         · refine gn rfl (bF hc138) rfl rfl <| gn rfl (bF hc138) rfl rfl <| gn rfl (bF hc138) rfl rfl <| gn rfl (bF hc138) rfl rfl <| gn rfl (bF hc138) rfl rfl <| gn rfl (bF hc138) rfl rfl <| tv (pF (bF hc138)) rfl ?_
           obtain rfl := Option.some.inj hp
           exact nj J137 rfl
       · exact TC.exit <| jn [0] (J127 (ex_ret hp hx35))
    by_cases hc25 : ((len a1.blocks) < 1 ∨ (len a1.blocks) > 64) ∨ (len a1.regs) > 256
    · exact gn rfl (bT hc25) rfl rfl <| gn rfl (bT hc25) rfl rfl <| tv (pT (bT hc25)) rfl <| nj J24 (bOt hc25)
    · exact gy rfl (bF hc25) <| tm rfl <| gy rfl (bF hc25) <| tv (bgt rfl rfl) rfl <| tv (pF (bF hc25)) rfl <| nj J24 (bOf hc25)
   by_cases hc20 : (len a1.blocks) < 1 ∨ (len a1.blocks) > 64
   · exact gn rfl (bT hc20) rfl rfl <| gn rfl (bT hc20) rfl rfl <| gn rfl (bT hc20) rfl rfl <| gn rfl (bT hc20) rfl rfl <| tv (pT (bT hc20)) rfl <| nj J19 (bOt hc20)
   · exact gy rfl (bF hc20) <| tv (fa f47_2 rfl) rfl <| gy rfl (bF hc20) <| tv (lb s38 0 rfl rfl rfl) rfl <| gy rfl (bF hc20) <| tv (ln u38 h3 rfl) rfl <| gy rfl (bF hc20) <| tv (bgt rfl rfl) rfl <| tv (pF (bF hc20)) rfl <| nj J19 (bOf hc20)
  by_cases hc15 : (len a1.blocks) < 1
  · exact gn rfl (bT hc15) rfl rfl <| gn rfl (bT hc15) rfl rfl <| gn rfl (bT hc15) rfl rfl <| gn rfl (bT hc15) rfl rfl <| tv (pT (bT hc15)) rfl <| nj J14 (bOt hc15)
  · exact gy rfl (bF hc15) <| tv (fa f47_3 rfl) rfl <| gy rfl (bF hc15) <| tv (lb s45 0 rfl rfl rfl) rfl <| gy rfl (bF hc15) <| tv (ln u45 h5 rfl) rfl <| gy rfl (bF hc15) <| tv (bgt rfl rfl) rfl <| tv (pF (bF hc15)) rfl <| nj J14 (bOf hc15)
 refine lp hz5 [0] rfl (fun s e L => ∃ x7 x8 e3, s = (x7, x8) ∧ e = ovr e3 [(1, .pointer (some ⟨b6, 0, none⟩)), (3, .int .i64 x7), (4, .int .i64 x8)] ∧ L = [bx b6 47 [.int .i64 a1.params, .int .i64 a1.result, v2, v4]]) ⟨_, _, _, rfl, ovr_eq _ _ rfl, rfl⟩ ?_
 rintro _ _ _ ⟨x7, x8, e3, rfl, rfl, rfl⟩ X7 hp hx8
 replace hp : fettleref02_outer.bd8 a1 x7 x8 = some X7 := hp
 refine TC.seq fun K147 k148 => sr <| tm rfl <| tv (fa f47_3 rfl) rfl <| tv (lb s45 0 rfl rfl rfl) rfl <| tv (ln u45 h5 rfl) rfl <| tv (blt rfl rfl) rfl <| nz <| cD rfl hp (fun hc149 hp => ?_) fun hc149 hp => ?_
 · refine sk k148 rfl <| TC.seq fun K150 k151 => TC.block <| cq mix (by kernel_rfl) <| qv mv rfl <| qv (fa f47_3 rfl) rfl <| qv (lb s45 0 rfl rfl rfl) rfl <| qv mv rfl <| qi u45 i44 h5 hp rfl rfl rfl rfl ?_
   rintro x6453 b6454 o6455 _ hp ⟨v6459, v6461, v6463, rfl, h6460, h6462, h6464⟩ h6458
   refine qv (fa f44_0 rfl) rfl <| qv (lr s41 sH h6458 0 rfl rfl) rfl <| qv (ln u41 h6460 rfl) rfl <| qv (bad rfl rfl) rfl <| qv (fa f47_3 rfl) rfl <| qv (lb s45 0 rfl rfl rfl) rfl <| qv mv rfl <| qi u45 i44 h5 hp rfl rfl rfl rfl ?_
   rintro x6465 b6466 o6467 _ hp ⟨v6471, v6473, v6475, rfl, h6472, h6474, h6476⟩ h6470
   exact qv (fa f44_1 rfl) rfl <| qv (lr s42 sH h6470 1 rfl rfl) rfl <| qv (ln u42 h6474 rfl) rfl <| qv (bad rfl rfl) rfl <| qv (bad rfl rfl) rfl <| qv sg rfl <| QL.nil <| tg k151 <| TC.region <| tm rfl <| tv (bad rfl rfl) rfl <| ta rfl <| nl <| gk hp [0] ⟨_, _, _, rfl, ovr_eq _ _ rfl, rfl⟩
 · exact TC.exit <| jn [0] (J145 (ex_ret hp hx8))

/-! ### fettle/fettleref02.is -/
abbrev fettleref02_is.R (r : Int) (v : Value) (A : List FP) : Prop := .int .i64 r = v ∧ A = []
def fettleref02_is (a1 : PFunc) (a6 : Int) (a7 : Int) : Option Int :=
  if a6 < 0 ∨ a6 ≥ (len a1.regs) then
    some 4
  else
    (if a7 ≥ 0 then (idx a1.regs a6).bind fun x10 =>
    some (decide (¬ x10 = a7)) else some false).bind fun t9 =>
    if t9 = true then
      some 3
    else
      some 0
theorem fettleref02_is_ok {E : World} {H : FP} {w : World} {a1 : PFunc} {a6 : Int} {a7 : Int} {v2 : Value} {v4 : Value} {r : Int} (h3 : SlI (kInt .i64) H a1.regs v2) (h5 : SlI kBlock H a1.blocks v4) (hp : fettleref02_is a1 a6 a7 = some r) (hst : St E H [] w) :
    Fn Tryz.prog 40 #[.agg #[.int .i64 a1.params, .int .i64 a1.result, v2, v4], .int .i64 a6, .int .i64 a7] w fun v w' => ∃ A, fettleref02_is.R r v A ∧ St E H A w' := by
 refine fb 27 [.tmp 6] Tryz.func40 rfl rfl rfl rfl rfl hst <| sr <| tb [.int .i64 a1.params, .int .i64 a1.result, v2, v4] rfl rfl fun b8 => ta rfl <| nz <| TC.seq fun K1 k2 => sr <| tm rfl <| tv (blt rfl rfl) rfl <| tm rfl <| TL.cut 6 fun K3 k4 => ?_
 have J5 {e7} : ∀ w, St E H [bx b8 47 [.int .i64 a1.params, .int .i64 a1.result, v2, v4]] w → K3 (ovr e7 [(15, .bool (decide (a6 < 0 ∨ a6 ≥ (len a1.regs)))), (1, .int .i64 a6), (2, .int .i64 a7), (3, .pointer (some ⟨b8, 0, none⟩))]) w := by
  refine tlg k4 <| nz <| cD rfl hp (fun hc8 hp => ?_) fun hc8 hp => ?_
  · exact sr <| ta rfl <| nz <| TC.ret <| rt hp [] ⟨rfl, rfl⟩
  · refine sk k2 rfl <| TC.seq fun K9 k10 => sr <| tm rfl <| tv (bge rfl rfl) rfl <| tm rfl <| bE hp fun t9 ht17 hp => TL.cut 8 fun K11 k12 => ?_
    have J13 {e15} : ∀ w, St E H [bx b8 47 [.int .i64 a1.params, .int .i64 a1.result, v2, v4]] w → K11 (ovr e15 [(26, .bool t9)]) w := by
     refine tlg k12 <| nz <| cB rfl hp (fun hc16 hp => ?_) fun hc16 hp => ?_
     · exact sr <| ta rfl <| nz <| TC.ret <| rt hp [] ⟨rfl, rfl⟩
     · exact sk k10 rfl <| sr <| ta rfl <| nz <| TC.ret <| rt hp [] ⟨rfl, rfl⟩
    refine ifE ht17 (fun hc14 hp => ?_) fun hc14 hp => ?_
    · refine gy rfl (bT hc14) <| tv (fa f47_2 rfl) rfl <| gy rfl (bT hc14) <| tv (lb s38 0 rfl rfl rfl) rfl <| gy rfl (bT hc14) <| tm rfl <| gy rfl (bT hc14) <| ti u38 i3 h3 hp rfl rfl rfl rfl ?_
      rintro x10 b11 o12 _ hp rfl h15
      refine gy rfl (bT hc14) <| tv (lr s3 sH h15 0 rfl rfl) rfl <| gy rfl (bT hc14) <| tm rfl <| gy rfl (bT hc14) <| tv (bne rfl rfl) rfl <| tv (pT (bT hc14)) rfl ?_
      obtain rfl := Option.some.inj hp
      exact nj J13 rfl
    · refine gn rfl (bF hc14) rfl rfl <| gn rfl (bF hc14) rfl rfl <| gn rfl (bF hc14) rfl rfl <| gn rfl (bF hc14) rfl rfl <| gn rfl (bF hc14) rfl rfl <| gn rfl (bF hc14) rfl rfl <| gn rfl (bF hc14) rfl rfl <| tv (pF (bF hc14)) rfl ?_
      obtain rfl := Option.some.inj hp
      exact nj J13 rfl
 by_cases hc6 : a6 < 0
 · exact gn rfl (bT hc6) rfl rfl <| gn rfl (bT hc6) rfl rfl <| gn rfl (bT hc6) rfl rfl <| gn rfl (bT hc6) rfl rfl <| gn rfl (bT hc6) rfl rfl <| tv (pT (bT hc6)) rfl <| nj J5 (bOt hc6)
 · exact gy rfl (bF hc6) <| tm rfl <| gy rfl (bF hc6) <| tv (fa f47_2 rfl) rfl <| gy rfl (bF hc6) <| tv (lb s38 0 rfl rfl rfl) rfl <| gy rfl (bF hc6) <| tv (ln u38 h3 rfl) rfl <| gy rfl (bF hc6) <| tv (bge rfl rfl) rfl <| tv (pF (bF hc6)) rfl <| nj J5 (bOf hc6)

/-! ### fettle/fettleref02.worst -/
abbrev fettleref02_worst.R (r : Int) (v : Value) (A : List FP) : Prop := .int .i64 r = v ∧ A = []
def fettleref02_worst (a1 : Int) (a2 : Int) : Option Int :=
  if a1 = 4 ∨ a2 = 4 then
    some 4
  else
    if ¬ a1 = 0 then
      some a1
    else
      some a2
theorem fettleref02_worst_ok {E : World} {H : FP} {w : World} {a1 : Int} {a2 : Int} {r : Int}  (hp : fettleref02_worst a1 a2 = some r) (hst : St E H [] w) :
    Fn Tryz.prog 41 #[.int .i64 a1, .int .i64 a2] w fun v w' => ∃ A, fettleref02_worst.R r v A ∧ St E H A w' := by
 refine fb 15 [.tmp 4] Tryz.func41 rfl rfl rfl rfl rfl hst <| sr <| ta rfl <| nz <| TC.seq fun K1 k2 => sr <| tm rfl <| tv (beq rfl rfl) rfl <| tm rfl <| TL.cut 3 fun K3 k4 => ?_
 have J5 {e7} : ∀ w, St E H [] w → K3 (ovr e7 [(10, .bool (decide (a1 = 4 ∨ a2 = 4))), (0, .int .i64 a1), (1, .int .i64 a2)]) w := by
  refine tlg k4 <| nz <| cD rfl hp (fun hc8 hp => ?_) fun hc8 hp => ?_
  · exact sr <| ta rfl <| nz <| TC.ret <| rt hp [] ⟨rfl, rfl⟩
  · refine sk k2 rfl <| TC.seq fun K9 k10 => sr <| tm rfl <| tv (bne rfl rfl) rfl <| nz <| cD rfl hp (fun hc11 hp => ?_) fun hc11 hp => ?_
    · exact sr <| tm rfl <| ta rfl <| nz <| TC.ret <| rt hp [] ⟨rfl, rfl⟩
    · exact sk k10 rfl <| sr <| tm rfl <| ta rfl <| nz <| TC.ret <| rt hp [] ⟨rfl, rfl⟩
 by_cases hc6 : a1 = 4
 · exact gn rfl (bT hc6) rfl rfl <| gn rfl (bT hc6) rfl rfl <| tv (pT (bT hc6)) rfl <| nj J5 (bOt hc6)
 · exact gy rfl (bF hc6) <| tm rfl <| gy rfl (bF hc6) <| tv (beq rfl rfl) rfl <| tv (pF (bF hc6)) rfl <| nj J5 (bOf hc6)

/-! ### fettle/fettleref02.kinds -/
abbrev fettleref02_kinds.R (r : List Int × Int × Bool) (v : Value) (A : List FP) : Prop := ∃ (w1 : Value) (G1 : FP), .tuple #[w1, .int .i64 r.2.1, .bool r.2.2] = v ∧ A = [G1] ∧ SlO 3 (kInt .i64) r.1 w1 G1
def fettleref02_kinds.jn12 (a9 : PInstr) (x20 : Bool) : Option (List Int × Int × Bool) :=
  if x20 = true then
    some ([1, 1], 2, true)
  else
    if a9.op = 14 then
      some ([2], 2, true)
    else
      if a9.op = 15 then
        some ([1], 1, true)
      else
        if a9.op = 16 then
          some ([1, 1], 0, true)
        else
          if a9.op = 18 then
            some ([1], 0, true)
          else
            if a9.op ≥ 3 ∧ a9.op ≤ 11 then
              some ([1, 1], 1, true)
            else
              some (([] : List Int), 0, false)
def fettleref02_kinds.jn4 (a9 : PInstr) (x15 : Int) : Option (List Int × Int × Bool) :=
  if a9.op = 1 then
    some (([] : List Int), x15, true)
  else
    if a9.op = 2 then
      some ([x15], x15, true)
    else
      if a9.op = 12 then
        fettleref02_kinds.jn12 a9 (decide (a9.op = 12))
      else
        fettleref02_kinds.jn12 a9 (decide (a9.op = 13))
def fettleref02_kinds (a1 : PModule) (a4 : PFunc) (a9 : PInstr) : Option (List Int × Int × Bool) :=
  if a9.dst ≥ 0 ∧ a9.dst < (len a4.regs) then
    (idx a4.regs a9.dst).bind fun x40 =>
    fettleref02_kinds.jn4 a9 x40
  else
    fettleref02_kinds.jn4 a9 1
set_option maxHeartbeats 4000000 in
theorem fettleref02_kinds_ok {E : World} {H : FP} {w : World} {a1 : PModule} {a4 : PFunc} {a9 : PInstr} {v2 : Value} {v5 : Value} {v7 : Value} {v10 : Value} {r : List Int × Int × Bool} (h3 : SlI kFunc H a1.funcs v2) (h6 : SlI (kInt .i64) H a4.regs v5) (h8 : SlI kBlock H a4.blocks v7) (h11 : SlI (kInt .i64) H a9.args v10) (hp : fettleref02_kinds a1 a4 a9 = some r) (hst : St E H [] w) :
    Fn Tryz.prog 67 #[.agg #[v2], .agg #[.int .i64 a4.params, .int .i64 a4.result, v5, v7], .agg #[.int .i64 a9.op, .int .i64 a9.dst, v10, .int .i64 a9.imm, .int .i64 a9.fn]] w fun v w' => ∃ A, fettleref02_kinds.R r v A ∧ St E H A w' := by
 refine fb 62 [.tmp 6, .tmp 7, .tmp 8] Tryz.func67 rfl rfl rfl rfl rfl hst <| sr <| tb [v2] rfl rfl fun b12 => tb [.int .i64 a4.params, .int .i64 a4.result, v5, v7] rfl rfl fun b13 => tb [.int .i64 a9.op, .int .i64 a9.dst, v10, .int .i64 a9.imm, .int .i64 a9.fn] rfl rfl fun b14 => ta rfl <| ta rfl <| ta rfl <| nz <| sr <| ta rfl <| nz <| TC.seq fun K1 k2 => ?_
 have J4 {x15 e3} (hp : fettleref02_kinds.jn4 a9 x15 = some r) : ∀ w, St E H [bx b14 50 [.int .i64 a9.op, .int .i64 a9.dst, v10, .int .i64 a9.imm, .int .i64 a9.fn]] w → K1 (ovr e3 [(5, .pointer (some ⟨b14, 0, none⟩)), (9, .int .i64 x15)]) w := by
  refine tg k2 <| TC.seq fun K5 k6 => sr <| tv (fa f50_0 rfl) rfl <| tv (lb s3 0 rfl rfl rfl) rfl <| nz <| TC.block <| sr <| tv (beq rfl rfl) rfl <| ta rfl <| nz <| cD rfl hp (fun hc7 hp => ?_) fun hc7 hp => ?_
  · exact sr <| tm rfl <| ta rfl <| ta rfl <| ta rfl <| nz <| TC.ret <| W.new0 <| rt hp [0] ⟨(.slice none 0 0), ([] : FP), rfl, rfl, (SlO.nil 3)⟩
  · refine sr <| tv (beq rfl rfl) rfl <| ta rfl <| nz <| cD rfl hp (fun hc8 hp => ?_) fun hc8 hp => ?_
    · exact sr <| tm rfl <| tbs [(0, .int .i64 x15)] [.int .i64 x15] u38 i3 (by kernel_rfl) rfl rfl rfl rfl fun b17 => tm rfl <| ta rfl <| ta rfl <| ta rfl <| tf 1 0 [_,_,_] rfl <| TL.litOwn (n := 1) (xs := [x15]) (RepL.to (RepL.cons (k := (kInt .i64)) (x := x15) ⟨rfl, rfl⟩ RepL.nil) rfl) rfl rfl (ltb rfl) fun F18 h19 => nz <| TC.ret <| rt hp [0] ⟨(.slice (some ⟨b17, 0, none⟩) 1 1), F18, rfl, rfl, h19⟩
    · refine TC.seq fun K9 k10 => ?_
      have J12 {x20 e11} (hp : fettleref02_kinds.jn12 a9 x20 = some r) : ∀ w, St E H [bx b14 50 [.int .i64 a9.op, .int .i64 a9.dst, v10, .int .i64 a9.imm, .int .i64 a9.fn]] w → K9 (ovr e11 [(5, .pointer (some ⟨b14, 0, none⟩)), (28, .int .i64 a9.op), (37, .bool x20)]) w := by
       refine tg k10 <| cB rfl hp (fun hc13 hp => ?_) fun hc13 hp => ?_
       · exact sr <| tbs [(0, .int .i64 1), (1, .int .i64 1)] [.int .i64 1, .int .i64 1] u38 i3 (by kernel_rfl) rfl rfl rfl rfl fun b21 => ta rfl <| ta rfl <| ta rfl <| tf 1 0 [_,_,_] rfl <| TL.litOwn (n := 2) (xs := [1, 1]) (RepL.to (RepL.cons (k := (kInt .i64)) (x := 1) ⟨rfl, rfl⟩ (RepL.cons (k := (kInt .i64)) (x := 1) ⟨rfl, rfl⟩ RepL.nil)) rfl) rfl rfl (ltb rfl) fun F22 h23 => nz <| TC.ret <| rt hp [0] ⟨(.slice (some ⟨b21, 0, none⟩) 2 2), F22, rfl, rfl, h23⟩
       · refine sr <| tv (beq rfl rfl) rfl <| ta rfl <| nz <| cD rfl hp (fun hc14 hp => ?_) fun hc14 hp => ?_
         · exact sr <| tbs [(0, .int .i64 2)] [.int .i64 2] u38 i3 (by kernel_rfl) rfl rfl rfl rfl fun b24 => ta rfl <| ta rfl <| ta rfl <| tf 1 0 [_,_,_] rfl <| TL.litOwn (n := 1) (xs := [2]) (RepL.to (RepL.cons (k := (kInt .i64)) (x := 2) ⟨rfl, rfl⟩ RepL.nil) rfl) rfl rfl (ltb rfl) fun F25 h26 => nz <| TC.ret <| rt hp [0] ⟨(.slice (some ⟨b24, 0, none⟩) 1 1), F25, rfl, rfl, h26⟩
         · refine sr <| tv (beq rfl rfl) rfl <| ta rfl <| nz <| cD rfl hp (fun hc15 hp => ?_) fun hc15 hp => ?_
           · exact sr <| tbs [(0, .int .i64 1)] [.int .i64 1] u38 i3 (by kernel_rfl) rfl rfl rfl rfl fun b27 => ta rfl <| ta rfl <| ta rfl <| tf 1 0 [_,_,_] rfl <| TL.litOwn (n := 1) (xs := [1]) (RepL.to (RepL.cons (k := (kInt .i64)) (x := 1) ⟨rfl, rfl⟩ RepL.nil) rfl) rfl rfl (ltb rfl) fun F28 h29 => nz <| TC.ret <| rt hp [0] ⟨(.slice (some ⟨b27, 0, none⟩) 1 1), F28, rfl, rfl, h29⟩
           · refine sr <| tv (beq rfl rfl) rfl <| ta rfl <| nz <| cD rfl hp (fun hc16 hp => ?_) fun hc16 hp => ?_
             · exact sr <| tbs [(0, .int .i64 1), (1, .int .i64 1)] [.int .i64 1, .int .i64 1] u38 i3 (by kernel_rfl) rfl rfl rfl rfl fun b30 => ta rfl <| ta rfl <| ta rfl <| tf 1 0 [_,_,_] rfl <| TL.litOwn (n := 2) (xs := [1, 1]) (RepL.to (RepL.cons (k := (kInt .i64)) (x := 1) ⟨rfl, rfl⟩ (RepL.cons (k := (kInt .i64)) (x := 1) ⟨rfl, rfl⟩ RepL.nil)) rfl) rfl rfl (ltb rfl) fun F31 h32 => nz <| TC.ret <| rt hp [0] ⟨(.slice (some ⟨b30, 0, none⟩) 2 2), F31, rfl, rfl, h32⟩
             · refine sr <| tv (beq rfl rfl) rfl <| ta rfl <| nz <| cD rfl hp (fun hc17 hp => ?_) fun hc17 hp => ?_
               · exact sr <| tbs [(0, .int .i64 1)] [.int .i64 1] u38 i3 (by kernel_rfl) rfl rfl rfl rfl fun b33 => ta rfl <| ta rfl <| ta rfl <| tf 1 0 [_,_,_] rfl <| TL.litOwn (n := 1) (xs := [1]) (RepL.to (RepL.cons (k := (kInt .i64)) (x := 1) ⟨rfl, rfl⟩ RepL.nil) rfl) rfl rfl (ltb rfl) fun F34 h35 => nz <| TC.ret <| rt hp [0] ⟨(.slice (some ⟨b33, 0, none⟩) 1 1), F34, rfl, rfl, h35⟩
               · refine sk k6 rfl <| TC.seq fun K18 k19 => sr <| tv (fa f50_0 rfl) rfl <| tv (lb s3 0 rfl rfl rfl) rfl <| tv (bge rfl rfl) rfl <| tm rfl <| TL.cut 4 fun K20 k21 => ?_
                 have J22 {e24} : ∀ w, St E H [bx b14 50 [.int .i64 a9.op, .int .i64 a9.dst, v10, .int .i64 a9.imm, .int .i64 a9.fn]] w → K20 (ovr e24 [(60, .bool (decide (a9.op ≥ 3 ∧ a9.op ≤ 11)))]) w := by
                  refine tlg k21 <| nz <| cD rfl hp (fun hc25 hp => ?_) fun hc25 hp => ?_
                  · exact sr <| tbs [(0, .int .i64 1), (1, .int .i64 1)] [.int .i64 1, .int .i64 1] u38 i3 (by kernel_rfl) rfl rfl rfl rfl fun b36 => ta rfl <| ta rfl <| ta rfl <| tf 1 0 [_,_,_] rfl <| TL.litOwn (n := 2) (xs := [1, 1]) (RepL.to (RepL.cons (k := (kInt .i64)) (x := 1) ⟨rfl, rfl⟩ (RepL.cons (k := (kInt .i64)) (x := 1) ⟨rfl, rfl⟩ RepL.nil)) rfl) rfl rfl (ltb rfl) fun F37 h38 => nz <| TC.ret <| rt hp [0] ⟨(.slice (some ⟨b36, 0, none⟩) 2 2), F37, rfl, rfl, h38⟩
                  · exact sk k19 rfl <| sr <| ta rfl <| ta rfl <| ta rfl <| nz <| TC.ret <| W.new0 <| rt hp [0] ⟨(.slice none 0 0), ([] : FP), rfl, rfl, (SlO.nil 3)⟩
                 by_cases hc23 : a9.op ≥ 3
                 · exact gy rfl (bT hc23) <| tv (fa f50_0 rfl) rfl <| gy rfl (bT hc23) <| tv (lb s3 0 rfl rfl rfl) rfl <| gy rfl (bT hc23) <| tv (ble rfl rfl) rfl <| tv (pT (bT hc23)) rfl <| nj J22 (bAt hc23)
                 · exact gn rfl (bF hc23) rfl rfl <| gn rfl (bF hc23) rfl rfl <| gn rfl (bF hc23) rfl rfl <| tv (pF (bF hc23)) rfl <| nj J22 (bAf hc23)
      refine sr <| tv (beq rfl rfl) rfl <| ta rfl <| nz <| cD rfl hp (fun hc26 hp => ?_) fun hc26 hp => ?_
      · exact TC.skip <| jn [0] (J12 hp)
      · exact TC.region <| tv (beq rfl rfl) rfl <| ta rfl <| nl <| jn [0] (J12 hp)
 refine sr <| tv (fa f50_1 rfl) rfl <| tv (lb s3 0 rfl rfl rfl) rfl <| tv (bge rfl rfl) rfl <| tm rfl <| TL.cut 7 fun K27 k28 => ?_
 have J29 {e31} : ∀ w, St E H [bx b14 50 [.int .i64 a9.op, .int .i64 a9.dst, v10, .int .i64 a9.imm, .int .i64 a9.fn], bx b13 47 [.int .i64 a4.params, .int .i64 a4.result, v5, v7], bx b12 24 [v2]] w → K27 (ovr e31 [(20, .bool (decide (a9.dst ≥ 0 ∧ a9.dst < (len a4.regs)))), (4, .pointer (some ⟨b13, 0, none⟩)), (5, .pointer (some ⟨b14, 0, none⟩)), (9, .int .i64 1)]) w := by
  refine tlg k28 <| nz <| cD rfl hp (fun hc32 hp => ?_) fun hc32 hp => ?_
  · refine TC.region <| tv (fa f47_2 rfl) rfl <| tv (lb s38 1 rfl rfl rfl) rfl <| tv (fa f50_1 rfl) rfl <| tv (lb s3 0 rfl rfl rfl) rfl <| ti u38 i3 h6 hp rfl rfl rfl rfl ?_
    rintro x40 b41 o42 _ hp rfl h45
    exact tv (lr s3 sH h45 0 rfl rfl) rfl <| ta rfl <| nl <| jn [0] (J4 hp)
  · exact TC.skip <| jn [0] (J4 hp)
 by_cases hc30 : a9.dst ≥ 0
 · exact gy rfl (bT hc30) <| tv (fa f50_1 rfl) rfl <| gy rfl (bT hc30) <| tv (lb s3 0 rfl rfl rfl) rfl <| gy rfl (bT hc30) <| tv (fa f47_2 rfl) rfl <| gy rfl (bT hc30) <| tv (lb s38 1 rfl rfl rfl) rfl <| gy rfl (bT hc30) <| tv (ln u38 h6 rfl) rfl <| gy rfl (bT hc30) <| tv (blt rfl rfl) rfl <| tv (pT (bT hc30)) rfl <| nj J29 (bAt hc30)
 · exact gn rfl (bF hc30) rfl rfl <| gn rfl (bF hc30) rfl rfl <| gn rfl (bF hc30) rfl rfl <| gn rfl (bF hc30) rfl rfl <| gn rfl (bF hc30) rfl rfl <| gn rfl (bF hc30) rfl rfl <| tv (pF (bF hc30)) rfl <| nj J29 (bAf hc30)
end Go.Proofs.YtpomfbdbkejedaaGreatDoor
