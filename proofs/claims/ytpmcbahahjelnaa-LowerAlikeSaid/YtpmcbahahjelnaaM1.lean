/- The walk through the program's functions: each one's pure reading, and that a call does what it says. No conditions. -/
import Derived.Test.YtpmcbahahjelnaaDeF
import Derived.Test.YtpmcbahahjelnaaApZ
set_option linter.unusedVariables false
set_option linter.unusedSimpArgs false
namespace Go.Proofs.Ytpmcbahahjelnaa
open Go Go.Proofs

/-! ### fettle/lower.Moves$1 -/
abbrev lower_Moves_1.R (r : Bool) (v : Value) (A : List FP) : Prop := .bool r = v ∧ A = []
def lower_Moves_1 (a1 : PPair) (a3 : PPair) : Option Bool :=
  some (decide (a1.a = a3.a))
theorem lower_Moves_1_ok {E : World} {H : FP} {w : World} {a1 : PPair} {a3 : PPair} {b2 : Nat} {o4 : Nat} {r : Bool} (h5 : CellsIn H b2 o4 [.int .i64 a3.a, .int .i64 a3.b]) (hp : lower_Moves_1 a1 a3 = some r) (hst : St E H [] w) :
    Fn Try.prog 22 #[.agg #[.int .i64 a1.a, .int .i64 a1.b], .pointer (some ⟨b2, o4, none⟩)] w fun v w' => ∃ A, lower_Moves_1.R r v A ∧ St E H A w' := by
 exact fb 9 [.tmp 3] Try.func22 rfl rfl rfl rfl rfl hst <| sr <| tb [.int .i64 a1.a, .int .i64 a1.b] rfl rfl fun b6 => ta rfl <| nz <| sr <| tv (ixP 0 ax_31 i3 rfl rfl rfl) rfl <| tv (lb s3 0 rfl rfl rfl) rfl <| tv (ixP 0 ax_31 i3 rfl rfl rfl) rfl <| tv (lr s3 sH h5 0 rfl rfl) rfl <| tv (beq rfl rfl) rfl <| ta rfl <| nz <| TC.ret <| rt hp [] ⟨rfl, rfl⟩

/-! ### slices.IndexFunc[[][2]int,[2]int] -/
abbrev slices_IndexFunc_2_int_2_int_lower_Moves_1.R (r : Int) (v : Value) (A : List FP) : Prop := .int .i64 r = v ∧ A = []
def slices_IndexFunc_2_int_2_int_lower_Moves_1.nx8  : Option Int :=
  some (-1)
def slices_IndexFunc_2_int_2_int_lower_Moves_1.bd8 (a1 : List PPair) (a6 : PPair) (x9 : Int) : Option (Ex (Ex Int Unit) Int) :=
  if x9 < (len a1) then
    (idx a1 x9).bind fun x10 =>
    (lower_Moves_1 x10 a6).bind fun x16 =>
    if x16 = true then
      some (.ret (.ret x9))
    else
      some (.go (w64 (x9 + 1)))
  else
    some (.ret (.go ()))
def slices_IndexFunc_2_int_2_int_lower_Moves_1 (a1 : List PPair) (a6 : PPair) : Option Int :=
  (whl (fun (s : Int) => slices_IndexFunc_2_int_2_int_lower_Moves_1.bd8 a1 a6 s) FUEL 0).bind fun z =>
  match z with
    | .ret r => some r
    | .go p => slices_IndexFunc_2_int_2_int_lower_Moves_1.nx8
theorem slices_IndexFunc_2_int_2_int_lower_Moves_1_ok {E : World} {H : FP} {w : World} {a1 : List PPair} {a6 : PPair} {v2 : Value} {b5 : Nat} {o7 : Nat} {r : Int} (h3 : SlI kPair H a1 v2) (h8 : CellsIn H b5 o7 [.int .i64 a6.a, .int .i64 a6.b]) (hp : slices_IndexFunc_2_int_2_int_lower_Moves_1 a1 a6 = some r) (hst : St E H [] w) :
    Fn Try.prog 37 #[v2, .func (.func 22) #[] #[.pointer (some ⟨b5, o7, none⟩)]] w fun v w' => ∃ A, slices_IndexFunc_2_int_2_int_lower_Moves_1.R r v A ∧ St E H A w' := by
 refine fb 19 [.tmp 4] Try.func37 rfl rfl rfl rfl rfl hst <| sr <| ta rfl <| nz <| TC.seq fun K1 k2 => sr <| tm rfl <| tv (ln u22 h3 rfl) rfl <| tm rfl <| nz <| TC.block <| bE hp fun z_4 hz5 hr6 => ?_
 have J10 {e9} (hq11 : .go () = z_4) : ∀ w, St E H [] w → K1 (ovr e9 []) w := by
  subst hq11
  replace hp : slices_IndexFunc_2_int_2_int_lower_Moves_1.nx8 = some r := hr6
  exact tg k2 <| sr <| ta rfl <| nz <| TC.ret <| rt hp [] ⟨rfl, rfl⟩
 refine lp hz5 [] rfl (fun s e L => ∃ e3, e = ovr e3 [(0, v2), (1, .func (.func 22) #[] #[.pointer (some ⟨b5, o7, none⟩)]), (7, .int .i64 (len a1)), (8, .int .i64 s)] ∧ L = []) ⟨_, ovr_eq _ _ rfl, rfl⟩ ?_
 rintro x9 _ _ ⟨e3, rfl, rfl⟩ X7 hp hx8
 replace hp : slices_IndexFunc_2_int_2_int_lower_Moves_1.bd8 a1 a6 x9 = some X7 := hp
 refine sr <| tv (blt rfl rfl) rfl <| nz <| TC.seq fun K12 k13 => cD rfl hp (fun hc14 hp => ?_) fun hc14 hp => ?_
 · refine sk k13 rfl <| TC.seq fun K15 k16 => TC.block <| sr <| tm rfl <| ta rfl <| nz <| sr <| tm rfl <| tm rfl <| tm rfl <| ti u22 i31 h3 hp rfl rfl rfl rfl ?_
   rintro x10 b11 o12 _ hp rfl h15
   refine tv (lR (ds := [.int .i64 x10.a, .int .i64 x10.b]) ag_31 sH h15 0 rfl rfl rfl) rfl <| bE hp fun x16 hy18 hp => tcv 0 [] rfl c22 rfl (fun _ => lower_Moves_1_ok (a1 := x10) (a3 := a6) (h8.mono subH) hy18) rfl ?_
   rintro _ _ ⟨rfl, rfl⟩
   refine nz <| cB rfl hp (fun hc20 hp => ?_) fun hc20 hp => ?_
   · refine sr <| tm rfl <| ta rfl <| nz <| TC.ret ?_
     obtain rfl := ex_ret hp hx8
     exact rt hr6 [] ⟨rfl, rfl⟩
   · exact sk k16 rfl <| TC.region <| tv (bad rfl rfl) rfl <| tm rfl <| nl <| gk hp [] ⟨_, ovr_eq _ _ rfl, rfl⟩
 · exact TC.exit <| jn [] (J10 (ex_ret hp hx8))

/-! ### slices.ContainsFunc[[][2]int,[2]int] -/
abbrev slices_ContainsFunc_2_int_2_int_lower_Moves_1.R (r : Bool) (v : Value) (A : List FP) : Prop := .bool r = v ∧ A = []
def slices_ContainsFunc_2_int_2_int_lower_Moves_1 (a1 : List PPair) (a6 : PPair) : Option Bool :=
  (slices_IndexFunc_2_int_2_int_lower_Moves_1 a1 a6).bind fun x9 =>
  some (decide (x9 ≥ 0))
theorem slices_ContainsFunc_2_int_2_int_lower_Moves_1_ok {E : World} {H : FP} {w : World} {a1 : List PPair} {a6 : PPair} {v2 : Value} {b5 : Nat} {o7 : Nat} {r : Bool} (h3 : SlI kPair H a1 v2) (h8 : CellsIn H b5 o7 [.int .i64 a6.a, .int .i64 a6.b]) (hp : slices_ContainsFunc_2_int_2_int_lower_Moves_1 a1 a6 = some r) (hst : St E H [] w) :
    Fn Try.prog 21 #[v2, .func (.func 22) #[] #[.pointer (some ⟨b5, o7, none⟩)]] w fun v w' => ∃ A, slices_ContainsFunc_2_int_2_int_lower_Moves_1.R r v A ∧ St E H A w' := by
 refine fb 9 [.tmp 4] Try.func21 rfl rfl rfl rfl rfl hst <| sr <| ta rfl <| nz <| sr <| tm rfl <| tm rfl <| bE hp fun x9 hy1 hp => tc 0 [] rfl c37 (fun _ => slices_IndexFunc_2_int_2_int_lower_Moves_1_ok (a1 := a1) (a6 := a6) (h3.mono subH) (h8.mono subH) hy1) rfl ?_
 rintro _ _ ⟨rfl, rfl⟩
 exact tv (bge rfl rfl) rfl <| ta rfl <| nz <| TC.ret <| rt hp [] ⟨rfl, rfl⟩

/-! ### fettle/lower.from -/
abbrev lower_from.R (r : Bool) (v : Value) (A : List FP) : Prop := .bool r = v ∧ A = []
def lower_from.nx8  : Option Bool :=
  some false
def lower_from.bd8 (a1 : List PPair) (a4 : Int) (a5 : Int) (x6 : Int) : Option (Ex (Ex Bool Unit) Int) :=
  if x6 < (len a1) then
    (idx a1 x6).bind fun x7 =>
    if (¬ x6 = a5) ∧ x7.b = a4 then
      some (.ret (.ret true))
    else
      some (.go (w64 (x6 + 1)))
  else
    some (.ret (.go ()))
def lower_from (a1 : List PPair) (a4 : Int) (a5 : Int) : Option Bool :=
  (whl (fun (s : Int) => lower_from.bd8 a1 a4 a5 s) FUEL 0).bind fun z =>
  match z with
    | .ret r => some r
    | .go p => lower_from.nx8
theorem lower_from_ok {E : World} {H : FP} {w : World} {a1 : List PPair} {a4 : Int} {a5 : Int} {v2 : Value} {r : Bool} (h3 : SlI kPair H a1 v2) (hp : lower_from a1 a4 a5 = some r) (hst : St E H [] w) :
    Fn Try.prog 23 #[v2, .int .i64 a4, .int .i64 a5] w fun v w' => ∃ A, lower_from.R r v A ∧ St E H A w' := by
 refine fb 26 [.tmp 6] Try.func23 rfl rfl rfl rfl rfl hst <| sr <| ta rfl <| nz <| TC.seq fun K1 k2 => sr <| tm rfl <| tv (ln u22 h3 rfl) rfl <| tm rfl <| nz <| TC.block <| bE hp fun z_4 hz5 hr6 => ?_
 have J10 {e9} (hq11 : .go () = z_4) : ∀ w, St E H [] w → K1 (ovr e9 []) w := by
  subst hq11
  replace hp : lower_from.nx8 = some r := hr6
  exact tg k2 <| sr <| ta rfl <| nz <| TC.ret <| rt hp [] ⟨rfl, rfl⟩
 refine lp hz5 [] rfl (fun s e L => ∃ e3, e = ovr e3 [(1, .int .i64 a4), (2, .int .i64 a5), (9, v2), (10, .int .i64 (len a1)), (11, .int .i64 s)] ∧ L = []) ⟨_, ovr_eq _ _ rfl, rfl⟩ ?_
 rintro x6 _ _ ⟨e3, rfl, rfl⟩ X7 hp hx8
 replace hp : lower_from.bd8 a1 a4 a5 x6 = some X7 := hp
 refine sr <| tv (blt rfl rfl) rfl <| nz <| TC.seq fun K12 k13 => cD rfl hp (fun hc14 hp => ?_) fun hc14 hp => ?_
 · refine sk k13 rfl <| TC.seq fun K15 k16 => TC.block <| sr <| tm rfl <| ti u22 i31 h3 hp rfl rfl rfl rfl ?_
   rintro x7 b8 o9 _ hp rfl h12
   refine tv (lR (ds := [.int .i64 x7.a, .int .i64 x7.b]) ag_31 sH h12 0 rfl rfl rfl) rfl <| tl i31 rfl fun b13 => ta rfl <| tS 0 m31 rfl rfl [.int .i64 x7.a, .int .i64 x7.b] rfl (oc rfl (oc rfl oc0)) rfl rfl <| nz <| sr <| tm rfl <| tm rfl <| tv (bne rfl rfl) rfl <| tm rfl <| TL.cut 5 fun K18 k19 => ?_
   have J20 {e22} : ∀ w, St E H [bx b13 31 [.int .i64 x7.a, .int .i64 x7.b]] w → K18 (ovr e22 [(24, .bool (decide ((¬ x6 = a5) ∧ x7.b = a4))), (1, .int .i64 a4), (2, .int .i64 a5), (9, v2), (10, .int .i64 (len a1)), (11, .int .i64 x6)]) w := by
    refine tlg k19 <| nz <| cD rfl hp (fun hc23 hp => ?_) fun hc23 hp => ?_
    · refine sr <| ta rfl <| nz <| TC.ret ?_
      obtain rfl := ex_ret hp hx8
      exact rt hr6 [] ⟨rfl, rfl⟩
    · exact sk k16 rfl <| TC.region <| tv (bad rfl rfl) rfl <| tm rfl <| nl <| gk hp [] ⟨_, ovr_eq _ _ rfl, rfl⟩
   by_cases hc21 : ¬ x6 = a5
   · exact gy rfl (bT hc21) <| tv (ixP 1 ax_31 i3 rfl rfl rfl) rfl <| gy rfl (bT hc21) <| tv (lb s3 0 rfl rfl rfl) rfl <| gy rfl (bT hc21) <| tm rfl <| gy rfl (bT hc21) <| tv (beq rfl rfl) rfl <| tv (pT (bT hc21)) rfl <| nj J20 (bAt hc21)
   · exact gn rfl (bF hc21) rfl rfl <| gn rfl (bF hc21) rfl rfl <| gn rfl (bF hc21) rfl rfl <| gn rfl (bF hc21) rfl rfl <| tv (pF (bF hc21)) rfl <| nj J20 (bAf hc21)
 · exact TC.exit <| jn [] (J10 (ex_ret hp hx8))

/-! ### slices.Delete[[][2]int,[2]int] -/


/-! ### fettle/lower.Moves -/
abbrev lower_Moves.R (r : List PPair × List Int × GErr) (v : Value) (A : List FP) : Prop := ∃ (w1 : Value) (G1 : FP) (w2 : Value) (G2 : FP) (w3 : Value) (G3 : FP), .tuple #[w1, w2, w3] = v ∧ A = [G1, G2, G3] ∧ SlO 31 kPair r.1 w1 G1 ∧ SlO 3 (kInt .i64) r.2.1 w2 G2 ∧ ErO 63 106 108 r.2.2 w3 G3
def lower_Moves.nx17  (x27 : List PPair) (x31 : List Int) : Option (List PPair × List Int × GErr) :=
  some (x27, x31, GErr.no)
def lower_Moves.nx52 (x14 : Int) (x60 : List PPair) (x65 : List Int) (x73 : List PPair) : Option (Ex (List PPair × List Int) (Int × List PPair × List PPair × List Int)) :=
  some (.go ((w64 (x14 + 1)), x73, x60, x65))
def lower_Moves.jn62 (x72 : Int) (x76 : List PPair) : Option (Ex (List PPair) (List PPair × Int)) :=
  some (.go (x76, (w64 (x72 + 1))))
def lower_Moves.bd52 (x14 : Int) (x15 : List PPair) (x53 : PPair) (x69 : List PPair) (x72 : Int) : Option (Ex (List PPair) (List PPair × Int)) :=
  if x72 < (len x15) then
    (idx x69 x72).bind fun x79 =>
    if x79.b = x53.b then
      (idx x69 x72).bind fun x85 =>
      lower_Moves.jn62 x72 (x69.set (x72).toNat (⟨x85.a, x14⟩ : PPair))
    else
      lower_Moves.jn62 x72 x69
  else
    some (.ret x69)
def lower_Moves.nx33 (x14 : Int) (x15 : List PPair) (x19 : List PPair) (x23 : List Int) (x37 : Int) : Option (Ex (List PPair × List Int) (Int × List PPair × List PPair × List Int)) :=
  if x37 ≥ 0 then
    (idx x15 x37).bind fun x38 =>
    (cat x19 [x38]).bind fun x45 =>
    (slices_Delete_2_int_2_int x15 x37 (w64 (x37 + 1))).bind fun x49 =>
    some (.go (x14, x49, x45, x23))
  else
    (idx x15 0).bind fun x53 =>
    (cat x19 [(⟨x14, x53.b⟩ : PPair)]).bind fun x60 =>
    (cat x23 [x53.b]).bind fun x65 =>
    (whl (fun (s : (List PPair × Int)) => lower_Moves.bd52 x14 x15 x53 s.1 s.2) FUEL (x15, 0)).bind fun z =>
    lower_Moves.nx52 x14 x60 x65 z
def lower_Moves.bd33 (x15 : List PPair) (x36 : Int) : Option (Ex Int Int) :=
  if x36 < (len x15) then
    (idx x15 x36).bind fun x96 =>
    (lower_from x15 x96.a x36).bind fun x103 =>
    if (!x103) = true then
      some (.ret x36)
    else
      some (.go (w64 (x36 + 1)))
  else
    some (.ret (-1))
def lower_Moves.bd17  (x14 : Int) (x15 : List PPair) (x19 : List PPair) (x23 : List Int) : Option (Ex (List PPair × List Int) (Int × List PPair × List PPair × List Int)) :=
  if (len x15) > 0 then
    (whl (fun (s : Int) => lower_Moves.bd33 x15 s) FUEL 0).bind fun z =>
    lower_Moves.nx33 x14 x15 x19 x23 z
  else
    some (.ret (x19, x23))
def lower_Moves.nx8 (a4 : Int) (x10 : List PPair) : Option (List PPair × List Int × GErr) :=
  (whl (fun (s : (Int × List PPair × List PPair × List Int)) => lower_Moves.bd17 s.1 s.2.1 s.2.2.1 s.2.2.2) FUEL (a4, x10, ([] : List PPair), ([] : List Int))).bind fun z =>
  lower_Moves.nx17 z.1 z.2
def lower_Moves.jn91 (x9 : Int) (x106 : List PPair) : Option (Ex (Ex (List PPair × List Int × GErr) (List PPair)) (List PPair × Int)) :=
  some (.go (x106, (w64 (x9 + 1))))
def lower_Moves.bd8 (a1 : List PPair) (a4 : Int) (x5 : List PPair) (x9 : Int) : Option (Ex (Ex (List PPair × List Int × GErr) (List PPair)) (List PPair × Int)) :=
  if x9 < (len a1) then
    (idx a1 x9).bind fun x110 =>
    (if ((x110.a < 0 ∨ x110.b < 0) ∨ x110.a ≥ a4) ∨ x110.b ≥ a4 then some true else (upto a1 x9).bind fun x126 =>
    (slices_ContainsFunc_2_int_2_int_lower_Moves_1 x126 x110).bind fun x129 =>
    some x129).bind fun t117 =>
    if t117 = true then
      some (.ret (.ret (([] : List PPair), ([] : List Int), (GErr.code 1))))
    else
      if ¬ x110.a = x110.b then
        (cat x5 [x110]).bind fun x122 =>
        lower_Moves.jn91 x9 x122
      else
        lower_Moves.jn91 x9 x5
  else
    some (.ret (.go x5))
def lower_Moves (a1 : List PPair) (a4 : Int) : Option (List PPair × List Int × GErr) :=
  (whl (fun (s : (List PPair × Int)) => lower_Moves.bd8 a1 a4 s.1 s.2) FUEL (([] : List PPair), 0)).bind fun z =>
  match z with
    | .ret r => some r
    | .go p => lower_Moves.nx8 a4 p
set_option maxHeartbeats 4000000 in
theorem lower_Moves_ok {E : World} {H : FP} {w : World} {a1 : List PPair} {a4 : Int} {v2 : Value} {r : List PPair × List Int × GErr} (h3 : SlI kPair H a1 v2) (hp : lower_Moves a1 a4 = some r) (hst : St E H [] w) :
    Fn Try.prog 8 #[v2, .int .i64 a4] w fun v w' => ∃ A, lower_Moves.R r v A ∧ St E H A w' := by
 refine fb 130 [.tmp 4, .tmp 5, .tmp 6] Try.func8 rfl rfl rfl rfl rfl hst <| sr <| ta rfl <| ta rfl <| ta rfl <| nz <| sr <| ta rfl <| nz <| TC.seq fun K1 k2 => sr <| tm rfl <| tv (ln u22 h3 rfl) rfl <| tm rfl <| nz <| TC.block <| bE hp fun z_4 hz5 hr6 => ?_
 have J83 {x10 v11 F12 e9} (h13 : SlO 31 kPair x10 v11 F12) (hq84 : .go x10 = z_4) : ∀ w, St E H [F12] w → K1 (ovr e9 [(1, .int .i64 a4), (7, v11)]) w := by
  subst hq84
  replace hp : lower_Moves.nx8 a4 x10 = some r := hr6
  refine tg k2 <| sr <| ta rfl <| nz <| sr <| ta rfl <| nz <| TC.seq fun K10 k11 => TC.block <| bE hp fun z_13 hz14 hr15 => ?_
  have J19 {x27 x31 v28 F29 v32 F33 e18} (h30 : SlO 31 kPair x27 v28 F29) (h34 : SlO 3 (kInt .i64) x31 v32 F33) (hq20 : (x27, x31) = z_13) : ∀ w, St E H [F29, F33] w → K10 (ovr e18 [(10, v28), (11, v32)]) w := by
   subst hq20
   replace hp : lower_Moves.nx17 x27 x31 = some r := hr15
   exact tg k11 <| sr <| tm rfl <| tm rfl <| ta rfl <| ta rfl <| ta rfl <| nz <| TC.ret <| W.new0 <| rt hp [1, 2, 0] ⟨v28, F29, v32, F33, .nilIface, ([] : FP), rfl, rfl, h30, h34, (ErO.nil : ErO 63 106 108 GErr.no .nilIface [])⟩
  refine W.new0 <| W.new0 <| lp hz14 [2, 1, 0] rfl (fun s e L => ∃ x14 x15 x19 x23 v16 F17 v20 F21 v24 F25 e12, s = (x14, x15, x19, x23) ∧ SlO 31 kPair x15 v16 F17 ∧ SlO 31 kPair x19 v20 F21 ∧ SlO 3 (kInt .i64) x23 v24 F25 ∧ e = ovr e12 [(1, .int .i64 x14), (7, v16), (10, v20), (11, v24)] ∧ L = [F17, F21, F25]) ⟨_, _, _, _, v11, F12, (.slice none 0 0), ([] : FP), (.slice none 0 0), ([] : FP), _, rfl, h13, (SlO.nil 31), (SlO.nil 3), ovr_eq _ _ rfl, rfl⟩ ?_
  rintro _ _ _ ⟨x14, x15, x19, x23, v16, F17, v20, F21, v24, F25, e12, rfl, h18, h22, h26, rfl, rfl⟩ X16 hp hx17
  replace hp : lower_Moves.bd17 x14 x15 x19 x23 = some X16 := hp
  refine TC.seq fun K21 k22 => sr <| tm rfl <| tv (ln u22 h18.ro rfl) rfl <| tv (bgt rfl rfl) rfl <| nz <| cD rfl hp (fun hc23 hp => ?_) fun hc23 hp => ?_
  · refine sk k22 rfl <| TC.named fun K24 k25 => TC.block <| sr <| ta rfl <| nz <| TC.seq fun K26 k27 => sr <| tm rfl <| tv (ln u22 h18.ro rfl) rfl <| tm rfl <| nz <| TC.block <| bE hp fun z_29 hz30 hr31 => ?_
    have J68 {x37 e34} (hq69 : x37 = z_29) : ∀ w, St E H [F17, F21, F25] w → K26 (ovr e34 [(1, .int .i64 x14), (7, v16), (10, v20), (11, v24), (12, .int .i64 x37)]) w := by
     subst hq69
     replace hp : lower_Moves.nx33 x14 x15 x19 x23 x37 = some X16 := hr31
     refine tg k27 <| TC.seq fun K35 k36 => sr <| tm rfl <| tv (bge rfl rfl) rfl <| nz <| cD rfl hp (fun hc37 hp => ?_) fun hc37 hp => ?_
     · refine sr <| tm rfl <| tm rfl <| tm rfl <| ti u22 i31 (h18).ro hp rfl rfl rfl rfl ?_
       rintro x38 b39 o40 _ hp rfl h43
       refine tv (lR (ds := [.int .i64 x38.a, .int .i64 x38.b]) ag_31 (Src.at_ 0 rfl) h43 0 rfl rfl rfl) rfl <| tbs [(0, .agg #[.int .i64 x38.a, .int .i64 x38.b])] [.int .i64 x38.a, .int .i64 x38.b] u22 i31 (by kernel_rfl) rfl rfl rfl rfl fun b44 => tp [2, 0, 1, 3] [_,_,_,_] rfl rfl <| tf 2 0 [_,_,_,_,_] rfl <| tp2 u22 i31 h22 hp (RepL.to (RepL.cons (k := kPair) (x := x38) ⟨rfl, rfl⟩ RepL.nil) rfl) rfl rfl rfl rfl rfl rfl rfl rfl rfl fun x45 v46 F47 h48 hp => ta rfl <| nz <| sr <| tm rfl <| tm rfl <| tm rfl <| tv (bad rfl rfl) rfl <| tp [1, 0, 2] [_,_,_] rfl rfl <| bE hp fun x49 hy40 hp => tc 1 [_,_] rfl c24 (fun _ => slices_Delete_2_int_2_int_ok (a1 := x15) (a4 := x37) (a7 := (w64 (x37 + 1))) h18 hy40) rfl ?_
       rintro _ _ ⟨v50, F51, rfl, rfl, h52⟩
       exact ta rfl <| nz <| TC.exit <| viaK k25 <| gk hp [0, 1, 2] ⟨_, _, _, _, v50, F51, v46, F47, v24, F25, _, rfl, h52, h48, h26, ovr_eq _ _ rfl, rfl⟩
     · refine sk k36 rfl <| sr <| tm rfl <| ti u22 i31 (h18).ro hp rfl rfl rfl rfl ?_
       rintro x53 b54 o55 _ hp rfl h58
       refine tv (ixP 1 ax_31 i3 rfl rfl rfl) rfl <| tv (lr s3 (Src.at_ 0 rfl) h58 1 rfl rfl) rfl <| ta rfl <| nz <| sr <| tm rfl <| tm rfl <| tm rfl <| tv (rv_bv (vs := [(0, .int .i64 x14), (1, .int .i64 x53.b)]) (ds := [.int .i64 x14, .int .i64 x53.b]) rfl (fun w => by kernel_rfl)) rfl <| tbs [(0, .agg #[.int .i64 x14, .int .i64 x53.b])] [.int .i64 x14, .int .i64 x53.b] u22 i31 (by kernel_rfl) rfl rfl rfl rfl fun b59 => tp [2, 0, 1, 3] [_,_,_,_] rfl rfl <| tf 2 0 [_,_,_,_,_] rfl <| tp2 u22 i31 h22 hp (RepL.to (RepL.cons (k := kPair) (x := (⟨x14, x53.b⟩ : PPair)) ⟨rfl, rfl⟩ RepL.nil) rfl) rfl rfl rfl rfl rfl rfl rfl rfl rfl fun x60 v61 F62 h63 hp => ta rfl <| nz <| sr <| tm rfl <| tm rfl <| tbs [(0, .int .i64 x53.b)] [.int .i64 x53.b] u25 i3 (by kernel_rfl) rfl rfl rfl rfl fun b64 => tp [3, 0, 1, 2] [_,_,_,_] rfl rfl <| tf 2 0 [_,_,_,_,_] rfl <| tp2 u25 i3 h26 hp (RepL.to (RepL.cons (k := (kInt .i64)) (x := x53.b) ⟨rfl, rfl⟩ RepL.nil) rfl) rfl rfl rfl rfl rfl rfl rfl rfl rfl fun x65 v66 F67 h68 hp => ta rfl <| nz <| TC.seq fun K45 k46 => sr <| tm rfl <| tv (ln u22 h18.ro rfl) rfl <| tm rfl <| nz <| TC.block <| bE hp fun z_48 hz49 hr50 => ?_
       have J54 {x73 F74 e53} (h75 : SlO 31 kPair x73 v16 F74) (hq55 : x73 = z_48) : ∀ w, St E H [F74, F62, F67] w → K45 (ovr e53 [(1, .int .i64 x14), (7, v16), (10, v61), (11, v66)]) w := by
        subst hq55
        replace hp : lower_Moves.nx52 x14 x60 x65 x73 = some X16 := hr50
        exact tg k46 <| TC.region <| tm rfl <| tv (bad rfl rfl) rfl <| ta rfl <| nl <| viaK k25 <| gk hp [0, 1, 2] ⟨_, _, _, _, v16, F74, v61, F62, v66, F67, _, rfl, h75, h63, h68, ovr_eq _ _ rfl, rfl⟩
       refine lp hz49 [2, 1, 0] rfl (fun s e L => ∃ x69 x72 F70 e47, s = (x69, x72) ∧ SlO 31 kPair x69 v16 F70 ∧ e = ovr e47 [(1, .int .i64 x14), (7, v16), (10, v61), (11, v66), (15, .int .i64 x53.b), (109, .int .i64 (len x15)), (110, .int .i64 x72)] ∧ L = [F70, F62, F67]) ⟨_, _, F17, _, rfl, h18, ovr_eq _ _ rfl, rfl⟩ ?_
       rintro _ _ _ ⟨x69, x72, F70, e47, rfl, h71, rfl, rfl⟩ X51 hp hx52
       replace hp : lower_Moves.bd52 x14 x15 x53 x69 x72 = some X51 := hp
       refine sr <| tv (blt rfl rfl) rfl <| nz <| TC.seq fun K56 k57 => cD rfl hp (fun hc58 hp => ?_) fun hc58 hp => ?_
       · refine sk k57 rfl <| TC.seq fun K59 k60 => ?_
         have J62 {x76 F77 e61} (h78 : SlO 31 kPair x76 v16 F77) (hp : lower_Moves.jn62 x72 x76 = some X51) : ∀ w, St E H [F77, F62, F67] w → K59 (ovr e61 [(1, .int .i64 x14), (7, v16), (10, v61), (11, v66), (15, .int .i64 x53.b), (109, .int .i64 (len x15)), (110, .int .i64 x72)]) w := by
          exact tg k60 <| TC.region <| tv (bad rfl rfl) rfl <| tm rfl <| nl <| gk hp [0, 1, 2] ⟨_, _, F77, _, rfl, h78, ovr_eq _ _ rfl, rfl⟩
         refine TC.block <| sr <| tm rfl <| ta rfl <| nz <| sr <| tm rfl <| tm rfl <| ti u22 i31 (h71).ro hp rfl rfl rfl rfl ?_
         rintro x79 b80 o81 _ hp rfl h84
         refine tv (ixP 1 ax_31 i3 rfl rfl rfl) rfl <| tv (lr s3 (Src.at_ 0 rfl) h84 1 rfl rfl) rfl <| tm rfl <| tv (beq rfl rfl) rfl <| nz <| cD rfl hp (fun hc64 hp => ?_) fun hc64 hp => ?_
         · refine TC.region <| tm rfl <| tm rfl <| tm rfl <| TL.norm (L' := [F70, F62, F67]) rfl <| bE hp fun x85 hx65 hp => TL.open_ h71 hx65 ?_
           rintro b86 _ F88 F89 h90 ⟨rfl, rfl⟩
           exact TL.perm (L' := [F88, F62, F67]) (by simp) <| tv (rv_ixH u22 i31 rfl rfl (idx_some hx65).1 h90) rfl <| tv (ixP 1 ax_31 i3 rfl rfl rfl) rfl <| tsH h90 m3 1 rfl w1 rfl fun F92 h93 => nl <| W.empty <| W.shut (a := (⟨x85.a, x14⟩ : PPair)) h93 ⟨rfl, rfl⟩ fun F94 h95 => jn [0, 1, 2] (J62 h95 hp)
         · exact TC.skip <| jn [0, 1, 2] (J62 h71 hp)
       · exact TC.exit <| jn [0, 1, 2] (J54 h71 (ex_ret hp hx52))
    refine lp hz30 [0, 1, 2] rfl (fun s e L => ∃ e28, e = ovr e28 [(1, .int .i64 x14), (7, v16), (10, v20), (11, v24), (12, .int .i64 (-1)), (65, v16), (66, .int .i64 (len x15)), (67, .int .i64 s)] ∧ L = [F17, F21, F25]) ⟨_, ovr_eq _ _ rfl, rfl⟩ ?_
    rintro x36 _ _ ⟨e28, rfl, rfl⟩ X32 hp hx33
    replace hp : lower_Moves.bd33 x15 x36 = some X32 := hp
    refine sr <| tv (blt rfl rfl) rfl <| nz <| TC.seq fun K70 k71 => cD rfl hp (fun hc72 hp => ?_) fun hc72 hp => ?_
    · refine sk k71 rfl <| TC.seq fun K73 k74 => TC.block <| sr <| tm rfl <| ti u22 i31 (h18).ro hp rfl rfl rfl rfl ?_
      rintro x96 b97 o98 _ hp rfl h101
      refine tv (lR (ds := [.int .i64 x96.a, .int .i64 x96.b]) ag_31 (Src.at_ 0 rfl) h101 0 rfl rfl rfl) rfl <| tl i31 rfl fun b102 => ta rfl <| tS 0 m31 rfl rfl [.int .i64 x96.a, .int .i64 x96.b] rfl (oc rfl (oc rfl oc0)) rfl rfl <| nz <| sr <| tm rfl <| tv (ixP 0 ax_31 i3 rfl rfl rfl) rfl <| tv (lb s3 0 rfl rfl rfl) rfl <| tm rfl <| bE hp fun x103 hy76 hp => tc 0 [_,_,_,_] rfl c23 (fun _ => lower_from_ok (a1 := x15) (a4 := x96.a) (a5 := x36) (h18.ro.mono (subB 1 rfl)) hy76) rfl ?_
      rintro _ _ ⟨rfl, rfl⟩
      refine tv (rv_not rfl) rfl <| nz <| cB rfl hp (fun hc78 hp => ?_) fun hc78 hp => ?_
      · exact sr <| tm rfl <| ta rfl <| nz <| TC.exit <| jn [1, 2, 3] (J68 (ex_ret hp hx33))
      · exact sk k74 rfl <| TC.region <| tv (bad rfl rfl) rfl <| tm rfl <| nl <| gk hp [1, 2, 3] ⟨_, ovr_eq _ _ rfl, rfl⟩
    · exact TC.exit <| jn [0, 1, 2] (J68 (ex_ret hp hx33))
  · exact TC.exit <| jn [1, 2] (J19 h22 h26 (ex_ret hp hx17))
 refine W.new0 <| lp hz5 [0] rfl (fun s e L => ∃ x5 x9 v6 F7 e3, s = (x5, x9) ∧ SlO 31 kPair x5 v6 F7 ∧ e = ovr e3 [(0, v2), (1, .int .i64 a4), (7, v6), (17, v2), (18, .int .i64 (len a1)), (19, .int .i64 x9)] ∧ L = [F7]) ⟨_, _, (.slice none 0 0), ([] : FP), _, rfl, (SlO.nil 31), ovr_eq _ _ rfl, rfl⟩ ?_
 rintro _ _ _ ⟨x5, x9, v6, F7, e3, rfl, h8, rfl, rfl⟩ X7 hp hx8
 replace hp : lower_Moves.bd8 a1 a4 x5 x9 = some X7 := hp
 refine sr <| tv (blt rfl rfl) rfl <| nz <| TC.seq fun K85 k86 => cD rfl hp (fun hc87 hp => ?_) fun hc87 hp => ?_
 · refine sk k86 rfl <| TC.seq fun K88 k89 => ?_
   have J91 {x106 v107 F108 e90} (h109 : SlO 31 kPair x106 v107 F108) (hp : lower_Moves.jn91 x9 x106 = some X7) : ∀ w, St E H [F108] w → K88 (ovr e90 [(0, v2), (1, .int .i64 a4), (7, v107), (17, v2), (18, .int .i64 (len a1)), (19, .int .i64 x9)]) w := by
    exact tg k89 <| TC.region <| tv (bad rfl rfl) rfl <| tm rfl <| nl <| gk hp [0] ⟨_, _, v107, F108, _, rfl, h109, ovr_eq _ _ rfl, rfl⟩
   refine TC.block <| sr <| tm rfl <| ti u22 i31 h3 hp rfl rfl rfl rfl ?_
   rintro x110 b111 o112 _ hp rfl h115
   refine tv (lR (ds := [.int .i64 x110.a, .int .i64 x110.b]) ag_31 sH h115 0 rfl rfl rfl) rfl <| tl i31 rfl fun b116 => ta rfl <| tS 0 m31 rfl rfl [.int .i64 x110.a, .int .i64 x110.b] rfl (oc rfl (oc rfl oc0)) rfl rfl <| nz <| TC.seq fun K93 k94 => sr <| tv (ixP 0 ax_31 i3 rfl rfl rfl) rfl <| tv (lb s3 0 rfl rfl rfl) rfl <| tv (blt rfl rfl) rfl <| tm rfl <| TL.cut 4 fun K95 k96 => ?_
   have J97 {e99} : ∀ w, St E H [bx b116 31 [.int .i64 x110.a, .int .i64 x110.b], F7] w → K95 (ovr e99 [(31, .bool (decide (x110.a < 0 ∨ x110.b < 0))), (0, v2), (1, .int .i64 a4), (7, v6), (8, .int .i64 x9), (9, .pointer (some ⟨b116, 0, none⟩)), (17, v2), (18, .int .i64 (len a1)), (19, .int .i64 x9)]) w := by
    refine tlg k96 <| tm rfl <| TL.cut 5 fun K100 k101 => ?_
    have J102 {e104} : ∀ w, St E H [bx b116 31 [.int .i64 x110.a, .int .i64 x110.b], F7] w → K100 (ovr e104 [(37, .bool (decide ((x110.a < 0 ∨ x110.b < 0) ∨ x110.a ≥ a4))), (0, v2), (1, .int .i64 a4), (7, v6), (8, .int .i64 x9), (9, .pointer (some ⟨b116, 0, none⟩)), (17, v2), (18, .int .i64 (len a1)), (19, .int .i64 x9)]) w := by
     refine tlg k101 <| tm rfl <| TL.cut 5 fun K105 k106 => ?_
     have J107 {e109} : ∀ w, St E H [bx b116 31 [.int .i64 x110.a, .int .i64 x110.b], F7] w → K105 (ovr e109 [(43, .bool (decide (((x110.a < 0 ∨ x110.b < 0) ∨ x110.a ≥ a4) ∨ x110.b ≥ a4))), (0, v2), (1, .int .i64 a4), (7, v6), (8, .int .i64 x9), (9, .pointer (some ⟨b116, 0, none⟩)), (17, v2), (18, .int .i64 (len a1)), (19, .int .i64 x9)]) w := by
      refine tlg k106 <| tm rfl <| bE hp fun t117 ht118 hp => TL.cut 6 fun K110 k111 => ?_
      have J112 {e114} : ∀ w, St E H [bx b116 31 [.int .i64 x110.a, .int .i64 x110.b], F7] w → K110 (ovr e114 [(50, .bool t117), (0, v2), (1, .int .i64 a4), (7, v6), (9, .pointer (some ⟨b116, 0, none⟩)), (17, v2), (18, .int .i64 (len a1)), (19, .int .i64 x9)]) w := by
       refine tlg k111 <| nz <| cB rfl hp (fun hc115 hp => ?_) fun hc115 hp => ?_
       · refine sr <| tv (mI u63 rfl) rfl <| ta rfl <| ta rfl <| ta rfl <| nz <| TC.ret <| W.new0 <| W.new0 <| W.new0 ?_
         obtain rfl := ex_ret hp hx8
         exact rt hr6 [2, 1, 0] ⟨(.slice none 0 0), ([] : FP), (.slice none 0 0), ([] : FP), (.iface 63 (.int .i64 1)), ([] : FP), rfl, rfl, (SlO.nil 31), (SlO.nil 3), (ErO.mk _ : ErO 63 106 108 (GErr.code 1) (.iface 63 (.int .i64 1)) [])⟩
       · refine sk k94 rfl <| sr <| tv (ixP 0 ax_31 i3 rfl rfl rfl) rfl <| tv (lb s3 0 rfl rfl rfl) rfl <| tv (ixP 1 ax_31 i3 rfl rfl rfl) rfl <| tv (lb s3 0 rfl rfl rfl) rfl <| tv (bne rfl rfl) rfl <| nz <| cD rfl hp (fun hc116 hp => ?_) fun hc116 hp => ?_
         · exact TC.region <| tm rfl <| tv (lA (ds := [.int .i64 x110.a, .int .i64 x110.b]) ag_31 0 rfl rfl rfl rfl) rfl <| tbs [(0, .agg #[.int .i64 x110.a, .int .i64 x110.b])] [.int .i64 x110.a, .int .i64 x110.b] u22 i31 (by kernel_rfl) rfl rfl rfl rfl fun b121 => tp [2, 0, 1] [_,_,_] rfl rfl <| tf 2 0 [_,_,_,_] rfl <| tp2 u22 i31 h8 hp (RepL.to (RepL.cons (k := kPair) (x := x110) ⟨rfl, rfl⟩ RepL.nil) rfl) rfl rfl rfl rfl rfl rfl rfl rfl rfl fun x122 v123 F124 h125 hp => ta rfl <| nl <| jn [0] (J91 h125 hp)
         · exact TC.skip <| jn [1] (J91 h8 hp)
      refine ifE ht118 (fun hc113 hp => ?_) fun hc113 hp => ?_
      · refine gn rfl (bT hc113) rfl rfl <| gn rfl (bT hc113) rfl rfl <| gn rfl (bT hc113) rfl rfl <| gn rfl (bT hc113) rfl rfl <| gn rfl (bT hc113) rfl rfl <| tv (pT (bT hc113)) rfl ?_
        obtain rfl := Option.some.inj hp
        exact nj J112 rfl
      · refine gy rfl (bF hc113) <| tm rfl <| gy rfl (bF hc113) <| tm rfl <| gy rfl (bF hc113) <| tT u22 i31 h3 hp rfl rfl rfl rfl fun x126 v127 h128 hp => gy rfl (bF hc113) <| tv mF rfl <| gy rfl (bF hc113) <| bE hp fun x129 hy120 hp => tc 0 [_,_] rfl c21 (fun _ => slices_ContainsFunc_2_int_2_int_lower_Moves_1_ok (a1 := x126) (a6 := x110) (h128.mono subH) ((bx_cells b116 31 _).mono (subB 0 rfl)) hy120) rfl ?_
        rintro _ _ ⟨rfl, rfl⟩
        refine tv (pF (bF hc113)) rfl ?_
        obtain rfl := Option.some.inj hp
        exact nj J112 rfl
     by_cases hc108 : (x110.a < 0 ∨ x110.b < 0) ∨ x110.a ≥ a4
     · exact gn rfl (bT hc108) rfl rfl <| gn rfl (bT hc108) rfl rfl <| gn rfl (bT hc108) rfl rfl <| gn rfl (bT hc108) rfl rfl <| tv (pT (bT hc108)) rfl <| nj J107 (bOt hc108)
     · exact gy rfl (bF hc108) <| tv (ixP 1 ax_31 i3 rfl rfl rfl) rfl <| gy rfl (bF hc108) <| tv (lb s3 0 rfl rfl rfl) rfl <| gy rfl (bF hc108) <| tm rfl <| gy rfl (bF hc108) <| tv (bge rfl rfl) rfl <| tv (pF (bF hc108)) rfl <| nj J107 (bOf hc108)
    by_cases hc103 : x110.a < 0 ∨ x110.b < 0
    · exact gn rfl (bT hc103) rfl rfl <| gn rfl (bT hc103) rfl rfl <| gn rfl (bT hc103) rfl rfl <| gn rfl (bT hc103) rfl rfl <| tv (pT (bT hc103)) rfl <| nj J102 (bOt hc103)
    · exact gy rfl (bF hc103) <| tv (ixP 0 ax_31 i3 rfl rfl rfl) rfl <| gy rfl (bF hc103) <| tv (lb s3 0 rfl rfl rfl) rfl <| gy rfl (bF hc103) <| tm rfl <| gy rfl (bF hc103) <| tv (bge rfl rfl) rfl <| tv (pF (bF hc103)) rfl <| nj J102 (bOf hc103)
   by_cases hc98 : x110.a < 0
   · exact gn rfl (bT hc98) rfl rfl <| gn rfl (bT hc98) rfl rfl <| gn rfl (bT hc98) rfl rfl <| tv (pT (bT hc98)) rfl <| nj J97 (bOt hc98)
   · exact gy rfl (bF hc98) <| tv (ixP 1 ax_31 i3 rfl rfl rfl) rfl <| gy rfl (bF hc98) <| tv (lb s3 0 rfl rfl rfl) rfl <| gy rfl (bF hc98) <| tv (blt rfl rfl) rfl <| tv (pF (bF hc98)) rfl <| nj J97 (bOf hc98)
 · exact TC.exit <| jn [0] (J83 h8 (ex_ret hp hx8))

/-! ### fettle/check.small -/
abbrev check_small.R (r : Bool) (v : Value) (A : List FP) : Prop := .bool r = v ∧ A = []
def check_small.nx8 (a1 : PFunc) (x9 : Int) : Option Bool :=
  some (decide ((((len a1.blocks) ≥ 1 ∧ (len a1.blocks) ≤ 64) ∧ (len a1.regs) ≤ 256) ∧ x9 ≤ 256))
def check_small.bd8 (a1 : PFunc) (x7 : Int) (x8 : Int) : Option (Ex Int (Int × Int)) :=
  if x8 < (len a1.blocks) then
    (idx a1.blocks x8).bind fun x10 =>
    some (.go ((w64 (x7 + (w64 ((w64 ((len x10.phis) + (len x10.ins))) + 1)))), (w64 (x8 + 1))))
  else
    some (.ret x7)
def check_small (a1 : PFunc) : Option Bool :=
  (whl (fun (s : (Int × Int)) => check_small.bd8 a1 s.1 s.2) FUEL (0, 0)).bind fun z =>
  check_small.nx8 a1 z
set_option maxHeartbeats 4000000 in
theorem check_small_ok {E : World} {H : FP} {w : World} {a1 : PFunc} {v2 : Value} {v4 : Value} {r : Bool} (h3 : SlI (kInt .i64) H a1.regs v2) (h5 : SlI kBlock H a1.blocks v4) (hp : check_small a1 = some r) (hst : St E H [] w) :
    Fn Try.prog 84 #[.agg #[.int .i64 a1.params, .int .i64 a1.result, v2, v4]] w fun v w' => ∃ A, check_small.R r v A ∧ St E H A w' := by
 refine fb 44 [.tmp 2] Try.func84 rfl rfl rfl rfl rfl hst <| sr <| tb [.int .i64 a1.params, .int .i64 a1.result, v2, v4] rfl rfl fun b6 => ta rfl <| nz <| sr <| ta rfl <| nz <| TC.seq fun K1 k2 => sr <| tv (fa f41_3 rfl) rfl <| tv (lb s39 0 rfl rfl rfl) rfl <| tv (ln u39 h5 rfl) rfl <| tm rfl <| nz <| TC.block <| bE hp fun z_4 hz5 hr6 => ?_
 have J25 {x9 e9} (hq26 : x9 = z_4) : ∀ w, St E H [bx b6 41 [.int .i64 a1.params, .int .i64 a1.result, v2, v4]] w → K1 (ovr e9 [(1, .pointer (some ⟨b6, 0, none⟩)), (3, .int .i64 x9)]) w := by
  subst hq26
  replace hp : check_small.nx8 a1 x9 = some r := hr6
  refine tg k2 <| sr <| tv (fa f41_3 rfl) rfl <| tv (lb s39 0 rfl rfl rfl) rfl <| tv (ln u39 h5 rfl) rfl <| tv (bge rfl rfl) rfl <| tm rfl <| TL.cut 5 fun K10 k11 => ?_
  have J12 {e14} : ∀ w, St E H [bx b6 41 [.int .i64 a1.params, .int .i64 a1.result, v2, v4]] w → K10 (ovr e14 [(33, .bool (decide ((len a1.blocks) ≥ 1 ∧ (len a1.blocks) ≤ 64))), (1, .pointer (some ⟨b6, 0, none⟩)), (3, .int .i64 x9)]) w := by
   refine tlg k11 <| tm rfl <| TL.cut 5 fun K15 k16 => ?_
   have J17 {e19} : ∀ w, St E H [bx b6 41 [.int .i64 a1.params, .int .i64 a1.result, v2, v4]] w → K15 (ovr e19 [(39, .bool (decide (((len a1.blocks) ≥ 1 ∧ (len a1.blocks) ≤ 64) ∧ (len a1.regs) ≤ 256))), (3, .int .i64 x9)]) w := by
    refine tlg k16 <| tm rfl <| TL.cut 3 fun K20 k21 => ?_
    have J22 {e24} : ∀ w, St E H [bx b6 41 [.int .i64 a1.params, .int .i64 a1.result, v2, v4]] w → K20 (ovr e24 [(43, .bool (decide ((((len a1.blocks) ≥ 1 ∧ (len a1.blocks) ≤ 64) ∧ (len a1.regs) ≤ 256) ∧ x9 ≤ 256)))]) w := by
     exact tlg k21 <| ta rfl <| nz <| TC.ret <| rt hp [] ⟨rfl, rfl⟩
    by_cases hc23 : ((len a1.blocks) ≥ 1 ∧ (len a1.blocks) ≤ 64) ∧ (len a1.regs) ≤ 256
    · exact gy rfl (bT hc23) <| tm rfl <| gy rfl (bT hc23) <| tv (ble rfl rfl) rfl <| tv (pT (bT hc23)) rfl <| nj J22 (bAt hc23)
    · exact gn rfl (bF hc23) rfl rfl <| gn rfl (bF hc23) rfl rfl <| tv (pF (bF hc23)) rfl <| nj J22 (bAf hc23)
   by_cases hc18 : (len a1.blocks) ≥ 1 ∧ (len a1.blocks) ≤ 64
   · exact gy rfl (bT hc18) <| tv (fa f41_2 rfl) rfl <| gy rfl (bT hc18) <| tv (lb s25 0 rfl rfl rfl) rfl <| gy rfl (bT hc18) <| tv (ln u25 h3 rfl) rfl <| gy rfl (bT hc18) <| tv (ble rfl rfl) rfl <| tv (pT (bT hc18)) rfl <| nj J17 (bAt hc18)
   · exact gn rfl (bF hc18) rfl rfl <| gn rfl (bF hc18) rfl rfl <| gn rfl (bF hc18) rfl rfl <| gn rfl (bF hc18) rfl rfl <| tv (pF (bF hc18)) rfl <| nj J17 (bAf hc18)
  by_cases hc13 : (len a1.blocks) ≥ 1
  · exact gy rfl (bT hc13) <| tv (fa f41_3 rfl) rfl <| gy rfl (bT hc13) <| tv (lb s39 0 rfl rfl rfl) rfl <| gy rfl (bT hc13) <| tv (ln u39 h5 rfl) rfl <| gy rfl (bT hc13) <| tv (ble rfl rfl) rfl <| tv (pT (bT hc13)) rfl <| nj J12 (bAt hc13)
  · exact gn rfl (bF hc13) rfl rfl <| gn rfl (bF hc13) rfl rfl <| gn rfl (bF hc13) rfl rfl <| gn rfl (bF hc13) rfl rfl <| tv (pF (bF hc13)) rfl <| nj J12 (bAf hc13)
 refine lp hz5 [0] rfl (fun s e L => ∃ x7 x8 e3, s = (x7, x8) ∧ e = ovr e3 [(1, .pointer (some ⟨b6, 0, none⟩)), (3, .int .i64 x7), (7, v4), (8, .int .i64 (len a1.blocks)), (9, .int .i64 x8)] ∧ L = [bx b6 41 [.int .i64 a1.params, .int .i64 a1.result, v2, v4]]) ⟨_, _, _, rfl, ovr_eq _ _ rfl, rfl⟩ ?_
 rintro _ _ _ ⟨x7, x8, e3, rfl, rfl, rfl⟩ X7 hp hx8
 replace hp : check_small.bd8 a1 x7 x8 = some X7 := hp
 refine sr <| tv (blt rfl rfl) rfl <| nz <| TC.seq fun K27 k28 => cD rfl hp (fun hc29 hp => ?_) fun hc29 hp => ?_
 · refine sk k28 rfl <| TC.seq fun K30 k31 => TC.block <| sr <| ti u39 i50 h5 hp rfl rfl rfl rfl ?_
   rintro x10 b11 o12 _ hp ⟨v16, v18, v20, rfl, h17, h19, h21⟩ h15
   exact tv (lR (ds := [v16, v18, .int .i64 x10.term.kind, .int .i64 x10.term.arg, v20]) ag_50 sH h15 0 rfl rfl rfl) rfl <| tl i50 rfl fun b22 => tS 0 m50 rfl rfl [v16, v18, .int .i64 x10.term.kind, .int .i64 x10.term.arg, v20] rfl (oc (h17).one (oc (h19).one (oc rfl (oc rfl (oc (h21).one oc0))))) rfl rfl <| nz <| TC.region <| tm rfl <| tv (fa f50_0 rfl) rfl <| tv (lb s47 0 rfl rfl rfl) rfl <| tv (ln u47 h17 rfl) rfl <| tv (fa f50_1 rfl) rfl <| tv (lb s48 0 rfl rfl rfl) rfl <| tv (ln u48 h19 rfl) rfl <| tv (bad rfl rfl) rfl <| tv (bad rfl rfl) rfl <| tv (bad rfl rfl) rfl <| ta rfl <| nl <| tg k31 <| TC.region <| tv (bad rfl rfl) rfl <| tm rfl <| nl <| gk hp [1] ⟨_, _, _, rfl, ovr_eq _ _ rfl, rfl⟩
 · exact TC.exit <| jn [0] (J25 (ex_ret hp hx8))

/-! ### fettle/check.value -/
abbrev check_value.R (r : Bool) (v : Value) (A : List FP) : Prop := .bool r = v ∧ A = []
def check_value (a1 : Int) : Option Bool :=
  some (decide (a1 = 1 ∨ a1 = 2))
theorem check_value_ok {E : World} {H : FP} {w : World} {a1 : Int} {r : Bool}  (hp : check_value a1 = some r) (hst : St E H [] w) :
    Fn Try.prog 94 #[.int .i64 a1] w fun v w' => ∃ A, check_value.R r v A ∧ St E H A w' := by
 refine fb 9 [.tmp 2] Try.func94 rfl rfl rfl rfl rfl hst <| sr <| ta rfl <| nz <| sr <| tm rfl <| tv (beq rfl rfl) rfl <| tm rfl <| TL.cut 3 fun K1 k2 => ?_
 have J3 {e5} : ∀ w, St E H [] w → K1 (ovr e5 [(8, .bool (decide (a1 = 1 ∨ a1 = 2)))]) w := by
  exact tlg k2 <| ta rfl <| nz <| TC.ret <| rt hp [] ⟨rfl, rfl⟩
 by_cases hc4 : a1 = 1
 · exact gn rfl (bT hc4) rfl rfl <| gn rfl (bT hc4) rfl rfl <| tv (pT (bT hc4)) rfl <| nj J3 (bOt hc4)
 · exact gy rfl (bF hc4) <| tm rfl <| gy rfl (bF hc4) <| tv (beq rfl rfl) rfl <| tv (pF (bF hc4)) rfl <| nj J3 (bOf hc4)

/-! ### fettle/check.typed$1 -/
abbrev check_typed_1.R (r : Bool) (v : Value) (A : List FP) : Prop := .bool r = v ∧ A = []
def check_typed_1 (a1 : Int) : Option Bool :=
  (check_value a1).bind fun x2 =>
  some (!x2)
theorem check_typed_1_ok {E : World} {H : FP} {w : World} {a1 : Int} {r : Bool}  (hp : check_typed_1 a1 = some r) (hst : St E H [] w) :
    Fn Try.prog 93 #[.int .i64 a1] w fun v w' => ∃ A, check_typed_1.R r v A ∧ St E H A w' := by
 refine fb 6 [.tmp 2] Try.func93 rfl rfl rfl rfl rfl hst <| sr <| ta rfl <| nz <| sr <| tm rfl <| bE hp fun x2 hy1 hp => tc 0 [] rfl c94 (fun _ => check_value_ok (a1 := a1) hy1) rfl ?_
 rintro _ _ ⟨rfl, rfl⟩
 exact tv (rv_not rfl) rfl <| ta rfl <| nz <| TC.ret <| rt hp [] ⟨rfl, rfl⟩

/-! ### slices.IndexFunc[[]int,int] -/
abbrev slices_IndexFunc_check_typed_1.R (r : Int) (v : Value) (A : List FP) : Prop := .int .i64 r = v ∧ A = []
def slices_IndexFunc_check_typed_1.nx8  : Option Int :=
  some (-1)
def slices_IndexFunc_check_typed_1.bd8 (a1 : List Int) (x5 : Int) : Option (Ex (Ex Int Unit) Int) :=
  if x5 < (len a1) then
    (idx a1 x5).bind fun x6 =>
    (check_typed_1 x6).bind fun x12 =>
    if x12 = true then
      some (.ret (.ret x5))
    else
      some (.go (w64 (x5 + 1)))
  else
    some (.ret (.go ()))
def slices_IndexFunc_check_typed_1 (a1 : List Int) : Option Int :=
  (whl (fun (s : Int) => slices_IndexFunc_check_typed_1.bd8 a1 s) FUEL 0).bind fun z =>
  match z with
    | .ret r => some r
    | .go p => slices_IndexFunc_check_typed_1.nx8
theorem slices_IndexFunc_check_typed_1_ok {E : World} {H : FP} {w : World} {a1 : List Int} {v2 : Value} {r : Int} (h3 : SlI (kInt .i64) H a1 v2) (hp : slices_IndexFunc_check_typed_1 a1 = some r) (hst : St E H [] w) :
    Fn Try.prog 100 #[v2, .func (.func 93) #[] #[]] w fun v w' => ∃ A, slices_IndexFunc_check_typed_1.R r v A ∧ St E H A w' := by
 refine fb 19 [.tmp 4] Try.func100 rfl rfl rfl rfl rfl hst <| sr <| ta rfl <| nz <| TC.seq fun K1 k2 => sr <| tm rfl <| tv (ln u25 h3 rfl) rfl <| tm rfl <| nz <| TC.block <| bE hp fun z_4 hz5 hr6 => ?_
 have J10 {e9} (hq11 : .go () = z_4) : ∀ w, St E H [] w → K1 (ovr e9 []) w := by
  subst hq11
  replace hp : slices_IndexFunc_check_typed_1.nx8 = some r := hr6
  exact tg k2 <| sr <| ta rfl <| nz <| TC.ret <| rt hp [] ⟨rfl, rfl⟩
 refine lp hz5 [] rfl (fun s e L => ∃ e3, e = ovr e3 [(0, v2), (1, .func (.func 93) #[] #[]), (7, .int .i64 (len a1)), (8, .int .i64 s)] ∧ L = []) ⟨_, ovr_eq _ _ rfl, rfl⟩ ?_
 rintro x5 _ _ ⟨e3, rfl, rfl⟩ X7 hp hx8
 replace hp : slices_IndexFunc_check_typed_1.bd8 a1 x5 = some X7 := hp
 refine sr <| tv (blt rfl rfl) rfl <| nz <| TC.seq fun K12 k13 => cD rfl hp (fun hc14 hp => ?_) fun hc14 hp => ?_
 · refine sk k13 rfl <| TC.seq fun K15 k16 => TC.block <| sr <| tm rfl <| ta rfl <| nz <| sr <| tm rfl <| tm rfl <| tm rfl <| ti u25 i3 h3 hp rfl rfl rfl rfl ?_
   rintro x6 b7 o8 _ hp rfl h11
   refine tv (lr s3 sH h11 0 rfl rfl) rfl <| bE hp fun x12 hy18 hp => tcv 0 [] rfl c93 rfl (fun _ => check_typed_1_ok (a1 := x6) hy18) rfl ?_
   rintro _ _ ⟨rfl, rfl⟩
   refine nz <| cB rfl hp (fun hc20 hp => ?_) fun hc20 hp => ?_
   · refine sr <| tm rfl <| ta rfl <| nz <| TC.ret ?_
     obtain rfl := ex_ret hp hx8
     exact rt hr6 [] ⟨rfl, rfl⟩
   · exact sk k16 rfl <| TC.region <| tv (bad rfl rfl) rfl <| tm rfl <| nl <| gk hp [] ⟨_, ovr_eq _ _ rfl, rfl⟩
 · exact TC.exit <| jn [] (J10 (ex_ret hp hx8))

/-! ### slices.ContainsFunc[[]int,int] -/
abbrev slices_ContainsFunc_check_typed_1.R (r : Bool) (v : Value) (A : List FP) : Prop := .bool r = v ∧ A = []
def slices_ContainsFunc_check_typed_1 (a1 : List Int) : Option Bool :=
  (slices_IndexFunc_check_typed_1 a1).bind fun x5 =>
  some (decide (x5 ≥ 0))
theorem slices_ContainsFunc_check_typed_1_ok {E : World} {H : FP} {w : World} {a1 : List Int} {v2 : Value} {r : Bool} (h3 : SlI (kInt .i64) H a1 v2) (hp : slices_ContainsFunc_check_typed_1 a1 = some r) (hst : St E H [] w) :
    Fn Try.prog 95 #[v2, .func (.func 93) #[] #[]] w fun v w' => ∃ A, slices_ContainsFunc_check_typed_1.R r v A ∧ St E H A w' := by
 refine fb 9 [.tmp 4] Try.func95 rfl rfl rfl rfl rfl hst <| sr <| ta rfl <| nz <| sr <| tm rfl <| tm rfl <| bE hp fun x5 hy1 hp => tc 0 [] rfl c100 (fun _ => slices_IndexFunc_check_typed_1_ok (a1 := a1) (h3.mono subH) hy1) rfl ?_
 rintro _ _ ⟨rfl, rfl⟩
 exact tv (bge rfl rfl) rfl <| ta rfl <| nz <| TC.ret <| rt hp [] ⟨rfl, rfl⟩

/-! ### fettle/check.typed -/
abbrev check_typed.R (r : Bool) (v : Value) (A : List FP) : Prop := .bool r = v ∧ A = []
def check_typed (a1 : PFunc) : Option Bool :=
  (slices_ContainsFunc_check_typed_1 a1.regs).bind fun x7 =>
  (if (((!x7) = true ∧ a1.params ≥ 0) ∧ a1.params ≤ 8) ∧ a1.params ≤ (len a1.regs) then (if a1.result = 0 then some true else (check_value a1.result).bind fun x10 =>
  some x10).bind fun t9 =>
  some t9 else some false).bind fun t8 =>
  some t8
set_option maxHeartbeats 4000000 in
theorem check_typed_ok {E : World} {H : FP} {w : World} {a1 : PFunc} {v2 : Value} {v4 : Value} {r : Bool} (h3 : SlI (kInt .i64) H a1.regs v2) (h5 : SlI kBlock H a1.blocks v4) (hp : check_typed a1 = some r) (hst : St E H [] w) :
    Fn Try.prog 85 #[.agg #[.int .i64 a1.params, .int .i64 a1.result, v2, v4]] w fun v w' => ∃ A, check_typed.R r v A ∧ St E H A w' := by
 refine fb 37 [.tmp 2] Try.func85 rfl rfl rfl rfl rfl hst <| sr <| tb [.int .i64 a1.params, .int .i64 a1.result, v2, v4] rfl rfl fun b6 => ta rfl <| nz <| sr <| ta rfl <| nz <| sr <| tv (fa f41_2 rfl) rfl <| tv (lb s25 0 rfl rfl rfl) rfl <| tm rfl <| bE hp fun x7 hy1 hp => tc 0 [_] rfl c95 (fun _ => slices_ContainsFunc_check_typed_1_ok (a1 := a1.regs) (h3.mono subH) hy1) rfl ?_
 rintro _ _ ⟨rfl, rfl⟩
 refine tv (rv_not rfl) rfl <| tm rfl <| TL.cut 4 fun K3 k4 => ?_
 have J5 {e7} : ∀ w, St E H [bx b6 41 [.int .i64 a1.params, .int .i64 a1.result, v2, v4]] w → K3 (ovr e7 [(13, .bool (decide ((!x7) = true ∧ a1.params ≥ 0))), (1, .pointer (some ⟨b6, 0, none⟩))]) w := by
  refine tlg k4 <| tm rfl <| TL.cut 4 fun K8 k9 => ?_
  have J10 {e12} : ∀ w, St E H [bx b6 41 [.int .i64 a1.params, .int .i64 a1.result, v2, v4]] w → K8 (ovr e12 [(18, .bool (decide (((!x7) = true ∧ a1.params ≥ 0) ∧ a1.params ≤ 8))), (1, .pointer (some ⟨b6, 0, none⟩))]) w := by
   refine tlg k9 <| tm rfl <| TL.cut 7 fun K13 k14 => ?_
   have J15 {e17} : ∀ w, St E H [bx b6 41 [.int .i64 a1.params, .int .i64 a1.result, v2, v4]] w → K13 (ovr e17 [(26, .bool (decide ((((!x7) = true ∧ a1.params ≥ 0) ∧ a1.params ≤ 8) ∧ a1.params ≤ (len a1.regs)))), (1, .pointer (some ⟨b6, 0, none⟩))]) w := by
    refine tlg k14 <| tm rfl <| bE hp fun t8 ht23 hp => TL.cut 9 fun K18 k19 => ?_
    have J20 {e22} : ∀ w, St E H [bx b6 41 [.int .i64 a1.params, .int .i64 a1.result, v2, v4]] w → K18 (ovr e22 [(36, .bool t8)]) w := by
     exact tlg k19 <| ta rfl <| nz <| TC.ret <| rt hp [] ⟨rfl, rfl⟩
    refine ifE ht23 (fun hc21 hp => ?_) fun hc21 hp => ?_
    · refine gy rfl (bT hc21) <| tv (fa f41_1 rfl) rfl <| gy rfl (bT hc21) <| tv (lb s3 0 rfl rfl rfl) rfl <| gy rfl (bT hc21) <| tv (beq rfl rfl) rfl <| gy rfl (bT hc21) <| tm rfl <| bE hp fun t9 ht29 hp => TL.cut 4 fun K24 k25 => ?_
      have J26 {e28} : ∀ w, St E H [bx b6 41 [.int .i64 a1.params, .int .i64 a1.result, v2, v4]] w → K24 (ovr e28 [(35, .bool t9), (27, .bool (decide ((((!x7) = true ∧ a1.params ≥ 0) ∧ a1.params ≤ 8) ∧ a1.params ≤ (len a1.regs))))]) w := by
       refine tlg k25 <| tv (pT (bT hc21)) rfl ?_
       obtain rfl := Option.some.inj hp
       exact nj J20 rfl
      refine ifE ht29 (fun hc27 hp => ?_) fun hc27 hp => ?_
      · refine gn rfl (bT hc27) rfl rfl <| gn rfl (bT hc27) rfl rfl <| gn rfl (bT hc27) rfl rfl <| gy rfl (bT hc21) <| tv (pT (bT hc27)) rfl ?_
        obtain rfl := Option.some.inj hp
        exact nj J26 rfl
      · refine gy rfl (bF hc27) <| tv (fa f41_1 rfl) rfl <| gy rfl (bF hc27) <| tv (lb s3 0 rfl rfl rfl) rfl <| gy rfl (bF hc27) <| bE hp fun x10 hy30 hp => tc 0 [_] rfl c94 (fun _ => check_value_ok (a1 := a1.result) hy30) rfl ?_
        rintro _ _ ⟨rfl, rfl⟩
        refine gy rfl (bT hc21) <| tv (pF (bF hc27)) rfl ?_
        obtain rfl := Option.some.inj hp
        exact nj J26 rfl
    · refine gn rfl (bF hc21) rfl rfl <| gn rfl (bF hc21) rfl rfl <| gn rfl (bF hc21) rfl rfl <| gn rfl (bF hc21) rfl rfl <| gu rfl rfl rfl <| gu rfl rfl rfl <| gu rfl rfl rfl <| gn rfl (bF hc21) rfl rfl <| tv (pF (bF hc21)) rfl ?_
      obtain rfl := Option.some.inj hp
      exact nj J20 rfl
   by_cases hc16 : ((!x7) = true ∧ a1.params ≥ 0) ∧ a1.params ≤ 8
   · exact gy rfl (bT hc16) <| tv (fa f41_0 rfl) rfl <| gy rfl (bT hc16) <| tv (lb s3 0 rfl rfl rfl) rfl <| gy rfl (bT hc16) <| tv (fa f41_2 rfl) rfl <| gy rfl (bT hc16) <| tv (lb s25 0 rfl rfl rfl) rfl <| gy rfl (bT hc16) <| tv (ln u25 h3 rfl) rfl <| gy rfl (bT hc16) <| tv (ble rfl rfl) rfl <| tv (pT (bT hc16)) rfl <| nj J15 (bAt hc16)
   · exact gn rfl (bF hc16) rfl rfl <| gn rfl (bF hc16) rfl rfl <| gn rfl (bF hc16) rfl rfl <| gn rfl (bF hc16) rfl rfl <| gn rfl (bF hc16) rfl rfl <| gn rfl (bF hc16) rfl rfl <| tv (pF (bF hc16)) rfl <| nj J15 (bAf hc16)
  by_cases hc11 : (!x7) = true ∧ a1.params ≥ 0
  · exact gy rfl (bT hc11) <| tv (fa f41_0 rfl) rfl <| gy rfl (bT hc11) <| tv (lb s3 0 rfl rfl rfl) rfl <| gy rfl (bT hc11) <| tv (ble rfl rfl) rfl <| tv (pT (bT hc11)) rfl <| nj J10 (bAt hc11)
  · exact gn rfl (bF hc11) rfl rfl <| gn rfl (bF hc11) rfl rfl <| gn rfl (bF hc11) rfl rfl <| tv (pF (bF hc11)) rfl <| nj J10 (bAf hc11)
 by_cases hc6 : (!x7) = true
 · exact gy rfl (bbT hc6) <| tv (fa f41_0 rfl) rfl <| gy rfl (bbT hc6) <| tv (lb s3 0 rfl rfl rfl) rfl <| gy rfl (bbT hc6) <| tv (bge rfl rfl) rfl <| tv (pT (bbT hc6)) rfl <| nj J5 (bAt hc6)
 · exact gn rfl (bbF hc6) rfl rfl <| gn rfl (bbF hc6) rfl rfl <| gn rfl (bbF hc6) rfl rfl <| tv (pF (bbF hc6)) rfl <| nj J5 (bAf hc6)

/-! ### fettle/check.ends -/
abbrev check_ends.R (r : Bool) (v : Value) (A : List FP) : Prop := .bool r = v ∧ A = []
def check_ends.nx8 (a6 : PTerm) : Option Bool :=
  if a6.kind = 1 then
    some (decide ((len a6.to) = 1))
  else
    if a6.kind = 2 then
      (if (len a6.to) = 2 then (idx a6.to 0).bind fun x13 =>
      (idx a6.to 1).bind fun x19 =>
      some (decide (¬ x13 = x19)) else some false).bind fun t12 =>
      some t12
    else
      some (decide (a6.kind = 3 ∧ (len a6.to) = 0))
def check_ends.bd8 (a1 : PFunc) (a6 : PTerm) (x11 : Int) : Option (Ex (Ex Bool Unit) Int) :=
  if x11 < (len a6.to) then
    (idx a6.to x11).bind fun x25 =>
    if x25 < 1 ∨ x25 ≥ (len a1.blocks) then
      some (.ret (.ret false))
    else
      some (.go (w64 (x11 + 1)))
  else
    some (.ret (.go ()))
def check_ends (a1 : PFunc) (a6 : PTerm) : Option Bool :=
  (whl (fun (s : Int) => check_ends.bd8 a1 a6 s) FUEL 0).bind fun z =>
  match z with
    | .ret r => some r
    | .go p => check_ends.nx8 a6
set_option maxHeartbeats 4000000 in
theorem check_ends_ok {E : World} {H : FP} {w : World} {a1 : PFunc} {a6 : PTerm} {v2 : Value} {v4 : Value} {v7 : Value} {r : Bool} (h3 : SlI (kInt .i64) H a1.regs v2) (h5 : SlI kBlock H a1.blocks v4) (h8 : SlI (kInt .i64) H a6.to v7) (hp : check_ends a1 a6 = some r) (hst : St E H [] w) :
    Fn Try.prog 86 #[.agg #[.int .i64 a1.params, .int .i64 a1.result, v2, v4], .agg #[.int .i64 a6.kind, .int .i64 a6.arg, v7]] w fun v w' => ∃ A, check_ends.R r v A ∧ St E H A w' := by
 refine fb 58 [.tmp 4] Try.func86 rfl rfl rfl rfl rfl hst <| sr <| tb [.int .i64 a1.params, .int .i64 a1.result, v2, v4] rfl rfl fun b9 => tb [.int .i64 a6.kind, .int .i64 a6.arg, v7] rfl rfl fun b10 => ta rfl <| nz <| TC.seq fun K1 k2 => sr <| tv (fa f46_2 rfl) rfl <| tv (lb s25 0 rfl rfl rfl) rfl <| tv (ln u25 h8 rfl) rfl <| tm rfl <| nz <| TC.block <| bE hp fun z_4 hz5 hr6 => ?_
 have J29 {e9} (hq30 : .go () = z_4) : ∀ w, St E H [bx b10 46 [.int .i64 a6.kind, .int .i64 a6.arg, v7]] w → K1 (ovr e9 [(3, .pointer (some ⟨b10, 0, none⟩))]) w := by
  subst hq30
  replace hp : check_ends.nx8 a6 = some r := hr6
  refine tg k2 <| TC.seq fun K10 k11 => sr <| tv (fa f46_0 rfl) rfl <| tv (lb s3 0 rfl rfl rfl) rfl <| nz <| TC.block <| sr <| tv (beq rfl rfl) rfl <| ta rfl <| nz <| cD rfl hp (fun hc12 hp => ?_) fun hc12 hp => ?_
  · exact sr <| tv (fa f46_2 rfl) rfl <| tv (lb s25 0 rfl rfl rfl) rfl <| tv (ln u25 h8 rfl) rfl <| tv (beq rfl rfl) rfl <| ta rfl <| nz <| TC.ret <| rt hp [] ⟨rfl, rfl⟩
  · refine sr <| tv (beq rfl rfl) rfl <| ta rfl <| nz <| cD rfl hp (fun hc13 hp => ?_) fun hc13 hp => ?_
    · refine TC.seq fun K14 k15 => cq mix (by kernel_rfl) <| qv (fa f46_2 rfl) rfl <| qv (lb s25 0 rfl rfl rfl) rfl <| qv (ln u25 h8 rfl) rfl <| qv (beq rfl rfl) rfl <| qv mv rfl <| bE hp fun t12 ht21 hp => QL.cut 10 fun K16 k17 => ?_
      have J18 {e20} : K16 (ovr e20 [(48, .bool t12)]) := by
       exact k17 _ <| qv sg rfl <| QL.nil <| tg k15 <| TC.ret <| rt hp [] ⟨rfl, rfl⟩
      refine ifE ht21 (fun hc19 hp => ?_) fun hc19 hp => ?_
      · refine qgy rfl (bT hc19) <| qv (fa f46_2 rfl) rfl <| qgy rfl (bT hc19) <| qv (lb s25 0 rfl rfl rfl) rfl <| qgy rfl (bT hc19) <| qi u25 i3 h8 hp rfl rfl rfl rfl ?_
        rintro x13 b14 o15 _ hp rfl h18
        refine qgy rfl (bT hc19) <| qv (lr s3 sH h18 0 rfl rfl) rfl <| qgy rfl (bT hc19) <| qv (fa f46_2 rfl) rfl <| qgy rfl (bT hc19) <| qv (lb s25 0 rfl rfl rfl) rfl <| qgy rfl (bT hc19) <| qi u25 i3 h8 hp rfl rfl rfl rfl ?_
        rintro x19 b20 o21 _ hp rfl h24
        refine qgy rfl (bT hc19) <| qv (lr s3 sH h24 0 rfl rfl) rfl <| qgy rfl (bT hc19) <| qv (bne rfl rfl) rfl <| qv (pT (bT hc19)) rfl ?_
        obtain rfl := Option.some.inj hp
        exact qj J18 rfl
      · refine qgn rfl (bF hc19) rfl rfl <| qgn rfl (bF hc19) rfl rfl <| qgn rfl (bF hc19) rfl rfl <| qgn rfl (bF hc19) rfl rfl <| qgn rfl (bF hc19) rfl rfl <| qgn rfl (bF hc19) rfl rfl <| qgn rfl (bF hc19) rfl rfl <| qgn rfl (bF hc19) rfl rfl <| qgn rfl (bF hc19) rfl rfl <| qv (pF (bF hc19)) rfl ?_
        obtain rfl := Option.some.inj hp
        exact qj J18 rfl
    · refine sk k11 rfl <| sr <| tv (fa f46_0 rfl) rfl <| tv (lb s3 0 rfl rfl rfl) rfl <| tv (beq rfl rfl) rfl <| tm rfl <| TL.cut 5 fun K24 k25 => ?_
      have J26 {e28} : ∀ w, St E H [bx b10 46 [.int .i64 a6.kind, .int .i64 a6.arg, v7]] w → K24 (ovr e28 [(57, .bool (decide (a6.kind = 3 ∧ (len a6.to) = 0)))]) w := by
       exact tlg k25 <| ta rfl <| nz <| TC.ret <| rt hp [] ⟨rfl, rfl⟩
      by_cases hc27 : a6.kind = 3
      · exact gy rfl (bT hc27) <| tv (fa f46_2 rfl) rfl <| gy rfl (bT hc27) <| tv (lb s25 0 rfl rfl rfl) rfl <| gy rfl (bT hc27) <| tv (ln u25 h8 rfl) rfl <| gy rfl (bT hc27) <| tv (beq rfl rfl) rfl <| tv (pT (bT hc27)) rfl <| nj J26 (bAt hc27)
      · exact gn rfl (bF hc27) rfl rfl <| gn rfl (bF hc27) rfl rfl <| gn rfl (bF hc27) rfl rfl <| gn rfl (bF hc27) rfl rfl <| tv (pF (bF hc27)) rfl <| nj J26 (bAf hc27)
 refine lp hz5 [1, 0] rfl (fun s e L => ∃ e3, e = ovr e3 [(2, .pointer (some ⟨b9, 0, none⟩)), (3, .pointer (some ⟨b10, 0, none⟩)), (8, v7), (9, .int .i64 (len a6.to)), (10, .int .i64 s)] ∧ L = [bx b9 41 [.int .i64 a1.params, .int .i64 a1.result, v2, v4], bx b10 46 [.int .i64 a6.kind, .int .i64 a6.arg, v7]]) ⟨_, ovr_eq _ _ rfl, rfl⟩ ?_
 rintro x11 _ _ ⟨e3, rfl, rfl⟩ X7 hp hx8
 replace hp : check_ends.bd8 a1 a6 x11 = some X7 := hp
 refine sr <| tv (blt rfl rfl) rfl <| nz <| TC.seq fun K31 k32 => cD rfl hp (fun hc33 hp => ?_) fun hc33 hp => ?_
 · refine sk k32 rfl <| TC.seq fun K34 k35 => TC.block <| sr <| ti u25 i3 h8 hp rfl rfl rfl rfl ?_
   rintro x25 b26 o27 _ hp rfl h30
   refine tv (lr s3 sH h30 0 rfl rfl) rfl <| ta rfl <| nz <| sr <| tm rfl <| tv (blt rfl rfl) rfl <| tm rfl <| TL.cut 6 fun K37 k38 => ?_
   have J39 {e41} : ∀ w, St E H [bx b9 41 [.int .i64 a1.params, .int .i64 a1.result, v2, v4], bx b10 46 [.int .i64 a6.kind, .int .i64 a6.arg, v7]] w → K37 (ovr e41 [(22, .bool (decide (x25 < 1 ∨ x25 ≥ (len a1.blocks)))), (2, .pointer (some ⟨b9, 0, none⟩)), (3, .pointer (some ⟨b10, 0, none⟩)), (8, v7), (9, .int .i64 (len a6.to)), (10, .int .i64 x11)]) w := by
    refine tlg k38 <| nz <| cD rfl hp (fun hc42 hp => ?_) fun hc42 hp => ?_
    · refine sr <| ta rfl <| nz <| TC.ret ?_
      obtain rfl := ex_ret hp hx8
      exact rt hr6 [] ⟨rfl, rfl⟩
    · exact sk k35 rfl <| TC.region <| tv (bad rfl rfl) rfl <| tm rfl <| nl <| gk hp [0, 1] ⟨_, ovr_eq _ _ rfl, rfl⟩
   by_cases hc40 : x25 < 1
   · exact gn rfl (bT hc40) rfl rfl <| gn rfl (bT hc40) rfl rfl <| gn rfl (bT hc40) rfl rfl <| gn rfl (bT hc40) rfl rfl <| gn rfl (bT hc40) rfl rfl <| tv (pT (bT hc40)) rfl <| nj J39 (bOt hc40)
   · exact gy rfl (bF hc40) <| tm rfl <| gy rfl (bF hc40) <| tv (fa f41_3 rfl) rfl <| gy rfl (bF hc40) <| tv (lb s39 0 rfl rfl rfl) rfl <| gy rfl (bF hc40) <| tv (ln u39 h5 rfl) rfl <| gy rfl (bF hc40) <| tv (bge rfl rfl) rfl <| tv (pF (bF hc40)) rfl <| nj J39 (bOf hc40)
 · exact TC.exit <| jn [1] (J29 (ex_ret hp hx8))

/-! ### slices.Index[[]int,int] -/
abbrev slices_Index.R (r : Int) (v : Value) (A : List FP) : Prop := .int .i64 r = v ∧ A = []
def slices_Index.nx8  : Option Int :=
  some (-1)
def slices_Index.bd8 (a1 : List Int) (a4 : Int) (x5 : Int) : Option (Ex (Ex Int Unit) Int) :=
  if x5 < (len a1) then
    (idx a1 x5).bind fun x6 =>
    if a4 = x6 then
      some (.ret (.ret x5))
    else
      some (.go (w64 (x5 + 1)))
  else
    some (.ret (.go ()))
def slices_Index (a1 : List Int) (a4 : Int) : Option Int :=
  (whl (fun (s : Int) => slices_Index.bd8 a1 a4 s) FUEL 0).bind fun z =>
  match z with
    | .ret r => some r
    | .go p => slices_Index.nx8
theorem slices_Index_ok {E : World} {H : FP} {w : World} {a1 : List Int} {a4 : Int} {v2 : Value} {r : Int} (h3 : SlI (kInt .i64) H a1 v2) (hp : slices_Index a1 a4 = some r) (hst : St E H [] w) :
    Fn Try.prog 54 #[v2, .int .i64 a4] w fun v w' => ∃ A, slices_Index.R r v A ∧ St E H A w' := by
 refine fb 19 [.tmp 4] Try.func54 rfl rfl rfl rfl rfl hst <| sr <| ta rfl <| nz <| TC.seq fun K1 k2 => sr <| tm rfl <| tv (ln u25 h3 rfl) rfl <| tm rfl <| nz <| TC.block <| bE hp fun z_4 hz5 hr6 => ?_
 have J10 {e9} (hq11 : .go () = z_4) : ∀ w, St E H [] w → K1 (ovr e9 []) w := by
  subst hq11
  replace hp : slices_Index.nx8 = some r := hr6
  exact tg k2 <| sr <| ta rfl <| nz <| TC.ret <| rt hp [] ⟨rfl, rfl⟩
 refine lp hz5 [] rfl (fun s e L => ∃ e3, e = ovr e3 [(0, v2), (1, .int .i64 a4), (7, .int .i64 (len a1)), (8, .int .i64 s)] ∧ L = []) ⟨_, ovr_eq _ _ rfl, rfl⟩ ?_
 rintro x5 _ _ ⟨e3, rfl, rfl⟩ X7 hp hx8
 replace hp : slices_Index.bd8 a1 a4 x5 = some X7 := hp
 refine sr <| tv (blt rfl rfl) rfl <| nz <| TC.seq fun K12 k13 => cD rfl hp (fun hc14 hp => ?_) fun hc14 hp => ?_
 · refine sk k13 rfl <| TC.seq fun K15 k16 => TC.block <| sr <| tm rfl <| ta rfl <| nz <| sr <| tm rfl <| tm rfl <| tm rfl <| ti u25 i3 h3 hp rfl rfl rfl rfl ?_
   rintro x6 b7 o8 _ hp rfl h11
   refine tv (lr s3 sH h11 0 rfl rfl) rfl <| tv (beq rfl rfl) rfl <| nz <| cD rfl hp (fun hc18 hp => ?_) fun hc18 hp => ?_
   · refine sr <| tm rfl <| ta rfl <| nz <| TC.ret ?_
     obtain rfl := ex_ret hp hx8
     exact rt hr6 [] ⟨rfl, rfl⟩
   · exact sk k16 rfl <| TC.region <| tv (bad rfl rfl) rfl <| tm rfl <| nl <| gk hp [] ⟨_, ovr_eq _ _ rfl, rfl⟩
 · exact TC.exit <| jn [] (J10 (ex_ret hp hx8))

/-! ### slices.Contains[[]int,int] -/
abbrev slices_Contains.R (r : Bool) (v : Value) (A : List FP) : Prop := .bool r = v ∧ A = []
def slices_Contains (a1 : List Int) (a4 : Int) : Option Bool :=
  (slices_Index a1 a4).bind fun x5 =>
  some (decide (x5 ≥ 0))
theorem slices_Contains_ok {E : World} {H : FP} {w : World} {a1 : List Int} {a4 : Int} {v2 : Value} {r : Bool} (h3 : SlI (kInt .i64) H a1 v2) (hp : slices_Contains a1 a4 = some r) (hst : St E H [] w) :
    Fn Try.prog 52 #[v2, .int .i64 a4] w fun v w' => ∃ A, slices_Contains.R r v A ∧ St E H A w' := by
 refine fb 9 [.tmp 4] Try.func52 rfl rfl rfl rfl rfl hst <| sr <| ta rfl <| nz <| sr <| tm rfl <| tm rfl <| bE hp fun x5 hy1 hp => tc 0 [] rfl c54 (fun _ => slices_Index_ok (a1 := a1) (a4 := a4) (h3.mono subH) hy1) rfl ?_
 rintro _ _ ⟨rfl, rfl⟩
 exact tv (bge rfl rfl) rfl <| ta rfl <| nz <| TC.ret <| rt hp [] ⟨rfl, rfl⟩
end Go.Proofs.Ytpmcbahahjelnaa
