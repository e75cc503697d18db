/- The walk through the program's functions: each one's pure reading, and that a call does what it says. No conditions. -/
import Derived.Test.YteaknconpkklhaaC5
set_option linter.unusedVariables false
set_option linter.unusedSimpArgs false
namespace Go.Proofs.Yteaknconpkklhaa
open Go Go.Proofs

/-! ### fettle/fettleref09.Waves -/
abbrev fettleref09_Waves.R (r : List Int) (v : Value) (A : List FP) : Prop := ∃ (w1 : Value) (G1 : FP), w1 = v ∧ A = [G1] ∧ SlO 3 (kInt .i64) r w1 G1
def fettleref09_Waves.nx9  (x12 : List Int) : Option (List Int) :=
  some x12
def fettleref09_Waves.nx23 (x11 : Int) (x19 : List Int) : Option (Ex (List Int) (List Int × Int)) :=
  some (.go (x19, (w64 (x11 + 1))))
def fettleref09_Waves.nx37 (x18 : Int) (x26 : List Int) : Option (Ex (List Int) (List Int × Int)) :=
  some (.go (x26, (w64 (x18 + 1))))
def fettleref09_Waves.jn47 (x25 : Int) (x29 : List Int) : Option (Ex (List Int) (List Int × Int)) :=
  some (.go (x29, (w64 (x25 + 1))))
def fettleref09_Waves.bd37 (a1 : List (List Bool)) (x18 : Int) (x22 : List Int) (x25 : Int) : Option (Ex (List Int) (List Int × Int)) :=
  if x25 < (len a1) then
    (idx a1 x18).bind fun x32 =>
    (idx x32 x25).bind fun x40 =>
    (if x40 = true then (idx a1 x25).bind fun x72 =>
    (idx x72 x18).bind fun x80 =>
    some (!x80) else some false).bind fun t46 =>
    (if t46 = true then (idx x22 x18).bind fun x60 =>
    (idx x22 x25).bind fun x66 =>
    some (decide (x60 ≤ x66)) else some false).bind fun t47 =>
    if t47 = true then
      (idx x22 x25).bind fun x48 =>
      (idx x22 x18).bind fun x54 =>
      fettleref09_Waves.jn47 x25 (x22.set (x18).toNat (w64 (x48 + 1)))
    else
      fettleref09_Waves.jn47 x25 x22
  else
    some (.ret x22)
def fettleref09_Waves.bd23 (a1 : List (List Bool)) (x15 : List Int) (x18 : Int) : Option (Ex (List Int) (List Int × Int)) :=
  if x18 < (len a1) then
    (whl (fun (s : (List Int × Int)) => fettleref09_Waves.bd37 a1 x18 s.1 s.2) FUEL (x15, 0)).bind fun z =>
    fettleref09_Waves.nx37 x18 z
  else
    some (.ret x15)
def fettleref09_Waves.bd9 (a1 : List (List Bool)) (x8 : List Int) (x11 : Int) : Option (Ex (List Int) (List Int × Int)) :=
  if x11 < (len a1) then
    (whl (fun (s : (List Int × Int)) => fettleref09_Waves.bd23 a1 s.1 s.2) FUEL (x8, 0)).bind fun z =>
    fettleref09_Waves.nx23 x11 z
  else
    some (.ret x8)
def fettleref09_Waves (a1 : List (List Bool)) : Option (List Int) :=
  (mkl (len a1) (0 : Int)).bind fun x4 =>
  (whl (fun (s : (List Int × Int)) => fettleref09_Waves.bd9 a1 s.1 s.2) FUEL (x4, 0)).bind fun z =>
  fettleref09_Waves.nx9 z
set_option maxHeartbeats 4000000 in
theorem fettleref09_Waves_ok {E : World} {H : FP} {w : World} {a1 : List (List Bool)} {v2 : Value} {r : List Int} (h3 : SlI (kSl 4 kBool) H a1 v2) (hp : fettleref09_Waves a1 = some r) (hst : St E H [] w) :
    Fn Try.prog 30 #[v2] w fun v w' => ∃ A, fettleref09_Waves.R r v A ∧ St E H A w' := by
 refine fb 65 [.tmp 2] Try.func30 rfl rfl rfl rfl rfl hst <| sr <| ta rfl <| nz <| sr <| tm rfl <| tv (ln u62 h3 rfl) rfl <| tk (k := (kInt .i64)) u25 i3 hp ⟨rfl, rfl⟩ rfl rfl rfl rfl rfl rfl fun x4 v5 F6 h7 hp => ta rfl <| nz <| TC.seq fun K2 k3 => sr <| ta rfl <| nz <| TC.block <| bE hp fun z_5 hz6 hr7 => ?_
 have J11 {x12 F13 e10} (h14 : SlO 3 (kInt .i64) x12 v5 F13) (hq12 : x12 = z_5) : ∀ w, St E H [F13] w → K2 (ovr e10 [(3, v5)]) w := by
  subst hq12
  replace hp : fettleref09_Waves.nx9 x12 = some r := hr7
  exact tg k3 <| sr <| tm rfl <| ta rfl <| nz <| TC.ret <| rt hp [0] ⟨v5, F13, rfl, rfl, h14⟩
 refine lp hz6 [0] rfl (fun s e L => ∃ x8 x11 F9 e4, s = (x8, x11) ∧ SlO 3 (kInt .i64) x8 v5 F9 ∧ e = ovr e4 [(0, v2), (3, v5), (4, .int .i64 x11)] ∧ L = [F9]) ⟨_, _, F6, _, rfl, h7, ovr_eq _ _ rfl, rfl⟩ ?_
 rintro _ _ _ ⟨x8, x11, F9, e4, rfl, h10, rfl, rfl⟩ X8 hp hx9
 replace hp : fettleref09_Waves.bd9 a1 x8 x11 = some X8 := hp
 refine TC.seq fun K13 k14 => sr <| tm rfl <| tm rfl <| tv (ln u62 h3 rfl) rfl <| tv (blt rfl rfl) rfl <| nz <| cD rfl hp (fun hc15 hp => ?_) fun hc15 hp => ?_
 · refine sk k14 rfl <| TC.seq fun K16 k17 => TC.block <| sr <| ta rfl <| nz <| TC.block <| bE hp fun z_19 hz20 hr21 => ?_
   have J25 {x19 F20 e24} (h21 : SlO 3 (kInt .i64) x19 v5 F20) (hq26 : x19 = z_19) : ∀ w, St E H [F20] w → K16 (ovr e24 [(0, v2), (3, v5), (4, .int .i64 x11)]) w := by
    subst hq26
    replace hp : fettleref09_Waves.nx23 x11 x19 = some X8 := hr21
    exact tg k17 <| TC.region <| tm rfl <| tv (bad rfl rfl) rfl <| ta rfl <| nl <| gk hp [0] ⟨_, _, F20, _, rfl, h21, ovr_eq _ _ rfl, rfl⟩
   refine lp hz20 [0] rfl (fun s e L => ∃ x15 x18 F16 e18, s = (x15, x18) ∧ SlO 3 (kInt .i64) x15 v5 F16 ∧ e = ovr e18 [(0, v2), (3, v5), (4, .int .i64 x11), (5, .int .i64 x18)] ∧ L = [F16]) ⟨_, _, F9, _, rfl, h10, ovr_eq _ _ rfl, rfl⟩ ?_
   rintro _ _ _ ⟨x15, x18, F16, e18, rfl, h17, rfl, rfl⟩ X22 hp hx23
   replace hp : fettleref09_Waves.bd23 a1 x15 x18 = some X22 := hp
   refine TC.seq fun K27 k28 => sr <| tm rfl <| tm rfl <| tv (ln u62 h3 rfl) rfl <| tv (blt rfl rfl) rfl <| nz <| cD rfl hp (fun hc29 hp => ?_) fun hc29 hp => ?_
   · refine sk k28 rfl <| TC.seq fun K30 k31 => TC.block <| sr <| ta rfl <| nz <| TC.block <| bE hp fun z_33 hz34 hr35 => ?_
     have J39 {x26 F27 e38} (h28 : SlO 3 (kInt .i64) x26 v5 F27) (hq40 : x26 = z_33) : ∀ w, St E H [F27] w → K30 (ovr e38 [(0, v2), (3, v5), (4, .int .i64 x11), (5, .int .i64 x18)]) w := by
      subst hq40
      replace hp : fettleref09_Waves.nx37 x18 x26 = some X22 := hr35
      exact tg k31 <| TC.region <| tm rfl <| tv (bad rfl rfl) rfl <| ta rfl <| nl <| gk hp [0] ⟨_, _, F27, _, rfl, h28, ovr_eq _ _ rfl, rfl⟩
     refine lp hz34 [0] rfl (fun s e L => ∃ x22 x25 F23 e32, s = (x22, x25) ∧ SlO 3 (kInt .i64) x22 v5 F23 ∧ e = ovr e32 [(0, v2), (3, v5), (4, .int .i64 x11), (5, .int .i64 x18), (6, .int .i64 x25)] ∧ L = [F23]) ⟨_, _, F16, _, rfl, h17, ovr_eq _ _ rfl, rfl⟩ ?_
     rintro _ _ _ ⟨x22, x25, F23, e32, rfl, h24, rfl, rfl⟩ X36 hp hx37
     replace hp : fettleref09_Waves.bd37 a1 x18 x22 x25 = some X36 := hp
     refine TC.seq fun K41 k42 => sr <| tm rfl <| tm rfl <| tv (ln u62 h3 rfl) rfl <| tv (blt rfl rfl) rfl <| nz <| cD rfl hp (fun hc43 hp => ?_) fun hc43 hp => ?_
     · refine sk k42 rfl <| TC.seq fun K44 k45 => ?_
       have J47 {x29 F30 e46} (h31 : SlO 3 (kInt .i64) x29 v5 F30) (hp : fettleref09_Waves.jn47 x25 x29 = some X36) : ∀ w, St E H [F30] w → K44 (ovr e46 [(0, v2), (3, v5), (4, .int .i64 x11), (5, .int .i64 x18), (6, .int .i64 x25)]) w := by
        exact tg k45 <| TC.region <| tm rfl <| tv (bad rfl rfl) rfl <| ta rfl <| nl <| gk hp [0] ⟨_, _, F30, _, rfl, h31, ovr_eq _ _ rfl, rfl⟩
       refine TC.block <| TC.seq fun K48 k49 => cq mix (by kernel_rfl) <| qv mv rfl <| qv mv rfl <| qi u62 i88 h3 hp rfl rfl rfl rfl ?_
       rintro x32 b33 o34 _ hp ⟨v38, rfl, h39⟩ h37
       refine qv (lr s88 sH h37 0 rfl rfl) rfl <| qv mv rfl <| qi u88 i4 h39 hp rfl rfl rfl rfl ?_
       rintro x40 b41 o42 _ hp rfl h45
       refine qv (lr s4 sH h45 0 rfl rfl) rfl <| qv mv rfl <| bE hp fun t46 ht68 hp => QL.cut 9 fun K52 k53 => ?_
       have J54 {e56} : K52 (ovr e56 [(44, .bool t46), (0, v2), (3, v5), (4, .int .i64 x11), (5, .int .i64 x18), (6, .int .i64 x25)]) := by
        refine k53 _ <| qv mv rfl <| bE hp fun t47 ht65 hp => QL.cut 10 fun K57 k58 => ?_
        have J59 {e61} : K57 (ovr e61 [(55, .bool t47), (0, v2), (3, v5), (4, .int .i64 x11), (5, .int .i64 x18), (6, .int .i64 x25)]) := by
         refine k58 _ <| QL.nil <| tg k49 <| cB rfl hp (fun hc62 hp => ?_) fun hc62 hp => ?_
         · refine TC.region <| tm rfl <| tm rfl <| tm rfl <| tm rfl <| ti u25 i3 (h24).ro hp rfl rfl rfl rfl ?_
           rintro x48 b49 o50 _ hp rfl h53
           exact tv (lr s3 (Src.at_ 0 rfl) h53 0 rfl rfl) rfl <| tv (bad rfl rfl) rfl <| tO u25 i3 h24 hp rfl rfl rfl rfl fun x54 b55 o56 h57 hp => tE h24 h57 m3 rfl ⟨rfl, rfl⟩ w1 fun F58 h59 => nl <| jn [0] (J47 h59 hp)
         · exact TC.skip <| jn [0] (J47 h24 hp)
        refine ifE ht65 (fun hc60 hp => ?_) fun hc60 hp => ?_
        · refine qgy rfl (bbT hc60) <| qv mv rfl <| qgy rfl (bbT hc60) <| qv mv rfl <| qgy rfl (bbT hc60) <| qi u25 i3 (h24).ro hp rfl rfl rfl rfl ?_
          rintro x60 b61 o62 _ hp rfl h65
          refine qgy rfl (bbT hc60) <| qv (lr s3 (Src.at_ 0 rfl) h65 0 rfl rfl) rfl <| qgy rfl (bbT hc60) <| qv mv rfl <| qgy rfl (bbT hc60) <| qv mv rfl <| qgy rfl (bbT hc60) <| qi u25 i3 (h24).ro hp rfl rfl rfl rfl ?_
          rintro x66 b67 o68 _ hp rfl h71
          refine qgy rfl (bbT hc60) <| qv (lr s3 (Src.at_ 0 rfl) h71 0 rfl rfl) rfl <| qgy rfl (bbT hc60) <| qv (ble rfl rfl) rfl <| qv (pT (bbT hc60)) rfl ?_
          obtain rfl := Option.some.inj hp
          exact qj J59 rfl
        · refine qgn rfl (bbF hc60) rfl rfl <| qgn rfl (bbF hc60) rfl rfl <| qgn rfl (bbF hc60) rfl rfl <| qgn rfl (bbF hc60) rfl rfl <| qgn rfl (bbF hc60) rfl rfl <| qgn rfl (bbF hc60) rfl rfl <| qgn rfl (bbF hc60) rfl rfl <| qgn rfl (bbF hc60) rfl rfl <| qgn rfl (bbF hc60) rfl rfl <| qv (pF (bbF hc60)) rfl ?_
          obtain rfl := Option.some.inj hp
          exact qj J59 rfl
       refine ifE ht68 (fun hc55 hp => ?_) fun hc55 hp => ?_
       · refine qgy rfl (bbT hc55) <| qv mv rfl <| qgy rfl (bbT hc55) <| qv mv rfl <| qgy rfl (bbT hc55) <| qi u62 i88 h3 hp rfl rfl rfl rfl ?_
         rintro x72 b73 o74 _ hp ⟨v78, rfl, h79⟩ h77
         refine qgy rfl (bbT hc55) <| qv (lr s88 sH h77 0 rfl rfl) rfl <| qgy rfl (bbT hc55) <| qv mv rfl <| qgy rfl (bbT hc55) <| qi u88 i4 h79 hp rfl rfl rfl rfl ?_
         rintro x80 b81 o82 _ hp rfl h85
         refine qgy rfl (bbT hc55) <| qv (lr s4 sH h85 0 rfl rfl) rfl <| qgy rfl (bbT hc55) <| qv (rv_not rfl) rfl <| qv (pT (bbT hc55)) rfl ?_
         obtain rfl := Option.some.inj hp
         exact qj J54 rfl
       · refine qgn rfl (bbF hc55) rfl rfl <| qgn rfl (bbF hc55) rfl rfl <| qgn rfl (bbF hc55) rfl rfl <| qgn rfl (bbF hc55) rfl rfl <| qgn rfl (bbF hc55) rfl rfl <| qgn rfl (bbF hc55) rfl rfl <| qgn rfl (bbF hc55) rfl rfl <| qgn rfl (bbF hc55) rfl rfl <| qv (pF (bbF hc55)) rfl ?_
         obtain rfl := Option.some.inj hp
         exact qj J54 rfl
     · exact TC.exit <| jn [0] (J39 h24 (ex_ret hp hx37))
   · exact TC.exit <| jn [0] (J25 h17 (ex_ret hp hx23))
 · exact TC.exit <| jn [0] (J11 h10 (ex_ret hp hx9))

/-! ### fettle/fettlelaw09.CallsTells -/
abbrev fettlelaw09_CallsTells.R (r : Bool) (v : Value) (A : List FP) : Prop := .bool r = v ∧ A = []
def fettlelaw09_CallsTells.nx56 (x5 : Bool) : Option Bool :=
  some x5
def fettlelaw09_CallsTells.nx72 (x15 : List (List (List Int))) (x35 : Int) (x38 : Int) : Option (Ex (Ex Bool Unit) Int) :=
  (idx x15 x35).bind fun x39 =>
  if ¬ x38 = (len x39) then
    some (.ret (.ret false))
  else
    some (.go (w64 (x35 + 1)))
def fettlelaw09_CallsTells.jn84 (x37 : Int) (x47 : Int) : Option (Ex (Ex Bool Int) (Int × Int)) :=
  some (.go (x47, (w64 (x37 + 1))))
def fettlelaw09_CallsTells.bd72 (x15 : List (List (List Int))) (x23 : List (List Int)) (x27 : List Int) (x35 : Int) (x36 : Int) (x37 : Int) : Option (Ex (Ex Bool Int) (Int × Int)) :=
  if x37 < (len x23) then
    (idx x23 x37).bind fun x48 =>
    (idx x48 0).bind fun x56 =>
    (idx x27 x56).bind fun x62 =>
    if ¬ x62 = x35 then
      fettlelaw09_CallsTells.jn84 x37 x36
    else
      (idx x15 x35).bind fun x68 =>
      (if x36 ≥ (len x68) then some true else (idx x15 x35).bind fun x77 =>
      (idx x77 x36).bind fun x85 =>
      (idx x23 x37).bind fun x93 =>
      (fettlelaw05_Ints x85 x93).bind fun x101 =>
      some (!x101)).bind fun t76 =>
      if t76 = true then
        some (.ret (.ret false))
      else
        fettlelaw09_CallsTells.jn84 x37 (w64 (x36 + 1))
  else
    some (.ret (.go x36))
def fettlelaw09_CallsTells.bd56 (x15 : List (List (List Int))) (x23 : List (List Int)) (x27 : List Int) (x35 : Int) : Option (Ex (Ex Bool Unit) Int) :=
  if x35 < (len x15) then
    (whl (fun (s : (Int × Int)) => fettlelaw09_CallsTells.bd72 x15 x23 x27 x35 s.1 s.2) FUEL (0, 0)).bind fun z =>
    match z with
      | .ret r => some (.ret (.ret r))
      | .go p => fettlelaw09_CallsTells.nx72 x15 x35 p
  else
    some (.ret (.go ()))
def fettlelaw09_CallsTells.nx44 (x5 : Bool) (x15 : List (List (List Int))) (x23 : List (List Int)) (x27 : List Int) (x34 : Int) : Option Bool :=
  if ¬ (len x15) = x34 then
    some false
  else
    (whl (fun (s : Int) => fettlelaw09_CallsTells.bd56 x15 x23 x27 s) FUEL 0).bind fun z =>
    match z with
      | .ret r => some r
      | .go p => fettlelaw09_CallsTells.nx56 x5
def fettlelaw09_CallsTells.jn119 (x33 : Int) (x102 : Int) : Option (Ex (Ex Bool Int) (Int × Int)) :=
  some (.go (x102, (w64 (x33 + 1))))
def fettlelaw09_CallsTells.bd44 (x11 : List (List Int)) (x23 : List (List Int)) (x27 : List Int) (x32 : Int) (x33 : Int) : Option (Ex (Ex Bool Int) (Int × Int)) :=
  if x33 < (len x11) then
    (idx x11 x33).bind fun x103 =>
    (idx x23 x33).bind fun x111 =>
    (fettlelaw05_Ints x103 x111).bind fun x119 =>
    if (!x119) = true then
      some (.ret (.ret false))
    else
      (idx x23 x33).bind fun x120 =>
      (idx x120 0).bind fun x128 =>
      (idx x27 x128).bind fun x134 =>
      if (w64 (x134 + 1)) > x32 then
        (idx x23 x33).bind fun x140 =>
        (idx x140 0).bind fun x148 =>
        (idx x27 x148).bind fun x154 =>
        fettlelaw09_CallsTells.jn119 x33 (w64 (x154 + 1))
      else
        fettlelaw09_CallsTells.jn119 x33 x32
  else
    some (.ret (.go x32))
def fettlelaw09_CallsTells.nx35 (x5 : Bool) (x11 : List (List Int)) (x15 : List (List (List Int))) (x23 : List (List Int)) (x27 : List Int) : Option Bool :=
  (whl (fun (s : (Int × Int)) => fettlelaw09_CallsTells.bd44 x11 x23 x27 s.1 s.2) FUEL (0, 0)).bind fun z =>
  match z with
    | .ret r => some r
    | .go p => fettlelaw09_CallsTells.nx44 x5 x15 x23 x27 p
def fettlelaw09_CallsTells.nx151 (x7 : List (List Int)) (x31 : Int) (x165 : List Int) : Option (Ex (Ex Bool Unit) Int) :=
  (idx x7 x31).bind fun x169 =>
  (fettlelaw05_Ints x169 x165).bind fun x177 =>
  if (!x177) = true then
    some (.ret (.ret false))
  else
    some (.go (w64 (x31 + 1)))
def fettlelaw09_CallsTells.jn165 (x164 : Int) (x178 : List Int) : Option (Ex (List Int) (List Int × Int)) :=
  some (.go (x178, (w64 (x164 + 1))))
def fettlelaw09_CallsTells.bd151 (a1 : PModule) (x7 : List (List Int)) (x31 : Int) (x160 : List Int) (x164 : Int) : Option (Ex (List Int) (List Int × Int)) :=
  if x164 < (len x7) then
    (fettleref09_Calls a1 x31 x164).bind fun x182 =>
    if x182 = true then
      (cat x160 [x164]).bind fun x184 =>
      fettlelaw09_CallsTells.jn165 x164 x184
    else
      fettlelaw09_CallsTells.jn165 x164 x160
  else
    some (.ret x160)
def fettlelaw09_CallsTells.bd35 (a1 : PModule) (x7 : List (List Int)) (x31 : Int) : Option (Ex (Ex Bool Unit) Int) :=
  if x31 < (len x7) then
    (whl (fun (s : (List Int × Int)) => fettlelaw09_CallsTells.bd151 a1 x7 x31 s.1 s.2) FUEL (([] : List Int), 0)).bind fun z =>
    fettlelaw09_CallsTells.nx151 x7 x31 z
  else
    some (.ret (.go ()))
def fettlelaw09_CallsTells (a1 : PModule) : Option Bool :=
  (fettlelaw09_up).bind fun x5 =>
  (fettleref02_Small a1).bind fun x6 =>
  if (!x6) = true then
    some x5
  else
    (calls_Calls a1).bind fun x7 =>
    (calls_Rings a1).bind fun x11 =>
    (calls_Waves a1).bind fun x15 =>
    (fettleref09_To a1).bind fun x19 =>
    (fettleref09_Rings x19).bind fun x23 =>
    (fettleref09_Waves x19).bind fun x27 =>
    if (¬ (len x7) = (len a1.funcs)) ∨ (¬ (len x11) = (len x23)) then
      some false
    else
      (whl (fun (s : Int) => fettlelaw09_CallsTells.bd35 a1 x7 s) FUEL 0).bind fun z =>
      match z with
        | .ret r => some r
        | .go p => fettlelaw09_CallsTells.nx35 x5 x11 x15 x23 x27
set_option maxHeartbeats 4000000 in
theorem fettlelaw09_CallsTells_ok {E : World} {H : FP} {w : World} {a1 : PModule} {v2 : Value} {r : Bool} (h3 : SlI kFunc H a1.funcs v2) (hp : fettlelaw09_CallsTells a1 = some r) (hst : St E H [] w) :
    Fn Try.prog 8 #[.agg #[v2]] w fun v w' => ∃ A, fettlelaw09_CallsTells.R r v A ∧ St E H A w' := by
 refine fb 176 [.tmp 2] Try.func8 rfl rfl rfl rfl rfl hst <| sr <| tb [v2] rfl rfl fun b4 => ta rfl <| nz <| sr <| bE hp fun x5 hy1 hp => tc 0 [_] rfl c24 (fun _ => fettlelaw09_up_ok hy1) rfl ?_
 rintro _ _ ⟨rfl, rfl⟩
 refine ta rfl <| nz <| sr <| tv (lA (ds := [v2]) ag_35 0 rfl rfl rfl rfl) rfl <| bE hp fun x6 hy3 hp => tc 0 [_] rfl c15 (fun _ => fettleref02_Small_ok (a1 := a1) (h3.mono subH) hy3) rfl ?_
 rintro _ _ ⟨rfl, rfl⟩
 refine ta rfl <| nz <| TC.seq fun K5 k6 => sr <| tm rfl <| tv (rv_not rfl) rfl <| nz <| cB rfl hp (fun hc7 hp => ?_) fun hc7 hp => ?_
 · exact sr <| tm rfl <| ta rfl <| nz <| TC.ret <| rt hp [] ⟨rfl, rfl⟩
 · refine sk k6 rfl <| sr <| tv (lA (ds := [v2]) ag_35 0 rfl rfl rfl rfl) rfl <| bE hp fun x7 hy8 hp => tc 0 [_] rfl c26 (fun _ => calls_Calls_ok (a1 := a1) (h3.mono subH) hy8) rfl ?_
   rintro _ _ ⟨v8, F9, rfl, rfl, h10⟩
   refine ta rfl <| nz <| sr <| tv (lA (ds := [v2]) ag_35 1 rfl rfl rfl rfl) rfl <| bE hp fun x11 hy10 hp => tc 0 [_,_] rfl c27 (fun _ => calls_Rings_ok (a1 := a1) (h3.mono subH) hy10) rfl ?_
   rintro _ _ ⟨v12, F13, rfl, rfl, h14⟩
   refine ta rfl <| nz <| sr <| tv (lA (ds := [v2]) ag_35 2 rfl rfl rfl rfl) rfl <| bE hp fun x15 hy12 hp => tc 0 [_,_,_] rfl c25 (fun _ => calls_Waves_ok (a1 := a1) (h3.mono subH) hy12) rfl ?_
   rintro _ _ ⟨v16, F17, rfl, rfl, h18⟩
   refine ta rfl <| nz <| sr <| tv (lA (ds := [v2]) ag_35 3 rfl rfl rfl rfl) rfl <| bE hp fun x19 hy14 hp => tc 0 [_,_,_,_] rfl c28 (fun _ => fettleref09_To_ok (a1 := a1) (h3.mono subH) hy14) rfl ?_
   rintro _ _ ⟨v20, F21, rfl, rfl, h22⟩
   refine ta rfl <| nz <| sr <| tm rfl <| bE hp fun x23 hy16 hp => tc 0 [_,_,_,_,_] rfl c29 (fun _ => fettleref09_Rings_ok (a1 := x19) (h22.ro.mono (subB 0 rfl)) hy16) rfl ?_
   rintro _ _ ⟨v24, F25, rfl, rfl, h26⟩
   refine ta rfl <| nz <| sr <| tm rfl <| bE hp fun x27 hy18 hp => tc 0 [_,_,_,_,_,_] rfl c30 (fun _ => fettleref09_Waves_ok (a1 := x19) (h22.ro.mono (subB 1 rfl)) hy18) rfl ?_
   rintro _ _ ⟨v28, F29, rfl, rfl, h30⟩
   refine ta rfl <| nz <| TC.seq fun K20 k21 => sr <| tm rfl <| tv (ln u60 h10.ro rfl) rfl <| tv (fa f35_0 rfl) rfl <| tv (lb s33 6 rfl rfl rfl) rfl <| tv (ln u33 h3 rfl) rfl <| tv (bne rfl rfl) rfl <| tm rfl <| TL.cut 6 fun K22 k23 => ?_
   have J24 {e26} : ∀ w, St E H [F29, F25, F21, F17, F13, F9, bx b4 35 [v2]] w → K22 (ovr e26 [(50, .bool (decide ((¬ (len x7) = (len a1.funcs)) ∨ (¬ (len x11) = (len x23))))), (1, .pointer (some ⟨b4, 0, none⟩)), (3, .bool x5), (5, v8), (6, v12), (7, v16), (9, v24), (10, v28)]) w := by
    refine tlg k23 <| nz <| cD rfl hp (fun hc27 hp => ?_) fun hc27 hp => ?_
    · exact sr <| ta rfl <| nz <| TC.ret <| rt hp [] ⟨rfl, rfl⟩
    · refine sk k21 rfl <| TC.seq fun K28 k29 => sr <| ta rfl <| nz <| TC.block <| bE hp fun z_31 hz32 hr33 => ?_
      have J137 {e36} (hq138 : .go () = z_31) : ∀ w, St E H [F13, F17, F25, F29] w → K28 (ovr e36 [(3, .bool x5), (6, v12), (7, v16), (9, v24), (10, v28)]) w := by
       subst hq138
       replace hp : fettlelaw09_CallsTells.nx35 x5 x11 x15 x23 x27 = some r := hr33
       refine tg k29 <| sr <| ta rfl <| nz <| TC.seq fun K37 k38 => sr <| ta rfl <| nz <| TC.block <| bE hp fun z_40 hz41 hr42 => ?_
       have J111 {x34 e45} (hq112 : .go x34 = z_40) : ∀ w, St E H [F17, F25, F29] w → K37 (ovr e45 [(3, .bool x5), (7, v16), (9, v24), (10, v28), (15, .int .i64 x34)]) w := by
        subst hq112
        replace hp : fettlelaw09_CallsTells.nx44 x5 x15 x23 x27 x34 = some r := hr42
        refine tg k38 <| TC.seq fun K46 k47 => sr <| tm rfl <| tv (ln u58 h18.ro rfl) rfl <| tm rfl <| tv (bne rfl rfl) rfl <| nz <| cD rfl hp (fun hc48 hp => ?_) fun hc48 hp => ?_
        · exact sr <| ta rfl <| nz <| TC.ret <| rt hp [] ⟨rfl, rfl⟩
        · refine sk k47 rfl <| TC.seq fun K49 k50 => sr <| ta rfl <| nz <| TC.block <| bE hp fun z_52 hz53 hr54 => ?_
          have J58 {e57} (hq59 : .go () = z_52) : ∀ w, St E H [] w → K49 (ovr e57 [(3, .bool x5)]) w := by
           subst hq59
           replace hp : fettlelaw09_CallsTells.nx56 x5 = some r := hr54
           exact tg k50 <| sr <| tm rfl <| ta rfl <| nz <| TC.ret <| rt hp [] ⟨rfl, rfl⟩
          refine lp hz53 [0, 1, 2] rfl (fun s e L => ∃ e51, e = ovr e51 [(3, .bool x5), (7, v16), (9, v24), (10, v28), (17, .int .i64 s)] ∧ L = [F17, F25, F29]) ⟨_, ovr_eq _ _ rfl, rfl⟩ ?_
          rintro x35 _ _ ⟨e51, rfl, rfl⟩ X55 hp hx56
          replace hp : fettlelaw09_CallsTells.bd56 x15 x23 x27 x35 = some X55 := hp
          refine TC.seq fun K60 k61 => sr <| tm rfl <| tm rfl <| tv (ln u58 h18.ro rfl) rfl <| tv (blt rfl rfl) rfl <| nz <| cD rfl hp (fun hc62 hp => ?_) fun hc62 hp => ?_
          · refine sk k61 rfl <| TC.seq fun K63 k64 => TC.block <| sr <| ta rfl <| nz <| TC.seq fun K65 k66 => sr <| ta rfl <| nz <| TC.block <| bE hp fun z_68 hz69 hr70 => ?_
            have J76 {x38 e73} (hq77 : .go x38 = z_68) : ∀ w, St E H [F17, F25, F29] w → K65 (ovr e73 [(3, .bool x5), (7, v16), (9, v24), (10, v28), (17, .int .i64 x35), (18, .int .i64 x38)]) w := by
             subst hq77
             replace hp : fettlelaw09_CallsTells.nx72 x15 x35 x38 = some X55 := hr70
             refine tg k66 <| sr <| tm rfl <| tm rfl <| tm rfl <| ti u58 i60 (h18).ro hp rfl rfl rfl rfl ?_
             rintro x39 b40 o41 _ hp ⟨v45, rfl, h46⟩ h44
             refine tv (lr s60 (Src.at_ 0 rfl) h44 0 rfl rfl) rfl <| tv (ln u60 h46 rfl) rfl <| tv (bne rfl rfl) rfl <| nz <| cD rfl hp (fun hc75 hp => ?_) fun hc75 hp => ?_
             · refine sr <| ta rfl <| nz <| TC.ret ?_
               obtain rfl := ex_ret hp hx56
               exact rt hr54 [] ⟨rfl, rfl⟩
             · exact sk k64 rfl <| TC.region <| tm rfl <| tv (bad rfl rfl) rfl <| ta rfl <| nl <| gk hp [0, 1, 2] ⟨_, ovr_eq _ _ rfl, rfl⟩
            refine lp hz69 [0, 1, 2] rfl (fun s e L => ∃ x36 x37 e67, s = (x36, x37) ∧ e = ovr e67 [(3, .bool x5), (7, v16), (9, v24), (10, v28), (17, .int .i64 x35), (18, .int .i64 x36), (19, .int .i64 x37)] ∧ L = [F17, F25, F29]) ⟨_, _, _, rfl, ovr_eq _ _ rfl, rfl⟩ ?_
            rintro _ _ _ ⟨x36, x37, e67, rfl, rfl, rfl⟩ X71 hp hx72
            replace hp : fettlelaw09_CallsTells.bd72 x15 x23 x27 x35 x36 x37 = some X71 := hp
            refine TC.seq fun K78 k79 => sr <| tm rfl <| tm rfl <| tv (ln u60 h26.ro rfl) rfl <| tv (blt rfl rfl) rfl <| nz <| cD rfl hp (fun hc80 hp => ?_) fun hc80 hp => ?_
            · refine sk k79 rfl <| TC.seq fun K81 k82 => ?_
              have J84 {x47 e83} (hp : fettlelaw09_CallsTells.jn84 x37 x47 = some X71) : ∀ w, St E H [F17, F25, F29] w → K81 (ovr e83 [(3, .bool x5), (7, v16), (9, v24), (10, v28), (17, .int .i64 x35), (18, .int .i64 x47), (19, .int .i64 x37)]) w := by
               exact tg k82 <| TC.region <| tm rfl <| tv (bad rfl rfl) rfl <| ta rfl <| nl <| gk hp [0, 1, 2] ⟨_, _, _, rfl, ovr_eq _ _ rfl, rfl⟩
              refine TC.block <| TC.seq fun K85 k86 => sr <| tm rfl <| tm rfl <| tm rfl <| ti u60 i25 (h26).ro hp rfl rfl rfl rfl ?_
              rintro x48 b49 o50 _ hp ⟨v54, rfl, h55⟩ h53
              refine tv (lr s25 (Src.at_ 1 rfl) h53 0 rfl rfl) rfl <| ti u25 i3 h55 hp rfl rfl rfl rfl ?_
              rintro x56 b57 o58 _ hp rfl h61
              refine tv (lr s3 (Src.at_ 1 rfl) h61 0 rfl rfl) rfl <| ti u25 i3 (h30).ro hp rfl rfl rfl rfl ?_
              rintro x62 b63 o64 _ hp rfl h67
              refine tv (lr s3 (Src.at_ 2 rfl) h67 0 rfl rfl) rfl <| tm rfl <| tv (bne rfl rfl) rfl <| nz <| cD rfl hp (fun hc90 hp => ?_) fun hc90 hp => ?_
              · exact TC.exit <| jn [0, 1, 2] (J84 hp)
              · refine sk k86 rfl <| TC.seq fun K91 k92 => TC.seq fun K93 k94 => cq mix (by kernel_rfl) <| qv mv rfl <| qv mv rfl <| qv mv rfl <| qi u58 i60 (h18).ro hp rfl rfl rfl rfl ?_
                rintro x68 b69 o70 _ hp ⟨v74, rfl, h75⟩ h73
                refine qv (lr s60 (Src.at_ 0 rfl) h73 0 rfl rfl) rfl <| qv (ln u60 h75 rfl) rfl <| qv (bge rfl rfl) rfl <| qv mv rfl <| bE hp fun t76 ht102 hp => QL.cut 14 fun K96 k97 => ?_
                have J98 {e100} : K96 (ovr e100 [(165, .bool t76), (3, .bool x5), (7, v16), (9, v24), (10, v28), (17, .int .i64 x35), (18, .int .i64 x36), (19, .int .i64 x37)]) := by
                 refine k97 _ <| QL.nil <| tg k94 <| cB rfl hp (fun hc101 hp => ?_) fun hc101 hp => ?_
                 · refine sr <| ta rfl <| nz <| TC.ret ?_
                   obtain rfl := ex_ret hp hx72
                   obtain rfl := ex_ret hr70 hx56
                   exact rt hr54 [] ⟨rfl, rfl⟩
                 · exact sk k92 rfl <| TC.region <| tm rfl <| tv (bad rfl rfl) rfl <| ta rfl <| nl <| jn [0, 1, 2] (J84 hp)
                refine ifE ht102 (fun hc99 hp => ?_) fun hc99 hp => ?_
                · refine qgn rfl (bT hc99) rfl rfl <| qgn rfl (bT hc99) rfl rfl <| qgn rfl (bT hc99) rfl rfl <| qgn rfl (bT hc99) rfl rfl <| qgn rfl (bT hc99) rfl rfl <| qgn rfl (bT hc99) rfl rfl <| qgn rfl (bT hc99) rfl rfl <| qgn rfl (bT hc99) rfl rfl <| qgn rfl (bT hc99) rfl rfl <| qgn rfl (bT hc99) rfl rfl <| qgn rfl (bT hc99) rfl rfl <| qgn rfl (bT hc99) rfl rfl <| qgn rfl (bT hc99) rfl rfl <| qv (pT (bT hc99)) rfl ?_
                  obtain rfl := Option.some.inj hp
                  exact qj J98 rfl
                · refine qgy rfl (bF hc99) <| qv mv rfl <| qgy rfl (bF hc99) <| qv mv rfl <| qgy rfl (bF hc99) <| qi u58 i60 (h18).ro hp rfl rfl rfl rfl ?_
                  rintro x77 b78 o79 _ hp ⟨v83, rfl, h84⟩ h82
                  refine qgy rfl (bF hc99) <| qv (lr s60 (Src.at_ 0 rfl) h82 0 rfl rfl) rfl <| qgy rfl (bF hc99) <| qv mv rfl <| qgy rfl (bF hc99) <| qi u60 i25 h84 hp rfl rfl rfl rfl ?_
                  rintro x85 b86 o87 _ hp ⟨v91, rfl, h92⟩ h90
                  refine qgy rfl (bF hc99) <| qv (lr s25 (Src.at_ 0 rfl) h90 0 rfl rfl) rfl <| qgy rfl (bF hc99) <| qv mv rfl <| qgy rfl (bF hc99) <| qv mv rfl <| qgy rfl (bF hc99) <| qi u60 i25 (h26).ro hp rfl rfl rfl rfl ?_
                  rintro x93 b94 o95 _ hp ⟨v99, rfl, h100⟩ h98
                  refine qgy rfl (bF hc99) <| qv (lr s25 (Src.at_ 1 rfl) h98 0 rfl rfl) rfl <| qgy rfl (bF hc99) <| bE hp fun x101 hy106 hp => qc (.bool x101) c32 (fun _ => fettlelaw05_Ints_ok (a1 := x85) (a4 := x93) (h92.mono (subB 0 rfl)) (h100.mono (subB 1 rfl)) hy106) (fun _ _ h => ⟨h.1.symm, h.2⟩) rfl <| qgy rfl (bF hc99) <| qv (rv_not rfl) rfl <| qv (pF (bF hc99)) rfl ?_
                  obtain rfl := Option.some.inj hp
                  exact qj J98 rfl
            · exact TC.exit <| jn [0, 1, 2] (J76 (ex_ret hp hx72))
          · exact TC.exit <| jn [] (J58 (ex_ret hp hx56))
       refine lp hz41 [0, 1, 2, 3] rfl (fun s e L => ∃ x32 x33 e39, s = (x32, x33) ∧ e = ovr e39 [(3, .bool x5), (6, v12), (7, v16), (9, v24), (10, v28), (15, .int .i64 x32), (16, .int .i64 x33)] ∧ L = [F13, F17, F25, F29]) ⟨_, _, _, rfl, ovr_eq _ _ rfl, rfl⟩ ?_
       rintro _ _ _ ⟨x32, x33, e39, rfl, rfl, rfl⟩ X43 hp hx44
       replace hp : fettlelaw09_CallsTells.bd44 x11 x23 x27 x32 x33 = some X43 := hp
       refine TC.seq fun K113 k114 => sr <| tm rfl <| tm rfl <| tv (ln u60 h14.ro rfl) rfl <| tv (blt rfl rfl) rfl <| nz <| cD rfl hp (fun hc115 hp => ?_) fun hc115 hp => ?_
       · refine sk k114 rfl <| TC.seq fun K116 k117 => ?_
         have J119 {x102 e118} (hp : fettlelaw09_CallsTells.jn119 x33 x102 = some X43) : ∀ w, St E H [F13, F17, F25, F29] w → K116 (ovr e118 [(3, .bool x5), (6, v12), (7, v16), (9, v24), (10, v28), (15, .int .i64 x102), (16, .int .i64 x33)]) w := by
          exact tg k117 <| TC.region <| tm rfl <| tv (bad rfl rfl) rfl <| ta rfl <| nl <| gk hp [0, 1, 2, 3] ⟨_, _, _, rfl, ovr_eq _ _ rfl, rfl⟩
         refine TC.block <| TC.seq fun K120 k121 => TC.seq fun K122 k123 => cq mix (by kernel_rfl) <| qv mv rfl <| qv mv rfl <| qi u60 i25 (h14).ro hp rfl rfl rfl rfl ?_
         rintro x103 b104 o105 _ hp ⟨v109, rfl, h110⟩ h108
         refine qv (lr s25 (Src.at_ 0 rfl) h108 0 rfl rfl) rfl <| qv mv rfl <| qv mv rfl <| qi u60 i25 (h26).ro hp rfl rfl rfl rfl ?_
         rintro x111 b112 o113 _ hp ⟨v117, rfl, h118⟩ h116
         refine qv (lr s25 (Src.at_ 2 rfl) h116 0 rfl rfl) rfl <| bE hp fun x119 hy126 hp => qc (.bool x119) c32 (fun _ => fettlelaw05_Ints_ok (a1 := x103) (a4 := x111) (h110.mono (subB 0 rfl)) (h118.mono (subB 2 rfl)) hy126) (fun _ _ h => ⟨h.1.symm, h.2⟩) rfl <| qv (rv_not rfl) rfl <| QL.nil <| tg k123 <| cB rfl hp (fun hc127 hp => ?_) fun hc127 hp => ?_
         · refine sr <| ta rfl <| nz <| TC.ret ?_
           obtain rfl := ex_ret hp hx44
           exact rt hr42 [] ⟨rfl, rfl⟩
         · refine sk k121 rfl <| sr <| tm rfl <| tm rfl <| tm rfl <| ti u60 i25 (h26).ro hp rfl rfl rfl rfl ?_
           rintro x120 b121 o122 _ hp ⟨v126, rfl, h127⟩ h125
           refine tv (lr s25 (Src.at_ 2 rfl) h125 0 rfl rfl) rfl <| ti u25 i3 h127 hp rfl rfl rfl rfl ?_
           rintro x128 b129 o130 _ hp rfl h133
           refine tv (lr s3 (Src.at_ 2 rfl) h133 0 rfl rfl) rfl <| ti u25 i3 (h30).ro hp rfl rfl rfl rfl ?_
           rintro x134 b135 o136 _ hp rfl h139
           refine tv (lr s3 (Src.at_ 3 rfl) h139 0 rfl rfl) rfl <| tv (bad rfl rfl) rfl <| tm rfl <| tv (bgt rfl rfl) rfl <| nz <| cD rfl hp (fun hc131 hp => ?_) fun hc131 hp => ?_
           · refine TC.region <| tm rfl <| tm rfl <| tm rfl <| ti u60 i25 (h26).ro hp rfl rfl rfl rfl ?_
             rintro x140 b141 o142 _ hp ⟨v146, rfl, h147⟩ h145
             refine tv (lr s25 (Src.at_ 2 rfl) h145 0 rfl rfl) rfl <| ti u25 i3 h147 hp rfl rfl rfl rfl ?_
             rintro x148 b149 o150 _ hp rfl h153
             refine tv (lr s3 (Src.at_ 2 rfl) h153 0 rfl rfl) rfl <| ti u25 i3 (h30).ro hp rfl rfl rfl rfl ?_
             rintro x154 b155 o156 _ hp rfl h159
             exact tv (lr s3 (Src.at_ 3 rfl) h159 0 rfl rfl) rfl <| tv (bad rfl rfl) rfl <| ta rfl <| nl <| jn [0, 1, 2, 3] (J119 hp)
           · exact TC.skip <| jn [0, 1, 2, 3] (J119 hp)
       · exact TC.exit <| jn [1, 2, 3] (J111 (ex_ret hp hx44))
      refine lp hz32 [6, 5, 4, 3, 1, 0] rfl (fun s e L => ∃ e30, e = ovr e30 [(1, .pointer (some ⟨b4, 0, none⟩)), (3, .bool x5), (5, v8), (6, v12), (7, v16), (9, v24), (10, v28), (11, .int .i64 s)] ∧ L = [bx b4 35 [v2], F9, F13, F17, F25, F29]) ⟨_, ovr_eq _ _ rfl, rfl⟩ ?_
      rintro x31 _ _ ⟨e30, rfl, rfl⟩ X34 hp hx35
      replace hp : fettlelaw09_CallsTells.bd35 a1 x7 x31 = some X34 := hp
      refine TC.seq fun K139 k140 => sr <| tm rfl <| tm rfl <| tv (ln u60 h10.ro rfl) rfl <| tv (blt rfl rfl) rfl <| nz <| cD rfl hp (fun hc141 hp => ?_) fun hc141 hp => ?_
      · refine sk k140 rfl <| TC.seq fun K142 k143 => TC.block <| sr <| ta rfl <| nz <| TC.seq fun K144 k145 => sr <| ta rfl <| nz <| TC.block <| bE hp fun z_147 hz148 hr149 => ?_
        have J157 {x165 v166 F167 e152} (h168 : SlO 3 (kInt .i64) x165 v166 F167) (hq158 : x165 = z_147) : ∀ w, St E H [bx b4 35 [v2], F9, F13, F17, F25, F29, F167] w → K144 (ovr e152 [(1, .pointer (some ⟨b4, 0, none⟩)), (3, .bool x5), (5, v8), (6, v12), (7, v16), (9, v24), (10, v28), (11, .int .i64 x31), (12, v166)]) w := by
         subst hq158
         replace hp : fettlelaw09_CallsTells.nx151 x7 x31 x165 = some X34 := hr149
         refine tg k145 <| sr <| tm rfl <| tm rfl <| ti u60 i25 (h10).ro hp rfl rfl rfl rfl ?_
         rintro x169 b170 o171 _ hp ⟨v175, rfl, h176⟩ h174
         refine tv (lr s25 (Src.at_ 1 rfl) h174 0 rfl rfl) rfl <| tm rfl <| bE hp fun x177 hy154 hp => tc 0 [_,_,_,_,_,_,_] rfl c32 (fun _ => fettlelaw05_Ints_ok (a1 := x169) (a4 := x165) (h176.mono (subB 1 rfl)) (h168.ro.mono (subB 6 rfl)) hy154) rfl ?_
         rintro _ _ ⟨rfl, rfl⟩
         refine tv (rv_not rfl) rfl <| nz <| cB rfl hp (fun hc156 hp => ?_) fun hc156 hp => ?_
         · refine sr <| ta rfl <| nz <| TC.ret ?_
           obtain rfl := ex_ret hp hx35
           exact rt hr33 [] ⟨rfl, rfl⟩
         · exact sk k143 rfl <| TC.region <| tm rfl <| tv (bad rfl rfl) rfl <| ta rfl <| nl <| gk hp [0, 1, 2, 3, 4, 5] ⟨_, ovr_eq _ _ rfl, rfl⟩
        refine W.new0 <| lp hz148 [1, 2, 3, 4, 5, 6, 0] rfl (fun s e L => ∃ x160 x164 v161 F162 e146, s = (x160, x164) ∧ SlO 3 (kInt .i64) x160 v161 F162 ∧ e = ovr e146 [(1, .pointer (some ⟨b4, 0, none⟩)), (3, .bool x5), (5, v8), (6, v12), (7, v16), (9, v24), (10, v28), (11, .int .i64 x31), (12, v161), (13, .int .i64 x164)] ∧ L = [bx b4 35 [v2], F9, F13, F17, F25, F29, F162]) ⟨_, _, (.slice none 0 0), ([] : FP), _, rfl, (SlO.nil 3), ovr_eq _ _ rfl, rfl⟩ ?_
        rintro _ _ _ ⟨x160, x164, v161, F162, e146, rfl, h163, rfl, rfl⟩ X150 hp hx151
        replace hp : fettlelaw09_CallsTells.bd151 a1 x7 x31 x160 x164 = some X150 := hp
        refine TC.seq fun K159 k160 => sr <| tm rfl <| tm rfl <| tv (ln u60 h10.ro rfl) rfl <| tv (blt rfl rfl) rfl <| nz <| cD rfl hp (fun hc161 hp => ?_) fun hc161 hp => ?_
        · refine sk k160 rfl <| TC.seq fun K162 k163 => ?_
          have J165 {x178 v179 F180 e164} (h181 : SlO 3 (kInt .i64) x178 v179 F180) (hp : fettlelaw09_CallsTells.jn165 x164 x178 = some X150) : ∀ w, St E H [bx b4 35 [v2], F9, F13, F17, F25, F29, F180] w → K162 (ovr e164 [(1, .pointer (some ⟨b4, 0, none⟩)), (3, .bool x5), (5, v8), (6, v12), (7, v16), (9, v24), (10, v28), (11, .int .i64 x31), (12, v179), (13, .int .i64 x164)]) w := by
           exact tg k163 <| TC.region <| tm rfl <| tv (bad rfl rfl) rfl <| ta rfl <| nl <| gk hp [0, 1, 2, 3, 4, 5, 6] ⟨_, _, v179, F180, _, rfl, h181, ovr_eq _ _ rfl, rfl⟩
          refine TC.block <| sr <| tv (lA (ds := [v2]) ag_35 0 rfl rfl rfl rfl) rfl <| tm rfl <| tm rfl <| bE hp fun x182 hy166 hp => tc 0 [_,_,_,_,_,_,_] rfl c31 (fun _ => fettleref09_Calls_ok (a1 := a1) (a4 := x31) (a5 := x164) (h3.mono subH) hy166) rfl ?_
          rintro _ _ ⟨rfl, rfl⟩
          refine ta rfl <| nz <| sr <| tm rfl <| nz <| cB rfl hp (fun hc168 hp => ?_) fun hc168 hp => ?_
          · exact TC.region <| tm rfl <| tm rfl <| tbs [(0, .int .i64 x164)] [.int .i64 x164] u25 i3 (by kernel_rfl) rfl rfl rfl rfl fun b183 => tp [7, 0, 1, 2, 3, 4, 5, 6] [_,_,_,_,_,_,_,_] rfl rfl <| tf 2 0 [_,_,_,_,_,_,_,_,_] rfl <| tp2 u25 i3 h163 hp (RepL.to (RepL.cons (k := (kInt .i64)) (x := x164) ⟨rfl, rfl⟩ RepL.nil) rfl) rfl rfl rfl rfl rfl rfl rfl rfl rfl fun x184 v185 F186 h187 hp => ta rfl <| nl <| jn [1, 2, 3, 4, 5, 6, 0] (J165 h187 hp)
          · exact TC.skip <| jn [0, 1, 2, 3, 4, 5, 6] (J165 h163 hp)
        · exact TC.exit <| jn [0, 1, 2, 3, 4, 5, 6] (J157 h163 (ex_ret hp hx151))
      · exact TC.exit <| jn [2, 3, 4, 5] (J137 (ex_ret hp hx35))
   by_cases hc25 : ¬ (len x7) = (len a1.funcs)
   · exact gn rfl (bT hc25) rfl rfl <| gn rfl (bT hc25) rfl rfl <| gn rfl (bT hc25) rfl rfl <| gn rfl (bT hc25) rfl rfl <| gn rfl (bT hc25) rfl rfl <| tv (pT (bT hc25)) rfl <| nj J24 (bOt hc25)
   · exact gy rfl (bF hc25) <| tm rfl <| gy rfl (bF hc25) <| tv (ln u60 h14.ro rfl) rfl <| gy rfl (bF hc25) <| tm rfl <| gy rfl (bF hc25) <| tv (ln u60 h26.ro rfl) rfl <| gy rfl (bF hc25) <| tv (bne rfl rfl) rfl <| tv (pF (bF hc25)) rfl <| nj J24 (bOf hc25)
end Go.Proofs.Yteaknconpkklhaa
