/- The walk through the program's functions: each one's pure reading, and that a call does what it says. No conditions. -/
import Derived.Test.YtpomfbdbkejedaaGreatDoorZ9
set_option linter.unusedVariables false
set_option linter.unusedSimpArgs false
namespace Go.Proofs.YtpomfbdbkejedaaGreatDoor
open Go Go.Proofs

/-! ### fettle/fettleref09.Calls -/
abbrev fettleref09_Calls.R (r : Bool) (v : Value) (A : List FP) : Prop := .bool r = v ∧ A = []
def fettleref09_Calls.nx8  : Option Bool :=
  some false
def fettleref09_Calls.nx25 (x7 : Int) : Option (Ex (Ex Bool Unit) Int) :=
  some (.go (w64 (x7 + 1)))
def fettleref09_Calls.bd25 (a5 : Int) (x28 : PBlock) (x40 : Int) : Option (Ex (Ex Bool Unit) Int) :=
  if x40 < (len x28.ins) then
    (idx x28.ins x40).bind fun x41 =>
    (if x41.op = 17 then (idx x28.ins x40).bind fun x50 =>
    some (decide (x50.fn = a5)) else some false).bind fun t49 =>
    if t49 = true then
      some (.ret (.ret true))
    else
      some (.go (w64 (x40 + 1)))
  else
    some (.ret (.go ()))
def fettleref09_Calls.bd8 (a1 : PModule) (a4 : Int) (a5 : Int) (x7 : Int) : Option (Ex (Ex Bool Unit) Int) :=
  (idx a1.funcs a4).bind fun x8 =>
  if x7 < (len x8.blocks) then
    (idx a1.funcs a4).bind fun x18 =>
    (idx x18.blocks x7).bind fun x28 =>
    (whl (fun (s : Int) => fettleref09_Calls.bd25 a5 x28 s) FUEL 0).bind fun z =>
    match z with
      | .ret r => some (.ret (.ret r))
      | .go p => fettleref09_Calls.nx25 x7
  else
    some (.ret (.go ()))
def fettleref09_Calls (a1 : PModule) (a4 : Int) (a5 : Int) : Option Bool :=
  (whl (fun (s : Int) => fettleref09_Calls.bd8 a1 a4 a5 s) FUEL 0).bind fun z =>
  match z with
    | .ret r => some r
    | .go p => fettleref09_Calls.nx8
set_option maxHeartbeats 4000000 in
theorem fettleref09_Calls_ok {E : World} {H : FP} {w : World} {a1 : PModule} {a4 : Int} {a5 : Int} {v2 : Value} {r : Bool} (h3 : SlI kFunc H a1.funcs v2) (hp : fettleref09_Calls a1 a4 a5 = some r) (hst : St E H [] w) :
    Fn Tryz.prog 44 #[.agg #[v2], .int .i64 a4, .int .i64 a5] w fun v w' => ∃ A, fettleref09_Calls.R r v A ∧ St E H A w' := by
 refine fb 52 [.tmp 6] Tryz.func44 rfl rfl rfl rfl rfl hst <| sr <| tb [v2] rfl rfl fun b6 => ta rfl <| nz <| TC.seq fun K1 k2 => sr <| ta rfl <| nz <| TC.block <| bE hp fun z_4 hz5 hr6 => ?_
 have J10 {e9} (hq11 : .go () = z_4) : ∀ w, St E H [] w → K1 (ovr e9 []) w := by
  subst hq11
  replace hp : fettleref09_Calls.nx8 = some r := hr6
  exact tg k2 <| sr <| ta rfl <| nz <| TC.ret <| rt hp [] ⟨rfl, rfl⟩
 refine lp hz5 [0] rfl (fun s e L => ∃ e3, e = ovr e3 [(1, .int .i64 a4), (2, .int .i64 a5), (3, .pointer (some ⟨b6, 0, none⟩)), (7, .int .i64 s)] ∧ L = [bx b6 24 [v2]]) ⟨_, ovr_eq _ _ rfl, rfl⟩ ?_
 rintro x7 _ _ ⟨e3, rfl, rfl⟩ X7 hp hx8
 replace hp : fettleref09_Calls.bd8 a1 a4 a5 x7 = some X7 := hp
 refine TC.seq fun K12 k13 => sr <| tm rfl <| tv (fa f24_0 rfl) rfl <| tv (lb s22 0 rfl rfl rfl) rfl <| tm rfl <| ti u22 i47 h3 hp rfl rfl rfl rfl ?_
 rintro x8 b9 o10 _ hp ⟨v14, v16, rfl, h15, h17⟩ h13
 refine tv (fa f47_3 rfl) rfl <| tv (lr s45 sH h13 3 rfl rfl) rfl <| tv (ln u45 h17 rfl) rfl <| tv (blt rfl rfl) rfl <| nz <| cD rfl hp (fun hc15 hp => ?_) fun hc15 hp => ?_
 · refine sk k13 rfl <| TC.seq fun K16 k17 => TC.block <| sr <| tv (fa f24_0 rfl) rfl <| tv (lb s22 0 rfl rfl rfl) rfl <| tm rfl <| ti u22 i47 h3 hp rfl rfl rfl rfl ?_
   rintro x18 b19 o20 _ hp ⟨v24, v26, rfl, h25, h27⟩ h23
   refine tv (fa f47_3 rfl) rfl <| tv (lr s45 sH h23 3 rfl rfl) rfl <| tm rfl <| ti u45 i44 h27 hp rfl rfl rfl rfl ?_
   rintro x28 b29 o30 _ hp ⟨v34, v36, v38, rfl, h35, h37, h39⟩ h33
   refine tv (fa f44_1 rfl) rfl <| tv (lr s42 sH h33 1 rfl rfl) rfl <| ta rfl <| nz <| sr <| ta rfl <| nz <| TC.block <| bE hp fun z_21 hz22 hr23 => ?_
   have J27 {e26} (hq28 : .go () = z_21) : ∀ w, St E H [bx b6 24 [v2]] w → K16 (ovr e26 [(1, .int .i64 a4), (2, .int .i64 a5), (3, .pointer (some ⟨b6, 0, none⟩)), (7, .int .i64 x7)]) w := by
    subst hq28
    replace hp : fettleref09_Calls.nx25 x7 = some X7 := hr23
    exact tg k17 <| TC.region <| tm rfl <| tv (bad rfl rfl) rfl <| ta rfl <| nl <| gk hp [0] ⟨_, ovr_eq _ _ rfl, rfl⟩
   refine lp hz22 [0] rfl (fun s e L => ∃ e20, e = ovr e20 [(1, .int .i64 a4), (2, .int .i64 a5), (3, .pointer (some ⟨b6, 0, none⟩)), (7, .int .i64 x7), (8, v36), (9, .int .i64 s)] ∧ L = [bx b6 24 [v2]]) ⟨_, ovr_eq _ _ rfl, rfl⟩ ?_
   rintro x40 _ _ ⟨e20, rfl, rfl⟩ X24 hp hx25
   replace hp : fettleref09_Calls.bd25 a5 x28 x40 = some X24 := hp
   refine TC.seq fun K29 k30 => sr <| tm rfl <| tm rfl <| tv (ln u42 h37 rfl) rfl <| tv (blt rfl rfl) rfl <| nz <| cD rfl hp (fun hc31 hp => ?_) fun hc31 hp => ?_
   · refine sk k30 rfl <| TC.seq fun K32 k33 => TC.block <| sr <| tm rfl <| tm rfl <| ti u42 i50 h37 hp rfl rfl rfl rfl ?_
     rintro x41 b42 o43 _ hp ⟨v47, rfl, h48⟩ h46
     refine tv (fa f50_0 rfl) rfl <| tv (lr s3 sH h46 0 rfl rfl) rfl <| tv (beq rfl rfl) rfl <| tm rfl <| bE hp fun t49 ht41 hp => TL.cut 8 fun K35 k36 => ?_
     have J37 {e39} : ∀ w, St E H [bx b6 24 [v2]] w → K35 (ovr e39 [(51, .bool t49), (1, .int .i64 a4), (2, .int .i64 a5), (3, .pointer (some ⟨b6, 0, none⟩)), (7, .int .i64 x7), (8, v36), (9, .int .i64 x40)]) w := by
      refine tlg k36 <| nz <| cB rfl hp (fun hc40 hp => ?_) fun hc40 hp => ?_
      · refine sr <| ta rfl <| nz <| TC.ret ?_
        obtain rfl := ex_ret hp hx25
        obtain rfl := ex_ret hr23 hx8
        exact rt hr6 [] ⟨rfl, rfl⟩
      · exact sk k33 rfl <| TC.region <| tm rfl <| tv (bad rfl rfl) rfl <| ta rfl <| nl <| gk hp [0] ⟨_, ovr_eq _ _ rfl, rfl⟩
     refine ifE ht41 (fun hc38 hp => ?_) fun hc38 hp => ?_
     · refine gy rfl (bT hc38) <| tm rfl <| gy rfl (bT hc38) <| tm rfl <| gy rfl (bT hc38) <| ti u42 i50 h37 hp rfl rfl rfl rfl ?_
       rintro x50 b51 o52 _ hp ⟨v56, rfl, h57⟩ h55
       refine gy rfl (bT hc38) <| tv (fa f50_4 rfl) rfl <| gy rfl (bT hc38) <| tv (lr s3 sH h55 4 rfl rfl) rfl <| gy rfl (bT hc38) <| tm rfl <| gy rfl (bT hc38) <| tv (beq rfl rfl) rfl <| tv (pT (bT hc38)) rfl ?_
       obtain rfl := Option.some.inj hp
       exact nj J37 rfl
     · refine gn rfl (bF hc38) rfl rfl <| gn rfl (bF hc38) rfl rfl <| gn rfl (bF hc38) rfl rfl <| gn rfl (bF hc38) rfl rfl <| gn rfl (bF hc38) rfl rfl <| gn rfl (bF hc38) rfl rfl <| gn rfl (bF hc38) rfl rfl <| tv (pF (bF hc38)) rfl ?_
       obtain rfl := Option.some.inj hp
       exact nj J37 rfl
   · exact TC.exit <| jn [0] (J27 (ex_ret hp hx25))
 · exact TC.exit <| jn [] (J10 (ex_ret hp hx8))

/-! ### fettle/fettleref09.To -/
abbrev fettleref09_To.R (r : List (List Bool)) (v : Value) (A : List FP) : Prop := ∃ (w1 : Value) (G1 : FP), w1 = v ∧ A = [G1] ∧ SlO 69 (kSl 4 kBool) r w1 G1
def fettleref09_To.nx17  (x18 : List (List Bool)) : Option (List (List Bool)) :=
  some x18
def fettleref09_To.nx31 (x17 : Int) (x25 : List (List Bool)) : Option (Ex (List (List Bool)) (List (List Bool) × Int)) :=
  some (.go (x25, (w64 (x17 + 1))))
def fettleref09_To.nx45 (x24 : Int) (x32 : List (List Bool)) : Option (Ex (List (List Bool)) (List (List Bool) × Int)) :=
  some (.go (x32, (w64 (x24 + 1))))
def fettleref09_To.jn55 (x31 : Int) (x35 : List (List Bool)) : Option (Ex (List (List Bool)) (List (List Bool) × Int)) :=
  some (.go (x35, (w64 (x31 + 1))))
def fettleref09_To.bd45 (x17 : Int) (x24 : Int) (x28 : List (List Bool)) (x31 : Int) : Option (Ex (List (List Bool)) (List (List Bool) × Int)) :=
  if x31 < (len x28) then
    (idx x28 x24).bind fun x839 =>
    (idx x28 x24).bind fun x2839 =>
    (idx x2839 x31).bind fun x4039 =>
    if x4039 = true then
      (idx x839 x31).bind fun x12039 =>
      fettleref09_To.jn55 x31 (x28.set (x24).toNat (x839.set (x31).toNat true))
    else
      (idx x28 x24).bind fun x6039 =>
      (idx x6039 x17).bind fun x7239 =>
      if x7239 = true then
        (idx x28 x17).bind fun x9239 =>
        (idx x9239 x31).bind fun x10439 =>
        (idx x839 x31).bind fun x12039 =>
        fettleref09_To.jn55 x31 (x28.set (x24).toNat (x839.set (x31).toNat x10439))
      else
        (idx x839 x31).bind fun x12039 =>
        fettleref09_To.jn55 x31 (x28.set (x24).toNat (x839.set (x31).toNat false))
  else
    some (.ret x28)
def fettleref09_To.bd31 (x17 : Int) (x21 : List (List Bool)) (x24 : Int) : Option (Ex (List (List Bool)) (List (List Bool) × Int)) :=
  if x24 < (len x21) then
    (whl (fun (s : (List (List Bool) × Int)) => fettleref09_To.bd45 x17 x24 s.1 s.2) FUEL (x21, 0)).bind fun z =>
    fettleref09_To.nx45 x24 z
  else
    some (.ret x21)
def fettleref09_To.bd17  (x14 : List (List Bool)) (x17 : Int) : Option (Ex (List (List Bool)) (List (List Bool) × Int)) :=
  if x17 < (len x14) then
    (whl (fun (s : (List (List Bool) × Int)) => fettleref09_To.bd31 x17 s.1 s.2) FUEL (x14, 0)).bind fun z =>
    fettleref09_To.nx31 x17 z
  else
    some (.ret x14)
def fettleref09_To.nx8  (x10 : List (List Bool)) : Option (List (List Bool)) :=
  (whl (fun (s : (List (List Bool) × Int)) => fettleref09_To.bd17 s.1 s.2) FUEL (x10, 0)).bind fun z =>
  fettleref09_To.nx17 z
def fettleref09_To.nx254 (x5 : List (List Bool)) (x9 : Int) (x12849 : List Bool) : Option (Ex (List (List Bool)) (List (List Bool) × Int)) :=
  (cat x5 [x12849]).bind fun x12853 =>
  some (.go (x12853, (w64 (x9 + 1))))
def fettleref09_To.bd254 (a1 : PModule) (x9 : Int) (x12845 : List Bool) (x12848 : Int) : Option (Ex (List Bool) (List Bool × Int)) :=
  if x12848 < (len x12845) then
    (fettleref09_Calls a1 x9 x12848).bind fun x12857 =>
    (idx x12845 x12848).bind fun x12858 =>
    some (.go ((x12845.set (x12848).toNat x12857), (w64 (x12848 + 1))))
  else
    some (.ret x12845)
def fettleref09_To.bd8 (a1 : PModule) (x5 : List (List Bool)) (x9 : Int) : Option (Ex (List (List Bool)) (List (List Bool) × Int)) :=
  if x9 < (len a1.funcs) then
    (mkl (len a1.funcs) false).bind fun x12841 =>
    (whl (fun (s : (List Bool × Int)) => fettleref09_To.bd254 a1 x9 s.1 s.2) FUEL (x12841, 0)).bind fun z =>
    fettleref09_To.nx254 x5 x9 z
  else
    some (.ret x5)
def fettleref09_To (a1 : PModule) : Option (List (List Bool)) :=
  (whl (fun (s : (List (List Bool) × Int)) => fettleref09_To.bd8 a1 s.1 s.2) FUEL (([] : List (List Bool)), 0)).bind fun z =>
  fettleref09_To.nx8 z
set_option maxHeartbeats 4000000 in
theorem fettleref09_To_ok {E : World} {H : FP} {w : World} {a1 : PModule} {v2 : Value} {r : List (List Bool)} (h3 : SlI kFunc H a1.funcs v2) (hp : fettleref09_To a1 = some r) (hst : St E H [] w) :
    Fn Tryz.prog 21 #[.agg #[v2]] w fun v w' => ∃ A, fettleref09_To.R r v A ∧ St E H A w' := by
 refine fb 88 [.tmp 2] Tryz.func21 rfl rfl rfl rfl rfl hst <| sr <| tb [v2] rfl rfl fun b4 => ta rfl <| nz <| sr <| ta rfl <| nz <| TC.seq fun K1 k2 => sr <| ta rfl <| nz <| TC.block <| bE hp fun z_4 hz5 hr6 => ?_
 have J239 {x10 v11 F12 e9} (h13 : SlO 69 (kSl 4 kBool) x10 v11 F12) (hq240 : x10 = z_4) : ∀ w, St E H [F12] w → K1 (ovr e9 [(3, v11)]) w := by
  subst hq240
  replace hp : fettleref09_To.nx8 x10 = some r := hr6
  refine tg k2 <| TC.seq fun K10 k11 => sr <| ta rfl <| nz <| TC.block <| bE hp fun z_13 hz14 hr15 => ?_
  have J19 {x18 F19 e18} (h20 : SlO 69 (kSl 4 kBool) x18 v11 F19) (hq20 : x18 = z_13) : ∀ w, St E H [F19] w → K10 (ovr e18 [(3, v11)]) w := by
   subst hq20
   replace hp : fettleref09_To.nx17 x18 = some r := hr15
   exact tg k11 <| sr <| tm rfl <| ta rfl <| nz <| TC.ret <| rt hp [0] ⟨v11, F19, rfl, rfl, h20⟩
  refine lp hz14 [0] rfl (fun s e L => ∃ x14 x17 F15 e12, s = (x14, x17) ∧ SlO 69 (kSl 4 kBool) x14 v11 F15 ∧ e = ovr e12 [(3, v11), (7, .int .i64 x17)] ∧ L = [F15]) ⟨_, _, F12, _, rfl, h13, ovr_eq _ _ rfl, rfl⟩ ?_
  rintro _ _ _ ⟨x14, x17, F15, e12, rfl, h16, rfl, rfl⟩ X16 hp hx17
  replace hp : fettleref09_To.bd17 x14 x17 = some X16 := hp
  refine TC.seq fun K21 k22 => sr <| tm rfl <| tm rfl <| tv (ln u67 h16.ro rfl) rfl <| tv (blt rfl rfl) rfl <| nz <| cD rfl hp (fun hc23 hp => ?_) fun hc23 hp => ?_
  · refine sk k22 rfl <| TC.seq fun K24 k25 => TC.block <| sr <| ta rfl <| nz <| TC.block <| bE hp fun z_27 hz28 hr29 => ?_
    have J33 {x25 F26 e32} (h27 : SlO 69 (kSl 4 kBool) x25 v11 F26) (hq34 : x25 = z_27) : ∀ w, St E H [F26] w → K24 (ovr e32 [(3, v11), (7, .int .i64 x17)]) w := by
     subst hq34
     replace hp : fettleref09_To.nx31 x17 x25 = some X16 := hr29
     exact tg k25 <| TC.region <| tm rfl <| tv (bad rfl rfl) rfl <| ta rfl <| nl <| gk hp [0] ⟨_, _, F26, _, rfl, h27, ovr_eq _ _ rfl, rfl⟩
    refine lp hz28 [0] rfl (fun s e L => ∃ x21 x24 F22 e26, s = (x21, x24) ∧ SlO 69 (kSl 4 kBool) x21 v11 F22 ∧ e = ovr e26 [(3, v11), (7, .int .i64 x17), (8, .int .i64 x24)] ∧ L = [F22]) ⟨_, _, F15, _, rfl, h16, ovr_eq _ _ rfl, rfl⟩ ?_
    rintro _ _ _ ⟨x21, x24, F22, e26, rfl, h23, rfl, rfl⟩ X30 hp hx31
    replace hp : fettleref09_To.bd31 x17 x21 x24 = some X30 := hp
    refine TC.seq fun K35 k36 => sr <| tm rfl <| tm rfl <| tv (ln u67 h23.ro rfl) rfl <| tv (blt rfl rfl) rfl <| nz <| cD rfl hp (fun hc37 hp => ?_) fun hc37 hp => ?_
    · refine sk k36 rfl <| TC.seq fun K38 k39 => TC.block <| sr <| ta rfl <| nz <| TC.block <| bE hp fun z_41 hz42 hr43 => ?_
      have J47 {x32 F33 e46} (h34 : SlO 69 (kSl 4 kBool) x32 v11 F33) (hq48 : x32 = z_41) : ∀ w, St E H [F33] w → K38 (ovr e46 [(3, v11), (7, .int .i64 x17), (8, .int .i64 x24)]) w := by
       subst hq48
       replace hp : fettleref09_To.nx45 x24 x32 = some X30 := hr43
       exact tg k39 <| TC.region <| tm rfl <| tv (bad rfl rfl) rfl <| ta rfl <| nl <| gk hp [0] ⟨_, _, F33, _, rfl, h34, ovr_eq _ _ rfl, rfl⟩
      refine lp hz42 [0] rfl (fun s e L => ∃ x28 x31 F29 e40, s = (x28, x31) ∧ SlO 69 (kSl 4 kBool) x28 v11 F29 ∧ e = ovr e40 [(3, v11), (7, .int .i64 x17), (8, .int .i64 x24), (9, .int .i64 x31)] ∧ L = [F29]) ⟨_, _, F22, _, rfl, h23, ovr_eq _ _ rfl, rfl⟩ ?_
      rintro _ _ _ ⟨x28, x31, F29, e40, rfl, h30, rfl, rfl⟩ X44 hp hx45
      replace hp : fettleref09_To.bd45 x17 x24 x28 x31 = some X44 := hp
      refine TC.seq fun K49 k50 => sr <| tm rfl <| tm rfl <| tv (ln u67 h30.ro rfl) rfl <| tv (blt rfl rfl) rfl <| nz <| cD rfl hp (fun hc51 hp => ?_) fun hc51 hp => ?_
      · refine sk k50 rfl <| TC.seq fun K52 k53 => ?_
        have J55 {x35 F36 e54} (h37 : SlO 69 (kSl 4 kBool) x35 v11 F36) (hp : fettleref09_To.jn55 x31 x35 = some X44) : ∀ w, St E H [F36] w → K52 (ovr e54 [(3, v11), (7, .int .i64 x17), (8, .int .i64 x24), (9, .int .i64 x31)]) w := by
         exact tg k53 <| TC.region <| tm rfl <| tv (bad rfl rfl) rfl <| ta rfl <| nl <| gk hp [0] ⟨_, _, F36, _, rfl, h37, ovr_eq _ _ rfl, rfl⟩
        refine TC.block <| ch mix [] srcG0 <| hv 0 rfl mv (by kernel_rfl) rfl <| hv 1 rfl mv (by kernel_rfl) rfl <| bE hp fun x839 hx56 hp => hP 2 rfl u67 i69 h30 hx56 rfl rfl rfl (by kernel_rfl) rfl fun b840 o841 h842 => hv 4 rfl mv (by kernel_rfl) rfl <| hv 5 rfl mv (by kernel_rfl) rfl <| hv 6 rfl mv (by kernel_rfl) rfl <| hi 7 rfl u67 i69 (h30).ro hp rfl rfl rfl (by kernel_rfl) rfl ?_
        rintro x2839 b2840 o2841 _ hp ⟨v2845, rfl, h2846⟩ h2844
        refine hv 9 rfl mv (by kernel_rfl) rfl <| HL.all [3, 8] (by kernel_rfl) (by simp) (HL.al ⟨_, rfl, fun K58 k59 => ?_⟩ (HL.al ⟨_, rfl, fun K94 k95 => ?_⟩ HL.al0))
        · refine tLP h30 hx56 h842 s69 (Src.at_ 0 rfl) rfl rfl fun v1239 h1240 h1241 => hk k59 srcG0 <| ho 8 rfl (by kernel_rfl) fun K60 k61 => tv (lr s69 (Src.at_ 0 rfl) h2844 0 rfl rfl) rfl <| hk k61 srcG0 <| hi 10 rfl u69 i4 h2846 hp rfl rfl rfl (by kernel_rfl) rfl ?_
          rintro x4039 b4040 o4041 _ hp rfl h4044
          refine ho 11 rfl (by kernel_rfl) fun K63 k64 => tv (lr s4 (Src.at_ 0 rfl) h4044 0 rfl rfl) rfl <| hk k64 srcG0 <| hv 12 rfl mv (by kernel_rfl) rfl <| ifE hp (fun hc65 hp => ?_) fun hc65 hp => ?_
          · exact hn 13 rfl rfl (bbT hc65) rfl (by kernel_rfl) rfl <| hn 14 rfl rfl (bbT hc65) rfl (by kernel_rfl) rfl <| hn 15 rfl rfl (bbT hc65) rfl (by kernel_rfl) rfl <| hn 16 rfl rfl (bbT hc65) rfl (by kernel_rfl) rfl <| hn 17 rfl rfl (bbT hc65) rfl (by kernel_rfl) rfl <| hn 18 rfl rfl (bbT hc65) rfl (by kernel_rfl) rfl <| hn 19 rfl rfl (bbT hc65) rfl (by kernel_rfl) rfl <| hn 20 rfl rfl (bbT hc65) rfl (by kernel_rfl) rfl <| hu 21 rfl rfl rfl (by kernel_rfl) rfl <| hu 22 rfl rfl rfl (by kernel_rfl) rfl <| hu 23 rfl rfl rfl (by kernel_rfl) rfl <| hu 24 rfl rfl rfl (by kernel_rfl) rfl <| hu 25 rfl rfl rfl (by kernel_rfl) rfl <| hu 26 rfl rfl rfl (by kernel_rfl) rfl <| hu 27 rfl rfl rfl (by kernel_rfl) rfl <| hn 28 rfl rfl (bbT hc65) rfl (by kernel_rfl) rfl <| hv 29 rfl (pT (bbT hc65)) (by kernel_rfl) rfl <| ho 30 rfl (by kernel_rfl) fun K66 k67 => TL.openL h30 hx56 h842 h1241 fun F12040 F12041 h12042 h12043 => tO u69 i4 h12043 hp rfl rfl rfl rfl fun x12039 b12044 o12045 h12046 hp => hk k67 srcG0 <| ho 31 rfl (by kernel_rfl) fun K69 k70 => tp [1, 0] [_,_] rfl rfl <| tE h12043 h12046 m4 rfl ⟨rfl, rfl⟩ w1 fun F12439 h12440 => hk k70 srcG0 <| hz (by kernel_rfl) <| wp [1, 0] [_,_] rfl rfl <| W.shut (a := (x839.set (x31).toNat true)) h12042 ⟨_, rfl, h12440⟩ fun F12839 h12840 => jn [0] (J55 h12840 hp)
          · refine hw 13 rfl rfl (bbF hc65) mv (by kernel_rfl) rfl <| hw 14 rfl rfl (bbF hc65) mv (by kernel_rfl) rfl <| gi 15 rfl rfl (bbF hc65) u67 i69 (h30).ro hp rfl rfl rfl (by kernel_rfl) rfl ?_
            rintro x6039 b6040 o6041 _ hp ⟨v6045, rfl, h6046⟩ h6044
            refine hw 17 rfl rfl (bbF hc65) mv (by kernel_rfl) rfl <| ho 16 rfl (by kernel_rfl) fun K72 k73 => gy rfl (bbF hc65) <| tv (lr s69 (Src.at_ 0 rfl) h6044 0 rfl rfl) rfl <| hk k73 srcG0 <| gi 18 rfl rfl (bbF hc65) u69 i4 h6046 hp rfl rfl rfl (by kernel_rfl) rfl ?_
            rintro x7239 b7240 o7241 _ hp rfl h7244
            refine ho 19 rfl (by kernel_rfl) fun K75 k76 => gy rfl (bbF hc65) <| tv (lr s4 (Src.at_ 0 rfl) h7244 0 rfl rfl) rfl <| hk k76 srcG0 <| hw 20 rfl rfl (bbF hc65) mv (by kernel_rfl) rfl <| ifE hp (fun hc77 hp => ?_) fun hc77 hp => ?_
            · refine hw 21 rfl rfl (bbT hc77) mv (by kernel_rfl) rfl <| hw 22 rfl rfl (bbT hc77) mv (by kernel_rfl) rfl <| gi 23 rfl rfl (bbT hc77) u67 i69 (h30).ro hp rfl rfl rfl (by kernel_rfl) rfl ?_
              rintro x9239 b9240 o9241 _ hp ⟨v9245, rfl, h9246⟩ h9244
              refine hw 25 rfl rfl (bbT hc77) mv (by kernel_rfl) rfl <| ho 24 rfl (by kernel_rfl) fun K79 k80 => gy rfl (bbT hc77) <| tv (lr s69 (Src.at_ 0 rfl) h9244 0 rfl rfl) rfl <| hk k80 srcG0 <| gi 26 rfl rfl (bbT hc77) u69 i4 h9246 hp rfl rfl rfl (by kernel_rfl) rfl ?_
              rintro x10439 b10440 o10441 _ hp rfl h10444
              exact ho 27 rfl (by kernel_rfl) fun K82 k83 => gy rfl (bbT hc77) <| tv (lr s4 (Src.at_ 0 rfl) h10444 0 rfl rfl) rfl <| hk k83 srcG0 <| hw 28 rfl rfl (bbF hc65) (pT (bbT hc77)) (by kernel_rfl) rfl <| hv 29 rfl (pF (bbF hc65)) (by kernel_rfl) rfl <| ho 30 rfl (by kernel_rfl) fun K84 k85 => TL.openL h30 hx56 h842 h1241 fun F12040 F12041 h12042 h12043 => tO u69 i4 h12043 hp rfl rfl rfl rfl fun x12039 b12044 o12045 h12046 hp => hk k85 srcG0 <| ho 31 rfl (by kernel_rfl) fun K87 k88 => tp [1, 0] [_,_] rfl rfl <| tE h12043 h12046 m4 rfl ⟨rfl, rfl⟩ w1 fun F12439 h12440 => hk k88 srcG0 <| hz (by kernel_rfl) <| wp [1, 0] [_,_] rfl rfl <| W.shut (a := (x839.set (x31).toNat x10439)) h12042 ⟨_, rfl, h12440⟩ fun F12839 h12840 => jn [0] (J55 h12840 hp)
            · exact hn 21 rfl rfl (bbF hc77) rfl (by kernel_rfl) rfl <| hn 22 rfl rfl (bbF hc77) rfl (by kernel_rfl) rfl <| hn 23 rfl rfl (bbF hc77) rfl (by kernel_rfl) rfl <| hn 24 rfl rfl (bbF hc77) rfl (by kernel_rfl) rfl <| hn 25 rfl rfl (bbF hc77) rfl (by kernel_rfl) rfl <| hn 26 rfl rfl (bbF hc77) rfl (by kernel_rfl) rfl <| hn 27 rfl rfl (bbF hc77) rfl (by kernel_rfl) rfl <| hw 28 rfl rfl (bbF hc65) (pF (bbF hc77)) (by kernel_rfl) rfl <| hv 29 rfl (pF (bbF hc65)) (by kernel_rfl) rfl <| ho 30 rfl (by kernel_rfl) fun K89 k90 => TL.openL h30 hx56 h842 h1241 fun F12040 F12041 h12042 h12043 => tO u69 i4 h12043 hp rfl rfl rfl rfl fun x12039 b12044 o12045 h12046 hp => hk k90 srcG0 <| ho 31 rfl (by kernel_rfl) fun K92 k93 => tp [1, 0] [_,_] rfl rfl <| tE h12043 h12046 m4 rfl ⟨rfl, rfl⟩ w1 fun F12439 h12440 => hk k93 srcG0 <| hz (by kernel_rfl) <| wp [1, 0] [_,_] rfl rfl <| W.shut (a := (x839.set (x31).toNat false)) h12042 ⟨_, rfl, h12440⟩ fun F12839 h12840 => jn [0] (J55 h12840 hp)
        · refine tv (lr s69 (Src.at_ 0 rfl) h2844 0 rfl rfl) rfl <| hk k95 srcG0 <| hi 10 rfl u69 i4 h2846 hp rfl rfl rfl (by kernel_rfl) rfl ?_
          rintro x4039 b4040 o4041 _ hp rfl h4044
          refine HL.all [3, 11] (by kernel_rfl) (by simp) (HL.al ⟨_, rfl, fun K97 k98 => ?_⟩ (HL.al ⟨_, rfl, fun K130 k131 => ?_⟩ HL.al0))
          · refine tLP h30 hx56 h842 s69 (Src.at_ 0 rfl) rfl rfl fun v1239 h1240 h1241 => hk k98 srcG0 <| ho 11 rfl (by kernel_rfl) fun K99 k100 => tv (lr s4 (Src.at_ 0 rfl) h4044 0 rfl rfl) rfl <| hk k100 srcG0 <| hv 12 rfl mv (by kernel_rfl) rfl <| ifE hp (fun hc101 hp => ?_) fun hc101 hp => ?_
            · exact hn 13 rfl rfl (bbT hc101) rfl (by kernel_rfl) rfl <| hn 14 rfl rfl (bbT hc101) rfl (by kernel_rfl) rfl <| hn 15 rfl rfl (bbT hc101) rfl (by kernel_rfl) rfl <| hn 16 rfl rfl (bbT hc101) rfl (by kernel_rfl) rfl <| hn 17 rfl rfl (bbT hc101) rfl (by kernel_rfl) rfl <| hn 18 rfl rfl (bbT hc101) rfl (by kernel_rfl) rfl <| hn 19 rfl rfl (bbT hc101) rfl (by kernel_rfl) rfl <| hn 20 rfl rfl (bbT hc101) rfl (by kernel_rfl) rfl <| hu 21 rfl rfl rfl (by kernel_rfl) rfl <| hu 22 rfl rfl rfl (by kernel_rfl) rfl <| hu 23 rfl rfl rfl (by kernel_rfl) rfl <| hu 24 rfl rfl rfl (by kernel_rfl) rfl <| hu 25 rfl rfl rfl (by kernel_rfl) rfl <| hu 26 rfl rfl rfl (by kernel_rfl) rfl <| hu 27 rfl rfl rfl (by kernel_rfl) rfl <| hn 28 rfl rfl (bbT hc101) rfl (by kernel_rfl) rfl <| hv 29 rfl (pT (bbT hc101)) (by kernel_rfl) rfl <| ho 30 rfl (by kernel_rfl) fun K102 k103 => TL.openL h30 hx56 h842 h1241 fun F12040 F12041 h12042 h12043 => tO u69 i4 h12043 hp rfl rfl rfl rfl fun x12039 b12044 o12045 h12046 hp => hk k103 srcG0 <| ho 31 rfl (by kernel_rfl) fun K105 k106 => tp [1, 0] [_,_] rfl rfl <| tE h12043 h12046 m4 rfl ⟨rfl, rfl⟩ w1 fun F12439 h12440 => hk k106 srcG0 <| hz (by kernel_rfl) <| wp [1, 0] [_,_] rfl rfl <| W.shut (a := (x839.set (x31).toNat true)) h12042 ⟨_, rfl, h12440⟩ fun F12839 h12840 => jn [0] (J55 h12840 hp)
            · refine hw 13 rfl rfl (bbF hc101) mv (by kernel_rfl) rfl <| hw 14 rfl rfl (bbF hc101) mv (by kernel_rfl) rfl <| gi 15 rfl rfl (bbF hc101) u67 i69 (h30).ro hp rfl rfl rfl (by kernel_rfl) rfl ?_
              rintro x6039 b6040 o6041 _ hp ⟨v6045, rfl, h6046⟩ h6044
              refine hw 17 rfl rfl (bbF hc101) mv (by kernel_rfl) rfl <| ho 16 rfl (by kernel_rfl) fun K108 k109 => gy rfl (bbF hc101) <| tv (lr s69 (Src.at_ 0 rfl) h6044 0 rfl rfl) rfl <| hk k109 srcG0 <| gi 18 rfl rfl (bbF hc101) u69 i4 h6046 hp rfl rfl rfl (by kernel_rfl) rfl ?_
              rintro x7239 b7240 o7241 _ hp rfl h7244
              refine ho 19 rfl (by kernel_rfl) fun K111 k112 => gy rfl (bbF hc101) <| tv (lr s4 (Src.at_ 0 rfl) h7244 0 rfl rfl) rfl <| hk k112 srcG0 <| hw 20 rfl rfl (bbF hc101) mv (by kernel_rfl) rfl <| ifE hp (fun hc113 hp => ?_) fun hc113 hp => ?_
              · refine hw 21 rfl rfl (bbT hc113) mv (by kernel_rfl) rfl <| hw 22 rfl rfl (bbT hc113) mv (by kernel_rfl) rfl <| gi 23 rfl rfl (bbT hc113) u67 i69 (h30).ro hp rfl rfl rfl (by kernel_rfl) rfl ?_
                rintro x9239 b9240 o9241 _ hp ⟨v9245, rfl, h9246⟩ h9244
                refine hw 25 rfl rfl (bbT hc113) mv (by kernel_rfl) rfl <| ho 24 rfl (by kernel_rfl) fun K115 k116 => gy rfl (bbT hc113) <| tv (lr s69 (Src.at_ 0 rfl) h9244 0 rfl rfl) rfl <| hk k116 srcG0 <| gi 26 rfl rfl (bbT hc113) u69 i4 h9246 hp rfl rfl rfl (by kernel_rfl) rfl ?_
                rintro x10439 b10440 o10441 _ hp rfl h10444
                exact ho 27 rfl (by kernel_rfl) fun K118 k119 => gy rfl (bbT hc113) <| tv (lr s4 (Src.at_ 0 rfl) h10444 0 rfl rfl) rfl <| hk k119 srcG0 <| hw 28 rfl rfl (bbF hc101) (pT (bbT hc113)) (by kernel_rfl) rfl <| hv 29 rfl (pF (bbF hc101)) (by kernel_rfl) rfl <| ho 30 rfl (by kernel_rfl) fun K120 k121 => TL.openL h30 hx56 h842 h1241 fun F12040 F12041 h12042 h12043 => tO u69 i4 h12043 hp rfl rfl rfl rfl fun x12039 b12044 o12045 h12046 hp => hk k121 srcG0 <| ho 31 rfl (by kernel_rfl) fun K123 k124 => tp [1, 0] [_,_] rfl rfl <| tE h12043 h12046 m4 rfl ⟨rfl, rfl⟩ w1 fun F12439 h12440 => hk k124 srcG0 <| hz (by kernel_rfl) <| wp [1, 0] [_,_] rfl rfl <| W.shut (a := (x839.set (x31).toNat x10439)) h12042 ⟨_, rfl, h12440⟩ fun F12839 h12840 => jn [0] (J55 h12840 hp)
              · exact hn 21 rfl rfl (bbF hc113) rfl (by kernel_rfl) rfl <| hn 22 rfl rfl (bbF hc113) rfl (by kernel_rfl) rfl <| hn 23 rfl rfl (bbF hc113) rfl (by kernel_rfl) rfl <| hn 24 rfl rfl (bbF hc113) rfl (by kernel_rfl) rfl <| hn 25 rfl rfl (bbF hc113) rfl (by kernel_rfl) rfl <| hn 26 rfl rfl (bbF hc113) rfl (by kernel_rfl) rfl <| hn 27 rfl rfl (bbF hc113) rfl (by kernel_rfl) rfl <| hw 28 rfl rfl (bbF hc101) (pF (bbF hc113)) (by kernel_rfl) rfl <| hv 29 rfl (pF (bbF hc101)) (by kernel_rfl) rfl <| ho 30 rfl (by kernel_rfl) fun K125 k126 => TL.openL h30 hx56 h842 h1241 fun F12040 F12041 h12042 h12043 => tO u69 i4 h12043 hp rfl rfl rfl rfl fun x12039 b12044 o12045 h12046 hp => hk k126 srcG0 <| ho 31 rfl (by kernel_rfl) fun K128 k129 => tp [1, 0] [_,_] rfl rfl <| tE h12043 h12046 m4 rfl ⟨rfl, rfl⟩ w1 fun F12439 h12440 => hk k129 srcG0 <| hz (by kernel_rfl) <| wp [1, 0] [_,_] rfl rfl <| W.shut (a := (x839.set (x31).toNat false)) h12042 ⟨_, rfl, h12440⟩ fun F12839 h12840 => jn [0] (J55 h12840 hp)
          · refine tv (lr s4 (Src.at_ 0 rfl) h4044 0 rfl rfl) rfl <| hk k131 srcG0 <| hv 12 rfl mv (by kernel_rfl) rfl <| ifE hp (fun hc132 hp => ?_) fun hc132 hp => ?_
            · exact hn 13 rfl rfl (bbT hc132) rfl (by kernel_rfl) rfl <| hn 14 rfl rfl (bbT hc132) rfl (by kernel_rfl) rfl <| hn 15 rfl rfl (bbT hc132) rfl (by kernel_rfl) rfl <| hn 16 rfl rfl (bbT hc132) rfl (by kernel_rfl) rfl <| hn 17 rfl rfl (bbT hc132) rfl (by kernel_rfl) rfl <| hn 18 rfl rfl (bbT hc132) rfl (by kernel_rfl) rfl <| hn 19 rfl rfl (bbT hc132) rfl (by kernel_rfl) rfl <| hn 20 rfl rfl (bbT hc132) rfl (by kernel_rfl) rfl <| hu 21 rfl rfl rfl (by kernel_rfl) rfl <| hu 22 rfl rfl rfl (by kernel_rfl) rfl <| hu 23 rfl rfl rfl (by kernel_rfl) rfl <| hu 24 rfl rfl rfl (by kernel_rfl) rfl <| hu 25 rfl rfl rfl (by kernel_rfl) rfl <| hu 26 rfl rfl rfl (by kernel_rfl) rfl <| hu 27 rfl rfl rfl (by kernel_rfl) rfl <| hn 28 rfl rfl (bbT hc132) rfl (by kernel_rfl) rfl <| hv 29 rfl (pT (bbT hc132)) (by kernel_rfl) rfl <| ho 3 rfl (by kernel_rfl) fun K133 k134 => tLP h30 hx56 h842 s69 (Src.at_ 0 rfl) rfl rfl fun v1239 h1240 h1241 => hk k134 srcG0 <| ho 30 rfl (by kernel_rfl) fun K135 k136 => TL.openL h30 hx56 h842 h1241 fun F12040 F12041 h12042 h12043 => tO u69 i4 h12043 hp rfl rfl rfl rfl fun x12039 b12044 o12045 h12046 hp => hk k136 srcG0 <| ho 31 rfl (by kernel_rfl) fun K138 k139 => tp [1, 0] [_,_] rfl rfl <| tE h12043 h12046 m4 rfl ⟨rfl, rfl⟩ w1 fun F12439 h12440 => hk k139 srcG0 <| hz (by kernel_rfl) <| wp [1, 0] [_,_] rfl rfl <| W.shut (a := (x839.set (x31).toNat true)) h12042 ⟨_, rfl, h12440⟩ fun F12839 h12840 => jn [0] (J55 h12840 hp)
            · refine hw 13 rfl rfl (bbF hc132) mv (by kernel_rfl) rfl <| hw 14 rfl rfl (bbF hc132) mv (by kernel_rfl) rfl <| gi 15 rfl rfl (bbF hc132) u67 i69 (h30).ro hp rfl rfl rfl (by kernel_rfl) rfl ?_
              rintro x6039 b6040 o6041 _ hp ⟨v6045, rfl, h6046⟩ h6044
              refine hw 17 rfl rfl (bbF hc132) mv (by kernel_rfl) rfl <| HL.all [3, 16] (by kernel_rfl) (by simp) (HL.al ⟨_, rfl, fun K141 k142 => ?_⟩ (HL.al ⟨_, rfl, fun K165 k166 => ?_⟩ HL.al0))
              · refine tLP h30 hx56 h842 s69 (Src.at_ 0 rfl) rfl rfl fun v1239 h1240 h1241 => hk k142 srcG0 <| ho 16 rfl (by kernel_rfl) fun K143 k144 => gy rfl (bbF hc132) <| tv (lr s69 (Src.at_ 0 rfl) h6044 0 rfl rfl) rfl <| hk k144 srcG0 <| gi 18 rfl rfl (bbF hc132) u69 i4 h6046 hp rfl rfl rfl (by kernel_rfl) rfl ?_
                rintro x7239 b7240 o7241 _ hp rfl h7244
                refine ho 19 rfl (by kernel_rfl) fun K146 k147 => gy rfl (bbF hc132) <| tv (lr s4 (Src.at_ 0 rfl) h7244 0 rfl rfl) rfl <| hk k147 srcG0 <| hw 20 rfl rfl (bbF hc132) mv (by kernel_rfl) rfl <| ifE hp (fun hc148 hp => ?_) fun hc148 hp => ?_
                · refine hw 21 rfl rfl (bbT hc148) mv (by kernel_rfl) rfl <| hw 22 rfl rfl (bbT hc148) mv (by kernel_rfl) rfl <| gi 23 rfl rfl (bbT hc148) u67 i69 (h30).ro hp rfl rfl rfl (by kernel_rfl) rfl ?_
                  rintro x9239 b9240 o9241 _ hp ⟨v9245, rfl, h9246⟩ h9244
                  refine hw 25 rfl rfl (bbT hc148) mv (by kernel_rfl) rfl <| ho 24 rfl (by kernel_rfl) fun K150 k151 => gy rfl (bbT hc148) <| tv (lr s69 (Src.at_ 0 rfl) h9244 0 rfl rfl) rfl <| hk k151 srcG0 <| gi 26 rfl rfl (bbT hc148) u69 i4 h9246 hp rfl rfl rfl (by kernel_rfl) rfl ?_
                  rintro x10439 b10440 o10441 _ hp rfl h10444
                  exact ho 27 rfl (by kernel_rfl) fun K153 k154 => gy rfl (bbT hc148) <| tv (lr s4 (Src.at_ 0 rfl) h10444 0 rfl rfl) rfl <| hk k154 srcG0 <| hw 28 rfl rfl (bbF hc132) (pT (bbT hc148)) (by kernel_rfl) rfl <| hv 29 rfl (pF (bbF hc132)) (by kernel_rfl) rfl <| ho 30 rfl (by kernel_rfl) fun K155 k156 => TL.openL h30 hx56 h842 h1241 fun F12040 F12041 h12042 h12043 => tO u69 i4 h12043 hp rfl rfl rfl rfl fun x12039 b12044 o12045 h12046 hp => hk k156 srcG0 <| ho 31 rfl (by kernel_rfl) fun K158 k159 => tp [1, 0] [_,_] rfl rfl <| tE h12043 h12046 m4 rfl ⟨rfl, rfl⟩ w1 fun F12439 h12440 => hk k159 srcG0 <| hz (by kernel_rfl) <| wp [1, 0] [_,_] rfl rfl <| W.shut (a := (x839.set (x31).toNat x10439)) h12042 ⟨_, rfl, h12440⟩ fun F12839 h12840 => jn [0] (J55 h12840 hp)
                · exact hn 21 rfl rfl (bbF hc148) rfl (by kernel_rfl) rfl <| hn 22 rfl rfl (bbF hc148) rfl (by kernel_rfl) rfl <| hn 23 rfl rfl (bbF hc148) rfl (by kernel_rfl) rfl <| hn 24 rfl rfl (bbF hc148) rfl (by kernel_rfl) rfl <| hn 25 rfl rfl (bbF hc148) rfl (by kernel_rfl) rfl <| hn 26 rfl rfl (bbF hc148) rfl (by kernel_rfl) rfl <| hn 27 rfl rfl (bbF hc148) rfl (by kernel_rfl) rfl <| hw 28 rfl rfl (bbF hc132) (pF (bbF hc148)) (by kernel_rfl) rfl <| hv 29 rfl (pF (bbF hc132)) (by kernel_rfl) rfl <| ho 30 rfl (by kernel_rfl) fun K160 k161 => TL.openL h30 hx56 h842 h1241 fun F12040 F12041 h12042 h12043 => tO u69 i4 h12043 hp rfl rfl rfl rfl fun x12039 b12044 o12045 h12046 hp => hk k161 srcG0 <| ho 31 rfl (by kernel_rfl) fun K163 k164 => tp [1, 0] [_,_] rfl rfl <| tE h12043 h12046 m4 rfl ⟨rfl, rfl⟩ w1 fun F12439 h12440 => hk k164 srcG0 <| hz (by kernel_rfl) <| wp [1, 0] [_,_] rfl rfl <| W.shut (a := (x839.set (x31).toNat false)) h12042 ⟨_, rfl, h12440⟩ fun F12839 h12840 => jn [0] (J55 h12840 hp)
              · refine gy rfl (bbF hc132) <| tv (lr s69 (Src.at_ 0 rfl) h6044 0 rfl rfl) rfl <| hk k166 srcG0 <| gi 18 rfl rfl (bbF hc132) u69 i4 h6046 hp rfl rfl rfl (by kernel_rfl) rfl ?_
                rintro x7239 b7240 o7241 _ hp rfl h7244
                refine HL.all [3, 19] (by kernel_rfl) (by simp) (HL.al ⟨_, rfl, fun K168 k169 => ?_⟩ (HL.al ⟨_, rfl, fun K189 k190 => ?_⟩ HL.al0))
                · refine tLP h30 hx56 h842 s69 (Src.at_ 0 rfl) rfl rfl fun v1239 h1240 h1241 => hk k169 srcG0 <| ho 19 rfl (by kernel_rfl) fun K170 k171 => gy rfl (bbF hc132) <| tv (lr s4 (Src.at_ 0 rfl) h7244 0 rfl rfl) rfl <| hk k171 srcG0 <| hw 20 rfl rfl (bbF hc132) mv (by kernel_rfl) rfl <| ifE hp (fun hc172 hp => ?_) fun hc172 hp => ?_
                  · refine hw 21 rfl rfl (bbT hc172) mv (by kernel_rfl) rfl <| hw 22 rfl rfl (bbT hc172) mv (by kernel_rfl) rfl <| gi 23 rfl rfl (bbT hc172) u67 i69 (h30).ro hp rfl rfl rfl (by kernel_rfl) rfl ?_
                    rintro x9239 b9240 o9241 _ hp ⟨v9245, rfl, h9246⟩ h9244
                    refine hw 25 rfl rfl (bbT hc172) mv (by kernel_rfl) rfl <| ho 24 rfl (by kernel_rfl) fun K174 k175 => gy rfl (bbT hc172) <| tv (lr s69 (Src.at_ 0 rfl) h9244 0 rfl rfl) rfl <| hk k175 srcG0 <| gi 26 rfl rfl (bbT hc172) u69 i4 h9246 hp rfl rfl rfl (by kernel_rfl) rfl ?_
                    rintro x10439 b10440 o10441 _ hp rfl h10444
                    exact ho 27 rfl (by kernel_rfl) fun K177 k178 => gy rfl (bbT hc172) <| tv (lr s4 (Src.at_ 0 rfl) h10444 0 rfl rfl) rfl <| hk k178 srcG0 <| hw 28 rfl rfl (bbF hc132) (pT (bbT hc172)) (by kernel_rfl) rfl <| hv 29 rfl (pF (bbF hc132)) (by kernel_rfl) rfl <| ho 30 rfl (by kernel_rfl) fun K179 k180 => TL.openL h30 hx56 h842 h1241 fun F12040 F12041 h12042 h12043 => tO u69 i4 h12043 hp rfl rfl rfl rfl fun x12039 b12044 o12045 h12046 hp => hk k180 srcG0 <| ho 31 rfl (by kernel_rfl) fun K182 k183 => tp [1, 0] [_,_] rfl rfl <| tE h12043 h12046 m4 rfl ⟨rfl, rfl⟩ w1 fun F12439 h12440 => hk k183 srcG0 <| hz (by kernel_rfl) <| wp [1, 0] [_,_] rfl rfl <| W.shut (a := (x839.set (x31).toNat x10439)) h12042 ⟨_, rfl, h12440⟩ fun F12839 h12840 => jn [0] (J55 h12840 hp)
                  · exact hn 21 rfl rfl (bbF hc172) rfl (by kernel_rfl) rfl <| hn 22 rfl rfl (bbF hc172) rfl (by kernel_rfl) rfl <| hn 23 rfl rfl (bbF hc172) rfl (by kernel_rfl) rfl <| hn 24 rfl rfl (bbF hc172) rfl (by kernel_rfl) rfl <| hn 25 rfl rfl (bbF hc172) rfl (by kernel_rfl) rfl <| hn 26 rfl rfl (bbF hc172) rfl (by kernel_rfl) rfl <| hn 27 rfl rfl (bbF hc172) rfl (by kernel_rfl) rfl <| hw 28 rfl rfl (bbF hc132) (pF (bbF hc172)) (by kernel_rfl) rfl <| hv 29 rfl (pF (bbF hc132)) (by kernel_rfl) rfl <| ho 30 rfl (by kernel_rfl) fun K184 k185 => TL.openL h30 hx56 h842 h1241 fun F12040 F12041 h12042 h12043 => tO u69 i4 h12043 hp rfl rfl rfl rfl fun x12039 b12044 o12045 h12046 hp => hk k185 srcG0 <| ho 31 rfl (by kernel_rfl) fun K187 k188 => tp [1, 0] [_,_] rfl rfl <| tE h12043 h12046 m4 rfl ⟨rfl, rfl⟩ w1 fun F12439 h12440 => hk k188 srcG0 <| hz (by kernel_rfl) <| wp [1, 0] [_,_] rfl rfl <| W.shut (a := (x839.set (x31).toNat false)) h12042 ⟨_, rfl, h12440⟩ fun F12839 h12840 => jn [0] (J55 h12840 hp)
                · refine gy rfl (bbF hc132) <| tv (lr s4 (Src.at_ 0 rfl) h7244 0 rfl rfl) rfl <| hk k190 srcG0 <| hw 20 rfl rfl (bbF hc132) mv (by kernel_rfl) rfl <| ifE hp (fun hc191 hp => ?_) fun hc191 hp => ?_
                  · refine hw 21 rfl rfl (bbT hc191) mv (by kernel_rfl) rfl <| hw 22 rfl rfl (bbT hc191) mv (by kernel_rfl) rfl <| gi 23 rfl rfl (bbT hc191) u67 i69 (h30).ro hp rfl rfl rfl (by kernel_rfl) rfl ?_
                    rintro x9239 b9240 o9241 _ hp ⟨v9245, rfl, h9246⟩ h9244
                    refine hw 25 rfl rfl (bbT hc191) mv (by kernel_rfl) rfl <| HL.all [3, 24] (by kernel_rfl) (by simp) (HL.al ⟨_, rfl, fun K193 k194 => ?_⟩ (HL.al ⟨_, rfl, fun K205 k206 => ?_⟩ HL.al0))
                    · refine tLP h30 hx56 h842 s69 (Src.at_ 0 rfl) rfl rfl fun v1239 h1240 h1241 => hk k194 srcG0 <| ho 24 rfl (by kernel_rfl) fun K195 k196 => gy rfl (bbT hc191) <| tv (lr s69 (Src.at_ 0 rfl) h9244 0 rfl rfl) rfl <| hk k196 srcG0 <| gi 26 rfl rfl (bbT hc191) u69 i4 h9246 hp rfl rfl rfl (by kernel_rfl) rfl ?_
                      rintro x10439 b10440 o10441 _ hp rfl h10444
                      exact ho 27 rfl (by kernel_rfl) fun K198 k199 => gy rfl (bbT hc191) <| tv (lr s4 (Src.at_ 0 rfl) h10444 0 rfl rfl) rfl <| hk k199 srcG0 <| hw 28 rfl rfl (bbF hc132) (pT (bbT hc191)) (by kernel_rfl) rfl <| hv 29 rfl (pF (bbF hc132)) (by kernel_rfl) rfl <| ho 30 rfl (by kernel_rfl) fun K200 k201 => TL.openL h30 hx56 h842 h1241 fun F12040 F12041 h12042 h12043 => tO u69 i4 h12043 hp rfl rfl rfl rfl fun x12039 b12044 o12045 h12046 hp => hk k201 srcG0 <| ho 31 rfl (by kernel_rfl) fun K203 k204 => tp [1, 0] [_,_] rfl rfl <| tE h12043 h12046 m4 rfl ⟨rfl, rfl⟩ w1 fun F12439 h12440 => hk k204 srcG0 <| hz (by kernel_rfl) <| wp [1, 0] [_,_] rfl rfl <| W.shut (a := (x839.set (x31).toNat x10439)) h12042 ⟨_, rfl, h12440⟩ fun F12839 h12840 => jn [0] (J55 h12840 hp)
                    · refine gy rfl (bbT hc191) <| tv (lr s69 (Src.at_ 0 rfl) h9244 0 rfl rfl) rfl <| hk k206 srcG0 <| gi 26 rfl rfl (bbT hc191) u69 i4 h9246 hp rfl rfl rfl (by kernel_rfl) rfl ?_
                      rintro x10439 b10440 o10441 _ hp rfl h10444
                      refine HL.all [3, 27] (by kernel_rfl) (by simp) (HL.al ⟨_, rfl, fun K208 k209 => ?_⟩ (HL.al ⟨_, rfl, fun K217 k218 => ?_⟩ HL.al0))
                      · exact tLP h30 hx56 h842 s69 (Src.at_ 0 rfl) rfl rfl fun v1239 h1240 h1241 => hk k209 srcG0 <| ho 27 rfl (by kernel_rfl) fun K210 k211 => gy rfl (bbT hc191) <| tv (lr s4 (Src.at_ 0 rfl) h10444 0 rfl rfl) rfl <| hk k211 srcG0 <| hw 28 rfl rfl (bbF hc132) (pT (bbT hc191)) (by kernel_rfl) rfl <| hv 29 rfl (pF (bbF hc132)) (by kernel_rfl) rfl <| ho 30 rfl (by kernel_rfl) fun K212 k213 => TL.openL h30 hx56 h842 h1241 fun F12040 F12041 h12042 h12043 => tO u69 i4 h12043 hp rfl rfl rfl rfl fun x12039 b12044 o12045 h12046 hp => hk k213 srcG0 <| ho 31 rfl (by kernel_rfl) fun K215 k216 => tp [1, 0] [_,_] rfl rfl <| tE h12043 h12046 m4 rfl ⟨rfl, rfl⟩ w1 fun F12439 h12440 => hk k216 srcG0 <| hz (by kernel_rfl) <| wp [1, 0] [_,_] rfl rfl <| W.shut (a := (x839.set (x31).toNat x10439)) h12042 ⟨_, rfl, h12440⟩ fun F12839 h12840 => jn [0] (J55 h12840 hp)
                      · exact gy rfl (bbT hc191) <| tv (lr s4 (Src.at_ 0 rfl) h10444 0 rfl rfl) rfl <| hk k218 srcG0 <| hw 28 rfl rfl (bbF hc132) (pT (bbT hc191)) (by kernel_rfl) rfl <| hv 29 rfl (pF (bbF hc132)) (by kernel_rfl) rfl <| ho 3 rfl (by kernel_rfl) fun K219 k220 => tLP h30 hx56 h842 s69 (Src.at_ 0 rfl) rfl rfl fun v1239 h1240 h1241 => hk k220 srcG0 <| ho 30 rfl (by kernel_rfl) fun K221 k222 => TL.openL h30 hx56 h842 h1241 fun F12040 F12041 h12042 h12043 => tO u69 i4 h12043 hp rfl rfl rfl rfl fun x12039 b12044 o12045 h12046 hp => hk k222 srcG0 <| ho 31 rfl (by kernel_rfl) fun K224 k225 => tp [1, 0] [_,_] rfl rfl <| tE h12043 h12046 m4 rfl ⟨rfl, rfl⟩ w1 fun F12439 h12440 => hk k225 srcG0 <| hz (by kernel_rfl) <| wp [1, 0] [_,_] rfl rfl <| W.shut (a := (x839.set (x31).toNat x10439)) h12042 ⟨_, rfl, h12440⟩ fun F12839 h12840 => jn [0] (J55 h12840 hp)
                  · exact hn 21 rfl rfl (bbF hc191) rfl (by kernel_rfl) rfl <| hn 22 rfl rfl (bbF hc191) rfl (by kernel_rfl) rfl <| hn 23 rfl rfl (bbF hc191) rfl (by kernel_rfl) rfl <| hn 24 rfl rfl (bbF hc191) rfl (by kernel_rfl) rfl <| hn 25 rfl rfl (bbF hc191) rfl (by kernel_rfl) rfl <| hn 26 rfl rfl (bbF hc191) rfl (by kernel_rfl) rfl <| hn 27 rfl rfl (bbF hc191) rfl (by kernel_rfl) rfl <| hw 28 rfl rfl (bbF hc132) (pF (bbF hc191)) (by kernel_rfl) rfl <| hv 29 rfl (pF (bbF hc132)) (by kernel_rfl) rfl <| ho 3 rfl (by kernel_rfl) fun K226 k227 => tLP h30 hx56 h842 s69 (Src.at_ 0 rfl) rfl rfl fun v1239 h1240 h1241 => hk k227 srcG0 <| ho 30 rfl (by kernel_rfl) fun K228 k229 => TL.openL h30 hx56 h842 h1241 fun F12040 F12041 h12042 h12043 => tO u69 i4 h12043 hp rfl rfl rfl rfl fun x12039 b12044 o12045 h12046 hp => hk k229 srcG0 <| ho 31 rfl (by kernel_rfl) fun K231 k232 => tp [1, 0] [_,_] rfl rfl <| tE h12043 h12046 m4 rfl ⟨rfl, rfl⟩ w1 fun F12439 h12440 => hk k232 srcG0 <| hz (by kernel_rfl) <| wp [1, 0] [_,_] rfl rfl <| W.shut (a := (x839.set (x31).toNat false)) h12042 ⟨_, rfl, h12440⟩ fun F12839 h12840 => jn [0] (J55 h12840 hp)
      · exact TC.exit <| jn [0] (J47 h30 (ex_ret hp hx45))
    · exact TC.exit <| jn [0] (J33 h23 (ex_ret hp hx31))
  · exact TC.exit <| jn [0] (J19 h16 (ex_ret hp hx17))
 refine W.new0 <| lp hz5 [1, 0] rfl (fun s e L => ∃ x5 x9 v6 F7 e3, s = (x5, x9) ∧ SlO 69 (kSl 4 kBool) x5 v6 F7 ∧ e = ovr e3 [(1, .pointer (some ⟨b4, 0, none⟩)), (3, v6), (4, .int .i64 x9)] ∧ L = [bx b4 24 [v2], F7]) ⟨_, _, (.slice none 0 0), ([] : FP), _, rfl, (SlO.nil 69), ovr_eq _ _ rfl, rfl⟩ ?_
 rintro _ _ _ ⟨x5, x9, v6, F7, e3, rfl, h8, rfl, rfl⟩ X7 hp hx8
 replace hp : fettleref09_To.bd8 a1 x5 x9 = some X7 := hp
 refine TC.seq fun K241 k242 => sr <| tm rfl <| tv (fa f24_0 rfl) rfl <| tv (lb s22 0 rfl rfl rfl) rfl <| tv (ln u22 h3 rfl) rfl <| tv (blt rfl rfl) rfl <| nz <| cD rfl hp (fun hc243 hp => ?_) fun hc243 hp => ?_
 · refine sk k242 rfl <| TC.seq fun K244 k245 => TC.block <| sr <| tv (fa f24_0 rfl) rfl <| tv (lb s22 0 rfl rfl rfl) rfl <| tv (ln u22 h3 rfl) rfl <| tk (k := kBool) u69 i4 hp ⟨rfl, rfl⟩ rfl rfl rfl rfl rfl rfl fun x12841 v12842 F12843 h12844 hp => ta rfl <| nz <| TC.seq fun K247 k248 => sr <| ta rfl <| nz <| TC.block <| bE hp fun z_250 hz251 hr252 => ?_
   have J257 {x12849 F12850 e255} (h12851 : SlO 4 kBool x12849 v12842 F12850) (hq258 : x12849 = z_250) : ∀ w, St E H [bx b4 24 [v2], F7, F12850] w → K247 (ovr e255 [(1, .pointer (some ⟨b4, 0, none⟩)), (3, v6), (4, .int .i64 x9), (5, v12842)]) w := by
    subst hq258
    replace hp : fettleref09_To.nx254 x5 x9 x12849 = some X7 := hr252
    exact tg k248 <| TC.region <| tm rfl <| tm rfl <| tbs [(0, v12842)] [v12842] u67 i69 (by obtain ⟨_, _, rfl⟩ := (h12851).len; kernel_rfl) rfl rfl rfl rfl fun b12852 => tp [2, 0, 3, 1] [_,_,_,_] rfl rfl <| tp2 u67 i69 h8 hp (RepL.to (G' := F12850) (RepL.cons (k := (kSl 4 kBool)) (x := x12849) ⟨_, rfl, h12851⟩ RepL.nil) (by simp)) rfl rfl rfl rfl rfl rfl rfl rfl rfl fun x12853 v12854 F12855 h12856 hp => ta rfl <| nl <| tg k245 <| TC.region <| tm rfl <| tv (bad rfl rfl) rfl <| ta rfl <| nl <| gk hp [1, 0] ⟨_, _, v12854, F12855, _, rfl, h12856, ovr_eq _ _ rfl, rfl⟩
   refine lp hz251 [1, 2, 0] rfl (fun s e L => ∃ x12845 x12848 F12846 e249, s = (x12845, x12848) ∧ SlO 4 kBool x12845 v12842 F12846 ∧ e = ovr e249 [(1, .pointer (some ⟨b4, 0, none⟩)), (3, v6), (4, .int .i64 x9), (5, v12842), (6, .int .i64 x12848)] ∧ L = [bx b4 24 [v2], F7, F12846]) ⟨_, _, F12843, _, rfl, h12844, ovr_eq _ _ rfl, rfl⟩ ?_
   rintro _ _ _ ⟨x12845, x12848, F12846, e249, rfl, h12847, rfl, rfl⟩ X253 hp hx254
   replace hp : fettleref09_To.bd254 a1 x9 x12845 x12848 = some X253 := hp
   refine TC.seq fun K259 k260 => sr <| tm rfl <| tm rfl <| tv (ln u69 h12847.ro rfl) rfl <| tv (blt rfl rfl) rfl <| nz <| cD rfl hp (fun hc261 hp => ?_) fun hc261 hp => ?_
   · refine sk k260 rfl <| TC.seq fun K262 k263 => TC.block <| TC.region <| tm rfl <| tm rfl <| tv (lA (ds := [v2]) ag_24 0 rfl rfl rfl rfl) rfl <| tm rfl <| tm rfl <| bE hp fun x12857 hy264 hp => tc 0 [_,_,_] rfl c44 (fun _ => fettleref09_Calls_ok (a1 := a1) (a4 := x9) (a5 := x12848) (h3.mono subH) hy264) rfl ?_
     rintro _ _ ⟨rfl, rfl⟩
     exact tO u69 i4 h12847 hp rfl rfl rfl rfl fun x12858 b12859 o12860 h12861 hp => tp [2, 0, 1] [_,_,_] rfl rfl <| tE h12847 h12861 m4 rfl ⟨rfl, rfl⟩ w1 fun F12862 h12863 => nl <| tg k263 <| TC.region <| tm rfl <| tv (bad rfl rfl) rfl <| ta rfl <| nl <| gk hp [1, 2, 0] ⟨_, _, F12862, _, rfl, h12863, ovr_eq _ _ rfl, rfl⟩
   · exact TC.exit <| jn [0, 1, 2] (J257 h12847 (ex_ret hp hx254))
 · exact TC.exit <| jn [1] (J239 h8 (ex_ret hp hx8))

/-! ### fettle/fettleref05.Next -/
abbrev fettleref05_Next.R (r : List Int) (v : Value) (A : List FP) : Prop := ∃ (w1 : Value) (G1 : FP), w1 = v ∧ A = [G1] ∧ SlO 3 (kInt .i64) r w1 G1
def fettleref05_Next.nx8  (x13 : List Int) : Option (List Int) :=
  some x13
def fettleref05_Next.jn19 (x12 : Int) (x29 : List Int) : Option (Ex (List Int) (List Int × Int)) :=
  some (.go (x29, (w64 (x12 + 1))))
def fettleref05_Next.nx34 (x8 : List Int) (x12 : Int) (x45 : Int) (x53 : Bool) : Option (Ex (List Int) (List Int × Int)) :=
  if (!x53) = true then
    (cat x8 [x45]).bind fun x55 =>
    fettleref05_Next.jn19 x12 x55
  else
    fettleref05_Next.jn19 x12 x8
def fettleref05_Next.bd34 (x8 : List Int) (x45 : Int) (x51 : Bool) (x52 : Int) : Option (Ex Bool (Bool × Int)) :=
  if x52 < (len x8) then
    (if x51 = true then some true else (idx x8 x52).bind fun x60 =>
    some (decide (x60 = x45))).bind fun t59 =>
    some (.go (t59, (w64 (x52 + 1))))
  else
    some (.ret x51)
def fettleref05_Next.bd8 (a1 : PFunc) (a6 : Int) (x8 : List Int) (x12 : Int) : Option (Ex (List Int) (List Int × Int)) :=
  (idx a1.blocks a6).bind fun x17 =>
  if x12 < (len x17.term.to) then
    (idx a1.blocks a6).bind fun x33 =>
    (idx x33.term.to x12).bind fun x45 =>
    (whl (fun (s : (Bool × Int)) => fettleref05_Next.bd34 x8 x45 s.1 s.2) FUEL ((decide (x45 < 0 ∨ x45 ≥ (len a1.blocks))), 0)).bind fun z =>
    fettleref05_Next.nx34 x8 x12 x45 z
  else
    some (.ret x8)
def fettleref05_Next (a1 : PFunc) (a6 : Int) : Option (List Int) :=
  (whl (fun (s : (List Int × Int)) => fettleref05_Next.bd8 a1 a6 s.1 s.2) FUEL (([] : List Int), 0)).bind fun z =>
  fettleref05_Next.nx8 z
set_option maxHeartbeats 4000000 in
theorem fettleref05_Next_ok {E : World} {H : FP} {w : World} {a1 : PFunc} {a6 : Int} {v2 : Value} {v4 : Value} {r : List Int} (h3 : SlI (kInt .i64) H a1.regs v2) (h5 : SlI kBlock H a1.blocks v4) (hp : fettleref05_Next a1 a6 = some r) (hst : St E H [] w) :
    Fn Tryz.prog 45 #[.agg #[.int .i64 a1.params, .int .i64 a1.result, v2, v4], .int .i64 a6] w fun v w' => ∃ A, fettleref05_Next.R r v A ∧ St E H A w' := by
 refine fb 63 [.tmp 4] Tryz.func45 rfl rfl rfl rfl rfl hst <| sr <| tb [.int .i64 a1.params, .int .i64 a1.result, v2, v4] rfl rfl fun b7 => ta rfl <| nz <| sr <| ta rfl <| nz <| TC.seq fun K1 k2 => sr <| ta rfl <| nz <| TC.block <| bE hp fun z_4 hz5 hr6 => ?_
 have J10 {x13 v14 F15 e9} (h16 : SlO 3 (kInt .i64) x13 v14 F15) (hq11 : x13 = z_4) : ∀ w, St E H [F15] w → K1 (ovr e9 [(5, v14)]) w := by
  subst hq11
  replace hp : fettleref05_Next.nx8 x13 = some r := hr6
  exact tg k2 <| sr <| tm rfl <| ta rfl <| nz <| TC.ret <| rt hp [0] ⟨v14, F15, rfl, rfl, h16⟩
 refine W.new0 <| lp hz5 [1, 0] rfl (fun s e L => ∃ x8 x12 v9 F10 e3, s = (x8, x12) ∧ SlO 3 (kInt .i64) x8 v9 F10 ∧ e = ovr e3 [(1, .int .i64 a6), (2, .pointer (some ⟨b7, 0, none⟩)), (5, v9), (6, .int .i64 x12)] ∧ L = [bx b7 47 [.int .i64 a1.params, .int .i64 a1.result, v2, v4], F10]) ⟨_, _, (.slice none 0 0), ([] : FP), _, rfl, (SlO.nil 3), ovr_eq _ _ rfl, rfl⟩ ?_
 rintro _ _ _ ⟨x8, x12, v9, F10, e3, rfl, h11, rfl, rfl⟩ X7 hp hx8
 replace hp : fettleref05_Next.bd8 a1 a6 x8 x12 = some X7 := hp
 refine TC.seq fun K12 k13 => sr <| tm rfl <| tv (fa f47_3 rfl) rfl <| tv (lb s45 0 rfl rfl rfl) rfl <| tm rfl <| ti u45 i44 h5 hp rfl rfl rfl rfl ?_
 rintro x17 b18 o19 _ hp ⟨v23, v25, v27, rfl, h24, h26, h28⟩ h22
 refine tv (fa f44_2 rfl) rfl <| tv (fa f40_2 rfl) rfl <| tv (lr s38 sH h22 4 rfl rfl) rfl <| tv (ln u38 h28 rfl) rfl <| tv (blt rfl rfl) rfl <| nz <| cD rfl hp (fun hc15 hp => ?_) fun hc15 hp => ?_
 · refine sk k13 rfl <| TC.seq fun K16 k17 => ?_
   have J19 {x29 v30 F31 e18} (h32 : SlO 3 (kInt .i64) x29 v30 F31) (hp : fettleref05_Next.jn19 x12 x29 = some X7) : ∀ w, St E H [bx b7 47 [.int .i64 a1.params, .int .i64 a1.result, v2, v4], F31] w → K16 (ovr e18 [(1, .int .i64 a6), (2, .pointer (some ⟨b7, 0, none⟩)), (5, v30), (6, .int .i64 x12)]) w := by
    exact tg k17 <| TC.region <| tm rfl <| tv (bad rfl rfl) rfl <| ta rfl <| nl <| gk hp [0, 1] ⟨_, _, v30, F31, _, rfl, h32, ovr_eq _ _ rfl, rfl⟩
   refine TC.block <| sr <| tv (fa f47_3 rfl) rfl <| tv (lb s45 0 rfl rfl rfl) rfl <| tm rfl <| ti u45 i44 h5 hp rfl rfl rfl rfl ?_
   rintro x33 b34 o35 _ hp ⟨v39, v41, v43, rfl, h40, h42, h44⟩ h38
   refine tv (fa f44_2 rfl) rfl <| tv (fa f40_2 rfl) rfl <| tv (lr s38 sH h38 4 rfl rfl) rfl <| tm rfl <| ti u38 i3 h44 hp rfl rfl rfl rfl ?_
   rintro x45 b46 o47 _ hp rfl h50
   refine tv (lr s3 sH h50 0 rfl rfl) rfl <| ta rfl <| nz <| sr <| tm rfl <| tv (blt rfl rfl) rfl <| tm rfl <| TL.cut 6 fun K22 k23 => ?_
   have J24 {e26} : ∀ w, St E H [bx b7 47 [.int .i64 a1.params, .int .i64 a1.result, v2, v4], F10] w → K22 (ovr e26 [(40, .bool (decide (x45 < 0 ∨ x45 ≥ (len a1.blocks)))), (1, .int .i64 a6), (2, .pointer (some ⟨b7, 0, none⟩)), (5, v9), (6, .int .i64 x12), (7, .int .i64 x45)]) w := by
    refine tlg k23 <| ta rfl <| nz <| TC.seq fun K27 k28 => sr <| ta rfl <| nz <| TC.block <| bE hp fun z_30 hz31 hr32 => ?_
    have J38 {x53 e35} (hq39 : x53 = z_30) : ∀ w, St E H [bx b7 47 [.int .i64 a1.params, .int .i64 a1.result, v2, v4], F10] w → K27 (ovr e35 [(1, .int .i64 a6), (2, .pointer (some ⟨b7, 0, none⟩)), (5, v9), (6, .int .i64 x12), (7, .int .i64 x45), (8, .bool x53)]) w := by
     subst hq39
     replace hp : fettleref05_Next.nx34 x8 x12 x45 x53 = some X7 := hr32
     refine tg k28 <| sr <| tm rfl <| tv (rv_not rfl) rfl <| nz <| cB rfl hp (fun hc36 hp => ?_) fun hc36 hp => ?_
     · exact TC.region <| tm rfl <| tm rfl <| tbs [(0, .int .i64 x45)] [.int .i64 x45] u38 i3 (by kernel_rfl) rfl rfl rfl rfl fun b54 => tp [2, 0, 1] [_,_,_] rfl rfl <| tf 2 0 [_,_,_,_] rfl <| tp2 u38 i3 h11 hp (RepL.to (RepL.cons (k := (kInt .i64)) (x := x45) ⟨rfl, rfl⟩ RepL.nil) rfl) rfl rfl rfl rfl rfl rfl rfl rfl rfl fun x55 v56 F57 h58 hp => ta rfl <| nl <| jn [1, 0] (J19 h58 hp)
     · exact TC.skip <| jn [0, 1] (J19 h11 hp)
    refine lp hz31 [0, 1] rfl (fun s e L => ∃ x51 x52 e29, s = (x51, x52) ∧ e = ovr e29 [(1, .int .i64 a6), (2, .pointer (some ⟨b7, 0, none⟩)), (5, v9), (6, .int .i64 x12), (7, .int .i64 x45), (8, .bool x51), (9, .int .i64 x52)] ∧ L = [bx b7 47 [.int .i64 a1.params, .int .i64 a1.result, v2, v4], F10]) ⟨_, _, _, rfl, ovr_eq _ _ rfl, rfl⟩ ?_
    rintro _ _ _ ⟨x51, x52, e29, rfl, rfl, rfl⟩ X33 hp hx34
    replace hp : fettleref05_Next.bd34 x8 x45 x51 x52 = some X33 := hp
    refine TC.seq fun K40 k41 => sr <| tm rfl <| tm rfl <| tv (ln u38 h11.ro rfl) rfl <| tv (blt rfl rfl) rfl <| nz <| cD rfl hp (fun hc42 hp => ?_) fun hc42 hp => ?_
    · refine sk k41 rfl <| TC.seq fun K43 k44 => TC.block <| TC.region <| tm rfl <| tm rfl <| bE hp fun t59 ht50 hp => TL.cut 7 fun K45 k46 => ?_
      have J47 {e49} : ∀ w, St E H [bx b7 47 [.int .i64 a1.params, .int .i64 a1.result, v2, v4], F10] w → K45 (ovr e49 [(55, .bool t59), (1, .int .i64 a6), (2, .pointer (some ⟨b7, 0, none⟩)), (5, v9), (6, .int .i64 x12), (7, .int .i64 x45), (9, .int .i64 x52)]) w := by
       exact tlg k46 <| ta rfl <| nl <| tg k44 <| TC.region <| tm rfl <| tv (bad rfl rfl) rfl <| ta rfl <| nl <| gk hp [0, 1] ⟨_, _, _, rfl, ovr_eq _ _ rfl, rfl⟩
      refine ifE ht50 (fun hc48 hp => ?_) fun hc48 hp => ?_
      · refine gn rfl (bbT hc48) rfl rfl <| gn rfl (bbT hc48) rfl rfl <| gn rfl (bbT hc48) rfl rfl <| gn rfl (bbT hc48) rfl rfl <| gn rfl (bbT hc48) rfl rfl <| gn rfl (bbT hc48) rfl rfl <| tv (pT (bbT hc48)) rfl ?_
        obtain rfl := Option.some.inj hp
        exact nj J47 rfl
      · refine gy rfl (bbF hc48) <| tm rfl <| gy rfl (bbF hc48) <| tm rfl <| gy rfl (bbF hc48) <| ti u38 i3 (h11).ro hp rfl rfl rfl rfl ?_
        rintro x60 b61 o62 _ hp rfl h65
        refine gy rfl (bbF hc48) <| tv (lr s3 (Src.at_ 1 rfl) h65 0 rfl rfl) rfl <| gy rfl (bbF hc48) <| tm rfl <| gy rfl (bbF hc48) <| tv (beq rfl rfl) rfl <| tv (pF (bbF hc48)) rfl ?_
        obtain rfl := Option.some.inj hp
        exact nj J47 rfl
    · exact TC.exit <| jn [0, 1] (J38 (ex_ret hp hx34))
   by_cases hc25 : x45 < 0
   · exact gn rfl (bT hc25) rfl rfl <| gn rfl (bT hc25) rfl rfl <| gn rfl (bT hc25) rfl rfl <| gn rfl (bT hc25) rfl rfl <| gn rfl (bT hc25) rfl rfl <| tv (pT (bT hc25)) rfl <| nj J24 (bOt hc25)
   · exact gy rfl (bF hc25) <| tm rfl <| gy rfl (bF hc25) <| tv (fa f47_3 rfl) rfl <| gy rfl (bF hc25) <| tv (lb s45 0 rfl rfl rfl) rfl <| gy rfl (bF hc25) <| tv (ln u45 h5 rfl) rfl <| gy rfl (bF hc25) <| tv (bge rfl rfl) rfl <| tv (pF (bF hc25)) rfl <| nj J24 (bOf hc25)
 · exact TC.exit <| jn [1] (J10 h11 (ex_ret hp hx8))
end Go.Proofs.YtpomfbdbkejedaaGreatDoor
