/- The walk through the program's functions: each one's pure reading, and that a call does what it says. No conditions. -/
import Derived.Test.YteaknconpkklhaaC3
set_option linter.unusedVariables false
set_option linter.unusedSimpArgs false
namespace Go.Proofs.Yteaknconpkklhaa
open Go Go.Proofs

/-! ### fettle/fettlelaw09.up -/
abbrev fettlelaw09_up.R (r : Bool) (v : Value) (A : List FP) : Prop := .bool r = v ∧ A = []
def fettlelaw09_up  : Option Bool :=
  (fettlelaw09_call 1).bind fun x1 =>
  (fettlelaw09_call 1).bind fun x8 =>
  (calls_Waves (⟨[x1, x8, (⟨0, 0, ([] : List Int), ([] : List PBlock)⟩ : PFunc)]⟩ : PModule)).bind fun x20 =>
  (if (len x20) = 2 then (idx x20 0).bind fun x97 =>
  some (decide ((len x97) = 2)) else some false).bind fun t24 =>
  (if t24 = true then (idx x20 0).bind fun x77 =>
  (idx x77 0).bind fun x85 =>
  (fettlelaw05_Ints x85 ([1])).bind fun x96 =>
  some x96 else some false).bind fun t25 =>
  (if t25 = true then (idx x20 0).bind fun x57 =>
  (idx x57 1).bind fun x65 =>
  (fettlelaw05_Ints x65 ([2])).bind fun x76 =>
  some x76 else some false).bind fun t26 =>
  (if t26 = true then (idx x20 1).bind fun x49 =>
  some (decide ((len x49) = 1)) else some false).bind fun t27 =>
  (if t27 = true then (idx x20 1).bind fun x29 =>
  (idx x29 0).bind fun x37 =>
  (fettlelaw05_Ints x37 ([0])).bind fun x48 =>
  some x48 else some false).bind fun t28 =>
  some t28
set_option maxHeartbeats 4000000 in
theorem fettlelaw09_up_ok {E : World} {H : FP} {w : World} {r : Bool}  (hp : fettlelaw09_up = some r) (hst : St E H [] w) :
    Fn Try.prog 24 #[] w fun v w' => ∃ A, fettlelaw09_up.R r v A ∧ St E H A w' := by
 refine fb 52 [.tmp 0] Try.func24 rfl rfl rfl rfl rfl hst <| sr <| ta rfl <| nz <| sr <| bE hp fun x1 hy1 hp => tc 0 [] rfl c60 (fun _ => fettlelaw09_call_ok (a1 := 1) hy1) rfl ?_
 rintro _ _ ⟨v2, F3, v5, F6, rfl, rfl, h4, h7⟩
 refine bE hp fun x8 hy3 hp => tc 0 [_,_] rfl c60 (fun _ => fettlelaw09_call_ok (a1 := 1) hy3) rfl ?_
 rintro _ _ ⟨v9, F10, v12, F13, rfl, rfl, h11, h14⟩
 refine tv (rv_bv (vs := []) (ds := [.int .i64 0, .int .i64 0, .slice none 0 0, .slice none 0 0]) rfl (fun w => by kernel_rfl)) rfl <| tbs [(0, .agg #[.int .i64 x1.params, .int .i64 x1.result, v2, v5]), (1, .agg #[.int .i64 x8.params, .int .i64 x8.result, v9, v12]), (2, .agg #[.int .i64 0, .int .i64 0, .slice none 0 0, .slice none 0 0])] [.int .i64 x1.params, .int .i64 x1.result, v2, v5, .int .i64 x8.params, .int .i64 x8.result, v9, v12, .int .i64 0, .int .i64 0, .slice none 0 0, .slice none 0 0] u33 i40 (by kernel_rfl) rfl rfl rfl rfl fun b15 => tv (rv_bv (vs := [(0, .slice (some ⟨b15, 0, none⟩) 3 3)]) (ds := [.slice (some ⟨b15, 0, none⟩) 3 3]) rfl (fun w => by kernel_rfl)) rfl <| TL.new0 <| TL.new0 <| tp [2, 5, 6, 3, 4, 1, 0] [_,_,_,_,_,_,_] rfl rfl <| tf 1 6 [_,_] rfl <| TL.litOwn (n := 3) (xs := [x1, x8, (⟨0, 0, ([] : List Int), ([] : List PBlock)⟩ : PFunc)]) (RepL.to (G' := F3 ++ (F6 ++ (F10 ++ (F13 ++ (([] : FP) ++ (([] : FP))))))) (RepL.cons (k := kFunc) (x := x1) ⟨_, _, _, _, rfl, rfl, h4, h7⟩ (RepL.cons (k := kFunc) (x := x8) ⟨_, _, _, _, rfl, rfl, h11, h14⟩ (RepL.cons (k := kFunc) (x := (⟨0, 0, ([] : List Int), ([] : List PBlock)⟩ : PFunc)) ⟨_, _, _, _, rfl, rfl, (SlO.nil 3), (SlO.nil 50)⟩ RepL.nil))) (by simp)) rfl rfl (ltb rfl) fun F18 h19 => bE hp fun x20 hy5 hp => tc 0 [_] rfl c25 (fun _ => calls_Waves_ok (a1 := (⟨[x1, x8, (⟨0, 0, ([] : List Int), ([] : List PBlock)⟩ : PFunc)]⟩ : PModule)) (h19.ro.mono (subB 0 rfl)) hy5) rfl ?_
 rintro _ _ ⟨v21, F22, rfl, rfl, h23⟩
 refine ta rfl <| nz <| sr <| tm rfl <| tv (ln u58 h23.ro rfl) rfl <| tv (beq rfl rfl) rfl <| tm rfl <| bE hp fun t24 ht49 hp => TL.cut 6 fun K7 k8 => ?_
 have J9 {e11} : ∀ w, St E H [F22, F18] w → K7 (ovr e11 [(17, .bool t24), (1, v21)]) w := by
  refine tlg k8 <| tm rfl <| bE hp fun t25 ht44 hp => TL.cut 8 fun K12 k13 => ?_
  have J14 {e16} : ∀ w, St E H [F22, F18] w → K12 (ovr e16 [(26, .bool t25), (1, v21)]) w := by
   refine tlg k13 <| tm rfl <| bE hp fun t26 ht39 hp => TL.cut 8 fun K17 k18 => ?_
   have J19 {e21} : ∀ w, St E H [F22, F18] w → K17 (ovr e21 [(35, .bool t26), (1, v21)]) w := by
    refine tlg k18 <| tm rfl <| bE hp fun t27 ht37 hp => TL.cut 6 fun K22 k23 => ?_
    have J24 {e26} : ∀ w, St E H [F22, F18] w → K22 (ovr e26 [(42, .bool t27), (1, v21)]) w := by
     refine tlg k23 <| tm rfl <| bE hp fun t28 ht32 hp => TL.cut 8 fun K27 k28 => ?_
     have J29 {e31} : ∀ w, St E H [F22, F18] w → K27 (ovr e31 [(51, .bool t28)]) w := by
      exact tlg k28 <| ta rfl <| nz <| TC.ret <| rt hp [] ⟨rfl, rfl⟩
     refine ifE ht32 (fun hc30 hp => ?_) fun hc30 hp => ?_
     · refine gy rfl (bbT hc30) <| tm rfl <| gy rfl (bbT hc30) <| ti u58 i60 (h23).ro hp rfl rfl rfl rfl ?_
       rintro x29 b30 o31 _ hp ⟨v35, rfl, h36⟩ h34
       refine gy rfl (bbT hc30) <| tv (lr s60 (Src.at_ 0 rfl) h34 0 rfl rfl) rfl <| gy rfl (bbT hc30) <| ti u60 i25 h36 hp rfl rfl rfl rfl ?_
       rintro x37 b38 o39 _ hp ⟨v43, rfl, h44⟩ h42
       refine gy rfl (bbT hc30) <| tv (lr s25 (Src.at_ 0 rfl) h42 0 rfl rfl) rfl <| gy rfl (bbT hc30) <| tbs [(0, .int .i64 0)] [.int .i64 0] u25 i3 (by kernel_rfl) rfl rfl rfl rfl fun b45 => gy rfl (bbT hc30) <| tf 1 0 [_,_,_,_] rfl <| TL.litOwn (n := 1) (xs := [0]) (RepL.to (RepL.cons (k := (kInt .i64)) (x := 0) ⟨rfl, rfl⟩ RepL.nil) rfl) rfl rfl (ltb rfl) fun F46 h47 => bE hp fun x48 hy35 hp => tc 0 [_,_,_] rfl c32 (fun _ => fettlelaw05_Ints_ok (a1 := x37) (a4 := [0]) (h44.mono (subB 1 rfl)) (h47.ro.mono (subB 0 rfl)) hy35) rfl ?_
       rintro _ _ ⟨rfl, rfl⟩
       refine tv (pT (bbT hc30)) rfl <| tp [1, 2] [_,_] rfl rfl ?_
       obtain rfl := Option.some.inj hp
       exact nj J29 rfl
     · refine gn rfl (bbF hc30) rfl rfl <| gn rfl (bbF hc30) rfl rfl <| gn rfl (bbF hc30) rfl rfl <| gn rfl (bbF hc30) rfl rfl <| gn rfl (bbF hc30) rfl rfl <| gn rfl (bbF hc30) rfl rfl <| gn rfl (bbF hc30) rfl rfl <| tv (pF (bbF hc30)) rfl ?_
       obtain rfl := Option.some.inj hp
       exact nj J29 rfl
    refine ifE ht37 (fun hc25 hp => ?_) fun hc25 hp => ?_
    · refine gy rfl (bbT hc25) <| tm rfl <| gy rfl (bbT hc25) <| ti u58 i60 (h23).ro hp rfl rfl rfl rfl ?_
      rintro x49 b50 o51 _ hp ⟨v55, rfl, h56⟩ h54
      refine gy rfl (bbT hc25) <| tv (lr s60 (Src.at_ 0 rfl) h54 0 rfl rfl) rfl <| gy rfl (bbT hc25) <| tv (ln u60 h56 rfl) rfl <| gy rfl (bbT hc25) <| tv (beq rfl rfl) rfl <| tv (pT (bbT hc25)) rfl ?_
      obtain rfl := Option.some.inj hp
      exact nj J24 rfl
    · refine gn rfl (bbF hc25) rfl rfl <| gn rfl (bbF hc25) rfl rfl <| gn rfl (bbF hc25) rfl rfl <| gn rfl (bbF hc25) rfl rfl <| gn rfl (bbF hc25) rfl rfl <| tv (pF (bbF hc25)) rfl ?_
      obtain rfl := Option.some.inj hp
      exact nj J24 rfl
   refine ifE ht39 (fun hc20 hp => ?_) fun hc20 hp => ?_
   · refine gy rfl (bbT hc20) <| tm rfl <| gy rfl (bbT hc20) <| ti u58 i60 (h23).ro hp rfl rfl rfl rfl ?_
     rintro x57 b58 o59 _ hp ⟨v63, rfl, h64⟩ h62
     refine gy rfl (bbT hc20) <| tv (lr s60 (Src.at_ 0 rfl) h62 0 rfl rfl) rfl <| gy rfl (bbT hc20) <| ti u60 i25 h64 hp rfl rfl rfl rfl ?_
     rintro x65 b66 o67 _ hp ⟨v71, rfl, h72⟩ h70
     refine gy rfl (bbT hc20) <| tv (lr s25 (Src.at_ 0 rfl) h70 0 rfl rfl) rfl <| gy rfl (bbT hc20) <| tbs [(0, .int .i64 2)] [.int .i64 2] u25 i3 (by kernel_rfl) rfl rfl rfl rfl fun b73 => gy rfl (bbT hc20) <| tf 1 0 [_,_,_,_] rfl <| TL.litOwn (n := 1) (xs := [2]) (RepL.to (RepL.cons (k := (kInt .i64)) (x := 2) ⟨rfl, rfl⟩ RepL.nil) rfl) rfl rfl (ltb rfl) fun F74 h75 => bE hp fun x76 hy42 hp => tc 0 [_,_,_] rfl c32 (fun _ => fettlelaw05_Ints_ok (a1 := x65) (a4 := [2]) (h72.mono (subB 1 rfl)) (h75.ro.mono (subB 0 rfl)) hy42) rfl ?_
     rintro _ _ ⟨rfl, rfl⟩
     refine tv (pT (bbT hc20)) rfl <| tp [1, 2] [_,_] rfl rfl ?_
     obtain rfl := Option.some.inj hp
     exact nj J19 rfl
   · refine gn rfl (bbF hc20) rfl rfl <| gn rfl (bbF hc20) rfl rfl <| gn rfl (bbF hc20) rfl rfl <| gn rfl (bbF hc20) rfl rfl <| gn rfl (bbF hc20) rfl rfl <| gn rfl (bbF hc20) rfl rfl <| gn rfl (bbF hc20) rfl rfl <| tv (pF (bbF hc20)) rfl ?_
     obtain rfl := Option.some.inj hp
     exact nj J19 rfl
  refine ifE ht44 (fun hc15 hp => ?_) fun hc15 hp => ?_
  · refine gy rfl (bbT hc15) <| tm rfl <| gy rfl (bbT hc15) <| ti u58 i60 (h23).ro hp rfl rfl rfl rfl ?_
    rintro x77 b78 o79 _ hp ⟨v83, rfl, h84⟩ h82
    refine gy rfl (bbT hc15) <| tv (lr s60 (Src.at_ 0 rfl) h82 0 rfl rfl) rfl <| gy rfl (bbT hc15) <| ti u60 i25 h84 hp rfl rfl rfl rfl ?_
    rintro x85 b86 o87 _ hp ⟨v91, rfl, h92⟩ h90
    refine gy rfl (bbT hc15) <| tv (lr s25 (Src.at_ 0 rfl) h90 0 rfl rfl) rfl <| gy rfl (bbT hc15) <| tbs [(0, .int .i64 1)] [.int .i64 1] u25 i3 (by kernel_rfl) rfl rfl rfl rfl fun b93 => gy rfl (bbT hc15) <| tf 1 0 [_,_,_,_] rfl <| TL.litOwn (n := 1) (xs := [1]) (RepL.to (RepL.cons (k := (kInt .i64)) (x := 1) ⟨rfl, rfl⟩ RepL.nil) rfl) rfl rfl (ltb rfl) fun F94 h95 => bE hp fun x96 hy47 hp => tc 0 [_,_,_] rfl c32 (fun _ => fettlelaw05_Ints_ok (a1 := x85) (a4 := [1]) (h92.mono (subB 1 rfl)) (h95.ro.mono (subB 0 rfl)) hy47) rfl ?_
    rintro _ _ ⟨rfl, rfl⟩
    refine tv (pT (bbT hc15)) rfl <| tp [1, 2] [_,_] rfl rfl ?_
    obtain rfl := Option.some.inj hp
    exact nj J14 rfl
  · refine gn rfl (bbF hc15) rfl rfl <| gn rfl (bbF hc15) rfl rfl <| gn rfl (bbF hc15) rfl rfl <| gn rfl (bbF hc15) rfl rfl <| gn rfl (bbF hc15) rfl rfl <| gn rfl (bbF hc15) rfl rfl <| gn rfl (bbF hc15) rfl rfl <| tv (pF (bbF hc15)) rfl ?_
    obtain rfl := Option.some.inj hp
    exact nj J14 rfl
 refine ifE ht49 (fun hc10 hp => ?_) fun hc10 hp => ?_
 · refine gy rfl (bT hc10) <| tm rfl <| gy rfl (bT hc10) <| ti u58 i60 (h23).ro hp rfl rfl rfl rfl ?_
   rintro x97 b98 o99 _ hp ⟨v103, rfl, h104⟩ h102
   refine gy rfl (bT hc10) <| tv (lr s60 (Src.at_ 0 rfl) h102 0 rfl rfl) rfl <| gy rfl (bT hc10) <| tv (ln u60 h104 rfl) rfl <| gy rfl (bT hc10) <| tv (beq rfl rfl) rfl <| tv (pT (bT hc10)) rfl ?_
   obtain rfl := Option.some.inj hp
   exact nj J9 rfl
 · refine gn rfl (bF hc10) rfl rfl <| gn rfl (bF hc10) rfl rfl <| gn rfl (bF hc10) rfl rfl <| gn rfl (bF hc10) rfl rfl <| gn rfl (bF hc10) rfl rfl <| tv (pF (bF hc10)) rfl ?_
   obtain rfl := Option.some.inj hp
   exact nj J9 rfl

/-! ### fettle/fettleref02.Small -/
abbrev fettleref02_Small.R (r : Bool) (v : Value) (A : List FP) : Prop := .bool r = v ∧ A = []
def fettleref02_Small.nx11  : Option Bool :=
  some true
def fettleref02_Small.nx39 (x5 : Int) : Option (Ex (Ex Bool Unit) Int) :=
  some (.go (w64 (x5 + 1)))
def fettleref02_Small.nx76 (x17 : Int) : Option (Ex (Ex Bool Unit) Int) :=
  some (.go (w64 (x17 + 1)))
def fettleref02_Small.bd76 (x18 : PBlock) (x32 : Int) : Option (Ex (Ex Bool Unit) Int) :=
  if x32 < (len x18.phis) then
    (idx x18.phis x32).bind fun x33 =>
    if (len x33.args) > 300 then
      some (.ret (.ret false))
    else
      some (.go (w64 (x32 + 1)))
  else
    some (.ret (.go ()))
def fettleref02_Small.nx69 (x17 : Int) (x18 : PBlock) : Option (Ex (Ex Bool Unit) Int) :=
  (whl (fun (s : Int) => fettleref02_Small.bd76 x18 s) FUEL 0).bind fun z =>
  match z with
    | .ret r => some (.ret (.ret r))
    | .go p => fettleref02_Small.nx76 x17
def fettleref02_Small.bd69 (x18 : PBlock) (x31 : Int) : Option (Ex (Ex Bool Unit) Int) :=
  if x31 < (len x18.ins) then
    (idx x18.ins x31).bind fun x41 =>
    if (len x41.args) > 300 then
      some (.ret (.ret false))
    else
      some (.go (w64 (x31 + 1)))
  else
    some (.ret (.go ()))
def fettleref02_Small.bd39 (x6 : PFunc) (x17 : Int) : Option (Ex (Ex Bool Unit) Int) :=
  if x17 < (len x6.blocks) then
    (idx x6.blocks x17).bind fun x18 =>
    if ((len x18.ins) > 300 ∨ (len x18.phis) > 300) ∨ (len x18.term.to) > 70 then
      some (.ret (.ret false))
    else
      (whl (fun (s : Int) => fettleref02_Small.bd69 x18 s) FUEL 0).bind fun z =>
      match z with
        | .ret r => some (.ret (.ret r))
        | .go p => fettleref02_Small.nx69 x17 x18
  else
    some (.ret (.go ()))
def fettleref02_Small.bd11 (a1 : PModule) (x5 : Int) : Option (Ex (Ex Bool Unit) Int) :=
  if x5 < (len a1.funcs) then
    (idx a1.funcs x5).bind fun x6 =>
    if ((len x6.blocks) > 70 ∨ (len x6.regs) > 300) ∨ x6.params > 1000 then
      some (.ret (.ret false))
    else
      (whl (fun (s : Int) => fettleref02_Small.bd39 x6 s) FUEL 0).bind fun z =>
      match z with
        | .ret r => some (.ret (.ret r))
        | .go p => fettleref02_Small.nx39 x5
  else
    some (.ret (.go ()))
def fettleref02_Small (a1 : PModule) : Option Bool :=
  if (len a1.funcs) > 40 then
    some false
  else
    (whl (fun (s : Int) => fettleref02_Small.bd11 a1 s) FUEL 0).bind fun z =>
    match z with
      | .ret r => some r
      | .go p => fettleref02_Small.nx11
set_option maxHeartbeats 4000000 in
theorem fettleref02_Small_ok {E : World} {H : FP} {w : World} {a1 : PModule} {v2 : Value} {r : Bool} (h3 : SlI kFunc H a1.funcs v2) (hp : fettleref02_Small a1 = some r) (hst : St E H [] w) :
    Fn Try.prog 15 #[.agg #[v2]] w fun v w' => ∃ A, fettleref02_Small.R r v A ∧ St E H A w' := by
 refine fb 99 [.tmp 2] Try.func15 rfl rfl rfl rfl rfl hst <| sr <| tb [v2] rfl rfl fun b4 => ta rfl <| nz <| TC.seq fun K1 k2 => sr <| tv (fa f35_0 rfl) rfl <| tv (lb s33 0 rfl rfl rfl) rfl <| tv (ln u33 h3 rfl) rfl <| tv (bgt rfl rfl) rfl <| nz <| cD rfl hp (fun hc3 hp => ?_) fun hc3 hp => ?_
 · exact sr <| ta rfl <| nz <| TC.ret <| rt hp [] ⟨rfl, rfl⟩
 · refine sk k2 rfl <| TC.seq fun K4 k5 => sr <| ta rfl <| nz <| TC.block <| bE hp fun z_7 hz8 hr9 => ?_
   have J13 {e12} (hq14 : .go () = z_7) : ∀ w, St E H [] w → K4 (ovr e12 []) w := by
    subst hq14
    replace hp : fettleref02_Small.nx11 = some r := hr9
    exact tg k5 <| sr <| ta rfl <| nz <| TC.ret <| rt hp [] ⟨rfl, rfl⟩
   refine lp hz8 [0] rfl (fun s e L => ∃ e6, e = ovr e6 [(1, .pointer (some ⟨b4, 0, none⟩)), (3, .int .i64 s)] ∧ L = [bx b4 35 [v2]]) ⟨_, ovr_eq _ _ rfl, rfl⟩ ?_
   rintro x5 _ _ ⟨e6, rfl, rfl⟩ X10 hp hx11
   replace hp : fettleref02_Small.bd11 a1 x5 = some X10 := hp
   refine TC.seq fun K15 k16 => sr <| tm rfl <| tv (fa f35_0 rfl) rfl <| tv (lb s33 0 rfl rfl rfl) rfl <| tv (ln u33 h3 rfl) rfl <| tv (blt rfl rfl) rfl <| nz <| cD rfl hp (fun hc17 hp => ?_) fun hc17 hp => ?_
   · refine sk k16 rfl <| TC.seq fun K18 k19 => TC.block <| sr <| tv (fa f35_0 rfl) rfl <| tv (lb s33 0 rfl rfl rfl) rfl <| tm rfl <| ti u33 i40 h3 hp rfl rfl rfl rfl ?_
     rintro x6 b7 o8 _ hp ⟨v12, v14, rfl, h13, h15⟩ h11
     refine tv (lR (ds := [.int .i64 x6.params, .int .i64 x6.result, v12, v14]) ag_40 sH h11 0 rfl rfl rfl) rfl <| tl i40 rfl fun b16 => tS 0 m40 rfl rfl [.int .i64 x6.params, .int .i64 x6.result, v12, v14] rfl (oc rfl (oc rfl (oc (h13).one (oc (h15).one oc0)))) rfl rfl <| nz <| TC.seq fun K21 k22 => sr <| tv (fa f40_3 rfl) rfl <| tv (lb s38 0 rfl rfl rfl) rfl <| tv (ln u38 h15 rfl) rfl <| tv (bgt rfl rfl) rfl <| tm rfl <| TL.cut 5 fun K23 k24 => ?_
     have J25 {e27} : ∀ w, St E H [bx b16 40 [.int .i64 x6.params, .int .i64 x6.result, v12, v14], bx b4 35 [v2]] w → K23 (ovr e27 [(34, .bool (decide ((len x6.blocks) > 70 ∨ (len x6.regs) > 300))), (1, .pointer (some ⟨b4, 0, none⟩)), (3, .int .i64 x5), (4, .pointer (some ⟨b16, 0, none⟩))]) w := by
      refine tlg k24 <| tm rfl <| TL.cut 4 fun K28 k29 => ?_
      have J30 {e32} : ∀ w, St E H [bx b16 40 [.int .i64 x6.params, .int .i64 x6.result, v12, v14], bx b4 35 [v2]] w → K28 (ovr e32 [(39, .bool (decide (((len x6.blocks) > 70 ∨ (len x6.regs) > 300) ∨ x6.params > 1000))), (1, .pointer (some ⟨b4, 0, none⟩)), (3, .int .i64 x5), (4, .pointer (some ⟨b16, 0, none⟩))]) w := by
       refine tlg k29 <| nz <| cD rfl hp (fun hc33 hp => ?_) fun hc33 hp => ?_
       · refine sr <| ta rfl <| nz <| TC.ret ?_
         obtain rfl := ex_ret hp hx11
         exact rt hr9 [] ⟨rfl, rfl⟩
       · refine sk k22 rfl <| sr <| ta rfl <| nz <| TC.block <| bE hp fun z_35 hz36 hr37 => ?_
         have J41 {e40} (hq42 : .go () = z_35) : ∀ w, St E H [bx b4 35 [v2]] w → K18 (ovr e40 [(1, .pointer (some ⟨b4, 0, none⟩)), (3, .int .i64 x5)]) w := by
          subst hq42
          replace hp : fettleref02_Small.nx39 x5 = some X10 := hr37
          exact tg k19 <| TC.region <| tm rfl <| tv (bad rfl rfl) rfl <| ta rfl <| nl <| gk hp [0] ⟨_, ovr_eq _ _ rfl, rfl⟩
         refine lp hz36 [1, 0] rfl (fun s e L => ∃ e34, e = ovr e34 [(1, .pointer (some ⟨b4, 0, none⟩)), (3, .int .i64 x5), (4, .pointer (some ⟨b16, 0, none⟩)), (5, .int .i64 s)] ∧ L = [bx b4 35 [v2], bx b16 40 [.int .i64 x6.params, .int .i64 x6.result, v12, v14]]) ⟨_, ovr_eq _ _ rfl, rfl⟩ ?_
         rintro x17 _ _ ⟨e34, rfl, rfl⟩ X38 hp hx39
         replace hp : fettleref02_Small.bd39 x6 x17 = some X38 := hp
         refine TC.seq fun K43 k44 => sr <| tm rfl <| tv (fa f40_3 rfl) rfl <| tv (lb s38 1 rfl rfl rfl) rfl <| tv (ln u38 h15 rfl) rfl <| tv (blt rfl rfl) rfl <| nz <| cD rfl hp (fun hc45 hp => ?_) fun hc45 hp => ?_
         · refine sk k44 rfl <| TC.seq fun K46 k47 => TC.block <| sr <| tv (fa f40_3 rfl) rfl <| tv (lb s38 1 rfl rfl rfl) rfl <| tm rfl <| ti u38 i50 h15 hp rfl rfl rfl rfl ?_
           rintro x18 b19 o20 _ hp ⟨v24, v26, v28, rfl, h25, h27, h29⟩ h23
           refine tv (lR (ds := [v24, v26, .int .i64 x18.term.kind, .int .i64 x18.term.arg, v28]) ag_50 sH h23 0 rfl rfl rfl) rfl <| tl i50 rfl fun b30 => tS 0 m50 rfl rfl [v24, v26, .int .i64 x18.term.kind, .int .i64 x18.term.arg, v28] rfl (oc (h25).one (oc (h27).one (oc rfl (oc rfl (oc (h29).one oc0))))) rfl rfl <| nz <| TC.seq fun K49 k50 => sr <| tv (fa f50_1 rfl) rfl <| tv (lb s48 0 rfl rfl rfl) rfl <| tv (ln u48 h27 rfl) rfl <| tv (bgt rfl rfl) rfl <| tm rfl <| TL.cut 5 fun K51 k52 => ?_
           have J53 {e55} : ∀ w, St E H [bx b30 50 [v24, v26, .int .i64 x18.term.kind, .int .i64 x18.term.arg, v28], bx b4 35 [v2], bx b16 40 [.int .i64 x6.params, .int .i64 x6.result, v12, v14]] w → K51 (ovr e55 [(61, .bool (decide ((len x18.ins) > 300 ∨ (len x18.phis) > 300))), (1, .pointer (some ⟨b4, 0, none⟩)), (3, .int .i64 x5), (4, .pointer (some ⟨b16, 0, none⟩)), (5, .int .i64 x17), (6, .pointer (some ⟨b30, 0, none⟩))]) w := by
            refine tlg k52 <| tm rfl <| TL.cut 6 fun K56 k57 => ?_
            have J58 {e60} : ∀ w, St E H [bx b30 50 [v24, v26, .int .i64 x18.term.kind, .int .i64 x18.term.arg, v28], bx b4 35 [v2], bx b16 40 [.int .i64 x6.params, .int .i64 x6.result, v12, v14]] w → K56 (ovr e60 [(68, .bool (decide (((len x18.ins) > 300 ∨ (len x18.phis) > 300) ∨ (len x18.term.to) > 70))), (1, .pointer (some ⟨b4, 0, none⟩)), (3, .int .i64 x5), (4, .pointer (some ⟨b16, 0, none⟩)), (5, .int .i64 x17), (6, .pointer (some ⟨b30, 0, none⟩))]) w := by
             refine tlg k57 <| nz <| cD rfl hp (fun hc61 hp => ?_) fun hc61 hp => ?_
             · refine sr <| ta rfl <| nz <| TC.ret ?_
               obtain rfl := ex_ret hp hx39
               obtain rfl := ex_ret hr37 hx11
               exact rt hr9 [] ⟨rfl, rfl⟩
             · refine sk k50 rfl <| TC.seq fun K62 k63 => sr <| ta rfl <| nz <| TC.block <| bE hp fun z_65 hz66 hr67 => ?_
               have J89 {e70} (hq90 : .go () = z_65) : ∀ w, St E H [bx b4 35 [v2], bx b16 40 [.int .i64 x6.params, .int .i64 x6.result, v12, v14], bx b30 50 [v24, v26, .int .i64 x18.term.kind, .int .i64 x18.term.arg, v28]] w → K62 (ovr e70 [(1, .pointer (some ⟨b4, 0, none⟩)), (3, .int .i64 x5), (4, .pointer (some ⟨b16, 0, none⟩)), (5, .int .i64 x17), (6, .pointer (some ⟨b30, 0, none⟩))]) w := by
                subst hq90
                replace hp : fettleref02_Small.nx69 x17 x18 = some X38 := hr67
                refine tg k63 <| sr <| ta rfl <| nz <| TC.block <| bE hp fun z_72 hz73 hr74 => ?_
                have J78 {e77} (hq79 : .go () = z_72) : ∀ w, St E H [bx b4 35 [v2], bx b16 40 [.int .i64 x6.params, .int .i64 x6.result, v12, v14]] w → K46 (ovr e77 [(1, .pointer (some ⟨b4, 0, none⟩)), (3, .int .i64 x5), (4, .pointer (some ⟨b16, 0, none⟩)), (5, .int .i64 x17)]) w := by
                 subst hq79
                 replace hp : fettleref02_Small.nx76 x17 = some X38 := hr74
                 exact tg k47 <| TC.region <| tm rfl <| tv (bad rfl rfl) rfl <| ta rfl <| nl <| gk hp [0, 1] ⟨_, ovr_eq _ _ rfl, rfl⟩
                refine lp hz73 [0, 1, 2] rfl (fun s e L => ∃ e71, e = ovr e71 [(1, .pointer (some ⟨b4, 0, none⟩)), (3, .int .i64 x5), (4, .pointer (some ⟨b16, 0, none⟩)), (5, .int .i64 x17), (6, .pointer (some ⟨b30, 0, none⟩)), (8, .int .i64 s)] ∧ L = [bx b4 35 [v2], bx b16 40 [.int .i64 x6.params, .int .i64 x6.result, v12, v14], bx b30 50 [v24, v26, .int .i64 x18.term.kind, .int .i64 x18.term.arg, v28]]) ⟨_, ovr_eq _ _ rfl, rfl⟩ ?_
                rintro x32 _ _ ⟨e71, rfl, rfl⟩ X75 hp hx76
                replace hp : fettleref02_Small.bd76 x18 x32 = some X75 := hp
                refine TC.seq fun K80 k81 => sr <| tm rfl <| tv (fa f50_0 rfl) rfl <| tv (lb s47 2 rfl rfl rfl) rfl <| tv (ln u47 h25 rfl) rfl <| tv (blt rfl rfl) rfl <| nz <| cD rfl hp (fun hc82 hp => ?_) fun hc82 hp => ?_
                · refine sk k81 rfl <| TC.seq fun K83 k84 => TC.block <| sr <| tv (fa f50_0 rfl) rfl <| tv (lb s47 2 rfl rfl rfl) rfl <| tm rfl <| ti u47 i76 h25 hp rfl rfl rfl rfl ?_
                  rintro x33 b34 o35 _ hp ⟨v39, rfl, h40⟩ h38
                  refine tv (fa f76_1 rfl) rfl <| tv (lr s25 sH h38 1 rfl rfl) rfl <| tv (ln u25 h40 rfl) rfl <| tv (bgt rfl rfl) rfl <| nz <| cD rfl hp (fun hc86 hp => ?_) fun hc86 hp => ?_
                  · refine sr <| ta rfl <| nz <| TC.ret ?_
                    obtain rfl := ex_ret hp hx76
                    obtain rfl := ex_ret hr74 hx39
                    obtain rfl := ex_ret hr37 hx11
                    exact rt hr9 [] ⟨rfl, rfl⟩
                  · exact sk k84 rfl <| TC.region <| tm rfl <| tv (bad rfl rfl) rfl <| ta rfl <| nl <| gk hp [0, 1, 2] ⟨_, ovr_eq _ _ rfl, rfl⟩
                · exact TC.exit <| jn [0, 1] (J78 (ex_ret hp hx76))
               refine lp hz66 [1, 2, 0] rfl (fun s e L => ∃ e64, e = ovr e64 [(1, .pointer (some ⟨b4, 0, none⟩)), (3, .int .i64 x5), (4, .pointer (some ⟨b16, 0, none⟩)), (5, .int .i64 x17), (6, .pointer (some ⟨b30, 0, none⟩)), (7, .int .i64 s)] ∧ L = [bx b4 35 [v2], bx b16 40 [.int .i64 x6.params, .int .i64 x6.result, v12, v14], bx b30 50 [v24, v26, .int .i64 x18.term.kind, .int .i64 x18.term.arg, v28]]) ⟨_, ovr_eq _ _ rfl, rfl⟩ ?_
               rintro x31 _ _ ⟨e64, rfl, rfl⟩ X68 hp hx69
               replace hp : fettleref02_Small.bd69 x18 x31 = some X68 := hp
               refine TC.seq fun K91 k92 => sr <| tm rfl <| tv (fa f50_1 rfl) rfl <| tv (lb s48 2 rfl rfl rfl) rfl <| tv (ln u48 h27 rfl) rfl <| tv (blt rfl rfl) rfl <| nz <| cD rfl hp (fun hc93 hp => ?_) fun hc93 hp => ?_
               · refine sk k92 rfl <| TC.seq fun K94 k95 => TC.block <| sr <| tv (fa f50_1 rfl) rfl <| tv (lb s48 2 rfl rfl rfl) rfl <| tm rfl <| ti u48 i52 h27 hp rfl rfl rfl rfl ?_
                 rintro x41 b42 o43 _ hp ⟨v47, rfl, h48⟩ h46
                 refine tv (fa f52_2 rfl) rfl <| tv (lr s25 sH h46 2 rfl rfl) rfl <| tv (ln u25 h48 rfl) rfl <| tv (bgt rfl rfl) rfl <| nz <| cD rfl hp (fun hc97 hp => ?_) fun hc97 hp => ?_
                 · refine sr <| ta rfl <| nz <| TC.ret ?_
                   obtain rfl := ex_ret hp hx69
                   obtain rfl := ex_ret hr67 hx39
                   obtain rfl := ex_ret hr37 hx11
                   exact rt hr9 [] ⟨rfl, rfl⟩
                 · exact sk k95 rfl <| TC.region <| tm rfl <| tv (bad rfl rfl) rfl <| ta rfl <| nl <| gk hp [0, 1, 2] ⟨_, ovr_eq _ _ rfl, rfl⟩
               · exact TC.exit <| jn [0, 1, 2] (J89 (ex_ret hp hx69))
            by_cases hc59 : (len x18.ins) > 300 ∨ (len x18.phis) > 300
            · exact gn rfl (bT hc59) rfl rfl <| gn rfl (bT hc59) rfl rfl <| gn rfl (bT hc59) rfl rfl <| gn rfl (bT hc59) rfl rfl <| gn rfl (bT hc59) rfl rfl <| tv (pT (bT hc59)) rfl <| nj J58 (bOt hc59)
            · exact gy rfl (bF hc59) <| tv (fa f50_2 rfl) rfl <| gy rfl (bF hc59) <| tv (fa f46_2 rfl) rfl <| gy rfl (bF hc59) <| tv (lb s25 0 rfl rfl rfl) rfl <| gy rfl (bF hc59) <| tv (ln u25 h29 rfl) rfl <| gy rfl (bF hc59) <| tv (bgt rfl rfl) rfl <| tv (pF (bF hc59)) rfl <| nj J58 (bOf hc59)
           by_cases hc54 : (len x18.ins) > 300
           · exact gn rfl (bT hc54) rfl rfl <| gn rfl (bT hc54) rfl rfl <| gn rfl (bT hc54) rfl rfl <| gn rfl (bT hc54) rfl rfl <| tv (pT (bT hc54)) rfl <| nj J53 (bOt hc54)
           · exact gy rfl (bF hc54) <| tv (fa f50_0 rfl) rfl <| gy rfl (bF hc54) <| tv (lb s47 0 rfl rfl rfl) rfl <| gy rfl (bF hc54) <| tv (ln u47 h25 rfl) rfl <| gy rfl (bF hc54) <| tv (bgt rfl rfl) rfl <| tv (pF (bF hc54)) rfl <| nj J53 (bOf hc54)
         · exact TC.exit <| jn [0] (J41 (ex_ret hp hx39))
      by_cases hc31 : (len x6.blocks) > 70 ∨ (len x6.regs) > 300
      · exact gn rfl (bT hc31) rfl rfl <| gn rfl (bT hc31) rfl rfl <| gn rfl (bT hc31) rfl rfl <| tv (pT (bT hc31)) rfl <| nj J30 (bOt hc31)
      · exact gy rfl (bF hc31) <| tv (fa f40_0 rfl) rfl <| gy rfl (bF hc31) <| tv (lb s3 0 rfl rfl rfl) rfl <| gy rfl (bF hc31) <| tv (bgt rfl rfl) rfl <| tv (pF (bF hc31)) rfl <| nj J30 (bOf hc31)
     by_cases hc26 : (len x6.blocks) > 70
     · exact gn rfl (bT hc26) rfl rfl <| gn rfl (bT hc26) rfl rfl <| gn rfl (bT hc26) rfl rfl <| gn rfl (bT hc26) rfl rfl <| tv (pT (bT hc26)) rfl <| nj J25 (bOt hc26)
     · exact gy rfl (bF hc26) <| tv (fa f40_2 rfl) rfl <| gy rfl (bF hc26) <| tv (lb s25 0 rfl rfl rfl) rfl <| gy rfl (bF hc26) <| tv (ln u25 h13 rfl) rfl <| gy rfl (bF hc26) <| tv (bgt rfl rfl) rfl <| tv (pF (bF hc26)) rfl <| nj J25 (bOf hc26)
   · exact TC.exit <| jn [] (J13 (ex_ret hp hx11))

/-! ### fettle/fettlelaw09.CallsLie -/
abbrev fettlelaw09_CallsLie.R (r : Bool) (v : Value) (A : List FP) : Prop := .bool r = v ∧ A = []
def fettlelaw09_CallsLie.nx47 (x5 : Bool) : Option Bool :=
  some x5
def fettlelaw09_CallsLie.nx61 (x45 : Int) : Option (Ex (Ex Bool Unit) Int) :=
  some (.go (w64 (x45 + 1)))
def fettlelaw09_CallsLie.bd61 (x11 : List (List Int)) (x38 : List Int) (x41 : List Int) (x45 : Int) (x46 : Int) : Option (Ex (Ex Bool Unit) Int) :=
  (idx x11 x45).bind fun x47 =>
  if x46 < (len x47) then
    (idx x11 x45).bind fun x55 =>
    (idx x55 x46).bind fun x63 =>
    (if x63 < 0 ∨ x63 ≥ (len x41) then some true else (idx x38 x63).bind fun x96 =>
    (idx x38 x45).bind fun x102 =>
    some (decide (x96 > x102))).bind fun t69 =>
    (if t69 = true then some true else (idx x38 x63).bind fun x71 =>
    (idx x38 x45).bind fun x77 =>
    (if x71 = x77 then (idx x41 x63).bind fun x84 =>
    (idx x41 x45).bind fun x90 =>
    some (decide (¬ x84 = x90)) else some false).bind fun t83 =>
    some t83).bind fun t70 =>
    if t70 = true then
      some (.ret (.ret false))
    else
      some (.go (w64 (x46 + 1)))
  else
    some (.ret (.go ()))
def fettlelaw09_CallsLie.bd47 (x11 : List (List Int)) (x38 : List Int) (x41 : List Int) (x45 : Int) : Option (Ex (Ex Bool Unit) Int) :=
  if x45 < (len x11) then
    (whl (fun (s : Int) => fettlelaw09_CallsLie.bd61 x11 x38 x41 x45 s) FUEL 0).bind fun z =>
    match z with
      | .ret r => some (.ret (.ret r))
      | .go p => fettlelaw09_CallsLie.nx61 x45
  else
    some (.ret (.go ()))
def fettlelaw09_CallsLie.nx30 (a1 : PModule) (x5 : Bool) (x11 : List (List Int)) (x38 : List Int) (x41 : List Int) (x44 : Int) : Option Bool :=
  if (¬ x44 = (len a1.funcs)) ∨ (¬ (len x11) = x44) then
    some false
  else
    (whl (fun (s : Int) => fettlelaw09_CallsLie.bd47 x11 x38 x41 s) FUEL 0).bind fun z =>
    match z with
      | .ret r => some r
      | .go p => fettlelaw09_CallsLie.nx47 x5
def fettlelaw09_CallsLie.nx121 (x37 : Int) (x116 : List Int) (x119 : List Int) (x122 : Int) : Option (Ex (Ex Bool (List Int × List Int × Int)) (List Int × List Int × Int × Int)) :=
  some (.go (x116, x119, x122, (w64 (x37 + 1))))
def fettlelaw09_CallsLie.nx136 (x115 : Int) (x139 : List Int) (x142 : List Int) (x145 : Int) : Option (Ex (Ex Bool (List Int × List Int × Int)) (List Int × List Int × Int × Int)) :=
  some (.go (x139, x142, x145, (w64 (x115 + 1))))
def fettlelaw09_CallsLie.bd136 (x7 : List (List (List Int))) (x37 : Int) (x115 : Int) (x131 : List Int) (x134 : List Int) (x137 : Int) (x138 : Int) : Option (Ex (Ex Bool (List Int × List Int × Int)) (List Int × List Int × Int × Int)) :=
  (idx x7 x37).bind fun x146 =>
  (idx x146 x115).bind fun x154 =>
  if x138 < (len x154) then
    (idx x7 x37).bind fun x162 =>
    (idx x162 x115).bind fun x170 =>
    (idx x170 x138).bind fun x178 =>
    (if x178 < 0 ∨ x178 ≥ (len x134) then some true else (idx x134 x178).bind fun x219 =>
    some (decide (¬ x219 = -1))).bind fun t184 =>
    if t184 = true then
      some (.ret (.ret false))
    else
      (idx x131 x178).bind fun x185 =>
      (idx x7 x37).bind fun x191 =>
      (idx x191 x115).bind fun x199 =>
      (idx x199 0).bind fun x207 =>
      (idx x134 x178).bind fun x213 =>
      some (.go ((x131.set (x178).toNat x37), (x134.set (x178).toNat x207), (w64 (x137 + 1)), (w64 (x138 + 1))))
  else
    some (.ret (.go (x131, x134, x137)))
def fettlelaw09_CallsLie.bd121 (x7 : List (List (List Int))) (x37 : Int) (x108 : List Int) (x111 : List Int) (x114 : Int) (x115 : Int) : Option (Ex (Ex Bool (List Int × List Int × Int)) (List Int × List Int × Int × Int)) :=
  (idx x7 x37).bind fun x123 =>
  if x115 < (len x123) then
    (whl (fun (s : (List Int × List Int × Int × Int)) => fettlelaw09_CallsLie.bd136 x7 x37 x115 s.1 s.2.1 s.2.2.1 s.2.2.2) FUEL (x108, x111, x114, 0)).bind fun z =>
    match z with
      | .ret r => some (.ret (.ret r))
      | .go p => fettlelaw09_CallsLie.nx136 x115 p.1 p.2.1 p.2.2
  else
    some (.ret (.go (x108, x111, x114)))
def fettlelaw09_CallsLie.bd30 (x7 : List (List (List Int))) (x30 : List Int) (x33 : List Int) (x36 : Int) (x37 : Int) : Option (Ex (Ex Bool (List Int × List Int × Int)) (List Int × List Int × Int × Int)) :=
  if x37 < (len x7) then
    (whl (fun (s : (List Int × List Int × Int × Int)) => fettlelaw09_CallsLie.bd121 x7 x37 s.1 s.2.1 s.2.2.1 s.2.2.2) FUEL (x30, x33, x36, 0)).bind fun z =>
    match z with
      | .ret r => some (.ret (.ret r))
      | .go p => fettlelaw09_CallsLie.nx121 x37 p.1 p.2.1 p.2.2
  else
    some (.ret (.go (x30, x33, x36)))
def fettlelaw09_CallsLie.nx21 (a1 : PModule) (x5 : Bool) (x7 : List (List (List Int))) (x11 : List (List Int)) (x15 : List Int) (x27 : List Int) : Option Bool :=
  (whl (fun (s : (List Int × List Int × Int × Int)) => fettlelaw09_CallsLie.bd30 x7 s.1 s.2.1 s.2.2.1 s.2.2.2) FUEL (x15, x27, 0, 0)).bind fun z =>
  match z with
    | .ret r => some r
    | .go p => fettlelaw09_CallsLie.nx30 a1 x5 x11 p.1 p.2.1 p.2.2
def fettlelaw09_CallsLie.bd21  (x23 : List Int) (x26 : Int) : Option (Ex (List Int) (List Int × Int)) :=
  if x26 < (len x23) then
    (idx x23 x26).bind fun x225 =>
    some (.go ((x23.set (x26).toNat (-1)), (w64 (x26 + 1))))
  else
    some (.ret x23)
def fettlelaw09_CallsLie (a1 : PModule) : Option Bool :=
  (fettlelaw09_up).bind fun x5 =>
  (fettleref02_Small a1).bind fun x6 =>
  if (!x6) = true then
    some x5
  else
    (calls_Waves a1).bind fun x7 =>
    (calls_Calls a1).bind fun x11 =>
    (mkl (len a1.funcs) (0 : Int)).bind fun x15 =>
    (mkl (len a1.funcs) (0 : Int)).bind fun x19 =>
    (whl (fun (s : (List Int × Int)) => fettlelaw09_CallsLie.bd21 s.1 s.2) FUEL (x19, 0)).bind fun z =>
    fettlelaw09_CallsLie.nx21 a1 x5 x7 x11 x15 z
set_option maxHeartbeats 4000000 in
theorem fettlelaw09_CallsLie_ok {E : World} {H : FP} {w : World} {a1 : PModule} {v2 : Value} {r : Bool} (h3 : SlI kFunc H a1.funcs v2) (hp : fettlelaw09_CallsLie a1 = some r) (hst : St E H [] w) :
    Fn Try.prog 7 #[.agg #[v2]] w fun v w' => ∃ A, fettlelaw09_CallsLie.R r v A ∧ St E H A w' := by
 refine fb 190 [.tmp 2] Try.func7 rfl rfl rfl rfl rfl hst <| sr <| tb [v2] rfl rfl fun b4 => ta rfl <| nz <| sr <| bE hp fun x5 hy1 hp => tc 0 [_] rfl c24 (fun _ => fettlelaw09_up_ok hy1) rfl ?_
 rintro _ _ ⟨rfl, rfl⟩
 refine ta rfl <| nz <| sr <| tv (lA (ds := [v2]) ag_35 0 rfl rfl rfl rfl) rfl <| bE hp fun x6 hy3 hp => tc 0 [_] rfl c15 (fun _ => fettleref02_Small_ok (a1 := a1) (h3.mono subH) hy3) rfl ?_
 rintro _ _ ⟨rfl, rfl⟩
 refine ta rfl <| nz <| TC.seq fun K5 k6 => sr <| tm rfl <| tv (rv_not rfl) rfl <| nz <| cB rfl hp (fun hc7 hp => ?_) fun hc7 hp => ?_
 · exact sr <| tm rfl <| ta rfl <| nz <| TC.ret <| rt hp [] ⟨rfl, rfl⟩
 · refine sk k6 rfl <| sr <| tv (lA (ds := [v2]) ag_35 0 rfl rfl rfl rfl) rfl <| bE hp fun x7 hy8 hp => tc 0 [_] rfl c25 (fun _ => calls_Waves_ok (a1 := a1) (h3.mono subH) hy8) rfl ?_
   rintro _ _ ⟨v8, F9, rfl, rfl, h10⟩
   refine ta rfl <| nz <| sr <| tv (lA (ds := [v2]) ag_35 1 rfl rfl rfl rfl) rfl <| bE hp fun x11 hy10 hp => tc 0 [_,_] rfl c26 (fun _ => calls_Calls_ok (a1 := a1) (h3.mono subH) hy10) rfl ?_
   rintro _ _ ⟨v12, F13, rfl, rfl, h14⟩
   refine ta rfl <| nz <| sr <| tv (fa f35_0 rfl) rfl <| tv (lb s33 2 rfl rfl rfl) rfl <| tv (ln u33 h3 rfl) rfl <| tk (k := (kInt .i64)) u25 i3 hp ⟨rfl, rfl⟩ rfl rfl rfl rfl rfl rfl fun x15 v16 F17 h18 hp => ta rfl <| nz <| sr <| tv (fa f35_0 rfl) rfl <| tv (lb s33 3 rfl rfl rfl) rfl <| tv (ln u33 h3 rfl) rfl <| tk (k := (kInt .i64)) u25 i3 hp ⟨rfl, rfl⟩ rfl rfl rfl rfl rfl rfl fun x19 v20 F21 h22 hp => ta rfl <| nz <| sr <| ta rfl <| nz <| TC.seq fun K14 k15 => sr <| ta rfl <| nz <| TC.block <| bE hp fun z_17 hz18 hr19 => ?_
   have J176 {x27 F28 e22} (h29 : SlO 3 (kInt .i64) x27 v20 F28) (hq177 : x27 = z_17) : ∀ w, St E H [bx b4 35 [v2], F9, F13, F17, F28] w → K14 (ovr e22 [(1, .pointer (some ⟨b4, 0, none⟩)), (3, .bool x5), (5, v8), (6, v12), (7, v16), (8, v20), (9, .int .i64 0)]) w := by
    subst hq177
    replace hp : fettlelaw09_CallsLie.nx21 a1 x5 x7 x11 x15 x27 = some r := hr19
    refine tg k15 <| TC.seq fun K23 k24 => sr <| ta rfl <| nz <| TC.block <| bE hp fun z_26 hz27 hr28 => ?_
    have J109 {x38 x41 x44 F39 F42 e31} (h40 : SlO 3 (kInt .i64) x38 v16 F39) (h43 : SlO 3 (kInt .i64) x41 v20 F42) (hq110 : .go (x38, x41, x44) = z_26) : ∀ w, St E H [bx b4 35 [v2], F13, F39, F42] w → K23 (ovr e31 [(1, .pointer (some ⟨b4, 0, none⟩)), (3, .bool x5), (6, v12), (7, v16), (8, v20), (9, .int .i64 x44)]) w := by
     subst hq110
     replace hp : fettlelaw09_CallsLie.nx30 a1 x5 x11 x38 x41 x44 = some r := hr28
     refine tg k24 <| TC.seq fun K32 k33 => sr <| tm rfl <| tv (fa f35_0 rfl) rfl <| tv (lb s33 0 rfl rfl rfl) rfl <| tv (ln u33 h3 rfl) rfl <| tv (bne rfl rfl) rfl <| tm rfl <| TL.cut 5 fun K34 k35 => ?_
     have J36 {e38} : ∀ w, St E H [bx b4 35 [v2], F13, F39, F42] w → K34 (ovr e38 [(125, .bool (decide ((¬ x44 = (len a1.funcs)) ∨ (¬ (len x11) = x44)))), (3, .bool x5), (6, v12), (7, v16), (8, v20)]) w := by
      refine tlg k35 <| nz <| cD rfl hp (fun hc39 hp => ?_) fun hc39 hp => ?_
      · exact sr <| ta rfl <| nz <| TC.ret <| rt hp [] ⟨rfl, rfl⟩
      · refine sk k33 rfl <| TC.seq fun K40 k41 => sr <| ta rfl <| nz <| TC.block <| bE hp fun z_43 hz44 hr45 => ?_
        have J49 {e48} (hq50 : .go () = z_43) : ∀ w, St E H [] w → K40 (ovr e48 [(3, .bool x5)]) w := by
         subst hq50
         replace hp : fettlelaw09_CallsLie.nx47 x5 = some r := hr45
         exact tg k41 <| sr <| tm rfl <| ta rfl <| nz <| TC.ret <| rt hp [] ⟨rfl, rfl⟩
        refine lp hz44 [1, 2, 3] rfl (fun s e L => ∃ e42, e = ovr e42 [(3, .bool x5), (6, v12), (7, v16), (8, v20), (15, .int .i64 s)] ∧ L = [F13, F39, F42]) ⟨_, ovr_eq _ _ rfl, rfl⟩ ?_
        rintro x45 _ _ ⟨e42, rfl, rfl⟩ X46 hp hx47
        replace hp : fettlelaw09_CallsLie.bd47 x11 x38 x41 x45 = some X46 := hp
        refine TC.seq fun K51 k52 => sr <| tm rfl <| tm rfl <| tv (ln u60 h14.ro rfl) rfl <| tv (blt rfl rfl) rfl <| nz <| cD rfl hp (fun hc53 hp => ?_) fun hc53 hp => ?_
        · refine sk k52 rfl <| TC.seq fun K54 k55 => TC.block <| sr <| ta rfl <| nz <| TC.block <| bE hp fun z_57 hz58 hr59 => ?_
          have J63 {e62} (hq64 : .go () = z_57) : ∀ w, St E H [F13, F39, F42] w → K54 (ovr e62 [(3, .bool x5), (6, v12), (7, v16), (8, v20), (15, .int .i64 x45)]) w := by
           subst hq64
           replace hp : fettlelaw09_CallsLie.nx61 x45 = some X46 := hr59
           exact tg k55 <| TC.region <| tm rfl <| tv (bad rfl rfl) rfl <| ta rfl <| nl <| gk hp [0, 1, 2] ⟨_, ovr_eq _ _ rfl, rfl⟩
          refine lp hz58 [0, 1, 2] rfl (fun s e L => ∃ e56, e = ovr e56 [(3, .bool x5), (6, v12), (7, v16), (8, v20), (15, .int .i64 x45), (16, .int .i64 s)] ∧ L = [F13, F39, F42]) ⟨_, ovr_eq _ _ rfl, rfl⟩ ?_
          rintro x46 _ _ ⟨e56, rfl, rfl⟩ X60 hp hx61
          replace hp : fettlelaw09_CallsLie.bd61 x11 x38 x41 x45 x46 = some X60 := hp
          refine TC.seq fun K65 k66 => sr <| tm rfl <| tm rfl <| tm rfl <| ti u60 i25 (h14).ro hp rfl rfl rfl rfl ?_
          rintro x47 b48 o49 _ hp ⟨v53, rfl, h54⟩ h52
          refine tv (lr s25 (Src.at_ 0 rfl) h52 0 rfl rfl) rfl <| tv (ln u25 h54 rfl) rfl <| tv (blt rfl rfl) rfl <| nz <| cD rfl hp (fun hc68 hp => ?_) fun hc68 hp => ?_
          · refine sk k66 rfl <| TC.seq fun K69 k70 => TC.block <| sr <| tm rfl <| tm rfl <| ti u60 i25 (h14).ro hp rfl rfl rfl rfl ?_
            rintro x55 b56 o57 _ hp ⟨v61, rfl, h62⟩ h60
            refine tv (lr s25 (Src.at_ 0 rfl) h60 0 rfl rfl) rfl <| tm rfl <| ti u25 i3 h62 hp rfl rfl rfl rfl ?_
            rintro x63 b64 o65 _ hp rfl h68
            refine tv (lr s3 (Src.at_ 0 rfl) h68 0 rfl rfl) rfl <| ta rfl <| nz <| TC.seq fun K73 k74 => cq mix (by kernel_rfl) <| qv mv rfl <| qv (blt rfl rfl) rfl <| qv mv rfl <| QL.cut 5 fun K75 k76 => ?_
            have J77 {e79} : K75 (ovr e79 [(155, .bool (decide (x63 < 0 ∨ x63 ≥ (len x41)))), (3, .bool x5), (6, v12), (7, v16), (8, v20), (15, .int .i64 x45), (16, .int .i64 x46), (17, .int .i64 x63)]) := by
             refine k76 _ <| qv mv rfl <| bE hp fun t69 ht102 hp => QL.cut 10 fun K80 k81 => ?_
             have J82 {e84} : K80 (ovr e84 [(166, .bool t69), (3, .bool x5), (6, v12), (7, v16), (8, v20), (15, .int .i64 x45), (16, .int .i64 x46), (17, .int .i64 x63)]) := by
              refine k81 _ <| qv mv rfl <| bE hp fun t70 ht91 hp => QL.cut 21 fun K85 k86 => ?_
              have J87 {e89} : K85 (ovr e89 [(188, .bool t70), (3, .bool x5), (6, v12), (7, v16), (8, v20), (15, .int .i64 x45), (16, .int .i64 x46)]) := by
               refine k86 _ <| QL.nil <| tg k74 <| cB rfl hp (fun hc90 hp => ?_) fun hc90 hp => ?_
               · refine sr <| ta rfl <| nz <| TC.ret ?_
                 obtain rfl := ex_ret hp hx61
                 obtain rfl := ex_ret hr59 hx47
                 exact rt hr45 [] ⟨rfl, rfl⟩
               · exact sk k70 rfl <| TC.region <| tm rfl <| tv (bad rfl rfl) rfl <| ta rfl <| nl <| gk hp [0, 1, 2] ⟨_, ovr_eq _ _ rfl, rfl⟩
              refine ifE ht91 (fun hc88 hp => ?_) fun hc88 hp => ?_
              · refine qgn rfl (bbT hc88) rfl rfl <| qgn rfl (bbT hc88) rfl rfl <| qgn rfl (bbT hc88) rfl rfl <| qgn rfl (bbT hc88) rfl rfl <| qgn rfl (bbT hc88) rfl rfl <| qgn rfl (bbT hc88) rfl rfl <| qgn rfl (bbT hc88) rfl rfl <| qgn rfl (bbT hc88) rfl rfl <| qgn rfl (bbT hc88) rfl rfl <| qgn rfl (bbT hc88) rfl rfl <| qgu rfl rfl rfl <| qgu rfl rfl rfl <| qgu rfl rfl rfl <| qgu rfl rfl rfl <| qgu rfl rfl rfl <| qgu rfl rfl rfl <| qgu rfl rfl rfl <| qgu rfl rfl rfl <| qgu rfl rfl rfl <| qgn rfl (bbT hc88) rfl rfl <| qv (pT (bbT hc88)) rfl ?_
                obtain rfl := Option.some.inj hp
                exact qj J87 rfl
              · refine qgy rfl (bbF hc88) <| qv mv rfl <| qgy rfl (bbF hc88) <| qv mv rfl <| qgy rfl (bbF hc88) <| qi u25 i3 (h40).ro hp rfl rfl rfl rfl ?_
                rintro x71 b72 o73 _ hp rfl h76
                refine qgy rfl (bbF hc88) <| qv (lr s3 (Src.at_ 1 rfl) h76 0 rfl rfl) rfl <| qgy rfl (bbF hc88) <| qv mv rfl <| qgy rfl (bbF hc88) <| qv mv rfl <| qgy rfl (bbF hc88) <| qi u25 i3 (h40).ro hp rfl rfl rfl rfl ?_
                rintro x77 b78 o79 _ hp rfl h82
                refine qgy rfl (bbF hc88) <| qv (lr s3 (Src.at_ 1 rfl) h82 0 rfl rfl) rfl <| qgy rfl (bbF hc88) <| qv (beq rfl rfl) rfl <| qgy rfl (bbF hc88) <| qv mv rfl <| bE hp fun t83 ht99 hp => QL.cut 10 fun K94 k95 => ?_
                have J96 {e98} : K94 (ovr e98 [(187, .bool t83), (3, .bool x5), (6, v12), (7, v16), (8, v20), (15, .int .i64 x45), (16, .int .i64 x46), (167, .bool t69), (168, v16), (169, .int .i64 x63), (170, .pointer (some ⟨b72, o73, none⟩)), (171, .int .i64 x71), (172, v16), (173, .int .i64 x45), (174, .pointer (some ⟨b78, o79, none⟩)), (175, .int .i64 x77), (176, .bool (decide (x71 = x77))), (177, .bool (decide (x71 = x77)))]) := by
                 refine k95 _ <| qv (pF (bbF hc88)) rfl ?_
                 obtain rfl := Option.some.inj hp
                 exact qj J87 rfl
                refine ifE ht99 (fun hc97 hp => ?_) fun hc97 hp => ?_
                · refine qgy rfl (bT hc97) <| qv mv rfl <| qgy rfl (bT hc97) <| qv mv rfl <| qgy rfl (bT hc97) <| qi u25 i3 (h43).ro hp rfl rfl rfl rfl ?_
                  rintro x84 b85 o86 _ hp rfl h89
                  refine qgy rfl (bT hc97) <| qv (lr s3 (Src.at_ 2 rfl) h89 0 rfl rfl) rfl <| qgy rfl (bT hc97) <| qv mv rfl <| qgy rfl (bT hc97) <| qv mv rfl <| qgy rfl (bT hc97) <| qi u25 i3 (h43).ro hp rfl rfl rfl rfl ?_
                  rintro x90 b91 o92 _ hp rfl h95
                  refine qgy rfl (bT hc97) <| qv (lr s3 (Src.at_ 2 rfl) h95 0 rfl rfl) rfl <| qgy rfl (bT hc97) <| qv (bne rfl rfl) rfl <| qgy rfl (bbF hc88) <| qv (pT (bT hc97)) rfl ?_
                  obtain rfl := Option.some.inj hp
                  exact qj J96 rfl
                · refine qgn rfl (bF hc97) rfl rfl <| qgn rfl (bF hc97) rfl rfl <| qgn rfl (bF hc97) rfl rfl <| qgn rfl (bF hc97) rfl rfl <| qgn rfl (bF hc97) rfl rfl <| qgn rfl (bF hc97) rfl rfl <| qgn rfl (bF hc97) rfl rfl <| qgn rfl (bF hc97) rfl rfl <| qgn rfl (bF hc97) rfl rfl <| qgy rfl (bbF hc88) <| qv (pF (bF hc97)) rfl ?_
                  obtain rfl := Option.some.inj hp
                  exact qj J96 rfl
             refine ifE ht102 (fun hc83 hp => ?_) fun hc83 hp => ?_
             · refine qgn rfl (bT hc83) rfl rfl <| qgn rfl (bT hc83) rfl rfl <| qgn rfl (bT hc83) rfl rfl <| qgn rfl (bT hc83) rfl rfl <| qgn rfl (bT hc83) rfl rfl <| qgn rfl (bT hc83) rfl rfl <| qgn rfl (bT hc83) rfl rfl <| qgn rfl (bT hc83) rfl rfl <| qgn rfl (bT hc83) rfl rfl <| qv (pT (bT hc83)) rfl ?_
               obtain rfl := Option.some.inj hp
               exact qj J82 rfl
             · refine qgy rfl (bF hc83) <| qv mv rfl <| qgy rfl (bF hc83) <| qv mv rfl <| qgy rfl (bF hc83) <| qi u25 i3 (h40).ro hp rfl rfl rfl rfl ?_
               rintro x96 b97 o98 _ hp rfl h101
               refine qgy rfl (bF hc83) <| qv (lr s3 (Src.at_ 1 rfl) h101 0 rfl rfl) rfl <| qgy rfl (bF hc83) <| qv mv rfl <| qgy rfl (bF hc83) <| qv mv rfl <| qgy rfl (bF hc83) <| qi u25 i3 (h40).ro hp rfl rfl rfl rfl ?_
               rintro x102 b103 o104 _ hp rfl h107
               refine qgy rfl (bF hc83) <| qv (lr s3 (Src.at_ 1 rfl) h107 0 rfl rfl) rfl <| qgy rfl (bF hc83) <| qv (bgt rfl rfl) rfl <| qv (pF (bF hc83)) rfl ?_
               obtain rfl := Option.some.inj hp
               exact qj J82 rfl
            by_cases hc78 : x63 < 0
            · exact qgn rfl (bT hc78) rfl rfl <| qgn rfl (bT hc78) rfl rfl <| qgn rfl (bT hc78) rfl rfl <| qgn rfl (bT hc78) rfl rfl <| qv (pT (bT hc78)) rfl <| qj J77 (bOt hc78)
            · exact qgy rfl (bF hc78) <| qv mv rfl <| qgy rfl (bF hc78) <| qv mv rfl <| qgy rfl (bF hc78) <| qv (ln u25 h43.ro rfl) rfl <| qgy rfl (bF hc78) <| qv (bge rfl rfl) rfl <| qv (pF (bF hc78)) rfl <| qj J77 (bOf hc78)
          · exact TC.exit <| jn [0, 1, 2] (J63 (ex_ret hp hx61))
        · exact TC.exit <| jn [] (J49 (ex_ret hp hx47))
     by_cases hc37 : ¬ x44 = (len a1.funcs)
     · exact gn rfl (bT hc37) rfl rfl <| gn rfl (bT hc37) rfl rfl <| gn rfl (bT hc37) rfl rfl <| gn rfl (bT hc37) rfl rfl <| tv (pT (bT hc37)) rfl <| nj J36 (bOt hc37)
     · exact gy rfl (bF hc37) <| tm rfl <| gy rfl (bF hc37) <| tv (ln u60 h14.ro rfl) rfl <| gy rfl (bF hc37) <| tm rfl <| gy rfl (bF hc37) <| tv (bne rfl rfl) rfl <| tv (pF (bF hc37)) rfl <| nj J36 (bOf hc37)
    refine lp hz27 [0, 1, 2, 3, 4] rfl (fun s e L => ∃ x30 x33 x36 x37 F31 F34 e25, s = (x30, x33, x36, x37) ∧ SlO 3 (kInt .i64) x30 v16 F31 ∧ SlO 3 (kInt .i64) x33 v20 F34 ∧ e = ovr e25 [(1, .pointer (some ⟨b4, 0, none⟩)), (3, .bool x5), (5, v8), (6, v12), (7, v16), (8, v20), (9, .int .i64 x36), (11, .int .i64 x37)] ∧ L = [bx b4 35 [v2], F9, F13, F31, F34]) ⟨_, _, _, _, F17, F28, _, rfl, h18, h29, ovr_eq _ _ rfl, rfl⟩ ?_
    rintro _ _ _ ⟨x30, x33, x36, x37, F31, F34, e25, rfl, h32, h35, rfl, rfl⟩ X29 hp hx30
    replace hp : fettlelaw09_CallsLie.bd30 x7 x30 x33 x36 x37 = some X29 := hp
    refine TC.seq fun K111 k112 => sr <| tm rfl <| tm rfl <| tv (ln u58 h10.ro rfl) rfl <| tv (blt rfl rfl) rfl <| nz <| cD rfl hp (fun hc113 hp => ?_) fun hc113 hp => ?_
    · refine sk k112 rfl <| TC.seq fun K114 k115 => TC.block <| sr <| ta rfl <| nz <| TC.block <| bE hp fun z_117 hz118 hr119 => ?_
      have J123 {x116 x119 x122 F117 F120 e122} (h118 : SlO 3 (kInt .i64) x116 v16 F117) (h121 : SlO 3 (kInt .i64) x119 v20 F120) (hq124 : .go (x116, x119, x122) = z_117) : ∀ w, St E H [bx b4 35 [v2], F9, F13, F117, F120] w → K114 (ovr e122 [(1, .pointer (some ⟨b4, 0, none⟩)), (3, .bool x5), (5, v8), (6, v12), (7, v16), (8, v20), (9, .int .i64 x122), (11, .int .i64 x37)]) w := by
       subst hq124
       replace hp : fettlelaw09_CallsLie.nx121 x37 x116 x119 x122 = some X29 := hr119
       exact tg k115 <| TC.region <| tm rfl <| tv (bad rfl rfl) rfl <| ta rfl <| nl <| gk hp [0, 1, 2, 3, 4] ⟨_, _, _, _, F117, F120, _, rfl, h118, h121, ovr_eq _ _ rfl, rfl⟩
      refine lp hz118 [0, 1, 2, 3, 4] rfl (fun s e L => ∃ x108 x111 x114 x115 F109 F112 e116, s = (x108, x111, x114, x115) ∧ SlO 3 (kInt .i64) x108 v16 F109 ∧ SlO 3 (kInt .i64) x111 v20 F112 ∧ e = ovr e116 [(1, .pointer (some ⟨b4, 0, none⟩)), (3, .bool x5), (5, v8), (6, v12), (7, v16), (8, v20), (9, .int .i64 x114), (11, .int .i64 x37), (12, .int .i64 x115)] ∧ L = [bx b4 35 [v2], F9, F13, F109, F112]) ⟨_, _, _, _, F31, F34, _, rfl, h32, h35, ovr_eq _ _ rfl, rfl⟩ ?_
      rintro _ _ _ ⟨x108, x111, x114, x115, F109, F112, e116, rfl, h110, h113, rfl, rfl⟩ X120 hp hx121
      replace hp : fettlelaw09_CallsLie.bd121 x7 x37 x108 x111 x114 x115 = some X120 := hp
      refine TC.seq fun K125 k126 => sr <| tm rfl <| tm rfl <| tm rfl <| ti u58 i60 (h10).ro hp rfl rfl rfl rfl ?_
      rintro x123 b124 o125 _ hp ⟨v129, rfl, h130⟩ h128
      refine tv (lr s60 (Src.at_ 1 rfl) h128 0 rfl rfl) rfl <| tv (ln u60 h130 rfl) rfl <| tv (blt rfl rfl) rfl <| nz <| cD rfl hp (fun hc128 hp => ?_) fun hc128 hp => ?_
      · refine sk k126 rfl <| TC.seq fun K129 k130 => TC.block <| sr <| ta rfl <| nz <| TC.block <| bE hp fun z_132 hz133 hr134 => ?_
        have J138 {x139 x142 x145 F140 F143 e137} (h141 : SlO 3 (kInt .i64) x139 v16 F140) (h144 : SlO 3 (kInt .i64) x142 v20 F143) (hq139 : .go (x139, x142, x145) = z_132) : ∀ w, St E H [bx b4 35 [v2], F9, F13, F140, F143] w → K129 (ovr e137 [(1, .pointer (some ⟨b4, 0, none⟩)), (3, .bool x5), (5, v8), (6, v12), (7, v16), (8, v20), (9, .int .i64 x145), (11, .int .i64 x37), (12, .int .i64 x115)]) w := by
         subst hq139
         replace hp : fettlelaw09_CallsLie.nx136 x115 x139 x142 x145 = some X120 := hr134
         exact tg k130 <| TC.region <| tm rfl <| tv (bad rfl rfl) rfl <| ta rfl <| nl <| gk hp [0, 1, 2, 3, 4] ⟨_, _, _, _, F140, F143, _, rfl, h141, h144, ovr_eq _ _ rfl, rfl⟩
        refine lp hz133 [0, 1, 2, 3, 4] rfl (fun s e L => ∃ x131 x134 x137 x138 F132 F135 e131, s = (x131, x134, x137, x138) ∧ SlO 3 (kInt .i64) x131 v16 F132 ∧ SlO 3 (kInt .i64) x134 v20 F135 ∧ e = ovr e131 [(1, .pointer (some ⟨b4, 0, none⟩)), (3, .bool x5), (5, v8), (6, v12), (7, v16), (8, v20), (9, .int .i64 x137), (11, .int .i64 x37), (12, .int .i64 x115), (13, .int .i64 x138)] ∧ L = [bx b4 35 [v2], F9, F13, F132, F135]) ⟨_, _, _, _, F109, F112, _, rfl, h110, h113, ovr_eq _ _ rfl, rfl⟩ ?_
        rintro _ _ _ ⟨x131, x134, x137, x138, F132, F135, e131, rfl, h133, h136, rfl, rfl⟩ X135 hp hx136
        replace hp : fettlelaw09_CallsLie.bd136 x7 x37 x115 x131 x134 x137 x138 = some X135 := hp
        refine TC.seq fun K140 k141 => sr <| tm rfl <| tm rfl <| tm rfl <| ti u58 i60 (h10).ro hp rfl rfl rfl rfl ?_
        rintro x146 b147 o148 _ hp ⟨v152, rfl, h153⟩ h151
        refine tv (lr s60 (Src.at_ 1 rfl) h151 0 rfl rfl) rfl <| tm rfl <| ti u60 i25 h153 hp rfl rfl rfl rfl ?_
        rintro x154 b155 o156 _ hp ⟨v160, rfl, h161⟩ h159
        refine tv (lr s25 (Src.at_ 1 rfl) h159 0 rfl rfl) rfl <| tv (ln u25 h161 rfl) rfl <| tv (blt rfl rfl) rfl <| nz <| cD rfl hp (fun hc144 hp => ?_) fun hc144 hp => ?_
        · refine sk k141 rfl <| TC.seq fun K145 k146 => TC.block <| sr <| tm rfl <| tm rfl <| ti u58 i60 (h10).ro hp rfl rfl rfl rfl ?_
          rintro x162 b163 o164 _ hp ⟨v168, rfl, h169⟩ h167
          refine tv (lr s60 (Src.at_ 1 rfl) h167 0 rfl rfl) rfl <| tm rfl <| ti u60 i25 h169 hp rfl rfl rfl rfl ?_
          rintro x170 b171 o172 _ hp ⟨v176, rfl, h177⟩ h175
          refine tv (lr s25 (Src.at_ 1 rfl) h175 0 rfl rfl) rfl <| tm rfl <| ti u25 i3 h177 hp rfl rfl rfl rfl ?_
          rintro x178 b179 o180 _ hp rfl h183
          refine tv (lr s3 (Src.at_ 1 rfl) h183 0 rfl rfl) rfl <| ta rfl <| nz <| TC.seq fun K150 k151 => sr <| tm rfl <| tv (blt rfl rfl) rfl <| tm rfl <| TL.cut 5 fun K152 k153 => ?_
          have J154 {e156} : ∀ w, St E H [bx b4 35 [v2], F9, F13, F132, F135] w → K152 (ovr e156 [(89, .bool (decide (x178 < 0 ∨ x178 ≥ (len x134)))), (1, .pointer (some ⟨b4, 0, none⟩)), (3, .bool x5), (5, v8), (6, v12), (7, v16), (8, v20), (9, .int .i64 x137), (11, .int .i64 x37), (12, .int .i64 x115), (13, .int .i64 x138), (14, .int .i64 x178)]) w := by
           refine tlg k153 <| tm rfl <| bE hp fun t184 ht168 hp => TL.cut 6 fun K157 k158 => ?_
           have J159 {e161} : ∀ w, St E H [bx b4 35 [v2], F9, F13, F132, F135] w → K157 (ovr e161 [(96, .bool t184), (1, .pointer (some ⟨b4, 0, none⟩)), (3, .bool x5), (5, v8), (6, v12), (7, v16), (8, v20), (9, .int .i64 x137), (11, .int .i64 x37), (12, .int .i64 x115), (13, .int .i64 x138), (14, .int .i64 x178)]) w := by
            refine tlg k158 <| nz <| cB rfl hp (fun hc162 hp => ?_) fun hc162 hp => ?_
            · refine sr <| ta rfl <| nz <| TC.ret ?_
              obtain rfl := ex_ret hp hx136
              obtain rfl := ex_ret hr134 hx121
              obtain rfl := ex_ret hr119 hx30
              exact rt hr28 [] ⟨rfl, rfl⟩
            · refine sk k151 rfl <| sr <| tm rfl <| tm rfl <| tm rfl <| tO u25 i3 h133 hp rfl rfl rfl rfl fun x185 b186 o187 h188 hp => tp [3, 0, 1, 2, 4] [_,_,_,_,_] rfl rfl <| tE h133 h188 m3 rfl ⟨rfl, rfl⟩ w1 fun F189 h190 => nz <| sr <| tm rfl <| tm rfl <| tm rfl <| tm rfl <| ti u58 i60 (h10).ro hp rfl rfl rfl rfl ?_
              rintro x191 b192 o193 _ hp ⟨v197, rfl, h198⟩ h196
              refine tv (lr s60 (Src.at_ 2 rfl) h196 0 rfl rfl) rfl <| tm rfl <| ti u60 i25 h198 hp rfl rfl rfl rfl ?_
              rintro x199 b200 o201 _ hp ⟨v205, rfl, h206⟩ h204
              refine tv (lr s25 (Src.at_ 2 rfl) h204 0 rfl rfl) rfl <| ti u25 i3 h206 hp rfl rfl rfl rfl ?_
              rintro x207 b208 o209 _ hp rfl h212
              exact tv (lr s3 (Src.at_ 2 rfl) h212 0 rfl rfl) rfl <| tO u25 i3 h136 hp rfl rfl rfl rfl fun x213 b214 o215 h216 hp => tp [4, 0, 1, 2, 3] [_,_,_,_,_] rfl rfl <| tE h136 h216 m3 rfl ⟨rfl, rfl⟩ w1 fun F217 h218 => nz <| TC.region <| tm rfl <| tv (bad rfl rfl) rfl <| ta rfl <| nl <| tg k146 <| TC.region <| tm rfl <| tv (bad rfl rfl) rfl <| ta rfl <| nl <| gk hp [2, 3, 4, 1, 0] ⟨_, _, _, _, F189, F217, _, rfl, h190, h218, ovr_eq _ _ rfl, rfl⟩
           refine ifE ht168 (fun hc160 hp => ?_) fun hc160 hp => ?_
           · refine gn rfl (bT hc160) rfl rfl <| gn rfl (bT hc160) rfl rfl <| gn rfl (bT hc160) rfl rfl <| gn rfl (bT hc160) rfl rfl <| gn rfl (bT hc160) rfl rfl <| tv (pT (bT hc160)) rfl ?_
             obtain rfl := Option.some.inj hp
             exact nj J159 rfl
           · refine gy rfl (bF hc160) <| tm rfl <| gy rfl (bF hc160) <| tm rfl <| gy rfl (bF hc160) <| ti u25 i3 (h136).ro hp rfl rfl rfl rfl ?_
             rintro x219 b220 o221 _ hp rfl h224
             refine gy rfl (bF hc160) <| tv (lr s3 (Src.at_ 4 rfl) h224 0 rfl rfl) rfl <| gy rfl (bF hc160) <| tv (bne rfl rfl) rfl <| tv (pF (bF hc160)) rfl ?_
             obtain rfl := Option.some.inj hp
             exact nj J159 rfl
          by_cases hc155 : x178 < 0
          · exact gn rfl (bT hc155) rfl rfl <| gn rfl (bT hc155) rfl rfl <| gn rfl (bT hc155) rfl rfl <| gn rfl (bT hc155) rfl rfl <| tv (pT (bT hc155)) rfl <| nj J154 (bOt hc155)
          · exact gy rfl (bF hc155) <| tm rfl <| gy rfl (bF hc155) <| tm rfl <| gy rfl (bF hc155) <| tv (ln u25 h136.ro rfl) rfl <| gy rfl (bF hc155) <| tv (bge rfl rfl) rfl <| tv (pF (bF hc155)) rfl <| nj J154 (bOf hc155)
        · exact TC.exit <| jn [0, 1, 2, 3, 4] (J138 h133 h136 (ex_ret hp hx136))
      · exact TC.exit <| jn [0, 1, 2, 3, 4] (J123 h110 h113 (ex_ret hp hx121))
    · exact TC.exit <| jn [0, 2, 3, 4] (J109 h32 h35 (ex_ret hp hx30))
   refine lp hz18 [4, 3, 2, 1, 0] rfl (fun s e L => ∃ x23 x26 F24 e16, s = (x23, x26) ∧ SlO 3 (kInt .i64) x23 v20 F24 ∧ e = ovr e16 [(1, .pointer (some ⟨b4, 0, none⟩)), (3, .bool x5), (5, v8), (6, v12), (7, v16), (8, v20), (9, .int .i64 0), (10, .int .i64 x26)] ∧ L = [bx b4 35 [v2], F9, F13, F17, F24]) ⟨_, _, F21, _, rfl, h22, ovr_eq _ _ rfl, rfl⟩ ?_
   rintro _ _ _ ⟨x23, x26, F24, e16, rfl, h25, rfl, rfl⟩ X20 hp hx21
   replace hp : fettlelaw09_CallsLie.bd21 x23 x26 = some X20 := hp
   refine TC.seq fun K178 k179 => sr <| tm rfl <| tm rfl <| tv (ln u25 h25.ro rfl) rfl <| tv (blt rfl rfl) rfl <| nz <| cD rfl hp (fun hc180 hp => ?_) fun hc180 hp => ?_
   · exact sk k179 rfl <| TC.seq fun K181 k182 => TC.block <| TC.region <| tm rfl <| tm rfl <| tO u25 i3 h25 hp rfl rfl rfl rfl fun x225 b226 o227 h228 hp => tp [4, 0, 1, 2, 3] [_,_,_,_,_] rfl rfl <| tE h25 h228 m3 rfl ⟨rfl, rfl⟩ w1 fun F229 h230 => nl <| tg k182 <| TC.region <| tm rfl <| tv (bad rfl rfl) rfl <| ta rfl <| nl <| gk hp [1, 2, 3, 4, 0] ⟨_, _, F229, _, rfl, h230, ovr_eq _ _ rfl, rfl⟩
   · exact TC.exit <| jn [0, 1, 2, 3, 4] (J176 h25 (ex_ret hp hx21))

/-! ### fettle/calls.Rings -/
abbrev calls_Rings.R (r : List (List Int)) (v : Value) (A : List FP) : Prop := ∃ (w1 : Value) (G1 : FP), w1 = v ∧ A = [G1] ∧ SlO 25 (kSl 3 (kInt .i64)) r w1 G1
def calls_Rings (a1 : PModule) : Option (List (List Int)) :=
  (calls_found a1).bind fun x5 =>
  (slices_SortFunc_int_int_calls_byFirst x5).bind fun x9 =>
  some x9
theorem calls_Rings_ok {E : World} {H : FP} {w : World} {a1 : PModule} {v2 : Value} {r : List (List Int)} (h3 : SlI kFunc H a1.funcs v2) (hp : calls_Rings a1 = some r) (hst : St E H [] w) :
    Fn Try.prog 27 #[.agg #[v2]] w fun v w' => ∃ A, calls_Rings.R r v A ∧ St E H A w' := by
 refine fb 9 [.tmp 2] Try.func27 rfl rfl rfl rfl rfl hst <| sr <| tb [v2] rfl rfl fun b4 => ta rfl <| nz <| sr <| tv (lA (ds := [v2]) ag_35 0 rfl rfl rfl rfl) rfl <| bE hp fun x5 hy1 hp => tc 0 [_] rfl c61 (fun _ => calls_found_ok (a1 := a1) (h3.mono subH) hy1) rfl ?_
 rintro _ _ ⟨v6, F7, rfl, rfl, h8⟩
 refine ta rfl <| nz <| sr <| tm rfl <| bE hp fun x9 hy3 hp => tc 1 [_] rfl c63 (fun _ => slices_SortFunc_int_int_calls_byFirst_ok (a1 := x5) h8 hy3) rfl ?_
 rintro _ _ ⟨F10, rfl, rfl, h11⟩
 exact nz <| sr <| tm rfl <| ta rfl <| nz <| TC.ret <| rt hp [0] ⟨v6, F10, rfl, rfl, h11⟩
end Go.Proofs.Yteaknconpkklhaa
