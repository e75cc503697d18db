/- The walk through the program's functions: each one's pure reading, and that a call does what it says. No conditions. -/
import Derived.Test.YteaknconpkklhaaDoorV4
set_option linter.unusedVariables false
set_option linter.unusedSimpArgs false
namespace Go.Proofs.YteaknconpkklhaaDoor
open Go Go.Proofs
/-! ### fettle/fettleref02.Small -/
abbrev fettleref02_Small.R (r : Bool) (v : Value) (A : List FP) : Prop := .bool r = v ∧ A = []
def fettleref02_Small.nx11  : Option Bool :=
  some true
def fettleref02_Small.nx39 (x5 : Int) : Option (Ex (Ex Bool Unit) Int) :=
  some (.go (w64 (x5 + 1)))
def fettleref02_Small.nx76 (x17 : Int) : Option (Ex (Ex Bool Unit) Int) :=
  some (.go (w64 (x17 + 1)))
def fettleref02_Small.bd76 (x18 : PBlock) (x32 : Int) : Option (Ex (Ex Bool Unit) Int) :=
  if x32 < (len x18.phis) then
    (idx x18.phis x32).bind fun x33 =>
    if (len x33.args) > 300 then
      some (.ret (.ret false))
    else
      some (.go (w64 (x32 + 1)))
  else
    some (.ret (.go ()))
def fettleref02_Small.nx69 (x17 : Int) (x18 : PBlock) : Option (Ex (Ex Bool Unit) Int) :=
  (whl (fun (s : Int) => fettleref02_Small.bd76 x18 s) FUEL 0).bind fun z =>
  match z with
    | .ret r => some (.ret (.ret r))
    | .go p => fettleref02_Small.nx76 x17
def fettleref02_Small.bd69 (x18 : PBlock) (x31 : Int) : Option (Ex (Ex Bool Unit) Int) :=
  if x31 < (len x18.ins) then
    (idx x18.ins x31).bind fun x41 =>
    if (len x41.args) > 300 then
      some (.ret (.ret false))
    else
      some (.go (w64 (x31 + 1)))
  else
    some (.ret (.go ()))
def fettleref02_Small.bd39 (x6 : PFunc) (x17 : Int) : Option (Ex (Ex Bool Unit) Int) :=
  if x17 < (len x6.blocks) then
    (idx x6.blocks x17).bind fun x18 =>
    if ((len x18.ins) > 300 ∨ (len x18.phis) > 300) ∨ (len x18.term.to) > 70 then
      some (.ret (.ret false))
    else
      (whl (fun (s : Int) => fettleref02_Small.bd69 x18 s) FUEL 0).bind fun z =>
      match z with
        | .ret r => some (.ret (.ret r))
        | .go p => fettleref02_Small.nx69 x17 x18
  else
    some (.ret (.go ()))
def fettleref02_Small.bd11 (a1 : PModule) (x5 : Int) : Option (Ex (Ex Bool Unit) Int) :=
  if x5 < (len a1.funcs) then
    (idx a1.funcs x5).bind fun x6 =>
    if ((len x6.blocks) > 70 ∨ (len x6.regs) > 300) ∨ x6.params > 1000 then
      some (.ret (.ret false))
    else
      (whl (fun (s : Int) => fettleref02_Small.bd39 x6 s) FUEL 0).bind fun z =>
      match z with
        | .ret r => some (.ret (.ret r))
        | .go p => fettleref02_Small.nx39 x5
  else
    some (.ret (.go ()))
def fettleref02_Small (a1 : PModule) : Option Bool :=
  if (len a1.funcs) > 40 then
    some false
  else
    (whl (fun (s : Int) => fettleref02_Small.bd11 a1 s) FUEL 0).bind fun z =>
    match z with
      | .ret r => some r
      | .go p => fettleref02_Small.nx11
set_option maxHeartbeats 4000000 in
theorem fettleref02_Small_ok {E : World} {H : FP} {w : World} {a1 : PModule} {v2 : Value} {r : Bool} (h3 : SlI kFunc H a1.funcs v2) (hp : fettleref02_Small a1 = some r) (hst : St E H [] w) :
    Fn Tryd.prog 7 #[.agg #[v2]] w fun v w' => ∃ A, fettleref02_Small.R r v A ∧ St E H A w' := by
 refine fb 99 [.tmp 2] Tryd.func7 rfl rfl rfl rfl rfl hst <| sr <| tb [v2] rfl rfl fun b4 => ta rfl <| nz <| TC.seq fun K1 k2 => sr <| tv (fa f24_0 rfl) rfl <| tv (lb s22 0 rfl rfl rfl) rfl <| tv (ln u22 h3 rfl) rfl <| tv (bgt rfl rfl) rfl <| nz <| cD rfl hp (fun hc3 hp => ?_) fun hc3 hp => ?_
 · exact sr <| ta rfl <| nz <| TC.ret <| rt hp [] ⟨rfl, rfl⟩
 · refine sk k2 rfl <| TC.seq fun K4 k5 => sr <| ta rfl <| nz <| TC.block <| bE hp fun z_7 hz8 hr9 => ?_
   have J13 {e12} (hq14 : .go () = z_7) : ∀ w, St E H [] w → K4 (ovr e12 []) w := by
    subst hq14
    replace hp : fettleref02_Small.nx11 = some r := hr9
    exact tg k5 <| sr <| ta rfl <| nz <| TC.ret <| rt hp [] ⟨rfl, rfl⟩
   refine lp hz8 [0] rfl (fun s e L => ∃ e6, e = ovr e6 [(1, .pointer (some ⟨b4, 0, none⟩)), (3, .int .i64 s)] ∧ L = [bx b4 24 [v2]]) ⟨_, ovr_eq _ _ rfl, rfl⟩ ?_
   rintro x5 _ _ ⟨e6, rfl, rfl⟩ X10 hp hx11
   replace hp : fettleref02_Small.bd11 a1 x5 = some X10 := hp
   refine TC.seq fun K15 k16 => sr <| tm rfl <| tv (fa f24_0 rfl) rfl <| tv (lb s22 0 rfl rfl rfl) rfl <| tv (ln u22 h3 rfl) rfl <| tv (blt rfl rfl) rfl <| nz <| cD rfl hp (fun hc17 hp => ?_) fun hc17 hp => ?_
   · refine sk k16 rfl <| TC.seq fun K18 k19 => TC.block <| sr <| tv (fa f24_0 rfl) rfl <| tv (lb s22 0 rfl rfl rfl) rfl <| tm rfl <| ti u22 i41 h3 hp rfl rfl rfl rfl ?_
     rintro x6 b7 o8 _ hp ⟨v12, v14, rfl, h13, h15⟩ h11
     refine tv (lR (ds := [.int .i64 x6.params, .int .i64 x6.result, v12, v14]) ag_41 sH h11 0 rfl rfl rfl) rfl <| tl i41 rfl fun b16 => tS 0 m41 rfl rfl [.int .i64 x6.params, .int .i64 x6.result, v12, v14] rfl (oc rfl (oc rfl (oc (h13).one (oc (h15).one oc0)))) rfl rfl <| nz <| TC.seq fun K21 k22 => sr <| tv (fa f41_3 rfl) rfl <| tv (lb s39 0 rfl rfl rfl) rfl <| tv (ln u39 h15 rfl) rfl <| tv (bgt rfl rfl) rfl <| tm rfl <| TL.cut 5 fun K23 k24 => ?_
     have J25 {e27} : ∀ w, St E H [bx b16 41 [.int .i64 x6.params, .int .i64 x6.result, v12, v14], bx b4 24 [v2]] w → K23 (ovr e27 [(34, .bool (decide ((len x6.blocks) > 70 ∨ (len x6.regs) > 300))), (1, .pointer (some ⟨b4, 0, none⟩)), (3, .int .i64 x5), (4, .pointer (some ⟨b16, 0, none⟩))]) w := by
      refine tlg k24 <| tm rfl <| TL.cut 4 fun K28 k29 => ?_
      have J30 {e32} : ∀ w, St E H [bx b16 41 [.int .i64 x6.params, .int .i64 x6.result, v12, v14], bx b4 24 [v2]] w → K28 (ovr e32 [(39, .bool (decide (((len x6.blocks) > 70 ∨ (len x6.regs) > 300) ∨ x6.params > 1000))), (1, .pointer (some ⟨b4, 0, none⟩)), (3, .int .i64 x5), (4, .pointer (some ⟨b16, 0, none⟩))]) w := by
       refine tlg k29 <| nz <| cD rfl hp (fun hc33 hp => ?_) fun hc33 hp => ?_
       · refine sr <| ta rfl <| nz <| TC.ret ?_
         obtain rfl := ex_ret hp hx11
         exact rt hr9 [] ⟨rfl, rfl⟩
       · refine sk k22 rfl <| sr <| ta rfl <| nz <| TC.block <| bE hp fun z_35 hz36 hr37 => ?_
         have J41 {e40} (hq42 : .go () = z_35) : ∀ w, St E H [bx b4 24 [v2]] w → K18 (ovr e40 [(1, .pointer (some ⟨b4, 0, none⟩)), (3, .int .i64 x5)]) w := by
          subst hq42
          replace hp : fettleref02_Small.nx39 x5 = some X10 := hr37
          exact tg k19 <| TC.region <| tm rfl <| tv (bad rfl rfl) rfl <| ta rfl <| nl <| gk hp [0] ⟨_, ovr_eq _ _ rfl, rfl⟩
         refine lp hz36 [1, 0] rfl (fun s e L => ∃ e34, e = ovr e34 [(1, .pointer (some ⟨b4, 0, none⟩)), (3, .int .i64 x5), (4, .pointer (some ⟨b16, 0, none⟩)), (5, .int .i64 s)] ∧ L = [bx b4 24 [v2], bx b16 41 [.int .i64 x6.params, .int .i64 x6.result, v12, v14]]) ⟨_, ovr_eq _ _ rfl, rfl⟩ ?_
         rintro x17 _ _ ⟨e34, rfl, rfl⟩ X38 hp hx39
         replace hp : fettleref02_Small.bd39 x6 x17 = some X38 := hp
         refine TC.seq fun K43 k44 => sr <| tm rfl <| tv (fa f41_3 rfl) rfl <| tv (lb s39 1 rfl rfl rfl) rfl <| tv (ln u39 h15 rfl) rfl <| tv (blt rfl rfl) rfl <| nz <| cD rfl hp (fun hc45 hp => ?_) fun hc45 hp => ?_
         · refine sk k44 rfl <| TC.seq fun K46 k47 => TC.block <| sr <| tv (fa f41_3 rfl) rfl <| tv (lb s39 1 rfl rfl rfl) rfl <| tm rfl <| ti u39 i60 h15 hp rfl rfl rfl rfl ?_
           rintro x18 b19 o20 _ hp ⟨v24, v26, v28, rfl, h25, h27, h29⟩ h23
           refine tv (lR (ds := [v24, v26, .int .i64 x18.term.kind, .int .i64 x18.term.arg, v28]) ag_60 sH h23 0 rfl rfl rfl) rfl <| tl i60 rfl fun b30 => tS 0 m60 rfl rfl [v24, v26, .int .i64 x18.term.kind, .int .i64 x18.term.arg, v28] rfl (oc (h25).one (oc (h27).one (oc rfl (oc rfl (oc (h29).one oc0))))) rfl rfl <| nz <| TC.seq fun K49 k50 => sr <| tv (fa f60_1 rfl) rfl <| tv (lb s58 0 rfl rfl rfl) rfl <| tv (ln u58 h27 rfl) rfl <| tv (bgt rfl rfl) rfl <| tm rfl <| TL.cut 5 fun K51 k52 => ?_
           have J53 {e55} : ∀ w, St E H [bx b30 60 [v24, v26, .int .i64 x18.term.kind, .int .i64 x18.term.arg, v28], bx b4 24 [v2], bx b16 41 [.int .i64 x6.params, .int .i64 x6.result, v12, v14]] w → K51 (ovr e55 [(61, .bool (decide ((len x18.ins) > 300 ∨ (len x18.phis) > 300))), (1, .pointer (some ⟨b4, 0, none⟩)), (3, .int .i64 x5), (4, .pointer (some ⟨b16, 0, none⟩)), (5, .int .i64 x17), (6, .pointer (some ⟨b30, 0, none⟩))]) w := by
            refine tlg k52 <| tm rfl <| TL.cut 6 fun K56 k57 => ?_
            have J58 {e60} : ∀ w, St E H [bx b30 60 [v24, v26, .int .i64 x18.term.kind, .int .i64 x18.term.arg, v28], bx b4 24 [v2], bx b16 41 [.int .i64 x6.params, .int .i64 x6.result, v12, v14]] w → K56 (ovr e60 [(68, .bool (decide (((len x18.ins) > 300 ∨ (len x18.phis) > 300) ∨ (len x18.term.to) > 70))), (1, .pointer (some ⟨b4, 0, none⟩)), (3, .int .i64 x5), (4, .pointer (some ⟨b16, 0, none⟩)), (5, .int .i64 x17), (6, .pointer (some ⟨b30, 0, none⟩))]) w := by
             refine tlg k57 <| nz <| cD rfl hp (fun hc61 hp => ?_) fun hc61 hp => ?_
             · refine sr <| ta rfl <| nz <| TC.ret ?_
               obtain rfl := ex_ret hp hx39
               obtain rfl := ex_ret hr37 hx11
               exact rt hr9 [] ⟨rfl, rfl⟩
             · refine sk k50 rfl <| TC.seq fun K62 k63 => sr <| ta rfl <| nz <| TC.block <| bE hp fun z_65 hz66 hr67 => ?_
               have J89 {e70} (hq90 : .go () = z_65) : ∀ w, St E H [bx b4 24 [v2], bx b16 41 [.int .i64 x6.params, .int .i64 x6.result, v12, v14], bx b30 60 [v24, v26, .int .i64 x18.term.kind, .int .i64 x18.term.arg, v28]] w → K62 (ovr e70 [(1, .pointer (some ⟨b4, 0, none⟩)), (3, .int .i64 x5), (4, .pointer (some ⟨b16, 0, none⟩)), (5, .int .i64 x17), (6, .pointer (some ⟨b30, 0, none⟩))]) w := by
                subst hq90
                replace hp : fettleref02_Small.nx69 x17 x18 = some X38 := hr67
                refine tg k63 <| sr <| ta rfl <| nz <| TC.block <| bE hp fun z_72 hz73 hr74 => ?_
                have J78 {e77} (hq79 : .go () = z_72) : ∀ w, St E H [bx b4 24 [v2], bx b16 41 [.int .i64 x6.params, .int .i64 x6.result, v12, v14]] w → K46 (ovr e77 [(1, .pointer (some ⟨b4, 0, none⟩)), (3, .int .i64 x5), (4, .pointer (some ⟨b16, 0, none⟩)), (5, .int .i64 x17)]) w := by
                 subst hq79
                 replace hp : fettleref02_Small.nx76 x17 = some X38 := hr74
                 exact tg k47 <| TC.region <| tm rfl <| tv (bad rfl rfl) rfl <| ta rfl <| nl <| gk hp [0, 1] ⟨_, ovr_eq _ _ rfl, rfl⟩
                refine lp hz73 [0, 1, 2] rfl (fun s e L => ∃ e71, e = ovr e71 [(1, .pointer (some ⟨b4, 0, none⟩)), (3, .int .i64 x5), (4, .pointer (some ⟨b16, 0, none⟩)), (5, .int .i64 x17), (6, .pointer (some ⟨b30, 0, none⟩)), (8, .int .i64 s)] ∧ L = [bx b4 24 [v2], bx b16 41 [.int .i64 x6.params, .int .i64 x6.result, v12, v14], bx b30 60 [v24, v26, .int .i64 x18.term.kind, .int .i64 x18.term.arg, v28]]) ⟨_, ovr_eq _ _ rfl, rfl⟩ ?_
                rintro x32 _ _ ⟨e71, rfl, rfl⟩ X75 hp hx76
                replace hp : fettleref02_Small.bd76 x18 x32 = some X75 := hp
                refine TC.seq fun K80 k81 => sr <| tm rfl <| tv (fa f60_0 rfl) rfl <| tv (lb s57 2 rfl rfl rfl) rfl <| tv (ln u57 h25 rfl) rfl <| tv (blt rfl rfl) rfl <| nz <| cD rfl hp (fun hc82 hp => ?_) fun hc82 hp => ?_
                · refine sk k81 rfl <| TC.seq fun K83 k84 => TC.block <| sr <| tv (fa f60_0 rfl) rfl <| tv (lb s57 2 rfl rfl rfl) rfl <| tm rfl <| ti u57 i64 h25 hp rfl rfl rfl rfl ?_
                  rintro x33 b34 o35 _ hp ⟨v39, rfl, h40⟩ h38
                  refine tv (fa f64_1 rfl) rfl <| tv (lr s32 sH h38 1 rfl rfl) rfl <| tv (ln u32 h40 rfl) rfl <| tv (bgt rfl rfl) rfl <| nz <| cD rfl hp (fun hc86 hp => ?_) fun hc86 hp => ?_
                  · refine sr <| ta rfl <| nz <| TC.ret ?_
                    obtain rfl := ex_ret hp hx76
                    obtain rfl := ex_ret hr74 hx39
                    obtain rfl := ex_ret hr37 hx11
                    exact rt hr9 [] ⟨rfl, rfl⟩
                  · exact sk k84 rfl <| TC.region <| tm rfl <| tv (bad rfl rfl) rfl <| ta rfl <| nl <| gk hp [0, 1, 2] ⟨_, ovr_eq _ _ rfl, rfl⟩
                · exact TC.exit <| jn [0, 1] (J78 (ex_ret hp hx76))
               refine lp hz66 [1, 2, 0] rfl (fun s e L => ∃ e64, e = ovr e64 [(1, .pointer (some ⟨b4, 0, none⟩)), (3, .int .i64 x5), (4, .pointer (some ⟨b16, 0, none⟩)), (5, .int .i64 x17), (6, .pointer (some ⟨b30, 0, none⟩)), (7, .int .i64 s)] ∧ L = [bx b4 24 [v2], bx b16 41 [.int .i64 x6.params, .int .i64 x6.result, v12, v14], bx b30 60 [v24, v26, .int .i64 x18.term.kind, .int .i64 x18.term.arg, v28]]) ⟨_, ovr_eq _ _ rfl, rfl⟩ ?_
               rintro x31 _ _ ⟨e64, rfl, rfl⟩ X68 hp hx69
               replace hp : fettleref02_Small.bd69 x18 x31 = some X68 := hp
               refine TC.seq fun K91 k92 => sr <| tm rfl <| tv (fa f60_1 rfl) rfl <| tv (lb s58 2 rfl rfl rfl) rfl <| tv (ln u58 h27 rfl) rfl <| tv (blt rfl rfl) rfl <| nz <| cD rfl hp (fun hc93 hp => ?_) fun hc93 hp => ?_
               · refine sk k92 rfl <| TC.seq fun K94 k95 => TC.block <| sr <| tv (fa f60_1 rfl) rfl <| tv (lb s58 2 rfl rfl rfl) rfl <| tm rfl <| ti u58 i62 h27 hp rfl rfl rfl rfl ?_
                 rintro x41 b42 o43 _ hp ⟨v47, rfl, h48⟩ h46
                 refine tv (fa f62_2 rfl) rfl <| tv (lr s32 sH h46 2 rfl rfl) rfl <| tv (ln u32 h48 rfl) rfl <| tv (bgt rfl rfl) rfl <| nz <| cD rfl hp (fun hc97 hp => ?_) fun hc97 hp => ?_
                 · refine sr <| ta rfl <| nz <| TC.ret ?_
                   obtain rfl := ex_ret hp hx69
                   obtain rfl := ex_ret hr67 hx39
                   obtain rfl := ex_ret hr37 hx11
                   exact rt hr9 [] ⟨rfl, rfl⟩
                 · exact sk k95 rfl <| TC.region <| tm rfl <| tv (bad rfl rfl) rfl <| ta rfl <| nl <| gk hp [0, 1, 2] ⟨_, ovr_eq _ _ rfl, rfl⟩
               · exact TC.exit <| jn [0, 1, 2] (J89 (ex_ret hp hx69))
            by_cases hc59 : (len x18.ins) > 300 ∨ (len x18.phis) > 300
            · exact gn rfl (bT hc59) rfl rfl <| gn rfl (bT hc59) rfl rfl <| gn rfl (bT hc59) rfl rfl <| gn rfl (bT hc59) rfl rfl <| gn rfl (bT hc59) rfl rfl <| tv (pT (bT hc59)) rfl <| nj J58 (bOt hc59)
            · exact gy rfl (bF hc59) <| tv (fa f60_2 rfl) rfl <| gy rfl (bF hc59) <| tv (fa f56_2 rfl) rfl <| gy rfl (bF hc59) <| tv (lb s32 0 rfl rfl rfl) rfl <| gy rfl (bF hc59) <| tv (ln u32 h29 rfl) rfl <| gy rfl (bF hc59) <| tv (bgt rfl rfl) rfl <| tv (pF (bF hc59)) rfl <| nj J58 (bOf hc59)
           by_cases hc54 : (len x18.ins) > 300
           · exact gn rfl (bT hc54) rfl rfl <| gn rfl (bT hc54) rfl rfl <| gn rfl (bT hc54) rfl rfl <| gn rfl (bT hc54) rfl rfl <| tv (pT (bT hc54)) rfl <| nj J53 (bOt hc54)
           · exact gy rfl (bF hc54) <| tv (fa f60_0 rfl) rfl <| gy rfl (bF hc54) <| tv (lb s57 0 rfl rfl rfl) rfl <| gy rfl (bF hc54) <| tv (ln u57 h25 rfl) rfl <| gy rfl (bF hc54) <| tv (bgt rfl rfl) rfl <| tv (pF (bF hc54)) rfl <| nj J53 (bOf hc54)
         · exact TC.exit <| jn [0] (J41 (ex_ret hp hx39))
      by_cases hc31 : (len x6.blocks) > 70 ∨ (len x6.regs) > 300
      · exact gn rfl (bT hc31) rfl rfl <| gn rfl (bT hc31) rfl rfl <| gn rfl (bT hc31) rfl rfl <| tv (pT (bT hc31)) rfl <| nj J30 (bOt hc31)
      · exact gy rfl (bF hc31) <| tv (fa f41_0 rfl) rfl <| gy rfl (bF hc31) <| tv (lb s3 0 rfl rfl rfl) rfl <| gy rfl (bF hc31) <| tv (bgt rfl rfl) rfl <| tv (pF (bF hc31)) rfl <| nj J30 (bOf hc31)
     by_cases hc26 : (len x6.blocks) > 70
     · exact gn rfl (bT hc26) rfl rfl <| gn rfl (bT hc26) rfl rfl <| gn rfl (bT hc26) rfl rfl <| gn rfl (bT hc26) rfl rfl <| tv (pT (bT hc26)) rfl <| nj J25 (bOt hc26)
     · exact gy rfl (bF hc26) <| tv (fa f41_2 rfl) rfl <| gy rfl (bF hc26) <| tv (lb s32 0 rfl rfl rfl) rfl <| gy rfl (bF hc26) <| tv (ln u32 h13 rfl) rfl <| gy rfl (bF hc26) <| tv (bgt rfl rfl) rfl <| tv (pF (bF hc26)) rfl <| nj J25 (bOf hc26)
   · exact TC.exit <| jn [] (J13 (ex_ret hp hx11))
/-! ### fettle/live.Count -/
abbrev live_Count.R (r : List Int × GErr) (v : Value) (A : List FP) : Prop := ∃ (w1 : Value) (G1 : FP) (w2 : Value) (G2 : FP), .tuple #[w1, w2] = v ∧ A = [G1, G2] ∧ SlO 3 (kInt .i64) r.1 w1 G1 ∧ ErO 38 69 74 r.2 w2 G2
def live_Count.nx15  (x30 : List Int) : Option (List Int × GErr) :=
  some (x30, GErr.no)
def live_Count.jn25 (x29 : Int) (x34 : List Int) : Option (Ex (List Int) (List Int × Int)) :=
  some (.go (x34, (w64 (x29 + 1))))
def live_Count.nx43 (x29 : Int) (x37 : PBlock) (x61 : List Int) : Option (Ex (List Int) (List Int × Int)) :=
  if x37.term.arg ≥ 0 then
    (idx x61 x37.term.arg).bind fun x64 =>
    (idx x61 x37.term.arg).bind fun x70 =>
    live_Count.jn25 x29 (x61.set (x37.term.arg).toNat (w64 (x64 + 1)))
  else
    live_Count.jn25 x29 x61
def live_Count.nx61 (x60 : Int) (x89 : List Int) : Option (Ex (List Int) (List Int × Int)) :=
  some (.go (x89, (w64 (x60 + 1))))
def live_Count.bd61 (x76 : PInstr) (x85 : List Int) (x88 : Int) : Option (Ex (List Int) (List Int × Int)) :=
  if x88 < (len x76.args) then
    (idx x76.args x88).bind fun x92 =>
    (idx x85 x92).bind fun x98 =>
    (idx x85 x92).bind fun x104 =>
    some (.go ((x85.set (x92).toNat (w64 (x98 + 1))), (w64 (x88 + 1))))
  else
    some (.ret x85)
def live_Count.bd43 (x37 : PBlock) (x57 : List Int) (x60 : Int) : Option (Ex (List Int) (List Int × Int)) :=
  if x60 < (len x37.ins) then
    (idx x37.ins x60).bind fun x76 =>
    (whl (fun (s : (List Int × Int)) => live_Count.bd61 x76 s.1 s.2) FUEL (x57, 0)).bind fun z =>
    live_Count.nx61 x60 z
  else
    some (.ret x57)
def live_Count.nx34 (x29 : Int) (x37 : PBlock) (x54 : List Int) : Option (Ex (List Int) (List Int × Int)) :=
  (whl (fun (s : (List Int × Int)) => live_Count.bd43 x37 s.1 s.2) FUEL (x54, 0)).bind fun z =>
  live_Count.nx43 x29 x37 z
def live_Count.nx90 (x53 : Int) (x123 : List Int) : Option (Ex (List Int) (List Int × Int)) :=
  some (.go (x123, (w64 (x53 + 1))))
def live_Count.bd90 (x110 : PPhi) (x119 : List Int) (x122 : Int) : Option (Ex (List Int) (List Int × Int)) :=
  if x122 < (len x110.args) then
    (idx x110.args x122).bind fun x126 =>
    (idx x119 x126).bind fun x132 =>
    (idx x119 x126).bind fun x138 =>
    some (.go ((x119.set (x126).toNat (w64 (x132 + 1))), (w64 (x122 + 1))))
  else
    some (.ret x119)
def live_Count.bd34 (x37 : PBlock) (x50 : List Int) (x53 : Int) : Option (Ex (List Int) (List Int × Int)) :=
  if x53 < (len x37.phis) then
    (idx x37.phis x53).bind fun x110 =>
    (whl (fun (s : (List Int × Int)) => live_Count.bd90 x110 s.1 s.2) FUEL (x50, 0)).bind fun z =>
    live_Count.nx90 x53 z
  else
    some (.ret x50)
def live_Count.bd15 (x11 : PFunc) (x26 : List Int) (x29 : Int) : Option (Ex (List Int) (List Int × Int)) :=
  if x29 < (len x11.blocks) then
    (idx x11.blocks x29).bind fun x37 =>
    (whl (fun (s : (List Int × Int)) => live_Count.bd34 x37 s.1 s.2) FUEL (x26, 0)).bind fun z =>
    live_Count.nx34 x29 x37 z
  else
    some (.ret x26)
def live_Count (a1 : PModule) (a4 : Int) : Option (List Int × GErr) :=
  (live_has a1 a4).bind fun x6 =>
  if ¬ x6 = GErr.no then
    some (([] : List Int), x6)
  else
    (idx a1.funcs a4).bind fun x11 =>
    (mkl (len x11.regs) (0 : Int)).bind fun x22 =>
    (whl (fun (s : (List Int × Int)) => live_Count.bd15 x11 s.1 s.2) FUEL (x22, 0)).bind fun z =>
    live_Count.nx15 z
set_option maxHeartbeats 4000000 in
theorem live_Count_ok {E : World} {H : FP} {w : World} {a1 : PModule} {a4 : Int} {v2 : Value} {r : List Int × GErr} (h3 : SlI kFunc H a1.funcs v2) (hp : live_Count a1 a4 = some r) (hst : St E H [] w) :
    Fn Tryd.prog 9 #[.agg #[v2], .int .i64 a4] w fun v w' => ∃ A, live_Count.R r v A ∧ St E H A w' := by
 refine fb 99 [.tmp 4, .tmp 5] Tryd.func9 rfl rfl rfl rfl rfl hst <| sr <| tb [v2] rfl rfl fun b5 => ta rfl <| ta rfl <| nz <| TC.seq fun K1 k2 => sr <| tv (lA (ds := [v2]) ag_24 0 rfl rfl rfl rfl) rfl <| tm rfl <| bE hp fun x6 hy3 hp => tc 0 [_] rfl c20 (fun _ => live_has_ok (a1 := a1) (a4 := a4) (h3.mono subH) hy3) rfl ?_
 rintro _ _ ⟨v7, F8, rfl, rfl, h9⟩
 refine ta rfl <| nz <| sr <| tm rfl <| tv (rv_neqEN ifc_29 h9 rfl) rfl <| nz <| cD rfl hp (fun hc5 hp => ?_) fun hc5 hp => ?_
 · exact sr <| tm rfl <| ta rfl <| ta rfl <| nz <| TC.ret <| W.new0 <| rt hp [0, 1] ⟨(.slice none 0 0), ([] : FP), v7, F8, rfl, rfl, (SlO.nil 3), h9⟩
 · refine sk k2 rfl <| sr <| tv (fa f24_0 rfl) rfl <| tv (lb s22 1 rfl rfl rfl) rfl <| tm rfl <| ti u22 i41 h3 hp rfl rfl rfl rfl ?_
   rintro x11 b12 o13 _ hp ⟨v17, v19, rfl, h18, h20⟩ h16
   refine tv (lR (ds := [.int .i64 x11.params, .int .i64 x11.result, v17, v19]) ag_41 sH h16 0 rfl rfl rfl) rfl <| tl i41 rfl fun b21 => tS 0 m41 rfl rfl [.int .i64 x11.params, .int .i64 x11.result, v17, v19] rfl (oc rfl (oc rfl (oc (h18).one (oc (h20).one oc0)))) rfl rfl <| nz <| sr <| tv (fa f41_2 rfl) rfl <| tv (lb s32 0 rfl rfl rfl) rfl <| tv (ln u32 h18 rfl) rfl <| tk (k := (kInt .i64)) u32 i3 hp ⟨rfl, rfl⟩ rfl rfl rfl rfl rfl rfl fun x22 v23 F24 h25 hp => ta rfl <| nz <| TC.seq fun K8 k9 => sr <| tv (fa f41_3 rfl) rfl <| tv (lb s39 1 rfl rfl rfl) rfl <| tv (ln u39 h20 rfl) rfl <| tm rfl <| nz <| TC.block <| bE hp fun z_11 hz12 hr13 => ?_
   have J17 {x30 F31 e16} (h32 : SlO 3 (kInt .i64) x30 v23 F31) (hq18 : x30 = z_11) : ∀ w, St E H [F31] w → K8 (ovr e16 [(8, v23)]) w := by
    subst hq18
    replace hp : live_Count.nx15 x30 = some r := hr13
    exact tg k9 <| sr <| tm rfl <| ta rfl <| ta rfl <| nz <| TC.ret <| W.new0 <| rt hp [1, 0] ⟨v23, F31, .nilIface, ([] : FP), rfl, rfl, h32, (ErO.nil : ErO 38 69 74 GErr.no .nilIface [])⟩
   refine lp hz12 [0] rfl (fun s e L => ∃ x26 x29 F27 e10, s = (x26, x29) ∧ SlO 3 (kInt .i64) x26 v23 F27 ∧ e = ovr e10 [(8, v23), (35, v19), (36, .int .i64 (len x11.blocks)), (37, .int .i64 x29)] ∧ L = [F27]) ⟨_, _, F24, _, rfl, h25, ovr_eq _ _ rfl, rfl⟩ ?_
   rintro _ _ _ ⟨x26, x29, F27, e10, rfl, h28, rfl, rfl⟩ X14 hp hx15
   replace hp : live_Count.bd15 x11 x26 x29 = some X14 := hp
   refine sr <| tv (blt rfl rfl) rfl <| nz <| TC.seq fun K19 k20 => cD rfl hp (fun hc21 hp => ?_) fun hc21 hp => ?_
   · refine sk k20 rfl <| TC.seq fun K22 k23 => ?_
     have J25 {x34 F35 e24} (h36 : SlO 3 (kInt .i64) x34 v23 F35) (hp : live_Count.jn25 x29 x34 = some X14) : ∀ w, St E H [F35] w → K22 (ovr e24 [(8, v23), (35, v19), (36, .int .i64 (len x11.blocks)), (37, .int .i64 x29)]) w := by
      exact tg k23 <| TC.region <| tv (bad rfl rfl) rfl <| tm rfl <| nl <| gk hp [0] ⟨_, _, F35, _, rfl, h36, ovr_eq _ _ rfl, rfl⟩
     refine TC.block <| sr <| ti u39 i60 h20 hp rfl rfl rfl rfl ?_
     rintro x37 b38 o39 _ hp ⟨v43, v45, v47, rfl, h44, h46, h48⟩ h42
     refine tv (lR (ds := [v43, v45, .int .i64 x37.term.kind, .int .i64 x37.term.arg, v47]) ag_60 sH h42 0 rfl rfl rfl) rfl <| tl i60 rfl fun b49 => tS 0 m60 rfl rfl [v43, v45, .int .i64 x37.term.kind, .int .i64 x37.term.arg, v47] rfl (oc (h44).one (oc (h46).one (oc rfl (oc rfl (oc (h48).one oc0))))) rfl rfl <| nz <| TC.seq fun K27 k28 => sr <| tv (fa f60_0 rfl) rfl <| tv (lb s57 0 rfl rfl rfl) rfl <| tv (ln u57 h44 rfl) rfl <| tm rfl <| nz <| TC.block <| bE hp fun z_30 hz31 hr32 => ?_
     have J77 {x54 F55 e35} (h56 : SlO 3 (kInt .i64) x54 v23 F55) (hq78 : x54 = z_30) : ∀ w, St E H [F55, bx b49 60 [v43, v45, .int .i64 x37.term.kind, .int .i64 x37.term.arg, v47]] w → K27 (ovr e35 [(8, v23), (10, .pointer (some ⟨b49, 0, none⟩)), (35, v19), (36, .int .i64 (len x11.blocks)), (37, .int .i64 x29)]) w := by
      subst hq78
      replace hp : live_Count.nx34 x29 x37 x54 = some X14 := hr32
      refine tg k28 <| TC.seq fun K36 k37 => sr <| tv (fa f60_1 rfl) rfl <| tv (lb s58 1 rfl rfl rfl) rfl <| tv (ln u58 h46 rfl) rfl <| tm rfl <| nz <| TC.block <| bE hp fun z_39 hz40 hr41 => ?_
      have J48 {x61 F62 e44} (h63 : SlO 3 (kInt .i64) x61 v23 F62) (hq49 : x61 = z_39) : ∀ w, St E H [F62, bx b49 60 [v43, v45, .int .i64 x37.term.kind, .int .i64 x37.term.arg, v47]] w → K36 (ovr e44 [(8, v23), (10, .pointer (some ⟨b49, 0, none⟩)), (35, v19), (36, .int .i64 (len x11.blocks)), (37, .int .i64 x29)]) w := by
       subst hq49
       replace hp : live_Count.nx43 x29 x37 x61 = some X14 := hr41
       refine tg k37 <| sr <| tv (fa f60_2 rfl) rfl <| tv (fa f56_1 rfl) rfl <| tv (lb s3 1 rfl rfl rfl) rfl <| tv (bge rfl rfl) rfl <| nz <| cD rfl hp (fun hc45 hp => ?_) fun hc45 hp => ?_
       · refine TC.region <| tm rfl <| tv (fa f60_2 rfl) rfl <| tv (fa f56_1 rfl) rfl <| tv (lb s3 1 rfl rfl rfl) rfl <| ti u32 i3 (h63).ro hp rfl rfl rfl rfl ?_
         rintro x64 b65 o66 _ hp rfl h69
         exact tv (lr s3 (Src.at_ 0 rfl) h69 0 rfl rfl) rfl <| tv (bad rfl rfl) rfl <| tO u32 i3 h63 hp rfl rfl rfl rfl fun x70 b71 o72 h73 hp => tE h63 h73 m3 rfl ⟨rfl, rfl⟩ w1 fun F74 h75 => nl <| jn [0] (J25 h75 hp)
       · exact TC.skip <| jn [0] (J25 h63 hp)
      refine lp hz40 [0, 1] rfl (fun s e L => ∃ x57 x60 F58 e38, s = (x57, x60) ∧ SlO 3 (kInt .i64) x57 v23 F58 ∧ e = ovr e38 [(8, v23), (10, .pointer (some ⟨b49, 0, none⟩)), (35, v19), (36, .int .i64 (len x11.blocks)), (37, .int .i64 x29), (64, v45), (65, .int .i64 (len x37.ins)), (66, .int .i64 x60)] ∧ L = [F58, bx b49 60 [v43, v45, .int .i64 x37.term.kind, .int .i64 x37.term.arg, v47]]) ⟨_, _, F55, _, rfl, h56, ovr_eq _ _ rfl, rfl⟩ ?_
      rintro _ _ _ ⟨x57, x60, F58, e38, rfl, h59, rfl, rfl⟩ X42 hp hx43
      replace hp : live_Count.bd43 x37 x57 x60 = some X42 := hp
      refine sr <| tv (blt rfl rfl) rfl <| nz <| TC.seq fun K50 k51 => cD rfl hp (fun hc52 hp => ?_) fun hc52 hp => ?_
      · refine sk k51 rfl <| TC.seq fun K53 k54 => TC.block <| sr <| ti u58 i62 h46 hp rfl rfl rfl rfl ?_
        rintro x76 b77 o78 _ hp ⟨v82, rfl, h83⟩ h81
        refine tv (lR (ds := [.int .i64 x76.op, .int .i64 x76.dst, v82, .int .i64 x76.imm, .int .i64 x76.fn]) ag_62 sH h81 0 rfl rfl rfl) rfl <| tl i62 rfl fun b84 => tS 0 m62 rfl rfl [.int .i64 x76.op, .int .i64 x76.dst, v82, .int .i64 x76.imm, .int .i64 x76.fn] rfl (oc rfl (oc rfl (oc (h83).one (oc rfl (oc rfl oc0))))) rfl rfl <| nz <| sr <| tv (fa f62_2 rfl) rfl <| tv (lb s32 0 rfl rfl rfl) rfl <| tv (ln u32 h83 rfl) rfl <| tm rfl <| nz <| TC.block <| bE hp fun z_57 hz58 hr59 => ?_
        have J63 {x89 F90 e62} (h91 : SlO 3 (kInt .i64) x89 v23 F90) (hq64 : x89 = z_57) : ∀ w, St E H [F90, bx b49 60 [v43, v45, .int .i64 x37.term.kind, .int .i64 x37.term.arg, v47]] w → K53 (ovr e62 [(8, v23), (10, .pointer (some ⟨b49, 0, none⟩)), (35, v19), (36, .int .i64 (len x11.blocks)), (37, .int .i64 x29), (64, v45), (65, .int .i64 (len x37.ins)), (66, .int .i64 x60)]) w := by
         subst hq64
         replace hp : live_Count.nx61 x60 x89 = some X42 := hr59
         exact tg k54 <| TC.region <| tv (bad rfl rfl) rfl <| tm rfl <| nl <| gk hp [0, 1] ⟨_, _, F90, _, rfl, h91, ovr_eq _ _ rfl, rfl⟩
        refine lp hz58 [1, 2] rfl (fun s e L => ∃ x85 x88 F86 e56, s = (x85, x88) ∧ SlO 3 (kInt .i64) x85 v23 F86 ∧ e = ovr e56 [(8, v23), (10, .pointer (some ⟨b49, 0, none⟩)), (35, v19), (36, .int .i64 (len x11.blocks)), (37, .int .i64 x29), (64, v45), (65, .int .i64 (len x37.ins)), (66, .int .i64 x60), (71, v82), (72, .int .i64 (len x76.args)), (73, .int .i64 x88)] ∧ L = [F86, bx b49 60 [v43, v45, .int .i64 x37.term.kind, .int .i64 x37.term.arg, v47]]) ⟨_, _, F58, _, rfl, h59, ovr_eq _ _ rfl, rfl⟩ ?_
        rintro _ _ _ ⟨x85, x88, F86, e56, rfl, h87, rfl, rfl⟩ X60 hp hx61
        replace hp : live_Count.bd61 x76 x85 x88 = some X60 := hp
        refine sr <| tv (blt rfl rfl) rfl <| nz <| TC.seq fun K65 k66 => cD rfl hp (fun hc67 hp => ?_) fun hc67 hp => ?_
        · refine sk k66 rfl <| TC.seq fun K68 k69 => TC.block <| sr <| ti u32 i3 h83 hp rfl rfl rfl rfl ?_
          rintro x92 b93 o94 _ hp rfl h97
          refine tv (lr s3 sH h97 0 rfl rfl) rfl <| ta rfl <| nz <| TC.region <| tm rfl <| tm rfl <| ti u32 i3 (h87).ro hp rfl rfl rfl rfl ?_
          rintro x98 b99 o100 _ hp rfl h103
          exact tv (lr s3 (Src.at_ 0 rfl) h103 0 rfl rfl) rfl <| tv (bad rfl rfl) rfl <| tO u32 i3 h87 hp rfl rfl rfl rfl fun x104 b105 o106 h107 hp => tE h87 h107 m3 rfl ⟨rfl, rfl⟩ w1 fun F108 h109 => nl <| tg k69 <| TC.region <| tv (bad rfl rfl) rfl <| tm rfl <| nl <| gk hp [0, 1] ⟨_, _, F108, _, rfl, h109, ovr_eq _ _ rfl, rfl⟩
        · exact TC.exit <| jn [0, 1] (J63 h87 (ex_ret hp hx61))
      · exact TC.exit <| jn [0, 1] (J48 h59 (ex_ret hp hx43))
     refine lp hz31 [1, 0] rfl (fun s e L => ∃ x50 x53 F51 e29, s = (x50, x53) ∧ SlO 3 (kInt .i64) x50 v23 F51 ∧ e = ovr e29 [(8, v23), (10, .pointer (some ⟨b49, 0, none⟩)), (35, v19), (36, .int .i64 (len x11.blocks)), (37, .int .i64 x29), (42, v43), (43, .int .i64 (len x37.phis)), (44, .int .i64 x53)] ∧ L = [F51, bx b49 60 [v43, v45, .int .i64 x37.term.kind, .int .i64 x37.term.arg, v47]]) ⟨_, _, F27, _, rfl, h28, ovr_eq _ _ rfl, rfl⟩ ?_
     rintro _ _ _ ⟨x50, x53, F51, e29, rfl, h52, rfl, rfl⟩ X33 hp hx34
     replace hp : live_Count.bd34 x37 x50 x53 = some X33 := hp
     refine sr <| tv (blt rfl rfl) rfl <| nz <| TC.seq fun K79 k80 => cD rfl hp (fun hc81 hp => ?_) fun hc81 hp => ?_
     · refine sk k80 rfl <| TC.seq fun K82 k83 => TC.block <| sr <| ti u57 i64 h44 hp rfl rfl rfl rfl ?_
       rintro x110 b111 o112 _ hp ⟨v116, rfl, h117⟩ h115
       refine tv (lR (ds := [.int .i64 x110.dst, v116]) ag_64 sH h115 0 rfl rfl rfl) rfl <| tl i64 rfl fun b118 => tS 0 m64 rfl rfl [.int .i64 x110.dst, v116] rfl (oc rfl (oc (h117).one oc0)) rfl rfl <| nz <| sr <| tv (fa f64_1 rfl) rfl <| tv (lb s32 0 rfl rfl rfl) rfl <| tv (ln u32 h117 rfl) rfl <| tm rfl <| nz <| TC.block <| bE hp fun z_86 hz87 hr88 => ?_
       have J92 {x123 F124 e91} (h125 : SlO 3 (kInt .i64) x123 v23 F124) (hq93 : x123 = z_86) : ∀ w, St E H [F124, bx b49 60 [v43, v45, .int .i64 x37.term.kind, .int .i64 x37.term.arg, v47]] w → K82 (ovr e91 [(8, v23), (10, .pointer (some ⟨b49, 0, none⟩)), (35, v19), (36, .int .i64 (len x11.blocks)), (37, .int .i64 x29), (42, v43), (43, .int .i64 (len x37.phis)), (44, .int .i64 x53)]) w := by
        subst hq93
        replace hp : live_Count.nx90 x53 x123 = some X33 := hr88
        exact tg k83 <| TC.region <| tv (bad rfl rfl) rfl <| tm rfl <| nl <| gk hp [0, 1] ⟨_, _, F124, _, rfl, h125, ovr_eq _ _ rfl, rfl⟩
       refine lp hz87 [1, 2] rfl (fun s e L => ∃ x119 x122 F120 e85, s = (x119, x122) ∧ SlO 3 (kInt .i64) x119 v23 F120 ∧ e = ovr e85 [(8, v23), (10, .pointer (some ⟨b49, 0, none⟩)), (35, v19), (36, .int .i64 (len x11.blocks)), (37, .int .i64 x29), (42, v43), (43, .int .i64 (len x37.phis)), (44, .int .i64 x53), (49, v116), (50, .int .i64 (len x110.args)), (51, .int .i64 x122)] ∧ L = [F120, bx b49 60 [v43, v45, .int .i64 x37.term.kind, .int .i64 x37.term.arg, v47]]) ⟨_, _, F51, _, rfl, h52, ovr_eq _ _ rfl, rfl⟩ ?_
       rintro _ _ _ ⟨x119, x122, F120, e85, rfl, h121, rfl, rfl⟩ X89 hp hx90
       replace hp : live_Count.bd90 x110 x119 x122 = some X89 := hp
       refine sr <| tv (blt rfl rfl) rfl <| nz <| TC.seq fun K94 k95 => cD rfl hp (fun hc96 hp => ?_) fun hc96 hp => ?_
       · refine sk k95 rfl <| TC.seq fun K97 k98 => TC.block <| sr <| ti u32 i3 h117 hp rfl rfl rfl rfl ?_
         rintro x126 b127 o128 _ hp rfl h131
         refine tv (lr s3 sH h131 0 rfl rfl) rfl <| ta rfl <| nz <| TC.region <| tm rfl <| tm rfl <| ti u32 i3 (h121).ro hp rfl rfl rfl rfl ?_
         rintro x132 b133 o134 _ hp rfl h137
         exact tv (lr s3 (Src.at_ 0 rfl) h137 0 rfl rfl) rfl <| tv (bad rfl rfl) rfl <| tO u32 i3 h121 hp rfl rfl rfl rfl fun x138 b139 o140 h141 hp => tE h121 h141 m3 rfl ⟨rfl, rfl⟩ w1 fun F142 h143 => nl <| tg k98 <| TC.region <| tv (bad rfl rfl) rfl <| tm rfl <| nl <| gk hp [0, 1] ⟨_, _, F142, _, rfl, h143, ovr_eq _ _ rfl, rfl⟩
       · exact TC.exit <| jn [0, 1] (J92 h121 (ex_ret hp hx90))
     · exact TC.exit <| jn [0, 1] (J77 h52 (ex_ret hp hx34))
   · exact TC.exit <| jn [0] (J17 h28 (ex_ret hp hx15))
/-! ### fettle/fettlelaw00.Of -/
/-! ### fettle/fettleref02.shape -/
abbrev fettleref02_shape.R (r : Bool) (v : Value) (A : List FP) : Prop := .bool r = v ∧ A = []
def fettleref02_shape.nx8 (a6 : PTerm) : Option Bool :=
  (if a6.kind = 1 ∧ (len a6.to) = 1 then some true else (if a6.kind = 2 ∧ (len a6.to) = 2 then (idx a6.to 0).bind fun x14 =>
  (idx a6.to 1).bind fun x20 =>
  some (decide (¬ x14 = x20)) else some false).bind fun t13 =>
  some t13).bind fun t12 =>
  some (decide (t12 = true ∨ (a6.kind = 3 ∧ (len a6.to) = 0)))
def fettleref02_shape.bd8 (a1 : PFunc) (a6 : PTerm) (x11 : Int) : Option (Ex (Ex Bool Unit) Int) :=
  if x11 < (len a6.to) then
    (idx a6.to x11).bind fun x26 =>
    (if x26 < 1 then some true else (idx a6.to x11).bind fun x33 =>
    some (decide (x33 ≥ (len a1.blocks)))).bind fun t32 =>
    if t32 = true then
      some (.ret (.ret false))
    else
      some (.go (w64 (x11 + 1)))
  else
    some (.ret (.go ()))
def fettleref02_shape (a1 : PFunc) (a6 : PTerm) : Option Bool :=
  (whl (fun (s : Int) => fettleref02_shape.bd8 a1 a6 s) FUEL 0).bind fun z =>
  match z with
    | .ret r => some r
    | .go p => fettleref02_shape.nx8 a6
set_option maxHeartbeats 4000000 in
theorem fettleref02_shape_ok {E : World} {H : FP} {w : World} {a1 : PFunc} {a6 : PTerm} {v2 : Value} {v4 : Value} {v7 : Value} {r : Bool} (h3 : SlI (kInt .i64) H a1.regs v2) (h5 : SlI kBlock H a1.blocks v4) (h8 : SlI (kInt .i64) H a6.to v7) (hp : fettleref02_shape a1 a6 = some r) (hst : St E H [] w) :
    Fn Tryd.prog 68 #[.agg #[.int .i64 a1.params, .int .i64 a1.result, v2, v4], .agg #[.int .i64 a6.kind, .int .i64 a6.arg, v7]] w fun v w' => ∃ A, fettleref02_shape.R r v A ∧ St E H A w' := by
 refine fb 72 [.tmp 4] Tryd.func68 rfl rfl rfl rfl rfl hst <| sr <| tb [.int .i64 a1.params, .int .i64 a1.result, v2, v4] rfl rfl fun b9 => tb [.int .i64 a6.kind, .int .i64 a6.arg, v7] rfl rfl fun b10 => ta rfl <| nz <| TC.seq fun K1 k2 => sr <| ta rfl <| nz <| TC.block <| bE hp fun z_4 hz5 hr6 => ?_
 have J46 {e9} (hq47 : .go () = z_4) : ∀ w, St E H [bx b10 56 [.int .i64 a6.kind, .int .i64 a6.arg, v7]] w → K1 (ovr e9 [(3, .pointer (some ⟨b10, 0, none⟩))]) w := by
  subst hq47
  replace hp : fettleref02_shape.nx8 a6 = some r := hr6
  refine tg k2 <| TC.seq fun K10 k11 => cq mix (by kernel_rfl) <| qv (fa f56_0 rfl) rfl <| qv (lb s3 0 rfl rfl rfl) rfl <| qv (beq rfl rfl) rfl <| qv mv rfl <| QL.cut 5 fun K12 k13 => ?_
  have J14 {e16} : K12 (ovr e16 [(38, .bool (decide (a6.kind = 1 ∧ (len a6.to) = 1))), (3, .pointer (some ⟨b10, 0, none⟩))]) := by
   refine k13 _ <| qv mv rfl <| bE hp fun t12 ht32 hp => QL.cut 21 fun K17 k18 => ?_
   have J19 {e21} : K17 (ovr e21 [(60, .bool t12), (3, .pointer (some ⟨b10, 0, none⟩))]) := by
    refine k18 _ <| qv mv rfl <| QL.cut 10 fun K22 k23 => ?_
    have J24 {e26} : K22 (ovr e26 [(71, .bool (decide (t12 = true ∨ (a6.kind = 3 ∧ (len a6.to) = 0))))]) := by
     exact k23 _ <| qv sg rfl <| QL.nil <| tg k11 <| TC.ret <| rt hp [] ⟨rfl, rfl⟩
    by_cases hc25 : t12 = true
    · exact qgn rfl (bbT hc25) rfl rfl <| qgn rfl (bbT hc25) rfl rfl <| qgn rfl (bbT hc25) rfl rfl <| qgn rfl (bbT hc25) rfl rfl <| qgu rfl rfl rfl <| qgu rfl rfl rfl <| qgu rfl rfl rfl <| qgu rfl rfl rfl <| qgn rfl (bbT hc25) rfl rfl <| qv (pT (bbT hc25)) rfl <| qj J24 (bOt hc25)
    · refine qgy rfl (bbF hc25) <| qv (fa f56_0 rfl) rfl <| qgy rfl (bbF hc25) <| qv (lb s3 0 rfl rfl rfl) rfl <| qgy rfl (bbF hc25) <| qv (beq rfl rfl) rfl <| qgy rfl (bbF hc25) <| qv mv rfl <| QL.cut 5 fun K27 k28 => ?_
      have J29 {e31} : K27 (ovr e31 [(70, .bool (decide (a6.kind = 3 ∧ (len a6.to) = 0))), (61, .bool t12)]) := by
       exact k28 _ <| qv (pF (bbF hc25)) rfl <| qj J24 (bOf hc25)
      by_cases hc30 : a6.kind = 3
      · exact qgy rfl (bT hc30) <| qv (fa f56_2 rfl) rfl <| qgy rfl (bT hc30) <| qv (lb s32 0 rfl rfl rfl) rfl <| qgy rfl (bT hc30) <| qv (ln u32 h8 rfl) rfl <| qgy rfl (bT hc30) <| qv (beq rfl rfl) rfl <| qgy rfl (bbF hc25) <| qv (pT (bT hc30)) rfl <| qj J29 (bAt hc30)
      · exact qgn rfl (bF hc30) rfl rfl <| qgn rfl (bF hc30) rfl rfl <| qgn rfl (bF hc30) rfl rfl <| qgn rfl (bF hc30) rfl rfl <| qgy rfl (bbF hc25) <| qv (pF (bF hc30)) rfl <| qj J29 (bAf hc30)
   refine ifE ht32 (fun hc20 hp => ?_) fun hc20 hp => ?_
   · refine qgn rfl (bT hc20) rfl rfl <| qgn rfl (bT hc20) rfl rfl <| qgn rfl (bT hc20) rfl rfl <| qgn rfl (bT hc20) rfl rfl <| qgu rfl rfl rfl <| qgu rfl rfl rfl <| qgu rfl rfl rfl <| qgu rfl rfl rfl <| qgn rfl (bT hc20) rfl rfl <| qgn rfl (bT hc20) rfl rfl <| qgu rfl rfl rfl <| qgu rfl rfl rfl <| qgu rfl rfl rfl <| qgu rfl rfl rfl <| qgu rfl rfl rfl <| qgu rfl rfl rfl <| qgu rfl rfl rfl <| qgu rfl rfl rfl <| qgu rfl rfl rfl <| qgn rfl (bT hc20) rfl rfl <| qv (pT (bT hc20)) rfl ?_
     obtain rfl := Option.some.inj hp
     exact qj J19 rfl
   · refine qgy rfl (bF hc20) <| qv (fa f56_0 rfl) rfl <| qgy rfl (bF hc20) <| qv (lb s3 0 rfl rfl rfl) rfl <| qgy rfl (bF hc20) <| qv (beq rfl rfl) rfl <| qgy rfl (bF hc20) <| qv mv rfl <| QL.cut 5 fun K33 k34 => ?_
     have J35 {e37} : K33 (ovr e37 [(48, .bool (decide (a6.kind = 2 ∧ (len a6.to) = 2))), (3, .pointer (some ⟨b10, 0, none⟩)), (39, .bool (decide (a6.kind = 1 ∧ (len a6.to) = 1)))]) := by
      refine k34 _ <| qgy rfl (bF hc20) <| qv mv rfl <| bE hp fun t13 ht43 hp => QL.cut 10 fun K38 k39 => ?_
      have J40 {e42} : K38 (ovr e42 [(59, .bool t13), (3, .pointer (some ⟨b10, 0, none⟩)), (39, .bool (decide (a6.kind = 1 ∧ (len a6.to) = 1)))]) := by
       refine k39 _ <| qv (pF (bF hc20)) rfl ?_
       obtain rfl := Option.some.inj hp
       exact qj J19 rfl
      refine ifE ht43 (fun hc41 hp => ?_) fun hc41 hp => ?_
      · refine qgy rfl (bT hc41) <| qv (fa f56_2 rfl) rfl <| qgy rfl (bT hc41) <| qv (lb s32 0 rfl rfl rfl) rfl <| qgy rfl (bT hc41) <| qi u32 i3 h8 hp rfl rfl rfl rfl ?_
        rintro x14 b15 o16 _ hp rfl h19
        refine qgy rfl (bT hc41) <| qv (lr s3 sH h19 0 rfl rfl) rfl <| qgy rfl (bT hc41) <| qv (fa f56_2 rfl) rfl <| qgy rfl (bT hc41) <| qv (lb s32 0 rfl rfl rfl) rfl <| qgy rfl (bT hc41) <| qi u32 i3 h8 hp rfl rfl rfl rfl ?_
        rintro x20 b21 o22 _ hp rfl h25
        refine qgy rfl (bT hc41) <| qv (lr s3 sH h25 0 rfl rfl) rfl <| qgy rfl (bT hc41) <| qv (bne rfl rfl) rfl <| qgy rfl (bF hc20) <| qv (pT (bT hc41)) rfl ?_
        obtain rfl := Option.some.inj hp
        exact qj J40 rfl
      · refine qgn rfl (bF hc41) rfl rfl <| qgn rfl (bF hc41) rfl rfl <| qgn rfl (bF hc41) rfl rfl <| qgn rfl (bF hc41) rfl rfl <| qgn rfl (bF hc41) rfl rfl <| qgn rfl (bF hc41) rfl rfl <| qgn rfl (bF hc41) rfl rfl <| qgn rfl (bF hc41) rfl rfl <| qgn rfl (bF hc41) rfl rfl <| qgy rfl (bF hc20) <| qv (pF (bF hc41)) rfl ?_
        obtain rfl := Option.some.inj hp
        exact qj J40 rfl
     by_cases hc36 : a6.kind = 2
     · exact qgy rfl (bT hc36) <| qv (fa f56_2 rfl) rfl <| qgy rfl (bT hc36) <| qv (lb s32 0 rfl rfl rfl) rfl <| qgy rfl (bT hc36) <| qv (ln u32 h8 rfl) rfl <| qgy rfl (bT hc36) <| qv (beq rfl rfl) rfl <| qgy rfl (bF hc20) <| qv (pT (bT hc36)) rfl <| qj J35 (bAt hc36)
     · exact qgn rfl (bF hc36) rfl rfl <| qgn rfl (bF hc36) rfl rfl <| qgn rfl (bF hc36) rfl rfl <| qgn rfl (bF hc36) rfl rfl <| qgy rfl (bF hc20) <| qv (pF (bF hc36)) rfl <| qj J35 (bAf hc36)
  by_cases hc15 : a6.kind = 1
  · exact qgy rfl (bT hc15) <| qv (fa f56_2 rfl) rfl <| qgy rfl (bT hc15) <| qv (lb s32 0 rfl rfl rfl) rfl <| qgy rfl (bT hc15) <| qv (ln u32 h8 rfl) rfl <| qgy rfl (bT hc15) <| qv (beq rfl rfl) rfl <| qv (pT (bT hc15)) rfl <| qj J14 (bAt hc15)
  · exact qgn rfl (bF hc15) rfl rfl <| qgn rfl (bF hc15) rfl rfl <| qgn rfl (bF hc15) rfl rfl <| qgn rfl (bF hc15) rfl rfl <| qv (pF (bF hc15)) rfl <| qj J14 (bAf hc15)
 refine lp hz5 [1, 0] rfl (fun s e L => ∃ e3, e = ovr e3 [(2, .pointer (some ⟨b9, 0, none⟩)), (3, .pointer (some ⟨b10, 0, none⟩)), (5, .int .i64 s)] ∧ L = [bx b9 41 [.int .i64 a1.params, .int .i64 a1.result, v2, v4], bx b10 56 [.int .i64 a6.kind, .int .i64 a6.arg, v7]]) ⟨_, ovr_eq _ _ rfl, rfl⟩ ?_
 rintro x11 _ _ ⟨e3, rfl, rfl⟩ X7 hp hx8
 replace hp : fettleref02_shape.bd8 a1 a6 x11 = some X7 := hp
 refine TC.seq fun K48 k49 => sr <| tm rfl <| tv (fa f56_2 rfl) rfl <| tv (lb s32 1 rfl rfl rfl) rfl <| tv (ln u32 h8 rfl) rfl <| tv (blt rfl rfl) rfl <| nz <| cD rfl hp (fun hc50 hp => ?_) fun hc50 hp => ?_
 · refine sk k49 rfl <| TC.seq fun K51 k52 => TC.block <| TC.seq fun K53 k54 => cq mix (by kernel_rfl) <| qv (fa f56_2 rfl) rfl <| qv (lb s32 1 rfl rfl rfl) rfl <| qv mv rfl <| qi u32 i3 h8 hp rfl rfl rfl rfl ?_
   rintro x26 b27 o28 _ hp rfl h31
   refine qv (lr s3 sH h31 0 rfl rfl) rfl <| qv (blt rfl rfl) rfl <| qv mv rfl <| bE hp fun t32 ht62 hp => QL.cut 10 fun K56 k57 => ?_
   have J58 {e60} : K56 (ovr e60 [(29, .bool t32), (2, .pointer (some ⟨b9, 0, none⟩)), (3, .pointer (some ⟨b10, 0, none⟩)), (5, .int .i64 x11)]) := by
    refine k57 _ <| QL.nil <| tg k54 <| cB rfl hp (fun hc61 hp => ?_) fun hc61 hp => ?_
    · refine sr <| ta rfl <| nz <| TC.ret ?_
      obtain rfl := ex_ret hp hx8
      exact rt hr6 [] ⟨rfl, rfl⟩
    · exact sk k52 rfl <| TC.region <| tm rfl <| tv (bad rfl rfl) rfl <| ta rfl <| nl <| gk hp [0, 1] ⟨_, ovr_eq _ _ rfl, rfl⟩
   refine ifE ht62 (fun hc59 hp => ?_) fun hc59 hp => ?_
   · refine qgn rfl (bT hc59) rfl rfl <| qgn rfl (bT hc59) rfl rfl <| qgn rfl (bT hc59) rfl rfl <| qgn rfl (bT hc59) rfl rfl <| qgn rfl (bT hc59) rfl rfl <| qgn rfl (bT hc59) rfl rfl <| qgn rfl (bT hc59) rfl rfl <| qgn rfl (bT hc59) rfl rfl <| qgn rfl (bT hc59) rfl rfl <| qv (pT (bT hc59)) rfl ?_
     obtain rfl := Option.some.inj hp
     exact qj J58 rfl
   · refine qgy rfl (bF hc59) <| qv (fa f56_2 rfl) rfl <| qgy rfl (bF hc59) <| qv (lb s32 1 rfl rfl rfl) rfl <| qgy rfl (bF hc59) <| qv mv rfl <| qgy rfl (bF hc59) <| qi u32 i3 h8 hp rfl rfl rfl rfl ?_
     rintro x33 b34 o35 _ hp rfl h38
     refine qgy rfl (bF hc59) <| qv (lr s3 sH h38 0 rfl rfl) rfl <| qgy rfl (bF hc59) <| qv (fa f41_3 rfl) rfl <| qgy rfl (bF hc59) <| qv (lb s39 0 rfl rfl rfl) rfl <| qgy rfl (bF hc59) <| qv (ln u39 h5 rfl) rfl <| qgy rfl (bF hc59) <| qv (bge rfl rfl) rfl <| qv (pF (bF hc59)) rfl ?_
     obtain rfl := Option.some.inj hp
     exact qj J58 rfl
 · exact TC.exit <| jn [1] (J46 (ex_ret hp hx8))
/-! ### fettle/fettleref02.Ahead -/
abbrev fettleref02_Ahead.R (r : List Int) (v : Value) (A : List FP) : Prop := ∃ (w1 : Value) (G1 : FP), w1 = v ∧ A = [G1] ∧ SlO 3 (kInt .i64) r w1 G1
def fettleref02_Ahead.nx8  (x13 : List Int) : Option (List Int) :=
  some x13
def fettleref02_Ahead.jn18 (x12 : Int) (x17 : List Int) : Option (Ex (List Int) (List Int × Int)) :=
  some (.go (x17, (w64 (x12 + 1))))
def fettleref02_Ahead.nx26 (x8 : List Int) (x12 : Int) (x23 : Bool) : Option (Ex (List Int) (List Int × Int)) :=
  if x23 = true then
    (cat x8 [x12]).bind fun x25 =>
    fettleref02_Ahead.jn18 x12 x25
  else
    fettleref02_Ahead.jn18 x12 x8
def fettleref02_Ahead.bd26 (a1 : PFunc) (a6 : Int) (x12 : Int) (x21 : Bool) (x22 : Int) : Option (Ex Bool (Bool × Int)) :=
  (idx a1.blocks x12).bind fun x29 =>
  if x22 < (len x29.term.to) then
    (if x21 = true then some true else (idx a1.blocks x12).bind fun x42 =>
    (idx x42.term.to x22).bind fun x54 =>
    some (decide (x54 = a6))).bind fun t41 =>
    some (.go (t41, (w64 (x22 + 1))))
  else
    some (.ret x21)
def fettleref02_Ahead.bd8 (a1 : PFunc) (a6 : Int) (x8 : List Int) (x12 : Int) : Option (Ex (List Int) (List Int × Int)) :=
  if x12 < (len a1.blocks) then
    (whl (fun (s : (Bool × Int)) => fettleref02_Ahead.bd26 a1 a6 x12 s.1 s.2) FUEL (false, 0)).bind fun z =>
    fettleref02_Ahead.nx26 x8 x12 z
  else
    some (.ret x8)
def fettleref02_Ahead (a1 : PFunc) (a6 : Int) : Option (List Int) :=
  (whl (fun (s : (List Int × Int)) => fettleref02_Ahead.bd8 a1 a6 s.1 s.2) FUEL (([] : List Int), 0)).bind fun z =>
  fettleref02_Ahead.nx8 z
set_option maxHeartbeats 4000000 in
theorem fettleref02_Ahead_ok {E : World} {H : FP} {w : World} {a1 : PFunc} {a6 : Int} {v2 : Value} {v4 : Value} {r : List Int} (h3 : SlI (kInt .i64) H a1.regs v2) (h5 : SlI kBlock H a1.blocks v4) (hp : fettleref02_Ahead a1 a6 = some r) (hst : St E H [] w) :
    Fn Tryd.prog 54 #[.agg #[.int .i64 a1.params, .int .i64 a1.result, v2, v4], .int .i64 a6] w fun v w' => ∃ A, fettleref02_Ahead.R r v A ∧ St E H A w' := by
 refine fb 49 [.tmp 4] Tryd.func54 rfl rfl rfl rfl rfl hst <| sr <| tb [.int .i64 a1.params, .int .i64 a1.result, v2, v4] rfl rfl fun b7 => ta rfl <| nz <| sr <| ta rfl <| nz <| TC.seq fun K1 k2 => sr <| ta rfl <| nz <| TC.block <| bE hp fun z_4 hz5 hr6 => ?_
 have J10 {x13 v14 F15 e9} (h16 : SlO 3 (kInt .i64) x13 v14 F15) (hq11 : x13 = z_4) : ∀ w, St E H [F15] w → K1 (ovr e9 [(5, v14)]) w := by
  subst hq11
  replace hp : fettleref02_Ahead.nx8 x13 = some r := hr6
  exact tg k2 <| sr <| tm rfl <| ta rfl <| nz <| TC.ret <| rt hp [0] ⟨v14, F15, rfl, rfl, h16⟩
 refine W.new0 <| lp hz5 [1, 0] rfl (fun s e L => ∃ x8 x12 v9 F10 e3, s = (x8, x12) ∧ SlO 3 (kInt .i64) x8 v9 F10 ∧ e = ovr e3 [(1, .int .i64 a6), (2, .pointer (some ⟨b7, 0, none⟩)), (5, v9), (6, .int .i64 x12)] ∧ L = [bx b7 41 [.int .i64 a1.params, .int .i64 a1.result, v2, v4], F10]) ⟨_, _, (.slice none 0 0), ([] : FP), _, rfl, (SlO.nil 3), ovr_eq _ _ rfl, rfl⟩ ?_
 rintro _ _ _ ⟨x8, x12, v9, F10, e3, rfl, h11, rfl, rfl⟩ X7 hp hx8
 replace hp : fettleref02_Ahead.bd8 a1 a6 x8 x12 = some X7 := hp
 refine TC.seq fun K12 k13 => sr <| tm rfl <| tv (fa f41_3 rfl) rfl <| tv (lb s39 0 rfl rfl rfl) rfl <| tv (ln u39 h5 rfl) rfl <| tv (blt rfl rfl) rfl <| nz <| cD rfl hp (fun hc14 hp => ?_) fun hc14 hp => ?_
 · refine sk k13 rfl <| TC.seq fun K15 k16 => ?_
   have J18 {x17 v18 F19 e17} (h20 : SlO 3 (kInt .i64) x17 v18 F19) (hp : fettleref02_Ahead.jn18 x12 x17 = some X7) : ∀ w, St E H [bx b7 41 [.int .i64 a1.params, .int .i64 a1.result, v2, v4], F19] w → K15 (ovr e17 [(1, .int .i64 a6), (2, .pointer (some ⟨b7, 0, none⟩)), (5, v18), (6, .int .i64 x12)]) w := by
    exact tg k16 <| TC.region <| tm rfl <| tv (bad rfl rfl) rfl <| ta rfl <| nl <| gk hp [0, 1] ⟨_, _, v18, F19, _, rfl, h20, ovr_eq _ _ rfl, rfl⟩
   refine TC.block <| sr <| ta rfl <| nz <| TC.seq fun K19 k20 => sr <| ta rfl <| nz <| TC.block <| bE hp fun z_22 hz23 hr24 => ?_
   have J30 {x23 e27} (hq31 : x23 = z_22) : ∀ w, St E H [bx b7 41 [.int .i64 a1.params, .int .i64 a1.result, v2, v4], F10] w → K19 (ovr e27 [(1, .int .i64 a6), (2, .pointer (some ⟨b7, 0, none⟩)), (5, v9), (6, .int .i64 x12), (7, .bool x23)]) w := by
    subst hq31
    replace hp : fettleref02_Ahead.nx26 x8 x12 x23 = some X7 := hr24
    refine tg k20 <| sr <| tm rfl <| nz <| cB rfl hp (fun hc28 hp => ?_) fun hc28 hp => ?_
    · exact TC.region <| tm rfl <| tm rfl <| tbs [(0, .int .i64 x12)] [.int .i64 x12] u32 i3 (by kernel_rfl) rfl rfl rfl rfl fun b24 => tp [2, 0, 1] [_,_,_] rfl rfl <| tf 2 0 [_,_,_,_] rfl <| tp2 u32 i3 h11 hp (RepL.to (RepL.cons (k := (kInt .i64)) (x := x12) ⟨rfl, rfl⟩ RepL.nil) rfl) rfl rfl rfl rfl rfl rfl rfl rfl rfl fun x25 v26 F27 h28 hp => ta rfl <| nl <| jn [1, 0] (J18 h28 hp)
    · exact TC.skip <| jn [0, 1] (J18 h11 hp)
   refine lp hz23 [0, 1] rfl (fun s e L => ∃ x21 x22 e21, s = (x21, x22) ∧ e = ovr e21 [(1, .int .i64 a6), (2, .pointer (some ⟨b7, 0, none⟩)), (5, v9), (6, .int .i64 x12), (7, .bool x21), (8, .int .i64 x22)] ∧ L = [bx b7 41 [.int .i64 a1.params, .int .i64 a1.result, v2, v4], F10]) ⟨_, _, _, rfl, ovr_eq _ _ rfl, rfl⟩ ?_
   rintro _ _ _ ⟨x21, x22, e21, rfl, rfl, rfl⟩ X25 hp hx26
   replace hp : fettleref02_Ahead.bd26 a1 a6 x12 x21 x22 = some X25 := hp
   refine TC.seq fun K32 k33 => sr <| tm rfl <| tv (fa f41_3 rfl) rfl <| tv (lb s39 0 rfl rfl rfl) rfl <| tm rfl <| ti u39 i60 h5 hp rfl rfl rfl rfl ?_
   rintro x29 b30 o31 _ hp ⟨v35, v37, v39, rfl, h36, h38, h40⟩ h34
   refine tv (fa f60_2 rfl) rfl <| tv (fa f56_2 rfl) rfl <| tv (lr s32 sH h34 4 rfl rfl) rfl <| tv (ln u32 h40 rfl) rfl <| tv (blt rfl rfl) rfl <| nz <| cD rfl hp (fun hc35 hp => ?_) fun hc35 hp => ?_
   · refine sk k33 rfl <| TC.seq fun K36 k37 => TC.block <| TC.region <| tm rfl <| tm rfl <| bE hp fun t41 ht43 hp => TL.cut 13 fun K38 k39 => ?_
     have J40 {e42} : ∀ w, St E H [bx b7 41 [.int .i64 a1.params, .int .i64 a1.result, v2, v4], F10] w → K38 (ovr e42 [(42, .bool t41), (1, .int .i64 a6), (2, .pointer (some ⟨b7, 0, none⟩)), (5, v9), (6, .int .i64 x12), (8, .int .i64 x22)]) w := by
      exact tlg k39 <| ta rfl <| nl <| tg k37 <| TC.region <| tm rfl <| tv (bad rfl rfl) rfl <| ta rfl <| nl <| gk hp [0, 1] ⟨_, _, _, rfl, ovr_eq _ _ rfl, rfl⟩
     refine ifE ht43 (fun hc41 hp => ?_) fun hc41 hp => ?_
     · refine gn rfl (bbT hc41) rfl rfl <| gn rfl (bbT hc41) rfl rfl <| gn rfl (bbT hc41) rfl rfl <| gn rfl (bbT hc41) rfl rfl <| gn rfl (bbT hc41) rfl rfl <| gn rfl (bbT hc41) rfl rfl <| gn rfl (bbT hc41) rfl rfl <| gn rfl (bbT hc41) rfl rfl <| gn rfl (bbT hc41) rfl rfl <| gn rfl (bbT hc41) rfl rfl <| gn rfl (bbT hc41) rfl rfl <| gn rfl (bbT hc41) rfl rfl <| tv (pT (bbT hc41)) rfl ?_
       obtain rfl := Option.some.inj hp
       exact nj J40 rfl
     · refine gy rfl (bbF hc41) <| tv (fa f41_3 rfl) rfl <| gy rfl (bbF hc41) <| tv (lb s39 0 rfl rfl rfl) rfl <| gy rfl (bbF hc41) <| tm rfl <| gy rfl (bbF hc41) <| ti u39 i60 h5 hp rfl rfl rfl rfl ?_
       rintro x42 b43 o44 _ hp ⟨v48, v50, v52, rfl, h49, h51, h53⟩ h47
       refine gy rfl (bbF hc41) <| tv (fa f60_2 rfl) rfl <| gy rfl (bbF hc41) <| tv (fa f56_2 rfl) rfl <| gy rfl (bbF hc41) <| tv (lr s32 sH h47 4 rfl rfl) rfl <| gy rfl (bbF hc41) <| tm rfl <| gy rfl (bbF hc41) <| ti u32 i3 h53 hp rfl rfl rfl rfl ?_
       rintro x54 b55 o56 _ hp rfl h59
       refine gy rfl (bbF hc41) <| tv (lr s3 sH h59 0 rfl rfl) rfl <| gy rfl (bbF hc41) <| tm rfl <| gy rfl (bbF hc41) <| tv (beq rfl rfl) rfl <| tv (pF (bbF hc41)) rfl ?_
       obtain rfl := Option.some.inj hp
       exact nj J40 rfl
   · exact TC.exit <| jn [0, 1] (J30 (ex_ret hp hx26))
 · exact TC.exit <| jn [1] (J10 h11 (ex_ret hp hx8))
end Go.Proofs.YteaknconpkklhaaDoor
