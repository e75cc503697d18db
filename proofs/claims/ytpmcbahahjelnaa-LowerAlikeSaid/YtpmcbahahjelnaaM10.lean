/- The walk through the program's functions: each one's pure reading, and that a call does what it says. No conditions. -/
import Derived.Test.YtpmcbahahjelnaaM9
set_option linter.unusedVariables false
set_option linter.unusedSimpArgs false
namespace Go.Proofs.Ytpmcbahahjelnaa
open Go Go.Proofs

/-! ### fettle/fettlelaw14.LowerAlike -/
abbrev fettlelaw14_LowerAlike.R (r : Bool) (v : Value) (A : List FP) : Prop := .bool r = v ∧ A = []
def fettlelaw14_LowerAlike.nx59 (a1 : List PPair) (x7 : Bool) (x8 : List PPair × List Int × GErr) : Option Bool :=
  some (decide ((x7 = true ∧ (len x8.1) ≤ (w64 ((len a1) + (len x8.2.1)))) ∧ (len x8.2.1) ≤ (w64 (Int.tdiv (len a1) 2))))
def fettlelaw14_LowerAlike.bd59 (x28 : List Int) (x44 : List Int) (x47 : Int) : Option (Ex (Ex Bool Unit) Int) :=
  if x47 < (len x28) then
    (idx x44 x47).bind fun x48 =>
    (idx x28 x47).bind fun x54 =>
    if ¬ x48 = x54 then
      some (.ret (.ret false))
    else
      some (.go (w64 (x47 + 1)))
  else
    some (.ret (.go ()))
def fettlelaw14_LowerAlike.nx50 (a1 : List PPair) (x7 : Bool) (x8 : List PPair × List Int × GErr) (x28 : List Int) (x44 : List Int) : Option Bool :=
  (whl (fun (s : Int) => fettlelaw14_LowerAlike.bd59 x28 x44 s) FUEL 0).bind fun z =>
  match z with
    | .ret r => some r
    | .go p => fettlelaw14_LowerAlike.nx59 a1 x7 x8
def fettlelaw14_LowerAlike.bd50 (x8 : List PPair × List Int × GErr) (x40 : List Int) (x43 : Int) : Option (Ex (Ex Bool (List Int)) (List Int × Int)) :=
  if x43 < (len x8.1) then
    (idx x8.1 x43).bind fun x60 =>
    (if x60.a < 0 then some true else (idx x8.1 x43).bind fun x6482 =>
    some (decide (x6482.a ≥ (len x40)))).bind fun t66 =>
    (if t66 = true then some true else (idx x8.1 x43).bind fun x6476 =>
    some (decide (x6476.b < 0))).bind fun t67 =>
    (if t67 = true then some true else (idx x8.1 x43).bind fun x6470 =>
    some (decide (x6470.b ≥ (len x40)))).bind fun t68 =>
    if t68 = true then
      some (.ret (.ret false))
    else
      (idx x8.1 x43).bind fun x1270 =>
      (idx x8.1 x43).bind fun x3670 =>
      (idx x40 x3670.b).bind fun x4870 =>
      (idx x40 x1270.a).bind fun x5670 =>
      some (.go ((x40.set (x1270.a).toNat x4870), (w64 (x43 + 1))))
  else
    some (.ret (.go x40))
def fettlelaw14_LowerAlike.nx39 (a1 : List PPair) (a4 : List Int) (x7 : Bool) (x8 : List PPair × List Int × GErr) (x28 : List Int) : Option Bool :=
  (cat ([] : List Int) a4).bind fun x32 =>
  (catZ x32 (len x8.2.1)).bind fun x36 =>
  (whl (fun (s : (List Int × Int)) => fettlelaw14_LowerAlike.bd50 x8 s.1 s.2) FUEL (x36, 0)).bind fun z =>
  match z with
    | .ret r => some r
    | .go p => fettlelaw14_LowerAlike.nx50 a1 x7 x8 x28 p
def fettlelaw14_LowerAlike.bd39 (a1 : List PPair) (a4 : List Int) (x24 : List Int) (x27 : Int) : Option (Ex (List Int) (List Int × Int)) :=
  if x27 < (len a1) then
    (idx a1 x27).bind fun x7689 =>
    (idx a1 x27).bind fun x10089 =>
    (idx a4 x10089.b).bind fun x11289 =>
    (idx x24 x7689.a).bind fun x12089 =>
    some (.go ((x24.set (x7689.a).toNat x11289), (w64 (x27 + 1))))
  else
    some (.ret x24)
def fettlelaw14_LowerAlike (a1 : List PPair) (a4 : List Int) : Option Bool :=
  (fettlelaw14_up).bind fun x7 =>
  if ((len a1) > 300 ∨ (len a4) > 300) ∨ (len a4) = 0 then
    some x7
  else
    (lower_Moves a1 (len a4)).bind fun x8 =>
    (fettleref14_May a1 (len a4)).bind fun x18 =>
    if (!x18) = true then
      some (decide (x7 = true ∧ (¬ x8.2.2 = GErr.no)))
    else
      if ¬ x8.2.2 = GErr.no then
        some false
      else
        (cat ([] : List Int) a4).bind fun x20 =>
        (whl (fun (s : (List Int × Int)) => fettlelaw14_LowerAlike.bd39 a1 a4 s.1 s.2) FUEL (x20, 0)).bind fun z =>
        fettlelaw14_LowerAlike.nx39 a1 a4 x7 x8 z
set_option maxHeartbeats 4000000 in
theorem fettlelaw14_LowerAlike_ok {E : World} {H : FP} {w : World} {a1 : List PPair} {a4 : List Int} {v2 : Value} {v5 : Value} {r : Bool} (h3 : SlI kPair H a1 v2) (h6 : SlI (kInt .i64) H a4 v5) (hp : fettlelaw14_LowerAlike a1 a4 = some r) (hst : St E H [] w) :
    Fn Try.prog 3 #[v2, v5] w fun v w' => ∃ A, fettlelaw14_LowerAlike.R r v A ∧ St E H A w' := by
 refine fb 170 [.tmp 4] Try.func3 rfl rfl rfl rfl rfl hst <| sr <| ta rfl <| nz <| sr <| bE hp fun x7 hy1 hp => tc 0 [] rfl c7 (fun _ => fettlelaw14_up_ok hy1) rfl ?_
 rintro _ _ ⟨rfl, rfl⟩
 refine ta rfl <| nz <| TC.seq fun K3 k4 => sr <| tm rfl <| tv (ln u22 h3 rfl) rfl <| tv (bgt rfl rfl) rfl <| tm rfl <| TL.cut 4 fun K5 k6 => ?_
 have J7 {e9} : ∀ w, St E H [] w → K5 (ovr e9 [(23, .bool (decide ((len a1) > 300 ∨ (len a4) > 300))), (0, v2), (1, v5), (5, .bool x7)]) w := by
  refine tlg k6 <| tm rfl <| TL.cut 4 fun K10 k11 => ?_
  have J12 {e14} : ∀ w, St E H [] w → K10 (ovr e14 [(28, .bool (decide (((len a1) > 300 ∨ (len a4) > 300) ∨ (len a4) = 0))), (0, v2), (1, v5), (5, .bool x7)]) w := by
   refine tlg k11 <| nz <| cD rfl hp (fun hc15 hp => ?_) fun hc15 hp => ?_
   · exact sr <| tm rfl <| ta rfl <| nz <| TC.ret <| rt hp [] ⟨rfl, rfl⟩
   · refine sk k4 rfl <| sr <| tm rfl <| tm rfl <| tv (ln u23 h6 rfl) rfl <| bE hp fun x8 hy16 hp => tc 0 [] rfl c8 (fun _ => lower_Moves_ok (a1 := a1) (a4 := (len a4)) (h3.mono subH) hy16) rfl ?_
     rintro _ _ ⟨v9, F10, v12, F13, v15, F16, rfl, rfl, h11, h14, h17⟩
     refine tm rfl <| tv (xt rfl rfl) rfl <| tv (xt rfl rfl) rfl <| tv (xt rfl rfl) rfl <| ta rfl <| ta rfl <| ta rfl <| nz <| sr <| tm rfl <| tm rfl <| tv (ln u23 h6 rfl) rfl <| bE hp fun x18 hy18 hp => tc 0 [_,_,_] rfl c9 (fun _ => fettleref14_May_ok (a1 := a1) (a4 := (len a4)) (h3.mono subH) hy18) rfl ?_
     rintro _ _ ⟨rfl, rfl⟩
     refine ta rfl <| nz <| TC.seq fun K20 k21 => sr <| tm rfl <| tv (rv_not rfl) rfl <| nz <| cB rfl hp (fun hc22 hp => ?_) fun hc22 hp => ?_
     · refine sr <| tm rfl <| tm rfl <| TL.cut 3 fun K23 k24 => ?_
       have J25 {e27} : ∀ w, St E H [F10, F13, F16] w → K23 (ovr e27 [(48, .bool (decide (x7 = true ∧ (¬ x8.2.2 = GErr.no))))]) w := by
        exact tlg k24 <| ta rfl <| nz <| TC.ret <| rt hp [] ⟨rfl, rfl⟩
       by_cases hc26 : x7 = true
       · exact gy rfl (bbT hc26) <| tm rfl <| gy rfl (bbT hc26) <| tv (rv_neqEN ifc_27 h17 rfl) rfl <| tv (pT (bbT hc26)) rfl <| nj J25 (bAt hc26)
       · exact gn rfl (bbF hc26) rfl rfl <| gn rfl (bbF hc26) rfl rfl <| tv (pF (bbF hc26)) rfl <| nj J25 (bAf hc26)
     · refine sk k21 rfl <| TC.seq fun K28 k29 => sr <| tm rfl <| tv (rv_neqEN ifc_27 h17 rfl) rfl <| nz <| cD rfl hp (fun hc30 hp => ?_) fun hc30 hp => ?_
       · exact sr <| ta rfl <| nz <| TC.ret <| rt hp [] ⟨rfl, rfl⟩
       · refine sk k29 rfl <| sr <| TL.bs0 u23 i2 (ltb rfl) fun b19 => tm rfl <| tpI (fInt .i64) u23 i2 (SlO.lit0 (k := (kInt .i64)) b19) h6 sH hp rfl rfl rfl rfl rfl rfl rfl fun x20 v21 F22 h23 hp => ta rfl <| nz <| TC.seq fun K32 k33 => sr <| ta rfl <| nz <| TC.block <| bE hp fun z_35 hz36 hr37 => ?_
         have J127 {x28 F29 e40} (h30 : SlO 2 (kInt .i64) x28 v21 F29) (hq128 : x28 = z_35) : ∀ w, St E H [F10, F13, F29] w → K32 (ovr e40 [(0, v2), (1, v5), (5, .bool x7), (6, v9), (7, v12), (10, v21)]) w := by
          subst hq128
          replace hp : fettlelaw14_LowerAlike.nx39 a1 a4 x7 x8 x28 = some r := hr37
          refine tg k33 <| sr <| TL.bs0 u23 i2 (ltb rfl) fun b31 => tm rfl <| tpI (fInt .i64) u23 i2 (SlO.lit0 (k := (kInt .i64)) b31) h6 sH hp rfl rfl rfl rfl rfl rfl rfl fun x32 v33 F34 h35 hp => tm rfl <| tv (ln u25 h14.ro rfl) rfl <| tpZ u23 Try.underlying3 i2 h35 hp rfl rfl rfl rfl fun x36 v37 F38 h39 hp => ta rfl <| nz <| TC.seq fun K43 k44 => sr <| ta rfl <| nz <| TC.block <| bE hp fun z_46 hz47 hr48 => ?_
          have J85 {x44 F45 e51} (h46 : SlO 2 (kInt .i64) x44 v37 F45) (hq86 : .go x44 = z_46) : ∀ w, St E H [F10, F13, F29, F45] w → K43 (ovr e51 [(0, v2), (5, .bool x7), (6, v9), (7, v12), (10, v21), (12, v37)]) w := by
           subst hq86
           replace hp : fettlelaw14_LowerAlike.nx50 a1 x7 x8 x28 x44 = some r := hr48
           refine tg k44 <| TC.seq fun K52 k53 => sr <| ta rfl <| nz <| TC.block <| bE hp fun z_55 hz56 hr57 => ?_
           have J71 {e60} (hq72 : .go () = z_55) : ∀ w, St E H [F10, F13] w → K52 (ovr e60 [(0, v2), (5, .bool x7), (6, v9), (7, v12)]) w := by
            subst hq72
            replace hp : fettlelaw14_LowerAlike.nx59 a1 x7 x8 = some r := hr57
            refine tg k53 <| sr <| tm rfl <| tm rfl <| TL.cut 9 fun K61 k62 => ?_
            have J63 {e65} : ∀ w, St E H [F10, F13] w → K61 (ovr e65 [(161, .bool (decide (x7 = true ∧ (len x8.1) ≤ (w64 ((len a1) + (len x8.2.1)))))), (0, v2), (7, v12)]) w := by
             refine tlg k62 <| tm rfl <| TL.cut 7 fun K66 k67 => ?_
             have J68 {e70} : ∀ w, St E H [F10, F13] w → K66 (ovr e70 [(169, .bool (decide ((x7 = true ∧ (len x8.1) ≤ (w64 ((len a1) + (len x8.2.1)))) ∧ (len x8.2.1) ≤ (w64 (Int.tdiv (len a1) 2)))))]) w := by
              exact tlg k67 <| ta rfl <| nz <| TC.ret <| rt hp [] ⟨rfl, rfl⟩
             by_cases hc69 : x7 = true ∧ (len x8.1) ≤ (w64 ((len a1) + (len x8.2.1)))
             · exact gy rfl (bT hc69) <| tm rfl <| gy rfl (bT hc69) <| tv (ln u25 h14.ro rfl) rfl <| gy rfl (bT hc69) <| tm rfl <| gy rfl (bT hc69) <| tv (ln u22 h3 rfl) rfl <| gy rfl (bT hc69) <| tv (bqu rfl rfl (by decide)) rfl <| gy rfl (bT hc69) <| tv (ble rfl rfl) rfl <| tv (pT (bT hc69)) rfl <| nj J68 (bAt hc69)
             · exact gn rfl (bF hc69) rfl rfl <| gn rfl (bF hc69) rfl rfl <| gn rfl (bF hc69) rfl rfl <| gn rfl (bF hc69) rfl rfl <| gn rfl (bF hc69) rfl rfl <| gn rfl (bF hc69) rfl rfl <| tv (pF (bF hc69)) rfl <| nj J68 (bAf hc69)
            by_cases hc64 : x7 = true
            · exact gy rfl (bbT hc64) <| tm rfl <| gy rfl (bbT hc64) <| tv (ln u22 h11.ro rfl) rfl <| gy rfl (bbT hc64) <| tm rfl <| gy rfl (bbT hc64) <| tv (ln u22 h3 rfl) rfl <| gy rfl (bbT hc64) <| tm rfl <| gy rfl (bbT hc64) <| tv (ln u25 h14.ro rfl) rfl <| gy rfl (bbT hc64) <| tv (bad rfl rfl) rfl <| gy rfl (bbT hc64) <| tv (ble rfl rfl) rfl <| tv (pT (bbT hc64)) rfl <| nj J63 (bAt hc64)
            · exact gn rfl (bbF hc64) rfl rfl <| gn rfl (bbF hc64) rfl rfl <| gn rfl (bbF hc64) rfl rfl <| gn rfl (bbF hc64) rfl rfl <| gn rfl (bbF hc64) rfl rfl <| gn rfl (bbF hc64) rfl rfl <| gn rfl (bbF hc64) rfl rfl <| gn rfl (bbF hc64) rfl rfl <| tv (pF (bbF hc64)) rfl <| nj J63 (bAf hc64)
           refine lp hz56 [0, 1, 2, 3] rfl (fun s e L => ∃ e54, e = ovr e54 [(0, v2), (5, .bool x7), (6, v9), (7, v12), (10, v21), (12, v37), (14, .int .i64 s)] ∧ L = [F10, F13, F29, F45]) ⟨_, ovr_eq _ _ rfl, rfl⟩ ?_
           rintro x47 _ _ ⟨e54, rfl, rfl⟩ X58 hp hx59
           replace hp : fettlelaw14_LowerAlike.bd59 x28 x44 x47 = some X58 := hp
           refine TC.seq fun K73 k74 => sr <| tm rfl <| tm rfl <| tv (ln u23 h30.ro rfl) rfl <| tv (blt rfl rfl) rfl <| nz <| cD rfl hp (fun hc75 hp => ?_) fun hc75 hp => ?_
           · refine sk k74 rfl <| TC.seq fun K76 k77 => TC.block <| TC.seq fun K78 k79 => cq mix (by kernel_rfl) <| qv mv rfl <| qv mv rfl <| qi u23 i2 (h46).ro hp rfl rfl rfl rfl ?_
             rintro x48 b49 o50 _ hp rfl h53
             refine qv (lr s2 (Src.at_ 3 rfl) h53 0 rfl rfl) rfl <| qv mv rfl <| qv mv rfl <| qi u23 i2 (h30).ro hp rfl rfl rfl rfl ?_
             rintro x54 b55 o56 _ hp rfl h59
             refine qv (lr s2 (Src.at_ 2 rfl) h59 0 rfl rfl) rfl <| qv (bne rfl rfl) rfl <| QL.nil <| tg k79 <| cD rfl hp (fun hc82 hp => ?_) fun hc82 hp => ?_
             · refine sr <| ta rfl <| nz <| TC.ret ?_
               obtain rfl := ex_ret hp hx59
               exact rt hr57 [] ⟨rfl, rfl⟩
             · exact sk k77 rfl <| TC.region <| tm rfl <| tv (bad rfl rfl) rfl <| ta rfl <| nl <| gk hp [0, 1, 2, 3] ⟨_, ovr_eq _ _ rfl, rfl⟩
           · exact TC.exit <| jn [0, 1] (J71 (ex_ret hp hx59))
          refine lp hz47 [1, 2, 3, 0] rfl (fun s e L => ∃ x40 x43 F41 e45, s = (x40, x43) ∧ SlO 2 (kInt .i64) x40 v37 F41 ∧ e = ovr e45 [(0, v2), (5, .bool x7), (6, v9), (7, v12), (10, v21), (12, v37), (13, .int .i64 x43)] ∧ L = [F10, F13, F29, F41]) ⟨_, _, F38, _, rfl, h39, ovr_eq _ _ rfl, rfl⟩ ?_
          rintro _ _ _ ⟨x40, x43, F41, e45, rfl, h42, rfl, rfl⟩ X49 hp hx50
          replace hp : fettlelaw14_LowerAlike.bd50 x8 x40 x43 = some X49 := hp
          refine TC.seq fun K87 k88 => sr <| tm rfl <| tm rfl <| tv (ln u22 h11.ro rfl) rfl <| tv (blt rfl rfl) rfl <| nz <| cD rfl hp (fun hc89 hp => ?_) fun hc89 hp => ?_
          · refine sk k88 rfl <| TC.seq fun K90 k91 => TC.block <| TC.seq fun K92 k93 => sr <| tm rfl <| tm rfl <| ti u22 i31 (h11).ro hp rfl rfl rfl rfl ?_
            rintro x60 b61 o62 _ hp rfl h65
            refine tv (ixP 0 ax_31 i3 rfl rfl rfl) rfl <| tv (lr s3 (Src.at_ 0 rfl) h65 0 rfl rfl) rfl <| tv (blt rfl rfl) rfl <| tm rfl <| bE hp fun t66 ht123 hp => TL.cut 9 fun K95 k96 => ?_
            have J97 {e99} : ∀ w, St E H [F10, F13, F29, F41] w → K95 (ovr e99 [(102, .bool t66), (0, v2), (5, .bool x7), (6, v9), (7, v12), (10, v21), (12, v37), (13, .int .i64 x43)]) w := by
             refine tlg k96 <| tm rfl <| bE hp fun t67 ht121 hp => TL.cut 7 fun K100 k101 => ?_
             have J102 {e104} : ∀ w, St E H [F10, F13, F29, F41] w → K100 (ovr e104 [(110, .bool t67), (0, v2), (5, .bool x7), (6, v9), (7, v12), (10, v21), (12, v37), (13, .int .i64 x43)]) w := by
              refine tlg k101 <| tm rfl <| bE hp fun t68 ht119 hp => TL.cut 9 fun K105 k106 => ?_
              have J107 {e109} : ∀ w, St E H [F10, F13, F29, F41] w → K105 (ovr e109 [(120, .bool t68), (0, v2), (5, .bool x7), (6, v9), (7, v12), (10, v21), (12, v37), (13, .int .i64 x43)]) w := by
               refine tlg k106 <| nz <| cB rfl hp (fun hc110 hp => ?_) fun hc110 hp => ?_
               · refine sr <| ta rfl <| nz <| TC.ret ?_
                 obtain rfl := ex_ret hp hx50
                 exact rt hr48 [] ⟨rfl, rfl⟩
               · refine sk k93 rfl <| ch mix [F10, F13, F29] (srcG 0 rfl (srcG 1 rfl (srcG 2 rfl srcG0))) <| hv 0 rfl mv (by kernel_rfl) rfl <| hv 1 rfl mv (by kernel_rfl) rfl <| hv 2 rfl mv (by kernel_rfl) rfl <| hi 3 rfl u22 i31 (h11).ro hp rfl rfl rfl (by kernel_rfl) rfl ?_
                 rintro x1270 b1271 o1272 _ hp rfl h1275
                 refine hv 4 rfl (ixP 0 ax_31 i3 rfl rfl rfl) (by kernel_rfl) rfl <| hv 5 rfl (lr s3 (srcInG 0 rfl) h1275 0 rfl rfl) (by kernel_rfl) rfl <| hv 6 rfl mv (by kernel_rfl) rfl <| hv 7 rfl mv (by kernel_rfl) rfl <| hv 8 rfl mv (by kernel_rfl) rfl <| hi 9 rfl u22 i31 (h11).ro hp rfl rfl rfl (by kernel_rfl) rfl ?_
                 rintro x3670 b3671 o3672 _ hp rfl h3675
                 refine hv 10 rfl (ixP 1 ax_31 i3 rfl rfl rfl) (by kernel_rfl) rfl <| hv 11 rfl (lr s3 (srcInG 0 rfl) h3675 1 rfl rfl) (by kernel_rfl) rfl <| hi 12 rfl u23 i2 (h42).ro hp rfl rfl rfl (by kernel_rfl) rfl ?_
                 rintro x4870 b4871 o4872 _ hp rfl h4875
                 exact ho 13 rfl (by kernel_rfl) fun K114 k115 => tv (lr s2 (Src.at_ 3 rfl) h4875 0 rfl rfl) rfl <| hk k115 (srcG 0 rfl (srcG 1 rfl (srcG 2 rfl srcG0))) <| hO 14 rfl u23 i2 h42 hp rfl rfl rfl (by kernel_rfl) rfl fun x5670 b5671 o5672 h5673 hp => ho 15 rfl (by kernel_rfl) fun K117 k118 => tp [3, 0, 1, 2] [_,_,_,_] rfl rfl <| tE h42 h5673 m2 rfl ⟨rfl, rfl⟩ w1 fun F6070 h6071 => hk k118 (srcG 1 rfl (srcG 2 rfl (srcG 3 rfl srcG0))) <| hz (by kernel_rfl) <| tg k91 <| TC.region <| tm rfl <| tv (bad rfl rfl) rfl <| ta rfl <| nl <| gk hp [1, 2, 3, 0] ⟨_, _, F6070, _, rfl, h6071, ovr_eq _ _ rfl, rfl⟩
              refine ifE ht119 (fun hc108 hp => ?_) fun hc108 hp => ?_
              · refine gn rfl (bbT hc108) rfl rfl <| gn rfl (bbT hc108) rfl rfl <| gn rfl (bbT hc108) rfl rfl <| gn rfl (bbT hc108) rfl rfl <| gn rfl (bbT hc108) rfl rfl <| gn rfl (bbT hc108) rfl rfl <| gn rfl (bbT hc108) rfl rfl <| gn rfl (bbT hc108) rfl rfl <| tv (pT (bbT hc108)) rfl ?_
                obtain rfl := Option.some.inj hp
                exact nj J107 rfl
              · refine gy rfl (bbF hc108) <| tm rfl <| gy rfl (bbF hc108) <| tm rfl <| gy rfl (bbF hc108) <| ti u22 i31 (h11).ro hp rfl rfl rfl rfl ?_
                rintro x6470 b6471 o6472 _ hp rfl h6475
                refine gy rfl (bbF hc108) <| tv (ixP 1 ax_31 i3 rfl rfl rfl) rfl <| gy rfl (bbF hc108) <| tv (lr s3 (Src.at_ 0 rfl) h6475 1 rfl rfl) rfl <| gy rfl (bbF hc108) <| tm rfl <| gy rfl (bbF hc108) <| tv (ln u23 h42.ro rfl) rfl <| gy rfl (bbF hc108) <| tv (bge rfl rfl) rfl <| tv (pF (bbF hc108)) rfl ?_
                obtain rfl := Option.some.inj hp
                exact nj J107 rfl
             refine ifE ht121 (fun hc103 hp => ?_) fun hc103 hp => ?_
             · refine gn rfl (bbT hc103) rfl rfl <| gn rfl (bbT hc103) rfl rfl <| gn rfl (bbT hc103) rfl rfl <| gn rfl (bbT hc103) rfl rfl <| gn rfl (bbT hc103) rfl rfl <| gn rfl (bbT hc103) rfl rfl <| tv (pT (bbT hc103)) rfl ?_
               obtain rfl := Option.some.inj hp
               exact nj J102 rfl
             · refine gy rfl (bbF hc103) <| tm rfl <| gy rfl (bbF hc103) <| tm rfl <| gy rfl (bbF hc103) <| ti u22 i31 (h11).ro hp rfl rfl rfl rfl ?_
               rintro x6476 b6477 o6478 _ hp rfl h6481
               refine gy rfl (bbF hc103) <| tv (ixP 1 ax_31 i3 rfl rfl rfl) rfl <| gy rfl (bbF hc103) <| tv (lr s3 (Src.at_ 0 rfl) h6481 1 rfl rfl) rfl <| gy rfl (bbF hc103) <| tv (blt rfl rfl) rfl <| tv (pF (bbF hc103)) rfl ?_
               obtain rfl := Option.some.inj hp
               exact nj J102 rfl
            refine ifE ht123 (fun hc98 hp => ?_) fun hc98 hp => ?_
            · refine gn rfl (bT hc98) rfl rfl <| gn rfl (bT hc98) rfl rfl <| gn rfl (bT hc98) rfl rfl <| gn rfl (bT hc98) rfl rfl <| gn rfl (bT hc98) rfl rfl <| gn rfl (bT hc98) rfl rfl <| gn rfl (bT hc98) rfl rfl <| gn rfl (bT hc98) rfl rfl <| tv (pT (bT hc98)) rfl ?_
              obtain rfl := Option.some.inj hp
              exact nj J97 rfl
            · refine gy rfl (bF hc98) <| tm rfl <| gy rfl (bF hc98) <| tm rfl <| gy rfl (bF hc98) <| ti u22 i31 (h11).ro hp rfl rfl rfl rfl ?_
              rintro x6482 b6483 o6484 _ hp rfl h6487
              refine gy rfl (bF hc98) <| tv (ixP 0 ax_31 i3 rfl rfl rfl) rfl <| gy rfl (bF hc98) <| tv (lr s3 (Src.at_ 0 rfl) h6487 0 rfl rfl) rfl <| gy rfl (bF hc98) <| tm rfl <| gy rfl (bF hc98) <| tv (ln u23 h42.ro rfl) rfl <| gy rfl (bF hc98) <| tv (bge rfl rfl) rfl <| tv (pF (bF hc98)) rfl ?_
              obtain rfl := Option.some.inj hp
              exact nj J97 rfl
          · exact TC.exit <| jn [0, 1, 2, 3] (J85 h42 (ex_ret hp hx50))
         refine lp hz36 [1, 2, 0] rfl (fun s e L => ∃ x24 x27 F25 e34, s = (x24, x27) ∧ SlO 2 (kInt .i64) x24 v21 F25 ∧ e = ovr e34 [(0, v2), (1, v5), (5, .bool x7), (6, v9), (7, v12), (10, v21), (11, .int .i64 x27)] ∧ L = [F10, F13, F25]) ⟨_, _, F22, _, rfl, h23, ovr_eq _ _ rfl, rfl⟩ ?_
         rintro _ _ _ ⟨x24, x27, F25, e34, rfl, h26, rfl, rfl⟩ X38 hp hx39
         replace hp : fettlelaw14_LowerAlike.bd39 a1 a4 x24 x27 = some X38 := hp
         refine TC.seq fun K129 k130 => sr <| tm rfl <| tm rfl <| tv (ln u22 h3 rfl) rfl <| tv (blt rfl rfl) rfl <| nz <| cD rfl hp (fun hc131 hp => ?_) fun hc131 hp => ?_
         · refine sk k130 rfl <| TC.seq fun K132 k133 => TC.block <| ch mix [F10, F13] (srcG 0 rfl (srcG 1 rfl srcG0)) <| hv 0 rfl mv (by kernel_rfl) rfl <| hv 1 rfl mv (by kernel_rfl) rfl <| hv 2 rfl mv (by kernel_rfl) rfl <| hi 3 rfl u22 i31 h3 hp rfl rfl rfl (by kernel_rfl) rfl ?_
           rintro x7689 b7690 o7691 _ hp rfl h7694
           refine hv 4 rfl (ixP 0 ax_31 i3 rfl rfl rfl) (by kernel_rfl) rfl <| hv 5 rfl (lr s3 srcInH h7694 0 rfl rfl) (by kernel_rfl) rfl <| hv 6 rfl mv (by kernel_rfl) rfl <| hv 7 rfl mv (by kernel_rfl) rfl <| hv 8 rfl mv (by kernel_rfl) rfl <| hi 9 rfl u22 i31 h3 hp rfl rfl rfl (by kernel_rfl) rfl ?_
           rintro x10089 b10090 o10091 _ hp rfl h10094
           refine hv 10 rfl (ixP 1 ax_31 i3 rfl rfl rfl) (by kernel_rfl) rfl <| hv 11 rfl (lr s3 srcInH h10094 1 rfl rfl) (by kernel_rfl) rfl <| hi 12 rfl u23 i2 h6 hp rfl rfl rfl (by kernel_rfl) rfl ?_
           rintro x11289 b11290 o11291 _ hp rfl h11294
           exact hv 13 rfl (lr s2 srcInH h11294 0 rfl rfl) (by kernel_rfl) rfl <| hO 14 rfl u23 i2 h26 hp rfl rfl rfl (by kernel_rfl) rfl fun x12089 b12090 o12091 h12092 hp => ho 15 rfl (by kernel_rfl) fun K138 k139 => tp [2, 0, 1] [_,_,_] rfl rfl <| tE h26 h12092 m2 rfl ⟨rfl, rfl⟩ w1 fun F12489 h12490 => hk k139 (srcG 1 rfl (srcG 2 rfl srcG0)) <| hz (by kernel_rfl) <| tg k133 <| TC.region <| tm rfl <| tv (bad rfl rfl) rfl <| ta rfl <| nl <| gk hp [1, 2, 0] ⟨_, _, F12489, _, rfl, h12490, ovr_eq _ _ rfl, rfl⟩
         · exact TC.exit <| jn [0, 1, 2] (J127 h26 (ex_ret hp hx39))
  by_cases hc13 : (len a1) > 300 ∨ (len a4) > 300
  · exact gn rfl (bT hc13) rfl rfl <| gn rfl (bT hc13) rfl rfl <| gn rfl (bT hc13) rfl rfl <| tv (pT (bT hc13)) rfl <| nj J12 (bOt hc13)
  · exact gy rfl (bF hc13) <| tm rfl <| gy rfl (bF hc13) <| tv (ln u23 h6 rfl) rfl <| gy rfl (bF hc13) <| tv (beq rfl rfl) rfl <| tv (pF (bF hc13)) rfl <| nj J12 (bOf hc13)
 by_cases hc8 : (len a1) > 300
 · exact gn rfl (bT hc8) rfl rfl <| gn rfl (bT hc8) rfl rfl <| gn rfl (bT hc8) rfl rfl <| tv (pT (bT hc8)) rfl <| nj J7 (bOt hc8)
 · exact gy rfl (bF hc8) <| tm rfl <| gy rfl (bF hc8) <| tv (ln u23 h6 rfl) rfl <| gy rfl (bF hc8) <| tv (bgt rfl rfl) rfl <| tv (pF (bF hc8)) rfl <| nj J7 (bOf hc8)
end Go.Proofs.Ytpmcbahahjelnaa
