/- The walk through the program's functions: each one's pure reading, and that a call does what it says. No conditions. -/
import Derived.Test.YteaknconpkklhaaDoorV14
set_option linter.unusedVariables false
set_option linter.unusedSimpArgs false
namespace Go.Proofs.YteaknconpkklhaaDoor
open Go Go.Proofs

/-! ### fettle/fettleref02.sameBlock -/
abbrev fettleref02_sameBlock.R (r : Bool) (v : Value) (A : List FP) : Prop := .bool r = v ∧ A = []
def fettleref02_sameBlock.nx40  : Option Bool :=
  some true
def fettleref02_sameBlock.bd40 (a1 : PBlock) (a8 : PBlock) (x19 : Int) : Option (Ex (Ex Bool Unit) Int) :=
  if x19 < (len a1.ins) then
    (idx a1.ins x19).bind fun x20 =>
    (idx a8.ins x19).bind fun x29 =>
    (if (¬ x20.op = x29.op) ∨ (¬ x20.dst = x29.dst) then some true else (fettleref02_ints x20.args x29.args).bind fun x39 =>
    some (!x39)).bind fun t38 =>
    if (t38 = true ∨ (¬ x20.imm = x29.imm)) ∨ (¬ x20.fn = x29.fn) then
      some (.ret (.ret false))
    else
      some (.go (w64 (x19 + 1)))
  else
    some (.ret (.go ()))
def fettleref02_sameBlock.nx31 (a1 : PBlock) (a8 : PBlock) : Option Bool :=
  (whl (fun (s : Int) => fettleref02_sameBlock.bd40 a1 a8 s) FUEL 0).bind fun z =>
  match z with
    | .ret r => some r
    | .go p => fettleref02_sameBlock.nx40
def fettleref02_sameBlock.bd31 (a1 : PBlock) (a8 : PBlock) (x18 : Int) : Option (Ex (Ex Bool Unit) Int) :=
  if x18 < (len a1.phis) then
    (idx a1.phis x18).bind fun x40 =>
    (idx a8.phis x18).bind fun x48 =>
    (if ¬ x40.dst = x48.dst then some true else (idx a1.phis x18).bind fun x57 =>
    (idx a8.phis x18).bind fun x65 =>
    (fettleref02_ints x57.args x65.args).bind fun x73 =>
    some (!x73)).bind fun t56 =>
    if t56 = true then
      some (.ret (.ret false))
    else
      some (.go (w64 (x18 + 1)))
  else
    some (.ret (.go ()))
def fettleref02_sameBlock (a1 : PBlock) (a8 : PBlock) : Option Bool :=
  (if (((¬ (len a1.phis) = (len a8.phis)) ∨ (¬ (len a1.ins) = (len a8.ins))) ∨ (¬ a1.term.kind = a8.term.kind)) ∨ (¬ a1.term.arg = a8.term.arg) then some true else (fettleref02_ints a1.term.to a8.term.to).bind fun x74 =>
  some (!x74)).bind fun t17 =>
  if t17 = true then
    some false
  else
    (whl (fun (s : Int) => fettleref02_sameBlock.bd31 a1 a8 s) FUEL 0).bind fun z =>
    match z with
      | .ret r => some r
      | .go p => fettleref02_sameBlock.nx31 a1 a8
set_option maxHeartbeats 4000000 in
theorem fettleref02_sameBlock_ok {E : World} {H : FP} {w : World} {a1 : PBlock} {a8 : PBlock} {v2 : Value} {v4 : Value} {v6 : Value} {v9 : Value} {v11 : Value} {v13 : Value} {r : Bool} (h3 : SlI kPhi H a1.phis v2) (h5 : SlI kInstr H a1.ins v4) (h7 : SlI (kInt .i64) H a1.term.to v6) (h10 : SlI kPhi H a8.phis v9) (h12 : SlI kInstr H a8.ins v11) (h14 : SlI (kInt .i64) H a8.term.to v13) (hp : fettleref02_sameBlock a1 a8 = some r) (hst : St E H [] w) :
    Fn Tryd.prog 63 #[.agg #[v2, v4, .int .i64 a1.term.kind, .int .i64 a1.term.arg, v6], .agg #[v9, v11, .int .i64 a8.term.kind, .int .i64 a8.term.arg, v13]] w fun v w' => ∃ A, fettleref02_sameBlock.R r v A ∧ St E H A w' := by
 refine fb 140 [.tmp 4] Tryd.func63 rfl rfl rfl rfl rfl hst <| sr <| tb [v2, v4, .int .i64 a1.term.kind, .int .i64 a1.term.arg, v6] rfl rfl fun b15 => tb [v9, v11, .int .i64 a8.term.kind, .int .i64 a8.term.arg, v13] rfl rfl fun b16 => ta rfl <| nz <| TC.seq fun K1 k2 => sr <| tv (fa f60_0 rfl) rfl <| tv (lb s57 1 rfl rfl rfl) rfl <| tv (ln u57 h3 rfl) rfl <| tv (fa f60_0 rfl) rfl <| tv (lb s57 0 rfl rfl rfl) rfl <| tv (ln u57 h10 rfl) rfl <| tv (bne rfl rfl) rfl <| tm rfl <| TL.cut 8 fun K3 k4 => ?_
 have J5 {e7} : ∀ w, St E H [bx b16 60 [v9, v11, .int .i64 a8.term.kind, .int .i64 a8.term.arg, v13], bx b15 60 [v2, v4, .int .i64 a1.term.kind, .int .i64 a1.term.arg, v6]] w → K3 (ovr e7 [(24, .bool (decide ((¬ (len a1.phis) = (len a8.phis)) ∨ (¬ (len a1.ins) = (len a8.ins))))), (2, .pointer (some ⟨b15, 0, none⟩)), (3, .pointer (some ⟨b16, 0, none⟩))]) w := by
  refine tlg k4 <| tm rfl <| TL.cut 8 fun K8 k9 => ?_
  have J10 {e12} : ∀ w, St E H [bx b16 60 [v9, v11, .int .i64 a8.term.kind, .int .i64 a8.term.arg, v13], bx b15 60 [v2, v4, .int .i64 a1.term.kind, .int .i64 a1.term.arg, v6]] w → K8 (ovr e12 [(33, .bool (decide (((¬ (len a1.phis) = (len a8.phis)) ∨ (¬ (len a1.ins) = (len a8.ins))) ∨ (¬ a1.term.kind = a8.term.kind)))), (2, .pointer (some ⟨b15, 0, none⟩)), (3, .pointer (some ⟨b16, 0, none⟩))]) w := by
   refine tlg k9 <| tm rfl <| TL.cut 8 fun K13 k14 => ?_
   have J15 {e17} : ∀ w, St E H [bx b16 60 [v9, v11, .int .i64 a8.term.kind, .int .i64 a8.term.arg, v13], bx b15 60 [v2, v4, .int .i64 a1.term.kind, .int .i64 a1.term.arg, v6]] w → K13 (ovr e17 [(42, .bool (decide ((((¬ (len a1.phis) = (len a8.phis)) ∨ (¬ (len a1.ins) = (len a8.ins))) ∨ (¬ a1.term.kind = a8.term.kind)) ∨ (¬ a1.term.arg = a8.term.arg)))), (2, .pointer (some ⟨b15, 0, none⟩)), (3, .pointer (some ⟨b16, 0, none⟩))]) w := by
    refine tlg k14 <| tm rfl <| bE hp fun t17 ht100 hp => TL.cut 9 fun K18 k19 => ?_
    have J20 {e22} : ∀ w, St E H [bx b16 60 [v9, v11, .int .i64 a8.term.kind, .int .i64 a8.term.arg, v13], bx b15 60 [v2, v4, .int .i64 a1.term.kind, .int .i64 a1.term.arg, v6]] w → K18 (ovr e22 [(52, .bool t17), (2, .pointer (some ⟨b15, 0, none⟩)), (3, .pointer (some ⟨b16, 0, none⟩))]) w := by
     refine tlg k19 <| nz <| cB rfl hp (fun hc23 hp => ?_) fun hc23 hp => ?_
     · exact sr <| ta rfl <| nz <| TC.ret <| rt hp [] ⟨rfl, rfl⟩
     · refine sk k2 rfl <| TC.seq fun K24 k25 => sr <| ta rfl <| nz <| TC.block <| bE hp fun z_27 hz28 hr29 => ?_
       have J77 {e32} (hq78 : .go () = z_27) : ∀ w, St E H [bx b15 60 [v2, v4, .int .i64 a1.term.kind, .int .i64 a1.term.arg, v6], bx b16 60 [v9, v11, .int .i64 a8.term.kind, .int .i64 a8.term.arg, v13]] w → K24 (ovr e32 [(2, .pointer (some ⟨b15, 0, none⟩)), (3, .pointer (some ⟨b16, 0, none⟩))]) w := by
        subst hq78
        replace hp : fettleref02_sameBlock.nx31 a1 a8 = some r := hr29
        refine tg k25 <| TC.seq fun K33 k34 => sr <| ta rfl <| nz <| TC.block <| bE hp fun z_36 hz37 hr38 => ?_
        have J42 {e41} (hq43 : .go () = z_36) : ∀ w, St E H [] w → K33 (ovr e41 []) w := by
         subst hq43
         replace hp : fettleref02_sameBlock.nx40 = some r := hr38
         exact tg k34 <| sr <| ta rfl <| nz <| TC.ret <| rt hp [] ⟨rfl, rfl⟩
        refine lp hz37 [0, 1] rfl (fun s e L => ∃ e35, e = ovr e35 [(2, .pointer (some ⟨b15, 0, none⟩)), (3, .pointer (some ⟨b16, 0, none⟩)), (6, .int .i64 s)] ∧ L = [bx b15 60 [v2, v4, .int .i64 a1.term.kind, .int .i64 a1.term.arg, v6], bx b16 60 [v9, v11, .int .i64 a8.term.kind, .int .i64 a8.term.arg, v13]]) ⟨_, ovr_eq _ _ rfl, rfl⟩ ?_
        rintro x19 _ _ ⟨e35, rfl, rfl⟩ X39 hp hx40
        replace hp : fettleref02_sameBlock.bd40 a1 a8 x19 = some X39 := hp
        refine TC.seq fun K44 k45 => sr <| tm rfl <| tv (fa f60_1 rfl) rfl <| tv (lb s58 0 rfl rfl rfl) rfl <| tv (ln u58 h5 rfl) rfl <| tv (blt rfl rfl) rfl <| nz <| cD rfl hp (fun hc46 hp => ?_) fun hc46 hp => ?_
        · refine sk k45 rfl <| TC.seq fun K47 k48 => TC.block <| sr <| tv (fa f60_1 rfl) rfl <| tv (lb s58 0 rfl rfl rfl) rfl <| tm rfl <| ti u58 i62 h5 hp rfl rfl rfl rfl ?_
          rintro x20 b21 o22 _ hp ⟨v26, rfl, h27⟩ h25
          refine tv (lR (ds := [.int .i64 x20.op, .int .i64 x20.dst, v26, .int .i64 x20.imm, .int .i64 x20.fn]) ag_62 sH h25 0 rfl rfl rfl) rfl <| tl i62 rfl fun b28 => tS 0 m62 rfl rfl [.int .i64 x20.op, .int .i64 x20.dst, v26, .int .i64 x20.imm, .int .i64 x20.fn] rfl (oc rfl (oc rfl (oc (h27).one (oc rfl (oc rfl oc0))))) rfl rfl <| nz <| sr <| tv (fa f60_1 rfl) rfl <| tv (lb s58 2 rfl rfl rfl) rfl <| tm rfl <| ti u58 i62 h12 hp rfl rfl rfl rfl ?_
          rintro x29 b30 o31 _ hp ⟨v35, rfl, h36⟩ h34
          refine tv (lR (ds := [.int .i64 x29.op, .int .i64 x29.dst, v35, .int .i64 x29.imm, .int .i64 x29.fn]) ag_62 sH h34 0 rfl rfl rfl) rfl <| tl i62 rfl fun b37 => tS 0 m62 rfl rfl [.int .i64 x29.op, .int .i64 x29.dst, v35, .int .i64 x29.imm, .int .i64 x29.fn] rfl (oc rfl (oc rfl (oc (h36).one (oc rfl (oc rfl oc0))))) rfl rfl <| nz <| sr <| tv (fa f62_0 rfl) rfl <| tv (lb s3 1 rfl rfl rfl) rfl <| tv (fa f62_0 rfl) rfl <| tv (lb s3 0 rfl rfl rfl) rfl <| tv (bne rfl rfl) rfl <| tm rfl <| TL.cut 6 fun K51 k52 => ?_
          have J53 {e55} : ∀ w, St E H [bx b37 62 [.int .i64 x29.op, .int .i64 x29.dst, v35, .int .i64 x29.imm, .int .i64 x29.fn], bx b28 62 [.int .i64 x20.op, .int .i64 x20.dst, v26, .int .i64 x20.imm, .int .i64 x20.fn], bx b15 60 [v2, v4, .int .i64 a1.term.kind, .int .i64 a1.term.arg, v6], bx b16 60 [v9, v11, .int .i64 a8.term.kind, .int .i64 a8.term.arg, v13]] w → K51 (ovr e55 [(117, .bool (decide ((¬ x20.op = x29.op) ∨ (¬ x20.dst = x29.dst)))), (2, .pointer (some ⟨b15, 0, none⟩)), (3, .pointer (some ⟨b16, 0, none⟩)), (6, .int .i64 x19), (7, .pointer (some ⟨b28, 0, none⟩)), (8, .pointer (some ⟨b37, 0, none⟩))]) w := by
           refine tlg k52 <| tm rfl <| bE hp fun t38 ht72 hp => TL.cut 7 fun K56 k57 => ?_
           have J58 {e60} : ∀ w, St E H [bx b37 62 [.int .i64 x29.op, .int .i64 x29.dst, v35, .int .i64 x29.imm, .int .i64 x29.fn], bx b28 62 [.int .i64 x20.op, .int .i64 x20.dst, v26, .int .i64 x20.imm, .int .i64 x20.fn], bx b15 60 [v2, v4, .int .i64 a1.term.kind, .int .i64 a1.term.arg, v6], bx b16 60 [v9, v11, .int .i64 a8.term.kind, .int .i64 a8.term.arg, v13]] w → K56 (ovr e60 [(125, .bool t38), (2, .pointer (some ⟨b15, 0, none⟩)), (3, .pointer (some ⟨b16, 0, none⟩)), (6, .int .i64 x19), (7, .pointer (some ⟨b28, 0, none⟩)), (8, .pointer (some ⟨b37, 0, none⟩))]) w := by
            refine tlg k57 <| tm rfl <| TL.cut 6 fun K61 k62 => ?_
            have J63 {e65} : ∀ w, St E H [bx b37 62 [.int .i64 x29.op, .int .i64 x29.dst, v35, .int .i64 x29.imm, .int .i64 x29.fn], bx b28 62 [.int .i64 x20.op, .int .i64 x20.dst, v26, .int .i64 x20.imm, .int .i64 x20.fn], bx b15 60 [v2, v4, .int .i64 a1.term.kind, .int .i64 a1.term.arg, v6], bx b16 60 [v9, v11, .int .i64 a8.term.kind, .int .i64 a8.term.arg, v13]] w → K61 (ovr e65 [(132, .bool (decide (t38 = true ∨ (¬ x20.imm = x29.imm)))), (2, .pointer (some ⟨b15, 0, none⟩)), (3, .pointer (some ⟨b16, 0, none⟩)), (6, .int .i64 x19), (7, .pointer (some ⟨b28, 0, none⟩)), (8, .pointer (some ⟨b37, 0, none⟩))]) w := by
             refine tlg k62 <| tm rfl <| TL.cut 6 fun K66 k67 => ?_
             have J68 {e70} : ∀ w, St E H [bx b37 62 [.int .i64 x29.op, .int .i64 x29.dst, v35, .int .i64 x29.imm, .int .i64 x29.fn], bx b28 62 [.int .i64 x20.op, .int .i64 x20.dst, v26, .int .i64 x20.imm, .int .i64 x20.fn], bx b15 60 [v2, v4, .int .i64 a1.term.kind, .int .i64 a1.term.arg, v6], bx b16 60 [v9, v11, .int .i64 a8.term.kind, .int .i64 a8.term.arg, v13]] w → K66 (ovr e70 [(139, .bool (decide ((t38 = true ∨ (¬ x20.imm = x29.imm)) ∨ (¬ x20.fn = x29.fn)))), (2, .pointer (some ⟨b15, 0, none⟩)), (3, .pointer (some ⟨b16, 0, none⟩)), (6, .int .i64 x19)]) w := by
              refine tlg k67 <| nz <| cD rfl hp (fun hc71 hp => ?_) fun hc71 hp => ?_
              · refine sr <| ta rfl <| nz <| TC.ret ?_
                obtain rfl := ex_ret hp hx40
                exact rt hr38 [] ⟨rfl, rfl⟩
              · exact sk k48 rfl <| TC.region <| tm rfl <| tv (bad rfl rfl) rfl <| ta rfl <| nl <| gk hp [2, 3] ⟨_, ovr_eq _ _ rfl, rfl⟩
             by_cases hc69 : t38 = true ∨ (¬ x20.imm = x29.imm)
             · exact gn rfl (bT hc69) rfl rfl <| gn rfl (bT hc69) rfl rfl <| gn rfl (bT hc69) rfl rfl <| gn rfl (bT hc69) rfl rfl <| gn rfl (bT hc69) rfl rfl <| tv (pT (bT hc69)) rfl <| nj J68 (bOt hc69)
             · exact gy rfl (bF hc69) <| tv (fa f62_4 rfl) rfl <| gy rfl (bF hc69) <| tv (lb s3 1 rfl rfl rfl) rfl <| gy rfl (bF hc69) <| tv (fa f62_4 rfl) rfl <| gy rfl (bF hc69) <| tv (lb s3 0 rfl rfl rfl) rfl <| gy rfl (bF hc69) <| tv (bne rfl rfl) rfl <| tv (pF (bF hc69)) rfl <| nj J68 (bOf hc69)
            by_cases hc64 : t38 = true
            · exact gn rfl (bbT hc64) rfl rfl <| gn rfl (bbT hc64) rfl rfl <| gn rfl (bbT hc64) rfl rfl <| gn rfl (bbT hc64) rfl rfl <| gn rfl (bbT hc64) rfl rfl <| tv (pT (bbT hc64)) rfl <| nj J63 (bOt hc64)
            · exact gy rfl (bbF hc64) <| tv (fa f62_3 rfl) rfl <| gy rfl (bbF hc64) <| tv (lb s2 1 rfl rfl rfl) rfl <| gy rfl (bbF hc64) <| tv (fa f62_3 rfl) rfl <| gy rfl (bbF hc64) <| tv (lb s2 0 rfl rfl rfl) rfl <| gy rfl (bbF hc64) <| tv (bne rfl rfl) rfl <| tv (pF (bbF hc64)) rfl <| nj J63 (bOf hc64)
           refine ifE ht72 (fun hc59 hp => ?_) fun hc59 hp => ?_
           · refine gn rfl (bT hc59) rfl rfl <| gn rfl (bT hc59) rfl rfl <| gn rfl (bT hc59) rfl rfl <| gn rfl (bT hc59) rfl rfl <| gn rfl (bT hc59) rfl rfl <| gn rfl (bT hc59) rfl rfl <| tv (pT (bT hc59)) rfl ?_
             obtain rfl := Option.some.inj hp
             exact nj J58 rfl
           · refine gy rfl (bF hc59) <| tv (fa f62_2 rfl) rfl <| gy rfl (bF hc59) <| tv (lb s32 1 rfl rfl rfl) rfl <| gy rfl (bF hc59) <| tv (fa f62_2 rfl) rfl <| gy rfl (bF hc59) <| tv (lb s32 0 rfl rfl rfl) rfl <| gy rfl (bF hc59) <| bE hp fun x39 hy73 hp => tc 0 [_,_,_,_] rfl c62 (fun _ => fettleref02_ints_ok (a1 := x20.args) (a4 := x29.args) (h27.mono subH) (h36.mono subH) hy73) rfl ?_
             rintro _ _ ⟨rfl, rfl⟩
             refine gy rfl (bF hc59) <| tv (rv_not rfl) rfl <| tv (pF (bF hc59)) rfl ?_
             obtain rfl := Option.some.inj hp
             exact nj J58 rfl
          by_cases hc54 : ¬ x20.op = x29.op
          · exact gn rfl (bT hc54) rfl rfl <| gn rfl (bT hc54) rfl rfl <| gn rfl (bT hc54) rfl rfl <| gn rfl (bT hc54) rfl rfl <| gn rfl (bT hc54) rfl rfl <| tv (pT (bT hc54)) rfl <| nj J53 (bOt hc54)
          · exact gy rfl (bF hc54) <| tv (fa f62_1 rfl) rfl <| gy rfl (bF hc54) <| tv (lb s3 1 rfl rfl rfl) rfl <| gy rfl (bF hc54) <| tv (fa f62_1 rfl) rfl <| gy rfl (bF hc54) <| tv (lb s3 0 rfl rfl rfl) rfl <| gy rfl (bF hc54) <| tv (bne rfl rfl) rfl <| tv (pF (bF hc54)) rfl <| nj J53 (bOf hc54)
        · exact TC.exit <| jn [] (J42 (ex_ret hp hx40))
       refine lp hz28 [1, 0] rfl (fun s e L => ∃ e26, e = ovr e26 [(2, .pointer (some ⟨b15, 0, none⟩)), (3, .pointer (some ⟨b16, 0, none⟩)), (5, .int .i64 s)] ∧ L = [bx b15 60 [v2, v4, .int .i64 a1.term.kind, .int .i64 a1.term.arg, v6], bx b16 60 [v9, v11, .int .i64 a8.term.kind, .int .i64 a8.term.arg, v13]]) ⟨_, ovr_eq _ _ rfl, rfl⟩ ?_
       rintro x18 _ _ ⟨e26, rfl, rfl⟩ X30 hp hx31
       replace hp : fettleref02_sameBlock.bd31 a1 a8 x18 = some X30 := hp
       refine TC.seq fun K79 k80 => sr <| tm rfl <| tv (fa f60_0 rfl) rfl <| tv (lb s57 0 rfl rfl rfl) rfl <| tv (ln u57 h3 rfl) rfl <| tv (blt rfl rfl) rfl <| nz <| cD rfl hp (fun hc81 hp => ?_) fun hc81 hp => ?_
       · refine sk k80 rfl <| TC.seq fun K82 k83 => TC.block <| TC.seq fun K84 k85 => cq mix (by kernel_rfl) <| qv (fa f60_0 rfl) rfl <| qv (lb s57 0 rfl rfl rfl) rfl <| qv mv rfl <| qi u57 i64 h3 hp rfl rfl rfl rfl ?_
         rintro x40 b41 o42 _ hp ⟨v46, rfl, h47⟩ h45
         refine qv (fa f64_0 rfl) rfl <| qv (lr s3 sH h45 0 rfl rfl) rfl <| qv (fa f60_0 rfl) rfl <| qv (lb s57 1 rfl rfl rfl) rfl <| qv mv rfl <| qi u57 i64 h10 hp rfl rfl rfl rfl ?_
         rintro x48 b49 o50 _ hp ⟨v54, rfl, h55⟩ h53
         refine qv (fa f64_0 rfl) rfl <| qv (lr s3 sH h53 0 rfl rfl) rfl <| qv (bne rfl rfl) rfl <| qv mv rfl <| bE hp fun t56 ht94 hp => QL.cut 15 fun K88 k89 => ?_
         have J90 {e92} : K88 (ovr e92 [(88, .bool t56), (2, .pointer (some ⟨b15, 0, none⟩)), (3, .pointer (some ⟨b16, 0, none⟩)), (5, .int .i64 x18)]) := by
          refine k89 _ <| QL.nil <| tg k85 <| cB rfl hp (fun hc93 hp => ?_) fun hc93 hp => ?_
          · refine sr <| ta rfl <| nz <| TC.ret ?_
            obtain rfl := ex_ret hp hx31
            exact rt hr29 [] ⟨rfl, rfl⟩
          · exact sk k83 rfl <| TC.region <| tm rfl <| tv (bad rfl rfl) rfl <| ta rfl <| nl <| gk hp [0, 1] ⟨_, ovr_eq _ _ rfl, rfl⟩
         refine ifE ht94 (fun hc91 hp => ?_) fun hc91 hp => ?_
         · refine qgn rfl (bT hc91) rfl rfl <| qgn rfl (bT hc91) rfl rfl <| qgn rfl (bT hc91) rfl rfl <| qgn rfl (bT hc91) rfl rfl <| qgn rfl (bT hc91) rfl rfl <| qgn rfl (bT hc91) rfl rfl <| qgn rfl (bT hc91) rfl rfl <| qgn rfl (bT hc91) rfl rfl <| qgn rfl (bT hc91) rfl rfl <| qgn rfl (bT hc91) rfl rfl <| qgn rfl (bT hc91) rfl rfl <| qgn rfl (bT hc91) rfl rfl <| qgn rfl (bT hc91) rfl rfl <| qgn rfl (bT hc91) rfl rfl <| qv (pT (bT hc91)) rfl ?_
           obtain rfl := Option.some.inj hp
           exact qj J90 rfl
         · refine qgy rfl (bF hc91) <| qv (fa f60_0 rfl) rfl <| qgy rfl (bF hc91) <| qv (lb s57 0 rfl rfl rfl) rfl <| qgy rfl (bF hc91) <| qv mv rfl <| qgy rfl (bF hc91) <| qi u57 i64 h3 hp rfl rfl rfl rfl ?_
           rintro x57 b58 o59 _ hp ⟨v63, rfl, h64⟩ h62
           refine qgy rfl (bF hc91) <| qv (fa f64_1 rfl) rfl <| qgy rfl (bF hc91) <| qv (lr s32 sH h62 1 rfl rfl) rfl <| qgy rfl (bF hc91) <| qv (fa f60_0 rfl) rfl <| qgy rfl (bF hc91) <| qv (lb s57 1 rfl rfl rfl) rfl <| qgy rfl (bF hc91) <| qv mv rfl <| qgy rfl (bF hc91) <| qi u57 i64 h10 hp rfl rfl rfl rfl ?_
           rintro x65 b66 o67 _ hp ⟨v71, rfl, h72⟩ h70
           refine qgy rfl (bF hc91) <| qv (fa f64_1 rfl) rfl <| qgy rfl (bF hc91) <| qv (lr s32 sH h70 1 rfl rfl) rfl <| qgy rfl (bF hc91) <| bE hp fun x73 hy97 hp => qc (.bool x73) c62 (fun _ => fettleref02_ints_ok (a1 := x57.args) (a4 := x65.args) (h64.mono subH) (h72.mono subH) hy97) (fun _ _ h => ⟨h.1.symm, h.2⟩) rfl <| qgy rfl (bF hc91) <| qv (rv_not rfl) rfl <| qv (pF (bF hc91)) rfl ?_
           obtain rfl := Option.some.inj hp
           exact qj J90 rfl
       · exact TC.exit <| jn [0, 1] (J77 (ex_ret hp hx31))
    refine ifE ht100 (fun hc21 hp => ?_) fun hc21 hp => ?_
    · refine gn rfl (bT hc21) rfl rfl <| gn rfl (bT hc21) rfl rfl <| gn rfl (bT hc21) rfl rfl <| gn rfl (bT hc21) rfl rfl <| gn rfl (bT hc21) rfl rfl <| gn rfl (bT hc21) rfl rfl <| gn rfl (bT hc21) rfl rfl <| gn rfl (bT hc21) rfl rfl <| tv (pT (bT hc21)) rfl ?_
      obtain rfl := Option.some.inj hp
      exact nj J20 rfl
    · refine gy rfl (bF hc21) <| tv (fa f60_2 rfl) rfl <| gy rfl (bF hc21) <| tv (fa f56_2 rfl) rfl <| gy rfl (bF hc21) <| tv (lb s32 1 rfl rfl rfl) rfl <| gy rfl (bF hc21) <| tv (fa f60_2 rfl) rfl <| gy rfl (bF hc21) <| tv (fa f56_2 rfl) rfl <| gy rfl (bF hc21) <| tv (lb s32 0 rfl rfl rfl) rfl <| gy rfl (bF hc21) <| bE hp fun x74 hy101 hp => tc 0 [_,_] rfl c62 (fun _ => fettleref02_ints_ok (a1 := a1.term.to) (a4 := a8.term.to) (h7.mono subH) (h14.mono subH) hy101) rfl ?_
      rintro _ _ ⟨rfl, rfl⟩
      refine gy rfl (bF hc21) <| tv (rv_not rfl) rfl <| tv (pF (bF hc21)) rfl ?_
      obtain rfl := Option.some.inj hp
      exact nj J20 rfl
   by_cases hc16 : ((¬ (len a1.phis) = (len a8.phis)) ∨ (¬ (len a1.ins) = (len a8.ins))) ∨ (¬ a1.term.kind = a8.term.kind)
   · exact gn rfl (bT hc16) rfl rfl <| gn rfl (bT hc16) rfl rfl <| gn rfl (bT hc16) rfl rfl <| gn rfl (bT hc16) rfl rfl <| gn rfl (bT hc16) rfl rfl <| gn rfl (bT hc16) rfl rfl <| gn rfl (bT hc16) rfl rfl <| tv (pT (bT hc16)) rfl <| nj J15 (bOt hc16)
   · exact gy rfl (bF hc16) <| tv (fa f60_2 rfl) rfl <| gy rfl (bF hc16) <| tv (fa f56_1 rfl) rfl <| gy rfl (bF hc16) <| tv (lb s3 1 rfl rfl rfl) rfl <| gy rfl (bF hc16) <| tv (fa f60_2 rfl) rfl <| gy rfl (bF hc16) <| tv (fa f56_1 rfl) rfl <| gy rfl (bF hc16) <| tv (lb s3 0 rfl rfl rfl) rfl <| gy rfl (bF hc16) <| tv (bne rfl rfl) rfl <| tv (pF (bF hc16)) rfl <| nj J15 (bOf hc16)
  by_cases hc11 : (¬ (len a1.phis) = (len a8.phis)) ∨ (¬ (len a1.ins) = (len a8.ins))
  · exact gn rfl (bT hc11) rfl rfl <| gn rfl (bT hc11) rfl rfl <| gn rfl (bT hc11) rfl rfl <| gn rfl (bT hc11) rfl rfl <| gn rfl (bT hc11) rfl rfl <| gn rfl (bT hc11) rfl rfl <| gn rfl (bT hc11) rfl rfl <| tv (pT (bT hc11)) rfl <| nj J10 (bOt hc11)
  · exact gy rfl (bF hc11) <| tv (fa f60_2 rfl) rfl <| gy rfl (bF hc11) <| tv (fa f56_0 rfl) rfl <| gy rfl (bF hc11) <| tv (lb s3 1 rfl rfl rfl) rfl <| gy rfl (bF hc11) <| tv (fa f60_2 rfl) rfl <| gy rfl (bF hc11) <| tv (fa f56_0 rfl) rfl <| gy rfl (bF hc11) <| tv (lb s3 0 rfl rfl rfl) rfl <| gy rfl (bF hc11) <| tv (bne rfl rfl) rfl <| tv (pF (bF hc11)) rfl <| nj J10 (bOf hc11)
 by_cases hc6 : ¬ (len a1.phis) = (len a8.phis)
 · exact gn rfl (bT hc6) rfl rfl <| gn rfl (bT hc6) rfl rfl <| gn rfl (bT hc6) rfl rfl <| gn rfl (bT hc6) rfl rfl <| gn rfl (bT hc6) rfl rfl <| gn rfl (bT hc6) rfl rfl <| gn rfl (bT hc6) rfl rfl <| tv (pT (bT hc6)) rfl <| nj J5 (bOt hc6)
 · exact gy rfl (bF hc6) <| tv (fa f60_1 rfl) rfl <| gy rfl (bF hc6) <| tv (lb s58 1 rfl rfl rfl) rfl <| gy rfl (bF hc6) <| tv (ln u58 h5 rfl) rfl <| gy rfl (bF hc6) <| tv (fa f60_1 rfl) rfl <| gy rfl (bF hc6) <| tv (lb s58 0 rfl rfl rfl) rfl <| gy rfl (bF hc6) <| tv (ln u58 h12 rfl) rfl <| gy rfl (bF hc6) <| tv (bne rfl rfl) rfl <| tv (pF (bF hc6)) rfl <| nj J5 (bOf hc6)

/-! ### fettle/fettleref02.SameFunc -/
abbrev fettleref02_SameFunc.R (r : Bool) (v : Value) (A : List FP) : Prop := .bool r = v ∧ A = []
def fettleref02_SameFunc.nx26  : Option Bool :=
  some true
def fettleref02_SameFunc.bd26 (a1 : PFunc) (a6 : PFunc) (x14 : Int) : Option (Ex (Ex Bool Unit) Int) :=
  if x14 < (len a1.blocks) then
    (idx a1.blocks x14).bind fun x15 =>
    (idx a6.blocks x14).bind fun x27 =>
    (fettleref02_sameBlock x15 x27).bind fun x39 =>
    if (!x39) = true then
      some (.ret (.ret false))
    else
      some (.go (w64 (x14 + 1)))
  else
    some (.ret (.go ()))
def fettleref02_SameFunc (a1 : PFunc) (a6 : PFunc) : Option Bool :=
  (if (¬ a1.params = a6.params) ∨ (¬ a1.result = a6.result) then some true else (fettleref02_ints a1.regs a6.regs).bind fun x40 =>
  some (!x40)).bind fun t13 =>
  if t13 = true ∨ (¬ (len a1.blocks) = (len a6.blocks)) then
    some false
  else
    (whl (fun (s : Int) => fettleref02_SameFunc.bd26 a1 a6 s) FUEL 0).bind fun z =>
    match z with
      | .ret r => some r
      | .go p => fettleref02_SameFunc.nx26
set_option maxHeartbeats 4000000 in
theorem fettleref02_SameFunc_ok {E : World} {H : FP} {w : World} {a1 : PFunc} {a6 : PFunc} {v2 : Value} {v4 : Value} {v7 : Value} {v9 : Value} {r : Bool} (h3 : SlI (kInt .i64) H a1.regs v2) (h5 : SlI kBlock H a1.blocks v4) (h8 : SlI (kInt .i64) H a6.regs v7) (h10 : SlI kBlock H a6.blocks v9) (hp : fettleref02_SameFunc a1 a6 = some r) (hst : St E H [] w) :
    Fn Tryd.prog 43 #[.agg #[.int .i64 a1.params, .int .i64 a1.result, v2, v4], .agg #[.int .i64 a6.params, .int .i64 a6.result, v7, v9]] w fun v w' => ∃ A, fettleref02_SameFunc.R r v A ∧ St E H A w' := by
 refine fb 56 [.tmp 4] Tryd.func43 rfl rfl rfl rfl rfl hst <| sr <| tb [.int .i64 a1.params, .int .i64 a1.result, v2, v4] rfl rfl fun b11 => tb [.int .i64 a6.params, .int .i64 a6.result, v7, v9] rfl rfl fun b12 => ta rfl <| nz <| TC.seq fun K1 k2 => sr <| tv (fa f41_0 rfl) rfl <| tv (lb s3 1 rfl rfl rfl) rfl <| tv (fa f41_0 rfl) rfl <| tv (lb s3 0 rfl rfl rfl) rfl <| tv (bne rfl rfl) rfl <| tm rfl <| TL.cut 6 fun K3 k4 => ?_
 have J5 {e7} : ∀ w, St E H [bx b12 41 [.int .i64 a6.params, .int .i64 a6.result, v7, v9], bx b11 41 [.int .i64 a1.params, .int .i64 a1.result, v2, v4]] w → K3 (ovr e7 [(18, .bool (decide ((¬ a1.params = a6.params) ∨ (¬ a1.result = a6.result)))), (2, .pointer (some ⟨b11, 0, none⟩)), (3, .pointer (some ⟨b12, 0, none⟩))]) w := by
  refine tlg k4 <| tm rfl <| bE hp fun t13 ht43 hp => TL.cut 7 fun K8 k9 => ?_
  have J10 {e12} : ∀ w, St E H [bx b12 41 [.int .i64 a6.params, .int .i64 a6.result, v7, v9], bx b11 41 [.int .i64 a1.params, .int .i64 a1.result, v2, v4]] w → K8 (ovr e12 [(26, .bool t13), (2, .pointer (some ⟨b11, 0, none⟩)), (3, .pointer (some ⟨b12, 0, none⟩))]) w := by
   refine tlg k9 <| tm rfl <| TL.cut 8 fun K13 k14 => ?_
   have J15 {e17} : ∀ w, St E H [bx b12 41 [.int .i64 a6.params, .int .i64 a6.result, v7, v9], bx b11 41 [.int .i64 a1.params, .int .i64 a1.result, v2, v4]] w → K13 (ovr e17 [(35, .bool (decide (t13 = true ∨ (¬ (len a1.blocks) = (len a6.blocks))))), (2, .pointer (some ⟨b11, 0, none⟩)), (3, .pointer (some ⟨b12, 0, none⟩))]) w := by
    refine tlg k14 <| nz <| cD rfl hp (fun hc18 hp => ?_) fun hc18 hp => ?_
    · exact sr <| ta rfl <| nz <| TC.ret <| rt hp [] ⟨rfl, rfl⟩
    · refine sk k2 rfl <| TC.seq fun K19 k20 => sr <| ta rfl <| nz <| TC.block <| bE hp fun z_22 hz23 hr24 => ?_
      have J28 {e27} (hq29 : .go () = z_22) : ∀ w, St E H [] w → K19 (ovr e27 []) w := by
       subst hq29
       replace hp : fettleref02_SameFunc.nx26 = some r := hr24
       exact tg k20 <| sr <| ta rfl <| nz <| TC.ret <| rt hp [] ⟨rfl, rfl⟩
      refine lp hz23 [1, 0] rfl (fun s e L => ∃ e21, e = ovr e21 [(2, .pointer (some ⟨b11, 0, none⟩)), (3, .pointer (some ⟨b12, 0, none⟩)), (5, .int .i64 s)] ∧ L = [bx b11 41 [.int .i64 a1.params, .int .i64 a1.result, v2, v4], bx b12 41 [.int .i64 a6.params, .int .i64 a6.result, v7, v9]]) ⟨_, ovr_eq _ _ rfl, rfl⟩ ?_
      rintro x14 _ _ ⟨e21, rfl, rfl⟩ X25 hp hx26
      replace hp : fettleref02_SameFunc.bd26 a1 a6 x14 = some X25 := hp
      refine TC.seq fun K30 k31 => sr <| tm rfl <| tv (fa f41_3 rfl) rfl <| tv (lb s39 0 rfl rfl rfl) rfl <| tv (ln u39 h5 rfl) rfl <| tv (blt rfl rfl) rfl <| nz <| cD rfl hp (fun hc32 hp => ?_) fun hc32 hp => ?_
      · refine sk k31 rfl <| TC.seq fun K33 k34 => TC.block <| TC.seq fun K35 k36 => cq mix (by kernel_rfl) <| qv (fa f41_3 rfl) rfl <| qv (lb s39 0 rfl rfl rfl) rfl <| qv mv rfl <| qi u39 i60 h5 hp rfl rfl rfl rfl ?_
        rintro x15 b16 o17 _ hp ⟨v21, v23, v25, rfl, h22, h24, h26⟩ h20
        refine qv (lR (ds := [v21, v23, .int .i64 x15.term.kind, .int .i64 x15.term.arg, v25]) ag_60 sH h20 0 rfl rfl rfl) rfl <| qv (fa f41_3 rfl) rfl <| qv (lb s39 1 rfl rfl rfl) rfl <| qv mv rfl <| qi u39 i60 h10 hp rfl rfl rfl rfl ?_
        rintro x27 b28 o29 _ hp ⟨v33, v35, v37, rfl, h34, h36, h38⟩ h32
        refine qv (lR (ds := [v33, v35, .int .i64 x27.term.kind, .int .i64 x27.term.arg, v37]) ag_60 sH h32 0 rfl rfl rfl) rfl <| bE hp fun x39 hy39 hp => qc (.bool x39) c63 (fun _ => fettleref02_sameBlock_ok (a1 := x15) (a8 := x27) (h22.mono subH) (h24.mono subH) (h26.mono subH) (h34.mono subH) (h36.mono subH) (h38.mono subH) hy39) (fun _ _ h => ⟨h.1.symm, h.2⟩) rfl <| qv sg rfl <| QL.nil <| tg k36 <| sr <| tm rfl <| tv (rv_not rfl) rfl <| nz <| cB rfl hp (fun hc40 hp => ?_) fun hc40 hp => ?_
        · refine sr <| ta rfl <| nz <| TC.ret ?_
          obtain rfl := ex_ret hp hx26
          exact rt hr24 [] ⟨rfl, rfl⟩
        · exact sk k34 rfl <| TC.region <| tm rfl <| tv (bad rfl rfl) rfl <| ta rfl <| nl <| gk hp [0, 1] ⟨_, ovr_eq _ _ rfl, rfl⟩
      · exact TC.exit <| jn [] (J28 (ex_ret hp hx26))
   by_cases hc16 : t13 = true
   · exact gn rfl (bbT hc16) rfl rfl <| gn rfl (bbT hc16) rfl rfl <| gn rfl (bbT hc16) rfl rfl <| gn rfl (bbT hc16) rfl rfl <| gn rfl (bbT hc16) rfl rfl <| gn rfl (bbT hc16) rfl rfl <| gn rfl (bbT hc16) rfl rfl <| tv (pT (bbT hc16)) rfl <| nj J15 (bOt hc16)
   · exact gy rfl (bbF hc16) <| tv (fa f41_3 rfl) rfl <| gy rfl (bbF hc16) <| tv (lb s39 1 rfl rfl rfl) rfl <| gy rfl (bbF hc16) <| tv (ln u39 h5 rfl) rfl <| gy rfl (bbF hc16) <| tv (fa f41_3 rfl) rfl <| gy rfl (bbF hc16) <| tv (lb s39 0 rfl rfl rfl) rfl <| gy rfl (bbF hc16) <| tv (ln u39 h10 rfl) rfl <| gy rfl (bbF hc16) <| tv (bne rfl rfl) rfl <| tv (pF (bbF hc16)) rfl <| nj J15 (bOf hc16)
  refine ifE ht43 (fun hc11 hp => ?_) fun hc11 hp => ?_
  · refine gn rfl (bT hc11) rfl rfl <| gn rfl (bT hc11) rfl rfl <| gn rfl (bT hc11) rfl rfl <| gn rfl (bT hc11) rfl rfl <| gn rfl (bT hc11) rfl rfl <| gn rfl (bT hc11) rfl rfl <| tv (pT (bT hc11)) rfl ?_
    obtain rfl := Option.some.inj hp
    exact nj J10 rfl
  · refine gy rfl (bF hc11) <| tv (fa f41_2 rfl) rfl <| gy rfl (bF hc11) <| tv (lb s32 1 rfl rfl rfl) rfl <| gy rfl (bF hc11) <| tv (fa f41_2 rfl) rfl <| gy rfl (bF hc11) <| tv (lb s32 0 rfl rfl rfl) rfl <| gy rfl (bF hc11) <| bE hp fun x40 hy44 hp => tc 0 [_,_] rfl c62 (fun _ => fettleref02_ints_ok (a1 := a1.regs) (a4 := a6.regs) (h3.mono subH) (h8.mono subH) hy44) rfl ?_
    rintro _ _ ⟨rfl, rfl⟩
    refine gy rfl (bF hc11) <| tv (rv_not rfl) rfl <| tv (pF (bF hc11)) rfl ?_
    obtain rfl := Option.some.inj hp
    exact nj J10 rfl
 by_cases hc6 : ¬ a1.params = a6.params
 · exact gn rfl (bT hc6) rfl rfl <| gn rfl (bT hc6) rfl rfl <| gn rfl (bT hc6) rfl rfl <| gn rfl (bT hc6) rfl rfl <| gn rfl (bT hc6) rfl rfl <| tv (pT (bT hc6)) rfl <| nj J5 (bOt hc6)
 · exact gy rfl (bF hc6) <| tv (fa f41_1 rfl) rfl <| gy rfl (bF hc6) <| tv (lb s3 1 rfl rfl rfl) rfl <| gy rfl (bF hc6) <| tv (fa f41_1 rfl) rfl <| gy rfl (bF hc6) <| tv (lb s3 0 rfl rfl rfl) rfl <| gy rfl (bF hc6) <| tv (bne rfl rfl) rfl <| tv (pF (bF hc6)) rfl <| nj J5 (bOf hc6)

/-! ### fettle/fettleref02.Same -/
abbrev fettleref02_Same.R (r : Bool) (v : Value) (A : List FP) : Prop := .bool r = v ∧ A = []
def fettleref02_Same.nx11  : Option Bool :=
  some true
def fettleref02_Same.bd11 (a1 : PModule) (a4 : PModule) (x9 : Int) : Option (Ex (Ex Bool Unit) Int) :=
  if x9 < (len a1.funcs) then
    (idx a1.funcs x9).bind fun x10 =>
    (idx a4.funcs x9).bind fun x20 =>
    (fettleref02_SameFunc x10 x20).bind fun x30 =>
    if (!x30) = true then
      some (.ret (.ret false))
    else
      some (.go (w64 (x9 + 1)))
  else
    some (.ret (.go ()))
def fettleref02_Same (a1 : PModule) (a4 : PModule) : Option Bool :=
  if ¬ (len a1.funcs) = (len a4.funcs) then
    some false
  else
    (whl (fun (s : Int) => fettleref02_Same.bd11 a1 a4 s) FUEL 0).bind fun z =>
    match z with
      | .ret r => some r
      | .go p => fettleref02_Same.nx11
theorem fettleref02_Same_ok {E : World} {H : FP} {w : World} {a1 : PModule} {a4 : PModule} {v2 : Value} {v5 : Value} {r : Bool} (h3 : SlI kFunc H a1.funcs v2) (h6 : SlI kFunc H a4.funcs v5) (hp : fettleref02_Same a1 a4 = some r) (hst : St E H [] w) :
    Fn Tryd.prog 18 #[.agg #[v2], .agg #[v5]] w fun v w' => ∃ A, fettleref02_Same.R r v A ∧ St E H A w' := by
 refine fb 34 [.tmp 4] Tryd.func18 rfl rfl rfl rfl rfl hst <| sr <| tb [v2] rfl rfl fun b7 => tb [v5] rfl rfl fun b8 => ta rfl <| nz <| TC.seq fun K1 k2 => sr <| tv (fa f24_0 rfl) rfl <| tv (lb s22 1 rfl rfl rfl) rfl <| tv (ln u22 h3 rfl) rfl <| tv (fa f24_0 rfl) rfl <| tv (lb s22 0 rfl rfl rfl) rfl <| tv (ln u22 h6 rfl) rfl <| tv (bne rfl rfl) rfl <| nz <| cD rfl hp (fun hc3 hp => ?_) fun hc3 hp => ?_
 · exact sr <| ta rfl <| nz <| TC.ret <| rt hp [] ⟨rfl, rfl⟩
 · refine sk k2 rfl <| TC.seq fun K4 k5 => sr <| ta rfl <| nz <| TC.block <| bE hp fun z_7 hz8 hr9 => ?_
   have J13 {e12} (hq14 : .go () = z_7) : ∀ w, St E H [] w → K4 (ovr e12 []) w := by
    subst hq14
    replace hp : fettleref02_Same.nx11 = some r := hr9
    exact tg k5 <| sr <| ta rfl <| nz <| TC.ret <| rt hp [] ⟨rfl, rfl⟩
   refine lp hz8 [1, 0] rfl (fun s e L => ∃ e6, e = ovr e6 [(2, .pointer (some ⟨b7, 0, none⟩)), (3, .pointer (some ⟨b8, 0, none⟩)), (5, .int .i64 s)] ∧ L = [bx b7 24 [v2], bx b8 24 [v5]]) ⟨_, ovr_eq _ _ rfl, rfl⟩ ?_
   rintro x9 _ _ ⟨e6, rfl, rfl⟩ X10 hp hx11
   replace hp : fettleref02_Same.bd11 a1 a4 x9 = some X10 := hp
   refine TC.seq fun K15 k16 => sr <| tm rfl <| tv (fa f24_0 rfl) rfl <| tv (lb s22 0 rfl rfl rfl) rfl <| tv (ln u22 h3 rfl) rfl <| tv (blt rfl rfl) rfl <| nz <| cD rfl hp (fun hc17 hp => ?_) fun hc17 hp => ?_
   · refine sk k16 rfl <| TC.seq fun K18 k19 => TC.block <| TC.seq fun K20 k21 => cq mix (by kernel_rfl) <| qv (fa f24_0 rfl) rfl <| qv (lb s22 0 rfl rfl rfl) rfl <| qv mv rfl <| qi u22 i41 h3 hp rfl rfl rfl rfl ?_
     rintro x10 b11 o12 _ hp ⟨v16, v18, rfl, h17, h19⟩ h15
     refine qv (lR (ds := [.int .i64 x10.params, .int .i64 x10.result, v16, v18]) ag_41 sH h15 0 rfl rfl rfl) rfl <| qv (fa f24_0 rfl) rfl <| qv (lb s22 1 rfl rfl rfl) rfl <| qv mv rfl <| qi u22 i41 h6 hp rfl rfl rfl rfl ?_
     rintro x20 b21 o22 _ hp ⟨v26, v28, rfl, h27, h29⟩ h25
     refine qv (lR (ds := [.int .i64 x20.params, .int .i64 x20.result, v26, v28]) ag_41 sH h25 0 rfl rfl rfl) rfl <| bE hp fun x30 hy24 hp => qc (.bool x30) c43 (fun _ => fettleref02_SameFunc_ok (a1 := x10) (a6 := x20) (h17.mono subH) (h19.mono subH) (h27.mono subH) (h29.mono subH) hy24) (fun _ _ h => ⟨h.1.symm, h.2⟩) rfl <| qv sg rfl <| QL.nil <| tg k21 <| sr <| tm rfl <| tv (rv_not rfl) rfl <| nz <| cB rfl hp (fun hc25 hp => ?_) fun hc25 hp => ?_
     · refine sr <| ta rfl <| nz <| TC.ret ?_
       obtain rfl := ex_ret hp hx11
       exact rt hr9 [] ⟨rfl, rfl⟩
     · exact sk k19 rfl <| TC.region <| tm rfl <| tv (bad rfl rfl) rfl <| ta rfl <| nl <| gk hp [0, 1] ⟨_, ovr_eq _ _ rfl, rfl⟩
   · exact TC.exit <| jn [] (J13 (ex_ret hp hx11))

/-! ### fettle/proper.Makers -/
abbrev proper_Makers.R (r : List PMaker) (v : Value) (A : List FP) : Prop := ∃ (w1 : Value) (G1 : FP), w1 = v ∧ A = [G1] ∧ SlO 54 kMaker r w1 G1
def proper_Makers (a1 : PFunc) : Option (List PMaker) :=
  (proper_made a1).bind fun x7 =>
  some x7.1
theorem proper_Makers_ok {E : World} {H : FP} {w : World} {a1 : PFunc} {v2 : Value} {v4 : Value} {r : List PMaker} (h3 : SlI (kInt .i64) H a1.regs v2) (h5 : SlI kBlock H a1.blocks v4) (hp : proper_Makers a1 = some r) (hst : St E H [] w) :
    Fn Tryd.prog 19 #[.agg #[.int .i64 a1.params, .int .i64 a1.result, v2, v4]] w fun v w' => ∃ A, proper_Makers.R r v A ∧ St E H A w' := by
 refine fb 11 [.tmp 2] Tryd.func19 rfl rfl rfl rfl rfl hst <| sr <| tb [.int .i64 a1.params, .int .i64 a1.result, v2, v4] rfl rfl fun b6 => ta rfl <| nz <| sr <| tv (lA (ds := [.int .i64 a1.params, .int .i64 a1.result, v2, v4]) ag_41 0 rfl rfl rfl rfl) rfl <| bE hp fun x7 hy1 hp => tc 0 [_] rfl c35 (fun _ => proper_made_ok (a1 := a1) (h3.mono subH) (h5.mono subH) hy1) rfl ?_
 rintro _ _ ⟨v8, F9, v11, F12, rfl, rfl, h10, h13⟩
 exact tm rfl <| tv (xt rfl rfl) rfl <| tv (xt rfl rfl) rfl <| ta rfl <| ta rfl <| nz <| sr <| tm rfl <| ta rfl <| nz <| TC.ret <| rt hp [0] ⟨v8, F9, rfl, rfl, h10⟩

/-! ### fettle/fettlelaw13.ProperStays -/
abbrev fettlelaw13_ProperStays.R (r : Bool) (v : Value) (A : List FP) : Prop := .bool r = v ∧ A = []
def fettlelaw13_ProperStays.nx66 (a1 : PModule) (x6 : Bool) (x8 : PModule) (x21 : Int × Int) (x22 : Int × Int) (x35 : List PMaker) (x53 : List PMaker) : Option Bool :=
  (if ((x6 = true ∧ x21.1 = x22.1) ∧ x21.2 = x22.2) ∧ (len x53) = (len x35) then (fettleref02_Same x8 a1).bind fun x59 =>
  some x59 else some false).bind fun t58 =>
  some t58
def fettlelaw13_ProperStays.bd66 (x53 : List PMaker) (x57 : Int) : Option (Ex (Ex Bool Unit) Int) :=
  if x57 < (len x53) then
    (idx x53 x57).bind fun x60 =>
    if x60.block = 99 then
      some (.ret (.ret false))
    else
      some (.go (w64 (x57 + 1)))
  else
    some (.ret (.go ()))
def fettlelaw13_ProperStays.nx54 (a1 : PModule) (a4 : Int) (x6 : Bool) (x8 : PModule) (x21 : Int × Int) (x22 : Int × Int) (x35 : List PMaker) : Option Bool :=
  (idx x8.funcs a4).bind fun x43 =>
  (proper_Makers x43).bind fun x53 =>
  (whl (fun (s : Int) => fettlelaw13_ProperStays.bd66 x53 s) FUEL 0).bind fun z =>
  match z with
    | .ret r => some r
    | .go p => fettlelaw13_ProperStays.nx66 a1 x6 x8 x21 x22 x35 x53
def fettlelaw13_ProperStays.bd54  (x39 : List PMaker) (x42 : Int) : Option (Ex Unit (List PMaker × Int)) :=
  if x42 < (len x39) then
    (idx x39 x42).bind fun x66 =>
    some (.go ((x39.set (x42).toNat (⟨99, 99⟩ : PMaker)), (w64 (x42 + 1))))
  else
    some (.ret ())
def fettlelaw13_ProperStays (a1 : PModule) (a4 : Int) : Option Bool :=
  (fettlelaw13_up).bind fun x6 =>
  (fettleref02_Small a1).bind fun x7 =>
  if (!x7) = true then
    some x6
  else
    (fettleref02_Copy a1).bind fun x8 =>
    (proper_Form x8 a4).bind fun x13 =>
    (proper_Form a1 a4).bind fun x17 =>
    (fettlelaw00_Of x13).bind fun x21 =>
    (fettlelaw00_Of x17).bind fun x22 =>
    if a4 < 0 ∨ a4 ≥ (len a1.funcs) then
      (if (x6 = true ∧ x21.1 = x22.1) ∧ x21.2 = x22.2 then (fettleref02_Same x8 a1).bind fun x24 =>
      some x24 else some false).bind fun t23 =>
      some t23
    else
      (idx x8.funcs a4).bind fun x25 =>
      (proper_Makers x25).bind fun x35 =>
      (whl (fun (s : (List PMaker × Int)) => fettlelaw13_ProperStays.bd54 s.1 s.2) FUEL (x35, 0)).bind fun z =>
      fettlelaw13_ProperStays.nx54 a1 a4 x6 x8 x21 x22 x35
set_option maxHeartbeats 4000000 in
theorem fettlelaw13_ProperStays_ok {E : World} {H : FP} {w : World} {a1 : PModule} {a4 : Int} {v2 : Value} {r : Bool} (hG : GV H) (h3 : SlI kFunc H a1.funcs v2) (hp : fettlelaw13_ProperStays a1 a4 = some r) (hst : St E H [] w) :
    Fn Tryd.prog 5 #[.agg #[v2], .int .i64 a4] w fun v w' => ∃ A, fettlelaw13_ProperStays.R r v A ∧ St E H A w' := by
 refine fb 125 [.tmp 4] Tryd.func5 rfl rfl rfl rfl rfl hst <| sr <| tb [v2] rfl rfl fun b5 => ta rfl <| nz <| sr <| bE hp fun x6 hy1 hp => tc 0 [_] rfl c14 (fun _ => fettlelaw13_up_ok hy1) rfl ?_
 rintro _ _ ⟨rfl, rfl⟩
 refine ta rfl <| nz <| sr <| tv (lA (ds := [v2]) ag_24 0 rfl rfl rfl rfl) rfl <| bE hp fun x7 hy3 hp => tc 0 [_] rfl c7 (fun _ => fettleref02_Small_ok (a1 := a1) (h3.mono subH) hy3) rfl ?_
 rintro _ _ ⟨rfl, rfl⟩
 refine ta rfl <| nz <| TC.seq fun K5 k6 => sr <| tm rfl <| tv (rv_not rfl) rfl <| nz <| cB rfl hp (fun hc7 hp => ?_) fun hc7 hp => ?_
 · exact sr <| tm rfl <| ta rfl <| nz <| TC.ret <| rt hp [] ⟨rfl, rfl⟩
 · refine sk k6 rfl <| sr <| tv (lA (ds := [v2]) ag_24 0 rfl rfl rfl rfl) rfl <| bE hp fun x8 hy8 hp => tc 0 [_] rfl c17 (fun _ => fettleref02_Copy_ok (a1 := a1) (h3.mono subH) hy8) rfl ?_
   rintro _ _ ⟨v9, F10, rfl, rfl, h11⟩
   refine tl i24 rfl fun b12 => tS 0 m24 rfl rfl [v9] rfl (oc (h11).one oc0) rfl rfl <| nz <| sr <| tv (lA (ds := [v9]) ag_24 0 rfl rfl rfl rfl) rfl <| tm rfl <| bE hp fun x13 hy10 hp => tc 0 [_,_,_] rfl c15 (fun _ => proper_Form_ok (a1 := x8) (a4 := a4) (h11.ro.mono (subB 1 rfl)) hy10) rfl ?_
   rintro _ _ ⟨v14, F15, rfl, rfl, h16⟩
   refine ta rfl <| nz <| sr <| tv (lA (ds := [v2]) ag_24 3 rfl rfl rfl rfl) rfl <| tm rfl <| bE hp fun x17 hy12 hp => tc 0 [_,_,_,_] rfl c15 (fun _ => proper_Form_ok (a1 := a1) (a4 := a4) (h3.mono subH) hy12) rfl ?_
   rintro _ _ ⟨v18, F19, rfl, rfl, h20⟩
   refine ta rfl <| nz <| sr <| tm rfl <| bE hp fun x21 hy14 hp => tc 0 [_,_,_,_,_] rfl c10 (fun _ => fettlelaw00_Of_ok (x := x13) (hG.more _) (subB 1 rfl) h16 hy14) rfl ?_
   rintro _ _ ⟨rfl, rfl⟩
   refine tm rfl <| tv (xt rfl rfl) rfl <| tv (xt rfl rfl) rfl <| ta rfl <| ta rfl <| nz <| sr <| tm rfl <| bE hp fun x22 hy16 hp => tc 0 [_,_,_,_,_] rfl c10 (fun _ => fettlelaw00_Of_ok (x := x17) (hG.more _) (subB 0 rfl) h20 hy16) rfl ?_
   rintro _ _ ⟨rfl, rfl⟩
   refine tm rfl <| tv (xt rfl rfl) rfl <| tv (xt rfl rfl) rfl <| ta rfl <| ta rfl <| nz <| TC.seq fun K18 k19 => sr <| tm rfl <| tv (blt rfl rfl) rfl <| tm rfl <| TL.cut 6 fun K20 k21 => ?_
   have J22 {e24} : ∀ w, St E H [F19, F15, bx b12 24 [v9], F10, bx b5 24 [v2]] w → K20 (ovr e24 [(50, .bool (decide (a4 < 0 ∨ a4 ≥ (len a1.funcs)))), (1, .int .i64 a4), (2, .pointer (some ⟨b5, 0, none⟩)), (5, .bool x6), (7, .pointer (some ⟨b12, 0, none⟩)), (10, .int .i64 x21.1), (11, .int .i64 x21.2), (12, .int .i64 x22.1), (13, .int .i64 x22.2)]) w := by
    refine tlg k21 <| nz <| cD rfl hp (fun hc25 hp => ?_) fun hc25 hp => ?_
    · refine sr <| tm rfl <| tm rfl <| TL.cut 4 fun K26 k27 => ?_
      have J28 {e30} : ∀ w, St E H [F19, F15, bx b12 24 [v9], F10, bx b5 24 [v2]] w → K26 (ovr e30 [(56, .bool (decide (x6 = true ∧ x21.1 = x22.1))), (2, .pointer (some ⟨b5, 0, none⟩)), (7, .pointer (some ⟨b12, 0, none⟩)), (11, .int .i64 x21.2), (13, .int .i64 x22.2)]) w := by
       refine tlg k27 <| tm rfl <| TL.cut 4 fun K31 k32 => ?_
       have J33 {e35} : ∀ w, St E H [F19, F15, bx b12 24 [v9], F10, bx b5 24 [v2]] w → K31 (ovr e35 [(61, .bool (decide ((x6 = true ∧ x21.1 = x22.1) ∧ x21.2 = x22.2))), (2, .pointer (some ⟨b5, 0, none⟩)), (7, .pointer (some ⟨b12, 0, none⟩))]) w := by
        refine tlg k32 <| tm rfl <| bE hp fun t23 ht41 hp => TL.cut 4 fun K36 k37 => ?_
        have J38 {e40} : ∀ w, St E H [F19, F15, bx b12 24 [v9], F10, bx b5 24 [v2]] w → K36 (ovr e40 [(66, .bool t23)]) w := by
         exact tlg k37 <| ta rfl <| nz <| TC.ret <| rt hp [] ⟨rfl, rfl⟩
        refine ifE ht41 (fun hc39 hp => ?_) fun hc39 hp => ?_
        · refine gy rfl (bT hc39) <| tv (lA (ds := [v9]) ag_24 2 rfl rfl rfl rfl) rfl <| gy rfl (bT hc39) <| tv (lA (ds := [v2]) ag_24 4 rfl rfl rfl rfl) rfl <| gy rfl (bT hc39) <| bE hp fun x24 hy42 hp => tc 0 [_,_,_,_,_] rfl c18 (fun _ => fettleref02_Same_ok (a1 := x8) (a4 := a1) (h11.ro.mono (subB 3 rfl)) (h3.mono subH) hy42) rfl ?_
          rintro _ _ ⟨rfl, rfl⟩
          refine tv (pT (bT hc39)) rfl ?_
          obtain rfl := Option.some.inj hp
          exact nj J38 rfl
        · refine gn rfl (bF hc39) rfl rfl <| gn rfl (bF hc39) rfl rfl <| gn rfl (bF hc39) rfl rfl <| tv (pF (bF hc39)) rfl ?_
          obtain rfl := Option.some.inj hp
          exact nj J38 rfl
       by_cases hc34 : x6 = true ∧ x21.1 = x22.1
       · exact gy rfl (bT hc34) <| tm rfl <| gy rfl (bT hc34) <| tm rfl <| gy rfl (bT hc34) <| tv (beq rfl rfl) rfl <| tv (pT (bT hc34)) rfl <| nj J33 (bAt hc34)
       · exact gn rfl (bF hc34) rfl rfl <| gn rfl (bF hc34) rfl rfl <| gn rfl (bF hc34) rfl rfl <| tv (pF (bF hc34)) rfl <| nj J33 (bAf hc34)
      by_cases hc29 : x6 = true
      · exact gy rfl (bbT hc29) <| tm rfl <| gy rfl (bbT hc29) <| tm rfl <| gy rfl (bbT hc29) <| tv (beq rfl rfl) rfl <| tv (pT (bbT hc29)) rfl <| nj J28 (bAt hc29)
      · exact gn rfl (bbF hc29) rfl rfl <| gn rfl (bbF hc29) rfl rfl <| gn rfl (bbF hc29) rfl rfl <| tv (pF (bbF hc29)) rfl <| nj J28 (bAf hc29)
    · refine sk k19 rfl <| sr <| tv (fa f24_0 rfl) rfl <| tv (lb s22 2 rfl rfl rfl) rfl <| tm rfl <| ti u22 i41 (h11).ro hp rfl rfl rfl rfl ?_
      rintro x25 b26 o27 _ hp ⟨v31, v33, rfl, h32, h34⟩ h30
      refine tv (lR (ds := [.int .i64 x25.params, .int .i64 x25.result, v31, v33]) ag_41 (Src.at_ 3 rfl) h30 0 rfl rfl rfl) rfl <| bE hp fun x35 hy45 hp => tc 0 [_,_,_,_,_] rfl c19 (fun _ => proper_Makers_ok (a1 := x25) (h32.mono (subB 3 rfl)) (h34.mono (subB 3 rfl)) hy45) rfl ?_
      rintro _ _ ⟨v36, F37, rfl, rfl, h38⟩
      refine ta rfl <| nz <| sr <| tm rfl <| tv (ln u51 h38.ro rfl) rfl <| ta rfl <| nz <| TC.seq fun K47 k48 => sr <| ta rfl <| nz <| TC.block <| bE hp fun z_50 hz51 hr52 => ?_
      have J102 {e55} (hq103 : () = z_50) : ∀ w, St E H [bx b5 24 [v2], bx b12 24 [v9], F10] w → K47 (ovr e55 [(1, .int .i64 a4), (2, .pointer (some ⟨b5, 0, none⟩)), (5, .bool x6), (7, .pointer (some ⟨b12, 0, none⟩)), (10, .int .i64 x21.1), (11, .int .i64 x21.2), (12, .int .i64 x22.1), (13, .int .i64 x22.2), (15, .int .i64 (len x35))]) w := by
       subst hq103
       replace hp : fettlelaw13_ProperStays.nx54 a1 a4 x6 x8 x21 x22 x35 = some r := hr52
       refine tg k48 <| sr <| tv (fa f24_0 rfl) rfl <| tv (lb s22 1 rfl rfl rfl) rfl <| tm rfl <| ti u22 i41 (h11).ro hp rfl rfl rfl rfl ?_
       rintro x43 b44 o45 _ hp ⟨v49, v51, rfl, h50, h52⟩ h48
       refine tv (lR (ds := [.int .i64 x43.params, .int .i64 x43.result, v49, v51]) ag_41 (Src.at_ 2 rfl) h48 0 rfl rfl rfl) rfl <| bE hp fun x53 hy57 hp => tc 0 [_,_,_] rfl c19 (fun _ => proper_Makers_ok (a1 := x43) (h50.mono (subB 2 rfl)) (h52.mono (subB 2 rfl)) hy57) rfl ?_
       rintro _ _ ⟨v54, F55, rfl, rfl, h56⟩
       refine ta rfl <| nz <| TC.seq fun K59 k60 => sr <| ta rfl <| nz <| TC.block <| bE hp fun z_62 hz63 hr64 => ?_
       have J91 {e67} (hq92 : .go () = z_62) : ∀ w, St E H [bx b5 24 [v2], bx b12 24 [v9], F10, F55] w → K59 (ovr e67 [(2, .pointer (some ⟨b5, 0, none⟩)), (5, .bool x6), (7, .pointer (some ⟨b12, 0, none⟩)), (10, .int .i64 x21.1), (11, .int .i64 x21.2), (12, .int .i64 x22.1), (13, .int .i64 x22.2), (14, v54), (15, .int .i64 (len x35))]) w := by
        subst hq92
        replace hp : fettlelaw13_ProperStays.nx66 a1 x6 x8 x21 x22 x35 x53 = some r := hr64
        refine tg k60 <| sr <| tm rfl <| tm rfl <| TL.cut 4 fun K68 k69 => ?_
        have J70 {e72} : ∀ w, St E H [bx b5 24 [v2], bx b12 24 [v9], F10, F55] w → K68 (ovr e72 [(108, .bool (decide (x6 = true ∧ x21.1 = x22.1))), (2, .pointer (some ⟨b5, 0, none⟩)), (7, .pointer (some ⟨b12, 0, none⟩)), (11, .int .i64 x21.2), (13, .int .i64 x22.2), (14, v54), (15, .int .i64 (len x35))]) w := by
         refine tlg k69 <| tm rfl <| TL.cut 4 fun K73 k74 => ?_
         have J75 {e77} : ∀ w, St E H [bx b5 24 [v2], bx b12 24 [v9], F10, F55] w → K73 (ovr e77 [(113, .bool (decide ((x6 = true ∧ x21.1 = x22.1) ∧ x21.2 = x22.2))), (2, .pointer (some ⟨b5, 0, none⟩)), (7, .pointer (some ⟨b12, 0, none⟩)), (14, v54), (15, .int .i64 (len x35))]) w := by
          refine tlg k74 <| tm rfl <| TL.cut 5 fun K78 k79 => ?_
          have J80 {e82} : ∀ w, St E H [bx b5 24 [v2], bx b12 24 [v9], F10, F55] w → K78 (ovr e82 [(119, .bool (decide (((x6 = true ∧ x21.1 = x22.1) ∧ x21.2 = x22.2) ∧ (len x53) = (len x35)))), (2, .pointer (some ⟨b5, 0, none⟩)), (7, .pointer (some ⟨b12, 0, none⟩))]) w := by
           refine tlg k79 <| tm rfl <| bE hp fun t58 ht88 hp => TL.cut 4 fun K83 k84 => ?_
           have J85 {e87} : ∀ w, St E H [bx b5 24 [v2], bx b12 24 [v9], F10, F55] w → K83 (ovr e87 [(124, .bool t58)]) w := by
            exact tlg k84 <| ta rfl <| nz <| TC.ret <| rt hp [] ⟨rfl, rfl⟩
           refine ifE ht88 (fun hc86 hp => ?_) fun hc86 hp => ?_
           · refine gy rfl (bT hc86) <| tv (lA (ds := [v9]) ag_24 1 rfl rfl rfl rfl) rfl <| gy rfl (bT hc86) <| tv (lA (ds := [v2]) ag_24 0 rfl rfl rfl rfl) rfl <| gy rfl (bT hc86) <| bE hp fun x59 hy89 hp => tc 0 [_,_,_,_] rfl c18 (fun _ => fettleref02_Same_ok (a1 := x8) (a4 := a1) (h11.ro.mono (subB 2 rfl)) (h3.mono subH) hy89) rfl ?_
             rintro _ _ ⟨rfl, rfl⟩
             refine tv (pT (bT hc86)) rfl ?_
             obtain rfl := Option.some.inj hp
             exact nj J85 rfl
           · refine gn rfl (bF hc86) rfl rfl <| gn rfl (bF hc86) rfl rfl <| gn rfl (bF hc86) rfl rfl <| tv (pF (bF hc86)) rfl ?_
             obtain rfl := Option.some.inj hp
             exact nj J85 rfl
          by_cases hc81 : (x6 = true ∧ x21.1 = x22.1) ∧ x21.2 = x22.2
          · exact gy rfl (bT hc81) <| tm rfl <| gy rfl (bT hc81) <| tv (ln u51 h56.ro rfl) rfl <| gy rfl (bT hc81) <| tm rfl <| gy rfl (bT hc81) <| tv (beq rfl rfl) rfl <| tv (pT (bT hc81)) rfl <| nj J80 (bAt hc81)
          · exact gn rfl (bF hc81) rfl rfl <| gn rfl (bF hc81) rfl rfl <| gn rfl (bF hc81) rfl rfl <| gn rfl (bF hc81) rfl rfl <| tv (pF (bF hc81)) rfl <| nj J80 (bAf hc81)
         by_cases hc76 : x6 = true ∧ x21.1 = x22.1
         · exact gy rfl (bT hc76) <| tm rfl <| gy rfl (bT hc76) <| tm rfl <| gy rfl (bT hc76) <| tv (beq rfl rfl) rfl <| tv (pT (bT hc76)) rfl <| nj J75 (bAt hc76)
         · exact gn rfl (bF hc76) rfl rfl <| gn rfl (bF hc76) rfl rfl <| gn rfl (bF hc76) rfl rfl <| tv (pF (bF hc76)) rfl <| nj J75 (bAf hc76)
        by_cases hc71 : x6 = true
        · exact gy rfl (bbT hc71) <| tm rfl <| gy rfl (bbT hc71) <| tm rfl <| gy rfl (bbT hc71) <| tv (beq rfl rfl) rfl <| tv (pT (bbT hc71)) rfl <| nj J70 (bAt hc71)
        · exact gn rfl (bbF hc71) rfl rfl <| gn rfl (bbF hc71) rfl rfl <| gn rfl (bbF hc71) rfl rfl <| tv (pF (bbF hc71)) rfl <| nj J70 (bAf hc71)
       refine lp hz63 [1, 2, 3, 0] rfl (fun s e L => ∃ e61, e = ovr e61 [(2, .pointer (some ⟨b5, 0, none⟩)), (5, .bool x6), (7, .pointer (some ⟨b12, 0, none⟩)), (10, .int .i64 x21.1), (11, .int .i64 x21.2), (12, .int .i64 x22.1), (13, .int .i64 x22.2), (14, v54), (15, .int .i64 (len x35)), (17, .int .i64 s)] ∧ L = [bx b5 24 [v2], bx b12 24 [v9], F10, F55]) ⟨_, ovr_eq _ _ rfl, rfl⟩ ?_
       rintro x57 _ _ ⟨e61, rfl, rfl⟩ X65 hp hx66
       replace hp : fettlelaw13_ProperStays.bd66 x53 x57 = some X65 := hp
       refine TC.seq fun K93 k94 => sr <| tm rfl <| tm rfl <| tv (ln u51 h56.ro rfl) rfl <| tv (blt rfl rfl) rfl <| nz <| cD rfl hp (fun hc95 hp => ?_) fun hc95 hp => ?_
       · refine sk k94 rfl <| TC.seq fun K96 k97 => TC.block <| sr <| tm rfl <| tm rfl <| ti u51 i54 (h56).ro hp rfl rfl rfl rfl ?_
         rintro x60 b61 o62 _ hp rfl h65
         refine tv (fa f54_0 rfl) rfl <| tv (lr s3 (Src.at_ 3 rfl) h65 0 rfl rfl) rfl <| tv (beq rfl rfl) rfl <| nz <| cD rfl hp (fun hc99 hp => ?_) fun hc99 hp => ?_
         · refine sr <| ta rfl <| nz <| TC.ret ?_
           obtain rfl := ex_ret hp hx66
           exact rt hr64 [] ⟨rfl, rfl⟩
         · exact sk k97 rfl <| TC.region <| tm rfl <| tv (bad rfl rfl) rfl <| ta rfl <| nl <| gk hp [0, 1, 2, 3] ⟨_, ovr_eq _ _ rfl, rfl⟩
       · exact TC.exit <| jn [0, 1, 2, 3] (J91 (ex_ret hp hx66))
      refine lp hz51 [5, 3, 4, 0] rfl (fun s e L => ∃ x39 x42 F40 e49, s = (x39, x42) ∧ SlO 54 kMaker x39 v36 F40 ∧ e = ovr e49 [(1, .int .i64 a4), (2, .pointer (some ⟨b5, 0, none⟩)), (5, .bool x6), (7, .pointer (some ⟨b12, 0, none⟩)), (10, .int .i64 x21.1), (11, .int .i64 x21.2), (12, .int .i64 x22.1), (13, .int .i64 x22.2), (14, v36), (15, .int .i64 (len x35)), (16, .int .i64 x42)] ∧ L = [bx b5 24 [v2], bx b12 24 [v9], F10, F40]) ⟨_, _, F37, _, rfl, h38, ovr_eq _ _ rfl, rfl⟩ ?_
      rintro _ _ _ ⟨x39, x42, F40, e49, rfl, h41, rfl, rfl⟩ X53 hp hx54
      replace hp : fettlelaw13_ProperStays.bd54 x39 x42 = some X53 := hp
      refine TC.seq fun K104 k105 => sr <| tm rfl <| tm rfl <| tv (ln u51 h41.ro rfl) rfl <| tv (blt rfl rfl) rfl <| nz <| cD rfl hp (fun hc106 hp => ?_) fun hc106 hp => ?_
      · exact sk k105 rfl <| TC.seq fun K107 k108 => TC.block <| TC.region <| tm rfl <| tm rfl <| tv (rv_bv (vs := [(0, .int .i64 99), (1, .int .i64 99)]) (ds := [.int .i64 99, .int .i64 99]) rfl (fun w => by kernel_rfl)) rfl <| tO u51 i54 h41 hp rfl rfl rfl rfl fun x66 b67 o68 h69 hp => tp [3, 0, 1, 2] [_,_,_,_] rfl rfl <| TL.stE0 (ds := [.int .i64 99, .int .i64 99]) (u := .agg #[.int .i64 99, .int .i64 99]) (a := (⟨99, 99⟩ : PMaker)) h41 h69 m54 rfl rfl rfl ⟨rfl, rfl⟩ fun F70 h71 => nl <| tg k108 <| TC.region <| tm rfl <| tv (bad rfl rfl) rfl <| ta rfl <| nl <| gk hp [1, 2, 3, 0] ⟨_, _, F70, _, rfl, h71, ovr_eq _ _ rfl, rfl⟩
      · exact TC.exit <| jn [0, 1, 2] (J102 (ex_ret hp hx54))
   by_cases hc23 : a4 < 0
   · exact gn rfl (bT hc23) rfl rfl <| gn rfl (bT hc23) rfl rfl <| gn rfl (bT hc23) rfl rfl <| gn rfl (bT hc23) rfl rfl <| gn rfl (bT hc23) rfl rfl <| tv (pT (bT hc23)) rfl <| nj J22 (bOt hc23)
   · exact gy rfl (bF hc23) <| tm rfl <| gy rfl (bF hc23) <| tv (fa f24_0 rfl) rfl <| gy rfl (bF hc23) <| tv (lb s22 4 rfl rfl rfl) rfl <| gy rfl (bF hc23) <| tv (ln u22 h3 rfl) rfl <| gy rfl (bF hc23) <| tv (bge rfl rfl) rfl <| tv (pF (bF hc23)) rfl <| nj J22 (bOf hc23)
end Go.Proofs.YteaknconpkklhaaDoor
