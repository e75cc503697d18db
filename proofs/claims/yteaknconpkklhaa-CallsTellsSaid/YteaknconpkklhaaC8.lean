/- The walk through the program's functions: each one's pure reading, and that a call does what it says. No conditions. -/
import Derived.Test.YteaknconpkklhaaC7
set_option linter.unusedVariables false
set_option linter.unusedSimpArgs false
namespace Go.Proofs.Yteaknconpkklhaa
open Go Go.Proofs

/-! ### fettle/fettleref02.sameBlock -/
abbrev fettleref02_sameBlock.R (r : Bool) (v : Value) (A : List FP) : Prop := .bool r = v ∧ A = []
def fettleref02_sameBlock.nx40  : Option Bool :=
  some true
def fettleref02_sameBlock.bd40 (a1 : PBlock) (a8 : PBlock) (x19 : Int) : Option (Ex (Ex Bool Unit) Int) :=
  if x19 < (len a1.ins) then
    (idx a1.ins x19).bind fun x20 =>
    (idx a8.ins x19).bind fun x29 =>
    (if (¬ x20.op = x29.op) ∨ (¬ x20.dst = x29.dst) then some true else (fettleref02_ints x20.args x29.args).bind fun x39 =>
    some (!x39)).bind fun t38 =>
    if (t38 = true ∨ (¬ x20.imm = x29.imm)) ∨ (¬ x20.fn = x29.fn) then
      some (.ret (.ret false))
    else
      some (.go (w64 (x19 + 1)))
  else
    some (.ret (.go ()))
def fettleref02_sameBlock.nx31 (a1 : PBlock) (a8 : PBlock) : Option Bool :=
  (whl (fun (s : Int) => fettleref02_sameBlock.bd40 a1 a8 s) FUEL 0).bind fun z =>
  match z with
    | .ret r => some r
    | .go p => fettleref02_sameBlock.nx40
def fettleref02_sameBlock.bd31 (a1 : PBlock) (a8 : PBlock) (x18 : Int) : Option (Ex (Ex Bool Unit) Int) :=
  if x18 < (len a1.phis) then
    (idx a1.phis x18).bind fun x40 =>
    (idx a8.phis x18).bind fun x48 =>
    (if ¬ x40.dst = x48.dst then some true else (idx a1.phis x18).bind fun x57 =>
    (idx a8.phis x18).bind fun x65 =>
    (fettleref02_ints x57.args x65.args).bind fun x73 =>
    some (!x73)).bind fun t56 =>
    if t56 = true then
      some (.ret (.ret false))
    else
      some (.go (w64 (x18 + 1)))
  else
    some (.ret (.go ()))
def fettleref02_sameBlock (a1 : PBlock) (a8 : PBlock) : Option Bool :=
  (if (((¬ (len a1.phis) = (len a8.phis)) ∨ (¬ (len a1.ins) = (len a8.ins))) ∨ (¬ a1.term.kind = a8.term.kind)) ∨ (¬ a1.term.arg = a8.term.arg) then some true else (fettleref02_ints a1.term.to a8.term.to).bind fun x74 =>
  some (!x74)).bind fun t17 =>
  if t17 = true then
    some false
  else
    (whl (fun (s : Int) => fettleref02_sameBlock.bd31 a1 a8 s) FUEL 0).bind fun z =>
    match z with
      | .ret r => some r
      | .go p => fettleref02_sameBlock.nx31 a1 a8
set_option maxHeartbeats 4000000 in
theorem fettleref02_sameBlock_ok {E : World} {H : FP} {w : World} {a1 : PBlock} {a8 : PBlock} {v2 : Value} {v4 : Value} {v6 : Value} {v9 : Value} {v11 : Value} {v13 : Value} {r : Bool} (h3 : SlI kPhi H a1.phis v2) (h5 : SlI kInstr H a1.ins v4) (h7 : SlI (kInt .i64) H a1.term.to v6) (h10 : SlI kPhi H a8.phis v9) (h12 : SlI kInstr H a8.ins v11) (h14 : SlI (kInt .i64) H a8.term.to v13) (hp : fettleref02_sameBlock a1 a8 = some r) (hst : St E H [] w) :
    Fn Try.prog 50 #[.agg #[v2, v4, .int .i64 a1.term.kind, .int .i64 a1.term.arg, v6], .agg #[v9, v11, .int .i64 a8.term.kind, .int .i64 a8.term.arg, v13]] w fun v w' => ∃ A, fettleref02_sameBlock.R r v A ∧ St E H A w' := by
 refine fb 140 [.tmp 4] Try.func50 rfl rfl rfl rfl rfl hst <| sr <| tb [v2, v4, .int .i64 a1.term.kind, .int .i64 a1.term.arg, v6] rfl rfl fun b15 => tb [v9, v11, .int .i64 a8.term.kind, .int .i64 a8.term.arg, v13] rfl rfl fun b16 => ta rfl <| nz <| TC.seq fun K1 k2 => sr <| tv (fa f50_0 rfl) rfl <| tv (lb s47 1 rfl rfl rfl) rfl <| tv (ln u47 h3 rfl) rfl <| tv (fa f50_0 rfl) rfl <| tv (lb s47 0 rfl rfl rfl) rfl <| tv (ln u47 h10 rfl) rfl <| tv (bne rfl rfl) rfl <| tm rfl <| TL.cut 8 fun K3 k4 => ?_
 have J5 {e7} : ∀ w, St E H [bx b16 50 [v9, v11, .int .i64 a8.term.kind, .int .i64 a8.term.arg, v13], bx b15 50 [v2, v4, .int .i64 a1.term.kind, .int .i64 a1.term.arg, v6]] w → K3 (ovr e7 [(24, .bool (decide ((¬ (len a1.phis) = (len a8.phis)) ∨ (¬ (len a1.ins) = (len a8.ins))))), (2, .pointer (some ⟨b15, 0, none⟩)), (3, .pointer (some ⟨b16, 0, none⟩))]) w := by
  refine tlg k4 <| tm rfl <| TL.cut 8 fun K8 k9 => ?_
  have J10 {e12} : ∀ w, St E H [bx b16 50 [v9, v11, .int .i64 a8.term.kind, .int .i64 a8.term.arg, v13], bx b15 50 [v2, v4, .int .i64 a1.term.kind, .int .i64 a1.term.arg, v6]] w → K8 (ovr e12 [(33, .bool (decide (((¬ (len a1.phis) = (len a8.phis)) ∨ (¬ (len a1.ins) = (len a8.ins))) ∨ (¬ a1.term.kind = a8.term.kind)))), (2, .pointer (some ⟨b15, 0, none⟩)), (3, .pointer (some ⟨b16, 0, none⟩))]) w := by
   refine tlg k9 <| tm rfl <| TL.cut 8 fun K13 k14 => ?_
   have J15 {e17} : ∀ w, St E H [bx b16 50 [v9, v11, .int .i64 a8.term.kind, .int .i64 a8.term.arg, v13], bx b15 50 [v2, v4, .int .i64 a1.term.kind, .int .i64 a1.term.arg, v6]] w → K13 (ovr e17 [(42, .bool (decide ((((¬ (len a1.phis) = (len a8.phis)) ∨ (¬ (len a1.ins) = (len a8.ins))) ∨ (¬ a1.term.kind = a8.term.kind)) ∨ (¬ a1.term.arg = a8.term.arg)))), (2, .pointer (some ⟨b15, 0, none⟩)), (3, .pointer (some ⟨b16, 0, none⟩))]) w := by
    refine tlg k14 <| tm rfl <| bE hp fun t17 ht100 hp => TL.cut 9 fun K18 k19 => ?_
    have J20 {e22} : ∀ w, St E H [bx b16 50 [v9, v11, .int .i64 a8.term.kind, .int .i64 a8.term.arg, v13], bx b15 50 [v2, v4, .int .i64 a1.term.kind, .int .i64 a1.term.arg, v6]] w → K18 (ovr e22 [(52, .bool t17), (2, .pointer (some ⟨b15, 0, none⟩)), (3, .pointer (some ⟨b16, 0, none⟩))]) w := by
     refine tlg k19 <| nz <| cB rfl hp (fun hc23 hp => ?_) fun hc23 hp => ?_
     · exact sr <| ta rfl <| nz <| TC.ret <| rt hp [] ⟨rfl, rfl⟩
     · refine sk k2 rfl <| TC.seq fun K24 k25 => sr <| ta rfl <| nz <| TC.block <| bE hp fun z_27 hz28 hr29 => ?_
       have J77 {e32} (hq78 : .go () = z_27) : ∀ w, St E H [bx b15 50 [v2, v4, .int .i64 a1.term.kind, .int .i64 a1.term.arg, v6], bx b16 50 [v9, v11, .int .i64 a8.term.kind, .int .i64 a8.term.arg, v13]] w → K24 (ovr e32 [(2, .pointer (some ⟨b15, 0, none⟩)), (3, .pointer (some ⟨b16, 0, none⟩))]) w := by
        subst hq78
        replace hp : fettleref02_sameBlock.nx31 a1 a8 = some r := hr29
        refine tg k25 <| TC.seq fun K33 k34 => sr <| ta rfl <| nz <| TC.block <| bE hp fun z_36 hz37 hr38 => ?_
        have J42 {e41} (hq43 : .go () = z_36) : ∀ w, St E H [] w → K33 (ovr e41 []) w := by
         subst hq43
         replace hp : fettleref02_sameBlock.nx40 = some r := hr38
         exact tg k34 <| sr <| ta rfl <| nz <| TC.ret <| rt hp [] ⟨rfl, rfl⟩
        refine lp hz37 [0, 1] rfl (fun s e L => ∃ e35, e = ovr e35 [(2, .pointer (some ⟨b15, 0, none⟩)), (3, .pointer (some ⟨b16, 0, none⟩)), (6, .int .i64 s)] ∧ L = [bx b15 50 [v2, v4, .int .i64 a1.term.kind, .int .i64 a1.term.arg, v6], bx b16 50 [v9, v11, .int .i64 a8.term.kind, .int .i64 a8.term.arg, v13]]) ⟨_, ovr_eq _ _ rfl, rfl⟩ ?_
        rintro x19 _ _ ⟨e35, rfl, rfl⟩ X39 hp hx40
        replace hp : fettleref02_sameBlock.bd40 a1 a8 x19 = some X39 := hp
        refine TC.seq fun K44 k45 => sr <| tm rfl <| tv (fa f50_1 rfl) rfl <| tv (lb s48 0 rfl rfl rfl) rfl <| tv (ln u48 h5 rfl) rfl <| tv (blt rfl rfl) rfl <| nz <| cD rfl hp (fun hc46 hp => ?_) fun hc46 hp => ?_
        · refine sk k45 rfl <| TC.seq fun K47 k48 => TC.block <| sr <| tv (fa f50_1 rfl) rfl <| tv (lb s48 0 rfl rfl rfl) rfl <| tm rfl <| ti u48 i52 h5 hp rfl rfl rfl rfl ?_
          rintro x20 b21 o22 _ hp ⟨v26, rfl, h27⟩ h25
          refine tv (lR (ds := [.int .i64 x20.op, .int .i64 x20.dst, v26, .int .i64 x20.imm, .int .i64 x20.fn]) ag_52 sH h25 0 rfl rfl rfl) rfl <| tl i52 rfl fun b28 => tS 0 m52 rfl rfl [.int .i64 x20.op, .int .i64 x20.dst, v26, .int .i64 x20.imm, .int .i64 x20.fn] rfl (oc rfl (oc rfl (oc (h27).one (oc rfl (oc rfl oc0))))) rfl rfl <| nz <| sr <| tv (fa f50_1 rfl) rfl <| tv (lb s48 2 rfl rfl rfl) rfl <| tm rfl <| ti u48 i52 h12 hp rfl rfl rfl rfl ?_
          rintro x29 b30 o31 _ hp ⟨v35, rfl, h36⟩ h34
          refine tv (lR (ds := [.int .i64 x29.op, .int .i64 x29.dst, v35, .int .i64 x29.imm, .int .i64 x29.fn]) ag_52 sH h34 0 rfl rfl rfl) rfl <| tl i52 rfl fun b37 => tS 0 m52 rfl rfl [.int .i64 x29.op, .int .i64 x29.dst, v35, .int .i64 x29.imm, .int .i64 x29.fn] rfl (oc rfl (oc rfl (oc (h36).one (oc rfl (oc rfl oc0))))) rfl rfl <| nz <| sr <| tv (fa f52_0 rfl) rfl <| tv (lb s3 1 rfl rfl rfl) rfl <| tv (fa f52_0 rfl) rfl <| tv (lb s3 0 rfl rfl rfl) rfl <| tv (bne rfl rfl) rfl <| tm rfl <| TL.cut 6 fun K51 k52 => ?_
          have J53 {e55} : ∀ w, St E H [bx b37 52 [.int .i64 x29.op, .int .i64 x29.dst, v35, .int .i64 x29.imm, .int .i64 x29.fn], bx b28 52 [.int .i64 x20.op, .int .i64 x20.dst, v26, .int .i64 x20.imm, .int .i64 x20.fn], bx b15 50 [v2, v4, .int .i64 a1.term.kind, .int .i64 a1.term.arg, v6], bx b16 50 [v9, v11, .int .i64 a8.term.kind, .int .i64 a8.term.arg, v13]] w → K51 (ovr e55 [(117, .bool (decide ((¬ x20.op = x29.op) ∨ (¬ x20.dst = x29.dst)))), (2, .pointer (some ⟨b15, 0, none⟩)), (3, .pointer (some ⟨b16, 0, none⟩)), (6, .int .i64 x19), (7, .pointer (some ⟨b28, 0, none⟩)), (8, .pointer (some ⟨b37, 0, none⟩))]) w := by
           refine tlg k52 <| tm rfl <| bE hp fun t38 ht72 hp => TL.cut 7 fun K56 k57 => ?_
           have J58 {e60} : ∀ w, St E H [bx b37 52 [.int .i64 x29.op, .int .i64 x29.dst, v35, .int .i64 x29.imm, .int .i64 x29.fn], bx b28 52 [.int .i64 x20.op, .int .i64 x20.dst, v26, .int .i64 x20.imm, .int .i64 x20.fn], bx b15 50 [v2, v4, .int .i64 a1.term.kind, .int .i64 a1.term.arg, v6], bx b16 50 [v9, v11, .int .i64 a8.term.kind, .int .i64 a8.term.arg, v13]] w → K56 (ovr e60 [(125, .bool t38), (2, .pointer (some ⟨b15, 0, none⟩)), (3, .pointer (some ⟨b16, 0, none⟩)), (6, .int .i64 x19), (7, .pointer (some ⟨b28, 0, none⟩)), (8, .pointer (some ⟨b37, 0, none⟩))]) w := by
            refine tlg k57 <| tm rfl <| TL.cut 6 fun K61 k62 => ?_
            have J63 {e65} : ∀ w, St E H [bx b37 52 [.int .i64 x29.op, .int .i64 x29.dst, v35, .int .i64 x29.imm, .int .i64 x29.fn], bx b28 52 [.int .i64 x20.op, .int .i64 x20.dst, v26, .int .i64 x20.imm, .int .i64 x20.fn], bx b15 50 [v2, v4, .int .i64 a1.term.kind, .int .i64 a1.term.arg, v6], bx b16 50 [v9, v11, .int .i64 a8.term.kind, .int .i64 a8.term.arg, v13]] w → K61 (ovr e65 [(132, .bool (decide (t38 = true ∨ (¬ x20.imm = x29.imm)))), (2, .pointer (some ⟨b15, 0, none⟩)), (3, .pointer (some ⟨b16, 0, none⟩)), (6, .int .i64 x19), (7, .pointer (some ⟨b28, 0, none⟩)), (8, .pointer (some ⟨b37, 0, none⟩))]) w := by
             refine tlg k62 <| tm rfl <| TL.cut 6 fun K66 k67 => ?_
             have J68 {e70} : ∀ w, St E H [bx b37 52 [.int .i64 x29.op, .int .i64 x29.dst, v35, .int .i64 x29.imm, .int .i64 x29.fn], bx b28 52 [.int .i64 x20.op, .int .i64 x20.dst, v26, .int .i64 x20.imm, .int .i64 x20.fn], bx b15 50 [v2, v4, .int .i64 a1.term.kind, .int .i64 a1.term.arg, v6], bx b16 50 [v9, v11, .int .i64 a8.term.kind, .int .i64 a8.term.arg, v13]] w → K66 (ovr e70 [(139, .bool (decide ((t38 = true ∨ (¬ x20.imm = x29.imm)) ∨ (¬ x20.fn = x29.fn)))), (2, .pointer (some ⟨b15, 0, none⟩)), (3, .pointer (some ⟨b16, 0, none⟩)), (6, .int .i64 x19)]) w := by
              refine tlg k67 <| nz <| cD rfl hp (fun hc71 hp => ?_) fun hc71 hp => ?_
              · refine sr <| ta rfl <| nz <| TC.ret ?_
                obtain rfl := ex_ret hp hx40
                exact rt hr38 [] ⟨rfl, rfl⟩
              · exact sk k48 rfl <| TC.region <| tm rfl <| tv (bad rfl rfl) rfl <| ta rfl <| nl <| gk hp [2, 3] ⟨_, ovr_eq _ _ rfl, rfl⟩
             by_cases hc69 : t38 = true ∨ (¬ x20.imm = x29.imm)
             · exact gn rfl (bT hc69) rfl rfl <| gn rfl (bT hc69) rfl rfl <| gn rfl (bT hc69) rfl rfl <| gn rfl (bT hc69) rfl rfl <| gn rfl (bT hc69) rfl rfl <| tv (pT (bT hc69)) rfl <| nj J68 (bOt hc69)
             · exact gy rfl (bF hc69) <| tv (fa f52_4 rfl) rfl <| gy rfl (bF hc69) <| tv (lb s3 1 rfl rfl rfl) rfl <| gy rfl (bF hc69) <| tv (fa f52_4 rfl) rfl <| gy rfl (bF hc69) <| tv (lb s3 0 rfl rfl rfl) rfl <| gy rfl (bF hc69) <| tv (bne rfl rfl) rfl <| tv (pF (bF hc69)) rfl <| nj J68 (bOf hc69)
            by_cases hc64 : t38 = true
            · exact gn rfl (bbT hc64) rfl rfl <| gn rfl (bbT hc64) rfl rfl <| gn rfl (bbT hc64) rfl rfl <| gn rfl (bbT hc64) rfl rfl <| gn rfl (bbT hc64) rfl rfl <| tv (pT (bbT hc64)) rfl <| nj J63 (bOt hc64)
            · exact gy rfl (bbF hc64) <| tv (fa f52_3 rfl) rfl <| gy rfl (bbF hc64) <| tv (lb s2 1 rfl rfl rfl) rfl <| gy rfl (bbF hc64) <| tv (fa f52_3 rfl) rfl <| gy rfl (bbF hc64) <| tv (lb s2 0 rfl rfl rfl) rfl <| gy rfl (bbF hc64) <| tv (bne rfl rfl) rfl <| tv (pF (bbF hc64)) rfl <| nj J63 (bOf hc64)
           refine ifE ht72 (fun hc59 hp => ?_) fun hc59 hp => ?_
           · refine gn rfl (bT hc59) rfl rfl <| gn rfl (bT hc59) rfl rfl <| gn rfl (bT hc59) rfl rfl <| gn rfl (bT hc59) rfl rfl <| gn rfl (bT hc59) rfl rfl <| gn rfl (bT hc59) rfl rfl <| tv (pT (bT hc59)) rfl ?_
             obtain rfl := Option.some.inj hp
             exact nj J58 rfl
           · refine gy rfl (bF hc59) <| tv (fa f52_2 rfl) rfl <| gy rfl (bF hc59) <| tv (lb s25 1 rfl rfl rfl) rfl <| gy rfl (bF hc59) <| tv (fa f52_2 rfl) rfl <| gy rfl (bF hc59) <| tv (lb s25 0 rfl rfl rfl) rfl <| gy rfl (bF hc59) <| bE hp fun x39 hy73 hp => tc 0 [_,_,_,_] rfl c49 (fun _ => fettleref02_ints_ok (a1 := x20.args) (a4 := x29.args) (h27.mono subH) (h36.mono subH) hy73) rfl ?_
             rintro _ _ ⟨rfl, rfl⟩
             refine gy rfl (bF hc59) <| tv (rv_not rfl) rfl <| tv (pF (bF hc59)) rfl ?_
             obtain rfl := Option.some.inj hp
             exact nj J58 rfl
          by_cases hc54 : ¬ x20.op = x29.op
          · exact gn rfl (bT hc54) rfl rfl <| gn rfl (bT hc54) rfl rfl <| gn rfl (bT hc54) rfl rfl <| gn rfl (bT hc54) rfl rfl <| gn rfl (bT hc54) rfl rfl <| tv (pT (bT hc54)) rfl <| nj J53 (bOt hc54)
          · exact gy rfl (bF hc54) <| tv (fa f52_1 rfl) rfl <| gy rfl (bF hc54) <| tv (lb s3 1 rfl rfl rfl) rfl <| gy rfl (bF hc54) <| tv (fa f52_1 rfl) rfl <| gy rfl (bF hc54) <| tv (lb s3 0 rfl rfl rfl) rfl <| gy rfl (bF hc54) <| tv (bne rfl rfl) rfl <| tv (pF (bF hc54)) rfl <| nj J53 (bOf hc54)
        · exact TC.exit <| jn [] (J42 (ex_ret hp hx40))
       refine lp hz28 [1, 0] rfl (fun s e L => ∃ e26, e = ovr e26 [(2, .pointer (some ⟨b15, 0, none⟩)), (3, .pointer (some ⟨b16, 0, none⟩)), (5, .int .i64 s)] ∧ L = [bx b15 50 [v2, v4, .int .i64 a1.term.kind, .int .i64 a1.term.arg, v6], bx b16 50 [v9, v11, .int .i64 a8.term.kind, .int .i64 a8.term.arg, v13]]) ⟨_, ovr_eq _ _ rfl, rfl⟩ ?_
       rintro x18 _ _ ⟨e26, rfl, rfl⟩ X30 hp hx31
       replace hp : fettleref02_sameBlock.bd31 a1 a8 x18 = some X30 := hp
       refine TC.seq fun K79 k80 => sr <| tm rfl <| tv (fa f50_0 rfl) rfl <| tv (lb s47 0 rfl rfl rfl) rfl <| tv (ln u47 h3 rfl) rfl <| tv (blt rfl rfl) rfl <| nz <| cD rfl hp (fun hc81 hp => ?_) fun hc81 hp => ?_
       · refine sk k80 rfl <| TC.seq fun K82 k83 => TC.block <| TC.seq fun K84 k85 => cq mix (by kernel_rfl) <| qv (fa f50_0 rfl) rfl <| qv (lb s47 0 rfl rfl rfl) rfl <| qv mv rfl <| qi u47 i76 h3 hp rfl rfl rfl rfl ?_
         rintro x40 b41 o42 _ hp ⟨v46, rfl, h47⟩ h45
         refine qv (fa f76_0 rfl) rfl <| qv (lr s3 sH h45 0 rfl rfl) rfl <| qv (fa f50_0 rfl) rfl <| qv (lb s47 1 rfl rfl rfl) rfl <| qv mv rfl <| qi u47 i76 h10 hp rfl rfl rfl rfl ?_
         rintro x48 b49 o50 _ hp ⟨v54, rfl, h55⟩ h53
         refine qv (fa f76_0 rfl) rfl <| qv (lr s3 sH h53 0 rfl rfl) rfl <| qv (bne rfl rfl) rfl <| qv mv rfl <| bE hp fun t56 ht94 hp => QL.cut 15 fun K88 k89 => ?_
         have J90 {e92} : K88 (ovr e92 [(88, .bool t56), (2, .pointer (some ⟨b15, 0, none⟩)), (3, .pointer (some ⟨b16, 0, none⟩)), (5, .int .i64 x18)]) := by
          refine k89 _ <| QL.nil <| tg k85 <| cB rfl hp (fun hc93 hp => ?_) fun hc93 hp => ?_
          · refine sr <| ta rfl <| nz <| TC.ret ?_
            obtain rfl := ex_ret hp hx31
            exact rt hr29 [] ⟨rfl, rfl⟩
          · exact sk k83 rfl <| TC.region <| tm rfl <| tv (bad rfl rfl) rfl <| ta rfl <| nl <| gk hp [0, 1] ⟨_, ovr_eq _ _ rfl, rfl⟩
         refine ifE ht94 (fun hc91 hp => ?_) fun hc91 hp => ?_
         · refine qgn rfl (bT hc91) rfl rfl <| qgn rfl (bT hc91) rfl rfl <| qgn rfl (bT hc91) rfl rfl <| qgn rfl (bT hc91) rfl rfl <| qgn rfl (bT hc91) rfl rfl <| qgn rfl (bT hc91) rfl rfl <| qgn rfl (bT hc91) rfl rfl <| qgn rfl (bT hc91) rfl rfl <| qgn rfl (bT hc91) rfl rfl <| qgn rfl (bT hc91) rfl rfl <| qgn rfl (bT hc91) rfl rfl <| qgn rfl (bT hc91) rfl rfl <| qgn rfl (bT hc91) rfl rfl <| qgn rfl (bT hc91) rfl rfl <| qv (pT (bT hc91)) rfl ?_
           obtain rfl := Option.some.inj hp
           exact qj J90 rfl
         · refine qgy rfl (bF hc91) <| qv (fa f50_0 rfl) rfl <| qgy rfl (bF hc91) <| qv (lb s47 0 rfl rfl rfl) rfl <| qgy rfl (bF hc91) <| qv mv rfl <| qgy rfl (bF hc91) <| qi u47 i76 h3 hp rfl rfl rfl rfl ?_
           rintro x57 b58 o59 _ hp ⟨v63, rfl, h64⟩ h62
           refine qgy rfl (bF hc91) <| qv (fa f76_1 rfl) rfl <| qgy rfl (bF hc91) <| qv (lr s25 sH h62 1 rfl rfl) rfl <| qgy rfl (bF hc91) <| qv (fa f50_0 rfl) rfl <| qgy rfl (bF hc91) <| qv (lb s47 1 rfl rfl rfl) rfl <| qgy rfl (bF hc91) <| qv mv rfl <| qgy rfl (bF hc91) <| qi u47 i76 h10 hp rfl rfl rfl rfl ?_
           rintro x65 b66 o67 _ hp ⟨v71, rfl, h72⟩ h70
           refine qgy rfl (bF hc91) <| qv (fa f76_1 rfl) rfl <| qgy rfl (bF hc91) <| qv (lr s25 sH h70 1 rfl rfl) rfl <| qgy rfl (bF hc91) <| bE hp fun x73 hy97 hp => qc (.bool x73) c49 (fun _ => fettleref02_ints_ok (a1 := x57.args) (a4 := x65.args) (h64.mono subH) (h72.mono subH) hy97) (fun _ _ h => ⟨h.1.symm, h.2⟩) rfl <| qgy rfl (bF hc91) <| qv (rv_not rfl) rfl <| qv (pF (bF hc91)) rfl ?_
           obtain rfl := Option.some.inj hp
           exact qj J90 rfl
       · exact TC.exit <| jn [0, 1] (J77 (ex_ret hp hx31))
    refine ifE ht100 (fun hc21 hp => ?_) fun hc21 hp => ?_
    · refine gn rfl (bT hc21) rfl rfl <| gn rfl (bT hc21) rfl rfl <| gn rfl (bT hc21) rfl rfl <| gn rfl (bT hc21) rfl rfl <| gn rfl (bT hc21) rfl rfl <| gn rfl (bT hc21) rfl rfl <| gn rfl (bT hc21) rfl rfl <| gn rfl (bT hc21) rfl rfl <| tv (pT (bT hc21)) rfl ?_
      obtain rfl := Option.some.inj hp
      exact nj J20 rfl
    · refine gy rfl (bF hc21) <| tv (fa f50_2 rfl) rfl <| gy rfl (bF hc21) <| tv (fa f46_2 rfl) rfl <| gy rfl (bF hc21) <| tv (lb s25 1 rfl rfl rfl) rfl <| gy rfl (bF hc21) <| tv (fa f50_2 rfl) rfl <| gy rfl (bF hc21) <| tv (fa f46_2 rfl) rfl <| gy rfl (bF hc21) <| tv (lb s25 0 rfl rfl rfl) rfl <| gy rfl (bF hc21) <| bE hp fun x74 hy101 hp => tc 0 [_,_] rfl c49 (fun _ => fettleref02_ints_ok (a1 := a1.term.to) (a4 := a8.term.to) (h7.mono subH) (h14.mono subH) hy101) rfl ?_
      rintro _ _ ⟨rfl, rfl⟩
      refine gy rfl (bF hc21) <| tv (rv_not rfl) rfl <| tv (pF (bF hc21)) rfl ?_
      obtain rfl := Option.some.inj hp
      exact nj J20 rfl
   by_cases hc16 : ((¬ (len a1.phis) = (len a8.phis)) ∨ (¬ (len a1.ins) = (len a8.ins))) ∨ (¬ a1.term.kind = a8.term.kind)
   · exact gn rfl (bT hc16) rfl rfl <| gn rfl (bT hc16) rfl rfl <| gn rfl (bT hc16) rfl rfl <| gn rfl (bT hc16) rfl rfl <| gn rfl (bT hc16) rfl rfl <| gn rfl (bT hc16) rfl rfl <| gn rfl (bT hc16) rfl rfl <| tv (pT (bT hc16)) rfl <| nj J15 (bOt hc16)
   · exact gy rfl (bF hc16) <| tv (fa f50_2 rfl) rfl <| gy rfl (bF hc16) <| tv (fa f46_1 rfl) rfl <| gy rfl (bF hc16) <| tv (lb s3 1 rfl rfl rfl) rfl <| gy rfl (bF hc16) <| tv (fa f50_2 rfl) rfl <| gy rfl (bF hc16) <| tv (fa f46_1 rfl) rfl <| gy rfl (bF hc16) <| tv (lb s3 0 rfl rfl rfl) rfl <| gy rfl (bF hc16) <| tv (bne rfl rfl) rfl <| tv (pF (bF hc16)) rfl <| nj J15 (bOf hc16)
  by_cases hc11 : (¬ (len a1.phis) = (len a8.phis)) ∨ (¬ (len a1.ins) = (len a8.ins))
  · exact gn rfl (bT hc11) rfl rfl <| gn rfl (bT hc11) rfl rfl <| gn rfl (bT hc11) rfl rfl <| gn rfl (bT hc11) rfl rfl <| gn rfl (bT hc11) rfl rfl <| gn rfl (bT hc11) rfl rfl <| gn rfl (bT hc11) rfl rfl <| tv (pT (bT hc11)) rfl <| nj J10 (bOt hc11)
  · exact gy rfl (bF hc11) <| tv (fa f50_2 rfl) rfl <| gy rfl (bF hc11) <| tv (fa f46_0 rfl) rfl <| gy rfl (bF hc11) <| tv (lb s3 1 rfl rfl rfl) rfl <| gy rfl (bF hc11) <| tv (fa f50_2 rfl) rfl <| gy rfl (bF hc11) <| tv (fa f46_0 rfl) rfl <| gy rfl (bF hc11) <| tv (lb s3 0 rfl rfl rfl) rfl <| gy rfl (bF hc11) <| tv (bne rfl rfl) rfl <| tv (pF (bF hc11)) rfl <| nj J10 (bOf hc11)
 by_cases hc6 : ¬ (len a1.phis) = (len a8.phis)
 · exact gn rfl (bT hc6) rfl rfl <| gn rfl (bT hc6) rfl rfl <| gn rfl (bT hc6) rfl rfl <| gn rfl (bT hc6) rfl rfl <| gn rfl (bT hc6) rfl rfl <| gn rfl (bT hc6) rfl rfl <| gn rfl (bT hc6) rfl rfl <| tv (pT (bT hc6)) rfl <| nj J5 (bOt hc6)
 · exact gy rfl (bF hc6) <| tv (fa f50_1 rfl) rfl <| gy rfl (bF hc6) <| tv (lb s48 1 rfl rfl rfl) rfl <| gy rfl (bF hc6) <| tv (ln u48 h5 rfl) rfl <| gy rfl (bF hc6) <| tv (fa f50_1 rfl) rfl <| gy rfl (bF hc6) <| tv (lb s48 0 rfl rfl rfl) rfl <| gy rfl (bF hc6) <| tv (ln u48 h12 rfl) rfl <| gy rfl (bF hc6) <| tv (bne rfl rfl) rfl <| tv (pF (bF hc6)) rfl <| nj J5 (bOf hc6)

/-! ### fettle/fettleref02.SameFunc -/
abbrev fettleref02_SameFunc.R (r : Bool) (v : Value) (A : List FP) : Prop := .bool r = v ∧ A = []
def fettleref02_SameFunc.nx26  : Option Bool :=
  some true
def fettleref02_SameFunc.bd26 (a1 : PFunc) (a6 : PFunc) (x14 : Int) : Option (Ex (Ex Bool Unit) Int) :=
  if x14 < (len a1.blocks) then
    (idx a1.blocks x14).bind fun x15 =>
    (idx a6.blocks x14).bind fun x27 =>
    (fettleref02_sameBlock x15 x27).bind fun x39 =>
    if (!x39) = true then
      some (.ret (.ret false))
    else
      some (.go (w64 (x14 + 1)))
  else
    some (.ret (.go ()))
def fettleref02_SameFunc (a1 : PFunc) (a6 : PFunc) : Option Bool :=
  (if (¬ a1.params = a6.params) ∨ (¬ a1.result = a6.result) then some true else (fettleref02_ints a1.regs a6.regs).bind fun x40 =>
  some (!x40)).bind fun t13 =>
  if t13 = true ∨ (¬ (len a1.blocks) = (len a6.blocks)) then
    some false
  else
    (whl (fun (s : Int) => fettleref02_SameFunc.bd26 a1 a6 s) FUEL 0).bind fun z =>
    match z with
      | .ret r => some r
      | .go p => fettleref02_SameFunc.nx26
set_option maxHeartbeats 4000000 in
theorem fettleref02_SameFunc_ok {E : World} {H : FP} {w : World} {a1 : PFunc} {a6 : PFunc} {v2 : Value} {v4 : Value} {v7 : Value} {v9 : Value} {r : Bool} (h3 : SlI (kInt .i64) H a1.regs v2) (h5 : SlI kBlock H a1.blocks v4) (h8 : SlI (kInt .i64) H a6.regs v7) (h10 : SlI kBlock H a6.blocks v9) (hp : fettleref02_SameFunc a1 a6 = some r) (hst : St E H [] w) :
    Fn Try.prog 20 #[.agg #[.int .i64 a1.params, .int .i64 a1.result, v2, v4], .agg #[.int .i64 a6.params, .int .i64 a6.result, v7, v9]] w fun v w' => ∃ A, fettleref02_SameFunc.R r v A ∧ St E H A w' := by
 refine fb 56 [.tmp 4] Try.func20 rfl rfl rfl rfl rfl hst <| sr <| tb [.int .i64 a1.params, .int .i64 a1.result, v2, v4] rfl rfl fun b11 => tb [.int .i64 a6.params, .int .i64 a6.result, v7, v9] rfl rfl fun b12 => ta rfl <| nz <| TC.seq fun K1 k2 => sr <| tv (fa f40_0 rfl) rfl <| tv (lb s3 1 rfl rfl rfl) rfl <| tv (fa f40_0 rfl) rfl <| tv (lb s3 0 rfl rfl rfl) rfl <| tv (bne rfl rfl) rfl <| tm rfl <| TL.cut 6 fun K3 k4 => ?_
 have J5 {e7} : ∀ w, St E H [bx b12 40 [.int .i64 a6.params, .int .i64 a6.result, v7, v9], bx b11 40 [.int .i64 a1.params, .int .i64 a1.result, v2, v4]] w → K3 (ovr e7 [(18, .bool (decide ((¬ a1.params = a6.params) ∨ (¬ a1.result = a6.result)))), (2, .pointer (some ⟨b11, 0, none⟩)), (3, .pointer (some ⟨b12, 0, none⟩))]) w := by
  refine tlg k4 <| tm rfl <| bE hp fun t13 ht43 hp => TL.cut 7 fun K8 k9 => ?_
  have J10 {e12} : ∀ w, St E H [bx b12 40 [.int .i64 a6.params, .int .i64 a6.result, v7, v9], bx b11 40 [.int .i64 a1.params, .int .i64 a1.result, v2, v4]] w → K8 (ovr e12 [(26, .bool t13), (2, .pointer (some ⟨b11, 0, none⟩)), (3, .pointer (some ⟨b12, 0, none⟩))]) w := by
   refine tlg k9 <| tm rfl <| TL.cut 8 fun K13 k14 => ?_
   have J15 {e17} : ∀ w, St E H [bx b12 40 [.int .i64 a6.params, .int .i64 a6.result, v7, v9], bx b11 40 [.int .i64 a1.params, .int .i64 a1.result, v2, v4]] w → K13 (ovr e17 [(35, .bool (decide (t13 = true ∨ (¬ (len a1.blocks) = (len a6.blocks))))), (2, .pointer (some ⟨b11, 0, none⟩)), (3, .pointer (some ⟨b12, 0, none⟩))]) w := by
    refine tlg k14 <| nz <| cD rfl hp (fun hc18 hp => ?_) fun hc18 hp => ?_
    · exact sr <| ta rfl <| nz <| TC.ret <| rt hp [] ⟨rfl, rfl⟩
    · refine sk k2 rfl <| TC.seq fun K19 k20 => sr <| ta rfl <| nz <| TC.block <| bE hp fun z_22 hz23 hr24 => ?_
      have J28 {e27} (hq29 : .go () = z_22) : ∀ w, St E H [] w → K19 (ovr e27 []) w := by
       subst hq29
       replace hp : fettleref02_SameFunc.nx26 = some r := hr24
       exact tg k20 <| sr <| ta rfl <| nz <| TC.ret <| rt hp [] ⟨rfl, rfl⟩
      refine lp hz23 [1, 0] rfl (fun s e L => ∃ e21, e = ovr e21 [(2, .pointer (some ⟨b11, 0, none⟩)), (3, .pointer (some ⟨b12, 0, none⟩)), (5, .int .i64 s)] ∧ L = [bx b11 40 [.int .i64 a1.params, .int .i64 a1.result, v2, v4], bx b12 40 [.int .i64 a6.params, .int .i64 a6.result, v7, v9]]) ⟨_, ovr_eq _ _ rfl, rfl⟩ ?_
      rintro x14 _ _ ⟨e21, rfl, rfl⟩ X25 hp hx26
      replace hp : fettleref02_SameFunc.bd26 a1 a6 x14 = some X25 := hp
      refine TC.seq fun K30 k31 => sr <| tm rfl <| tv (fa f40_3 rfl) rfl <| tv (lb s38 0 rfl rfl rfl) rfl <| tv (ln u38 h5 rfl) rfl <| tv (blt rfl rfl) rfl <| nz <| cD rfl hp (fun hc32 hp => ?_) fun hc32 hp => ?_
      · refine sk k31 rfl <| TC.seq fun K33 k34 => TC.block <| TC.seq fun K35 k36 => cq mix (by kernel_rfl) <| qv (fa f40_3 rfl) rfl <| qv (lb s38 0 rfl rfl rfl) rfl <| qv mv rfl <| qi u38 i50 h5 hp rfl rfl rfl rfl ?_
        rintro x15 b16 o17 _ hp ⟨v21, v23, v25, rfl, h22, h24, h26⟩ h20
        refine qv (lR (ds := [v21, v23, .int .i64 x15.term.kind, .int .i64 x15.term.arg, v25]) ag_50 sH h20 0 rfl rfl rfl) rfl <| qv (fa f40_3 rfl) rfl <| qv (lb s38 1 rfl rfl rfl) rfl <| qv mv rfl <| qi u38 i50 h10 hp rfl rfl rfl rfl ?_
        rintro x27 b28 o29 _ hp ⟨v33, v35, v37, rfl, h34, h36, h38⟩ h32
        refine qv (lR (ds := [v33, v35, .int .i64 x27.term.kind, .int .i64 x27.term.arg, v37]) ag_50 sH h32 0 rfl rfl rfl) rfl <| bE hp fun x39 hy39 hp => qc (.bool x39) c50 (fun _ => fettleref02_sameBlock_ok (a1 := x15) (a8 := x27) (h22.mono subH) (h24.mono subH) (h26.mono subH) (h34.mono subH) (h36.mono subH) (h38.mono subH) hy39) (fun _ _ h => ⟨h.1.symm, h.2⟩) rfl <| qv sg rfl <| QL.nil <| tg k36 <| sr <| tm rfl <| tv (rv_not rfl) rfl <| nz <| cB rfl hp (fun hc40 hp => ?_) fun hc40 hp => ?_
        · refine sr <| ta rfl <| nz <| TC.ret ?_
          obtain rfl := ex_ret hp hx26
          exact rt hr24 [] ⟨rfl, rfl⟩
        · exact sk k34 rfl <| TC.region <| tm rfl <| tv (bad rfl rfl) rfl <| ta rfl <| nl <| gk hp [0, 1] ⟨_, ovr_eq _ _ rfl, rfl⟩
      · exact TC.exit <| jn [] (J28 (ex_ret hp hx26))
   by_cases hc16 : t13 = true
   · exact gn rfl (bbT hc16) rfl rfl <| gn rfl (bbT hc16) rfl rfl <| gn rfl (bbT hc16) rfl rfl <| gn rfl (bbT hc16) rfl rfl <| gn rfl (bbT hc16) rfl rfl <| gn rfl (bbT hc16) rfl rfl <| gn rfl (bbT hc16) rfl rfl <| tv (pT (bbT hc16)) rfl <| nj J15 (bOt hc16)
   · exact gy rfl (bbF hc16) <| tv (fa f40_3 rfl) rfl <| gy rfl (bbF hc16) <| tv (lb s38 1 rfl rfl rfl) rfl <| gy rfl (bbF hc16) <| tv (ln u38 h5 rfl) rfl <| gy rfl (bbF hc16) <| tv (fa f40_3 rfl) rfl <| gy rfl (bbF hc16) <| tv (lb s38 0 rfl rfl rfl) rfl <| gy rfl (bbF hc16) <| tv (ln u38 h10 rfl) rfl <| gy rfl (bbF hc16) <| tv (bne rfl rfl) rfl <| tv (pF (bbF hc16)) rfl <| nj J15 (bOf hc16)
  refine ifE ht43 (fun hc11 hp => ?_) fun hc11 hp => ?_
  · refine gn rfl (bT hc11) rfl rfl <| gn rfl (bT hc11) rfl rfl <| gn rfl (bT hc11) rfl rfl <| gn rfl (bT hc11) rfl rfl <| gn rfl (bT hc11) rfl rfl <| gn rfl (bT hc11) rfl rfl <| tv (pT (bT hc11)) rfl ?_
    obtain rfl := Option.some.inj hp
    exact nj J10 rfl
  · refine gy rfl (bF hc11) <| tv (fa f40_2 rfl) rfl <| gy rfl (bF hc11) <| tv (lb s25 1 rfl rfl rfl) rfl <| gy rfl (bF hc11) <| tv (fa f40_2 rfl) rfl <| gy rfl (bF hc11) <| tv (lb s25 0 rfl rfl rfl) rfl <| gy rfl (bF hc11) <| bE hp fun x40 hy44 hp => tc 0 [_,_] rfl c49 (fun _ => fettleref02_ints_ok (a1 := a1.regs) (a4 := a6.regs) (h3.mono subH) (h8.mono subH) hy44) rfl ?_
    rintro _ _ ⟨rfl, rfl⟩
    refine gy rfl (bF hc11) <| tv (rv_not rfl) rfl <| tv (pF (bF hc11)) rfl ?_
    obtain rfl := Option.some.inj hp
    exact nj J10 rfl
 by_cases hc6 : ¬ a1.params = a6.params
 · exact gn rfl (bT hc6) rfl rfl <| gn rfl (bT hc6) rfl rfl <| gn rfl (bT hc6) rfl rfl <| gn rfl (bT hc6) rfl rfl <| gn rfl (bT hc6) rfl rfl <| tv (pT (bT hc6)) rfl <| nj J5 (bOt hc6)
 · exact gy rfl (bF hc6) <| tv (fa f40_1 rfl) rfl <| gy rfl (bF hc6) <| tv (lb s3 1 rfl rfl rfl) rfl <| gy rfl (bF hc6) <| tv (fa f40_1 rfl) rfl <| gy rfl (bF hc6) <| tv (lb s3 0 rfl rfl rfl) rfl <| gy rfl (bF hc6) <| tv (bne rfl rfl) rfl <| tv (pF (bF hc6)) rfl <| nj J5 (bOf hc6)

/-! ### fettle/fettleref02.Same -/
abbrev fettleref02_Same.R (r : Bool) (v : Value) (A : List FP) : Prop := .bool r = v ∧ A = []
def fettleref02_Same.nx11  : Option Bool :=
  some true
def fettleref02_Same.bd11 (a1 : PModule) (a4 : PModule) (x9 : Int) : Option (Ex (Ex Bool Unit) Int) :=
  if x9 < (len a1.funcs) then
    (idx a1.funcs x9).bind fun x10 =>
    (idx a4.funcs x9).bind fun x20 =>
    (fettleref02_SameFunc x10 x20).bind fun x30 =>
    if (!x30) = true then
      some (.ret (.ret false))
    else
      some (.go (w64 (x9 + 1)))
  else
    some (.ret (.go ()))
def fettleref02_Same (a1 : PModule) (a4 : PModule) : Option Bool :=
  if ¬ (len a1.funcs) = (len a4.funcs) then
    some false
  else
    (whl (fun (s : Int) => fettleref02_Same.bd11 a1 a4 s) FUEL 0).bind fun z =>
    match z with
      | .ret r => some r
      | .go p => fettleref02_Same.nx11
theorem fettleref02_Same_ok {E : World} {H : FP} {w : World} {a1 : PModule} {a4 : PModule} {v2 : Value} {v5 : Value} {r : Bool} (h3 : SlI kFunc H a1.funcs v2) (h6 : SlI kFunc H a4.funcs v5) (hp : fettleref02_Same a1 a4 = some r) (hst : St E H [] w) :
    Fn Try.prog 19 #[.agg #[v2], .agg #[v5]] w fun v w' => ∃ A, fettleref02_Same.R r v A ∧ St E H A w' := by
 refine fb 34 [.tmp 4] Try.func19 rfl rfl rfl rfl rfl hst <| sr <| tb [v2] rfl rfl fun b7 => tb [v5] rfl rfl fun b8 => ta rfl <| nz <| TC.seq fun K1 k2 => sr <| tv (fa f35_0 rfl) rfl <| tv (lb s33 1 rfl rfl rfl) rfl <| tv (ln u33 h3 rfl) rfl <| tv (fa f35_0 rfl) rfl <| tv (lb s33 0 rfl rfl rfl) rfl <| tv (ln u33 h6 rfl) rfl <| tv (bne rfl rfl) rfl <| nz <| cD rfl hp (fun hc3 hp => ?_) fun hc3 hp => ?_
 · exact sr <| ta rfl <| nz <| TC.ret <| rt hp [] ⟨rfl, rfl⟩
 · refine sk k2 rfl <| TC.seq fun K4 k5 => sr <| ta rfl <| nz <| TC.block <| bE hp fun z_7 hz8 hr9 => ?_
   have J13 {e12} (hq14 : .go () = z_7) : ∀ w, St E H [] w → K4 (ovr e12 []) w := by
    subst hq14
    replace hp : fettleref02_Same.nx11 = some r := hr9
    exact tg k5 <| sr <| ta rfl <| nz <| TC.ret <| rt hp [] ⟨rfl, rfl⟩
   refine lp hz8 [1, 0] rfl (fun s e L => ∃ e6, e = ovr e6 [(2, .pointer (some ⟨b7, 0, none⟩)), (3, .pointer (some ⟨b8, 0, none⟩)), (5, .int .i64 s)] ∧ L = [bx b7 35 [v2], bx b8 35 [v5]]) ⟨_, ovr_eq _ _ rfl, rfl⟩ ?_
   rintro x9 _ _ ⟨e6, rfl, rfl⟩ X10 hp hx11
   replace hp : fettleref02_Same.bd11 a1 a4 x9 = some X10 := hp
   refine TC.seq fun K15 k16 => sr <| tm rfl <| tv (fa f35_0 rfl) rfl <| tv (lb s33 0 rfl rfl rfl) rfl <| tv (ln u33 h3 rfl) rfl <| tv (blt rfl rfl) rfl <| nz <| cD rfl hp (fun hc17 hp => ?_) fun hc17 hp => ?_
   · refine sk k16 rfl <| TC.seq fun K18 k19 => TC.block <| TC.seq fun K20 k21 => cq mix (by kernel_rfl) <| qv (fa f35_0 rfl) rfl <| qv (lb s33 0 rfl rfl rfl) rfl <| qv mv rfl <| qi u33 i40 h3 hp rfl rfl rfl rfl ?_
     rintro x10 b11 o12 _ hp ⟨v16, v18, rfl, h17, h19⟩ h15
     refine qv (lR (ds := [.int .i64 x10.params, .int .i64 x10.result, v16, v18]) ag_40 sH h15 0 rfl rfl rfl) rfl <| qv (fa f35_0 rfl) rfl <| qv (lb s33 1 rfl rfl rfl) rfl <| qv mv rfl <| qi u33 i40 h6 hp rfl rfl rfl rfl ?_
     rintro x20 b21 o22 _ hp ⟨v26, v28, rfl, h27, h29⟩ h25
     refine qv (lR (ds := [.int .i64 x20.params, .int .i64 x20.result, v26, v28]) ag_40 sH h25 0 rfl rfl rfl) rfl <| bE hp fun x30 hy24 hp => qc (.bool x30) c20 (fun _ => fettleref02_SameFunc_ok (a1 := x10) (a6 := x20) (h17.mono subH) (h19.mono subH) (h27.mono subH) (h29.mono subH) hy24) (fun _ _ h => ⟨h.1.symm, h.2⟩) rfl <| qv sg rfl <| QL.nil <| tg k21 <| sr <| tm rfl <| tv (rv_not rfl) rfl <| nz <| cB rfl hp (fun hc25 hp => ?_) fun hc25 hp => ?_
     · refine sr <| ta rfl <| nz <| TC.ret ?_
       obtain rfl := ex_ret hp hx11
       exact rt hr9 [] ⟨rfl, rfl⟩
     · exact sk k19 rfl <| TC.region <| tm rfl <| tv (bad rfl rfl) rfl <| ta rfl <| nl <| gk hp [0, 1] ⟨_, ovr_eq _ _ rfl, rfl⟩
   · exact TC.exit <| jn [] (J13 (ex_ret hp hx11))

/-! ### fettle/fettlelaw09.CallsStays -/
abbrev fettlelaw09_CallsStays.R (r : Bool) (v : Value) (A : List FP) : Prop := .bool r = v ∧ A = []
def fettlelaw09_CallsStays.nx32 (a1 : PModule) (x5 : Bool) (x7 : PModule) (x12 : List (List (List Int))) (x16 : List (List Int)) (x24 : List (List (List Int))) : Option Bool :=
  (if x5 = true then (fettleref02_Same x7 a1).bind fun x35 =>
  some x35 else some false).bind fun t29 =>
  (if t29 = true ∧ (len x24) = (len x12) then (calls_Rings x7).bind fun x31 =>
  some (decide ((len x31) = (len x16))) else some false).bind fun t30 =>
  some t30
def fettlelaw09_CallsStays.bd32 (x24 : List (List (List Int))) (x28 : Int) : Option (Ex (Ex Bool Unit) Int) :=
  if x28 < (len x24) then
    (idx x24 x28).bind fun x36 =>
    (if (len x36) = 0 then some true else (idx x24 x28).bind fun x68 =>
    (idx x68 0).bind fun x76 =>
    some (decide ((len x76) = 0))).bind fun t44 =>
    (if t44 = true then some true else (idx x24 x28).bind fun x46 =>
    (idx x46 0).bind fun x54 =>
    (idx x54 0).bind fun x62 =>
    some (decide (x62 < 0))).bind fun t45 =>
    if t45 = true then
      some (.ret (.ret false))
    else
      some (.go (w64 (x28 + 1)))
  else
    some (.ret (.go ()))
def fettlelaw09_CallsStays.nx21 (a1 : PModule) (x5 : Bool) (x7 : PModule) (x12 : List (List (List Int))) (x16 : List (List Int)) : Option Bool :=
  (calls_Waves x7).bind fun x24 =>
  (whl (fun (s : Int) => fettlelaw09_CallsStays.bd32 x24 s) FUEL 0).bind fun z =>
  match z with
    | .ret r => some r
    | .go p => fettlelaw09_CallsStays.nx32 a1 x5 x7 x12 x16 x24
def fettlelaw09_CallsStays.nx95 (x23 : Int) (x88 : List (List (List Int))) : Option (Ex Unit (List (List (List Int)) × Int)) :=
  some (.go (x88, (w64 (x23 + 1))))
def fettlelaw09_CallsStays.nx110 (x87 : Int) (x103 : List (List (List Int))) : Option (Ex (List (List (List Int))) (List (List (List Int)) × Int)) :=
  some (.go (x103, (w64 (x87 + 1))))
def fettlelaw09_CallsStays.bd110 (x23 : Int) (x87 : Int) (x99 : List (List (List Int))) (x102 : Int) : Option (Ex (List (List (List Int))) (List (List (List Int)) × Int)) :=
  (idx x99 x23).bind fun x106 =>
  (idx x106 x87).bind fun x114 =>
  if x102 < (len x114) then
    (idx x99 x23).bind fun x122 =>
    (idx x122 x87).bind fun x131 =>
    (idx x131 x102).bind fun x140 =>
    some (.go ((x99.set (x23).toNat (x122.set (x87).toNat (x131.set (x102).toNat (-1)))), (w64 (x102 + 1))))
  else
    some (.ret x99)
def fettlelaw09_CallsStays.bd95 (x23 : Int) (x84 : List (List (List Int))) (x87 : Int) : Option (Ex (List (List (List Int))) (List (List (List Int)) × Int)) :=
  (idx x84 x23).bind fun x91 =>
  if x87 < (len x91) then
    (whl (fun (s : (List (List (List Int)) × Int)) => fettlelaw09_CallsStays.bd110 x23 x87 s.1 s.2) FUEL (x84, 0)).bind fun z =>
    fettlelaw09_CallsStays.nx110 x87 z
  else
    some (.ret x84)
def fettlelaw09_CallsStays.bd21  (x20 : List (List (List Int))) (x23 : Int) : Option (Ex Unit (List (List (List Int)) × Int)) :=
  if x23 < (len x20) then
    (whl (fun (s : (List (List (List Int)) × Int)) => fettlelaw09_CallsStays.bd95 x23 s.1 s.2) FUEL (x20, 0)).bind fun z =>
    fettlelaw09_CallsStays.nx95 x23 z
  else
    some (.ret ())
def fettlelaw09_CallsStays (a1 : PModule) : Option Bool :=
  (fettlelaw09_up).bind fun x5 =>
  (fettleref02_Small a1).bind fun x6 =>
  if (!x6) = true then
    some x5
  else
    (fettleref02_Copy a1).bind fun x7 =>
    (calls_Waves x7).bind fun x12 =>
    (calls_Rings x7).bind fun x16 =>
    (whl (fun (s : (List (List (List Int)) × Int)) => fettlelaw09_CallsStays.bd21 s.1 s.2) FUEL (x12, 0)).bind fun z =>
    fettlelaw09_CallsStays.nx21 a1 x5 x7 x12 x16
set_option maxHeartbeats 4000000 in
theorem fettlelaw09_CallsStays_ok {E : World} {H : FP} {w : World} {a1 : PModule} {v2 : Value} {r : Bool} (h3 : SlI kFunc H a1.funcs v2) (hp : fettlelaw09_CallsStays a1 = some r) (hst : St E H [] w) :
    Fn Try.prog 9 #[.agg #[v2]] w fun v w' => ∃ A, fettlelaw09_CallsStays.R r v A ∧ St E H A w' := by
 refine fb 119 [.tmp 2] Try.func9 rfl rfl rfl rfl rfl hst <| sr <| tb [v2] rfl rfl fun b4 => ta rfl <| nz <| sr <| bE hp fun x5 hy1 hp => tc 0 [_] rfl c24 (fun _ => fettlelaw09_up_ok hy1) rfl ?_
 rintro _ _ ⟨rfl, rfl⟩
 refine ta rfl <| nz <| sr <| tv (lA (ds := [v2]) ag_35 0 rfl rfl rfl rfl) rfl <| bE hp fun x6 hy3 hp => tc 0 [_] rfl c15 (fun _ => fettleref02_Small_ok (a1 := a1) (h3.mono subH) hy3) rfl ?_
 rintro _ _ ⟨rfl, rfl⟩
 refine ta rfl <| nz <| TC.seq fun K5 k6 => sr <| tm rfl <| tv (rv_not rfl) rfl <| nz <| cB rfl hp (fun hc7 hp => ?_) fun hc7 hp => ?_
 · exact sr <| tm rfl <| ta rfl <| nz <| TC.ret <| rt hp [] ⟨rfl, rfl⟩
 · refine sk k6 rfl <| sr <| tv (lA (ds := [v2]) ag_35 0 rfl rfl rfl rfl) rfl <| bE hp fun x7 hy8 hp => tc 0 [_] rfl c16 (fun _ => fettleref02_Copy_ok (a1 := a1) (h3.mono subH) hy8) rfl ?_
   rintro _ _ ⟨v8, F9, rfl, rfl, h10⟩
   refine tl i35 rfl fun b11 => tS 0 m35 rfl rfl [v8] rfl (oc (h10).one oc0) rfl rfl <| nz <| sr <| tv (lA (ds := [v8]) ag_35 0 rfl rfl rfl rfl) rfl <| bE hp fun x12 hy10 hp => tc 0 [_,_,_] rfl c25 (fun _ => calls_Waves_ok (a1 := x7) (h10.ro.mono (subB 1 rfl)) hy10) rfl ?_
   rintro _ _ ⟨v13, F14, rfl, rfl, h15⟩
   refine ta rfl <| nz <| sr <| tv (lA (ds := [v8]) ag_35 1 rfl rfl rfl rfl) rfl <| bE hp fun x16 hy12 hp => tc 0 [_,_,_,_] rfl c27 (fun _ => calls_Rings_ok (a1 := x7) (h10.ro.mono (subB 2 rfl)) hy12) rfl ?_
   rintro _ _ ⟨v17, F18, rfl, rfl, h19⟩
   refine ta rfl <| nz <| sr <| tm rfl <| tv (ln u58 h15.ro rfl) rfl <| ta rfl <| nz <| TC.seq fun K14 k15 => sr <| ta rfl <| nz <| TC.block <| bE hp fun z_17 hz18 hr19 => ?_
   have J83 {e22} (hq84 : () = z_17) : ∀ w, St E H [bx b4 35 [v2], bx b11 35 [v8], F9, F18] w → K14 (ovr e22 [(1, .pointer (some ⟨b4, 0, none⟩)), (3, .bool x5), (5, .pointer (some ⟨b11, 0, none⟩)), (7, v17), (8, .int .i64 (len x12))]) w := by
    subst hq84
    replace hp : fettlelaw09_CallsStays.nx21 a1 x5 x7 x12 x16 = some r := hr19
    refine tg k15 <| sr <| tv (lA (ds := [v8]) ag_35 1 rfl rfl rfl rfl) rfl <| bE hp fun x24 hy23 hp => tc 0 [_,_,_,_] rfl c25 (fun _ => calls_Waves_ok (a1 := x7) (h10.ro.mono (subB 2 rfl)) hy23) rfl ?_
    rintro _ _ ⟨v25, F26, rfl, rfl, h27⟩
    refine ta rfl <| nz <| TC.seq fun K25 k26 => sr <| ta rfl <| nz <| TC.block <| bE hp fun z_28 hz29 hr30 => ?_
    have J55 {e33} (hq56 : .go () = z_28) : ∀ w, St E H [bx b4 35 [v2], bx b11 35 [v8], F9, F18, F26] w → K25 (ovr e33 [(1, .pointer (some ⟨b4, 0, none⟩)), (3, .bool x5), (5, .pointer (some ⟨b11, 0, none⟩)), (7, v17), (8, .int .i64 (len x12)), (12, v25)]) w := by
     subst hq56
     replace hp : fettlelaw09_CallsStays.nx32 a1 x5 x7 x12 x16 x24 = some r := hr30
     refine tg k26 <| sr <| tm rfl <| tm rfl <| bE hp fun t29 ht52 hp => TL.cut 4 fun K34 k35 => ?_
     have J36 {e38} : ∀ w, St E H [bx b4 35 [v2], bx b11 35 [v8], F9, F18, F26] w → K34 (ovr e38 [(104, .bool t29), (5, .pointer (some ⟨b11, 0, none⟩)), (7, v17), (8, .int .i64 (len x12)), (12, v25)]) w := by
      refine tlg k35 <| tm rfl <| TL.cut 5 fun K39 k40 => ?_
      have J41 {e43} : ∀ w, St E H [bx b4 35 [v2], bx b11 35 [v8], F9, F18, F26] w → K39 (ovr e43 [(110, .bool (decide (t29 = true ∧ (len x24) = (len x12)))), (5, .pointer (some ⟨b11, 0, none⟩)), (7, v17)]) w := by
       refine tlg k40 <| tm rfl <| bE hp fun t30 ht49 hp => TL.cut 7 fun K44 k45 => ?_
       have J46 {e48} : ∀ w, St E H [bx b4 35 [v2], bx b11 35 [v8], F9, F18, F26] w → K44 (ovr e48 [(118, .bool t30)]) w := by
        exact tlg k45 <| ta rfl <| nz <| TC.ret <| rt hp [] ⟨rfl, rfl⟩
       refine ifE ht49 (fun hc47 hp => ?_) fun hc47 hp => ?_
       · refine gy rfl (bT hc47) <| tv (lA (ds := [v8]) ag_35 1 rfl rfl rfl rfl) rfl <| gy rfl (bT hc47) <| bE hp fun x31 hy50 hp => tc 0 [_,_,_,_,_] rfl c27 (fun _ => calls_Rings_ok (a1 := x7) (h10.ro.mono (subB 2 rfl)) hy50) rfl ?_
         rintro _ _ ⟨v32, F33, rfl, rfl, h34⟩
         refine gy rfl (bT hc47) <| tv (ln u60 h34.ro rfl) rfl <| gy rfl (bT hc47) <| tm rfl <| gy rfl (bT hc47) <| tv (ln u60 h19.ro rfl) rfl <| gy rfl (bT hc47) <| tv (beq rfl rfl) rfl <| tv (pT (bT hc47)) rfl <| tp [1, 2, 3, 4, 5] [_,_,_,_,_] rfl rfl ?_
         obtain rfl := Option.some.inj hp
         exact nj J46 rfl
       · refine gn rfl (bF hc47) rfl rfl <| gn rfl (bF hc47) rfl rfl <| gn rfl (bF hc47) rfl rfl <| gn rfl (bF hc47) rfl rfl <| gn rfl (bF hc47) rfl rfl <| gn rfl (bF hc47) rfl rfl <| tv (pF (bF hc47)) rfl ?_
         obtain rfl := Option.some.inj hp
         exact nj J46 rfl
      by_cases hc42 : t29 = true
      · exact gy rfl (bbT hc42) <| tm rfl <| gy rfl (bbT hc42) <| tv (ln u58 h27.ro rfl) rfl <| gy rfl (bbT hc42) <| tm rfl <| gy rfl (bbT hc42) <| tv (beq rfl rfl) rfl <| tv (pT (bbT hc42)) rfl <| nj J41 (bAt hc42)
      · exact gn rfl (bbF hc42) rfl rfl <| gn rfl (bbF hc42) rfl rfl <| gn rfl (bbF hc42) rfl rfl <| gn rfl (bbF hc42) rfl rfl <| tv (pF (bbF hc42)) rfl <| nj J41 (bAf hc42)
     refine ifE ht52 (fun hc37 hp => ?_) fun hc37 hp => ?_
     · refine gy rfl (bbT hc37) <| tv (lA (ds := [v8]) ag_35 1 rfl rfl rfl rfl) rfl <| gy rfl (bbT hc37) <| tv (lA (ds := [v2]) ag_35 0 rfl rfl rfl rfl) rfl <| gy rfl (bbT hc37) <| bE hp fun x35 hy53 hp => tc 0 [_,_,_,_,_] rfl c19 (fun _ => fettleref02_Same_ok (a1 := x7) (a4 := a1) (h10.ro.mono (subB 2 rfl)) (h3.mono subH) hy53) rfl ?_
       rintro _ _ ⟨rfl, rfl⟩
       refine tv (pT (bbT hc37)) rfl ?_
       obtain rfl := Option.some.inj hp
       exact nj J36 rfl
     · refine gn rfl (bbF hc37) rfl rfl <| gn rfl (bbF hc37) rfl rfl <| gn rfl (bbF hc37) rfl rfl <| tv (pF (bbF hc37)) rfl ?_
       obtain rfl := Option.some.inj hp
       exact nj J36 rfl
    refine lp hz29 [1, 2, 3, 4, 0] rfl (fun s e L => ∃ e27, e = ovr e27 [(1, .pointer (some ⟨b4, 0, none⟩)), (3, .bool x5), (5, .pointer (some ⟨b11, 0, none⟩)), (7, v17), (8, .int .i64 (len x12)), (12, v25), (13, .int .i64 s)] ∧ L = [bx b4 35 [v2], bx b11 35 [v8], F9, F18, F26]) ⟨_, ovr_eq _ _ rfl, rfl⟩ ?_
    rintro x28 _ _ ⟨e27, rfl, rfl⟩ X31 hp hx32
    replace hp : fettlelaw09_CallsStays.bd32 x24 x28 = some X31 := hp
    refine TC.seq fun K57 k58 => sr <| tm rfl <| tm rfl <| tv (ln u58 h27.ro rfl) rfl <| tv (blt rfl rfl) rfl <| nz <| cD rfl hp (fun hc59 hp => ?_) fun hc59 hp => ?_
    · refine sk k58 rfl <| TC.seq fun K60 k61 => TC.block <| sr <| tm rfl <| tm rfl <| ti u58 i60 (h27).ro hp rfl rfl rfl rfl ?_
      rintro x36 b37 o38 _ hp ⟨v42, rfl, h43⟩ h41
      refine tv (lr s60 (Src.at_ 4 rfl) h41 0 rfl rfl) rfl <| tv (ln u60 h43 rfl) rfl <| tv (beq rfl rfl) rfl <| tm rfl <| bE hp fun t44 ht78 hp => TL.cut 9 fun K63 k64 => ?_
      have J65 {e67} : ∀ w, St E H [bx b4 35 [v2], bx b11 35 [v8], F9, F18, F26] w → K63 (ovr e67 [(87, .bool t44), (1, .pointer (some ⟨b4, 0, none⟩)), (3, .bool x5), (5, .pointer (some ⟨b11, 0, none⟩)), (7, v17), (8, .int .i64 (len x12)), (12, v25), (13, .int .i64 x28)]) w := by
       refine tlg k64 <| tm rfl <| bE hp fun t45 ht74 hp => TL.cut 10 fun K68 k69 => ?_
       have J70 {e72} : ∀ w, St E H [bx b4 35 [v2], bx b11 35 [v8], F9, F18, F26] w → K68 (ovr e72 [(98, .bool t45), (1, .pointer (some ⟨b4, 0, none⟩)), (3, .bool x5), (5, .pointer (some ⟨b11, 0, none⟩)), (7, v17), (8, .int .i64 (len x12)), (12, v25), (13, .int .i64 x28)]) w := by
        refine tlg k69 <| nz <| cB rfl hp (fun hc73 hp => ?_) fun hc73 hp => ?_
        · refine sr <| ta rfl <| nz <| TC.ret ?_
          obtain rfl := ex_ret hp hx32
          exact rt hr30 [] ⟨rfl, rfl⟩
        · exact sk k61 rfl <| TC.region <| tm rfl <| tv (bad rfl rfl) rfl <| ta rfl <| nl <| gk hp [0, 1, 2, 3, 4] ⟨_, ovr_eq _ _ rfl, rfl⟩
       refine ifE ht74 (fun hc71 hp => ?_) fun hc71 hp => ?_
       · refine gn rfl (bbT hc71) rfl rfl <| gn rfl (bbT hc71) rfl rfl <| gn rfl (bbT hc71) rfl rfl <| gn rfl (bbT hc71) rfl rfl <| gn rfl (bbT hc71) rfl rfl <| gn rfl (bbT hc71) rfl rfl <| gn rfl (bbT hc71) rfl rfl <| gn rfl (bbT hc71) rfl rfl <| gn rfl (bbT hc71) rfl rfl <| tv (pT (bbT hc71)) rfl ?_
         obtain rfl := Option.some.inj hp
         exact nj J70 rfl
       · refine gy rfl (bbF hc71) <| tm rfl <| gy rfl (bbF hc71) <| tm rfl <| gy rfl (bbF hc71) <| ti u58 i60 (h27).ro hp rfl rfl rfl rfl ?_
         rintro x46 b47 o48 _ hp ⟨v52, rfl, h53⟩ h51
         refine gy rfl (bbF hc71) <| tv (lr s60 (Src.at_ 4 rfl) h51 0 rfl rfl) rfl <| gy rfl (bbF hc71) <| ti u60 i25 h53 hp rfl rfl rfl rfl ?_
         rintro x54 b55 o56 _ hp ⟨v60, rfl, h61⟩ h59
         refine gy rfl (bbF hc71) <| tv (lr s25 (Src.at_ 4 rfl) h59 0 rfl rfl) rfl <| gy rfl (bbF hc71) <| ti u25 i3 h61 hp rfl rfl rfl rfl ?_
         rintro x62 b63 o64 _ hp rfl h67
         refine gy rfl (bbF hc71) <| tv (lr s3 (Src.at_ 4 rfl) h67 0 rfl rfl) rfl <| gy rfl (bbF hc71) <| tv (blt rfl rfl) rfl <| tv (pF (bbF hc71)) rfl ?_
         obtain rfl := Option.some.inj hp
         exact nj J70 rfl
      refine ifE ht78 (fun hc66 hp => ?_) fun hc66 hp => ?_
      · refine gn rfl (bT hc66) rfl rfl <| gn rfl (bT hc66) rfl rfl <| gn rfl (bT hc66) rfl rfl <| gn rfl (bT hc66) rfl rfl <| gn rfl (bT hc66) rfl rfl <| gn rfl (bT hc66) rfl rfl <| gn rfl (bT hc66) rfl rfl <| gn rfl (bT hc66) rfl rfl <| tv (pT (bT hc66)) rfl ?_
        obtain rfl := Option.some.inj hp
        exact nj J65 rfl
      · refine gy rfl (bF hc66) <| tm rfl <| gy rfl (bF hc66) <| tm rfl <| gy rfl (bF hc66) <| ti u58 i60 (h27).ro hp rfl rfl rfl rfl ?_
        rintro x68 b69 o70 _ hp ⟨v74, rfl, h75⟩ h73
        refine gy rfl (bF hc66) <| tv (lr s60 (Src.at_ 4 rfl) h73 0 rfl rfl) rfl <| gy rfl (bF hc66) <| ti u60 i25 h75 hp rfl rfl rfl rfl ?_
        rintro x76 b77 o78 _ hp ⟨v82, rfl, h83⟩ h81
        refine gy rfl (bF hc66) <| tv (lr s25 (Src.at_ 4 rfl) h81 0 rfl rfl) rfl <| gy rfl (bF hc66) <| tv (ln u25 h83 rfl) rfl <| gy rfl (bF hc66) <| tv (beq rfl rfl) rfl <| tv (pF (bF hc66)) rfl ?_
        obtain rfl := Option.some.inj hp
        exact nj J65 rfl
    · exact TC.exit <| jn [0, 1, 2, 3, 4] (J55 (ex_ret hp hx32))
   refine lp hz18 [4, 2, 3, 1, 0] rfl (fun s e L => ∃ x20 x23 F21 e16, s = (x20, x23) ∧ SlO 60 (kSl 25 (kSl 3 (kInt .i64))) x20 v13 F21 ∧ e = ovr e16 [(1, .pointer (some ⟨b4, 0, none⟩)), (3, .bool x5), (5, .pointer (some ⟨b11, 0, none⟩)), (6, v13), (7, v17), (8, .int .i64 (len x12)), (9, .int .i64 x23)] ∧ L = [bx b4 35 [v2], bx b11 35 [v8], F9, F21, F18]) ⟨_, _, F14, _, rfl, h15, ovr_eq _ _ rfl, rfl⟩ ?_
   rintro _ _ _ ⟨x20, x23, F21, e16, rfl, h22, rfl, rfl⟩ X20 hp hx21
   replace hp : fettlelaw09_CallsStays.bd21 x20 x23 = some X20 := hp
   refine TC.seq fun K85 k86 => sr <| tm rfl <| tm rfl <| tv (ln u58 h22.ro rfl) rfl <| tv (blt rfl rfl) rfl <| nz <| cD rfl hp (fun hc87 hp => ?_) fun hc87 hp => ?_
   · refine sk k86 rfl <| TC.seq fun K88 k89 => TC.block <| sr <| ta rfl <| nz <| TC.block <| bE hp fun z_91 hz92 hr93 => ?_
     have J97 {x88 F89 e96} (h90 : SlO 60 (kSl 25 (kSl 3 (kInt .i64))) x88 v13 F89) (hq98 : x88 = z_91) : ∀ w, St E H [bx b4 35 [v2], bx b11 35 [v8], F9, F89, F18] w → K88 (ovr e96 [(1, .pointer (some ⟨b4, 0, none⟩)), (3, .bool x5), (5, .pointer (some ⟨b11, 0, none⟩)), (6, v13), (7, v17), (8, .int .i64 (len x12)), (9, .int .i64 x23)]) w := by
      subst hq98
      replace hp : fettlelaw09_CallsStays.nx95 x23 x88 = some X20 := hr93
      exact tg k89 <| TC.region <| tm rfl <| tv (bad rfl rfl) rfl <| ta rfl <| nl <| gk hp [0, 1, 2, 3, 4] ⟨_, _, F89, _, rfl, h90, ovr_eq _ _ rfl, rfl⟩
     refine lp hz92 [0, 1, 2, 3, 4] rfl (fun s e L => ∃ x84 x87 F85 e90, s = (x84, x87) ∧ SlO 60 (kSl 25 (kSl 3 (kInt .i64))) x84 v13 F85 ∧ e = ovr e90 [(1, .pointer (some ⟨b4, 0, none⟩)), (3, .bool x5), (5, .pointer (some ⟨b11, 0, none⟩)), (6, v13), (7, v17), (8, .int .i64 (len x12)), (9, .int .i64 x23), (10, .int .i64 x87)] ∧ L = [bx b4 35 [v2], bx b11 35 [v8], F9, F85, F18]) ⟨_, _, F21, _, rfl, h22, ovr_eq _ _ rfl, rfl⟩ ?_
     rintro _ _ _ ⟨x84, x87, F85, e90, rfl, h86, rfl, rfl⟩ X94 hp hx95
     replace hp : fettlelaw09_CallsStays.bd95 x23 x84 x87 = some X94 := hp
     refine TC.seq fun K99 k100 => sr <| tm rfl <| tm rfl <| tm rfl <| ti u58 i60 (h86).ro hp rfl rfl rfl rfl ?_
     rintro x91 b92 o93 _ hp ⟨v97, rfl, h98⟩ h96
     refine tv (lr s60 (Src.at_ 3 rfl) h96 0 rfl rfl) rfl <| tv (ln u60 h98 rfl) rfl <| tv (blt rfl rfl) rfl <| nz <| cD rfl hp (fun hc102 hp => ?_) fun hc102 hp => ?_
     · refine sk k100 rfl <| TC.seq fun K103 k104 => TC.block <| sr <| ta rfl <| nz <| TC.block <| bE hp fun z_106 hz107 hr108 => ?_
       have J112 {x103 F104 e111} (h105 : SlO 60 (kSl 25 (kSl 3 (kInt .i64))) x103 v13 F104) (hq113 : x103 = z_106) : ∀ w, St E H [bx b4 35 [v2], bx b11 35 [v8], F9, F104, F18] w → K103 (ovr e111 [(1, .pointer (some ⟨b4, 0, none⟩)), (3, .bool x5), (5, .pointer (some ⟨b11, 0, none⟩)), (6, v13), (7, v17), (8, .int .i64 (len x12)), (9, .int .i64 x23), (10, .int .i64 x87)]) w := by
        subst hq113
        replace hp : fettlelaw09_CallsStays.nx110 x87 x103 = some X94 := hr108
        exact tg k104 <| TC.region <| tm rfl <| tv (bad rfl rfl) rfl <| ta rfl <| nl <| gk hp [0, 1, 2, 3, 4] ⟨_, _, F104, _, rfl, h105, ovr_eq _ _ rfl, rfl⟩
       refine lp hz107 [0, 1, 2, 3, 4] rfl (fun s e L => ∃ x99 x102 F100 e105, s = (x99, x102) ∧ SlO 60 (kSl 25 (kSl 3 (kInt .i64))) x99 v13 F100 ∧ e = ovr e105 [(1, .pointer (some ⟨b4, 0, none⟩)), (3, .bool x5), (5, .pointer (some ⟨b11, 0, none⟩)), (6, v13), (7, v17), (8, .int .i64 (len x12)), (9, .int .i64 x23), (10, .int .i64 x87), (11, .int .i64 x102)] ∧ L = [bx b4 35 [v2], bx b11 35 [v8], F9, F100, F18]) ⟨_, _, F85, _, rfl, h86, ovr_eq _ _ rfl, rfl⟩ ?_
       rintro _ _ _ ⟨x99, x102, F100, e105, rfl, h101, rfl, rfl⟩ X109 hp hx110
       replace hp : fettlelaw09_CallsStays.bd110 x23 x87 x99 x102 = some X109 := hp
       refine TC.seq fun K114 k115 => sr <| tm rfl <| tm rfl <| tm rfl <| ti u58 i60 (h101).ro hp rfl rfl rfl rfl ?_
       rintro x106 b107 o108 _ hp ⟨v112, rfl, h113⟩ h111
       refine tv (lr s60 (Src.at_ 3 rfl) h111 0 rfl rfl) rfl <| tm rfl <| ti u60 i25 h113 hp rfl rfl rfl rfl ?_
       rintro x114 b115 o116 _ hp ⟨v120, rfl, h121⟩ h119
       refine tv (lr s25 (Src.at_ 3 rfl) h119 0 rfl rfl) rfl <| tv (ln u25 h121 rfl) rfl <| tv (blt rfl rfl) rfl <| nz <| cD rfl hp (fun hc118 hp => ?_) fun hc118 hp => ?_
       · refine sk k115 rfl <| TC.seq fun K119 k120 => TC.block <| TC.region <| tm rfl <| tm rfl <| tp [3, 0, 1, 2, 4] [_,_,_,_,_] rfl rfl <| bE hp fun x122 hx121 hp => TL.open_ h101 hx121 ?_
         rintro b123 _ F125 F126 h127 ⟨v129, rfl, h130⟩
         refine tv (rv_ixH u58 i60 rfl rfl (idx_some hx121).1 h127) rfl <| tv (lr s60 (Src.at_ 0 rfl) (Hole.cells h127) 0 rfl rfl) rfl <| tm rfl <| tp [1, 0, 2, 3, 4, 5] [_,_,_,_,_,_] rfl rfl <| bE hp fun x131 hx122 hp => TL.open_ h130 hx122 ?_
         rintro b132 _ F134 F135 h136 ⟨v138, rfl, h139⟩
         exact tv (rv_ixH u60 i25 rfl rfl (idx_some hx122).1 h136) rfl <| tv (lr s25 (Src.at_ 0 rfl) (Hole.cells h136) 0 rfl rfl) rfl <| tm rfl <| tO u25 i3 h139 hp rfl rfl rfl rfl fun x140 b141 o142 h143 hp => tp [1, 0, 2, 3, 4, 5, 6] [_,_,_,_,_,_,_] rfl rfl <| tE h139 h143 m3 rfl ⟨rfl, rfl⟩ w1 fun F144 h145 => nl <| tg k120 <| TC.region <| tm rfl <| tv (bad rfl rfl) rfl <| ta rfl <| nl <| wp [1, 0, 2, 3, 4, 5, 6] [_,_,_,_,_,_,_] rfl rfl <| W.shut (a := (x131.set (x102).toNat (-1))) h136 ⟨_, rfl, h145⟩ fun F146 h147 => wp [1, 0, 2, 3, 4, 5] [_,_,_,_,_,_] rfl rfl <| W.shut (a := (x122.set (x87).toNat (x131.set (x102).toNat (-1)))) h127 ⟨_, rfl, h147⟩ fun F148 h149 => gk hp [1, 2, 3, 0, 4] ⟨_, _, F148, _, rfl, h149, ovr_eq _ _ rfl, rfl⟩
       · exact TC.exit <| jn [0, 1, 2, 3, 4] (J112 h101 (ex_ret hp hx110))
     · exact TC.exit <| jn [0, 1, 2, 3, 4] (J97 h86 (ex_ret hp hx95))
   · exact TC.exit <| jn [0, 1, 2, 4] (J83 (ex_ret hp hx21))
end Go.Proofs.Yteaknconpkklhaa
