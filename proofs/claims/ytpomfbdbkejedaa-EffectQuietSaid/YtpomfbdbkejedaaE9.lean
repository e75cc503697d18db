/- The walk through the program's functions: each one's pure reading, and that a call does what it says. No conditions. -/
import Derived.Test.YtpomfbdbkejedaaE8
set_option linter.unusedVariables false
set_option linter.unusedSimpArgs false
namespace Go.Proofs.Ytpomfbdbkejedaa
open Go Go.Proofs

/-! ### fettle/fettleref02.sameBlock -/
abbrev fettleref02_sameBlock.R (r : Bool) (v : Value) (A : List FP) : Prop := .bool r = v ∧ A = []
def fettleref02_sameBlock.nx40  : Option Bool :=
  some true
def fettleref02_sameBlock.bd40 (a1 : PBlock) (a8 : PBlock) (x19 : Int) : Option (Ex (Ex Bool Unit) Int) :=
  if x19 < (len a1.ins) then
    (idx a1.ins x19).bind fun x20 =>
    (idx a8.ins x19).bind fun x29 =>
    (if (¬ x20.op = x29.op) ∨ (¬ x20.dst = x29.dst) then some true else (fettleref02_ints x20.args x29.args).bind fun x39 =>
    some (!x39)).bind fun t38 =>
    if (t38 = true ∨ (¬ x20.imm = x29.imm)) ∨ (¬ x20.fn = x29.fn) then
      some (.ret (.ret false))
    else
      some (.go (w64 (x19 + 1)))
  else
    some (.ret (.go ()))
def fettleref02_sameBlock.nx31 (a1 : PBlock) (a8 : PBlock) : Option Bool :=
  (whl (fun (s : Int) => fettleref02_sameBlock.bd40 a1 a8 s) FUEL 0).bind fun z =>
  match z with
    | .ret r => some r
    | .go p => fettleref02_sameBlock.nx40
def fettleref02_sameBlock.bd31 (a1 : PBlock) (a8 : PBlock) (x18 : Int) : Option (Ex (Ex Bool Unit) Int) :=
  if x18 < (len a1.phis) then
    (idx a1.phis x18).bind fun x40 =>
    (idx a8.phis x18).bind fun x48 =>
    (if ¬ x40.dst = x48.dst then some true else (idx a1.phis x18).bind fun x57 =>
    (idx a8.phis x18).bind fun x65 =>
    (fettleref02_ints x57.args x65.args).bind fun x73 =>
    some (!x73)).bind fun t56 =>
    if t56 = true then
      some (.ret (.ret false))
    else
      some (.go (w64 (x18 + 1)))
  else
    some (.ret (.go ()))
def fettleref02_sameBlock (a1 : PBlock) (a8 : PBlock) : Option Bool :=
  (if (((¬ (len a1.phis) = (len a8.phis)) ∨ (¬ (len a1.ins) = (len a8.ins))) ∨ (¬ a1.term.kind = a8.term.kind)) ∨ (¬ a1.term.arg = a8.term.arg) then some true else (fettleref02_ints a1.term.to a8.term.to).bind fun x74 =>
  some (!x74)).bind fun t17 =>
  if t17 = true then
    some false
  else
    (whl (fun (s : Int) => fettleref02_sameBlock.bd31 a1 a8 s) FUEL 0).bind fun z =>
    match z with
      | .ret r => some r
      | .go p => fettleref02_sameBlock.nx31 a1 a8
set_option maxHeartbeats 4000000 in
theorem fettleref02_sameBlock_ok {E : World} {H : FP} {w : World} {a1 : PBlock} {a8 : PBlock} {v2 : Value} {v4 : Value} {v6 : Value} {v9 : Value} {v11 : Value} {v13 : Value} {r : Bool} (h3 : SlI kPhi H a1.phis v2) (h5 : SlI kInstr H a1.ins v4) (h7 : SlI (kInt .i64) H a1.term.to v6) (h10 : SlI kPhi H a8.phis v9) (h12 : SlI kInstr H a8.ins v11) (h14 : SlI (kInt .i64) H a8.term.to v13) (hp : fettleref02_sameBlock a1 a8 = some r) (hst : St E H [] w) :
    Fn Try.prog 46 #[.agg #[v2, v4, .int .i64 a1.term.kind, .int .i64 a1.term.arg, v6], .agg #[v9, v11, .int .i64 a8.term.kind, .int .i64 a8.term.arg, v13]] w fun v w' => ∃ A, fettleref02_sameBlock.R r v A ∧ St E H A w' := by
 refine fb 140 [.tmp 4] Try.func46 rfl rfl rfl rfl rfl hst <| sr <| tb [v2, v4, .int .i64 a1.term.kind, .int .i64 a1.term.arg, v6] rfl rfl fun b15 => tb [v9, v11, .int .i64 a8.term.kind, .int .i64 a8.term.arg, v13] rfl rfl fun b16 => ta rfl <| nz <| TC.seq fun K1 k2 => sr <| tv (fa f45_0 rfl) rfl <| tv (lb s40 1 rfl rfl rfl) rfl <| tv (ln u40 h3 rfl) rfl <| tv (fa f45_0 rfl) rfl <| tv (lb s40 0 rfl rfl rfl) rfl <| tv (ln u40 h10 rfl) rfl <| tv (bne rfl rfl) rfl <| tm rfl <| TL.cut 8 fun K3 k4 => ?_
 have J5 {e7} : ∀ w, St E H [bx b16 45 [v9, v11, .int .i64 a8.term.kind, .int .i64 a8.term.arg, v13], bx b15 45 [v2, v4, .int .i64 a1.term.kind, .int .i64 a1.term.arg, v6]] w → K3 (ovr e7 [(24, .bool (decide ((¬ (len a1.phis) = (len a8.phis)) ∨ (¬ (len a1.ins) = (len a8.ins))))), (2, .pointer (some ⟨b15, 0, none⟩)), (3, .pointer (some ⟨b16, 0, none⟩))]) w := by
  refine tlg k4 <| tm rfl <| TL.cut 8 fun K8 k9 => ?_
  have J10 {e12} : ∀ w, St E H [bx b16 45 [v9, v11, .int .i64 a8.term.kind, .int .i64 a8.term.arg, v13], bx b15 45 [v2, v4, .int .i64 a1.term.kind, .int .i64 a1.term.arg, v6]] w → K8 (ovr e12 [(33, .bool (decide (((¬ (len a1.phis) = (len a8.phis)) ∨ (¬ (len a1.ins) = (len a8.ins))) ∨ (¬ a1.term.kind = a8.term.kind)))), (2, .pointer (some ⟨b15, 0, none⟩)), (3, .pointer (some ⟨b16, 0, none⟩))]) w := by
   refine tlg k9 <| tm rfl <| TL.cut 8 fun K13 k14 => ?_
   have J15 {e17} : ∀ w, St E H [bx b16 45 [v9, v11, .int .i64 a8.term.kind, .int .i64 a8.term.arg, v13], bx b15 45 [v2, v4, .int .i64 a1.term.kind, .int .i64 a1.term.arg, v6]] w → K13 (ovr e17 [(42, .bool (decide ((((¬ (len a1.phis) = (len a8.phis)) ∨ (¬ (len a1.ins) = (len a8.ins))) ∨ (¬ a1.term.kind = a8.term.kind)) ∨ (¬ a1.term.arg = a8.term.arg)))), (2, .pointer (some ⟨b15, 0, none⟩)), (3, .pointer (some ⟨b16, 0, none⟩))]) w := by
    refine tlg k14 <| tm rfl <| bE hp fun t17 ht100 hp => TL.cut 9 fun K18 k19 => ?_
    have J20 {e22} : ∀ w, St E H [bx b16 45 [v9, v11, .int .i64 a8.term.kind, .int .i64 a8.term.arg, v13], bx b15 45 [v2, v4, .int .i64 a1.term.kind, .int .i64 a1.term.arg, v6]] w → K18 (ovr e22 [(52, .bool t17), (2, .pointer (some ⟨b15, 0, none⟩)), (3, .pointer (some ⟨b16, 0, none⟩))]) w := by
     refine tlg k19 <| nz <| cB rfl hp (fun hc23 hp => ?_) fun hc23 hp => ?_
     · exact sr <| ta rfl <| nz <| TC.ret <| rt hp [] ⟨rfl, rfl⟩
     · refine sk k2 rfl <| TC.seq fun K24 k25 => sr <| ta rfl <| nz <| TC.block <| bE hp fun z_27 hz28 hr29 => ?_
       have J77 {e32} (hq78 : .go () = z_27) : ∀ w, St E H [bx b15 45 [v2, v4, .int .i64 a1.term.kind, .int .i64 a1.term.arg, v6], bx b16 45 [v9, v11, .int .i64 a8.term.kind, .int .i64 a8.term.arg, v13]] w → K24 (ovr e32 [(2, .pointer (some ⟨b15, 0, none⟩)), (3, .pointer (some ⟨b16, 0, none⟩))]) w := by
        subst hq78
        replace hp : fettleref02_sameBlock.nx31 a1 a8 = some r := hr29
        refine tg k25 <| TC.seq fun K33 k34 => sr <| ta rfl <| nz <| TC.block <| bE hp fun z_36 hz37 hr38 => ?_
        have J42 {e41} (hq43 : .go () = z_36) : ∀ w, St E H [] w → K33 (ovr e41 []) w := by
         subst hq43
         replace hp : fettleref02_sameBlock.nx40 = some r := hr38
         exact tg k34 <| sr <| ta rfl <| nz <| TC.ret <| rt hp [] ⟨rfl, rfl⟩
        refine lp hz37 [0, 1] rfl (fun s e L => ∃ e35, e = ovr e35 [(2, .pointer (some ⟨b15, 0, none⟩)), (3, .pointer (some ⟨b16, 0, none⟩)), (6, .int .i64 s)] ∧ L = [bx b15 45 [v2, v4, .int .i64 a1.term.kind, .int .i64 a1.term.arg, v6], bx b16 45 [v9, v11, .int .i64 a8.term.kind, .int .i64 a8.term.arg, v13]]) ⟨_, ovr_eq _ _ rfl, rfl⟩ ?_
        rintro x19 _ _ ⟨e35, rfl, rfl⟩ X39 hp hx40
        replace hp : fettleref02_sameBlock.bd40 a1 a8 x19 = some X39 := hp
        refine TC.seq fun K44 k45 => sr <| tm rfl <| tv (fa f45_1 rfl) rfl <| tv (lb s41 0 rfl rfl rfl) rfl <| tv (ln u41 h5 rfl) rfl <| tv (blt rfl rfl) rfl <| nz <| cD rfl hp (fun hc46 hp => ?_) fun hc46 hp => ?_
        · refine sk k45 rfl <| TC.seq fun K47 k48 => TC.block <| sr <| tv (fa f45_1 rfl) rfl <| tv (lb s41 0 rfl rfl rfl) rfl <| tm rfl <| ti u41 i49 h5 hp rfl rfl rfl rfl ?_
          rintro x20 b21 o22 _ hp ⟨v26, rfl, h27⟩ h25
          refine tv (lR (ds := [.int .i64 x20.op, .int .i64 x20.dst, v26, .int .i64 x20.imm, .int .i64 x20.fn]) ag_49 sH h25 0 rfl rfl rfl) rfl <| tl i49 rfl fun b28 => tS 0 m49 rfl rfl [.int .i64 x20.op, .int .i64 x20.dst, v26, .int .i64 x20.imm, .int .i64 x20.fn] rfl (oc rfl (oc rfl (oc (h27).one (oc rfl (oc rfl oc0))))) rfl rfl <| nz <| sr <| tv (fa f45_1 rfl) rfl <| tv (lb s41 2 rfl rfl rfl) rfl <| tm rfl <| ti u41 i49 h12 hp rfl rfl rfl rfl ?_
          rintro x29 b30 o31 _ hp ⟨v35, rfl, h36⟩ h34
          refine tv (lR (ds := [.int .i64 x29.op, .int .i64 x29.dst, v35, .int .i64 x29.imm, .int .i64 x29.fn]) ag_49 sH h34 0 rfl rfl rfl) rfl <| tl i49 rfl fun b37 => tS 0 m49 rfl rfl [.int .i64 x29.op, .int .i64 x29.dst, v35, .int .i64 x29.imm, .int .i64 x29.fn] rfl (oc rfl (oc rfl (oc (h36).one (oc rfl (oc rfl oc0))))) rfl rfl <| nz <| sr <| tv (fa f49_0 rfl) rfl <| tv (lb s3 1 rfl rfl rfl) rfl <| tv (fa f49_0 rfl) rfl <| tv (lb s3 0 rfl rfl rfl) rfl <| tv (bne rfl rfl) rfl <| tm rfl <| TL.cut 6 fun K51 k52 => ?_
          have J53 {e55} : ∀ w, St E H [bx b37 49 [.int .i64 x29.op, .int .i64 x29.dst, v35, .int .i64 x29.imm, .int .i64 x29.fn], bx b28 49 [.int .i64 x20.op, .int .i64 x20.dst, v26, .int .i64 x20.imm, .int .i64 x20.fn], bx b15 45 [v2, v4, .int .i64 a1.term.kind, .int .i64 a1.term.arg, v6], bx b16 45 [v9, v11, .int .i64 a8.term.kind, .int .i64 a8.term.arg, v13]] w → K51 (ovr e55 [(117, .bool (decide ((¬ x20.op = x29.op) ∨ (¬ x20.dst = x29.dst)))), (2, .pointer (some ⟨b15, 0, none⟩)), (3, .pointer (some ⟨b16, 0, none⟩)), (6, .int .i64 x19), (7, .pointer (some ⟨b28, 0, none⟩)), (8, .pointer (some ⟨b37, 0, none⟩))]) w := by
           refine tlg k52 <| tm rfl <| bE hp fun t38 ht72 hp => TL.cut 7 fun K56 k57 => ?_
           have J58 {e60} : ∀ w, St E H [bx b37 49 [.int .i64 x29.op, .int .i64 x29.dst, v35, .int .i64 x29.imm, .int .i64 x29.fn], bx b28 49 [.int .i64 x20.op, .int .i64 x20.dst, v26, .int .i64 x20.imm, .int .i64 x20.fn], bx b15 45 [v2, v4, .int .i64 a1.term.kind, .int .i64 a1.term.arg, v6], bx b16 45 [v9, v11, .int .i64 a8.term.kind, .int .i64 a8.term.arg, v13]] w → K56 (ovr e60 [(125, .bool t38), (2, .pointer (some ⟨b15, 0, none⟩)), (3, .pointer (some ⟨b16, 0, none⟩)), (6, .int .i64 x19), (7, .pointer (some ⟨b28, 0, none⟩)), (8, .pointer (some ⟨b37, 0, none⟩))]) w := by
            refine tlg k57 <| tm rfl <| TL.cut 6 fun K61 k62 => ?_
            have J63 {e65} : ∀ w, St E H [bx b37 49 [.int .i64 x29.op, .int .i64 x29.dst, v35, .int .i64 x29.imm, .int .i64 x29.fn], bx b28 49 [.int .i64 x20.op, .int .i64 x20.dst, v26, .int .i64 x20.imm, .int .i64 x20.fn], bx b15 45 [v2, v4, .int .i64 a1.term.kind, .int .i64 a1.term.arg, v6], bx b16 45 [v9, v11, .int .i64 a8.term.kind, .int .i64 a8.term.arg, v13]] w → K61 (ovr e65 [(132, .bool (decide (t38 = true ∨ (¬ x20.imm = x29.imm)))), (2, .pointer (some ⟨b15, 0, none⟩)), (3, .pointer (some ⟨b16, 0, none⟩)), (6, .int .i64 x19), (7, .pointer (some ⟨b28, 0, none⟩)), (8, .pointer (some ⟨b37, 0, none⟩))]) w := by
             refine tlg k62 <| tm rfl <| TL.cut 6 fun K66 k67 => ?_
             have J68 {e70} : ∀ w, St E H [bx b37 49 [.int .i64 x29.op, .int .i64 x29.dst, v35, .int .i64 x29.imm, .int .i64 x29.fn], bx b28 49 [.int .i64 x20.op, .int .i64 x20.dst, v26, .int .i64 x20.imm, .int .i64 x20.fn], bx b15 45 [v2, v4, .int .i64 a1.term.kind, .int .i64 a1.term.arg, v6], bx b16 45 [v9, v11, .int .i64 a8.term.kind, .int .i64 a8.term.arg, v13]] w → K66 (ovr e70 [(139, .bool (decide ((t38 = true ∨ (¬ x20.imm = x29.imm)) ∨ (¬ x20.fn = x29.fn)))), (2, .pointer (some ⟨b15, 0, none⟩)), (3, .pointer (some ⟨b16, 0, none⟩)), (6, .int .i64 x19)]) w := by
              refine tlg k67 <| nz <| cD rfl hp (fun hc71 hp => ?_) fun hc71 hp => ?_
              · refine sr <| ta rfl <| nz <| TC.ret ?_
                obtain rfl := ex_ret hp hx40
                exact rt hr38 [] ⟨rfl, rfl⟩
              · exact sk k48 rfl <| TC.region <| tm rfl <| tv (bad rfl rfl) rfl <| ta rfl <| nl <| gk hp [2, 3] ⟨_, ovr_eq _ _ rfl, rfl⟩
             by_cases hc69 : t38 = true ∨ (¬ x20.imm = x29.imm)
             · exact gn rfl (bT hc69) rfl rfl <| gn rfl (bT hc69) rfl rfl <| gn rfl (bT hc69) rfl rfl <| gn rfl (bT hc69) rfl rfl <| gn rfl (bT hc69) rfl rfl <| tv (pT (bT hc69)) rfl <| nj J68 (bOt hc69)
             · exact gy rfl (bF hc69) <| tv (fa f49_4 rfl) rfl <| gy rfl (bF hc69) <| tv (lb s3 1 rfl rfl rfl) rfl <| gy rfl (bF hc69) <| tv (fa f49_4 rfl) rfl <| gy rfl (bF hc69) <| tv (lb s3 0 rfl rfl rfl) rfl <| gy rfl (bF hc69) <| tv (bne rfl rfl) rfl <| tv (pF (bF hc69)) rfl <| nj J68 (bOf hc69)
            by_cases hc64 : t38 = true
            · exact gn rfl (bbT hc64) rfl rfl <| gn rfl (bbT hc64) rfl rfl <| gn rfl (bbT hc64) rfl rfl <| gn rfl (bbT hc64) rfl rfl <| gn rfl (bbT hc64) rfl rfl <| tv (pT (bbT hc64)) rfl <| nj J63 (bOt hc64)
            · exact gy rfl (bbF hc64) <| tv (fa f49_3 rfl) rfl <| gy rfl (bbF hc64) <| tv (lb s2 1 rfl rfl rfl) rfl <| gy rfl (bbF hc64) <| tv (fa f49_3 rfl) rfl <| gy rfl (bbF hc64) <| tv (lb s2 0 rfl rfl rfl) rfl <| gy rfl (bbF hc64) <| tv (bne rfl rfl) rfl <| tv (pF (bbF hc64)) rfl <| nj J63 (bOf hc64)
           refine ifE ht72 (fun hc59 hp => ?_) fun hc59 hp => ?_
           · refine gn rfl (bT hc59) rfl rfl <| gn rfl (bT hc59) rfl rfl <| gn rfl (bT hc59) rfl rfl <| gn rfl (bT hc59) rfl rfl <| gn rfl (bT hc59) rfl rfl <| gn rfl (bT hc59) rfl rfl <| tv (pT (bT hc59)) rfl ?_
             obtain rfl := Option.some.inj hp
             exact nj J58 rfl
           · refine gy rfl (bF hc59) <| tv (fa f49_2 rfl) rfl <| gy rfl (bF hc59) <| tv (lb s36 1 rfl rfl rfl) rfl <| gy rfl (bF hc59) <| tv (fa f49_2 rfl) rfl <| gy rfl (bF hc59) <| tv (lb s36 0 rfl rfl rfl) rfl <| gy rfl (bF hc59) <| bE hp fun x39 hy73 hp => tc 0 [_,_,_,_] rfl c45 (fun _ => fettleref02_ints_ok (a1 := x20.args) (a4 := x29.args) (h27.mono subH) (h36.mono subH) hy73) rfl ?_
             rintro _ _ ⟨rfl, rfl⟩
             refine gy rfl (bF hc59) <| tv (rv_not rfl) rfl <| tv (pF (bF hc59)) rfl ?_
             obtain rfl := Option.some.inj hp
             exact nj J58 rfl
          by_cases hc54 : ¬ x20.op = x29.op
          · exact gn rfl (bT hc54) rfl rfl <| gn rfl (bT hc54) rfl rfl <| gn rfl (bT hc54) rfl rfl <| gn rfl (bT hc54) rfl rfl <| gn rfl (bT hc54) rfl rfl <| tv (pT (bT hc54)) rfl <| nj J53 (bOt hc54)
          · exact gy rfl (bF hc54) <| tv (fa f49_1 rfl) rfl <| gy rfl (bF hc54) <| tv (lb s3 1 rfl rfl rfl) rfl <| gy rfl (bF hc54) <| tv (fa f49_1 rfl) rfl <| gy rfl (bF hc54) <| tv (lb s3 0 rfl rfl rfl) rfl <| gy rfl (bF hc54) <| tv (bne rfl rfl) rfl <| tv (pF (bF hc54)) rfl <| nj J53 (bOf hc54)
        · exact TC.exit <| jn [] (J42 (ex_ret hp hx40))
       refine lp hz28 [1, 0] rfl (fun s e L => ∃ e26, e = ovr e26 [(2, .pointer (some ⟨b15, 0, none⟩)), (3, .pointer (some ⟨b16, 0, none⟩)), (5, .int .i64 s)] ∧ L = [bx b15 45 [v2, v4, .int .i64 a1.term.kind, .int .i64 a1.term.arg, v6], bx b16 45 [v9, v11, .int .i64 a8.term.kind, .int .i64 a8.term.arg, v13]]) ⟨_, ovr_eq _ _ rfl, rfl⟩ ?_
       rintro x18 _ _ ⟨e26, rfl, rfl⟩ X30 hp hx31
       replace hp : fettleref02_sameBlock.bd31 a1 a8 x18 = some X30 := hp
       refine TC.seq fun K79 k80 => sr <| tm rfl <| tv (fa f45_0 rfl) rfl <| tv (lb s40 0 rfl rfl rfl) rfl <| tv (ln u40 h3 rfl) rfl <| tv (blt rfl rfl) rfl <| nz <| cD rfl hp (fun hc81 hp => ?_) fun hc81 hp => ?_
       · refine sk k80 rfl <| TC.seq fun K82 k83 => TC.block <| TC.seq fun K84 k85 => cq mix (by kernel_rfl) <| qv (fa f45_0 rfl) rfl <| qv (lb s40 0 rfl rfl rfl) rfl <| qv mv rfl <| qi u40 i62 h3 hp rfl rfl rfl rfl ?_
         rintro x40 b41 o42 _ hp ⟨v46, rfl, h47⟩ h45
         refine qv (fa f62_0 rfl) rfl <| qv (lr s3 sH h45 0 rfl rfl) rfl <| qv (fa f45_0 rfl) rfl <| qv (lb s40 1 rfl rfl rfl) rfl <| qv mv rfl <| qi u40 i62 h10 hp rfl rfl rfl rfl ?_
         rintro x48 b49 o50 _ hp ⟨v54, rfl, h55⟩ h53
         refine qv (fa f62_0 rfl) rfl <| qv (lr s3 sH h53 0 rfl rfl) rfl <| qv (bne rfl rfl) rfl <| qv mv rfl <| bE hp fun t56 ht94 hp => QL.cut 15 fun K88 k89 => ?_
         have J90 {e92} : K88 (ovr e92 [(88, .bool t56), (2, .pointer (some ⟨b15, 0, none⟩)), (3, .pointer (some ⟨b16, 0, none⟩)), (5, .int .i64 x18)]) := by
          refine k89 _ <| QL.nil <| tg k85 <| cB rfl hp (fun hc93 hp => ?_) fun hc93 hp => ?_
          · refine sr <| ta rfl <| nz <| TC.ret ?_
            obtain rfl := ex_ret hp hx31
            exact rt hr29 [] ⟨rfl, rfl⟩
          · exact sk k83 rfl <| TC.region <| tm rfl <| tv (bad rfl rfl) rfl <| ta rfl <| nl <| gk hp [0, 1] ⟨_, ovr_eq _ _ rfl, rfl⟩
         refine ifE ht94 (fun hc91 hp => ?_) fun hc91 hp => ?_
         · refine qgn rfl (bT hc91) rfl rfl <| qgn rfl (bT hc91) rfl rfl <| qgn rfl (bT hc91) rfl rfl <| qgn rfl (bT hc91) rfl rfl <| qgn rfl (bT hc91) rfl rfl <| qgn rfl (bT hc91) rfl rfl <| qgn rfl (bT hc91) rfl rfl <| qgn rfl (bT hc91) rfl rfl <| qgn rfl (bT hc91) rfl rfl <| qgn rfl (bT hc91) rfl rfl <| qgn rfl (bT hc91) rfl rfl <| qgn rfl (bT hc91) rfl rfl <| qgn rfl (bT hc91) rfl rfl <| qgn rfl (bT hc91) rfl rfl <| qv (pT (bT hc91)) rfl ?_
           obtain rfl := Option.some.inj hp
           exact qj J90 rfl
         · refine qgy rfl (bF hc91) <| qv (fa f45_0 rfl) rfl <| qgy rfl (bF hc91) <| qv (lb s40 0 rfl rfl rfl) rfl <| qgy rfl (bF hc91) <| qv mv rfl <| qgy rfl (bF hc91) <| qi u40 i62 h3 hp rfl rfl rfl rfl ?_
           rintro x57 b58 o59 _ hp ⟨v63, rfl, h64⟩ h62
           refine qgy rfl (bF hc91) <| qv (fa f62_1 rfl) rfl <| qgy rfl (bF hc91) <| qv (lr s36 sH h62 1 rfl rfl) rfl <| qgy rfl (bF hc91) <| qv (fa f45_0 rfl) rfl <| qgy rfl (bF hc91) <| qv (lb s40 1 rfl rfl rfl) rfl <| qgy rfl (bF hc91) <| qv mv rfl <| qgy rfl (bF hc91) <| qi u40 i62 h10 hp rfl rfl rfl rfl ?_
           rintro x65 b66 o67 _ hp ⟨v71, rfl, h72⟩ h70
           refine qgy rfl (bF hc91) <| qv (fa f62_1 rfl) rfl <| qgy rfl (bF hc91) <| qv (lr s36 sH h70 1 rfl rfl) rfl <| qgy rfl (bF hc91) <| bE hp fun x73 hy97 hp => qc (.bool x73) c45 (fun _ => fettleref02_ints_ok (a1 := x57.args) (a4 := x65.args) (h64.mono subH) (h72.mono subH) hy97) (fun _ _ h => ⟨h.1.symm, h.2⟩) rfl <| qgy rfl (bF hc91) <| qv (rv_not rfl) rfl <| qv (pF (bF hc91)) rfl ?_
           obtain rfl := Option.some.inj hp
           exact qj J90 rfl
       · exact TC.exit <| jn [0, 1] (J77 (ex_ret hp hx31))
    refine ifE ht100 (fun hc21 hp => ?_) fun hc21 hp => ?_
    · refine gn rfl (bT hc21) rfl rfl <| gn rfl (bT hc21) rfl rfl <| gn rfl (bT hc21) rfl rfl <| gn rfl (bT hc21) rfl rfl <| gn rfl (bT hc21) rfl rfl <| gn rfl (bT hc21) rfl rfl <| gn rfl (bT hc21) rfl rfl <| gn rfl (bT hc21) rfl rfl <| tv (pT (bT hc21)) rfl ?_
      obtain rfl := Option.some.inj hp
      exact nj J20 rfl
    · refine gy rfl (bF hc21) <| tv (fa f45_2 rfl) rfl <| gy rfl (bF hc21) <| tv (fa f43_2 rfl) rfl <| gy rfl (bF hc21) <| tv (lb s36 1 rfl rfl rfl) rfl <| gy rfl (bF hc21) <| tv (fa f45_2 rfl) rfl <| gy rfl (bF hc21) <| tv (fa f43_2 rfl) rfl <| gy rfl (bF hc21) <| tv (lb s36 0 rfl rfl rfl) rfl <| gy rfl (bF hc21) <| bE hp fun x74 hy101 hp => tc 0 [_,_] rfl c45 (fun _ => fettleref02_ints_ok (a1 := a1.term.to) (a4 := a8.term.to) (h7.mono subH) (h14.mono subH) hy101) rfl ?_
      rintro _ _ ⟨rfl, rfl⟩
      refine gy rfl (bF hc21) <| tv (rv_not rfl) rfl <| tv (pF (bF hc21)) rfl ?_
      obtain rfl := Option.some.inj hp
      exact nj J20 rfl
   by_cases hc16 : ((¬ (len a1.phis) = (len a8.phis)) ∨ (¬ (len a1.ins) = (len a8.ins))) ∨ (¬ a1.term.kind = a8.term.kind)
   · exact gn rfl (bT hc16) rfl rfl <| gn rfl (bT hc16) rfl rfl <| gn rfl (bT hc16) rfl rfl <| gn rfl (bT hc16) rfl rfl <| gn rfl (bT hc16) rfl rfl <| gn rfl (bT hc16) rfl rfl <| gn rfl (bT hc16) rfl rfl <| tv (pT (bT hc16)) rfl <| nj J15 (bOt hc16)
   · exact gy rfl (bF hc16) <| tv (fa f45_2 rfl) rfl <| gy rfl (bF hc16) <| tv (fa f43_1 rfl) rfl <| gy rfl (bF hc16) <| tv (lb s3 1 rfl rfl rfl) rfl <| gy rfl (bF hc16) <| tv (fa f45_2 rfl) rfl <| gy rfl (bF hc16) <| tv (fa f43_1 rfl) rfl <| gy rfl (bF hc16) <| tv (lb s3 0 rfl rfl rfl) rfl <| gy rfl (bF hc16) <| tv (bne rfl rfl) rfl <| tv (pF (bF hc16)) rfl <| nj J15 (bOf hc16)
  by_cases hc11 : (¬ (len a1.phis) = (len a8.phis)) ∨ (¬ (len a1.ins) = (len a8.ins))
  · exact gn rfl (bT hc11) rfl rfl <| gn rfl (bT hc11) rfl rfl <| gn rfl (bT hc11) rfl rfl <| gn rfl (bT hc11) rfl rfl <| gn rfl (bT hc11) rfl rfl <| gn rfl (bT hc11) rfl rfl <| gn rfl (bT hc11) rfl rfl <| tv (pT (bT hc11)) rfl <| nj J10 (bOt hc11)
  · exact gy rfl (bF hc11) <| tv (fa f45_2 rfl) rfl <| gy rfl (bF hc11) <| tv (fa f43_0 rfl) rfl <| gy rfl (bF hc11) <| tv (lb s3 1 rfl rfl rfl) rfl <| gy rfl (bF hc11) <| tv (fa f45_2 rfl) rfl <| gy rfl (bF hc11) <| tv (fa f43_0 rfl) rfl <| gy rfl (bF hc11) <| tv (lb s3 0 rfl rfl rfl) rfl <| gy rfl (bF hc11) <| tv (bne rfl rfl) rfl <| tv (pF (bF hc11)) rfl <| nj J10 (bOf hc11)
 by_cases hc6 : ¬ (len a1.phis) = (len a8.phis)
 · exact gn rfl (bT hc6) rfl rfl <| gn rfl (bT hc6) rfl rfl <| gn rfl (bT hc6) rfl rfl <| gn rfl (bT hc6) rfl rfl <| gn rfl (bT hc6) rfl rfl <| gn rfl (bT hc6) rfl rfl <| gn rfl (bT hc6) rfl rfl <| tv (pT (bT hc6)) rfl <| nj J5 (bOt hc6)
 · exact gy rfl (bF hc6) <| tv (fa f45_1 rfl) rfl <| gy rfl (bF hc6) <| tv (lb s41 1 rfl rfl rfl) rfl <| gy rfl (bF hc6) <| tv (ln u41 h5 rfl) rfl <| gy rfl (bF hc6) <| tv (fa f45_1 rfl) rfl <| gy rfl (bF hc6) <| tv (lb s41 0 rfl rfl rfl) rfl <| gy rfl (bF hc6) <| tv (ln u41 h12 rfl) rfl <| gy rfl (bF hc6) <| tv (bne rfl rfl) rfl <| tv (pF (bF hc6)) rfl <| nj J5 (bOf hc6)

/-! ### fettle/fettleref02.SameFunc -/
abbrev fettleref02_SameFunc.R (r : Bool) (v : Value) (A : List FP) : Prop := .bool r = v ∧ A = []
def fettleref02_SameFunc.nx26  : Option Bool :=
  some true
def fettleref02_SameFunc.bd26 (a1 : PFunc) (a6 : PFunc) (x14 : Int) : Option (Ex (Ex Bool Unit) Int) :=
  if x14 < (len a1.blocks) then
    (idx a1.blocks x14).bind fun x15 =>
    (idx a6.blocks x14).bind fun x27 =>
    (fettleref02_sameBlock x15 x27).bind fun x39 =>
    if (!x39) = true then
      some (.ret (.ret false))
    else
      some (.go (w64 (x14 + 1)))
  else
    some (.ret (.go ()))
def fettleref02_SameFunc (a1 : PFunc) (a6 : PFunc) : Option Bool :=
  (if (¬ a1.params = a6.params) ∨ (¬ a1.result = a6.result) then some true else (fettleref02_ints a1.regs a6.regs).bind fun x40 =>
  some (!x40)).bind fun t13 =>
  if t13 = true ∨ (¬ (len a1.blocks) = (len a6.blocks)) then
    some false
  else
    (whl (fun (s : Int) => fettleref02_SameFunc.bd26 a1 a6 s) FUEL 0).bind fun z =>
    match z with
      | .ret r => some r
      | .go p => fettleref02_SameFunc.nx26
set_option maxHeartbeats 4000000 in
theorem fettleref02_SameFunc_ok {E : World} {H : FP} {w : World} {a1 : PFunc} {a6 : PFunc} {v2 : Value} {v4 : Value} {v7 : Value} {v9 : Value} {r : Bool} (h3 : SlI (kInt .i64) H a1.regs v2) (h5 : SlI kBlock H a1.blocks v4) (h8 : SlI (kInt .i64) H a6.regs v7) (h10 : SlI kBlock H a6.blocks v9) (hp : fettleref02_SameFunc a1 a6 = some r) (hst : St E H [] w) :
    Fn Try.prog 28 #[.agg #[.int .i64 a1.params, .int .i64 a1.result, v2, v4], .agg #[.int .i64 a6.params, .int .i64 a6.result, v7, v9]] w fun v w' => ∃ A, fettleref02_SameFunc.R r v A ∧ St E H A w' := by
 refine fb 56 [.tmp 4] Try.func28 rfl rfl rfl rfl rfl hst <| sr <| tb [.int .i64 a1.params, .int .i64 a1.result, v2, v4] rfl rfl fun b11 => tb [.int .i64 a6.params, .int .i64 a6.result, v7, v9] rfl rfl fun b12 => ta rfl <| nz <| TC.seq fun K1 k2 => sr <| tv (fa f39_0 rfl) rfl <| tv (lb s3 1 rfl rfl rfl) rfl <| tv (fa f39_0 rfl) rfl <| tv (lb s3 0 rfl rfl rfl) rfl <| tv (bne rfl rfl) rfl <| tm rfl <| TL.cut 6 fun K3 k4 => ?_
 have J5 {e7} : ∀ w, St E H [bx b12 39 [.int .i64 a6.params, .int .i64 a6.result, v7, v9], bx b11 39 [.int .i64 a1.params, .int .i64 a1.result, v2, v4]] w → K3 (ovr e7 [(18, .bool (decide ((¬ a1.params = a6.params) ∨ (¬ a1.result = a6.result)))), (2, .pointer (some ⟨b11, 0, none⟩)), (3, .pointer (some ⟨b12, 0, none⟩))]) w := by
  refine tlg k4 <| tm rfl <| bE hp fun t13 ht43 hp => TL.cut 7 fun K8 k9 => ?_
  have J10 {e12} : ∀ w, St E H [bx b12 39 [.int .i64 a6.params, .int .i64 a6.result, v7, v9], bx b11 39 [.int .i64 a1.params, .int .i64 a1.result, v2, v4]] w → K8 (ovr e12 [(26, .bool t13), (2, .pointer (some ⟨b11, 0, none⟩)), (3, .pointer (some ⟨b12, 0, none⟩))]) w := by
   refine tlg k9 <| tm rfl <| TL.cut 8 fun K13 k14 => ?_
   have J15 {e17} : ∀ w, St E H [bx b12 39 [.int .i64 a6.params, .int .i64 a6.result, v7, v9], bx b11 39 [.int .i64 a1.params, .int .i64 a1.result, v2, v4]] w → K13 (ovr e17 [(35, .bool (decide (t13 = true ∨ (¬ (len a1.blocks) = (len a6.blocks))))), (2, .pointer (some ⟨b11, 0, none⟩)), (3, .pointer (some ⟨b12, 0, none⟩))]) w := by
    refine tlg k14 <| nz <| cD rfl hp (fun hc18 hp => ?_) fun hc18 hp => ?_
    · exact sr <| ta rfl <| nz <| TC.ret <| rt hp [] ⟨rfl, rfl⟩
    · refine sk k2 rfl <| TC.seq fun K19 k20 => sr <| ta rfl <| nz <| TC.block <| bE hp fun z_22 hz23 hr24 => ?_
      have J28 {e27} (hq29 : .go () = z_22) : ∀ w, St E H [] w → K19 (ovr e27 []) w := by
       subst hq29
       replace hp : fettleref02_SameFunc.nx26 = some r := hr24
       exact tg k20 <| sr <| ta rfl <| nz <| TC.ret <| rt hp [] ⟨rfl, rfl⟩
      refine lp hz23 [1, 0] rfl (fun s e L => ∃ e21, e = ovr e21 [(2, .pointer (some ⟨b11, 0, none⟩)), (3, .pointer (some ⟨b12, 0, none⟩)), (5, .int .i64 s)] ∧ L = [bx b11 39 [.int .i64 a1.params, .int .i64 a1.result, v2, v4], bx b12 39 [.int .i64 a6.params, .int .i64 a6.result, v7, v9]]) ⟨_, ovr_eq _ _ rfl, rfl⟩ ?_
      rintro x14 _ _ ⟨e21, rfl, rfl⟩ X25 hp hx26
      replace hp : fettleref02_SameFunc.bd26 a1 a6 x14 = some X25 := hp
      refine TC.seq fun K30 k31 => sr <| tm rfl <| tv (fa f39_3 rfl) rfl <| tv (lb s37 0 rfl rfl rfl) rfl <| tv (ln u37 h5 rfl) rfl <| tv (blt rfl rfl) rfl <| nz <| cD rfl hp (fun hc32 hp => ?_) fun hc32 hp => ?_
      · refine sk k31 rfl <| TC.seq fun K33 k34 => TC.block <| TC.seq fun K35 k36 => cq mix (by kernel_rfl) <| qv (fa f39_3 rfl) rfl <| qv (lb s37 0 rfl rfl rfl) rfl <| qv mv rfl <| qi u37 i45 h5 hp rfl rfl rfl rfl ?_
        rintro x15 b16 o17 _ hp ⟨v21, v23, v25, rfl, h22, h24, h26⟩ h20
        refine qv (lR (ds := [v21, v23, .int .i64 x15.term.kind, .int .i64 x15.term.arg, v25]) ag_45 sH h20 0 rfl rfl rfl) rfl <| qv (fa f39_3 rfl) rfl <| qv (lb s37 1 rfl rfl rfl) rfl <| qv mv rfl <| qi u37 i45 h10 hp rfl rfl rfl rfl ?_
        rintro x27 b28 o29 _ hp ⟨v33, v35, v37, rfl, h34, h36, h38⟩ h32
        refine qv (lR (ds := [v33, v35, .int .i64 x27.term.kind, .int .i64 x27.term.arg, v37]) ag_45 sH h32 0 rfl rfl rfl) rfl <| bE hp fun x39 hy39 hp => qc (.bool x39) c46 (fun _ => fettleref02_sameBlock_ok (a1 := x15) (a8 := x27) (h22.mono subH) (h24.mono subH) (h26.mono subH) (h34.mono subH) (h36.mono subH) (h38.mono subH) hy39) (fun _ _ h => ⟨h.1.symm, h.2⟩) rfl <| qv sg rfl <| QL.nil <| tg k36 <| sr <| tm rfl <| tv (rv_not rfl) rfl <| nz <| cB rfl hp (fun hc40 hp => ?_) fun hc40 hp => ?_
        · refine sr <| ta rfl <| nz <| TC.ret ?_
          obtain rfl := ex_ret hp hx26
          exact rt hr24 [] ⟨rfl, rfl⟩
        · exact sk k34 rfl <| TC.region <| tm rfl <| tv (bad rfl rfl) rfl <| ta rfl <| nl <| gk hp [0, 1] ⟨_, ovr_eq _ _ rfl, rfl⟩
      · exact TC.exit <| jn [] (J28 (ex_ret hp hx26))
   by_cases hc16 : t13 = true
   · exact gn rfl (bbT hc16) rfl rfl <| gn rfl (bbT hc16) rfl rfl <| gn rfl (bbT hc16) rfl rfl <| gn rfl (bbT hc16) rfl rfl <| gn rfl (bbT hc16) rfl rfl <| gn rfl (bbT hc16) rfl rfl <| gn rfl (bbT hc16) rfl rfl <| tv (pT (bbT hc16)) rfl <| nj J15 (bOt hc16)
   · exact gy rfl (bbF hc16) <| tv (fa f39_3 rfl) rfl <| gy rfl (bbF hc16) <| tv (lb s37 1 rfl rfl rfl) rfl <| gy rfl (bbF hc16) <| tv (ln u37 h5 rfl) rfl <| gy rfl (bbF hc16) <| tv (fa f39_3 rfl) rfl <| gy rfl (bbF hc16) <| tv (lb s37 0 rfl rfl rfl) rfl <| gy rfl (bbF hc16) <| tv (ln u37 h10 rfl) rfl <| gy rfl (bbF hc16) <| tv (bne rfl rfl) rfl <| tv (pF (bbF hc16)) rfl <| nj J15 (bOf hc16)
  refine ifE ht43 (fun hc11 hp => ?_) fun hc11 hp => ?_
  · refine gn rfl (bT hc11) rfl rfl <| gn rfl (bT hc11) rfl rfl <| gn rfl (bT hc11) rfl rfl <| gn rfl (bT hc11) rfl rfl <| gn rfl (bT hc11) rfl rfl <| gn rfl (bT hc11) rfl rfl <| tv (pT (bT hc11)) rfl ?_
    obtain rfl := Option.some.inj hp
    exact nj J10 rfl
  · refine gy rfl (bF hc11) <| tv (fa f39_2 rfl) rfl <| gy rfl (bF hc11) <| tv (lb s36 1 rfl rfl rfl) rfl <| gy rfl (bF hc11) <| tv (fa f39_2 rfl) rfl <| gy rfl (bF hc11) <| tv (lb s36 0 rfl rfl rfl) rfl <| gy rfl (bF hc11) <| bE hp fun x40 hy44 hp => tc 0 [_,_] rfl c45 (fun _ => fettleref02_ints_ok (a1 := a1.regs) (a4 := a6.regs) (h3.mono subH) (h8.mono subH) hy44) rfl ?_
    rintro _ _ ⟨rfl, rfl⟩
    refine gy rfl (bF hc11) <| tv (rv_not rfl) rfl <| tv (pF (bF hc11)) rfl ?_
    obtain rfl := Option.some.inj hp
    exact nj J10 rfl
 by_cases hc6 : ¬ a1.params = a6.params
 · exact gn rfl (bT hc6) rfl rfl <| gn rfl (bT hc6) rfl rfl <| gn rfl (bT hc6) rfl rfl <| gn rfl (bT hc6) rfl rfl <| gn rfl (bT hc6) rfl rfl <| tv (pT (bT hc6)) rfl <| nj J5 (bOt hc6)
 · exact gy rfl (bF hc6) <| tv (fa f39_1 rfl) rfl <| gy rfl (bF hc6) <| tv (lb s3 1 rfl rfl rfl) rfl <| gy rfl (bF hc6) <| tv (fa f39_1 rfl) rfl <| gy rfl (bF hc6) <| tv (lb s3 0 rfl rfl rfl) rfl <| gy rfl (bF hc6) <| tv (bne rfl rfl) rfl <| tv (pF (bF hc6)) rfl <| nj J5 (bOf hc6)

/-! ### fettle/fettleref02.Same -/
abbrev fettleref02_Same.R (r : Bool) (v : Value) (A : List FP) : Prop := .bool r = v ∧ A = []
def fettleref02_Same.nx11  : Option Bool :=
  some true
def fettleref02_Same.bd11 (a1 : PModule) (a4 : PModule) (x9 : Int) : Option (Ex (Ex Bool Unit) Int) :=
  if x9 < (len a1.funcs) then
    (idx a1.funcs x9).bind fun x10 =>
    (idx a4.funcs x9).bind fun x20 =>
    (fettleref02_SameFunc x10 x20).bind fun x30 =>
    if (!x30) = true then
      some (.ret (.ret false))
    else
      some (.go (w64 (x9 + 1)))
  else
    some (.ret (.go ()))
def fettleref02_Same (a1 : PModule) (a4 : PModule) : Option Bool :=
  if ¬ (len a1.funcs) = (len a4.funcs) then
    some false
  else
    (whl (fun (s : Int) => fettleref02_Same.bd11 a1 a4 s) FUEL 0).bind fun z =>
    match z with
      | .ret r => some r
      | .go p => fettleref02_Same.nx11
theorem fettleref02_Same_ok {E : World} {H : FP} {w : World} {a1 : PModule} {a4 : PModule} {v2 : Value} {v5 : Value} {r : Bool} (h3 : SlI kFunc H a1.funcs v2) (h6 : SlI kFunc H a4.funcs v5) (hp : fettleref02_Same a1 a4 = some r) (hst : St E H [] w) :
    Fn Try.prog 11 #[.agg #[v2], .agg #[v5]] w fun v w' => ∃ A, fettleref02_Same.R r v A ∧ St E H A w' := by
 refine fb 34 [.tmp 4] Try.func11 rfl rfl rfl rfl rfl hst <| sr <| tb [v2] rfl rfl fun b7 => tb [v5] rfl rfl fun b8 => ta rfl <| nz <| TC.seq fun K1 k2 => sr <| tv (fa f24_0 rfl) rfl <| tv (lb s22 1 rfl rfl rfl) rfl <| tv (ln u22 h3 rfl) rfl <| tv (fa f24_0 rfl) rfl <| tv (lb s22 0 rfl rfl rfl) rfl <| tv (ln u22 h6 rfl) rfl <| tv (bne rfl rfl) rfl <| nz <| cD rfl hp (fun hc3 hp => ?_) fun hc3 hp => ?_
 · exact sr <| ta rfl <| nz <| TC.ret <| rt hp [] ⟨rfl, rfl⟩
 · refine sk k2 rfl <| TC.seq fun K4 k5 => sr <| ta rfl <| nz <| TC.block <| bE hp fun z_7 hz8 hr9 => ?_
   have J13 {e12} (hq14 : .go () = z_7) : ∀ w, St E H [] w → K4 (ovr e12 []) w := by
    subst hq14
    replace hp : fettleref02_Same.nx11 = some r := hr9
    exact tg k5 <| sr <| ta rfl <| nz <| TC.ret <| rt hp [] ⟨rfl, rfl⟩
   refine lp hz8 [1, 0] rfl (fun s e L => ∃ e6, e = ovr e6 [(2, .pointer (some ⟨b7, 0, none⟩)), (3, .pointer (some ⟨b8, 0, none⟩)), (5, .int .i64 s)] ∧ L = [bx b7 24 [v2], bx b8 24 [v5]]) ⟨_, ovr_eq _ _ rfl, rfl⟩ ?_
   rintro x9 _ _ ⟨e6, rfl, rfl⟩ X10 hp hx11
   replace hp : fettleref02_Same.bd11 a1 a4 x9 = some X10 := hp
   refine TC.seq fun K15 k16 => sr <| tm rfl <| tv (fa f24_0 rfl) rfl <| tv (lb s22 0 rfl rfl rfl) rfl <| tv (ln u22 h3 rfl) rfl <| tv (blt rfl rfl) rfl <| nz <| cD rfl hp (fun hc17 hp => ?_) fun hc17 hp => ?_
   · refine sk k16 rfl <| TC.seq fun K18 k19 => TC.block <| TC.seq fun K20 k21 => cq mix (by kernel_rfl) <| qv (fa f24_0 rfl) rfl <| qv (lb s22 0 rfl rfl rfl) rfl <| qv mv rfl <| qi u22 i39 h3 hp rfl rfl rfl rfl ?_
     rintro x10 b11 o12 _ hp ⟨v16, v18, rfl, h17, h19⟩ h15
     refine qv (lR (ds := [.int .i64 x10.params, .int .i64 x10.result, v16, v18]) ag_39 sH h15 0 rfl rfl rfl) rfl <| qv (fa f24_0 rfl) rfl <| qv (lb s22 1 rfl rfl rfl) rfl <| qv mv rfl <| qi u22 i39 h6 hp rfl rfl rfl rfl ?_
     rintro x20 b21 o22 _ hp ⟨v26, v28, rfl, h27, h29⟩ h25
     refine qv (lR (ds := [.int .i64 x20.params, .int .i64 x20.result, v26, v28]) ag_39 sH h25 0 rfl rfl rfl) rfl <| bE hp fun x30 hy24 hp => qc (.bool x30) c28 (fun _ => fettleref02_SameFunc_ok (a1 := x10) (a6 := x20) (h17.mono subH) (h19.mono subH) (h27.mono subH) (h29.mono subH) hy24) (fun _ _ h => ⟨h.1.symm, h.2⟩) rfl <| qv sg rfl <| QL.nil <| tg k21 <| sr <| tm rfl <| tv (rv_not rfl) rfl <| nz <| cB rfl hp (fun hc25 hp => ?_) fun hc25 hp => ?_
     · refine sr <| ta rfl <| nz <| TC.ret ?_
       obtain rfl := ex_ret hp hx11
       exact rt hr9 [] ⟨rfl, rfl⟩
     · exact sk k19 rfl <| TC.region <| tm rfl <| tv (bad rfl rfl) rfl <| ta rfl <| nl <| gk hp [0, 1] ⟨_, ovr_eq _ _ rfl, rfl⟩
   · exact TC.exit <| jn [] (J13 (ex_ret hp hx11))

/-! ### fettle/fettlelaw15.EffectStays -/
abbrev fettlelaw15_EffectStays.R (r : Bool) (v : Value) (A : List FP) : Prop := .bool r = v ∧ A = []
def fettlelaw15_EffectStays.nx34 (a1 : PModule) (x5 : Bool) (x7 : PModule) (x12 : List PEffect × GErr) (x28 : List PEffect × GErr) : Option Bool :=
  (if x5 = true then (fettleref02_Same x7 a1).bind fun x37 =>
  some x37 else some false).bind fun t36 =>
  some (decide (t36 = true ∧ (((decide (x12.2 = GErr.no)) == (decide (x28.2 = GErr.no))) = true)))
def fettlelaw15_EffectStays.bd34 (x20 : List PEffect) (x28 : List PEffect × GErr) (x35 : Int) : Option (Ex (Ex Bool Unit) Int) :=
  if x35 < (len x28.1) then
    (idx x28.1 x35).bind fun x38 =>
    (idx x20 x35).bind fun x44 =>
    if ¬ x38 = x44 then
      some (.ret (.ret false))
    else
      some (.go (w64 (x35 + 1)))
  else
    some (.ret (.go ()))
def fettlelaw15_EffectStays.nx20 (a1 : PModule) (x5 : Bool) (x7 : PModule) (x12 : List PEffect × GErr) (x20 : List PEffect) : Option Bool :=
  (effect_Effects x7).bind fun x28 =>
  if ¬ (len x28.1) = (len x20) then
    some false
  else
    (whl (fun (s : Int) => fettlelaw15_EffectStays.bd34 x20 x28 s) FUEL 0).bind fun z =>
    match z with
      | .ret r => some r
      | .go p => fettlelaw15_EffectStays.nx34 a1 x5 x7 x12 x28
def fettlelaw15_EffectStays.bd20  (x24 : List PEffect) (x27 : Int) : Option (Ex Unit (List PEffect × Int)) :=
  if x27 < (len x24) then
    (idx x24 x27).bind fun x50 =>
    (idx x24 x27).bind fun x56 =>
    some (.go ((x24.set (x27).toNat (⟨(!x50.reads), x56.writes, x56.outs, x56.traps, x56.turns⟩ : PEffect)), (w64 (x27 + 1))))
  else
    some (.ret ())
def fettlelaw15_EffectStays (a1 : PModule) : Option Bool :=
  (fettlelaw15_up).bind fun x5 =>
  (fettleref02_Small a1).bind fun x6 =>
  if (!x6) = true then
    some x5
  else
    (fettleref02_Copy a1).bind fun x7 =>
    (effect_Effects x7).bind fun x12 =>
    (cat ([] : List PEffect) x12.1).bind fun x20 =>
    (whl (fun (s : (List PEffect × Int)) => fettlelaw15_EffectStays.bd20 s.1 s.2) FUEL (x12.1, 0)).bind fun z =>
    fettlelaw15_EffectStays.nx20 a1 x5 x7 x12 x20
set_option maxHeartbeats 4000000 in
theorem fettlelaw15_EffectStays_ok {E : World} {H : FP} {w : World} {a1 : PModule} {v2 : Value} {r : Bool} (h3 : SlI kFunc H a1.funcs v2) (hp : fettlelaw15_EffectStays a1 = some r) (hst : St E H [] w) :
    Fn Try.prog 3 #[.agg #[v2]] w fun v w' => ∃ A, fettlelaw15_EffectStays.R r v A ∧ St E H A w' := by
 refine fb 83 [.tmp 2] Try.func3 rfl rfl rfl rfl rfl hst <| sr <| tb [v2] rfl rfl fun b4 => ta rfl <| nz <| sr <| bE hp fun x5 hy1 hp => tc 0 [_] rfl c7 (fun _ => fettlelaw15_up_ok hy1) rfl ?_
 rintro _ _ ⟨rfl, rfl⟩
 refine ta rfl <| nz <| sr <| tv (lA (ds := [v2]) ag_24 0 rfl rfl rfl rfl) rfl <| bE hp fun x6 hy3 hp => tc 0 [_] rfl c8 (fun _ => fettleref02_Small_ok (a1 := a1) (h3.mono subH) hy3) rfl ?_
 rintro _ _ ⟨rfl, rfl⟩
 refine ta rfl <| nz <| TC.seq fun K5 k6 => sr <| tm rfl <| tv (rv_not rfl) rfl <| nz <| cB rfl hp (fun hc7 hp => ?_) fun hc7 hp => ?_
 · exact sr <| tm rfl <| ta rfl <| nz <| TC.ret <| rt hp [] ⟨rfl, rfl⟩
 · refine sk k6 rfl <| sr <| tv (lA (ds := [v2]) ag_24 0 rfl rfl rfl rfl) rfl <| bE hp fun x7 hy8 hp => tc 0 [_] rfl c9 (fun _ => fettleref02_Copy_ok (a1 := a1) (h3.mono subH) hy8) rfl ?_
   rintro _ _ ⟨v8, F9, rfl, rfl, h10⟩
   refine tl i24 rfl fun b11 => tS 0 m24 rfl rfl [v8] rfl (oc (h10).one oc0) rfl rfl <| nz <| sr <| tv (lA (ds := [v8]) ag_24 0 rfl rfl rfl rfl) rfl <| bE hp fun x12 hy10 hp => tc 0 [_,_,_] rfl c10 (fun _ => effect_Effects_ok (a1 := x7) (h10.ro.mono (subB 1 rfl)) hy10) rfl ?_
   rintro _ _ ⟨v13, F14, v16, F17, rfl, rfl, h15, h18⟩
   refine tm rfl <| tv (xt rfl rfl) rfl <| tv (xt rfl rfl) rfl <| ta rfl <| ta rfl <| nz <| sr <| TL.bs0 u28 i34 (ltb rfl) fun b19 => tm rfl <| tpI fEffect u28 i34 (SlO.lit0 (k := kEffect) b19) h15.ro (Src.at_ 1 rfl) hp rfl rfl rfl rfl rfl rfl rfl fun x20 v21 F22 h23 hp => ta rfl <| nz <| TC.seq fun K13 k14 => sr <| ta rfl <| nz <| TC.block <| bE hp fun z_16 hz17 hr18 => ?_
   have J64 {e21} (hq65 : () = z_16) : ∀ w, St E H [bx b4 24 [v2], bx b11 24 [v8], F9, F17, F22] w → K13 (ovr e21 [(1, .pointer (some ⟨b4, 0, none⟩)), (3, .bool x5), (5, .pointer (some ⟨b11, 0, none⟩)), (7, v16), (8, v21)]) w := by
    subst hq65
    replace hp : fettlelaw15_EffectStays.nx20 a1 x5 x7 x12 x20 = some r := hr18
    refine tg k14 <| sr <| tv (lA (ds := [v8]) ag_24 1 rfl rfl rfl rfl) rfl <| bE hp fun x28 hy22 hp => tc 0 [_,_,_,_,_] rfl c10 (fun _ => effect_Effects_ok (a1 := x7) (h10.ro.mono (subB 2 rfl)) hy22) rfl ?_
    rintro _ _ ⟨v29, F30, v32, F33, rfl, rfl, h31, h34⟩
    refine tm rfl <| tv (xt rfl rfl) rfl <| tv (xt rfl rfl) rfl <| ta rfl <| ta rfl <| nz <| TC.seq fun K24 k25 => sr <| tm rfl <| tv (ln u28 h31.ro rfl) rfl <| tm rfl <| tv (ln u28 h23.ro rfl) rfl <| tv (bne rfl rfl) rfl <| nz <| cD rfl hp (fun hc26 hp => ?_) fun hc26 hp => ?_
    · exact sr <| ta rfl <| nz <| TC.ret <| rt hp [] ⟨rfl, rfl⟩
    · refine sk k25 rfl <| TC.seq fun K27 k28 => sr <| ta rfl <| nz <| TC.block <| bE hp fun z_30 hz31 hr32 => ?_
      have J50 {e35} (hq51 : .go () = z_30) : ∀ w, St E H [bx b4 24 [v2], bx b11 24 [v8], F9, F17, F33] w → K27 (ovr e35 [(1, .pointer (some ⟨b4, 0, none⟩)), (3, .bool x5), (5, .pointer (some ⟨b11, 0, none⟩)), (7, v16), (11, v32)]) w := by
       subst hq51
       replace hp : fettlelaw15_EffectStays.nx34 a1 x5 x7 x12 x28 = some r := hr32
       refine tg k28 <| TC.seq fun K36 k37 => cq mix (by kernel_rfl) <| qv mv rfl <| qv mv rfl <| bE hp fun t36 ht48 hp => QL.cut 4 fun K38 k39 => ?_
       have J40 {e42} : K38 (ovr e42 [(75, .bool t36), (7, v16), (11, v32)]) := by
        refine k39 _ <| qv mv rfl <| QL.cut 6 fun K43 k44 => ?_
        have J45 {e47} : K43 (ovr e47 [(82, .bool (decide (t36 = true ∧ (((decide (x12.2 = GErr.no)) == (decide (x28.2 = GErr.no))) = true))))]) := by
         exact k44 _ <| qv sg rfl <| QL.nil <| tg k37 <| TC.ret <| rt hp [] ⟨rfl, rfl⟩
        by_cases hc46 : t36 = true
        · exact qgy rfl (bbT hc46) <| qv mv rfl <| qgy rfl (bbT hc46) <| qv (rv_eqlEN ifc_30 h18 rfl) rfl <| qgy rfl (bbT hc46) <| qv mv rfl <| qgy rfl (bbT hc46) <| qv (rv_eqlEN ifc_30 h34 rfl) rfl <| qgy rfl (bbT hc46) <| qv (rv_eqlB (b := (decide (x12.2 = GErr.no))) (c := (decide (x28.2 = GErr.no))) Try.underlying4 rfl rfl) rfl <| qv (pT (bbT hc46)) rfl <| qj J45 (bAt' hc46)
        · exact qgn rfl (bbF hc46) rfl rfl <| qgn rfl (bbF hc46) rfl rfl <| qgn rfl (bbF hc46) rfl rfl <| qgn rfl (bbF hc46) rfl rfl <| qgn rfl (bbF hc46) rfl rfl <| qv (pF (bbF hc46)) rfl <| qj J45 (bAf hc46)
       refine ifE ht48 (fun hc41 hp => ?_) fun hc41 hp => ?_
       · refine qgy rfl (bbT hc41) <| qv (lA (ds := [v8]) ag_24 1 rfl rfl rfl rfl) rfl <| qgy rfl (bbT hc41) <| qv (lA (ds := [v2]) ag_24 0 rfl rfl rfl rfl) rfl <| qgy rfl (bbT hc41) <| bE hp fun x37 hy49 hp => qc (.bool x37) c11 (fun _ => fettleref02_Same_ok (a1 := x7) (a4 := a1) (h10.ro.mono (subB 2 rfl)) (h3.mono subH) hy49) (fun _ _ h => ⟨h.1.symm, h.2⟩) rfl <| qv (pT (bbT hc41)) rfl ?_
         obtain rfl := Option.some.inj hp
         exact qj J40 rfl
       · refine qgn rfl (bbF hc41) rfl rfl <| qgn rfl (bbF hc41) rfl rfl <| qgn rfl (bbF hc41) rfl rfl <| qv (pF (bbF hc41)) rfl ?_
         obtain rfl := Option.some.inj hp
         exact qj J40 rfl
      refine lp hz31 [2, 3, 4, 5, 6, 0, 1] rfl (fun s e L => ∃ e29, e = ovr e29 [(1, .pointer (some ⟨b4, 0, none⟩)), (3, .bool x5), (5, .pointer (some ⟨b11, 0, none⟩)), (7, v16), (8, v21), (10, v29), (11, v32), (12, .int .i64 s)] ∧ L = [bx b4 24 [v2], bx b11 24 [v8], F9, F17, F22, F30, F33]) ⟨_, ovr_eq _ _ rfl, rfl⟩ ?_
      rintro x35 _ _ ⟨e29, rfl, rfl⟩ X33 hp hx34
      replace hp : fettlelaw15_EffectStays.bd34 x20 x28 x35 = some X33 := hp
      refine TC.seq fun K52 k53 => sr <| tm rfl <| tm rfl <| tv (ln u28 h31.ro rfl) rfl <| tv (blt rfl rfl) rfl <| nz <| cD rfl hp (fun hc54 hp => ?_) fun hc54 hp => ?_
      · refine sk k53 rfl <| TC.seq fun K55 k56 => TC.block <| TC.seq fun K57 k58 => cq mix (by kernel_rfl) <| qv mv rfl <| qv mv rfl <| qi u28 i34 (h31).ro hp rfl rfl rfl rfl ?_
        rintro x38 b39 o40 _ hp rfl h43
        refine qv (lR (ds := [.bool x38.reads, .bool x38.writes, .bool x38.outs, .bool x38.traps, .bool x38.turns]) ag_34 (Src.at_ 5 rfl) h43 0 rfl rfl rfl) rfl <| qv mv rfl <| qv mv rfl <| qi u28 i34 (h23).ro hp rfl rfl rfl rfl ?_
        rintro x44 b45 o46 _ hp rfl h49
        refine qv (lR (ds := [.bool x44.reads, .bool x44.writes, .bool x44.outs, .bool x44.traps, .bool x44.turns]) ag_34 (Src.at_ 4 rfl) h49 0 rfl rfl rfl) rfl <| qv (neS34 (a := x38) (b := x44) rfl rfl) rfl <| QL.nil <| tg k58 <| cD rfl hp (fun hc61 hp => ?_) fun hc61 hp => ?_
        · refine sr <| ta rfl <| nz <| TC.ret ?_
          obtain rfl := ex_ret hp hx34
          exact rt hr32 [] ⟨rfl, rfl⟩
        · exact sk k56 rfl <| TC.region <| tm rfl <| tv (bad rfl rfl) rfl <| ta rfl <| nl <| gk hp [0, 1, 2, 3, 4, 5, 6] ⟨_, ovr_eq _ _ rfl, rfl⟩
      · exact TC.exit <| jn [0, 1, 2, 3, 6] (J50 (ex_ret hp hx34))
   refine lp hz17 [5, 3, 4, 1, 2, 0] rfl (fun s e L => ∃ x24 x27 F25 e15, s = (x24, x27) ∧ SlO 34 kEffect x24 v13 F25 ∧ e = ovr e15 [(1, .pointer (some ⟨b4, 0, none⟩)), (3, .bool x5), (5, .pointer (some ⟨b11, 0, none⟩)), (6, v13), (7, v16), (8, v21), (9, .int .i64 x27)] ∧ L = [bx b4 24 [v2], bx b11 24 [v8], F9, F25, F17, F22]) ⟨_, _, F14, _, rfl, h15, ovr_eq _ _ rfl, rfl⟩ ?_
   rintro _ _ _ ⟨x24, x27, F25, e15, rfl, h26, rfl, rfl⟩ X19 hp hx20
   replace hp : fettlelaw15_EffectStays.bd20 x24 x27 = some X19 := hp
   refine TC.seq fun K66 k67 => sr <| tm rfl <| tm rfl <| tv (ln u28 h26.ro rfl) rfl <| tv (blt rfl rfl) rfl <| nz <| cD rfl hp (fun hc68 hp => ?_) fun hc68 hp => ?_
   · refine sk k67 rfl <| TC.seq fun K69 k70 => TC.block <| TC.region <| tm rfl <| tm rfl <| tm rfl <| tm rfl <| ti u28 i34 (h26).ro hp rfl rfl rfl rfl ?_
     rintro x50 b51 o52 _ hp rfl h55
     refine tv (fa f34_0 rfl) rfl <| tv (lr s4 (Src.at_ 3 rfl) h55 0 rfl rfl) rfl <| tv (rv_not rfl) rfl <| tp [3, 0, 1, 2, 4, 5] [_,_,_,_,_,_] rfl rfl <| bE hp fun x56 hx72 hp => TL.open_ h26 hx72 ?_
     rintro b57 _ F59 F60 h61 ⟨rfl, rfl⟩
     exact TL.perm (L' := [F59, bx b4 24 [v2], bx b11 24 [v8], F9, F17, F22]) (by simp) <| tv (rv_ixH u28 i34 rfl rfl (idx_some hx72).1 h61) rfl <| tv (fa f34_0 rfl) rfl <| tsH h61 m4 0 rfl w1 rfl fun F63 h64 => nl <| tg k70 <| TC.region <| tm rfl <| tv (bad rfl rfl) rfl <| ta rfl <| nl <| W.empty <| W.shut (a := (⟨(!x50.reads), x56.writes, x56.outs, x56.traps, x56.turns⟩ : PEffect)) h64 ⟨rfl, rfl⟩ fun F65 h66 => gk hp [1, 2, 3, 0, 4, 5] ⟨_, _, F65, _, rfl, h66, ovr_eq _ _ rfl, rfl⟩
   · exact TC.exit <| jn [0, 1, 2, 4, 5] (J64 (ex_ret hp hx20))

/-! ### fettle/fettlelaw15.fewer -/
abbrev fettlelaw15_fewer.R (r : Bool) (v : Value) (A : List FP) : Prop := .bool r = v ∧ A = []
def fettlelaw15_fewer (a1 : PEffect) (a2 : PEffect) : Option Bool :=
  some (decide ((((((!a1.reads) = true ∨ a2.reads = true) ∧ ((!a1.writes) = true ∨ a2.writes = true)) ∧ ((!a1.outs) = true ∨ a2.outs = true)) ∧ ((!a1.traps) = true ∨ a2.traps = true)) ∧ ((!a1.turns) = true ∨ a2.turns = true)))
set_option maxHeartbeats 4000000 in
theorem fettlelaw15_fewer_ok {E : World} {H : FP} {w : World} {a1 : PEffect} {a2 : PEffect} {r : Bool}  (hp : fettlelaw15_fewer a1 a2 = some r) (hst : St E H [] w) :
    Fn Try.prog 12 #[.agg #[.bool a1.reads, .bool a1.writes, .bool a1.outs, .bool a1.traps, .bool a1.turns], .agg #[.bool a2.reads, .bool a2.writes, .bool a2.outs, .bool a2.traps, .bool a2.turns]] w fun v w' => ∃ A, fettlelaw15_fewer.R r v A ∧ St E H A w' := by
 refine fb 48 [.tmp 4] Try.func12 rfl rfl rfl rfl rfl hst <| sr <| tb [.bool a1.reads, .bool a1.writes, .bool a1.outs, .bool a1.traps, .bool a1.turns] rfl rfl fun b3 => tb [.bool a2.reads, .bool a2.writes, .bool a2.outs, .bool a2.traps, .bool a2.turns] rfl rfl fun b4 => ta rfl <| nz <| sr <| tv (fa f34_0 rfl) rfl <| tv (lb s4 1 rfl rfl rfl) rfl <| tv (rv_not rfl) rfl <| tm rfl <| TL.cut 3 fun K1 k2 => ?_
 have J3 {e5} : ∀ w, St E H [bx b4 34 [.bool a2.reads, .bool a2.writes, .bool a2.outs, .bool a2.traps, .bool a2.turns], bx b3 34 [.bool a1.reads, .bool a1.writes, .bool a1.outs, .bool a1.traps, .bool a1.turns]] w → K1 (ovr e5 [(11, .bool (decide ((!a1.reads) = true ∨ a2.reads = true))), (2, .pointer (some ⟨b3, 0, none⟩)), (3, .pointer (some ⟨b4, 0, none⟩))]) w := by
  refine tlg k2 <| tm rfl <| TL.cut 8 fun K6 k7 => ?_
  have J8 {e10} : ∀ w, St E H [bx b4 34 [.bool a2.reads, .bool a2.writes, .bool a2.outs, .bool a2.traps, .bool a2.turns], bx b3 34 [.bool a1.reads, .bool a1.writes, .bool a1.outs, .bool a1.traps, .bool a1.turns]] w → K6 (ovr e10 [(20, .bool (decide (((!a1.reads) = true ∨ a2.reads = true) ∧ ((!a1.writes) = true ∨ a2.writes = true)))), (2, .pointer (some ⟨b3, 0, none⟩)), (3, .pointer (some ⟨b4, 0, none⟩))]) w := by
   refine tlg k7 <| tm rfl <| TL.cut 8 fun K11 k12 => ?_
   have J13 {e15} : ∀ w, St E H [bx b4 34 [.bool a2.reads, .bool a2.writes, .bool a2.outs, .bool a2.traps, .bool a2.turns], bx b3 34 [.bool a1.reads, .bool a1.writes, .bool a1.outs, .bool a1.traps, .bool a1.turns]] w → K11 (ovr e15 [(29, .bool (decide ((((!a1.reads) = true ∨ a2.reads = true) ∧ ((!a1.writes) = true ∨ a2.writes = true)) ∧ ((!a1.outs) = true ∨ a2.outs = true)))), (2, .pointer (some ⟨b3, 0, none⟩)), (3, .pointer (some ⟨b4, 0, none⟩))]) w := by
    refine tlg k12 <| tm rfl <| TL.cut 8 fun K16 k17 => ?_
    have J18 {e20} : ∀ w, St E H [bx b4 34 [.bool a2.reads, .bool a2.writes, .bool a2.outs, .bool a2.traps, .bool a2.turns], bx b3 34 [.bool a1.reads, .bool a1.writes, .bool a1.outs, .bool a1.traps, .bool a1.turns]] w → K16 (ovr e20 [(38, .bool (decide (((((!a1.reads) = true ∨ a2.reads = true) ∧ ((!a1.writes) = true ∨ a2.writes = true)) ∧ ((!a1.outs) = true ∨ a2.outs = true)) ∧ ((!a1.traps) = true ∨ a2.traps = true)))), (2, .pointer (some ⟨b3, 0, none⟩)), (3, .pointer (some ⟨b4, 0, none⟩))]) w := by
     refine tlg k17 <| tm rfl <| TL.cut 8 fun K21 k22 => ?_
     have J23 {e25} : ∀ w, St E H [bx b4 34 [.bool a2.reads, .bool a2.writes, .bool a2.outs, .bool a2.traps, .bool a2.turns], bx b3 34 [.bool a1.reads, .bool a1.writes, .bool a1.outs, .bool a1.traps, .bool a1.turns]] w → K21 (ovr e25 [(47, .bool (decide ((((((!a1.reads) = true ∨ a2.reads = true) ∧ ((!a1.writes) = true ∨ a2.writes = true)) ∧ ((!a1.outs) = true ∨ a2.outs = true)) ∧ ((!a1.traps) = true ∨ a2.traps = true)) ∧ ((!a1.turns) = true ∨ a2.turns = true))))]) w := by
      exact tlg k22 <| ta rfl <| nz <| TC.ret <| rt hp [] ⟨rfl, rfl⟩
     by_cases hc24 : ((((!a1.reads) = true ∨ a2.reads = true) ∧ ((!a1.writes) = true ∨ a2.writes = true)) ∧ ((!a1.outs) = true ∨ a2.outs = true)) ∧ ((!a1.traps) = true ∨ a2.traps = true)
     · refine gy rfl (bT hc24) <| tv (fa f34_4 rfl) rfl <| gy rfl (bT hc24) <| tv (lb s4 1 rfl rfl rfl) rfl <| gy rfl (bT hc24) <| tv (rv_not rfl) rfl <| gy rfl (bT hc24) <| tm rfl <| TL.cut 3 fun K26 k27 => ?_
       have J28 {e30} : ∀ w, St E H [bx b4 34 [.bool a2.reads, .bool a2.writes, .bool a2.outs, .bool a2.traps, .bool a2.turns], bx b3 34 [.bool a1.reads, .bool a1.writes, .bool a1.outs, .bool a1.traps, .bool a1.turns]] w → K26 (ovr e30 [(46, .bool (decide ((!a1.turns) = true ∨ a2.turns = true))), (39, .bool (decide (((((!a1.reads) = true ∨ a2.reads = true) ∧ ((!a1.writes) = true ∨ a2.writes = true)) ∧ ((!a1.outs) = true ∨ a2.outs = true)) ∧ ((!a1.traps) = true ∨ a2.traps = true))))]) w := by
        exact tlg k27 <| tv (pT (bT hc24)) rfl <| nj J23 (bAt hc24)
       by_cases hc29 : (!a1.turns) = true
       · exact gn rfl (bbT hc29) rfl rfl <| gn rfl (bbT hc29) rfl rfl <| gy rfl (bT hc24) <| tv (pT (bbT hc29)) rfl <| nj J28 (bOt hc29)
       · exact gy rfl (bbF hc29) <| tv (fa f34_4 rfl) rfl <| gy rfl (bbF hc29) <| tv (lb s4 0 rfl rfl rfl) rfl <| gy rfl (bT hc24) <| tv (pF (bbF hc29)) rfl <| nj J28 (bOf' hc29)
     · exact gn rfl (bF hc24) rfl rfl <| gn rfl (bF hc24) rfl rfl <| gn rfl (bF hc24) rfl rfl <| gn rfl (bF hc24) rfl rfl <| gu rfl rfl rfl <| gu rfl rfl rfl <| gn rfl (bF hc24) rfl rfl <| tv (pF (bF hc24)) rfl <| nj J23 (bAf hc24)
    by_cases hc19 : (((!a1.reads) = true ∨ a2.reads = true) ∧ ((!a1.writes) = true ∨ a2.writes = true)) ∧ ((!a1.outs) = true ∨ a2.outs = true)
    · refine gy rfl (bT hc19) <| tv (fa f34_3 rfl) rfl <| gy rfl (bT hc19) <| tv (lb s4 1 rfl rfl rfl) rfl <| gy rfl (bT hc19) <| tv (rv_not rfl) rfl <| gy rfl (bT hc19) <| tm rfl <| TL.cut 3 fun K31 k32 => ?_
      have J33 {e35} : ∀ w, St E H [bx b4 34 [.bool a2.reads, .bool a2.writes, .bool a2.outs, .bool a2.traps, .bool a2.turns], bx b3 34 [.bool a1.reads, .bool a1.writes, .bool a1.outs, .bool a1.traps, .bool a1.turns]] w → K31 (ovr e35 [(37, .bool (decide ((!a1.traps) = true ∨ a2.traps = true))), (2, .pointer (some ⟨b3, 0, none⟩)), (3, .pointer (some ⟨b4, 0, none⟩)), (30, .bool (decide ((((!a1.reads) = true ∨ a2.reads = true) ∧ ((!a1.writes) = true ∨ a2.writes = true)) ∧ ((!a1.outs) = true ∨ a2.outs = true))))]) w := by
       exact tlg k32 <| tv (pT (bT hc19)) rfl <| nj J18 (bAt hc19)
      by_cases hc34 : (!a1.traps) = true
      · exact gn rfl (bbT hc34) rfl rfl <| gn rfl (bbT hc34) rfl rfl <| gy rfl (bT hc19) <| tv (pT (bbT hc34)) rfl <| nj J33 (bOt hc34)
      · exact gy rfl (bbF hc34) <| tv (fa f34_3 rfl) rfl <| gy rfl (bbF hc34) <| tv (lb s4 0 rfl rfl rfl) rfl <| gy rfl (bT hc19) <| tv (pF (bbF hc34)) rfl <| nj J33 (bOf' hc34)
    · exact gn rfl (bF hc19) rfl rfl <| gn rfl (bF hc19) rfl rfl <| gn rfl (bF hc19) rfl rfl <| gn rfl (bF hc19) rfl rfl <| gu rfl rfl rfl <| gu rfl rfl rfl <| gn rfl (bF hc19) rfl rfl <| tv (pF (bF hc19)) rfl <| nj J18 (bAf hc19)
   by_cases hc14 : ((!a1.reads) = true ∨ a2.reads = true) ∧ ((!a1.writes) = true ∨ a2.writes = true)
   · refine gy rfl (bT hc14) <| tv (fa f34_2 rfl) rfl <| gy rfl (bT hc14) <| tv (lb s4 1 rfl rfl rfl) rfl <| gy rfl (bT hc14) <| tv (rv_not rfl) rfl <| gy rfl (bT hc14) <| tm rfl <| TL.cut 3 fun K36 k37 => ?_
     have J38 {e40} : ∀ w, St E H [bx b4 34 [.bool a2.reads, .bool a2.writes, .bool a2.outs, .bool a2.traps, .bool a2.turns], bx b3 34 [.bool a1.reads, .bool a1.writes, .bool a1.outs, .bool a1.traps, .bool a1.turns]] w → K36 (ovr e40 [(28, .bool (decide ((!a1.outs) = true ∨ a2.outs = true))), (2, .pointer (some ⟨b3, 0, none⟩)), (3, .pointer (some ⟨b4, 0, none⟩)), (21, .bool (decide (((!a1.reads) = true ∨ a2.reads = true) ∧ ((!a1.writes) = true ∨ a2.writes = true))))]) w := by
      exact tlg k37 <| tv (pT (bT hc14)) rfl <| nj J13 (bAt hc14)
     by_cases hc39 : (!a1.outs) = true
     · exact gn rfl (bbT hc39) rfl rfl <| gn rfl (bbT hc39) rfl rfl <| gy rfl (bT hc14) <| tv (pT (bbT hc39)) rfl <| nj J38 (bOt hc39)
     · exact gy rfl (bbF hc39) <| tv (fa f34_2 rfl) rfl <| gy rfl (bbF hc39) <| tv (lb s4 0 rfl rfl rfl) rfl <| gy rfl (bT hc14) <| tv (pF (bbF hc39)) rfl <| nj J38 (bOf' hc39)
   · exact gn rfl (bF hc14) rfl rfl <| gn rfl (bF hc14) rfl rfl <| gn rfl (bF hc14) rfl rfl <| gn rfl (bF hc14) rfl rfl <| gu rfl rfl rfl <| gu rfl rfl rfl <| gn rfl (bF hc14) rfl rfl <| tv (pF (bF hc14)) rfl <| nj J13 (bAf hc14)
  by_cases hc9 : (!a1.reads) = true ∨ a2.reads = true
  · refine gy rfl (bT hc9) <| tv (fa f34_1 rfl) rfl <| gy rfl (bT hc9) <| tv (lb s4 1 rfl rfl rfl) rfl <| gy rfl (bT hc9) <| tv (rv_not rfl) rfl <| gy rfl (bT hc9) <| tm rfl <| TL.cut 3 fun K41 k42 => ?_
    have J43 {e45} : ∀ w, St E H [bx b4 34 [.bool a2.reads, .bool a2.writes, .bool a2.outs, .bool a2.traps, .bool a2.turns], bx b3 34 [.bool a1.reads, .bool a1.writes, .bool a1.outs, .bool a1.traps, .bool a1.turns]] w → K41 (ovr e45 [(19, .bool (decide ((!a1.writes) = true ∨ a2.writes = true))), (2, .pointer (some ⟨b3, 0, none⟩)), (3, .pointer (some ⟨b4, 0, none⟩)), (12, .bool (decide ((!a1.reads) = true ∨ a2.reads = true)))]) w := by
     exact tlg k42 <| tv (pT (bT hc9)) rfl <| nj J8 (bAt hc9)
    by_cases hc44 : (!a1.writes) = true
    · exact gn rfl (bbT hc44) rfl rfl <| gn rfl (bbT hc44) rfl rfl <| gy rfl (bT hc9) <| tv (pT (bbT hc44)) rfl <| nj J43 (bOt hc44)
    · exact gy rfl (bbF hc44) <| tv (fa f34_1 rfl) rfl <| gy rfl (bbF hc44) <| tv (lb s4 0 rfl rfl rfl) rfl <| gy rfl (bT hc9) <| tv (pF (bbF hc44)) rfl <| nj J43 (bOf' hc44)
  · exact gn rfl (bF hc9) rfl rfl <| gn rfl (bF hc9) rfl rfl <| gn rfl (bF hc9) rfl rfl <| gn rfl (bF hc9) rfl rfl <| gu rfl rfl rfl <| gu rfl rfl rfl <| gn rfl (bF hc9) rfl rfl <| tv (pF (bF hc9)) rfl <| nj J8 (bAf hc9)
 by_cases hc4 : (!a1.reads) = true
 · exact gn rfl (bbT hc4) rfl rfl <| gn rfl (bbT hc4) rfl rfl <| tv (pT (bbT hc4)) rfl <| nj J3 (bOt hc4)
 · exact gy rfl (bbF hc4) <| tv (fa f34_0 rfl) rfl <| gy rfl (bbF hc4) <| tv (lb s4 0 rfl rfl rfl) rfl <| tv (pF (bbF hc4)) rfl <| nj J3 (bOf' hc4)
end Go.Proofs.Ytpomfbdbkejedaa
