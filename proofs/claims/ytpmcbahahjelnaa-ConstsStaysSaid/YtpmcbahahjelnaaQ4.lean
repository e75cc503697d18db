/- Several parts in one text, the first of which: The walk through the program's functions: each one's pure reading, and that a call does what it says. No conditions. -/
import Derived.Test.YtpmcbahahjelnaaQ3
set_option linter.unusedVariables false
set_option linter.unusedSimpArgs false
namespace Go.Proofs.Ytpmcbahahjelnaa
open Go Go.Proofs
section
/-! ### fettle/dom.Frontier -/
abbrev om.R (r : List (List Int)) (v : Value) (A : List FP) : Prop := ∃ (w1 : Value) (a : FP), w1 = v ∧ A = [a] ∧ SlO 25 (kSl 3 (nt .i64)) r w1 a
def om.nx23  (a : List (List Int)) : Option (List (List Int)) :=
  some a
def om.nx47 (a : Int) (b : List (List Int)) : Option (Ex (List (List Int)) (List (List Int) × Int)) :=
  some (.go (b, (w64 (a + 1))))
def om.jn57 (a : Int) (b : List (List Int)) : Option (Ex (List (List Int)) (List (List Int) × Int)) :=
  some (.go (b, (w64 (a + 1))))
def om.bd47 (e : List Bool) (f : List (List Bool)) (b : Int) (d : List Bool) (c : List (List Int)) (a : Int) : Option (Ex (List (List Int)) (List (List Int) × Int)) :=
  if a < (len d) then
    (idx d a).bind fun g =>
    (if g = true then (idx e b).bind fun h =>
    some h else some false).bind fun i =>
    (if i = true then (if b = a then some true else (idx f b).bind fun j =>
    (idx j a).bind fun k =>
    some (!k)).bind fun l =>
    some l else some false).bind fun m =>
    if m = true then
      (idx c b).bind fun n =>
      (cat n [a]).bind fun o =>
      om.jn57 a (c.set (b).toNat o)
    else
      om.jn57 a c
  else
    some (.ret c)
def om.nx40 (b : List Bool) (c : List (List Bool)) (d : List (List Int)) (a : Int) (e : List Bool) : Option (Ex (List (List Int)) (List (List Int) × Int)) :=
  (whl (fun (s : (List (List Int) × Int)) => om.bd47 b c a e s.1 s.2) nD (d, 0)).bind fun z =>
  om.nx47 a z
def om.nx99 (a : Int) (b : List Bool) : Option (Ex (List Bool) (List Bool × Int)) :=
  some (.go (b, (w64 (a + 1))))
def om.bd99 (e : List (List Bool)) (f : Int) (g : Int) (d : List Int) (a : List Bool) (b : Int) : Option (Ex (List Bool) (List Bool × Int)) :=
  if b < (len d) then
    (idx d b).bind fun c =>
    (idx a c).bind fun h =>
    (if h = true then some true else (idx e f).bind fun i =>
    (idx i g).bind fun j =>
    some j).bind fun k =>
    (idx a c).bind fun l =>
    some (.go ((a.set (c).toNat k), (w64 (b + 1))))
  else
    some (.ret a)
def om.bd40 (b : List (List Int)) (d : List (List Bool)) (e : Int) (c : List Bool) (a : Int) : Option (Ex (List Bool) (List Bool × Int)) :=
  if a < (len b) then
    (idx b a).bind fun f =>
    (whl (fun (s : (List Bool × Int)) => om.bd99 d e a f s.1 s.2) nD (c, 0)).bind fun z =>
    om.nx99 a z
  else
    some (.ret c)
def om.bd23 (b : List (List Int)) (e : List Bool) (c : List (List Bool)) (f : List (List Int)) (d : List (List Int)) (a : Int) : Option (Ex (List (List Int)) (List (List Int) × Int)) :=
  if a < (len f) then
    (mkl (len b) false).bind fun g =>
    (whl (fun (s : (List Bool × Int)) => om.bd40 b c a s.1 s.2) nD (g, 0)).bind fun z =>
    om.nx40 e c d a z
  else
    some (.ret d)
def om (a1 : ny) : Option (List (List Int)) :=
  (oO a1).bind fun a =>
  (ql a1).bind fun c =>
  (oJ a1).bind fun d =>
  (mkl (len a) ([] : List Int)).bind fun b =>
  (whl (fun (s : (List (List Int) × Int)) => om.bd23 a c d b s.1 s.2) nD (b, 0)).bind fun z =>
  om.nx23 z
set_option maxHeartbeats 4000000 in
theorem xa {E : World} {H : FP} {w : World} {a1 : ny} {v2 : Value} {B : Value} {r : List (List Int)} (U : SlI (nt .i64) H a1.regs v2) (V : SlI nY H a1.blocks B) (hp : om a1 = some r) (hst : St E H [] w) :
    Fn Try.prog 41 #[.agg #[.int .i64 a1.params, .int .i64 a1.result, v2, B]] w fun v w' => ∃ A, om.R r v A ∧ St E H A w' := by
 refine fb 105 [.tmp 2] Try.func41 rfl rfl rfl rfl rfl hst <| sr <| tb [.int .i64 a1.params, .int .i64 a1.result, v2, B] rfl rfl fun aG => ta rfl <| nz <| nv fun cn aH => ch mix [bx aG 41 [.int .i64 a1.params, .int .i64 a1.result, v2, B]] (nq 0 rfl ns) <| hv 0 rfl (lAG (ds := [.int .i64 a1.params, .int .i64 a1.result, v2, B]) n8 0 rfl rfl rfl rfl) Ag rfl <| hv 2 rfl (lAG (ds := [.int .i64 a1.params, .int .i64 a1.result, v2, B]) n8 0 rfl rfl rfl rfl) Ag rfl <| hv 4 rfl (lAG (ds := [.int .i64 a1.params, .int .i64 a1.result, v2, B]) n8 0 rfl rfl rfl rfl) Ag rfl <| ho 1 rfl Ag fun co aI => bE hp fun D hy5 hp => tc 0 [_] rfl c58 (fun _ => rJ (a1 := a1) (U.mono nw) (V.mono nw) hy5) rfl ?_
 rintro _ _ ⟨h, m, rfl, rfl, K⟩
 refine hk aI (nq 1 rfl ns) <| ho 3 rfl Ag fun cp aJ => bE hp fun X hy9 hp => tc 0 [_,_] rfl c48 (fun _ => sd (a1 := a1) (U.mono nw) (V.mono nw) hy9) rfl ?_
 rintro _ _ ⟨n, o, rfl, rfl, aK⟩
 refine hk aJ (nq 2 rfl ns) <| ho 5 rfl Ag fun cq aL => bE hp fun G hy13 hp => tc 0 [_,_,_] rfl c50 (fun _ => t6 (a1 := a1) (U.mono nw) (V.mono nw) hy13) rfl ?_
 rintro _ _ ⟨p, q, rfl, rfl, aj⟩
 refine hk aL (nq 3 rfl ns) <| hv 6 rfl sg Ag rfl <| hv 7 rfl sg Ag rfl <| hv 8 rfl sg Ag rfl <| hz Ag <| tg aH <| sr <| tm rfl <| tv (ln u73 K.ro rfl) rfl <| tk (k := (kSl 3 (nt .i64))) u73 i25 hp ⟨_, rfl, SlO.nil 3⟩ rfl rfl rfl rfl rfl rfl fun l c aM ak hp => ta rfl <| nz <| nv fun aN aO => sr <| tm rfl <| tv (ln u73 ak.ro rfl) rfl <| tm rfl <| nz <| nB <| bE hp fun aP aQ aR => ?_
 have aS {Y Z aT} (aU : SlO 25 (kSl 3 (nt .i64)) Y c Z) (aV : Y = aP) : ∀ w, St E H [Z] w → aN (ovr aT [(6, c)]) w := by
  subst aV
  replace hp : om.nx23 Y = some r := aR
  exact tg aO <| sr <| tm rfl <| ta rfl <| nz <| nH <| rt hp [0] ⟨c, Z, rfl, rfl, aU⟩
 refine lp aQ [3, 2, 1, 0] rfl (fun s e L => ∃ I b y al, s = (I, b) ∧ SlO 25 (kSl 3 (nt .i64)) I c y ∧ e = ovr al [(3, h), (4, n), (5, p), (6, c), (25, .int .i64 (len l)), (26, .int .i64 b)] ∧ L = [m, o, q, y]) ⟨_, _, aM, _, rfl, ak, nC _ _ rfl, rfl⟩ ?_
 rintro _ _ _ ⟨I, b, y, al, rfl, am, rfl, rfl⟩ aa hp aW
 replace hp : om.bd23 D X G l I b = some aa := hp
 refine sr <| tv (blt rfl rfl) rfl <| nz <| nv fun cr aX => cD rfl hp (fun aY hp => ?_) fun aY hp => ?_
 · refine sk aX rfl <| nv fun aZ a0 => nB <| sr <| tm rfl <| ta rfl <| nz <| sr <| tm rfl <| tv (ln u73 K.ro rfl) rfl <| tk (k := kBool) u58 i4 hp ⟨rfl, rfl⟩ rfl rfl rfl rfl rfl rfl fun cs i a2 a3 hp => ta rfl <| nz <| nv fun a4 a5 => sr <| tm rfl <| tv (ln u73 K.ro rfl) rfl <| tm rfl <| nz <| nB <| bE hp fun a6 a7 a8 => ?_
   have a9 {z C ba} (an : SlO 4 kBool z i C) (bb : z = a6) : ∀ w, St E H [m, o, q, y, C] w → a4 (ovr ba [(3, h), (4, n), (5, p), (6, c), (7, .int .i64 b), (8, i), (25, .int .i64 (len l)), (26, .int .i64 b)]) w := by
    subst bb
    replace hp : om.nx40 X G I b z = some aa := a8
    refine tg a5 <| sr <| tm rfl <| tv (ln u58 an.ro rfl) rfl <| tm rfl <| nz <| nB <| bE hp fun bc be bf => ?_
    have bg {ab ac bh} (bi : SlO 25 (kSl 3 (nt .i64)) ab c ac) (bj : ab = bc) : ∀ w, St E H [m, o, q, ac] w → aZ (ovr bh [(3, h), (4, n), (5, p), (6, c), (25, .int .i64 (len l)), (26, .int .i64 b)]) w := by
     subst bj
     replace hp : om.nx47 b ab = some aa := bf
     exact tg a0 <| nF <| tv (bad rfl rfl) rfl <| tm rfl <| nl <| gk hp [0, 1, 2, 3] ⟨_, _, ac, _, rfl, bi, nC _ _ rfl, rfl⟩
    refine lp be [0, 1, 2, 3, 4] rfl (fun s e L => ∃ M f F ao, s = (M, f) ∧ SlO 25 (kSl 3 (nt .i64)) M c F ∧ e = ovr ao [(3, h), (4, n), (5, p), (6, c), (7, .int .i64 b), (25, .int .i64 (len l)), (26, .int .i64 b), (63, i), (64, .int .i64 (len z)), (65, .int .i64 f)] ∧ L = [m, o, q, F, C]) ⟨_, _, y, _, rfl, am, nC _ _ rfl, rfl⟩ ?_
    rintro _ _ _ ⟨M, f, F, ao, rfl, ad, rfl, rfl⟩ ap hp bk
    replace hp : om.bd47 X G b z M f = some ap := hp
    refine sr <| tv (blt rfl rfl) rfl <| nz <| nv fun ct bl => cD rfl hp (fun bm hp => ?_) fun bm hp => ?_
    · refine sk bl rfl <| nv fun bn bo => ?_
      have aq {ar ae bp} (bq : SlO 25 (kSl 3 (nt .i64)) ar c ae) (hp : om.jn57 f ar = some ap) : ∀ w, St E H [m, o, q, ae, C] w → bn (ovr bp [(3, h), (4, n), (5, p), (6, c), (7, .int .i64 b), (25, .int .i64 (len l)), (26, .int .i64 b), (63, i), (64, .int .i64 (len z)), (65, .int .i64 f)]) w := by
       exact tg bo <| nF <| tv (bad rfl rfl) rfl <| tm rfl <| nl <| gk hp [0, 1, 2, 3, 4] ⟨_, _, ae, _, rfl, bq, nC _ _ rfl, rfl⟩
      refine nB <| sr <| tm rfl <| ti u58 i4 (an).ro hp rfl rfl rfl rfl ?_
      rintro cu cv cw _ hp rfl br
      refine tv (lr s4 (Src.at_ 4 rfl) br 0 rfl rfl) rfl <| ta rfl <| ta rfl <| nz <| sr <| tm rfl <| tm rfl <| bE hp fun au ht82 hp => TL.cut 5 fun bs bt => ?_
      have av {bu} : ∀ w, St E H [m, o, q, F, C] w → bs (ovr bu [(76, .bool au), (3, h), (4, n), (5, p), (6, c), (7, .int .i64 b), (13, .int .i64 f), (25, .int .i64 (len l)), (26, .int .i64 b), (63, i), (64, .int .i64 (len z)), (65, .int .i64 f)]) w := by
       refine tlg bt <| tm rfl <| bE hp fun bv ht73 hp => TL.cut 14 fun bw bz => ?_
       have aw {bA} : ∀ w, St E H [m, o, q, F, C] w → bw (ovr bA [(91, .bool bv), (3, h), (4, n), (5, p), (6, c), (7, .int .i64 b), (13, .int .i64 f), (25, .int .i64 (len l)), (26, .int .i64 b), (63, i), (64, .int .i64 (len z)), (65, .int .i64 f)]) w := by
        refine tlg bz <| nz <| cB rfl hp (fun bB hp => ?_) fun bB hp => ?_
        · refine nF <| tm rfl <| tm rfl <| tm rfl <| tm rfl <| tp [3, 0, 1, 2, 4] [_,_,_,_,_] rfl rfl <| bE hp fun cx af hp => TL.open_ ad af ?_
          rintro cy _ cz cA N ⟨cC, rfl, bC⟩
          exact tv (pa u73 i25 rfl rfl (oM af).1 N) rfl <| tv (lr s25 (Src.at_ 0 rfl) (Hole.cells N) 0 rfl rfl) rfl <| tm rfl <| tbs [(0, .int .i64 f)] [.int .i64 f] u25 i3 Ag rfl rfl rfl rfl fun cE => tp [2, 0, 1, 3, 4, 5, 6] [_,_,_,_,_,_,_] rfl rfl <| tf 2 0 [_,_,_,_,_,_,_,_] rfl <| tp2 u25 i3 bC hp (RepL.to (RepL.cons (k := (nt .i64)) (x := f) ⟨rfl, rfl⟩ RepL.nil) rfl) rfl rfl rfl rfl rfl rfl rfl rfl rfl fun bD cF cG ax hp => tv (pa u73 i25 rfl rfl (oM af).1 N) rfl <| tp [1, 0, 2, 3, 4, 5] [_,_,_,_,_,_] rfl rfl <| tsH N m25 0 rfl ax.o1 rfl fun cH bG => nl <| W.shut (a := bD) bG ⟨_, rfl, ax⟩ fun cI bH => jn [1, 2, 3, 0, 4] (aq bH hp)
        · exact TC.skip <| jn [0, 1, 2, 3, 4] (aq ad hp)
       refine ifE ht73 (fun j hp => ?_) fun j hp => ?_
       · refine gy rfl (bbT j) <| tm rfl <| gy rfl (bbT j) <| tm rfl <| gy rfl (bbT j) <| tv (beq rfl rfl) rfl <| gy rfl (bbT j) <| tm rfl <| bE hp fun bI ht79 hp => TL.cut 9 fun bJ bK => ?_
         have ay {bL} : ∀ w, St E H [m, o, q, F, C] w → bJ (ovr bL [(90, .bool bI), (3, h), (4, n), (5, p), (6, c), (7, .int .i64 b), (13, .int .i64 f), (25, .int .i64 (len l)), (26, .int .i64 b), (63, i), (64, .int .i64 (len z)), (65, .int .i64 f), (77, .bool au), (78, .int .i64 b), (79, .int .i64 f), (80, .bool (decide (b = f))), (81, .bool (decide (b = f)))]) w := by
          refine tlg bK <| tv (pT (bbT j)) rfl ?_
          obtain rfl := Option.some.inj hp
          exact nj aw rfl
         refine ifE ht79 (fun d hp => ?_) fun d hp => ?_
         · refine gn rfl (bT d) rfl rfl <| gn rfl (bT d) rfl rfl <| gn rfl (bT d) rfl rfl <| gn rfl (bT d) rfl rfl <| gn rfl (bT d) rfl rfl <| gn rfl (bT d) rfl rfl <| gn rfl (bT d) rfl rfl <| gn rfl (bT d) rfl rfl <| gy rfl (bbT j) <| tv (pT (bT d)) rfl ?_
           obtain rfl := Option.some.inj hp
           exact nj ay rfl
         · refine gy rfl (bF d) <| tm rfl <| gy rfl (bF d) <| tm rfl <| gy rfl (bF d) <| ti u85 i58 (aj).ro hp rfl rfl rfl rfl ?_
           rintro cJ cK cL _ hp ⟨cM, rfl, bM⟩ bN
           refine gy rfl (bF d) <| tv (lr s58 (Src.at_ 2 rfl) bN 0 rfl rfl) rfl <| gy rfl (bF d) <| tm rfl <| gy rfl (bF d) <| ti u58 i4 bM hp rfl rfl rfl rfl ?_
           rintro cN cO cP _ hp rfl bO
           refine gy rfl (bF d) <| tv (lr s4 (Src.at_ 2 rfl) bO 0 rfl rfl) rfl <| gy rfl (bF d) <| tv (oI rfl) rfl <| gy rfl (bbT j) <| tv (pF (bF d)) rfl ?_
           obtain rfl := Option.some.inj hp
           exact nj ay rfl
       · refine gn rfl (bbF j) rfl rfl <| gn rfl (bbF j) rfl rfl <| gn rfl (bbF j) rfl rfl <| gn rfl (bbF j) rfl rfl <| gu rfl rfl rfl <| gu rfl rfl rfl <| gu rfl rfl rfl <| gu rfl rfl rfl <| gu rfl rfl rfl <| gu rfl rfl rfl <| gu rfl rfl rfl <| gu rfl rfl rfl <| gn rfl (bbF j) rfl rfl <| tv (pF (bbF j)) rfl ?_
         obtain rfl := Option.some.inj hp
         exact nj aw rfl
      refine ifE ht82 (fun t hp => ?_) fun t hp => ?_
      · refine gy rfl (bbT t) <| tm rfl <| gy rfl (bbT t) <| tm rfl <| gy rfl (bbT t) <| ti u58 i4 (aK).ro hp rfl rfl rfl rfl ?_
        rintro cQ cR cS _ hp rfl bP
        refine gy rfl (bbT t) <| tv (lr s4 (Src.at_ 1 rfl) bP 0 rfl rfl) rfl <| tv (pT (bbT t)) rfl ?_
        obtain rfl := Option.some.inj hp
        exact nj av rfl
      · refine gn rfl (bbF t) rfl rfl <| gn rfl (bbF t) rfl rfl <| gn rfl (bbF t) rfl rfl <| gn rfl (bbF t) rfl rfl <| tv (pF (bbF t)) rfl ?_
        obtain rfl := Option.some.inj hp
        exact nj av rfl
    · exact nN <| jn [0, 1, 2, 3] (bg ad (nK hp bk))
   refine lp a7 [1, 2, 3, 4, 0] rfl (fun s e L => ∃ O u P az, s = (O, u) ∧ SlO 4 kBool O i P ∧ e = ovr az [(3, h), (4, n), (5, p), (6, c), (7, .int .i64 b), (8, i), (25, .int .i64 (len l)), (26, .int .i64 b), (32, h), (33, .int .i64 (len D)), (34, .int .i64 u)] ∧ L = [m, o, q, y, P]) ⟨_, _, a2, _, rfl, a3, nC _ _ rfl, rfl⟩ ?_
   rintro _ _ _ ⟨O, u, P, az, rfl, aA, rfl, rfl⟩ aB hp bQ
   replace hp : om.bd40 D G b O u = some aB := hp
   refine sr <| tv (blt rfl rfl) rfl <| nz <| nv fun cT bR => cD rfl hp (fun bS hp => ?_) fun bS hp => ?_
   · refine sk bR rfl <| nv fun bU bV => nB <| sr <| tm rfl <| ti u73 i25 (K).ro hp rfl rfl rfl rfl ?_
     rintro ag cU cV _ hp ⟨aC, rfl, aD⟩ bW
     refine tv (lr s25 (Src.at_ 0 rfl) bW 0 rfl rfl) rfl <| ta rfl <| ta rfl <| nz <| sr <| tm rfl <| tv (ln u25 aD rfl) rfl <| tm rfl <| nz <| nB <| bE hp fun bX bY bZ => ?_
     have b0 {ah ai b1} (b2 : SlO 4 kBool ah i ai) (b3 : ah = bX) : ∀ w, St E H [m, o, q, y, ai] w → bU (ovr b1 [(3, h), (4, n), (5, p), (6, c), (7, .int .i64 b), (8, i), (25, .int .i64 (len l)), (26, .int .i64 b), (32, h), (33, .int .i64 (len D)), (34, .int .i64 u)]) w := by
      subst b3
      replace hp : om.nx99 u ah = some aB := bZ
      exact tg bV <| nF <| tv (bad rfl rfl) rfl <| tm rfl <| nl <| gk hp [0, 1, 2, 3, 4] ⟨_, _, ai, _, rfl, b2, nC _ _ rfl, rfl⟩
     refine lp bY [0, 1, 2, 3, 4] rfl (fun s e L => ∃ Q J S aE, s = (Q, J) ∧ SlO 4 kBool Q i S ∧ e = ovr aE [(3, h), (4, n), (5, p), (6, c), (7, .int .i64 b), (8, i), (9, .int .i64 u), (25, .int .i64 (len l)), (26, .int .i64 b), (32, h), (33, .int .i64 (len D)), (34, .int .i64 u), (39, aC), (40, .int .i64 (len ag)), (41, .int .i64 J)] ∧ L = [m, o, q, y, S]) ⟨_, _, P, _, rfl, aA, nC _ _ rfl, rfl⟩ ?_
     rintro _ _ _ ⟨Q, J, S, aE, rfl, T, rfl, rfl⟩ b4 hp b5
     replace hp : om.bd99 G b u ag Q J = some b4 := hp
     refine sr <| tv (blt rfl rfl) rfl <| nz <| nv fun cW b6 => cD rfl hp (fun b7 hp => ?_) fun b7 hp => ?_
     · refine sk b6 rfl <| nv fun cX b8 => nB <| sr <| ti u25 i3 aD hp rfl rfl rfl rfl ?_
       rintro b9 cY cZ _ hp rfl ca
       refine tv (lr s3 (Src.at_ 0 rfl) ca 0 rfl rfl) rfl <| ta rfl <| nz <| nF <| tm rfl <| tm rfl <| tm rfl <| tm rfl <| ti u58 i4 (T).ro hp rfl rfl rfl rfl ?_
       rintro c0 c1 c2 _ hp rfl cb
       refine tv (lr s4 (Src.at_ 4 rfl) cb 0 rfl rfl) rfl <| tm rfl <| bE hp fun cc ht116 hp => TL.cut 8 fun cd ce => ?_
       have aF {cf} : ∀ w, St E H [m, o, q, y, S] w → cd (ovr cf [(59, .bool cc), (3, h), (4, n), (5, p), (6, c), (7, .int .i64 b), (8, i), (9, .int .i64 u), (25, .int .i64 (len l)), (26, .int .i64 b), (32, h), (33, .int .i64 (len D)), (34, .int .i64 u), (39, aC), (40, .int .i64 (len ag)), (41, .int .i64 J), (45, i), (46, .int .i64 b9)]) w := by
        exact tlg ce <| tO u58 i4 T hp rfl rfl rfl rfl fun c3 c4 c5 cg hp => tp [4, 0, 1, 2, 3] [_,_,_,_,_] rfl rfl <| tE T cg m4 rfl ⟨rfl, rfl⟩ w1 fun ci cj => nl <| tg b8 <| nF <| tv (bad rfl rfl) rfl <| tm rfl <| nl <| gk hp [1, 2, 3, 4, 0] ⟨_, _, ci, _, rfl, cj, nC _ _ rfl, rfl⟩
       refine ifE ht116 (fun g hp => ?_) fun g hp => ?_
       · refine gn rfl (bbT g) rfl rfl <| gn rfl (bbT g) rfl rfl <| gn rfl (bbT g) rfl rfl <| gn rfl (bbT g) rfl rfl <| gn rfl (bbT g) rfl rfl <| gn rfl (bbT g) rfl rfl <| gn rfl (bbT g) rfl rfl <| tv (pT (bbT g)) rfl ?_
         obtain rfl := Option.some.inj hp
         exact nj aF rfl
       · refine gy rfl (bbF g) <| tm rfl <| gy rfl (bbF g) <| tm rfl <| gy rfl (bbF g) <| ti u85 i58 (aj).ro hp rfl rfl rfl rfl ?_
         rintro c6 c7 c8 _ hp ⟨c9, rfl, ck⟩ cl
         refine gy rfl (bbF g) <| tv (lr s58 (Src.at_ 2 rfl) cl 0 rfl rfl) rfl <| gy rfl (bbF g) <| tm rfl <| gy rfl (bbF g) <| ti u58 i4 ck hp rfl rfl rfl rfl ?_
         rintro da db dc _ hp rfl cm
         refine gy rfl (bbF g) <| tv (lr s4 (Src.at_ 2 rfl) cm 0 rfl rfl) rfl <| tv (pF (bbF g)) rfl ?_
         obtain rfl := Option.some.inj hp
         exact nj aF rfl
     · exact nN <| jn [0, 1, 2, 3, 4] (b0 T (nK hp b5))
   · exact nN <| jn [0, 1, 2, 3, 4] (a9 aA (nK hp bQ))
 · exact nN <| jn [3] (aS am (nK hp aW))
/-! ### (*fettle/ssa.builder).closed$1 -/
abbrev rN.R (r : Bool) (v : Value) (A : List FP) : Prop := .bool r = v ∧ A = []
def rN (a1 : nL) (a5 : Int) : Option Bool :=
  some (decide (a1.dst = a5))
theorem xb {E : World} {H : FP} {w : World} {a1 : nL} {a5 : Int} {v2 : Value} {a : Nat} {b : Nat} {r : Bool} (d : SlI (nt .i64) H a1.args v2) (c : n7 H a b [.int .i64 a5]) (hp : rN a1 a5 = some r) (hst : St E H [] w) :
    Fn Try.prog 83 #[.agg #[.int .i64 a1.op, .int .i64 a1.dst, v2, .int .i64 a1.imm, .int .i64 a1.fn], .pointer (some ⟨a, b, none⟩)] w fun v w' => ∃ A, rN.R r v A ∧ St E H A w' := by
 exact fb 8 [.tmp 3] Try.func83 rfl rfl rfl rfl rfl hst <| sr <| tb [.int .i64 a1.op, .int .i64 a1.dst, v2, .int .i64 a1.imm, .int .i64 a1.fn] rfl rfl fun e => ta rfl <| nz <| sr <| tv (fa pd rfl) rfl <| tv (lb s3 0 rfl rfl rfl) rfl <| tv (lr s3 sH c 0 rfl rfl) rfl <| tv (beq rfl rfl) rfl <| ta rfl <| nz <| nH <| rt hp [] ⟨rfl, rfl⟩
/-! ### slices.IndexFunc[[]fettle/api.Instr,fettle/api.Instr] -/
abbrev pZ.R (r : Int) (v : Value) (A : List FP) : Prop := .int .i64 r = v ∧ A = []
def pZ.nx8  : Option Int :=
  some (-1)
def pZ.bd8 (a1 : List nL) (a6 : Int) (a : Int) : Option (Ex (Ex Int Unit) Int) :=
  if a < (len a1) then
    (idx a1 a).bind fun b =>
    (rN b a6).bind fun c =>
    if c = true then
      some (.ret (.ret a))
    else
      some (.go (w64 (a + 1)))
  else
    some (.ret (.go ()))
def pZ (a1 : List nL) (a6 : Int) : Option Int :=
  (whl (fun (s : Int) => pZ.bd8 a1 a6 s) nD 0).bind fun z =>
  match z with
    | .ret r => some r
    | .go p => pZ.nx8
theorem xc {E : World} {H : FP} {w : World} {a1 : List nL} {a6 : Int} {v2 : Value} {b : Nat} {c : Nat} {r : Int} (d : SlI oN H a1 v2) (i : n7 H b c [.int .i64 a6]) (hp : pZ a1 a6 = some r) (hst : St E H [] w) :
    Fn Try.prog 92 #[v2, .func (.func 83) #[] #[.pointer (some ⟨b, c, none⟩)]] w fun v w' => ∃ A, pZ.R r v A ∧ St E H A w' := by
 refine fb 19 [.tmp 4] Try.func92 rfl rfl rfl rfl rfl hst <| sr <| ta rfl <| nz <| nv fun j k => sr <| tm rfl <| tv (ln u48 d rfl) rfl <| tm rfl <| nz <| nB <| bE hp fun l m f => ?_
 have n {o} (p : .go () = l) : ∀ w, St E H [] w → j (ovr o []) w := by
  subst p
  replace hp : pZ.nx8 = some r := f
  exact tg k <| sr <| ta rfl <| nz <| nH <| rt hp [] ⟨rfl, rfl⟩
 refine lp m [] rfl (fun s e L => ∃ g, e = ovr g [(0, v2), (1, .func (.func 83) #[] #[.pointer (some ⟨b, c, none⟩)]), (7, .int .i64 (len a1)), (8, .int .i64 s)] ∧ L = []) ⟨_, nC _ _ rfl, rfl⟩ ?_
 rintro q _ _ ⟨g, rfl, rfl⟩ t hp h
 replace hp : pZ.bd8 a1 a6 q = some t := hp
 refine sr <| tv (blt rfl rfl) rfl <| nz <| nv fun F u => cD rfl hp (fun x hp => ?_) fun x hp => ?_
 · refine sk u rfl <| nv fun G y => nB <| sr <| tm rfl <| ta rfl <| nz <| sr <| tm rfl <| tm rfl <| tm rfl <| ti u48 i52 d hp rfl rfl rfl rfl ?_
   rintro a I J _ hp ⟨z, rfl, B⟩ C
   refine tv (lR (ds := [.int .i64 a.op, .int .i64 a.dst, z, .int .i64 a.imm, .int .i64 a.fn]) o5 sH C 0 rfl rfl rfl) rfl <| bE hp fun K hy18 hp => tcv 0 [] rfl c83 rfl (fun _ => xb (a1 := a) (a5 := a6) (B.mono nw) (i.mono nw) hy18) rfl ?_
   rintro _ _ ⟨rfl, rfl⟩
   refine nz <| cB rfl hp (fun D hp => ?_) fun D hp => ?_
   · refine sr <| tm rfl <| ta rfl <| nz <| nH ?_
     obtain rfl := nK hp h
     exact rt f [] ⟨rfl, rfl⟩
   · exact sk y rfl <| nF <| tv (bad rfl rfl) rfl <| tm rfl <| nl <| gk hp [] ⟨_, nC _ _ rfl, rfl⟩
 · exact nN <| jn [] (n (nK hp h))
/-! ### slices.ContainsFunc[[]fettle/api.Instr,fettle/api.Instr] -/
abbrev rd.R (r : Bool) (v : Value) (A : List FP) : Prop := .bool r = v ∧ A = []
def rd (a1 : List nL) (a6 : Int) : Option Bool :=
  (pZ a1 a6).bind fun a =>
  some (decide (a ≥ 0))
theorem xd {E : World} {H : FP} {w : World} {a1 : List nL} {a6 : Int} {v2 : Value} {a : Nat} {b : Nat} {r : Bool} (c : SlI oN H a1 v2) (d : n7 H a b [.int .i64 a6]) (hp : rd a1 a6 = some r) (hst : St E H [] w) :
    Fn Try.prog 82 #[v2, .func (.func 83) #[] #[.pointer (some ⟨a, b, none⟩)]] w fun v w' => ∃ A, rd.R r v A ∧ St E H A w' := by
 refine fb 9 [.tmp 4] Try.func82 rfl rfl rfl rfl rfl hst <| sr <| ta rfl <| nz <| sr <| tm rfl <| tm rfl <| bE hp fun e hy1 hp => tc 0 [] rfl c92 (fun _ => xc (a1 := a1) (a6 := a6) (c.mono nw) (d.mono nw) hy1) rfl ?_
 rintro _ _ ⟨rfl, rfl⟩
 exact tv (bge rfl rfl) rfl <| ta rfl <| nz <| nH <| rt hp [] ⟨rfl, rfl⟩
/-! ### (*fettle/ssa.builder).closed -/
abbrev oA.R (r : List Bool) (v : Value) (A : List FP) : Prop := ∃ (w1 : Value) (a : FP), w1 = v ∧ A = [a] ∧ SlO 4 kBool r w1 a
def oA.nx18  (a : List Bool) : Option (List Bool) :=
  some a
def oA.nx35  (a : List Bool) (b : List Int) : Option (Ex (List Bool) (List Bool × List Int)) :=
  some (.go (a, b))
def oA.jn45 (a : Int) (b : List Bool) (c : List Int) : Option (Ex (List Bool × List Int) (List Bool × List Int × Int)) :=
  some (.go (b, c, (w64 (a + 1))))
def oA.bd35 (e : List Int) (a : List Bool) (d : List Int) (b : Int) : Option (Ex (List Bool × List Int) (List Bool × List Int × Int)) :=
  if b < (len e) then
    (idx e b).bind fun c =>
    (idx a c).bind fun f =>
    if (!f) = true then
      (idx a c).bind fun h =>
      (cat d [c]).bind fun g =>
      oA.jn45 b (a.set (c).toNat true) g
    else
      oA.jn45 b a d
  else
    some (.ret (a, d))
def oA.bd18 (a2 : nS) (b : List Bool) (a : List Int) : Option (Ex (List Bool) (List Bool × List Int)) :=
  if (len a) > 0 then
    (idx a (w64 ((len a) - 1))).bind fun c =>
    (upto a (w64 ((len a) - 1))).bind fun d =>
    (idx a2.front c).bind fun e =>
    (whl (fun (s : (List Bool × List Int × Int)) => oA.bd35 e s.1 s.2.1 s.2.2) nD (b, d, 0)).bind fun z =>
    oA.nx35 z.1 z.2
  else
    some (.ret b)
def oA.nx9 (a2 : nS) (a : List Bool) (b : List Int) : Option (List Bool) :=
  (whl (fun (s : (List Bool × List Int)) => oA.bd18 a2 s.1 s.2) nD (a, b)).bind fun z =>
  oA.nx18 z
def oA.jn63 (a : Int) (b : List Int) : Option (Ex (List Int) (List Int × Int)) :=
  some (.go (b, (w64 (a + 1))))
def oA.bd9 (a2 : nS) (a31 : Int) (b : List Int) (a : Int) : Option (Ex (List Int) (List Int × Int)) :=
  if a < (len a2.f.blocks) then
    (idx a2.f.blocks a).bind fun c =>
    (rd c.ins a31).bind fun d =>
    if d = true then
      (cat b [a]).bind fun e =>
      oA.jn63 a e
    else
      oA.jn63 a b
  else
    some (.ret b)
def oA (a2 : nS) (a31 : Int) : Option (List Bool) :=
  (mkl (len a2.f.blocks) false).bind fun a =>
  (whl (fun (s : (List Int × Int)) => oA.bd9 a2 a31 s.1 s.2) nD ([0], 0)).bind fun z =>
  oA.nx9 a2 a z
set_option maxHeartbeats 4000000 in
theorem xe {E : World} {H : FP} {w : World} {a2 : nS} {a31 : Int} {b : Nat} {c : Nat} {ah : Value} {m : Value} {ai : Value} {aj : Value} {ak : Value} {al : Value} {am : Value} {an : Value} {ao : Value} {ap : Value} {aq : Value} {ar : Value} {au : Value} {r : List Bool} (B : n7 H b c [.int .i64 a2.f.params, .int .i64 a2.f.result, ah, m, ai, aj, ak, al, am, an, ao, ap, aq, ar, au]) (b1 : SlI (nt .i64) H a2.f.regs ah) (C : SlI nY H a2.f.blocks m) (b2 : SlI (kSl 4 kBool) H a2.in_ ai) (aN : SlI (kSl 3 (nt .i64)) H a2.front aj) (b3 : SlI (nt .i64) H a2.nearest ak) (b4 : SlI (kSl 3 (nt .i64)) H a2.phis al) (b5 : SlI (nt .i64) H a2.zeros am) (b6 : SlI (nt .i64) H a2.regs an) (b7 : SlI (kSl 3 (nt .i64)) H a2.phi ao) (b8 : SlI (nt .i64) H a2.zero_ ap) (b9 : SlI (kSl 3 (nt .i64)) H a2.dst aq) (ca : SlI (kSl 3 (nt .i64)) H a2.begin ar) (cb : SlI (kSl 3 (nt .i64)) H a2.end_ au) (hp : oA a2 a31 = some r) (hst : St E H [] w) :
    Fn Try.prog 69 #[.pointer (some ⟨b, c, none⟩), .int .i64 a31] w fun v w' => ∃ A, oA.R r v A ∧ St E H A w' := by
 refine fb 80 [.tmp 4] Try.func69 rfl rfl rfl rfl rfl hst <| sr <| tb [.int .i64 a31] rfl rfl fun h => ta rfl <| nz <| sr <| tm rfl <| tv (nE rfl) rfl <| tv (fa pD rfl) rfl <| tv (fa oa rfl) rfl <| tv (lr s39 sH B 3 rfl rfl) rfl <| tv (ln u39 C rfl) rfl <| tk (k := kBool) u58 i4 hp ⟨rfl, rfl⟩ rfl rfl rfl rfl rfl rfl fun aO a o aP hp => ta rfl <| nz <| sr <| tbs [(0, .int .i64 0)] [.int .i64 0] u25 i3 Ag rfl rfl rfl rfl fun aQ => ta rfl <| tf 1 0 [_,_,_,_] rfl <| TL.litOwn (n := 1) (xs := [0]) (RepL.to (RepL.cons (k := (nt .i64)) (x := 0) ⟨rfl, rfl⟩ RepL.nil) rfl) rfl rfl (ltb rfl) fun aR aS => nz <| nv fun aT aU => sr <| tm rfl <| tv (nE rfl) rfl <| tv (fa pD rfl) rfl <| tv (fa oa rfl) rfl <| tv (lr s39 sH B 3 rfl rfl) rfl <| tv (ln u39 C rfl) rfl <| tm rfl <| nz <| nB <| bE hp fun aV aW aX => ?_
 have aY {D F G aZ} (a0 : SlO 3 (nt .i64) D F G) (a3 : D = aV) : ∀ w, St E H [o, G] w → aT (ovr aZ [(0, .pointer (some ⟨b, c, none⟩)), (5, a), (6, F)]) w := by
  subst a3
  replace hp : oA.nx9 a2 aO D = some r := aX
  refine tg aU <| nv fun a4 a5 => nB <| bE hp fun a7 a8 a9 => ?_
  have ba {I J bb} (bc : SlO 4 kBool I a J) (be : I = a7) : ∀ w, St E H [J] w → a4 (ovr bb [(5, a)]) w := by
   subst be
   replace hp : oA.nx18 I = some r := a9
   exact tg a5 <| sr <| tm rfl <| ta rfl <| nz <| nH <| rt hp [0] ⟨a, J, rfl, rfl, bc⟩
  refine lp a8 [0, 1] rfl (fun s e L => ∃ p q t K M av, s = (p, q) ∧ SlO 4 kBool p a t ∧ SlO 3 (nt .i64) q K M ∧ e = ovr av [(0, .pointer (some ⟨b, c, none⟩)), (5, a), (6, K)] ∧ L = [t, M]) ⟨_, _, o, F, G, _, rfl, aP, a0, nC _ _ rfl, rfl⟩ ?_
  rintro _ _ _ ⟨p, q, t, K, M, av, rfl, aw, i, rfl, rfl⟩ ax hp bf
  replace hp : oA.bd18 a2 p q = some ax := hp
  refine nv fun cc bg => sr <| tm rfl <| tv (ln u25 i.ro rfl) rfl <| tv (bgt rfl rfl) rfl <| nz <| cD rfl hp (fun bh hp => ?_) fun bh hp => ?_
  · refine sk bg rfl <| qf fun bi bj => nB <| sr <| tm rfl <| tm rfl <| tv (ln u25 i.ro rfl) rfl <| tv (bsu rfl rfl) rfl <| ti u25 i3 (i).ro hp rfl rfl rfl rfl ?_
    rintro cd ce cf _ hp rfl bk
    refine tv (lr s3 (Src.at_ 1 rfl) bk 0 rfl rfl) rfl <| ta rfl <| nz <| sr <| tm rfl <| tm rfl <| tv (ln u25 i.ro rfl) rfl <| tv (bsu rfl rfl) rfl <| tp [1, 0] [_,_] rfl rfl <| bE hp fun cg bl hp => TL.slOwn u25 i3 rfl (ltb rfl) rfl rfl i bl fun bm bn bo => ta rfl <| nz <| sr <| tm rfl <| tv (nE rfl) rfl <| tv (fa wc rfl) rfl <| tv (lr s73 sH B 5 rfl rfl) rfl <| tm rfl <| ti u73 i25 aN hp rfl rfl rfl rfl ?_
    rintro N ch ci _ hp ⟨ay, rfl, az⟩ bp
    refine tv (lr s25 sH bp 0 rfl rfl) rfl <| tv (ln u25 az rfl) rfl <| tm rfl <| nz <| nB <| bE hp fun bq br bs => ?_
    have bt {O P Q S T bu} (bv : SlO 4 kBool O a Q) (bw : SlO 3 (nt .i64) P S T) (bz : (O, P) = bq) : ∀ w, St E H [Q, T] w → bi (ovr bu [(0, .pointer (some ⟨b, c, none⟩)), (5, a), (6, S)]) w := by
     subst bz
     replace hp : oA.nx35 O P = some ax := bs
     exact viaK bj <| gk hp [0, 1] ⟨_, _, Q, S, T, _, rfl, bv, bw, nC _ _ rfl, rfl⟩
    refine lp br [1, 0] rfl (fun s e L => ∃ u y g U V W aA, s = (u, y, g) ∧ SlO 4 kBool u a U ∧ SlO 3 (nt .i64) y V W ∧ e = ovr aA [(0, .pointer (some ⟨b, c, none⟩)), (5, a), (6, V), (60, ay), (61, .int .i64 (len N)), (62, .int .i64 g)] ∧ L = [U, W]) ⟨_, _, _, t, bm, bn, _, rfl, aw, bo, nC _ _ rfl, rfl⟩ ?_
    rintro _ _ _ ⟨u, y, g, U, V, W, aA, rfl, j, X, rfl, rfl⟩ aB hp bA
    replace hp : oA.bd35 N u y g = some aB := hp
    refine sr <| tv (blt rfl rfl) rfl <| nz <| nv fun cj bB => cD rfl hp (fun bC hp => ?_) fun bC hp => ?_
    · refine sk bB rfl <| nv fun bD bF => ?_
      have aC {aD aE Y Z aa bG} (bH : SlO 4 kBool aD a Y) (bI : SlO 3 (nt .i64) aE Z aa) (hp : oA.jn45 g aD aE = some aB) : ∀ w, St E H [Y, aa] w → bD (ovr bG [(0, .pointer (some ⟨b, c, none⟩)), (5, a), (6, Z), (60, ay), (61, .int .i64 (len N)), (62, .int .i64 g)]) w := by
       exact tg bF <| nF <| tv (bad rfl rfl) rfl <| tm rfl <| nl <| gk hp [0, 1] ⟨_, _, _, Y, Z, aa, _, rfl, bH, bI, nC _ _ rfl, rfl⟩
      refine nB <| sr <| ti u25 i3 az hp rfl rfl rfl rfl ?_
      rintro ab ck cl _ hp rfl bJ
      refine tv (lr s3 sH bJ 0 rfl rfl) rfl <| ta rfl <| nz <| sr <| tm rfl <| tm rfl <| ti u58 i4 (j).ro hp rfl rfl rfl rfl ?_
      rintro cm cn co _ hp rfl bK
      refine tv (lr s4 (Src.at_ 0 rfl) bK 0 rfl rfl) rfl <| tv (oI rfl) rfl <| nz <| cB rfl hp (fun bL hp => ?_) fun bL hp => ?_
      · exact sr <| tm rfl <| tm rfl <| tO u58 i4 j hp rfl rfl rfl rfl fun cp cq cr bM hp => tE j bM m4 rfl ⟨rfl, rfl⟩ w1 fun cs bN => nz <| nF <| tm rfl <| tm rfl <| tbs [(0, .int .i64 ab)] [.int .i64 ab] u25 i3 Ag rfl rfl rfl rfl fun ct => tp [2, 0, 1] [_,_,_] rfl rfl <| tf 2 0 [_,_,_,_] rfl <| tp2 u25 i3 X hp (RepL.to (RepL.cons (k := (nt .i64)) (x := ab) ⟨rfl, rfl⟩ RepL.nil) rfl) rfl rfl rfl rfl rfl rfl rfl rfl rfl fun cu cv cw bO hp => ta rfl <| nl <| jn [1, 0] (aC bN bO hp)
      · exact TC.skip <| jn [0, 1] (aC j X hp)
    · exact nN <| jn [0, 1] (bt j X (nK hp bA))
  · exact nN <| jn [0] (ba aw (nK hp bf))
 refine lp aW [2, 1, 0] rfl (fun s e L => ∃ z d ac ad aF, s = (z, d) ∧ SlO 3 (nt .i64) z ac ad ∧ e = ovr aF [(0, .pointer (some ⟨b, c, none⟩)), (3, .pointer (some ⟨h, 0, none⟩)), (5, a), (6, ac), (24, m), (25, .int .i64 (len a2.f.blocks)), (26, .int .i64 d)] ∧ L = [bx h 3 [.int .i64 a31], o, ad]) ⟨_, _, (.slice (some ⟨aQ, 0, none⟩) 1 1), aR, _, rfl, aS, nC _ _ rfl, rfl⟩ ?_
 rintro _ _ _ ⟨z, d, ac, ad, aF, rfl, ae, rfl, rfl⟩ aG hp bP
 replace hp : oA.bd9 a2 a31 z d = some aG := hp
 refine sr <| tv (blt rfl rfl) rfl <| nz <| nv fun cx bQ => cD rfl hp (fun bR hp => ?_) fun bR hp => ?_
 · refine sk bQ rfl <| nv fun bS bT => ?_
   have aH {aI af ag bU} (bV : SlO 3 (nt .i64) aI af ag) (hp : oA.jn63 d aI = some aG) : ∀ w, St E H [bx h 3 [.int .i64 a31], o, ag] w → bS (ovr bU [(0, .pointer (some ⟨b, c, none⟩)), (3, .pointer (some ⟨h, 0, none⟩)), (5, a), (6, af), (24, m), (25, .int .i64 (len a2.f.blocks)), (26, .int .i64 d)]) w := by
    exact tg bT <| nF <| tv (bad rfl rfl) rfl <| tm rfl <| nl <| gk hp [0, 1, 2] ⟨_, _, af, ag, _, rfl, bV, nC _ _ rfl, rfl⟩
   refine nB <| sr <| tm rfl <| ti u39 i50 C hp rfl rfl rfl rfl ?_
   rintro l cy cz _ hp ⟨aJ, aK, aL, rfl, bW, aM, bX⟩ bY
   refine tv (lR (ds := [aJ, aK, .int .i64 l.term.kind, .int .i64 l.term.arg, aL]) oY sH bY 0 rfl rfl rfl) rfl <| tl i50 rfl fun cA => ta rfl <| tS 0 m50 rfl rfl [aJ, aK, .int .i64 l.term.kind, .int .i64 l.term.arg, aL] rfl (oc (bW).one (oc (aM).one (oc rfl (oc rfl (oc (bX).one oc0))))) rfl rfl <| nz <| sr <| tv (fa oB rfl) rfl <| tv (lb s48 0 rfl rfl rfl) rfl <| tv mF rfl <| bE hp fun cC hy65 hp => tc 0 [_,_,_,_] rfl c82 (fun _ => xd (a1 := l.ins) (a6 := a31) (aM.mono nw) ((pi h 3 _).mono (subB 1 rfl)) hy65) rfl ?_
   rintro _ _ ⟨rfl, rfl⟩
   refine nz <| cB rfl hp (fun bZ hp => ?_) fun bZ hp => ?_
   · exact nF <| tm rfl <| tm rfl <| tbs [(0, .int .i64 d)] [.int .i64 d] u25 i3 Ag rfl rfl rfl rfl fun cE => tp [4, 0, 1, 2, 3] [_,_,_,_,_] rfl rfl <| tf 2 0 [_,_,_,_,_,_] rfl <| tp2 u25 i3 ae hp (RepL.to (RepL.cons (k := (nt .i64)) (x := d) ⟨rfl, rfl⟩ RepL.nil) rfl) rfl rfl rfl rfl rfl rfl rfl rfl rfl fun cF cG cH b0 hp => ta rfl <| nl <| jn [2, 3, 0] (aH b0 hp)
   · exact TC.skip <| jn [1, 2, 3] (aH ae hp)
 · exact nN <| jn [1, 2] (aY ae (nK hp bP))
/-! ### (*fettle/ssa.builder).place -/
abbrev oG.R (c : Nat) (a2 : nS) (v3 : Value) (d : Value) (e : Value) (g : Value) (h : Value) (i : Value) (j : Value) (k : Value) (l : Value) (m : Value) (n : Value) (r : List (List Int) × List Int) (v : Value) (A : List FP) : Prop := ∃ (w1 : Value) (a : FP) (w2 : Value) (b : FP), .tuple #[] = v ∧ A = [bx c 100 [.int .i64 a2.f.params, .int .i64 a2.f.result, v3, d, e, g, h, w1, w2, i, j, k, l, m, n], a, b] ∧ SlO 25 (kSl 3 (nt .i64)) r.1 w1 a ∧ SlO 3 (nt .i64) r.2 w2 b
def oG.nx9  (a : List (List Int)) (b : List Int) : Option (List (List Int) × List Int) :=
  some (a, b)
def oG.jn19 (a : Int) (b : List (List Int)) (c : List Int) : Option (Ex (List (List Int) × List Int) (List (List Int) × List Int × Int)) :=
  some (.go (b, c, (w64 (a + 1))))
def oG.nx29 (a2 : nS) (b : List Int) (a : Int) (c : List (List Int)) : Option (Ex (List (List Int) × List Int) (List (List Int) × List Int × Int)) :=
  (if a ≥ a2.f.params then (idx a2.in_ 0).bind fun d =>
  (idx d a).bind fun e =>
  some e else some false).bind fun g =>
  if g = true then
    (cat b [a]).bind fun h =>
    oG.jn19 a c h
  else
    oG.jn19 a c b
def oG.jn49 (a : Int) (b : List (List Int)) : Option (Ex (List (List Int)) (List (List Int) × Int)) :=
  some (.go (b, (w64 (a + 1))))
def oG.bd29 (a2 : nS) (c : Int) (d : List Bool) (b : List (List Int)) (a : Int) : Option (Ex (List (List Int)) (List (List Int) × Int)) :=
  if a < (len d) then
    (idx d a).bind fun e =>
    (if e = true then (idx a2.in_ a).bind fun f =>
    (idx f c).bind fun g =>
    some g else some false).bind fun h =>
    if h = true then
      (idx b a).bind fun i =>
      (cat i [c]).bind fun j =>
      oG.jn49 a (b.set (a).toNat j)
    else
      oG.jn49 a b
  else
    some (.ret b)
def oG.bd9 (a2 : nS) (b : List (List Int)) (c : List Int) (a : Int) : Option (Ex (List (List Int) × List Int) (List (List Int) × List Int × Int)) :=
  if a < (len a2.f.regs) then
    (oA (⟨(⟨a2.f.params, a2.f.result, a2.f.regs, a2.f.blocks⟩ : ny), a2.in_, a2.front, a2.nearest, b, c, a2.regs, a2.phi, a2.zero_, a2.dst, a2.begin, a2.end_⟩ : nS) a).bind fun d =>
    (whl (fun (s : (List (List Int) × Int)) => oG.bd29 a2 a d s.1 s.2) nD (b, 0)).bind fun z =>
    oG.nx29 a2 c a z
  else
    some (.ret (b, c))
def oG (a2 : nS) : Option (List (List Int) × List Int) :=
  (mkl (len a2.f.blocks) ([] : List Int)).bind fun a =>
  (whl (fun (s : (List (List Int) × List Int × Int)) => oG.bd9 a2 s.1 s.2.1 s.2.2) nD (a, a2.zeros, 0)).bind fun z =>
  oG.nx9 z.1 z.2
set_option maxHeartbeats 4000000 in
theorem xf {E : World} {H : FP} {w : World} {a2 : nS} {g : Nat} {v3 : Value} {i : Value} {j : Value} {l : Value} {m : Value} {ar : Value} {au : FP} {Y : Value} {Z : FP} {n : Value} {o : Value} {p : Value} {q : Value} {t : Value} {u : Value} {r : List (List Int) × List Int} (av : SlI (nt .i64) H a2.f.regs v3) (aw : SlI nY H a2.f.blocks i) (aa : SlI (kSl 4 kBool) H a2.in_ j) (aP : SlI (kSl 3 (nt .i64)) H a2.front l) (aQ : SlI (nt .i64) H a2.nearest m) (cd : SlO 25 (kSl 3 (nt .i64)) a2.phis ar au) (aR : SlO 3 (nt .i64) a2.zeros Y Z) (aS : SlI (nt .i64) H a2.regs n) (aT : SlI (kSl 3 (nt .i64)) H a2.phi o) (aU : SlI (nt .i64) H a2.zero_ p) (aV : SlI (kSl 3 (nt .i64)) H a2.dst q) (aW : SlI (kSl 3 (nt .i64)) H a2.begin t) (aX : SlI (kSl 3 (nt .i64)) H a2.end_ u) (hp : oG a2 = some r) (hst : St E H [bx g 100 [.int .i64 a2.f.params, .int .i64 a2.f.result, v3, i, j, l, m, ar, Y, n, o, p, q, t, u], au, Z] w) :
    Fn Try.prog 43 #[.pointer (some ⟨g, 0, none⟩)] w fun v w' => ∃ A, oG.R g a2 v3 i j l m n o p q t u r v A ∧ St E H A w' := by
 refine fb 92 [] Try.func43 rfl rfl rfl rfl rfl hst <| sr <| tm rfl <| tm rfl <| tv (nE rfl) rfl <| tv (fa pD rfl) rfl <| tv (fa oa rfl) rfl <| tv (lb s39 0 rfl rfl rfl) rfl <| tv (ln u39 aw rfl) rfl <| tk (k := (kSl 3 (nt .i64))) u73 i25 hp ⟨_, rfl, SlO.nil 3⟩ rfl rfl rfl rfl rfl rfl fun ce h aY ax hp => tv (nE rfl) rfl <| tv (fa qU rfl) rfl <| ts 1 m73 rfl rfl ax.o1 rfl <| nz <| sr <| tm rfl <| tv (nE rfl) rfl <| tv (fa pD rfl) rfl <| tv (fa o7 rfl) rfl <| tv (lb s25 1 rfl rfl rfl) rfl <| tv (ln u25 av rfl) rfl <| tm rfl <| nz <| qf fun aZ a0 => nB <| bE hp fun a1 a3 a4 => ?_
 have a5 {ab ac ad ae af a6} (a7 : SlO 25 (kSl 3 (nt .i64)) ab h ad) (a8 : SlO 3 (nt .i64) ac ae af) (a9 : (ab, ac) = a1) : ∀ w, St E H [bx g 100 [.int .i64 a2.f.params, .int .i64 a2.f.result, v3, i, j, l, m, h, ae, n, o, p, q, t, u], ad, af] w → aZ (ovr a6 []) w := by
  subst a9
  replace hp : oG.nx9 ab ac = some r := a4
  exact viaK a0 <| rt hp [0, 1, 2] ⟨h, ad, ae, af, rfl, rfl, a7, a8⟩
 refine lp a3 [1, 0, 3] rfl (fun s e L => ∃ G F b M z B ay, s = (G, F, b) ∧ SlO 25 (kSl 3 (nt .i64)) G h M ∧ SlO 3 (nt .i64) F z B ∧ e = ovr ay [(0, .pointer (some ⟨g, 0, none⟩)), (20, .int .i64 (len a2.f.regs)), (21, .int .i64 b)] ∧ L = [bx g 100 [.int .i64 a2.f.params, .int .i64 a2.f.result, v3, i, j, l, m, h, z, n, o, p, q, t, u], M, B]) ⟨_, _, _, aY, Y, Z, _, rfl, ax, aR, nC _ _ rfl, rfl⟩ ?_
 rintro _ _ _ ⟨G, F, b, M, z, B, ay, rfl, ag, N, rfl, rfl⟩ ah hp ba
 replace hp : oG.bd9 a2 G F b = some ah := hp
 refine sr <| tv (blt rfl rfl) rfl <| nz <| nv fun cf bb => cD rfl hp (fun bc hp => ?_) fun bc hp => ?_
 · refine sk bb rfl <| nv fun be bf => ?_
   have az {aA aB ai aj ak bg} (bh : SlO 25 (kSl 3 (nt .i64)) aA h ai) (bi : SlO 3 (nt .i64) aB aj ak) (hp : oG.jn19 b aA aB = some ah) : ∀ w, St E H [bx g 100 [.int .i64 a2.f.params, .int .i64 a2.f.result, v3, i, j, l, m, h, aj, n, o, p, q, t, u], ai, ak] w → be (ovr bg [(0, .pointer (some ⟨g, 0, none⟩)), (20, .int .i64 (len a2.f.regs)), (21, .int .i64 b)]) w := by
    exact tg bf <| nF <| tv (bad rfl rfl) rfl <| tm rfl <| nl <| gk hp [0, 1, 2] ⟨_, _, _, ai, aj, ak, _, rfl, bh, bi, nC _ _ rfl, rfl⟩
   refine nB <| sr <| tm rfl <| ta rfl <| nz <| nv fun bj bk => sr <| tm rfl <| tm rfl <| bE hp fun O hy22 hp => tc 0 [_,_,_] rfl c69 (fun _ => xe (a2 := (⟨(⟨a2.f.params, a2.f.result, a2.f.regs, a2.f.blocks⟩ : ny), a2.in_, a2.front, a2.nearest, G, F, a2.regs, a2.phi, a2.zero_, a2.dst, a2.begin, a2.end_⟩ : nS)) (a31 := b) ((pi g 100 _).mono (subB 0 rfl)) (av.mono nw) (aw.mono nw) (aa.mono nw) (aP.mono nw) (aQ.mono nw) (ag.ro.mono (subB 1 rfl)) (N.ro.mono (subB 2 rfl)) (aS.mono nw) (aT.mono nw) (aU.mono nw) (aV.mono nw) (aW.mono nw) (aX.mono nw) hy22) rfl ?_
   rintro _ _ ⟨am, P, rfl, rfl, aC⟩
   refine tv (ln u58 aC.ro rfl) rfl <| tm rfl <| nz <| nB <| bE hp fun bl bm bn => ?_
   have bo {an ao bp} (aD : SlO 25 (kSl 3 (nt .i64)) an h ao) (bq : an = bl) : ∀ w, St E H [bx g 100 [.int .i64 a2.f.params, .int .i64 a2.f.result, v3, i, j, l, m, h, z, n, o, p, q, t, u], ao, B] w → bj (ovr bp [(0, .pointer (some ⟨g, 0, none⟩)), (2, .int .i64 b), (20, .int .i64 (len a2.f.regs)), (21, .int .i64 b)]) w := by
    subst bq
    replace hp : oG.nx29 a2 F b an = some ah := bn
    refine tg bk <| sr <| tm rfl <| tm rfl <| tv (nE rfl) rfl <| tv (fa pD rfl) rfl <| tv (fa po rfl) rfl <| tv (lb s3 0 rfl rfl rfl) rfl <| tv (bge rfl rfl) rfl <| tm rfl <| bE hp fun br ht38 hp => TL.cut 10 fun bs bt => ?_
    have aE {bu} : ∀ w, St E H [bx g 100 [.int .i64 a2.f.params, .int .i64 a2.f.result, v3, i, j, l, m, h, z, n, o, p, q, t, u], ao, B] w → bs (ovr bu [(80, .bool br), (0, .pointer (some ⟨g, 0, none⟩)), (2, .int .i64 b), (20, .int .i64 (len a2.f.regs)), (21, .int .i64 b)]) w := by
     refine tlg bt <| nz <| cB rfl hp (fun bv hp => ?_) fun bv hp => ?_
     · exact nF <| tm rfl <| tm rfl <| tv (nE rfl) rfl <| tv (fa r8 rfl) rfl <| tv (lb s25 0 rfl rfl rfl) rfl <| tm rfl <| tbs [(0, .int .i64 b)] [.int .i64 b] u25 i3 Ag rfl rfl rfl rfl fun cg => tp [3, 0, 1, 2] [_,_,_,_] rfl rfl <| tf 2 0 [_,_,_,_,_] rfl <| tp2 u25 i3 N hp (RepL.to (RepL.cons (k := (nt .i64)) (x := b) ⟨rfl, rfl⟩ RepL.nil) rfl) rfl rfl rfl rfl rfl rfl rfl rfl rfl fun ci cj ck aF hp => tv (nE rfl) rfl <| tv (fa r8 rfl) rfl <| ts 1 m25 rfl rfl aF.o1 rfl <| nl <| jn [1, 2, 0] (az aD aF hp)
     · exact TC.skip <| jn [0, 1, 2] (az aD N hp)
    refine ifE ht38 (fun d hp => ?_) fun d hp => ?_
    · refine gy rfl (bT d) <| tm rfl <| gy rfl (bT d) <| tv (nE rfl) rfl <| gy rfl (bT d) <| tv (fa tU rfl) rfl <| gy rfl (bT d) <| tv (lb s85 0 rfl rfl rfl) rfl <| gy rfl (bT d) <| ti u85 i58 aa hp rfl rfl rfl rfl ?_
      rintro cl cm cn _ hp ⟨co, rfl, bw⟩ bz
      refine gy rfl (bT d) <| tv (lr s58 sH bz 0 rfl rfl) rfl <| gy rfl (bT d) <| tm rfl <| gy rfl (bT d) <| ti u58 i4 bw hp rfl rfl rfl rfl ?_
      rintro cp cq cr _ hp rfl bA
      refine gy rfl (bT d) <| tv (lr s4 sH bA 0 rfl rfl) rfl <| tv (pT (bT d)) rfl ?_
      obtain rfl := Option.some.inj hp
      exact nj aE rfl
    · refine gn rfl (bF d) rfl rfl <| gn rfl (bF d) rfl rfl <| gn rfl (bF d) rfl rfl <| gn rfl (bF d) rfl rfl <| gn rfl (bF d) rfl rfl <| gn rfl (bF d) rfl rfl <| gn rfl (bF d) rfl rfl <| gn rfl (bF d) rfl rfl <| gn rfl (bF d) rfl rfl <| tv (pF (bF d)) rfl ?_
      obtain rfl := Option.some.inj hp
      exact nj aE rfl
   refine lp bm [1, 2, 3, 0] rfl (fun s e L => ∃ Q C S aG, s = (Q, C) ∧ SlO 25 (kSl 3 (nt .i64)) Q h S ∧ e = ovr aG [(0, .pointer (some ⟨g, 0, none⟩)), (2, .int .i64 b), (20, .int .i64 (len a2.f.regs)), (21, .int .i64 b), (26, am), (27, .int .i64 (len O)), (28, .int .i64 C)] ∧ L = [bx g 100 [.int .i64 a2.f.params, .int .i64 a2.f.result, v3, i, j, l, m, h, z, n, o, p, q, t, u], S, B, P]) ⟨_, _, M, _, rfl, ag, nC _ _ rfl, rfl⟩ ?_
   rintro _ _ _ ⟨Q, C, S, aG, rfl, T, rfl, rfl⟩ aH hp bB
   replace hp : oG.bd29 a2 b O Q C = some aH := hp
   refine sr <| tv (blt rfl rfl) rfl <| nz <| nv fun cs bC => cD rfl hp (fun bD hp => ?_) fun bD hp => ?_
   · refine sk bC rfl <| nv fun bG bH => ?_
     have U {aI ap bI} (bJ : SlO 25 (kSl 3 (nt .i64)) aI h ap) (hp : oG.jn49 C aI = some aH) : ∀ w, St E H [bx g 100 [.int .i64 a2.f.params, .int .i64 a2.f.result, v3, i, j, l, m, h, z, n, o, p, q, t, u], ap, B, P] w → bG (ovr bI [(0, .pointer (some ⟨g, 0, none⟩)), (2, .int .i64 b), (20, .int .i64 (len a2.f.regs)), (21, .int .i64 b), (26, am), (27, .int .i64 (len O)), (28, .int .i64 C)]) w := by
      exact tg bH <| nF <| tv (bad rfl rfl) rfl <| tm rfl <| nl <| gk hp [0, 1, 2, 3] ⟨_, _, ap, _, rfl, bJ, nC _ _ rfl, rfl⟩
     refine nB <| sr <| tm rfl <| ti u58 i4 (aC).ro hp rfl rfl rfl rfl ?_
     rintro ct cu cv _ hp rfl bK
     refine tv (lr s4 (Src.at_ 3 rfl) bK 0 rfl rfl) rfl <| ta rfl <| ta rfl <| nz <| sr <| tm rfl <| tm rfl <| bE hp fun bL ht93 hp => TL.cut 11 fun bM bN => ?_
     have aJ {bO} : ∀ w, St E H [bx g 100 [.int .i64 a2.f.params, .int .i64 a2.f.result, v3, i, j, l, m, h, z, n, o, p, q, t, u], S, B, P] w → bM (ovr bO [(45, .bool bL), (0, .pointer (some ⟨g, 0, none⟩)), (2, .int .i64 b), (3, .int .i64 C), (20, .int .i64 (len a2.f.regs)), (21, .int .i64 b), (26, am), (27, .int .i64 (len O)), (28, .int .i64 C)]) w := by
      refine tlg bN <| nz <| cB rfl hp (fun bP hp => ?_) fun bP hp => ?_
      · refine ch mix [bx g 100 [.int .i64 a2.f.params, .int .i64 a2.f.result, v3, i, j, l, m, h, z, n, o, p, q, t, u], B, P] (nq 0 rfl (nq 2 rfl (nq 3 rfl ns))) <| hv 0 rfl mv Ag rfl <| hv 1 rfl (nE rfl) Ag rfl <| hv 2 rfl (fa qU rfl) Ag rfl <| hv 3 rfl (lbG s73 0 rfl rfl rfl) Ag rfl <| hv 4 rfl mv Ag rfl <| hv 5 rfl mv Ag rfl <| hv 6 rfl (nE rfl) Ag rfl <| hv 7 rfl (fa qU rfl) Ag rfl <| hv 8 rfl (lbG s73 0 rfl rfl rfl) Ag rfl <| hv 9 rfl mv Ag rfl <| hv 12 rfl mv Ag rfl <| nT [10, 13] Ag (by simp) (nG ⟨_, rfl, fun cw bQ => ?_⟩ (nG ⟨_, rfl, fun cx bR => ?_⟩ nU))
        · refine tp [1, 0, 2, 3] [_,_,_,_] rfl rfl <| bE hp fun bS V hp => TL.open_ T V ?_
          rintro bU _ bV bW y ⟨bX, rfl, X⟩
          refine tv (pa u73 i25 rfl rfl (oM V).1 y) rfl <| hk bQ (nq 2 rfl (nq 3 rfl (nq 4 rfl ns))) <| nT [11, 13] Ag (by simp) (nG ⟨_, rfl, fun cy bY => ?_⟩ (nG ⟨_, rfl, fun cz bZ => ?_⟩ nU))
          · exact tv (lr s25 (Src.at_ 0 rfl) (Hole.cells y) 0 rfl rfl) rfl <| hk bY (nq 2 rfl (nq 3 rfl (nq 4 rfl ns))) <| ho 13 rfl Ag fun cA b0 => tbs [(0, .int .i64 b)] [.int .i64 b] u25 i3 Ag rfl rfl rfl rfl fun aK => hk b0 (nq 3 rfl (nq 4 rfl (nq 5 rfl ns))) <| ho 14 rfl Ag fun cC b1 => tp [2, 0, 1, 3, 4, 5] [_,_,_,_,_,_] rfl rfl <| tf 2 0 [_,_,_,_,_,_,_] rfl <| tp2 u25 i3 X hp (RepL.to (RepL.cons (k := (nt .i64)) (x := b) ⟨rfl, rfl⟩ RepL.nil) rfl) rfl rfl rfl rfl rfl rfl rfl rfl rfl fun I aL aM D hp => hk b1 (nq 2 rfl (nq 3 rfl (nq 4 rfl ns))) <| hv 15 rfl (pa u73 i25 rfl rfl (oM V).1 y) Ag rfl <| ho 16 rfl Ag fun cE b2 => tp [1, 0, 2, 3, 4] [_,_,_,_,_] rfl rfl <| tsH y m25 0 rfl D.o1 rfl fun aN J => hk b2 (nq 2 rfl (nq 3 rfl (nq 4 rfl ns))) <| hz Ag <| W.shut (a := I) J ⟨_, rfl, D⟩ fun aO K => jn [1, 0, 2, 3] (U K hp)
          · exact tbs [(0, .int .i64 b)] [.int .i64 b] u25 i3 Ag rfl rfl rfl rfl fun aK => hk bZ (nq 3 rfl (nq 4 rfl (nq 5 rfl ns))) <| ho 11 rfl Ag fun cF b3 => tv (lr s25 (Src.at_ 1 rfl) (Hole.cells y) 0 rfl rfl) rfl <| hk b3 (nq 3 rfl (nq 4 rfl (nq 5 rfl ns))) <| ho 14 rfl Ag fun cG b4 => tp [2, 0, 1, 3, 4, 5] [_,_,_,_,_,_] rfl rfl <| tf 2 0 [_,_,_,_,_,_,_] rfl <| tp2 u25 i3 X hp (RepL.to (RepL.cons (k := (nt .i64)) (x := b) ⟨rfl, rfl⟩ RepL.nil) rfl) rfl rfl rfl rfl rfl rfl rfl rfl rfl fun I aL aM D hp => hk b4 (nq 2 rfl (nq 3 rfl (nq 4 rfl ns))) <| hv 15 rfl (pa u73 i25 rfl rfl (oM V).1 y) Ag rfl <| ho 16 rfl Ag fun cH b5 => tp [1, 0, 2, 3, 4] [_,_,_,_,_] rfl rfl <| tsH y m25 0 rfl D.o1 rfl fun aN J => hk b5 (nq 2 rfl (nq 3 rfl (nq 4 rfl ns))) <| hz Ag <| W.shut (a := I) J ⟨_, rfl, D⟩ fun aO K => jn [1, 0, 2, 3] (U K hp)
        · refine tbs [(0, .int .i64 b)] [.int .i64 b] u25 i3 Ag rfl rfl rfl rfl fun aK => hk bR (nq 1 rfl (nq 3 rfl (nq 4 rfl ns))) <| ho 10 rfl Ag fun cI b6 => tp [2, 0, 1, 3, 4] [_,_,_,_,_] rfl rfl <| bE hp fun bS aq hp => TL.open_ T aq ?_
          rintro bU _ bV bW y ⟨bX, rfl, X⟩
          exact tv (pa u73 i25 rfl rfl (oM aq).1 y) rfl <| hk b6 (nq 3 rfl (nq 4 rfl (nq 5 rfl ns))) <| ho 11 rfl Ag fun cJ b7 => tv (lr s25 (Src.at_ 0 rfl) (Hole.cells y) 0 rfl rfl) rfl <| hk b7 (nq 3 rfl (nq 4 rfl (nq 5 rfl ns))) <| ho 14 rfl Ag fun cK b8 => tp [1, 2, 0, 3, 4, 5] [_,_,_,_,_,_] rfl rfl <| tf 2 0 [_,_,_,_,_,_,_] rfl <| tp2 u25 i3 X hp (RepL.to (RepL.cons (k := (nt .i64)) (x := b) ⟨rfl, rfl⟩ RepL.nil) rfl) rfl rfl rfl rfl rfl rfl rfl rfl rfl fun I aL aM D hp => hk b8 (nq 2 rfl (nq 3 rfl (nq 4 rfl ns))) <| hv 15 rfl (pa u73 i25 rfl rfl (oM aq).1 y) Ag rfl <| ho 16 rfl Ag fun cL b9 => tp [1, 0, 2, 3, 4] [_,_,_,_,_] rfl rfl <| tsH y m25 0 rfl D.o1 rfl fun aN J => hk b9 (nq 2 rfl (nq 3 rfl (nq 4 rfl ns))) <| hz Ag <| W.shut (a := I) J ⟨_, rfl, D⟩ fun aO K => jn [1, 0, 2, 3] (U K hp)
      · exact TC.skip <| jn [0, 1, 2, 3] (U T hp)
     refine ifE ht93 (fun c hp => ?_) fun c hp => ?_
     · refine gy rfl (bbT c) <| tm rfl <| gy rfl (bbT c) <| tv (nE rfl) rfl <| gy rfl (bbT c) <| tv (fa tU rfl) rfl <| gy rfl (bbT c) <| tv (lb s85 0 rfl rfl rfl) rfl <| gy rfl (bbT c) <| tm rfl <| gy rfl (bbT c) <| ti u85 i58 aa hp rfl rfl rfl rfl ?_
       rintro cM cN cO _ hp ⟨cP, rfl, ca⟩ cb
       refine gy rfl (bbT c) <| tv (lr s58 sH cb 0 rfl rfl) rfl <| gy rfl (bbT c) <| tm rfl <| gy rfl (bbT c) <| ti u58 i4 ca hp rfl rfl rfl rfl ?_
       rintro cQ cR cS _ hp rfl cc
       refine gy rfl (bbT c) <| tv (lr s4 sH cc 0 rfl rfl) rfl <| tv (pT (bbT c)) rfl ?_
       obtain rfl := Option.some.inj hp
       exact nj aJ rfl
     · refine gn rfl (bbF c) rfl rfl <| gn rfl (bbF c) rfl rfl <| gn rfl (bbF c) rfl rfl <| gn rfl (bbF c) rfl rfl <| gn rfl (bbF c) rfl rfl <| gn rfl (bbF c) rfl rfl <| gn rfl (bbF c) rfl rfl <| gn rfl (bbF c) rfl rfl <| gn rfl (bbF c) rfl rfl <| gn rfl (bbF c) rfl rfl <| tv (pF (bbF c)) rfl ?_
       obtain rfl := Option.some.inj hp
       exact nj aJ rfl
   · exact nN <| jn [0, 1, 2] (bo T (nK hp bB))
 · exact nN <| jn [0, 1, 2] (a5 ag N (nK hp ba))
end
section
/-! ### (*fettle/ssa.builder).fresh -/
abbrev qe.R (b : Nat) (a2 : nS) (v3 : Value) (c : Value) (d : Value) (e : Value) (g : Value) (h : Value) (i : Value) (j : Value) (k : Value) (l : Value) (m : Value) (n : Value) (r : Int × List Int) (v : Value) (A : List FP) : Prop := ∃ (w1 : Value) (a : FP), .int .i64 r.1 = v ∧ A = [bx b 100 [.int .i64 a2.f.params, .int .i64 a2.f.result, v3, c, d, e, g, h, i, w1, j, k, l, m, n], a] ∧ SlO 3 (nt .i64) r.2 w1 a
def qe.jn4  (a : List Int) : Option (Int × List Int) :=
  some ((w64 ((len a) - 1)), a)
def qe (a2 : nS) (a31 : Int) : Option (Int × List Int) :=
  (idx a2.f.regs a31).bind fun a =>
  (cat a2.regs [a]).bind fun b =>
  qe.jn4 b
set_option maxHeartbeats 4000000 in
theorem se {E : World} {H : FP} {w : World} {a2 : nS} {a31 : Int} {c : Nat} {v3 : Value} {d : Value} {e : Value} {g : Value} {h : Value} {i : Value} {j : Value} {z : Value} {B : FP} {l : Value} {m : Value} {n : Value} {o : Value} {p : Value} {r : Int × List Int} (C : SlI (nt .i64) H a2.f.regs v3) (af : SlI nY H a2.f.blocks d) (ag : SlI (kSl 4 kBool) H a2.in_ e) (ah : SlI (kSl 3 (nt .i64)) H a2.front g) (ai : SlI (nt .i64) H a2.nearest h) (aj : SlI (kSl 3 (nt .i64)) H a2.phis i) (ak : SlI (nt .i64) H a2.zeros j) (q : SlO 3 (nt .i64) a2.regs z B) (am : SlI (kSl 3 (nt .i64)) H a2.phi l) (an : SlI (nt .i64) H a2.zero_ m) (ao : SlI (kSl 3 (nt .i64)) H a2.dst n) (ap : SlI (kSl 3 (nt .i64)) H a2.begin o) (aq : SlI (kSl 3 (nt .i64)) H a2.end_ p) (hp : qe a2 a31 = some r) (hst : St E H [bx c 100 [.int .i64 a2.f.params, .int .i64 a2.f.result, v3, d, e, g, h, i, j, z, l, m, n, o, p], B] w) :
    Fn Try.prog 70 #[.pointer (some ⟨c, 0, none⟩), .int .i64 a31] w fun v w' => ∃ A, qe.R c a2 v3 d e g h i j l m n o p r v A ∧ St E H A w' := by
 refine fb 28 [.tmp 4] Try.func70 rfl rfl rfl rfl rfl hst <| sr <| ta rfl <| nz <| nv fun L M => ?_
 have s {D t u N} (F : SlO 3 (nt .i64) D t u) (hp : qe.jn4 D = some r) : ∀ w, St E H [bx c 100 [.int .i64 a2.f.params, .int .i64 a2.f.result, v3, d, e, g, h, i, j, t, l, m, n, o, p], u] w → L (ovr N [(0, .pointer (some ⟨c, 0, none⟩))]) w := by
  exact tg M <| sr <| tm rfl <| tv (nE rfl) rfl <| tv (fa qD rfl) rfl <| tv (lb s25 0 rfl rfl rfl) rfl <| tv (ln u25 F.ro rfl) rfl <| tv (bsu rfl rfl) rfl <| ta rfl <| nz <| nH <| rt hp [0, 1] ⟨t, u, rfl, rfl, F⟩
 refine ch mix [] ns <| hv 0 rfl mv Ag rfl <| hv 1 rfl mv Ag rfl <| hv 2 rfl (nE rfl) Ag rfl <| hv 3 rfl (fa qD rfl) Ag rfl <| hv 5 rfl mv Ag rfl <| hv 6 rfl (nE rfl) Ag rfl <| hv 7 rfl (fa pD rfl) Ag rfl <| hv 8 rfl (fa o7 rfl) Ag rfl <| hv 10 rfl mv Ag rfl <| nT [4, 9] Ag (by simp) (nG ⟨_, rfl, fun ar O => ?_⟩ (nG ⟨_, rfl, fun au P => ?_⟩ nU))
 · refine tv (lb s25 0 rfl rfl rfl) rfl <| hk O ns <| ho 9 rfl Ag fun av Q => tv (lb s25 0 rfl rfl rfl) rfl <| hk Q ns <| hi 11 rfl u25 i3 C hp rfl rfl rfl Ag rfl ?_
   rintro a S T _ hp rfl y
   exact hv 12 rfl (lr s3 srcInH y 0 rfl rfl) Ag rfl <| ho 13 rfl Ag fun aw U => tbs [(0, .int .i64 a)] [.int .i64 a] u25 i3 Ag rfl rfl rfl rfl fun G => hk U ns <| ho 14 rfl Ag fun ax V => tp [2, 0, 1] [_,_,_] rfl rfl <| tf 2 0 [_,_,_,_] rfl <| tp2 u25 i3 q hp (RepL.to (RepL.cons (k := (nt .i64)) (x := a) ⟨rfl, rfl⟩ RepL.nil) rfl) rfl rfl rfl rfl rfl rfl rfl rfl rfl fun I J K b hp => hk V ns <| hv 15 rfl (nE rfl) Ag rfl <| hv 16 rfl (fa qD rfl) Ag rfl <| ho 17 rfl Ag fun ay W => ts 1 m25 rfl rfl b.o1 rfl <| hk W ns <| hz Ag <| jn [1, 0] (s b hp)
 · refine tv (lb s25 0 rfl rfl rfl) rfl <| hk P ns <| hi 11 rfl u25 i3 C hp rfl rfl rfl Ag rfl ?_
   rintro a S T _ hp rfl y
   refine hv 12 rfl (lr s3 srcInH y 0 rfl rfl) Ag rfl <| nT [4, 13] Ag (by simp) (nG ⟨_, rfl, fun az X => ?_⟩ (nG ⟨_, rfl, fun aA Y => ?_⟩ nU))
   · exact tv (lb s25 0 rfl rfl rfl) rfl <| hk X ns <| ho 13 rfl Ag fun aB Z => tbs [(0, .int .i64 a)] [.int .i64 a] u25 i3 Ag rfl rfl rfl rfl fun G => hk Z ns <| ho 14 rfl Ag fun aC aa => tp [2, 0, 1] [_,_,_] rfl rfl <| tf 2 0 [_,_,_,_] rfl <| tp2 u25 i3 q hp (RepL.to (RepL.cons (k := (nt .i64)) (x := a) ⟨rfl, rfl⟩ RepL.nil) rfl) rfl rfl rfl rfl rfl rfl rfl rfl rfl fun I J K b hp => hk aa ns <| hv 15 rfl (nE rfl) Ag rfl <| hv 16 rfl (fa qD rfl) Ag rfl <| ho 17 rfl Ag fun aD ab => ts 1 m25 rfl rfl b.o1 rfl <| hk ab ns <| hz Ag <| jn [1, 0] (s b hp)
   · exact tbs [(0, .int .i64 a)] [.int .i64 a] u25 i3 Ag rfl rfl rfl rfl fun G => hk Y ns <| ho 4 rfl Ag fun aE ac => tv (lb s25 1 rfl rfl rfl) rfl <| hk ac ns <| ho 14 rfl Ag fun aF ad => tp [2, 0, 1] [_,_,_] rfl rfl <| tf 2 0 [_,_,_,_] rfl <| tp2 u25 i3 q hp (RepL.to (RepL.cons (k := (nt .i64)) (x := a) ⟨rfl, rfl⟩ RepL.nil) rfl) rfl rfl rfl rfl rfl rfl rfl rfl rfl fun I J K b hp => hk ad ns <| hv 15 rfl (nE rfl) Ag rfl <| hv 16 rfl (fa qD rfl) Ag rfl <| ho 17 rfl Ag fun aG ae => ts 1 m25 rfl rfl b.o1 rfl <| hk ae ns <| hz Ag <| jn [1, 0] (s b hp)
end
section
/-! ### (*fettle/ssa.builder).number -/
abbrev n5.R (g : Nat) (a2 : nS) (v3 : Value) (h : Value) (i : Value) (j : Value) (k : Value) (l : Value) (m : Value) (n : Value) (o : Value) (r : List Int × List (List Int) × List Int × List (List Int)) (v : Value) (A : List FP) : Prop := ∃ (w1 : Value) (a : FP) (w2 : Value) (b : FP) (w3 : Value) (c : FP) (d : Value) (e : FP), .tuple #[] = v ∧ A = [bx g 100 [.int .i64 a2.f.params, .int .i64 a2.f.result, v3, h, i, j, k, l, m, w1, w2, w3, d, n, o], a, b, c, e] ∧ SlO 3 (nt .i64) r.1 w1 a ∧ SlO 25 (kSl 3 (nt .i64)) r.2.1 w2 b ∧ SlO 3 (nt .i64) r.2.2.1 w3 c ∧ SlO 25 (kSl 3 (nt .i64)) r.2.2.2 d e
def n5.nx21 (a : List Int) (b : List Int) (c : List (List Int)) (d : List (List Int)) : Option (List Int × List (List Int) × List Int × List (List Int)) :=
  some (b, c, a, d)
def n5.jn31 (a : Int) (b : List Int) (c : List (List Int)) (d : List (List Int)) : Option (Ex (List Int × List (List Int) × List (List Int)) (List Int × List (List Int) × List (List Int) × Int)) :=
  some (.go (b, c, d, (w64 (a + 1))))
def n5.nx50 (a : List (List Int)) (b : List (List Int)) (c : Int) (d : List Int) (e : List Int) (f : List Int) : Option (Ex (List Int × List (List Int) × List (List Int)) (List Int × List (List Int) × List (List Int) × Int)) :=
  (cat a [d]).bind fun g =>
  (cat b [f]).bind fun h =>
  n5.jn31 c e g h
def n5.jn622 (a : Int) (b : List Int) (c : List Int) : Option (Ex (List Int × List Int) (List Int × List Int × Int)) :=
  some (.go (b, c, (w64 (a + 1))))
def n5.bd50 (a2 : nS) (h : List Int) (i : List (List Int)) (j : List (List Int)) (d : nA) (b : List Int) (c : List Int) (a : Int) : Option (Ex (List Int × List Int) (List Int × List Int × Int)) :=
  if a < (len d.ins) then
    (idx d.ins a).bind fun e =>
    if e.dst < 0 then
      (cat c [-1]).bind fun k =>
      n5.jn622 a b k
    else
      (qe (⟨(⟨a2.f.params, a2.f.result, a2.f.regs, a2.f.blocks⟩ : ny), a2.in_, a2.front, a2.nearest, a2.phis, a2.zeros, b, i, h, j, a2.begin, a2.end_⟩ : nS) e.dst).bind fun g =>
      (cat c [g.1]).bind fun l =>
      n5.jn622 a g.2 l
  else
    some (.ret (b, c))
def n5.nx41 (a2 : nS) (c : List Int) (a : List (List Int)) (b : List (List Int)) (d : Int) (e : nA) (f : List Int) (g : List Int) : Option (Ex (List Int × List (List Int) × List (List Int)) (List Int × List (List Int) × List (List Int) × Int)) :=
  (whl (fun (s : (List Int × List Int × Int)) => n5.bd50 a2 c a b e s.1 s.2.1 s.2.2) nD (f, ([] : List Int), 0)).bind fun z =>
  n5.nx50 a b d g z.1 z.2
def n5.bd41 (a2 : nS) (g : List Int) (h : List (List Int)) (i : List (List Int)) (b : List Int) (c : List Int) (d : List Int) (a : Int) : Option (Ex (List Int × List Int) (List Int × List Int × Int)) :=
  if a < (len b) then
    (idx b a).bind fun j =>
    (qe (⟨(⟨a2.f.params, a2.f.result, a2.f.regs, a2.f.blocks⟩ : ny), a2.in_, a2.front, a2.nearest, a2.phis, a2.zeros, c, h, g, i, a2.begin, a2.end_⟩ : nS) j).bind fun e =>
    (cat d [e.1]).bind fun k =>
    some (.go (e.2, k, (w64 (a + 1))))
  else
    some (.ret (c, d))
def n5.bd21 (a2 : nS) (d : List Int) (e : List Int) (b : List (List Int)) (c : List (List Int)) (a : Int) : Option (Ex (List Int × List (List Int) × List (List Int)) (List Int × List (List Int) × List (List Int) × Int)) :=
  if a < (len a2.f.blocks) then
    (idx a2.f.blocks a).bind fun g =>
    (idx a2.phis a).bind fun h =>
    (whl (fun (s : (List Int × List Int × Int)) => n5.bd41 a2 d b c h s.1 s.2.1 s.2.2) nD (e, ([] : List Int), 0)).bind fun z =>
    n5.nx41 a2 d b c a g z.1 z.2
  else
    some (.ret (e, b, c))
def n5.nx12 (a2 : nS) (b : List Int) (a : List Int) : Option (List Int × List (List Int) × List Int × List (List Int)) :=
  (whl (fun (s : (List Int × List (List Int) × List (List Int) × Int)) => n5.bd21 a2 a s.1 s.2.1 s.2.2.1 s.2.2.2) nD (b, a2.phi, a2.dst, 0)).bind fun z =>
  n5.nx21 a z.1 z.2.1 z.2.2
def n5.jn654 (a : Int) (b : List Int) (c : List Int) : Option (Ex (List Int × List Int) (List Int × List Int × Int)) :=
  some (.go (b, c, (w64 (a + 1))))
def n5.bd12 (a2 : nS) (c : List Int) (a : List Int) (b : Int) : Option (Ex (List Int × List Int) (List Int × List Int × Int)) :=
  if b < (len a2.zeros) then
    (idx a2.zeros b).bind fun e =>
    (qe (⟨(⟨a2.f.params, a2.f.result, a2.f.regs, a2.f.blocks⟩ : ny), a2.in_, a2.front, a2.nearest, a2.phis, a2.zeros, c, a2.phi, a, a2.dst, a2.begin, a2.end_⟩ : nS) e).bind fun d =>
    (cat a [d.1]).bind fun g =>
    n5.jn654 b d.2 g
  else
    some (.ret (c, a))
def n5.jn4 (a2 : nS) (a : List Int) : Option (List Int × List (List Int) × List Int × List (List Int)) :=
  (whl (fun (s : (List Int × List Int × Int)) => n5.bd12 a2 s.1 s.2.1 s.2.2) nD (a, a2.zero_, 0)).bind fun z =>
  n5.nx12 a2 z.1 z.2
def n5 (a2 : nS) : Option (List Int × List (List Int) × List Int × List (List Int)) :=
  (upto a2.f.regs a2.f.params).bind fun a =>
  (pJ a).bind fun b =>
  n5.jn4 a2 b
set_option maxHeartbeats 4000000 in
theorem xg {E : World} {H : FP} {w : World} {a2 : nS} {D : Nat} {v3 : Value} {G : Value} {J : Value} {K : Value} {M : Value} {N : Value} {I : Value} {bV : Value} {aT : FP} {aj : Value} {ab : FP} {aC : Value} {ax : FP} {ak : Value} {ac : FP} {O : Value} {P : Value} {r : List Int × List (List Int) × List Int × List (List Int)} (am : SlI (nt .i64) H a2.f.regs v3) (an : SlI nY H a2.f.blocks G) (aD : SlI (kSl 4 kBool) H a2.in_ J) (aE : SlI (kSl 3 (nt .i64)) H a2.front K) (aF : SlI (nt .i64) H a2.nearest M) (ay : SlI (kSl 3 (nt .i64)) H a2.phis N) (ao : SlI (nt .i64) H a2.zeros I) (iv : SlO 3 (nt .i64) a2.regs bV aT) (aU : SlO 25 (kSl 3 (nt .i64)) a2.phi aj ab) (cp : SlO 3 (nt .i64) a2.zero_ aC ax) (aV : SlO 25 (kSl 3 (nt .i64)) a2.dst ak ac) (aG : SlI (kSl 3 (nt .i64)) H a2.begin O) (aH : SlI (kSl 3 (nt .i64)) H a2.end_ P) (hp : n5 a2 = some r) (hst : St E H [bx D 100 [.int .i64 a2.f.params, .int .i64 a2.f.result, v3, G, J, K, M, N, I, bV, aj, aC, ak, O, P], aT, ab, ax, ac] w) :
    Fn Try.prog 44 #[.pointer (some ⟨D, 0, none⟩)] w fun v w' => ∃ A, n5.R D a2 v3 G J K M N I O P r v A ∧ St E H A w' := by
 refine fb 121 [] Try.func44 rfl rfl rfl rfl rfl hst <| nv fun cq cr => ?_
 have bW {bX aW aX cs} (ct : SlO 3 (nt .i64) bX aW aX) (hp : n5.jn4 a2 bX = some r) : ∀ w, St E H [bx D 100 [.int .i64 a2.f.params, .int .i64 a2.f.result, v3, G, J, K, M, N, I, aW, aj, aC, ak, O, P], aX, ab, ax, ac] w → cq (ovr cs [(0, .pointer (some ⟨D, 0, none⟩))]) w := by
  refine tg cr <| nv fun cu cv => sr <| tm rfl <| tv (nE rfl) rfl <| tv (fa r8 rfl) rfl <| tv (lb s25 0 rfl rfl rfl) rfl <| tv (ln u25 ao rfl) rfl <| tm rfl <| nz <| nB <| bE hp fun cw cx cy => ?_
  have cz {aY X aZ a0 V T cA} (cB : SlO 3 (nt .i64) aY aZ a0) (a3 : SlO 3 (nt .i64) X V T) (cC : (aY, X) = cw) : ∀ w, St E H [bx D 100 [.int .i64 a2.f.params, .int .i64 a2.f.result, v3, G, J, K, M, N, I, aZ, aj, V, ak, O, P], a0, ab, T, ac] w → cu (ovr cA [(0, .pointer (some ⟨D, 0, none⟩))]) w := by
   subst cC
   replace hp : n5.nx12 a2 aY X = some r := cy
   refine tg cv <| sr <| tm rfl <| tv (nE rfl) rfl <| tv (fa pD rfl) rfl <| tv (fa oa rfl) rfl <| tv (lb s39 0 rfl rfl rfl) rfl <| tv (ln u39 an rfl) rfl <| tm rfl <| nz <| qf fun cE cF => nB <| bE hp fun cG cH cI => ?_
   have cJ {a4 a5 a6 a7 a8 a9 ba bb bc cK} (cL : SlO 3 (nt .i64) a4 a7 a8) (cM : SlO 25 (kSl 3 (nt .i64)) a5 a9 ba) (cN : SlO 25 (kSl 3 (nt .i64)) a6 bb bc) (cO : (a4, a5, a6) = cG) : ∀ w, St E H [bx D 100 [.int .i64 a2.f.params, .int .i64 a2.f.result, v3, G, J, K, M, N, I, a7, a9, V, bb, O, P], a8, ba, T, bc] w → cE (ovr cK []) w := by
    subst cO
    replace hp : n5.nx21 X a4 a5 a6 = some r := cI
    exact viaK cF <| rt hp [0, 1, 2, 3, 4] ⟨a7, a8, a9, ba, V, T, bb, bc, rfl, rfl, cL, cM, a3, cN⟩
   refine lp cH [0, 1, 2, 3, 4] rfl (fun s e L => ∃ aI Y Z S aJ aK ae af ag ah bY, s = (aI, Y, Z, S) ∧ SlO 3 (nt .i64) aI aJ aK ∧ SlO 25 (kSl 3 (nt .i64)) Y ae af ∧ SlO 25 (kSl 3 (nt .i64)) Z ag ah ∧ e = ovr bY [(0, .pointer (some ⟨D, 0, none⟩)), (53, G), (54, .int .i64 (len a2.f.blocks)), (55, .int .i64 S)] ∧ L = [bx D 100 [.int .i64 a2.f.params, .int .i64 a2.f.result, v3, G, J, K, M, N, I, aJ, ae, V, ag, O, P], aK, af, T, ah]) ⟨_, _, _, _, aZ, a0, aj, ab, ak, ac, _, rfl, cB, aU, aV, nC _ _ rfl, rfl⟩ ?_
   rintro _ _ _ ⟨aI, Y, Z, S, aJ, aK, ae, af, ag, ah, bY, rfl, bZ, n, h, rfl, rfl⟩ aL hp cP
   replace hp : n5.bd21 a2 X aI Y Z S = some aL := hp
   refine sr <| tv (blt rfl rfl) rfl <| nz <| nv fun iw cQ => cD rfl hp (fun cR hp => ?_) fun cR hp => ?_
   · refine sk cQ rfl <| nv fun cS cT => ?_
     have o {b0 b1 b2 be bf bg bh bi bj cU} (cV : SlO 3 (nt .i64) b0 be bf) (cW : SlO 25 (kSl 3 (nt .i64)) b1 bg bh) (cX : SlO 25 (kSl 3 (nt .i64)) b2 bi bj) (hp : n5.jn31 S b0 b1 b2 = some aL) : ∀ w, St E H [bx D 100 [.int .i64 a2.f.params, .int .i64 a2.f.result, v3, G, J, K, M, N, I, be, bg, V, bi, O, P], bf, bh, T, bj] w → cS (ovr cU [(0, .pointer (some ⟨D, 0, none⟩)), (53, G), (54, .int .i64 (len a2.f.blocks)), (55, .int .i64 S)]) w := by
      exact tg cT <| nF <| tv (bad rfl rfl) rfl <| tm rfl <| nl <| gk hp [0, 1, 2, 3, 4] ⟨_, _, _, _, be, bf, bg, bh, bi, bj, _, rfl, cV, cW, cX, nC _ _ rfl, rfl⟩
     refine nB <| sr <| tm rfl <| ti u39 i50 an hp rfl rfl rfl rfl ?_
     rintro U ix iy _ hp ⟨aM, ap, aN, rfl, cY, bk, cZ⟩ c0
     refine tv (lR (ds := [aM, ap, .int .i64 U.term.kind, .int .i64 U.term.arg, aN]) oY sH c0 0 rfl rfl rfl) rfl <| tl i50 rfl fun aO => ta rfl <| tS 0 m50 rfl rfl [aM, ap, .int .i64 U.term.kind, .int .i64 U.term.arg, aN] rfl (oc (cY).one (oc (bk).one (oc rfl (oc rfl (oc (cZ).one oc0))))) rfl rfl <| nz <| sr <| ta rfl <| ta rfl <| nz <| nv fun c1 c2 => sr <| tm rfl <| tv (nE rfl) rfl <| tv (fa qU rfl) rfl <| tv (lb s73 1 rfl rfl rfl) rfl <| tm rfl <| ti u73 i25 ay hp rfl rfl rfl rfl ?_
     rintro b3 iz iA _ hp ⟨c3, rfl, b4⟩ c4
     refine tv (lr s25 sH c4 0 rfl rfl) rfl <| tv (ln u25 b4 rfl) rfl <| tm rfl <| nz <| nB <| bE hp fun c5 c6 c7 => ?_
     have c8 {bl l bm bn y i c9} (da : SlO 3 (nt .i64) bl bm bn) (d : SlO 3 (nt .i64) l y i) (db : (bl, l) = c5) : ∀ w, St E H [bx D 100 [.int .i64 a2.f.params, .int .i64 a2.f.result, v3, G, J, K, M, N, I, bm, ae, V, ag, O, P], bn, af, T, ah, bx aO 50 [aM, ap, .int .i64 U.term.kind, .int .i64 U.term.arg, aN], i] w → c1 (ovr c9 [(0, .pointer (some ⟨D, 0, none⟩)), (5, .pointer (some ⟨aO, 0, none⟩)), (6, y), (7, .slice none 0 0), (53, G), (54, .int .i64 (len a2.f.blocks)), (55, .int .i64 S)]) w := by
      subst db
      replace hp : n5.nx41 a2 X Y Z S U bl l = some aL := c7
      refine tg c2 <| nv fun dc dd => sr <| tv (fa oB rfl) rfl <| tv (lb s48 5 rfl rfl rfl) rfl <| tv (ln u48 bk rfl) rfl <| tm rfl <| nz <| nB <| bE hp fun de df dg => ?_
      have dh {bo j b5 bp g m di} (p : SlO 3 (nt .i64) bo b5 bp) (c : SlO 3 (nt .i64) j g m) (dj : (bo, j) = de) : ∀ w, St E H [bx D 100 [.int .i64 a2.f.params, .int .i64 a2.f.result, v3, G, J, K, M, N, I, b5, ae, V, ag, O, P], bp, af, T, ah, i, m] w → dc (ovr di [(0, .pointer (some ⟨D, 0, none⟩)), (6, y), (7, g), (53, G), (54, .int .i64 (len a2.f.blocks)), (55, .int .i64 S)]) w := by
       subst dj
       replace hp : n5.nx50 Y Z S l bo j = some aL := dg
       refine tg dd <| ch mix [bp, T] (nq 1 rfl (nq 3 rfl ns)) <| hv 0 rfl mv Ag rfl <| hv 1 rfl mv Ag rfl <| hv 2 rfl mv Ag rfl <| hv 3 rfl (nE rfl) Ag rfl <| hv 4 rfl (fa oC rfl) Ag rfl <| hv 6 rfl mv Ag rfl <| hv 9 rfl mv Ag rfl <| hv 10 rfl (nE rfl) Ag rfl <| hv 11 rfl (fa oD rfl) Ag rfl <| hv 13 rfl mv Ag rfl <| nT [5, 7, 12, 14] Ag (by simp) (nG ⟨_, rfl, fun iB dk => ?_⟩ (nG ⟨_, rfl, fun iC dl => ?_⟩ (nG ⟨_, rfl, fun iD dm => ?_⟩ (nG ⟨_, rfl, fun iE dn => ?_⟩ nU))))
       · refine tv (lb s73 0 rfl rfl rfl) rfl <| hk dk (nq 1 rfl (nq 3 rfl ns)) <| nT [7, 12, 14] Ag (by simp) (nG ⟨_, rfl, fun iF dp => ?_⟩ (nG ⟨_, rfl, fun iG dq => ?_⟩ (nG ⟨_, rfl, fun iH dr => ?_⟩ nU)))
         · refine tbs [(0, y)] [y] u73 i25 (by obtain ⟨_, _, rfl⟩ := (d).len; kernel_rfl) rfl rfl rfl rfl fun Q => hk dp (nq 2 rfl (nq 4 rfl ns)) <| nT [8, 12, 14] Ag (by simp) (nG ⟨_, rfl, fun iI dt => ?_⟩ (nG ⟨_, rfl, fun iJ du => ?_⟩ (nG ⟨_, rfl, fun iK dv => ?_⟩ nU)))
           · refine tp [3, 0, 6, 1, 2, 4, 5, 7] [_,_,_,_,_,_,_,_] rfl rfl <| tp2 u73 i25 n hp (RepL.to (G' := i) (RepL.cons (k := (kSl 3 (nt .i64))) (x := l) ⟨_, rfl, d⟩ RepL.nil) (by simp)) rfl rfl rfl rfl rfl rfl rfl rfl rfl fun z B C b hp => hk dt (nq 2 rfl (nq 3 rfl ns)) <| nT [12, 14] Ag (by simp) (nG ⟨_, rfl, fun iL dw => ?_⟩ (nG ⟨_, rfl, fun iM dx => ?_⟩ nU))
             · exact tv (lb s73 1 rfl rfl rfl) rfl <| hk dw (nq 2 rfl (nq 3 rfl ns)) <| ho 14 rfl Ag fun iN dy => tbs [(0, g)] [g] u73 i25 (by obtain ⟨_, _, rfl⟩ := (c).len; kernel_rfl) rfl rfl rfl rfl fun F => hk dy (nq 3 rfl (nq 4 rfl ns)) <| ho 15 rfl Ag fun iO dz => tp [5, 0, 6, 1, 2, 3, 4] [_,_,_,_,_,_,_] rfl rfl <| tp2 u73 i25 h hp (RepL.to (G' := m) (RepL.cons (k := (kSl 3 (nt .i64))) (x := j) ⟨_, rfl, c⟩ RepL.nil) (by simp)) rfl rfl rfl rfl rfl rfl rfl rfl rfl fun q t u a hp => hk dz (nq 3 rfl (nq 4 rfl ns)) <| hv 16 rfl (nE rfl) Ag rfl <| hv 17 rfl (fa oC rfl) Ag rfl <| ho 18 rfl Ag fun iP dA => ts 2 m73 rfl rfl b.o1 rfl <| hk dA (nq 3 rfl (nq 4 rfl ns)) <| hv 19 rfl (nE rfl) Ag rfl <| hv 20 rfl (fa oD rfl) Ag rfl <| ho 21 rfl Ag fun iQ dB => ts 2 m73 rfl rfl a.o1 rfl <| hk dB (nq 3 rfl (nq 4 rfl ns)) <| hz Ag <| jn [2, 3, 1, 4, 0] (o p b a hp)
             · exact tbs [(0, g)] [g] u73 i25 (by obtain ⟨_, _, rfl⟩ := (c).len; kernel_rfl) rfl rfl rfl rfl fun F => hk dx (nq 3 rfl (nq 4 rfl ns)) <| ho 12 rfl Ag fun iR dC => tv (lb s73 2 rfl rfl rfl) rfl <| hk dC (nq 3 rfl (nq 4 rfl ns)) <| ho 15 rfl Ag fun iS dD => tp [5, 0, 6, 1, 2, 3, 4] [_,_,_,_,_,_,_] rfl rfl <| tp2 u73 i25 h hp (RepL.to (G' := m) (RepL.cons (k := (kSl 3 (nt .i64))) (x := j) ⟨_, rfl, c⟩ RepL.nil) (by simp)) rfl rfl rfl rfl rfl rfl rfl rfl rfl fun q t u a hp => hk dD (nq 3 rfl (nq 4 rfl ns)) <| hv 16 rfl (nE rfl) Ag rfl <| hv 17 rfl (fa oC rfl) Ag rfl <| ho 18 rfl Ag fun iT dE => ts 2 m73 rfl rfl b.o1 rfl <| hk dE (nq 3 rfl (nq 4 rfl ns)) <| hv 19 rfl (nE rfl) Ag rfl <| hv 20 rfl (fa oD rfl) Ag rfl <| ho 21 rfl Ag fun iU dF => ts 2 m73 rfl rfl a.o1 rfl <| hk dF (nq 3 rfl (nq 4 rfl ns)) <| hz Ag <| jn [2, 3, 1, 4, 0] (o p b a hp)
           · refine tv (lb s73 1 rfl rfl rfl) rfl <| hk du (nq 2 rfl (nq 4 rfl ns)) <| nT [8, 14] Ag (by simp) (nG ⟨_, rfl, fun iV dG => ?_⟩ (nG ⟨_, rfl, fun iW dH => ?_⟩ nU))
             · exact tp [3, 0, 6, 1, 2, 4, 5, 7] [_,_,_,_,_,_,_,_] rfl rfl <| tp2 u73 i25 n hp (RepL.to (G' := i) (RepL.cons (k := (kSl 3 (nt .i64))) (x := l) ⟨_, rfl, d⟩ RepL.nil) (by simp)) rfl rfl rfl rfl rfl rfl rfl rfl rfl fun z B C b hp => hk dG (nq 2 rfl (nq 3 rfl ns)) <| ho 14 rfl Ag fun iX dI => tbs [(0, g)] [g] u73 i25 (by obtain ⟨_, _, rfl⟩ := (c).len; kernel_rfl) rfl rfl rfl rfl fun F => hk dI (nq 3 rfl (nq 4 rfl ns)) <| ho 15 rfl Ag fun iY dJ => tp [5, 0, 6, 1, 2, 3, 4] [_,_,_,_,_,_,_] rfl rfl <| tp2 u73 i25 h hp (RepL.to (G' := m) (RepL.cons (k := (kSl 3 (nt .i64))) (x := j) ⟨_, rfl, c⟩ RepL.nil) (by simp)) rfl rfl rfl rfl rfl rfl rfl rfl rfl fun q t u a hp => hk dJ (nq 3 rfl (nq 4 rfl ns)) <| hv 16 rfl (nE rfl) Ag rfl <| hv 17 rfl (fa oC rfl) Ag rfl <| ho 18 rfl Ag fun iZ dK => ts 2 m73 rfl rfl b.o1 rfl <| hk dK (nq 3 rfl (nq 4 rfl ns)) <| hv 19 rfl (nE rfl) Ag rfl <| hv 20 rfl (fa oD rfl) Ag rfl <| ho 21 rfl Ag fun i0 dL => ts 2 m73 rfl rfl a.o1 rfl <| hk dL (nq 3 rfl (nq 4 rfl ns)) <| hz Ag <| jn [2, 3, 1, 4, 0] (o p b a hp)
             · exact tbs [(0, g)] [g] u73 i25 (by obtain ⟨_, _, rfl⟩ := (c).len; kernel_rfl) rfl rfl rfl rfl fun F => hk dH (nq 3 rfl (nq 5 rfl ns)) <| ho 8 rfl Ag fun i1 dM => tp [4, 1, 7, 0, 2, 3, 5, 6, 8] [_,_,_,_,_,_,_,_,_] rfl rfl <| tp2 u73 i25 n hp (RepL.to (G' := i) (RepL.cons (k := (kSl 3 (nt .i64))) (x := l) ⟨_, rfl, d⟩ RepL.nil) (by simp)) rfl rfl rfl rfl rfl rfl rfl rfl rfl fun z B C b hp => hk dM (nq 3 rfl (nq 4 rfl ns)) <| ho 15 rfl Ag fun i2 dN => tp [5, 1, 6, 0, 2, 3, 4] [_,_,_,_,_,_,_] rfl rfl <| tp2 u73 i25 h hp (RepL.to (G' := m) (RepL.cons (k := (kSl 3 (nt .i64))) (x := j) ⟨_, rfl, c⟩ RepL.nil) (by simp)) rfl rfl rfl rfl rfl rfl rfl rfl rfl fun q t u a hp => hk dN (nq 3 rfl (nq 4 rfl ns)) <| hv 16 rfl (nE rfl) Ag rfl <| hv 17 rfl (fa oC rfl) Ag rfl <| ho 18 rfl Ag fun i4 dO => ts 2 m73 rfl rfl b.o1 rfl <| hk dO (nq 3 rfl (nq 4 rfl ns)) <| hv 19 rfl (nE rfl) Ag rfl <| hv 20 rfl (fa oD rfl) Ag rfl <| ho 21 rfl Ag fun i5 dP => ts 2 m73 rfl rfl a.o1 rfl <| hk dP (nq 3 rfl (nq 4 rfl ns)) <| hz Ag <| jn [2, 3, 1, 4, 0] (o p b a hp)
           · refine tbs [(0, g)] [g] u73 i25 (by obtain ⟨_, _, rfl⟩ := (c).len; kernel_rfl) rfl rfl rfl rfl fun F => hk dv (nq 3 rfl (nq 5 rfl ns)) <| nT [8, 12] Ag (by simp) (nG ⟨_, rfl, fun i6 dQ => ?_⟩ (nG ⟨_, rfl, fun i7 dR => ?_⟩ nU))
             · exact tp [4, 1, 7, 0, 2, 3, 5, 6, 8] [_,_,_,_,_,_,_,_,_] rfl rfl <| tp2 u73 i25 n hp (RepL.to (G' := i) (RepL.cons (k := (kSl 3 (nt .i64))) (x := l) ⟨_, rfl, d⟩ RepL.nil) (by simp)) rfl rfl rfl rfl rfl rfl rfl rfl rfl fun z B C b hp => hk dQ (nq 3 rfl (nq 4 rfl ns)) <| ho 12 rfl Ag fun i8 dS => tv (lb s73 2 rfl rfl rfl) rfl <| hk dS (nq 3 rfl (nq 4 rfl ns)) <| ho 15 rfl Ag fun i9 dT => tp [5, 1, 6, 0, 2, 3, 4] [_,_,_,_,_,_,_] rfl rfl <| tp2 u73 i25 h hp (RepL.to (G' := m) (RepL.cons (k := (kSl 3 (nt .i64))) (x := j) ⟨_, rfl, c⟩ RepL.nil) (by simp)) rfl rfl rfl rfl rfl rfl rfl rfl rfl fun q t u a hp => hk dT (nq 3 rfl (nq 4 rfl ns)) <| hv 16 rfl (nE rfl) Ag rfl <| hv 17 rfl (fa oC rfl) Ag rfl <| ho 18 rfl Ag fun ja dU => ts 2 m73 rfl rfl b.o1 rfl <| hk dU (nq 3 rfl (nq 4 rfl ns)) <| hv 19 rfl (nE rfl) Ag rfl <| hv 20 rfl (fa oD rfl) Ag rfl <| ho 21 rfl Ag fun jb dV => ts 2 m73 rfl rfl a.o1 rfl <| hk dV (nq 3 rfl (nq 4 rfl ns)) <| hz Ag <| jn [2, 3, 1, 4, 0] (o p b a hp)
             · exact tv (lb s73 2 rfl rfl rfl) rfl <| hk dR (nq 3 rfl (nq 5 rfl ns)) <| ho 8 rfl Ag fun jc dW => tp [4, 1, 7, 0, 2, 3, 5, 6, 8] [_,_,_,_,_,_,_,_,_] rfl rfl <| tp2 u73 i25 n hp (RepL.to (G' := i) (RepL.cons (k := (kSl 3 (nt .i64))) (x := l) ⟨_, rfl, d⟩ RepL.nil) (by simp)) rfl rfl rfl rfl rfl rfl rfl rfl rfl fun z B C b hp => hk dW (nq 3 rfl (nq 4 rfl ns)) <| ho 15 rfl Ag fun jd dX => tp [5, 1, 6, 0, 2, 3, 4] [_,_,_,_,_,_,_] rfl rfl <| tp2 u73 i25 h hp (RepL.to (G' := m) (RepL.cons (k := (kSl 3 (nt .i64))) (x := j) ⟨_, rfl, c⟩ RepL.nil) (by simp)) rfl rfl rfl rfl rfl rfl rfl rfl rfl fun q t u a hp => hk dX (nq 3 rfl (nq 4 rfl ns)) <| hv 16 rfl (nE rfl) Ag rfl <| hv 17 rfl (fa oC rfl) Ag rfl <| ho 18 rfl Ag fun je dY => ts 2 m73 rfl rfl b.o1 rfl <| hk dY (nq 3 rfl (nq 4 rfl ns)) <| hv 19 rfl (nE rfl) Ag rfl <| hv 20 rfl (fa oD rfl) Ag rfl <| ho 21 rfl Ag fun jf dZ => ts 2 m73 rfl rfl a.o1 rfl <| hk dZ (nq 3 rfl (nq 4 rfl ns)) <| hz Ag <| jn [2, 3, 1, 4, 0] (o p b a hp)
         · refine tv (lb s73 0 rfl rfl rfl) rfl <| hk dq (nq 1 rfl (nq 3 rfl ns)) <| nT [7, 14] Ag (by simp) (nG ⟨_, rfl, fun jg d0 => ?_⟩ (nG ⟨_, rfl, fun jh d1 => ?_⟩ nU))
           · refine tbs [(0, y)] [y] u73 i25 (by obtain ⟨_, _, rfl⟩ := (d).len; kernel_rfl) rfl rfl rfl rfl fun Q => hk d0 (nq 2 rfl (nq 4 rfl ns)) <| nT [8, 14] Ag (by simp) (nG ⟨_, rfl, fun ji d2 => ?_⟩ (nG ⟨_, rfl, fun jj d3 => ?_⟩ nU))
             · exact tp [3, 0, 6, 1, 2, 4, 5, 7] [_,_,_,_,_,_,_,_] rfl rfl <| tp2 u73 i25 n hp (RepL.to (G' := i) (RepL.cons (k := (kSl 3 (nt .i64))) (x := l) ⟨_, rfl, d⟩ RepL.nil) (by simp)) rfl rfl rfl rfl rfl rfl rfl rfl rfl fun z B C b hp => hk d2 (nq 2 rfl (nq 3 rfl ns)) <| ho 14 rfl Ag fun jk d4 => tbs [(0, g)] [g] u73 i25 (by obtain ⟨_, _, rfl⟩ := (c).len; kernel_rfl) rfl rfl rfl rfl fun F => hk d4 (nq 3 rfl (nq 4 rfl ns)) <| ho 15 rfl Ag fun jl d5 => tp [5, 0, 6, 1, 2, 3, 4] [_,_,_,_,_,_,_] rfl rfl <| tp2 u73 i25 h hp (RepL.to (G' := m) (RepL.cons (k := (kSl 3 (nt .i64))) (x := j) ⟨_, rfl, c⟩ RepL.nil) (by simp)) rfl rfl rfl rfl rfl rfl rfl rfl rfl fun q t u a hp => hk d5 (nq 3 rfl (nq 4 rfl ns)) <| hv 16 rfl (nE rfl) Ag rfl <| hv 17 rfl (fa oC rfl) Ag rfl <| ho 18 rfl Ag fun jm d6 => ts 2 m73 rfl rfl b.o1 rfl <| hk d6 (nq 3 rfl (nq 4 rfl ns)) <| hv 19 rfl (nE rfl) Ag rfl <| hv 20 rfl (fa oD rfl) Ag rfl <| ho 21 rfl Ag fun jo d7 => ts 2 m73 rfl rfl a.o1 rfl <| hk d7 (nq 3 rfl (nq 4 rfl ns)) <| hz Ag <| jn [2, 3, 1, 4, 0] (o p b a hp)
             · exact tbs [(0, g)] [g] u73 i25 (by obtain ⟨_, _, rfl⟩ := (c).len; kernel_rfl) rfl rfl rfl rfl fun F => hk d3 (nq 3 rfl (nq 5 rfl ns)) <| ho 8 rfl Ag fun jp d8 => tp [4, 1, 7, 0, 2, 3, 5, 6, 8] [_,_,_,_,_,_,_,_,_] rfl rfl <| tp2 u73 i25 n hp (RepL.to (G' := i) (RepL.cons (k := (kSl 3 (nt .i64))) (x := l) ⟨_, rfl, d⟩ RepL.nil) (by simp)) rfl rfl rfl rfl rfl rfl rfl rfl rfl fun z B C b hp => hk d8 (nq 3 rfl (nq 4 rfl ns)) <| ho 15 rfl Ag fun jq d9 => tp [5, 1, 6, 0, 2, 3, 4] [_,_,_,_,_,_,_] rfl rfl <| tp2 u73 i25 h hp (RepL.to (G' := m) (RepL.cons (k := (kSl 3 (nt .i64))) (x := j) ⟨_, rfl, c⟩ RepL.nil) (by simp)) rfl rfl rfl rfl rfl rfl rfl rfl rfl fun q t u a hp => hk d9 (nq 3 rfl (nq 4 rfl ns)) <| hv 16 rfl (nE rfl) Ag rfl <| hv 17 rfl (fa oC rfl) Ag rfl <| ho 18 rfl Ag fun jr ea => ts 2 m73 rfl rfl b.o1 rfl <| hk ea (nq 3 rfl (nq 4 rfl ns)) <| hv 19 rfl (nE rfl) Ag rfl <| hv 20 rfl (fa oD rfl) Ag rfl <| ho 21 rfl Ag fun js eb => ts 2 m73 rfl rfl a.o1 rfl <| hk eb (nq 3 rfl (nq 4 rfl ns)) <| hz Ag <| jn [2, 3, 1, 4, 0] (o p b a hp)
           · exact tbs [(0, g)] [g] u73 i25 (by obtain ⟨_, _, rfl⟩ := (c).len; kernel_rfl) rfl rfl rfl rfl fun F => hk d1 (nq 2 rfl (nq 4 rfl ns)) <| ho 7 rfl Ag fun jt ec => tbs [(0, y)] [y] u73 i25 (by obtain ⟨_, _, rfl⟩ := (d).len; kernel_rfl) rfl rfl rfl rfl fun Q => hk ec (nq 3 rfl (nq 5 rfl ns)) <| ho 8 rfl Ag fun ju ed => tp [4, 0, 7, 1, 2, 3, 5, 6, 8] [_,_,_,_,_,_,_,_,_] rfl rfl <| tp2 u73 i25 n hp (RepL.to (G' := i) (RepL.cons (k := (kSl 3 (nt .i64))) (x := l) ⟨_, rfl, d⟩ RepL.nil) (by simp)) rfl rfl rfl rfl rfl rfl rfl rfl rfl fun z B C b hp => hk ed (nq 3 rfl (nq 4 rfl ns)) <| ho 15 rfl Ag fun jv ee => tp [5, 1, 6, 0, 2, 3, 4] [_,_,_,_,_,_,_] rfl rfl <| tp2 u73 i25 h hp (RepL.to (G' := m) (RepL.cons (k := (kSl 3 (nt .i64))) (x := j) ⟨_, rfl, c⟩ RepL.nil) (by simp)) rfl rfl rfl rfl rfl rfl rfl rfl rfl fun q t u a hp => hk ee (nq 3 rfl (nq 4 rfl ns)) <| hv 16 rfl (nE rfl) Ag rfl <| hv 17 rfl (fa oC rfl) Ag rfl <| ho 18 rfl Ag fun jw ef => ts 2 m73 rfl rfl b.o1 rfl <| hk ef (nq 3 rfl (nq 4 rfl ns)) <| hv 19 rfl (nE rfl) Ag rfl <| hv 20 rfl (fa oD rfl) Ag rfl <| ho 21 rfl Ag fun jx eg => ts 2 m73 rfl rfl a.o1 rfl <| hk eg (nq 3 rfl (nq 4 rfl ns)) <| hz Ag <| jn [2, 3, 1, 4, 0] (o p b a hp)
         · refine tbs [(0, g)] [g] u73 i25 (by obtain ⟨_, _, rfl⟩ := (c).len; kernel_rfl) rfl rfl rfl rfl fun F => hk dr (nq 2 rfl (nq 4 rfl ns)) <| nT [7, 12] Ag (by simp) (nG ⟨_, rfl, fun jy eh => ?_⟩ (nG ⟨_, rfl, fun jz ei => ?_⟩ nU))
           · refine tbs [(0, y)] [y] u73 i25 (by obtain ⟨_, _, rfl⟩ := (d).len; kernel_rfl) rfl rfl rfl rfl fun Q => hk eh (nq 3 rfl (nq 5 rfl ns)) <| nT [8, 12] Ag (by simp) (nG ⟨_, rfl, fun jA ej => ?_⟩ (nG ⟨_, rfl, fun jB ek => ?_⟩ nU))
             · exact tp [4, 0, 7, 1, 2, 3, 5, 6, 8] [_,_,_,_,_,_,_,_,_] rfl rfl <| tp2 u73 i25 n hp (RepL.to (G' := i) (RepL.cons (k := (kSl 3 (nt .i64))) (x := l) ⟨_, rfl, d⟩ RepL.nil) (by simp)) rfl rfl rfl rfl rfl rfl rfl rfl rfl fun z B C b hp => hk ej (nq 3 rfl (nq 4 rfl ns)) <| ho 12 rfl Ag fun jC el => tv (lb s73 2 rfl rfl rfl) rfl <| hk el (nq 3 rfl (nq 4 rfl ns)) <| ho 15 rfl Ag fun jD em => tp [5, 1, 6, 0, 2, 3, 4] [_,_,_,_,_,_,_] rfl rfl <| tp2 u73 i25 h hp (RepL.to (G' := m) (RepL.cons (k := (kSl 3 (nt .i64))) (x := j) ⟨_, rfl, c⟩ RepL.nil) (by simp)) rfl rfl rfl rfl rfl rfl rfl rfl rfl fun q t u a hp => hk em (nq 3 rfl (nq 4 rfl ns)) <| hv 16 rfl (nE rfl) Ag rfl <| hv 17 rfl (fa oC rfl) Ag rfl <| ho 18 rfl Ag fun jE en => ts 2 m73 rfl rfl b.o1 rfl <| hk en (nq 3 rfl (nq 4 rfl ns)) <| hv 19 rfl (nE rfl) Ag rfl <| hv 20 rfl (fa oD rfl) Ag rfl <| ho 21 rfl Ag fun jF eo => ts 2 m73 rfl rfl a.o1 rfl <| hk eo (nq 3 rfl (nq 4 rfl ns)) <| hz Ag <| jn [2, 3, 1, 4, 0] (o p b a hp)
             · exact tv (lb s73 2 rfl rfl rfl) rfl <| hk ek (nq 3 rfl (nq 5 rfl ns)) <| ho 8 rfl Ag fun jG ep => tp [4, 0, 7, 1, 2, 3, 5, 6, 8] [_,_,_,_,_,_,_,_,_] rfl rfl <| tp2 u73 i25 n hp (RepL.to (G' := i) (RepL.cons (k := (kSl 3 (nt .i64))) (x := l) ⟨_, rfl, d⟩ RepL.nil) (by simp)) rfl rfl rfl rfl rfl rfl rfl rfl rfl fun z B C b hp => hk ep (nq 3 rfl (nq 4 rfl ns)) <| ho 15 rfl Ag fun jH eq => tp [5, 1, 6, 0, 2, 3, 4] [_,_,_,_,_,_,_] rfl rfl <| tp2 u73 i25 h hp (RepL.to (G' := m) (RepL.cons (k := (kSl 3 (nt .i64))) (x := j) ⟨_, rfl, c⟩ RepL.nil) (by simp)) rfl rfl rfl rfl rfl rfl rfl rfl rfl fun q t u a hp => hk eq (nq 3 rfl (nq 4 rfl ns)) <| hv 16 rfl (nE rfl) Ag rfl <| hv 17 rfl (fa oC rfl) Ag rfl <| ho 18 rfl Ag fun jI er => ts 2 m73 rfl rfl b.o1 rfl <| hk er (nq 3 rfl (nq 4 rfl ns)) <| hv 19 rfl (nE rfl) Ag rfl <| hv 20 rfl (fa oD rfl) Ag rfl <| ho 21 rfl Ag fun jJ es => ts 2 m73 rfl rfl a.o1 rfl <| hk es (nq 3 rfl (nq 4 rfl ns)) <| hz Ag <| jn [2, 3, 1, 4, 0] (o p b a hp)
           · exact tv (lb s73 1 rfl rfl rfl) rfl <| hk ei (nq 2 rfl (nq 4 rfl ns)) <| ho 7 rfl Ag fun jK et => tbs [(0, y)] [y] u73 i25 (by obtain ⟨_, _, rfl⟩ := (d).len; kernel_rfl) rfl rfl rfl rfl fun Q => hk et (nq 3 rfl (nq 5 rfl ns)) <| ho 8 rfl Ag fun jL eu => tp [4, 0, 7, 1, 2, 3, 5, 6, 8] [_,_,_,_,_,_,_,_,_] rfl rfl <| tp2 u73 i25 n hp (RepL.to (G' := i) (RepL.cons (k := (kSl 3 (nt .i64))) (x := l) ⟨_, rfl, d⟩ RepL.nil) (by simp)) rfl rfl rfl rfl rfl rfl rfl rfl rfl fun z B C b hp => hk eu (nq 3 rfl (nq 4 rfl ns)) <| ho 15 rfl Ag fun jM ev => tp [5, 1, 6, 0, 2, 3, 4] [_,_,_,_,_,_,_] rfl rfl <| tp2 u73 i25 h hp (RepL.to (G' := m) (RepL.cons (k := (kSl 3 (nt .i64))) (x := j) ⟨_, rfl, c⟩ RepL.nil) (by simp)) rfl rfl rfl rfl rfl rfl rfl rfl rfl fun q t u a hp => hk ev (nq 3 rfl (nq 4 rfl ns)) <| hv 16 rfl (nE rfl) Ag rfl <| hv 17 rfl (fa oC rfl) Ag rfl <| ho 18 rfl Ag fun jN ew => ts 2 m73 rfl rfl b.o1 rfl <| hk ew (nq 3 rfl (nq 4 rfl ns)) <| hv 19 rfl (nE rfl) Ag rfl <| hv 20 rfl (fa oD rfl) Ag rfl <| ho 21 rfl Ag fun jO ex => ts 2 m73 rfl rfl a.o1 rfl <| hk ex (nq 3 rfl (nq 4 rfl ns)) <| hz Ag <| jn [2, 3, 1, 4, 0] (o p b a hp)
       · refine tbs [(0, y)] [y] u73 i25 (by obtain ⟨_, _, rfl⟩ := (d).len; kernel_rfl) rfl rfl rfl rfl fun Q => hk dl (nq 2 rfl (nq 4 rfl ns)) <| nT [5, 12, 14] Ag (by simp) (nG ⟨_, rfl, fun jP ey => ?_⟩ (nG ⟨_, rfl, fun jQ ez => ?_⟩ (nG ⟨_, rfl, fun jR eA => ?_⟩ nU)))
         · refine tv (lb s73 1 rfl rfl rfl) rfl <| hk ey (nq 2 rfl (nq 4 rfl ns)) <| nT [8, 12, 14] Ag (by simp) (nG ⟨_, rfl, fun jS eB => ?_⟩ (nG ⟨_, rfl, fun jT eC => ?_⟩ (nG ⟨_, rfl, fun jU eD => ?_⟩ nU)))
           · refine tp [3, 0, 6, 1, 2, 4, 5, 7] [_,_,_,_,_,_,_,_] rfl rfl <| tp2 u73 i25 n hp (RepL.to (G' := i) (RepL.cons (k := (kSl 3 (nt .i64))) (x := l) ⟨_, rfl, d⟩ RepL.nil) (by simp)) rfl rfl rfl rfl rfl rfl rfl rfl rfl fun z B C b hp => hk eB (nq 2 rfl (nq 3 rfl ns)) <| nT [12, 14] Ag (by simp) (nG ⟨_, rfl, fun jV eE => ?_⟩ (nG ⟨_, rfl, fun jW eF => ?_⟩ nU))
             · exact tv (lb s73 1 rfl rfl rfl) rfl <| hk eE (nq 2 rfl (nq 3 rfl ns)) <| ho 14 rfl Ag fun jX eG => tbs [(0, g)] [g] u73 i25 (by obtain ⟨_, _, rfl⟩ := (c).len; kernel_rfl) rfl rfl rfl rfl fun F => hk eG (nq 3 rfl (nq 4 rfl ns)) <| ho 15 rfl Ag fun jY eH => tp [5, 0, 6, 1, 2, 3, 4] [_,_,_,_,_,_,_] rfl rfl <| tp2 u73 i25 h hp (RepL.to (G' := m) (RepL.cons (k := (kSl 3 (nt .i64))) (x := j) ⟨_, rfl, c⟩ RepL.nil) (by simp)) rfl rfl rfl rfl rfl rfl rfl rfl rfl fun q t u a hp => hk eH (nq 3 rfl (nq 4 rfl ns)) <| hv 16 rfl (nE rfl) Ag rfl <| hv 17 rfl (fa oC rfl) Ag rfl <| ho 18 rfl Ag fun jZ eI => ts 2 m73 rfl rfl b.o1 rfl <| hk eI (nq 3 rfl (nq 4 rfl ns)) <| hv 19 rfl (nE rfl) Ag rfl <| hv 20 rfl (fa oD rfl) Ag rfl <| ho 21 rfl Ag fun j0 eJ => ts 2 m73 rfl rfl a.o1 rfl <| hk eJ (nq 3 rfl (nq 4 rfl ns)) <| hz Ag <| jn [2, 3, 1, 4, 0] (o p b a hp)
             · exact tbs [(0, g)] [g] u73 i25 (by obtain ⟨_, _, rfl⟩ := (c).len; kernel_rfl) rfl rfl rfl rfl fun F => hk eF (nq 3 rfl (nq 4 rfl ns)) <| ho 12 rfl Ag fun j1 eK => tv (lb s73 2 rfl rfl rfl) rfl <| hk eK (nq 3 rfl (nq 4 rfl ns)) <| ho 15 rfl Ag fun j2 eL => tp [5, 0, 6, 1, 2, 3, 4] [_,_,_,_,_,_,_] rfl rfl <| tp2 u73 i25 h hp (RepL.to (G' := m) (RepL.cons (k := (kSl 3 (nt .i64))) (x := j) ⟨_, rfl, c⟩ RepL.nil) (by simp)) rfl rfl rfl rfl rfl rfl rfl rfl rfl fun q t u a hp => hk eL (nq 3 rfl (nq 4 rfl ns)) <| hv 16 rfl (nE rfl) Ag rfl <| hv 17 rfl (fa oC rfl) Ag rfl <| ho 18 rfl Ag fun j3 eM => ts 2 m73 rfl rfl b.o1 rfl <| hk eM (nq 3 rfl (nq 4 rfl ns)) <| hv 19 rfl (nE rfl) Ag rfl <| hv 20 rfl (fa oD rfl) Ag rfl <| ho 21 rfl Ag fun j4 eN => ts 2 m73 rfl rfl a.o1 rfl <| hk eN (nq 3 rfl (nq 4 rfl ns)) <| hz Ag <| jn [2, 3, 1, 4, 0] (o p b a hp)
           · refine tv (lb s73 1 rfl rfl rfl) rfl <| hk eC (nq 2 rfl (nq 4 rfl ns)) <| nT [8, 14] Ag (by simp) (nG ⟨_, rfl, fun j5 eO => ?_⟩ (nG ⟨_, rfl, fun j6 eP => ?_⟩ nU))
             · exact tp [3, 0, 6, 1, 2, 4, 5, 7] [_,_,_,_,_,_,_,_] rfl rfl <| tp2 u73 i25 n hp (RepL.to (G' := i) (RepL.cons (k := (kSl 3 (nt .i64))) (x := l) ⟨_, rfl, d⟩ RepL.nil) (by simp)) rfl rfl rfl rfl rfl rfl rfl rfl rfl fun z B C b hp => hk eO (nq 2 rfl (nq 3 rfl ns)) <| ho 14 rfl Ag fun j7 eQ => tbs [(0, g)] [g] u73 i25 (by obtain ⟨_, _, rfl⟩ := (c).len; kernel_rfl) rfl rfl rfl rfl fun F => hk eQ (nq 3 rfl (nq 4 rfl ns)) <| ho 15 rfl Ag fun j8 eR => tp [5, 0, 6, 1, 2, 3, 4] [_,_,_,_,_,_,_] rfl rfl <| tp2 u73 i25 h hp (RepL.to (G' := m) (RepL.cons (k := (kSl 3 (nt .i64))) (x := j) ⟨_, rfl, c⟩ RepL.nil) (by simp)) rfl rfl rfl rfl rfl rfl rfl rfl rfl fun q t u a hp => hk eR (nq 3 rfl (nq 4 rfl ns)) <| hv 16 rfl (nE rfl) Ag rfl <| hv 17 rfl (fa oC rfl) Ag rfl <| ho 18 rfl Ag fun j9 eS => ts 2 m73 rfl rfl b.o1 rfl <| hk eS (nq 3 rfl (nq 4 rfl ns)) <| hv 19 rfl (nE rfl) Ag rfl <| hv 20 rfl (fa oD rfl) Ag rfl <| ho 21 rfl Ag fun ka eT => ts 2 m73 rfl rfl a.o1 rfl <| hk eT (nq 3 rfl (nq 4 rfl ns)) <| hz Ag <| jn [2, 3, 1, 4, 0] (o p b a hp)
             · exact tbs [(0, g)] [g] u73 i25 (by obtain ⟨_, _, rfl⟩ := (c).len; kernel_rfl) rfl rfl rfl rfl fun F => hk eP (nq 3 rfl (nq 5 rfl ns)) <| ho 8 rfl Ag fun kb eU => tp [4, 1, 7, 0, 2, 3, 5, 6, 8] [_,_,_,_,_,_,_,_,_] rfl rfl <| tp2 u73 i25 n hp (RepL.to (G' := i) (RepL.cons (k := (kSl 3 (nt .i64))) (x := l) ⟨_, rfl, d⟩ RepL.nil) (by simp)) rfl rfl rfl rfl rfl rfl rfl rfl rfl fun z B C b hp => hk eU (nq 3 rfl (nq 4 rfl ns)) <| ho 15 rfl Ag fun kc eV => tp [5, 1, 6, 0, 2, 3, 4] [_,_,_,_,_,_,_] rfl rfl <| tp2 u73 i25 h hp (RepL.to (G' := m) (RepL.cons (k := (kSl 3 (nt .i64))) (x := j) ⟨_, rfl, c⟩ RepL.nil) (by simp)) rfl rfl rfl rfl rfl rfl rfl rfl rfl fun q t u a hp => hk eV (nq 3 rfl (nq 4 rfl ns)) <| hv 16 rfl (nE rfl) Ag rfl <| hv 17 rfl (fa oC rfl) Ag rfl <| ho 18 rfl Ag fun kd eW => ts 2 m73 rfl rfl b.o1 rfl <| hk eW (nq 3 rfl (nq 4 rfl ns)) <| hv 19 rfl (nE rfl) Ag rfl <| hv 20 rfl (fa oD rfl) Ag rfl <| ho 21 rfl Ag fun ke eX => ts 2 m73 rfl rfl a.o1 rfl <| hk eX (nq 3 rfl (nq 4 rfl ns)) <| hz Ag <| jn [2, 3, 1, 4, 0] (o p b a hp)
           · refine tbs [(0, g)] [g] u73 i25 (by obtain ⟨_, _, rfl⟩ := (c).len; kernel_rfl) rfl rfl rfl rfl fun F => hk eD (nq 3 rfl (nq 5 rfl ns)) <| nT [8, 12] Ag (by simp) (nG ⟨_, rfl, fun kf eY => ?_⟩ (nG ⟨_, rfl, fun kg eZ => ?_⟩ nU))
             · exact tp [4, 1, 7, 0, 2, 3, 5, 6, 8] [_,_,_,_,_,_,_,_,_] rfl rfl <| tp2 u73 i25 n hp (RepL.to (G' := i) (RepL.cons (k := (kSl 3 (nt .i64))) (x := l) ⟨_, rfl, d⟩ RepL.nil) (by simp)) rfl rfl rfl rfl rfl rfl rfl rfl rfl fun z B C b hp => hk eY (nq 3 rfl (nq 4 rfl ns)) <| ho 12 rfl Ag fun kh e0 => tv (lb s73 2 rfl rfl rfl) rfl <| hk e0 (nq 3 rfl (nq 4 rfl ns)) <| ho 15 rfl Ag fun ki e1 => tp [5, 1, 6, 0, 2, 3, 4] [_,_,_,_,_,_,_] rfl rfl <| tp2 u73 i25 h hp (RepL.to (G' := m) (RepL.cons (k := (kSl 3 (nt .i64))) (x := j) ⟨_, rfl, c⟩ RepL.nil) (by simp)) rfl rfl rfl rfl rfl rfl rfl rfl rfl fun q t u a hp => hk e1 (nq 3 rfl (nq 4 rfl ns)) <| hv 16 rfl (nE rfl) Ag rfl <| hv 17 rfl (fa oC rfl) Ag rfl <| ho 18 rfl Ag fun kj e2 => ts 2 m73 rfl rfl b.o1 rfl <| hk e2 (nq 3 rfl (nq 4 rfl ns)) <| hv 19 rfl (nE rfl) Ag rfl <| hv 20 rfl (fa oD rfl) Ag rfl <| ho 21 rfl Ag fun kk e3 => ts 2 m73 rfl rfl a.o1 rfl <| hk e3 (nq 3 rfl (nq 4 rfl ns)) <| hz Ag <| jn [2, 3, 1, 4, 0] (o p b a hp)
             · exact tv (lb s73 2 rfl rfl rfl) rfl <| hk eZ (nq 3 rfl (nq 5 rfl ns)) <| ho 8 rfl Ag fun kl e4 => tp [4, 1, 7, 0, 2, 3, 5, 6, 8] [_,_,_,_,_,_,_,_,_] rfl rfl <| tp2 u73 i25 n hp (RepL.to (G' := i) (RepL.cons (k := (kSl 3 (nt .i64))) (x := l) ⟨_, rfl, d⟩ RepL.nil) (by simp)) rfl rfl rfl rfl rfl rfl rfl rfl rfl fun z B C b hp => hk e4 (nq 3 rfl (nq 4 rfl ns)) <| ho 15 rfl Ag fun km e5 => tp [5, 1, 6, 0, 2, 3, 4] [_,_,_,_,_,_,_] rfl rfl <| tp2 u73 i25 h hp (RepL.to (G' := m) (RepL.cons (k := (kSl 3 (nt .i64))) (x := j) ⟨_, rfl, c⟩ RepL.nil) (by simp)) rfl rfl rfl rfl rfl rfl rfl rfl rfl fun q t u a hp => hk e5 (nq 3 rfl (nq 4 rfl ns)) <| hv 16 rfl (nE rfl) Ag rfl <| hv 17 rfl (fa oC rfl) Ag rfl <| ho 18 rfl Ag fun kn e6 => ts 2 m73 rfl rfl b.o1 rfl <| hk e6 (nq 3 rfl (nq 4 rfl ns)) <| hv 19 rfl (nE rfl) Ag rfl <| hv 20 rfl (fa oD rfl) Ag rfl <| ho 21 rfl Ag fun ko e7 => ts 2 m73 rfl rfl a.o1 rfl <| hk e7 (nq 3 rfl (nq 4 rfl ns)) <| hz Ag <| jn [2, 3, 1, 4, 0] (o p b a hp)
         · refine tv (lb s73 1 rfl rfl rfl) rfl <| hk ez (nq 2 rfl (nq 4 rfl ns)) <| nT [5, 14] Ag (by simp) (nG ⟨_, rfl, fun kp e8 => ?_⟩ (nG ⟨_, rfl, fun kq e9 => ?_⟩ nU))
           · refine tv (lb s73 1 rfl rfl rfl) rfl <| hk e8 (nq 2 rfl (nq 4 rfl ns)) <| nT [8, 14] Ag (by simp) (nG ⟨_, rfl, fun kr fc => ?_⟩ (nG ⟨_, rfl, fun ks fd => ?_⟩ nU))
             · exact tp [3, 0, 6, 1, 2, 4, 5, 7] [_,_,_,_,_,_,_,_] rfl rfl <| tp2 u73 i25 n hp (RepL.to (G' := i) (RepL.cons (k := (kSl 3 (nt .i64))) (x := l) ⟨_, rfl, d⟩ RepL.nil) (by simp)) rfl rfl rfl rfl rfl rfl rfl rfl rfl fun z B C b hp => hk fc (nq 2 rfl (nq 3 rfl ns)) <| ho 14 rfl Ag fun kt fe => tbs [(0, g)] [g] u73 i25 (by obtain ⟨_, _, rfl⟩ := (c).len; kernel_rfl) rfl rfl rfl rfl fun F => hk fe (nq 3 rfl (nq 4 rfl ns)) <| ho 15 rfl Ag fun ku ff => tp [5, 0, 6, 1, 2, 3, 4] [_,_,_,_,_,_,_] rfl rfl <| tp2 u73 i25 h hp (RepL.to (G' := m) (RepL.cons (k := (kSl 3 (nt .i64))) (x := j) ⟨_, rfl, c⟩ RepL.nil) (by simp)) rfl rfl rfl rfl rfl rfl rfl rfl rfl fun q t u a hp => hk ff (nq 3 rfl (nq 4 rfl ns)) <| hv 16 rfl (nE rfl) Ag rfl <| hv 17 rfl (fa oC rfl) Ag rfl <| ho 18 rfl Ag fun kv fg => ts 2 m73 rfl rfl b.o1 rfl <| hk fg (nq 3 rfl (nq 4 rfl ns)) <| hv 19 rfl (nE rfl) Ag rfl <| hv 20 rfl (fa oD rfl) Ag rfl <| ho 21 rfl Ag fun kw fh => ts 2 m73 rfl rfl a.o1 rfl <| hk fh (nq 3 rfl (nq 4 rfl ns)) <| hz Ag <| jn [2, 3, 1, 4, 0] (o p b a hp)
             · exact tbs [(0, g)] [g] u73 i25 (by obtain ⟨_, _, rfl⟩ := (c).len; kernel_rfl) rfl rfl rfl rfl fun F => hk fd (nq 3 rfl (nq 5 rfl ns)) <| ho 8 rfl Ag fun kx fi => tp [4, 1, 7, 0, 2, 3, 5, 6, 8] [_,_,_,_,_,_,_,_,_] rfl rfl <| tp2 u73 i25 n hp (RepL.to (G' := i) (RepL.cons (k := (kSl 3 (nt .i64))) (x := l) ⟨_, rfl, d⟩ RepL.nil) (by simp)) rfl rfl rfl rfl rfl rfl rfl rfl rfl fun z B C b hp => hk fi (nq 3 rfl (nq 4 rfl ns)) <| ho 15 rfl Ag fun ky fj => tp [5, 1, 6, 0, 2, 3, 4] [_,_,_,_,_,_,_] rfl rfl <| tp2 u73 i25 h hp (RepL.to (G' := m) (RepL.cons (k := (kSl 3 (nt .i64))) (x := j) ⟨_, rfl, c⟩ RepL.nil) (by simp)) rfl rfl rfl rfl rfl rfl rfl rfl rfl fun q t u a hp => hk fj (nq 3 rfl (nq 4 rfl ns)) <| hv 16 rfl (nE rfl) Ag rfl <| hv 17 rfl (fa oC rfl) Ag rfl <| ho 18 rfl Ag fun kz fk => ts 2 m73 rfl rfl b.o1 rfl <| hk fk (nq 3 rfl (nq 4 rfl ns)) <| hv 19 rfl (nE rfl) Ag rfl <| hv 20 rfl (fa oD rfl) Ag rfl <| ho 21 rfl Ag fun kA fl => ts 2 m73 rfl rfl a.o1 rfl <| hk fl (nq 3 rfl (nq 4 rfl ns)) <| hz Ag <| jn [2, 3, 1, 4, 0] (o p b a hp)
           · exact tbs [(0, g)] [g] u73 i25 (by obtain ⟨_, _, rfl⟩ := (c).len; kernel_rfl) rfl rfl rfl rfl fun F => hk e9 (nq 3 rfl (nq 5 rfl ns)) <| ho 5 rfl Ag fun kB fm => tv (lb s73 2 rfl rfl rfl) rfl <| hk fm (nq 3 rfl (nq 5 rfl ns)) <| ho 8 rfl Ag fun kC fo => tp [4, 1, 7, 0, 2, 3, 5, 6, 8] [_,_,_,_,_,_,_,_,_] rfl rfl <| tp2 u73 i25 n hp (RepL.to (G' := i) (RepL.cons (k := (kSl 3 (nt .i64))) (x := l) ⟨_, rfl, d⟩ RepL.nil) (by simp)) rfl rfl rfl rfl rfl rfl rfl rfl rfl fun z B C b hp => hk fo (nq 3 rfl (nq 4 rfl ns)) <| ho 15 rfl Ag fun kD fp => tp [5, 1, 6, 0, 2, 3, 4] [_,_,_,_,_,_,_] rfl rfl <| tp2 u73 i25 h hp (RepL.to (G' := m) (RepL.cons (k := (kSl 3 (nt .i64))) (x := j) ⟨_, rfl, c⟩ RepL.nil) (by simp)) rfl rfl rfl rfl rfl rfl rfl rfl rfl fun q t u a hp => hk fp (nq 3 rfl (nq 4 rfl ns)) <| hv 16 rfl (nE rfl) Ag rfl <| hv 17 rfl (fa oC rfl) Ag rfl <| ho 18 rfl Ag fun kE fq => ts 2 m73 rfl rfl b.o1 rfl <| hk fq (nq 3 rfl (nq 4 rfl ns)) <| hv 19 rfl (nE rfl) Ag rfl <| hv 20 rfl (fa oD rfl) Ag rfl <| ho 21 rfl Ag fun kF fr => ts 2 m73 rfl rfl a.o1 rfl <| hk fr (nq 3 rfl (nq 4 rfl ns)) <| hz Ag <| jn [2, 3, 1, 4, 0] (o p b a hp)
         · refine tbs [(0, g)] [g] u73 i25 (by obtain ⟨_, _, rfl⟩ := (c).len; kernel_rfl) rfl rfl rfl rfl fun F => hk eA (nq 3 rfl (nq 5 rfl ns)) <| nT [5, 12] Ag (by simp) (nG ⟨_, rfl, fun kG fs => ?_⟩ (nG ⟨_, rfl, fun kH ft => ?_⟩ nU))
           · refine tv (lb s73 2 rfl rfl rfl) rfl <| hk fs (nq 3 rfl (nq 5 rfl ns)) <| nT [8, 12] Ag (by simp) (nG ⟨_, rfl, fun kI fu => ?_⟩ (nG ⟨_, rfl, fun kJ fv => ?_⟩ nU))
             · exact tp [4, 1, 7, 0, 2, 3, 5, 6, 8] [_,_,_,_,_,_,_,_,_] rfl rfl <| tp2 u73 i25 n hp (RepL.to (G' := i) (RepL.cons (k := (kSl 3 (nt .i64))) (x := l) ⟨_, rfl, d⟩ RepL.nil) (by simp)) rfl rfl rfl rfl rfl rfl rfl rfl rfl fun z B C b hp => hk fu (nq 3 rfl (nq 4 rfl ns)) <| ho 12 rfl Ag fun kK fw => tv (lb s73 2 rfl rfl rfl) rfl <| hk fw (nq 3 rfl (nq 4 rfl ns)) <| ho 15 rfl Ag fun kL fx => tp [5, 1, 6, 0, 2, 3, 4] [_,_,_,_,_,_,_] rfl rfl <| tp2 u73 i25 h hp (RepL.to (G' := m) (RepL.cons (k := (kSl 3 (nt .i64))) (x := j) ⟨_, rfl, c⟩ RepL.nil) (by simp)) rfl rfl rfl rfl rfl rfl rfl rfl rfl fun q t u a hp => hk fx (nq 3 rfl (nq 4 rfl ns)) <| hv 16 rfl (nE rfl) Ag rfl <| hv 17 rfl (fa oC rfl) Ag rfl <| ho 18 rfl Ag fun kM fy => ts 2 m73 rfl rfl b.o1 rfl <| hk fy (nq 3 rfl (nq 4 rfl ns)) <| hv 19 rfl (nE rfl) Ag rfl <| hv 20 rfl (fa oD rfl) Ag rfl <| ho 21 rfl Ag fun kN fz => ts 2 m73 rfl rfl a.o1 rfl <| hk fz (nq 3 rfl (nq 4 rfl ns)) <| hz Ag <| jn [2, 3, 1, 4, 0] (o p b a hp)
             · exact tv (lb s73 2 rfl rfl rfl) rfl <| hk fv (nq 3 rfl (nq 5 rfl ns)) <| ho 8 rfl Ag fun kO fA => tp [4, 1, 7, 0, 2, 3, 5, 6, 8] [_,_,_,_,_,_,_,_,_] rfl rfl <| tp2 u73 i25 n hp (RepL.to (G' := i) (RepL.cons (k := (kSl 3 (nt .i64))) (x := l) ⟨_, rfl, d⟩ RepL.nil) (by simp)) rfl rfl rfl rfl rfl rfl rfl rfl rfl fun z B C b hp => hk fA (nq 3 rfl (nq 4 rfl ns)) <| ho 15 rfl Ag fun kP fB => tp [5, 1, 6, 0, 2, 3, 4] [_,_,_,_,_,_,_] rfl rfl <| tp2 u73 i25 h hp (RepL.to (G' := m) (RepL.cons (k := (kSl 3 (nt .i64))) (x := j) ⟨_, rfl, c⟩ RepL.nil) (by simp)) rfl rfl rfl rfl rfl rfl rfl rfl rfl fun q t u a hp => hk fB (nq 3 rfl (nq 4 rfl ns)) <| hv 16 rfl (nE rfl) Ag rfl <| hv 17 rfl (fa oC rfl) Ag rfl <| ho 18 rfl Ag fun kQ fC => ts 2 m73 rfl rfl b.o1 rfl <| hk fC (nq 3 rfl (nq 4 rfl ns)) <| hv 19 rfl (nE rfl) Ag rfl <| hv 20 rfl (fa oD rfl) Ag rfl <| ho 21 rfl Ag fun kR fD => ts 2 m73 rfl rfl a.o1 rfl <| hk fD (nq 3 rfl (nq 4 rfl ns)) <| hz Ag <| jn [2, 3, 1, 4, 0] (o p b a hp)
           · exact tv (lb s73 2 rfl rfl rfl) rfl <| hk ft (nq 3 rfl (nq 5 rfl ns)) <| ho 5 rfl Ag fun kS fE => tv (lb s73 2 rfl rfl rfl) rfl <| hk fE (nq 3 rfl (nq 5 rfl ns)) <| ho 8 rfl Ag fun kT fF => tp [4, 1, 7, 0, 2, 3, 5, 6, 8] [_,_,_,_,_,_,_,_,_] rfl rfl <| tp2 u73 i25 n hp (RepL.to (G' := i) (RepL.cons (k := (kSl 3 (nt .i64))) (x := l) ⟨_, rfl, d⟩ RepL.nil) (by simp)) rfl rfl rfl rfl rfl rfl rfl rfl rfl fun z B C b hp => hk fF (nq 3 rfl (nq 4 rfl ns)) <| ho 15 rfl Ag fun kU fG => tp [5, 1, 6, 0, 2, 3, 4] [_,_,_,_,_,_,_] rfl rfl <| tp2 u73 i25 h hp (RepL.to (G' := m) (RepL.cons (k := (kSl 3 (nt .i64))) (x := j) ⟨_, rfl, c⟩ RepL.nil) (by simp)) rfl rfl rfl rfl rfl rfl rfl rfl rfl fun q t u a hp => hk fG (nq 3 rfl (nq 4 rfl ns)) <| hv 16 rfl (nE rfl) Ag rfl <| hv 17 rfl (fa oC rfl) Ag rfl <| ho 18 rfl Ag fun kV fH => ts 2 m73 rfl rfl b.o1 rfl <| hk fH (nq 3 rfl (nq 4 rfl ns)) <| hv 19 rfl (nE rfl) Ag rfl <| hv 20 rfl (fa oD rfl) Ag rfl <| ho 21 rfl Ag fun kW fI => ts 2 m73 rfl rfl a.o1 rfl <| hk fI (nq 3 rfl (nq 4 rfl ns)) <| hz Ag <| jn [2, 3, 1, 4, 0] (o p b a hp)
       · refine tv (lb s73 0 rfl rfl rfl) rfl <| hk dm (nq 1 rfl (nq 3 rfl ns)) <| nT [5, 7, 14] Ag (by simp) (nG ⟨_, rfl, fun kX fJ => ?_⟩ (nG ⟨_, rfl, fun kY fK => ?_⟩ (nG ⟨_, rfl, fun kZ fL => ?_⟩ nU)))
         · refine tv (lb s73 0 rfl rfl rfl) rfl <| hk fJ (nq 1 rfl (nq 3 rfl ns)) <| nT [7, 14] Ag (by simp) (nG ⟨_, rfl, fun k0 fM => ?_⟩ (nG ⟨_, rfl, fun k1 fN => ?_⟩ nU))
           · refine tbs [(0, y)] [y] u73 i25 (by obtain ⟨_, _, rfl⟩ := (d).len; kernel_rfl) rfl rfl rfl rfl fun Q => hk fM (nq 2 rfl (nq 4 rfl ns)) <| nT [8, 14] Ag (by simp) (nG ⟨_, rfl, fun k2 fO => ?_⟩ (nG ⟨_, rfl, fun k3 fP => ?_⟩ nU))
             · exact tp [3, 0, 6, 1, 2, 4, 5, 7] [_,_,_,_,_,_,_,_] rfl rfl <| tp2 u73 i25 n hp (RepL.to (G' := i) (RepL.cons (k := (kSl 3 (nt .i64))) (x := l) ⟨_, rfl, d⟩ RepL.nil) (by simp)) rfl rfl rfl rfl rfl rfl rfl rfl rfl fun z B C b hp => hk fO (nq 2 rfl (nq 3 rfl ns)) <| ho 14 rfl Ag fun k4 fQ => tbs [(0, g)] [g] u73 i25 (by obtain ⟨_, _, rfl⟩ := (c).len; kernel_rfl) rfl rfl rfl rfl fun F => hk fQ (nq 3 rfl (nq 4 rfl ns)) <| ho 15 rfl Ag fun k5 fR => tp [5, 0, 6, 1, 2, 3, 4] [_,_,_,_,_,_,_] rfl rfl <| tp2 u73 i25 h hp (RepL.to (G' := m) (RepL.cons (k := (kSl 3 (nt .i64))) (x := j) ⟨_, rfl, c⟩ RepL.nil) (by simp)) rfl rfl rfl rfl rfl rfl rfl rfl rfl fun q t u a hp => hk fR (nq 3 rfl (nq 4 rfl ns)) <| hv 16 rfl (nE rfl) Ag rfl <| hv 17 rfl (fa oC rfl) Ag rfl <| ho 18 rfl Ag fun k6 fS => ts 2 m73 rfl rfl b.o1 rfl <| hk fS (nq 3 rfl (nq 4 rfl ns)) <| hv 19 rfl (nE rfl) Ag rfl <| hv 20 rfl (fa oD rfl) Ag rfl <| ho 21 rfl Ag fun k7 fT => ts 2 m73 rfl rfl a.o1 rfl <| hk fT (nq 3 rfl (nq 4 rfl ns)) <| hz Ag <| jn [2, 3, 1, 4, 0] (o p b a hp)
             · exact tbs [(0, g)] [g] u73 i25 (by obtain ⟨_, _, rfl⟩ := (c).len; kernel_rfl) rfl rfl rfl rfl fun F => hk fP (nq 3 rfl (nq 5 rfl ns)) <| ho 8 rfl Ag fun k8 fU => tp [4, 1, 7, 0, 2, 3, 5, 6, 8] [_,_,_,_,_,_,_,_,_] rfl rfl <| tp2 u73 i25 n hp (RepL.to (G' := i) (RepL.cons (k := (kSl 3 (nt .i64))) (x := l) ⟨_, rfl, d⟩ RepL.nil) (by simp)) rfl rfl rfl rfl rfl rfl rfl rfl rfl fun z B C b hp => hk fU (nq 3 rfl (nq 4 rfl ns)) <| ho 15 rfl Ag fun k9 fV => tp [5, 1, 6, 0, 2, 3, 4] [_,_,_,_,_,_,_] rfl rfl <| tp2 u73 i25 h hp (RepL.to (G' := m) (RepL.cons (k := (kSl 3 (nt .i64))) (x := j) ⟨_, rfl, c⟩ RepL.nil) (by simp)) rfl rfl rfl rfl rfl rfl rfl rfl rfl fun q t u a hp => hk fV (nq 3 rfl (nq 4 rfl ns)) <| hv 16 rfl (nE rfl) Ag rfl <| hv 17 rfl (fa oC rfl) Ag rfl <| ho 18 rfl Ag fun la fW => ts 2 m73 rfl rfl b.o1 rfl <| hk fW (nq 3 rfl (nq 4 rfl ns)) <| hv 19 rfl (nE rfl) Ag rfl <| hv 20 rfl (fa oD rfl) Ag rfl <| ho 21 rfl Ag fun lc fX => ts 2 m73 rfl rfl a.o1 rfl <| hk fX (nq 3 rfl (nq 4 rfl ns)) <| hz Ag <| jn [2, 3, 1, 4, 0] (o p b a hp)
           · exact tbs [(0, g)] [g] u73 i25 (by obtain ⟨_, _, rfl⟩ := (c).len; kernel_rfl) rfl rfl rfl rfl fun F => hk fN (nq 2 rfl (nq 4 rfl ns)) <| ho 7 rfl Ag fun ld fY => tbs [(0, y)] [y] u73 i25 (by obtain ⟨_, _, rfl⟩ := (d).len; kernel_rfl) rfl rfl rfl rfl fun Q => hk fY (nq 3 rfl (nq 5 rfl ns)) <| ho 8 rfl Ag fun le fZ => tp [4, 0, 7, 1, 2, 3, 5, 6, 8] [_,_,_,_,_,_,_,_,_] rfl rfl <| tp2 u73 i25 n hp (RepL.to (G' := i) (RepL.cons (k := (kSl 3 (nt .i64))) (x := l) ⟨_, rfl, d⟩ RepL.nil) (by simp)) rfl rfl rfl rfl rfl rfl rfl rfl rfl fun z B C b hp => hk fZ (nq 3 rfl (nq 4 rfl ns)) <| ho 15 rfl Ag fun lf f0 => tp [5, 1, 6, 0, 2, 3, 4] [_,_,_,_,_,_,_] rfl rfl <| tp2 u73 i25 h hp (RepL.to (G' := m) (RepL.cons (k := (kSl 3 (nt .i64))) (x := j) ⟨_, rfl, c⟩ RepL.nil) (by simp)) rfl rfl rfl rfl rfl rfl rfl rfl rfl fun q t u a hp => hk f0 (nq 3 rfl (nq 4 rfl ns)) <| hv 16 rfl (nE rfl) Ag rfl <| hv 17 rfl (fa oC rfl) Ag rfl <| ho 18 rfl Ag fun lg f1 => ts 2 m73 rfl rfl b.o1 rfl <| hk f1 (nq 3 rfl (nq 4 rfl ns)) <| hv 19 rfl (nE rfl) Ag rfl <| hv 20 rfl (fa oD rfl) Ag rfl <| ho 21 rfl Ag fun lh f2 => ts 2 m73 rfl rfl a.o1 rfl <| hk f2 (nq 3 rfl (nq 4 rfl ns)) <| hz Ag <| jn [2, 3, 1, 4, 0] (o p b a hp)
         · refine tbs [(0, y)] [y] u73 i25 (by obtain ⟨_, _, rfl⟩ := (d).len; kernel_rfl) rfl rfl rfl rfl fun Q => hk fK (nq 2 rfl (nq 4 rfl ns)) <| nT [5, 14] Ag (by simp) (nG ⟨_, rfl, fun li f3 => ?_⟩ (nG ⟨_, rfl, fun lj f4 => ?_⟩ nU))
           · refine tv (lb s73 1 rfl rfl rfl) rfl <| hk f3 (nq 2 rfl (nq 4 rfl ns)) <| nT [8, 14] Ag (by simp) (nG ⟨_, rfl, fun lk f5 => ?_⟩ (nG ⟨_, rfl, fun ll f6 => ?_⟩ nU))
             · exact tp [3, 0, 6, 1, 2, 4, 5, 7] [_,_,_,_,_,_,_,_] rfl rfl <| tp2 u73 i25 n hp (RepL.to (G' := i) (RepL.cons (k := (kSl 3 (nt .i64))) (x := l) ⟨_, rfl, d⟩ RepL.nil) (by simp)) rfl rfl rfl rfl rfl rfl rfl rfl rfl fun z B C b hp => hk f5 (nq 2 rfl (nq 3 rfl ns)) <| ho 14 rfl Ag fun lm f7 => tbs [(0, g)] [g] u73 i25 (by obtain ⟨_, _, rfl⟩ := (c).len; kernel_rfl) rfl rfl rfl rfl fun F => hk f7 (nq 3 rfl (nq 4 rfl ns)) <| ho 15 rfl Ag fun lo f8 => tp [5, 0, 6, 1, 2, 3, 4] [_,_,_,_,_,_,_] rfl rfl <| tp2 u73 i25 h hp (RepL.to (G' := m) (RepL.cons (k := (kSl 3 (nt .i64))) (x := j) ⟨_, rfl, c⟩ RepL.nil) (by simp)) rfl rfl rfl rfl rfl rfl rfl rfl rfl fun q t u a hp => hk f8 (nq 3 rfl (nq 4 rfl ns)) <| hv 16 rfl (nE rfl) Ag rfl <| hv 17 rfl (fa oC rfl) Ag rfl <| ho 18 rfl Ag fun lq f9 => ts 2 m73 rfl rfl b.o1 rfl <| hk f9 (nq 3 rfl (nq 4 rfl ns)) <| hv 19 rfl (nE rfl) Ag rfl <| hv 20 rfl (fa oD rfl) Ag rfl <| ho 21 rfl Ag fun ls ga => ts 2 m73 rfl rfl a.o1 rfl <| hk ga (nq 3 rfl (nq 4 rfl ns)) <| hz Ag <| jn [2, 3, 1, 4, 0] (o p b a hp)
             · exact tbs [(0, g)] [g] u73 i25 (by obtain ⟨_, _, rfl⟩ := (c).len; kernel_rfl) rfl rfl rfl rfl fun F => hk f6 (nq 3 rfl (nq 5 rfl ns)) <| ho 8 rfl Ag fun lt gb => tp [4, 1, 7, 0, 2, 3, 5, 6, 8] [_,_,_,_,_,_,_,_,_] rfl rfl <| tp2 u73 i25 n hp (RepL.to (G' := i) (RepL.cons (k := (kSl 3 (nt .i64))) (x := l) ⟨_, rfl, d⟩ RepL.nil) (by simp)) rfl rfl rfl rfl rfl rfl rfl rfl rfl fun z B C b hp => hk gb (nq 3 rfl (nq 4 rfl ns)) <| ho 15 rfl Ag fun lu gc => tp [5, 1, 6, 0, 2, 3, 4] [_,_,_,_,_,_,_] rfl rfl <| tp2 u73 i25 h hp (RepL.to (G' := m) (RepL.cons (k := (kSl 3 (nt .i64))) (x := j) ⟨_, rfl, c⟩ RepL.nil) (by simp)) rfl rfl rfl rfl rfl rfl rfl rfl rfl fun q t u a hp => hk gc (nq 3 rfl (nq 4 rfl ns)) <| hv 16 rfl (nE rfl) Ag rfl <| hv 17 rfl (fa oC rfl) Ag rfl <| ho 18 rfl Ag fun lv gd => ts 2 m73 rfl rfl b.o1 rfl <| hk gd (nq 3 rfl (nq 4 rfl ns)) <| hv 19 rfl (nE rfl) Ag rfl <| hv 20 rfl (fa oD rfl) Ag rfl <| ho 21 rfl Ag fun lw ge => ts 2 m73 rfl rfl a.o1 rfl <| hk ge (nq 3 rfl (nq 4 rfl ns)) <| hz Ag <| jn [2, 3, 1, 4, 0] (o p b a hp)
           · exact tbs [(0, g)] [g] u73 i25 (by obtain ⟨_, _, rfl⟩ := (c).len; kernel_rfl) rfl rfl rfl rfl fun F => hk f4 (nq 3 rfl (nq 5 rfl ns)) <| ho 5 rfl Ag fun lx gf => tv (lb s73 2 rfl rfl rfl) rfl <| hk gf (nq 3 rfl (nq 5 rfl ns)) <| ho 8 rfl Ag fun ly gg => tp [4, 1, 7, 0, 2, 3, 5, 6, 8] [_,_,_,_,_,_,_,_,_] rfl rfl <| tp2 u73 i25 n hp (RepL.to (G' := i) (RepL.cons (k := (kSl 3 (nt .i64))) (x := l) ⟨_, rfl, d⟩ RepL.nil) (by simp)) rfl rfl rfl rfl rfl rfl rfl rfl rfl fun z B C b hp => hk gg (nq 3 rfl (nq 4 rfl ns)) <| ho 15 rfl Ag fun lz gh => tp [5, 1, 6, 0, 2, 3, 4] [_,_,_,_,_,_,_] rfl rfl <| tp2 u73 i25 h hp (RepL.to (G' := m) (RepL.cons (k := (kSl 3 (nt .i64))) (x := j) ⟨_, rfl, c⟩ RepL.nil) (by simp)) rfl rfl rfl rfl rfl rfl rfl rfl rfl fun q t u a hp => hk gh (nq 3 rfl (nq 4 rfl ns)) <| hv 16 rfl (nE rfl) Ag rfl <| hv 17 rfl (fa oC rfl) Ag rfl <| ho 18 rfl Ag fun lA gi => ts 2 m73 rfl rfl b.o1 rfl <| hk gi (nq 3 rfl (nq 4 rfl ns)) <| hv 19 rfl (nE rfl) Ag rfl <| hv 20 rfl (fa oD rfl) Ag rfl <| ho 21 rfl Ag fun lB gj => ts 2 m73 rfl rfl a.o1 rfl <| hk gj (nq 3 rfl (nq 4 rfl ns)) <| hz Ag <| jn [2, 3, 1, 4, 0] (o p b a hp)
         · refine tbs [(0, g)] [g] u73 i25 (by obtain ⟨_, _, rfl⟩ := (c).len; kernel_rfl) rfl rfl rfl rfl fun F => hk fL (nq 2 rfl (nq 4 rfl ns)) <| nT [5, 7] Ag (by simp) (nG ⟨_, rfl, fun lC gl => ?_⟩ (nG ⟨_, rfl, fun lD gm => ?_⟩ nU))
           · exact tv (lb s73 1 rfl rfl rfl) rfl <| hk gl (nq 2 rfl (nq 4 rfl ns)) <| ho 7 rfl Ag fun lE gn => tbs [(0, y)] [y] u73 i25 (by obtain ⟨_, _, rfl⟩ := (d).len; kernel_rfl) rfl rfl rfl rfl fun Q => hk gn (nq 3 rfl (nq 5 rfl ns)) <| ho 8 rfl Ag fun lF go => tp [4, 0, 7, 1, 2, 3, 5, 6, 8] [_,_,_,_,_,_,_,_,_] rfl rfl <| tp2 u73 i25 n hp (RepL.to (G' := i) (RepL.cons (k := (kSl 3 (nt .i64))) (x := l) ⟨_, rfl, d⟩ RepL.nil) (by simp)) rfl rfl rfl rfl rfl rfl rfl rfl rfl fun z B C b hp => hk go (nq 3 rfl (nq 4 rfl ns)) <| ho 15 rfl Ag fun lG gp => tp [5, 1, 6, 0, 2, 3, 4] [_,_,_,_,_,_,_] rfl rfl <| tp2 u73 i25 h hp (RepL.to (G' := m) (RepL.cons (k := (kSl 3 (nt .i64))) (x := j) ⟨_, rfl, c⟩ RepL.nil) (by simp)) rfl rfl rfl rfl rfl rfl rfl rfl rfl fun q t u a hp => hk gp (nq 3 rfl (nq 4 rfl ns)) <| hv 16 rfl (nE rfl) Ag rfl <| hv 17 rfl (fa oC rfl) Ag rfl <| ho 18 rfl Ag fun lH gq => ts 2 m73 rfl rfl b.o1 rfl <| hk gq (nq 3 rfl (nq 4 rfl ns)) <| hv 19 rfl (nE rfl) Ag rfl <| hv 20 rfl (fa oD rfl) Ag rfl <| ho 21 rfl Ag fun lI gr => ts 2 m73 rfl rfl a.o1 rfl <| hk gr (nq 3 rfl (nq 4 rfl ns)) <| hz Ag <| jn [2, 3, 1, 4, 0] (o p b a hp)
           · exact tbs [(0, y)] [y] u73 i25 (by obtain ⟨_, _, rfl⟩ := (d).len; kernel_rfl) rfl rfl rfl rfl fun Q => hk gm (nq 3 rfl (nq 5 rfl ns)) <| ho 5 rfl Ag fun lJ gs => tv (lb s73 2 rfl rfl rfl) rfl <| hk gs (nq 3 rfl (nq 5 rfl ns)) <| ho 8 rfl Ag fun lK gt => tp [4, 0, 7, 1, 2, 3, 5, 6, 8] [_,_,_,_,_,_,_,_,_] rfl rfl <| tp2 u73 i25 n hp (RepL.to (G' := i) (RepL.cons (k := (kSl 3 (nt .i64))) (x := l) ⟨_, rfl, d⟩ RepL.nil) (by simp)) rfl rfl rfl rfl rfl rfl rfl rfl rfl fun z B C b hp => hk gt (nq 3 rfl (nq 4 rfl ns)) <| ho 15 rfl Ag fun lL gu => tp [5, 1, 6, 0, 2, 3, 4] [_,_,_,_,_,_,_] rfl rfl <| tp2 u73 i25 h hp (RepL.to (G' := m) (RepL.cons (k := (kSl 3 (nt .i64))) (x := j) ⟨_, rfl, c⟩ RepL.nil) (by simp)) rfl rfl rfl rfl rfl rfl rfl rfl rfl fun q t u a hp => hk gu (nq 3 rfl (nq 4 rfl ns)) <| hv 16 rfl (nE rfl) Ag rfl <| hv 17 rfl (fa oC rfl) Ag rfl <| ho 18 rfl Ag fun lM gv => ts 2 m73 rfl rfl b.o1 rfl <| hk gv (nq 3 rfl (nq 4 rfl ns)) <| hv 19 rfl (nE rfl) Ag rfl <| hv 20 rfl (fa oD rfl) Ag rfl <| ho 21 rfl Ag fun lN gw => ts 2 m73 rfl rfl a.o1 rfl <| hk gw (nq 3 rfl (nq 4 rfl ns)) <| hz Ag <| jn [2, 3, 1, 4, 0] (o p b a hp)
       · refine tbs [(0, g)] [g] u73 i25 (by obtain ⟨_, _, rfl⟩ := (c).len; kernel_rfl) rfl rfl rfl rfl fun F => hk dn (nq 2 rfl (nq 4 rfl ns)) <| nT [5, 7, 12] Ag (by simp) (nG ⟨_, rfl, fun lO gx => ?_⟩ (nG ⟨_, rfl, fun lP gy => ?_⟩ (nG ⟨_, rfl, fun lQ gz => ?_⟩ nU)))
         · refine tv (lb s73 1 rfl rfl rfl) rfl <| hk gx (nq 2 rfl (nq 4 rfl ns)) <| nT [7, 12] Ag (by simp) (nG ⟨_, rfl, fun lS gA => ?_⟩ (nG ⟨_, rfl, fun lT gB => ?_⟩ nU))
           · refine tbs [(0, y)] [y] u73 i25 (by obtain ⟨_, _, rfl⟩ := (d).len; kernel_rfl) rfl rfl rfl rfl fun Q => hk gA (nq 3 rfl (nq 5 rfl ns)) <| nT [8, 12] Ag (by simp) (nG ⟨_, rfl, fun lU gC => ?_⟩ (nG ⟨_, rfl, fun lV gD => ?_⟩ nU))
             · exact tp [4, 0, 7, 1, 2, 3, 5, 6, 8] [_,_,_,_,_,_,_,_,_] rfl rfl <| tp2 u73 i25 n hp (RepL.to (G' := i) (RepL.cons (k := (kSl 3 (nt .i64))) (x := l) ⟨_, rfl, d⟩ RepL.nil) (by simp)) rfl rfl rfl rfl rfl rfl rfl rfl rfl fun z B C b hp => hk gC (nq 3 rfl (nq 4 rfl ns)) <| ho 12 rfl Ag fun lW gE => tv (lb s73 2 rfl rfl rfl) rfl <| hk gE (nq 3 rfl (nq 4 rfl ns)) <| ho 15 rfl Ag fun lX gF => tp [5, 1, 6, 0, 2, 3, 4] [_,_,_,_,_,_,_] rfl rfl <| tp2 u73 i25 h hp (RepL.to (G' := m) (RepL.cons (k := (kSl 3 (nt .i64))) (x := j) ⟨_, rfl, c⟩ RepL.nil) (by simp)) rfl rfl rfl rfl rfl rfl rfl rfl rfl fun q t u a hp => hk gF (nq 3 rfl (nq 4 rfl ns)) <| hv 16 rfl (nE rfl) Ag rfl <| hv 17 rfl (fa oC rfl) Ag rfl <| ho 18 rfl Ag fun lY gG => ts 2 m73 rfl rfl b.o1 rfl <| hk gG (nq 3 rfl (nq 4 rfl ns)) <| hv 19 rfl (nE rfl) Ag rfl <| hv 20 rfl (fa oD rfl) Ag rfl <| ho 21 rfl Ag fun lZ gH => ts 2 m73 rfl rfl a.o1 rfl <| hk gH (nq 3 rfl (nq 4 rfl ns)) <| hz Ag <| jn [2, 3, 1, 4, 0] (o p b a hp)
             · exact tv (lb s73 2 rfl rfl rfl) rfl <| hk gD (nq 3 rfl (nq 5 rfl ns)) <| ho 8 rfl Ag fun l0 gI => tp [4, 0, 7, 1, 2, 3, 5, 6, 8] [_,_,_,_,_,_,_,_,_] rfl rfl <| tp2 u73 i25 n hp (RepL.to (G' := i) (RepL.cons (k := (kSl 3 (nt .i64))) (x := l) ⟨_, rfl, d⟩ RepL.nil) (by simp)) rfl rfl rfl rfl rfl rfl rfl rfl rfl fun z B C b hp => hk gI (nq 3 rfl (nq 4 rfl ns)) <| ho 15 rfl Ag fun l1 gJ => tp [5, 1, 6, 0, 2, 3, 4] [_,_,_,_,_,_,_] rfl rfl <| tp2 u73 i25 h hp (RepL.to (G' := m) (RepL.cons (k := (kSl 3 (nt .i64))) (x := j) ⟨_, rfl, c⟩ RepL.nil) (by simp)) rfl rfl rfl rfl rfl rfl rfl rfl rfl fun q t u a hp => hk gJ (nq 3 rfl (nq 4 rfl ns)) <| hv 16 rfl (nE rfl) Ag rfl <| hv 17 rfl (fa oC rfl) Ag rfl <| ho 18 rfl Ag fun l2 gK => ts 2 m73 rfl rfl b.o1 rfl <| hk gK (nq 3 rfl (nq 4 rfl ns)) <| hv 19 rfl (nE rfl) Ag rfl <| hv 20 rfl (fa oD rfl) Ag rfl <| ho 21 rfl Ag fun l3 gL => ts 2 m73 rfl rfl a.o1 rfl <| hk gL (nq 3 rfl (nq 4 rfl ns)) <| hz Ag <| jn [2, 3, 1, 4, 0] (o p b a hp)
           · exact tv (lb s73 1 rfl rfl rfl) rfl <| hk gB (nq 2 rfl (nq 4 rfl ns)) <| ho 7 rfl Ag fun l4 gM => tbs [(0, y)] [y] u73 i25 (by obtain ⟨_, _, rfl⟩ := (d).len; kernel_rfl) rfl rfl rfl rfl fun Q => hk gM (nq 3 rfl (nq 5 rfl ns)) <| ho 8 rfl Ag fun l5 gN => tp [4, 0, 7, 1, 2, 3, 5, 6, 8] [_,_,_,_,_,_,_,_,_] rfl rfl <| tp2 u73 i25 n hp (RepL.to (G' := i) (RepL.cons (k := (kSl 3 (nt .i64))) (x := l) ⟨_, rfl, d⟩ RepL.nil) (by simp)) rfl rfl rfl rfl rfl rfl rfl rfl rfl fun z B C b hp => hk gN (nq 3 rfl (nq 4 rfl ns)) <| ho 15 rfl Ag fun l6 gO => tp [5, 1, 6, 0, 2, 3, 4] [_,_,_,_,_,_,_] rfl rfl <| tp2 u73 i25 h hp (RepL.to (G' := m) (RepL.cons (k := (kSl 3 (nt .i64))) (x := j) ⟨_, rfl, c⟩ RepL.nil) (by simp)) rfl rfl rfl rfl rfl rfl rfl rfl rfl fun q t u a hp => hk gO (nq 3 rfl (nq 4 rfl ns)) <| hv 16 rfl (nE rfl) Ag rfl <| hv 17 rfl (fa oC rfl) Ag rfl <| ho 18 rfl Ag fun l7 gP => ts 2 m73 rfl rfl b.o1 rfl <| hk gP (nq 3 rfl (nq 4 rfl ns)) <| hv 19 rfl (nE rfl) Ag rfl <| hv 20 rfl (fa oD rfl) Ag rfl <| ho 21 rfl Ag fun l8 gQ => ts 2 m73 rfl rfl a.o1 rfl <| hk gQ (nq 3 rfl (nq 4 rfl ns)) <| hz Ag <| jn [2, 3, 1, 4, 0] (o p b a hp)
         · refine tbs [(0, y)] [y] u73 i25 (by obtain ⟨_, _, rfl⟩ := (d).len; kernel_rfl) rfl rfl rfl rfl fun Q => hk gy (nq 3 rfl (nq 5 rfl ns)) <| nT [5, 12] Ag (by simp) (nG ⟨_, rfl, fun l9 gR => ?_⟩ (nG ⟨_, rfl, fun ma gS => ?_⟩ nU))
           · refine tv (lb s73 2 rfl rfl rfl) rfl <| hk gR (nq 3 rfl (nq 5 rfl ns)) <| nT [8, 12] Ag (by simp) (nG ⟨_, rfl, fun mb gT => ?_⟩ (nG ⟨_, rfl, fun mc gU => ?_⟩ nU))
             · exact tp [4, 0, 7, 1, 2, 3, 5, 6, 8] [_,_,_,_,_,_,_,_,_] rfl rfl <| tp2 u73 i25 n hp (RepL.to (G' := i) (RepL.cons (k := (kSl 3 (nt .i64))) (x := l) ⟨_, rfl, d⟩ RepL.nil) (by simp)) rfl rfl rfl rfl rfl rfl rfl rfl rfl fun z B C b hp => hk gT (nq 3 rfl (nq 4 rfl ns)) <| ho 12 rfl Ag fun md gV => tv (lb s73 2 rfl rfl rfl) rfl <| hk gV (nq 3 rfl (nq 4 rfl ns)) <| ho 15 rfl Ag fun me gW => tp [5, 1, 6, 0, 2, 3, 4] [_,_,_,_,_,_,_] rfl rfl <| tp2 u73 i25 h hp (RepL.to (G' := m) (RepL.cons (k := (kSl 3 (nt .i64))) (x := j) ⟨_, rfl, c⟩ RepL.nil) (by simp)) rfl rfl rfl rfl rfl rfl rfl rfl rfl fun q t u a hp => hk gW (nq 3 rfl (nq 4 rfl ns)) <| hv 16 rfl (nE rfl) Ag rfl <| hv 17 rfl (fa oC rfl) Ag rfl <| ho 18 rfl Ag fun mf gX => ts 2 m73 rfl rfl b.o1 rfl <| hk gX (nq 3 rfl (nq 4 rfl ns)) <| hv 19 rfl (nE rfl) Ag rfl <| hv 20 rfl (fa oD rfl) Ag rfl <| ho 21 rfl Ag fun mg gY => ts 2 m73 rfl rfl a.o1 rfl <| hk gY (nq 3 rfl (nq 4 rfl ns)) <| hz Ag <| jn [2, 3, 1, 4, 0] (o p b a hp)
             · exact tv (lb s73 2 rfl rfl rfl) rfl <| hk gU (nq 3 rfl (nq 5 rfl ns)) <| ho 8 rfl Ag fun mh gZ => tp [4, 0, 7, 1, 2, 3, 5, 6, 8] [_,_,_,_,_,_,_,_,_] rfl rfl <| tp2 u73 i25 n hp (RepL.to (G' := i) (RepL.cons (k := (kSl 3 (nt .i64))) (x := l) ⟨_, rfl, d⟩ RepL.nil) (by simp)) rfl rfl rfl rfl rfl rfl rfl rfl rfl fun z B C b hp => hk gZ (nq 3 rfl (nq 4 rfl ns)) <| ho 15 rfl Ag fun mi g0 => tp [5, 1, 6, 0, 2, 3, 4] [_,_,_,_,_,_,_] rfl rfl <| tp2 u73 i25 h hp (RepL.to (G' := m) (RepL.cons (k := (kSl 3 (nt .i64))) (x := j) ⟨_, rfl, c⟩ RepL.nil) (by simp)) rfl rfl rfl rfl rfl rfl rfl rfl rfl fun q t u a hp => hk g0 (nq 3 rfl (nq 4 rfl ns)) <| hv 16 rfl (nE rfl) Ag rfl <| hv 17 rfl (fa oC rfl) Ag rfl <| ho 18 rfl Ag fun mj g1 => ts 2 m73 rfl rfl b.o1 rfl <| hk g1 (nq 3 rfl (nq 4 rfl ns)) <| hv 19 rfl (nE rfl) Ag rfl <| hv 20 rfl (fa oD rfl) Ag rfl <| ho 21 rfl Ag fun mk g2 => ts 2 m73 rfl rfl a.o1 rfl <| hk g2 (nq 3 rfl (nq 4 rfl ns)) <| hz Ag <| jn [2, 3, 1, 4, 0] (o p b a hp)
           · exact tv (lb s73 2 rfl rfl rfl) rfl <| hk gS (nq 3 rfl (nq 5 rfl ns)) <| ho 5 rfl Ag fun ml g3 => tv (lb s73 2 rfl rfl rfl) rfl <| hk g3 (nq 3 rfl (nq 5 rfl ns)) <| ho 8 rfl Ag fun mm g4 => tp [4, 0, 7, 1, 2, 3, 5, 6, 8] [_,_,_,_,_,_,_,_,_] rfl rfl <| tp2 u73 i25 n hp (RepL.to (G' := i) (RepL.cons (k := (kSl 3 (nt .i64))) (x := l) ⟨_, rfl, d⟩ RepL.nil) (by simp)) rfl rfl rfl rfl rfl rfl rfl rfl rfl fun z B C b hp => hk g4 (nq 3 rfl (nq 4 rfl ns)) <| ho 15 rfl Ag fun mn g5 => tp [5, 1, 6, 0, 2, 3, 4] [_,_,_,_,_,_,_] rfl rfl <| tp2 u73 i25 h hp (RepL.to (G' := m) (RepL.cons (k := (kSl 3 (nt .i64))) (x := j) ⟨_, rfl, c⟩ RepL.nil) (by simp)) rfl rfl rfl rfl rfl rfl rfl rfl rfl fun q t u a hp => hk g5 (nq 3 rfl (nq 4 rfl ns)) <| hv 16 rfl (nE rfl) Ag rfl <| hv 17 rfl (fa oC rfl) Ag rfl <| ho 18 rfl Ag fun mo g6 => ts 2 m73 rfl rfl b.o1 rfl <| hk g6 (nq 3 rfl (nq 4 rfl ns)) <| hv 19 rfl (nE rfl) Ag rfl <| hv 20 rfl (fa oD rfl) Ag rfl <| ho 21 rfl Ag fun mp g7 => ts 2 m73 rfl rfl a.o1 rfl <| hk g7 (nq 3 rfl (nq 4 rfl ns)) <| hz Ag <| jn [2, 3, 1, 4, 0] (o p b a hp)
         · refine tv (lb s73 1 rfl rfl rfl) rfl <| hk gz (nq 2 rfl (nq 4 rfl ns)) <| nT [5, 7] Ag (by simp) (nG ⟨_, rfl, fun mq g8 => ?_⟩ (nG ⟨_, rfl, fun mr g9 => ?_⟩ nU))
           · exact tv (lb s73 1 rfl rfl rfl) rfl <| hk g8 (nq 2 rfl (nq 4 rfl ns)) <| ho 7 rfl Ag fun ms ha => tbs [(0, y)] [y] u73 i25 (by obtain ⟨_, _, rfl⟩ := (d).len; kernel_rfl) rfl rfl rfl rfl fun Q => hk ha (nq 3 rfl (nq 5 rfl ns)) <| ho 8 rfl Ag fun mt hb => tp [4, 0, 7, 1, 2, 3, 5, 6, 8] [_,_,_,_,_,_,_,_,_] rfl rfl <| tp2 u73 i25 n hp (RepL.to (G' := i) (RepL.cons (k := (kSl 3 (nt .i64))) (x := l) ⟨_, rfl, d⟩ RepL.nil) (by simp)) rfl rfl rfl rfl rfl rfl rfl rfl rfl fun z B C b hp => hk hb (nq 3 rfl (nq 4 rfl ns)) <| ho 15 rfl Ag fun mu hc => tp [5, 1, 6, 0, 2, 3, 4] [_,_,_,_,_,_,_] rfl rfl <| tp2 u73 i25 h hp (RepL.to (G' := m) (RepL.cons (k := (kSl 3 (nt .i64))) (x := j) ⟨_, rfl, c⟩ RepL.nil) (by simp)) rfl rfl rfl rfl rfl rfl rfl rfl rfl fun q t u a hp => hk hc (nq 3 rfl (nq 4 rfl ns)) <| hv 16 rfl (nE rfl) Ag rfl <| hv 17 rfl (fa oC rfl) Ag rfl <| ho 18 rfl Ag fun mw hd => ts 2 m73 rfl rfl b.o1 rfl <| hk hd (nq 3 rfl (nq 4 rfl ns)) <| hv 19 rfl (nE rfl) Ag rfl <| hv 20 rfl (fa oD rfl) Ag rfl <| ho 21 rfl Ag fun mx he => ts 2 m73 rfl rfl a.o1 rfl <| hk he (nq 3 rfl (nq 4 rfl ns)) <| hz Ag <| jn [2, 3, 1, 4, 0] (o p b a hp)
           · exact tbs [(0, y)] [y] u73 i25 (by obtain ⟨_, _, rfl⟩ := (d).len; kernel_rfl) rfl rfl rfl rfl fun Q => hk g9 (nq 3 rfl (nq 5 rfl ns)) <| ho 5 rfl Ag fun my hf => tv (lb s73 2 rfl rfl rfl) rfl <| hk hf (nq 3 rfl (nq 5 rfl ns)) <| ho 8 rfl Ag fun mz hg => tp [4, 0, 7, 1, 2, 3, 5, 6, 8] [_,_,_,_,_,_,_,_,_] rfl rfl <| tp2 u73 i25 n hp (RepL.to (G' := i) (RepL.cons (k := (kSl 3 (nt .i64))) (x := l) ⟨_, rfl, d⟩ RepL.nil) (by simp)) rfl rfl rfl rfl rfl rfl rfl rfl rfl fun z B C b hp => hk hg (nq 3 rfl (nq 4 rfl ns)) <| ho 15 rfl Ag fun mA hh => tp [5, 1, 6, 0, 2, 3, 4] [_,_,_,_,_,_,_] rfl rfl <| tp2 u73 i25 h hp (RepL.to (G' := m) (RepL.cons (k := (kSl 3 (nt .i64))) (x := j) ⟨_, rfl, c⟩ RepL.nil) (by simp)) rfl rfl rfl rfl rfl rfl rfl rfl rfl fun q t u a hp => hk hh (nq 3 rfl (nq 4 rfl ns)) <| hv 16 rfl (nE rfl) Ag rfl <| hv 17 rfl (fa oC rfl) Ag rfl <| ho 18 rfl Ag fun mB hi => ts 2 m73 rfl rfl b.o1 rfl <| hk hi (nq 3 rfl (nq 4 rfl ns)) <| hv 19 rfl (nE rfl) Ag rfl <| hv 20 rfl (fa oD rfl) Ag rfl <| ho 21 rfl Ag fun mC hj => ts 2 m73 rfl rfl a.o1 rfl <| hk hj (nq 3 rfl (nq 4 rfl ns)) <| hz Ag <| jn [2, 3, 1, 4, 0] (o p b a hp)
      refine W.new0 <| lp df [1, 2, 3, 4, 5, 7, 0] rfl (fun s e L => ∃ az aP aq bq br bs bt b6, s = (az, aP, aq) ∧ SlO 3 (nt .i64) az bq br ∧ SlO 3 (nt .i64) aP bs bt ∧ e = ovr b6 [(0, .pointer (some ⟨D, 0, none⟩)), (6, y), (7, bs), (53, G), (54, .int .i64 (len a2.f.blocks)), (55, .int .i64 S), (80, ap), (81, .int .i64 (len U.ins)), (82, .int .i64 aq)] ∧ L = [bx D 100 [.int .i64 a2.f.params, .int .i64 a2.f.result, v3, G, J, K, M, N, I, bq, ae, V, ag, O, P], br, af, T, ah, i, bt]) ⟨_, _, _, bm, bn, (.slice none 0 0), ([] : FP), _, rfl, da, (SlO.nil 3), nC _ _ rfl, rfl⟩ ?_
      rintro _ _ _ ⟨az, aP, aq, bq, br, bs, bt, b6, rfl, bu, bv, rfl, rfl⟩ b7 hp hl
      replace hp : n5.bd50 a2 X Y Z U az aP aq = some b7 := hp
      refine sr <| tv (blt rfl rfl) rfl <| nz <| nv fun mD hm => cD rfl hp (fun hn hp => ?_) fun hn hp => ?_
      · refine sk hm rfl <| nv fun hq hr => ?_
        have b8 {b9 ca bw bz bA bB hs} (ht : SlO 3 (nt .i64) b9 bw bz) (hu : SlO 3 (nt .i64) ca bA bB) (hp : n5.jn622 aq b9 ca = some b7) : ∀ w, St E H [bx D 100 [.int .i64 a2.f.params, .int .i64 a2.f.result, v3, G, J, K, M, N, I, bw, ae, V, ag, O, P], bz, af, T, ah, i, bB] w → hq (ovr hs [(0, .pointer (some ⟨D, 0, none⟩)), (6, y), (7, bA), (53, G), (54, .int .i64 (len a2.f.blocks)), (55, .int .i64 S), (80, ap), (81, .int .i64 (len U.ins)), (82, .int .i64 aq)]) w := by
         exact tg hr <| nF <| tv (bad rfl rfl) rfl <| tm rfl <| nl <| gk hp [0, 1, 2, 3, 4, 5, 6] ⟨_, _, _, bw, bz, bA, bB, _, rfl, ht, hu, nC _ _ rfl, rfl⟩
        refine nB <| sr <| ti u48 i52 bk hp rfl rfl rfl rfl ?_
        rintro ad mE mF _ hp ⟨cb, rfl, hw⟩ hx
        refine tv (lR (ds := [.int .i64 ad.op, .int .i64 ad.dst, cb, .int .i64 ad.imm, .int .i64 ad.fn]) o5 sH hx 0 rfl rfl rfl) rfl <| tl i52 rfl fun mG => tS 0 m52 rfl rfl [.int .i64 ad.op, .int .i64 ad.dst, cb, .int .i64 ad.imm, .int .i64 ad.fn] rfl (oc rfl (oc rfl (oc (hw).one (oc rfl (oc rfl oc0))))) rfl rfl <| nz <| sr <| tv (fa pd rfl) rfl <| tv (lb s3 0 rfl rfl rfl) rfl <| tv (blt rfl rfl) rfl <| nz <| cD rfl hp (fun hy hp => ?_) fun hy hp => ?_
        · exact nF <| tm rfl <| tbs [(0, .int .i64 (-1))] [.int .i64 (-1)] u25 i3 Ag rfl rfl rfl rfl fun mH => tp [8, 0, 1, 2, 3, 4, 5, 6, 7] [_,_,_,_,_,_,_,_,_] rfl rfl <| tf 2 0 [_,_,_,_,_,_,_,_,_,_] rfl <| tp2 u25 i3 bv hp (RepL.to (RepL.cons (k := (nt .i64)) (x := -1) ⟨rfl, rfl⟩ RepL.nil) rfl) rfl rfl rfl rfl rfl rfl rfl rfl rfl fun mI mJ mK hA hp => ta rfl <| nl <| jn [2, 3, 4, 5, 6, 7, 0] (b8 bu hA hp)
        · refine nF <| tm rfl <| tm rfl <| tv (fa pd rfl) rfl <| tv (lb s3 0 rfl rfl rfl) rfl <| tp [1, 2, 0, 3, 4, 5, 6, 7] [_,_,_,_,_,_,_,_] rfl rfl <| bE hp fun bC hy626 hp => tc 2 [_,_,_,_,_,_] rfl c70 (fun _ => se (a2 := (⟨(⟨a2.f.params, a2.f.result, a2.f.regs, a2.f.blocks⟩ : ny), a2.in_, a2.front, a2.nearest, a2.phis, a2.zeros, az, Y, X, Z, a2.begin, a2.end_⟩ : nS)) (a31 := ad.dst) (am.mono nw) (an.mono nw) (aD.mono nw) (aE.mono nw) (aF.mono nw) (ay.mono nw) (ao.mono nw) bu (n.ro.mono (subB 1 rfl)) (a3.ro.mono (subB 2 rfl)) (h.ro.mono (subB 3 rfl)) (aG.mono nw) (aH.mono nw) hy626) rfl ?_
          rintro _ _ ⟨mL, mM, rfl, rfl, hB⟩
          exact tbs [(0, .int .i64 bC.1)] [.int .i64 bC.1] u25 i3 Ag rfl rfl rfl rfl fun mN => tp [8, 0, 1, 2, 3, 4, 5, 6, 7] [_,_,_,_,_,_,_,_,_] rfl rfl <| tf 2 0 [_,_,_,_,_,_,_,_,_,_] rfl <| tp2 u25 i3 bv hp (RepL.to (RepL.cons (k := (nt .i64)) (x := bC.1) ⟨rfl, rfl⟩ RepL.nil) rfl) rfl rfl rfl rfl rfl rfl rfl rfl rfl fun mO mP mQ hC hp => ta rfl <| nl <| jn [1, 2, 4, 5, 6, 7, 0] (b8 hB hC hp)
      · exact nN <| jn [0, 1, 2, 3, 4, 5, 6] (dh bu bv (nK hp hl))
     refine W.new0 <| lp c6 [2, 3, 4, 5, 6, 1, 0] rfl (fun s e L => ∃ aA aQ aR bD bF bG bH cc, s = (aA, aQ, aR) ∧ SlO 3 (nt .i64) aA bD bF ∧ SlO 3 (nt .i64) aQ bG bH ∧ e = ovr cc [(0, .pointer (some ⟨D, 0, none⟩)), (5, .pointer (some ⟨aO, 0, none⟩)), (6, bG), (7, .slice none 0 0), (53, G), (54, .int .i64 (len a2.f.blocks)), (55, .int .i64 S), (66, c3), (67, .int .i64 (len b3)), (68, .int .i64 aR)] ∧ L = [bx D 100 [.int .i64 a2.f.params, .int .i64 a2.f.result, v3, G, J, K, M, N, I, bD, ae, V, ag, O, P], bF, af, T, ah, bx aO 50 [aM, ap, .int .i64 U.term.kind, .int .i64 U.term.arg, aN], bH]) ⟨_, _, _, aJ, aK, (.slice none 0 0), ([] : FP), _, rfl, bZ, (SlO.nil 3), nC _ _ rfl, rfl⟩ ?_
     rintro _ _ _ ⟨aA, aQ, aR, bD, bF, bG, bH, cc, rfl, cd, ce, rfl, rfl⟩ hD hp hE
     replace hp : n5.bd41 a2 X Y Z b3 aA aQ aR = some hD := hp
     refine sr <| tv (blt rfl rfl) rfl <| nz <| nv fun mR hF => cD rfl hp (fun hG hp => ?_) fun hG hp => ?_
     · refine sk hF rfl <| nv fun mS hH => nB <| sr <| ti u25 i3 b4 hp rfl rfl rfl rfl ?_
       rintro hI mT mU _ hp rfl hJ
       refine tv (lr s3 sH hJ 0 rfl rfl) rfl <| ta rfl <| nz <| nF <| tm rfl <| tm rfl <| tm rfl <| bE hp fun bI hy639 hp => tc 2 [_,_,_,_,_] rfl c70 (fun _ => se (a2 := (⟨(⟨a2.f.params, a2.f.result, a2.f.regs, a2.f.blocks⟩ : ny), a2.in_, a2.front, a2.nearest, a2.phis, a2.zeros, aA, Y, X, Z, a2.begin, a2.end_⟩ : nS)) (a31 := hI) (am.mono nw) (an.mono nw) (aD.mono nw) (aE.mono nw) (aF.mono nw) (ay.mono nw) (ao.mono nw) cd (n.ro.mono (subB 0 rfl)) (a3.ro.mono (subB 1 rfl)) (h.ro.mono (subB 2 rfl)) (aG.mono nw) (aH.mono nw) hy639) rfl ?_
       rintro _ _ ⟨hK, hL, rfl, rfl, hM⟩
       exact tbs [(0, .int .i64 bI.1)] [.int .i64 bI.1] u25 i3 Ag rfl rfl rfl rfl fun mV => tp [7, 0, 1, 2, 3, 4, 5, 6] [_,_,_,_,_,_,_,_] rfl rfl <| tf 2 0 [_,_,_,_,_,_,_,_,_] rfl <| tp2 u25 i3 ce hp (RepL.to (RepL.cons (k := (nt .i64)) (x := bI.1) ⟨rfl, rfl⟩ RepL.nil) rfl) rfl rfl rfl rfl rfl rfl rfl rfl rfl fun mW hN hO hP hp => ta rfl <| nl <| tg hH <| nF <| tv (bad rfl rfl) rfl <| tm rfl <| nl <| gk hp [1, 2, 3, 4, 5, 6, 0] ⟨_, _, _, hK, hL, hN, hO, _, rfl, hM, hP, nC _ _ rfl, rfl⟩
     · exact nN <| jn [0, 1, 2, 3, 4, 5, 6] (c8 cd ce (nK hp hE))
   · exact nN <| jn [0, 1, 2, 3, 4] (cJ bZ n h (nK hp cP))
  refine lp cx [0, 1, 2, 3, 4] rfl (fun s e L => ∃ ar au av bJ bK bL bM cf, s = (ar, au, av) ∧ SlO 3 (nt .i64) ar bJ bK ∧ SlO 3 (nt .i64) au bL bM ∧ e = ovr cf [(0, .pointer (some ⟨D, 0, none⟩)), (30, I), (31, .int .i64 (len a2.zeros)), (32, .int .i64 av)] ∧ L = [bx D 100 [.int .i64 a2.f.params, .int .i64 a2.f.result, v3, G, J, K, M, N, I, bJ, aj, bL, ak, O, P], bK, ab, bM, ac]) ⟨_, _, _, aW, aX, aC, ax, _, rfl, ct, cp, nC _ _ rfl, rfl⟩ ?_
  rintro _ _ _ ⟨ar, au, av, bJ, bK, bL, bM, cf, rfl, bN, aw, rfl, rfl⟩ cg hp hQ
  replace hp : n5.bd12 a2 ar au av = some cg := hp
  refine sr <| tv (blt rfl rfl) rfl <| nz <| nv fun mX hR => cD rfl hp (fun hS hp => ?_) fun hS hp => ?_
  · refine sk hR rfl <| nv fun hU hV => ?_
    have bO {ci cj bP bQ bR bS hW} (hX : SlO 3 (nt .i64) ci bP bQ) (hY : SlO 3 (nt .i64) cj bR bS) (hp : n5.jn654 av ci cj = some cg) : ∀ w, St E H [bx D 100 [.int .i64 a2.f.params, .int .i64 a2.f.result, v3, G, J, K, M, N, I, bP, aj, bR, ak, O, P], bQ, ab, bS, ac] w → hU (ovr hW [(0, .pointer (some ⟨D, 0, none⟩)), (30, I), (31, .int .i64 (len a2.zeros)), (32, .int .i64 av)]) w := by
     exact tg hV <| nF <| tv (bad rfl rfl) rfl <| tm rfl <| nl <| gk hp [0, 1, 2, 3, 4] ⟨_, _, _, bP, bQ, bR, bS, _, rfl, hX, hY, nC _ _ rfl, rfl⟩
    refine nB <| sr <| ti u25 i3 ao hp rfl rfl rfl rfl ?_
    rintro ck mY mZ _ hp rfl hZ
    refine tv (lr s3 sH hZ 0 rfl rfl) rfl <| ta rfl <| nz <| ch mix [ab, ac] (nq 2 rfl (nq 4 rfl ns)) <| hv 0 rfl mv Ag rfl <| hv 1 rfl mv Ag rfl <| hv 2 rfl (nE rfl) Ag rfl <| hv 3 rfl (fa qV rfl) Ag rfl <| hv 5 rfl mv Ag rfl <| hv 6 rfl mv Ag rfl <| nT [4, 7] Ag (by simp) (nG ⟨_, rfl, fun m0 h0 => ?_⟩ (nG ⟨_, rfl, fun m1 h1 => ?_⟩ nU))
    · refine tv (lb s25 0 rfl rfl rfl) rfl <| hk h0 (nq 2 rfl (nq 4 rfl ns)) <| ho 7 rfl Ag fun m2 h2 => bE hp fun aa hy660 hp => tc 2 [_,_,_] rfl c70 (fun _ => se (a2 := (⟨(⟨a2.f.params, a2.f.result, a2.f.regs, a2.f.blocks⟩ : ny), a2.in_, a2.front, a2.nearest, a2.phis, a2.zeros, ar, a2.phi, au, a2.dst, a2.begin, a2.end_⟩ : nS)) (a31 := ck) (am.mono nw) (an.mono nw) (aD.mono nw) (aE.mono nw) (aF.mono nw) (ay.mono nw) (ao.mono nw) bN (aU.ro.mono (subB 0 rfl)) (aw.ro.mono (subB 1 rfl)) (aV.ro.mono (subB 2 rfl)) (aG.mono nw) (aH.mono nw) hy660) rfl ?_
      rintro _ _ ⟨h3, h4, rfl, rfl, aS⟩
      exact hk h2 (nq 2 rfl (nq 4 rfl ns)) <| ho 8 rfl Ag fun m3 h5 => tbs [(0, .int .i64 aa.1)] [.int .i64 aa.1] u25 i3 Ag rfl rfl rfl rfl fun cl => hk h5 (nq 3 rfl (nq 5 rfl ns)) <| ho 9 rfl Ag fun m4 h6 => tp [4, 0, 1, 2, 3, 5] [_,_,_,_,_,_] rfl rfl <| tf 2 0 [_,_,_,_,_,_,_] rfl <| tp2 u25 i3 aw hp (RepL.to (RepL.cons (k := (nt .i64)) (x := aa.1) ⟨rfl, rfl⟩ RepL.nil) rfl) rfl rfl rfl rfl rfl rfl rfl rfl rfl fun cm cn co ai hp => hk h6 (nq 3 rfl (nq 4 rfl ns)) <| hv 10 rfl (nE rfl) Ag rfl <| hv 11 rfl (fa qV rfl) Ag rfl <| ho 12 rfl Ag fun m5 h7 => ts 1 m25 rfl rfl ai.o1 rfl <| hk h7 (nq 3 rfl (nq 4 rfl ns)) <| hz Ag <| jn [1, 2, 3, 0, 4] (bO aS ai hp)
    · refine bE hp fun aa hy671 hp => tc 2 [_,_,_] rfl c70 (fun _ => se (a2 := (⟨(⟨a2.f.params, a2.f.result, a2.f.regs, a2.f.blocks⟩ : ny), a2.in_, a2.front, a2.nearest, a2.phis, a2.zeros, ar, a2.phi, au, a2.dst, a2.begin, a2.end_⟩ : nS)) (a31 := ck) (am.mono nw) (an.mono nw) (aD.mono nw) (aE.mono nw) (aF.mono nw) (ay.mono nw) (ao.mono nw) bN (aU.ro.mono (subB 0 rfl)) (aw.ro.mono (subB 1 rfl)) (aV.ro.mono (subB 2 rfl)) (aG.mono nw) (aH.mono nw) hy671) rfl ?_
      rintro _ _ ⟨h3, h4, rfl, rfl, aS⟩
      refine hk h1 (nq 2 rfl (nq 4 rfl ns)) <| nT [4, 8] Ag (by simp) (nG ⟨_, rfl, fun m6 h8 => ?_⟩ (nG ⟨_, rfl, fun m7 h9 => ?_⟩ nU))
      · exact tv (lb s25 0 rfl rfl rfl) rfl <| hk h8 (nq 2 rfl (nq 4 rfl ns)) <| ho 8 rfl Ag fun m8 ia => tbs [(0, .int .i64 aa.1)] [.int .i64 aa.1] u25 i3 Ag rfl rfl rfl rfl fun cl => hk ia (nq 3 rfl (nq 5 rfl ns)) <| ho 9 rfl Ag fun m9 ib => tp [4, 0, 1, 2, 3, 5] [_,_,_,_,_,_] rfl rfl <| tf 2 0 [_,_,_,_,_,_,_] rfl <| tp2 u25 i3 aw hp (RepL.to (RepL.cons (k := (nt .i64)) (x := aa.1) ⟨rfl, rfl⟩ RepL.nil) rfl) rfl rfl rfl rfl rfl rfl rfl rfl rfl fun cm cn co ai hp => hk ib (nq 3 rfl (nq 4 rfl ns)) <| hv 10 rfl (nE rfl) Ag rfl <| hv 11 rfl (fa qV rfl) Ag rfl <| ho 12 rfl Ag fun na ic => ts 1 m25 rfl rfl ai.o1 rfl <| hk ic (nq 3 rfl (nq 4 rfl ns)) <| hz Ag <| jn [1, 2, 3, 0, 4] (bO aS ai hp)
      · exact tbs [(0, .int .i64 aa.1)] [.int .i64 aa.1] u25 i3 Ag rfl rfl rfl rfl fun cl => hk h9 (nq 3 rfl (nq 5 rfl ns)) <| ho 4 rfl Ag fun nb id => tv (lb s25 1 rfl rfl rfl) rfl <| hk id (nq 3 rfl (nq 5 rfl ns)) <| ho 9 rfl Ag fun nc ie => tp [4, 0, 1, 2, 3, 5] [_,_,_,_,_,_] rfl rfl <| tf 2 0 [_,_,_,_,_,_,_] rfl <| tp2 u25 i3 aw hp (RepL.to (RepL.cons (k := (nt .i64)) (x := aa.1) ⟨rfl, rfl⟩ RepL.nil) rfl) rfl rfl rfl rfl rfl rfl rfl rfl rfl fun cm cn co ai hp => hk ie (nq 3 rfl (nq 4 rfl ns)) <| hv 10 rfl (nE rfl) Ag rfl <| hv 11 rfl (fa qV rfl) Ag rfl <| ho 12 rfl Ag fun nd ig => ts 1 m25 rfl rfl ai.o1 rfl <| hk ig (nq 3 rfl (nq 4 rfl ns)) <| hz Ag <| jn [1, 2, 3, 0, 4] (bO aS ai hp)
  · exact nN <| jn [0, 1, 2, 3, 4] (cz bN aw (nK hp hQ))
 refine ch mix [aT, ab, ax, ac] (nq 1 rfl (nq 2 rfl (nq 3 rfl (nq 4 rfl ns)))) <| hv 0 rfl mv Ag rfl <| hv 1 rfl mv Ag rfl <| hv 2 rfl (nE rfl) Ag rfl <| hv 3 rfl (fa pD rfl) Ag rfl <| hv 4 rfl (fa o7 rfl) Ag rfl <| hv 6 rfl mv Ag rfl <| hv 7 rfl (nE rfl) Ag rfl <| hv 8 rfl (fa pD rfl) Ag rfl <| hv 9 rfl (fa po rfl) Ag rfl <| nT [5, 10] Ag (by simp) (nG ⟨_, rfl, fun ne ih => ?_⟩ (nG ⟨_, rfl, fun nf ii => ?_⟩ nU))
 · refine tv (lb s25 0 rfl rfl rfl) rfl <| hk ih (nq 1 rfl (nq 2 rfl (nq 3 rfl (nq 4 rfl ns)))) <| ho 10 rfl Ag fun ng ij => tv (lb s3 0 rfl rfl rfl) rfl <| hk ij (nq 1 rfl (nq 2 rfl (nq 3 rfl (nq 4 rfl ns)))) <| hT 11 rfl u25 i3 am hp rfl rfl rfl Ag rfl fun bT ik bU hp => ho 12 rfl Ag fun nh il => bE hp fun im hy700 hp => tc 0 [_,_,_,_,_] rfl c28 (fun _ => pQ (a1 := bT) (bU.mono nw) hy700) rfl ?_
   rintro _ _ ⟨io, ip, rfl, rfl, aB⟩
   exact hk il (nq 2 rfl (nq 3 rfl (nq 4 rfl (nq 5 rfl ns)))) <| hv 13 rfl (nE rfl) Ag rfl <| hv 14 rfl (fa qD rfl) Ag rfl <| ho 15 rfl Ag fun ni iq => ts 1 m25 rfl rfl aB.o1 rfl <| hk iq (nq 2 rfl (nq 3 rfl (nq 4 rfl (nq 5 rfl ns)))) <| hz Ag <| jn [1, 0, 3, 4, 5] (bW aB hp)
 · refine tv (lb s3 0 rfl rfl rfl) rfl <| hk ii (nq 1 rfl (nq 2 rfl (nq 3 rfl (nq 4 rfl ns)))) <| ho 5 rfl Ag fun nj ir => tv (lb s25 0 rfl rfl rfl) rfl <| hk ir (nq 1 rfl (nq 2 rfl (nq 3 rfl (nq 4 rfl ns)))) <| hT 11 rfl u25 i3 am hp rfl rfl rfl Ag rfl fun bT ik bU hp => ho 12 rfl Ag fun nk it => bE hp fun im hy711 hp => tc 0 [_,_,_,_,_] rfl c28 (fun _ => pQ (a1 := bT) (bU.mono nw) hy711) rfl ?_
   rintro _ _ ⟨io, ip, rfl, rfl, aB⟩
   exact hk it (nq 2 rfl (nq 3 rfl (nq 4 rfl (nq 5 rfl ns)))) <| hv 13 rfl (nE rfl) Ag rfl <| hv 14 rfl (fa qD rfl) Ag rfl <| ho 15 rfl Ag fun nm iu => ts 1 m25 rfl rfl aB.o1 rfl <| hk iu (nq 2 rfl (nq 3 rfl (nq 4 rfl (nq 5 rfl ns)))) <| hz Ag <| jn [1, 0, 3, 4, 5] (bW aB hp)
end
section
/-! ### (*fettle/ssa.builder).first -/
abbrev oV.R (r : List Int) (v : Value) (A : List FP) : Prop := ∃ (w1 : Value) (a : FP), w1 = v ∧ A = [a] ∧ SlO 3 (nt .i64) r w1 a
def oV.nx18  (a : List Int) : Option (List Int) :=
  some a
def oV.bd18 (a2 : nS) (b : List Int) (a : Int) : Option (Ex (List Int) (List Int × Int)) :=
  if a < (len a2.zeros) then
    (idx a2.zeros a).bind fun c =>
    (idx a2.zero_ a).bind fun d =>
    (idx b c).bind fun e =>
    some (.go ((b.set (c).toNat d), (w64 (a + 1))))
  else
    some (.ret b)
def oV.nx9 (a2 : nS) (a : List Int) : Option (List Int) :=
  (whl (fun (s : (List Int × Int)) => oV.bd18 a2 s.1 s.2) nD (a, 0)).bind fun z =>
  oV.nx18 z
def oV.jn40 (a : Int) (b : List Int) : Option (Ex (List Int) (List Int × Int)) :=
  some (.go (b, (w64 (a + 1))))
def oV.bd9 (a2 : nS) (c : List Int) (b : List Int) (a : Int) : Option (Ex (List Int) (List Int × Int)) :=
  if a < (len c) then
    (idx b a).bind fun d =>
    if a < a2.f.params then
      (idx (b.set (a).toNat (-1)) a).bind fun e =>
      oV.jn40 a ((b.set (a).toNat (-1)).set (a).toNat a)
    else
      oV.jn40 a (b.set (a).toNat (-1))
  else
    some (.ret b)
def oV (a2 : nS) : Option (List Int) :=
  (mkl (len a2.f.regs) (0 : Int)).bind fun a =>
  (whl (fun (s : (List Int × Int)) => oV.bd9 a2 a s.1 s.2) nD (a, 0)).bind fun z =>
  oV.nx9 a2 z
set_option maxHeartbeats 4000000 in
theorem xh {E : World} {H : FP} {w : World} {a2 : nS} {b : Nat} {c : Nat} {C : Value} {D : Value} {F : Value} {G : Value} {I : Value} {J : Value} {l : Value} {K : Value} {M : Value} {N : Value} {O : Value} {P : Value} {Q : Value} {r : List Int} (g : n7 H b c [.int .i64 a2.f.params, .int .i64 a2.f.result, C, D, F, G, I, J, l, K, M, N, O, P, Q]) (Z : SlI (nt .i64) H a2.f.regs C) (aR : SlI nY H a2.f.blocks D) (aS : SlI (kSl 4 kBool) H a2.in_ F) (aT : SlI (kSl 3 (nt .i64)) H a2.front G) (aU : SlI (nt .i64) H a2.nearest I) (aV : SlI (kSl 3 (nt .i64)) H a2.phis J) (S : SlI (nt .i64) H a2.zeros l) (aW : SlI (nt .i64) H a2.regs K) (aX : SlI (kSl 3 (nt .i64)) H a2.phi M) (aa : SlI (nt .i64) H a2.zero_ N) (aY : SlI (kSl 3 (nt .i64)) H a2.dst O) (aZ : SlI (kSl 3 (nt .i64)) H a2.begin P) (a0 : SlI (kSl 3 (nt .i64)) H a2.end_ Q) (hp : oV a2 = some r) (hst : St E H [] w) :
    Fn Try.prog 71 #[.pointer (some ⟨b, c, none⟩)] w fun v w' => ∃ A, oV.R r v A ∧ St E H A w' := by
 refine fb 56 [.tmp 2] Try.func71 rfl rfl rfl rfl rfl hst <| sr <| ta rfl <| nz <| sr <| tm rfl <| tv (nE rfl) rfl <| tv (fa pD rfl) rfl <| tv (fa o7 rfl) rfl <| tv (lr s25 sH g 2 rfl rfl) rfl <| tv (ln u25 Z rfl) rfl <| tk (k := (nt .i64)) u25 i3 hp ⟨rfl, rfl⟩ rfl rfl rfl rfl rfl rfl fun m a ab T hp => ta rfl <| nz <| nv fun ac ad => sr <| tm rfl <| tv (ln u25 T.ro rfl) rfl <| tm rfl <| nz <| nB <| bE hp fun ae af ag => ?_
 have ah {n o ai} (aj : SlO 3 (nt .i64) n a o) (ak : n = ae) : ∀ w, St E H [o] w → ac (ovr ai [(0, .pointer (some ⟨b, c, none⟩)), (3, a)]) w := by
  subst ak
  replace hp : oV.nx9 a2 n = some r := ag
  refine tg ad <| nv fun al am => sr <| tm rfl <| tv (nE rfl) rfl <| tv (fa r8 rfl) rfl <| tv (lr s25 sH g 8 rfl rfl) rfl <| tv (ln u25 S rfl) rfl <| tm rfl <| nz <| nB <| bE hp fun an ao ap => ?_
  have aq {p q ar} (au : SlO 3 (nt .i64) p a q) (av : p = an) : ∀ w, St E H [q] w → al (ovr ar [(3, a)]) w := by
   subst av
   replace hp : oV.nx18 p = some r := ap
   exact tg am <| sr <| tm rfl <| ta rfl <| nz <| nH <| rt hp [0] ⟨a, q, rfl, rfl, au⟩
  refine lp ao [0] rfl (fun s e L => ∃ h i t U, s = (h, i) ∧ SlO 3 (nt .i64) h a t ∧ e = ovr U [(0, .pointer (some ⟨b, c, none⟩)), (3, a), (37, l), (38, .int .i64 (len a2.zeros)), (39, .int .i64 i)] ∧ L = [t]) ⟨_, _, o, _, rfl, aj, nC _ _ rfl, rfl⟩ ?_
  rintro _ _ _ ⟨h, i, t, U, rfl, u, rfl, rfl⟩ aw hp ax
  replace hp : oV.bd18 a2 h i = some aw := hp
  refine sr <| tv (blt rfl rfl) rfl <| nz <| nv fun a1 ay => cD rfl hp (fun az hp => ?_) fun az hp => ?_
  · refine sk ay rfl <| nv fun a3 aA => nB <| sr <| tm rfl <| ti u25 i3 S hp rfl rfl rfl rfl ?_
    rintro a4 a5 a6 _ hp rfl aB
    refine tv (lr s3 sH aB 0 rfl rfl) rfl <| ta rfl <| ta rfl <| nz <| nF <| tm rfl <| tm rfl <| tm rfl <| tv (nE rfl) rfl <| tv (fa qV rfl) rfl <| tv (lr s25 sH g 11 rfl rfl) rfl <| tm rfl <| ti u25 i3 aa hp rfl rfl rfl rfl ?_
    rintro a7 a8 a9 _ hp rfl aC
    exact tv (lr s3 sH aC 0 rfl rfl) rfl <| tO u25 i3 u hp rfl rfl rfl rfl fun ba bb bc aD hp => tE u aD m3 rfl ⟨rfl, rfl⟩ w1 fun aE aF => nl <| tg aA <| nF <| tv (bad rfl rfl) rfl <| tm rfl <| nl <| gk hp [0] ⟨_, _, aE, _, rfl, aF, nC _ _ rfl, rfl⟩
  · exact nN <| jn [0] (aq u (nK hp ax))
 refine lp af [0] rfl (fun s e L => ∃ j d x V, s = (j, d) ∧ SlO 3 (nt .i64) j a x ∧ e = ovr V [(0, .pointer (some ⟨b, c, none⟩)), (3, a), (15, .int .i64 (len m)), (16, .int .i64 d)] ∧ L = [x]) ⟨_, _, ab, _, rfl, T, nC _ _ rfl, rfl⟩ ?_
 rintro _ _ _ ⟨j, d, x, V, rfl, y, rfl, rfl⟩ W hp aG
 replace hp : oV.bd9 a2 m j d = some W := hp
 refine sr <| tv (blt rfl rfl) rfl <| nz <| nv fun be aH => cD rfl hp (fun aI hp => ?_) fun aI hp => ?_
 · refine sk aH rfl <| nv fun aJ aK => ?_
   have X {Y z aL} (aM : SlO 3 (nt .i64) Y a z) (hp : oV.jn40 d Y = some W) : ∀ w, St E H [z] w → aJ (ovr aL [(0, .pointer (some ⟨b, c, none⟩)), (3, a), (15, .int .i64 (len m)), (16, .int .i64 d)]) w := by
    exact tg aK <| nF <| tv (bad rfl rfl) rfl <| tm rfl <| nl <| gk hp [0] ⟨_, _, z, _, rfl, aM, nC _ _ rfl, rfl⟩
   refine nB <| sr <| tm rfl <| ta rfl <| nz <| sr <| tm rfl <| tm rfl <| tO u25 i3 y hp rfl rfl rfl rfl fun bf bg bh aN hp => tE y aN m3 rfl ⟨rfl, rfl⟩ w1 fun bi B => nz <| sr <| tm rfl <| tm rfl <| tv (nE rfl) rfl <| tv (fa pD rfl) rfl <| tv (fa po rfl) rfl <| tv (lr s3 sH g 0 rfl rfl) rfl <| tv (blt rfl rfl) rfl <| nz <| cD rfl hp (fun aO hp => ?_) fun aO hp => ?_
   · exact nF <| tm rfl <| tm rfl <| tm rfl <| tO u25 i3 B hp rfl rfl rfl rfl fun bj bk bl aP hp => tE B aP m3 rfl ⟨rfl, rfl⟩ w1 fun bm aQ => nl <| jn [0] (X aQ hp)
   · exact TC.skip <| jn [0] (X B hp)
 · exact nN <| jn [0] (ah y (nK hp aG))
/-! ### (*fettle/ssa.builder).versions -/
abbrev oi.R (c : Nat) (a2 : nS) (v3 : Value) (d : Value) (e : Value) (g : Value) (h : Value) (i : Value) (j : Value) (k : Value) (l : Value) (m : Value) (n : Value) (r : List (List Int) × List (List Int)) (v : Value) (A : List FP) : Prop := ∃ (w1 : Value) (a : FP) (w2 : Value) (b : FP), .tuple #[] = v ∧ A = [bx c 100 [.int .i64 a2.f.params, .int .i64 a2.f.result, v3, d, e, g, h, i, j, k, l, m, n, w1, w2], a, b] ∧ SlO 25 (kSl 3 (nt .i64)) r.1 w1 a ∧ SlO 25 (kSl 3 (nt .i64)) r.2 w2 b
def oi.nx14  (a : List (List Int)) (b : List (List Int)) : Option (List (List Int) × List (List Int)) :=
  some (a, b)
def oi.nx55 (c : List (List Int)) (b : List (List Int)) (d : Int) (a : Int) (e : List Int) (f : List Int) : Option (Ex (List (List Int) × List (List Int)) (List (List Int) × List (List Int) × Int)) :=
  (idx b a).bind fun g =>
  some (.go ((c.set (a).toNat e), (b.set (a).toNat f), (w64 (d + 1))))
def oi.jn66 (a : Int) (b : List Int) : Option (Ex (List Int) (List Int × Int)) :=
  some (.go (b, (w64 (a + 1))))
def oi.bd55 (a2 : nS) (e : Int) (d : nA) (b : List Int) (a : Int) : Option (Ex (List Int) (List Int × Int)) :=
  if a < (len d.ins) then
    (idx d.ins a).bind fun c =>
    if c.dst ≥ 0 then
      (idx a2.dst e).bind fun f =>
      (idx f a).bind fun g =>
      (idx b c.dst).bind fun h =>
      oi.jn66 a (b.set (c.dst).toNat g)
    else
      oi.jn66 a b
  else
    some (.ret b)
def oi.nx36 (a2 : nS) (b : List (List Int)) (d : List (List Int)) (e : Int) (a : Int) (c : List Int) : Option (Ex (List (List Int) × List (List Int)) (List (List Int) × List (List Int) × Int)) :=
  (pJ c).bind fun g =>
  (idx b a).bind fun i =>
  (idx a2.f.blocks a).bind fun h =>
  (whl (fun (s : (List Int × Int)) => oi.bd55 a2 a h s.1 s.2) nD (c, 0)).bind fun z =>
  oi.nx55 b d e a g z
def oi.bd36 (a2 : nS) (e : Int) (c : List Int) (b : List Int) (a : Int) : Option (Ex (List Int) (List Int × Int)) :=
  if a < (len c) then
    (idx c a).bind fun d =>
    (idx a2.phi e).bind fun f =>
    (idx f a).bind fun g =>
    (idx b d).bind fun h =>
    some (.go ((b.set (d).toNat g), (w64 (a + 1))))
  else
    some (.ret b)
def oi.jn27 (a2 : nS) (b : List (List Int)) (c : List (List Int)) (d : Int) (a : Int) (e : List Int) : Option (Ex (List (List Int) × List (List Int)) (List (List Int) × List (List Int) × Int)) :=
  (idx a2.phis a).bind fun f =>
  (whl (fun (s : (List Int × Int)) => oi.bd36 a2 a f s.1 s.2) nD (e, 0)).bind fun z =>
  oi.nx36 a2 b c d a z
def oi.bd14 (a2 : nS) (e : List Int) (b : List (List Int)) (a : List (List Int)) (c : Int) : Option (Ex (List (List Int) × List (List Int)) (List (List Int) × List (List Int) × Int)) :=
  if c < (len e) then
    (idx e c).bind fun d =>
    if d = 0 then
      (oV (⟨(⟨a2.f.params, a2.f.result, a2.f.regs, a2.f.blocks⟩ : ny), a2.in_, a2.front, a2.nearest, a2.phis, a2.zeros, a2.regs, a2.phi, a2.zero_, a2.dst, b, a⟩ : nS)).bind fun g =>
      oi.jn27 a2 b a c d g
    else
      (idx a2.nearest d).bind fun h =>
      (idx a h).bind fun i =>
      (pJ i).bind fun j =>
      oi.jn27 a2 b a c d j
  else
    some (.ret (b, a))
def oi.jn4 (a2 : nS) (a : List (List Int)) (b : List (List Int)) : Option (List (List Int) × List (List Int)) :=
  (qw a2.f).bind fun c =>
  (whl (fun (s : (List (List Int) × List (List Int) × Int)) => oi.bd14 a2 c s.1 s.2.1 s.2.2) nD (a, b, 0)).bind fun z =>
  oi.nx14 z.1 z.2
def oi (a2 : nS) : Option (List (List Int) × List (List Int)) :=
  (mkl (len a2.f.blocks) ([] : List Int)).bind fun a =>
  (mkl (len a2.f.blocks) ([] : List Int)).bind fun b =>
  oi.jn4 a2 a b
set_option maxHeartbeats 4000000 in
theorem xi {E : World} {H : FP} {w : World} {a2 : nS} {b : Nat} {v3 : Value} {c : Value} {h : Value} {i : Value} {j : Value} {l : Value} {m : Value} {n : Value} {o : Value} {p : Value} {q : Value} {av : Value} {ab : FP} {aw : Value} {ac : FP} {r : List (List Int) × List (List Int)} (ax : SlI (nt .i64) H a2.f.regs v3) (Q : SlI nY H a2.f.blocks c) (a0 : SlI (kSl 4 kBool) H a2.in_ h) (a3 : SlI (kSl 3 (nt .i64)) H a2.front i) (ay : SlI (nt .i64) H a2.nearest j) (az : SlI (kSl 3 (nt .i64)) H a2.phis l) (a4 : SlI (nt .i64) H a2.zeros m) (a5 : SlI (nt .i64) H a2.regs n) (aA : SlI (kSl 3 (nt .i64)) H a2.phi o) (a6 : SlI (nt .i64) H a2.zero_ p) (aB : SlI (kSl 3 (nt .i64)) H a2.dst q) (cQ : SlO 25 (kSl 3 (nt .i64)) a2.begin av ab) (cR : SlO 25 (kSl 3 (nt .i64)) a2.end_ aw ac) (hp : oi a2 = some r) (hst : St E H [bx b 100 [.int .i64 a2.f.params, .int .i64 a2.f.result, v3, c, h, i, j, l, m, n, o, p, q, av, aw], ab, ac] w) :
    Fn Try.prog 45 #[.pointer (some ⟨b, 0, none⟩)] w fun v w' => ∃ A, oi.R b a2 v3 c h i j l m n o p q r v A ∧ St E H A w' := by
 refine fb 130 [] Try.func45 rfl rfl rfl rfl rfl hst <| sr <| tm rfl <| tv (nE rfl) rfl <| tv (fa pD rfl) rfl <| tv (fa oa rfl) rfl <| tv (lb s39 0 rfl rfl rfl) rfl <| tv (ln u39 Q rfl) rfl <| ta rfl <| nz <| nv fun a7 a8 => ?_
 have ad {aC aD d ae g af a9} (ba : SlO 25 (kSl 3 (nt .i64)) aC d ae) (bb : SlO 25 (kSl 3 (nt .i64)) aD g af) (hp : oi.jn4 a2 aC aD = some r) : ∀ w, St E H [bx b 100 [.int .i64 a2.f.params, .int .i64 a2.f.result, v3, c, h, i, j, l, m, n, o, p, q, d, g], ae, af] w → a7 (ovr a9 [(0, .pointer (some ⟨b, 0, none⟩))]) w := by
  refine tg a8 <| sr <| tm rfl <| tv (nE rfl) rfl <| tv (fa pD rfl) rfl <| tv (lA (ds := [.int .i64 a2.f.params, .int .i64 a2.f.result, v3, c]) n8 0 rfl rfl rfl rfl) rfl <| bE hp fun D hy5 hp => tc 0 [_,_,_] rfl c66 (fun _ => t4 (a1 := a2.f) (ax.mono nw) (Q.mono nw) hy5) rfl ?_
  rintro _ _ ⟨J, C, rfl, rfl, aE⟩
  refine tv (ln u25 aE.ro rfl) rfl <| tm rfl <| nz <| qf fun bc be => nB <| bE hp fun bf bg bh => ?_
  have bi {ag ah ai aj bj} (bk : SlO 25 (kSl 3 (nt .i64)) ag d ai) (bl : SlO 25 (kSl 3 (nt .i64)) ah g aj) (bm : (ag, ah) = bf) : ∀ w, St E H [bx b 100 [.int .i64 a2.f.params, .int .i64 a2.f.result, v3, c, h, i, j, l, m, n, o, p, q, d, g], ai, aj] w → bc (ovr bj []) w := by
   subst bm
   replace hp : oi.nx14 ag ah = some r := bh
   exact viaK be <| rt hp [0, 1, 2] ⟨d, ai, g, aj, rfl, rfl, bk, bl⟩
  refine lp bg [1, 2, 3, 0] rfl (fun s e L => ∃ F G x K y aF, s = (F, G, x) ∧ SlO 25 (kSl 3 (nt .i64)) F d K ∧ SlO 25 (kSl 3 (nt .i64)) G g y ∧ e = ovr aF [(0, .pointer (some ⟨b, 0, none⟩)), (30, J), (31, .int .i64 (len D)), (32, .int .i64 x)] ∧ L = [bx b 100 [.int .i64 a2.f.params, .int .i64 a2.f.result, v3, c, h, i, j, l, m, n, o, p, q, d, g], K, y, C]) ⟨_, _, _, ae, af, _, rfl, ba, bb, nC _ _ rfl, rfl⟩ ?_
  rintro _ _ _ ⟨F, G, x, K, y, aF, rfl, S, O, rfl, rfl⟩ T hp bn
  replace hp : oi.bd14 a2 D F G x = some T := hp
  refine sr <| tv (blt rfl rfl) rfl <| nz <| nv fun cS bo => cD rfl hp (fun bp hp => ?_) fun bp hp => ?_
  · refine sk bo rfl <| nv fun cT bq => nB <| sr <| ti u25 i3 (aE).ro hp rfl rfl rfl rfl ?_
    rintro B cU cV _ hp rfl br
    refine tv (lr s3 (Src.at_ 3 rfl) br 0 rfl rfl) rfl <| ta rfl <| nz <| sr <| ta rfl <| nz <| nv fun bs bt => ?_
    have aG {aH t ak bu} (bv : SlO 3 (nt .i64) aH t ak) (hp : oi.jn27 a2 F G x B aH = some T) : ∀ w, St E H [bx b 100 [.int .i64 a2.f.params, .int .i64 a2.f.result, v3, c, h, i, j, l, m, n, o, p, q, d, g], K, y, ak, C] w → bs (ovr bu [(0, .pointer (some ⟨b, 0, none⟩)), (4, .int .i64 B), (5, t), (30, J), (31, .int .i64 (len D)), (32, .int .i64 x)]) w := by
     refine tg bt <| nv fun bw bz => sr <| tm rfl <| tv (nE rfl) rfl <| tv (fa qU rfl) rfl <| tv (lb s73 0 rfl rfl rfl) rfl <| tm rfl <| ti u73 i25 az hp rfl rfl rfl rfl ?_
     rintro aI cW cX _ hp ⟨bA, rfl, aJ⟩ bB
     refine tv (lr s25 sH bB 0 rfl rfl) rfl <| tv (ln u25 aJ rfl) rfl <| tm rfl <| nz <| nB <| bE hp fun bC bD bF => ?_
     have bG {U V bH} (aK : SlO 3 (nt .i64) U t V) (bI : U = bC) : ∀ w, St E H [bx b 100 [.int .i64 a2.f.params, .int .i64 a2.f.result, v3, c, h, i, j, l, m, n, o, p, q, d, g], K, y, V, C] w → bw (ovr bH [(0, .pointer (some ⟨b, 0, none⟩)), (4, .int .i64 B), (5, t), (30, J), (31, .int .i64 (len D)), (32, .int .i64 x)]) w := by
      subst bI
      replace hp : oi.nx36 a2 F G x B U = some T := bF
      refine tg bz <| nv fun cY bJ => ch mix [bx b 100 [.int .i64 a2.f.params, .int .i64 a2.f.result, v3, c, h, i, j, l, m, n, o, p, q, d, g], y, V, C] (nq 0 rfl (nq 2 rfl (nq 3 rfl (nq 4 rfl ns)))) <| hv 0 rfl mv Ag rfl <| hv 1 rfl (nE rfl) Ag rfl <| hv 2 rfl (fa r9 rfl) Ag rfl <| hv 3 rfl (lbG s73 0 rfl rfl rfl) Ag rfl <| hv 4 rfl mv Ag rfl <| hv 5 rfl mv Ag rfl <| ho 6 rfl Ag fun cZ bK => bE hp fun aL hy42 hp => tc 0 [_,_,_,_,_] rfl c28 (fun _ => pQ (a1 := U) (aK.ro.mono (subB 3 rfl)) hy42) rfl ?_
      rintro _ _ ⟨aM, c0, rfl, rfl, aN⟩
      refine hk bK (nq 1 rfl (nq 3 rfl (nq 4 rfl (nq 5 rfl ns)))) <| hO 7 rfl u73 i25 S hp rfl rfl rfl Ag rfl fun c1 c2 c3 bL hp => ho 8 rfl Ag fun c4 bM => tp [2, 0, 1, 3, 4, 5] [_,_,_,_,_,_] rfl rfl <| TL.stE (ds := [aM]) (u := aM) (a := aL) S bL m25 rfl rfl (SlO.cells aN) ⟨_, rfl, aN⟩ fun P bN => hk bM (nq 1 rfl (nq 2 rfl (nq 3 rfl (nq 4 rfl ns)))) <| hz Ag <| tg bJ <| nv fun bO bP => sr <| tm rfl <| tv (nE rfl) rfl <| tv (fa pD rfl) rfl <| tv (fa oa rfl) rfl <| tv (lb s39 1 rfl rfl rfl) rfl <| tm rfl <| ti u39 i50 Q hp rfl rfl rfl rfl ?_
      rintro am c5 c6 _ hp ⟨c7, aO, c8, rfl, c9, aP, da⟩ bQ
      refine tv (fa oB rfl) rfl <| tv (lr s48 sH bQ 1 rfl rfl) rfl <| tv (ln u48 aP rfl) rfl <| tm rfl <| nz <| nB <| bE hp fun bR bS bT => ?_
      have bU {W aQ bV} (aR : SlO 3 (nt .i64) W t aQ) (bW : W = bR) : ∀ w, St E H [bx b 100 [.int .i64 a2.f.params, .int .i64 a2.f.result, v3, c, h, i, j, l, m, n, o, p, q, d, g], P, y, aQ, C] w → bO (ovr bV [(0, .pointer (some ⟨b, 0, none⟩)), (4, .int .i64 B), (5, t), (30, J), (31, .int .i64 (len D)), (32, .int .i64 x)]) w := by
       subst bW
       replace hp : oi.nx55 F G x B aL W = some T := bT
       exact tg bP <| nF <| tm rfl <| tv (nE rfl) rfl <| tv (fa qW rfl) rfl <| tv (lb s73 0 rfl rfl rfl) rfl <| tm rfl <| tm rfl <| tO u73 i25 O hp rfl rfl rfl rfl fun db dc dd bX hp => tp [2, 3, 0, 1, 4] [_,_,_,_,_] rfl rfl <| TL.stE (ds := [t]) (u := t) (a := W) O bX m25 rfl rfl (SlO.cells aR) ⟨_, rfl, aR⟩ fun bY bZ => nl <| tg bq <| nF <| tv (bad rfl rfl) rfl <| tm rfl <| nl <| gk hp [1, 2, 0, 3] ⟨_, _, _, P, bY, _, rfl, bN, bZ, nC _ _ rfl, rfl⟩
      refine lp bS [1, 0, 2, 3, 4] rfl (fun s e L => ∃ X N an aS, s = (X, N) ∧ SlO 3 (nt .i64) X t an ∧ e = ovr aS [(0, .pointer (some ⟨b, 0, none⟩)), (4, .int .i64 B), (5, t), (30, J), (31, .int .i64 (len D)), (32, .int .i64 x), (97, aO), (98, .int .i64 (len am.ins)), (99, .int .i64 N)] ∧ L = [bx b 100 [.int .i64 a2.f.params, .int .i64 a2.f.result, v3, c, h, i, j, l, m, n, o, p, q, d, g], P, y, an, C]) ⟨_, _, V, _, rfl, aK, nC _ _ rfl, rfl⟩ ?_
      rintro _ _ _ ⟨X, N, an, aS, rfl, Y, rfl, rfl⟩ aT hp b0
      replace hp : oi.bd55 a2 B am X N = some aT := hp
      refine sr <| tv (blt rfl rfl) rfl <| nz <| nv fun de b1 => cD rfl hp (fun b2 hp => ?_) fun b2 hp => ?_
      · refine sk b1 rfl <| nv fun b3 b4 => ?_
        have aU {aV ao b5} (b6 : SlO 3 (nt .i64) aV t ao) (hp : oi.jn66 N aV = some aT) : ∀ w, St E H [bx b 100 [.int .i64 a2.f.params, .int .i64 a2.f.result, v3, c, h, i, j, l, m, n, o, p, q, d, g], P, y, ao, C] w → b3 (ovr b5 [(0, .pointer (some ⟨b, 0, none⟩)), (4, .int .i64 B), (5, t), (30, J), (31, .int .i64 (len D)), (32, .int .i64 x), (97, aO), (98, .int .i64 (len am.ins)), (99, .int .i64 N)]) w := by
         exact tg b4 <| nF <| tv (bad rfl rfl) rfl <| tm rfl <| nl <| gk hp [0, 1, 2, 3, 4] ⟨_, _, ao, _, rfl, b6, nC _ _ rfl, rfl⟩
        refine nB <| sr <| tm rfl <| ti u48 i52 aP hp rfl rfl rfl rfl ?_
        rintro z df dg _ hp ⟨ap, rfl, b7⟩ b8
        refine tv (lR (ds := [.int .i64 z.op, .int .i64 z.dst, ap, .int .i64 z.imm, .int .i64 z.fn]) o5 sH b8 0 rfl rfl rfl) rfl <| tl i52 rfl fun b9 => ta rfl <| tS 0 m52 rfl rfl [.int .i64 z.op, .int .i64 z.dst, ap, .int .i64 z.imm, .int .i64 z.fn] rfl (oc rfl (oc rfl (oc (b7).one (oc rfl (oc rfl oc0))))) rfl rfl <| nz <| sr <| tv (fa pd rfl) rfl <| tv (lb s3 0 rfl rfl rfl) rfl <| tv (bge rfl rfl) rfl <| nz <| cD rfl hp (fun ca hp => ?_) fun ca hp => ?_
        · refine ch mix [bx b9 52 [.int .i64 z.op, .int .i64 z.dst, ap, .int .i64 z.imm, .int .i64 z.fn], bx b 100 [.int .i64 a2.f.params, .int .i64 a2.f.result, v3, c, h, i, j, l, m, n, o, p, q, d, g], P, y, C] (nq 0 rfl (nq 1 rfl (nq 2 rfl (nq 3 rfl (nq 5 rfl ns))))) <| hv 0 rfl mv Ag rfl <| hv 1 rfl (fa pd rfl) Ag rfl <| hv 2 rfl (lbG s3 0 rfl rfl rfl) Ag rfl <| hv 3 rfl mv Ag rfl <| hv 4 rfl (nE rfl) Ag rfl <| hv 5 rfl (fa oD rfl) Ag rfl <| hv 6 rfl (lbG s73 1 rfl rfl rfl) Ag rfl <| hv 7 rfl mv Ag rfl <| hi 8 rfl u73 i25 aB hp rfl rfl rfl Ag rfl ?_
          rintro dh di dj _ hp ⟨dk, rfl, cb⟩ cc
          refine hv 9 rfl (lr s25 srcInH cc 0 rfl rfl) Ag rfl <| hv 10 rfl mv Ag rfl <| hi 11 rfl u25 i3 cb hp rfl rfl rfl Ag rfl ?_
          rintro dl dm dn _ hp rfl cd
          exact hv 12 rfl (lr s3 srcInH cd 0 rfl rfl) Ag rfl <| hO 13 rfl u25 i3 Y hp rfl rfl rfl Ag rfl fun dp dq dr ce hp => ho 14 rfl Ag fun dt cf => tp [4, 0, 1, 2, 3, 5] [_,_,_,_,_,_] rfl rfl <| tE Y ce m3 rfl ⟨rfl, rfl⟩ w1 fun du cg => hk cf (nq 1 rfl (nq 2 rfl (nq 3 rfl (nq 4 rfl (nq 5 rfl ns))))) <| hz Ag <| jn [2, 3, 4, 0, 5] (aU cg hp)
        · exact TC.skip <| jn [1, 2, 3, 4, 5] (aU Y hp)
      · exact nN <| jn [0, 1, 2, 3, 4] (bU Y (nK hp b0))
     refine lp bD [0, 1, 2, 3, 4] rfl (fun s e L => ∃ Z aa aq aW, s = (Z, aa) ∧ SlO 3 (nt .i64) Z t aq ∧ e = ovr aW [(0, .pointer (some ⟨b, 0, none⟩)), (4, .int .i64 B), (5, t), (30, J), (31, .int .i64 (len D)), (32, .int .i64 x), (60, bA), (61, .int .i64 (len aI)), (62, .int .i64 aa)] ∧ L = [bx b 100 [.int .i64 a2.f.params, .int .i64 a2.f.result, v3, c, h, i, j, l, m, n, o, p, q, d, g], K, y, aq, C]) ⟨_, _, ak, _, rfl, bv, nC _ _ rfl, rfl⟩ ?_
     rintro _ _ _ ⟨Z, aa, aq, aW, rfl, ar, rfl, rfl⟩ ci hp cj
     replace hp : oi.bd36 a2 B aI Z aa = some ci := hp
     refine sr <| tv (blt rfl rfl) rfl <| nz <| nv fun dv ck => cD rfl hp (fun cl hp => ?_) fun cl hp => ?_
     · refine sk ck rfl <| nv fun dw cm => nB <| sr <| tm rfl <| ti u25 i3 aJ hp rfl rfl rfl rfl ?_
       rintro dx dy dz _ hp rfl cn
       refine tv (lr s3 sH cn 0 rfl rfl) rfl <| ta rfl <| ta rfl <| nz <| nF <| tm rfl <| tm rfl <| tm rfl <| tv (nE rfl) rfl <| tv (fa oC rfl) rfl <| tv (lb s73 0 rfl rfl rfl) rfl <| tm rfl <| ti u73 i25 aA hp rfl rfl rfl rfl ?_
       rintro dA dB dC _ hp ⟨dD, rfl, co⟩ cp
       refine tv (lr s25 sH cp 0 rfl rfl) rfl <| tm rfl <| ti u25 i3 co hp rfl rfl rfl rfl ?_
       rintro dE dF dG _ hp rfl cq
       exact tv (lr s3 sH cq 0 rfl rfl) rfl <| tO u25 i3 ar hp rfl rfl rfl rfl fun dH dI dJ cr hp => tp [3, 0, 1, 2, 4] [_,_,_,_,_] rfl rfl <| tE ar cr m3 rfl ⟨rfl, rfl⟩ w1 fun cs ct => nl <| tg cm <| nF <| tv (bad rfl rfl) rfl <| tm rfl <| nl <| gk hp [1, 2, 3, 0, 4] ⟨_, _, cs, _, rfl, ct, nC _ _ rfl, rfl⟩
     · exact nN <| jn [0, 1, 2, 3, 4] (bG ar (nK hp cj))
    refine sr <| tm rfl <| tv (beq rfl rfl) rfl <| nz <| cD rfl hp (fun cu hp => ?_) fun cu hp => ?_
    · refine nF <| tm rfl <| bE hp fun dK hy90 hp => tc 0 [_,_,_,_] rfl c71 (fun _ => xh (a2 := (⟨(⟨a2.f.params, a2.f.result, a2.f.regs, a2.f.blocks⟩ : ny), a2.in_, a2.front, a2.nearest, a2.phis, a2.zeros, a2.regs, a2.phi, a2.zero_, a2.dst, F, G⟩ : nS)) ((pi b 100 _).mono (subB 0 rfl)) (ax.mono nw) (Q.mono nw) (a0.mono nw) (a3.mono nw) (ay.mono nw) (az.mono nw) (a4.mono nw) (a5.mono nw) (aA.mono nw) (a6.mono nw) (aB.mono nw) (S.ro.mono (subB 1 rfl)) (O.ro.mono (subB 2 rfl)) hy90) rfl ?_
      rintro _ _ ⟨dL, dM, rfl, rfl, cv⟩
      exact ta rfl <| nl <| jn [1, 2, 3, 0, 4] (aG cv hp)
    · refine ch mix [bx b 100 [.int .i64 a2.f.params, .int .i64 a2.f.result, v3, c, h, i, j, l, m, n, o, p, q, d, g], K, y, C] (nq 0 rfl (nq 1 rfl (nq 2 rfl (nq 3 rfl ns)))) <| hv 0 rfl mv Ag rfl <| hv 1 rfl (nE rfl) Ag rfl <| hv 2 rfl (fa qW rfl) Ag rfl <| hv 3 rfl (lbG s73 0 rfl rfl rfl) Ag rfl <| hv 4 rfl mv Ag rfl <| hv 5 rfl (nE rfl) Ag rfl <| hv 6 rfl (fa wd rfl) Ag rfl <| hv 7 rfl (lbG s25 0 rfl rfl rfl) Ag rfl <| hv 8 rfl mv Ag rfl <| hi 9 rfl u25 i3 ay hp rfl rfl rfl Ag rfl ?_
      rintro dN dO dP _ hp rfl cw
      refine hv 10 rfl (lr s3 srcInH cw 0 rfl rfl) Ag rfl <| hi 11 rfl u73 i25 (O).ro hp rfl rfl rfl Ag rfl ?_
      rintro cx dQ dR _ hp ⟨dS, rfl, cy⟩ cz
      refine hv 12 rfl (lr s25 (srcInG 2 rfl) cz 0 rfl rfl) Ag rfl <| ho 13 rfl Ag fun dT cA => bE hp fun dU hy96 hp => tc 0 [_,_,_,_] rfl c28 (fun _ => pQ (a1 := cx) (cy.mono (subB 2 rfl)) hy96) rfl ?_
      rintro _ _ ⟨dV, dW, rfl, rfl, cB⟩
      exact hk cA (nq 1 rfl (nq 2 rfl (nq 3 rfl (nq 4 rfl ns)))) <| hv 14 rfl sg Ag rfl <| hz Ag <| jn [1, 2, 3, 0, 4] (aG cB hp)
  · exact nN <| jn [0, 1, 2] (bi S O (nK hp bn))
 refine bE hp fun dX aX hp => bE hp fun dY au hp => ch mix [ab, ac] (nq 1 rfl (nq 2 rfl ns)) <| hv 0 rfl mv Ag rfl <| hv 1 rfl mv Ag rfl <| hv 2 rfl mv Ag rfl <| hv 4 rfl mv Ag rfl <| nT [3, 5] Ag (by simp) (nG ⟨_, rfl, fun dZ cC => ?_⟩ (nG ⟨_, rfl, fun d0 cE => ?_⟩ nU))
 · refine tk0 (k := (kSl 3 (nt .i64))) u73 i25 aX ⟨_, rfl, SlO.nil 3⟩ rfl rfl rfl rfl rfl rfl fun cF cG M => hk cC (nq 2 rfl (nq 3 rfl ns)) <| hv 6 rfl (nE rfl) Ag rfl <| hv 7 rfl (fa r9 rfl) Ag rfl <| nT [5, 8] Ag (by simp) (nG ⟨_, rfl, fun d1 cH => ?_⟩ (nG ⟨_, rfl, fun d2 cI => ?_⟩ nU))
   · exact tk0 (k := (kSl 3 (nt .i64))) u73 i25 au ⟨_, rfl, SlO.nil 3⟩ rfl rfl rfl rfl rfl rfl fun aY aZ I => hk cH (nq 3 rfl (nq 4 rfl ns)) <| ho 8 rfl Ag fun d3 cJ => ts 2 m73 rfl rfl M.o1 rfl <| hk cJ (nq 3 rfl (nq 4 rfl ns)) <| hv 9 rfl (nE rfl) Ag rfl <| hv 10 rfl (fa qW rfl) Ag rfl <| ho 11 rfl Ag fun d4 cK => ts 2 m73 rfl rfl I.o1 rfl <| hk cK (nq 3 rfl (nq 4 rfl ns)) <| hz Ag <| jn [2, 1, 0] (ad M I hp)
   · exact ts 1 m73 rfl rfl M.o1 rfl <| hk cI (nq 2 rfl (nq 3 rfl ns)) <| ho 5 rfl Ag fun d5 cL => tk0 (k := (kSl 3 (nt .i64))) u73 i25 au ⟨_, rfl, SlO.nil 3⟩ rfl rfl rfl rfl rfl rfl fun aY aZ I => hk cL (nq 3 rfl (nq 4 rfl ns)) <| hv 9 rfl (nE rfl) Ag rfl <| hv 10 rfl (fa qW rfl) Ag rfl <| ho 11 rfl Ag fun d6 cM => ts 2 m73 rfl rfl I.o1 rfl <| hk cM (nq 3 rfl (nq 4 rfl ns)) <| hz Ag <| jn [2, 1, 0] (ad M I hp)
 · exact tk0 (k := (kSl 3 (nt .i64))) u73 i25 au ⟨_, rfl, SlO.nil 3⟩ rfl rfl rfl rfl rfl rfl fun aY aZ I => hk cE (nq 2 rfl (nq 3 rfl ns)) <| ho 3 rfl Ag fun d7 cN => tk0 (k := (kSl 3 (nt .i64))) u73 i25 aX ⟨_, rfl, SlO.nil 3⟩ rfl rfl rfl rfl rfl rfl fun cF cG M => hk cN (nq 3 rfl (nq 4 rfl ns)) <| hv 6 rfl (nE rfl) Ag rfl <| hv 7 rfl (fa r9 rfl) Ag rfl <| ho 8 rfl Ag fun d8 cO => ts 2 m73 rfl rfl M.o1 rfl <| hk cO (nq 3 rfl (nq 4 rfl ns)) <| hv 9 rfl (nE rfl) Ag rfl <| hv 10 rfl (fa qW rfl) Ag rfl <| ho 11 rfl Ag fun d9 cP => ts 2 m73 rfl rfl I.o1 rfl <| hk cP (nq 3 rfl (nq 4 rfl ns)) <| hz Ag <| jn [2, 0, 1] (ad M I hp)
end
section
/-! ### (*fettle/ssa.builder).block -/
abbrev nV.R (r : nA) (v : Value) (A : List FP) : Prop := ∃ (w1 : Value) (a : FP) (w2 : Value) (b : FP) (w3 : Value) (c : FP), .agg #[w1, w2, .int .i64 r.term.kind, .int .i64 r.term.arg, w3] = v ∧ A = [a, b, c] ∧ SlO 70 oS r.phis w1 a ∧ SlO 52 oN r.ins w2 b ∧ SlO 3 (nt .i64) r.term.to w3 c
def nV.jn40 (a : List PPhi) (b : List nL) (c : nA) (d : List Int) (e : Int) : Option nA :=
  some (⟨a, b, (⟨c.term.kind, e, d⟩ : PTerm)⟩ : nA)
def nV.nx26 (a2 : nS) (a31 : Int) (b : List PPhi) (c : List nL) (e : List Int) : Option nA :=
  (idx a2.f.blocks a31).bind fun a =>
  (pJ a.term.to).bind fun d =>
  if a.term.arg ≥ 0 then
    (idx e a.term.arg).bind fun g =>
    nV.jn40 b c a d g
  else
    nV.jn40 b c a d a.term.arg
def nV.jn71 (b : List nL) (c : Int) (a : nL) (d : Int) (e : List Int) (f : List Int) : Option (Ex (List nL × List Int) (List nL × List Int × Int)) :=
  (cat b [(⟨a.op, d, e, a.imm, a.fn⟩ : nL)]).bind fun g =>
  some (.go (g, f, (w64 (c + 1))))
def nV.nx66 (d : List nL) (b : List Int) (e : Int) (a : nL) (c : Int) (f : List Int) : Option (Ex (List nL × List Int) (List nL × List Int × Int)) :=
  if a.dst ≥ 0 then
    (idx b a.dst).bind fun g =>
    nV.jn71 d e a c f (b.set (a.dst).toNat c)
  else
    nV.jn71 d e a c f b
def nV.jn83 (a : Int) (b : List Int) : Option (Ex (List Int) (List Int × Int)) :=
  some (.go (b, (w64 (a + 1))))
def nV.bd66 (d : List Int) (b : nL) (c : List Int) (a : Int) : Option (Ex (List Int) (List Int × Int)) :=
  if a < (len b.args) then
    (idx b.args a).bind fun e =>
    (idx d e).bind fun f =>
    (cat c [f]).bind fun g =>
    nV.jn83 a g
  else
    some (.ret c)
def nV.bd26 (a2 : nS) (a31 : Int) (c : nA) (d : List nL) (b : List Int) (a : Int) : Option (Ex (List nL × List Int) (List nL × List Int × Int)) :=
  if a < (len c.ins) then
    (idx c.ins a).bind fun e =>
    (idx a2.dst a31).bind fun f =>
    (idx f a).bind fun g =>
    (whl (fun (s : (List Int × Int)) => nV.bd66 b e s.1 s.2) nD (([] : List Int), 0)).bind fun z =>
    nV.nx66 d b a e g z
  else
    some (.ret (d, b))
def nV.jn14 (a2 : nS) (a31 : Int) (a : List PPhi) (b : List nL) : Option nA :=
  (idx a2.begin a31).bind fun c =>
  (pJ c).bind fun d =>
  (idx a2.f.blocks a31).bind fun e =>
  (whl (fun (s : (List nL × List Int × Int)) => nV.bd26 a2 a31 e s.1 s.2.1 s.2.2) nD (b, d, 0)).bind fun z =>
  nV.nx26 a2 a31 a z.1 z.2
def nV.nx114 (a2 : nS) (a31 : Int) (a : List PPhi) (b : List nL) : Option nA :=
  nV.jn14 a2 a31 a b
def nV.bd114 (a2 : nS) (b : List nL) (a : Int) : Option (Ex (List nL) (List nL × Int)) :=
  if a < (len a2.zero_) then
    (idx a2.zero_ a).bind fun c =>
    (cat b [(⟨1, c, ([] : List Int), 0, 0⟩ : nL)]).bind fun d =>
    some (.go (d, (w64 (a + 1))))
  else
    some (.ret b)
def nV.nx9 (a2 : nS) (a31 : Int) (a : List PPhi) : Option nA :=
  if a31 = 0 then
    (whl (fun (s : (List nL × Int)) => nV.bd114 a2 s.1 s.2) nD (([] : List nL), 0)).bind fun z =>
    nV.nx114 a2 a31 a z
  else
    nV.jn14 a2 a31 a ([] : List nL)
def nV.nx144 (a : List PPhi) (b : Int) (c : Int) (d : List Int) : Option (Ex (List PPhi) (List PPhi × Int)) :=
  (cat a [(⟨c, d⟩ : PPhi)]).bind fun e =>
  some (.go (e, (w64 (b + 1))))
def nV.jn155 (a : Int) (b : List Int) : Option (Ex (List Int) (List Int × Int)) :=
  some (.go (b, (w64 (a + 1))))
def nV.bd144 (a2 : nS) (a32 : List Int) (c : Int) (b : List Int) (a : Int) : Option (Ex (List Int) (List Int × Int)) :=
  if a < (len a32) then
    (idx a32 a).bind fun d =>
    (idx a2.end_ d).bind fun e =>
    (idx e c).bind fun f =>
    (cat b [f]).bind fun g =>
    nV.jn155 a g
  else
    some (.ret b)
def nV.bd9 (a2 : nS) (a31 : Int) (a32 : List Int) (b : List Int) (c : List PPhi) (a : Int) : Option (Ex (List PPhi) (List PPhi × Int)) :=
  if a < (len b) then
    (idx b a).bind fun d =>
    (idx a2.phi a31).bind fun e =>
    (idx e a).bind fun f =>
    (whl (fun (s : (List Int × Int)) => nV.bd144 a2 a32 d s.1 s.2) nD (([] : List Int), 0)).bind fun z =>
    nV.nx144 c a f z
  else
    some (.ret c)
def nV (a2 : nS) (a31 : Int) (a32 : List Int) : Option nA :=
  (idx a2.phis a31).bind fun a =>
  (whl (fun (s : (List PPhi × Int)) => nV.bd9 a2 a31 a32 a s.1 s.2) nD (([] : List PPhi), 0)).bind fun z =>
  nV.nx9 a2 a31 z
set_option maxHeartbeats 4000000 in
theorem xj {E : World} {H : FP} {w : World} {a2 : nS} {a31 : Int} {a32 : List Int} {d : Nat} {g : Nat} {aS : Value} {aT : Value} {aU : Value} {aV : Value} {aW : Value} {aX : Value} {aY : Value} {aZ : Value} {a0 : Value} {au : Value} {a3 : Value} {a4 : Value} {a5 : Value} {o : Value} {r : nA} (y : n7 H d g [.int .i64 a2.f.params, .int .i64 a2.f.result, aS, aT, aU, aV, aW, aX, aY, aZ, a0, au, a3, a4, a5]) (ee : SlI (nt .i64) H a2.f.regs aS) (a6 : SlI nY H a2.f.blocks aT) (ef : SlI (kSl 4 kBool) H a2.in_ aU) (eg : SlI (kSl 3 (nt .i64)) H a2.front aV) (eh : SlI (nt .i64) H a2.nearest aW) (bJ : SlI (kSl 3 (nt .i64)) H a2.phis aX) (ei : SlI (nt .i64) H a2.zeros aY) (ej : SlI (nt .i64) H a2.regs aZ) (bK : SlI (kSl 3 (nt .i64)) H a2.phi a0) (a7 : SlI (nt .i64) H a2.zero_ au) (bL : SlI (kSl 3 (nt .i64)) H a2.dst a3) (bM : SlI (kSl 3 (nt .i64)) H a2.begin a4) (bN : SlI (kSl 3 (nt .i64)) H a2.end_ a5) (a8 : SlI (nt .i64) H a32 o) (hp : nV a2 a31 a32 = some r) (hst : St E H [] w) :
    Fn Try.prog 46 #[.pointer (some ⟨d, g, none⟩), .int .i64 a31, o] w fun v w' => ∃ A, nV.R r v A ∧ St E H A w' := by
 refine Fn.bodyV (fn := Try.f46) (args := [.pointer (some ⟨d, g, none⟩), .int .i64 a31, o]) E H [] 196 Try.func46 rfl rfl (leb rfl) hst <| sr <| tl i50 rfl fun b => nz <| sr <| tl i50 rfl fun c => nz <| nv fun bO bP => sr <| tm rfl <| tv (nE rfl) rfl <| tv (fa qU rfl) rfl <| tv (lr s73 sH y 7 rfl rfl) rfl <| tm rfl <| ti u73 i25 bJ hp rfl rfl rfl rfl ?_
 rintro X ek el _ hp ⟨ah, rfl, a9⟩ bQ
 refine tv (lr s25 sH bQ 0 rfl rfl) rfl <| tv (ln u25 a9 rfl) rfl <| tm rfl <| nz <| nB <| bE hp fun bR bS bT => ?_
 have bU {F h j bV} (ba : SlO 70 oS F h j) (bW : F = bR) : ∀ w, St E H [bx b 50 [.slice none 0 0, .slice none 0 0, .int .i64 0, .int .i64 0, .slice none 0 0], bx c 50 [h, .slice none 0 0, .int .i64 0, .int .i64 0, .slice none 0 0], j] w → bO (ovr bV [(0, .pointer (some ⟨d, g, none⟩)), (1, .int .i64 a31), (6, .pointer (some ⟨b, 0, none⟩)), (7, .pointer (some ⟨c, 0, none⟩))]) w := by
  subst bW
  replace hp : nV.nx9 a2 a31 F = some r := bT
  refine tg bP <| nv fun bb bX => ?_
  have bc {be av aw bY} (bZ : SlO 52 oN be av aw) (hp : nV.jn14 a2 a31 F be = some r) : ∀ w, St E H [bx b 50 [.slice none 0 0, .slice none 0 0, .int .i64 0, .int .i64 0, .slice none 0 0], bx c 50 [h, av, .int .i64 0, .int .i64 0, .slice none 0 0], j, aw] w → bb (ovr bY [(0, .pointer (some ⟨d, g, none⟩)), (1, .int .i64 a31), (6, .pointer (some ⟨b, 0, none⟩)), (7, .pointer (some ⟨c, 0, none⟩))]) w := by
   refine tg bX <| sr <| tm rfl <| tv (nE rfl) rfl <| tv (fa r9 rfl) rfl <| tv (lr s73 sH y 13 rfl rfl) rfl <| tm rfl <| ti u73 i25 bM hp rfl rfl rfl rfl ?_
   rintro b0 em en _ hp ⟨eo, rfl, b1⟩ b2
   refine tv (lr s25 sH b2 0 rfl rfl) rfl <| bE hp fun ep hy16 hp => tc 0 [_,_,_,_] rfl c28 (fun _ => pQ (a1 := b0) (b1.mono nw) hy16) rfl ?_
   rintro _ _ ⟨p, b3, rfl, rfl, b4⟩
   refine ta rfl <| nz <| nv fun b5 b6 => sr <| tm rfl <| tv (nE rfl) rfl <| tv (fa pD rfl) rfl <| tv (fa oa rfl) rfl <| tv (lr s39 sH y 3 rfl rfl) rfl <| tm rfl <| ti u39 i50 a6 hp rfl rfl rfl rfl ?_
   rintro K eq er _ hp ⟨es, Y, et, rfl, eu, bf, ev⟩ b7
   refine tv (fa oB rfl) rfl <| tv (lr s48 sH b7 1 rfl rfl) rfl <| tv (ln u48 bf rfl) rfl <| tm rfl <| nz <| nB <| bE hp fun b8 b9 ca => ?_
   have cb {ai ax M Z ay cc} (bg : SlO 52 oN ai M Z) (cd : SlO 3 (nt .i64) ax p ay) (ce : (ai, ax) = b8) : ∀ w, St E H [bx b 50 [.slice none 0 0, .slice none 0 0, .int .i64 0, .int .i64 0, .slice none 0 0], bx c 50 [h, M, .int .i64 0, .int .i64 0, .slice none 0 0], j, Z, ay] w → b5 (ovr cc [(0, .pointer (some ⟨d, g, none⟩)), (1, .int .i64 a31), (6, .pointer (some ⟨b, 0, none⟩)), (7, .pointer (some ⟨c, 0, none⟩)), (15, p)]) w := by
    subst ce
    replace hp : nV.nx26 a2 a31 F ai ax = some r := ca
    refine tg b6 <| sr <| tm rfl <| tv (nE rfl) rfl <| tv (fa pD rfl) rfl <| tv (fa oa rfl) rfl <| tv (lr s39 sH y 3 rfl rfl) rfl <| tm rfl <| ti u39 i50 a6 hp rfl rfl rfl rfl ?_
    rintro i ew ex _ hp ⟨ey, ez, az, rfl, eA, eB, bh⟩ cf
    refine tv (fa oQ rfl) rfl <| tv (lR (ds := [.int .i64 i.term.kind, .int .i64 i.term.arg, az]) qB sH cf 2 rfl rfl rfl) rfl <| tl i46 rfl fun cg => tS 0 m46 rfl rfl [.int .i64 i.term.kind, .int .i64 i.term.arg, az] rfl (oc rfl (oc rfl (oc (bh).one oc0))) rfl rfl <| nz <| nv fun eC ci => ch mix [bx cg 46 [.int .i64 i.term.kind, .int .i64 i.term.arg, az], bx b 50 [.slice none 0 0, .slice none 0 0, .int .i64 0, .int .i64 0, .slice none 0 0], j, Z, ay] (nq 0 rfl (nq 1 rfl (nq 3 rfl (nq 4 rfl (nq 5 rfl ns))))) <| hv 0 rfl (fa p6 rfl) Ag rfl <| hv 1 rfl (lbG s3 0 rfl rfl rfl) Ag rfl <| hv 2 rfl (fa pp rfl) Ag rfl <| hv 3 rfl (lbG s3 0 rfl rfl rfl) Ag rfl <| hv 4 rfl (fa o8 rfl) Ag rfl <| hv 5 rfl (lbG s25 0 rfl rfl rfl) Ag rfl <| ho 6 rfl Ag fun eD cj => bE hp fun ck hy33 hp => tc 0 [_,_,_,_,_,_] rfl c28 (fun _ => pQ (a1 := i.term.to) (bh.mono nw) hy33) rfl ?_
    rintro _ _ ⟨G, bi, rfl, rfl, aj⟩
    refine hk cj (nq 1 rfl (nq 2 rfl (nq 4 rfl (nq 5 rfl (nq 6 rfl ns))))) <| hv 7 rfl (n9 (vs := [(0, .int .i64 i.term.kind), (1, .int .i64 i.term.arg), (2, G)]) (ds := [.int .i64 i.term.kind, .int .i64 i.term.arg, G]) rfl (fun w => by obtain ⟨_, _, rfl⟩ := (aj).len; kernel_rfl)) Ag rfl <| hv 8 rfl (fa oQ rfl) Ag rfl <| ho 9 rfl Ag fun eE cl => tS 3 m46 rfl rfl [.int .i64 i.term.kind, .int .i64 i.term.arg, G] rfl (oc rfl (oc rfl (oc (aj).one oc0))) rfl rfl <| hk cl (nq 1 rfl (nq 2 rfl (nq 4 rfl (nq 5 rfl (nq 6 rfl ns))))) <| hz Ag <| tg ci <| nv fun cm cn => ?_
    have bj {ak co} (hp : nV.jn40 F ai i ck ak = some r) : ∀ w, St E H [bx b 50 [.slice none 0 0, .slice none 0 0, .int .i64 0, .int .i64 0, .slice none 0 0], bx c 50 [h, M, .int .i64 i.term.kind, .int .i64 ak, G], j, Z, bi] w → cm (ovr co [(6, .pointer (some ⟨b, 0, none⟩)), (7, .pointer (some ⟨c, 0, none⟩))]) w := by
     refine tg cn <| sr <| tv (lA (ds := [h, M, .int .i64 i.term.kind, .int .i64 ak, G]) oY 1 rfl rfl rfl rfl) rfl <| tS 0 m50 rfl rfl [h, M, .int .i64 i.term.kind, .int .i64 ak, G] rfl (oc (ba).one (oc (bg).one (oc rfl (oc rfl (oc (aj).one oc0))))) rfl rfl <| nz <| nH ?_
     obtain rfl := Option.some.inj hp
     exact fun w hw => retC1 hw rfl rfl oY 0 rfl rfl ⟨h, j, M, Z, G, bi, rfl, rfl, ba, bg, aj⟩ (hw.pickA [2, 3, 4] rfl)
    refine sr <| tv (fa pp rfl) rfl <| tv (lb s3 1 rfl rfl rfl) rfl <| tv (bge rfl rfl) rfl <| nz <| cD rfl hp (fun cp hp => ?_) fun cp hp => ?_
    · refine nF <| tm rfl <| tv (fa pp rfl) rfl <| tv (lb s3 1 rfl rfl rfl) rfl <| ti u25 i3 (cd).ro hp rfl rfl rfl rfl ?_
      rintro eF eG eH _ hp rfl cq
      exact tv (lr s3 (Src.at_ 6 rfl) cq 0 rfl rfl) rfl <| tv (fa oQ rfl) rfl <| tv (fa pp rfl) rfl <| ts 3 m3 rfl rfl w1 rfl <| nl <| jn [2, 3, 4, 5, 0] (bj hp)
    · exact TC.skip <| jn [2, 3, 4, 5, 0] (bj hp)
   refine lp b9 [1, 2, 3, 4, 0] rfl (fun s e L => ∃ N O n q t z bk, s = (N, O, n) ∧ SlO 52 oN N q t ∧ SlO 3 (nt .i64) O p z ∧ e = ovr bk [(0, .pointer (some ⟨d, g, none⟩)), (1, .int .i64 a31), (6, .pointer (some ⟨b, 0, none⟩)), (7, .pointer (some ⟨c, 0, none⟩)), (15, p), (110, Y), (111, .int .i64 (len K.ins)), (112, .int .i64 n)] ∧ L = [bx b 50 [.slice none 0 0, .slice none 0 0, .int .i64 0, .int .i64 0, .slice none 0 0], bx c 50 [h, q, .int .i64 0, .int .i64 0, .slice none 0 0], j, t, z]) ⟨_, _, _, av, aw, b3, _, rfl, bZ, b4, nC _ _ rfl, rfl⟩ ?_
   rintro _ _ _ ⟨N, O, n, q, t, z, bk, rfl, bl, aa, rfl, rfl⟩ aA hp cr
   replace hp : nV.bd26 a2 a31 K N O n = some aA := hp
   refine sr <| tv (blt rfl rfl) rfl <| nz <| nv fun eI cs => cD rfl hp (fun ct hp => ?_) fun ct hp => ?_
   · refine sk cs rfl <| nv fun eJ cu => nB <| sr <| tm rfl <| ti u48 i52 bf hp rfl rfl rfl rfl ?_
     rintro a eK eL _ hp ⟨u, rfl, aB⟩ cv
     refine tv (lR (ds := [.int .i64 a.op, .int .i64 a.dst, u, .int .i64 a.imm, .int .i64 a.fn]) o5 sH cv 0 rfl rfl rfl) rfl <| tl i52 rfl fun B => ta rfl <| tS 0 m52 rfl rfl [.int .i64 a.op, .int .i64 a.dst, u, .int .i64 a.imm, .int .i64 a.fn] rfl (oc rfl (oc rfl (oc (aB).one (oc rfl (oc rfl oc0))))) rfl rfl <| nz <| nv fun eM cw => ch mix [bx B 52 [.int .i64 a.op, .int .i64 a.dst, u, .int .i64 a.imm, .int .i64 a.fn], bx b 50 [.slice none 0 0, .slice none 0 0, .int .i64 0, .int .i64 0, .slice none 0 0], bx c 50 [h, q, .int .i64 0, .int .i64 0, .slice none 0 0], j, t, z] (nq 0 rfl (nq 1 rfl (nq 2 rfl (nq 3 rfl (nq 4 rfl (nq 5 rfl ns)))))) <| hv 0 rfl (fa qb rfl) Ag rfl <| hv 1 rfl (lbG s3 0 rfl rfl rfl) Ag rfl <| hv 2 rfl mv Ag rfl <| hv 3 rfl (nE rfl) Ag rfl <| hv 4 rfl (fa oD rfl) Ag rfl <| hv 5 rfl (lr s73 srcInH y 12 rfl rfl) Ag rfl <| hv 6 rfl mv Ag rfl <| hi 7 rfl u73 i25 bL hp rfl rfl rfl Ag rfl ?_
     rintro eN eO eP _ hp ⟨eQ, rfl, cx⟩ cy
     refine hv 8 rfl (lr s25 srcInH cy 0 rfl rfl) Ag rfl <| hv 9 rfl mv Ag rfl <| hi 10 rfl u25 i3 cx hp rfl rfl rfl Ag rfl ?_
     rintro l eR eS _ hp rfl cz
     refine hv 11 rfl (lr s3 srcInH cz 0 rfl rfl) Ag rfl <| hv 12 rfl (fa qK rfl) Ag rfl <| hv 13 rfl (lbG s2 0 rfl rfl rfl) Ag rfl <| hv 14 rfl (fa qC rfl) Ag rfl <| hv 15 rfl (lbG s3 0 rfl rfl rfl) Ag rfl <| hv 16 rfl (n9 (vs := [(0, .int .i64 a.op), (1, .int .i64 l), (3, .int .i64 a.imm), (4, .int .i64 a.fn)]) (ds := [.int .i64 a.op, .int .i64 l, .slice none 0 0, .int .i64 a.imm, .int .i64 a.fn]) rfl (fun w => by kernel_rfl)) Ag rfl <| ho 17 rfl Ag fun eT cA => tl i52 rfl fun C => hk cA (nq 1 rfl (nq 2 rfl (nq 3 rfl (nq 4 rfl (nq 5 rfl (nq 6 rfl ns)))))) <| ho 18 rfl Ag fun eU cB => tS 0 m52 rfl rfl [.int .i64 a.op, .int .i64 l, .slice none 0 0, .int .i64 a.imm, .int .i64 a.fn] rfl (oc rfl (oc rfl (oc rfl (oc rfl (oc rfl oc0))))) rfl rfl <| hk cB (nq 1 rfl (nq 2 rfl (nq 3 rfl (nq 4 rfl (nq 5 rfl (nq 6 rfl ns)))))) <| hz Ag <| tg cw <| nv fun cC cE => sr <| tv (fa o6 rfl) rfl <| tv (lb s25 1 rfl rfl rfl) rfl <| tv (ln u25 aB rfl) rfl <| tm rfl <| nz <| nB <| bE hp fun cF cG cH => ?_
     have cI {ab P am cJ} (cK : SlO 3 (nt .i64) ab P am) (cL : ab = cF) : ∀ w, St E H [bx b 50 [.slice none 0 0, .slice none 0 0, .int .i64 0, .int .i64 0, .slice none 0 0], bx c 50 [h, q, .int .i64 0, .int .i64 0, .slice none 0 0], j, t, z, bx B 52 [.int .i64 a.op, .int .i64 a.dst, u, .int .i64 a.imm, .int .i64 a.fn], bx C 52 [.int .i64 a.op, .int .i64 l, P, .int .i64 a.imm, .int .i64 a.fn], am] w → cC (ovr cJ [(0, .pointer (some ⟨d, g, none⟩)), (1, .int .i64 a31), (6, .pointer (some ⟨b, 0, none⟩)), (7, .pointer (some ⟨c, 0, none⟩)), (15, p), (17, .pointer (some ⟨B, 0, none⟩)), (18, .pointer (some ⟨C, 0, none⟩)), (110, Y), (111, .int .i64 (len K.ins)), (112, .int .i64 n)]) w := by
      subst cL
      replace hp : nV.nx66 N O n a l ab = some aA := cH
      refine tg cE <| nv fun cM cN => ?_
      have bm {bn aC cO} (cP : SlO 3 (nt .i64) bn p aC) (hp : nV.jn71 N n a l ab bn = some aA) : ∀ w, St E H [bx b 50 [.slice none 0 0, .slice none 0 0, .int .i64 0, .int .i64 0, .slice none 0 0], bx c 50 [h, q, .int .i64 0, .int .i64 0, .slice none 0 0], j, t, aC, bx C 52 [.int .i64 a.op, .int .i64 l, P, .int .i64 a.imm, .int .i64 a.fn], am] w → cM (ovr cO [(0, .pointer (some ⟨d, g, none⟩)), (1, .int .i64 a31), (6, .pointer (some ⟨b, 0, none⟩)), (7, .pointer (some ⟨c, 0, none⟩)), (15, p), (18, .pointer (some ⟨C, 0, none⟩)), (110, Y), (111, .int .i64 (len K.ins)), (112, .int .i64 n)]) w := by
       exact tg cN <| nF <| tv (fa oB rfl) rfl <| tv (lb s48 1 rfl rfl rfl) rfl <| tv (lA (ds := [.int .i64 a.op, .int .i64 l, P, .int .i64 a.imm, .int .i64 a.fn]) o5 5 rfl rfl rfl rfl) rfl <| tbs [(0, .agg #[.int .i64 a.op, .int .i64 l, P, .int .i64 a.imm, .int .i64 a.fn])] [.int .i64 a.op, .int .i64 l, P, .int .i64 a.imm, .int .i64 a.fn] u48 i52 Ag rfl rfl rfl rfl fun eV => tp [4, 0, 7, 1, 2, 3, 5, 6] [_,_,_,_,_,_,_,_] rfl rfl <| tp2 u48 i52 bl hp (RepL.to (G' := am) (RepL.cons (k := oN) (x := (⟨a.op, l, ab, a.imm, a.fn⟩ : nL)) ⟨_, _, rfl, rfl, cK⟩ RepL.nil) (by simp)) rfl rfl rfl rfl rfl rfl rfl rfl rfl fun eW cQ cR bo hp => tv (fa oB rfl) rfl <| ts 2 m48 rfl rfl bo.o1 rfl <| nl <| tg cu <| nF <| tv (bad rfl rfl) rfl <| tm rfl <| nl <| gk hp [1, 2, 3, 0, 4] ⟨_, _, _, cQ, cR, aC, _, rfl, bo, cP, nC _ _ rfl, rfl⟩
      refine sr <| tv (fa pd rfl) rfl <| tv (lb s3 5 rfl rfl rfl) rfl <| tv (bge rfl rfl) rfl <| nz <| cD rfl hp (fun cS hp => ?_) fun cS hp => ?_
      · exact nF <| tm rfl <| tv (fa pd rfl) rfl <| tv (lb s3 5 rfl rfl rfl) rfl <| tv (fa pd rfl) rfl <| tv (lb s3 6 rfl rfl rfl) rfl <| tO u25 i3 aa hp rfl rfl rfl rfl fun eX eY eZ cT hp => tp [4, 0, 1, 2, 3, 5, 6, 7] [_,_,_,_,_,_,_,_] rfl rfl <| tE aa cT m3 rfl ⟨rfl, rfl⟩ w1 fun e0 cU => nl <| jn [1, 2, 3, 4, 0, 6, 7] (bm cU hp)
      · exact TC.skip <| jn [0, 1, 2, 3, 4, 6, 7] (bm aa hp)
     refine W.new0 <| lp cG [3, 4, 5, 6, 7, 2, 1, 0] rfl (fun s e L => ∃ an Q aD aE bp, s = (an, Q) ∧ SlO 3 (nt .i64) an aD aE ∧ e = ovr bp [(0, .pointer (some ⟨d, g, none⟩)), (1, .int .i64 a31), (6, .pointer (some ⟨b, 0, none⟩)), (7, .pointer (some ⟨c, 0, none⟩)), (15, p), (17, .pointer (some ⟨B, 0, none⟩)), (18, .pointer (some ⟨C, 0, none⟩)), (110, Y), (111, .int .i64 (len K.ins)), (112, .int .i64 n), (135, u), (136, .int .i64 (len a.args)), (137, .int .i64 Q)] ∧ L = [bx b 50 [.slice none 0 0, .slice none 0 0, .int .i64 0, .int .i64 0, .slice none 0 0], bx c 50 [h, q, .int .i64 0, .int .i64 0, .slice none 0 0], j, t, z, bx B 52 [.int .i64 a.op, .int .i64 a.dst, u, .int .i64 a.imm, .int .i64 a.fn], bx C 52 [.int .i64 a.op, .int .i64 l, aD, .int .i64 a.imm, .int .i64 a.fn], aE]) ⟨_, _, (.slice none 0 0), ([] : FP), _, rfl, (SlO.nil 3), nC _ _ rfl, rfl⟩ ?_
     rintro _ _ _ ⟨an, Q, aD, aE, bp, rfl, aF, rfl, rfl⟩ bq hp cV
     replace hp : nV.bd66 O a an Q = some bq := hp
     refine sr <| tv (blt rfl rfl) rfl <| nz <| nv fun e1 cW => cD rfl hp (fun cX hp => ?_) fun cX hp => ?_
     · refine sk cW rfl <| nv fun cY cZ => ?_
       have br {bs aG aH c0} (c1 : SlO 3 (nt .i64) bs aG aH) (hp : nV.jn83 Q bs = some bq) : ∀ w, St E H [bx b 50 [.slice none 0 0, .slice none 0 0, .int .i64 0, .int .i64 0, .slice none 0 0], bx c 50 [h, q, .int .i64 0, .int .i64 0, .slice none 0 0], j, t, z, bx B 52 [.int .i64 a.op, .int .i64 a.dst, u, .int .i64 a.imm, .int .i64 a.fn], bx C 52 [.int .i64 a.op, .int .i64 l, aG, .int .i64 a.imm, .int .i64 a.fn], aH] w → cY (ovr c0 [(0, .pointer (some ⟨d, g, none⟩)), (1, .int .i64 a31), (6, .pointer (some ⟨b, 0, none⟩)), (7, .pointer (some ⟨c, 0, none⟩)), (15, p), (17, .pointer (some ⟨B, 0, none⟩)), (18, .pointer (some ⟨C, 0, none⟩)), (110, Y), (111, .int .i64 (len K.ins)), (112, .int .i64 n), (135, u), (136, .int .i64 (len a.args)), (137, .int .i64 Q)]) w := by
        exact tg cZ <| nF <| tv (bad rfl rfl) rfl <| tm rfl <| nl <| gk hp [0, 1, 2, 3, 4, 5, 6, 7] ⟨_, _, aG, aH, _, rfl, c1, nC _ _ rfl, rfl⟩
       refine nB <| sr <| ti u25 i3 aB hp rfl rfl rfl rfl ?_
       rintro e2 e3 e4 _ hp rfl c2
       refine tv (lr s3 sH c2 0 rfl rfl) rfl <| ta rfl <| nz <| ch mix [bx b 50 [.slice none 0 0, .slice none 0 0, .int .i64 0, .int .i64 0, .slice none 0 0], bx c 50 [h, q, .int .i64 0, .int .i64 0, .slice none 0 0], j, t, z, bx B 52 [.int .i64 a.op, .int .i64 a.dst, u, .int .i64 a.imm, .int .i64 a.fn]] (nq 0 rfl (nq 1 rfl (nq 2 rfl (nq 3 rfl (nq 4 rfl (nq 5 rfl ns)))))) <| hv 0 rfl (fa o6 rfl) Ag rfl <| hv 2 rfl mv Ag rfl <| hv 3 rfl mv Ag rfl <| hi 4 rfl u25 i3 (aa).ro hp rfl rfl rfl Ag rfl ?_
       rintro S e5 e6 _ hp rfl c3
       refine hv 5 rfl (lr s3 (srcInG 4 rfl) c3 0 rfl rfl) Ag rfl <| nT [1, 6] Ag (by simp) (nG ⟨_, rfl, fun e7 c4 => ?_⟩ (nG ⟨_, rfl, fun e8 c5 => ?_⟩ nU))
       · exact tv (lb s25 6 rfl rfl rfl) rfl <| hk c4 (nq 0 rfl (nq 1 rfl (nq 2 rfl (nq 3 rfl (nq 4 rfl (nq 5 rfl ns)))))) <| ho 6 rfl Ag fun e9 c6 => tbs [(0, .int .i64 S)] [.int .i64 S] u25 i3 Ag rfl rfl rfl rfl fun c7 => hk c6 (nq 1 rfl (nq 2 rfl (nq 3 rfl (nq 4 rfl (nq 5 rfl (nq 6 rfl ns)))))) <| ho 7 rfl Ag fun fb c8 => tp [8, 0, 1, 2, 3, 4, 5, 6, 7] [_,_,_,_,_,_,_,_,_] rfl rfl <| tf 2 0 [_,_,_,_,_,_,_,_,_,_] rfl <| tp2 u25 i3 aF hp (RepL.to (RepL.cons (k := (nt .i64)) (x := S) ⟨rfl, rfl⟩ RepL.nil) rfl) rfl rfl rfl rfl rfl rfl rfl rfl rfl fun c9 da db ac hp => hk c8 (nq 1 rfl (nq 2 rfl (nq 3 rfl (nq 4 rfl (nq 5 rfl (nq 6 rfl ns)))))) <| hv 8 rfl (fa o6 rfl) Ag rfl <| ho 9 rfl Ag fun fc dc => ts 7 m25 rfl rfl ac.o1 rfl <| hk dc (nq 1 rfl (nq 2 rfl (nq 3 rfl (nq 4 rfl (nq 5 rfl (nq 6 rfl ns)))))) <| hz Ag <| jn [1, 2, 3, 4, 5, 6, 7, 0] (br ac hp)
       · exact tbs [(0, .int .i64 S)] [.int .i64 S] u25 i3 Ag rfl rfl rfl rfl fun c7 => hk c5 (nq 1 rfl (nq 2 rfl (nq 3 rfl (nq 4 rfl (nq 5 rfl (nq 6 rfl ns)))))) <| ho 1 rfl Ag fun fd dd => tv (lb s25 7 rfl rfl rfl) rfl <| hk dd (nq 1 rfl (nq 2 rfl (nq 3 rfl (nq 4 rfl (nq 5 rfl (nq 6 rfl ns)))))) <| ho 7 rfl Ag fun fe de => tp [8, 0, 1, 2, 3, 4, 5, 6, 7] [_,_,_,_,_,_,_,_,_] rfl rfl <| tf 2 0 [_,_,_,_,_,_,_,_,_,_] rfl <| tp2 u25 i3 aF hp (RepL.to (RepL.cons (k := (nt .i64)) (x := S) ⟨rfl, rfl⟩ RepL.nil) rfl) rfl rfl rfl rfl rfl rfl rfl rfl rfl fun c9 da db ac hp => hk de (nq 1 rfl (nq 2 rfl (nq 3 rfl (nq 4 rfl (nq 5 rfl (nq 6 rfl ns)))))) <| hv 8 rfl (fa o6 rfl) Ag rfl <| ho 9 rfl Ag fun ff df => ts 7 m25 rfl rfl ac.o1 rfl <| hk df (nq 1 rfl (nq 2 rfl (nq 3 rfl (nq 4 rfl (nq 5 rfl (nq 6 rfl ns)))))) <| hz Ag <| jn [1, 2, 3, 4, 5, 6, 7, 0] (br ac hp)
     · exact nN <| jn [0, 1, 2, 3, 4, 5, 6, 7] (cI aF (nK hp cV))
   · exact nN <| jn [0, 1, 2, 3, 4] (cb bl aa (nK hp cr))
  refine sr <| tm rfl <| tv (beq rfl rfl) rfl <| nz <| cD rfl hp (fun dg hp => ?_) fun dg hp => ?_
  · refine sr <| tm rfl <| tv (nE rfl) rfl <| tv (fa qV rfl) rfl <| tv (lr s25 sH y 11 rfl rfl) rfl <| tv (ln u25 a7 rfl) rfl <| tm rfl <| nz <| nB <| bE hp fun dh di dj => ?_
    have dk {aI bt bu dl} (dm : SlO 52 oN aI bt bu) (dn : aI = dh) : ∀ w, St E H [bx b 50 [.slice none 0 0, .slice none 0 0, .int .i64 0, .int .i64 0, .slice none 0 0], bx c 50 [h, bt, .int .i64 0, .int .i64 0, .slice none 0 0], j, bu] w → bb (ovr dl [(0, .pointer (some ⟨d, g, none⟩)), (1, .int .i64 a31), (6, .pointer (some ⟨b, 0, none⟩)), (7, .pointer (some ⟨c, 0, none⟩))]) w := by
     subst dn
     replace hp : nV.nx114 a2 a31 F aI = some r := dj
     exact jn [0, 1, 2, 3] (bc dm hp)
    refine W.new0 <| lp di [1, 2, 3, 0] rfl (fun s e L => ∃ ao ap aJ aK bv, s = (ao, ap) ∧ SlO 52 oN ao aJ aK ∧ e = ovr bv [(0, .pointer (some ⟨d, g, none⟩)), (1, .int .i64 a31), (6, .pointer (some ⟨b, 0, none⟩)), (7, .pointer (some ⟨c, 0, none⟩)), (80, au), (81, .int .i64 (len a2.zero_)), (82, .int .i64 ap)] ∧ L = [bx b 50 [.slice none 0 0, .slice none 0 0, .int .i64 0, .int .i64 0, .slice none 0 0], bx c 50 [h, aJ, .int .i64 0, .int .i64 0, .slice none 0 0], j, aK]) ⟨_, _, (.slice none 0 0), ([] : FP), _, rfl, (SlO.nil 52), nC _ _ rfl, rfl⟩ ?_
    rintro _ _ _ ⟨ao, ap, aJ, aK, bv, rfl, bw, rfl, rfl⟩ dp hp dq
    replace hp : nV.bd114 a2 ao ap = some dp := hp
    refine sr <| tv (blt rfl rfl) rfl <| nz <| nv fun fg dr => cD rfl hp (fun dt hp => ?_) fun dt hp => ?_
    · refine sk dr rfl <| nv fun fh du => nB <| sr <| ti u25 i3 a7 hp rfl rfl rfl rfl ?_
      rintro ad fi fj _ hp rfl dv
      exact tv (lr s3 sH dv 0 rfl rfl) rfl <| ta rfl <| nz <| nF <| tv (fa oB rfl) rfl <| tv (lb s48 1 rfl rfl rfl) rfl <| tm rfl <| tv (n9 (vs := [(0, .int .i64 1), (1, .int .i64 ad)]) (ds := [.int .i64 1, .int .i64 ad, .slice none 0 0, .int .i64 0, .int .i64 0]) rfl (fun w => by kernel_rfl)) rfl <| tbs [(0, .agg #[.int .i64 1, .int .i64 ad, .slice none 0 0, .int .i64 0, .int .i64 0])] [.int .i64 1, .int .i64 ad, .slice none 0 0, .int .i64 0, .int .i64 0] u48 i52 Ag rfl rfl rfl rfl fun fk => TL.new0 <| tp [5, 1, 0, 2, 3, 4] [_,_,_,_,_,_] rfl rfl <| tp2 u48 i52 bw hp (RepL.to (G' := ([] : FP)) (RepL.cons (k := oN) (x := (⟨1, ad, ([] : List Int), 0, 0⟩ : nL)) ⟨_, _, rfl, rfl, (SlO.nil 3)⟩ RepL.nil) (by simp)) rfl rfl rfl rfl rfl rfl rfl rfl rfl fun fl dw dx bz hp => tv (fa oB rfl) rfl <| ts 2 m48 rfl rfl bz.o1 rfl <| nl <| tg du <| nF <| tv (bad rfl rfl) rfl <| tm rfl <| nl <| gk hp [1, 2, 3, 0] ⟨_, _, dw, dx, _, rfl, bz, nC _ _ rfl, rfl⟩
    · exact nN <| jn [0, 1, 2, 3] (dk bw (nK hp dq))
  · exact TC.skip <| W.new0 <| jn [1, 2, 3, 0] (bc (SlO.nil 52) hp)
 refine W.new0 <| lp bS [2, 1, 0] rfl (fun s e L => ∃ ae D I J bA, s = (ae, D) ∧ SlO 70 oS ae I J ∧ e = ovr bA [(0, .pointer (some ⟨d, g, none⟩)), (1, .int .i64 a31), (2, o), (6, .pointer (some ⟨b, 0, none⟩)), (7, .pointer (some ⟨c, 0, none⟩)), (28, ah), (29, .int .i64 (len X)), (30, .int .i64 D)] ∧ L = [bx b 50 [.slice none 0 0, .slice none 0 0, .int .i64 0, .int .i64 0, .slice none 0 0], bx c 50 [I, .slice none 0 0, .int .i64 0, .int .i64 0, .slice none 0 0], J]) ⟨_, _, (.slice none 0 0), ([] : FP), _, rfl, (SlO.nil 70), nC _ _ rfl, rfl⟩ ?_
 rintro _ _ _ ⟨ae, D, I, J, bA, rfl, bB, rfl, rfl⟩ bC hp dy
 replace hp : nV.bd9 a2 a31 a32 X ae D = some bC := hp
 refine sr <| tv (blt rfl rfl) rfl <| nz <| nv fun fm dz => cD rfl hp (fun dA hp => ?_) fun dA hp => ?_
 · refine sk dz rfl <| nv fun fo dB => nB <| sr <| tm rfl <| ti u25 i3 a9 hp rfl rfl rfl rfl ?_
   rintro aL fp fq _ hp rfl dC
   refine tv (lr s3 sH dC 0 rfl rfl) rfl <| ta rfl <| ta rfl <| nz <| sr <| tm rfl <| tv (nE rfl) rfl <| tv (fa oC rfl) rfl <| tv (lr s73 sH y 10 rfl rfl) rfl <| tm rfl <| ti u73 i25 bK hp rfl rfl rfl rfl ?_
   rintro fr fs ft _ hp ⟨fu, rfl, dD⟩ dE
   refine tv (lr s25 sH dE 0 rfl rfl) rfl <| tm rfl <| ti u25 i3 dD hp rfl rfl rfl rfl ?_
   rintro m fv fw _ hp rfl dF
   refine tv (lr s3 sH dF 0 rfl rfl) rfl <| tv (n9 (vs := [(0, .int .i64 m)]) (ds := [.int .i64 m, .slice none 0 0]) rfl (fun w => by kernel_rfl)) rfl <| tl i70 rfl fun T => tS 0 m70 rfl rfl [.int .i64 m, .slice none 0 0] rfl (oc rfl (oc rfl oc0)) rfl rfl <| nz <| nv fun dG dH => sr <| tm rfl <| tv (ln u25 a8 rfl) rfl <| tm rfl <| nz <| nB <| bE hp fun dI dJ dK => ?_
   have dL {aq af aM dM} (dN : SlO 3 (nt .i64) aq af aM) (dO : aq = dI) : ∀ w, St E H [bx b 50 [.slice none 0 0, .slice none 0 0, .int .i64 0, .int .i64 0, .slice none 0 0], bx c 50 [I, .slice none 0 0, .int .i64 0, .int .i64 0, .slice none 0 0], J, bx T 70 [.int .i64 m, af], aM] w → dG (ovr dM [(0, .pointer (some ⟨d, g, none⟩)), (1, .int .i64 a31), (2, o), (6, .pointer (some ⟨b, 0, none⟩)), (7, .pointer (some ⟨c, 0, none⟩)), (10, .pointer (some ⟨T, 0, none⟩)), (28, ah), (29, .int .i64 (len X)), (30, .int .i64 D)]) w := by
    subst dO
    replace hp : nV.nx144 ae D m aq = some bC := dK
    exact tg dH <| nF <| tv (fa oE rfl) rfl <| tv (lb s47 1 rfl rfl rfl) rfl <| tv (lA (ds := [.int .i64 m, af]) p8 3 rfl rfl rfl rfl) rfl <| tbs [(0, .agg #[.int .i64 m, af])] [.int .i64 m, af] u47 i70 Ag rfl rfl rfl rfl fun fx => tp [3, 0, 5, 1, 2, 4] [_,_,_,_,_,_] rfl rfl <| tp2 u47 i70 bB hp (RepL.to (G' := aM) (RepL.cons (k := oS) (x := (⟨m, aq⟩ : PPhi)) ⟨_, _, rfl, rfl, dN⟩ RepL.nil) (by simp)) rfl rfl rfl rfl rfl rfl rfl rfl rfl fun fy dP dQ bD hp => tv (fa oE rfl) rfl <| ts 2 m47 rfl rfl bD.o1 rfl <| nl <| tg dB <| nF <| tv (bad rfl rfl) rfl <| tm rfl <| nl <| gk hp [1, 2, 0] ⟨_, _, dP, dQ, _, rfl, bD, nC _ _ rfl, rfl⟩
   refine W.new0 <| lp dJ [2, 3, 4, 1, 0] rfl (fun s e L => ∃ ar U aN aO bF, s = (ar, U) ∧ SlO 3 (nt .i64) ar aN aO ∧ e = ovr bF [(0, .pointer (some ⟨d, g, none⟩)), (1, .int .i64 a31), (2, o), (6, .pointer (some ⟨b, 0, none⟩)), (7, .pointer (some ⟨c, 0, none⟩)), (9, .int .i64 aL), (10, .pointer (some ⟨T, 0, none⟩)), (28, ah), (29, .int .i64 (len X)), (30, .int .i64 D), (46, o), (47, .int .i64 (len a32)), (48, .int .i64 U)] ∧ L = [bx b 50 [.slice none 0 0, .slice none 0 0, .int .i64 0, .int .i64 0, .slice none 0 0], bx c 50 [I, .slice none 0 0, .int .i64 0, .int .i64 0, .slice none 0 0], J, bx T 70 [.int .i64 m, aN], aO]) ⟨_, _, (.slice none 0 0), ([] : FP), _, rfl, (SlO.nil 3), nC _ _ rfl, rfl⟩ ?_
   rintro _ _ _ ⟨ar, U, aN, aO, bF, rfl, aP, rfl, rfl⟩ bG hp dR
   replace hp : nV.bd144 a2 a32 aL ar U = some bG := hp
   refine sr <| tv (blt rfl rfl) rfl <| nz <| nv fun fz dS => cD rfl hp (fun dT hp => ?_) fun dT hp => ?_
   · refine sk dS rfl <| nv fun dU dV => ?_
     have bH {bI aQ aR dW} (dX : SlO 3 (nt .i64) bI aQ aR) (hp : nV.jn155 U bI = some bG) : ∀ w, St E H [bx b 50 [.slice none 0 0, .slice none 0 0, .int .i64 0, .int .i64 0, .slice none 0 0], bx c 50 [I, .slice none 0 0, .int .i64 0, .int .i64 0, .slice none 0 0], J, bx T 70 [.int .i64 m, aQ], aR] w → dU (ovr dW [(0, .pointer (some ⟨d, g, none⟩)), (1, .int .i64 a31), (2, o), (6, .pointer (some ⟨b, 0, none⟩)), (7, .pointer (some ⟨c, 0, none⟩)), (9, .int .i64 aL), (10, .pointer (some ⟨T, 0, none⟩)), (28, ah), (29, .int .i64 (len X)), (30, .int .i64 D), (46, o), (47, .int .i64 (len a32)), (48, .int .i64 U)]) w := by
      exact tg dV <| nF <| tv (bad rfl rfl) rfl <| tm rfl <| nl <| gk hp [0, 1, 2, 3, 4] ⟨_, _, aQ, aR, _, rfl, dX, nC _ _ rfl, rfl⟩
     refine nB <| sr <| ti u25 i3 a8 hp rfl rfl rfl rfl ?_
     rintro fA fB fC _ hp rfl dY
     refine tv (lr s3 sH dY 0 rfl rfl) rfl <| ta rfl <| nz <| ch mix [bx b 50 [.slice none 0 0, .slice none 0 0, .int .i64 0, .int .i64 0, .slice none 0 0], bx c 50 [I, .slice none 0 0, .int .i64 0, .int .i64 0, .slice none 0 0], J] (nq 0 rfl (nq 1 rfl (nq 2 rfl ns))) <| hv 0 rfl (fa py rfl) Ag rfl <| hv 2 rfl mv Ag rfl <| hv 3 rfl (nE rfl) Ag rfl <| hv 4 rfl (fa qW rfl) Ag rfl <| hv 5 rfl (lr s73 srcInH y 14 rfl rfl) Ag rfl <| hv 6 rfl mv Ag rfl <| hi 7 rfl u73 i25 bN hp rfl rfl rfl Ag rfl ?_
     rintro fD fE fF _ hp ⟨fG, rfl, dZ⟩ d0
     refine hv 8 rfl (lr s25 srcInH d0 0 rfl rfl) Ag rfl <| hv 9 rfl mv Ag rfl <| hi 10 rfl u25 i3 dZ hp rfl rfl rfl Ag rfl ?_
     rintro V fH fI _ hp rfl d1
     refine hv 11 rfl (lr s3 srcInH d1 0 rfl rfl) Ag rfl <| nT [1, 12] Ag (by simp) (nG ⟨_, rfl, fun fJ d2 => ?_⟩ (nG ⟨_, rfl, fun fK d3 => ?_⟩ nU))
     · exact tv (lb s25 3 rfl rfl rfl) rfl <| hk d2 (nq 0 rfl (nq 1 rfl (nq 2 rfl ns))) <| ho 12 rfl Ag fun fL d4 => tbs [(0, .int .i64 V)] [.int .i64 V] u25 i3 Ag rfl rfl rfl rfl fun d5 => hk d4 (nq 1 rfl (nq 2 rfl (nq 3 rfl ns))) <| ho 13 rfl Ag fun fM d6 => tp [5, 0, 1, 2, 3, 4] [_,_,_,_,_,_] rfl rfl <| tf 2 0 [_,_,_,_,_,_,_] rfl <| tp2 u25 i3 aP hp (RepL.to (RepL.cons (k := (nt .i64)) (x := V) ⟨rfl, rfl⟩ RepL.nil) rfl) rfl rfl rfl rfl rfl rfl rfl rfl rfl fun d7 d8 d9 ag hp => hk d6 (nq 1 rfl (nq 2 rfl (nq 3 rfl ns))) <| hv 14 rfl (fa py rfl) Ag rfl <| ho 15 rfl Ag fun fN ea => ts 4 m25 rfl rfl ag.o1 rfl <| hk ea (nq 1 rfl (nq 2 rfl (nq 3 rfl ns))) <| hz Ag <| jn [1, 2, 3, 4, 0] (bH ag hp)
     · exact tbs [(0, .int .i64 V)] [.int .i64 V] u25 i3 Ag rfl rfl rfl rfl fun d5 => hk d3 (nq 1 rfl (nq 2 rfl (nq 3 rfl ns))) <| ho 1 rfl Ag fun fO eb => tv (lb s25 4 rfl rfl rfl) rfl <| hk eb (nq 1 rfl (nq 2 rfl (nq 3 rfl ns))) <| ho 13 rfl Ag fun fP ec => tp [5, 0, 1, 2, 3, 4] [_,_,_,_,_,_] rfl rfl <| tf 2 0 [_,_,_,_,_,_,_] rfl <| tp2 u25 i3 aP hp (RepL.to (RepL.cons (k := (nt .i64)) (x := V) ⟨rfl, rfl⟩ RepL.nil) rfl) rfl rfl rfl rfl rfl rfl rfl rfl rfl fun d7 d8 d9 ag hp => hk ec (nq 1 rfl (nq 2 rfl (nq 3 rfl ns))) <| hv 14 rfl (fa py rfl) Ag rfl <| ho 15 rfl Ag fun fQ ed => ts 4 m25 rfl rfl ag.o1 rfl <| hk ed (nq 1 rfl (nq 2 rfl (nq 3 rfl ns))) <| hz Ag <| jn [1, 2, 3, 4, 0] (bH ag hp)
   · exact nN <| jn [0, 1, 2, 3, 4] (dL aP (nK hp dR))
 · exact nN <| jn [0, 1, 2] (bU bB (nK hp dy))
end
section
/-! ### fettle/ssa.Build -/
abbrev pC.R (r : ny × GErr) (v : Value) (A : List FP) : Prop := ∃ (w1 : Value) (a : FP) (w2 : Value) (b : FP) (w3 : Value) (c : FP), .tuple #[.agg #[.int .i64 r.1.params, .int .i64 r.1.result, w1, w2], w3] = v ∧ A = [a, b, c] ∧ SlO 3 (nt .i64) r.1.regs w1 a ∧ SlO 50 nY r.1.blocks w2 b ∧ ErO 63 106 108 r.2 w3 c
def pC.nx57 (a : ny × List Int) (b : List Int × List (List Int) × List Int × List (List Int)) (c : List nA) (d : Int) : Option (ny × GErr) :=
  if d > 256 ∨ (len b.1) > 256 then
    some ((⟨0, 0, ([] : List Int), ([] : List nA)⟩ : ny), (GErr.code 5))
  else
    some ((⟨a.1.params, a.1.result, b.1, c⟩ : ny), GErr.no)
def pC.bd57 (a : ny × List Int) (j : List (List Bool) × List (List Bool) × GErr) (k : List (List Int)) (l : List Int) (e : List (List Int) × List Int) (b : List Int × List (List Int) × List Int × List (List Int)) (f : List (List Int) × List (List Int)) (g : List (List Int)) (h : List nA) (i : Int) (c : Int) : Option (Ex (List nA × Int) (List nA × Int × Int)) :=
  if c < (len g) then
    (idx g c).bind fun m =>
    (nV (⟨(⟨a.1.params, a.1.result, a.1.regs, a.1.blocks⟩ : ny), j.1, k, l, e.1, e.2, b.1, b.2.1, b.2.2.1, b.2.2.2, f.1, f.2⟩ : nS) c m).bind fun d =>
    (cat h [d]).bind fun n =>
    some (.go (n, (w64 (i + (w64 ((w64 ((len d.phis) + (len d.ins))) + 1)))), (w64 (c + 1))))
  else
    some (.ret (h, i))
def pC (a1 : nR) (a4 : Int) : Option (ny × GErr) :=
  (pU a1).bind fun g =>
  if ¬ g = GErr.no then
    some ((⟨0, 0, ([] : List Int), ([] : List nA)⟩ : ny), g)
  else
    if a4 < 0 ∨ a4 ≥ (len a1.funcs) then
      some ((⟨0, 0, ([] : List Int), ([] : List nA)⟩ : ny), (GErr.code 1))
    else
      (idx a1.funcs a4).bind fun i =>
      (nW i).bind fun a =>
      (rM a1.funcs).bind fun h =>
      (idx h a4).bind fun l =>
      (nM (⟨(h.set (a4).toNat a.1)⟩ : nR) a4).bind fun b =>
      if ¬ b.2.2 = GErr.no then
        some ((⟨0, 0, ([] : List Int), ([] : List nA)⟩ : ny), b.2.2)
      else
        (om a.1).bind fun e =>
        (nX a.1).bind fun f =>
        (oG (⟨(⟨a.1.params, a.1.result, a.1.regs, a.1.blocks⟩ : ny), b.1, e, f, ([] : List (List Int)), ([] : List Int), [], [], [], [], [], []⟩ : nS)).bind fun d =>
        (n5 (⟨(⟨a.1.params, a.1.result, a.1.regs, a.1.blocks⟩ : ny), b.1, e, f, d.1, d.2, ([] : List Int), ([] : List (List Int)), ([] : List Int), ([] : List (List Int)), [], []⟩ : nS)).bind fun c =>
        (oi (⟨(⟨a.1.params, a.1.result, a.1.regs, a.1.blocks⟩ : ny), b.1, e, f, d.1, d.2, c.1, c.2.1, c.2.2.1, c.2.2.2, ([] : List (List Int)), ([] : List (List Int))⟩ : nS)).bind fun j =>
        (oF a.1).bind fun k =>
        (whl (fun (s : (List nA × Int × Int)) => pC.bd57 a b e f d c j k s.1 s.2.1 s.2.2) nD (([] : List nA), 0, 0)).bind fun z =>
        pC.nx57 a c z.1 z.2
set_option maxHeartbeats 4000000 in
theorem xl {E : World} {H : FP} {w : World} {a1 : nR} {a4 : Int} {v2 : Value} {r : ny × GErr} (Q : SlI ou H a1.funcs v2) (hp : pC a1 a4 = some r) (hst : St E H [] w) :
    Fn Try.prog 25 #[.agg #[v2], .int .i64 a4] w fun v w' => ∃ A, pC.R r v A ∧ St E H A w' := by
 refine Fn.bodyV (fn := Try.f25) (args := [.agg #[v2], .int .i64 a4]) E H [] 128 Try.func25 rfl rfl (leb rfl) hst <| sr <| tb [v2] rfl rfl fun S => tl i41 rfl fun j => ta rfl <| nz <| nv fun b4 a3 => sr <| tv (lA (ds := [v2]) oZ 1 rfl rfl rfl rfl) rfl <| bE hp fun b5 hy3 hp => tc 0 [_,_] rfl c38 (fun _ => wZ (a1 := a1) (Q.mono nw) hy3) rfl ?_
 rintro _ _ ⟨a5, T, rfl, rfl, aq⟩
 refine ta rfl <| nz <| sr <| tm rfl <| tv (pw pc aq rfl) rfl <| nz <| cD rfl hp (fun a6 hp => ?_) fun a6 hp => ?_
 · refine sr <| tv (n9 (vs := []) (ds := [.int .i64 0, .int .i64 0, .slice none 0 0, .slice none 0 0]) rfl (fun w => by kernel_rfl)) rfl <| tm rfl <| tS 1 m41 rfl rfl [.int .i64 0, .int .i64 0, .slice none 0 0, .slice none 0 0] rfl (oc rfl (oc rfl (oc rfl (oc rfl oc0)))) rfl rfl <| ta rfl <| nz <| nH <| W.new0 <| W.new0 ?_
   obtain rfl := Option.some.inj hp
   exact fun w hw => retC2 hw rfl rfl rfl n8 3 rfl rfl ⟨(.slice none 0 0), ([] : FP), (.slice none 0 0), ([] : FP), a5, T, rfl, rfl, (SlO.nil 3), (SlO.nil 50), aq⟩ (hw.pickA [1, 0, 2] rfl)
 · refine sk a3 rfl <| nv fun b6 a7 => sr <| tm rfl <| tv (blt rfl rfl) rfl <| tm rfl <| TL.cut 6 fun a8 a9 => ?_
   have ar {ba} : ∀ w, St E H [T, bx j 41 [.int .i64 0, .int .i64 0, .slice none 0 0, .slice none 0 0], bx S 35 [v2]] w → a8 (ovr ba [(33, .bool (decide (a4 < 0 ∨ a4 ≥ (len a1.funcs)))), (1, .int .i64 a4), (2, .pointer (some ⟨S, 0, none⟩)), (4, .pointer (some ⟨j, 0, none⟩))]) w := by
    refine tlg a9 <| nz <| cD rfl hp (fun bb hp => ?_) fun bb hp => ?_
    · refine sr <| tv (n9 (vs := []) (ds := [.int .i64 0, .int .i64 0, .slice none 0 0, .slice none 0 0]) rfl (fun w => by kernel_rfl)) rfl <| tv (mI u63 rfl) rfl <| tS 1 m41 rfl rfl [.int .i64 0, .int .i64 0, .slice none 0 0, .slice none 0 0] rfl (oc rfl (oc rfl (oc rfl (oc rfl oc0)))) rfl rfl <| ta rfl <| nz <| nH <| W.new0 <| W.new0 <| W.new0 ?_
      obtain rfl := Option.some.inj hp
      exact fun w hw => retC2 hw rfl rfl rfl n8 4 rfl rfl ⟨(.slice none 0 0), ([] : FP), (.slice none 0 0), ([] : FP), (.iface 63 (.int .i64 1)), ([] : FP), rfl, rfl, (SlO.nil 3), (SlO.nil 50), (ErO.mk _ : ErO 63 106 108 (GErr.code 1) (.iface 63 (.int .i64 1)) [])⟩ (hw.pickA [2, 1, 0] rfl)
    · refine sk a7 rfl <| sr <| tv (fa oR rfl) rfl <| tv (lb s33 2 rfl rfl rfl) rfl <| tm rfl <| ti u33 i41 Q hp rfl rfl rfl rfl ?_
      rintro af b7 b8 _ hp ⟨bc, be, rfl, bf, bg⟩ bh
      refine tv (lR (ds := [.int .i64 af.params, .int .i64 af.result, bc, be]) n8 sH bh 0 rfl rfl rfl) rfl <| bE hp fun b hy15 hp => tc 0 [_,_,_] rfl c36 (fun _ => ud (a1 := af) (bf.mono nw) (bg.mono nw) hy15) rfl ?_
      rintro _ _ ⟨c, U, d, V, b9, au, rfl, rfl, l, m, ca⟩
      refine tm rfl <| tv (xt rfl rfl) rfl <| tv (xt rfl rfl) rfl <| tl i41 rfl fun av => tS 0 m41 rfl rfl [.int .i64 b.1.params, .int .i64 b.1.result, c, d] rfl (oc rfl (oc rfl (oc (l).one (oc (m).one oc0)))) rfl rfl <| ta rfl <| nz <| sr <| tv (fa oR rfl) rfl <| tv (lb s33 6 rfl rfl rfl) rfl <| bE hp fun bi hy17 hp => tc 0 [_,_,_,_,_,_,_] rfl c39 (fun _ => w6 (G := H) nw Q hy17) rfl ?_
      rintro _ _ ⟨q, cb, rfl, rfl, X⟩
      refine tv (n9 (vs := [(0, q)]) (ds := [q]) rfl (fun w => by obtain ⟨_, _, rfl⟩ := (X).len; kernel_rfl)) rfl <| tl i35 rfl fun aw => tS 0 m35 rfl rfl [q] rfl (oc (X).one oc0) rfl rfl <| nz <| sr <| tv (fa oR rfl) rfl <| tv (lb s33 0 rfl rfl rfl) rfl <| tm rfl <| tv (lA (ds := [.int .i64 b.1.params, .int .i64 b.1.result, c, d]) n8 2 rfl rfl rfl rfl) rfl <| tO u33 i41 X hp rfl rfl rfl rfl fun cc cd ce bj hp => tp [1, 0, 2, 3, 4, 5, 6, 7, 8] [_,_,_,_,_,_,_,_,_] rfl rfl <| TL.stE0 (ds := [.int .i64 b.1.params, .int .i64 b.1.result, c, d]) (u := .agg #[.int .i64 b.1.params, .int .i64 b.1.result, c, d]) (a := b.1) (SlO.refM (G' := (U ++ (V ++ H))) X (inR (inR inI))) bj m41 rfl rfl rfl ⟨⟨⟨_, _, rfl, (l.ro.mono ((inL inI))), (m.ro.mono ((inR (inL inI))))⟩, (oc rfl (oc rfl (oc (l).one (oc (m).one oc0))))⟩, rfl⟩ fun ax bk => nz <| sr <| tv (lA (ds := [q]) oZ 1 rfl rfl rfl rfl) rfl <| tm rfl <| bE hp fun z hy19 hp => tc 0 [_,_,_,_,_,_,_,_,_] rfl c40 (fun _ => w9 (a1 := (⟨(bi.set (a4).toNat b.1)⟩ : nR)) (a4 := a4) ((SlO.refI bk).mono (subO (subB 0 rfl) (subO (subB 3 rfl) (subO (subB 4 rfl) nw)))) hy19) rfl ?_
      rintro _ _ ⟨B, ag, cf, ay, bl, ah, rfl, rfl, C, cg, az⟩
      refine tm rfl <| tv (xt rfl rfl) rfl <| tv (xt rfl rfl) rfl <| tv (xt rfl rfl) rfl <| ta rfl <| ta rfl <| ta rfl <| nz <| nv fun ci bm => sr <| tm rfl <| tv (pw pc az rfl) rfl <| nz <| cD rfl hp (fun bn hp => ?_) fun bn hp => ?_
      · refine sr <| tv (n9 (vs := []) (ds := [.int .i64 0, .int .i64 0, .slice none 0 0, .slice none 0 0]) rfl (fun w => by kernel_rfl)) rfl <| tm rfl <| tS 10 m41 rfl rfl [.int .i64 0, .int .i64 0, .slice none 0 0, .slice none 0 0] rfl (oc rfl (oc rfl (oc rfl (oc rfl oc0)))) rfl rfl <| ta rfl <| nz <| nH <| W.new0 <| W.new0 ?_
        obtain rfl := Option.some.inj hp
        exact fun w hw => retC2 hw rfl rfl rfl n8 12 rfl rfl ⟨(.slice none 0 0), ([] : FP), (.slice none 0 0), ([] : FP), bl, ah, rfl, rfl, (SlO.nil 3), (SlO.nil 50), az⟩ (hw.pickA [1, 0, 4] rfl)
      · refine sk bm rfl <| nv fun cj bo => ch mix [ag, ay, ah, ax, bx aw 35 [q], bx av 41 [.int .i64 b.1.params, .int .i64 b.1.result, c, d], U, V, au, T, bx j 41 [.int .i64 0, .int .i64 0, .slice none 0 0, .slice none 0 0], bx S 35 [v2]] (nq 0 rfl (nq 1 rfl (nq 2 rfl (nq 3 rfl (nq 4 rfl (nq 5 rfl (nq 6 rfl (nq 7 rfl (nq 8 rfl (nq 9 rfl (nq 10 rfl (nq 11 rfl ns)))))))))))) <| hv 0 rfl (lAG (ds := [.int .i64 b.1.params, .int .i64 b.1.result, c, d]) n8 5 rfl rfl rfl rfl) Ag rfl <| hv 1 rfl mv Ag rfl <| hv 2 rfl (lAG (ds := [.int .i64 b.1.params, .int .i64 b.1.result, c, d]) n8 5 rfl rfl rfl rfl) Ag rfl <| hv 4 rfl (lAG (ds := [.int .i64 b.1.params, .int .i64 b.1.result, c, d]) n8 5 rfl rfl rfl rfl) Ag rfl <| ho 3 rfl Ag fun ck bp => bE hp fun D hy28 hp => tc 0 [_,_,_,_,_,_,_,_,_,_,_,_] rfl c41 (fun _ => xa (a1 := b.1) (l.ro.mono (subB 6 rfl)) (m.ro.mono (subB 7 rfl)) hy28) rfl ?_
        rintro _ _ ⟨F, aA, rfl, rfl, I⟩
        refine hk bp (nq 1 rfl (nq 2 rfl (nq 3 rfl (nq 4 rfl (nq 5 rfl (nq 6 rfl (nq 7 rfl (nq 8 rfl (nq 9 rfl (nq 10 rfl (nq 11 rfl (nq 12 rfl ns)))))))))))) <| ho 5 rfl Ag fun cl bq => bE hp fun J hy32 hp => tc 0 [_,_,_,_,_,_,_,_,_,_,_,_,_] rfl c42 (fun _ => t5 (a1 := b.1) (l.ro.mono (subB 7 rfl)) (m.ro.mono (subB 8 rfl)) hy32) rfl ?_
        rintro _ _ ⟨K, aB, rfl, rfl, M⟩
        refine hk bq (nq 2 rfl (nq 3 rfl (nq 4 rfl (nq 5 rfl (nq 6 rfl (nq 7 rfl (nq 8 rfl (nq 9 rfl (nq 10 rfl (nq 11 rfl (nq 12 rfl (nq 13 rfl ns)))))))))))) <| hv 6 rfl (n9 (vs := [(0, .agg #[.int .i64 b.1.params, .int .i64 b.1.result, c, d]), (1, B), (2, F), (3, K)]) (ds := [.int .i64 b.1.params, .int .i64 b.1.result, c, d, B, F, K, .slice none 0 0, .slice none 0 0, .slice none 0 0, .slice none 0 0, .slice none 0 0, .slice none 0 0, .slice none 0 0, .slice none 0 0]) rfl (fun w => by obtain ⟨_, _, rfl⟩ := (C).len; obtain ⟨_, _, rfl⟩ := (I).len; obtain ⟨_, _, rfl⟩ := (M).len; kernel_rfl)) Ag rfl <| ho 7 rfl Ag fun cm br => tb [.int .i64 b.1.params, .int .i64 b.1.result, c, d, B, F, K, .slice none 0 0, .slice none 0 0, .slice none 0 0, .slice none 0 0, .slice none 0 0, .slice none 0 0, .slice none 0 0, .slice none 0 0] rfl rfl fun Y => hk br (nq 3 rfl (nq 4 rfl (nq 5 rfl (nq 6 rfl (nq 7 rfl (nq 8 rfl (nq 9 rfl (nq 10 rfl (nq 11 rfl (nq 12 rfl (nq 13 rfl (nq 14 rfl ns)))))))))))) <| hv 8 rfl sg Ag rfl <| hz Ag <| tg bo <| sr <| tm rfl <| TL.new0 <| TL.new0 <| tp [2, 1, 0, 3, 4, 5, 6, 7, 8, 9, 10, 11, 12, 13, 14, 15, 16] [_,_,_,_,_,_,_,_,_,_,_,_,_,_,_,_,_] rfl rfl <| bE hp fun o hy36 hp => tc 3 [_,_,_,_,_,_,_,_,_,_,_,_,_,_] rfl c43 (fun _ => xf (a2 := (⟨(⟨b.1.params, b.1.result, b.1.regs, b.1.blocks⟩ : ny), z.1, D, J, ([] : List (List Int)), ([] : List Int), [], [], [], [], [], []⟩ : nS)) (l.ro.mono (subB 8 rfl)) (m.ro.mono (subB 9 rfl)) (C.ro.mono (subB 2 rfl)) (I.ro.mono (subB 1 rfl)) (M.ro.mono (subB 0 rfl)) (SlO.nil 25) (SlO.nil 3) ((SlI.nil (G := H) none 0).mono nw) ((SlI.nil (G := H) none 0).mono nw) ((SlI.nil (G := H) none 0).mono nw) ((SlI.nil (G := H) none 0).mono nw) ((SlI.nil (G := H) none 0).mono nw) ((SlI.nil (G := H) none 0).mono nw) hy36) rfl ?_
        rintro _ _ ⟨aC, aD, aE, aF, rfl, rfl, ai, aj⟩
        refine nz <| sr <| tm rfl <| TL.new0 <| TL.new0 <| TL.new0 <| TL.new0 <| tp [4, 3, 2, 1, 0, 5, 6, 7, 8, 9, 10, 11, 12, 13, 14, 15, 16, 17, 18, 19, 20] [_,_,_,_,_,_,_,_,_,_,_,_,_,_,_,_,_,_,_,_,_] rfl rfl <| bE hp fun h hy38 hp => tc 5 [_,_,_,_,_,_,_,_,_,_,_,_,_,_,_,_] rfl c44 (fun _ => xg (a2 := (⟨(⟨b.1.params, b.1.result, b.1.regs, b.1.blocks⟩ : ny), z.1, D, J, o.1, o.2, ([] : List Int), ([] : List (List Int)), ([] : List Int), ([] : List (List Int)), [], []⟩ : nS)) (l.ro.mono (subB 10 rfl)) (m.ro.mono (subB 11 rfl)) (C.ro.mono (subB 4 rfl)) (I.ro.mono (subB 3 rfl)) (M.ro.mono (subB 2 rfl)) (ai.ro.mono (subB 0 rfl)) (aj.ro.mono (subB 1 rfl)) (SlO.nil 3) (SlO.nil 25) (SlO.nil 3) (SlO.nil 25) ((SlI.nil (G := H) none 0).mono nw) ((SlI.nil (G := H) none 0).mono nw) hy38) rfl ?_
        rintro _ _ ⟨i, N, aG, aH, aI, aJ, aK, aL, rfl, rfl, p, aM, aN, aO⟩
        refine nz <| sr <| tm rfl <| TL.new0 <| TL.new0 <| tp [2, 1, 0, 3, 4, 5, 6, 7, 8, 9, 10, 11, 12, 13, 14, 15, 16, 17, 18, 19, 20, 21, 22] [_,_,_,_,_,_,_,_,_,_,_,_,_,_,_,_,_,_,_,_,_,_,_] rfl rfl <| bE hp fun ak hy40 hp => tc 3 [_,_,_,_,_,_,_,_,_,_,_,_,_,_,_,_,_,_,_,_] rfl c45 (fun _ => xi (a2 := (⟨(⟨b.1.params, b.1.result, b.1.regs, b.1.blocks⟩ : ny), z.1, D, J, o.1, o.2, h.1, h.2.1, h.2.2.1, h.2.2.2, ([] : List (List Int)), ([] : List (List Int))⟩ : nS)) (l.ro.mono (subB 14 rfl)) (m.ro.mono (subB 15 rfl)) (C.ro.mono (subB 8 rfl)) (I.ro.mono (subB 7 rfl)) (M.ro.mono (subB 6 rfl)) (ai.ro.mono (subB 4 rfl)) (aj.ro.mono (subB 5 rfl)) (p.ro.mono (subB 0 rfl)) (aM.ro.mono (subB 1 rfl)) (aN.ro.mono (subB 2 rfl)) (aO.ro.mono (subB 3 rfl)) (SlO.nil 25) (SlO.nil 25) hy40) rfl ?_
        rintro _ _ ⟨aP, aQ, aR, aS, rfl, rfl, bs, bt⟩
        refine nz <| nv fun cn bu => ch mix [bx Y 100 [.int .i64 b.1.params, .int .i64 b.1.result, c, d, B, F, K, aC, aE, i, aG, aI, aK, aP, aR], aQ, aS, N, aH, aJ, aL, aD, aF, aB, aA, ag, ay, ah, ax, bx aw 35 [q], bx av 41 [.int .i64 b.1.params, .int .i64 b.1.result, c, d], U, V, au, T, bx j 41 [.int .i64 0, .int .i64 0, .slice none 0 0, .slice none 0 0], bx S 35 [v2]] (nq 0 rfl (nq 1 rfl (nq 2 rfl (nq 3 rfl (nq 4 rfl (nq 5 rfl (nq 6 rfl (nq 7 rfl (nq 8 rfl (nq 9 rfl (nq 10 rfl (nq 11 rfl (nq 12 rfl (nq 13 rfl (nq 14 rfl (nq 15 rfl (nq 16 rfl (nq 17 rfl (nq 18 rfl (nq 19 rfl (nq 20 rfl (nq 21 rfl (nq 22 rfl ns))))))))))))))))))))))) <| hv 0 rfl (fa po rfl) Ag rfl <| hv 1 rfl (lbG s3 16 rfl rfl rfl) Ag rfl <| hv 2 rfl (fa p5 rfl) Ag rfl <| hv 3 rfl (lbG s3 16 rfl rfl rfl) Ag rfl <| hv 4 rfl mv Ag rfl <| hv 5 rfl (nE rfl) Ag rfl <| hv 6 rfl (fa qD rfl) Ag rfl <| hv 7 rfl (lbG s25 0 rfl rfl rfl) Ag rfl <| hv 8 rfl (n9 (vs := [(0, .int .i64 b.1.params), (1, .int .i64 b.1.result), (2, i)]) (ds := [.int .i64 b.1.params, .int .i64 b.1.result, i, .slice none 0 0]) rfl (fun w => by obtain ⟨_, _, rfl⟩ := (p).len; kernel_rfl)) Ag rfl <| ho 9 rfl Ag fun co bv => tl i41 rfl fun t => hk bv (nq 1 rfl (nq 2 rfl (nq 3 rfl (nq 4 rfl (nq 5 rfl (nq 6 rfl (nq 7 rfl (nq 8 rfl (nq 9 rfl (nq 10 rfl (nq 11 rfl (nq 12 rfl (nq 13 rfl (nq 14 rfl (nq 15 rfl (nq 16 rfl (nq 17 rfl (nq 18 rfl (nq 19 rfl (nq 20 rfl (nq 21 rfl (nq 22 rfl (nq 23 rfl ns))))))))))))))))))))))) <| ho 10 rfl Ag fun cp bw => tS 0 m41 rfl rfl [.int .i64 b.1.params, .int .i64 b.1.result, i, .slice none 0 0] rfl (oc rfl (oc rfl (oc (p).one (oc rfl oc0)))) rfl rfl <| hk bw (nq 1 rfl (nq 2 rfl (nq 3 rfl (nq 4 rfl (nq 5 rfl (nq 6 rfl (nq 7 rfl (nq 8 rfl (nq 9 rfl (nq 10 rfl (nq 11 rfl (nq 12 rfl (nq 13 rfl (nq 14 rfl (nq 15 rfl (nq 16 rfl (nq 17 rfl (nq 18 rfl (nq 19 rfl (nq 20 rfl (nq 21 rfl (nq 22 rfl (nq 23 rfl ns))))))))))))))))))))))) <| hz Ag <| tg bu <| sr <| ta rfl <| nz <| nv fun bz bA => sr <| tv (lA (ds := [.int .i64 b.1.params, .int .i64 b.1.result, c, d]) n8 17 rfl rfl rfl rfl) rfl <| bE hp fun aT hy50 hp => tc 0 [_,_,_,_,_,_,_,_,_,_,_,_,_,_,_,_,_,_,_,_,_,_,_,_] rfl c27 (fun _ => qu (a1 := b.1) (l.ro.mono (subB 18 rfl)) (m.ro.mono (subB 19 rfl)) hy50) rfl ?_
        rintro _ _ ⟨bB, bC, rfl, rfl, aU⟩
        refine tv (ln u73 aU.ro rfl) rfl <| tm rfl <| nz <| nB <| bE hp fun bD bG bH => ?_
        have bI {al O y Z bJ} (aV : SlO 50 nY al y Z) (bK : (al, O) = bD) : ∀ w, St E H [bx j 41 [.int .i64 0, .int .i64 0, .slice none 0 0, .slice none 0 0], bx t 41 [.int .i64 b.1.params, .int .i64 b.1.result, i, y], N, Z] w → bz (ovr bJ [(4, .pointer (some ⟨j, 0, none⟩)), (14, .pointer (some ⟨t, 0, none⟩)), (15, .int .i64 O)]) w := by
         subst bK
         replace hp : pC.nx57 b h al O = some r := bH
         refine tg bA <| nv fun cq bL => sr <| tm rfl <| tv (bgt rfl rfl) rfl <| tm rfl <| TL.cut 5 fun bM bN => ?_
         have aW {bO} : ∀ w, St E H [bx j 41 [.int .i64 0, .int .i64 0, .slice none 0 0, .slice none 0 0], bx t 41 [.int .i64 b.1.params, .int .i64 b.1.result, i, y], N, Z] w → bM (ovr bO [(124, .bool (decide (O > 256 ∨ (len h.1) > 256))), (4, .pointer (some ⟨j, 0, none⟩)), (14, .pointer (some ⟨t, 0, none⟩))]) w := by
          refine tlg bN <| nz <| cD rfl hp (fun bP hp => ?_) fun bP hp => ?_
          · refine sr <| tv (n9 (vs := []) (ds := [.int .i64 0, .int .i64 0, .slice none 0 0, .slice none 0 0]) rfl (fun w => by kernel_rfl)) rfl <| tv (mI u63 rfl) rfl <| tS 0 m41 rfl rfl [.int .i64 0, .int .i64 0, .slice none 0 0, .slice none 0 0] rfl (oc rfl (oc rfl (oc rfl (oc rfl oc0)))) rfl rfl <| ta rfl <| nz <| nH <| W.new0 <| W.new0 <| W.new0 ?_
            obtain rfl := Option.some.inj hp
            exact fun w hw => retC2 hw rfl rfl rfl n8 3 rfl rfl ⟨(.slice none 0 0), ([] : FP), (.slice none 0 0), ([] : FP), (.iface 63 (.int .i64 5)), ([] : FP), rfl, rfl, (SlO.nil 3), (SlO.nil 50), (ErO.mk _ : ErO 63 106 108 (GErr.code 5) (.iface 63 (.int .i64 5)) [])⟩ (hw.pickA [2, 1, 0] rfl)
          · refine sk bL rfl <| sr <| tv (lA (ds := [.int .i64 b.1.params, .int .i64 b.1.result, i, y]) n8 1 rfl rfl rfl rfl) rfl <| tS 0 m41 rfl rfl [.int .i64 b.1.params, .int .i64 b.1.result, i, y] rfl (oc rfl (oc rfl (oc (p).one (oc (aV).one oc0)))) rfl rfl <| ta rfl <| nz <| nH <| W.new0 ?_
            obtain rfl := Option.some.inj hp
            exact fun w hw => retC2 hw rfl rfl rfl n8 1 rfl rfl ⟨i, N, y, Z, .nilIface, ([] : FP), rfl, rfl, p, aV, (ErO.nil : ErO 63 106 108 GErr.no .nilIface [])⟩ (hw.pickA [3, 4, 0] rfl)
         by_cases g : O > 256
         · exact gn rfl (bT g) rfl rfl <| gn rfl (bT g) rfl rfl <| gn rfl (bT g) rfl rfl <| gn rfl (bT g) rfl rfl <| tv (pT (bT g)) rfl <| nj aW (bOt g)
         · exact gy rfl (bF g) <| tv (fa o7 rfl) rfl <| gy rfl (bF g) <| tv (lb s25 1 rfl rfl rfl) rfl <| gy rfl (bF g) <| tv (ln u25 p.ro rfl) rfl <| gy rfl (bF g) <| tv (bgt rfl rfl) rfl <| tv (pF (bF g)) rfl <| nj aW (bOf g)
        refine W.new0 <| lp bG [24, 3, 20, 21, 14, 13, 12, 10, 11, 6, 7, 8, 9, 4, 5, 2, 0, 1] rfl (fun s e L => ∃ aa ab P am an aX, s = (aa, ab, P) ∧ SlO 50 nY aa am an ∧ e = ovr aX [(4, .pointer (some ⟨j, 0, none⟩)), (13, .pointer (some ⟨Y, 0, none⟩)), (14, .pointer (some ⟨t, 0, none⟩)), (15, .int .i64 ab), (89, bB), (90, .int .i64 (len aT)), (91, .int .i64 P)] ∧ L = [bx j 41 [.int .i64 0, .int .i64 0, .slice none 0 0, .slice none 0 0], bx Y 100 [.int .i64 b.1.params, .int .i64 b.1.result, c, d, B, F, K, aC, aE, i, aG, aI, aK, aP, aR], U, V, ag, aA, aB, aD, aF, N, aH, aJ, aL, aQ, aS, bx t 41 [.int .i64 b.1.params, .int .i64 b.1.result, i, am], an, bC]) ⟨_, _, _, (.slice none 0 0), ([] : FP), _, rfl, (SlO.nil 50), nC _ _ rfl, rfl⟩ ?_
        rintro _ _ _ ⟨aa, ab, P, am, an, aX, rfl, aY, rfl, rfl⟩ bQ hp bR
        replace hp : pC.bd57 b z D J o h ak aT aa ab P = some bQ := hp
        refine sr <| tv (blt rfl rfl) rfl <| nz <| nv fun cr bS => cD rfl hp (fun bU hp => ?_) fun bU hp => ?_
        · refine sk bS rfl <| nv fun cs bV => nB <| sr <| tm rfl <| ti u73 i25 (aU).ro hp rfl rfl rfl rfl ?_
          rintro bW ct cu _ hp ⟨cv, rfl, bX⟩ bY
          refine tv (lr s25 (Src.at_ 17 rfl) bY 0 rfl rfl) rfl <| ta rfl <| ta rfl <| nz <| sr <| tm rfl <| tm rfl <| tm rfl <| bE hp fun n hy75 hp => tc 0 [_,_,_,_,_,_,_,_,_,_,_,_,_,_,_,_,_,_] rfl c46 (fun _ => xj (a2 := (⟨(⟨b.1.params, b.1.result, b.1.regs, b.1.blocks⟩ : ny), z.1, D, J, o.1, o.2, h.1, h.2.1, h.2.2.1, h.2.2.2, ak.1, ak.2⟩ : nS)) (a31 := P) (a32 := bW) ((pi Y 100 _).mono (subB 1 rfl)) (l.ro.mono (subB 2 rfl)) (m.ro.mono (subB 3 rfl)) (C.ro.mono (subB 4 rfl)) (I.ro.mono (subB 5 rfl)) (M.ro.mono (subB 6 rfl)) (ai.ro.mono (subB 7 rfl)) (aj.ro.mono (subB 8 rfl)) (p.ro.mono (subB 9 rfl)) (aM.ro.mono (subB 10 rfl)) (aN.ro.mono (subB 11 rfl)) (aO.ro.mono (subB 12 rfl)) (bs.ro.mono (subB 13 rfl)) (bt.ro.mono (subB 14 rfl)) (bX.mono (subB 17 rfl)) hy75) rfl ?_
          rintro _ _ ⟨ac, bZ, ad, b0, ae, b1, rfl, rfl, ao, ap, aZ⟩
          exact tl i50 rfl fun cw => tS 0 m50 rfl rfl [ac, ad, .int .i64 n.term.kind, .int .i64 n.term.arg, ae] rfl (oc (ao).one (oc (ap).one (oc rfl (oc rfl (oc (aZ).one oc0))))) rfl rfl <| nz <| sr <| tm rfl <| tv (fa oE rfl) rfl <| tv (lb s47 0 rfl rfl rfl) rfl <| tv (ln u47 ao.ro rfl) rfl <| tv (fa oB rfl) rfl <| tv (lb s48 0 rfl rfl rfl) rfl <| tv (ln u48 ap.ro rfl) rfl <| tv (bad rfl rfl) rfl <| tv (bad rfl rfl) rfl <| tv (bad rfl rfl) rfl <| ta rfl <| nz <| nF <| tv (fa oa rfl) rfl <| tv (lb s39 19 rfl rfl rfl) rfl <| tv (lA (ds := [ac, ad, .int .i64 n.term.kind, .int .i64 n.term.arg, ae]) oY 0 rfl rfl rfl rfl) rfl <| tbs [(0, .agg #[ac, ad, .int .i64 n.term.kind, .int .i64 n.term.arg, ae])] [ac, ad, .int .i64 n.term.kind, .int .i64 n.term.arg, ae] u39 i50 Ag rfl rfl rfl rfl fun cx => tp [21, 0, 2, 3, 4, 1, 5, 6, 7, 8, 9, 10, 11, 12, 13, 14, 15, 16, 17, 18, 19, 20, 22] [_,_,_,_,_,_,_,_,_,_,_,_,_,_,_,_,_,_,_,_,_,_,_] rfl rfl <| tf 2 3 [_,_,_,_,_,_,_,_,_,_,_,_,_,_,_,_,_,_,_,_,_] rfl <| tp2 u39 i50 aY hp (RepL.to (G' := bZ ++ (b0 ++ (b1))) (RepL.cons (k := nY) (x := n) ⟨_, _, _, _, _, _, rfl, rfl, ao, ap, aZ⟩ RepL.nil) (by simp)) rfl rfl rfl rfl rfl rfl rfl rfl rfl fun cy b2 b3 a0 hp => tv (fa oa rfl) rfl <| ts 17 m39 rfl rfl a0.o1 rfl <| nl <| tg bV <| nF <| tv (bad rfl rfl) rfl <| tm rfl <| nl <| gk hp [2, 3, 4, 5, 6, 7, 8, 9, 10, 11, 12, 13, 14, 15, 16, 17, 0, 18] ⟨_, _, _, b2, b3, _, rfl, a0, nC _ _ rfl, rfl⟩
        · exact nN <| jn [0, 15, 9, 16] (bI aY (nK hp bR))
   by_cases f : a4 < 0
   · exact gn rfl (bT f) rfl rfl <| gn rfl (bT f) rfl rfl <| gn rfl (bT f) rfl rfl <| gn rfl (bT f) rfl rfl <| gn rfl (bT f) rfl rfl <| tv (pT (bT f)) rfl <| nj ar (bOt f)
   · exact gy rfl (bF f) <| tm rfl <| gy rfl (bF f) <| tv (fa oR rfl) rfl <| gy rfl (bF f) <| tv (lb s33 2 rfl rfl rfl) rfl <| gy rfl (bF f) <| tv (ln u33 Q rfl) rfl <| gy rfl (bF f) <| tv (bge rfl rfl) rfl <| tv (pF (bF f)) rfl <| nj ar (bOf f)
/-! ### fettle/fettleref02.CopyFunc -/
abbrev oy.R (r : ny) (v : Value) (A : List FP) : Prop := ∃ (w1 : Value) (a : FP) (w2 : Value) (b : FP), .agg #[.int .i64 r.params, .int .i64 r.result, w1, w2] = v ∧ A = [a, b] ∧ SlO 3 (nt .i64) r.regs w1 a ∧ SlO 50 nY r.blocks w2 b
def oy.nx12 (a1 : ny) (a : List Int) (b : List nA) : Option ny :=
  some (⟨a1.params, a1.result, a, b⟩ : ny)
def oy.nx42 (b : List nA) (c : Int) (a : nA) (d : List Int) (e : List PPhi) (f : List nL) : Option (Ex (List nA) (List nA × Int)) :=
  (cat b [(⟨e, f, (⟨a.term.kind, a.term.arg, d⟩ : PTerm)⟩ : nA)]).bind fun g =>
  some (.go (g, (w64 (c + 1))))
def oy.bd42 (c : nA) (d : List nL) (b : Int) : Option (Ex (List nL) (List nL × Int)) :=
  if b < (len c.ins) then
    (idx c.ins b).bind fun a =>
    (cat ([] : List Int) a.args).bind fun e =>
    (cat d [(⟨a.op, a.dst, e, a.imm, a.fn⟩ : nL)]).bind fun f =>
    some (.go (f, (w64 (b + 1))))
  else
    some (.ret d)
def oy.nx33 (b : List nA) (c : Int) (a : nA) (d : List Int) (e : List PPhi) : Option (Ex (List nA) (List nA × Int)) :=
  (whl (fun (s : (List nL × Int)) => oy.bd42 a s.1 s.2) nD (([] : List nL), 0)).bind fun z =>
  oy.nx42 b c a d e z
def oy.jn65 (a : Int) (b : List PPhi) : Option (Ex (List PPhi) (List PPhi × Int)) :=
  some (.go (b, (w64 (a + 1))))
def oy.bd33 (b : nA) (c : List PPhi) (a : Int) : Option (Ex (List PPhi) (List PPhi × Int)) :=
  if a < (len b.phis) then
    (idx b.phis a).bind fun d =>
    (idx b.phis a).bind fun e =>
    (cat ([] : List Int) e.args).bind fun f =>
    (cat c [(⟨d.dst, f⟩ : PPhi)]).bind fun g =>
    oy.jn65 a g
  else
    some (.ret c)
def oy.jn25 (b : List nA) (c : Int) (a : nA) (d : List Int) : Option (Ex (List nA) (List nA × Int)) :=
  (whl (fun (s : (List PPhi × Int)) => oy.bd33 a s.1 s.2) nD (([] : List PPhi), 0)).bind fun z =>
  oy.nx33 b c a d z
def oy.bd12 (a1 : ny) (b : List nA) (a : Int) : Option (Ex (List nA) (List nA × Int)) :=
  if a < (len a1.blocks) then
    (idx a1.blocks a).bind fun c =>
    (cat ([] : List Int) c.term.to).bind fun d =>
    oy.jn25 b a c d
  else
    some (.ret b)
def oy.jn4 (a1 : ny) (a : List Int) : Option ny :=
  (whl (fun (s : (List nA × Int)) => oy.bd12 a1 s.1 s.2) nD (([] : List nA), 0)).bind fun z =>
  oy.nx12 a1 a z
def oy (a1 : ny) : Option ny :=
  (cat ([] : List Int) a1.regs).bind fun a =>
  oy.jn4 a1 a
set_option maxHeartbeats 4000000 in
theorem sP {E : World} {H : FP} {w : World} {a1 : ny} {v2 : Value} {j : Value} {r : ny} (aj : SlI (nt .i64) H a1.regs v2) (aG : SlI nY H a1.blocks j) (hp : oy a1 = some r) (hst : St E H [] w) :
    Fn Try.prog 14 #[.agg #[.int .i64 a1.params, .int .i64 a1.result, v2, j]] w fun v w' => ∃ A, oy.R r v A ∧ St E H A w' := by
 refine Fn.bodyV (fn := Try.f14) (args := [.agg #[.int .i64 a1.params, .int .i64 a1.result, v2, j]]) E H [] 101 Try.func14 rfl rfl (leb rfl) hst <| sr <| tb [.int .i64 a1.params, .int .i64 a1.result, v2, j] rfl rfl fun f => tl i41 rfl fun c => nz <| nv fun a2 a3 => ?_
 have ak {am d l m a4} (aH : SlO 3 (nt .i64) am l m) (hp : oy.jn4 a1 am = some r) : ∀ w, St E H [bx f 41 [.int .i64 a1.params, .int .i64 a1.result, v2, j], bx c 41 [.int .i64 0, .int .i64 0, .slice none 0 0, .slice none 0 0], bx d 41 [.int .i64 a1.params, .int .i64 a1.result, l, .slice none 0 0], m] w → a2 (ovr a4 [(1, .pointer (some ⟨f, 0, none⟩)), (2, .pointer (some ⟨c, 0, none⟩)), (3, .pointer (some ⟨d, 0, none⟩))]) w := by
  refine tg a3 <| nv fun a5 a6 => sr <| ta rfl <| nz <| nB <| bE hp fun a7 a8 a9 => ?_
  have ba {an Q ao bb} (aI : SlO 50 nY an Q ao) (bc : an = a7) : ∀ w, St E H [bx c 41 [.int .i64 0, .int .i64 0, .slice none 0 0, .slice none 0 0], bx d 41 [.int .i64 a1.params, .int .i64 a1.result, l, Q], m, ao] w → a5 (ovr bb [(2, .pointer (some ⟨c, 0, none⟩)), (3, .pointer (some ⟨d, 0, none⟩))]) w := by
   subst bc
   replace hp : oy.nx12 a1 am an = some r := a9
   refine tg a6 <| sr <| tv (lA (ds := [.int .i64 a1.params, .int .i64 a1.result, l, Q]) n8 1 rfl rfl rfl rfl) rfl <| tS 0 m41 rfl rfl [.int .i64 a1.params, .int .i64 a1.result, l, Q] rfl (oc rfl (oc rfl (oc (aH).one (oc (aI).one oc0)))) rfl rfl <| nz <| nH ?_
   obtain rfl := Option.some.inj hp
   exact fun w hw => retC1 hw rfl rfl n8 0 rfl rfl ⟨l, m, Q, ao, rfl, rfl, aH, aI⟩ (hw.pickA [2, 3] rfl)
  refine W.new0 <| lp a8 [1, 2, 3, 4, 0] rfl (fun s e L => ∃ K n q t aJ, s = (K, n) ∧ SlO 50 nY K q t ∧ e = ovr aJ [(1, .pointer (some ⟨f, 0, none⟩)), (2, .pointer (some ⟨c, 0, none⟩)), (3, .pointer (some ⟨d, 0, none⟩)), (4, .int .i64 n)] ∧ L = [bx f 41 [.int .i64 a1.params, .int .i64 a1.result, v2, j], bx c 41 [.int .i64 0, .int .i64 0, .slice none 0 0, .slice none 0 0], bx d 41 [.int .i64 a1.params, .int .i64 a1.result, l, q], m, t]) ⟨_, _, (.slice none 0 0), ([] : FP), _, rfl, (SlO.nil 50), nC _ _ rfl, rfl⟩ ?_
  rintro _ _ _ ⟨K, n, q, t, aJ, rfl, aK, rfl, rfl⟩ Y hp be
  replace hp : oy.bd12 a1 K n = some Y := hp
  refine nv fun cN bf => sr <| tm rfl <| tv (fa oa rfl) rfl <| tv (lb s39 0 rfl rfl rfl) rfl <| tv (ln u39 aG rfl) rfl <| tv (blt rfl rfl) rfl <| nz <| cD rfl hp (fun bg hp => ?_) fun bg hp => ?_
  · refine sk bf rfl <| nv fun cO bh => nB <| sr <| tv (fa oa rfl) rfl <| tv (lb s39 0 rfl rfl rfl) rfl <| tm rfl <| ti u39 i50 aG hp rfl rfl rfl rfl ?_
    rintro a cP cQ _ hp ⟨D, F, G, rfl, Z, ap, aa⟩ bi
    refine tv (lR (ds := [D, F, .int .i64 a.term.kind, .int .i64 a.term.arg, G]) oY sH bi 0 rfl rfl rfl) rfl <| tl i50 rfl fun o => tS 0 m50 rfl rfl [D, F, .int .i64 a.term.kind, .int .i64 a.term.arg, G] rfl (oc (Z).one (oc (ap).one (oc rfl (oc rfl (oc (aa).one oc0))))) rfl rfl <| nz <| nv fun bj bk => ?_
    have aq {S p C I bl} (bm : SlO 3 (nt .i64) S C I) (hp : oy.jn25 K n a S = some Y) : ∀ w, St E H [bx f 41 [.int .i64 a1.params, .int .i64 a1.result, v2, j], bx c 41 [.int .i64 0, .int .i64 0, .slice none 0 0, .slice none 0 0], bx d 41 [.int .i64 a1.params, .int .i64 a1.result, l, q], m, t, bx o 50 [D, F, .int .i64 a.term.kind, .int .i64 a.term.arg, G], bx p 50 [.slice none 0 0, .slice none 0 0, .int .i64 a.term.kind, .int .i64 a.term.arg, C], I] w → bj (ovr bl [(1, .pointer (some ⟨f, 0, none⟩)), (2, .pointer (some ⟨c, 0, none⟩)), (3, .pointer (some ⟨d, 0, none⟩)), (4, .int .i64 n), (5, .pointer (some ⟨o, 0, none⟩)), (6, .pointer (some ⟨p, 0, none⟩))]) w := by
     refine tg bk <| nv fun bn bo => sr <| ta rfl <| nz <| nB <| bE hp fun bp bq br => ?_
     have bs {T M U bt} (bu : SlO 70 oS T M U) (bv : T = bp) : ∀ w, St E H [bx f 41 [.int .i64 a1.params, .int .i64 a1.result, v2, j], bx c 41 [.int .i64 0, .int .i64 0, .slice none 0 0, .slice none 0 0], bx d 41 [.int .i64 a1.params, .int .i64 a1.result, l, q], m, t, bx o 50 [D, F, .int .i64 a.term.kind, .int .i64 a.term.arg, G], bx p 50 [M, .slice none 0 0, .int .i64 a.term.kind, .int .i64 a.term.arg, C], U, I] w → bn (ovr bt [(1, .pointer (some ⟨f, 0, none⟩)), (2, .pointer (some ⟨c, 0, none⟩)), (3, .pointer (some ⟨d, 0, none⟩)), (4, .int .i64 n), (5, .pointer (some ⟨o, 0, none⟩)), (6, .pointer (some ⟨p, 0, none⟩))]) w := by
      subst bv
      replace hp : oy.nx33 K n a S T = some Y := br
      refine tg bo <| nv fun bw bz => sr <| ta rfl <| nz <| nB <| bE hp fun bA bB bC => ?_
      have bD {ab V ar bF} (bG : SlO 52 oN ab V ar) (bH : ab = bA) : ∀ w, St E H [bx f 41 [.int .i64 a1.params, .int .i64 a1.result, v2, j], bx c 41 [.int .i64 0, .int .i64 0, .slice none 0 0, .slice none 0 0], bx d 41 [.int .i64 a1.params, .int .i64 a1.result, l, q], m, t, bx p 50 [M, V, .int .i64 a.term.kind, .int .i64 a.term.arg, C], U, ar, I] w → bw (ovr bF [(1, .pointer (some ⟨f, 0, none⟩)), (2, .pointer (some ⟨c, 0, none⟩)), (3, .pointer (some ⟨d, 0, none⟩)), (4, .int .i64 n), (6, .pointer (some ⟨p, 0, none⟩))]) w := by
       subst bH
       replace hp : oy.nx42 K n a S T ab = some Y := bC
       exact tg bz <| nF <| tv (fa oa rfl) rfl <| tv (lb s39 2 rfl rfl rfl) rfl <| tv (lA (ds := [M, V, .int .i64 a.term.kind, .int .i64 a.term.arg, C]) oY 5 rfl rfl rfl rfl) rfl <| tbs [(0, .agg #[M, V, .int .i64 a.term.kind, .int .i64 a.term.arg, C])] [M, V, .int .i64 a.term.kind, .int .i64 a.term.arg, C] u39 i50 Ag rfl rfl rfl rfl fun cR => tp [5, 0, 7, 8, 9, 1, 2, 3, 4, 6] [_,_,_,_,_,_,_,_,_,_] rfl rfl <| tf 2 3 [_,_,_,_,_,_,_,_] rfl <| tp2 u39 i50 aK hp (RepL.to (G' := U ++ (ar ++ (I))) (RepL.cons (k := nY) (x := (⟨T, ab, (⟨a.term.kind, a.term.arg, S⟩ : PTerm)⟩ : nA)) ⟨_, _, _, _, _, _, rfl, rfl, bu, bG, bm⟩ RepL.nil) (by simp)) rfl rfl rfl rfl rfl rfl rfl rfl rfl fun cS bI bJ aL hp => tv (fa oa rfl) rfl <| ts 3 m39 rfl rfl aL.o1 rfl <| nl <| tg bh <| nF <| tm rfl <| tv (bad rfl rfl) rfl <| ta rfl <| nl <| gk hp [1, 2, 3, 4, 0] ⟨_, _, bI, bJ, _, rfl, aL, nC _ _ rfl, rfl⟩
      refine W.new0 <| lp bB [1, 2, 3, 4, 5, 6, 7, 8, 0, 9] rfl (fun s e L => ∃ ac ad au av aM, s = (ac, ad) ∧ SlO 52 oN ac au av ∧ e = ovr aM [(1, .pointer (some ⟨f, 0, none⟩)), (2, .pointer (some ⟨c, 0, none⟩)), (3, .pointer (some ⟨d, 0, none⟩)), (4, .int .i64 n), (5, .pointer (some ⟨o, 0, none⟩)), (6, .pointer (some ⟨p, 0, none⟩)), (8, .int .i64 ad)] ∧ L = [bx f 41 [.int .i64 a1.params, .int .i64 a1.result, v2, j], bx c 41 [.int .i64 0, .int .i64 0, .slice none 0 0, .slice none 0 0], bx d 41 [.int .i64 a1.params, .int .i64 a1.result, l, q], m, t, bx o 50 [D, F, .int .i64 a.term.kind, .int .i64 a.term.arg, G], bx p 50 [M, au, .int .i64 a.term.kind, .int .i64 a.term.arg, C], U, av, I]) ⟨_, _, (.slice none 0 0), ([] : FP), _, rfl, (SlO.nil 52), nC _ _ rfl, rfl⟩ ?_
      rintro _ _ _ ⟨ac, ad, au, av, aM, rfl, aN, rfl, rfl⟩ bK hp bL
      replace hp : oy.bd42 a ac ad = some bK := hp
      refine nv fun cT bM => sr <| tm rfl <| tv (fa oB rfl) rfl <| tv (lb s48 5 rfl rfl rfl) rfl <| tv (ln u48 ap rfl) rfl <| tv (blt rfl rfl) rfl <| nz <| cD rfl hp (fun bN hp => ?_) fun bN hp => ?_
      · refine sk bM rfl <| nv fun cU bO => nB <| sr <| tv (fa oB rfl) rfl <| tv (lb s48 5 rfl rfl rfl) rfl <| tm rfl <| ti u48 i52 ap hp rfl rfl rfl rfl ?_
        rintro b cV cW _ hp ⟨aO, rfl, aP⟩ bP
        exact tv (lR (ds := [.int .i64 b.op, .int .i64 b.dst, aO, .int .i64 b.imm, .int .i64 b.fn]) o5 sH bP 0 rfl rfl rfl) rfl <| tl i52 rfl fun cX => tS 0 m52 rfl rfl [.int .i64 b.op, .int .i64 b.dst, aO, .int .i64 b.imm, .int .i64 b.fn] rfl (oc rfl (oc rfl (oc (aP).one (oc rfl (oc rfl oc0))))) rfl rfl <| nz <| sr <| TL.bs0 u25 i3 (ltb rfl) fun bQ => tv (fa o6 rfl) rfl <| tv (lb s25 1 rfl rfl rfl) rfl <| tpI (fInt .i64) u25 i3 (SlO.lit0 (k := (nt .i64)) bQ) aP sH hp rfl rfl rfl rfl rfl rfl rfl fun bR aw bS aQ hp => tv (fa o6 rfl) rfl <| ts 1 m25 rfl rfl aQ.o1 rfl <| nz <| nF <| tv (fa oB rfl) rfl <| tv (lb s48 8 rfl rfl rfl) rfl <| tv (lA (ds := [.int .i64 b.op, .int .i64 b.dst, aw, .int .i64 b.imm, .int .i64 b.fn]) o5 1 rfl rfl rfl rfl) rfl <| tbs [(0, .agg #[.int .i64 b.op, .int .i64 b.dst, aw, .int .i64 b.imm, .int .i64 b.fn])] [.int .i64 b.op, .int .i64 b.dst, aw, .int .i64 b.imm, .int .i64 b.fn] u48 i52 Ag rfl rfl rfl rfl fun cY => tp [11, 0, 1, 2, 3, 4, 5, 6, 7, 8, 9, 10, 12] [_,_,_,_,_,_,_,_,_,_,_,_,_] rfl rfl <| tp2 u48 i52 aN hp (RepL.to (G' := bS) (RepL.cons (k := oN) (x := (⟨b.op, b.dst, bR, b.imm, b.fn⟩ : nL)) ⟨_, _, rfl, rfl, aQ⟩ RepL.nil) (by simp)) rfl rfl rfl rfl rfl rfl rfl rfl rfl fun cZ bT bU aR hp => tv (fa oB rfl) rfl <| ts 8 m48 rfl rfl aR.o1 rfl <| nl <| tg bO <| nF <| tm rfl <| tv (bad rfl rfl) rfl <| ta rfl <| nl <| gk hp [2, 3, 4, 5, 6, 7, 8, 9, 0, 10] ⟨_, _, bT, bU, _, rfl, aR, nC _ _ rfl, rfl⟩
      · exact nN <| jn [0, 1, 2, 3, 4, 6, 7, 8, 9] (bD aN (nK hp bL))
     refine W.new0 <| lp bq [1, 2, 3, 4, 5, 6, 7, 0, 8] rfl (fun s e L => ∃ ae N ax ay aS, s = (ae, N) ∧ SlO 70 oS ae ax ay ∧ e = ovr aS [(1, .pointer (some ⟨f, 0, none⟩)), (2, .pointer (some ⟨c, 0, none⟩)), (3, .pointer (some ⟨d, 0, none⟩)), (4, .int .i64 n), (5, .pointer (some ⟨o, 0, none⟩)), (6, .pointer (some ⟨p, 0, none⟩)), (7, .int .i64 N)] ∧ L = [bx f 41 [.int .i64 a1.params, .int .i64 a1.result, v2, j], bx c 41 [.int .i64 0, .int .i64 0, .slice none 0 0, .slice none 0 0], bx d 41 [.int .i64 a1.params, .int .i64 a1.result, l, q], m, t, bx o 50 [D, F, .int .i64 a.term.kind, .int .i64 a.term.arg, G], bx p 50 [ax, .slice none 0 0, .int .i64 a.term.kind, .int .i64 a.term.arg, C], ay, I]) ⟨_, _, (.slice none 0 0), ([] : FP), _, rfl, (SlO.nil 70), nC _ _ rfl, rfl⟩ ?_
     rintro _ _ _ ⟨ae, N, ax, ay, aS, rfl, X, rfl, rfl⟩ aT hp bV
     replace hp : oy.bd33 a ae N = some aT := hp
     refine nv fun c0 bW => sr <| tm rfl <| tv (fa oE rfl) rfl <| tv (lb s47 5 rfl rfl rfl) rfl <| tv (ln u47 Z rfl) rfl <| tv (blt rfl rfl) rfl <| nz <| cD rfl hp (fun bX hp => ?_) fun bX hp => ?_
     · refine sk bW rfl <| nv fun bY bZ => ?_
       have af {aU az aA b0} (b1 : SlO 70 oS aU az aA) (hp : oy.jn65 N aU = some aT) : ∀ w, St E H [bx f 41 [.int .i64 a1.params, .int .i64 a1.result, v2, j], bx c 41 [.int .i64 0, .int .i64 0, .slice none 0 0, .slice none 0 0], bx d 41 [.int .i64 a1.params, .int .i64 a1.result, l, q], m, t, bx o 50 [D, F, .int .i64 a.term.kind, .int .i64 a.term.arg, G], bx p 50 [az, .slice none 0 0, .int .i64 a.term.kind, .int .i64 a.term.arg, C], aA, I] w → bY (ovr b0 [(1, .pointer (some ⟨f, 0, none⟩)), (2, .pointer (some ⟨c, 0, none⟩)), (3, .pointer (some ⟨d, 0, none⟩)), (4, .int .i64 n), (5, .pointer (some ⟨o, 0, none⟩)), (6, .pointer (some ⟨p, 0, none⟩)), (7, .int .i64 N)]) w := by
        exact tg bZ <| nF <| tm rfl <| tv (bad rfl rfl) rfl <| ta rfl <| nl <| gk hp [0, 1, 2, 3, 4, 5, 6, 7, 8] ⟨_, _, az, aA, _, rfl, b1, nC _ _ rfl, rfl⟩
       refine nB <| ch mix [bx f 41 [.int .i64 a1.params, .int .i64 a1.result, v2, j], bx c 41 [.int .i64 0, .int .i64 0, .slice none 0 0, .slice none 0 0], bx d 41 [.int .i64 a1.params, .int .i64 a1.result, l, q], m, t, bx o 50 [D, F, .int .i64 a.term.kind, .int .i64 a.term.arg, G], I] (nq 0 rfl (nq 1 rfl (nq 2 rfl (nq 3 rfl (nq 4 rfl (nq 5 rfl (nq 8 rfl ns))))))) <| hv 0 rfl (fa oE rfl) Ag rfl <| hv 2 rfl (fa oE rfl) Ag rfl <| hv 3 rfl (lbG s47 5 rfl rfl rfl) Ag rfl <| hv 4 rfl mv Ag rfl <| hi 5 rfl u47 i70 Z hp rfl rfl rfl Ag rfl ?_
       rintro g c1 c2 _ hp ⟨c3, rfl, c4⟩ b2
       refine hv 6 rfl (fa qd rfl) Ag rfl <| hv 7 rfl (lr s3 srcInH b2 0 rfl rfl) Ag rfl <| hv 9 rfl (fa oE rfl) Ag rfl <| hv 10 rfl (lbG s47 5 rfl rfl rfl) Ag rfl <| hv 11 rfl mv Ag rfl <| hi 12 rfl u47 i70 Z hp rfl rfl rfl Ag rfl ?_
       rintro c5 c6 c7 _ hp ⟨c8, rfl, aB⟩ b3
       refine hv 13 rfl (fa py rfl) Ag rfl <| hv 14 rfl (lr s25 srcInH b3 1 rfl rfl) Ag rfl <| nT [1, 8] Ag (by simp) (nG ⟨_, rfl, fun c9 b4 => ?_⟩ (nG ⟨_, rfl, fun da b5 => ?_⟩ nU))
       · exact tv (lb s47 6 rfl rfl rfl) rfl <| hk b4 (nq 0 rfl (nq 1 rfl (nq 2 rfl (nq 3 rfl (nq 4 rfl (nq 5 rfl (nq 8 rfl ns))))))) <| ho 8 rfl Ag fun db b6 => TL.bs0 u25 i3 (ltb rfl) fun ag => hk b6 (nq 1 rfl (nq 2 rfl (nq 3 rfl (nq 4 rfl (nq 5 rfl (nq 6 rfl (nq 9 rfl ns))))))) <| ho 15 rfl Ag fun dc b7 => tpI (fInt .i64) u25 i3 (SlO.lit0 (k := (nt .i64)) ag) aB sH hp rfl rfl rfl rfl rfl rfl rfl fun O i P J hp => hk b7 (nq 1 rfl (nq 2 rfl (nq 3 rfl (nq 4 rfl (nq 5 rfl (nq 6 rfl (nq 9 rfl ns))))))) <| hv 16 rfl (n9 (vs := [(0, .int .i64 g.dst), (1, i)]) (ds := [.int .i64 g.dst, i]) rfl (fun w => by obtain ⟨_, _, rfl⟩ := (J).len; kernel_rfl)) Ag rfl <| ho 17 rfl Ag fun dd b8 => tbs [(0, .agg #[.int .i64 g.dst, i])] [.int .i64 g.dst, i] u47 i70 Ag rfl rfl rfl rfl fun aC => hk b8 (nq 2 rfl (nq 3 rfl (nq 4 rfl (nq 5 rfl (nq 6 rfl (nq 7 rfl (nq 10 rfl ns))))))) <| ho 18 rfl Ag fun de b9 => tp [9, 0, 1, 2, 3, 4, 5, 6, 7, 8, 10] [_,_,_,_,_,_,_,_,_,_,_] rfl rfl <| tp2 u47 i70 X hp (RepL.to (G' := P) (RepL.cons (k := oS) (x := (⟨g.dst, O⟩ : PPhi)) ⟨_, _, rfl, rfl, J⟩ RepL.nil) (by simp)) rfl rfl rfl rfl rfl rfl rfl rfl rfl fun aD aE aF u hp => hk b9 (nq 1 rfl (nq 2 rfl (nq 3 rfl (nq 4 rfl (nq 5 rfl (nq 6 rfl (nq 8 rfl ns))))))) <| hv 19 rfl (fa oE rfl) Ag rfl <| ho 20 rfl Ag fun df ca => ts 7 m47 rfl rfl u.o1 rfl <| hk ca (nq 1 rfl (nq 2 rfl (nq 3 rfl (nq 4 rfl (nq 5 rfl (nq 6 rfl (nq 8 rfl ns))))))) <| hz Ag <| jn [1, 2, 3, 4, 5, 6, 7, 0, 8] (af u hp)
       · refine TL.bs0 u25 i3 (ltb rfl) fun ag => hk b5 (nq 1 rfl (nq 2 rfl (nq 3 rfl (nq 4 rfl (nq 5 rfl (nq 6 rfl (nq 9 rfl ns))))))) <| nT [1, 15] Ag (by simp) (nG ⟨_, rfl, fun dg cb => ?_⟩ (nG ⟨_, rfl, fun dh cc => ?_⟩ nU))
         · exact tv (lb s47 7 rfl rfl rfl) rfl <| hk cb (nq 1 rfl (nq 2 rfl (nq 3 rfl (nq 4 rfl (nq 5 rfl (nq 6 rfl (nq 9 rfl ns))))))) <| ho 15 rfl Ag fun di cd => tpI (fInt .i64) u25 i3 (SlO.lit0 (k := (nt .i64)) ag) aB sH hp rfl rfl rfl rfl rfl rfl rfl fun O i P J hp => hk cd (nq 1 rfl (nq 2 rfl (nq 3 rfl (nq 4 rfl (nq 5 rfl (nq 6 rfl (nq 9 rfl ns))))))) <| hv 16 rfl (n9 (vs := [(0, .int .i64 g.dst), (1, i)]) (ds := [.int .i64 g.dst, i]) rfl (fun w => by obtain ⟨_, _, rfl⟩ := (J).len; kernel_rfl)) Ag rfl <| ho 17 rfl Ag fun dj ce => tbs [(0, .agg #[.int .i64 g.dst, i])] [.int .i64 g.dst, i] u47 i70 Ag rfl rfl rfl rfl fun aC => hk ce (nq 2 rfl (nq 3 rfl (nq 4 rfl (nq 5 rfl (nq 6 rfl (nq 7 rfl (nq 10 rfl ns))))))) <| ho 18 rfl Ag fun dk cf => tp [9, 0, 1, 2, 3, 4, 5, 6, 7, 8, 10] [_,_,_,_,_,_,_,_,_,_,_] rfl rfl <| tp2 u47 i70 X hp (RepL.to (G' := P) (RepL.cons (k := oS) (x := (⟨g.dst, O⟩ : PPhi)) ⟨_, _, rfl, rfl, J⟩ RepL.nil) (by simp)) rfl rfl rfl rfl rfl rfl rfl rfl rfl fun aD aE aF u hp => hk cf (nq 1 rfl (nq 2 rfl (nq 3 rfl (nq 4 rfl (nq 5 rfl (nq 6 rfl (nq 8 rfl ns))))))) <| hv 19 rfl (fa oE rfl) Ag rfl <| ho 20 rfl Ag fun dl cg => ts 7 m47 rfl rfl u.o1 rfl <| hk cg (nq 1 rfl (nq 2 rfl (nq 3 rfl (nq 4 rfl (nq 5 rfl (nq 6 rfl (nq 8 rfl ns))))))) <| hz Ag <| jn [1, 2, 3, 4, 5, 6, 7, 0, 8] (af u hp)
         · refine tpI (fInt .i64) u25 i3 (SlO.lit0 (k := (nt .i64)) ag) aB sH hp rfl rfl rfl rfl rfl rfl rfl fun O i P J hp => hk cc (nq 1 rfl (nq 2 rfl (nq 3 rfl (nq 4 rfl (nq 5 rfl (nq 6 rfl (nq 9 rfl ns))))))) <| hv 16 rfl (n9 (vs := [(0, .int .i64 g.dst), (1, i)]) (ds := [.int .i64 g.dst, i]) rfl (fun w => by obtain ⟨_, _, rfl⟩ := (J).len; kernel_rfl)) Ag rfl <| nT [1, 17] Ag (by simp) (nG ⟨_, rfl, fun dm ci => ?_⟩ (nG ⟨_, rfl, fun dn cj => ?_⟩ nU))
           · exact tv (lb s47 7 rfl rfl rfl) rfl <| hk ci (nq 1 rfl (nq 2 rfl (nq 3 rfl (nq 4 rfl (nq 5 rfl (nq 6 rfl (nq 9 rfl ns))))))) <| ho 17 rfl Ag fun dp ck => tbs [(0, .agg #[.int .i64 g.dst, i])] [.int .i64 g.dst, i] u47 i70 Ag rfl rfl rfl rfl fun aC => hk ck (nq 2 rfl (nq 3 rfl (nq 4 rfl (nq 5 rfl (nq 6 rfl (nq 7 rfl (nq 10 rfl ns))))))) <| ho 18 rfl Ag fun dq cl => tp [9, 0, 1, 2, 3, 4, 5, 6, 7, 8, 10] [_,_,_,_,_,_,_,_,_,_,_] rfl rfl <| tp2 u47 i70 X hp (RepL.to (G' := P) (RepL.cons (k := oS) (x := (⟨g.dst, O⟩ : PPhi)) ⟨_, _, rfl, rfl, J⟩ RepL.nil) (by simp)) rfl rfl rfl rfl rfl rfl rfl rfl rfl fun aD aE aF u hp => hk cl (nq 1 rfl (nq 2 rfl (nq 3 rfl (nq 4 rfl (nq 5 rfl (nq 6 rfl (nq 8 rfl ns))))))) <| hv 19 rfl (fa oE rfl) Ag rfl <| ho 20 rfl Ag fun dr cm => ts 7 m47 rfl rfl u.o1 rfl <| hk cm (nq 1 rfl (nq 2 rfl (nq 3 rfl (nq 4 rfl (nq 5 rfl (nq 6 rfl (nq 8 rfl ns))))))) <| hz Ag <| jn [1, 2, 3, 4, 5, 6, 7, 0, 8] (af u hp)
           · exact tbs [(0, .agg #[.int .i64 g.dst, i])] [.int .i64 g.dst, i] u47 i70 Ag rfl rfl rfl rfl fun aC => hk cj (nq 2 rfl (nq 3 rfl (nq 4 rfl (nq 5 rfl (nq 6 rfl (nq 7 rfl (nq 10 rfl ns))))))) <| ho 1 rfl Ag fun dt cn => tv (lb s47 8 rfl rfl rfl) rfl <| hk cn (nq 2 rfl (nq 3 rfl (nq 4 rfl (nq 5 rfl (nq 6 rfl (nq 7 rfl (nq 10 rfl ns))))))) <| ho 18 rfl Ag fun du co => tp [9, 0, 1, 2, 3, 4, 5, 6, 7, 8, 10] [_,_,_,_,_,_,_,_,_,_,_] rfl rfl <| tp2 u47 i70 X hp (RepL.to (G' := P) (RepL.cons (k := oS) (x := (⟨g.dst, O⟩ : PPhi)) ⟨_, _, rfl, rfl, J⟩ RepL.nil) (by simp)) rfl rfl rfl rfl rfl rfl rfl rfl rfl fun aD aE aF u hp => hk co (nq 1 rfl (nq 2 rfl (nq 3 rfl (nq 4 rfl (nq 5 rfl (nq 6 rfl (nq 8 rfl ns))))))) <| hv 19 rfl (fa oE rfl) Ag rfl <| ho 20 rfl Ag fun dv cp => ts 7 m47 rfl rfl u.o1 rfl <| hk cp (nq 1 rfl (nq 2 rfl (nq 3 rfl (nq 4 rfl (nq 5 rfl (nq 6 rfl (nq 8 rfl ns))))))) <| hz Ag <| jn [1, 2, 3, 4, 5, 6, 7, 0, 8] (af u hp)
     · exact nN <| jn [0, 1, 2, 3, 4, 5, 6, 7, 8] (bs X (nK hp bV))
    refine ch mix [bx o 50 [D, F, .int .i64 a.term.kind, .int .i64 a.term.arg, G], bx f 41 [.int .i64 a1.params, .int .i64 a1.result, v2, j], bx c 41 [.int .i64 0, .int .i64 0, .slice none 0 0, .slice none 0 0], bx d 41 [.int .i64 a1.params, .int .i64 a1.result, l, q], m, t] (nq 0 rfl (nq 1 rfl (nq 2 rfl (nq 3 rfl (nq 4 rfl (nq 5 rfl ns)))))) <| hv 0 rfl (fa oQ rfl) Ag rfl <| hv 1 rfl (fa p6 rfl) Ag rfl <| hv 2 rfl (lbG s3 0 rfl rfl rfl) Ag rfl <| hv 3 rfl (fa oQ rfl) Ag rfl <| hv 4 rfl (fa pp rfl) Ag rfl <| hv 5 rfl (lbG s3 0 rfl rfl rfl) Ag rfl <| hv 7 rfl (fa oQ rfl) Ag rfl <| hv 8 rfl (fa o8 rfl) Ag rfl <| hv 9 rfl (lbG s25 0 rfl rfl rfl) Ag rfl <| nT [6, 13] Ag (by simp) (nG ⟨_, rfl, fun dw cq => ?_⟩ (nG ⟨_, rfl, fun dx cr => ?_⟩ nU))
    · refine TL.bs0 u25 i3 (ltb rfl) fun ah => hk cq (nq 1 rfl (nq 2 rfl (nq 3 rfl (nq 4 rfl (nq 5 rfl (nq 6 rfl ns)))))) <| nT [10, 13] Ag (by simp) (nG ⟨_, rfl, fun dy cs => ?_⟩ (nG ⟨_, rfl, fun dz ct => ?_⟩ nU))
      · exact tpI (fInt .i64) u25 i3 (SlO.lit0 (k := (nt .i64)) ah) aa sH hp rfl rfl rfl rfl rfl rfl rfl fun aV h aW y hp => hk cs (nq 1 rfl (nq 2 rfl (nq 3 rfl (nq 4 rfl (nq 5 rfl (nq 6 rfl ns)))))) <| hv 11 rfl (n9 (vs := [(0, .int .i64 a.term.kind), (1, .int .i64 a.term.arg), (2, h)]) (ds := [.int .i64 a.term.kind, .int .i64 a.term.arg, h]) rfl (fun w => by obtain ⟨_, _, rfl⟩ := (y).len; kernel_rfl)) Ag rfl <| hv 12 rfl (n9 (vs := [(2, .agg #[.int .i64 a.term.kind, .int .i64 a.term.arg, h])]) (ds := [.slice none 0 0, .slice none 0 0, .int .i64 a.term.kind, .int .i64 a.term.arg, h]) rfl (fun w => by kernel_rfl)) Ag rfl <| ho 13 rfl Ag fun dA cu => tl i50 rfl fun aX => hk cu (nq 2 rfl (nq 3 rfl (nq 4 rfl (nq 5 rfl (nq 6 rfl (nq 7 rfl ns)))))) <| ho 14 rfl Ag fun dB cv => tS 0 m50 rfl rfl [.slice none 0 0, .slice none 0 0, .int .i64 a.term.kind, .int .i64 a.term.arg, h] rfl (oc rfl (oc rfl (oc rfl (oc rfl (oc (y).one oc0))))) rfl rfl <| hk cv (nq 2 rfl (nq 3 rfl (nq 4 rfl (nq 5 rfl (nq 6 rfl (nq 7 rfl ns)))))) <| hz Ag <| jn [3, 4, 5, 6, 7, 2, 0, 1] (aq y hp)
      · exact tl i50 rfl fun aX => hk ct (nq 2 rfl (nq 3 rfl (nq 4 rfl (nq 5 rfl (nq 6 rfl (nq 7 rfl ns)))))) <| ho 10 rfl Ag fun dC cw => tp [1, 0, 2, 3, 4, 5, 6, 7] [_,_,_,_,_,_,_,_] rfl rfl <| tpI (fInt .i64) u25 i3 (SlO.lit0 (k := (nt .i64)) ah) aa sH hp rfl rfl rfl rfl rfl rfl rfl fun aV h aW y hp => hk cw (nq 2 rfl (nq 3 rfl (nq 4 rfl (nq 5 rfl (nq 6 rfl (nq 7 rfl ns)))))) <| hv 11 rfl (n9 (vs := [(0, .int .i64 a.term.kind), (1, .int .i64 a.term.arg), (2, h)]) (ds := [.int .i64 a.term.kind, .int .i64 a.term.arg, h]) rfl (fun w => by obtain ⟨_, _, rfl⟩ := (y).len; kernel_rfl)) Ag rfl <| hv 12 rfl (n9 (vs := [(2, .agg #[.int .i64 a.term.kind, .int .i64 a.term.arg, h])]) (ds := [.slice none 0 0, .slice none 0 0, .int .i64 a.term.kind, .int .i64 a.term.arg, h]) rfl (fun w => by kernel_rfl)) Ag rfl <| ho 14 rfl Ag fun dD cx => tS 1 m50 rfl rfl [.slice none 0 0, .slice none 0 0, .int .i64 a.term.kind, .int .i64 a.term.arg, h] rfl (oc rfl (oc rfl (oc rfl (oc rfl (oc (y).one oc0))))) rfl rfl <| hk cx (nq 2 rfl (nq 3 rfl (nq 4 rfl (nq 5 rfl (nq 6 rfl (nq 7 rfl ns)))))) <| hz Ag <| jn [3, 4, 5, 6, 7, 2, 1, 0] (aq y hp)
    · exact tl i50 rfl fun aX => hk cr (nq 1 rfl (nq 2 rfl (nq 3 rfl (nq 4 rfl (nq 5 rfl (nq 6 rfl ns)))))) <| ho 6 rfl Ag fun dE cy => TL.bs0 u25 i3 (ltb rfl) fun ah => hk cy (nq 2 rfl (nq 3 rfl (nq 4 rfl (nq 5 rfl (nq 6 rfl (nq 7 rfl ns)))))) <| ho 10 rfl Ag fun dF cz => tpI (fInt .i64) u25 i3 (SlO.lit0 (k := (nt .i64)) ah) aa sH hp rfl rfl rfl rfl rfl rfl rfl fun aV h aW y hp => hk cz (nq 2 rfl (nq 3 rfl (nq 4 rfl (nq 5 rfl (nq 6 rfl (nq 7 rfl ns)))))) <| hv 11 rfl (n9 (vs := [(0, .int .i64 a.term.kind), (1, .int .i64 a.term.arg), (2, h)]) (ds := [.int .i64 a.term.kind, .int .i64 a.term.arg, h]) rfl (fun w => by obtain ⟨_, _, rfl⟩ := (y).len; kernel_rfl)) Ag rfl <| hv 12 rfl (n9 (vs := [(2, .agg #[.int .i64 a.term.kind, .int .i64 a.term.arg, h])]) (ds := [.slice none 0 0, .slice none 0 0, .int .i64 a.term.kind, .int .i64 a.term.arg, h]) rfl (fun w => by kernel_rfl)) Ag rfl <| ho 14 rfl Ag fun dG cA => tS 1 m50 rfl rfl [.slice none 0 0, .slice none 0 0, .int .i64 a.term.kind, .int .i64 a.term.arg, h] rfl (oc rfl (oc rfl (oc rfl (oc rfl (oc (y).one oc0))))) rfl rfl <| hk cA (nq 2 rfl (nq 3 rfl (nq 4 rfl (nq 5 rfl (nq 6 rfl (nq 7 rfl ns)))))) <| hz Ag <| jn [3, 4, 5, 6, 7, 2, 1, 0] (aq y hp)
  · exact nN <| jn [1, 2, 3, 4] (ba aK (nK hp be))
 refine ch mix [bx c 41 [.int .i64 0, .int .i64 0, .slice none 0 0, .slice none 0 0], bx f 41 [.int .i64 a1.params, .int .i64 a1.result, v2, j]] (nq 0 rfl (nq 1 rfl ns)) <| hv 0 rfl (fa po rfl) Ag rfl <| hv 1 rfl (lbG s3 1 rfl rfl rfl) Ag rfl <| hv 2 rfl (fa p5 rfl) Ag rfl <| hv 3 rfl (lbG s3 1 rfl rfl rfl) Ag rfl <| hv 5 rfl (fa o7 rfl) Ag rfl <| hv 6 rfl (lbG s25 1 rfl rfl rfl) Ag rfl <| nT [4, 9] Ag (by simp) (nG ⟨_, rfl, fun dH cB => ?_⟩ (nG ⟨_, rfl, fun dI cC => ?_⟩ nU))
 · refine TL.bs0 u25 i3 (ltb rfl) fun ai => hk cB (nq 1 rfl (nq 2 rfl ns)) <| nT [7, 9] Ag (by simp) (nG ⟨_, rfl, fun dJ cE => ?_⟩ (nG ⟨_, rfl, fun dK cF => ?_⟩ nU))
   · exact tpI (fInt .i64) u25 i3 (SlO.lit0 (k := (nt .i64)) ai) aj sH hp rfl rfl rfl rfl rfl rfl rfl fun aY z aZ B hp => hk cE (nq 1 rfl (nq 2 rfl ns)) <| hv 8 rfl (n9 (vs := [(0, .int .i64 a1.params), (1, .int .i64 a1.result), (2, z)]) (ds := [.int .i64 a1.params, .int .i64 a1.result, z, .slice none 0 0]) rfl (fun w => by obtain ⟨_, _, rfl⟩ := (B).len; kernel_rfl)) Ag rfl <| ho 9 rfl Ag fun dL cG => tl i41 rfl fun a0 => hk cG (nq 2 rfl (nq 3 rfl ns)) <| ho 10 rfl Ag fun dM cH => tS 0 m41 rfl rfl [.int .i64 a1.params, .int .i64 a1.result, z, .slice none 0 0] rfl (oc rfl (oc rfl (oc (B).one (oc rfl oc0)))) rfl rfl <| hk cH (nq 2 rfl (nq 3 rfl ns)) <| hz Ag <| jn [3, 2, 0, 1] (ak B hp)
   · exact tl i41 rfl fun a0 => hk cF (nq 2 rfl (nq 3 rfl ns)) <| ho 7 rfl Ag fun dN cI => tp [1, 0, 2, 3] [_,_,_,_] rfl rfl <| tpI (fInt .i64) u25 i3 (SlO.lit0 (k := (nt .i64)) ai) aj sH hp rfl rfl rfl rfl rfl rfl rfl fun aY z aZ B hp => hk cI (nq 2 rfl (nq 3 rfl ns)) <| hv 8 rfl (n9 (vs := [(0, .int .i64 a1.params), (1, .int .i64 a1.result), (2, z)]) (ds := [.int .i64 a1.params, .int .i64 a1.result, z, .slice none 0 0]) rfl (fun w => by obtain ⟨_, _, rfl⟩ := (B).len; kernel_rfl)) Ag rfl <| ho 10 rfl Ag fun dO cJ => tS 1 m41 rfl rfl [.int .i64 a1.params, .int .i64 a1.result, z, .slice none 0 0] rfl (oc rfl (oc rfl (oc (B).one (oc rfl oc0)))) rfl rfl <| hk cJ (nq 2 rfl (nq 3 rfl ns)) <| hz Ag <| jn [3, 2, 1, 0] (ak B hp)
 · exact tl i41 rfl fun a0 => hk cC (nq 1 rfl (nq 2 rfl ns)) <| ho 4 rfl Ag fun dP cK => TL.bs0 u25 i3 (ltb rfl) fun ai => hk cK (nq 2 rfl (nq 3 rfl ns)) <| ho 7 rfl Ag fun dQ cL => tpI (fInt .i64) u25 i3 (SlO.lit0 (k := (nt .i64)) ai) aj sH hp rfl rfl rfl rfl rfl rfl rfl fun aY z aZ B hp => hk cL (nq 2 rfl (nq 3 rfl ns)) <| hv 8 rfl (n9 (vs := [(0, .int .i64 a1.params), (1, .int .i64 a1.result), (2, z)]) (ds := [.int .i64 a1.params, .int .i64 a1.result, z, .slice none 0 0]) rfl (fun w => by obtain ⟨_, _, rfl⟩ := (B).len; kernel_rfl)) Ag rfl <| ho 10 rfl Ag fun dR cM => tS 1 m41 rfl rfl [.int .i64 a1.params, .int .i64 a1.result, z, .slice none 0 0] rfl (oc rfl (oc rfl (oc (B).one (oc rfl oc0)))) rfl rfl <| hk cM (nq 2 rfl (nq 3 rfl ns)) <| hz Ag <| jn [3, 2, 1, 0] (ak B hp)
end
section
/-! ### fettle/fettleref02.Copy -/
abbrev pu.R (r : nR) (v : Value) (A : List FP) : Prop := ∃ (w1 : Value) (a : FP), .agg #[w1] = v ∧ A = [a] ∧ SlO 41 ou r.funcs w1 a
def pu.nx8  (a : List ny) : Option nR :=
  some (⟨a⟩ : nR)
def pu.jn18 (a : Int) (b : List ny) : Option (Ex (List ny) (List ny × Int)) :=
  some (.go (b, (w64 (a + 1))))
def pu.bd8 (a1 : nR) (b : List ny) (a : Int) : Option (Ex (List ny) (List ny × Int)) :=
  if a < (len a1.funcs) then
    (idx a1.funcs a).bind fun c =>
    (oy c).bind fun d =>
    (cat b [d]).bind fun e =>
    pu.jn18 a e
  else
    some (.ret b)
def pu (a1 : nR) : Option nR :=
  (whl (fun (s : (List ny × Int)) => pu.bd8 a1 s.1 s.2) nD (([] : List ny), 0)).bind fun z =>
  pu.nx8 z
set_option maxHeartbeats 4000000 in
theorem uf {E : World} {H : FP} {w : World} {a1 : nR} {v2 : Value} {r : nR} (G : SlI ou H a1.funcs v2) (hp : pu a1 = some r) (hst : St E H [] w) :
    Fn Try.prog 12 #[.agg #[v2]] w fun v w' => ∃ A, pu.R r v A ∧ St E H A w' := by
 refine Fn.bodyV (fn := Try.f12) (args := [.agg #[v2]]) E H [] 24 Try.func12 rfl rfl (leb rfl) hst <| sr <| tb [v2] rfl rfl fun i => tl i35 rfl fun c => nz <| sr <| tl i35 rfl fun g => nz <| nv fun U V => sr <| ta rfl <| nz <| nB <| bE hp fun X Y Z => ?_
 have aa {u j y ab} (I : SlO 41 ou u j y) (ac : u = X) : ∀ w, St E H [bx c 35 [.slice none 0 0], bx g 35 [j], y] w → U (ovr ab [(2, .pointer (some ⟨c, 0, none⟩)), (3, .pointer (some ⟨g, 0, none⟩))]) w := by
  subst ac
  replace hp : pu.nx8 u = some r := Z
  refine tg V <| sr <| tv (lA (ds := [j]) oZ 1 rfl rfl rfl rfl) rfl <| tS 0 m35 rfl rfl [j] rfl (oc (I).one oc0) rfl rfl <| nz <| nH ?_
  obtain rfl := Option.some.inj hp
  exact fun w hw => retC1 hw rfl rfl oZ 0 rfl rfl ⟨j, y, rfl, rfl, I⟩ (hw.pickA [2] rfl)
 refine W.new0 <| lp Y [3, 2, 1, 0] rfl (fun s e L => ∃ l h z B J, s = (l, h) ∧ SlO 41 ou l z B ∧ e = ovr J [(1, .pointer (some ⟨i, 0, none⟩)), (2, .pointer (some ⟨c, 0, none⟩)), (3, .pointer (some ⟨g, 0, none⟩)), (4, .int .i64 h)] ∧ L = [bx i 35 [v2], bx c 35 [.slice none 0 0], bx g 35 [z], B]) ⟨_, _, (.slice none 0 0), ([] : FP), _, rfl, (SlO.nil 41), nC _ _ rfl, rfl⟩ ?_
 rintro _ _ _ ⟨l, h, z, B, J, rfl, m, rfl, rfl⟩ K hp ad
 replace hp : pu.bd8 a1 l h = some K := hp
 refine nv fun aE ae => sr <| tm rfl <| tv (fa oR rfl) rfl <| tv (lb s33 0 rfl rfl rfl) rfl <| tv (ln u33 G rfl) rfl <| tv (blt rfl rfl) rfl <| nz <| cD rfl hp (fun af hp => ?_) fun af hp => ?_
 · refine sk ae rfl <| nv fun ag ah => ?_
   have C {M D F ai} (aj : SlO 41 ou M D F) (hp : pu.jn18 h M = some K) : ∀ w, St E H [bx i 35 [v2], bx c 35 [.slice none 0 0], bx g 35 [D], F] w → ag (ovr ai [(1, .pointer (some ⟨i, 0, none⟩)), (2, .pointer (some ⟨c, 0, none⟩)), (3, .pointer (some ⟨g, 0, none⟩)), (4, .int .i64 h)]) w := by
    exact tg ah <| nF <| tm rfl <| tv (bad rfl rfl) rfl <| ta rfl <| nl <| gk hp [0, 1, 2, 3] ⟨_, _, D, F, _, rfl, aj, nC _ _ rfl, rfl⟩
   refine nB <| ch mix [bx i 35 [v2], bx c 35 [.slice none 0 0]] (nq 0 rfl (nq 1 rfl ns)) <| hv 0 rfl (fa oR rfl) Ag rfl <| hv 2 rfl (fa oR rfl) Ag rfl <| hv 3 rfl (lbG s33 0 rfl rfl rfl) Ag rfl <| hv 4 rfl mv Ag rfl <| hi 5 rfl u33 i41 G hp rfl rfl rfl Ag rfl ?_
   rintro n aF aG _ hp ⟨ak, am, rfl, N, O⟩ an
   refine hv 6 rfl (lR (ds := [.int .i64 n.params, .int .i64 n.result, ak, am]) n8 srcInH an 0 rfl rfl rfl) Ag rfl <| nT [1, 7] Ag (by simp) (nG ⟨_, rfl, fun aH ao => ?_⟩ (nG ⟨_, rfl, fun aI ap => ?_⟩ nU))
   · refine tv (lb s33 2 rfl rfl rfl) rfl <| hk ao (nq 0 rfl (nq 1 rfl ns)) <| ho 7 rfl Ag fun aJ aq => bE hp fun a hy24 hp => tc 0 [_,_,_,_] rfl c14 (fun _ => sP (a1 := n) (N.mono nw) (O.mono nw) hy24) rfl ?_
     rintro _ _ ⟨d, o, f, p, rfl, rfl, q, t⟩
     exact hk aq (nq 2 rfl (nq 3 rfl ns)) <| ho 8 rfl Ag fun aK ar => tbs [(0, .agg #[.int .i64 a.params, .int .i64 a.result, d, f])] [.int .i64 a.params, .int .i64 a.result, d, f] u33 i41 Ag rfl rfl rfl rfl fun P => hk ar (nq 3 rfl (nq 4 rfl ns)) <| ho 9 rfl Ag fun aL au => tp [6, 0, 1, 2, 3, 4, 5] [_,_,_,_,_,_,_] rfl rfl <| tf 2 2 [_,_,_,_,_,_] rfl <| tp2 u33 i41 m hp (RepL.to (G' := o ++ (p)) (RepL.cons (k := ou) (x := a) ⟨_, _, _, _, rfl, rfl, q, t⟩ RepL.nil) (by simp)) rfl rfl rfl rfl rfl rfl rfl rfl rfl fun Q S T b hp => hk au (nq 1 rfl (nq 2 rfl ns)) <| hv 10 rfl (fa oR rfl) Ag rfl <| ho 11 rfl Ag fun aM av => ts 3 m33 rfl rfl b.o1 rfl <| hk av (nq 1 rfl (nq 2 rfl ns)) <| hz Ag <| jn [1, 2, 3, 0] (C b hp)
   · refine bE hp fun a hy35 hp => tc 0 [_,_,_,_] rfl c14 (fun _ => sP (a1 := n) (N.mono nw) (O.mono nw) hy35) rfl ?_
     rintro _ _ ⟨d, o, f, p, rfl, rfl, q, t⟩
     refine hk ap (nq 2 rfl (nq 3 rfl ns)) <| nT [1, 8] Ag (by simp) (nG ⟨_, rfl, fun aN aw => ?_⟩ (nG ⟨_, rfl, fun aO ax => ?_⟩ nU))
     · exact tv (lb s33 4 rfl rfl rfl) rfl <| hk aw (nq 2 rfl (nq 3 rfl ns)) <| ho 8 rfl Ag fun aP ay => tbs [(0, .agg #[.int .i64 a.params, .int .i64 a.result, d, f])] [.int .i64 a.params, .int .i64 a.result, d, f] u33 i41 Ag rfl rfl rfl rfl fun P => hk ay (nq 3 rfl (nq 4 rfl ns)) <| ho 9 rfl Ag fun aQ az => tp [6, 0, 1, 2, 3, 4, 5] [_,_,_,_,_,_,_] rfl rfl <| tf 2 2 [_,_,_,_,_,_] rfl <| tp2 u33 i41 m hp (RepL.to (G' := o ++ (p)) (RepL.cons (k := ou) (x := a) ⟨_, _, _, _, rfl, rfl, q, t⟩ RepL.nil) (by simp)) rfl rfl rfl rfl rfl rfl rfl rfl rfl fun Q S T b hp => hk az (nq 1 rfl (nq 2 rfl ns)) <| hv 10 rfl (fa oR rfl) Ag rfl <| ho 11 rfl Ag fun aR aA => ts 3 m33 rfl rfl b.o1 rfl <| hk aA (nq 1 rfl (nq 2 rfl ns)) <| hz Ag <| jn [1, 2, 3, 0] (C b hp)
     · exact tbs [(0, .agg #[.int .i64 a.params, .int .i64 a.result, d, f])] [.int .i64 a.params, .int .i64 a.result, d, f] u33 i41 Ag rfl rfl rfl rfl fun P => hk ax (nq 3 rfl (nq 4 rfl ns)) <| ho 1 rfl Ag fun aS aB => tv (lb s33 5 rfl rfl rfl) rfl <| hk aB (nq 3 rfl (nq 4 rfl ns)) <| ho 9 rfl Ag fun aT aC => tp [6, 0, 1, 2, 3, 4, 5] [_,_,_,_,_,_,_] rfl rfl <| tf 2 2 [_,_,_,_,_,_] rfl <| tp2 u33 i41 m hp (RepL.to (G' := o ++ (p)) (RepL.cons (k := ou) (x := a) ⟨_, _, _, _, rfl, rfl, q, t⟩ RepL.nil) (by simp)) rfl rfl rfl rfl rfl rfl rfl rfl rfl fun Q S T b hp => hk aC (nq 1 rfl (nq 2 rfl ns)) <| hv 10 rfl (fa oR rfl) Ag rfl <| ho 11 rfl Ag fun aU aD => ts 3 m33 rfl rfl b.o1 rfl <| hk aD (nq 1 rfl (nq 2 rfl ns)) <| hz Ag <| jn [1, 2, 3, 0] (C b hp)
 · exact nN <| jn [1, 2, 3] (aa m (nK hp ad))
/-! ### fettle/fettlelaw14.Built -/
abbrev rf.R (G : FP) (r : nR) (v : Value) (A : List FP) : Prop := ∃ (w1 : Value) (a : FP), .agg #[w1] = v ∧ A = [a] ∧ SlI ou (a ++ G) r.funcs w1
def rf (a1 : nR) (a6 : Int) (a7 : Bool) : Option nR :=
  (pC a1 a6).bind fun a =>
  if (((!a7) = true ∨ (¬ a.2 = GErr.no)) ∨ a6 < 0) ∨ a6 ≥ (len a1.funcs) then
    some a1
  else
    (pu a1).bind fun b =>
    (idx b.funcs a6).bind fun c =>
    some (⟨(b.funcs.set (a6).toNat a.1)⟩ : nR)
set_option maxHeartbeats 4000000 in
theorem xm {E : World} {H G : FP} {w : World} {a1 : nR} {a6 : Int} {a7 : Bool} {v2 : Value} {r : nR} (D : ∀ p, p ∈ G → p ∈ H) (s : SlI ou G a1.funcs v2) (hp : rf a1 a6 a7 = some r) (hst : St E H [] w) :
    Fn Try.prog 11 #[.agg #[v2], .int .i64 a6, .bool a7] w fun v w' => ∃ A, rf.R G r v A ∧ St E H A w' := by
 have k := s.mono D
 refine Fn.bodyV (fn := Try.f11) (args := [.agg #[v2], .int .i64 a6, .bool a7]) E H [] 42 Try.func11 rfl rfl (leb rfl) hst <| sr <| tb [v2] rfl rfl fun h => tl i35 rfl fun i => nz <| sr <| tv (lA (ds := [v2]) oZ 1 rfl rfl rfl rfl) rfl <| tm rfl <| bE hp fun b hy1 hp => tc 0 [_,_] rfl c25 (fun _ => xl (a1 := a1) (a4 := a6) (k.mono nw) hy1) rfl ?_
 rintro _ _ ⟨f, m, g, n, X, o, rfl, rfl, t, x, F⟩
 refine tm rfl <| tv (xt rfl rfl) rfl <| tv (xt rfl rfl) rfl <| tl i41 rfl fun j => tS 0 m41 rfl rfl [.int .i64 b.1.params, .int .i64 b.1.result, f, g] rfl (oc rfl (oc rfl (oc (t).one (oc (x).one oc0)))) rfl rfl <| ta rfl <| nz <| nv fun Y I => sr <| tm rfl <| tv (oI rfl) rfl <| tm rfl <| TL.cut 3 fun J K => ?_
 have y {L} : ∀ w, St E H [bx j 41 [.int .i64 b.1.params, .int .i64 b.1.result, f, g], m, n, o, bx i 35 [.slice none 0 0], bx h 35 [v2]] w → J (ovr L [(21, .bool (decide ((!a7) = true ∨ (¬ b.2 = GErr.no)))), (1, .int .i64 a6), (3, .pointer (some ⟨h, 0, none⟩)), (6, .pointer (some ⟨i, 0, none⟩)), (7, .pointer (some ⟨j, 0, none⟩))]) w := by
  refine tlg K <| tm rfl <| TL.cut 3 fun M N => ?_
  have z {O} : ∀ w, St E H [bx j 41 [.int .i64 b.1.params, .int .i64 b.1.result, f, g], m, n, o, bx i 35 [.slice none 0 0], bx h 35 [v2]] w → M (ovr O [(25, .bool (decide (((!a7) = true ∨ (¬ b.2 = GErr.no)) ∨ a6 < 0))), (1, .int .i64 a6), (3, .pointer (some ⟨h, 0, none⟩)), (6, .pointer (some ⟨i, 0, none⟩)), (7, .pointer (some ⟨j, 0, none⟩))]) w := by
   refine tlg N <| tm rfl <| TL.cut 6 fun P Q => ?_
   have B {S} : ∀ w, St E H [bx j 41 [.int .i64 b.1.params, .int .i64 b.1.result, f, g], m, n, o, bx i 35 [.slice none 0 0], bx h 35 [v2]] w → P (ovr S [(32, .bool (decide ((((!a7) = true ∨ (¬ b.2 = GErr.no)) ∨ a6 < 0) ∨ a6 ≥ (len a1.funcs)))), (1, .int .i64 a6), (3, .pointer (some ⟨h, 0, none⟩)), (6, .pointer (some ⟨i, 0, none⟩)), (7, .pointer (some ⟨j, 0, none⟩))]) w := by
    refine tlg Q <| nz <| cD rfl hp (fun T hp => ?_) fun T hp => ?_
    · refine sr <| tv (lA (ds := [v2]) oZ 5 rfl rfl rfl rfl) rfl <| tS 4 m35 rfl rfl [v2] rfl (oc (k).one oc0) rfl rfl <| nz <| nH <| W.new0 ?_
      obtain rfl := Option.some.inj hp
      exact fun w hw => retC1 hw rfl rfl oZ 5 rfl rfl ⟨v2, ([] : FP), rfl, rfl, s⟩ (hw.pickA [0] rfl)
    · refine sk I rfl <| sr <| tv (lA (ds := [v2]) oZ 5 rfl rfl rfl rfl) rfl <| bE hp fun Z hy21 hp => tc 0 [_,_,_,_,_,_] rfl c12 (fun _ => uf (a1 := a1) (k.mono nw) hy21) rfl ?_
      rintro _ _ ⟨l, aa, rfl, rfl, q⟩
      refine tl i35 rfl fun ab => tS 0 m35 rfl rfl [l] rfl (oc (q).one oc0) rfl rfl <| nz <| sr <| tv (fa oR rfl) rfl <| tv (lb s33 0 rfl rfl rfl) rfl <| tm rfl <| tv (lA (ds := [.int .i64 b.1.params, .int .i64 b.1.result, f, g]) n8 2 rfl rfl rfl rfl) rfl <| tO u33 i41 q hp rfl rfl rfl rfl fun ac ad ae U hp => tp [1, 3, 4, 0, 2, 5, 6, 7] [_,_,_,_,_,_,_,_] rfl rfl <| tf 1 2 [_,_,_,_,_,_,_] rfl <| TL.stE (ds := [.int .i64 b.1.params, .int .i64 b.1.result, f, g]) (u := .agg #[.int .i64 b.1.params, .int .i64 b.1.result, f, g]) (a := b.1) q U m41 rfl rfl rfl ⟨_, _, _, _, rfl, rfl, t, x⟩ fun V C => nz <| sr <| tv (lA (ds := [l]) oZ 1 rfl rfl rfl rfl) rfl <| tS 4 m35 rfl rfl [l] rfl (oc (C).one oc0) rfl rfl <| nz <| nH ?_
      obtain rfl := Option.some.inj hp
      exact fun w hw => retC1 hw rfl rfl oZ 4 rfl rfl ⟨l, V, rfl, rfl, (SlO.mx C)⟩ (hw.pickA [0] rfl)
   by_cases c : ((!a7) = true ∨ (¬ b.2 = GErr.no)) ∨ a6 < 0
   · exact gn rfl (bT c) rfl rfl <| gn rfl (bT c) rfl rfl <| gn rfl (bT c) rfl rfl <| gn rfl (bT c) rfl rfl <| gn rfl (bT c) rfl rfl <| tv (pT (bT c)) rfl <| nj B (bOt c)
   · exact gy rfl (bF c) <| tm rfl <| gy rfl (bF c) <| tv (fa oR rfl) rfl <| gy rfl (bF c) <| tv (lb s33 5 rfl rfl rfl) rfl <| gy rfl (bF c) <| tv (ln u33 k rfl) rfl <| gy rfl (bF c) <| tv (bge rfl rfl) rfl <| tv (pF (bF c)) rfl <| nj B (bOf c)
  by_cases d : (!a7) = true ∨ (¬ b.2 = GErr.no)
  · exact gn rfl (bT d) rfl rfl <| gn rfl (bT d) rfl rfl <| tv (pT (bT d)) rfl <| nj z (bOt d)
  · exact gy rfl (bF d) <| tm rfl <| gy rfl (bF d) <| tv (blt rfl rfl) rfl <| tv (pF (bF d)) rfl <| nj z (bOf d)
 by_cases e : (!a7) = true
 · exact gn rfl (bbT e) rfl rfl <| gn rfl (bbT e) rfl rfl <| tv (pT (bbT e)) rfl <| nj y (bOt e)
 · exact gy rfl (bbF e) <| tm rfl <| gy rfl (bbF e) <| tv (pw pc F rfl) rfl <| tv (pF (bbF e)) rfl <| nj y (bOf e)
/-! ### fettle/fettleref02.ints -/
abbrev pz.R (r : Bool) (v : Value) (A : List FP) : Prop := .bool r = v ∧ A = []
def pz.nx11  : Option Bool :=
  some true
def pz.bd11 (a1 : List Int) (a4 : List Int) (a : Int) : Option (Ex (Ex Bool Unit) Int) :=
  if a < (len a1) then
    (idx a1 a).bind fun b =>
    (idx a4 a).bind fun c =>
    if ¬ b = c then
      some (.ret (.ret false))
    else
      some (.go (w64 (a + 1)))
  else
    some (.ret (.go ()))
def pz (a1 : List Int) (a4 : List Int) : Option Bool :=
  if ¬ (len a1) = (len a4) then
    some false
  else
    (whl (fun (s : Int) => pz.bd11 a1 a4 s) nD 0).bind fun z =>
    match z with
      | .ret r => some r
      | .go p => pz.nx11
theorem sf {E : World} {H : FP} {w : World} {a1 : List Int} {a4 : List Int} {v2 : Value} {a : Value} {r : Bool} (b : SlI (nt .i64) H a1 v2) (c : SlI (nt .i64) H a4 a) (hp : pz a1 a4 = some r) (hst : St E H [] w) :
    Fn Try.prog 31 #[v2, a] w fun v w' => ∃ A, pz.R r v A ∧ St E H A w' := by
 refine fb 26 [.tmp 4] Try.func31 rfl rfl rfl rfl rfl hst <| sr <| ta rfl <| nz <| nv fun F h => sr <| tm rfl <| tv (ln u25 b rfl) rfl <| tm rfl <| tv (ln u25 c rfl) rfl <| tv (bne rfl rfl) rfl <| nz <| cD rfl hp (fun i hp => ?_) fun i hp => ?_
 · exact sr <| ta rfl <| nz <| nH <| rt hp [] ⟨rfl, rfl⟩
 · refine sk h rfl <| nv fun j k => sr <| ta rfl <| nz <| nB <| bE hp fun l m d => ?_
   have n {o} (p : .go () = l) : ∀ w, St E H [] w → j (ovr o []) w := by
    subst p
    replace hp : pz.nx11 = some r := d
    exact tg k <| sr <| ta rfl <| nz <| nH <| rt hp [] ⟨rfl, rfl⟩
   refine lp m [] rfl (fun s e L => ∃ f, e = ovr f [(0, v2), (1, a), (5, .int .i64 s)] ∧ L = []) ⟨_, nC _ _ rfl, rfl⟩ ?_
   rintro q _ _ ⟨f, rfl, rfl⟩ t hp g
   replace hp : pz.bd11 a1 a4 q = some t := hp
   refine nv fun G u => sr <| tm rfl <| tm rfl <| tv (ln u25 b rfl) rfl <| tv (blt rfl rfl) rfl <| nz <| cD rfl hp (fun x hp => ?_) fun x hp => ?_
   · refine sk u rfl <| nv fun I y => nB <| nv fun J z => cq mix Ag <| qv mv rfl <| qv mv rfl <| qi u25 i3 b hp rfl rfl rfl rfl ?_
     rintro K M N _ hp rfl B
     refine qv (lr s3 sH B 0 rfl rfl) rfl <| qv mv rfl <| qv mv rfl <| qi u25 i3 c hp rfl rfl rfl rfl ?_
     rintro O P Q _ hp rfl C
     refine qv (lr s3 sH C 0 rfl rfl) rfl <| qv (bne rfl rfl) rfl <| QL.nil <| tg z <| cD rfl hp (fun D hp => ?_) fun D hp => ?_
     · refine sr <| ta rfl <| nz <| nH ?_
       obtain rfl := nK hp g
       exact rt d [] ⟨rfl, rfl⟩
     · exact sk y rfl <| nF <| tm rfl <| tv (bad rfl rfl) rfl <| ta rfl <| nl <| gk hp [] ⟨_, nC _ _ rfl, rfl⟩
   · exact nN <| jn [] (n (nK hp g))
/-! ### fettle/fettleref02.sameBlock -/
abbrev pe.R (r : Bool) (v : Value) (A : List FP) : Prop := .bool r = v ∧ A = []
def pe.nx40  : Option Bool :=
  some true
def pe.bd40 (a1 : nA) (a8 : nA) (c : Int) : Option (Ex (Ex Bool Unit) Int) :=
  if c < (len a1.ins) then
    (idx a1.ins c).bind fun a =>
    (idx a8.ins c).bind fun b =>
    (if (¬ a.op = b.op) ∨ (¬ a.dst = b.dst) then some true else (pz a.args b.args).bind fun d =>
    some (!d)).bind fun e =>
    if (e = true ∨ (¬ a.imm = b.imm)) ∨ (¬ a.fn = b.fn) then
      some (.ret (.ret false))
    else
      some (.go (w64 (c + 1)))
  else
    some (.ret (.go ()))
def pe.nx31 (a1 : nA) (a8 : nA) : Option Bool :=
  (whl (fun (s : Int) => pe.bd40 a1 a8 s) nD 0).bind fun z =>
  match z with
    | .ret r => some r
    | .go p => pe.nx40
def pe.bd31 (a1 : nA) (a8 : nA) (a : Int) : Option (Ex (Ex Bool Unit) Int) :=
  if a < (len a1.phis) then
    (idx a1.phis a).bind fun b =>
    (idx a8.phis a).bind fun c =>
    (if ¬ b.dst = c.dst then some true else (idx a1.phis a).bind fun d =>
    (idx a8.phis a).bind fun e =>
    (pz d.args e.args).bind fun f =>
    some (!f)).bind fun g =>
    if g = true then
      some (.ret (.ret false))
    else
      some (.go (w64 (a + 1)))
  else
    some (.ret (.go ()))
def pe (a1 : nA) (a8 : nA) : Option Bool :=
  (if (((¬ (len a1.phis) = (len a8.phis)) ∨ (¬ (len a1.ins) = (len a8.ins))) ∨ (¬ a1.term.kind = a8.term.kind)) ∨ (¬ a1.term.arg = a8.term.arg) then some true else (pz a1.term.to a8.term.to).bind fun a =>
  some (!a)).bind fun b =>
  if b = true then
    some false
  else
    (whl (fun (s : Int) => pe.bd31 a1 a8 s) nD 0).bind fun z =>
    match z with
      | .ret r => some r
      | .go p => pe.nx31 a1 a8
set_option maxHeartbeats 4000000 in
theorem xn {E : World} {H : FP} {w : World} {a1 : nA} {a8 : nA} {v2 : Value} {m : Value} {n : Value} {o : Value} {p : Value} {q : Value} {r : Bool} (G : SlI oS H a1.phis v2) (I : SlI oN H a1.ins m) (af : SlI (nt .i64) H a1.term.to n) (J : SlI oS H a8.phis o) (K : SlI oN H a8.ins p) (ag : SlI (nt .i64) H a8.term.to q) (hp : pe a1 a8 = some r) (hst : St E H [] w) :
    Fn Try.prog 32 #[.agg #[v2, m, .int .i64 a1.term.kind, .int .i64 a1.term.arg, n], .agg #[o, p, .int .i64 a8.term.kind, .int .i64 a8.term.arg, q]] w fun v w' => ∃ A, pe.R r v A ∧ St E H A w' := by
 refine fb 140 [.tmp 4] Try.func32 rfl rfl rfl rfl rfl hst <| sr <| tb [v2, m, .int .i64 a1.term.kind, .int .i64 a1.term.arg, n] rfl rfl fun d => tb [o, p, .int .i64 a8.term.kind, .int .i64 a8.term.arg, q] rfl rfl fun f => ta rfl <| nz <| nv fun bs ah => sr <| tv (fa oE rfl) rfl <| tv (lb s47 1 rfl rfl rfl) rfl <| tv (ln u47 G rfl) rfl <| tv (fa oE rfl) rfl <| tv (lb s47 0 rfl rfl rfl) rfl <| tv (ln u47 J rfl) rfl <| tv (bne rfl rfl) rfl <| tm rfl <| TL.cut 8 fun ai aj => ?_
 have M {ak} : ∀ w, St E H [bx f 50 [o, p, .int .i64 a8.term.kind, .int .i64 a8.term.arg, q], bx d 50 [v2, m, .int .i64 a1.term.kind, .int .i64 a1.term.arg, n]] w → ai (ovr ak [(24, .bool (decide ((¬ (len a1.phis) = (len a8.phis)) ∨ (¬ (len a1.ins) = (len a8.ins))))), (2, .pointer (some ⟨d, 0, none⟩)), (3, .pointer (some ⟨f, 0, none⟩))]) w := by
  refine tlg aj <| tm rfl <| TL.cut 8 fun al am => ?_
  have N {an} : ∀ w, St E H [bx f 50 [o, p, .int .i64 a8.term.kind, .int .i64 a8.term.arg, q], bx d 50 [v2, m, .int .i64 a1.term.kind, .int .i64 a1.term.arg, n]] w → al (ovr an [(33, .bool (decide (((¬ (len a1.phis) = (len a8.phis)) ∨ (¬ (len a1.ins) = (len a8.ins))) ∨ (¬ a1.term.kind = a8.term.kind)))), (2, .pointer (some ⟨d, 0, none⟩)), (3, .pointer (some ⟨f, 0, none⟩))]) w := by
   refine tlg am <| tm rfl <| TL.cut 8 fun ao ap => ?_
   have O {aq} : ∀ w, St E H [bx f 50 [o, p, .int .i64 a8.term.kind, .int .i64 a8.term.arg, q], bx d 50 [v2, m, .int .i64 a1.term.kind, .int .i64 a1.term.arg, n]] w → ao (ovr aq [(42, .bool (decide ((((¬ (len a1.phis) = (len a8.phis)) ∨ (¬ (len a1.ins) = (len a8.ins))) ∨ (¬ a1.term.kind = a8.term.kind)) ∨ (¬ a1.term.arg = a8.term.arg)))), (2, .pointer (some ⟨d, 0, none⟩)), (3, .pointer (some ⟨f, 0, none⟩))]) w := by
    refine tlg ap <| tm rfl <| bE hp fun ar ht100 hp => TL.cut 9 fun au av => ?_
    have P {aw} : ∀ w, St E H [bx f 50 [o, p, .int .i64 a8.term.kind, .int .i64 a8.term.arg, q], bx d 50 [v2, m, .int .i64 a1.term.kind, .int .i64 a1.term.arg, n]] w → au (ovr aw [(52, .bool ar), (2, .pointer (some ⟨d, 0, none⟩)), (3, .pointer (some ⟨f, 0, none⟩))]) w := by
     refine tlg av <| nz <| cB rfl hp (fun ax hp => ?_) fun ax hp => ?_
     · exact sr <| ta rfl <| nz <| nH <| rt hp [] ⟨rfl, rfl⟩
     · refine sk ah rfl <| nv fun ay az => sr <| ta rfl <| nz <| nB <| bE hp fun aA aB Q => ?_
       have aC {aD} (aE : .go () = aA) : ∀ w, St E H [bx d 50 [v2, m, .int .i64 a1.term.kind, .int .i64 a1.term.arg, n], bx f 50 [o, p, .int .i64 a8.term.kind, .int .i64 a8.term.arg, q]] w → ay (ovr aD [(2, .pointer (some ⟨d, 0, none⟩)), (3, .pointer (some ⟨f, 0, none⟩))]) w := by
        subst aE
        replace hp : pe.nx31 a1 a8 = some r := Q
        refine tg az <| nv fun aF aG => sr <| ta rfl <| nz <| nB <| bE hp fun aH aI S => ?_
        have aJ {aK} (aL : .go () = aH) : ∀ w, St E H [] w → aF (ovr aK []) w := by
         subst aL
         replace hp : pe.nx40 = some r := S
         exact tg aG <| sr <| ta rfl <| nz <| nH <| rt hp [] ⟨rfl, rfl⟩
        refine lp aI [0, 1] rfl (fun s e L => ∃ T, e = ovr T [(2, .pointer (some ⟨d, 0, none⟩)), (3, .pointer (some ⟨f, 0, none⟩)), (6, .int .i64 s)] ∧ L = [bx d 50 [v2, m, .int .i64 a1.term.kind, .int .i64 a1.term.arg, n], bx f 50 [o, p, .int .i64 a8.term.kind, .int .i64 a8.term.arg, q]]) ⟨_, nC _ _ rfl, rfl⟩ ?_
        rintro D _ _ ⟨T, rfl, rfl⟩ aM hp U
        replace hp : pe.bd40 a1 a8 D = some aM := hp
        refine nv fun bt aN => sr <| tm rfl <| tv (fa oB rfl) rfl <| tv (lb s48 0 rfl rfl rfl) rfl <| tv (ln u48 I rfl) rfl <| tv (blt rfl rfl) rfl <| nz <| cD rfl hp (fun aO hp => ?_) fun aO hp => ?_
        · refine sk aN rfl <| nv fun bu aP => nB <| sr <| tv (fa oB rfl) rfl <| tv (lb s48 0 rfl rfl rfl) rfl <| tm rfl <| ti u48 i52 I hp rfl rfl rfl rfl ?_
          rintro a bv bw _ hp ⟨B, rfl, V⟩ aQ
          refine tv (lR (ds := [.int .i64 a.op, .int .i64 a.dst, B, .int .i64 a.imm, .int .i64 a.fn]) o5 sH aQ 0 rfl rfl rfl) rfl <| tl i52 rfl fun y => tS 0 m52 rfl rfl [.int .i64 a.op, .int .i64 a.dst, B, .int .i64 a.imm, .int .i64 a.fn] rfl (oc rfl (oc rfl (oc (V).one (oc rfl (oc rfl oc0))))) rfl rfl <| nz <| sr <| tv (fa oB rfl) rfl <| tv (lb s48 2 rfl rfl rfl) rfl <| tm rfl <| ti u48 i52 K hp rfl rfl rfl rfl ?_
          rintro b bz bA _ hp ⟨C, rfl, W⟩ aR
          refine tv (lR (ds := [.int .i64 b.op, .int .i64 b.dst, C, .int .i64 b.imm, .int .i64 b.fn]) o5 sH aR 0 rfl rfl rfl) rfl <| tl i52 rfl fun z => tS 0 m52 rfl rfl [.int .i64 b.op, .int .i64 b.dst, C, .int .i64 b.imm, .int .i64 b.fn] rfl (oc rfl (oc rfl (oc (W).one (oc rfl (oc rfl oc0))))) rfl rfl <| nz <| sr <| tv (fa qb rfl) rfl <| tv (lb s3 1 rfl rfl rfl) rfl <| tv (fa qb rfl) rfl <| tv (lb s3 0 rfl rfl rfl) rfl <| tv (bne rfl rfl) rfl <| tm rfl <| TL.cut 6 fun aS aT => ?_
          have X {aU} : ∀ w, St E H [bx z 52 [.int .i64 b.op, .int .i64 b.dst, C, .int .i64 b.imm, .int .i64 b.fn], bx y 52 [.int .i64 a.op, .int .i64 a.dst, B, .int .i64 a.imm, .int .i64 a.fn], bx d 50 [v2, m, .int .i64 a1.term.kind, .int .i64 a1.term.arg, n], bx f 50 [o, p, .int .i64 a8.term.kind, .int .i64 a8.term.arg, q]] w → aS (ovr aU [(117, .bool (decide ((¬ a.op = b.op) ∨ (¬ a.dst = b.dst)))), (2, .pointer (some ⟨d, 0, none⟩)), (3, .pointer (some ⟨f, 0, none⟩)), (6, .int .i64 D), (7, .pointer (some ⟨y, 0, none⟩)), (8, .pointer (some ⟨z, 0, none⟩))]) w := by
           refine tlg aT <| tm rfl <| bE hp fun F ht72 hp => TL.cut 7 fun aV aW => ?_
           have Y {aX} : ∀ w, St E H [bx z 52 [.int .i64 b.op, .int .i64 b.dst, C, .int .i64 b.imm, .int .i64 b.fn], bx y 52 [.int .i64 a.op, .int .i64 a.dst, B, .int .i64 a.imm, .int .i64 a.fn], bx d 50 [v2, m, .int .i64 a1.term.kind, .int .i64 a1.term.arg, n], bx f 50 [o, p, .int .i64 a8.term.kind, .int .i64 a8.term.arg, q]] w → aV (ovr aX [(125, .bool F), (2, .pointer (some ⟨d, 0, none⟩)), (3, .pointer (some ⟨f, 0, none⟩)), (6, .int .i64 D), (7, .pointer (some ⟨y, 0, none⟩)), (8, .pointer (some ⟨z, 0, none⟩))]) w := by
            refine tlg aW <| tm rfl <| TL.cut 6 fun aY aZ => ?_
            have Z {a0} : ∀ w, St E H [bx z 52 [.int .i64 b.op, .int .i64 b.dst, C, .int .i64 b.imm, .int .i64 b.fn], bx y 52 [.int .i64 a.op, .int .i64 a.dst, B, .int .i64 a.imm, .int .i64 a.fn], bx d 50 [v2, m, .int .i64 a1.term.kind, .int .i64 a1.term.arg, n], bx f 50 [o, p, .int .i64 a8.term.kind, .int .i64 a8.term.arg, q]] w → aY (ovr a0 [(132, .bool (decide (F = true ∨ (¬ a.imm = b.imm)))), (2, .pointer (some ⟨d, 0, none⟩)), (3, .pointer (some ⟨f, 0, none⟩)), (6, .int .i64 D), (7, .pointer (some ⟨y, 0, none⟩)), (8, .pointer (some ⟨z, 0, none⟩))]) w := by
             refine tlg aZ <| tm rfl <| TL.cut 6 fun a2 a3 => ?_
             have aa {a5} : ∀ w, St E H [bx z 52 [.int .i64 b.op, .int .i64 b.dst, C, .int .i64 b.imm, .int .i64 b.fn], bx y 52 [.int .i64 a.op, .int .i64 a.dst, B, .int .i64 a.imm, .int .i64 a.fn], bx d 50 [v2, m, .int .i64 a1.term.kind, .int .i64 a1.term.arg, n], bx f 50 [o, p, .int .i64 a8.term.kind, .int .i64 a8.term.arg, q]] w → a2 (ovr a5 [(139, .bool (decide ((F = true ∨ (¬ a.imm = b.imm)) ∨ (¬ a.fn = b.fn)))), (2, .pointer (some ⟨d, 0, none⟩)), (3, .pointer (some ⟨f, 0, none⟩)), (6, .int .i64 D)]) w := by
              refine tlg a3 <| nz <| cD rfl hp (fun a6 hp => ?_) fun a6 hp => ?_
              · refine sr <| ta rfl <| nz <| nH ?_
                obtain rfl := nK hp U
                exact rt S [] ⟨rfl, rfl⟩
              · exact sk aP rfl <| nF <| tm rfl <| tv (bad rfl rfl) rfl <| ta rfl <| nl <| gk hp [2, 3] ⟨_, nC _ _ rfl, rfl⟩
             by_cases t : F = true ∨ (¬ a.imm = b.imm)
             · exact gn rfl (bT t) rfl rfl <| gn rfl (bT t) rfl rfl <| gn rfl (bT t) rfl rfl <| gn rfl (bT t) rfl rfl <| gn rfl (bT t) rfl rfl <| tv (pT (bT t)) rfl <| nj aa (bOt t)
             · exact gy rfl (bF t) <| tv (fa qC rfl) rfl <| gy rfl (bF t) <| tv (lb s3 1 rfl rfl rfl) rfl <| gy rfl (bF t) <| tv (fa qC rfl) rfl <| gy rfl (bF t) <| tv (lb s3 0 rfl rfl rfl) rfl <| gy rfl (bF t) <| tv (bne rfl rfl) rfl <| tv (pF (bF t)) rfl <| nj aa (bOf t)
            by_cases u : F = true
            · exact gn rfl (bbT u) rfl rfl <| gn rfl (bbT u) rfl rfl <| gn rfl (bbT u) rfl rfl <| gn rfl (bbT u) rfl rfl <| gn rfl (bbT u) rfl rfl <| tv (pT (bbT u)) rfl <| nj Z (bOt u)
            · exact gy rfl (bbF u) <| tv (fa qK rfl) rfl <| gy rfl (bbF u) <| tv (lb s2 1 rfl rfl rfl) rfl <| gy rfl (bbF u) <| tv (fa qK rfl) rfl <| gy rfl (bbF u) <| tv (lb s2 0 rfl rfl rfl) rfl <| gy rfl (bbF u) <| tv (bne rfl rfl) rfl <| tv (pF (bbF u)) rfl <| nj Z (bOf u)
           refine ifE ht72 (fun l hp => ?_) fun l hp => ?_
           · refine gn rfl (bT l) rfl rfl <| gn rfl (bT l) rfl rfl <| gn rfl (bT l) rfl rfl <| gn rfl (bT l) rfl rfl <| gn rfl (bT l) rfl rfl <| gn rfl (bT l) rfl rfl <| tv (pT (bT l)) rfl ?_
             obtain rfl := Option.some.inj hp
             exact nj Y rfl
           · refine gy rfl (bF l) <| tv (fa o6 rfl) rfl <| gy rfl (bF l) <| tv (lb s25 1 rfl rfl rfl) rfl <| gy rfl (bF l) <| tv (fa o6 rfl) rfl <| gy rfl (bF l) <| tv (lb s25 0 rfl rfl rfl) rfl <| gy rfl (bF l) <| bE hp fun bB hy73 hp => tc 0 [_,_,_,_] rfl c31 (fun _ => sf (a1 := a.args) (a4 := b.args) (V.mono nw) (W.mono nw) hy73) rfl ?_
             rintro _ _ ⟨rfl, rfl⟩
             refine gy rfl (bF l) <| tv (oI rfl) rfl <| tv (pF (bF l)) rfl ?_
             obtain rfl := Option.some.inj hp
             exact nj Y rfl
          by_cases x : ¬ a.op = b.op
          · exact gn rfl (bT x) rfl rfl <| gn rfl (bT x) rfl rfl <| gn rfl (bT x) rfl rfl <| gn rfl (bT x) rfl rfl <| gn rfl (bT x) rfl rfl <| tv (pT (bT x)) rfl <| nj X (bOt x)
          · exact gy rfl (bF x) <| tv (fa pd rfl) rfl <| gy rfl (bF x) <| tv (lb s3 1 rfl rfl rfl) rfl <| gy rfl (bF x) <| tv (fa pd rfl) rfl <| gy rfl (bF x) <| tv (lb s3 0 rfl rfl rfl) rfl <| gy rfl (bF x) <| tv (bne rfl rfl) rfl <| tv (pF (bF x)) rfl <| nj X (bOf x)
        · exact nN <| jn [] (aJ (nK hp U))
       refine lp aB [1, 0] rfl (fun s e L => ∃ ab, e = ovr ab [(2, .pointer (some ⟨d, 0, none⟩)), (3, .pointer (some ⟨f, 0, none⟩)), (5, .int .i64 s)] ∧ L = [bx d 50 [v2, m, .int .i64 a1.term.kind, .int .i64 a1.term.arg, n], bx f 50 [o, p, .int .i64 a8.term.kind, .int .i64 a8.term.arg, q]]) ⟨_, nC _ _ rfl, rfl⟩ ?_
       rintro ac _ _ ⟨ab, rfl, rfl⟩ a7 hp ad
       replace hp : pe.bd31 a1 a8 ac = some a7 := hp
       refine nv fun bC a9 => sr <| tm rfl <| tv (fa oE rfl) rfl <| tv (lb s47 0 rfl rfl rfl) rfl <| tv (ln u47 G rfl) rfl <| tv (blt rfl rfl) rfl <| nz <| cD rfl hp (fun ba hp => ?_) fun ba hp => ?_
       · refine sk a9 rfl <| nv fun bD bb => nB <| nv fun bG bc => cq mix Ag <| qv (fa oE rfl) rfl <| qv (lb s47 0 rfl rfl rfl) rfl <| qv mv rfl <| qi u47 i70 G hp rfl rfl rfl rfl ?_
         rintro bH bI bJ _ hp ⟨bK, rfl, bL⟩ be
         refine qv (fa qd rfl) rfl <| qv (lr s3 sH be 0 rfl rfl) rfl <| qv (fa oE rfl) rfl <| qv (lb s47 1 rfl rfl rfl) rfl <| qv mv rfl <| qi u47 i70 J hp rfl rfl rfl rfl ?_
         rintro bM bN bO _ hp ⟨bP, rfl, bQ⟩ bf
         refine qv (fa qd rfl) rfl <| qv (lr s3 sH bf 0 rfl rfl) rfl <| qv (bne rfl rfl) rfl <| qv mv rfl <| bE hp fun bg ht94 hp => QL.cut 15 fun bh bi => ?_
         have ae {bj} : bh (ovr bj [(88, .bool bg), (2, .pointer (some ⟨d, 0, none⟩)), (3, .pointer (some ⟨f, 0, none⟩)), (5, .int .i64 ac)]) := by
          refine bi _ <| QL.nil <| tg bc <| cB rfl hp (fun bk hp => ?_) fun bk hp => ?_
          · refine sr <| ta rfl <| nz <| nH ?_
            obtain rfl := nK hp ad
            exact rt Q [] ⟨rfl, rfl⟩
          · exact sk bb rfl <| nF <| tm rfl <| tv (bad rfl rfl) rfl <| ta rfl <| nl <| gk hp [0, 1] ⟨_, nC _ _ rfl, rfl⟩
         refine ifE ht94 (fun c hp => ?_) fun c hp => ?_
         · refine qgn rfl (bT c) rfl rfl <| qgn rfl (bT c) rfl rfl <| qgn rfl (bT c) rfl rfl <| qgn rfl (bT c) rfl rfl <| qgn rfl (bT c) rfl rfl <| qgn rfl (bT c) rfl rfl <| qgn rfl (bT c) rfl rfl <| qgn rfl (bT c) rfl rfl <| qgn rfl (bT c) rfl rfl <| qgn rfl (bT c) rfl rfl <| qgn rfl (bT c) rfl rfl <| qgn rfl (bT c) rfl rfl <| qgn rfl (bT c) rfl rfl <| qgn rfl (bT c) rfl rfl <| qv (pT (bT c)) rfl ?_
           obtain rfl := Option.some.inj hp
           exact qj ae rfl
         · refine qgy rfl (bF c) <| qv (fa oE rfl) rfl <| qgy rfl (bF c) <| qv (lb s47 0 rfl rfl rfl) rfl <| qgy rfl (bF c) <| qv mv rfl <| qgy rfl (bF c) <| qi u47 i70 G hp rfl rfl rfl rfl ?_
           rintro bl bR bS _ hp ⟨bU, rfl, bm⟩ bn
           refine qgy rfl (bF c) <| qv (fa py rfl) rfl <| qgy rfl (bF c) <| qv (lr s25 sH bn 1 rfl rfl) rfl <| qgy rfl (bF c) <| qv (fa oE rfl) rfl <| qgy rfl (bF c) <| qv (lb s47 1 rfl rfl rfl) rfl <| qgy rfl (bF c) <| qv mv rfl <| qgy rfl (bF c) <| qi u47 i70 J hp rfl rfl rfl rfl ?_
           rintro bo bV bW _ hp ⟨bX, rfl, bp⟩ bq
           refine qgy rfl (bF c) <| qv (fa py rfl) rfl <| qgy rfl (bF c) <| qv (lr s25 sH bq 1 rfl rfl) rfl <| qgy rfl (bF c) <| bE hp fun br hy97 hp => qc (.bool br) c31 (fun _ => sf (a1 := bl.args) (a4 := bo.args) (bm.mono nw) (bp.mono nw) hy97) (fun _ _ h => ⟨h.1.symm, h.2⟩) rfl <| qgy rfl (bF c) <| qv (oI rfl) rfl <| qv (pF (bF c)) rfl ?_
           obtain rfl := Option.some.inj hp
           exact qj ae rfl
       · exact nN <| jn [0, 1] (aC (nK hp ad))
    refine ifE ht100 (fun g hp => ?_) fun g hp => ?_
    · refine gn rfl (bT g) rfl rfl <| gn rfl (bT g) rfl rfl <| gn rfl (bT g) rfl rfl <| gn rfl (bT g) rfl rfl <| gn rfl (bT g) rfl rfl <| gn rfl (bT g) rfl rfl <| gn rfl (bT g) rfl rfl <| gn rfl (bT g) rfl rfl <| tv (pT (bT g)) rfl ?_
      obtain rfl := Option.some.inj hp
      exact nj P rfl
    · refine gy rfl (bF g) <| tv (fa oQ rfl) rfl <| gy rfl (bF g) <| tv (fa o8 rfl) rfl <| gy rfl (bF g) <| tv (lb s25 1 rfl rfl rfl) rfl <| gy rfl (bF g) <| tv (fa oQ rfl) rfl <| gy rfl (bF g) <| tv (fa o8 rfl) rfl <| gy rfl (bF g) <| tv (lb s25 0 rfl rfl rfl) rfl <| gy rfl (bF g) <| bE hp fun bY hy101 hp => tc 0 [_,_] rfl c31 (fun _ => sf (a1 := a1.term.to) (a4 := a8.term.to) (af.mono nw) (ag.mono nw) hy101) rfl ?_
      rintro _ _ ⟨rfl, rfl⟩
      refine gy rfl (bF g) <| tv (oI rfl) rfl <| tv (pF (bF g)) rfl ?_
      obtain rfl := Option.some.inj hp
      exact nj P rfl
   by_cases i : ((¬ (len a1.phis) = (len a8.phis)) ∨ (¬ (len a1.ins) = (len a8.ins))) ∨ (¬ a1.term.kind = a8.term.kind)
   · exact gn rfl (bT i) rfl rfl <| gn rfl (bT i) rfl rfl <| gn rfl (bT i) rfl rfl <| gn rfl (bT i) rfl rfl <| gn rfl (bT i) rfl rfl <| gn rfl (bT i) rfl rfl <| gn rfl (bT i) rfl rfl <| tv (pT (bT i)) rfl <| nj O (bOt i)
   · exact gy rfl (bF i) <| tv (fa oQ rfl) rfl <| gy rfl (bF i) <| tv (fa pp rfl) rfl <| gy rfl (bF i) <| tv (lb s3 1 rfl rfl rfl) rfl <| gy rfl (bF i) <| tv (fa oQ rfl) rfl <| gy rfl (bF i) <| tv (fa pp rfl) rfl <| gy rfl (bF i) <| tv (lb s3 0 rfl rfl rfl) rfl <| gy rfl (bF i) <| tv (bne rfl rfl) rfl <| tv (pF (bF i)) rfl <| nj O (bOf i)
  by_cases j : (¬ (len a1.phis) = (len a8.phis)) ∨ (¬ (len a1.ins) = (len a8.ins))
  · exact gn rfl (bT j) rfl rfl <| gn rfl (bT j) rfl rfl <| gn rfl (bT j) rfl rfl <| gn rfl (bT j) rfl rfl <| gn rfl (bT j) rfl rfl <| gn rfl (bT j) rfl rfl <| gn rfl (bT j) rfl rfl <| tv (pT (bT j)) rfl <| nj N (bOt j)
  · exact gy rfl (bF j) <| tv (fa oQ rfl) rfl <| gy rfl (bF j) <| tv (fa p6 rfl) rfl <| gy rfl (bF j) <| tv (lb s3 1 rfl rfl rfl) rfl <| gy rfl (bF j) <| tv (fa oQ rfl) rfl <| gy rfl (bF j) <| tv (fa p6 rfl) rfl <| gy rfl (bF j) <| tv (lb s3 0 rfl rfl rfl) rfl <| gy rfl (bF j) <| tv (bne rfl rfl) rfl <| tv (pF (bF j)) rfl <| nj N (bOf j)
 by_cases k : ¬ (len a1.phis) = (len a8.phis)
 · exact gn rfl (bT k) rfl rfl <| gn rfl (bT k) rfl rfl <| gn rfl (bT k) rfl rfl <| gn rfl (bT k) rfl rfl <| gn rfl (bT k) rfl rfl <| gn rfl (bT k) rfl rfl <| gn rfl (bT k) rfl rfl <| tv (pT (bT k)) rfl <| nj M (bOt k)
 · exact gy rfl (bF k) <| tv (fa oB rfl) rfl <| gy rfl (bF k) <| tv (lb s48 1 rfl rfl rfl) rfl <| gy rfl (bF k) <| tv (ln u48 I rfl) rfl <| gy rfl (bF k) <| tv (fa oB rfl) rfl <| gy rfl (bF k) <| tv (lb s48 0 rfl rfl rfl) rfl <| gy rfl (bF k) <| tv (ln u48 K rfl) rfl <| gy rfl (bF k) <| tv (bne rfl rfl) rfl <| tv (pF (bF k)) rfl <| nj M (bOf k)
/-! ### fettle/fettleref02.SameFunc -/
abbrev pL.R (r : Bool) (v : Value) (A : List FP) : Prop := .bool r = v ∧ A = []
def pL.nx26  : Option Bool :=
  some true
def pL.bd26 (a1 : ny) (a6 : ny) (a : Int) : Option (Ex (Ex Bool Unit) Int) :=
  if a < (len a1.blocks) then
    (idx a1.blocks a).bind fun b =>
    (idx a6.blocks a).bind fun c =>
    (pe b c).bind fun d =>
    if (!d) = true then
      some (.ret (.ret false))
    else
      some (.go (w64 (a + 1)))
  else
    some (.ret (.go ()))
def pL (a1 : ny) (a6 : ny) : Option Bool :=
  (if (¬ a1.params = a6.params) ∨ (¬ a1.result = a6.result) then some true else (pz a1.regs a6.regs).bind fun a =>
  some (!a)).bind fun b =>
  if b = true ∨ (¬ (len a1.blocks) = (len a6.blocks)) then
    some false
  else
    (whl (fun (s : Int) => pL.bd26 a1 a6 s) nD 0).bind fun z =>
    match z with
      | .ret r => some r
      | .go p => pL.nx26
set_option maxHeartbeats 4000000 in
theorem ug {E : World} {H : FP} {w : World} {a1 : ny} {a6 : ny} {v2 : Value} {g : Value} {i : Value} {j : Value} {r : Bool} (z : SlI (nt .i64) H a1.regs v2) (k : SlI nY H a1.blocks g) (B : SlI (nt .i64) H a6.regs i) (o : SlI nY H a6.blocks j) (hp : pL a1 a6 = some r) (hst : St E H [] w) :
    Fn Try.prog 16 #[.agg #[.int .i64 a1.params, .int .i64 a1.result, v2, g], .agg #[.int .i64 a6.params, .int .i64 a6.result, i, j]] w fun v w' => ∃ A, pL.R r v A ∧ St E H A w' := by
 refine fb 56 [.tmp 4] Try.func16 rfl rfl rfl rfl rfl hst <| sr <| tb [.int .i64 a1.params, .int .i64 a1.result, v2, g] rfl rfl fun d => tb [.int .i64 a6.params, .int .i64 a6.result, i, j] rfl rfl fun f => ta rfl <| nz <| nv fun aw C => sr <| tv (fa po rfl) rfl <| tv (lb s3 1 rfl rfl rfl) rfl <| tv (fa po rfl) rfl <| tv (lb s3 0 rfl rfl rfl) rfl <| tv (bne rfl rfl) rfl <| tm rfl <| TL.cut 6 fun D F => ?_
 have p {G} : ∀ w, St E H [bx f 41 [.int .i64 a6.params, .int .i64 a6.result, i, j], bx d 41 [.int .i64 a1.params, .int .i64 a1.result, v2, g]] w → D (ovr G [(18, .bool (decide ((¬ a1.params = a6.params) ∨ (¬ a1.result = a6.result)))), (2, .pointer (some ⟨d, 0, none⟩)), (3, .pointer (some ⟨f, 0, none⟩))]) w := by
  refine tlg F <| tm rfl <| bE hp fun l ht43 hp => TL.cut 7 fun I J => ?_
  have q {K} : ∀ w, St E H [bx f 41 [.int .i64 a6.params, .int .i64 a6.result, i, j], bx d 41 [.int .i64 a1.params, .int .i64 a1.result, v2, g]] w → I (ovr K [(26, .bool l), (2, .pointer (some ⟨d, 0, none⟩)), (3, .pointer (some ⟨f, 0, none⟩))]) w := by
   refine tlg J <| tm rfl <| TL.cut 8 fun M N => ?_
   have t {O} : ∀ w, St E H [bx f 41 [.int .i64 a6.params, .int .i64 a6.result, i, j], bx d 41 [.int .i64 a1.params, .int .i64 a1.result, v2, g]] w → M (ovr O [(35, .bool (decide (l = true ∨ (¬ (len a1.blocks) = (len a6.blocks))))), (2, .pointer (some ⟨d, 0, none⟩)), (3, .pointer (some ⟨f, 0, none⟩))]) w := by
    refine tlg N <| nz <| cD rfl hp (fun P hp => ?_) fun P hp => ?_
    · exact sr <| ta rfl <| nz <| nH <| rt hp [] ⟨rfl, rfl⟩
    · refine sk C rfl <| nv fun Q S => sr <| ta rfl <| nz <| nB <| bE hp fun T U u => ?_
      have V {W} (X : .go () = T) : ∀ w, St E H [] w → Q (ovr W []) w := by
       subst X
       replace hp : pL.nx26 = some r := u
       exact tg S <| sr <| ta rfl <| nz <| nH <| rt hp [] ⟨rfl, rfl⟩
      refine lp U [1, 0] rfl (fun s e L => ∃ x, e = ovr x [(2, .pointer (some ⟨d, 0, none⟩)), (3, .pointer (some ⟨f, 0, none⟩)), (5, .int .i64 s)] ∧ L = [bx d 41 [.int .i64 a1.params, .int .i64 a1.result, v2, g], bx f 41 [.int .i64 a6.params, .int .i64 a6.result, i, j]]) ⟨_, nC _ _ rfl, rfl⟩ ?_
      rintro Y _ _ ⟨x, rfl, rfl⟩ Z hp y
      replace hp : pL.bd26 a1 a6 Y = some Z := hp
      refine nv fun ax aa => sr <| tm rfl <| tv (fa oa rfl) rfl <| tv (lb s39 0 rfl rfl rfl) rfl <| tv (ln u39 k rfl) rfl <| tv (blt rfl rfl) rfl <| nz <| cD rfl hp (fun ab hp => ?_) fun ab hp => ?_
      · refine sk aa rfl <| nv fun ay ac => nB <| nv fun az ad => cq mix Ag <| qv (fa oa rfl) rfl <| qv (lb s39 0 rfl rfl rfl) rfl <| qv mv rfl <| qi u39 i50 k hp rfl rfl rfl rfl ?_
        rintro m aA aB _ hp ⟨ae, af, ag, rfl, ah, ai, aj⟩ ak
        refine qv (lR (ds := [ae, af, .int .i64 m.term.kind, .int .i64 m.term.arg, ag]) oY sH ak 0 rfl rfl rfl) rfl <| qv (fa oa rfl) rfl <| qv (lb s39 1 rfl rfl rfl) rfl <| qv mv rfl <| qi u39 i50 o hp rfl rfl rfl rfl ?_
        rintro n aC aD _ hp ⟨al, am, an, rfl, ao, ap, aq⟩ ar
        refine qv (lR (ds := [al, am, .int .i64 n.term.kind, .int .i64 n.term.arg, an]) oY sH ar 0 rfl rfl rfl) rfl <| bE hp fun au hy39 hp => qc (.bool au) c32 (fun _ => xn (a1 := m) (a8 := n) (ah.mono nw) (ai.mono nw) (aj.mono nw) (ao.mono nw) (ap.mono nw) (aq.mono nw) hy39) (fun _ _ h => ⟨h.1.symm, h.2⟩) rfl <| qv sg rfl <| QL.nil <| tg ad <| sr <| tm rfl <| tv (oI rfl) rfl <| nz <| cB rfl hp (fun av hp => ?_) fun av hp => ?_
        · refine sr <| ta rfl <| nz <| nH ?_
          obtain rfl := nK hp y
          exact rt u [] ⟨rfl, rfl⟩
        · exact sk ac rfl <| nF <| tm rfl <| tv (bad rfl rfl) rfl <| ta rfl <| nl <| gk hp [0, 1] ⟨_, nC _ _ rfl, rfl⟩
      · exact nN <| jn [] (V (nK hp y))
   by_cases a : l = true
   · exact gn rfl (bbT a) rfl rfl <| gn rfl (bbT a) rfl rfl <| gn rfl (bbT a) rfl rfl <| gn rfl (bbT a) rfl rfl <| gn rfl (bbT a) rfl rfl <| gn rfl (bbT a) rfl rfl <| gn rfl (bbT a) rfl rfl <| tv (pT (bbT a)) rfl <| nj t (bOt a)
   · exact gy rfl (bbF a) <| tv (fa oa rfl) rfl <| gy rfl (bbF a) <| tv (lb s39 1 rfl rfl rfl) rfl <| gy rfl (bbF a) <| tv (ln u39 k rfl) rfl <| gy rfl (bbF a) <| tv (fa oa rfl) rfl <| gy rfl (bbF a) <| tv (lb s39 0 rfl rfl rfl) rfl <| gy rfl (bbF a) <| tv (ln u39 o rfl) rfl <| gy rfl (bbF a) <| tv (bne rfl rfl) rfl <| tv (pF (bbF a)) rfl <| nj t (bOf a)
  refine ifE ht43 (fun b hp => ?_) fun b hp => ?_
  · refine gn rfl (bT b) rfl rfl <| gn rfl (bT b) rfl rfl <| gn rfl (bT b) rfl rfl <| gn rfl (bT b) rfl rfl <| gn rfl (bT b) rfl rfl <| gn rfl (bT b) rfl rfl <| tv (pT (bT b)) rfl ?_
    obtain rfl := Option.some.inj hp
    exact nj q rfl
  · refine gy rfl (bF b) <| tv (fa o7 rfl) rfl <| gy rfl (bF b) <| tv (lb s25 1 rfl rfl rfl) rfl <| gy rfl (bF b) <| tv (fa o7 rfl) rfl <| gy rfl (bF b) <| tv (lb s25 0 rfl rfl rfl) rfl <| gy rfl (bF b) <| bE hp fun aE hy44 hp => tc 0 [_,_] rfl c31 (fun _ => sf (a1 := a1.regs) (a4 := a6.regs) (z.mono nw) (B.mono nw) hy44) rfl ?_
    rintro _ _ ⟨rfl, rfl⟩
    refine gy rfl (bF b) <| tv (oI rfl) rfl <| tv (pF (bF b)) rfl ?_
    obtain rfl := Option.some.inj hp
    exact nj q rfl
 by_cases c : ¬ a1.params = a6.params
 · exact gn rfl (bT c) rfl rfl <| gn rfl (bT c) rfl rfl <| gn rfl (bT c) rfl rfl <| gn rfl (bT c) rfl rfl <| gn rfl (bT c) rfl rfl <| tv (pT (bT c)) rfl <| nj p (bOt c)
 · exact gy rfl (bF c) <| tv (fa p5 rfl) rfl <| gy rfl (bF c) <| tv (lb s3 1 rfl rfl rfl) rfl <| gy rfl (bF c) <| tv (fa p5 rfl) rfl <| gy rfl (bF c) <| tv (lb s3 0 rfl rfl rfl) rfl <| gy rfl (bF c) <| tv (bne rfl rfl) rfl <| tv (pF (bF c)) rfl <| nj p (bOf c)
/-! ### fettle/fettleref02.Same -/
abbrev pV.R (r : Bool) (v : Value) (A : List FP) : Prop := .bool r = v ∧ A = []
def pV.nx11  : Option Bool :=
  some true
def pV.bd11 (a1 : nR) (a4 : nR) (a : Int) : Option (Ex (Ex Bool Unit) Int) :=
  if a < (len a1.funcs) then
    (idx a1.funcs a).bind fun b =>
    (idx a4.funcs a).bind fun c =>
    (pL b c).bind fun d =>
    if (!d) = true then
      some (.ret (.ret false))
    else
      some (.go (w64 (a + 1)))
  else
    some (.ret (.go ()))
def pV (a1 : nR) (a4 : nR) : Option Bool :=
  if ¬ (len a1.funcs) = (len a4.funcs) then
    some false
  else
    (whl (fun (s : Int) => pV.bd11 a1 a4 s) nD 0).bind fun z =>
    match z with
      | .ret r => some r
      | .go p => pV.nx11
theorem xo {E : World} {H : FP} {w : World} {a1 : nR} {a4 : nR} {v2 : Value} {a : Value} {r : Bool} (b : SlI ou H a1.funcs v2) (f : SlI ou H a4.funcs a) (hp : pV a1 a4 = some r) (hst : St E H [] w) :
    Fn Try.prog 15 #[.agg #[v2], .agg #[a]] w fun v w' => ∃ A, pV.R r v A ∧ St E H A w' := by
 refine fb 34 [.tmp 4] Try.func15 rfl rfl rfl rfl rfl hst <| sr <| tb [v2] rfl rfl fun g => tb [a] rfl rfl fun i => ta rfl <| nz <| nv fun W m => sr <| tv (fa oR rfl) rfl <| tv (lb s33 1 rfl rfl rfl) rfl <| tv (ln u33 b rfl) rfl <| tv (fa oR rfl) rfl <| tv (lb s33 0 rfl rfl rfl) rfl <| tv (ln u33 f rfl) rfl <| tv (bne rfl rfl) rfl <| nz <| cD rfl hp (fun n hp => ?_) fun n hp => ?_
 · exact sr <| ta rfl <| nz <| nH <| rt hp [] ⟨rfl, rfl⟩
 · refine sk m rfl <| nv fun o p => sr <| ta rfl <| nz <| nB <| bE hp fun q t j => ?_
   have u {x} (y : .go () = q) : ∀ w, St E H [] w → o (ovr x []) w := by
    subst y
    replace hp : pV.nx11 = some r := j
    exact tg p <| sr <| ta rfl <| nz <| nH <| rt hp [] ⟨rfl, rfl⟩
   refine lp t [1, 0] rfl (fun s e L => ∃ k, e = ovr k [(2, .pointer (some ⟨g, 0, none⟩)), (3, .pointer (some ⟨i, 0, none⟩)), (5, .int .i64 s)] ∧ L = [bx g 35 [v2], bx i 35 [a]]) ⟨_, nC _ _ rfl, rfl⟩ ?_
   rintro z _ _ ⟨k, rfl, rfl⟩ B hp l
   replace hp : pV.bd11 a1 a4 z = some B := hp
   refine nv fun X C => sr <| tm rfl <| tv (fa oR rfl) rfl <| tv (lb s33 0 rfl rfl rfl) rfl <| tv (ln u33 b rfl) rfl <| tv (blt rfl rfl) rfl <| nz <| cD rfl hp (fun D hp => ?_) fun D hp => ?_
   · refine sk C rfl <| nv fun Y F => nB <| nv fun Z G => cq mix Ag <| qv (fa oR rfl) rfl <| qv (lb s33 0 rfl rfl rfl) rfl <| qv mv rfl <| qi u33 i41 b hp rfl rfl rfl rfl ?_
     rintro c aa ab _ hp ⟨I, J, rfl, K, M⟩ N
     refine qv (lR (ds := [.int .i64 c.params, .int .i64 c.result, I, J]) n8 sH N 0 rfl rfl rfl) rfl <| qv (fa oR rfl) rfl <| qv (lb s33 1 rfl rfl rfl) rfl <| qv mv rfl <| qi u33 i41 f hp rfl rfl rfl rfl ?_
     rintro d ac ad _ hp ⟨O, P, rfl, Q, S⟩ T
     refine qv (lR (ds := [.int .i64 d.params, .int .i64 d.result, O, P]) n8 sH T 0 rfl rfl rfl) rfl <| bE hp fun U hy24 hp => qc (.bool U) c16 (fun _ => ug (a1 := c) (a6 := d) (K.mono nw) (M.mono nw) (Q.mono nw) (S.mono nw) hy24) (fun _ _ h => ⟨h.1.symm, h.2⟩) rfl <| qv sg rfl <| QL.nil <| tg G <| sr <| tm rfl <| tv (oI rfl) rfl <| nz <| cB rfl hp (fun V hp => ?_) fun V hp => ?_
     · refine sr <| ta rfl <| nz <| nH ?_
       obtain rfl := nK hp l
       exact rt j [] ⟨rfl, rfl⟩
     · exact sk F rfl <| nF <| tm rfl <| tv (bad rfl rfl) rfl <| ta rfl <| nl <| gk hp [0, 1] ⟨_, nC _ _ rfl, rfl⟩
   · exact nN <| jn [] (u (nK hp l))
end
end Go.Proofs.Ytpmcbahahjelnaa
