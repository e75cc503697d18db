/- Several parts in one text, the first of which: The walk through the program's functions: each one's pure reading, and that a call does what it says. No conditions. -/
import Derived.Test.YtpmcbahahjelnaaQ4
import Derived.Test.YtpmcbahahjelnaaQ1
import Derived.KernelRfl
set_option linter.unusedVariables false
set_option linter.unusedSimpArgs false
namespace Go.Proofs.Ytpmcbahahjelnaa
open Go Go.Proofs
/-! ### fettle/fettlelaw16.ConstsStays -/
abbrev n0.R (r : Bool) (v : Value) (A : List FP) : Prop := .bool r = v ∧ A = []
def n0.nx43 (a4 : Int) (d : Bool) (e : nR) (a : nR) (b : ny × GErr) (f : List PKnown × List Bool × GErr) (g : ny) : Option Bool :=
  (oL a a4).bind fun c =>
  (if d = true then (pV a e).bind fun h =>
  some h else some false).bind fun i =>
  (if (i = true ∧ (((decide (b.2 = GErr.no)) == (decide (f.2.2 = GErr.no))) = true)) ∧ (((decide (b.2 = GErr.no)) == (decide (c.2 = GErr.no))) = true) then (pL c.1 g).bind fun j =>
  some j else some false).bind fun k =>
  some k
def n0.nx94 (a : Int) (b : List nA) : Option (Ex Unit (List nA × Int)) :=
  some (.go (b, (w64 (a + 1))))
def n0.bd94 (d : Int) (b : List nA) (c : Int) : Option (Ex (List nA) (List nA × Int)) :=
  (idx b d).bind fun e =>
  if c < (len e.term.to) then
    (idx b d).bind fun a =>
    (idx a.term.to c).bind fun f =>
    some (.go ((b.set (d).toNat (⟨a.phis, a.ins, (⟨a.term.kind, a.term.arg, (a.term.to.set (c).toNat 9)⟩ : PTerm)⟩ : nA)), (w64 (c + 1))))
  else
    some (.ret b)
def n0.nx87 (a : Int) (b : List nA) : Option (Ex Unit (List nA × Int)) :=
  (whl (fun (s : (List nA × Int)) => n0.bd94 a s.1 s.2) nD (b, 0)).bind fun z =>
  n0.nx94 a z
def n0.nx121 (a : Int) (b : List nA) : Option (Ex (List nA) (List nA × Int)) :=
  some (.go (b, (w64 (a + 1))))
def n0.bd121 (e : Int) (f : Int) (c : List nA) (d : Int) : Option (Ex (List nA) (List nA × Int)) :=
  (idx c e).bind fun g =>
  (idx g.ins f).bind fun h =>
  if d < (len h.args) then
    (idx c e).bind fun a =>
    (idx a.ins f).bind fun b =>
    (idx b.args d).bind fun i =>
    some (.go ((c.set (e).toNat (⟨a.phis, (a.ins.set (f).toNat (⟨b.op, b.dst, (b.args.set (d).toNat 9), b.imm, b.fn⟩ : nL)), (⟨a.term.kind, a.term.arg, a.term.to⟩ : PTerm)⟩ : nA)), (w64 (d + 1))))
  else
    some (.ret c)
def n0.bd87 (c : Int) (a : List nA) (b : Int) : Option (Ex (List nA) (List nA × Int)) :=
  (idx a c).bind fun d =>
  if b < (len d.ins) then
    (whl (fun (s : (List nA × Int)) => n0.bd121 c b s.1 s.2) nD (a, 0)).bind fun z =>
    n0.nx121 b z
  else
    some (.ret a)
def n0.bd43  (b : List nA) (a : Int) : Option (Ex Unit (List nA × Int)) :=
  if a < (len b) then
    (whl (fun (s : (List nA × Int)) => n0.bd87 a s.1 s.2) nD (b, 0)).bind fun z =>
    n0.nx87 a z
  else
    some (.ret ())
def n0.nx34 (a4 : Int) (b : Bool) (c : nR) (d : nR) (a : ny × GErr) (e : List PKnown × List Bool × GErr) (f : ny) : Option Bool :=
  (whl (fun (s : (List nA × Int)) => n0.bd43 s.1 s.2) nD (a.1.blocks, 0)).bind fun z =>
  n0.nx43 a4 b c d a e f
def n0.bd34  (b : List Bool) (a : Int) : Option (Ex Unit (List Bool × Int)) :=
  if a < (len b) then
    (idx b a).bind fun c =>
    (idx b a).bind fun d =>
    some (.go ((b.set (a).toNat (!c)), (w64 (a + 1))))
  else
    some (.ret ())
def n0.nx25 (a4 : Int) (b : Bool) (c : nR) (d : nR) (e : ny × GErr) (a : List PKnown × List Bool × GErr) (f : ny) : Option Bool :=
  (whl (fun (s : (List Bool × Int)) => n0.bd34 s.1 s.2) nD (a.2.1, 0)).bind fun z =>
  n0.nx34 a4 b c d e a f
def n0.bd25  (b : List PKnown) (a : Int) : Option (Ex Unit (List PKnown × Int)) :=
  if a < (len b) then
    (idx b a).bind fun c =>
    some (.go ((b.set (a).toNat (⟨9, 0⟩ : PKnown)), (w64 (a + 1))))
  else
    some (.ret ())
def n0 (a1 : nR) (a4 : Int) : Option Bool :=
  (rK).bind fun b =>
  (ov a1).bind fun f =>
  if (!f) = true then
    some b
  else
    (rf a1 a4 true).bind fun c =>
    (pu c).bind fun a =>
    (oL a a4).bind fun d =>
    (qN a a4).bind fun e =>
    (oy d.1).bind fun g =>
    (whl (fun (s : (List PKnown × Int)) => n0.bd25 s.1 s.2) nD (e.1, 0)).bind fun z =>
    n0.nx25 a4 b c a d e g
set_option maxHeartbeats 4000000 in
theorem xp {E : World} {H : FP} {w : World} {a1 : nR} {a4 : Int} {v2 : Value} {r : Bool} (aO : SlI ou H a1.funcs v2) (hp : n0 a1 a4 = some r) (hst : St E H [] w) :
    Fn Try.prog 6 #[.agg #[v2], .int .i64 a4] w fun v w' => ∃ A, n0.R r v A ∧ St E H A w' := by
 refine fb 169 [.tmp 4] Try.func6 rfl rfl rfl rfl rfl hst <| sr <| tb [v2] rfl rfl fun i => ta rfl <| nz <| sr <| bE hp fun q hy1 hp => tc 0 [_] rfl c17 (fun _ => wU hy1) rfl ?_
 rintro _ _ ⟨rfl, rfl⟩
 refine ta rfl <| nz <| sr <| tv (lA (ds := [v2]) oZ 0 rfl rfl rfl rfl) rfl <| bE hp fun dI hy3 hp => tc 0 [_] rfl c10 (fun _ => wV (a1 := a1) (aO.mono nw) hy3) rfl ?_
 rintro _ _ ⟨rfl, rfl⟩
 refine ta rfl <| nz <| nv fun dJ bl => sr <| tm rfl <| tv (oI rfl) rfl <| nz <| cB rfl hp (fun bm hp => ?_) fun bm hp => ?_
 · exact sr <| tm rfl <| ta rfl <| nz <| nH <| rt hp [] ⟨rfl, rfl⟩
 · refine sk bl rfl <| sr <| tv (lA (ds := [v2]) oZ 0 rfl rfl rfl rfl) rfl <| tm rfl <| bE hp fun X hy8 hp => tc 0 [_] rfl c11 (fun _ => xm (a1 := a1) (a6 := a4) (a7 := true) nw aO hy8) rfl ?_
   rintro _ _ ⟨n, y, rfl, rfl, aq⟩
   refine tS 1 m35 rfl rfl [n] rfl (oc (aq).one oc0) rfl rfl <| nz <| sr <| tv (lA (ds := [n]) oZ 1 rfl rfl rfl rfl) rfl <| bE hp fun S hy10 hp => tc 0 [_,_] rfl c12 (fun _ => uf (a1 := X) (aq.mono (subO (subB 0 rfl) nw)) hy10) rfl ?_
   rintro _ _ ⟨m, z, rfl, rfl, Y⟩
   refine tl i35 rfl fun j => tS 0 m35 rfl rfl [m] rfl (oc (Y).one oc0) rfl rfl <| nz <| sr <| tv (lA (ds := [m]) oZ 0 rfl rfl rfl rfl) rfl <| tm rfl <| bE hp fun d hy12 hp => tc 0 [_,_,_,_] rfl c18 (fun _ => sO (a1 := S) (a4 := a4) (Y.ro.mono (subB 1 rfl)) hy12) rfl ?_
   rintro _ _ ⟨t, K, l, Z, B, C, rfl, rfl, aP, ar, aQ⟩
   refine tm rfl <| tv (xt rfl rfl) rfl <| tv (xt rfl rfl) rfl <| tl i41 rfl fun k => tS 0 m41 rfl rfl [.int .i64 d.1.params, .int .i64 d.1.result, t, l] rfl (oc rfl (oc rfl (oc (aP).one (oc (ar).one oc0)))) rfl rfl <| ta rfl <| nz <| sr <| tv (lA (ds := [m]) oZ 4 rfl rfl rfl rfl) rfl <| tm rfl <| bE hp fun T hy14 hp => tc 0 [_,_,_,_,_,_,_,_] rfl c19 (fun _ => t9 (a1 := S) (a4 := a4) (Y.ro.mono (subB 5 rfl)) hy14) rfl ?_
   rintro _ _ ⟨aR, bn, ae, au, M, D, rfl, rfl, bo, bp, bq⟩
   refine tm rfl <| tv (xt rfl rfl) rfl <| tv (xt rfl rfl) rfl <| tv (xt rfl rfl) rfl <| ta rfl <| ta rfl <| ta rfl <| nz <| sr <| tv (lA (ds := [.int .i64 d.1.params, .int .i64 d.1.result, t, l]) n8 3 rfl rfl rfl rfl) rfl <| bE hp fun f hy16 hp => tc 0 [_,_,_,_,_,_,_,_,_,_,_] rfl c14 (fun _ => sP (a1 := d.1) (aP.ro.mono (subB 4 rfl)) (ar.ro.mono (subB 5 rfl)) hy16) rfl ?_
   rintro _ _ ⟨o, F, p, G, rfl, rfl, aS, aT⟩
   refine tl i41 rfl fun g => tS 0 m41 rfl rfl [.int .i64 f.params, .int .i64 f.result, o, p] rfl (oc rfl (oc rfl (oc (aS).one (oc (aT).one oc0)))) rfl rfl <| nz <| nv fun br bs => sr <| ta rfl <| nz <| nB <| bE hp fun bt bu bv => ?_
   have bw {bz} (bA : () = bt) : ∀ w, St E H [bx i 35 [n], y, bx j 35 [m], z, bx k 41 [.int .i64 d.1.params, .int .i64 d.1.result, t, l], K, Z, C, au, D, bx g 41 [.int .i64 f.params, .int .i64 f.result, o, p], F, G] w → br (ovr bz [(1, .int .i64 a4), (2, .pointer (some ⟨i, 0, none⟩)), (5, .bool q), (7, .pointer (some ⟨j, 0, none⟩)), (8, .pointer (some ⟨k, 0, none⟩)), (9, B), (11, ae), (12, M), (13, .pointer (some ⟨g, 0, none⟩))]) w := by
    subst bA
    replace hp : n0.nx25 a4 q X S d T f = some r := bv
    refine tg bs <| nv fun bB bC => sr <| ta rfl <| nz <| nB <| bE hp fun bD bG bH => ?_
    have bI {bJ} (bK : () = bD) : ∀ w, St E H [bx i 35 [n], y, bx j 35 [m], z, bx k 41 [.int .i64 d.1.params, .int .i64 d.1.result, t, l], K, Z, C, D, bx g 41 [.int .i64 f.params, .int .i64 f.result, o, p], F, G] w → bB (ovr bJ [(1, .int .i64 a4), (2, .pointer (some ⟨i, 0, none⟩)), (5, .bool q), (7, .pointer (some ⟨j, 0, none⟩)), (8, .pointer (some ⟨k, 0, none⟩)), (9, B), (12, M), (13, .pointer (some ⟨g, 0, none⟩))]) w := by
     subst bK
     replace hp : n0.nx34 a4 q X S d T f = some r := bH
     refine tg bC <| nv fun bL bM => sr <| ta rfl <| nz <| nB <| bE hp fun bN bO bP => ?_
     have bQ {bR} (bS : () = bN) : ∀ w, St E H [bx i 35 [n], y, bx j 35 [m], z, C, D, bx g 41 [.int .i64 f.params, .int .i64 f.result, o, p], F, G] w → bL (ovr bR [(1, .int .i64 a4), (2, .pointer (some ⟨i, 0, none⟩)), (5, .bool q), (7, .pointer (some ⟨j, 0, none⟩)), (9, B), (12, M), (13, .pointer (some ⟨g, 0, none⟩))]) w := by
      subst bS
      replace hp : n0.nx43 a4 q X S d T f = some r := bP
      refine tg bM <| sr <| tv (lA (ds := [m]) oZ 2 rfl rfl rfl rfl) rfl <| tm rfl <| bE hp fun U hy45 hp => tc 0 [_,_,_,_,_,_,_,_,_] rfl c18 (fun _ => sO (a1 := S) (a4 := a4) (Y.ro.mono (subB 3 rfl)) hy45) rfl ?_
      rintro _ _ ⟨aU, dK, aV, dL, aW, dM, rfl, rfl, aX, aY, bU⟩
      refine tm rfl <| tv (xt rfl rfl) rfl <| tv (xt rfl rfl) rfl <| tl i41 rfl fun av => tS 0 m41 rfl rfl [.int .i64 U.1.params, .int .i64 U.1.result, aU, aV] rfl (oc rfl (oc rfl (oc (aX).one (oc (aY).one oc0)))) rfl rfl <| ta rfl <| nz <| nv fun dN bV => cq mix Ag <| qv mv rfl <| qv mv rfl <| bE hp fun aa ht71 hp => QL.cut 4 fun bW bX => ?_
      have aZ {bY} : bW (ovr bY [(149, .bool aa), (9, B), (12, M), (13, .pointer (some ⟨g, 0, none⟩)), (20, .pointer (some ⟨av, 0, none⟩)), (21, aW)]) := by
       refine bX _ <| qv mv rfl <| QL.cut 6 fun bZ b0 => ?_
       have a0 {b1} : bZ (ovr b1 [(156, .bool (decide (aa = true ∧ (((decide (d.2 = GErr.no)) == (decide (T.2.2 = GErr.no))) = true)))), (9, B), (13, .pointer (some ⟨g, 0, none⟩)), (20, .pointer (some ⟨av, 0, none⟩)), (21, aW)]) := by
        refine b0 _ <| qv mv rfl <| QL.cut 6 fun b2 b3 => ?_
        have a2 {b4} : b2 (ovr b4 [(163, .bool (decide ((aa = true ∧ (((decide (d.2 = GErr.no)) == (decide (T.2.2 = GErr.no))) = true)) ∧ (((decide (d.2 = GErr.no)) == (decide (U.2 = GErr.no))) = true)))), (13, .pointer (some ⟨g, 0, none⟩)), (20, .pointer (some ⟨av, 0, none⟩))]) := by
         refine b3 _ <| qv mv rfl <| bE hp fun b5 ht69 hp => QL.cut 4 fun b6 b7 => ?_
         have a3 {b8} : b6 (ovr b8 [(168, .bool b5)]) := by
          exact b7 _ <| qv sg rfl <| QL.nil <| tg bV <| nH <| rt hp [] ⟨rfl, rfl⟩
         refine ifE ht69 (fun O hp => ?_) fun O hp => ?_
         · refine qgy rfl (bT O) <| qv (lA (ds := [.int .i64 U.1.params, .int .i64 U.1.result, aU, aV]) n8 0 rfl rfl rfl rfl) rfl <| qgy rfl (bT O) <| qv (lA (ds := [.int .i64 f.params, .int .i64 f.result, o, p]) n8 10 rfl rfl rfl rfl) rfl <| qgy rfl (bT O) <| bE hp fun b9 hy70 hp => qc (.bool b9) c16 (fun _ => ug (a1 := U.1) (a6 := f) (aX.ro.mono (subB 1 rfl)) (aY.ro.mono (subB 2 rfl)) (aS.ro.mono (subB 11 rfl)) (aT.ro.mono (subB 12 rfl)) hy70) (fun _ _ h => ⟨h.1.symm, h.2⟩) rfl <| qv (pT (bT O)) rfl ?_
           obtain rfl := Option.some.inj hp
           exact qj a3 rfl
         · refine qgn rfl (bF O) rfl rfl <| qgn rfl (bF O) rfl rfl <| qgn rfl (bF O) rfl rfl <| qv (pF (bF O)) rfl ?_
           obtain rfl := Option.some.inj hp
           exact qj a3 rfl
        by_cases I : aa = true ∧ (((decide (d.2 = GErr.no)) == (decide (T.2.2 = GErr.no))) = true)
        · exact qgy rfl (bT I) <| qv mv rfl <| qgy rfl (bT I) <| qv (ry pc aQ rfl) rfl <| qgy rfl (bT I) <| qv mv rfl <| qgy rfl (bT I) <| qv (ry pc bU rfl) rfl <| qgy rfl (bT I) <| qv (tx (b := (decide (d.2 = GErr.no))) (c := (decide (U.2 = GErr.no))) Try.underlying4 rfl rfl) rfl <| qv (pT (bT I)) rfl <| qj a2 (bAt' I)
        · exact qgn rfl (bF I) rfl rfl <| qgn rfl (bF I) rfl rfl <| qgn rfl (bF I) rfl rfl <| qgn rfl (bF I) rfl rfl <| qgn rfl (bF I) rfl rfl <| qv (pF (bF I)) rfl <| qj a2 (bAf I)
       by_cases J : aa = true
       · exact qgy rfl (bbT J) <| qv mv rfl <| qgy rfl (bbT J) <| qv (ry pc aQ rfl) rfl <| qgy rfl (bbT J) <| qv mv rfl <| qgy rfl (bbT J) <| qv (ry pc bq rfl) rfl <| qgy rfl (bbT J) <| qv (tx (b := (decide (d.2 = GErr.no))) (c := (decide (T.2.2 = GErr.no))) Try.underlying4 rfl rfl) rfl <| qv (pT (bbT J)) rfl <| qj a0 (bAt' J)
       · exact qgn rfl (bbF J) rfl rfl <| qgn rfl (bbF J) rfl rfl <| qgn rfl (bbF J) rfl rfl <| qgn rfl (bbF J) rfl rfl <| qgn rfl (bbF J) rfl rfl <| qv (pF (bbF J)) rfl <| qj a0 (bAf J)
      refine ifE ht71 (fun P hp => ?_) fun P hp => ?_
      · refine qgy rfl (bbT P) <| qv (lA (ds := [m]) oZ 6 rfl rfl rfl rfl) rfl <| qgy rfl (bbT P) <| qv (lA (ds := [n]) oZ 4 rfl rfl rfl rfl) rfl <| qgy rfl (bbT P) <| bE hp fun ca hy72 hp => qc (.bool ca) c15 (fun _ => xo (a1 := S) (a4 := X) (Y.ro.mono (subB 7 rfl)) (aq.mono (subO (subB 5 rfl) nw)) hy72) (fun _ _ h => ⟨h.1.symm, h.2⟩) rfl <| qv (pT (bbT P)) rfl ?_
        obtain rfl := Option.some.inj hp
        exact qj aZ rfl
      · refine qgn rfl (bbF P) rfl rfl <| qgn rfl (bbF P) rfl rfl <| qgn rfl (bbF P) rfl rfl <| qv (pF (bbF P)) rfl ?_
        obtain rfl := Option.some.inj hp
        exact qj aZ rfl
     refine lp bO [0, 1, 2, 3, 4, 5, 6, 7, 8, 9, 10, 11] rfl (fun s e L => ∃ af x ag a5, s = (af, x) ∧ SlO 50 nY af l ag ∧ e = ovr a5 [(1, .int .i64 a4), (2, .pointer (some ⟨i, 0, none⟩)), (5, .bool q), (7, .pointer (some ⟨j, 0, none⟩)), (8, .pointer (some ⟨k, 0, none⟩)), (9, B), (12, M), (13, .pointer (some ⟨g, 0, none⟩)), (16, .int .i64 x)] ∧ L = [bx i 35 [n], y, bx j 35 [m], z, bx k 41 [.int .i64 d.1.params, .int .i64 d.1.result, t, l], K, ag, C, D, bx g 41 [.int .i64 f.params, .int .i64 f.result, o, p], F, G]) ⟨_, _, Z, _, rfl, ar, nC _ _ rfl, rfl⟩ ?_
     rintro _ _ _ ⟨af, x, ag, a5, rfl, a8, rfl, rfl⟩ aw hp cb
     replace hp : n0.bd43 af x = some aw := hp
     refine nv fun dO cc => sr <| tm rfl <| tv (fa oa rfl) rfl <| tv (lb s39 4 rfl rfl rfl) rfl <| tv (ln u39 a8.ro rfl) rfl <| tv (blt rfl rfl) rfl <| nz <| cD rfl hp (fun cd hp => ?_) fun cd hp => ?_
     · refine sk cc rfl <| nv fun ce cf => nB <| nv fun cg ch => sr <| ta rfl <| nz <| nB <| bE hp fun ci cj ck => ?_
       have cl {ax ay cm} (cn : SlO 50 nY ax l ay) (co : ax = ci) : ∀ w, St E H [bx i 35 [n], y, bx j 35 [m], z, bx k 41 [.int .i64 d.1.params, .int .i64 d.1.result, t, l], K, ay, C, D, bx g 41 [.int .i64 f.params, .int .i64 f.result, o, p], F, G] w → cg (ovr cm [(1, .int .i64 a4), (2, .pointer (some ⟨i, 0, none⟩)), (5, .bool q), (7, .pointer (some ⟨j, 0, none⟩)), (8, .pointer (some ⟨k, 0, none⟩)), (9, B), (12, M), (13, .pointer (some ⟨g, 0, none⟩)), (16, .int .i64 x)]) w := by
        subst co
        replace hp : n0.nx87 x ax = some aw := ck
        refine tg ch <| sr <| ta rfl <| nz <| nB <| bE hp fun cp cr cs => ?_
        have ct {az aA cu} (cv : SlO 50 nY az l aA) (cw : az = cp) : ∀ w, St E H [bx i 35 [n], y, bx j 35 [m], z, bx k 41 [.int .i64 d.1.params, .int .i64 d.1.result, t, l], K, aA, C, D, bx g 41 [.int .i64 f.params, .int .i64 f.result, o, p], F, G] w → ce (ovr cu [(1, .int .i64 a4), (2, .pointer (some ⟨i, 0, none⟩)), (5, .bool q), (7, .pointer (some ⟨j, 0, none⟩)), (8, .pointer (some ⟨k, 0, none⟩)), (9, B), (12, M), (13, .pointer (some ⟨g, 0, none⟩)), (16, .int .i64 x)]) w := by
         subst cw
         replace hp : n0.nx94 x az = some aw := cs
         exact tg cf <| nF <| tm rfl <| tv (bad rfl rfl) rfl <| ta rfl <| nl <| gk hp [0, 1, 2, 3, 4, 5, 6, 7, 8, 9, 10, 11] ⟨_, _, aA, _, rfl, cv, nC _ _ rfl, rfl⟩
        refine lp cr [0, 1, 2, 3, 4, 5, 6, 7, 8, 9, 10, 11] rfl (fun s e L => ∃ ah ab aB a9, s = (ah, ab) ∧ SlO 50 nY ah l aB ∧ e = ovr a9 [(1, .int .i64 a4), (2, .pointer (some ⟨i, 0, none⟩)), (5, .bool q), (7, .pointer (some ⟨j, 0, none⟩)), (8, .pointer (some ⟨k, 0, none⟩)), (9, B), (12, M), (13, .pointer (some ⟨g, 0, none⟩)), (16, .int .i64 x), (19, .int .i64 ab)] ∧ L = [bx i 35 [n], y, bx j 35 [m], z, bx k 41 [.int .i64 d.1.params, .int .i64 d.1.result, t, l], K, aB, C, D, bx g 41 [.int .i64 f.params, .int .i64 f.result, o, p], F, G]) ⟨_, _, ay, _, rfl, cn, nC _ _ rfl, rfl⟩ ?_
        rintro _ _ _ ⟨ah, ab, aB, a9, rfl, aC, rfl, rfl⟩ cx hp cy
        replace hp : n0.bd94 x ah ab = some cx := hp
        refine nv fun dP cz => sr <| tm rfl <| tv (fa oa rfl) rfl <| tv (lb s39 4 rfl rfl rfl) rfl <| tm rfl <| ti u39 i50 (aC).ro hp rfl rfl rfl rfl ?_
        rintro dQ dR dS _ hp ⟨dT, dU, dV, rfl, dW, dX, cA⟩ cC
        refine tv (fa oQ rfl) rfl <| tv (fa o8 rfl) rfl <| tv (lr s25 (Src.at_ 6 rfl) cC 4 rfl rfl) rfl <| tv (ln u25 cA rfl) rfl <| tv (blt rfl rfl) rfl <| nz <| cD rfl hp (fun cE hp => ?_) fun cE hp => ?_
        · refine sk cz rfl <| nv fun dY cF => nB <| nF <| tv (fa oa rfl) rfl <| tv (lb s39 4 rfl rfl rfl) rfl <| tm rfl <| tp [6, 0, 1, 2, 3, 4, 5, 7, 8, 9, 10, 11] [_,_,_,_,_,_,_,_,_,_,_,_] rfl rfl <| bE hp fun ac ba hp => TL.open_ aC ba ?_
          rintro dZ _ cG d0 aD ⟨d1, cH, d2, cI, d3, cJ, rfl, rfl, cK, cL, bb⟩
          exact TL.perm (L' := [cG, cH, cI, cJ, bx i 35 [n], y, bx j 35 [m], z, bx k 41 [.int .i64 d.1.params, .int .i64 d.1.result, t, l], K, C, D, bx g 41 [.int .i64 f.params, .int .i64 f.result, o, p], F, G]) (by simp) <| tv (pa u39 i50 rfl rfl (oM ba).1 aD) rfl <| tv (fa oQ rfl) rfl <| tv (fa o8 rfl) rfl <| tv (lr s25 (Src.at_ 0 rfl) (Hole.cells aD) 4 rfl rfl) rfl <| tm rfl <| tO u25 i3 bb hp rfl rfl rfl rfl fun d4 d5 d6 cM hp => tp [3, 0, 1, 2, 4, 5, 6, 7, 8, 9, 10, 11, 12, 13, 14] [_,_,_,_,_,_,_,_,_,_,_,_,_,_,_] rfl rfl <| tE bb cM m3 rfl ⟨rfl, rfl⟩ w1 fun d7 cN => nl <| tg cF <| nF <| tm rfl <| tv (bad rfl rfl) rfl <| ta rfl <| nl <| wp [1, 2, 3, 0, 4, 5, 6, 7, 8, 9, 10, 11, 12, 13, 14] [_,_,_,_,_,_,_,_,_,_,_,_,_,_,_] rfl rfl <| wf 1 3 [_,_,_,_,_,_,_,_,_,_,_,_,_] rfl <| W.shut (a := (⟨ac.phis, ac.ins, (⟨ac.term.kind, ac.term.arg, (ac.term.to.set (ab).toNat 9)⟩ : PTerm)⟩ : nA)) aD ⟨_, _, _, _, _, _, rfl, rfl, cK, cL, cN⟩ fun cO cP => gk hp [1, 2, 3, 4, 5, 6, 0, 7, 8, 9, 10, 11] ⟨_, _, cO, _, rfl, cP, nC _ _ rfl, rfl⟩
        · exact nN <| jn [0, 1, 2, 3, 4, 5, 6, 7, 8, 9, 10, 11] (ct aC (nK hp cy))
       refine lp cj [0, 1, 2, 3, 4, 5, 6, 7, 8, 9, 10, 11] rfl (fun s e L => ∃ ai Q aj bc, s = (ai, Q) ∧ SlO 50 nY ai l aj ∧ e = ovr bc [(1, .int .i64 a4), (2, .pointer (some ⟨i, 0, none⟩)), (5, .bool q), (7, .pointer (some ⟨j, 0, none⟩)), (8, .pointer (some ⟨k, 0, none⟩)), (9, B), (12, M), (13, .pointer (some ⟨g, 0, none⟩)), (16, .int .i64 x), (17, .int .i64 Q)] ∧ L = [bx i 35 [n], y, bx j 35 [m], z, bx k 41 [.int .i64 d.1.params, .int .i64 d.1.result, t, l], K, aj, C, D, bx g 41 [.int .i64 f.params, .int .i64 f.result, o, p], F, G]) ⟨_, _, ag, _, rfl, a8, nC _ _ rfl, rfl⟩ ?_
       rintro _ _ _ ⟨ai, Q, aj, bc, rfl, aE, rfl, rfl⟩ be hp cQ
       replace hp : n0.bd87 x ai Q = some be := hp
       refine nv fun d8 cR => sr <| tm rfl <| tv (fa oa rfl) rfl <| tv (lb s39 4 rfl rfl rfl) rfl <| tm rfl <| ti u39 i50 (aE).ro hp rfl rfl rfl rfl ?_
       rintro d9 ea eb _ hp ⟨ec, ed, ee, rfl, ef, cS, eg⟩ cT
       refine tv (fa oB rfl) rfl <| tv (lr s48 (Src.at_ 6 rfl) cT 1 rfl rfl) rfl <| tv (ln u48 cS rfl) rfl <| tv (blt rfl rfl) rfl <| nz <| cD rfl hp (fun cU hp => ?_) fun cU hp => ?_
       · refine sk cR rfl <| nv fun cV cW => nB <| sr <| ta rfl <| nz <| nB <| bE hp fun cX cY cZ => ?_
         have c0 {aF aG c1} (c2 : SlO 50 nY aF l aG) (c3 : aF = cX) : ∀ w, St E H [bx i 35 [n], y, bx j 35 [m], z, bx k 41 [.int .i64 d.1.params, .int .i64 d.1.result, t, l], K, aG, C, D, bx g 41 [.int .i64 f.params, .int .i64 f.result, o, p], F, G] w → cV (ovr c1 [(1, .int .i64 a4), (2, .pointer (some ⟨i, 0, none⟩)), (5, .bool q), (7, .pointer (some ⟨j, 0, none⟩)), (8, .pointer (some ⟨k, 0, none⟩)), (9, B), (12, M), (13, .pointer (some ⟨g, 0, none⟩)), (16, .int .i64 x), (17, .int .i64 Q)]) w := by
          subst c3
          replace hp : n0.nx121 Q aF = some be := cZ
          exact tg cW <| nF <| tm rfl <| tv (bad rfl rfl) rfl <| ta rfl <| nl <| gk hp [0, 1, 2, 3, 4, 5, 6, 7, 8, 9, 10, 11] ⟨_, _, aG, _, rfl, c2, nC _ _ rfl, rfl⟩
         refine lp cY [0, 1, 2, 3, 4, 5, 6, 7, 8, 9, 10, 11] rfl (fun s e L => ∃ ak V aH bf, s = (ak, V) ∧ SlO 50 nY ak l aH ∧ e = ovr bf [(1, .int .i64 a4), (2, .pointer (some ⟨i, 0, none⟩)), (5, .bool q), (7, .pointer (some ⟨j, 0, none⟩)), (8, .pointer (some ⟨k, 0, none⟩)), (9, B), (12, M), (13, .pointer (some ⟨g, 0, none⟩)), (16, .int .i64 x), (17, .int .i64 Q), (18, .int .i64 V)] ∧ L = [bx i 35 [n], y, bx j 35 [m], z, bx k 41 [.int .i64 d.1.params, .int .i64 d.1.result, t, l], K, aH, C, D, bx g 41 [.int .i64 f.params, .int .i64 f.result, o, p], F, G]) ⟨_, _, aj, _, rfl, aE, nC _ _ rfl, rfl⟩ ?_
         rintro _ _ _ ⟨ak, V, aH, bf, rfl, aI, rfl, rfl⟩ c4 hp c5
         replace hp : n0.bd121 x Q ak V = some c4 := hp
         refine nv fun eh c6 => sr <| tm rfl <| tv (fa oa rfl) rfl <| tv (lb s39 4 rfl rfl rfl) rfl <| tm rfl <| ti u39 i50 (aI).ro hp rfl rfl rfl rfl ?_
         rintro ei ej ek _ hp ⟨el, em, en, rfl, eo, c7, ep⟩ c8
         refine tv (fa oB rfl) rfl <| tv (lr s48 (Src.at_ 6 rfl) c8 1 rfl rfl) rfl <| tm rfl <| ti u48 i52 c7 hp rfl rfl rfl rfl ?_
         rintro eq er es _ hp ⟨et, rfl, c9⟩ da
         refine tv (fa o6 rfl) rfl <| tv (lr s25 (Src.at_ 6 rfl) da 2 rfl rfl) rfl <| tv (ln u25 c9 rfl) rfl <| tv (blt rfl rfl) rfl <| nz <| cD rfl hp (fun db hp => ?_) fun db hp => ?_
         · refine sk c6 rfl <| nv fun eu dc => nB <| nF <| tv (fa oa rfl) rfl <| tv (lb s39 4 rfl rfl rfl) rfl <| tm rfl <| tp [6, 0, 1, 2, 3, 4, 5, 7, 8, 9, 10, 11] [_,_,_,_,_,_,_,_,_,_,_,_] rfl rfl <| bE hp fun ad bg hp => TL.open_ aI bg ?_
           rintro ev _ dd ew aJ ⟨ex, de, ey, df, ez, dg, rfl, rfl, dh, di, dj⟩
           refine TL.perm (L' := [dd, de, df, dg, bx i 35 [n], y, bx j 35 [m], z, bx k 41 [.int .i64 d.1.params, .int .i64 d.1.result, t, l], K, C, D, bx g 41 [.int .i64 f.params, .int .i64 f.result, o, p], F, G]) (by simp) <| tv (pa u39 i50 rfl rfl (oM bg).1 aJ) rfl <| tv (fa oB rfl) rfl <| tv (lr s48 (Src.at_ 0 rfl) (Hole.cells aJ) 1 rfl rfl) rfl <| tm rfl <| tp [2, 0, 1, 3, 4, 5, 6, 7, 8, 9, 10, 11, 12, 13, 14] [_,_,_,_,_,_,_,_,_,_,_,_,_,_,_] rfl rfl <| bE hp fun N bh hp => TL.open_ di bh ?_
           rintro eA _ eB eC aK ⟨eD, eE, rfl, rfl, bi⟩
           exact tv (pa u48 i52 rfl rfl (oM bh).1 aK) rfl <| tv (fa o6 rfl) rfl <| tv (lr s25 (Src.at_ 0 rfl) (Hole.cells aK) 2 rfl rfl) rfl <| tm rfl <| tO u25 i3 bi hp rfl rfl rfl rfl fun eF eG eH dk hp => tp [1, 0, 2, 3, 4, 5, 6, 7, 8, 9, 10, 11, 12, 13, 14, 15] [_,_,_,_,_,_,_,_,_,_,_,_,_,_,_,_] rfl rfl <| tE bi dk m3 rfl ⟨rfl, rfl⟩ w1 fun eI dl => nl <| tg dc <| nF <| tm rfl <| tv (bad rfl rfl) rfl <| ta rfl <| nl <| wp [1, 0, 2, 3, 4, 5, 6, 7, 8, 9, 10, 11, 12, 13, 14, 15] [_,_,_,_,_,_,_,_,_,_,_,_,_,_,_,_] rfl rfl <| W.shut (a := (⟨N.op, N.dst, (N.args.set (V).toNat 9), N.imm, N.fn⟩ : nL)) aK ⟨_, _, rfl, rfl, dl⟩ fun eJ dm => wp [1, 2, 0, 3, 4, 5, 6, 7, 8, 9, 10, 11, 12, 13, 14] [_,_,_,_,_,_,_,_,_,_,_,_,_,_,_] rfl rfl <| wf 1 3 [_,_,_,_,_,_,_,_,_,_,_,_,_] rfl <| W.shut (a := (⟨ad.phis, (ad.ins.set (Q).toNat (⟨N.op, N.dst, (N.args.set (V).toNat 9), N.imm, N.fn⟩ : nL)), (⟨ad.term.kind, ad.term.arg, ad.term.to⟩ : PTerm)⟩ : nA)) aJ ⟨_, _, _, _, _, _, rfl, rfl, dh, dm, dj⟩ fun dn dp => gk hp [1, 2, 3, 4, 5, 6, 0, 7, 8, 9, 10, 11] ⟨_, _, dn, _, rfl, dp, nC _ _ rfl, rfl⟩
         · exact nN <| jn [0, 1, 2, 3, 4, 5, 6, 7, 8, 9, 10, 11] (c0 aI (nK hp c5))
       · exact nN <| jn [0, 1, 2, 3, 4, 5, 6, 7, 8, 9, 10, 11] (cl aE (nK hp cQ))
     · exact nN <| jn [0, 1, 2, 3, 7, 8, 9, 10, 11] (bQ (nK hp cb))
    refine lp bG [0, 1, 2, 3, 4, 5, 6, 7, 8, 9, 10, 11, 12] rfl (fun s e L => ∃ al am aL bj, s = (al, am) ∧ SlO 4 kBool al ae aL ∧ e = ovr bj [(1, .int .i64 a4), (2, .pointer (some ⟨i, 0, none⟩)), (5, .bool q), (7, .pointer (some ⟨j, 0, none⟩)), (8, .pointer (some ⟨k, 0, none⟩)), (9, B), (11, ae), (12, M), (13, .pointer (some ⟨g, 0, none⟩)), (15, .int .i64 am)] ∧ L = [bx i 35 [n], y, bx j 35 [m], z, bx k 41 [.int .i64 d.1.params, .int .i64 d.1.result, t, l], K, Z, C, aL, D, bx g 41 [.int .i64 f.params, .int .i64 f.result, o, p], F, G]) ⟨_, _, au, _, rfl, bp, nC _ _ rfl, rfl⟩ ?_
    rintro _ _ _ ⟨al, am, aL, bj, rfl, an, rfl, rfl⟩ dq hp dr
    replace hp : n0.bd34 al am = some dq := hp
    refine nv fun eK dt => sr <| tm rfl <| tm rfl <| tv (ln u58 an.ro rfl) rfl <| tv (blt rfl rfl) rfl <| nz <| cD rfl hp (fun du hp => ?_) fun du hp => ?_
    · refine sk dt rfl <| nv fun eL dv => nB <| nF <| tm rfl <| tm rfl <| tm rfl <| tm rfl <| ti u58 i4 (an).ro hp rfl rfl rfl rfl ?_
      rintro eM eN eO _ hp rfl dw
      exact tv (lr s4 (Src.at_ 8 rfl) dw 0 rfl rfl) rfl <| tv (oI rfl) rfl <| tO u58 i4 an hp rfl rfl rfl rfl fun eP eQ eR dx hp => tp [8, 0, 1, 2, 3, 4, 5, 6, 7, 9, 10, 11, 12] [_,_,_,_,_,_,_,_,_,_,_,_,_] rfl rfl <| tE an dx m4 rfl ⟨rfl, rfl⟩ w1 fun dy dz => nl <| tg dv <| nF <| tm rfl <| tv (bad rfl rfl) rfl <| ta rfl <| nl <| gk hp [1, 2, 3, 4, 5, 6, 7, 8, 0, 9, 10, 11, 12] ⟨_, _, dy, _, rfl, dz, nC _ _ rfl, rfl⟩
    · exact nN <| jn [0, 1, 2, 3, 4, 5, 6, 7, 9, 10, 11, 12] (bI (nK hp dr))
   refine lp bu [13, 12, 10, 11, 6, 7, 8, 9, 3, 4, 5, 0, 1, 2] rfl (fun s e L => ∃ ao ap aM bk, s = (ao, ap) ∧ SlO 62 kKnown ao aR aM ∧ e = ovr bk [(1, .int .i64 a4), (2, .pointer (some ⟨i, 0, none⟩)), (5, .bool q), (7, .pointer (some ⟨j, 0, none⟩)), (8, .pointer (some ⟨k, 0, none⟩)), (9, B), (10, aR), (11, ae), (12, M), (13, .pointer (some ⟨g, 0, none⟩)), (14, .int .i64 ap)] ∧ L = [bx i 35 [n], y, bx j 35 [m], z, bx k 41 [.int .i64 d.1.params, .int .i64 d.1.result, t, l], K, Z, C, aM, au, D, bx g 41 [.int .i64 f.params, .int .i64 f.result, o, p], F, G]) ⟨_, _, bn, _, rfl, bo, nC _ _ rfl, rfl⟩ ?_
   rintro _ _ _ ⟨ao, ap, aM, bk, rfl, aN, rfl, rfl⟩ dA hp dB
   replace hp : n0.bd25 ao ap = some dA := hp
   refine nv fun eS dC => sr <| tm rfl <| tm rfl <| tv (ln u57 aN.ro rfl) rfl <| tv (blt rfl rfl) rfl <| nz <| cD rfl hp (fun dD hp => ?_) fun dD hp => ?_
   · exact sk dC rfl <| nv fun eT dE => nB <| nF <| tm rfl <| tm rfl <| tv (n9 (vs := [(0, .int .i64 9)]) (ds := [.int .i64 9, .int .i64 0]) rfl (fun w => by kernel_rfl)) rfl <| tO u57 i62 aN hp rfl rfl rfl rfl fun eU eV eW dF hp => tp [8, 0, 1, 2, 3, 4, 5, 6, 7, 9, 10, 11, 12, 13] [_,_,_,_,_,_,_,_,_,_,_,_,_,_] rfl rfl <| TL.stE0 (ds := [.int .i64 9, .int .i64 0]) (u := .agg #[.int .i64 9, .int .i64 0]) (a := (⟨9, 0⟩ : PKnown)) aN dF m62 rfl rfl rfl ⟨rfl, rfl⟩ fun dG dH => nl <| tg dE <| nF <| tm rfl <| tv (bad rfl rfl) rfl <| ta rfl <| nl <| gk hp [1, 2, 3, 4, 5, 6, 7, 8, 0, 9, 10, 11, 12, 13] ⟨_, _, dG, _, rfl, dH, nC _ _ rfl, rfl⟩
   · exact nN <| jn [0, 1, 2, 3, 4, 5, 6, 7, 9, 10, 11, 12, 13] (bw (nK hp dB))
end Go.Proofs.Ytpmcbahahjelnaa
namespace Go.Proofs.Ytpmcbahahjelnaa
open Go Go.Proofs
theorem qx {w : World} : Opens Try.prog w 3 (nt .i64) inI64 := tV Try.underlying3
theorem sh {w : World} : Opens Try.prog w 25 (kSl 3 (nt .i64)) (okL inI64) := rB Try.underlying25 Ag (by decide) qx
def wfPhi (x : PPhi) : Prop := inI64 x.dst ∧ (okL inI64) x.args
theorem xq {w : World} : Opens Try.prog w 70 oS wfPhi := by
  intro H enc base spare held fuel cs x h
  obtain ⟨ys, n, rfl, rfl, hl, hxl, hf⟩ := DataW.trod_struct Try.underlying70 h
  have hn : cs.length = 2 := hl.trans Ag
  obtain ⟨c0, c1, rfl⟩ := len2 hn
  have g0 : DataW.trod enc Try.prog w base spare held n 3 (([c0, c1].drop 0).take (Try.prog.cellsOf 3)) = ys[0]? := hf 0 _ rfl
  have s0 : Try.prog.cellsOf 3 = 1 := by kernel_rfl
  rw [s0] at g0
  have i0 : 0 < ys.length := by rw [hxl]; exact ltb rfl
  rw [List.getElem?_eq_getElem i0] at g0
  have g1 : DataW.trod enc Try.prog w base spare held n 25 (([c0, c1].drop 1).take (Try.prog.cellsOf 25)) = ys[1]? := hf 1 _ rfl
  have s1 : Try.prog.cellsOf 25 = 1 := by kernel_rfl
  rw [s1] at g1
  have i1 : 1 < ys.length := by rw [hxl]; exact ltb rfl
  rw [List.getElem?_eq_getElem i1] at g1
  obtain ⟨a0, r0, w0⟩ := qx _ _ _ _ _ _ _ _ g0
  have e0 : [c0] = [.int .i64 a0] := r0
  simp only [List.cons.injEq, and_true] at e0
  subst e0
  obtain ⟨a1, r1, w1⟩ := sh _ _ _ _ _ _ _ _ g1
  obtain ⟨v1, q1, t1⟩ := r1
  have e1 : [c1] = [v1] := q1
  simp only [List.cons.injEq, and_true] at e1
  subst e1
  exact ⟨⟨a0, a1⟩, ⟨_, rfl, t1⟩, ⟨w0, w1⟩⟩
theorem xr {w : World} : Opens Try.prog w 47 (kSl 70 oS) (okL wfPhi) := rB Try.underlying47 Ag (by decide) xq
theorem xu {w : World} : Opens Try.prog w 2 (nt .i64) inI64 := tV Try.underlying2
def wfInstr (x : nL) : Prop := inI64 x.op ∧ inI64 x.dst ∧ (okL inI64) x.args ∧ inI64 x.imm ∧ inI64 x.fn
theorem xw {w : World} : Opens Try.prog w 52 oN wfInstr := by
  intro H enc base spare held fuel cs x h
  obtain ⟨ys, n, rfl, rfl, hl, hxl, hf⟩ := DataW.trod_struct Try.underlying52 h
  have hn : cs.length = 5 := hl.trans Ag
  obtain ⟨c0, c1, c2, c3, c4, rfl⟩ := len5 hn
  have g0 : DataW.trod enc Try.prog w base spare held n 3 (([c0, c1, c2, c3, c4].drop 0).take (Try.prog.cellsOf 3)) = ys[0]? := hf 0 _ rfl
  have s0 : Try.prog.cellsOf 3 = 1 := by kernel_rfl
  rw [s0] at g0
  have i0 : 0 < ys.length := by rw [hxl]; exact ltb rfl
  rw [List.getElem?_eq_getElem i0] at g0
  have g1 : DataW.trod enc Try.prog w base spare held n 3 (([c0, c1, c2, c3, c4].drop 1).take (Try.prog.cellsOf 3)) = ys[1]? := hf 1 _ rfl
  have s1 : Try.prog.cellsOf 3 = 1 := by kernel_rfl
  rw [s1] at g1
  have i1 : 1 < ys.length := by rw [hxl]; exact ltb rfl
  rw [List.getElem?_eq_getElem i1] at g1
  have g2 : DataW.trod enc Try.prog w base spare held n 25 (([c0, c1, c2, c3, c4].drop 2).take (Try.prog.cellsOf 25)) = ys[2]? := hf 2 _ rfl
  have s2 : Try.prog.cellsOf 25 = 1 := by kernel_rfl
  rw [s2] at g2
  have i2 : 2 < ys.length := by rw [hxl]; exact ltb rfl
  rw [List.getElem?_eq_getElem i2] at g2
  have g3 : DataW.trod enc Try.prog w base spare held n 2 (([c0, c1, c2, c3, c4].drop 3).take (Try.prog.cellsOf 2)) = ys[3]? := hf 3 _ rfl
  have s3 : Try.prog.cellsOf 2 = 1 := by kernel_rfl
  rw [s3] at g3
  have i3 : 3 < ys.length := by rw [hxl]; exact ltb rfl
  rw [List.getElem?_eq_getElem i3] at g3
  have g4 : DataW.trod enc Try.prog w base spare held n 3 (([c0, c1, c2, c3, c4].drop 4).take (Try.prog.cellsOf 3)) = ys[4]? := hf 4 _ rfl
  have s4 : Try.prog.cellsOf 3 = 1 := by kernel_rfl
  rw [s4] at g4
  have i4 : 4 < ys.length := by rw [hxl]; exact ltb rfl
  rw [List.getElem?_eq_getElem i4] at g4
  obtain ⟨a0, r0, w0⟩ := qx _ _ _ _ _ _ _ _ g0
  have e0 : [c0] = [.int .i64 a0] := r0
  simp only [List.cons.injEq, and_true] at e0
  subst e0
  obtain ⟨a1, r1, w1⟩ := qx _ _ _ _ _ _ _ _ g1
  have e1 : [c1] = [.int .i64 a1] := r1
  simp only [List.cons.injEq, and_true] at e1
  subst e1
  obtain ⟨a2, r2, w2⟩ := sh _ _ _ _ _ _ _ _ g2
  obtain ⟨v2, q2, t2⟩ := r2
  have e2 : [c2] = [v2] := q2
  simp only [List.cons.injEq, and_true] at e2
  subst e2
  obtain ⟨a3, r3, w3⟩ := xu _ _ _ _ _ _ _ _ g3
  have e3 : [c3] = [.int .i64 a3] := r3
  simp only [List.cons.injEq, and_true] at e3
  subst e3
  obtain ⟨a4, r4, w4⟩ := qx _ _ _ _ _ _ _ _ g4
  have e4 : [c4] = [.int .i64 a4] := r4
  simp only [List.cons.injEq, and_true] at e4
  subst e4
  exact ⟨⟨a0, a1, a2, a3, a4⟩, ⟨_, rfl, t2⟩, ⟨w0, w1, w2, w3, w4⟩⟩
theorem xx {w : World} : Opens Try.prog w 48 (kSl 52 oN) (okL wfInstr) := rB Try.underlying48 Ag (by decide) xw
def wfTerm (x : PTerm) : Prop := inI64 x.kind ∧ inI64 x.arg ∧ (okL inI64) x.to
theorem xy {w : World} : Opens Try.prog w 46 kTerm wfTerm := by
  intro H enc base spare held fuel cs x h
  obtain ⟨ys, n, rfl, rfl, hl, hxl, hf⟩ := DataW.trod_struct Try.underlying46 h
  have hn : cs.length = 3 := hl.trans Ag
  obtain ⟨c0, c1, c2, rfl⟩ := len3 hn
  have g0 : DataW.trod enc Try.prog w base spare held n 3 (([c0, c1, c2].drop 0).take (Try.prog.cellsOf 3)) = ys[0]? := hf 0 _ rfl
  have s0 : Try.prog.cellsOf 3 = 1 := by kernel_rfl
  rw [s0] at g0
  have i0 : 0 < ys.length := by rw [hxl]; exact ltb rfl
  rw [List.getElem?_eq_getElem i0] at g0
  have g1 : DataW.trod enc Try.prog w base spare held n 3 (([c0, c1, c2].drop 1).take (Try.prog.cellsOf 3)) = ys[1]? := hf 1 _ rfl
  have s1 : Try.prog.cellsOf 3 = 1 := by kernel_rfl
  rw [s1] at g1
  have i1 : 1 < ys.length := by rw [hxl]; exact ltb rfl
  rw [List.getElem?_eq_getElem i1] at g1
  have g2 : DataW.trod enc Try.prog w base spare held n 25 (([c0, c1, c2].drop 2).take (Try.prog.cellsOf 25)) = ys[2]? := hf 2 _ rfl
  have s2 : Try.prog.cellsOf 25 = 1 := by kernel_rfl
  rw [s2] at g2
  have i2 : 2 < ys.length := by rw [hxl]; exact ltb rfl
  rw [List.getElem?_eq_getElem i2] at g2
  obtain ⟨a0, r0, w0⟩ := qx _ _ _ _ _ _ _ _ g0
  have e0 : [c0] = [.int .i64 a0] := r0
  simp only [List.cons.injEq, and_true] at e0
  subst e0
  obtain ⟨a1, r1, w1⟩ := qx _ _ _ _ _ _ _ _ g1
  have e1 : [c1] = [.int .i64 a1] := r1
  simp only [List.cons.injEq, and_true] at e1
  subst e1
  obtain ⟨a2, r2, w2⟩ := sh _ _ _ _ _ _ _ _ g2
  obtain ⟨v2, q2, t2⟩ := r2
  have e2 : [c2] = [v2] := q2
  simp only [List.cons.injEq, and_true] at e2
  subst e2
  exact ⟨⟨a0, a1, a2⟩, ⟨_, rfl, t2⟩, ⟨w0, w1, w2⟩⟩
def wfBlock (x : nA) : Prop := (okL wfPhi) x.phis ∧ (okL wfInstr) x.ins ∧ wfTerm x.term
theorem xz {w : World} : Opens Try.prog w 50 nY wfBlock := by
  intro H enc base spare held fuel cs x h
  obtain ⟨ys, n, rfl, rfl, hl, hxl, hf⟩ := DataW.trod_struct Try.underlying50 h
  have hn : cs.length = 5 := hl.trans Ag
  obtain ⟨c0, c1, c2, c3, c4, rfl⟩ := len5 hn
  have g0 : DataW.trod enc Try.prog w base spare held n 47 (([c0, c1, c2, c3, c4].drop 0).take (Try.prog.cellsOf 47)) = ys[0]? := hf 0 _ rfl
  have s0 : Try.prog.cellsOf 47 = 1 := by kernel_rfl
  rw [s0] at g0
  have i0 : 0 < ys.length := by rw [hxl]; exact ltb rfl
  rw [List.getElem?_eq_getElem i0] at g0
  have g1 : DataW.trod enc Try.prog w base spare held n 48 (([c0, c1, c2, c3, c4].drop 1).take (Try.prog.cellsOf 48)) = ys[1]? := hf 1 _ rfl
  have s1 : Try.prog.cellsOf 48 = 1 := by kernel_rfl
  rw [s1] at g1
  have i1 : 1 < ys.length := by rw [hxl]; exact ltb rfl
  rw [List.getElem?_eq_getElem i1] at g1
  have g2 : DataW.trod enc Try.prog w base spare held n 46 (([c0, c1, c2, c3, c4].drop 2).take (Try.prog.cellsOf 46)) = ys[2]? := hf 2 _ rfl
  have s2 : Try.prog.cellsOf 46 = 3 := by kernel_rfl
  rw [s2] at g2
  have i2 : 2 < ys.length := by rw [hxl]; exact ltb rfl
  rw [List.getElem?_eq_getElem i2] at g2
  obtain ⟨a0, r0, w0⟩ := xr _ _ _ _ _ _ _ _ g0
  obtain ⟨v0, q0, t0⟩ := r0
  have e0 : [c0] = [v0] := q0
  simp only [List.cons.injEq, and_true] at e0
  subst e0
  obtain ⟨a1, r1, w1⟩ := xx _ _ _ _ _ _ _ _ g1
  obtain ⟨v1, q1, t1⟩ := r1
  have e1 : [c1] = [v1] := q1
  simp only [List.cons.injEq, and_true] at e1
  subst e1
  obtain ⟨a2, r2, w2⟩ := xy _ _ _ _ _ _ _ _ g2
  obtain ⟨u2_2, q2, t2_2⟩ := r2
  have e2 : [c2, c3, c4] = [.int .i64 a2.kind, .int .i64 a2.arg, u2_2] := q2
  simp only [List.cons.injEq, and_true] at e2
  obtain ⟨rfl, rfl, rfl⟩ := e2
  exact ⟨⟨a0, a1, a2⟩, ⟨_, _, _, rfl, t0, t1, t2_2⟩, ⟨w0, w1, w2⟩⟩
theorem xA {w : World} : Opens Try.prog w 39 (kSl 50 nY) (okL wfBlock) := rB Try.underlying39 Ag (by decide) xz
def wfFunc (x : ny) : Prop := inI64 x.params ∧ inI64 x.result ∧ (okL inI64) x.regs ∧ (okL wfBlock) x.blocks
theorem xB {w : World} : Opens Try.prog w 41 ou wfFunc := by
  intro H enc base spare held fuel cs x h
  obtain ⟨ys, n, rfl, rfl, hl, hxl, hf⟩ := DataW.trod_struct Try.underlying41 h
  have hn : cs.length = 4 := hl.trans Ag
  obtain ⟨c0, c1, c2, c3, rfl⟩ := len4 hn
  have g0 : DataW.trod enc Try.prog w base spare held n 3 (([c0, c1, c2, c3].drop 0).take (Try.prog.cellsOf 3)) = ys[0]? := hf 0 _ rfl
  have s0 : Try.prog.cellsOf 3 = 1 := by kernel_rfl
  rw [s0] at g0
  have i0 : 0 < ys.length := by rw [hxl]; exact ltb rfl
  rw [List.getElem?_eq_getElem i0] at g0
  have g1 : DataW.trod enc Try.prog w base spare held n 3 (([c0, c1, c2, c3].drop 1).take (Try.prog.cellsOf 3)) = ys[1]? := hf 1 _ rfl
  have s1 : Try.prog.cellsOf 3 = 1 := by kernel_rfl
  rw [s1] at g1
  have i1 : 1 < ys.length := by rw [hxl]; exact ltb rfl
  rw [List.getElem?_eq_getElem i1] at g1
  have g2 : DataW.trod enc Try.prog w base spare held n 25 (([c0, c1, c2, c3].drop 2).take (Try.prog.cellsOf 25)) = ys[2]? := hf 2 _ rfl
  have s2 : Try.prog.cellsOf 25 = 1 := by kernel_rfl
  rw [s2] at g2
  have i2 : 2 < ys.length := by rw [hxl]; exact ltb rfl
  rw [List.getElem?_eq_getElem i2] at g2
  have g3 : DataW.trod enc Try.prog w base spare held n 39 (([c0, c1, c2, c3].drop 3).take (Try.prog.cellsOf 39)) = ys[3]? := hf 3 _ rfl
  have s3 : Try.prog.cellsOf 39 = 1 := by kernel_rfl
  rw [s3] at g3
  have i3 : 3 < ys.length := by rw [hxl]; exact ltb rfl
  rw [List.getElem?_eq_getElem i3] at g3
  obtain ⟨a0, r0, w0⟩ := qx _ _ _ _ _ _ _ _ g0
  have e0 : [c0] = [.int .i64 a0] := r0
  simp only [List.cons.injEq, and_true] at e0
  subst e0
  obtain ⟨a1, r1, w1⟩ := qx _ _ _ _ _ _ _ _ g1
  have e1 : [c1] = [.int .i64 a1] := r1
  simp only [List.cons.injEq, and_true] at e1
  subst e1
  obtain ⟨a2, r2, w2⟩ := sh _ _ _ _ _ _ _ _ g2
  obtain ⟨v2, q2, t2⟩ := r2
  have e2 : [c2] = [v2] := q2
  simp only [List.cons.injEq, and_true] at e2
  subst e2
  obtain ⟨a3, r3, w3⟩ := xA _ _ _ _ _ _ _ _ g3
  obtain ⟨v3, q3, t3⟩ := r3
  have e3 : [c3] = [v3] := q3
  simp only [List.cons.injEq, and_true] at e3
  subst e3
  exact ⟨⟨a0, a1, a2, a3⟩, ⟨_, _, rfl, t2, t3⟩, ⟨w0, w1, w2, w3⟩⟩
theorem xC {w : World} : Opens Try.prog w 33 (kSl 41 ou) (okL wfFunc) := rB Try.underlying33 Ag (by decide) xB
def wfModule (x : nR) : Prop := (okL wfFunc) x.funcs
theorem xD {w : World} : Opens Try.prog w 35 kModule wfModule := by
  intro H enc base spare held fuel cs x h
  obtain ⟨ys, n, rfl, rfl, hl, hxl, hf⟩ := DataW.trod_struct Try.underlying35 h
  have hn : cs.length = 1 := hl.trans Ag
  obtain ⟨c0, rfl⟩ := len1 hn
  have g0 : DataW.trod enc Try.prog w base spare held n 33 (([c0].drop 0).take (Try.prog.cellsOf 33)) = ys[0]? := hf 0 _ rfl
  have s0 : Try.prog.cellsOf 33 = 1 := by kernel_rfl
  rw [s0] at g0
  have i0 : 0 < ys.length := by rw [hxl]; exact ltb rfl
  rw [List.getElem?_eq_getElem i0] at g0
  obtain ⟨a0, r0, w0⟩ := xC _ _ _ _ _ _ _ _ g0
  obtain ⟨v0, q0, t0⟩ := r0
  have e0 : [c0] = [v0] := q0
  simp only [List.cons.injEq, and_true] at e0
  subst e0
  exact ⟨⟨a0⟩, ⟨_, rfl, t0⟩, w0⟩
end Go.Proofs.Ytpmcbahahjelnaa
namespace Go.Proofs.Ytpmcbahahjelnaa
open Go
theorem oW {n : Nat} (h : n ≤ maxLen) : n < nD := by
  have : maxLen < nD := by unfold nD maxLen; decide
  omega
theorem qa {x : Int} (h : inI64 x) : w64 x = x := by
  obtain ⟨h1, h2⟩ := h
  simp only [w64, IntKind.wrap, IntKind.signed, IntKind.bits, IntKind.min, Bool.true_and, decide_eq_true_eq, ge_iff_le]
  split <;> omega
theorem rO {n : Nat} (h : n ≤ 9223372036854775807) : w64 (n : Int) = n := qa ⟨by omega, by omega⟩
theorem rP {n : Nat} (h : n < 9223372036854775807) : w64 ((n : Int) + 1) = ((n + 1 : Nat) : Int) := by
  rw [show ((n : Int) + 1) = ((n + 1 : Nat) : Int) by omega]; exact rO (by omega)
theorem oz {α : Type} (xs : List α) (i : Nat) : idx xs (i : Int) = xs[i]? := by simp [idx]
theorem nJ {α : Type} {xs : List α} {i : Nat} (h : i < xs.length) : idx xs (i : Int) = some xs[i] := by rw [oz, List.getElem?_eq_getElem h]
theorem nP {α : Type} (xs : List α) (i : Nat) : (i : Int) < len xs ↔ i < xs.length := by simp [len]
/-- A loop whose states are known one by one. -/
theorem pf {ρ σ : Type} {body : σ → Option (Ex ρ σ)} {r : ρ} : ∀ (n k : Nat) (st : Nat → σ), (∀ i, i < n → body (st i) = some (.go (st (i + 1)))) → body (st n) = some (.ret r) → n < k → whl body k (st 0) = some r
  | 0, k, st, _, he, hk => by
    obtain ⟨k, rfl⟩ : ∃ m, k = m + 1 := ⟨k - 1, by omega⟩
    simp [whl, he]
  | n + 1, k, st, hs, he, hk => by
    obtain ⟨k, rfl⟩ : ∃ m, k = m + 1 := ⟨k - 1, by omega⟩
    simp only [whl, hs 0 (by omega), Option.bind_some]
    exact pf n k (fun i => st (i + 1)) (fun i hi => hs (i + 1) (by omega)) he (by omega)
/-- A loop by a measure: what holds at each round's head. -/
theorem qp {ρ σ : Type} {body : σ → Option (Ex ρ σ)} (I : σ → Prop) (m : σ → Nat) (R : ρ → Prop) (h : ∀ s, I s → (∃ r, body s = some (.ret r) ∧ R r) ∨ ∃ s', body s = some (.go s') ∧ I s' ∧ m s' < m s) :
    ∀ (k : Nat) (s : σ), I s → m s < k → ∃ r, whl body k s = some r ∧ R r
  | 0, s, _, hk => by omega
  | k + 1, s, hI, hk => by
    rcases h s hI with ⟨r, hb, hr⟩ | ⟨s', hb, hI', hm⟩
    · exact ⟨r, by simp [whl, hb], hr⟩
    · obtain ⟨r, h1, h2⟩ := qp I m R h k s' hI' (by omega)
      exact ⟨r, by simp [whl, hb, h1], h2⟩
theorem rQ {α β : Type} (g : β → α → β) (a : β) (xs : List α) {i : Nat} (h : i < xs.length) : (xs.take (i + 1)).foldl g a = g ((xs.take i).foldl g a) xs[i] := by
  rw [List.take_succ_eq_append_getElem h, List.foldl_append]; rfl
end Go.Proofs.Ytpmcbahahjelnaa
namespace Go.Proofs.Ytpmcbahahjelnaa
open Go Go.Proofs
/-- A scan of a list by its index: what comes first is returned, if anything. -/
theorem uh {ρ α : Type} (xs : List α) (f : Nat → α → Option ρ) (body : Int → Option (Ex (Ex ρ Unit) Int))
    (h : ∀ i (hi : i < xs.length), body (i : Int) = some (match f i xs[i] with | some r => .ret (.ret r) | none => .go ((i + 1 : Nat) : Int)))
    (he : body (xs.length : Int) = some (.ret (.go ()))) : ∀ (d m k : Nat), m + d = xs.length → (∀ j (hj : j < xs.length), j < m → f j xs[j] = none) → d < k →
    (∃ i, ∃ hi : i < xs.length, ∃ r, f i xs[i] = some r ∧ (∀ j (hj : j < xs.length), j < i → f j xs[j] = none) ∧ whl body k (m : Int) = some (.ret r)) ∨
    ((∀ i (hi : i < xs.length), f i xs[i] = none) ∧ whl body k (m : Int) = some (.go ()))
  | 0, m, k, hm, hn, hk => by
    obtain ⟨k, rfl⟩ : ∃ q, k = q + 1 := ⟨k - 1, by omega⟩
    have : m = xs.length := by omega
    subst this
    exact .inr ⟨fun i hi => hn i hi hi, by simp [whl, he]⟩
  | d + 1, m, k, hm, hn, hk => by
    obtain ⟨k, rfl⟩ : ∃ q, k = q + 1 := ⟨k - 1, by omega⟩
    have hlt : m < xs.length := by omega
    cases hf : f m xs[m] with
    | some r => exact .inl ⟨m, hlt, r, hf, fun j hj hjm => hn j hj hjm, by simp [whl, h m hlt, hf]⟩
    | none =>
      have hw : whl body (k + 1) (m : Int) = whl body k ((m + 1 : Nat) : Int) := by simp [whl, h m hlt, hf]
      rw [hw]
      refine uh xs f body h he d (m + 1) k (by omega) (fun j hj hjm => ?_) (by omega)
      rcases Nat.lt_succ_iff_lt_or_eq.1 hjm with h1 | h1
      · exact hn j hj h1
      · subst h1; exact hf
theorem scan0 {ρ α : Type} (xs : List α) (f : Nat → α → Option ρ) (body : Int → Option (Ex (Ex ρ Unit) Int)) (hl : xs.length ≤ maxLen)
    (h : ∀ i (hi : i < xs.length), body (i : Int) = some (match f i xs[i] with | some r => .ret (.ret r) | none => .go ((i + 1 : Nat) : Int)))
    (he : body (xs.length : Int) = some (.ret (.go ()))) :
    (∃ i, ∃ hi : i < xs.length, ∃ r, f i xs[i] = some r ∧ (∀ j (hj : j < xs.length), j < i → f j xs[j] = none) ∧ whl body nD 0 = some (.ret r)) ∨
    ((∀ i (hi : i < xs.length), f i xs[i] = none) ∧ whl body nD 0 = some (.go ())) :=
  uh xs f body h he xs.length 0 nD (by omega) (fun j hj h0 => by omega) (oW hl)
theorem pn {n m : Nat} (h : n < m) (hm : m ≤ maxLen) : w64 ((n : Int) + 1) = ((n + 1 : Nat) : Int) := rP (by simp only [maxLen] at hm; omega)
theorem xE (a : List Int) (x : Int) (hl : a.length ≤ maxLen) : ∃ i, pj a x = some i ∧ (i ≥ 0 ↔ x ∈ a) := by
  unfold pj
  have := scan0 a (fun i y => if x = y then some (i : Int) else none) (fun s => pj.bd8 a x s) hl (fun i hi => by
    simp only [pj.bd8, nP, hi, if_true, nJ hi, Option.bind_some, pn hi hl]
    split <;> rfl) (by simp [pj.bd8, len])
  rcases this with ⟨i, hi, r, hf, _, hw⟩ | ⟨hall, hw⟩
  · split at hf
    · cases hf
      rename_i hx
      exact ⟨i, by rw [hw]; rfl, fun _ => hx ▸ List.getElem_mem hi, fun _ => by omega⟩
    · cases hf
  · refine ⟨-1, by rw [hw]; rfl, fun h => by omega, fun hx => ?_⟩
    obtain ⟨i, hi, he⟩ := List.getElem_of_mem hx
    have := hall i hi
    simp [he] at this
theorem sQ (a : List Int) (x : Int) (hl : a.length ≤ maxLen) : qE a x = some (decide (x ∈ a)) := by
  obtain ⟨i, h1, h2⟩ := xE a x hl
  unfold qE
  rw [h1]
  simp only [Option.bind_some, h2]
theorem ui {α : Type} (xs : List α) (i : Nat) (x : α) (h : i < xs.length) : idx (xs.set i x) (i : Int) = some x := by
  rw [oz]; simp [h]
theorem qQ {α : Type} {n : Nat} (z : α) (hn : n ≤ 70) : mkl (n : Int) z = some (List.replicate n z) := by
  have h1 : n < LIM := by simp only [LIM]; omega
  simp [mkl, h1]
theorem si {α : Type} (xs : List α) (hl : xs.length ≤ maxLen) (Q : α → Prop) (body : Int → Option (Ex (Ex Bool Unit) Int))
    (h : ∀ i (hi : i < xs.length), body (i : Int) = some (.ret (.ret false)) ∨ (body (i : Int) = some (.go ((i + 1 : Nat) : Int)) ∧ Q xs[i])) (he : body (xs.length : Int) = some (.ret (.go ()))) :
    whl body nD 0 = some (.ret false) ∨ (whl body nD 0 = some (.go ()) ∧ ∀ x ∈ xs, Q x) := by
  have key := qp (body := body) (fun s : Int => ∃ i : Nat, s = i ∧ i ≤ xs.length ∧ ∀ x ∈ xs.take i, Q x) (fun s => xs.length - s.toNat) (fun z : Ex Bool Unit => z = .ret false ∨ (z = .go () ∧ ∀ x ∈ xs, Q x)) (by
    rintro s ⟨i, rfl, hi, hq⟩
    rcases Nat.lt_or_ge i xs.length with hlt | hge
    · rcases h i hlt with hb | ⟨hb, hx⟩
      · exact .inl ⟨_, hb, .inl rfl⟩
      · refine .inr ⟨_, hb, ⟨i + 1, rfl, hlt, fun x hx' => ?_⟩, by simp; omega⟩
        rw [List.take_succ_eq_append_getElem hlt, List.mem_append, List.mem_singleton] at hx'
        rcases hx' with hx' | rfl
        · exact hq x hx'
        · exact hx
    · have : i = xs.length := by omega
      subst this
      exact .inl ⟨_, he, .inr ⟨rfl, fun x hx => hq x (by rw [List.take_length]; exact hx)⟩⟩) nD 0 ⟨0, rfl, Nat.zero_le _, by simp⟩ (by simp; exact oW hl)
  obtain ⟨r, hr, rfl | ⟨rfl, hq⟩⟩ := key
  · exact .inl hr
  · exact .inr ⟨hr, hq⟩
def SmB (B : nA) : Prop := B.ins.length ≤ 300 ∧ B.phis.length ≤ 300 ∧ B.term.to.length ≤ 70 ∧ (∀ i ∈ B.ins, i.args.length ≤ 300) ∧ ∀ p ∈ B.phis, p.args.length ≤ 300
def SmF (f : ny) : Prop := f.blocks.length ≤ 70 ∧ f.regs.length ≤ 300 ∧ f.params ≤ 1000 ∧ ∀ B ∈ f.blocks, SmB B
def SmM (m : nR) : Prop := m.funcs.length ≤ 40 ∧ ∀ f ∈ m.funcs, SmF f
theorem nO {n m : Nat} (h : n ≤ m) (hm : m ≤ 1000) : n ≤ maxLen := by simp only [maxLen]; omega
theorem xF (B : nA) (h : B.phis.length ≤ 300) : whl (fun s => ov.bd76 B s) nD 0 = some (.ret false) ∨ (whl (fun s => ov.bd76 B s) nD 0 = some (.go ()) ∧ ∀ p ∈ B.phis, p.args.length ≤ 300) :=
  si B.phis (nO h (by omega)) (fun p => p.args.length ≤ 300) _ (fun i hi => by
    simp only [ov.bd76, nP, hi, if_true, nJ hi, Option.bind_some, pn hi (nO h (by omega))]
    by_cases hc : len B.phis[i].args > 300
    · exact .inl (by rw [if_pos hc])
    · exact .inr ⟨by rw [if_neg hc], by simp only [len] at hc; omega⟩) (by simp [ov.bd76, len])
theorem xG (B : nA) (h : B.ins.length ≤ 300) : whl (fun s => ov.bd69 B s) nD 0 = some (.ret false) ∨ (whl (fun s => ov.bd69 B s) nD 0 = some (.go ()) ∧ ∀ p ∈ B.ins, p.args.length ≤ 300) :=
  si B.ins (nO h (by omega)) (fun p => p.args.length ≤ 300) _ (fun i hi => by
    simp only [ov.bd69, nP, hi, if_true, nJ hi, Option.bind_some, pn hi (nO h (by omega))]
    by_cases hc : len B.ins[i].args > 300
    · exact .inl (by rw [if_pos hc])
    · exact .inr ⟨by rw [if_neg hc], by simp only [len] at hc; omega⟩) (by simp [ov.bd69, len])
theorem xH (f : ny) (h : f.blocks.length ≤ 70) : whl (fun s => ov.bd39 f s) nD 0 = some (.ret false) ∨ (whl (fun s => ov.bd39 f s) nD 0 = some (.go ()) ∧ ∀ B ∈ f.blocks, SmB B) :=
  si f.blocks (nO h (by omega)) SmB _ (fun i hi => by
    simp only [ov.bd39, nP, hi, if_true, nJ hi, Option.bind_some]
    by_cases hc : (len f.blocks[i].ins > 300 ∨ len f.blocks[i].phis > 300) ∨ len f.blocks[i].term.to > 70
    · exact .inl (by rw [if_pos hc])
    · rw [if_neg hc]
      simp only [len, not_or] at hc
      have h1 : f.blocks[i].ins.length ≤ 300 := by omega
      have h2 : f.blocks[i].phis.length ≤ 300 := by omega
      rcases xG f.blocks[i] h1 with hw | ⟨hw, hq⟩
      · rw [hw]; exact .inl rfl
      · rw [hw]
        simp only [Option.bind_some, ov.nx69]
        rcases xF f.blocks[i] h2 with hw' | ⟨hw', hq'⟩
        · rw [hw']; exact .inl rfl
        · rw [hw']
          exact .inr ⟨by simp only [Option.bind_some, ov.nx76, pn hi (nO h (by omega))], h1, h2, by omega, hq, hq'⟩) (by simp [ov.bd39, len])
theorem xI (m : nR) : ∃ b, ov m = some b ∧ (b = true → SmM m) := by
  unfold ov
  by_cases hc : len m.funcs > 40
  · exact ⟨false, by rw [if_pos hc], fun h => by cases h⟩
  rw [if_neg hc]
  have hl : m.funcs.length ≤ 40 := by simp only [len] at hc; omega
  have := si m.funcs (nO hl (by omega)) SmF (fun s => ov.bd11 m s) (fun i hi => by
    simp only [ov.bd11, nP, hi, if_true, nJ hi, Option.bind_some]
    by_cases hc : (len m.funcs[i].blocks > 70 ∨ len m.funcs[i].regs > 300) ∨ m.funcs[i].params > 1000
    · exact .inl (by rw [if_pos hc])
    · rw [if_neg hc]
      simp only [len, not_or] at hc
      have h1 : m.funcs[i].blocks.length ≤ 70 := by omega
      rcases xH m.funcs[i] h1 with hw | ⟨hw, hq⟩
      · rw [hw]; exact .inl rfl
      · rw [hw]
        exact .inr ⟨by simp only [Option.bind_some, ov.nx39, pn hi (nO hl (by omega))], h1, by omega, by omega, hq⟩) (by simp [ov.bd11, len])
  rcases this with hw | ⟨hw, hq⟩
  · rw [hw]; exact ⟨false, rfl, fun h => by cases h⟩
  · rw [hw]; exact ⟨true, rfl, fun _ => ⟨hl, hq⟩⟩
/-- A loop of n rounds at most: what holds at each round's head. -/
theorem oj {ρ σ : Type} (n : Nat) (I : Nat → σ → Prop) (R : ρ → Prop) {body : σ → Option (Ex ρ σ)} (hn : n ≤ maxLen)
    (step : ∀ i s, i < n → I i s → (∃ r, body s = some (.ret r) ∧ R r) ∨ ∃ s', body s = some (.go s') ∧ I (i + 1) s')
    (done : ∀ s, I n s → ∃ r, body s = some (.ret r) ∧ R r) {s0 : σ} (h0 : I 0 s0) : ∃ r, whl body nD s0 = some r ∧ R r := by
  have key : ∀ (d i k : Nat) (s : σ), i + d = n → I i s → d < k → ∃ r, whl body k s = some r ∧ R r := by
    intro d
    induction d with
    | zero =>
      intro i k s hi hI hk
      obtain ⟨k, rfl⟩ : ∃ q, k = q + 1 := ⟨k - 1, by omega⟩
      obtain rfl : i = n := by omega
      obtain ⟨r, hb, hr⟩ := done s hI
      exact ⟨r, by simp [whl, hb], hr⟩
    | succ d ih =>
      intro i k s hi hI hk
      obtain ⟨k, rfl⟩ : ∃ q, k = q + 1 := ⟨k - 1, by omega⟩
      rcases step i s (by omega) hI with ⟨r, hb, hr⟩ | ⟨s', hb, hI'⟩
      · exact ⟨r, by simp [whl, hb], hr⟩
      · obtain ⟨r, h1, h2⟩ := ih (i + 1) k s' (by omega) hI' (by omega)
        exact ⟨r, by simp [whl, hb, h1], h2⟩
  exact key n 0 nD s0 (by omega) h0 (oW hn)
/-- A loop that builds a list element by element. -/
theorem qH {α β ρ : Type} (xs : List α) (g : α → β) {body : List β × Int → Option (Ex ρ (List β × Int))} {r : ρ} (hl : xs.length ≤ maxLen)
    (h : ∀ i (hi : i < xs.length), body ((xs.take i).map g, (i : Int)) = some (.go ((xs.take i).map g ++ [g xs[i]], ((i + 1 : Nat) : Int)))) (he : body (xs.map g, (xs.length : Int)) = some (.ret r)) :
    whl body nD ([], 0) = some r := by
  have := pf (body := body) (r := r) xs.length nD (fun i => ((xs.take i).map g, (i : Int))) (fun i hi => by
    rw [h i hi, List.take_succ_eq_append_getElem hi, List.map_append]; rfl) (by rw [List.take_length]; exact he) (oW hl)
  simpa using this
theorem uj {α : Type} {a b : List α} (h : a.length + b.length < LIM) : cat a b = some (a ++ b) := by simp [cat, h]
theorem rg {α : Type} {b : List α} (h : b.length ≤ 1000) : cat ([] : List α) b = some b := by
  have : b.length < LIM := by simp only [LIM]; omega
  simp [cat, this]
theorem oH {α : Type} {a : List α} {x : α} (h : a.length ≤ 1000) : cat a [x] = some (a ++ [x]) := uj (by simp only [LIM, List.length_singleton]; omega)
theorem nQ {n m : Nat} (h : n < m) (hm : m ≤ 1000) : w64 ((n : Int) + 1) = ((n + 1 : Nat) : Int) := pn h (nO hm (by omega))
theorem rR {α : Type} [DecidableEq α] (xs ys : List α) (hl : xs.length = ys.length) (hm : xs.length ≤ maxLen) (body : Int → Option (Ex (Ex Bool Unit) Int))
    (h : ∀ i (hi : i < xs.length) (hj : i < ys.length), body (i : Int) = some (if xs[i] = ys[i] then .go ((i + 1 : Nat) : Int) else .ret (.ret false)))
    (he : body (xs.length : Int) = some (.ret (.go ()))) : whl body nD 0 = some (if xs = ys then .go () else .ret false) := by
  have := scan0 xs (fun i x => if some x = ys[i]? then none else some false) body hm (fun i hi => by
    rw [h i hi (by omega), List.getElem?_eq_getElem (show i < ys.length by omega)]
    by_cases hc : xs[i] = ys[i] <;> simp [hc]) he
  rcases this with ⟨i, hi, r, hf, _, hw⟩ | ⟨hall, hw⟩
  · rw [hw]
    have hne : xs ≠ ys := by
      intro he; subst he
      simp [List.getElem?_eq_getElem hi] at hf
    rw [if_neg hne]
    split at hf
    · cases hf
    · cases hf; rfl
  · rw [hw]
    have : xs = ys := by
      apply List.ext_getElem hl
      intro i h1 h2
      have := hall i h1
      rw [List.getElem?_eq_getElem h2] at this
      split at this
      · rename_i hq; exact Option.some.inj hq
      · cases this
    rw [if_pos this]
theorem sj (a b : List Int) (hl : a.length ≤ maxLen) : pz a b = some (decide (a = b)) := by
  unfold pz
  by_cases hne : len a = len b
  · have hne' : a.length = b.length := by simp only [len] at hne; omega
    rw [if_neg (by simpa using hne), rR a b hne' hl _ (fun i hi hj => by
      simp only [pz.bd11, nP, hi, if_true, nJ hi, nJ hj, Option.bind_some, pn hi hl]
      by_cases hc : a[i] = b[i] <;> simp [hc]) (by simp [pz.bd11, len])]
    by_cases hab : a = b
    · subst hab; simp [pz.nx11]
    · simp [hab]
  · rw [if_pos hne]
    have : a ≠ b := fun h => hne (by rw [h])
    simp [this]
theorem xJ (a b : nA) (h : SmB a) : pe a b = some (decide (a = b)) := by
  obtain ⟨h1, h2, h3, h4, h5⟩ := h
  unfold pe
  by_cases hc : ((¬ (len a.phis) = (len b.phis) ∨ ¬ (len a.ins) = (len b.ins)) ∨ ¬ a.term.kind = b.term.kind) ∨ ¬ a.term.arg = b.term.arg
  · rw [if_pos hc]
    have : a ≠ b := by
      rintro rfl
      simp at hc
    simp [this]
  · rw [if_neg hc]
    simp only [not_or, Classical.not_not, len] at hc
    obtain ⟨⟨⟨c1, c2⟩, c3⟩, c4⟩ := hc
    rw [sj _ _ (nO h3 (by omega))]
    simp only [Option.bind_some]
    by_cases c5 : a.term.to = b.term.to
    · have ht : a.term = b.term := by cases ha : a.term; cases hb : b.term; simp_all
      simp only [c5, decide_true, Bool.not_true, Bool.false_eq_true, if_false]
      rw [rR a.phis b.phis (by omega) (nO h2 (by omega)) _ (fun i hi hj => by
        simp only [pe.bd31, nP, hi, if_true, nJ hi, nJ hj, Option.bind_some, pn hi (nO h2 (by omega)), sj _ _ (nO (h5 _ (List.getElem_mem hi)) (by omega))]
        by_cases d1 : a.phis[i].dst = b.phis[i].dst
        · rw [if_neg (by simpa using d1)]
          by_cases d2 : a.phis[i].args = b.phis[i].args
          · have : a.phis[i] = b.phis[i] := by cases ha : a.phis[i]; cases hb : b.phis[i]; simp_all
            simp [this]
          · have : a.phis[i] ≠ b.phis[i] := fun hq => d2 (by rw [hq])
            simp [d2, this]
        · rw [if_pos d1]
          have : a.phis[i] ≠ b.phis[i] := fun hq => d1 (by rw [hq])
          simp [this]) (by simp [pe.bd31, len])]
      simp only [Option.bind_some]
      by_cases c6 : a.phis = b.phis
      · rw [if_pos c6]
        simp only [pe.nx31]
        rw [rR a.ins b.ins (by omega) (nO h1 (by omega)) _ (fun i hi hj => by
          simp only [pe.bd40, nP, hi, if_true, nJ hi, nJ hj, Option.bind_some, pn hi (nO h1 (by omega)), sj _ _ (nO (h4 _ (List.getElem_mem hi)) (by omega))]
          by_cases hq : a.ins[i] = b.ins[i]
          · simp [hq]
          · have hne : ¬ (a.ins[i].op = b.ins[i].op ∧ a.ins[i].dst = b.ins[i].dst ∧ a.ins[i].args = b.ins[i].args ∧ a.ins[i].imm = b.ins[i].imm ∧ a.ins[i].fn = b.ins[i].fn) := by
              rintro ⟨e1, e2, e3, e4, e5⟩
              apply hq
              cases ha : a.ins[i]; cases hb : b.ins[i]; simp_all
            rw [if_neg hq]
            by_cases d1 : (¬ a.ins[i].op = b.ins[i].op) ∨ ¬ a.ins[i].dst = b.ins[i].dst
            · rw [if_pos d1]; simp
            · rw [if_neg d1]
              simp only [Option.bind_some]
              rw [if_pos]
              simp only [not_or, Classical.not_not] at d1
              by_cases d2 : a.ins[i].args = b.ins[i].args
              · by_cases d3 : a.ins[i].imm = b.ins[i].imm
                · right
                  intro d4
                  exact hne ⟨d1.1, d1.2, d2, d3, d4⟩
                · exact .inl (.inr d3)
              · left; left; simp [d2]) (by simp [pe.bd40, len])]
        by_cases c7 : a.ins = b.ins
        · have : a = b := by cases a; cases b; simp_all
          simp [c7, this, pe.nx40]
        · have : a ≠ b := fun hq => c7 (by rw [hq])
          simp [c7, this]
      · have : a ≠ b := fun hq => c6 (by rw [hq])
        simp [c6, this]
    · have : a ≠ b := fun hq => c5 (by rw [hq])
      simp [c5, this]
theorem uk (a b : ny) (h : SmF a) : pL a b = some (decide (a = b)) := by
  obtain ⟨h1, h2, h3, h4⟩ := h
  unfold pL
  by_cases hc : ¬ a.params = b.params ∨ ¬ a.result = b.result
  · rw [if_pos hc]
    have : a ≠ b := by rintro rfl; simp at hc
    simp [this]
  · rw [if_neg hc, sj _ _ (nO h2 (by omega))]
    simp only [not_or, Classical.not_not] at hc
    simp only [Option.bind_some]
    by_cases c1 : (!decide (a.regs = b.regs)) = true ∨ ¬ (len a.blocks) = (len b.blocks)
    · rw [if_pos c1]
      have : a ≠ b := by rintro rfl; simp at c1
      simp [this]
    · rw [if_neg c1]
      simp only [not_or, Classical.not_not, Bool.not_eq_true', len, decide_eq_false_iff_not] at c1
      rw [rR a.blocks b.blocks (by omega) (nO h1 (by omega)) _ (fun i hi hj => by
        simp only [pL.bd26, nP, hi, if_true, nJ hi, nJ hj, Option.bind_some, pn hi (nO h1 (by omega)), xJ _ _ (h4 _ (List.getElem_mem hi))]
        by_cases hq : a.blocks[i] = b.blocks[i] <;> simp [hq]) (by simp [pL.bd26, len])]
      by_cases c2 : a.blocks = b.blocks
      · have : a = b := by cases a; cases b; simp_all
        simp [c2, this, pL.nx26]
      · have : a ≠ b := fun hq => c2 (by rw [hq])
        simp [c2, this]
theorem ul (f : ny) (h : SmF f) : oy f = some f := by
  obtain ⟨h1, h2, h3, h4⟩ := h
  unfold oy
  rw [rg (by omega)]
  simp only [Option.bind_some, oy.jn4]
  rw [qH f.blocks id (r := f.blocks) (nO h1 (by omega)) (fun i hi => by
    obtain ⟨b1, b2, b3, b4, b5⟩ := h4 _ (List.getElem_mem hi)
    simp only [oy.bd12, nP, hi, if_true, nJ hi, Option.bind_some, List.map_id]
    rw [rg (by omega)]
    simp only [Option.bind_some, oy.jn25]
    rw [qH (f.blocks[i]).phis id (r := (f.blocks[i]).phis) (nO b2 (by omega)) (fun j hj => by
      simp only [oy.bd33, nP, hj, if_true, nJ hj, Option.bind_some, List.map_id]
      rw [rg (by have := b5 _ (List.getElem_mem hj); omega)]
      simp only [Option.bind_some]
      rw [oH (by simp; omega)]
      simp only [Option.bind_some, oy.jn65, nQ hj (by omega)]; rfl) (by simp [oy.bd33, len])]
    simp only [Option.bind_some, oy.nx33]
    rw [qH (f.blocks[i]).ins id (r := (f.blocks[i]).ins) (nO b1 (by omega)) (fun j hj => by
      simp only [oy.bd42, nP, hj, if_true, nJ hj, Option.bind_some, List.map_id]
      rw [rg (by have := b4 _ (List.getElem_mem hj); omega)]
      simp only [Option.bind_some]
      rw [oH (by simp; omega)]
      simp only [Option.bind_some, nQ hj (by omega)]; rfl) (by simp [oy.bd42, len])]
    simp only [Option.bind_some, oy.nx42]
    rw [oH (by simp; omega)]
    simp only [Option.bind_some, nQ hi (by omega)]; rfl) (by simp [oy.bd12, len])]
  rfl
theorem um (m : nR) (hm : SmM m) : pu m = some m := by
  obtain ⟨hl, hf⟩ := hm
  unfold pu
  rw [qH m.funcs id (r := m.funcs) (nO hl (by omega)) (fun i hi => by
    simp only [pu.bd8, nP, hi, if_true, nJ hi, Option.bind_some, ul _ (hf _ (List.getElem_mem hi)), List.map_id, oH (show (m.funcs.take i).length ≤ 1000 by simp; omega), pu.jn18, nQ hi (show m.funcs.length ≤ 1000 by omega)]; rfl) (by simp [pu.bd8, len])]
  rfl
theorem xK (a b : nR) (h : SmM a) : pV a b = some (decide (a = b)) := by
  obtain ⟨hl, hf⟩ := h
  unfold pV
  by_cases hc : a.funcs.length = b.funcs.length
  · rw [if_neg (by simp only [len]; omega), rR a.funcs b.funcs hc (nO hl (by omega)) _ (fun i hi hj => by
      simp only [pV.bd11, nP, hi, if_true, nJ hi, nJ hj, Option.bind_some, nQ hi (show a.funcs.length ≤ 1000 by omega), uk _ _ (hf _ (List.getElem_mem hi))]
      by_cases hq : a.funcs[i] = b.funcs[i] <;> simp [hq]) (by simp [pV.bd11, len])]
    by_cases h2 : a.funcs = b.funcs
    · have : a = b := by cases a; cases b; simp_all
      simp [h2, this, pV.nx11]
    · have : a ≠ b := fun hq => h2 (by rw [hq])
      simp [h2, this]
  · rw [if_pos (by simp only [len]; omega)]
    have : a ≠ b := fun hq => hc (by rw [hq])
    simp [this]
end Go.Proofs.Ytpmcbahahjelnaa
namespace Go.Proofs.Ytpmcbahahjelnaa
open Go Go.Proofs
/-- One more block that is led to: in range, and once. -/
def addS (n : Nat) (acc : List Int) (t : Int) : List Int := if 0 ≤ t ∧ t < n ∧ t ∉ acc then acc ++ [t] else acc
def succs (n : Nat) (to : List Int) : List Int := to.foldl (addS n) []
theorem xL (n : Nat) (acc : List Int) (t : Int) : (addS n acc t).length ≤ acc.length + 1 := by
  unfold addS; split <;> simp
theorem sl (n : Nat) : ∀ (to acc : List Int), (to.foldl (addS n) acc).length ≤ acc.length + to.length
  | [], acc => by simp
  | t :: to, acc => by
    have h1 := sl n to (addS n acc t)
    have h2 := xL n acc t
    simp only [List.foldl_cons, List.length_cons]; omega
theorem xM (n : Nat) (acc : List Int) (t : Int) (h : ∀ x ∈ acc, 0 ≤ x ∧ x < n) : ∀ x ∈ addS n acc t, 0 ≤ x ∧ x < n := by
  unfold addS
  split
  · rename_i hc
    intro x hx
    rcases List.mem_append.1 hx with hx | hx
    · exact h x hx
    · simp at hx; subst hx; exact ⟨hc.1, hc.2.1⟩
  · exact h
theorem un (n : Nat) : ∀ (to acc : List Int), (∀ x ∈ acc, 0 ≤ x ∧ x < n) → ∀ x ∈ to.foldl (addS n) acc, 0 ≤ x ∧ x < n
  | [], acc, h => h
  | t :: to, acc, h => un n to _ (xM n acc t h)
theorem uo {n : Nat} {to : List Int} : ∀ x ∈ succs n to, 0 ≤ x ∧ x < n := un n to [] (by simp)
def nI (f : ny) : List (List Int) := f.blocks.map fun (B : nA) => succs f.blocks.length B.term.to
theorem oP (f : ny) : (nI f).length = f.blocks.length := by simp [nI]
theorem rS (f : ny) (ht : ∀ B ∈ f.blocks, B.term.to.length ≤ 70) : ∀ (v : Nat) (row : List Int), (nI f)[v]? = some row → row.length ≤ 70 ∧ ∀ x ∈ row, 0 ≤ x ∧ x < ((nI f).length : Int) := by
  intro v row h
  have hlt : v < f.blocks.length := by have := (List.getElem?_eq_some_iff.1 h).1; rwa [oP] at this
  have hr : (nI f)[v]? = some (succs f.blocks.length (f.blocks[v]).term.to) := by simp [nI, hlt]
  rw [hr] at h; cases h
  refine ⟨?_, by rw [oP]; exact uo⟩
  have h1 := sl f.blocks.length (f.blocks[v]).term.to []
  have h2 := ht _ (List.getElem_mem hlt)
  simp only [List.length_nil, Nat.zero_add] at h1
  exact Nat.le_trans h1 h2
def predsTo (nx : List (List Int)) (i : Nat) (part : List Int) (t : Nat) : List Int :=
  ((List.range i).filter fun j => decide ((t : Int) ∈ nx.getD j [])).map (fun j : Nat => (j : Int)) ++ (if (t : Int) ∈ part then [(i : Int)] else [])
def oq (nx : List (List Int)) (i : Nat) (part : List Int) : List (List Int) := (List.range nx.length).map (predsTo nx i part)
def ot (nx : List (List Int)) (t : Nat) : List Int := ((List.range nx.length).filter fun j => decide ((t : Int) ∈ nx.getD j [])).map (fun j : Nat => (j : Int))
def n6 (nx : List (List Int)) : List (List Int) := (List.range nx.length).map (ot nx)
theorem sq (nx : List (List Int)) : (n6 nx).length = nx.length := by simp [n6]
theorem qI (nx : List (List Int)) (t : Nat) (h : t < nx.length) : (n6 nx)[t]? = some (ot nx t) := by simp [n6, h]
theorem uq (nx : List (List Int)) (i : Nat) (part : List Int) (t : Nat) : (predsTo nx i part t).length ≤ i + 1 := by
  unfold predsTo
  have h1 : ((List.range i).filter fun j => decide ((t : Int) ∈ nx.getD j [])).length ≤ (List.range i).length := List.length_filter_le _ _
  simp only [List.length_range] at h1
  rw [List.length_append, List.length_map]
  split <;> simp only [List.length_singleton, List.length_nil] <;> omega
theorem ur (nx : List (List Int)) (i t : Nat) (h : i < nx.length) : predsTo nx i (nx.getD i []) t = predsTo nx (i + 1) [] t := by
  unfold predsTo
  rw [List.range_succ, List.filter_append, List.map_append]
  by_cases hc : (t : Int) ∈ nx.getD i []
  · rw [if_pos hc, List.filter_cons_of_pos (by simpa using hc)]; simp
  · rw [if_neg hc, List.filter_cons_of_neg (by simpa using hc)]; simp
theorem us (nx : List (List Int)) (t : Nat) : predsTo nx nx.length [] t = ot nx t := by simp [predsTo, ot]
theorem ut (n : Nat) (to : List Int) : (succs n to).Nodup := by
  have key : ∀ (to acc : List Int), acc.Nodup → (to.foldl (addS n) acc).Nodup := by
    intro to
    induction to with
    | nil => intro acc h; exact h
    | cons t to ih =>
      intro acc h
      refine ih _ ?_
      unfold addS
      split
      · rename_i hc
        rw [List.nodup_append]
        exact ⟨h, by simp, fun x hx y hy => by simp at hy; subst hy; exact fun he => hc.2.2 (he ▸ hx)⟩
      · exact h
  exact key to [] List.nodup_nil
theorem uv (n : Nat) (x : Int) : ∀ (to acc : List Int), x ∈ to.foldl (addS n) acc ↔ x ∈ acc ∨ (x ∈ to ∧ 0 ≤ x ∧ x < n)
  | [], acc => by simp
  | t :: to, acc => by
    rw [List.foldl_cons, uv n x to]
    unfold addS
    by_cases hc : 0 ≤ t ∧ t < (n : Int) ∧ t ∉ acc
    · rw [if_pos hc]
      simp only [List.mem_append, List.mem_cons, List.not_mem_nil, or_false]
      constructor
      · rintro ((h | rfl) | h)
        · exact .inl h
        · exact .inr ⟨.inl rfl, hc.1, hc.2.1⟩
        · exact .inr ⟨.inr h.1, h.2⟩
      · rintro (h | ⟨rfl | h, h2⟩)
        · exact .inl (.inl h)
        · exact .inl (.inr rfl)
        · exact .inr ⟨h, h2⟩
    · rw [if_neg hc]
      simp only [List.mem_cons]
      constructor
      · rintro (h | h)
        · exact .inl h
        · exact .inr ⟨.inr h.1, h.2⟩
      · rintro (h | ⟨rfl | h, h2⟩)
        · exact .inl h
        · by_cases hx : x ∈ acc
          · exact .inl hx
          · exact absurd ⟨h2.1, h2.2, hx⟩ hc
        · exact .inr ⟨h, h2⟩
theorem qR {n : Nat} {x : Int} {to : List Int} : x ∈ succs n to ↔ x ∈ to ∧ 0 ≤ x ∧ x < n := by
  rw [succs, uv]; simp
theorem qq (f : ny) (v : Nat) (h : v < f.blocks.length) : (nI f)[v]? = some (succs f.blocks.length f.blocks[v].term.to) := by simp [nI, h]
theorem ss (nx : List (List Int)) (t : Nat) : ∀ x ∈ ot nx t, 0 ≤ x ∧ x < (nx.length : Int) := by
  intro x hx
  simp only [ot, List.mem_map, List.mem_filter, List.mem_range] at hx
  obtain ⟨j, ⟨hj, _⟩, rfl⟩ := hx
  omega
def cnt (s : List Bool) : Nat := s.count false
theorem uw : ∀ (s t : List Bool), s.length = t.length → (∀ v : Nat, s[v]? = some true → t[v]? = some true) → cnt t ≤ cnt s
  | [], t, hl, _ => by
    have : t = [] := List.eq_nil_of_length_eq_zero (by simpa using hl.symm)
    subst this; exact Nat.le_refl _
  | a :: s, [], hl, _ => by simp at hl
  | a :: s, b :: t, hl, h => by
    have ih := uw s t (by simpa using hl) (fun v hv => by simpa using h (v + 1) (by simpa using hv))
    have h0 := h 0
    simp only [cnt, List.count_cons] at ih ⊢
    cases a <;> cases b <;> simp_all <;> omega
theorem rT : ∀ (s : List Bool) (v : Nat), s[v]? = some false → cnt (s.set v true) + 1 = cnt s
  | [], v, h => by simp at h
  | a :: s, 0, h => by simp at h; subst h; simp [cnt]
  | a :: s, v + 1, h => by
    have ih := rT s v (by simpa using h)
    simp only [cnt, List.set_cons_succ, List.count_cons] at ih ⊢
    omega
theorem qJ (s : List Bool) (b v : Nat) (h : b < s.length) : (s.set b true)[v]? = if b = v then some true else s[v]? := by
  rw [List.getElem?_set]
  by_cases hbv : b = v
  · subst hbv; simp [h]
  · simp [hbv]
end Go.Proofs.Ytpmcbahahjelnaa
namespace Go.Proofs.Ytpmcbahahjelnaa
open Go Go.Proofs
theorem xN (B : nA) (next : List (List Int)) (i : Nat) (hi : i < next.length) (h0 : next[i] = []) (ht : B.term.to.length ≤ 70) :
    whl (fun (s : List (List Int) × Int) => oO.bd24 i B s.1 s.2) nD (next, 0) = some (next.set i (succs next.length B.term.to)) := by
  have hrun := pf (body := fun (s : List (List Int) × Int) => oO.bd24 i B s.1 s.2) (r := next.set i (succs next.length B.term.to)) B.term.to.length nD
    (fun j => (next.set i ((B.term.to.take j).foldl (addS next.length) []), (j : Int))) (fun j hj => by
      have hal : ((B.term.to.take j).foldl (addS next.length) []).length ≤ 70 := by
        have := sl next.length (B.term.to.take j) []
        simp at this; omega
      simp only [oO.bd24, nP, hj, if_true, nJ hj, Option.bind_some, rQ _ _ _ hj, ui _ _ _ hi]
      rw [sQ _ _ (by simp only [maxLen]; omega)]
      simp only [Option.bind_some, oO.jn34, pn hj (show B.term.to.length ≤ maxLen by simp only [maxLen]; omega)]
      generalize ((B.term.to.take j).foldl (addS next.length) []) = acc at hal
      generalize B.term.to[j] = t
      have h2 : acc.length + 1 < LIM := by simp only [LIM]; omega
      unfold addS
      by_cases h1 : t ≥ 0 ∧ t < len (next.set i acc)
      · rw [if_pos h1]
        simp only [len, List.length_set] at h1
        by_cases h3 : t ∈ acc
        · simp [h3]
        · have hc : 0 ≤ t ∧ t < (next.length : Int) ∧ t ∉ acc := ⟨h1.1, h1.2, h3⟩
          rw [if_pos hc]
          simp [h3, cat, h2, List.set_set]
      · rw [if_neg h1]
        simp only [len, List.length_set] at h1
        have hc : ¬ (0 ≤ t ∧ t < (next.length : Int) ∧ t ∉ acc) := fun hc => h1 ⟨hc.1, hc.2.1⟩
        rw [if_neg hc]
        simp) (by simp [oO.bd24, len, succs]) (oW (by simp only [maxLen]; omega))
  simp only [List.take_zero, List.foldl_nil] at hrun
  have hs : next.set i [] = next := by rw [← h0]; exact List.set_getElem_self hi
  rw [hs] at hrun
  exact hrun
theorem rh (f : ny) (hn : f.blocks.length ≤ 70) (ht : ∀ B ∈ f.blocks, B.term.to.length ≤ 70) : oO f = some (nI f) := by
  unfold oO
  have hmk : mkl (len f.blocks) ([] : List Int) = some (List.replicate f.blocks.length []) := by
    have h1 : f.blocks.length < LIM := by simp only [LIM]; omega
    simp [mkl, len, h1]
  rw [hmk]
  simp only [Option.bind_some]
  have hrun := pf (body := fun (s : List (List Int) × Int) => oO.bd9 f s.1 s.2) (r := nI f) f.blocks.length nD
    (fun i => ((f.blocks.take i).map (fun (B : nA) => succs f.blocks.length B.term.to) ++ List.replicate (f.blocks.length - i) [], (i : Int))) (fun i hi => by
      have hlA : ((f.blocks.take i).map (fun (B : nA) => succs f.blocks.length B.term.to)).length = i := by simp; omega
      have hl : ((f.blocks.take i).map (fun (B : nA) => succs f.blocks.length B.term.to) ++ List.replicate (f.blocks.length - i) []).length = f.blocks.length := by rw [List.length_append, hlA]; simp; omega
      simp only [oO.bd9, nP, hi, if_true, nJ hi, Option.bind_some]
      rw [xN _ _ i (by rw [hl]; exact hi) (by rw [List.getElem_append_right (by omega)]; simp) (ht _ (List.getElem_mem hi))]
      simp only [Option.bind_some, oO.nx24, pn hi (show f.blocks.length ≤ maxLen by simp only [maxLen]; omega), hl]
      have hs : ((f.blocks.take i).map (fun (B : nA) => succs f.blocks.length B.term.to) ++ List.replicate (f.blocks.length - i) []).set i (succs f.blocks.length f.blocks[i].term.to) =
          (f.blocks.take (i + 1)).map (fun (B : nA) => succs f.blocks.length B.term.to) ++ List.replicate (f.blocks.length - (i + 1)) [] := by
        rw [List.set_append_right _ _ (by omega), hlA, Nat.sub_self]
        obtain ⟨d, hd⟩ : ∃ d, f.blocks.length - i = d + 1 := ⟨f.blocks.length - i - 1, by omega⟩
        rw [hd, show f.blocks.length - (i + 1) = d by omega, List.take_succ_eq_append_getElem hi]
        simp only [List.replicate_succ, List.map_append, List.map_cons, List.map_nil, List.set_cons_zero, List.append_assoc, List.cons_append, List.nil_append]
      rw [hs]) (by simp [oO.bd9, len, nI]) (oW (by simp only [maxLen]; omega))
  simp only [List.take_zero, List.map_nil, List.nil_append, Nat.sub_zero] at hrun
  have h0 : (List.replicate f.blocks.length ([] : List Int), ((0 : Nat) : Int)) = (List.replicate f.blocks.length ([] : List Int), (0 : Int)) := rfl
  rw [h0] at hrun
  rw [hrun]
  rfl
end Go.Proofs.Ytpmcbahahjelnaa
namespace Go.Proofs.Ytpmcbahahjelnaa
open Go Go.Proofs
/-! ### Lists of flags -/
/-! ### What a part of the walk does -/
inductive Reach (nx : List (List Int)) : Nat → Nat → Prop
  | refl (v : Nat) : Reach nx v v
  | step {u v w : Nat} {row : List Int} : Reach nx u v → nx[v]? = some row → (w : Int) ∈ row → Reach nx u w
theorem Reach.trans {nx : List (List Int)} {u v w : Nat} (h : Reach nx u v) (k : Reach nx v w) : Reach nx u w := by
  induction k with
  | refl => exact h
  | step _ g5 g6 ih => exact .step ih g5 g6
structure V (nx : List (List Int)) (roots : Nat → Prop) (s : List Bool) (o : List Int) (s' : List Bool) (o' : List Int) : Prop where
  len : s'.length = s.length
  mono : ∀ v : Nat, s[v]? = some true → s'[v]? = some true
  cnt : o'.length + cnt s' ≤ o.length + cnt s
  app : ∃ new : List Int, o' = o ++ new ∧ new.Nodup ∧ ∀ x, x ∈ new ↔ ∃ v : Nat, x = v ∧ s'[v]? = some true ∧ s[v]? = some false
  clos : ∀ (v w : Nat) (row : List Int), s'[v]? = some true → s[v]? = some false → nx[v]? = some row → (w : Int) ∈ row → s'[w]? = some true
  reach : ∀ v : Nat, s'[v]? = some true → s[v]? = some false → ∃ r, roots r ∧ Reach nx r v
theorem V.refl (nx : List (List Int)) (roots : Nat → Prop) (s : List Bool) (o : List Int) : V nx roots s o s o :=
  ⟨rfl, fun _ h => h, Nat.le_refl _, ⟨[], by simp, List.nodup_nil, fun x => ⟨fun h => by simp at h, fun ⟨v, _, h1, h2⟩ => (by rw [h1] at h2; cases h2)⟩⟩, fun v w row h1 h2 => (by rw [h1] at h2; cases h2), fun v h1 h2 => (by rw [h1] at h2; cases h2)⟩
theorem V.flag {nx : List (List Int)} {roots : Nat → Prop} {s s' : List Bool} {o o' : List Int} (h : V nx roots s o s' o') {v : Nat} (h' : s'[v]? = some true) : s[v]? = some true ∨ s[v]? = some false := by
  have hlt : v < s.length := by rw [← h.len]; exact (List.getElem?_eq_some_iff.1 h').1
  rw [List.getElem?_eq_getElem hlt]
  cases s[v] <;> simp
theorem V.trans {nx : List (List Int)} {roots : Nat → Prop} {s s1 s2 : List Bool} {o o1 o2 : List Int} (h : V nx roots s o s1 o1) (k : V nx roots s1 o1 s2 o2) : V nx roots s o s2 o2 := by
  obtain ⟨n1, rfl, hn1, hm1⟩ := h.app
  obtain ⟨n2, rfl, hn2, hm2⟩ := k.app
  refine ⟨k.len.trans h.len, fun v hv => k.mono v (h.mono v hv), Nat.le_trans k.cnt h.cnt, ⟨n1 ++ n2, by simp, ?_, fun x => ?_⟩, fun v w row h1 h2 h3 h4 => ?_, fun v h1 h2 => ?_⟩
  · rw [List.nodup_append]
    refine ⟨hn1, hn2, fun x hx y hy hxy => ?_⟩
    subst hxy
    obtain ⟨v, rfl, g1, _⟩ := (hm1 x).1 hx
    obtain ⟨w, hw, _, g2⟩ := (hm2 _).1 hy
    have : v = w := by omega
    subst this
    rw [g1] at g2; cases g2
  · rw [List.mem_append]
    constructor
    · rintro (hx | hx)
      · obtain ⟨v, rfl, g1, g2⟩ := (hm1 x).1 hx
        exact ⟨v, rfl, k.mono v g1, g2⟩
      · obtain ⟨v, rfl, g1, g2⟩ := (hm2 x).1 hx
        refine ⟨v, rfl, g1, ?_⟩
        have hlt : v < s.length := by rw [← h.len]; exact (List.getElem?_eq_some_iff.1 g2).1
        cases hs : s[v] with
        | true => have := h.mono v (by rw [List.getElem?_eq_getElem hlt, hs]); rw [this] at g2; cases g2
        | false => rw [List.getElem?_eq_getElem hlt, hs]
    · rintro ⟨v, rfl, g1, g2⟩
      rcases k.flag g1 with g3 | g3
      · exact .inl ((hm1 _).2 ⟨v, rfl, g3, g2⟩)
      · exact .inr ((hm2 _).2 ⟨v, rfl, g1, g3⟩)
  · rcases k.flag h1 with g3 | g3
    · exact k.mono w (h.clos v w row g3 h2 h3 h4)
    · exact k.clos v w row h1 g3 h3 h4
  · rcases k.flag h1 with g3 | g3
    · exact h.reach v g3 h2
    · exact k.reach v h1 g3
/-! ### One call -/
theorem ux (nx : List (List Int)) (hN : nx.length ≤ 70) (hrow : ∀ (v : Nat) (row : List Int), nx[v]? = some row → row.length ≤ 70 ∧ ∀ x ∈ row, 0 ≤ x ∧ x < (nx.length : Int)) :
    ∀ (k b : Nat) (s : List Bool) (o : List Int), s.length = nx.length → s[b]? = some false → cnt s < k → o.length + cnt s ≤ 70 →
      ∃ s' o', og.it k b s nx o = some (s', o') ∧ V nx (· = b) s o s' o' ∧ s'[b]? = some true
  | 0, b, s, o, _, _, hk, _ => by omega
  | k + 1, b, s, o, hl, hb, hk, ho => by
    have hbl : b < s.length := (List.getElem?_eq_some_iff.1 hb).1
    have hbn : b < nx.length := by omega
    obtain ⟨hr1, hr2⟩ := hrow b nx[b] (List.getElem?_eq_getElem hbn)
    have hc := rT s b hb
    have hl0 : (s.set b true).length = nx.length := by simp [hl]
    -- the loop over what b leads to
    have hloop : ∃ z : List Bool × List Int, whl (fun (q : List Bool × List Int × Int) => og.bd10 nx (og.it k) nx[b] q.1 q.2.1 q.2.2) nD (s.set b true, o, 0) = some z ∧
        V nx (fun r => (r : Int) ∈ nx[b]) (s.set b true) o z.1 z.2 ∧ ∀ x ∈ nx[b], ∃ v : Nat, x = v ∧ z.1[v]? = some true := by
      refine qp (fun q : List Bool × List Int × Int => ∃ i : Nat, q.2.2 = i ∧ i ≤ nx[b].length ∧ V nx (fun r => (r : Int) ∈ nx[b]) (s.set b true) o q.1 q.2.1 ∧ ∀ x ∈ nx[b].take i, ∃ v : Nat, x = v ∧ q.1[v]? = some true)
        (fun q => nx[b].length - q.2.2.toNat) (fun z : List Bool × List Int => V nx (fun r => (r : Int) ∈ nx[b]) (s.set b true) o z.1 z.2 ∧ ∀ x ∈ nx[b], ∃ v : Nat, x = v ∧ z.1[v]? = some true) ?_ nD _ ⟨0, rfl, Nat.zero_le _, V.refl _ _ _ _, by simp⟩ (by simp; exact oW (by simp only [maxLen]; omega))
      rintro ⟨s1, o1, j⟩ ⟨i, rfl, hi, hV, hseen⟩
      simp only at hV hseen ⊢
      by_cases hlt : i < nx[b].length
      · right
        have hx := hr2 _ (List.getElem_mem hlt)
        obtain ⟨t, ht⟩ : ∃ t : Nat, nx[b][i] = t := ⟨(nx[b][i]).toNat, by omega⟩
        have htl : t < s1.length := by rw [hV.len, hl0]; omega
        simp only [og.bd10, nP, hlt, if_true, nJ hlt, Option.bind_some, ht, nJ htl]
        cases hf : s1[t] with
        | true =>
          refine ⟨(s1, o1, ((i + 1 : Nat) : Int)), by simp [og.jn21, pn hlt (show nx[b].length ≤ maxLen by simp only [maxLen]; omega)], ⟨i + 1, rfl, hlt, hV, fun x hx' => ?_⟩, by simp; omega⟩
          rw [List.take_succ_eq_append_getElem hlt, List.mem_append] at hx'
          rcases hx' with hx' | hx'
          · exact hseen x hx'
          · simp only [List.mem_singleton] at hx'
            exact ⟨t, hx'.trans ht, by rw [List.getElem?_eq_getElem htl, hf]⟩
        | false =>
          have hcm := uw (s.set b true) s1 (by rw [hV.len]) hV.mono
          have hvc := hV.cnt
          obtain ⟨s2, o2, h1, h2, h3⟩ := ux nx hN hrow k t s1 o1 (by rw [hV.len]; exact hl0) (by rw [List.getElem?_eq_getElem htl, hf]) (by omega) (by omega)
          have hV2 : V nx (fun r => (r : Int) ∈ nx[b]) s1 o1 s2 o2 := ⟨h2.len, h2.mono, h2.cnt, h2.app, h2.clos, fun v g1 g2 => by
            obtain ⟨r, rfl, g3⟩ := h2.reach v g1 g2
            exact ⟨r, by rw [← ht]; exact List.getElem_mem hlt, g3⟩⟩
          refine ⟨(s2, o2, ((i + 1 : Nat) : Int)), by simp [h1, og.jn21, pn hlt (show nx[b].length ≤ maxLen by simp only [maxLen]; omega)], ⟨i + 1, rfl, hlt, hV.trans hV2, fun x hx' => ?_⟩, by simp; omega⟩
          rw [List.take_succ_eq_append_getElem hlt, List.mem_append] at hx'
          rcases hx' with hx' | hx'
          · obtain ⟨v, rfl, g⟩ := hseen x hx'
            exact ⟨v, rfl, hV2.mono v g⟩
          · simp only [List.mem_singleton] at hx'
            exact ⟨t, hx'.trans ht, h3⟩
      · left
        have hie : i = nx[b].length := by omega
        refine ⟨(s1, o1), by simp [og.bd10, len, hie], hV, fun x hx' => hseen x (by rw [hie, List.take_length]; exact hx')⟩
    obtain ⟨⟨s2, o2⟩, hw, hV, hall⟩ := hloop
    simp only at hV hall
    have hvc := hV.cnt
    have h2 : o2.length + 1 < LIM := by simp only [LIM]; omega
    refine ⟨s2, o2 ++ [(b : Int)], ?_, ?_, hV.mono b (by rw [qJ _ _ _ hbl, if_pos rfl])⟩
    · simp only [og.it, og.body, nJ hbl, nJ hbn, Option.bind_some, Int.toNat_natCast]
      rw [hw]
      simp [og.nx10, cat, h2]
    · have hs0 : ∀ v : Nat, s[v]? = some true → (s.set b true)[v]? = some true := fun v hv => by rw [qJ _ _ _ hbl]; split <;> simp_all
      obtain ⟨new, rfl, hn, hm⟩ := hV.app
      have hbt : s2[b]? = some true := hV.mono b (by rw [qJ _ _ _ hbl, if_pos rfl])
      refine ⟨hV.len.trans (by simp), fun v hv => hV.mono v (hs0 v hv), by simp only [List.length_append, List.length_singleton] at hvc ⊢; omega, ⟨new ++ [(b : Int)], by simp, ?_, fun x => ?_⟩, fun v w row g1 g2 g3 g4 => ?_, fun v g1 g2 => ?_⟩
      · rw [List.nodup_append]
        refine ⟨hn, by simp, fun x hx y hy hxy => ?_⟩
        simp only [List.mem_singleton] at hy
        subst hxy hy
        obtain ⟨v, hv, _, g⟩ := (hm _).1 hx
        have : v = b := by omega
        subst this
        rw [qJ _ _ _ hbl, if_pos rfl] at g; cases g
      · rw [List.mem_append, List.mem_singleton, hm]
        constructor
        · rintro (⟨v, rfl, g1, g2⟩ | rfl)
          · rw [qJ _ _ _ hbl] at g2
            split at g2
            · cases g2
            · exact ⟨v, rfl, g1, g2⟩
          · exact ⟨b, rfl, hbt, hb⟩
        · rintro ⟨v, rfl, g1, g2⟩
          by_cases hvb : b = v
          · exact .inr (by rw [hvb])
          · exact .inl ⟨v, rfl, g1, by rw [qJ _ _ _ hbl, if_neg hvb]; exact g2⟩
      · by_cases hvb : b = v
        · subst hvb
          rw [List.getElem?_eq_getElem hbn] at g3
          cases g3
          obtain ⟨w', hw', g⟩ := hall _ g4
          have : w = w' := by omega
          subst this; exact g
        · exact hV.clos v w row g1 (by rw [qJ _ _ _ hbl, if_neg hvb]; exact g2) g3 g4
      · by_cases hvb : b = v
        · exact ⟨b, rfl, hvb ▸ .refl b⟩
        · obtain ⟨r, g3, g4⟩ := hV.reach v g1 (by rw [qJ _ _ _ hbl, if_neg hvb]; exact g2)
          refine ⟨b, rfl, ?_⟩
          have h0 : Reach nx b r := .step (.refl b) (List.getElem?_eq_getElem hbn) g3
          exact h0.trans g4
end Go.Proofs.Ytpmcbahahjelnaa
namespace Go.Proofs.Ytpmcbahahjelnaa
open Go
theorem qy {ρ σ : Type} {b : σ → Option (Ex ρ σ)} (I : σ → Prop) (R : ρ → Prop) (h1 : ∀ s r, I s → b s = some (.ret r) → R r) (h2 : ∀ s s', I s → b s = some (.go s') → I s') :
    ∀ (k : Nat) (s : σ) (r : ρ), I s → whl b k s = some r → R r
  | 0, s, r, _, h => by simp [whl] at h
  | k + 1, s, r, hI, h => by
    simp only [whl] at h
    cases hb : b s with
    | none => rw [hb] at h; simp at h
    | some x =>
      rw [hb] at h
      cases x with
      | ret r' => simp at h; subst h; exact h1 s _ hI hb
      | go s' => exact qy I R h1 h2 k s' r (h2 s s' hI hb) h
end Go.Proofs.Ytpmcbahahjelnaa
namespace Go.Proofs.Ytpmcbahahjelnaa
open Go
/-- A row whose first i and last i are exchanged. -/
def swp (a : List Int) (i : Nat) : List Int := (List.range a.length).map fun v => if v < i ∨ a.length - i ≤ v then a.getD (a.length - 1 - v) 0 else a.getD v 0
theorem rj (a : List Int) (i : Nat) : (swp a i).length = a.length := by simp [swp]
theorem rl (a : List Int) (i v : Nat) (h : v < a.length) : (swp a i)[v]? = some (if v < i ∨ a.length - i ≤ v then a.getD (a.length - 1 - v) 0 else a.getD v 0) := by
  simp [swp, h]
theorem xO (a : List Int) : swp a 0 = a := by
  apply List.ext_getElem?
  intro v
  rcases Nat.lt_or_ge v a.length with h | h
  · rw [rl _ _ _ h, if_neg (by omega), List.getD_eq_getElem?_getD, List.getElem?_eq_getElem h]; rfl
  · rw [List.getElem?_eq_none (by rw [rj]; exact h), List.getElem?_eq_none h]
theorem xP (a : List Int) (i : Nat) (h : a.length ≤ 2 * i + 1) : swp a i = a.reverse := by
  apply List.ext_getElem?
  intro v
  rcases Nat.lt_or_ge v a.length with hv | hv
  · rw [rl _ _ _ hv, List.getElem?_reverse hv]
    rw [List.getElem?_eq_getElem (by omega)]
    by_cases hc : v < i ∨ a.length - i ≤ v
    · rw [if_pos hc, List.getD_eq_getElem?_getD, List.getElem?_eq_getElem (by omega)]; rfl
    · rw [if_neg hc]
      have : a.length - 1 - v = v := by omega
      simp only [this, List.getD_eq_getElem?_getD, List.getElem?_eq_getElem hv, Option.getD_some]
  · rw [List.getElem?_eq_none (by rw [rj]; exact hv), List.getElem?_eq_none (by simpa using hv)]
theorem xQ (a : List Int) (i : Nat) (h : i + i + 1 < a.length) : ((swp a i).set i (a.getD (a.length - 1 - i) 0)).set (a.length - 1 - i) (a.getD i 0) = swp a (i + 1) := by
  apply List.ext_getElem?
  intro v
  rcases Nat.lt_or_ge v a.length with hv | hv
  · rw [List.getElem?_set, List.getElem?_set, rl _ _ _ hv, rl _ _ _ hv]
    simp only [List.length_set, rj]
    by_cases h1 : a.length - 1 - i = v
    · rw [if_pos h1, if_pos (by omega), if_pos (by omega)]
      congr 2; omega
    · rw [if_neg h1]
      by_cases h2 : i = v
      · rw [if_pos h2, if_pos (by omega), if_pos (by omega), h2]
      · rw [if_neg h2]
        by_cases h3 : v < i ∨ a.length - i ≤ v
        · rw [if_pos h3, if_pos (by omega)]
        · rw [if_neg h3, if_neg (by omega)]
  · rw [List.getElem?_eq_none (by simp [rj]; exact hv), List.getElem?_eq_none (by rw [rj]; exact hv)]
theorem uy (a : List Int) (hl : a.length ≤ 70) : pq a = some a.reverse := by
  unfold pq
  have hrun := pf (body := fun (s : List Int × Int × Int) => pq.bd8 s.1 s.2.1 s.2.2) (r := a.reverse) (a.length / 2) nD
    (fun i => (swp a i, (i : Int), (a.length : Int) - (i + 1 : Nat))) (fun i hi => by
      have h1 : i + i + 1 < a.length := by omega
      have hjj : (a.length : Int) - ((i + 1 : Nat) : Int) = ((a.length - 1 - i : Nat) : Int) := by omega
      have e1 : idx (swp a i) ((a.length - 1 - i : Nat) : Int) = some (a.getD (a.length - 1 - i) 0) := by rw [oz, rl _ _ _ (by omega), if_neg (by omega)]
      have e2 : idx (swp a i) (i : Int) = some (a.getD i 0) := by rw [oz, rl _ _ _ (by omega), if_neg (by omega)]
      have e3 : ∃ y, idx ((swp a i).set i (a.getD (a.length - 1 - i) 0)) ((a.length - 1 - i : Nat) : Int) = some y := ⟨_, nJ (by rw [List.length_set, rj]; omega)⟩
      obtain ⟨y, e3⟩ := e3
      have e4 : w64 (((a.length - 1 - i : Nat) : Int) - 1) = (a.length : Int) - ((i + 1 + 1 : Nat) : Int) := by rw [qa ⟨by omega, by omega⟩]; omega
      have e5 : w64 ((i : Int) + 1) = ((i + 1 : Nat) : Int) := rP (by omega)
      simp only [pq.bd8, hjj]
      rw [if_pos (by omega)]
      simp only [e1, e2, Option.bind_some, Int.toNat_natCast, e3, pq.jn18, e4, e5, xQ a i h1]) (by
      simp only [pq.bd8]
      rw [if_neg (by omega), xP a _ (by omega)]) (oW (by simp only [maxLen]; omega))
  rw [xO] at hrun
  have h0 : w64 ((a.length : Int) - 1) = (a.length : Int) - ((0 + 1 : Nat) : Int) := by rw [qa ⟨by omega, by omega⟩]; omega
  simp only [len]
  rw [h0]
  have e0 : (((0 : Nat) : Int)) = 0 := rfl
  simp only [e0] at hrun
  rw [hrun]
  rfl
end Go.Proofs.Ytpmcbahahjelnaa
namespace Go.Proofs.Ytpmcbahahjelnaa
open Go
def Closed (nx : List (List Int)) (C : Nat → Prop) : Prop := ∀ (v w : Nat) (row : List Int), C v → nx[v]? = some row → (w : Int) ∈ row → C w
def sn (s : List Bool) (v : Nat) : Prop := s[v]? = some true
/-- What marking does: nothing is lost; only what is led to is won. -/
structure M (nx : List (List Int)) (s s' : List Bool) : Prop where
  len : s'.length = s.length
  mono : ∀ v, sn s v → sn s' v
  sound : ∀ C : Nat → Prop, Closed nx C → (∀ v, sn s v → C v) → ∀ v, sn s' v → C v
theorem M.refl (nx : List (List Int)) (s : List Bool) : M nx s s := ⟨rfl, fun _ h => h, fun C _ h v hv => h v hv⟩
theorem M.trans {nx : List (List Int)} {s s1 s2 : List Bool} (h : M nx s s1) (k : M nx s1 s2) : M nx s s2 :=
  ⟨k.len.trans h.len, fun v hv => k.mono v (h.mono v hv), fun C hC hs v hv => k.sound C hC (h.sound C hC hs) v hv⟩
section
end
end Go.Proofs.Ytpmcbahahjelnaa
namespace Go.Proofs.Ytpmcbahahjelnaa
open Go Go.Proofs
theorem walked (f : ny) (hn : f.blocks.length ≤ 70) (ht : ∀ B ∈ f.blocks, B.term.to.length ≤ 70) (hpos : 0 < f.blocks.length) :
    ∃ s o, og.it nD 0 (List.replicate f.blocks.length false) (nI f) [] = some (s, o) ∧ V (nI f) (· = 0) (List.replicate f.blocks.length false) [] s o ∧ sn s 0 ∧ o.length ≤ 70 := by
  have hc : cnt (List.replicate f.blocks.length false) = f.blocks.length := by simp [cnt]
  obtain ⟨s, o, h1, h2, h3⟩ := ux (nI f) (by rw [oP]; exact hn) (rS f ht) nD 0 (List.replicate f.blocks.length false) [] (by simp [oP]) (by simp [hpos])
    (by rw [hc]; exact oW (by simp only [maxLen]; omega)) (by rw [hc]; simpa using hn)
  have hcnt := h2.cnt
  rw [hc] at hcnt
  simp only [List.length_nil] at hcnt
  exact ⟨s, o, h1, h2, h3, by omega⟩
theorem xR (f : ny) (hn : f.blocks.length ≤ 70) (ht : ∀ B ∈ f.blocks, B.term.to.length ≤ 70) (hpos : 0 < f.blocks.length) {s : List Bool} {o : List Int}
    (h : og.it nD 0 (List.replicate f.blocks.length false) (nI f) [] = some (s, o)) (ho : o.length ≤ 70) : pP f = some (o.reverse, s) := by
  unfold pP
  rw [rh f hn ht]
  simp only [Option.bind_some, len, oP, qQ false hn]
  rw [if_pos (by omega)]
  unfold og
  rw [h]
  simp only [Option.bind_some, pP.jn7, uy o ho]
theorem xS (f : ny) (h0 : f.blocks.length = 0) : pP f = some ([], []) := by
  have hb : f.blocks = [] := List.eq_nil_of_length_eq_zero h0
  unfold pP
  rw [rh f (by omega) (by rw [hb]; simp)]
  have hx : nI f = [] := by simp [nI, hb]
  simp only [Option.bind_some, hx, len, List.length_nil]
  have := qQ false (n := 0) (by omega)
  simp only [List.replicate_zero] at this
  rw [this]
  simp only [Option.bind_some]
  rw [if_neg (by omega)]
  simp only [pP.jn7, uy [] (by simp)]
  rfl
end Go.Proofs.Ytpmcbahahjelnaa
namespace Go.Proofs.Ytpmcbahahjelnaa
open Go Go.Proofs
theorem uz (nx : List (List Int)) (hn : nx.length ≤ 70) (hrow : ∀ row ∈ nx, row.length ≤ 70 ∧ row.Nodup ∧ ∀ x ∈ row, 0 ≤ x ∧ x < (nx.length : Int)) : o4 nx = some (n6 nx) := by
  unfold o4
  have hmk : mkl (len nx) ([] : List Int) = some (List.replicate nx.length []) := qQ (n := nx.length) [] hn
  rw [hmk]
  simp only [Option.bind_some]
  have hrun := pf (body := fun (s : List (List Int) × Int) => o4.bd9 nx s.1 s.2) (r := oq nx nx.length []) nx.length nD
    (fun i => (oq nx i [], (i : Int))) (fun i hi => by
      obtain ⟨hr1, hr2, hr3⟩ := hrow _ (List.getElem_mem hi)
      simp only [o4.bd9, nP, hi, if_true, nJ hi, Option.bind_some]
      have hin := pf (body := fun (s : List (List Int) × Int) => o4.bd24 (i : Int) nx[i] s.1 s.2) (r := oq nx i nx[i]) nx[i].length nD
        (fun k => (oq nx i (nx[i].take k), (k : Int))) (fun k hk => by
          obtain ⟨h0, h1⟩ := hr3 _ (List.getElem_mem hk)
          obtain ⟨x, hx⟩ : ∃ x : Nat, nx[i][k] = (x : Int) := ⟨nx[i][k].toNat, by omega⟩
          have hxl : x < nx.length := by omega
          have hnot : (x : Int) ∉ nx[i].take k := by
            intro hm
            obtain ⟨j, hj, he⟩ := List.getElem_of_mem hm
            rw [List.getElem_take] at he
            rw [← hx] at he
            have hj' : j < k := by simp at hj; omega
            exact absurd he ((List.pairwise_iff_getElem.1 hr2) j k (by omega) hk hj')
          have hidx : idx (oq nx i (nx[i].take k)) ((x : Nat) : Int) = some (predsTo nx i (nx[i].take k) x) := by
            rw [oz]; simp [oq, hxl]
          have hlen := uq nx i (nx[i].take k) x
          simp only [o4.bd24, nP, hk, if_true, nJ hk, Option.bind_some, hx, hidx, oH (show (predsTo nx i (nx[i].take k) x).length ≤ 1000 by omega), Int.toNat_natCast, nQ hk (show nx[i].length ≤ 1000 by omega)]
          have : (oq nx i (nx[i].take k)).set x (predsTo nx i (nx[i].take k) x ++ [(i : Int)]) = oq nx i (nx[i].take (k + 1)) := by
            apply List.ext_getElem (by simp [oq])
            intro t h1 h2
            have ht : t < nx.length := by simpa only [oq, List.length_map, List.length_range] using h2
            rw [List.getElem_set]
            simp only [oq, List.getElem_map, List.getElem_range]
            rw [List.take_succ_eq_append_getElem hk, hx]
            by_cases hxt : x = t
            · subst hxt
              rw [if_pos rfl]
              simp [predsTo, hnot]
            · rw [if_neg hxt]
              have : ((t : Int) = (x : Int)) ↔ False := ⟨fun h => hxt (by omega), False.elim⟩
              simp [predsTo, this]
          rw [this]) (by simp [o4.bd24, len]) (oW (nO hr1 (by omega)))
      simp only [List.take_zero] at hin
      have h00 : (oq nx i [], ((0 : Nat) : Int)) = (oq nx i [], (0 : Int)) := rfl
      rw [h00] at hin
      rw [hin]
      simp only [Option.bind_some, o4.nx24, nQ hi (show nx.length ≤ 1000 by omega)]
      have : oq nx i nx[i] = oq nx (i + 1) [] := by
        unfold oq
        apply List.map_congr_left
        intro t _
        rw [← ur nx i t hi]
        simp [List.getD_eq_getElem?_getD, hi]
      rw [this]) (by simp [o4.bd9, len]) (oW (nO hn (by omega)))
  have h0 : oq nx 0 [] = List.replicate nx.length [] := by
    apply List.ext_getElem (by simp [oq])
    intro t h1 h2
    simp [oq, predsTo]
  rw [h0] at hrun
  have h00 : (List.replicate nx.length ([] : List Int), ((0 : Nat) : Int)) = (List.replicate nx.length ([] : List Int), (0 : Int)) := rfl
  rw [h00] at hrun
  rw [hrun]
  simp only [Option.bind_some, o4.nx9]
  congr 1
  unfold oq n6
  exact List.map_congr_left fun t _ => us nx t
/-! ### Arguments that stay -/
def keptF (args ahead : List Int) (seen : List Bool) : List Int :=
  if args.length = ahead.length then ((args.zip ahead).filter fun p => seen.getD p.2.toNat false).map (·.1) else args
theorem qm (a : List Int) (h : a.length ≤ 1000) : pJ a = some a := by
  unfold pJ; rw [rg h]; rfl
theorem xT (args ahead : List Int) (seen : List Bool) (h1 : args.length ≤ 300) (h : ∀ x ∈ ahead, 0 ≤ x ∧ x < (seen.length : Int)) : pm args ahead seen = some (keptF args ahead seen) := by
  unfold pm keptF
  by_cases hc : args.length = ahead.length
  · rw [if_neg (by simp only [len]; omega), if_pos hc]
    have hz : (args.zip ahead).length = args.length := by simp; omega
    have hrun := pf (body := fun (s : List Int × Int) => pm.bd13 args ahead seen s.1 s.2) (r := ((args.zip ahead).filter fun p => seen.getD p.2.toNat false).map (·.1)) args.length nD
      (fun i => ((((args.zip ahead).take i).filter fun p => seen.getD p.2.toNat false).map (·.1), (i : Int))) (fun i hi => by
        have hi2 : i < ahead.length := by omega
        obtain ⟨g1, g2⟩ := h _ (List.getElem_mem hi2)
        obtain ⟨x, hx⟩ : ∃ x : Nat, ahead[i] = (x : Int) := ⟨ahead[i].toNat, by omega⟩
        have hxl : x < seen.length := by omega
        have hz' : i < (args.zip ahead).length := by omega
        have hlen : ((((args.zip ahead).take i).filter fun p => seen.getD p.2.toNat false).map (·.1)).length ≤ 1000 := by
          have := List.length_filter_le (fun p : Int × Int => seen.getD p.2.toNat false) ((args.zip ahead).take i)
          simp only [List.length_map, List.length_take] at this ⊢; omega
        simp only [pm.bd13, nP, hi, if_true, nJ hi, nJ hi2, hx, nJ hxl, Option.bind_some]
        rw [List.take_succ_eq_append_getElem hz', List.filter_append, List.map_append]
        have hg : seen.getD x false = seen[x] := by simp [List.getD_eq_getElem?_getD, hxl]
        have hze : (args.zip ahead)[i] = (args[i], (x : Int)) := by simp [hx]
        rw [hze]
        by_cases hs : seen[x] = true
        · rw [if_pos hs, oH hlen]
          simp [hs, pm.jn23, hxl]
          exact nQ hi (by omega)
        · rw [if_neg hs]
          simp [hs, pm.jn23, hxl]
          exact nQ hi (by omega)) (by rw [← hz, List.take_length]; simp [pm.bd13, len]; omega) (oW (nO h1 (by omega)))
    simp only [List.take_zero, List.filter_nil, List.map_nil] at hrun
    have h00 : (([] : List Int), ((0 : Nat) : Int)) = (([] : List Int), (0 : Int)) := rfl
    rw [h00] at hrun
    rw [hrun]; rfl
  · rw [if_pos (by simp only [len]; omega), if_neg hc, qm _ (by omega)]; rfl
/-! ### The new numbers -/
def numF (s : List Bool) : List Int := (List.range s.length).map fun i => if s.getD i false = true then (((s.take i).count true : Nat) : Int) else -1
theorem uA (s : List Bool) : (numF s).length = s.length := by simp [numF]
theorem sR (s : List Bool) (i : Nat) (h : i < s.length) : (numF s)[i]? = some (if s[i] = true then (((s.take i).count true : Nat) : Int) else -1) := by
  simp [numF, h]
def renum (nums : List Int) (t : Int) : Int := if 0 ≤ t ∧ t < (nums.length : Int) then nums.getD t.toNat 0 else t
def trimB (seen : List Bool) (ah : List Int) (B : nA) : nA :=
  ⟨B.phis.map (fun p => ⟨p.dst, keptF p.args ah seen⟩), B.ins, ⟨B.term.kind, B.term.arg, B.term.to.map (renum (numF seen))⟩⟩
def trimAt (f : ny) (seen : List Bool) (i : Nat) : Option nA :=
  match f.blocks[i]? with
  | some B => if seen.getD i false = true then some (trimB seen (ot (nI f) i) B) else none
  | none => none
def trimF (f : ny) (seen : List Bool) : ny := ⟨f.params, f.result, f.regs, (List.range f.blocks.length).filterMap (trimAt f seen)⟩
theorem xU (args ahead : List Int) (seen : List Bool) : (keptF args ahead seen).length ≤ args.length := by
  unfold keptF
  split
  · have := List.length_filter_le (fun p : Int × Int => seen.getD p.2.toNat false) (args.zip ahead)
    simp only [List.length_map, List.length_zip] at this ⊢; omega
  · exact Nat.le_refl _
theorem xV (f : ny) (seen : List Bool) (hn : f.blocks.length ≤ 70) (hs : seen.length = f.blocks.length) (x0 : List Int) (hx0 : x0 = List.replicate f.blocks.length 0) :
    whl (fun (s : List Int × Int × Int) => nW.bd15 seen x0 s.1 s.2.1 s.2.2) nD (x0, 0, 0) = some (numF seen) := by
  subst hx0
  obtain ⟨r, h1, h2⟩ := oj (body := fun (s : List Int × Int × Int) => nW.bd15 seen (List.replicate f.blocks.length 0) s.1 s.2.1 s.2.2) f.blocks.length
    (fun i s => s.1.length = f.blocks.length ∧ (∀ j, j < i → s.1[j]? = (numF seen)[j]?) ∧ s.2.1 = (((seen.take i).count true : Nat) : Int) ∧ s.2.2 = (i : Int)) (fun r => r = numF seen) (nO hn (by omega))
    (fun i s hi hI => by
      obtain ⟨L, c, k⟩ := s
      obtain ⟨hl, hj, rfl, rfl⟩ := hI
      simp only at hl hj ⊢
      have hi1 : i < L.length := by omega
      have hi2 : i < seen.length := by omega
      have hle : (seen.take i).count true ≤ i := by
        have := List.count_le_length (a := true) (l := seen.take i)
        simp at this; omega
      refine .inr ?_
      have hc : (i : Int) < len (List.replicate f.blocks.length (0 : Int)) := by simp only [len, List.length_replicate]; omega
      simp only [nW.bd15, hc, if_true, nJ hi1, nJ hi2, Option.bind_some]
      have htk : (seen.take (i + 1)).count true = (seen.take i).count true + (if seen[i] = true then 1 else 0) := by
        rw [List.take_succ_eq_append_getElem hi2, List.count_append]
        cases seen[i] <;> simp
      by_cases hb : seen[i] = true
      · rw [if_pos hb]
        have hix : idx (L.set i (-1)) (i : Int) = some (-1) := ui _ _ _ hi1
        simp only [Int.toNat_natCast, hix, Option.bind_some, nW.jn181]
        refine ⟨_, rfl, by simp [hl], fun j hj' => ?_, ?_, nQ hi (by omega)⟩
        · simp only [List.set_set]
          rw [List.getElem?_set]
          by_cases hji : i = j
          · subst hji
            rw [if_pos rfl, if_pos hi1, sR _ _ hi2, if_pos hb]
          · rw [if_neg hji]; exact hj j (by omega)
        · simp only
          rw [htk, if_pos hb, qa ⟨by omega, by omega⟩]; omega
      · rw [if_neg hb]
        simp only [nW.jn181, Int.toNat_natCast]
        refine ⟨_, rfl, by simp [hl], fun j hj' => ?_, ?_, nQ hi (by omega)⟩
        · simp only
          rw [List.getElem?_set]
          by_cases hji : i = j
          · subst hji
            rw [if_pos rfl, if_pos hi1, sR _ _ hi2, if_neg hb]
          · rw [if_neg hji]; exact hj j (by omega)
        · simp only
          rw [htk, if_neg hb]; rfl)
    (fun s hI => by
      obtain ⟨L, c, k⟩ := s
      obtain ⟨hl, hj, rfl, rfl⟩ := hI
      simp only at hl hj
      refine ⟨L, by simp [nW.bd15, len], ?_⟩
      apply List.ext_getElem?
      intro v
      rcases Nat.lt_or_ge v f.blocks.length with hv | hv
      · exact hj v hv
      · rw [List.getElem?_eq_none (by omega), List.getElem?_eq_none (by rw [uA]; omega)])
    (s0 := (List.replicate f.blocks.length 0, 0, 0)) ⟨by simp, fun j hj => by omega, by simp, rfl⟩
  rw [h1, h2]
theorem xW (f : ny) (seen : List Bool) (ah : List (List Int)) (i : Nat) (B : nA) (hB : SmB B) (a : List Int) (ha : ah[i]? = some a) (hin : ∀ x ∈ a, 0 ≤ x ∧ x < (seen.length : Int)) (acc : List nA) (hacc : acc.length ≤ 70) :
    ((whl (fun (s : (List PPhi × Int)) => nW.bd51 seen ah i B s.1 s.2) nD (([] : List PPhi), 0)).bind fun z => nW.nx51 (numF seen) acc i B z) = nW.jn38 i (acc ++ [trimB seen a B]) := by
  obtain ⟨b1, b2, b3, b4, b5⟩ := hB
  rw [qH B.phis (fun p => (⟨p.dst, keptF p.args a seen⟩ : PPhi)) (r := B.phis.map (fun p => (⟨p.dst, keptF p.args a seen⟩ : PPhi))) (nO b2 (by omega)) (fun j hj => by
    have hia : idx ah (i : Int) = some a := by rw [oz]; exact ha
    simp only [nW.bd51, nP, hj, if_true, nJ hj, Option.bind_some, hia, xT _ _ _ (b5 _ (List.getElem_mem hj)) hin, oH (show ((B.phis.take j).map (fun p => (⟨p.dst, keptF p.args a seen⟩ : PPhi))).length ≤ 1000 by simp; omega), nW.jn115, nQ hj (show B.phis.length ≤ 1000 by omega)]) (by simp [nW.bd51, len])]
  simp only [Option.bind_some, nW.nx51]
  rw [qH B.ins id (r := B.ins) (nO b1 (by omega)) (fun j hj => by
    have h4 := b4 _ (List.getElem_mem hj)
    simp only [nW.bd60, nP, hj, if_true, nJ hj, Option.bind_some, qm _ (show B.ins[j].args.length ≤ 1000 by omega), List.map_id, oH (show (B.ins.take j).length ≤ 1000 by simp; omega), nQ hj (show B.ins.length ≤ 1000 by omega)]; rfl) (by simp [nW.bd60, len])]
  simp only [Option.bind_some, nW.nx60]
  rw [qH B.term.to (renum (numF seen)) (r := B.term.to.map (renum (numF seen))) (nO b3 (by omega)) (fun j hj => by
    simp only [nW.bd69, nP, hj, if_true, nJ hj, Option.bind_some]
    generalize B.term.to[j] = t
    have hc : cat ((B.term.to.take j).map (renum (numF seen))) [renum (numF seen) t] = some ((B.term.to.take j).map (renum (numF seen)) ++ [renum (numF seen) t]) := oH (by simp; omega)
    by_cases ht : t ≥ 0 ∧ t < len (numF seen)
    · rw [if_pos ht]
      obtain ⟨x, rfl⟩ : ∃ x : Nat, t = (x : Int) := ⟨t.toNat, by omega⟩
      have hx : x < (numF seen).length := by simp only [len] at ht; omega
      have hr : renum (numF seen) (x : Int) = (numF seen)[x] := by
        unfold renum
        rw [if_pos ⟨by omega, by omega⟩]
        simp [List.getD_eq_getElem?_getD, hx]
      rw [hr] at hc
      simp only [nJ hx, Option.bind_some, nW.jn83, hr, hc, nQ hj (show B.term.to.length ≤ 1000 by omega)]
    · rw [if_neg ht]
      have hr : renum (numF seen) t = t := by
        unfold renum
        rw [if_neg (by simpa [len] using ht)]
      rw [hr] at hc
      simp only [nW.jn83, hr, hc, Option.bind_some, nQ hj (show B.term.to.length ≤ 1000 by omega)]) (by simp [nW.bd69, len])]
  simp only [Option.bind_some, nW.nx69, oH (show acc.length ≤ 1000 by omega), trimB]
theorem xX (f : ny) (hf : SmF f) (seen : List Bool) (hs : seen.length = f.blocks.length) :
    whl (fun (s : (List nA × Int)) => nW.bd28 f seen (n6 (nI f)) (numF seen) s.1 s.2) nD (([] : List nA), 0) = some ((List.range f.blocks.length).filterMap (trimAt f seen)) := by
  obtain ⟨hn, _, _, hB⟩ := hf
  have hrun := pf (body := fun (s : (List nA × Int)) => nW.bd28 f seen (n6 (nI f)) (numF seen) s.1 s.2) (r := (List.range f.blocks.length).filterMap (trimAt f seen)) f.blocks.length nD
    (fun i => ((List.range i).filterMap (trimAt f seen), (i : Int))) (fun i hi => by
      have hi2 : i < seen.length := by omega
      have hla : ((List.range i).filterMap (trimAt f seen)).length ≤ 70 := by
        have := List.length_filterMap_le (trimAt f seen) (List.range i)
        simp at this; omega
      simp only [nW.bd28, nP, hi, if_true, nJ hi, nJ hi2, Option.bind_some]
      rw [List.range_succ, List.filterMap_append]
      by_cases hb : seen[i] = true
      · rw [if_neg (by simp [hb]), xW f seen (n6 (nI f)) i f.blocks[i] (hB _ (List.getElem_mem hi)) (ot (nI f) i) (qI _ _ (by rw [oP]; exact hi)) (fun x hx => by
          simp only [ot, List.mem_map, List.mem_filter, List.mem_range] at hx
          obtain ⟨j, ⟨hj, _⟩, rfl⟩ := hx
          rw [oP] at hj; omega) _ hla]
        have : trimAt f seen i = some (trimB seen (ot (nI f) i) f.blocks[i]) := by simp [trimAt, hi, hi2, hb]
        simp only [nW.jn38, nQ hi (show f.blocks.length ≤ 1000 by omega), List.filterMap_cons, this, List.filterMap_nil]
      · rw [if_pos (by simpa using hb)]
        have : trimAt f seen i = none := by simp [trimAt, hi, hi2, hb]
        simp only [nW.jn38, nQ hi (show f.blocks.length ≤ 1000 by omega), List.filterMap_cons, this, List.filterMap_nil, List.append_nil]) (by simp [nW.bd28, len]) (oW (nO hn (by omega)))
  simpa using hrun
/-! ### What is reached, and the order -/
structure Walked (f : ny) (s : List Bool) (o : List Int) : Prop where
  len : s.length = f.blocks.length
  ord : qw f = some o.reverse
  rea : ql f = some s
  few : o.length ≤ 70
theorem qz (f : ny) (hf : SmF f) : ∃ s o, Walked f s o ∧ (f.blocks.length = 0 → s = [] ∧ o = []) ∧ (0 < f.blocks.length → V (nI f) (· = 0) (List.replicate f.blocks.length false) [] s o ∧ sn s 0 ∧ og.it nD 0 (List.replicate f.blocks.length false) (nI f) [] = some (s, o)) := by
  obtain ⟨hn, _, _, hB⟩ := hf
  have ht : ∀ B ∈ f.blocks, B.term.to.length ≤ 70 := fun B hm => (hB B hm).2.2.1
  rcases Nat.eq_zero_or_pos f.blocks.length with h0 | hpos
  · refine ⟨[], [], ⟨h0.symm, ?_, ?_, by simp⟩, fun _ => ⟨rfl, rfl⟩, fun h => by omega⟩ <;> simp [qw, ql, xS f h0]
  · obtain ⟨s, o, hit, hV, hs0, ho⟩ := walked f hn ht hpos
    refine ⟨s, o, ⟨by rw [hV.len]; simp, ?_, ?_, ho⟩, fun h => by omega, fun _ => ⟨hV, hs0, hit⟩⟩ <;> simp [qw, ql, xR f hn ht hpos hit ho]
theorem uB (f : ny) (hf : SmF f) {s : List Bool} {o : List Int} (hw : Walked f s o) : nW f = some (trimF f s, numF s) := by
  have hf' := hf
  obtain ⟨hn, hr, _, hB⟩ := hf
  have ht : ∀ B ∈ f.blocks, B.term.to.length ≤ 70 := fun B hm => (hB B hm).2.2.1
  unfold nW
  rw [rh f hn ht, hw.rea]
  simp only [Option.bind_some]
  rw [uz (nI f) (by rw [oP]; exact hn) (fun row hrow => by
    obtain ⟨v, hv, rfl⟩ := List.getElem_of_mem hrow
    obtain ⟨g1, g2⟩ := rS f ht v _ (List.getElem?_eq_getElem hv)
    refine ⟨g1, ?_, g2⟩
    simp [nI, ut])]
  have hmk : mkl (len f.blocks) (0 : Int) = some (List.replicate f.blocks.length 0) := qQ (n := f.blocks.length) 0 hn
  simp only [Option.bind_some, hmk, xV f s hn hw.len _ rfl, nW.nx15, qm _ (show f.regs.length ≤ 1000 by omega), nW.jn20, xX f hf' s hw.len, nW.nx28]
  rfl
end Go.Proofs.Ytpmcbahahjelnaa
namespace Go.Proofs.Ytpmcbahahjelnaa
open Go Go.Proofs
theorem xY (f : ny) (hf : SmF f) (s : List Bool) (i : Nat) (B : nA) (h : trimAt f s i = some B) : SmB B := by
  unfold trimAt at h
  split at h
  · rename_i B0 hB0
    split at h
    · cases h
      obtain ⟨b1, b2, b3, b4, b5⟩ := hf.2.2.2 B0 (List.mem_of_getElem? hB0)
      refine ⟨b1, by simpa [trimB] using b2, by simpa [trimB] using b3, b4, fun p hp => ?_⟩
      simp only [trimB, List.mem_map] at hp
      obtain ⟨q, hq, rfl⟩ := hp
      exact Nat.le_trans (xU _ _ _) (b5 q hq)
    · cases h
  · cases h
theorem sS (f : ny) (hf : SmF f) (s : List Bool) : SmF (trimF f s) := by
  refine ⟨?_, hf.2.1, hf.2.2.1, fun B hB => ?_⟩
  · have := List.length_filterMap_le (trimAt f s) (List.range f.blocks.length)
    have h1 := hf.1
    simp only [trimF, List.length_range] at this ⊢; omega
  · simp only [trimF, List.mem_filterMap] at hB
    obtain ⟨i, _, hi⟩ := hB
    exact xY f hf s i B hi
/-! ### Places among those that are marked -/
def rk (s : List Bool) (i : Nat) : Nat := (s.take i).count true
theorem uC (s : List Bool) (n : Nat) (h : n < s.length) : rk s (n + 1) = rk s n + (if s.getD n false = true then 1 else 0) := by
  unfold rk
  rw [List.take_succ_eq_append_getElem h, List.count_append]
  have : s.getD n false = s[n] := by simp [List.getD_eq_getElem?_getD, h]
  rw [this]
  cases s[n] <;> simp
section
variable {β : Type} {s : List Bool} {t : Nat → Option β} (h : ∀ i, i < s.length → (t i).isSome = s.getD i false)
include h
theorem rU : ∀ (n : Nat), n ≤ s.length → ((List.range n).filterMap t).length = rk s n
  | 0, _ => by simp [rk]
  | n + 1, hn => by
    have ih := rU n (by omega)
    have hs := h n (by omega)
    rw [List.range_succ, List.filterMap_append, List.length_append, ih, uC s n (by omega), ← hs]
    cases ht : t n <;> simp [ht]
theorem uD : ∀ (n i : Nat), n ≤ s.length → i < n → s.getD i false = true → ((List.range n).filterMap t)[rk s i]? = t i
  | 0, i, _, hi, _ => by omega
  | n + 1, i, hn, hi, hs => by
    have hl := rU h n (by omega)
    rw [List.range_succ, List.filterMap_append]
    rcases Nat.lt_or_ge i n with hlt | hge
    · have ih := uD n i (by omega) hlt hs
      have hsome := h i (by omega)
      rw [hs] at hsome
      obtain ⟨x, hx⟩ := Option.isSome_iff_exists.1 hsome
      rw [hx] at ih
      rw [List.getElem?_append_left (List.getElem?_eq_some_iff.1 ih).1, ih, hx]
    · obtain rfl : i = n := by omega
      rw [List.getElem?_append_right (by omega), hl, Nat.sub_self]
      have hsome := h i (by omega)
      rw [hs] at hsome
      obtain ⟨x, hx⟩ := Option.isSome_iff_exists.1 hsome
      simp [hx]
theorem uE : ∀ (n k : Nat), n ≤ s.length → k < ((List.range n).filterMap t).length → ∃ i, i < n ∧ s.getD i false = true ∧ k = rk s i
  | 0, k, _, hk => by simp at hk
  | n + 1, k, hn, hk => by
    have hl := rU h n (by omega)
    rw [rU h (n + 1) hn, uC s n (by omega)] at hk
    rcases Nat.lt_or_ge k (rk s n) with hlt | hge
    · obtain ⟨i, h1, h2, h3⟩ := uE n k (by omega) (by omega)
      exact ⟨i, by omega, h2, h3⟩
    · by_cases hs : s.getD n false = true
      · rw [if_pos hs] at hk
        exact ⟨n, by omega, hs, by omega⟩
      · rw [if_neg hs] at hk; omega
end
theorem uF (f : ny) (s : List Bool) (hl : s.length = f.blocks.length) (i : Nat) (hi : i < s.length) : (trimAt f s i).isSome = s.getD i false := by
  have hi' : i < f.blocks.length := by omega
  unfold trimAt
  rw [List.getElem?_eq_getElem hi']
  cases hb : s.getD i false <;> simp
theorem sT (f : ny) (s : List Bool) (hl : s.length = f.blocks.length) (i : Nat) (hi : i < f.blocks.length) (hs : s.getD i false = true) :
    (trimF f s).blocks[rk s i]? = some (trimB s (ot (nI f) i) f.blocks[i]) := by
  have := uD (uF f s hl) s.length i (Nat.le_refl _) (by omega) hs
  simp only [trimF, ← hl, this]
  simp only [trimAt, List.getElem?_eq_getElem hi, hs, if_true]
theorem xZ (f : ny) (s : List Bool) (hl : s.length = f.blocks.length) (k : Nat) (hk : k < (trimF f s).blocks.length) : ∃ i, i < f.blocks.length ∧ s.getD i false = true ∧ k = rk s i := by
  have := uE (uF f s hl) s.length k (Nat.le_refl _) (by simp only [trimF, ← hl] at hk; exact hk)
  obtain ⟨i, h1, h2, h3⟩ := this
  exact ⟨i, by omega, h2, h3⟩
theorem rm {s : List Bool} {v : Nat} : sn s v ↔ v < s.length ∧ s.getD v false = true := by
  unfold sn
  rw [List.getD_eq_getElem?_getD]
  constructor
  · intro h; exact ⟨(List.getElem?_eq_some_iff.1 h).1, by rw [h]; rfl⟩
  · rintro ⟨h1, h2⟩; rw [List.getElem?_eq_getElem h1] at h2 ⊢; exact congrArg some h2
theorem x4 (s : List Bool) (w : Nat) (h : w < s.length) (hs : s.getD w false = true) : renum (numF s) (w : Int) = (rk s w : Int) := by
  unfold renum
  rw [if_pos ⟨by omega, by rw [uA]; omega⟩]
  have := sR s w h
  have h2 : s[w] = true := by simpa [List.getD_eq_getElem?_getD, h] using hs
  rw [if_pos h2] at this
  simp only [Int.toNat_natCast, List.getD_eq_getElem?_getD, this]; rfl
end Go.Proofs.Ytpmcbahahjelnaa
namespace Go.Proofs.Ytpmcbahahjelnaa
open Go Go.Proofs
/-- A scan by index: what is amiss first is told, if anything. -/
theorem sU {ρ : Type} (n : Nat) (hn : n ≤ maxLen) (P : Nat → Prop) (Q : ρ → Prop) (body : Int → Option (Ex (Ex ρ Unit) Int))
    (h : ∀ i, i < n → (∃ e, body (i : Int) = some (.ret (.ret e)) ∧ Q e ∧ ¬ P i) ∨ (body (i : Int) = some (.go ((i + 1 : Nat) : Int)) ∧ P i)) (he : body (n : Int) = some (.ret (.go ()))) :
    (∃ e, whl body nD 0 = some (.ret e) ∧ Q e ∧ ¬ ∀ i, i < n → P i) ∨ (whl body nD 0 = some (.go ()) ∧ ∀ i, i < n → P i) := by
  obtain ⟨r, hr, hR⟩ := oj (body := body) n (fun i s => s = (i : Int) ∧ ∀ j, j < i → P j) (fun r => (∃ e, r = .ret e ∧ Q e ∧ ¬ ∀ i, i < n → P i) ∨ (r = .go () ∧ ∀ i, i < n → P i)) hn
    (fun i s hi hI => by
      obtain ⟨rfl, hp⟩ := hI
      rcases h i hi with ⟨e, hb, hq, hnp⟩ | ⟨hb, hpi⟩
      · exact .inl ⟨_, hb, .inl ⟨e, rfl, hq, fun hall => hnp (hall i hi)⟩⟩
      · refine .inr ⟨_, hb, rfl, fun j hj => ?_⟩
        rcases Nat.lt_succ_iff_lt_or_eq.1 hj with h1 | rfl
        · exact hp j h1
        · exact hpi)
    (fun s hI => by
      obtain ⟨rfl, hp⟩ := hI
      exact ⟨_, he, .inr ⟨rfl, hp⟩⟩) (s0 := 0) ⟨rfl, fun j hj => by omega⟩
  rcases hR with ⟨e, rfl, hq, hn⟩ | ⟨rfl, hall⟩
  · exact .inl ⟨e, hr, hq, hn⟩
  · exact .inr ⟨hr, hall⟩
theorem qr {α ρ : Type} (xs : List α) (hl : xs.length ≤ maxLen) (P : α → Prop) (Q : ρ → Prop) (body : Int → Option (Ex (Ex ρ Unit) Int))
    (h : ∀ i (hi : i < xs.length), (∃ e, body (i : Int) = some (.ret (.ret e)) ∧ Q e ∧ ¬ P xs[i]) ∨ (body (i : Int) = some (.go ((i + 1 : Nat) : Int)) ∧ P xs[i])) (he : body (xs.length : Int) = some (.ret (.go ()))) :
    (∃ e, whl body nD 0 = some (.ret e) ∧ Q e ∧ ¬ ∀ x ∈ xs, P x) ∨ (whl body nD 0 = some (.go ()) ∧ ∀ x ∈ xs, P x) := by
  have := sU xs.length hl (fun i => ∀ x, xs[i]? = some x → P x) Q body (fun i hi => by
    rcases h i hi with ⟨e, hb, hq, hn⟩ | ⟨hb, hp⟩
    · exact .inl ⟨e, hb, hq, fun hx => hn (hx _ (List.getElem?_eq_getElem hi))⟩
    · exact .inr ⟨hb, fun x hx => by rw [List.getElem?_eq_getElem hi] at hx; cases hx; exact hp⟩) he
  rcases this with ⟨e, hw, hq, hn⟩ | ⟨hw, hall⟩
  · refine .inl ⟨e, hw, hq, fun hx => hn fun i hi x hxi => hx x (List.mem_of_getElem? hxi)⟩
  · refine .inr ⟨hw, fun x hx => ?_⟩
    obtain ⟨i, hi, rfl⟩ := List.getElem_of_mem hx
    exact hall i hi _ (List.getElem?_eq_getElem hi)
/-! ### Registers and their types -/
def hasR (f : ny) (r : Int) : Prop := 0 ≤ r ∧ r < (f.regs.length : Int)
instance (f : ny) (r : Int) : Decidable (hasR f r) := by unfold hasR; infer_instance
def tyR (f : ny) (r t : Int) : Prop := idx f.regs r = some t
instance (f : ny) (r t : Int) : Decidable (tyR f r t) := by unfold tyR; infer_instance
theorem hasR.get {f : ny} {r : Int} (h : hasR f r) : ∃ k : Nat, r = k ∧ ∃ hk : k < f.regs.length, idx f.regs r = some f.regs[k] := by
  obtain ⟨h1, h2⟩ := h
  refine ⟨r.toNat, by omega, by omega, ?_⟩
  simp only [idx, if_pos h1]
  exact List.getElem?_eq_getElem _
theorem tyR.has {f : ny} {r t : Int} (h : tyR f r t) : hasR f r := by
  obtain ⟨h1, h2, _⟩ := oM h
  exact ⟨h1, by omega⟩
theorem sV (l : oh) (rs : List Int) (hl : rs.length ≤ maxLen) : qg l rs = some (decide (∀ r ∈ rs, hasR l.f r)) := by
  unfold qg rF pN
  rcases qr rs hl (fun r => hasR l.f r) (fun e : Int => 0 ≤ e) (fun s => pN.bd8 rs l s) (fun i hi => by
    simp only [pN.bd8, nP, hi, if_true, nJ hi, Option.bind_some, rE, pn hi hl]
    by_cases hc : rs[i] < 0 ∨ rs[i] ≥ len l.f.regs
    · refine .inl ⟨_, by rw [if_pos (by simpa using hc)], by omega, fun hh => ?_⟩
      obtain ⟨g1, g2⟩ := hh
      simp only [len] at hc; omega
    · refine .inr ⟨by rw [if_neg (by simpa using hc)], ?_⟩
      simp only [not_or, len] at hc
      exact ⟨by omega, by omega⟩) (by simp [pN.bd8, len]) with ⟨e, hw, he, hn⟩ | ⟨hw, hall⟩
  · rw [hw]
    simp only [Option.bind_some]
    rw [decide_eq_false hn]
    simp [he]
  · rw [hw]
    simp only [Option.bind_some, pN.nx8]
    rw [decide_eq_true hall]
    rfl
theorem rn (l : oh) (t : Int) (rs : List Int) (hl : rs.length ≤ maxLen) (hh : ∀ r ∈ rs, hasR l.f r) : pA l t rs = some (decide (∀ r ∈ rs, tyR l.f r t)) := by
  unfold pA rI pO
  rcases qr rs hl (fun r => tyR l.f r t) (fun e : Int => 0 ≤ e) (fun s => pO.bd8 rs l t s) (fun i hi => by
    obtain ⟨k, hk, hkl, hg⟩ := (hh _ (List.getElem_mem hi)).get
    simp only [pO.bd8, nP, hi, if_true, nJ hi, Option.bind_some, rH, hg, pn hi hl]
    by_cases hc : l.f.regs[k] = t
    · exact .inr ⟨by simp [hc], by unfold tyR; rw [hg, hc]⟩
    · refine .inl ⟨_, by simp [hc]; rfl, by omega, fun h => ?_⟩
      unfold tyR at h; rw [hg] at h; exact hc (Option.some.inj h)) (by simp [pO.bd8, len]) with ⟨e, hw, he, hn⟩ | ⟨hw, hall⟩
  · rw [hw]
    simp only [Option.bind_some]
    rw [decide_eq_false hn]
    simp [he]
  · rw [hw]
    simp only [Option.bind_some, pO.nx8]
    rw [decide_eq_true hall]
    rfl
theorem uG : (1 : Nat) ≤ maxLen := by simp only [maxLen]; omega
theorem has1 (l : oh) (r : Int) : qg l [r] = some (decide (hasR l.f r)) := by
  rw [sV l [r] uG]; congr 1; simp
theorem are1 (l : oh) (t r : Int) (h : hasR l.f r) : pA l t [r] = some (decide (tyR l.f r t)) := by
  rw [rn l t [r] uG (by simpa using h)]; congr 1; simp
/-! ### What is told -/
def Says (o : Option GErr) (P : Prop) : Prop := ∃ e, o = some e ∧ (e = GErr.no ↔ P)
theorem Says.no {P : Prop} (h : P) : Says (some GErr.no) P := ⟨_, rfl, by simp [h]⟩
theorem Says.code {P : Prop} {c : Int} (h : ¬ P) : Says (some (GErr.code c)) P := ⟨_, rfl, by simp [h]⟩
structure PhiOk (f : ny) (p : PPhi) : Prop where
  dst : hasR f p.dst
  args : ∀ a ∈ p.args, hasR f a
  same : ∀ a ∈ p.args, idx f.regs a = idx f.regs p.dst
theorem x5 (l : oh) (p : PPhi) (hl : p.args.length ≤ maxLen) : Says (q6 l p) (PhiOk l.f p) := by
  unfold q6
  rw [has1]
  simp only [Option.bind_some]
  by_cases h1 : hasR l.f p.dst
  · rw [if_neg (by simp [h1]), sV l _ hl]
    simp only [Option.bind_some]
    by_cases h2 : ∀ a ∈ p.args, hasR l.f a
    · rw [decide_eq_true h2, if_neg (by simp)]
      obtain ⟨k, hk, hkl, hg⟩ := h1.get
      rw [hg]
      simp only [Option.bind_some]
      rw [rn l _ _ hl h2]
      simp only [Option.bind_some]
      by_cases h3 : ∀ r ∈ p.args, tyR l.f r l.f.regs[k]
      · rw [decide_eq_true h3, if_neg (by simp)]
        exact .no ⟨h1, h2, fun a ha => by rw [hg]; exact h3 a ha⟩
      · rw [decide_eq_false h3, if_pos (by simp)]
        exact .code fun h => h3 fun r hr => by unfold tyR; rw [h.same r hr, hg]
    · rw [decide_eq_false h2, if_pos (by simp)]
      exact .code fun h => h2 h.args
  · rw [if_pos (by simp [h1])]
    simp only [Option.bind_some, if_true]
    exact .code fun h => h1 h.dst
/-! ### Instructions -/
def arF (m : nR) (x : nL) : Option (Int × Int) :=
  if x.op = 2 ∨ x.op = 14 then some (1, 1) else if x.op ≥ 3 ∧ x.op ≤ 13 then some (2, 1) else if x.op = 1 then some (0, 1) else if x.op = 15 then some (1, 1) else
  if x.op = 18 then some (1, 0) else if x.op = 16 then some (2, 0) else if x.op = 17 then (idx m.funcs x.fn).map (fun g => (g.params, g.result)) else none
theorem x6 (l : oh) (x : nL) : (∃ n t, arF l.m x = some (n, t) ∧ qM l x = some (n, t, GErr.no)) ∨ (arF l.m x = none ∧ ∃ n t c, qM l x = some (n, t, GErr.code c)) := by
  unfold qM arF qk
  by_cases h1 : x.op = 2 ∨ x.op = 14
  · rw [if_pos h1, if_pos h1]; exact .inl ⟨1, 1, rfl, rfl⟩
  rw [if_neg h1, if_neg h1]
  by_cases h2 : x.op ≥ 3 ∧ x.op ≤ 13
  · rw [if_pos h2, if_pos h2]; exact .inl ⟨2, 1, rfl, rfl⟩
  rw [if_neg h2, if_neg h2]
  simp only [Option.bind_some, Bool.false_eq_true, if_false]
  by_cases h3 : x.op = 1
  · rw [if_pos h3, if_pos h3]; exact .inl ⟨0, 1, rfl, rfl⟩
  rw [if_neg h3, if_neg h3]
  by_cases h4 : x.op = 15
  · rw [if_pos h4, if_pos h4]; exact .inl ⟨1, 1, rfl, rfl⟩
  rw [if_neg h4, if_neg h4]
  by_cases h5 : x.op = 18
  · rw [if_pos h5, if_pos h5]; exact .inl ⟨1, 0, rfl, rfl⟩
  rw [if_neg h5, if_neg h5]
  by_cases h6 : x.op = 16
  · rw [if_pos h6, if_pos h6]; exact .inl ⟨2, 0, rfl, rfl⟩
  rw [if_neg h6, if_neg h6]
  by_cases h7 : x.op = 17
  · rw [if_pos h7, if_pos h7]
    by_cases h8 : x.fn < 0 ∨ x.fn ≥ len l.m.funcs
    · rw [if_pos h8]
      refine .inr ⟨?_, 0, 0, 4, rfl⟩
      cases hx : idx l.m.funcs x.fn with
      | none => rfl
      | some g =>
        obtain ⟨g1, g2, _⟩ := oM hx
        simp only [len] at h8; omega
    · rw [if_neg h8]
      simp only [not_or, len] at h8
      obtain ⟨k, hk⟩ : ∃ k : Nat, x.fn = k := ⟨x.fn.toNat, by omega⟩
      rw [hk, nJ (show k < l.m.funcs.length by omega)]
      exact .inl ⟨_, _, rfl, rfl⟩
  rw [if_neg h7, if_neg h7]
  exact .inr ⟨rfl, 0, 0, 6, rfl⟩
structure CallOk (m : nR) (f : ny) (x : nL) (g : ny) : Prop where
  fn : idx m.funcs x.fn = some g
  nn : 0 ≤ g.params
  le : g.params ≤ (g.regs.length : Int)
  args : ∀ i (hi : i < x.args.length), ∃ t, idx g.regs (i : Int) = some t ∧ tyR f x.args[i] t
  res : g.result = 0 ∨ tyR f x.dst g.result
def FitsOk (m : nR) (f : ny) (x : nL) : Prop :=
  if x.op = 1 then tyR f x.dst 1 ∨ x.imm = 0 ∨ x.imm = 1
  else if x.op = 2 then ∃ a, idx x.args 0 = some a ∧ idx f.regs x.dst = idx f.regs a
  else if x.op = 12 ∨ x.op = 13 then (∀ a ∈ x.args, tyR f a 1) ∧ tyR f x.dst 2
  else if x.op = 14 then (∃ a, idx x.args 0 = some a ∧ tyR f a 2) ∧ tyR f x.dst 2
  else if x.op = 18 ∨ x.op = 16 then ∀ a ∈ x.args, tyR f a 1
  else if x.op = 17 then ∃ g, CallOk m f x g
  else (∀ a ∈ x.args, tyR f a 1) ∧ tyR f x.dst 1
structure InstrOk (m : nR) (f : ny) (x : nL) (n t : Int) : Prop where
  ar : arF m x = some (n, t)
  len : (x.args.length : Int) = n
  args : ∀ a ∈ x.args, hasR f a
  dst : t ≠ 0 → hasR f x.dst
  none : t = 0 → x.dst = -1
  imm : x.op ≠ 1 → x.imm = 0
  fn : x.op ≠ 17 → x.fn = 0
  fits : FitsOk m f x
theorem x7 (l : oh) (x : nL) (g : ny) (hl : x.args.length ≤ 300) (hg : idx l.m.funcs x.fn = some g) (hn : (x.args.length : Int) = g.params) (hargs : ∀ a ∈ x.args, hasR l.f a) (hdst : g.result ≠ 0 → hasR l.f x.dst) :
    ∃ b : Bool, pH l x = some b ∧ (b = true ↔ CallOk l.m l.f x g) := by
  unfold pH
  rw [hg]
  simp only [Option.bind_some]
  by_cases h1 : g.params < 0 ∨ g.params > len g.regs
  · rw [if_pos h1]
    refine ⟨false, rfl, by simp, fun h => ?_⟩
    have := h.nn; have := h.le
    simp only [len] at h1; omega
  rw [if_neg h1]
  simp only [not_or, len] at h1
  rcases sU x.args.length (nO hl (by omega)) (fun i => ∀ a, x.args[i]? = some a → ∃ t, idx g.regs (i : Int) = some t ∧ tyR l.f a t) (fun e : Bool => e = false) (fun s => pH.bd23 l x g s) (fun i hi => by
    have hir : i < g.regs.length := by omega
    simp only [pH.bd23, nP, hi, if_true, nJ hi, nJ hir, Option.bind_some, are1 l _ _ (hargs _ (List.getElem_mem hi)), nQ hi (show x.args.length ≤ 1000 by omega)]
    by_cases hc : tyR l.f x.args[i] g.regs[i]
    · refine .inr ⟨by rw [if_neg (by simp [hc])], fun a ha => ?_⟩
      rw [List.getElem?_eq_getElem hi] at ha; cases ha
      exact ⟨_, rfl, hc⟩
    · refine .inl ⟨false, by rw [if_pos (by simp [hc])], rfl, fun h => ?_⟩
      obtain ⟨t, h1, h2⟩ := h _ (List.getElem?_eq_getElem hi)
      cases h1; exact hc h2) (by simp [pH.bd23, len]) with ⟨e, hw, rfl, hnot⟩ | ⟨hw, hall⟩
  · rw [hw]
    refine ⟨false, rfl, by simp, fun h => (hnot fun i hi a ha => ?_).elim⟩
    obtain ⟨hi', he⟩ := List.getElem?_eq_some_iff.1 ha
    subst he; exact h.args i hi'
  · rw [hw]
    simp only [Option.bind_some, pH.nx23]
    have hargs' : ∀ i (hi : i < x.args.length), ∃ t, idx g.regs (i : Int) = some t ∧ tyR l.f x.args[i] t := fun i hi => hall i hi _ (List.getElem?_eq_getElem hi)
    by_cases h2 : g.result = 0
    · rw [if_pos h2]
      exact ⟨true, rfl, by simp; exact ⟨hg, by omega, by omega, hargs', .inl h2⟩⟩
    · rw [if_neg h2, are1 l _ _ (hdst h2)]
      refine ⟨decide (tyR l.f x.dst g.result), rfl, ?_⟩
      rw [decide_eq_true_eq]
      exact ⟨fun h => ⟨hg, by omega, by omega, hargs', .inr h⟩, fun h => h.res.resolve_left h2⟩
theorem uH (l : oh) (x : nL) (n t : Int) (hl : x.args.length ≤ 300) (har : arF l.m x = some (n, t)) (hn : (x.args.length : Int) = n) (hargs : ∀ a ∈ x.args, hasR l.f a) (hdst : t ≠ 0 → hasR l.f x.dst) :
    ∃ b : Bool, pg l x = some b ∧ (b = true ↔ FitsOk l.m l.f x) := by
  unfold pg FitsOk
  have hmx : x.args.length ≤ maxLen := nO hl (by omega)
  by_cases h1 : x.op = 1
  · rw [if_pos h1, if_pos h1]
    have ht : t = 1 := by simp [arF, h1] at har; omega
    obtain ⟨k, hk, hkl, hg⟩ := (hdst (by omega)).get
    rw [hg]
    refine ⟨_, rfl, ?_⟩
    rw [decide_eq_true_eq, tyR, hg, or_assoc, Option.some.injEq]
  rw [if_neg h1, if_neg h1]
  by_cases h2 : x.op = 2
  · rw [if_pos h2, if_pos h2]
    have htn : n = 1 ∧ t = 1 := by simp [arF, h2] at har; omega
    have h0 : 0 < x.args.length := by omega
    obtain ⟨k, hk, hkl, hg⟩ := (hargs _ (List.getElem_mem h0)).get
    have hi0 : idx x.args 0 = some x.args[0] := nJ h0
    rw [hi0]
    simp only [Option.bind_some, hg, are1 l _ _ (hdst (by omega))]
    refine ⟨_, rfl, ?_⟩
    rw [decide_eq_true_eq]
    refine ⟨fun h => ⟨_, rfl, by rw [hg]; exact h⟩, ?_⟩
    rintro ⟨a, ha, hb⟩
    cases ha
    rw [hg] at hb; exact hb
  rw [if_neg h2, if_neg h2]
  have hj46 : (if x.op = 12 then pg.jn31 l x (decide (x.op = 12)) else pg.jn31 l x (decide (x.op = 13))) = pg.jn31 l x (decide (x.op = 12 ∨ x.op = 13)) := by
    by_cases h : x.op = 12 <;> simp [h]
  rw [hj46]
  unfold pg.jn31
  by_cases h3 : x.op = 12 ∨ x.op = 13
  · rw [decide_eq_true h3, if_pos rfl, if_pos h3, rn l _ _ hmx hargs]
    simp only [Option.bind_some]
    have ht : t = 1 := by
      have : x.op ≥ 3 ∧ x.op ≤ 13 := by omega
      have h14 : ¬ (x.op = 2 ∨ x.op = 14) := by omega
      simp only [arF, if_neg h14, if_pos this, Option.some.injEq, Prod.mk.injEq] at har
      omega
    by_cases h4 : ∀ r ∈ x.args, tyR l.f r 1
    · rw [decide_eq_true h4, if_pos rfl, are1 l _ _ (hdst (by omega))]
      refine ⟨_, rfl, ?_⟩
      rw [decide_eq_true_eq]
      exact ⟨fun h => ⟨h4, h⟩, fun h => h.2⟩
    · rw [decide_eq_false h4, if_neg (by simp)]
      exact ⟨false, rfl, by simp, fun h => (h4 h.1).elim⟩
  rw [decide_eq_false h3, if_neg (by simp), if_neg h3]
  by_cases h4 : x.op = 14
  · rw [if_pos h4, if_pos h4]
    have htn : n = 1 ∧ t = 1 := by simp [arF, h4] at har; omega
    have h0 : 0 < x.args.length := by omega
    have hi0 : idx x.args 0 = some x.args[0] := nJ h0
    have ha0 := hargs _ (List.getElem_mem h0)
    have hd0 := hdst (by omega)
    rw [hi0]
    simp only [Option.bind_some]
    rw [rn l _ [x.args[0], x.dst] (nO (show ([x.args[0], x.dst] : List Int).length ≤ 2 by simp) (by omega)) (by simp; exact ⟨ha0, hd0⟩)]
    refine ⟨_, rfl, ?_⟩
    rw [decide_eq_true_eq]
    simp only [List.mem_cons, List.not_mem_nil, or_false, forall_eq_or_imp, forall_eq]
    exact ⟨fun h => ⟨⟨_, rfl, h.1⟩, h.2⟩, fun ⟨⟨a, ha, hb⟩, hc⟩ => by cases ha; exact ⟨hb, hc⟩⟩
  rw [if_neg h4, if_neg h4]
  have hj80 : (if x.op = 18 then pg.jn56 l x (decide (x.op = 18)) else pg.jn56 l x (decide (x.op = 16))) = pg.jn56 l x (decide (x.op = 18 ∨ x.op = 16)) := by
    by_cases h : x.op = 18 <;> simp [h]
  rw [hj80]
  unfold pg.jn56
  by_cases h5 : x.op = 18 ∨ x.op = 16
  · rw [decide_eq_true h5, if_pos rfl, if_pos h5, rn l _ _ hmx hargs]
    exact ⟨_, rfl, by rw [decide_eq_true_eq]⟩
  rw [decide_eq_false h5, if_neg (by simp), if_neg h5]
  by_cases h6 : x.op = 17
  · rw [if_pos h6, if_pos h6]
    have h6a : ¬ (x.op = 2 ∨ x.op = 14) := by omega
    have h6b : ¬ (x.op ≥ 3 ∧ x.op ≤ 13) := by omega
    have har' : (idx l.m.funcs x.fn).map (fun g => (g.params, g.result)) = some (n, t) := by
      simp only [arF, if_neg h6a, if_neg h6b, if_neg h1, if_pos h6] at har
      simpa [show ¬ x.op = 15 by omega, show ¬ x.op = 18 by omega, show ¬ x.op = 16 by omega] using har
    obtain ⟨g, hg, hg2⟩ := Option.map_eq_some_iff.1 har'
    simp only [Prod.mk.injEq] at hg2
    obtain ⟨b, hb1, hb2⟩ := x7 l x g hl hg (by omega) hargs (fun h => hdst (by omega))
    rw [hb1]
    refine ⟨b, rfl, hb2.trans ⟨fun h => ⟨g, h⟩, fun ⟨g', h⟩ => ?_⟩⟩
    have := h.fn
    rw [hg] at this; cases this; exact h
  rw [if_neg h6, if_neg h6, rn l _ _ hmx hargs]
  simp only [Option.bind_some]
  have ht : t = 1 := by
    unfold arF at har
    by_cases c1 : x.op ≥ 3 ∧ x.op ≤ 13
    · have h14 : ¬ (x.op = 2 ∨ x.op = 14) := by omega
      simp only [if_neg h14, if_pos c1, Option.some.injEq, Prod.mk.injEq] at har; omega
    · have h14 : ¬ (x.op = 2 ∨ x.op = 14) := by omega
      simp only [if_neg h14, if_neg c1, if_neg h1, if_neg h6] at har
      by_cases c2 : x.op = 15
      · simp only [if_pos c2, Option.some.injEq, Prod.mk.injEq] at har; omega
      · simp [c2, show ¬ x.op = 18 by omega, show ¬ x.op = 16 by omega] at har
  by_cases h7 : ∀ r ∈ x.args, tyR l.f r 1
  · rw [decide_eq_true h7, if_pos rfl, are1 l _ _ (hdst (by omega))]
    refine ⟨_, rfl, ?_⟩
    rw [decide_eq_true_eq]
    exact ⟨fun h => ⟨h7, h⟩, fun h => h.2⟩
  · rw [decide_eq_false h7, if_neg (by simp)]
    exact ⟨false, rfl, by simp, fun h => (h7 h.1).elim⟩
theorem x8 (l : oh) (x : nL) (hl : x.args.length ≤ 300) : Says (q7 l x) (∃ n t, InstrOk l.m l.f x n t) := by
  unfold q7
  have hmx : x.args.length ≤ maxLen := nO hl (by omega)
  rcases x6 l x with ⟨n, t, ha, hc⟩ | ⟨ha, n, t, c, hc⟩
  · rw [hc]
    simp only [Option.bind_some]
    rw [if_neg (by simp)]
    by_cases h1 : (x.args.length : Int) = n
    · rw [if_neg (by simp only [len]; omega), sV l _ hmx]
      simp only [Option.bind_some]
      by_cases h2 : ∀ r ∈ x.args, hasR l.f r
      · rw [decide_eq_true h2, if_neg (by simp)]
        by_cases h3 : t = 0
        · rw [if_neg (by simpa using h3)]
          simp only [Option.bind_some, Bool.false_eq_true, if_false]
          by_cases h4 : ((t = 0 ∧ ¬ x.dst = -1) ∨ (¬ x.op = 1 ∧ ¬ x.imm = 0)) ∨ (¬ x.op = 17 ∧ ¬ x.fn = 0)
          · rw [if_pos h4]
            simp only [Option.bind_some, if_true]
            refine .code ?_
            rintro ⟨n', t', h⟩
            have h5 := h.ar
            rw [ha] at h5
            simp only [Option.some.injEq, Prod.mk.injEq] at h5
            have := h.none; have := h.imm; have := h.fn
            omega
          · rw [if_neg h4]
            obtain ⟨b, hb1, hb2⟩ := uH l x n t hl ha h1 h2 (fun h => absurd h3 h)
            rw [hb1]
            simp only [Option.bind_some]
            cases b with
            | true =>
              simp only [Bool.not_true, Bool.false_eq_true, if_false]
              exact .no ⟨n, t, ha, h1, h2, fun h => absurd h3 h, fun _ => by omega, fun h => by omega, fun h => by omega, hb2.1 rfl⟩
            | false =>
              simp only [Bool.not_false, if_true]
              exact .code fun ⟨n', t', h⟩ => by simpa using hb2.2 h.fits
        · rw [if_pos (by simpa using h3), has1]
          simp only [Option.bind_some]
          by_cases h3' : hasR l.f x.dst
          · rw [decide_eq_true h3']
            simp only [Bool.not_true, Bool.false_eq_true, if_false]
            by_cases h4 : ((t = 0 ∧ ¬ x.dst = -1) ∨ (¬ x.op = 1 ∧ ¬ x.imm = 0)) ∨ (¬ x.op = 17 ∧ ¬ x.fn = 0)
            · rw [if_pos h4]
              simp only [Option.bind_some, if_true]
              refine .code ?_
              rintro ⟨n', t', h⟩
              have h5 := h.ar
              rw [ha] at h5
              simp only [Option.some.injEq, Prod.mk.injEq] at h5
              have := h.none; have := h.imm; have := h.fn
              omega
            · rw [if_neg h4]
              obtain ⟨b, hb1, hb2⟩ := uH l x n t hl ha h1 h2 (fun _ => h3')
              rw [hb1]
              simp only [Option.bind_some]
              cases b with
              | true =>
                simp only [Bool.not_true, Bool.false_eq_true, if_false]
                exact .no ⟨n, t, ha, h1, h2, fun _ => h3', fun h => absurd h h3, fun h => by omega, fun h => by omega, hb2.1 rfl⟩
              | false =>
                simp only [Bool.not_false, if_true]
                exact .code fun ⟨n', t', h⟩ => by simpa using hb2.2 h.fits
          · rw [decide_eq_false h3']
            simp only [Bool.not_false, if_true]
            refine .code ?_
            rintro ⟨n', t', h⟩
            have h5 := h.ar
            rw [ha] at h5
            simp only [Option.some.injEq, Prod.mk.injEq] at h5
            exact h3' (h.dst (by omega))
      · rw [decide_eq_false h2]
        simp only [Bool.not_false, if_true, Option.bind_some]
        exact .code fun ⟨n', t', h⟩ => h2 h.args
    · rw [if_pos (by simp only [len]; omega)]
      refine .code ?_
      rintro ⟨n', t', h⟩
      have h5 := h.ar
      rw [ha] at h5
      simp only [Option.some.injEq, Prod.mk.injEq] at h5
      have := h.len
      omega
  · rw [hc]
    simp only [Option.bind_some]
    rw [if_pos (by simp)]
    refine .code ?_
    rintro ⟨n', t', h⟩
    have h5 := h.ar
    rw [ha] at h5; cases h5
/-! ### Ends, blocks -/
def EndOk (f : ny) (t : PTerm) : Prop :=
  if t.kind = 1 ∨ (t.kind = 3 ∧ f.result = 0) then t.arg = -1 else tyR f t.arg (if t.kind = 3 then f.result else 2)
theorem x9 (l : oh) (t : PTerm) : Says (pX l t) (EndOk l.f t) := by
  unfold pX EndOk
  by_cases h1 : t.kind = 1 ∨ (t.kind = 3 ∧ l.f.result = 0)
  · rw [if_pos h1, if_pos h1]
    by_cases h2 : t.arg = -1
    · rw [if_neg (by simpa using h2)]; exact .no h2
    · rw [if_pos h2]; exact .code h2
  rw [if_neg h1, if_neg h1]
  have hj : (if t.kind = 3 then pX.jn15 l t l.f.result else pX.jn15 l t 2) = pX.jn15 l t (if t.kind = 3 then l.f.result else 2) := by split <;> rfl
  rw [hj]
  generalize (if t.kind = 3 then l.f.result else 2) = w
  unfold pX.jn15
  rw [has1]
  simp only [Option.bind_some]
  by_cases h2 : hasR l.f t.arg
  · rw [decide_eq_true h2, if_neg (by simp), are1 l _ _ h2]
    simp only [Option.bind_some]
    by_cases h3 : tyR l.f t.arg w
    · rw [decide_eq_true h3, if_neg (by simp)]; exact .no h3
    · rw [decide_eq_false h3, if_pos (by simp)]; exact .code h3
  · rw [decide_eq_false h2, if_pos (by simp)]
    exact .code fun h => h2 h.has
structure BlockOk (m : nR) (f : ny) (B : nA) : Prop where
  phis : ∀ p ∈ B.phis, PhiOk f p
  ins : ∀ x ∈ B.ins, ∃ n t, InstrOk m f x n t
  term : EndOk f B.term
theorem ya (l : oh) (B : nA) (hB : SmB B) : Says (o0 l B) (BlockOk l.m l.f B) := by
  obtain ⟨b1, b2, b3, b4, b5⟩ := hB
  unfold o0
  rcases qr B.phis (nO b2 (by omega)) (fun p => PhiOk l.f p) (fun e : GErr => e ≠ .no) (fun s => o0.bd8 l B s) (fun i hi => by
    obtain ⟨e, he1, he2⟩ := x5 l B.phis[i] (nO (b5 _ (List.getElem_mem hi)) (by omega))
    simp only [o0.bd8, nP, hi, if_true, nJ hi, Option.bind_some, he1, nQ hi (show B.phis.length ≤ 1000 by omega)]
    by_cases h : e = GErr.no
    · exact .inr ⟨by rw [if_neg (by simpa using h)], he2.1 h⟩
    · exact .inl ⟨e, by rw [if_pos h], h, fun hp => h (he2.2 hp)⟩) (by simp [o0.bd8, len]) with ⟨e, hw, he, hn⟩ | ⟨hw, hall⟩
  · rw [hw]
    exact ⟨e, rfl, fun h => absurd h he, fun h => (hn h.phis).elim⟩
  rw [hw]
  simp only [Option.bind_some, o0.nx8]
  rcases qr B.ins (nO b1 (by omega)) (fun x => ∃ n t, InstrOk l.m l.f x n t) (fun e : GErr => e ≠ .no) (fun s => o0.bd17 l B s) (fun i hi => by
    obtain ⟨e, he1, he2⟩ := x8 l B.ins[i] (b4 _ (List.getElem_mem hi))
    simp only [o0.bd17, nP, hi, if_true, nJ hi, Option.bind_some, he1, nQ hi (show B.ins.length ≤ 1000 by omega)]
    by_cases h : e = GErr.no
    · exact .inr ⟨by rw [if_neg (by simpa using h)], he2.1 h⟩
    · exact .inl ⟨e, by rw [if_pos h], h, fun hp => h (he2.2 hp)⟩) (by simp [o0.bd17, len]) with ⟨e, hw2, he, hn⟩ | ⟨hw2, hall2⟩
  · rw [hw2]
    exact ⟨e, rfl, fun h => absurd h he, fun h => (hn h.ins).elim⟩
  rw [hw2]
  simp only [Option.bind_some, o0.nx17]
  obtain ⟨e, he1, he2⟩ := x9 l B.term
  rw [he1]
  exact ⟨e, rfl, he2.trans ⟨fun h => ⟨hall, hall2, h⟩, fun h => h.term⟩⟩
/-! ### Functions and modules -/
def insCount (f : ny) : Nat := (f.blocks.map fun (B : nA) => B.phis.length + B.ins.length + 1).sum
structure SmallOk (f : ny) : Prop where
  pos : 1 ≤ f.blocks.length
  blocks : f.blocks.length ≤ 64
  regs : f.regs.length ≤ 256
  ins : insCount f ≤ 256
theorem yb (f : ny) (hf : SmF f) (i : Nat) (hi : i ≤ f.blocks.length) : ((f.blocks.take i).map fun (B : nA) => B.phis.length + B.ins.length + 1).sum ≤ 601 * i := by
  induction i with
  | zero => simp
  | succ i ih =>
    have hi' : i < f.blocks.length := by omega
    obtain ⟨b1, b2, _⟩ := hf.2.2.2 _ (List.getElem_mem hi')
    have := ih (by omega)
    rw [List.take_succ_eq_append_getElem hi', List.map_append, List.sum_append]
    simp only [List.map_cons, List.map_nil, List.sum_cons, List.sum_nil]
    omega
theorem yc (f : ny) (hf : SmF f) : ∃ b : Bool, pE f = some b ∧ (b = true ↔ SmallOk f) := by
  unfold pE
  have hrun := pf (body := fun (s : (Int × Int)) => pE.bd8 f s.1 s.2) (r := ((insCount f : Nat) : Int)) f.blocks.length nD
    (fun i => ((((f.blocks.take i).map fun (B : nA) => B.phis.length + B.ins.length + 1).sum : Nat), (i : Int))) (fun i hi => by
      obtain ⟨b1, b2, _⟩ := hf.2.2.2 _ (List.getElem_mem hi)
      have hs := yb f hf i (by omega)
      have hn := hf.1
      simp only [pE.bd8, nP, hi, if_true, nJ hi, Option.bind_some, nQ hi (show f.blocks.length ≤ 1000 by omega), len]
      rw [List.take_succ_eq_append_getElem hi, List.map_append, List.sum_append]
      simp only [List.map_cons, List.map_nil, List.sum_cons, List.sum_nil]
      rw [qa (x := (f.blocks[i].phis.length : Int) + f.blocks[i].ins.length) ⟨by omega, by omega⟩, qa (x := (f.blocks[i].phis.length : Int) + f.blocks[i].ins.length + 1) ⟨by omega, by omega⟩, qa ⟨by omega, by omega⟩]
      congr 3) (by simp [pE.bd8, len, insCount]) (oW (nO hf.1 (by omega)))
  simp only [List.take_zero, List.map_nil, List.sum_nil] at hrun
  have h00 : (((0 : Nat) : Int), ((0 : Nat) : Int)) = ((0 : Int), (0 : Int)) := rfl
  rw [h00] at hrun
  rw [hrun]
  simp only [Option.bind_some, pE.nx8]
  refine ⟨_, rfl, ?_⟩
  rw [decide_eq_true_eq]
  simp only [len]
  exact ⟨fun h => ⟨by omega, by omega, by omega, by omega⟩, fun h => by have := h.pos; have := h.blocks; have := h.regs; have := h.ins; omega⟩
structure TypedOk (f : ny) : Prop where
  regs : ∀ t ∈ f.regs, t = 1 ∨ t = 2
  nn : 0 ≤ f.params
  few : f.params ≤ 8
  le : f.params ≤ (f.regs.length : Int)
  res : f.result = 0 ∨ f.result = 1 ∨ f.result = 2
theorem yd (f : ny) (hf : SmF f) : ∃ b : Bool, qZ f = some b ∧ (b = true ↔ TypedOk f) := by
  unfold qZ rD pM
  have hl : f.regs.length ≤ maxLen := nO hf.2.1 (by omega)
  rcases qr f.regs hl (fun t => t = 1 ∨ t = 2) (fun e : Int => 0 ≤ e) (fun s => pM.bd8 f.regs s) (fun i hi => by
    simp only [pM.bd8, nP, hi, if_true, nJ hi, Option.bind_some, rC, qY, pn hi hl]
    by_cases hc : f.regs[i] = 1 ∨ f.regs[i] = 2
    · exact .inr ⟨by rw [if_neg (by simp [hc])], hc⟩
    · exact .inl ⟨_, by rw [if_pos (by simp [hc])], by omega, hc⟩) (by simp [pM.bd8, len]) with ⟨e, hw, he, hn⟩ | ⟨hw, hall⟩
  · rw [hw]
    simp only [Option.bind_some]
    rw [if_neg (by simp [he])]
    exact ⟨false, rfl, by simp, fun h => (hn h.regs).elim⟩
  rw [hw]
  simp only [Option.bind_some, pM.nx8, len]
  by_cases h1 : 0 ≤ f.params ∧ f.params ≤ 8 ∧ f.params ≤ (f.regs.length : Int)
  · rw [if_pos ⟨⟨⟨by simp, h1.1⟩, h1.2.1⟩, h1.2.2⟩]
    by_cases h2 : f.result = 0
    · rw [if_pos h2]
      exact ⟨true, rfl, by simp; exact ⟨hall, h1.1, h1.2.1, h1.2.2, .inl h2⟩⟩
    · rw [if_neg h2]
      refine ⟨_, rfl, ?_⟩
      rw [decide_eq_true_eq]
      exact ⟨fun h => ⟨hall, h1.1, h1.2.1, h1.2.2, .inr h⟩, fun h => h.res.resolve_left h2⟩
  · rw [if_neg (fun h => h1 ⟨h.1.1.2, h.1.2, h.2⟩)]
    exact ⟨false, rfl, by simp, fun h => (h1 ⟨h.nn, h.few, h.le⟩).elim⟩
structure EndsOk (f : ny) (t : PTerm) : Prop where
  to : ∀ x ∈ t.to, 1 ≤ x ∧ x < (f.blocks.length : Int)
  kind : (t.kind = 1 ∧ ∃ a, t.to = [a]) ∨ (t.kind = 2 ∧ ∃ a b, t.to = [a, b] ∧ a ≠ b) ∨ (t.kind = 3 ∧ t.to = [])
theorem ye (f : ny) (t : PTerm) (hl : t.to.length ≤ 70) : ∃ b : Bool, pG f t = some b ∧ (b = true ↔ EndsOk f t) := by
  unfold pG
  rcases qr t.to (nO hl (by omega)) (fun x => 1 ≤ x ∧ x < (f.blocks.length : Int)) (fun e : Bool => e = false) (fun s => pG.bd8 f t s) (fun i hi => by
    simp only [pG.bd8, nP, hi, if_true, nJ hi, Option.bind_some, nQ hi (show t.to.length ≤ 1000 by omega)]
    by_cases hc : t.to[i] < 1 ∨ t.to[i] ≥ len f.blocks
    · exact .inl ⟨false, by rw [if_pos hc], rfl, fun h => by simp only [len] at hc; omega⟩
    · exact .inr ⟨by rw [if_neg hc], by simp only [len] at hc; omega⟩) (by simp [pG.bd8, len]) with ⟨e, hw, rfl, hn⟩ | ⟨hw, hall⟩
  · rw [hw]
    exact ⟨false, rfl, by simp, fun h => (hn h.to).elim⟩
  rw [hw]
  simp only [Option.bind_some, pG.nx8]
  by_cases h1 : t.kind = 1
  · rw [if_pos h1]
    refine ⟨_, rfl, ?_⟩
    rw [decide_eq_true_eq]
    constructor
    · intro h
      have : t.to.length = 1 := by simp only [len] at h; omega
      exact ⟨hall, .inl ⟨h1, List.length_eq_one_iff.1 this⟩⟩
    · intro h
      rcases h.kind with ⟨_, a, ha⟩ | ⟨h, _⟩ | ⟨h, _⟩
      · rw [ha]; rfl
      · omega
      · omega
  rw [if_neg h1]
  by_cases h2 : t.kind = 2
  · rw [if_pos h2]
    by_cases h3 : len t.to = 2
    · rw [if_pos h3]
      have hl2 : t.to.length = 2 := by simp only [len] at h3; omega
      obtain ⟨a, b, hab⟩ := len2 hl2
      rw [hab]
      refine ⟨decide (¬ a = b), by simp [idx], ?_⟩
      rw [decide_eq_true_eq]
      constructor
      · intro h; exact ⟨hall, .inr (.inl ⟨h2, a, b, hab, h⟩)⟩
      · intro h
        rcases h.kind with ⟨h, _⟩ | ⟨_, a', b', h', hne⟩ | ⟨h, _⟩
        · omega
        · rw [hab] at h'; cases h'; exact hne
        · omega
    · rw [if_neg h3]
      refine ⟨false, rfl, by simp, fun h => ?_⟩
      rcases h.kind with ⟨h, _⟩ | ⟨_, a', b', h', _⟩ | ⟨h, _⟩
      · omega
      · rw [h'] at h3; exact absurd rfl h3
      · omega
  rw [if_neg h2]
  refine ⟨_, rfl, ?_⟩
  rw [decide_eq_true_eq]
  constructor
  · intro h
    have : t.to.length = 0 := by have := h.2; simp only [len] at this; omega
    exact ⟨hall, .inr (.inr ⟨h.1, List.eq_nil_of_length_eq_zero this⟩)⟩
  · intro h
    rcases h.kind with ⟨h, _⟩ | ⟨h, _⟩ | ⟨h, hn⟩
    · omega
    · omega
    · exact ⟨h, by rw [hn]; rfl⟩
theorem uI (nx : List (List Int)) (t : Nat) : (ot nx t).length ≤ nx.length := by
  have h1 : ((List.range nx.length).filter fun j => decide ((t : Int) ∈ nx.getD j [])).length ≤ (List.range nx.length).length := List.length_filter_le _ _
  rw [List.length_range] at h1
  unfold ot
  rw [List.length_map]; exact h1
theorem rV (f : ny) (hf : SmF f) : oF f = some (n6 (nI f)) := by
  obtain ⟨hn, _, _, hB⟩ := hf
  have hnl := oP f
  unfold oF
  rw [show mkl (len f.blocks) ([] : List Int) = some (List.replicate f.blocks.length []) from qQ (n := f.blocks.length) [] hn]
  simp only [Option.bind_some]
  have hrun := pf (body := fun (s : List (List Int) × Int) => oF.bd9 f s.1 s.2) (r := oq (nI f) (nI f).length []) f.blocks.length nD
    (fun i => (oq (nI f) i [], (i : Int))) (fun i hi => by
      have hb3 := (hB _ (List.getElem_mem hi)).2.2.1
      simp only [oF.bd9, nP, hi, if_true, nJ hi, Option.bind_some]
      have hin := pf (body := fun (s : List (List Int) × Int) => oF.bd24 (i : Int) f.blocks[i] s.1 s.2) (r := oq (nI f) i f.blocks[i].term.to) f.blocks[i].term.to.length nD
        (fun k => (oq (nI f) i (f.blocks[i].term.to.take k), (k : Int))) (fun k hk => by
          have hal : (oq (nI f) i (f.blocks[i].term.to.take k)).length = f.blocks.length := by simp [oq, hnl]
          simp only [oF.bd24, nP, hk, if_true, nJ hk, Option.bind_some]
          rw [List.take_succ_eq_append_getElem hk]
          generalize f.blocks[i].term.to[k] = x
          generalize f.blocks[i].term.to.take k = part at hal ⊢
          have same : ∀ t, t < (nI f).length → ((t : Int) = x → (t : Int) ∈ part) → predsTo (nI f) i (part ++ [x]) t = predsTo (nI f) i part t := by
            intro t _ h
            unfold predsTo
            have : ((t : Int) ∈ part ++ [x]) ↔ (t : Int) ∈ part := by
              simp only [List.mem_append, List.mem_singleton]
              exact ⟨fun h' => h'.elim id h, .inl⟩
            simp only [this]
          by_cases h1 : x ≥ 0 ∧ x < len (oq (nI f) i part)
          · rw [if_pos h1]
            obtain ⟨q, rfl⟩ : ∃ q : Nat, x = (q : Int) := ⟨x.toNat, by omega⟩
            have hql : q < (nI f).length := by simp only [len] at h1; omega
            have hidx : idx (oq (nI f) i part) ((q : Nat) : Int) = some (predsTo (nI f) i part q) := by
              rw [oz]; simp [oq, hql]
            have hlen := uq (nI f) i part q
            rw [hidx]
            simp only [Option.bind_some]
            rw [sQ _ _ (nO (show (predsTo (nI f) i part q).length ≤ 100 by omega) (by omega))]
            simp only [Option.bind_some]
            have hmem : (i : Int) ∈ predsTo (nI f) i part q ↔ (q : Int) ∈ part := by
              unfold predsTo
              simp only [List.mem_append, List.mem_map, List.mem_filter, List.mem_range]
              constructor
              · rintro (⟨j, ⟨hj, _⟩, he⟩ | h)
                · omega
                · split at h
                  · assumption
                  · simp at h
              · intro h; exact .inr (by rw [if_pos h]; simp)
            by_cases h2 : (q : Int) ∈ part
            · rw [decide_eq_true (hmem.2 h2)]
              simp only [Bool.not_true, Bool.false_eq_true, if_false, oF.jn34, nQ hk (show f.blocks[i].term.to.length ≤ 1000 by omega)]
              have : oq (nI f) i part = oq (nI f) i (part ++ [(q : Int)]) := by
                unfold oq
                exact List.map_congr_left fun t ht => (same t (List.mem_range.1 ht) (fun h => by rw [h]; exact h2)).symm
              rw [this]
            · rw [decide_eq_false (fun h => h2 (hmem.1 h))]
              simp only [Bool.not_false, if_true, oH (show (predsTo (nI f) i part q).length ≤ 1000 by omega), Option.bind_some, oF.jn34, nQ hk (show f.blocks[i].term.to.length ≤ 1000 by omega), Int.toNat_natCast]
              have : (oq (nI f) i part).set q (predsTo (nI f) i part q ++ [(i : Int)]) = oq (nI f) i (part ++ [(q : Int)]) := by
                apply List.ext_getElem (by simp [oq])
                intro t g1 g2
                have ht : t < (nI f).length := by simpa only [oq, List.length_map, List.length_range] using g2
                rw [List.getElem_set]
                simp only [oq, List.getElem_map, List.getElem_range]
                by_cases hqt : q = t
                · subst hqt
                  rw [if_pos rfl]
                  simp [predsTo, h2]
                · rw [if_neg hqt]
                  exact (same t ht (fun h => absurd (by omega) hqt)).symm
              rw [this]
          · rw [if_neg h1]
            simp only [Option.bind_some, Bool.false_eq_true, if_false, oF.jn34, nQ hk (show f.blocks[i].term.to.length ≤ 1000 by omega)]
            have : oq (nI f) i part = oq (nI f) i (part ++ [x]) := by
              unfold oq
              exact List.map_congr_left fun t ht => (same t (List.mem_range.1 ht) (fun h => by
                exfalso; apply h1
                have := List.mem_range.1 ht
                simp only [len]; omega)).symm
            rw [this]) (by simp [oF.bd24, len]) (oW (nO hb3 (by omega)))
      simp only [List.take_zero] at hin
      have h00 : (oq (nI f) i [], ((0 : Nat) : Int)) = (oq (nI f) i [], (0 : Int)) := rfl
      rw [h00] at hin
      rw [hin]
      simp only [Option.bind_some, oF.nx24, nQ hi (show f.blocks.length ≤ 1000 by omega)]
      have : oq (nI f) i f.blocks[i].term.to = oq (nI f) (i + 1) [] := by
        unfold oq
        apply List.map_congr_left
        intro t ht
        have ht' := List.mem_range.1 ht
        rw [← ur (nI f) i t (by omega)]
        have hg : (nI f).getD i [] = succs f.blocks.length f.blocks[i].term.to := by rw [List.getD_eq_getElem?_getD, qq f i hi]; rfl
        unfold predsTo
        have : ((t : Int) ∈ (nI f).getD i []) ↔ (t : Int) ∈ f.blocks[i].term.to := by
          rw [hg, qR]
          exact ⟨fun h => h.1, fun h => ⟨h, by omega, by omega⟩⟩
        simp only [this]
      rw [this]) (by simp [oF.bd9, len, hnl]) (oW (nO hn (by omega)))
  have h0 : oq (nI f) 0 [] = List.replicate f.blocks.length [] := by
    apply List.ext_getElem (by simp [oq, hnl])
    intro t h1 h2
    simp [oq, predsTo]
  rw [h0] at hrun
  have h00 : (List.replicate f.blocks.length ([] : List Int), ((0 : Nat) : Int)) = (List.replicate f.blocks.length ([] : List Int), (0 : Int)) := rfl
  rw [h00] at hrun
  rw [hrun]
  simp only [Option.bind_some, oF.nx9]
  congr 1
  unfold oq n6
  exact List.map_congr_left fun t _ => us _ t
structure FuncOk (m : nR) (f : ny) : Prop where
  small : SmallOk f
  typed : TypedOk f
  ends : ∀ B ∈ f.blocks, EndsOk f B.term
  ahead : ∀ i (hi : i < f.blocks.length), ∀ p ∈ f.blocks[i].phis, p.args.length = (ot (nI f) i).length
  blocks : ∀ B ∈ f.blocks, BlockOk m f B
theorem yf (m : nR) (k : Nat) (hk : k < m.funcs.length) (hf : SmF m.funcs[k]) : Says (ox m (k : Int)) (FuncOk m m.funcs[k]) := by
  obtain ⟨hn, hr, hp, hB⟩ := id hf
  unfold ox
  rw [if_neg (by simp only [len]; omega), nJ hk]
  simp only [Option.bind_some]
  generalize m.funcs[k] = f at *
  obtain ⟨b, hb1, hb2⟩ := yc f hf
  rw [hb1]
  simp only [Option.bind_some]
  cases b with
  | false => simp only [Bool.not_false, if_true]; exact .code fun h => by simpa using hb2.2 h.small
  | true =>
    simp only [Bool.not_true, Bool.false_eq_true, if_false]
    obtain ⟨c, hc1, hc2⟩ := yd f hf
    rw [hc1]
    simp only [Option.bind_some]
    cases c with
    | false => simp only [Bool.not_false, if_true]; exact .code fun h => by simpa using hc2.2 h.typed
    | true =>
      simp only [Bool.not_true, Bool.false_eq_true, if_false]
      rcases qr f.blocks (nO hn (by omega)) (fun (B : nA) => EndsOk f B.term) (fun e : GErr => e ≠ .no) (fun s => ox.bd29 f s) (fun i hi => by
        obtain ⟨d, hd1, hd2⟩ := ye f f.blocks[i].term (hB _ (List.getElem_mem hi)).2.2.1
        simp only [ox.bd29, nP, hi, if_true, nJ hi, Option.bind_some, hd1, nQ hi (show f.blocks.length ≤ 1000 by omega)]
        cases d with
        | false => exact .inl ⟨_, by simp; rfl, by simp, fun h => by simpa using hd2.2 h⟩
        | true => exact .inr ⟨by simp, hd2.1 rfl⟩) (by simp [ox.bd29, len]) with ⟨e, hw, he, hnot⟩ | ⟨hw, hends⟩
      · rw [hw]; exact ⟨e, rfl, fun h => absurd h he, fun h => (hnot h.ends).elim⟩
      rw [hw]
      simp only [Option.bind_some, ox.nx29, rV f hf]
      have hal : (n6 (nI f)).length = f.blocks.length := by rw [sq, oP]
      rcases sU (n6 (nI f)).length (nO (show (n6 (nI f)).length ≤ 70 by omega) (by omega)) (fun i => ∀ hi : i < f.blocks.length, ∀ p ∈ f.blocks[i].phis, p.args.length = (ot (nI f) i).length) (fun e : GErr => e ≠ .no) (fun s => ox.bd40 f (n6 (nI f)) s) (fun i hi => by
        have hi' : i < f.blocks.length := by omega
        have hg : idx (n6 (nI f)) (i : Int) = some (ot (nI f) i) := by rw [oz]; exact qI _ _ (by rw [oP]; exact hi')
        obtain ⟨b1, b2, b3, b4, b5⟩ := hB _ (List.getElem_mem hi')
        simp only [ox.bd40, nP, hi, if_true, hg, nJ hi', Option.bind_some]
        rcases qr f.blocks[i].phis (nO b2 (by omega)) (fun p => p.args.length = (ot (nI f) i).length) (fun e : GErr => e ≠ .no) (fun s => ox.bd78 (ot (nI f) i) f.blocks[i] s) (fun j hj => by
          simp only [ox.bd78, nP, hj, if_true, nJ hj, Option.bind_some, nQ hj (show f.blocks[i].phis.length ≤ 1000 by omega)]
          by_cases hc : f.blocks[i].phis[j].args.length = (ot (nI f) i).length
          · exact .inr ⟨by rw [if_neg (by simp only [len]; omega)], hc⟩
          · exact .inl ⟨_, by rw [if_pos (by simp only [len]; omega)], by simp, hc⟩) (by simp [ox.bd78, len]) with ⟨e, hw2, he, hnot⟩ | ⟨hw2, hall⟩
        · rw [hw2]; exact .inl ⟨e, rfl, he, fun h => hnot (h hi')⟩
        · rw [hw2]; exact .inr ⟨by simp only [Option.bind_some, ox.nx78, nQ hi (show (n6 (nI f)).length ≤ 1000 by omega)], fun _ => hall⟩) (by simp [ox.bd40, len]) with ⟨e, hw2, he, hnot⟩ | ⟨hw2, hah⟩
      · rw [hw2]; exact ⟨e, rfl, fun h => absurd h he, fun h => (hnot fun i _ hi => h.ahead i hi).elim⟩
      rw [hw2]
      simp only [Option.bind_some, ox.nx40]
      rcases qr f.blocks (nO hn (by omega)) (fun B => BlockOk m f B) (fun e : GErr => e ≠ .no) (fun s => ox.bd49 m f s) (fun i hi => by
        obtain ⟨e, he1, he2⟩ := ya (⟨m, f⟩ : oh) f.blocks[i] (hB _ (List.getElem_mem hi))
        have he1' : o0 (⟨(⟨m.funcs⟩ : nR), (⟨f.params, f.result, f.regs, f.blocks⟩ : ny)⟩ : oh) f.blocks[i] = some e := he1
        simp only [ox.bd49, nP, hi, if_true, nJ hi, Option.bind_some, he1', nQ hi (show f.blocks.length ≤ 1000 by omega)]
        by_cases h : e = GErr.no
        · exact .inr ⟨by rw [if_neg (by simpa using h)], he2.1 h⟩
        · exact .inl ⟨e, by rw [if_pos h], h, fun hp => h (he2.2 hp)⟩) (by simp [ox.bd49, len]) with ⟨e, hw3, he, hnot⟩ | ⟨hw3, hbl⟩
      · rw [hw3]; exact ⟨e, rfl, fun h => absurd h he, fun h => (hnot h.blocks).elim⟩
      rw [hw3]
      exact .no ⟨hb2.1 rfl, hc2.1 rfl, hends, fun i hi => hah i (by omega) hi, hbl⟩
structure Proper (m : nR) : Prop where
  few : m.funcs.length ≤ 32
  funcs : ∀ f ∈ m.funcs, FuncOk m f
theorem rW (m : nR) (hm : SmM m) : Says (pB m) (Proper m) := by
  obtain ⟨hl, hf⟩ := hm
  unfold pB
  by_cases h : m.funcs.length ≤ 32
  · rw [if_neg (by simp only [len]; omega)]
    rcases qr m.funcs (nO hl (by omega)) (fun f => FuncOk m f) (fun e : GErr => e ≠ .no) (fun s => pB.bd11 m s) (fun i hi => by
      obtain ⟨e, he1, he2⟩ := yf m i hi (hf _ (List.getElem_mem hi))
      simp only [pB.bd11, nP, hi, if_true, Option.bind_some, he1, nQ hi (show m.funcs.length ≤ 1000 by omega)]
      by_cases h : e = GErr.no
      · exact .inr ⟨by rw [if_neg (by simpa using h)], he2.1 h⟩
      · exact .inl ⟨_, by rw [if_pos h], by simp, fun hp => h (he2.2 hp)⟩) (by simp [pB.bd11, len]) with ⟨e, hw, he, hn⟩ | ⟨hw, hall⟩
    · rw [hw]; exact ⟨e, rfl, fun h => absurd h he, fun h => (hn h.funcs).elim⟩
    · rw [hw]; exact .no ⟨h, hall⟩
  · rw [if_pos (by simp only [len]; omega)]
    exact .code fun hp => h hp.few
/-- The registers that a block names are there. -/
structure RegsIn (k : Nat) (B : nA) : Prop where
  arg : B.term.arg < (k : Int)
  dst : ∀ x ∈ B.ins, x.dst < (k : Int)
  args : ∀ x ∈ B.ins, ∀ a ∈ x.args, 0 ≤ a ∧ a < (k : Int)
  phis : ∀ p ∈ B.phis, 0 ≤ p.dst ∧ p.dst < (k : Int)
  pargs : ∀ p ∈ B.phis, ∀ a ∈ p.args, 0 ≤ a ∧ a < (k : Int)
theorem BlockOk_regs {m : nR} {f : ny} {B : nA} (h : BlockOk m f B) : RegsIn f.regs.length B := by
  refine ⟨?_, fun x hx => ?_, fun x hx a ha => ?_, fun p hp => (h.phis p hp).dst, fun p hp a ha => (h.phis p hp).args a ha⟩
  · have := h.term
    unfold EndOk at this
    split at this
    · omega
    · exact this.has.2
  · obtain ⟨n, t, hi⟩ := h.ins x hx
    by_cases ht : t = 0
    · have := hi.none ht; omega
    · exact (hi.dst ht).2
  · obtain ⟨n, t, hi⟩ := h.ins x hx
    exact hi.args a ha
theorem pv {α : Type} {xs : List α} {a : Int} (h0 : 0 ≤ a) (h1 : a < (xs.length : Int)) : ∃ y, idx xs a = some y ∧ xs[a.toNat]? = some y := by
  have hlt : a.toNat < xs.length := by omega
  refine ⟨xs[a.toNat], ?_, List.getElem?_eq_getElem hlt⟩
  simp only [idx, if_pos h0]
  exact List.getElem?_eq_getElem hlt
end Go.Proofs.Ytpmcbahahjelnaa
namespace Go.Proofs.Ytpmcbahahjelnaa
open Go Go.Proofs
/-! ### Tables -/
structure Dim (n k : Nat) (T : List (List Bool)) : Prop where
  len : T.length = n
  row : ∀ r ∈ T, r.length = k
def fal (T : List (List Bool)) : Nat := (T.map cnt).sum
def Nm (P : Nat → Prop) (T : List (List Bool)) : Prop := ∀ row ∈ T, ∀ r : Nat, row[r]? = some true → P r
theorem Dim.set {n k : Nat} {T : List (List Bool)} (h : Dim n k T) (b : Nat) {row : List Bool} (hr : row.length = k) : Dim n k (T.set b row) :=
  ⟨by simp [h.len], fun r hx => (List.mem_or_eq_of_mem_set hx).elim (h.row r) (fun e => e ▸ hr)⟩
theorem Nm.set {P : Nat → Prop} {T : List (List Bool)} (h : Nm P T) (b : Nat) {row : List Bool} (hr : ∀ r : Nat, row[r]? = some true → P r) : Nm P (T.set b row) :=
  fun x hx => (List.mem_or_eq_of_mem_set hx).elim (h x) (fun e => e ▸ hr)
theorem uJ : ∀ (T : List (List Bool)) (b : Nat) (row row' : List Bool), T[b]? = some row → fal (T.set b row') + cnt row = fal T + cnt row'
  | [], b, row, row', h => by simp at h
  | x :: T, 0, row, row', h => by
    simp at h; subst h
    simp only [fal, List.set_cons_zero, List.map_cons, List.sum_cons]; omega
  | x :: T, b + 1, row, row', h => by
    have ih := uJ T b row row' (by simpa using h)
    simp only [fal, List.set_cons_succ, List.map_cons, List.sum_cons] at ih ⊢; omega
theorem uK {T : List (List Bool)} {b r : Nat} {row : List Bool} (h : T[b]? = some row) (hr : row[r]? = some false) : fal (T.set b (row.set r true)) + 1 = fal T := by
  have h1 := uJ T b row (row.set r true) h
  have h2 := rT row r hr
  omega
/-- Marks of the one are marks of the other. -/
structure Le (a b : List Bool) : Prop where
  len : a.length = b.length
  le : ∀ r : Nat, a[r]? = some true → b[r]? = some true
theorem Le.refl (a : List Bool) : Le a a := ⟨rfl, fun _ h => h⟩
theorem Le.trans {a b c : List Bool} (h : Le a b) (k : Le b c) : Le a c := ⟨h.len.trans k.len, fun r hr => k.le r (h.le r hr)⟩
theorem Le.set {a b : List Bool} (h : Le a b) (i : Nat) (v : Bool) : Le (a.set i v) (b.set i v) := by
  refine ⟨by simp [h.len], fun r hr => ?_⟩
  rw [List.getElem?_set] at hr ⊢
  by_cases hi : i = r
  · subst hi
    rw [if_pos rfl] at hr ⊢
    rw [← h.len]
    exact hr
  · rw [if_neg hi] at hr ⊢
    exact h.le r hr
theorem Le.mark (a : List Bool) (i : Nat) : Le a (a.set i true) := by
  refine ⟨by simp, fun r hr => ?_⟩
  rw [List.getElem?_set]
  by_cases hi : i = r
  · subst hi
    have := (List.getElem?_eq_some_iff.1 hr).1
    simp [this]
  · rw [if_neg hi]; exact hr
/-! ### What is wanted at a block's beginning -/
def markAll (o : List Bool) (l : List Int) : List Bool := l.foldl (fun o a => o.set a.toNat true) o
def stepI (o : List Bool) (x : nL) : List Bool := markAll (if x.dst ≥ 0 then o.set x.dst.toNat false else o) x.args
def dropP (o : List Bool) (ps : List PPhi) : List Bool := ps.foldl (fun o p => o.set p.dst.toNat false) o
def beginF (B : nA) (e : List Bool) : List Bool := dropP (B.ins.reverse.foldl stepI (if B.term.arg ≥ 0 then e.set B.term.arg.toNat true else e)) B.phis
theorem uL (l : List Int) : ∀ o, (markAll o l).length = o.length := by
  induction l with
  | nil => intro o; rfl
  | cons a l ih => intro o; simp only [markAll, List.foldl_cons] at ih ⊢; rw [ih]; simp
theorem yg (o : List Bool) (x : nL) : (stepI o x).length = o.length := by
  unfold stepI; rw [uL]; split <;> simp
theorem sW (l : List nL) : ∀ o, (l.foldl stepI o).length = o.length := by
  induction l with
  | nil => intro o; rfl
  | cons a l ih => intro o; rw [List.foldl_cons, ih, yg]
theorem uM (l : List PPhi) : ∀ o, (dropP o l).length = o.length := by
  induction l with
  | nil => intro o; rfl
  | cons a l ih => intro o; simp only [dropP, List.foldl_cons] at ih ⊢; rw [ih]; simp
theorem sX (B : nA) (e : List Bool) : (beginF B e).length = e.length := by
  unfold beginF; rw [uM, sW]; split <;> simp
theorem uN (l : List Int) : ∀ {o o'}, Le o o' → Le (markAll o l) (markAll o' l) := by
  induction l with
  | nil => intro o o' h; exact h
  | cons a l ih => intro o o' h; simp only [markAll, List.foldl_cons] at ih ⊢; exact ih (h.set _ _)
theorem yh {o o' : List Bool} (x : nL) (h : Le o o') : Le (stepI o x) (stepI o' x) := by
  unfold stepI
  split
  · exact uN _ (h.set _ _)
  · exact uN _ h
theorem yi (l : List nL) : ∀ {o o'}, Le o o' → Le (l.foldl stepI o) (l.foldl stepI o') := by
  induction l with
  | nil => intro o o' h; exact h
  | cons a l ih => intro o o' h; rw [List.foldl_cons, List.foldl_cons]; exact ih (yh a h)
theorem yj (l : List PPhi) : ∀ {o o'}, Le o o' → Le (dropP o l) (dropP o' l) := by
  induction l with
  | nil => intro o o' h; exact h
  | cons a l ih => intro o o' h; simp only [dropP, List.foldl_cons] at ih ⊢; exact ih (h.set _ _)
theorem yk (B : nA) {e e' : List Bool} (h : Le e e') : Le (beginF B e) (beginF B e') := by
  unfold beginF
  refine yj _ (yi _ ?_)
  split
  · exact h.set _ _
  · exact h
/-- A mark that is set is of P, or was there. -/
theorem rX {P : Nat → Prop} {o : List Bool} (h : ∀ r : Nat, o[r]? = some true → P r) (i : Nat) (hi : P i) : ∀ r : Nat, (o.set i true)[r]? = some true → P r := by
  intro r hr
  rw [List.getElem?_set] at hr
  by_cases h1 : i = r
  · subst h1; exact hi
  · rw [if_neg h1] at hr; exact h r hr
theorem uO {P : Nat → Prop} {o : List Bool} (h : ∀ r : Nat, o[r]? = some true → P r) (i : Nat) : ∀ r : Nat, (o.set i false)[r]? = some true → P r := by
  intro r hr
  rw [List.getElem?_set] at hr
  by_cases h1 : i = r
  · rw [if_pos h1] at hr; split at hr <;> simp at hr
  · rw [if_neg h1] at hr; exact h r hr
theorem uP {P : Nat → Prop} (l : List Int) : ∀ {o : List Bool}, (∀ r : Nat, o[r]? = some true → P r) → (∀ a ∈ l, P a.toNat) → ∀ r : Nat, (markAll o l)[r]? = some true → P r := by
  induction l with
  | nil => intro o h _; exact h
  | cons a l ih =>
    intro o h hl
    simp only [markAll, List.foldl_cons] at ih ⊢
    exact ih (rX h _ (hl a (by simp))) fun x hx => hl x (List.mem_cons_of_mem _ hx)
theorem yl {P : Nat → Prop} (l : List nL) : ∀ {o : List Bool}, (∀ r : Nat, o[r]? = some true → P r) → (∀ x ∈ l, ∀ a ∈ x.args, P a.toNat) → ∀ r : Nat, (l.foldl stepI o)[r]? = some true → P r := by
  induction l with
  | nil => intro o h _; exact h
  | cons x l ih =>
    intro o h hl
    rw [List.foldl_cons]
    refine ih ?_ fun y hy => hl y (List.mem_cons_of_mem _ hy)
    unfold stepI
    split
    · exact uP _ (uO h _) (hl x (by simp))
    · exact uP _ h (hl x (by simp))
theorem ym {P : Nat → Prop} (l : List PPhi) : ∀ {o : List Bool}, (∀ r : Nat, o[r]? = some true → P r) → ∀ r : Nat, (dropP o l)[r]? = some true → P r := by
  induction l with
  | nil => intro o h; exact h
  | cons a l ih => intro o h; simp only [dropP, List.foldl_cons] at ih ⊢; exact ih (uO h _)
theorem yn {P : Nat → Prop} (B : nA) {e : List Bool} (h : ∀ r : Nat, e[r]? = some true → P r) (hins : ∀ x ∈ B.ins, ∀ a ∈ x.args, P a.toNat) (harg : B.term.arg ≥ 0 → P B.term.arg.toNat) : ∀ r : Nat, (beginF B e)[r]? = some true → P r := by
  unfold beginF
  refine ym _ (yl _ ?_ fun x hx => hins x (List.mem_reverse.1 hx))
  split
  · rename_i hg; exact rX h _ (harg hg)
  · exact h
theorem uQ (B : nA) (e : List Bool) (hB : SmB B) (hR : RegsIn e.length B) (he : e.length ≤ 300) : ow B e = some (beginF B e) := by
  obtain ⟨b1, b2, b3, b4, b5⟩ := hB
  unfold ow
  have hmk : mkl (len e) false = some (List.replicate e.length false) := by
    have h1 : e.length < LIM := by simp only [LIM]; omega
    simp [mkl, len, h1]
  have hcp : cpy (List.replicate e.length false) e = e := by
    unfold cpy
    simp
  rw [hmk]
  simp only [Option.bind_some, hcp]
  -- the rest, from the marks at the end on
  have rest : ∀ o : List Bool, o.length = e.length → ow.jn5 B o = some (dropP (B.ins.reverse.foldl stepI o) B.phis) := by
    intro o ho
    unfold ow.jn5
    have hrun := pf (body := fun (s : (List Bool × Int)) => ow.bd13 B s.1 s.2) (r := B.ins.reverse.foldl stepI o) B.ins.length nD
      (fun i => ((B.ins.reverse.take i).foldl stepI o, (B.ins.length : Int) - (i + 1 : Nat))) (fun i hi => by
        have hj : (B.ins.length : Int) - ((i + 1 : Nat) : Int) = ((B.ins.length - 1 - i : Nat) : Int) := by omega
        have hjl : B.ins.length - 1 - i < B.ins.length := by omega
        have hir : i < B.ins.reverse.length := by simpa using hi
        have e1 : w64 (((B.ins.length - 1 - i : Nat) : Int) - 1) = (B.ins.length : Int) - ((i + 1 + 1 : Nat) : Int) := by rw [qa ⟨by omega, by omega⟩]; omega
        have hxm : B.ins[B.ins.length - 1 - i] ∈ B.ins := List.getElem_mem hjl
        have hrev : B.ins.reverse[i] = B.ins[B.ins.length - 1 - i] := by rw [List.getElem_reverse]
        rw [rQ stepI o B.ins.reverse hir, hrev]
        have hol : ((B.ins.reverse.take i).foldl stepI o).length = e.length := by rw [sW, ho]
        generalize (B.ins.reverse.take i).foldl stepI o = q at hol
        generalize hx : B.ins[B.ins.length - 1 - i] = x at hxm
        simp only [ow.bd13, hj]
        rw [if_pos (by omega), nJ hjl]
        simp only [Option.bind_some, hx]
        have hargs := b4 x hxm
        have inner : ∀ q : List Bool, q.length = e.length → ow.jn46 ((B.ins.length - 1 - i : Nat) : Int) x q = some (.go (markAll q x.args, (B.ins.length : Int) - ((i + 1 + 1 : Nat) : Int))) := by
          intro q hq
          unfold ow.jn46
          have hin := pf (body := fun (s : (List Bool × Int)) => ow.bd52 x s.1 s.2) (r := markAll q x.args) x.args.length nD (fun k => (markAll q (x.args.take k), (k : Int))) (fun k hk => by
            have hql : (markAll q (x.args.take k)).length = e.length := by rw [uL, hq]
            obtain ⟨g1, g2⟩ := hR.args x hxm _ (List.getElem_mem hk)
            obtain ⟨y, hy, _⟩ := pv (xs := markAll q (x.args.take k)) g1 (by rw [hql]; exact g2)
            simp only [ow.bd52, nP, hk, if_true, nJ hk, Option.bind_some, hy, nQ hk (show x.args.length ≤ 1000 by omega)]
            unfold markAll
            rw [rQ (fun (o : List Bool) (a : Int) => o.set a.toNat true) q x.args hk]) (by simp [ow.bd52, len]) (oW (nO hargs (by omega)))
          have h00 : (markAll q (x.args.take 0), ((0 : Nat) : Int)) = (q, (0 : Int)) := by simp [markAll]
          rw [h00] at hin
          rw [hin]
          simp only [Option.bind_some, ow.nx52, e1]
        by_cases hd : x.dst ≥ 0
        · rw [if_pos hd]
          obtain ⟨y, hy, _⟩ := pv (xs := q) hd (by rw [hol]; exact hR.dst x hxm)
          rw [hy]
          simp only [Option.bind_some]
          rw [inner _ (by simp [hol])]
          simp only [stepI, if_pos hd]
        · rw [if_neg hd, inner _ hol]
          simp only [stepI, if_neg hd]) (by
        simp only [ow.bd13]
        rw [if_neg (by omega), List.take_of_length_le (by simp)]) (oW (nO b1 (by omega)))
    simp only [List.take_zero, List.foldl_nil] at hrun
    have h0 : w64 ((len B.ins) - 1) = (B.ins.length : Int) - ((0 + 1 : Nat) : Int) := by simp only [len]; rw [qa ⟨by omega, by omega⟩]; omega
    rw [h0, hrun]
    simp only [Option.bind_some, ow.nx13]
    have hol : (B.ins.reverse.foldl stepI o).length = e.length := by rw [sW, ho]
    generalize B.ins.reverse.foldl stepI o = q at hol
    have hph := pf (body := fun (s : (List Bool × Int)) => ow.bd22 B s.1 s.2) (r := dropP q B.phis) B.phis.length nD (fun k => (dropP q (B.phis.take k), (k : Int))) (fun k hk => by
      have hql : (dropP q (B.phis.take k)).length = e.length := by rw [uM, hol]
      obtain ⟨g1, g2⟩ := hR.phis _ (List.getElem_mem hk)
      obtain ⟨y, hy, _⟩ := pv (xs := dropP q (B.phis.take k)) g1 (by rw [hql]; exact g2)
      simp only [ow.bd22, nP, hk, if_true, nJ hk, Option.bind_some, hy, nQ hk (show B.phis.length ≤ 1000 by omega)]
      unfold dropP
      rw [rQ (fun (o : List Bool) (p : PPhi) => o.set p.dst.toNat false) q B.phis hk]) (by simp [ow.bd22, len]) (oW (nO b2 (by omega)))
    have h00 : (dropP q (B.phis.take 0), ((0 : Nat) : Int)) = (q, (0 : Int)) := by simp [dropP]
    rw [h00] at hph
    rw [hph]; rfl
  unfold beginF
  by_cases ha : B.term.arg ≥ 0
  · rw [if_pos ha, if_pos ha]
    obtain ⟨y, hy, _⟩ := pv (xs := e) ha hR.arg
    rw [hy]
    simp only [Option.bind_some]
    exact rest _ (by simp)
  · rw [if_neg ha, if_neg ha]
    exact rest _ rfl
end Go.Proofs.Ytpmcbahahjelnaa
namespace Go.Proofs.Ytpmcbahahjelnaa
open Go Go.Proofs
/-- A register is named in a function. -/
def Named (f : ny) (r : Nat) : Prop := ∃ B ∈ f.blocks, (∃ p ∈ B.phis, (r : Int) ∈ p.args) ∨ (∃ x ∈ B.ins, (r : Int) ∈ x.args) ∨ B.term.arg = (r : Int)
/-- What is asked of a function of a proper module here. -/
structure LiveOk (f : ny) : Prop where
  sm : SmF f
  few : f.blocks.length ≤ 64
  regs : ∀ B ∈ f.blocks, RegsIn f.regs.length B
  ahead : ∀ i (hi : i < f.blocks.length), ∀ p ∈ f.blocks[i].phis, p.args.length = (ot (nI f) i).length
theorem FuncOk.live {m : nR} {f : ny} (hf : SmF f) (h : FuncOk m f) : LiveOk f := ⟨hf, h.small.blocks, fun B hB => BlockOk_regs (h.blocks B hB), h.ahead⟩
theorem yo (f : ny) (hf : SmF f) : pK f = some (List.replicate f.blocks.length (List.replicate f.regs.length false)) := by
  obtain ⟨hn, hr, _, _⟩ := hf
  unfold pK
  have hmk : mkl (len f.blocks) ([] : List Bool) = some (List.replicate f.blocks.length []) := qQ (n := f.blocks.length) [] hn
  have hmk2 : mkl (len f.regs) false = some (List.replicate f.regs.length false) := by
    have h1 : f.regs.length < LIM := by simp only [LIM]; omega
    simp [mkl, len, h1]
  rw [hmk]
  simp only [Option.bind_some]
  have hrun := pf (body := fun (s : (List (List Bool) × Int)) => pK.bd9 f (List.replicate f.blocks.length []) s.1 s.2) (r := List.replicate f.blocks.length (List.replicate f.regs.length false)) f.blocks.length nD
    (fun i => (List.replicate i (List.replicate f.regs.length false) ++ List.replicate (f.blocks.length - i) [], (i : Int))) (fun i hi => by
      have hl : (List.replicate i (List.replicate f.regs.length false) ++ List.replicate (f.blocks.length - i) ([] : List Bool)).length = f.blocks.length := by simp; omega
      have hc : (i : Int) < len (List.replicate f.blocks.length ([] : List Bool)) := by simp only [len, List.length_replicate]; omega
      simp only [pK.bd9, hc, if_true, hmk2, Option.bind_some, nJ (show i < (List.replicate i (List.replicate f.regs.length false) ++ List.replicate (f.blocks.length - i) ([] : List Bool)).length by omega), nQ hi (show f.blocks.length ≤ 1000 by omega), Int.toNat_natCast]
      have : (List.replicate i (List.replicate f.regs.length false) ++ List.replicate (f.blocks.length - i) ([] : List Bool)).set i (List.replicate f.regs.length false) = List.replicate (i + 1) (List.replicate f.regs.length false) ++ List.replicate (f.blocks.length - (i + 1)) [] := by
        rw [List.set_append_right _ _ (by simp), List.length_replicate, Nat.sub_self]
        obtain ⟨d, hd⟩ : ∃ d, f.blocks.length - i = d + 1 := ⟨f.blocks.length - i - 1, by omega⟩
        rw [hd, show f.blocks.length - (i + 1) = d by omega, List.replicate_succ, List.set_cons_zero, List.replicate_succ', List.append_assoc]; rfl
      rw [this]) (by simp [pK.bd9, len]) (oW (nO hn (by omega)))
  simp only [List.replicate_zero, List.nil_append, Nat.sub_zero] at hrun
  have h00 : (List.replicate f.blocks.length ([] : List Bool), ((0 : Nat) : Int)) = (List.replicate f.blocks.length ([] : List Bool), (0 : Int)) := rfl
  rw [h00] at hrun
  rw [hrun]; rfl
theorem Dim.rep (n k : Nat) : Dim n k (List.replicate n (List.replicate k false)) :=
  ⟨by simp, fun r hr => by rw [List.eq_of_mem_replicate hr]; simp⟩
theorem Nm.rep (P : Nat → Prop) (n k : Nat) : Nm P (List.replicate n (List.replicate k false)) := fun row hr r h => by
  rw [List.eq_of_mem_replicate hr, List.getElem?_replicate] at h
  split at h <;> simp at h
theorem Dim.get {n k : Nat} {T : List (List Bool)} (h : Dim n k T) {b : Int} (h0 : 0 ≤ b) (h1 : b < (n : Int)) : ∃ row, idx T b = some row ∧ T[b.toNat]? = some row ∧ row.length = k := by
  obtain ⟨row, h2, h3⟩ := pv (xs := T) h0 (by rw [h.len]; exact h1)
  exact ⟨row, h2, h3, h.row row (List.mem_of_getElem? h3)⟩
/-! ### What phis want at ends -/
def Ends (f : ny) (T : List (List Bool)) : Prop := Dim f.blocks.length f.regs.length T ∧ Nm (Named f) T
theorem yp (f : ny) (hf : LiveOk f) (t : Nat) (ht : t < f.blocks.length) (p : PPhi) (hp : p ∈ f.blocks[t].phis) (T : List (List Bool)) (hT : Ends f T) :
    ∃ z, whl (fun (s : (List (List Bool) × Int)) => nM.bd181 (n6 (nI f)) (t : Int) p s.1 s.2) nD (T, 0) = some z ∧ Ends f z := by
  have h5 := (hf.sm.2.2.2 _ (List.getElem_mem ht)).2.2.2.2 p hp
  have hal := hf.ahead t ht p hp
  refine oj (body := fun (s : (List (List Bool) × Int)) => nM.bd181 (n6 (nI f)) (t : Int) p s.1 s.2) p.args.length (fun i s => Ends f s.1 ∧ s.2 = (i : Int)) (fun z => Ends f z) (nO h5 (by omega)) (fun i s hi hI => ?_) (fun s hI => ?_) ⟨hT, rfl⟩
  · obtain ⟨M, q⟩ := s
    obtain ⟨⟨hd, hn⟩, rfl⟩ := hI
    simp only at hd hn
    have hg : idx (n6 (nI f)) (t : Int) = some (ot (nI f) t) := by rw [oz]; exact qI _ _ (by rw [oP]; exact ht)
    have hip : i < (ot (nI f) t).length := by omega
    have hb := ss (nI f) t _ (List.getElem_mem hip)
    rw [oP] at hb
    obtain ⟨row, r1, r2, r3⟩ := hd.get hb.1 hb.2
    obtain ⟨g1, g2⟩ := (hf.regs _ (List.getElem_mem ht)).pargs p hp _ (List.getElem_mem hi)
    obtain ⟨y, hy, _⟩ := pv (xs := row) g1 (by rw [r3]; exact g2)
    refine .inr ⟨_, by simp only [nM.bd181, nP, hi, if_true, nJ hi, hg, nJ hip, Option.bind_some, r1, hy]; rfl, ?_, nQ hi (by omega)⟩
    refine ⟨hd.set _ (by simp [r3]), hn.set _ (rX (hn row (List.mem_of_getElem? r2)) _ ?_)⟩
    exact ⟨_, List.getElem_mem ht, .inl ⟨p, hp, by rw [Int.toNat_of_nonneg g1]; exact List.getElem_mem hi⟩⟩
  · obtain ⟨M, q⟩ := s
    obtain ⟨h1, rfl⟩ := hI
    exact ⟨M, by simp [nM.bd181, len], h1⟩
theorem yq (f : ny) (hf : LiveOk f) (t : Nat) (ht : t < f.blocks.length) (T : List (List Bool)) (hT : Ends f T) :
    ∃ z, whl (fun (s : (List (List Bool) × Int)) => nM.bd166 (n6 (nI f)) (t : Int) f.blocks[t] s.1 s.2) nD (T, 0) = some z ∧ Ends f z := by
  have h2 := (hf.sm.2.2.2 _ (List.getElem_mem ht)).2.1
  refine oj (body := fun (s : (List (List Bool) × Int)) => nM.bd166 (n6 (nI f)) (t : Int) f.blocks[t] s.1 s.2) f.blocks[t].phis.length (fun i s => Ends f s.1 ∧ s.2 = (i : Int)) (fun z => Ends f z) (nO h2 (by omega)) (fun i s hi hI => ?_) (fun s hI => ?_) ⟨hT, rfl⟩
  · obtain ⟨M, q⟩ := s
    obtain ⟨h1, rfl⟩ := hI
    have h1 : Ends f M := h1
    obtain ⟨z, hz, hz1⟩ := yp f hf t ht _ (List.getElem_mem hi) M h1
    exact .inr ⟨_, by simp only [nM.bd166, nP, hi, if_true, nJ hi, Option.bind_some, hz, nM.nx181]; rfl, hz1, nQ hi (by omega)⟩
  · obtain ⟨M, q⟩ := s
    obtain ⟨h1, rfl⟩ := hI
    exact ⟨M, by simp [nM.bd166, len], h1⟩
theorem yr (f : ny) (hf : LiveOk f) (T : List (List Bool)) (hT : Ends f T) :
    ∃ z, whl (fun (s : (List (List Bool) × Int)) => nM.bd34 f (n6 (nI f)) s.1 s.2) nD (T, 0) = some z ∧ Ends f z := by
  have hn := hf.few
  refine oj (body := fun (s : (List (List Bool) × Int)) => nM.bd34 f (n6 (nI f)) s.1 s.2) f.blocks.length (fun i s => Ends f s.1 ∧ s.2 = (i : Int)) (fun z => Ends f z) (nO hn (by omega)) (fun i s hi hI => ?_) (fun s hI => ?_) ⟨hT, rfl⟩
  · obtain ⟨M, q⟩ := s
    obtain ⟨h1, rfl⟩ := hI
    have h1 : Ends f M := h1
    obtain ⟨z, hz, hz1⟩ := yq f hf i hi M h1
    exact .inr ⟨_, by simp only [nM.bd34, nP, hi, if_true, nJ hi, Option.bind_some, hz, nM.nx166]; rfl, hz1, nQ hi (by omega)⟩
  · obtain ⟨M, q⟩ := s
    obtain ⟨h1, rfl⟩ := hI
    exact ⟨M, by simp [nM.bd34, len], h1⟩
/-! ### A round -/
structure LI (f : ny) (ins ends : List (List Bool)) : Prop where
  dimI : Dim f.blocks.length f.regs.length ins
  dimE : Dim f.blocks.length f.regs.length ends
  nmI : Nm (Named f) ins
  nmE : Nm (Named f) ends
  sub : ∀ (b : Nat) (hb : b < f.blocks.length) (ri re : List Bool), ins[b]? = some ri → ends[b]? = some re → Le ri (beginF f.blocks[b] re)
/-- How much is left, W being what was left at the round's beginning. -/
def Left (W : Nat) (again : Bool) (ins ends : List (List Bool)) : Prop := fal ins + fal ends ≤ W ∧ (again = true → fal ins + fal ends < W)
theorem yt {f : ny} {b : Nat} (hb : b < f.blocks.length) (hR : RegsIn f.regs.length f.blocks[b]) {re : List Bool} (h : ∀ r : Nat, re[r]? = some true → Named f r) : ∀ r : Nat, (beginF f.blocks[b] re)[r]? = some true → Named f r :=
  yn _ h (fun x hx a ha => ⟨_, List.getElem_mem hb, .inr (.inl ⟨x, hx, by
    obtain ⟨g1, _⟩ := hR.args x hx a ha
    rw [Int.toNat_of_nonneg g1]; exact ha⟩)⟩) (fun hg => ⟨_, List.getElem_mem hb, .inr (.inr (by rw [Int.toNat_of_nonneg hg]))⟩)
/-- What a following block wants is wanted at the end. -/
theorem yu (f : ny) (hf : LiveOk f) (W : Nat) (b : Nat) (hb : b < f.blocks.length) (ins : List (List Bool)) (row : List Bool) (hrow : row ∈ ins) (ends : List (List Bool)) (again : Bool) (hL : LI f ins ends) (hW : Left W again ins ends) :
    ∃ z, whl (fun (s : (List (List Bool) × Bool × Int)) => nM.bd122 (b : Int) row s.1 s.2.1 s.2.2) nD (ends, again, 0) = some z ∧ LI f ins z.1 ∧ Left W z.2 ins z.1 := by
  have hk := hf.sm.2.1
  have hrl := hL.dimI.row row hrow
  refine oj (s0 := (ends, again, 0)) (body := fun (s : (List (List Bool) × Bool × Int)) => nM.bd122 (b : Int) row s.1 s.2.1 s.2.2) row.length (fun i s => LI f ins s.1 ∧ Left W s.2.1 ins s.1 ∧ s.2.2 = (i : Int)) (fun z => LI f ins z.1 ∧ Left W z.2 ins z.1) (nO (show row.length ≤ 300 by omega) (by omega)) (fun i s hi hI => ?_) (fun s hI => ?_) ⟨hL, hW, rfl⟩
  · obtain ⟨E, g, q⟩ := s
    obtain ⟨h1, h2, rfl⟩ := hI
    simp only at h1 h2
    obtain ⟨re, r1, r2, r3⟩ := h1.dimE.get (b := (b : Int)) (by omega) (by omega)
    rw [Int.toNat_natCast] at r2
    have hire : i < re.length := by omega
    have hstep : ((if row[i] = true then (idx E (b : Int)).bind fun x => (idx x (i : Int)).bind fun y => some (!y) else some false) : Option Bool) = some (row[i] && !re[i]) := by
      cases hr : row[i] with
      | false => simp
      | true => simp [r1, nJ hire]
    refine .inr ?_
    simp only [nM.bd122, nP, hi, if_true, nJ hi, Option.bind_some, hstep]
    by_cases hc : (row[i] && !re[i]) = true
    · rw [if_pos hc, r1]
      simp only [Option.bind_some, nJ hire, nM.jn132, Int.toNat_natCast, nQ hi (show row.length ≤ 1000 by omega)]
      simp only [Bool.and_eq_true, Bool.not_eq_true'] at hc
      have hrf : re[i]? = some false := by rw [List.getElem?_eq_getElem hire, hc.2]
      have hfal := uK r2 hrf
      refine ⟨_, rfl, ⟨h1.dimI, h1.dimE.set _ (by simp [r3]), h1.nmI, h1.nmE.set _ (rX (h1.nmE re (List.mem_of_getElem? r2)) _ ?_), fun b' hb' ri re' e1 e2 => ?_⟩, ?_, rfl⟩
      · exact h1.nmI row hrow i (by rw [List.getElem?_eq_getElem hi, hc.1])
      · rw [List.getElem?_set] at e2
        by_cases hbb : b = b'
        · subst hbb
          rw [if_pos rfl, if_pos (by rw [h1.dimE.len]; exact hb)] at e2
          cases e2
          exact (h1.sub b hb ri re e1 r2).trans (yk _ (Le.mark re i))
        · rw [if_neg hbb] at e2
          exact h1.sub b' hb' ri re' e1 e2
      · have := h2.1
        exact ⟨by simp only; omega, fun _ => by simp only; omega⟩
    · rw [if_neg hc]
      simp only [nM.jn132, nQ hi (show row.length ≤ 1000 by omega)]
      exact ⟨_, rfl, h1, h2, rfl⟩
  · obtain ⟨E, g, q⟩ := s
    obtain ⟨h1, h2, rfl⟩ := hI
    exact ⟨(E, g), by simp [nM.bd122, len], h1, h2⟩
theorem yv (f : ny) (hf : LiveOk f) (W : Nat) (b : Nat) (hb : b < f.blocks.length) (ins : List (List Bool)) (ends : List (List Bool)) (again : Bool) (hL : LI f ins ends) (hW : Left W again ins ends) (row : List Int) (hr : row.length ≤ 70) (hin : ∀ x ∈ row, 0 ≤ x ∧ x < (f.blocks.length : Int)) :
    ∃ z, whl (fun (s : (List (List Bool) × Bool × Int)) => nM.bd74 ins (b : Int) row s.1 s.2.1 s.2.2) nD (ends, again, 0) = some z ∧ LI f ins z.1 ∧ Left W z.2 ins z.1 := by
  refine oj (s0 := (ends, again, 0)) (body := fun (s : (List (List Bool) × Bool × Int)) => nM.bd74 ins (b : Int) row s.1 s.2.1 s.2.2) row.length (fun i s => LI f ins s.1 ∧ Left W s.2.1 ins s.1 ∧ s.2.2 = (i : Int)) (fun z => LI f ins z.1 ∧ Left W z.2 ins z.1) (nO hr (by omega)) (fun i s hi hI => ?_) (fun s hI => ?_) ⟨hL, hW, rfl⟩
  · obtain ⟨E, g, q⟩ := s
    obtain ⟨h1, h2, rfl⟩ := hI
    simp only at h1 h2
    obtain ⟨g1, g2⟩ := hin _ (List.getElem_mem hi)
    obtain ⟨ri, r1, r2, r3⟩ := h1.dimI.get g1 g2
    obtain ⟨z, hz, hz1, hz2⟩ := yu f hf W b hb ins ri (List.mem_of_getElem? r2) E g h1 h2
    exact .inr ⟨_, by simp only [nM.bd74, nP, hi, if_true, nJ hi, Option.bind_some, r1, hz, nM.nx122]; rfl, hz1, hz2, nQ hi (by omega)⟩
  · obtain ⟨E, g, q⟩ := s
    obtain ⟨h1, h2, rfl⟩ := hI
    exact ⟨(E, g), by simp [nM.bd74, len], h1, h2⟩
theorem yw (f : ny) (hf : LiveOk f) (W : Nat) (b : Nat) (hb : b < f.blocks.length) (ins : List (List Bool)) (ends : List (List Bool)) (again : Bool) (hL : LI f ins ends) (hW : Left W again ins ends) (re : List Bool) (hre : ends[b]? = some re) :
    ∃ z, whl (fun (s : (List (List Bool) × Bool × Int)) => nM.bd89 (b : Int) (beginF f.blocks[b] re) s.1 s.2.1 s.2.2) nD (ins, again, 0) = some z ∧ LI f z.1 ends ∧ Left W z.2 z.1 ends := by
  have hk := hf.sm.2.1
  have hrl : (beginF f.blocks[b] re).length = f.regs.length := by rw [sX]; exact hL.dimE.row re (List.mem_of_getElem? hre)
  refine oj (s0 := (ins, again, 0)) (body := fun (s : (List (List Bool) × Bool × Int)) => nM.bd89 (b : Int) (beginF f.blocks[b] re) s.1 s.2.1 s.2.2) (beginF f.blocks[b] re).length (fun i s => LI f s.1 ends ∧ Left W s.2.1 s.1 ends ∧ s.2.2 = (i : Int)) (fun z => LI f z.1 ends ∧ Left W z.2 z.1 ends) (nO (show (beginF f.blocks[b] re).length ≤ 300 by omega) (by omega)) (fun i s hi hI => ?_) (fun s hI => ?_) ⟨hL, hW, rfl⟩
  · obtain ⟨N, g, q⟩ := s
    obtain ⟨h1, h2, rfl⟩ := hI
    simp only at h1 h2
    obtain ⟨ri, r1, r2, r3⟩ := h1.dimI.get (b := (b : Int)) (by omega) (by omega)
    rw [Int.toNat_natCast] at r2
    have hiri : i < ri.length := by omega
    have hle := h1.sub b hb ri re r2 hre
    refine .inr ?_
    simp only [nM.bd89, nP, hi, if_true, nJ hi, Option.bind_some, r1, nJ hiri]
    by_cases hc : (!((beginF f.blocks[b] re)[i] == ri[i])) = true
    · rw [if_pos hc]
      simp only [nM.jn99, Int.toNat_natCast, nQ hi (show (beginF f.blocks[b] re).length ≤ 1000 by omega)]
      have hri : ri[i] = false := by
        cases hx : ri[i] with
        | false => rfl
        | true =>
          have := hle.le i (by rw [List.getElem?_eq_getElem hiri, hx])
          rw [List.getElem?_eq_getElem hi] at this
          have := Option.some.inj this
          rw [this, hx] at hc
          simp at hc
      have hbt : (beginF f.blocks[b] re)[i] = true := by
        rw [hri] at hc
        simpa using hc
      have hrf : ri[i]? = some false := by rw [List.getElem?_eq_getElem hiri, hri]
      have hfal := uK r2 hrf
      rw [hbt]
      refine ⟨_, rfl, ⟨h1.dimI.set _ (by simp [r3]), h1.dimE, h1.nmI.set _ (rX (h1.nmI ri (List.mem_of_getElem? r2)) _ ?_), h1.nmE, fun b' hb' ri' re' e1 e2 => ?_⟩, ?_, rfl⟩
      · exact yt hb (hf.regs _ (List.getElem_mem hb)) (h1.nmE re (List.mem_of_getElem? hre)) i (by rw [List.getElem?_eq_getElem hi, hbt])
      · rw [List.getElem?_set] at e1
        by_cases hbb : b = b'
        · subst hbb
          rw [if_pos rfl, if_pos (by rw [h1.dimI.len]; exact hb)] at e1
          cases e1
          rw [hre] at e2
          cases e2
          refine ⟨by simp; omega, fun r hr => ?_⟩
          rw [List.getElem?_set] at hr
          by_cases hir : i = r
          · subst hir; rw [List.getElem?_eq_getElem hi, hbt]
          · rw [if_neg hir] at hr; exact hle.le r hr
        · rw [if_neg hbb] at e1
          exact h1.sub b' hb' ri' re' e1 e2
      · have := h2.1
        exact ⟨by simp only; omega, fun _ => by simp only; omega⟩
    · rw [if_neg hc]
      simp only [nM.jn99, nQ hi (show (beginF f.blocks[b] re).length ≤ 1000 by omega)]
      exact ⟨_, rfl, h1, h2, rfl⟩
  · obtain ⟨N, g, q⟩ := s
    obtain ⟨h1, h2, rfl⟩ := hI
    exact ⟨(N, g), by simp [nM.bd89, len], h1, h2⟩
theorem yx (f : ny) (hf : LiveOk f) (ins ends : List (List Bool)) (hL : LI f ins ends) :
    ∃ z, whl (fun (s : (List (List Bool) × List (List Bool) × Bool × Int)) => nM.bd57 f (nI f) s.1 s.2.1 s.2.2.1 s.2.2.2) nD (ins, ends, false, (w64 ((len f.blocks) - 1))) = some z ∧ LI f z.1 z.2.1 ∧ Left (fal ins + fal ends) z.2.2 z.1 z.2.1 := by
  have hn := hf.few
  have ht : ∀ B ∈ f.blocks, B.term.to.length ≤ 70 := fun B hm => (hf.sm.2.2.2 B hm).2.2.1
  have h0 : w64 ((len f.blocks) - 1) = (f.blocks.length : Int) - ((0 + 1 : Nat) : Int) := by simp only [len]; rw [qa ⟨by omega, by omega⟩]; omega
  rw [h0]
  refine oj (s0 := (ins, ends, false, (f.blocks.length : Int) - ((0 + 1 : Nat) : Int))) (body := fun (s : (List (List Bool) × List (List Bool) × Bool × Int)) => nM.bd57 f (nI f) s.1 s.2.1 s.2.2.1 s.2.2.2) f.blocks.length (fun i s => LI f s.1 s.2.1 ∧ Left (fal ins + fal ends) s.2.2.1 s.1 s.2.1 ∧ s.2.2.2 = (f.blocks.length : Int) - ((i + 1 : Nat) : Int)) (fun z => LI f z.1 z.2.1 ∧ Left (fal ins + fal ends) z.2.2 z.1 z.2.1) (nO hn (by omega)) (fun i s hi hI => ?_) (fun s hI => ?_) ⟨hL, ⟨Nat.le_refl _, fun h => by cases h⟩, rfl⟩
  · obtain ⟨N, E, g, q⟩ := s
    obtain ⟨h1, h2, rfl⟩ := hI
    simp only at h1 h2
    have hj : (f.blocks.length : Int) - ((i + 1 : Nat) : Int) = ((f.blocks.length - 1 - i : Nat) : Int) := by omega
    have hjl : f.blocks.length - 1 - i < f.blocks.length := by omega
    have e1 : w64 (((f.blocks.length - 1 - i : Nat) : Int) - 1) = (f.blocks.length : Int) - ((i + 1 + 1 : Nat) : Int) := by rw [qa ⟨by omega, by omega⟩]; omega
    have hrow := rS f ht (f.blocks.length - 1 - i) _ (qq f _ hjl)
    rw [oP] at hrow
    have hix : idx (nI f) ((f.blocks.length - 1 - i : Nat) : Int) = some (succs f.blocks.length (f.blocks[f.blocks.length - 1 - i]).term.to) := by rw [oz]; exact qq f _ hjl
    obtain ⟨z, hz, hz1, hz2⟩ := yv f hf (fal ins + fal ends) (f.blocks.length - 1 - i) hjl N E g h1 h2 _ hrow.1 hrow.2
    obtain ⟨re, r1, r2, r3⟩ := hz1.dimE.get (b := ((f.blocks.length - 1 - i : Nat) : Int)) (by omega) (by omega)
    rw [Int.toNat_natCast] at r2
    obtain ⟨y, hy, hy1, hy2⟩ := yw f hf (fal ins + fal ends) (f.blocks.length - 1 - i) hjl N z.1 z.2 hz1 hz2 re r2
    have hb := uQ f.blocks[f.blocks.length - 1 - i] re (hf.sm.2.2.2 _ (List.getElem_mem hjl)) (by rw [r3]; exact hf.regs _ (List.getElem_mem hjl)) (by rw [r3]; exact hf.sm.2.1)
    refine .inr ⟨(y.1, z.1, y.2, (f.blocks.length : Int) - ((i + 1 + 1 : Nat) : Int)), ?_, hy1, hy2, rfl⟩
    simp only [nM.bd57, hj]
    rw [if_pos (by omega), hix]
    simp only [Option.bind_some, hz, nM.nx74, nJ hjl, r1, hb, hy, nM.nx89, e1]
  · obtain ⟨N, E, g, q⟩ := s
    obtain ⟨h1, h2, rfl⟩ := hI
    refine ⟨(N, E, g), ?_, h1, h2⟩
    simp only [nM.bd57]
    rw [if_neg (by omega)]
theorem uR (n k : Nat) (T : List (List Bool)) (h : Dim n k T) : fal T ≤ n * k := by
  obtain ⟨h1, h2⟩ := h
  induction T generalizing n with
  | nil => simp [fal]
  | cons r T ih =>
    have hr := h2 r (by simp)
    have := ih (n := n - 1) (by simp at h1; omega) (fun x hx => h2 x (List.mem_cons_of_mem _ hx))
    have hc : cnt r ≤ k := by rw [← hr]; exact List.count_le_length
    obtain ⟨m, rfl⟩ : ∃ m, n = m + 1 := ⟨n - 1, by simp at h1; omega⟩
    simp only [fal, List.map_cons, List.sum_cons, Nat.add_sub_cancel] at this ⊢
    rw [Nat.add_mul]; omega
theorem yy (m : nR) (hm : SmM m) (a : Int) : Says (qP m a) (Proper m ∧ 0 ≤ a ∧ a < (m.funcs.length : Int)) := by
  unfold qP
  obtain ⟨e, he1, he2⟩ := rW m hm
  rw [he1]
  simp only [Option.bind_some]
  by_cases h : e = GErr.no
  · rw [if_neg (by simpa using h)]
    by_cases h2 : a < 0 ∨ a ≥ len m.funcs
    · rw [if_pos h2]; exact .code fun h3 => by simp only [len] at h2; omega
    · rw [if_neg h2]
      simp only [not_or, len] at h2
      exact .no ⟨he2.1 h, by omega, by omega⟩
  · rw [if_pos h]; exact ⟨e, rfl, fun h1 => absurd h1 h, fun h1 => (h (he2.2 h1.1)).elim⟩
end Go.Proofs.Ytpmcbahahjelnaa
namespace Go.Proofs.Ytpmcbahahjelnaa
open Go Go.Proofs
theorem uS (nx : List (List Int)) (k : Nat) (b : Int) (s : List Bool) (o : List Int) (z : List Bool × List Int) (h : og.it k b s nx o = some z) : ∃ p, z.2 = p ++ [b] := by
  cases k with
  | zero => simp [og.it] at h
  | succ k =>
    simp only [og.it, og.body] at h
    obtain ⟨x, _, h⟩ := nZ h
    obtain ⟨y, _, h⟩ := nZ h
    obtain ⟨q, _, h⟩ := nZ h
    simp only [og.nx10] at h
    obtain ⟨c, hc, h⟩ := nZ h
    cases h
    exact ⟨q.2, (ru hc).2⟩
theorem yz (f : ny) (hf : SmF f) {s : List Bool} {o : List Int} (hw : Walked f s o) : o = [] ∨ ∃ p, o.reverse = 0 :: p := by
  obtain ⟨s', o', hw', h0, h1⟩ := qz f hf
  have ho : o.reverse = o'.reverse := Option.some.inj (hw.ord.symm.trans hw'.ord)
  have ho' : o = o' := by rw [← List.reverse_reverse o, ho, List.reverse_reverse]
  subst ho'
  rcases Nat.eq_zero_or_pos f.blocks.length with h | h
  · exact .inl (h0 h).2
  · obtain ⟨_, _, hit⟩ := h1 h
    obtain ⟨p, hp⟩ := uS _ _ _ _ _ _ hit
    simp only at hp
    exact .inr ⟨p.reverse, by rw [hp]; simp⟩
/-! ### Rows that are written over -/
def Rows (n : Nat) (L : List nA) : Prop := L.length = n ∧ ∀ B ∈ L, SmB B
theorem Rows.set {n : Nat} {L : List nA} (h : Rows n L) (i : Nat) {B : nA} (hB : SmB B) : Rows n (L.set i B) :=
  ⟨by simp [h.1], fun x hx => (List.mem_or_eq_of_mem_set hx).elim (h.2 x) (fun e => e ▸ hB)⟩
end Go.Proofs.Ytpmcbahahjelnaa
namespace Go.Proofs.Ytpmcbahahjelnaa
open Go Go.Proofs
/-- Each block of the trimmed function is reached. -/
theorem yA (f : ny) (hf : SmF f) {s : List Bool} {o : List Int} (hw : Walked f s o) {s' : List Bool} {o' : List Int} (hw' : Walked (trimF f s) s' o') : s' = List.replicate (trimF f s).blocks.length true := by
  obtain ⟨s1, o1, hw1, h10, h11⟩ := qz f hf
  obtain rfl : s1 = s := Option.some.inj (hw1.rea.symm.trans hw.rea)
  obtain ⟨s2, o2, hw2, h20, h21⟩ := qz (trimF f s1) (sS f hf s1)
  obtain rfl : s2 = s' := Option.some.inj (hw2.rea.symm.trans hw'.rea)
  have hl := hw.len
  have hl2 := hw2.len
  rcases Nat.eq_zero_or_pos f.blocks.length with h0 | hpos
  · have : (trimF f s1).blocks.length = 0 := by simp [trimF, h0]
    rw [(h20 this).1, this]; rfl
  · obtain ⟨hV, hs0, _⟩ := h11 hpos
    have hs0' := rm.1 hs0
    have hpos' : 0 < (trimF f s1).blocks.length := by
      have := sT f s1 hl 0 hpos hs0'.2
      exact Nat.lt_of_le_of_lt (Nat.zero_le _) (List.getElem?_eq_some_iff.1 this).1
    obtain ⟨hV2, hs20, _⟩ := h21 hpos'
    have hfalse : ∀ (n v : Nat), v < n → (List.replicate n false)[v]? = some false := fun n v hv => by simp [hv]
    have hclos : Closed (nI (trimF f s1)) (sn s2) := fun v w row g1 g2 g3 => hV2.clos v w row g1 (hfalse _ v (by rw [← hl2]; exact (List.getElem?_eq_some_iff.1 g1).1)) g2 g3
    have hclosf : Closed (nI f) (sn s1) := fun v w row g1 g2 g3 => hV.clos v w row g1 (hfalse _ v (by rw [← hl]; exact (List.getElem?_eq_some_iff.1 g1).1)) g2 g3
    -- along a path
    have key : ∀ v, Reach (nI f) 0 v → sn s1 v ∧ sn s2 (rk s1 v) := by
      intro v hr
      induction hr with
      | refl => exact ⟨hs0, by simpa [rk] using hs20⟩
      | @step v w row _ g5 g6 ih =>
        obtain ⟨ih1, ih2⟩ := ih
        have hw1 := hclosf v w row ih1 g5 g6
        refine ⟨hw1, ?_⟩
        have hv := rm.1 ih1
        have hvl : v < f.blocks.length := by omega
        have hwl := rm.1 hw1
        rw [qq f v hvl] at g5
        cases g5
        have hg := sT f s1 hl v hvl hv.2
        obtain ⟨hgl, hge⟩ := List.getElem?_eq_some_iff.1 hg
        refine hclos (rk s1 v) (rk s1 w) _ ih2 (qq _ _ hgl) ?_
        rw [hge]
        have hgw := sT f s1 hl w (by omega) hwl.2
        have hgwl := (List.getElem?_eq_some_iff.1 hgw).1
        rw [qR]
        refine ⟨?_, by omega, by omega⟩
        simp only [trimB, List.mem_map]
        exact ⟨(w : Int), (qR.1 g6).1, x4 s1 w hwl.1 hwl.2⟩
    apply List.ext_getElem (by rw [hl2]; simp)
    intro k h1 h2
    rw [List.getElem_replicate]
    obtain ⟨i, hi, hsi, rfl⟩ := xZ f s1 hl k (by omega)
    have hsn : sn s1 i := rm.2 ⟨by omega, hsi⟩
    obtain ⟨r, hr0, hr⟩ := hV.reach i hsn (hfalse _ i hi)
    have hr0 : r = 0 := hr0
    subst hr0
    have := (key i hr).2
    exact (List.getElem?_eq_some_iff.1 this).2
end Go.Proofs.Ytpmcbahahjelnaa
namespace Go.Proofs.Ytpmcbahahjelnaa
open Go Go.Proofs
/-- Each one is of R, or a later one leads to it. -/
def Led (nx : List (List Int)) (R : Int → Prop) (l : List Int) : Prop := ∀ p v q, l = p ++ v :: q → R v ∨ ∃ u ∈ q, ∃ row, idx nx u = some row ∧ v ∈ row
theorem Led.mono {nx : List (List Int)} {R R' : Int → Prop} {l : List Int} (h : Led nx R l) (hr : ∀ v, R v → R' v) : Led nx R' l := fun p v q he => (h p v q he).imp (hr v) id
theorem Led.append {nx : List (List Int)} {R : Int → Prop} {a b : List Int} (h : Led nx R a) (k : Led nx R b) : Led nx R (a ++ b) := by
  intro p v q he
  rcases List.append_eq_append_iff.1 he with ⟨c, h1, h2⟩ | ⟨c, h1, h2⟩
  · exact k c v q h2
  · cases c with
    | nil => simp at h2; exact k [] v q h2.symm
    | cons x c =>
      simp only [List.cons_append, List.cons.injEq] at h2
      obtain ⟨rfl, rfl⟩ := h2
      rcases h p v c h1 with h | ⟨u, hu, h⟩
      · exact .inl h
      · exact .inr ⟨u, List.mem_append_left _ hu, h⟩
theorem Led.nil (nx : List (List Int)) (R : Int → Prop) : Led nx R [] := fun p v q he => by simp at he
/-- The one that leads to all of R is put behind. -/
theorem Led.snoc {nx : List (List Int)} {l : List Int} {b : Int} {row : List Int} (h : Led nx (· ∈ row) l) (hb : idx nx b = some row) : Led nx (· = b) (l ++ [b]) := by
  intro p v q he
  rcases List.append_eq_append_iff.1 he with ⟨c, h1, h2⟩ | ⟨c, h1, h2⟩
  · cases c with
    | nil => simp at h2; exact .inl h2.1.symm
    | cons x c => simp at h2
  · cases c with
    | nil => simp at h2; exact .inl h2.1
    | cons x c =>
      simp only [List.cons_append, List.cons.injEq] at h2
      obtain ⟨rfl, rfl⟩ := h2
      rcases h p v c h1 with h | ⟨u, hu, h⟩
      · exact .inr ⟨b, by simp, row, hb, h⟩
      · exact .inr ⟨u, List.mem_append_left _ hu, h⟩
theorem uT (nx : List (List Int)) : ∀ (k : Nat) (b : Int) (s : List Bool) (o : List Int) (z : List Bool × List Int), og.it k b s nx o = some z → ∃ new, z.2 = o ++ new ∧ Led nx (· = b) new
  | 0, b, s, o, z, h => by simp [og.it] at h
  | k + 1, b, s, o, z, h => by
    simp only [og.it, og.body] at h
    obtain ⟨x, _, h⟩ := nZ h
    obtain ⟨row, hrow, h⟩ := nZ h
    obtain ⟨q, hq, h⟩ := nZ h
    simp only [og.nx10] at h
    obtain ⟨c, hc, h⟩ := nZ h
    cases h
    have := qy (b := fun (s : List Bool × List Int × Int) => og.bd10 nx (og.it k) row s.1 s.2.1 s.2.2) (fun t : List Bool × List Int × Int => ∃ new, t.2.1 = o ++ new ∧ Led nx (· ∈ row) new) (fun r : List Bool × List Int => ∃ new, r.2 = o ++ new ∧ Led nx (· ∈ row) new)
      (fun t r hI hb => by
        simp only [og.bd10] at hb
        split at hb
        · obtain ⟨y, _, hb⟩ := nZ hb
          obtain ⟨y2, _, hb⟩ := nZ hb
          split at hb
          · obtain ⟨y3, _, hb⟩ := nZ hb; simp [og.jn21] at hb
          · simp [og.jn21] at hb
        · cases hb; exact hI)
      (fun t t' hI hb => by
        simp only [og.bd10] at hb
        split at hb
        · obtain ⟨y, hy, hb⟩ := nZ hb
          obtain ⟨y2, _, hb⟩ := nZ hb
          split at hb
          · obtain ⟨y3, hy3, hb⟩ := nZ hb
            simp only [og.jn21] at hb
            cases hb
            obtain ⟨new, h1, h2⟩ := hI
            obtain ⟨new2, h3, h4⟩ := uT nx k y t.1 t.2.1 y3 hy3
            refine ⟨new ++ new2, by simp only [h3, h1, List.append_assoc], h2.append (h4.mono fun v hv => ?_)⟩
            subst hv
            exact List.mem_of_getElem? (oM hy).2.2
          · simp only [og.jn21] at hb
            cases hb
            exact hI
        · cases hb) nD _ _ ⟨[], by simp, Led.nil _ _⟩ hq
    obtain ⟨new, h1, h2⟩ := this
    refine ⟨new ++ [b], ?_, h2.snoc hrow⟩
    rw [(ru hc).2, h1, List.append_assoc]
/-- What is known of the order. -/
structure Ord (f : ny) (s : List Bool) (R : List Int) : Prop where
  few : R.length ≤ 70
  cnt : R.length = s.count true
  all : ∀ x ∈ R, ∃ v : Nat, x = v ∧ v < f.blocks.length ∧ s.getD v false = true
  nodup : R.Nodup
  head : R = [] ∨ ∃ p, R = 0 :: p
  led : ∀ i (hi : i < R.length), 0 < i → ∃ k, ∃ hk : k < i, ∃ u : Nat, R[k]'(by omega) = (u : Int) ∧ ∃ hu : u < f.blocks.length, R[i] ∈ f.blocks[u].term.to
theorem yB (f : ny) (hf : SmF f) {s : List Bool} {o : List Int} (hw : Walked f s o) : Ord f s o.reverse := by
  obtain ⟨s1, o1, hw1, h10, h11⟩ := qz f hf
  obtain rfl : s1 = s := Option.some.inj (hw1.rea.symm.trans hw.rea)
  have ho : o.reverse = o1.reverse := Option.some.inj (hw.ord.symm.trans hw1.ord)
  obtain rfl : o = o1 := by rw [← List.reverse_reverse o, ho, List.reverse_reverse]
  have hhead : o.reverse = [] ∨ ∃ p, o.reverse = 0 :: p := (yz f hf hw).imp (fun h => by rw [h]; rfl) id
  have hl := hw.len
  rcases Nat.eq_zero_or_pos f.blocks.length with h0 | hpos
  · obtain ⟨rfl, rfl⟩ := h10 h0
    exact ⟨by simp, by simp, by simp, by simp, hhead, fun i hi => by simp at hi⟩
  · obtain ⟨hV, hs0, hit⟩ := h11 hpos
    obtain ⟨new, hn1, hn2, hn3⟩ := hV.app
    simp only [List.nil_append] at hn1
    subst hn1
    have hfalse : ∀ v, v < f.blocks.length → (List.replicate f.blocks.length false)[v]? = some false := fun v hv => by simp [hv]
    have hmem : ∀ x, x ∈ o ↔ ∃ v : Nat, x = v ∧ v < f.blocks.length ∧ s1.getD v false = true := by
      intro x
      rw [hn3]
      constructor
      · rintro ⟨v, h1, h2, _⟩
        have := rm.1 (show sn s1 v from h2)
        exact ⟨v, h1, by omega, this.2⟩
      · rintro ⟨v, h1, h2, h3⟩
        exact ⟨v, h1, rm.2 ⟨by omega, h3⟩, hfalse v h2⟩
    have hcnt : o.length = s1.count true := by
      have hp : o.Perm ((List.range f.blocks.length).filterMap fun i => if s1.getD i false = true then some (i : Int) else none) := by
        rw [List.perm_ext_iff_of_nodup hn2]
        · intro x
          rw [hmem, List.mem_filterMap]
          constructor
          · rintro ⟨v, h1, h2, h3⟩
            exact ⟨v, List.mem_range.2 h2, by rw [if_pos h3, h1]⟩
          · rintro ⟨v, h1, h2⟩
            split at h2
            · cases h2; exact ⟨v, rfl, List.mem_range.1 h1, ‹_›⟩
            · cases h2
        · rw [List.Nodup, List.pairwise_filterMap]
          refine List.Pairwise.imp ?_ (List.pairwise_lt_range (n := f.blocks.length))
          intro a b hab x hx y hy
          split at hx
          · split at hy
            · cases hx; cases hy; omega
            · cases hy
          · cases hx
      rw [hp.length_eq, ← hl]
      have := rU (s := s1) (t := fun i => if s1.getD i false = true then some (i : Int) else none) (fun i _ => by cases s1.getD i false <;> simp) s1.length (Nat.le_refl _)
      rw [this, rk, List.take_length]
    refine ⟨by simpa using hw.few, by simpa using hcnt, fun x hx => (hmem x).1 (List.mem_reverse.1 hx), List.pairwise_reverse.2 (hn2.imp fun h => Ne.symm h), hhead, fun i hi hi0 => ?_⟩
    obtain ⟨new, hnew, hled⟩ := uT _ _ _ _ _ _ hit
    simp only [List.nil_append] at hnew
    subst hnew
    obtain ⟨p0, hp0⟩ := uS _ _ _ _ _ _ hit
    simp only at hp0
    have hil : i < o.length := by simpa using hi
    -- the place from the other end
    have hsplit : o = o.take (o.length - 1 - i) ++ o[o.length - 1 - i] :: o.drop (o.length - 1 - i + 1) := by
      rw [List.getElem_cons_drop, List.take_append_drop]
    have hri : o.reverse[i] = o[o.length - 1 - i] := by rw [List.getElem_reverse]
    have hdl : (o.drop (o.length - 1 - i + 1)).length = i := by simp; omega
    rcases hled _ _ _ hsplit with hv | ⟨u, hu, row, hrow, hin⟩
    · -- the first one
      exfalso
      have h1 : o[o.length - 1] = 0 := by
        have : o.length = p0.length + 1 := by rw [hp0]; simp
        have h2 : o[o.length - 1]? = some 0 := by rw [hp0]; simp
        rw [List.getElem?_eq_getElem (by omega)] at h2
        exact Option.some.inj h2
      have := (List.pairwise_iff_getElem.1 hn2) (o.length - 1 - i) (o.length - 1) (by omega) (by omega) (by omega)
      exact this (hv.trans h1.symm)
    · obtain ⟨j, hj, hje⟩ := List.getElem_of_mem hu
      rw [hdl] at hj
      rw [List.getElem_drop] at hje
      refine ⟨i - 1 - j, by omega, ?_⟩
      have hk : o.reverse[i - 1 - j]'(by simp; omega) = u := by
        rw [List.getElem_reverse, ← hje]
        congr 1
        omega
      obtain ⟨v, hv1, hv2, hv3⟩ := (hmem u).1 (by rw [← hk]; exact List.mem_reverse.1 (List.getElem_mem _))
      subst hv1
      refine ⟨v, hk, hv2, ?_⟩
      rw [oz, qq f v hv2] at hrow
      cases hrow
      rw [hri]
      exact (qR.1 hin).1
end Go.Proofs.Ytpmcbahahjelnaa
namespace Go.Proofs.Ytpmcbahahjelnaa
open Go Go.Proofs
inductive Anc (M : Nat → Nat) (z : Nat) : Nat → Prop
  | refl : Anc M z z
  | step {b : Nat} : b ≠ 0 → Anc M z (M b) → Anc M z b
def Dn (n : Nat) (M : Nat → Nat) : Prop := ∀ b, b ≠ 0 → b < n → M b < b
variable {n : Nat} {M M' : Nat → Nat}
theorem Anc.cases' {z b : Nat} (h : Anc M z b) : z = b ∨ (b ≠ 0 ∧ Anc M z (M b)) := by
  cases h with
  | refl => exact .inl rfl
  | step h1 h2 => exact .inr ⟨h1, h2⟩
theorem Anc.le (hM : Dn n M) {z b : Nat} (h : Anc M z b) (hb : b < n) : z ≤ b := by
  induction h with
  | refl => exact Nat.le_refl _
  | step h1 h2 ih => have := hM _ h1 hb; have := ih (by omega); omega
theorem Anc.trans {z y b : Nat} (h : Anc M z y) (h' : Anc M y b) : Anc M z b := by
  induction h' with
  | refl => exact h
  | step h1 h2 ih => exact .step h1 ih
theorem Anc.agree (hM : Dn n M) {z b : Nat} (h : Anc M z b) (hb : b < n) (he : ∀ j, j ≤ b → M j = M' j) : Anc M' z b := by
  induction h with
  | refl => exact .refl
  | step h1 h2 ih =>
    have := hM _ h1 hb
    refine .step h1 ?_
    rw [← he _ (Nat.le_refl _)]
    exact ih (by omega) (fun j hj => he j (by omega))
def mixA (i : Nat) (A B : Nat → Nat) : Nat → Nat := fun j => if j < i then A j else B j
theorem rp {i j : Nat} {A B : Nat → Nat} (h : j < i) : mixA i A B j = A j := if_pos h
theorem rq {i j : Nat} {A B : Nat → Nat} (h : i ≤ j) : mixA i A B j = B j := if_neg (by omega)
theorem Dn.mixA {i : Nat} {A B : Nat → Nat} (hA : ∀ b, b ≠ 0 → b < i → A b < b) (hB : Dn n B) : Dn n (mixA i A B) := by
  intro b h0 hb
  unfold Go.Proofs.Ytpmcbahahjelnaa.mixA
  split
  · exact hA b h0 ‹_›
  · exact hB b h0 hb
theorem qs {i : Nat} {A B : Nat → Nat} (hA : Dn n A) {z b : Nat} (hb : b < i) (hn : b < n) (hX : Dn n (mixA i A B)) : Anc (mixA i A B) z b ↔ Anc A z b :=
  ⟨fun h => h.agree hX hn (fun j hj => rp (by omega)), fun h => h.agree hA hn (fun j hj => (rp (by omega)).symm)⟩
/-- Where the way up from p comes below i. -/
theorem uU (i : Nat) {B : Nat → Nat} (hB : Dn n B) : ∀ p, i ≤ p → p < n → 0 < i → ∃ g, g < i ∧ Anc B g p ∧ (∀ y, Anc B y p → y < i → y ≤ g) ∧ ∀ A : Nat → Nat, Dn n A → ∀ z, z < i → (Anc (mixA i A B) z p ↔ Anc A z g) := by
  intro p
  induction p using Nat.strongRecOn with
  | _ p ih =>
    intro hi hp h0
    have hp0 : p ≠ 0 := by omega
    have hlt := hB p hp0 hp
    by_cases hc : B p < i
    · refine ⟨B p, hc, .step hp0 .refl, fun y hy hyi => ?_, fun A hA z hz => ?_⟩
      · rcases hy.cases' with rfl | ⟨_, h⟩
        · omega
        · exact h.le hB (by omega)
      · have hX : Dn n (mixA i A B) := Dn.mixA (fun b h0 hb => hA b h0 (by omega)) hB
        constructor
        · intro h
          rcases h.cases' with rfl | ⟨_, h⟩
          · omega
          · rw [rq hi] at h
            exact (qs hA hc (by omega) hX).1 h
        · intro h
          refine .step hp0 ?_
          rw [rq hi]
          exact (qs hA hc (by omega) hX).2 h
    · obtain ⟨g, g1, g2, g3, g4⟩ := ih (B p) hlt (by omega) (by omega) h0
      refine ⟨g, g1, .step hp0 g2, fun y hy hyi => ?_, fun A hA z hz => ?_⟩
      · rcases hy.cases' with rfl | ⟨_, h⟩
        · omega
        · exact g3 y h hyi
      · constructor
        · intro h
          rcases h.cases' with rfl | ⟨_, h⟩
          · omega
          · rw [rq hi] at h
            exact (g4 A hA z hz).1 h
        · intro h
          refine .step hp0 ?_
          rw [rq hi]
          exact (g4 A hA z hz).2 h
/-! ### Passes -/
variable {P : Nat → Nat → Prop}
/-- P p i: place p leads to place i. -/
structure Lead (n : Nat) (P : Nat → Nat → Prop) : Prop where
  lt : ∀ p i, P p i → i < n → p < n
  fwd : ∀ i, 0 < i → i < n → ∃ q, P q i ∧ q < i
def First (n : Nat) (P : Nat → Nat → Prop) (N : Nat → Nat) : Prop := ∀ i, 0 < i → i < n → ∀ z, Anc N z (N i) ↔ ∀ p, P p i → p < i → Anc N z p
def Pass (n : Nat) (P : Nat → Nat → Prop) (O N : Nat → Nat) : Prop := ∀ i, 0 < i → i < n → ∀ z, Anc N z (N i) ↔ ∀ p, P p i → Anc (mixA i N O) z p
def Fwd (n : Nat) (P : Nat → Nat → Prop) (N : Nat → Nat) : Prop := ∀ i q z, 0 < i → i < n → P q i → q < i → Anc N z i → z = i ∨ Anc N z q
theorem First.fwd {N : Nat → Nat} (h : First n P N) : Fwd n P N := fun i q z h0 hi hq hlt ha => by
  rcases ha.cases' with rfl | ⟨_, h1⟩
  · exact .inl rfl
  · exact .inr ((h i h0 hi z).1 h1 q hq hlt)
theorem Pass.fwd {O N : Nat → Nat} (h : Pass n P O N) (hO : Dn n O) (hN : Dn n N) : Fwd n P N := fun i q z h0 hi hq hlt ha => by
  rcases ha.cases' with rfl | ⟨_, h1⟩
  · exact .inl rfl
  · exact .inr ((qs hN hlt (by omega) (Dn.mixA (fun b hb hbi => hN b hb (by omega)) hO)).1 ((h i h0 hi z).1 h1 q hq))
/-- A way on, place by place. -/
inductive Way (P : Nat → Nat → Prop) (g : Nat) : Nat → Prop
  | refl : Way P g g
  | step {q p : Nat} : Way P g q → P q p → q < p → Way P g p
theorem Way.le {g p : Nat} (h : Way P g p) : g ≤ p := by
  induction h with
  | refl => exact Nat.le_refl _
  | step _ _ h3 ih => omega
theorem Way.down {N : Nat → Nat} (hN : Dn n N) (hF : Fwd n P N) {g p z : Nat} (h : Way P g p) (hp : p < n) (hz : Anc N z p) (hzg : z ≤ g) : Anc N z g ∧ g ≤ p := by
  induction h with
  | refl => exact ⟨hz, Nat.le_refl _⟩
  | @step q p h1 h2 h3 ih =>
    have hgq : g ≤ q := h1.le
    rcases hF p q z (by omega) hp h2 h3 hz with rfl | h4
    · omega
    · exact ⟨(ih (by omega) h4).1, by omega⟩
theorem Anc.way {N : Nat → Nat} (hL : Lead n P) (hN : Dn n N) (hF : Fwd n P N) {g : Nat} : ∀ p, p < n → Anc N g p → Way P g p := by
  intro p
  induction p using Nat.strongRecOn with
  | _ p ih =>
    intro hp h
    by_cases he : g = p
    · subst he; exact .refl
    · have h0 : 0 < p := by
        rcases Nat.eq_zero_or_pos p with h0 | h0
        · subst h0; have := h.le hN hp; omega
        · exact h0
      obtain ⟨q, hq, hlt⟩ := hL.fwd p h0 hp
      rcases hF p q g h0 hp hq hlt h with h1 | h1
      · exact absurd h1 he
      · exact .step (ih q hlt (by omega) h1) hq hlt
/-- Come to from place 0 without place z. -/
inductive Free (n : Nat) (P : Nat → Nat → Prop) (z : Nat) : Nat → Prop
  | base : z ≠ 0 → Free n P z 0
  | step {p i : Nat} : Free n P z p → P p i → i < n → i ≠ z → Free n P z i
/-- What dominates a place dominates what stands above it, or is it. -/
def Tru (n k : Nat) (P : Nat → Nat → Prop) (M : Nat → Nat) : Prop := ∀ i, 0 < i → i < k → ∀ z, z ≠ i → ¬ Free n P z i → ¬ Free n P z (M i)
theorem Tru.anc {k : Nat} {M : Nat → Nat} (hM : Dn k M) (hT : Tru n k P M) {z : Nat} : ∀ b, b < k → ¬ Free n P z b → Anc M z b := by
  intro b
  induction b using Nat.strongRecOn with
  | _ b ih =>
    intro hb hz
    by_cases e : z = b
    · subst e; exact .refl
    rcases Nat.eq_zero_or_pos b with h0 | h0
    · subst h0; exact absurd (.base e) hz
    · have hlt := hM b (by omega) hb
      exact .step (by omega) (ih (M b) hlt (by omega) (hT b h0 hb z e hz))
theorem Tru.mid {k : Nat} {M : Nat → Nat} (hM : Dn k M) (hT : Tru n k P M) {z κ p : Nat} (h : Anc M κ p) (hp : p < k) (hz : Anc M z κ) (hf : ¬ Free n P z p) : ¬ Free n P z κ := by
  induction h with
  | refl => exact hf
  | @step b h0 h2 ih =>
    have hlt := hM b h0 hp
    have h1 := h2.le hM (by omega)
    have h3 := hz.le hM (by omega)
    exact ih (by omega) (hT b (by omega) hp z (by omega) hf)
theorem Tru.up {X N : Nat → Nat} (hL : Lead n P) (hX : Dn n X) {i : Nat} (h0 : 0 < i) (hi : i < n) (hT : Tru n i P X) (hNi : N i < i) (hN : ∀ j, j < i → N j = X j) (h : ∀ z, Anc X z (N i) ↔ ∀ p, P p i → p < i → Anc X z p) : ∀ z, z ≠ i → ¬ Free n P z i → ¬ Free n P z (N i) := by
  intro z hz hf
  have hXi : Dn i X := fun b hb hbi => hX b hb (by omega)
  have hall : ∀ p, P p i → ¬ Free n P z p := fun p hp hfp => hf (.step hfp hp hi (Ne.symm hz))
  obtain ⟨q, hq, hlt⟩ := hL.fwd i h0 hi
  have h1 : Anc X z (N i) := (h z).2 fun p hp hpi => Tru.anc hXi hT p hpi (hall p hp)
  have h2 : Anc X (N i) q := (h (N i)).1 .refl q hq hlt
  exact Tru.mid hXi hT h2 hlt h1 (hall q hq)
theorem First.tru {N : Nat → Nat} (hL : Lead n P) (hN : Dn n N) (h : First n P N) : Tru n n P N := by
  have : ∀ k, k ≤ n → Tru n k P N := by
    intro k
    induction k with
    | zero => intro _ i _ hi; omega
    | succ k ih =>
      intro hk i h0 hi
      rcases Nat.lt_or_ge i k with hlt | hge
      · exact ih (by omega) i h0 hlt
      · obtain rfl : i = k := by omega
        exact Tru.up hL hN h0 (by omega) (ih (by omega)) (hN i (by omega) (by omega)) (fun _ _ => rfl) (h i h0 (by omega))
  exact this n (Nat.le_refl _)
theorem Pass.tru {O N : Nat → Nat} (hL : Lead n P) (hO : Dn n O) (hT : Tru n n P O) (hN : Dn n N) (h : Pass n P O N) : Tru n n P N := by
  have : ∀ k, k ≤ n → Tru n k P N := by
    intro k
    induction k with
    | zero => intro _ i _ hi; omega
    | succ k ih =>
      intro hk i h0 hi z hz hf
      rcases Nat.lt_or_ge i k with hlt | hge
      · exact ih (by omega) i h0 hlt z hz hf
      · obtain rfl : i = k := by omega
        have hX : Dn n (mixA i N O) := Dn.mixA (fun b hb hbi => hN b hb (by omega)) hO
        have hTX : Tru n n P (mixA i N O) := fun j j0 jn y hy hfy => by
          rcases Nat.lt_or_ge j i with hj | hj
          · rw [rp hj]; exact ih (by omega) j j0 hj y hy hfy
          · rw [rq hj]; exact hT j j0 jn y hy hfy
        have hall : ∀ p, P p i → ¬ Free n P z p := fun p hp hfp => hf (.step hfp hp (by omega) (Ne.symm hz))
        obtain ⟨q, hq, hlt⟩ := hL.fwd i h0 (by omega)
        have hNi := hN i (by omega) (by omega)
        have h1 : Anc N z (N i) := (h i h0 (by omega) z).2 fun p hp => Tru.anc hX hTX p (hL.lt p i hp (by omega)) (hall p hp)
        have h2 : Anc (mixA i N O) (N i) q := (h i h0 (by omega) (N i)).1 .refl q hq
        exact Tru.mid hX hTX h2 (by omega) ((qs hN hNi (by omega) hX).2 h1) (hall q hq)
  exact this n (Nat.le_refl _)
/-- What stands at a round's head behind the first pass. -/
structure Hist (n : Nat) (P : Nat → Nat → Prop) (O : Nat → Nat) : Prop where
  dn : Dn n O
  fwd : Fwd n P O
  tru : Tru n n P O
  prev : First n P O ∨ ∃ O', Dn n O' ∧ Fwd n P O' ∧ Pass n P O' O ∧ ∀ z i, i < n → Anc O z i → Anc O' z i
theorem Hist.mono {O N : Nat → Nat} (hL : Lead n P) (h : Hist n P O) (hN : Dn n N) (hp : Pass n P O N) : ∀ i, i < n → ∀ z, Anc N z i → Anc O z i := by
  intro i
  induction i using Nat.strongRecOn with
  | _ i ih =>
    intro hi z hz
    rcases hz.cases' with rfl | ⟨h0, hz1⟩
    · exact .refl
    have h0' : 0 < i := by omega
    have hlt := hN i h0 hi
    have hzi : z < i := by have := hz1.le hN (by omega); omega
    have hall := (hp i h0' hi z).1 hz1
    have hmN : Dn n (mixA i N O) := Dn.mixA (fun b hb hbi => hN b hb (by omega)) h.dn
    refine .step h0 ?_
    rcases h.prev with hf | ⟨O', d', f', p', m'⟩
    · refine (hf i h0' hi z).2 fun p hpi hplt => ?_
      exact ih p hplt (by omega) z ((qs hN hplt (by omega) hmN).1 (hall p hpi))
    · refine (p' i h0' hi z).2 fun p hpi => ?_
      have hpn := hL.lt p i hpi hi
      have hmO : Dn n (mixA i O O') := Dn.mixA (fun b hb hbi => h.dn b hb (by omega)) d'
      rcases Nat.lt_or_ge p i with hplt | hpge
      · exact (qs h.dn hplt hpn hmO).2 (ih p hplt hpn z ((qs hN hplt hpn hmN).1 (hall p hpi)))
      · obtain ⟨g, g1, g2, g3, g4⟩ := uU i h.dn p hpge hpn h0'
        obtain ⟨g', k1, k2, k3, k4⟩ := uU i d' p hpge hpn h0'
        have hzg : Anc N z g := (g4 N hN z hzi).1 (hall p hpi)
        have hOg : Anc O z g := ih g g1 (by omega) z hzg
        have hOp : Anc O z p := hOg.trans g2
        have hgg : g ≤ g' := k3 g (m' g p hpn g2) g1
        have hzle : z ≤ g := hzg.le hN (by omega)
        exact (k4 O h.dn z hzi).2 (Way.down h.dn h.fwd (Anc.way hL d' f' p hpn k2) hpn hOp (by omega)).1
theorem Hist.next {O N : Nat → Nat} (hL : Lead n P) (h : Hist n P O) (hN : Dn n N) (hp : Pass n P O N) : Hist n P N ∧ ∀ i, i < n → 0 < i → N i ≤ O i := by
  have hm := h.mono hL hN hp
  refine ⟨⟨hN, hp.fwd h.dn hN, hp.tru hL h.dn h.tru hN, .inr ⟨O, h.dn, h.fwd, hp, fun z i hi hz => hm i hi z hz⟩⟩, fun i hi h0 => ?_⟩
  have h1 : Anc O (N i) i := hm i hi (N i) (.step (by omega) .refl)
  have hlt := hN i (by omega) hi
  rcases h1.cases' with h2 | ⟨_, h2⟩
  · omega
  · exact h2.le h.dn (by have := h.dn i (by omega) hi; omega)
end Go.Proofs.Ytpmcbahahjelnaa
namespace Go.Proofs.Ytpmcbahahjelnaa
open Go Go.Proofs
/-- A function all whose blocks are reached, in their order. -/
structure Full (f : ny) (R : List Int) : Prop where
  sm : SmF f
  pos : 0 < f.blocks.length
  ord : qw f = some R
  rea : ql f = some (List.replicate f.blocks.length true)
  len : R.length = f.blocks.length
  all : ∀ i (hi : i < R.length), ∃ v : Nat, R[i] = v ∧ v < f.blocks.length
  mem : ∀ v : Nat, v < f.blocks.length → (v : Int) ∈ R
  nodup : R.Nodup
  head : R[0]? = some 0
  led : ∀ i (hi : i < R.length), 0 < i → ∃ k, ∃ hk : k < i, ∃ u : Nat, R[k]'(by omega) = (u : Int) ∧ ∃ hu : u < f.blocks.length, R[i] ∈ f.blocks[u].term.to
theorem uV (f : ny) (hf : SmF f) (hpos : 0 < f.blocks.length) {s : List Bool} {o : List Int} (hw : Walked f s o) (hs : s = List.replicate f.blocks.length true) : Full f o.reverse := by
  have hO := yB f hf hw
  obtain ⟨s1, o1, hw1, h10, h11⟩ := qz f hf
  obtain rfl : s1 = s := Option.some.inj (hw1.rea.symm.trans hw.rea)
  have ho : o.reverse = o1.reverse := Option.some.inj (hw.ord.symm.trans hw1.ord)
  obtain rfl : o = o1 := by rw [← List.reverse_reverse o, ho, List.reverse_reverse]
  obtain ⟨hV, hs0, hit⟩ := h11 hpos
  obtain ⟨new, hn1, hn2, hn3⟩ := hV.app
  simp only [List.nil_append] at hn1
  subst hn1
  have hlen : o.reverse.length = f.blocks.length := by rw [hO.cnt, hs, List.count_replicate_self]
  refine ⟨hf, hpos, hw.ord, hs ▸ hw.rea, hlen, fun i hi => ?_, fun v hv => ?_, hO.nodup, ?_, hO.led⟩
  · obtain ⟨v, h1, h2, _⟩ := hO.all _ (List.getElem_mem hi)
    exact ⟨v, h1, h2⟩
  · rw [List.mem_reverse, hn3]
    exact ⟨v, rfl, by rw [hs]; simp [hv], by simp [hv]⟩
  · rcases hO.head with h | ⟨p, h⟩
    · rw [h] at hlen; simp at hlen; omega
    · rw [h]; rfl
def ob (R : List Int) (i : Nat) : Nat := (R.getD i 0).toNat
def pb (R : List Int) (b : Nat) : Nat := R.idxOf (b : Int)
section
variable {f : ny} {R : List Int}
theorem Full.get (h : Full f R) {i : Nat} (hi : i < f.blocks.length) : R[i]? = some ((ob R i : Nat) : Int) ∧ ob R i < f.blocks.length := by
  have hi' : i < R.length := by rw [h.len]; exact hi
  obtain ⟨v, h1, h2⟩ := h.all i hi'
  have : ob R i = v := by unfold ob; rw [List.getD_eq_getElem?_getD, List.getElem?_eq_getElem hi', h1]; rfl
  rw [this, List.getElem?_eq_getElem hi', h1]
  exact ⟨rfl, h2⟩
theorem Full.pb_ob (h : Full f R) {i : Nat} (hi : i < f.blocks.length) : pb R (ob R i) = i := by
  have hi' : i < R.length := by rw [h.len]; exact hi
  obtain ⟨h1, _⟩ := h.get hi
  rw [List.getElem?_eq_getElem hi'] at h1
  unfold pb
  rw [← Option.some.inj h1]
  exact h.nodup.idxOf_getElem i hi'
theorem Full.ob_pb (h : Full f R) {b : Nat} (hb : b < f.blocks.length) : ob R (pb R b) = b ∧ pb R b < f.blocks.length := by
  have hm := h.mem b hb
  have hlt : pb R b < R.length := List.idxOf_lt_length_of_mem hm
  refine ⟨?_, by rw [← h.len]; exact hlt⟩
  unfold ob
  rw [List.getD_eq_getElem?_getD, List.getElem?_eq_getElem hlt]
  show (R[R.idxOf (b : Int)]'hlt).toNat = b
  rw [List.getElem_idxOf hlt]; rfl
theorem Full.ob0 (h : Full f R) : ob R 0 = 0 := by
  obtain ⟨h1, _⟩ := h.get h.pos
  rw [h.head] at h1
  have := Option.some.inj h1
  omega
theorem Full.pb0 (h : Full f R) : pb R 0 = 0 := by
  have := h.pb_ob h.pos
  rwa [h.ob0] at this
theorem Full.ob_inj (h : Full f R) {i j : Nat} (hi : i < f.blocks.length) (hj : j < f.blocks.length) (he : ob R i = ob R j) : i = j := by
  rw [← h.pb_ob hi, ← h.pb_ob hj, he]
/-! ### Nearest ones as a list of blocks -/
structure Ts (f : ny) (R : List Int) (D : Nat → Prop) (M : Nat → Nat) (S : List Int) : Prop where
  len : S.length = f.blocks.length
  on : ∀ j, j < f.blocks.length → D j → S[ob R j]? = some ((ob R (M j) : Nat) : Int)
  off : ∀ j, j < f.blocks.length → ¬ D j → S[ob R j]? = some (-1)
  dn : Dn f.blocks.length M
  cl : ∀ j, j < f.blocks.length → D j → D (M j)
def plL (f : ny) (R : List Int) : List Int := (List.range f.blocks.length).map fun b => ((pb R b : Nat) : Int)
theorem yC {b : Nat} (hb : b < f.blocks.length) : idx (plL f R) (b : Int) = some ((pb R b : Nat) : Int) := by
  rw [oz]; simp [plL, hb]
theorem Full.plL_ob (h : Full f R) {i : Nat} (hi : i < f.blocks.length) : idx (plL f R) ((ob R i : Nat) : Int) = some (i : Int) := by
  rw [yC (h.get hi).2, h.pb_ob hi]
variable {D : Nat → Prop} {M : Nat → Nat} {S : List Int}
theorem Ts.get (hS : Ts f R D M S) {j : Nat} (hj : j < f.blocks.length) (hD : D j) : idx S ((ob R j : Nat) : Int) = some ((ob R (M j) : Nat) : Int) := by rw [oz]; exact hS.on j hj hD
theorem rY {m : Nat} (h : m ≤ 1000000) : m < nD := oW (by simp only [maxLen]; omega)
/-- Up from a until it isn't behind b. -/
theorem uW (h : Full f R) (hS : Ts f R D M S) (β : Nat) (hβ : β < f.blocks.length) (body : Int → Option (Ex Int Int))
    (hb : ∀ α, α < f.blocks.length → D α → body ((ob R α : Nat) : Int) = some (if (α : Int) > (β : Int) then .go ((ob R (M α) : Nat) : Int) else .ret ((ob R α : Nat) : Int))) (α : Nat) (hα : α < f.blocks.length) (hD : D α) :
    ∃ α', whl body nD ((ob R α : Nat) : Int) = some ((ob R α' : Nat) : Int) ∧ α' < f.blocks.length ∧ D α' ∧ α' ≤ α ∧ α' ≤ β ∧ ∀ z, z ≤ β → (Anc M z α' ↔ Anc M z α) := by
  have hn := h.sm.1
  obtain ⟨r, hr, a', h1, h2⟩ := qp (body := body) (fun s => ∃ a, s = ((ob R a : Nat) : Int) ∧ a < f.blocks.length ∧ D a ∧ a ≤ α ∧ ∀ z, z ≤ β → (Anc M z a ↔ Anc M z α)) (fun s => pb R s.toNat)
    (fun r => ∃ a, r = ((ob R a : Nat) : Int) ∧ a < f.blocks.length ∧ D a ∧ a ≤ α ∧ a ≤ β ∧ ∀ z, z ≤ β → (Anc M z a ↔ Anc M z α)) (by
      rintro s ⟨a, rfl, g1, g2, g3, g4⟩
      rw [hb a g1 g2]
      by_cases hc : (a : Int) > (β : Int)
      · rw [if_pos hc]
        have ha0 : a ≠ 0 := by omega
        have hlt := hS.dn a ha0 g1
        refine .inr ⟨_, rfl, ⟨M a, rfl, by omega, hS.cl a g1 g2, by omega, fun z hz => ?_⟩, ?_⟩
        · rw [← g4 z hz]
          constructor
          · exact fun k => .step ha0 k
          · intro k
            rcases k.cases' with rfl | ⟨_, k⟩
            · omega
            · exact k
        · rw [Int.toNat_natCast, Int.toNat_natCast, h.pb_ob g1, h.pb_ob (by omega)]; exact hlt
      · rw [if_neg hc]
        exact .inl ⟨_, rfl, a, rfl, g1, g2, g3, by omega, g4⟩) nD _ ⟨α, rfl, hα, hD, Nat.le_refl _, fun z _ => Iff.rfl⟩ (by rw [Int.toNat_natCast, h.pb_ob hα]; exact rY (by omega))
  exact ⟨a', by rw [hr, h1], h2⟩
theorem yD (h : Full f R) (hS : Ts f R D M S) (α β : Nat) (hα : α < f.blocks.length) (hβ : β < f.blocks.length) (hDa : D α) (hDb : D β) :
    ∃ κ, oT S (plL f R) ((ob R α : Nat) : Int) ((ob R β : Nat) : Int) = some ((ob R κ : Nat) : Int) ∧ κ < f.blocks.length ∧ D κ ∧ ∀ z, Anc M z κ ↔ (Anc M z α ∧ Anc M z β) := by
  have hn := h.sm.1
  unfold oT
  obtain ⟨r, hr, κ, h1, h2, h3, h4⟩ := qp (body := fun (s : Int × Int) => oT.bd8 S (plL f R) s.1 s.2)
    (fun s => ∃ a b, s = (((ob R a : Nat) : Int), ((ob R b : Nat) : Int)) ∧ a < f.blocks.length ∧ b < f.blocks.length ∧ D a ∧ D b ∧ ∀ z, (Anc M z a ∧ Anc M z b) ↔ (Anc M z α ∧ Anc M z β))
    (fun s => pb R s.1.toNat + pb R s.2.toNat) (fun r => ∃ κ, r = ((ob R κ : Nat) : Int) ∧ κ < f.blocks.length ∧ D κ ∧ ∀ z, Anc M z κ ↔ (Anc M z α ∧ Anc M z β)) (by
      rintro s ⟨a, b, rfl, ha, hb, hDa, hDb, hz⟩
      simp only [oT.bd8]
      by_cases hc : ((ob R a : Nat) : Int) = ((ob R b : Nat) : Int)
      · have hab : a = b := h.ob_inj ha hb (by omega)
        subst hab
        rw [if_neg (by simp)]
        exact .inl ⟨_, rfl, a, rfl, ha, hDa, fun z => by rw [← hz z, and_self]⟩
      · rw [if_pos hc]
        obtain ⟨a', g1, g2, g3, g4, g5, g6⟩ := uW h hS b hb (fun s => oT.bd24 S (plL f R) ((ob R b : Nat) : Int) s) (fun x hx hDx => by
          simp only [oT.bd24, h.plL_ob hx, h.plL_ob hb, Option.bind_some, hS.get hx hDx]
          split <;> rfl) a ha hDa
        rw [g1]
        simp only [Option.bind_some, oT.nx24]
        obtain ⟨b', k1, k2, k3, k4, k5, k6⟩ := uW h hS a' g2 (fun s => oT.bd31 S (plL f R) ((ob R a' : Nat) : Int) s) (fun x hx hDx => by
          simp only [oT.bd31, h.plL_ob hx, h.plL_ob g2, Option.bind_some, hS.get hx hDx]
          split <;> rfl) b hb hDb
        rw [k1]
        simp only [Option.bind_some, oT.nx31]
        refine .inr ⟨_, rfl, ⟨a', b', rfl, g2, k2, g3, k3, fun z => ?_⟩, ?_⟩
        · rw [← hz z]
          constructor
          · rintro ⟨m1, m2⟩
            have l1 := m1.le hS.dn g2
            have l2 := m2.le hS.dn k2
            exact ⟨(g6 z (by omega)).1 m1, (k6 z (by omega)).1 m2⟩
          · rintro ⟨m1, m2⟩
            have l1 := m1.le hS.dn ha
            have l2 := m2.le hS.dn hb
            have m3 := (g6 z (by omega)).2 m1
            have l3 := m3.le hS.dn g2
            exact ⟨m3, (k6 z l3).2 m2⟩
        · have hne : a ≠ b := fun e => hc (by rw [e])
          simp only [Int.toNat_natCast]
          rw [h.pb_ob ha, h.pb_ob hb, h.pb_ob g2, h.pb_ob k2]
          omega) nD _ ⟨α, β, rfl, hα, hβ, hDa, hDb, fun z => Iff.rfl⟩ (by simp only [Int.toNat_natCast]; rw [h.pb_ob hα, h.pb_ob hβ]; exact rY (by omega))
  exact ⟨κ, by rw [hr, h1]; rfl, h2, h3, h4⟩
end
end Go.Proofs.Ytpmcbahahjelnaa
namespace Go.Proofs.Ytpmcbahahjelnaa
open Go Go.Proofs
section
variable {f : ny} {R : List Int}
/-- Place p leads to place i. -/
def Pl (f : ny) (R : List Int) (p i : Nat) : Prop := p < f.blocks.length ∧ ((ob R i : Nat) : Int) ∈ (nI f).getD (ob R p) []
theorem sY (nx : List (List Int)) (t : Nat) (x : Int) : x ∈ ot nx t ↔ ∃ j : Nat, x = j ∧ j < nx.length ∧ (t : Int) ∈ nx.getD j [] := by
  unfold ot
  simp only [List.mem_map, List.mem_filter, List.mem_range, decide_eq_true_eq]
  constructor
  · rintro ⟨j, ⟨h1, h2⟩, rfl⟩; exact ⟨j, rfl, h1, h2⟩
  · rintro ⟨j, rfl, h1, h2⟩; exact ⟨j, ⟨h1, h2⟩, rfl⟩
theorem uX (f : ny) {v : Nat} (h : v < f.blocks.length) : (nI f).getD v [] = succs f.blocks.length f.blocks[v].term.to := by
  rw [List.getD_eq_getElem?_getD, qq f v h]; rfl
theorem Full.lead (h : Full f R) : Lead f.blocks.length (Pl f R) := by
  refine ⟨fun p i hp _ => hp.1, fun i h0 hi => ?_⟩
  obtain ⟨k, hk, u, h1, hu, h2⟩ := h.led i (by rw [h.len]; exact hi) h0
  have hk' : k < f.blocks.length := by omega
  have hob : ob R k = u := by
    have := (h.get hk').1
    rw [List.getElem?_eq_getElem (by rw [h.len]; exact hk'), h1] at this
    have := Option.some.inj this; omega
  have hobi : R[i]'(by rw [h.len]; exact hi) = ((ob R i : Nat) : Int) := by
    have := (h.get hi).1
    rw [List.getElem?_eq_getElem (by rw [h.len]; exact hi)] at this
    exact Option.some.inj this
  refine ⟨k, ⟨hk', ?_⟩, hk⟩
  rw [hob, uX f hu, qR]
  rw [hobi] at h2
  have := (h.get hi).2
  exact ⟨h2, by omega, by omega⟩
/-- The blocks that lead to the block of place i, as places. -/
theorem Full.preds (h : Full f R) {i : Nat} (hi : i < f.blocks.length) : ∀ x ∈ ot (nI f) (ob R i), ∃ p, x = ((ob R p : Nat) : Int) ∧ p < f.blocks.length ∧ Pl f R p i := fun x hx => by
  obtain ⟨j, rfl, h1, h2⟩ := (sY _ _ _).1 hx
  rw [oP] at h1
  obtain ⟨g1, g2⟩ := h.ob_pb h1
  exact ⟨pb R j, by rw [g1], g2, g2, by rw [g1]; exact h2⟩
theorem Full.preds' (h : Full f R) {i p : Nat} (hp : Pl f R p i) : ((ob R p : Nat) : Int) ∈ Go.Proofs.Ytpmcbahahjelnaa.ot (nI f) (ob R i) :=
  (sY _ _ _).2 ⟨ob R p, rfl, by rw [oP]; exact (h.get hp.1).2, hp.2⟩
/-! ### One place -/
variable {D : Nat → Prop} {M : Nat → Nat} {S : List Int}
/-- What is best, behind some of those that lead to a place. -/
def Best (f : ny) (R : List Int) (D : Nat → Prop) (M : Nat → Nat) (l : List Int) (b : Int) : Prop :=
  (b = -1 ∧ ∀ p, p < f.blocks.length → ((ob R p : Nat) : Int) ∈ l → ¬ D p) ∨
  ∃ κ, b = ((ob R κ : Nat) : Int) ∧ κ < f.blocks.length ∧ D κ ∧ ∀ z, Anc M z κ ↔ ∀ p, p < f.blocks.length → ((ob R p : Nat) : Int) ∈ l → D p → Anc M z p
theorem yE (h : Full f R) [hdec : DecidablePred D] (hS : Ts f R D M S) (l : List Int) (hl : l.length ≤ 1000) (hin : ∀ x ∈ l, ∃ p, x = ((ob R p : Nat) : Int) ∧ p < f.blocks.length)
    (hany : ∃ q, q < f.blocks.length ∧ ((ob R q : Nat) : Int) ∈ l ∧ D q) :
    ∃ κ, whl (fun (s : Int × Int) => nX.bd84 (plL f R) S l s.1 s.2) nD (-1, 0) = some ((ob R κ : Nat) : Int) ∧ κ < f.blocks.length ∧ D κ ∧ ∀ z, Anc M z κ ↔ ∀ p, p < f.blocks.length → ((ob R p : Nat) : Int) ∈ l → D p → Anc M z p := by
  obtain ⟨r, hr, hb⟩ := oj (body := fun (s : Int × Int) => nX.bd84 (plL f R) S l s.1 s.2) l.length
    (fun k s => s.2 = (k : Int) ∧ Best f R D M (l.take k) s.1) (fun r => Best f R D M l r) (nO hl (by omega)) (by
      rintro k ⟨b, kk⟩ hk ⟨rfl, hb⟩
      simp only at hb
      obtain ⟨p, hp, hpn⟩ := hin _ (List.getElem_mem hk)
      have hw := nQ hk (show l.length ≤ 1000 by omega)
      have hmem : ∀ q, q < f.blocks.length → (((ob R q : Nat) : Int) ∈ l.take (k + 1) ↔ (((ob R q : Nat) : Int) ∈ l.take k ∨ q = p)) := fun q hq => by
        rw [List.take_succ_eq_append_getElem hk, List.mem_append, List.mem_singleton, hp]
        constructor
        · rintro (h1 | h1)
          · exact .inl h1
          · exact .inr (h.ob_inj hq hpn (by omega))
        · rintro (h1 | rfl)
          · exact .inl h1
          · exact .inr rfl
      simp only [nX.bd84, nP, hk, if_true, nJ hk, Option.bind_some, hp]
      by_cases hD : D p
      · rw [hS.get hpn hD]
        simp only [Option.bind_some]
        rw [if_neg (by omega)]
        rcases hb with ⟨rfl, hno⟩ | ⟨κ, rfl, hκ, hDκ, hz⟩
        · rw [if_pos (by omega)]
          simp only [nX.jn97, hw]
          refine .inr ⟨_, rfl, rfl, .inr ⟨p, rfl, hpn, hD, fun z => ⟨fun hz q hq hm hDq => ?_, fun hall => hall p hpn ((hmem p hpn).2 (.inr rfl)) hD⟩⟩⟩
          rcases (hmem q hq).1 hm with h1 | rfl
          · exact absurd hDq (hno q hq h1)
          · exact hz
        · rw [if_neg (by omega)]
          obtain ⟨κ', g1, g2, g3, g4⟩ := yD h hS p κ hpn hκ hD hDκ
          rw [g1]
          simp only [Option.bind_some, nX.jn97, hw]
          refine .inr ⟨_, rfl, rfl, .inr ⟨κ', rfl, g2, g3, fun z => ?_⟩⟩
          rw [g4 z, hz z]
          constructor
          · rintro ⟨h1, h2⟩ q hq hm hDq
            rcases (hmem q hq).1 hm with h3 | rfl
            · exact h2 q hq h3 hDq
            · exact h1
          · intro hall
            exact ⟨hall p hpn ((hmem p hpn).2 (.inr rfl)) hD, fun q hq hm hDq => hall q hq ((hmem q hq).2 (.inl hm)) hDq⟩
      · rw [oz, hS.off p hpn hD]
        simp only [Option.bind_some]
        rw [if_pos (by omega)]
        simp only [nX.jn97, hw]
        refine .inr ⟨_, rfl, rfl, ?_⟩
        rcases hb with ⟨rfl, hno⟩ | ⟨κ, rfl, hκ, hDκ, hz⟩
        · refine .inl ⟨rfl, fun q hq hm => ?_⟩
          rcases (hmem q hq).1 hm with h1 | rfl
          · exact hno q hq h1
          · exact hD
        · refine .inr ⟨κ, rfl, hκ, hDκ, fun z => ?_⟩
          rw [hz z]
          constructor
          · intro hall q hq hm hDq
            rcases (hmem q hq).1 hm with h1 | rfl
            · exact hall q hq h1 hDq
            · exact absurd hDq hD
          · exact fun hall q hq hm hDq => hall q hq ((hmem q hq).2 (.inl hm)) hDq) (by
      rintro ⟨b, kk⟩ ⟨rfl, hb⟩
      simp only [List.take_length] at hb
      refine ⟨b, ?_, hb⟩
      simp [nX.bd84, len]) (s0 := (-1, 0)) ⟨rfl, .inl ⟨rfl, fun p _ hm => by simp at hm⟩⟩
  rcases hb with ⟨rfl, hno⟩ | ⟨κ, rfl, h1⟩
  · obtain ⟨q, hq, hm, hDq⟩ := hany
    exact absurd hDq (hno q hq hm)
  · exact ⟨κ, hr, h1⟩
end
end Go.Proofs.Ytpmcbahahjelnaa
namespace Go.Proofs.Ytpmcbahahjelnaa
open Go Go.Proofs
section
variable {f : ny} {R : List Int}
def DD (later : Bool) (i j : Nat) : Prop := later = true ∨ j < i
instance {later : Bool} {i : Nat} : DecidablePred (DD later i) := fun j => inferInstanceAs (Decidable (later = true ∨ j < i))
/-- A row of nearest ones, as places: whole. -/
structure Nr (f : ny) (N : Nat → Nat) : Prop where
  dn : Dn f.blocks.length N
  zero : N 0 = 0
  out : ∀ j, f.blocks.length ≤ j → N j = 0
structure In (f : ny) (R : List Int) (later : Bool) (O : Nat → Nat) (i : Nat) (N : Nat → Nat) (S : List Int) (chg : Bool) : Prop where
  dn : Dn f.blocks.length N
  zero : N 0 = 0
  out : ∀ j, i ≤ j → N j = 0
  ts : Ts f R (DD later i) (mixA i N O) S
  ps : ∀ j, 0 < j → j < i → ∀ z, Anc N z (N j) ↔ ∀ p, Pl f R p j → DD later j p → Anc (mixA j N O) z p
  ch1 : later = true → (chg = true ↔ ∃ j, 0 < j ∧ j < i ∧ N j ≠ O j)
  ch0 : later = false → (chg = true ∨ i = 1)
  ch2 : i = 1 → chg = false
def nup (N : Nat → Nat) (i κ : Nat) : Nat → Nat := fun x => if x = i then κ else N x
theorem rZ (N : Nat → Nat) (i κ : Nat) : nup N i κ i = κ := if_pos rfl
theorem qt (N : Nat → Nat) {i j : Nat} (κ : Nat) (h : j ≠ i) : nup N i κ j = N j := if_neg h
theorem In.next {later : Bool} {O : Nat → Nat} (h : Full f R) (hO : Nr f O) {i : Nat} {N : Nat → Nat} {S : List Int} {chg : Bool} (hi0 : 0 < i) (hi : i < f.blocks.length) (hI : In f R later O i N S chg) :
    ∃ κ S' chg' N', whl (fun (s : Int × Int) => nX.bd84 (plL f R) S (ot (nI f) (ob R i)) s.1 s.2) nD (-1, 0) = some κ ∧
      (∃ v, idx S ((ob R i : Nat) : Int) = some v ∧ ((¬ v = κ ∧ S' = S.set (ob R i) κ ∧ chg' = true) ∨ (v = κ ∧ S' = S ∧ chg' = chg))) ∧ In f R later O (i + 1) N' S' chg' := by
  obtain ⟨q, hq, hlt⟩ := h.lead.fwd i hi0 hi
  have hmem : ∀ p, p < f.blocks.length → (((ob R p : Nat) : Int) ∈ ot (nI f) (ob R i) ↔ Pl f R p i) := fun p hp =>
    ⟨fun hm => by obtain ⟨p', e1, e2, e3⟩ := h.preds hi _ hm; rwa [h.ob_inj hp e2 (by omega)], fun hm => h.preds' hm⟩
  obtain ⟨κ, h1, h2, h3, h4⟩ := yE h hI.ts (ot (nI f) (ob R i)) (by have := uI (nI f) (ob R i); rw [oP] at this; have := h.sm.1; omega)
    (fun x hx => by obtain ⟨p, e1, e2, _⟩ := h.preds hi x hx; exact ⟨p, e1, e2⟩) ⟨q, hq.1, (hmem q hq.1).2 hq, .inr hlt⟩
  have hκ : κ < i := by
    have := ((h4 κ).1 .refl q hq.1 ((hmem q hq.1).2 hq) (.inr hlt)).le hI.ts.dn hq.1
    omega
  have hm : ∀ j, j ≤ i → mixA j (nup N i κ) O = mixA j N O := fun j hj => by
    funext x
    unfold mixA
    split
    · rw [qt _ _ (by omega)]
    · rfl
  have hdnN : Dn f.blocks.length (nup N i κ) := fun b h0 hb => by
    by_cases e : b = i
    · subst e; rw [rZ]; exact hκ
    · rw [qt _ _ e]; exact hI.dn b h0 hb
  have hagr : ∀ b, b < i → b < f.blocks.length → ∀ z, Anc (nup N i κ) z b ↔ Anc N z b := fun b hb hbn z =>
    ⟨fun k => k.agree hdnN hbn (fun j hj => qt _ _ (by omega)), fun k => k.agree hI.dn hbn (fun j hj => (qt _ _ (by omega)).symm)⟩
  have hM' : ∀ j, j ≠ i → mixA (i + 1) (nup N i κ) O j = mixA i N O j := fun j hj => by
    unfold mixA
    by_cases hlt : j < i
    · rw [if_pos (by omega), if_pos hlt, qt _ _ hj]
    · rw [if_neg (by omega), if_neg hlt]
  have hMi : mixA (i + 1) (nup N i κ) O i = κ := by rw [rp (by omega)]; exact rZ _ _ _
  have hlen := hI.ts.len
  obtain ⟨hgi, hobi⟩ := h.get hi
  -- the new row
  have hts : Ts f R (DD later (i + 1)) (mixA (i + 1) (nup N i κ) O) (S.set (ob R i) ((ob R κ : Nat) : Int)) := by
    refine ⟨by rw [List.length_set]; exact hlen, fun j hj hD => ?_, fun j hj hD => ?_, Dn.mixA (fun b h0 hb => hdnN b h0 (by omega)) hO.dn, fun j hj hD => ?_⟩
    · by_cases e : j = i
      · subst e; rw [hMi, List.getElem?_set_self (by rw [hlen]; exact hobi)]
      · rw [hM' j e, List.getElem?_set_ne (fun e2 => e (h.ob_inj hj hi e2.symm))]
        exact hI.ts.on j hj (hD.imp id (fun hl => by omega))
    · have e : j ≠ i := fun e => hD (.inr (by omega))
      rw [List.getElem?_set_ne (fun e2 => e (h.ob_inj hj hi e2.symm))]
      exact hI.ts.off j hj (fun hD2 => hD (hD2.imp id (fun hl => by omega)))
    · rcases hD with hl | hl
      · exact .inl hl
      · refine .inr ?_
        by_cases e : j = i
        · subst e; rw [hMi]; omega
        · rw [hM' j e, rp (by omega)]
          by_cases e0 : j = 0
          · subst e0; rw [hI.zero]; omega
          · have := hI.dn j e0 hj; omega
  have hps : ∀ j, 0 < j → j < i + 1 → ∀ z, Anc (nup N i κ) z ((nup N i κ) j) ↔ ∀ p, Pl f R p j → DD later j p → Anc (mixA j (nup N i κ) O) z p := by
    intro j hj0 hj z
    rw [hm j (by omega)]
    by_cases e : j = i
    · subst e
      rw [rZ]
      rw [hagr κ hκ h2 z, ← qs (i := j) (B := O) hI.dn hκ h2 hI.ts.dn, h4 z]
      exact ⟨fun hall p hp hD => hall p hp.1 ((hmem p hp.1).2 hp) hD, fun hall p hp hpm hD => hall p ((hmem p hp).1 hpm) hD⟩
    · rw [qt _ _ e]
      have hNj := hI.dn j (by omega) (by omega)
      rw [hagr (N j) (by omega) (by omega) z]
      exact hI.ps j hj0 (by omega) z
  -- what stood there
  have hold : ∃ v, S[ob R i]? = some v ∧ (later = true → v = ((ob R (O i) : Nat) : Int)) ∧ (later = false → v = -1) := by
    by_cases hl : later = true
    · exact ⟨_, hI.ts.on i hi (.inl hl), fun _ => by rw [rq (Nat.le_refl _)], fun e => by rw [hl] at e; cases e⟩
    · exact ⟨_, hI.ts.off i hi (fun hD => hD.elim hl (fun e => by omega)), fun e => absurd e hl, fun _ => rfl⟩
  obtain ⟨v, hv, hv1, hv2⟩ := hold
  have hout : ∀ j, i + 1 ≤ j → (nup N i κ) j = 0 := fun j hj => by
    rw [qt _ _ (by omega)]; exact hI.out j (by omega)
  have hz0 : (nup N i κ) 0 = 0 := by rw [qt _ _ (by omega)]; exact hI.zero
  have hchg : later = true → (¬ v = ((ob R κ : Nat) : Int) ↔ κ ≠ O i) := fun hl => by
    rw [hv1 hl]
    have hOi := hO.dn i (by omega) hi
    constructor
    · intro h5 e; exact h5 (by rw [e])
    · intro h5 e; exact h5 (h.ob_inj (by omega) (by omega) (by omega))
  by_cases hc : v = ((ob R κ : Nat) : Int)
  · refine ⟨_, S, chg, nup N i κ, h1, ⟨v, by rw [oz]; exact hv, .inr ⟨hc, rfl, rfl⟩⟩, ⟨hdnN, hz0, hout, ?_, hps, fun hl => ?_, fun hl => ?_, fun hl => ?_⟩⟩
    · have : S.set (ob R i) ((ob R κ : Nat) : Int) = S := by
        apply List.ext_getElem?
        intro x
        rw [List.getElem?_set]
        by_cases e : ob R i = x
        · subst e; rw [if_pos rfl, if_pos (by rw [hlen]; exact hobi), hv, hc]
        · rw [if_neg e]
      rw [this] at hts; exact hts
    · rw [hI.ch1 hl]
      constructor
      · rintro ⟨j, j1, j2, j3⟩; exact ⟨j, j1, by omega, by rw [qt _ _ (by omega)]; exact j3⟩
      · rintro ⟨j, j1, j2, j3⟩
        by_cases e : j = i
        · subst e
          rw [rZ] at j3
          exact absurd hc ((hchg hl).2 j3)
        · exact ⟨j, j1, by omega, by rwa [qt _ _ e] at j3⟩
    · rw [hv2 hl] at hc; omega
    · omega
  · refine ⟨_, _, true, nup N i κ, h1, ⟨v, by rw [oz]; exact hv, .inl ⟨hc, rfl, rfl⟩⟩, ⟨hdnN, hz0, hout, hts, hps, fun hl => ⟨fun _ => ⟨i, hi0, by omega, by rw [rZ]; exact (hchg hl).1 hc⟩, fun _ => rfl⟩, fun _ => .inl rfl, fun hl => by omega⟩⟩
/-- A whole pass. -/
theorem uY {later : Bool} {O : Nat → Nat} (h : Full f R) (hO : Nr f O) {S : List Int} (hI : In f R later O 1 (fun _ => 0) S false) :
    ∃ N S' chg', whl (fun (s : List Int × Bool × Int) => nX.bd64 (n6 (nI f)) (plL f R) (R.drop 1) s.1 s.2.1 s.2.2) nD (S, false, 0) = some (S', chg') ∧ In f R later O f.blocks.length N S' chg' := by
  have hn := h.sm.1
  have hpos := h.pos
  obtain ⟨r, hr, N, hN⟩ := oj (body := fun (s : List Int × Bool × Int) => nX.bd64 (n6 (nI f)) (plL f R) (R.drop 1) s.1 s.2.1 s.2.2) (f.blocks.length - 1)
    (fun t s => s.2.2 = (t : Int) ∧ ∃ N, In f R later O (t + 1) N s.1 s.2.1) (fun r => ∃ N, In f R later O f.blocks.length N r.1 r.2) (by simp only [maxLen]; omega) (by
      rintro t ⟨S, chg, k⟩ ht ⟨rfl, N, hN⟩
      simp only at hN
      have hi : t + 1 < f.blocks.length := by omega
      have hdl : t < (R.drop 1).length := by simp [h.len]; omega
      have hob : (R.drop 1)[t] = ((ob R (t + 1) : Nat) : Int) := by
        rw [List.getElem_drop]
        have := (h.get hi).1
        rw [List.getElem?_eq_getElem (by rw [h.len]; exact hi)] at this
        have := Option.some.inj this
        simpa [Nat.add_comm] using this
      obtain ⟨κ, S', chg', N', g1, ⟨v, g2, g3⟩, g4⟩ := hN.next h hO (by omega) hi
      have hah : idx (n6 (nI f)) ((ob R (t + 1) : Nat) : Int) = some (ot (nI f) (ob R (t + 1))) := by
        rw [oz]; exact qI _ _ (by rw [oP]; exact (h.get hi).2)
      have hw : w64 ((t : Int) + 1) = ((t + 1 : Nat) : Int) := rP (by omega)
      simp only [nX.bd64, nP, hdl, if_true, nJ hdl, Option.bind_some, hob, hah, g1, nX.nx84, g2]
      rcases g3 with ⟨e1, rfl, rfl⟩ | ⟨e1, rfl, rfl⟩
      · rw [if_pos e1]
        simp only [nX.jn74, hw, Int.toNat_natCast]
        exact .inr ⟨_, rfl, rfl, N', g4⟩
      · rw [if_neg (by simpa using e1)]
        simp only [nX.jn74, hw]
        exact .inr ⟨_, rfl, rfl, N', g4⟩) (by
      rintro ⟨S, chg, k⟩ ⟨rfl, N, hN⟩
      simp only at hN
      refine ⟨(S, chg), ?_, N, by rwa [show f.blocks.length - 1 + 1 = f.blocks.length by omega] at hN⟩
      have : ¬ ((f.blocks.length - 1 : Nat) : Int) < len (R.drop 1) := by simp only [len, List.length_drop, h.len]; omega
      simp only [nX.bd64]
      rw [if_neg this]) (s0 := (S, false, 0)) ⟨rfl, _, hI⟩
  exact ⟨N, r.1, r.2, hr, hN⟩
end
end Go.Proofs.Ytpmcbahahjelnaa
namespace Go.Proofs.Ytpmcbahahjelnaa
open Go Go.Proofs
theorem yF (nx : List (List Int)) (hn : nx.length ≤ 70) (hrow : ∀ row ∈ nx, row.length ≤ 70 ∧ row.Nodup ∧ ∀ x ∈ row, 0 ≤ x ∧ x < (nx.length : Int)) : pt nx = some (n6 nx) :=
  (show pt nx = o4 nx from rfl).trans (uz nx hn hrow)
theorem uZ : ∀ (n : Nat) (a b : Nat → Nat), (∀ j, j < n → a j ≤ b j) → ((List.range n).map a).sum ≤ ((List.range n).map b).sum
  | 0, a, b, _ => by simp
  | n + 1, a, b, h => by
    have := uZ n a b (fun j hj => h j (by omega))
    have := h n (by omega)
    simp only [List.range_succ, List.map_append, List.sum_append, List.map_cons, List.map_nil, List.sum_cons, List.sum_nil]; omega
theorem u0 : ∀ (n : Nat) (a b : Nat → Nat), (∀ j, j < n → a j ≤ b j) → (∃ j, j < n ∧ a j < b j) → ((List.range n).map a).sum < ((List.range n).map b).sum
  | 0, a, b, _, h => by obtain ⟨j, hj, _⟩ := h; omega
  | n + 1, a, b, h, ⟨j, hj, hlt⟩ => by
    have h1 := h n (by omega)
    simp only [List.range_succ, List.map_append, List.sum_append, List.map_cons, List.map_nil, List.sum_cons, List.sum_nil]
    by_cases e : j = n
    · subst e
      have := uZ j a b (fun j hj => h j (by omega)); omega
    · have := u0 n a b (fun j hj => h j (by omega)) ⟨j, by omega, hlt⟩; omega
theorem u5 : ∀ (n m : Nat) (a : Nat → Nat), (∀ j, j < n → a j ≤ m) → ((List.range n).map a).sum ≤ n * m
  | 0, m, a, _ => by simp
  | n + 1, m, a, h => by
    have := u5 n m a (fun j hj => h j (by omega))
    have := h n (by omega)
    simp only [List.range_succ, List.map_append, List.sum_append, List.map_cons, List.map_nil, List.sum_cons, List.sum_nil, Nat.add_mul]; omega
theorem yG (l : List Int) (h : l.length ≤ 70) : whl (fun (s : List Int × Int) => nX.bd26 l s.1 s.2) nD (l, 0) = some (List.replicate l.length (-1)) := by
  have hrun := pf (body := fun (s : List Int × Int) => nX.bd26 l s.1 s.2) (r := List.replicate l.length (-1)) l.length nD (fun i => (List.replicate i (-1) ++ l.drop i, (i : Int))) (fun i hi => by
    have hl : i < (List.replicate i (-1 : Int) ++ l.drop i).length := by simp; omega
    simp only [nX.bd26, nP, hi, if_true, nJ hl, Option.bind_some, Int.toNat_natCast, nQ hi (show l.length ≤ 1000 by omega)]
    congr 3
    rw [List.set_append_right _ _ (by simp)]
    simp only [List.length_replicate, Nat.sub_self]
    rw [List.drop_eq_getElem_cons hi, List.set_cons_zero, List.replicate_succ', List.append_assoc]; rfl) (by simp [nX.bd26, len]) (oW (nO h (by omega)))
  simpa using hrun
section
variable {f : ny} {R : List Int}
theorem places (h : Full f R) : whl (fun (s : List Int × Int) => nX.bd35 R s.1 s.2) nD (List.replicate f.blocks.length 0, 0) = some (plL f R) := by
  have hn := h.sm.1
  have hrun := pf (body := fun (s : List Int × Int) => nX.bd35 R s.1 s.2) (r := plL f R) R.length nD (fun i => ((List.range f.blocks.length).map fun b => if pb R b < i then ((pb R b : Nat) : Int) else 0, (i : Int))) (fun i hi => by
    have hi' : i < f.blocks.length := by rw [← h.len]; exact hi
    obtain ⟨h1, h2⟩ := h.get hi'
    rw [List.getElem?_eq_getElem hi] at h1
    have h1' := Option.some.inj h1
    have hidx : idx ((List.range f.blocks.length).map fun b => if pb R b < i then ((pb R b : Nat) : Int) else 0) ((ob R i : Nat) : Int) = some (if pb R (ob R i) < i then ((pb R (ob R i) : Nat) : Int) else 0) := by
      rw [oz]; simp [h2]
    simp only [nX.bd35, nP, hi, if_true, nJ hi, Option.bind_some, h1', hidx, Int.toNat_natCast, nQ hi (show R.length ≤ 1000 by rw [h.len]; omega)]
    congr 3
    apply List.ext_getElem (by simp)
    intro x hx1 hx2
    have hx : x < f.blocks.length := by simpa using hx2
    rw [List.getElem_set]
    simp only [List.getElem_map, List.getElem_range]
    by_cases e : ob R i = x
    · subst e
      rw [if_pos rfl, h.pb_ob hi', if_pos (by omega)]
    · rw [if_neg e]
      have : pb R x ≠ i := fun e2 => e (by rw [← e2]; exact (h.ob_pb hx).1)
      by_cases hc : pb R x < i
      · rw [if_pos hc, if_pos (by omega)]
      · rw [if_neg hc, if_neg (by omega)]) (by
    simp only [nX.bd35]
    rw [if_neg (by simp [len])]
    congr 2
    unfold plL
    apply List.map_congr_left
    intro b hb
    rw [if_pos (by rw [h.len]; exact (h.ob_pb (List.mem_range.1 hb)).2)]) (oW (nO (by rw [h.len]; exact hn) (by omega)))
  have h0 : ((List.range f.blocks.length).map fun b => if pb R b < 0 then ((pb R b : Nat) : Int) else 0) = List.replicate f.blocks.length (0 : Int) := by
    apply List.ext_getElem (by simp)
    intro x h1 h2
    simp
  rw [h0] at hrun
  exact hrun
def ini (f : ny) : List Int := (List.replicate f.blocks.length (-1)).set 0 0
def sumS (f : ny) (R S : List Int) : Nat := ((List.range f.blocks.length).map fun j => pb R (S.getD (ob R j) 0).toNat).sum
theorem sZ (h : Full f R) {N : Nat → Nat} (hN : Nr f N) {S : List Int} (hS : Ts f R (fun _ => True) N S) : sumS f R S = ((List.range f.blocks.length).map N).sum := by
  unfold sumS
  congr 1
  apply List.map_congr_left
  intro j hj
  have hj := List.mem_range.1 hj
  rw [List.getD_eq_getElem?_getD, hS.on j hj trivial]
  simp only [Option.getD_some, Int.toNat_natCast]
  by_cases e : j = 0
  · subst e; rw [hN.zero, h.ob0, h.pb0]
  · exact h.pb_ob (by have := hN.dn j e hj; omega)
/-- What stands at the head of a round of passes. -/
def Rd (f : ny) (R : List Int) (s : List Int × Bool) : Prop :=
  (s.1 = ini f ∧ s.2 = true) ∨ ∃ O, Nr f O ∧ Hist f.blocks.length (Pl f R) O ∧ Ts f R (fun _ => True) O s.1 ∧ (s.2 = false → Pass f.blocks.length (Pl f R) O O)
theorem yH (h : Full f R) : In f R false (fun _ => 0) 1 (fun _ => 0) (ini f) false := by
  have hpos := h.pos
  have hmx : mixA 1 (fun _ => 0) (fun _ => 0) = fun _ => 0 := by funext x; unfold mixA; split <;> rfl
  refine ⟨fun b h0 hb => by show 0 < b; omega, rfl, fun _ _ => rfl, ?_, fun j h1 h2 => by omega, fun e => by (cases e), fun _ => .inr rfl, fun _ => rfl⟩
  rw [hmx]
  refine ⟨by simp [ini], fun j hj hD => ?_, fun j hj hD => ?_, fun b h0 hb => by show 0 < b; omega, fun j hj hD => .inr (by omega)⟩
  · have hj0 : j = 0 := by rcases hD with e | e; (· cases e); (· omega)
    subst hj0
    rw [h.ob0]
    unfold ini
    rw [List.getElem?_set_self (by simpa using hpos)]; rfl
  · have hj0 : j ≠ 0 := fun e => hD (.inr (by omega))
    have hne : ob R j ≠ 0 := fun e => hj0 (h.ob_inj hj hpos (by rw [e, h.ob0]))
    unfold ini
    rw [List.getElem?_set_ne (by omega)]
    simp [(h.get hj).2]
theorem Ts.whole {later : Bool} {O N : Nat → Nat} {S : List Int} (hN : Nr f N) (hS : Ts f R (DD later f.blocks.length) (mixA f.blocks.length N O) S) : Ts f R (fun _ => True) N S := by
  refine ⟨hS.len, fun j hj _ => ?_, fun j hj hD => absurd trivial hD, hN.dn, fun _ _ _ => trivial⟩
  rw [hS.on j hj (.inr hj), rp hj]
theorem In.nr {later : Bool} {O N : Nat → Nat} {S : List Int} {chg : Bool} (hI : In f R later O f.blocks.length N S chg) : Nr f N := ⟨hI.dn, hI.zero, hI.out⟩
theorem In.first {N : Nat → Nat} {S : List Int} {chg : Bool} (hI : In f R false (fun _ => 0) f.blocks.length N S chg) : First f.blocks.length (Pl f R) N := fun i h0 hi z => by
  rw [hI.ps i h0 hi z]
  have hX : Dn f.blocks.length (mixA i N (fun _ => 0)) := Dn.mixA (fun b hb hbi => hI.dn b hb (by omega)) (fun b hb _ => by show 0 < b; omega)
  constructor
  · intro hall p hp hlt
    exact (qs hI.dn hlt (by omega) hX).1 (hall p hp (.inr hlt))
  · intro hall p hp hD
    have hlt : p < i := by rcases hD with e | e; (· cases e); (· exact e)
    exact (qs hI.dn hlt (by omega) hX).2 (hall p hp hlt)
theorem In.pass {O N : Nat → Nat} {S : List Int} {chg : Bool} (hI : In f R true O f.blocks.length N S chg) : Pass f.blocks.length (Pl f R) O N := fun i h0 hi z => by
  rw [hI.ps i h0 hi z]
  exact ⟨fun hall p hp => hall p hp (.inl rfl), fun hall p hp _ => hall p hp⟩
theorem yI {O : Nat → Nat} {S : List Int} (hO : Nr f O) (hS : Ts f R (fun _ => True) O S) : In f R true O 1 (fun _ => 0) S false := by
  have hmx : mixA 1 (fun _ => 0) O = O := by
    funext x; unfold mixA; split
    · rw [show x = 0 by omega, hO.zero]
    · rfl
  refine ⟨fun b h0 hb => by show 0 < b; omega, rfl, fun _ _ => rfl, ?_, fun j h1 h2 => by omega, fun _ => ⟨fun e => by (cases e), fun ⟨j, j1, j2, _⟩ => by omega⟩, fun e => by (cases e), fun _ => rfl⟩
  rw [hmx]
  exact ⟨hS.len, fun j hj _ => hS.on j hj trivial, fun j hj hD => absurd (.inl rfl) hD, hO.dn, fun _ _ _ => .inl rfl⟩
def msr (f : ny) (R : List Int) (s : List Int × Bool) : Nat := if s.2 = false then 0 else if s.1 = ini f then 1000000 else 1 + sumS f R s.1
theorem Ts.not_ini (h : Full f R) {O : Nat → Nat} {S : List Int} (hO : Nr f O) (hS : Ts f R (fun _ => True) O S) (h2 : 1 < f.blocks.length) : S ≠ ini f := fun e => by
  have h1 := hS.on 1 h2 trivial
  have hne : ob R 1 ≠ 0 := fun e => by have := h.ob_inj h2 h.pos (by rw [e, h.ob0]); omega
  rw [e] at h1
  unfold ini at h1
  rw [List.getElem?_set_ne (by omega)] at h1
  simp [(h.get h2).2] at h1
theorem yJ (h : Full f R) (s : List Int × Bool) (hs : Rd f R s) : (∃ r, nX.bd48 R (n6 (nI f)) (plL f R) s.1 s.2 = some (.ret r) ∧ ∃ O, Nr f O ∧ Hist f.blocks.length (Pl f R) O ∧ Ts f R (fun _ => True) O r ∧ Pass f.blocks.length (Pl f R) O O) ∨
    ∃ s', nX.bd48 R (n6 (nI f)) (plL f R) s.1 s.2 = some (.go s') ∧ Rd f R s' ∧ msr f R s' < msr f R s := by
  obtain ⟨S, again⟩ := s
  have hn := h.sm.1
  have hpos := h.pos
  have hfr : qA R 1 = some (R.drop 1) := by
    unfold qA
    rw [if_pos ⟨by omega, by rw [h.len]; show 1 ≤ _; omega⟩]; rfl
  cases again with
  | false =>
    rcases hs with ⟨_, e⟩ | ⟨O, h1, h2, h3, h4⟩
    · cases e
    · exact .inl ⟨S, by simp [nX.bd48], O, h1, h2, h3, h4 rfl⟩
  | true =>
    simp only [nX.bd48, if_true, hfr, Option.bind_some]
    rcases hs with ⟨e, _⟩ | ⟨O, h1, h2, h3, h4⟩
    · simp only at e
      subst e
      obtain ⟨N, S', chg', g1, g2⟩ := uY h ⟨fun b h0 hb => by show 0 < b; omega, rfl, fun _ _ => rfl⟩ (yH h)
      rw [g1]
      simp only [Option.bind_some, nX.nx64]
      have hS' := Ts.whole g2.nr g2.ts
      refine .inr ⟨_, rfl, .inr ⟨N, g2.nr, ⟨g2.dn, g2.first.fwd, g2.first.tru h.lead g2.dn, .inl g2.first⟩, hS', fun hc => ?_⟩, ?_⟩
      · simp only at hc
        have : f.blocks.length = 1 := (g2.ch0 rfl).resolve_left (by rw [hc]; simp)
        intro i h0 hi; omega
      · unfold msr
        simp only [if_true, Bool.true_eq_false, if_false]
        cases chg' with
        | false => simp
        | true =>
          have h2' : 1 < f.blocks.length := by
            rcases Nat.lt_or_ge 1 f.blocks.length with h2 | h2
            · exact h2
            · have := g2.ch2 (by omega); cases this
          rw [if_neg (by simp), if_neg (hS'.not_ini h g2.nr h2'), sZ h g2.nr hS']
          have := u5 f.blocks.length 70 N (fun j hj => by
            by_cases e : j = 0
            · subst e; rw [g2.zero]; omega
            · have := g2.dn j e hj; omega)
          have : f.blocks.length * 70 ≤ 70 * 70 := Nat.mul_le_mul hn (Nat.le_refl _)
          omega
    · simp only at h3
      obtain ⟨N, S', chg', g1, g2⟩ := uY h h1 (yI h1 h3)
      rw [g1]
      simp only [Option.bind_some, nX.nx64]
      have hS' := Ts.whole g2.nr g2.ts
      obtain ⟨k1, k2⟩ := h2.next h.lead g2.dn g2.pass
      refine .inr ⟨_, rfl, .inr ⟨N, g2.nr, k1, hS', fun hc => ?_⟩, ?_⟩
      · simp only at hc
        have heq : N = O := by
          funext j
          by_cases e : j = 0
          · subst e; rw [g2.zero, h1.zero]
          · rcases Nat.lt_or_ge j f.blocks.length with hj | hj
            · rcases Nat.decEq (N j) (O j) with hne | he
              · have := (g2.ch1 rfl).2 ⟨j, by omega, hj, hne⟩
                rw [hc] at this; cases this
              · exact he
            · rw [g2.out j hj, h1.out j hj]
        have := g2.pass
        rw [heq] at this ⊢
        exact this
      · unfold msr
        simp only [if_true, Bool.true_eq_false, if_false]
        cases chg' with
        | false => rw [if_pos rfl]; split <;> omega
        | true =>
          obtain ⟨j, j1, j2, j3⟩ := (g2.ch1 rfl).1 rfl
          have h2' : 1 < f.blocks.length := by omega
          rw [if_neg (by simp), if_neg (hS'.not_ini h g2.nr h2'), if_neg (h3.not_ini h h1 h2'), sZ h g2.nr hS', sZ h h1 h3]
          have := u0 f.blocks.length N O (fun i hi => by
            by_cases e : i = 0
            · subst e; rw [g2.zero]; omega
            · exact k2 i hi (by omega)) ⟨j, j2, by have := k2 j j2 j1; omega⟩
          omega
/-- What Nearest tells. -/
structure Near (f : ny) (R : List Int) (N : Nat → Nat) (L : List Int) : Prop where
  nr : Nr f N
  hist : Hist f.blocks.length (Pl f R) N
  fix : Pass f.blocks.length (Pl f R) N N
  len : L.length = f.blocks.length
  first : L[0]? = some (-1)
  get : ∀ j, 0 < j → j < f.blocks.length → L[ob R j]? = some ((ob R (N j) : Nat) : Int)
theorem u6 (h : Full f R) : ∃ N L, nX f = some L ∧ Near f R N L := by
  have hn := h.sm.1
  have hpos := h.pos
  have ht : ∀ B ∈ f.blocks, B.term.to.length ≤ 70 := fun B hm => (h.sm.2.2.2 B hm).2.2.1
  have hah : pt (nI f) = some (n6 (nI f)) := yF (nI f) (by rw [oP]; exact hn) (fun row hr => by
    obtain ⟨B, hB, rfl⟩ := List.mem_map.1 hr
    refine ⟨by have := sl f.blocks.length B.term.to []; have := ht B hB; unfold succs; simp at *; omega, ut _ _, fun x hx => by rw [oP]; exact uo x hx⟩)
  have hmk : mkl (len (n6 (nI f))) (0 : Int) = some (List.replicate f.blocks.length 0) := by
    have := qQ (n := f.blocks.length) (0 : Int) hn
    simpa [len, sq, oP] using this
  obtain ⟨r, hr, O, h1, h2, h3, h4⟩ := qp (body := fun (s : List Int × Bool) => nX.bd48 R (n6 (nI f)) (plL f R) s.1 s.2) (Rd f R) (msr f R) (fun r => ∃ O, Nr f O ∧ Hist f.blocks.length (Pl f R) O ∧ Ts f R (fun _ => True) O r ∧ Pass f.blocks.length (Pl f R) O O) (fun s hs => yJ h s hs)
    nD (ini f, true) (.inl ⟨rfl, rfl⟩) (by unfold msr; simp only [Bool.true_eq_false, if_false, if_true]; exact rY (Nat.le_refl _))
  refine ⟨O, r.set 0 (-1), ?_, h1, h2, h4, by rw [List.length_set]; exact h3.len, by rw [List.getElem?_set_self (by rw [h3.len]; exact hpos)], fun j hj hjn => ?_⟩
  · unfold nX
    rw [h.ord, rh f hn ht]
    simp only [Option.bind_some, hah, hmk]
    unfold nX.jn18
    have hm := yG (List.replicate f.blocks.length 0) (by simpa using hn)
    simp only [List.length_replicate] at hm
    rw [hm]
    simp only [Option.bind_some, nX.nx26]
    rw [places h]
    simp only [Option.bind_some, nX.nx35]
    rw [if_neg (by simp only [len, h.len]; omega)]
    have h0 : idx (List.replicate f.blocks.length (-1 : Int)) 0 = some (-1) := by
      have := nJ (xs := List.replicate f.blocks.length (-1 : Int)) (i := 0) (by simpa using hpos)
      simpa using this
    rw [h0]
    simp only [Option.bind_some]
    have hini : (List.replicate f.blocks.length (-1 : Int)).set (0 : Int).toNat 0 = ini f := rfl
    rw [hini, hr]
    simp only [Option.bind_some, nX.nx48]
    have h00 : idx r 0 = some (r[0]'(by rw [h3.len]; exact hpos)) := by
      have := nJ (xs := r) (i := 0) (by rw [h3.len]; exact hpos)
      simpa using this
    rw [h00]; rfl
  · have hne : ob R j ≠ 0 := fun e => by have := h.ob_inj hjn hpos (by rw [e, h.ob0]); omega
    rw [List.getElem?_set_ne (by omega)]
    exact h3.on j hjn trivial
end
end Go.Proofs.Ytpmcbahahjelnaa
