/- Several parts in one text, the first of which: The walk through the program's functions: each one's pure reading, and that a call does what it says. No conditions. -/
import Derived.Test.YtpmcbahahjelnaaQ3
import Derived.Test.YtpmcbahahjelnaaQ1
set_option linter.unusedVariables false
set_option linter.unusedSimpArgs false
namespace Go.Proofs.Ytpmcbahahjelnaa
open Go Go.Proofs
/-! ### (*fettle/ssa.builder).number -/
abbrev n8.R (g : Nat) (a2 : nS) (v3 : Value) (h : Value) (i : Value) (j : Value) (k : Value) (l : Value) (m : Value) (n : Value) (o : Value) (r : List Int × List (List Int) × List Int × List (List Int)) (v : Value) (A : List FP) : Prop := ∃ (w1 : Value) (a : FP) (w2 : Value) (b : FP) (w3 : Value) (c : FP) (d : Value) (e : FP), .tuple #[] = v ∧ A = [bx g 100 [.int .i64 a2.f.params, .int .i64 a2.f.result, v3, h, i, j, k, l, m, w1, w2, w3, d, n, o], a, b, c, e] ∧ SlO 3 (nt .i64) r.1 w1 a ∧ SlO 25 (kSl 3 (nt .i64)) r.2.1 w2 b ∧ SlO 3 (nt .i64) r.2.2.1 w3 c ∧ SlO 25 (kSl 3 (nt .i64)) r.2.2.2 d e
def n8.nx21 (a : List Int) (b : List Int) (c : List (List Int)) (d : List (List Int)) : Option (List Int × List (List Int) × List Int × List (List Int)) :=
  some (b, c, a, d)
def n8.jn31 (a : Int) (b : List Int) (c : List (List Int)) (d : List (List Int)) : Option (Ex (List Int × List (List Int) × List (List Int)) (List Int × List (List Int) × List (List Int) × Int)) :=
  some (.go (b, c, d, (w64 (a + 1))))
def n8.nx50 (a : List (List Int)) (b : List (List Int)) (c : Int) (d : List Int) (e : List Int) (f : List Int) : Option (Ex (List Int × List (List Int) × List (List Int)) (List Int × List (List Int) × List (List Int) × Int)) :=
  (cat a [d]).bind fun g =>
  (cat b [f]).bind fun h =>
  n8.jn31 c e g h
def n8.jn622 (a : Int) (b : List Int) (c : List Int) : Option (Ex (List Int × List Int) (List Int × List Int × Int)) :=
  some (.go (b, c, (w64 (a + 1))))
def n8.bd50 (a2 : nS) (h : List Int) (i : List (List Int)) (j : List (List Int)) (d : ny) (b : List Int) (c : List Int) (a : Int) : Option (Ex (List Int × List Int) (List Int × List Int × Int)) :=
  if a < (len d.ins) then
    (idx d.ins a).bind fun e =>
    if e.dst < 0 then
      (cat c [-1]).bind fun k =>
      n8.jn622 a b k
    else
      (qf (⟨(⟨a2.f.params, a2.f.result, a2.f.regs, a2.f.blocks⟩ : nA), a2.in_, a2.front, a2.nearest, a2.phis, a2.zeros, b, i, h, j, a2.begin, a2.end_⟩ : nS) e.dst).bind fun g =>
      (cat c [g.1]).bind fun l =>
      n8.jn622 a g.2 l
  else
    some (.ret (b, c))
def n8.nx41 (a2 : nS) (c : List Int) (a : List (List Int)) (b : List (List Int)) (d : Int) (e : ny) (f : List Int) (g : List Int) : Option (Ex (List Int × List (List Int) × List (List Int)) (List Int × List (List Int) × List (List Int) × Int)) :=
  (whl (fun (s : (List Int × List Int × Int)) => n8.bd50 a2 c a b e s.1 s.2.1 s.2.2) nB (f, ([] : List Int), 0)).bind fun z =>
  n8.nx50 a b d g z.1 z.2
def n8.bd41 (a2 : nS) (g : List Int) (h : List (List Int)) (i : List (List Int)) (b : List Int) (c : List Int) (d : List Int) (a : Int) : Option (Ex (List Int × List Int) (List Int × List Int × Int)) :=
  if a < (len b) then
    (idx b a).bind fun j =>
    (qf (⟨(⟨a2.f.params, a2.f.result, a2.f.regs, a2.f.blocks⟩ : nA), a2.in_, a2.front, a2.nearest, a2.phis, a2.zeros, c, h, g, i, a2.begin, a2.end_⟩ : nS) j).bind fun e =>
    (cat d [e.1]).bind fun k =>
    some (.go (e.2, k, (w64 (a + 1))))
  else
    some (.ret (c, d))
def n8.bd21 (a2 : nS) (d : List Int) (e : List Int) (b : List (List Int)) (c : List (List Int)) (a : Int) : Option (Ex (List Int × List (List Int) × List (List Int)) (List Int × List (List Int) × List (List Int) × Int)) :=
  if a < (len a2.f.blocks) then
    (idx a2.f.blocks a).bind fun g =>
    (idx a2.phis a).bind fun h =>
    (whl (fun (s : (List Int × List Int × Int)) => n8.bd41 a2 d b c h s.1 s.2.1 s.2.2) nB (e, ([] : List Int), 0)).bind fun z =>
    n8.nx41 a2 d b c a g z.1 z.2
  else
    some (.ret (e, b, c))
def n8.nx12 (a2 : nS) (b : List Int) (a : List Int) : Option (List Int × List (List Int) × List Int × List (List Int)) :=
  (whl (fun (s : (List Int × List (List Int) × List (List Int) × Int)) => n8.bd21 a2 a s.1 s.2.1 s.2.2.1 s.2.2.2) nB (b, a2.phi, a2.dst, 0)).bind fun z =>
  n8.nx21 a z.1 z.2.1 z.2.2
def n8.jn654 (a : Int) (b : List Int) (c : List Int) : Option (Ex (List Int × List Int) (List Int × List Int × Int)) :=
  some (.go (b, c, (w64 (a + 1))))
def n8.bd12 (a2 : nS) (c : List Int) (a : List Int) (b : Int) : Option (Ex (List Int × List Int) (List Int × List Int × Int)) :=
  if b < (len a2.zeros) then
    (idx a2.zeros b).bind fun e =>
    (qf (⟨(⟨a2.f.params, a2.f.result, a2.f.regs, a2.f.blocks⟩ : nA), a2.in_, a2.front, a2.nearest, a2.phis, a2.zeros, c, a2.phi, a, a2.dst, a2.begin, a2.end_⟩ : nS) e).bind fun d =>
    (cat a [d.1]).bind fun g =>
    n8.jn654 b d.2 g
  else
    some (.ret (c, a))
def n8.jn4 (a2 : nS) (a : List Int) : Option (List Int × List (List Int) × List Int × List (List Int)) :=
  (whl (fun (s : (List Int × List Int × Int)) => n8.bd12 a2 s.1 s.2.1 s.2.2) nB (a, a2.zero_, 0)).bind fun z =>
  n8.nx12 a2 z.1 z.2
def n8 (a2 : nS) : Option (List Int × List (List Int) × List Int × List (List Int)) :=
  (upto a2.f.regs a2.f.params).bind fun a =>
  (pE a).bind fun b =>
  n8.jn4 a2 b
set_option maxHeartbeats 4000000 in
theorem w5 {E : World} {H : FP} {w : World} {a2 : nS} {D : Nat} {v3 : Value} {G : Value} {J : Value} {K : Value} {M : Value} {N : Value} {I : Value} {bV : Value} {aT : FP} {aj : Value} {ab : FP} {aC : Value} {ax : FP} {ak : Value} {ac : FP} {O : Value} {P : Value} {r : List Int × List (List Int) × List Int × List (List Int)} (am : SlI (nt .i64) H a2.f.regs v3) (an : SlI nW H a2.f.blocks G) (aD : SlI (kSl 4 kBool) H a2.in_ J) (aE : SlI (kSl 3 (nt .i64)) H a2.front K) (aF : SlI (nt .i64) H a2.nearest M) (ay : SlI (kSl 3 (nt .i64)) H a2.phis N) (ao : SlI (nt .i64) H a2.zeros I) (iv : SlO 3 (nt .i64) a2.regs bV aT) (aU : SlO 25 (kSl 3 (nt .i64)) a2.phi aj ab) (cp : SlO 3 (nt .i64) a2.zero_ aC ax) (aV : SlO 25 (kSl 3 (nt .i64)) a2.dst ak ac) (aG : SlI (kSl 3 (nt .i64)) H a2.begin O) (aH : SlI (kSl 3 (nt .i64)) H a2.end_ P) (hp : n8 a2 = some r) (hst : St E H [bx D 100 [.int .i64 a2.f.params, .int .i64 a2.f.result, v3, G, J, K, M, N, I, bV, aj, aC, ak, O, P], aT, ab, ax, ac] w) :
    Fn Try.prog 44 #[.pointer (some ⟨D, 0, none⟩)] w fun v w' => ∃ A, n8.R D a2 v3 G J K M N I O P r v A ∧ St E H A w' := by
 refine fb 121 [] Try.func44 rfl rfl rfl rfl rfl hst <| nv fun cq cr => ?_
 have bW {bX aW aX cs} (ct : SlO 3 (nt .i64) bX aW aX) (hp : n8.jn4 a2 bX = some r) : ∀ w, St E H [bx D 100 [.int .i64 a2.f.params, .int .i64 a2.f.result, v3, G, J, K, M, N, I, aW, aj, aC, ak, O, P], aX, ab, ax, ac] w → cq (ovr cs [(0, .pointer (some ⟨D, 0, none⟩))]) w := by
  refine tg cr <| nv fun cu cv => sr <| tm rfl <| tv (nE rfl) rfl <| tv (fa r6 rfl) rfl <| tv (lb s25 0 rfl rfl rfl) rfl <| tv (ln u25 ao rfl) rfl <| tm rfl <| nz <| nC <| bE hp fun cw cx cy => ?_
  have cz {aY X aZ a0 V T cA} (cB : SlO 3 (nt .i64) aY aZ a0) (a3 : SlO 3 (nt .i64) X V T) (cC : (aY, X) = cw) : ∀ w, St E H [bx D 100 [.int .i64 a2.f.params, .int .i64 a2.f.result, v3, G, J, K, M, N, I, aZ, aj, V, ak, O, P], a0, ab, T, ac] w → cu (ovr cA [(0, .pointer (some ⟨D, 0, none⟩))]) w := by
   subst cC
   replace hp : n8.nx12 a2 aY X = some r := cy
   refine tg cv <| sr <| tm rfl <| tv (nE rfl) rfl <| tv (fa pK rfl) rfl <| tv (fa n6 rfl) rfl <| tv (lb s39 0 rfl rfl rfl) rfl <| tv (ln u39 an rfl) rfl <| tm rfl <| nz <| qo fun cE cF => nC <| bE hp fun cG cH cI => ?_
   have cJ {a4 a5 a6 a7 a8 a9 ba bb bc cK} (cL : SlO 3 (nt .i64) a4 a7 a8) (cM : SlO 25 (kSl 3 (nt .i64)) a5 a9 ba) (cN : SlO 25 (kSl 3 (nt .i64)) a6 bb bc) (cO : (a4, a5, a6) = cG) : ∀ w, St E H [bx D 100 [.int .i64 a2.f.params, .int .i64 a2.f.result, v3, G, J, K, M, N, I, a7, a9, V, bb, O, P], a8, ba, T, bc] w → cE (ovr cK []) w := by
    subst cO
    replace hp : n8.nx21 X a4 a5 a6 = some r := cI
    exact viaK cF <| rt hp [0, 1, 2, 3, 4] ⟨a7, a8, a9, ba, V, T, bb, bc, rfl, rfl, cL, cM, a3, cN⟩
   refine lp cH [0, 1, 2, 3, 4] rfl (fun s e L => ∃ aI Y Z S aJ aK ae af ag ah bY, s = (aI, Y, Z, S) ∧ SlO 3 (nt .i64) aI aJ aK ∧ SlO 25 (kSl 3 (nt .i64)) Y ae af ∧ SlO 25 (kSl 3 (nt .i64)) Z ag ah ∧ e = ovr bY [(0, .pointer (some ⟨D, 0, none⟩)), (53, G), (54, .int .i64 (len a2.f.blocks)), (55, .int .i64 S)] ∧ L = [bx D 100 [.int .i64 a2.f.params, .int .i64 a2.f.result, v3, G, J, K, M, N, I, aJ, ae, V, ag, O, P], aK, af, T, ah]) ⟨_, _, _, _, aZ, a0, aj, ab, ak, ac, _, rfl, cB, aU, aV, nD _ _ rfl, rfl⟩ ?_
   rintro _ _ _ ⟨aI, Y, Z, S, aJ, aK, ae, af, ag, ah, bY, rfl, bZ, n, h, rfl, rfl⟩ aL hp cP
   replace hp : n8.bd21 a2 X aI Y Z S = some aL := hp
   refine sr <| tv (blt rfl rfl) rfl <| nz <| nv fun iw cQ => cD rfl hp (fun cR hp => ?_) fun cR hp => ?_
   · refine sk cQ rfl <| nv fun cS cT => ?_
     have o {b0 b1 b2 be bf bg bh bi bj cU} (cV : SlO 3 (nt .i64) b0 be bf) (cW : SlO 25 (kSl 3 (nt .i64)) b1 bg bh) (cX : SlO 25 (kSl 3 (nt .i64)) b2 bi bj) (hp : n8.jn31 S b0 b1 b2 = some aL) : ∀ w, St E H [bx D 100 [.int .i64 a2.f.params, .int .i64 a2.f.result, v3, G, J, K, M, N, I, be, bg, V, bi, O, P], bf, bh, T, bj] w → cS (ovr cU [(0, .pointer (some ⟨D, 0, none⟩)), (53, G), (54, .int .i64 (len a2.f.blocks)), (55, .int .i64 S)]) w := by
      exact tg cT <| nG <| tv (bad rfl rfl) rfl <| tm rfl <| nl <| gk hp [0, 1, 2, 3, 4] ⟨_, _, _, _, be, bf, bg, bh, bi, bj, _, rfl, cV, cW, cX, nD _ _ rfl, rfl⟩
     refine nC <| sr <| tm rfl <| ti u39 i50 an hp rfl rfl rfl rfl ?_
     rintro U ix iy _ hp ⟨aM, ap, aN, rfl, cY, bk, cZ⟩ c0
     refine tv (lR (ds := [aM, ap, .int .i64 U.term.kind, .int .i64 U.term.arg, aN]) o5 sH c0 0 rfl rfl rfl) rfl <| tl i50 rfl fun aO => ta rfl <| tS 0 m50 rfl rfl [aM, ap, .int .i64 U.term.kind, .int .i64 U.term.arg, aN] rfl (oc (cY).one (oc (bk).one (oc rfl (oc rfl (oc (cZ).one oc0))))) rfl rfl <| nz <| sr <| ta rfl <| ta rfl <| nz <| nv fun c1 c2 => sr <| tm rfl <| tv (nE rfl) rfl <| tv (fa qV rfl) rfl <| tv (lb s73 1 rfl rfl rfl) rfl <| tm rfl <| ti u73 i25 ay hp rfl rfl rfl rfl ?_
     rintro b3 iz iA _ hp ⟨c3, rfl, b4⟩ c4
     refine tv (lr s25 sH c4 0 rfl rfl) rfl <| tv (ln u25 b4 rfl) rfl <| tm rfl <| nz <| nC <| bE hp fun c5 c6 c7 => ?_
     have c8 {bl l bm bn y i c9} (da : SlO 3 (nt .i64) bl bm bn) (d : SlO 3 (nt .i64) l y i) (db : (bl, l) = c5) : ∀ w, St E H [bx D 100 [.int .i64 a2.f.params, .int .i64 a2.f.result, v3, G, J, K, M, N, I, bm, ae, V, ag, O, P], bn, af, T, ah, bx aO 50 [aM, ap, .int .i64 U.term.kind, .int .i64 U.term.arg, aN], i] w → c1 (ovr c9 [(0, .pointer (some ⟨D, 0, none⟩)), (5, .pointer (some ⟨aO, 0, none⟩)), (6, y), (7, .slice none 0 0), (53, G), (54, .int .i64 (len a2.f.blocks)), (55, .int .i64 S)]) w := by
      subst db
      replace hp : n8.nx41 a2 X Y Z S U bl l = some aL := c7
      refine tg c2 <| nv fun dc dd => sr <| tv (fa ou rfl) rfl <| tv (lb s48 5 rfl rfl rfl) rfl <| tv (ln u48 bk rfl) rfl <| tm rfl <| nz <| nC <| bE hp fun de df dg => ?_
      have dh {bo j b5 bp g m di} (p : SlO 3 (nt .i64) bo b5 bp) (c : SlO 3 (nt .i64) j g m) (dj : (bo, j) = de) : ∀ w, St E H [bx D 100 [.int .i64 a2.f.params, .int .i64 a2.f.result, v3, G, J, K, M, N, I, b5, ae, V, ag, O, P], bp, af, T, ah, i, m] w → dc (ovr di [(0, .pointer (some ⟨D, 0, none⟩)), (6, y), (7, g), (53, G), (54, .int .i64 (len a2.f.blocks)), (55, .int .i64 S)]) w := by
       subst dj
       replace hp : n8.nx50 Y Z S l bo j = some aL := dg
       refine tg dd <| ch mix [bp, T] (nq 1 rfl (nq 3 rfl ns)) <| hv 0 rfl mv (by kernel_rfl) rfl <| hv 1 rfl mv (by kernel_rfl) rfl <| hv 2 rfl mv (by kernel_rfl) rfl <| hv 3 rfl (nE rfl) (by kernel_rfl) rfl <| hv 4 rfl (fa oF rfl) (by kernel_rfl) rfl <| hv 6 rfl mv (by kernel_rfl) rfl <| hv 9 rfl mv (by kernel_rfl) rfl <| hv 10 rfl (nE rfl) (by kernel_rfl) rfl <| hv 11 rfl (fa oG rfl) (by kernel_rfl) rfl <| hv 13 rfl mv (by kernel_rfl) rfl <| nU [5, 7, 12, 14] (by kernel_rfl) (by simp) (nF ⟨_, rfl, fun iB dk => ?_⟩ (nF ⟨_, rfl, fun iC dl => ?_⟩ (nF ⟨_, rfl, fun iD dm => ?_⟩ (nF ⟨_, rfl, fun iE dn => ?_⟩ nV))))
       · refine tv (lb s73 0 rfl rfl rfl) rfl <| hk dk (nq 1 rfl (nq 3 rfl ns)) <| nU [7, 12, 14] (by kernel_rfl) (by simp) (nF ⟨_, rfl, fun iF dp => ?_⟩ (nF ⟨_, rfl, fun iG dq => ?_⟩ (nF ⟨_, rfl, fun iH dr => ?_⟩ nV)))
         · refine tbs [(0, y)] [y] u73 i25 (by obtain ⟨_, _, rfl⟩ := (d).len; kernel_rfl) rfl rfl rfl rfl fun Q => hk dp (nq 2 rfl (nq 4 rfl ns)) <| nU [8, 12, 14] (by kernel_rfl) (by simp) (nF ⟨_, rfl, fun iI dt => ?_⟩ (nF ⟨_, rfl, fun iJ du => ?_⟩ (nF ⟨_, rfl, fun iK dv => ?_⟩ nV)))
           · refine tp [3, 0, 6, 1, 2, 4, 5, 7] [_,_,_,_,_,_,_,_] rfl rfl <| tp2 u73 i25 n hp (RepL.to (G' := i) (RepL.cons (k := (kSl 3 (nt .i64))) (x := l) ⟨_, rfl, d⟩ RepL.nil) (by simp)) rfl rfl rfl rfl rfl rfl rfl rfl rfl fun z B C b hp => hk dt (nq 2 rfl (nq 3 rfl ns)) <| nU [12, 14] (by kernel_rfl) (by simp) (nF ⟨_, rfl, fun iL dw => ?_⟩ (nF ⟨_, rfl, fun iM dx => ?_⟩ nV))
             · exact tv (lb s73 1 rfl rfl rfl) rfl <| hk dw (nq 2 rfl (nq 3 rfl ns)) <| ho 14 rfl (by kernel_rfl) fun iN dy => tbs [(0, g)] [g] u73 i25 (by obtain ⟨_, _, rfl⟩ := (c).len; kernel_rfl) rfl rfl rfl rfl fun F => hk dy (nq 3 rfl (nq 4 rfl ns)) <| ho 15 rfl (by kernel_rfl) fun iO dz => tp [5, 0, 6, 1, 2, 3, 4] [_,_,_,_,_,_,_] rfl rfl <| tp2 u73 i25 h hp (RepL.to (G' := m) (RepL.cons (k := (kSl 3 (nt .i64))) (x := j) ⟨_, rfl, c⟩ RepL.nil) (by simp)) rfl rfl rfl rfl rfl rfl rfl rfl rfl fun q t u a hp => hk dz (nq 3 rfl (nq 4 rfl ns)) <| hv 16 rfl (nE rfl) (by kernel_rfl) rfl <| hv 17 rfl (fa oF rfl) (by kernel_rfl) rfl <| ho 18 rfl (by kernel_rfl) fun iP dA => ts 2 m73 rfl rfl b.o1 rfl <| hk dA (nq 3 rfl (nq 4 rfl ns)) <| hv 19 rfl (nE rfl) (by kernel_rfl) rfl <| hv 20 rfl (fa oG rfl) (by kernel_rfl) rfl <| ho 21 rfl (by kernel_rfl) fun iQ dB => ts 2 m73 rfl rfl a.o1 rfl <| hk dB (nq 3 rfl (nq 4 rfl ns)) <| hz (by kernel_rfl) <| jn [2, 3, 1, 4, 0] (o p b a hp)
             · exact tbs [(0, g)] [g] u73 i25 (by obtain ⟨_, _, rfl⟩ := (c).len; kernel_rfl) rfl rfl rfl rfl fun F => hk dx (nq 3 rfl (nq 4 rfl ns)) <| ho 12 rfl (by kernel_rfl) fun iR dC => tv (lb s73 2 rfl rfl rfl) rfl <| hk dC (nq 3 rfl (nq 4 rfl ns)) <| ho 15 rfl (by kernel_rfl) fun iS dD => tp [5, 0, 6, 1, 2, 3, 4] [_,_,_,_,_,_,_] rfl rfl <| tp2 u73 i25 h hp (RepL.to (G' := m) (RepL.cons (k := (kSl 3 (nt .i64))) (x := j) ⟨_, rfl, c⟩ RepL.nil) (by simp)) rfl rfl rfl rfl rfl rfl rfl rfl rfl fun q t u a hp => hk dD (nq 3 rfl (nq 4 rfl ns)) <| hv 16 rfl (nE rfl) (by kernel_rfl) rfl <| hv 17 rfl (fa oF rfl) (by kernel_rfl) rfl <| ho 18 rfl (by kernel_rfl) fun iT dE => ts 2 m73 rfl rfl b.o1 rfl <| hk dE (nq 3 rfl (nq 4 rfl ns)) <| hv 19 rfl (nE rfl) (by kernel_rfl) rfl <| hv 20 rfl (fa oG rfl) (by kernel_rfl) rfl <| ho 21 rfl (by kernel_rfl) fun iU dF => ts 2 m73 rfl rfl a.o1 rfl <| hk dF (nq 3 rfl (nq 4 rfl ns)) <| hz (by kernel_rfl) <| jn [2, 3, 1, 4, 0] (o p b a hp)
           · refine tv (lb s73 1 rfl rfl rfl) rfl <| hk du (nq 2 rfl (nq 4 rfl ns)) <| nU [8, 14] (by kernel_rfl) (by simp) (nF ⟨_, rfl, fun iV dG => ?_⟩ (nF ⟨_, rfl, fun iW dH => ?_⟩ nV))
             · exact tp [3, 0, 6, 1, 2, 4, 5, 7] [_,_,_,_,_,_,_,_] rfl rfl <| tp2 u73 i25 n hp (RepL.to (G' := i) (RepL.cons (k := (kSl 3 (nt .i64))) (x := l) ⟨_, rfl, d⟩ RepL.nil) (by simp)) rfl rfl rfl rfl rfl rfl rfl rfl rfl fun z B C b hp => hk dG (nq 2 rfl (nq 3 rfl ns)) <| ho 14 rfl (by kernel_rfl) fun iX dI => tbs [(0, g)] [g] u73 i25 (by obtain ⟨_, _, rfl⟩ := (c).len; kernel_rfl) rfl rfl rfl rfl fun F => hk dI (nq 3 rfl (nq 4 rfl ns)) <| ho 15 rfl (by kernel_rfl) fun iY dJ => tp [5, 0, 6, 1, 2, 3, 4] [_,_,_,_,_,_,_] rfl rfl <| tp2 u73 i25 h hp (RepL.to (G' := m) (RepL.cons (k := (kSl 3 (nt .i64))) (x := j) ⟨_, rfl, c⟩ RepL.nil) (by simp)) rfl rfl rfl rfl rfl rfl rfl rfl rfl fun q t u a hp => hk dJ (nq 3 rfl (nq 4 rfl ns)) <| hv 16 rfl (nE rfl) (by kernel_rfl) rfl <| hv 17 rfl (fa oF rfl) (by kernel_rfl) rfl <| ho 18 rfl (by kernel_rfl) fun iZ dK => ts 2 m73 rfl rfl b.o1 rfl <| hk dK (nq 3 rfl (nq 4 rfl ns)) <| hv 19 rfl (nE rfl) (by kernel_rfl) rfl <| hv 20 rfl (fa oG rfl) (by kernel_rfl) rfl <| ho 21 rfl (by kernel_rfl) fun i0 dL => ts 2 m73 rfl rfl a.o1 rfl <| hk dL (nq 3 rfl (nq 4 rfl ns)) <| hz (by kernel_rfl) <| jn [2, 3, 1, 4, 0] (o p b a hp)
             · exact tbs [(0, g)] [g] u73 i25 (by obtain ⟨_, _, rfl⟩ := (c).len; kernel_rfl) rfl rfl rfl rfl fun F => hk dH (nq 3 rfl (nq 5 rfl ns)) <| ho 8 rfl (by kernel_rfl) fun i1 dM => tp [4, 1, 7, 0, 2, 3, 5, 6, 8] [_,_,_,_,_,_,_,_,_] rfl rfl <| tp2 u73 i25 n hp (RepL.to (G' := i) (RepL.cons (k := (kSl 3 (nt .i64))) (x := l) ⟨_, rfl, d⟩ RepL.nil) (by simp)) rfl rfl rfl rfl rfl rfl rfl rfl rfl fun z B C b hp => hk dM (nq 3 rfl (nq 4 rfl ns)) <| ho 15 rfl (by kernel_rfl) fun i2 dN => tp [5, 1, 6, 0, 2, 3, 4] [_,_,_,_,_,_,_] rfl rfl <| tp2 u73 i25 h hp (RepL.to (G' := m) (RepL.cons (k := (kSl 3 (nt .i64))) (x := j) ⟨_, rfl, c⟩ RepL.nil) (by simp)) rfl rfl rfl rfl rfl rfl rfl rfl rfl fun q t u a hp => hk dN (nq 3 rfl (nq 4 rfl ns)) <| hv 16 rfl (nE rfl) (by kernel_rfl) rfl <| hv 17 rfl (fa oF rfl) (by kernel_rfl) rfl <| ho 18 rfl (by kernel_rfl) fun i4 dO => ts 2 m73 rfl rfl b.o1 rfl <| hk dO (nq 3 rfl (nq 4 rfl ns)) <| hv 19 rfl (nE rfl) (by kernel_rfl) rfl <| hv 20 rfl (fa oG rfl) (by kernel_rfl) rfl <| ho 21 rfl (by kernel_rfl) fun i5 dP => ts 2 m73 rfl rfl a.o1 rfl <| hk dP (nq 3 rfl (nq 4 rfl ns)) <| hz (by kernel_rfl) <| jn [2, 3, 1, 4, 0] (o p b a hp)
           · refine tbs [(0, g)] [g] u73 i25 (by obtain ⟨_, _, rfl⟩ := (c).len; kernel_rfl) rfl rfl rfl rfl fun F => hk dv (nq 3 rfl (nq 5 rfl ns)) <| nU [8, 12] (by kernel_rfl) (by simp) (nF ⟨_, rfl, fun i6 dQ => ?_⟩ (nF ⟨_, rfl, fun i7 dR => ?_⟩ nV))
             · exact tp [4, 1, 7, 0, 2, 3, 5, 6, 8] [_,_,_,_,_,_,_,_,_] rfl rfl <| tp2 u73 i25 n hp (RepL.to (G' := i) (RepL.cons (k := (kSl 3 (nt .i64))) (x := l) ⟨_, rfl, d⟩ RepL.nil) (by simp)) rfl rfl rfl rfl rfl rfl rfl rfl rfl fun z B C b hp => hk dQ (nq 3 rfl (nq 4 rfl ns)) <| ho 12 rfl (by kernel_rfl) fun i8 dS => tv (lb s73 2 rfl rfl rfl) rfl <| hk dS (nq 3 rfl (nq 4 rfl ns)) <| ho 15 rfl (by kernel_rfl) fun i9 dT => tp [5, 1, 6, 0, 2, 3, 4] [_,_,_,_,_,_,_] rfl rfl <| tp2 u73 i25 h hp (RepL.to (G' := m) (RepL.cons (k := (kSl 3 (nt .i64))) (x := j) ⟨_, rfl, c⟩ RepL.nil) (by simp)) rfl rfl rfl rfl rfl rfl rfl rfl rfl fun q t u a hp => hk dT (nq 3 rfl (nq 4 rfl ns)) <| hv 16 rfl (nE rfl) (by kernel_rfl) rfl <| hv 17 rfl (fa oF rfl) (by kernel_rfl) rfl <| ho 18 rfl (by kernel_rfl) fun ja dU => ts 2 m73 rfl rfl b.o1 rfl <| hk dU (nq 3 rfl (nq 4 rfl ns)) <| hv 19 rfl (nE rfl) (by kernel_rfl) rfl <| hv 20 rfl (fa oG rfl) (by kernel_rfl) rfl <| ho 21 rfl (by kernel_rfl) fun jb dV => ts 2 m73 rfl rfl a.o1 rfl <| hk dV (nq 3 rfl (nq 4 rfl ns)) <| hz (by kernel_rfl) <| jn [2, 3, 1, 4, 0] (o p b a hp)
             · exact tv (lb s73 2 rfl rfl rfl) rfl <| hk dR (nq 3 rfl (nq 5 rfl ns)) <| ho 8 rfl (by kernel_rfl) fun jc dW => tp [4, 1, 7, 0, 2, 3, 5, 6, 8] [_,_,_,_,_,_,_,_,_] rfl rfl <| tp2 u73 i25 n hp (RepL.to (G' := i) (RepL.cons (k := (kSl 3 (nt .i64))) (x := l) ⟨_, rfl, d⟩ RepL.nil) (by simp)) rfl rfl rfl rfl rfl rfl rfl rfl rfl fun z B C b hp => hk dW (nq 3 rfl (nq 4 rfl ns)) <| ho 15 rfl (by kernel_rfl) fun jd dX => tp [5, 1, 6, 0, 2, 3, 4] [_,_,_,_,_,_,_] rfl rfl <| tp2 u73 i25 h hp (RepL.to (G' := m) (RepL.cons (k := (kSl 3 (nt .i64))) (x := j) ⟨_, rfl, c⟩ RepL.nil) (by simp)) rfl rfl rfl rfl rfl rfl rfl rfl rfl fun q t u a hp => hk dX (nq 3 rfl (nq 4 rfl ns)) <| hv 16 rfl (nE rfl) (by kernel_rfl) rfl <| hv 17 rfl (fa oF rfl) (by kernel_rfl) rfl <| ho 18 rfl (by kernel_rfl) fun je dY => ts 2 m73 rfl rfl b.o1 rfl <| hk dY (nq 3 rfl (nq 4 rfl ns)) <| hv 19 rfl (nE rfl) (by kernel_rfl) rfl <| hv 20 rfl (fa oG rfl) (by kernel_rfl) rfl <| ho 21 rfl (by kernel_rfl) fun jf dZ => ts 2 m73 rfl rfl a.o1 rfl <| hk dZ (nq 3 rfl (nq 4 rfl ns)) <| hz (by kernel_rfl) <| jn [2, 3, 1, 4, 0] (o p b a hp)
         · refine tv (lb s73 0 rfl rfl rfl) rfl <| hk dq (nq 1 rfl (nq 3 rfl ns)) <| nU [7, 14] (by kernel_rfl) (by simp) (nF ⟨_, rfl, fun jg d0 => ?_⟩ (nF ⟨_, rfl, fun jh d1 => ?_⟩ nV))
           · refine tbs [(0, y)] [y] u73 i25 (by obtain ⟨_, _, rfl⟩ := (d).len; kernel_rfl) rfl rfl rfl rfl fun Q => hk d0 (nq 2 rfl (nq 4 rfl ns)) <| nU [8, 14] (by kernel_rfl) (by simp) (nF ⟨_, rfl, fun ji d2 => ?_⟩ (nF ⟨_, rfl, fun jj d3 => ?_⟩ nV))
             · exact tp [3, 0, 6, 1, 2, 4, 5, 7] [_,_,_,_,_,_,_,_] rfl rfl <| tp2 u73 i25 n hp (RepL.to (G' := i) (RepL.cons (k := (kSl 3 (nt .i64))) (x := l) ⟨_, rfl, d⟩ RepL.nil) (by simp)) rfl rfl rfl rfl rfl rfl rfl rfl rfl fun z B C b hp => hk d2 (nq 2 rfl (nq 3 rfl ns)) <| ho 14 rfl (by kernel_rfl) fun jk d4 => tbs [(0, g)] [g] u73 i25 (by obtain ⟨_, _, rfl⟩ := (c).len; kernel_rfl) rfl rfl rfl rfl fun F => hk d4 (nq 3 rfl (nq 4 rfl ns)) <| ho 15 rfl (by kernel_rfl) fun jl d5 => tp [5, 0, 6, 1, 2, 3, 4] [_,_,_,_,_,_,_] rfl rfl <| tp2 u73 i25 h hp (RepL.to (G' := m) (RepL.cons (k := (kSl 3 (nt .i64))) (x := j) ⟨_, rfl, c⟩ RepL.nil) (by simp)) rfl rfl rfl rfl rfl rfl rfl rfl rfl fun q t u a hp => hk d5 (nq 3 rfl (nq 4 rfl ns)) <| hv 16 rfl (nE rfl) (by kernel_rfl) rfl <| hv 17 rfl (fa oF rfl) (by kernel_rfl) rfl <| ho 18 rfl (by kernel_rfl) fun jm d6 => ts 2 m73 rfl rfl b.o1 rfl <| hk d6 (nq 3 rfl (nq 4 rfl ns)) <| hv 19 rfl (nE rfl) (by kernel_rfl) rfl <| hv 20 rfl (fa oG rfl) (by kernel_rfl) rfl <| ho 21 rfl (by kernel_rfl) fun jo d7 => ts 2 m73 rfl rfl a.o1 rfl <| hk d7 (nq 3 rfl (nq 4 rfl ns)) <| hz (by kernel_rfl) <| jn [2, 3, 1, 4, 0] (o p b a hp)
             · exact tbs [(0, g)] [g] u73 i25 (by obtain ⟨_, _, rfl⟩ := (c).len; kernel_rfl) rfl rfl rfl rfl fun F => hk d3 (nq 3 rfl (nq 5 rfl ns)) <| ho 8 rfl (by kernel_rfl) fun jp d8 => tp [4, 1, 7, 0, 2, 3, 5, 6, 8] [_,_,_,_,_,_,_,_,_] rfl rfl <| tp2 u73 i25 n hp (RepL.to (G' := i) (RepL.cons (k := (kSl 3 (nt .i64))) (x := l) ⟨_, rfl, d⟩ RepL.nil) (by simp)) rfl rfl rfl rfl rfl rfl rfl rfl rfl fun z B C b hp => hk d8 (nq 3 rfl (nq 4 rfl ns)) <| ho 15 rfl (by kernel_rfl) fun jq d9 => tp [5, 1, 6, 0, 2, 3, 4] [_,_,_,_,_,_,_] rfl rfl <| tp2 u73 i25 h hp (RepL.to (G' := m) (RepL.cons (k := (kSl 3 (nt .i64))) (x := j) ⟨_, rfl, c⟩ RepL.nil) (by simp)) rfl rfl rfl rfl rfl rfl rfl rfl rfl fun q t u a hp => hk d9 (nq 3 rfl (nq 4 rfl ns)) <| hv 16 rfl (nE rfl) (by kernel_rfl) rfl <| hv 17 rfl (fa oF rfl) (by kernel_rfl) rfl <| ho 18 rfl (by kernel_rfl) fun jr ea => ts 2 m73 rfl rfl b.o1 rfl <| hk ea (nq 3 rfl (nq 4 rfl ns)) <| hv 19 rfl (nE rfl) (by kernel_rfl) rfl <| hv 20 rfl (fa oG rfl) (by kernel_rfl) rfl <| ho 21 rfl (by kernel_rfl) fun js eb => ts 2 m73 rfl rfl a.o1 rfl <| hk eb (nq 3 rfl (nq 4 rfl ns)) <| hz (by kernel_rfl) <| jn [2, 3, 1, 4, 0] (o p b a hp)
           · exact tbs [(0, g)] [g] u73 i25 (by obtain ⟨_, _, rfl⟩ := (c).len; kernel_rfl) rfl rfl rfl rfl fun F => hk d1 (nq 2 rfl (nq 4 rfl ns)) <| ho 7 rfl (by kernel_rfl) fun jt ec => tbs [(0, y)] [y] u73 i25 (by obtain ⟨_, _, rfl⟩ := (d).len; kernel_rfl) rfl rfl rfl rfl fun Q => hk ec (nq 3 rfl (nq 5 rfl ns)) <| ho 8 rfl (by kernel_rfl) fun ju ed => tp [4, 0, 7, 1, 2, 3, 5, 6, 8] [_,_,_,_,_,_,_,_,_] rfl rfl <| tp2 u73 i25 n hp (RepL.to (G' := i) (RepL.cons (k := (kSl 3 (nt .i64))) (x := l) ⟨_, rfl, d⟩ RepL.nil) (by simp)) rfl rfl rfl rfl rfl rfl rfl rfl rfl fun z B C b hp => hk ed (nq 3 rfl (nq 4 rfl ns)) <| ho 15 rfl (by kernel_rfl) fun jv ee => tp [5, 1, 6, 0, 2, 3, 4] [_,_,_,_,_,_,_] rfl rfl <| tp2 u73 i25 h hp (RepL.to (G' := m) (RepL.cons (k := (kSl 3 (nt .i64))) (x := j) ⟨_, rfl, c⟩ RepL.nil) (by simp)) rfl rfl rfl rfl rfl rfl rfl rfl rfl fun q t u a hp => hk ee (nq 3 rfl (nq 4 rfl ns)) <| hv 16 rfl (nE rfl) (by kernel_rfl) rfl <| hv 17 rfl (fa oF rfl) (by kernel_rfl) rfl <| ho 18 rfl (by kernel_rfl) fun jw ef => ts 2 m73 rfl rfl b.o1 rfl <| hk ef (nq 3 rfl (nq 4 rfl ns)) <| hv 19 rfl (nE rfl) (by kernel_rfl) rfl <| hv 20 rfl (fa oG rfl) (by kernel_rfl) rfl <| ho 21 rfl (by kernel_rfl) fun jx eg => ts 2 m73 rfl rfl a.o1 rfl <| hk eg (nq 3 rfl (nq 4 rfl ns)) <| hz (by kernel_rfl) <| jn [2, 3, 1, 4, 0] (o p b a hp)
         · refine tbs [(0, g)] [g] u73 i25 (by obtain ⟨_, _, rfl⟩ := (c).len; kernel_rfl) rfl rfl rfl rfl fun F => hk dr (nq 2 rfl (nq 4 rfl ns)) <| nU [7, 12] (by kernel_rfl) (by simp) (nF ⟨_, rfl, fun jy eh => ?_⟩ (nF ⟨_, rfl, fun jz ei => ?_⟩ nV))
           · refine tbs [(0, y)] [y] u73 i25 (by obtain ⟨_, _, rfl⟩ := (d).len; kernel_rfl) rfl rfl rfl rfl fun Q => hk eh (nq 3 rfl (nq 5 rfl ns)) <| nU [8, 12] (by kernel_rfl) (by simp) (nF ⟨_, rfl, fun jA ej => ?_⟩ (nF ⟨_, rfl, fun jB ek => ?_⟩ nV))
             · exact tp [4, 0, 7, 1, 2, 3, 5, 6, 8] [_,_,_,_,_,_,_,_,_] rfl rfl <| tp2 u73 i25 n hp (RepL.to (G' := i) (RepL.cons (k := (kSl 3 (nt .i64))) (x := l) ⟨_, rfl, d⟩ RepL.nil) (by simp)) rfl rfl rfl rfl rfl rfl rfl rfl rfl fun z B C b hp => hk ej (nq 3 rfl (nq 4 rfl ns)) <| ho 12 rfl (by kernel_rfl) fun jC el => tv (lb s73 2 rfl rfl rfl) rfl <| hk el (nq 3 rfl (nq 4 rfl ns)) <| ho 15 rfl (by kernel_rfl) fun jD em => tp [5, 1, 6, 0, 2, 3, 4] [_,_,_,_,_,_,_] rfl rfl <| tp2 u73 i25 h hp (RepL.to (G' := m) (RepL.cons (k := (kSl 3 (nt .i64))) (x := j) ⟨_, rfl, c⟩ RepL.nil) (by simp)) rfl rfl rfl rfl rfl rfl rfl rfl rfl fun q t u a hp => hk em (nq 3 rfl (nq 4 rfl ns)) <| hv 16 rfl (nE rfl) (by kernel_rfl) rfl <| hv 17 rfl (fa oF rfl) (by kernel_rfl) rfl <| ho 18 rfl (by kernel_rfl) fun jE en => ts 2 m73 rfl rfl b.o1 rfl <| hk en (nq 3 rfl (nq 4 rfl ns)) <| hv 19 rfl (nE rfl) (by kernel_rfl) rfl <| hv 20 rfl (fa oG rfl) (by kernel_rfl) rfl <| ho 21 rfl (by kernel_rfl) fun jF eo => ts 2 m73 rfl rfl a.o1 rfl <| hk eo (nq 3 rfl (nq 4 rfl ns)) <| hz (by kernel_rfl) <| jn [2, 3, 1, 4, 0] (o p b a hp)
             · exact tv (lb s73 2 rfl rfl rfl) rfl <| hk ek (nq 3 rfl (nq 5 rfl ns)) <| ho 8 rfl (by kernel_rfl) fun jG ep => tp [4, 0, 7, 1, 2, 3, 5, 6, 8] [_,_,_,_,_,_,_,_,_] rfl rfl <| tp2 u73 i25 n hp (RepL.to (G' := i) (RepL.cons (k := (kSl 3 (nt .i64))) (x := l) ⟨_, rfl, d⟩ RepL.nil) (by simp)) rfl rfl rfl rfl rfl rfl rfl rfl rfl fun z B C b hp => hk ep (nq 3 rfl (nq 4 rfl ns)) <| ho 15 rfl (by kernel_rfl) fun jH eq => tp [5, 1, 6, 0, 2, 3, 4] [_,_,_,_,_,_,_] rfl rfl <| tp2 u73 i25 h hp (RepL.to (G' := m) (RepL.cons (k := (kSl 3 (nt .i64))) (x := j) ⟨_, rfl, c⟩ RepL.nil) (by simp)) rfl rfl rfl rfl rfl rfl rfl rfl rfl fun q t u a hp => hk eq (nq 3 rfl (nq 4 rfl ns)) <| hv 16 rfl (nE rfl) (by kernel_rfl) rfl <| hv 17 rfl (fa oF rfl) (by kernel_rfl) rfl <| ho 18 rfl (by kernel_rfl) fun jI er => ts 2 m73 rfl rfl b.o1 rfl <| hk er (nq 3 rfl (nq 4 rfl ns)) <| hv 19 rfl (nE rfl) (by kernel_rfl) rfl <| hv 20 rfl (fa oG rfl) (by kernel_rfl) rfl <| ho 21 rfl (by kernel_rfl) fun jJ es => ts 2 m73 rfl rfl a.o1 rfl <| hk es (nq 3 rfl (nq 4 rfl ns)) <| hz (by kernel_rfl) <| jn [2, 3, 1, 4, 0] (o p b a hp)
           · exact tv (lb s73 1 rfl rfl rfl) rfl <| hk ei (nq 2 rfl (nq 4 rfl ns)) <| ho 7 rfl (by kernel_rfl) fun jK et => tbs [(0, y)] [y] u73 i25 (by obtain ⟨_, _, rfl⟩ := (d).len; kernel_rfl) rfl rfl rfl rfl fun Q => hk et (nq 3 rfl (nq 5 rfl ns)) <| ho 8 rfl (by kernel_rfl) fun jL eu => tp [4, 0, 7, 1, 2, 3, 5, 6, 8] [_,_,_,_,_,_,_,_,_] rfl rfl <| tp2 u73 i25 n hp (RepL.to (G' := i) (RepL.cons (k := (kSl 3 (nt .i64))) (x := l) ⟨_, rfl, d⟩ RepL.nil) (by simp)) rfl rfl rfl rfl rfl rfl rfl rfl rfl fun z B C b hp => hk eu (nq 3 rfl (nq 4 rfl ns)) <| ho 15 rfl (by kernel_rfl) fun jM ev => tp [5, 1, 6, 0, 2, 3, 4] [_,_,_,_,_,_,_] rfl rfl <| tp2 u73 i25 h hp (RepL.to (G' := m) (RepL.cons (k := (kSl 3 (nt .i64))) (x := j) ⟨_, rfl, c⟩ RepL.nil) (by simp)) rfl rfl rfl rfl rfl rfl rfl rfl rfl fun q t u a hp => hk ev (nq 3 rfl (nq 4 rfl ns)) <| hv 16 rfl (nE rfl) (by kernel_rfl) rfl <| hv 17 rfl (fa oF rfl) (by kernel_rfl) rfl <| ho 18 rfl (by kernel_rfl) fun jN ew => ts 2 m73 rfl rfl b.o1 rfl <| hk ew (nq 3 rfl (nq 4 rfl ns)) <| hv 19 rfl (nE rfl) (by kernel_rfl) rfl <| hv 20 rfl (fa oG rfl) (by kernel_rfl) rfl <| ho 21 rfl (by kernel_rfl) fun jO ex => ts 2 m73 rfl rfl a.o1 rfl <| hk ex (nq 3 rfl (nq 4 rfl ns)) <| hz (by kernel_rfl) <| jn [2, 3, 1, 4, 0] (o p b a hp)
       · refine tbs [(0, y)] [y] u73 i25 (by obtain ⟨_, _, rfl⟩ := (d).len; kernel_rfl) rfl rfl rfl rfl fun Q => hk dl (nq 2 rfl (nq 4 rfl ns)) <| nU [5, 12, 14] (by kernel_rfl) (by simp) (nF ⟨_, rfl, fun jP ey => ?_⟩ (nF ⟨_, rfl, fun jQ ez => ?_⟩ (nF ⟨_, rfl, fun jR eA => ?_⟩ nV)))
         · refine tv (lb s73 1 rfl rfl rfl) rfl <| hk ey (nq 2 rfl (nq 4 rfl ns)) <| nU [8, 12, 14] (by kernel_rfl) (by simp) (nF ⟨_, rfl, fun jS eB => ?_⟩ (nF ⟨_, rfl, fun jT eC => ?_⟩ (nF ⟨_, rfl, fun jU eD => ?_⟩ nV)))
           · refine tp [3, 0, 6, 1, 2, 4, 5, 7] [_,_,_,_,_,_,_,_] rfl rfl <| tp2 u73 i25 n hp (RepL.to (G' := i) (RepL.cons (k := (kSl 3 (nt .i64))) (x := l) ⟨_, rfl, d⟩ RepL.nil) (by simp)) rfl rfl rfl rfl rfl rfl rfl rfl rfl fun z B C b hp => hk eB (nq 2 rfl (nq 3 rfl ns)) <| nU [12, 14] (by kernel_rfl) (by simp) (nF ⟨_, rfl, fun jV eE => ?_⟩ (nF ⟨_, rfl, fun jW eF => ?_⟩ nV))
             · exact tv (lb s73 1 rfl rfl rfl) rfl <| hk eE (nq 2 rfl (nq 3 rfl ns)) <| ho 14 rfl (by kernel_rfl) fun jX eG => tbs [(0, g)] [g] u73 i25 (by obtain ⟨_, _, rfl⟩ := (c).len; kernel_rfl) rfl rfl rfl rfl fun F => hk eG (nq 3 rfl (nq 4 rfl ns)) <| ho 15 rfl (by kernel_rfl) fun jY eH => tp [5, 0, 6, 1, 2, 3, 4] [_,_,_,_,_,_,_] rfl rfl <| tp2 u73 i25 h hp (RepL.to (G' := m) (RepL.cons (k := (kSl 3 (nt .i64))) (x := j) ⟨_, rfl, c⟩ RepL.nil) (by simp)) rfl rfl rfl rfl rfl rfl rfl rfl rfl fun q t u a hp => hk eH (nq 3 rfl (nq 4 rfl ns)) <| hv 16 rfl (nE rfl) (by kernel_rfl) rfl <| hv 17 rfl (fa oF rfl) (by kernel_rfl) rfl <| ho 18 rfl (by kernel_rfl) fun jZ eI => ts 2 m73 rfl rfl b.o1 rfl <| hk eI (nq 3 rfl (nq 4 rfl ns)) <| hv 19 rfl (nE rfl) (by kernel_rfl) rfl <| hv 20 rfl (fa oG rfl) (by kernel_rfl) rfl <| ho 21 rfl (by kernel_rfl) fun j0 eJ => ts 2 m73 rfl rfl a.o1 rfl <| hk eJ (nq 3 rfl (nq 4 rfl ns)) <| hz (by kernel_rfl) <| jn [2, 3, 1, 4, 0] (o p b a hp)
             · exact tbs [(0, g)] [g] u73 i25 (by obtain ⟨_, _, rfl⟩ := (c).len; kernel_rfl) rfl rfl rfl rfl fun F => hk eF (nq 3 rfl (nq 4 rfl ns)) <| ho 12 rfl (by kernel_rfl) fun j1 eK => tv (lb s73 2 rfl rfl rfl) rfl <| hk eK (nq 3 rfl (nq 4 rfl ns)) <| ho 15 rfl (by kernel_rfl) fun j2 eL => tp [5, 0, 6, 1, 2, 3, 4] [_,_,_,_,_,_,_] rfl rfl <| tp2 u73 i25 h hp (RepL.to (G' := m) (RepL.cons (k := (kSl 3 (nt .i64))) (x := j) ⟨_, rfl, c⟩ RepL.nil) (by simp)) rfl rfl rfl rfl rfl rfl rfl rfl rfl fun q t u a hp => hk eL (nq 3 rfl (nq 4 rfl ns)) <| hv 16 rfl (nE rfl) (by kernel_rfl) rfl <| hv 17 rfl (fa oF rfl) (by kernel_rfl) rfl <| ho 18 rfl (by kernel_rfl) fun j3 eM => ts 2 m73 rfl rfl b.o1 rfl <| hk eM (nq 3 rfl (nq 4 rfl ns)) <| hv 19 rfl (nE rfl) (by kernel_rfl) rfl <| hv 20 rfl (fa oG rfl) (by kernel_rfl) rfl <| ho 21 rfl (by kernel_rfl) fun j4 eN => ts 2 m73 rfl rfl a.o1 rfl <| hk eN (nq 3 rfl (nq 4 rfl ns)) <| hz (by kernel_rfl) <| jn [2, 3, 1, 4, 0] (o p b a hp)
           · refine tv (lb s73 1 rfl rfl rfl) rfl <| hk eC (nq 2 rfl (nq 4 rfl ns)) <| nU [8, 14] (by kernel_rfl) (by simp) (nF ⟨_, rfl, fun j5 eO => ?_⟩ (nF ⟨_, rfl, fun j6 eP => ?_⟩ nV))
             · exact tp [3, 0, 6, 1, 2, 4, 5, 7] [_,_,_,_,_,_,_,_] rfl rfl <| tp2 u73 i25 n hp (RepL.to (G' := i) (RepL.cons (k := (kSl 3 (nt .i64))) (x := l) ⟨_, rfl, d⟩ RepL.nil) (by simp)) rfl rfl rfl rfl rfl rfl rfl rfl rfl fun z B C b hp => hk eO (nq 2 rfl (nq 3 rfl ns)) <| ho 14 rfl (by kernel_rfl) fun j7 eQ => tbs [(0, g)] [g] u73 i25 (by obtain ⟨_, _, rfl⟩ := (c).len; kernel_rfl) rfl rfl rfl rfl fun F => hk eQ (nq 3 rfl (nq 4 rfl ns)) <| ho 15 rfl (by kernel_rfl) fun j8 eR => tp [5, 0, 6, 1, 2, 3, 4] [_,_,_,_,_,_,_] rfl rfl <| tp2 u73 i25 h hp (RepL.to (G' := m) (RepL.cons (k := (kSl 3 (nt .i64))) (x := j) ⟨_, rfl, c⟩ RepL.nil) (by simp)) rfl rfl rfl rfl rfl rfl rfl rfl rfl fun q t u a hp => hk eR (nq 3 rfl (nq 4 rfl ns)) <| hv 16 rfl (nE rfl) (by kernel_rfl) rfl <| hv 17 rfl (fa oF rfl) (by kernel_rfl) rfl <| ho 18 rfl (by kernel_rfl) fun j9 eS => ts 2 m73 rfl rfl b.o1 rfl <| hk eS (nq 3 rfl (nq 4 rfl ns)) <| hv 19 rfl (nE rfl) (by kernel_rfl) rfl <| hv 20 rfl (fa oG rfl) (by kernel_rfl) rfl <| ho 21 rfl (by kernel_rfl) fun ka eT => ts 2 m73 rfl rfl a.o1 rfl <| hk eT (nq 3 rfl (nq 4 rfl ns)) <| hz (by kernel_rfl) <| jn [2, 3, 1, 4, 0] (o p b a hp)
             · exact tbs [(0, g)] [g] u73 i25 (by obtain ⟨_, _, rfl⟩ := (c).len; kernel_rfl) rfl rfl rfl rfl fun F => hk eP (nq 3 rfl (nq 5 rfl ns)) <| ho 8 rfl (by kernel_rfl) fun kb eU => tp [4, 1, 7, 0, 2, 3, 5, 6, 8] [_,_,_,_,_,_,_,_,_] rfl rfl <| tp2 u73 i25 n hp (RepL.to (G' := i) (RepL.cons (k := (kSl 3 (nt .i64))) (x := l) ⟨_, rfl, d⟩ RepL.nil) (by simp)) rfl rfl rfl rfl rfl rfl rfl rfl rfl fun z B C b hp => hk eU (nq 3 rfl (nq 4 rfl ns)) <| ho 15 rfl (by kernel_rfl) fun kc eV => tp [5, 1, 6, 0, 2, 3, 4] [_,_,_,_,_,_,_] rfl rfl <| tp2 u73 i25 h hp (RepL.to (G' := m) (RepL.cons (k := (kSl 3 (nt .i64))) (x := j) ⟨_, rfl, c⟩ RepL.nil) (by simp)) rfl rfl rfl rfl rfl rfl rfl rfl rfl fun q t u a hp => hk eV (nq 3 rfl (nq 4 rfl ns)) <| hv 16 rfl (nE rfl) (by kernel_rfl) rfl <| hv 17 rfl (fa oF rfl) (by kernel_rfl) rfl <| ho 18 rfl (by kernel_rfl) fun kd eW => ts 2 m73 rfl rfl b.o1 rfl <| hk eW (nq 3 rfl (nq 4 rfl ns)) <| hv 19 rfl (nE rfl) (by kernel_rfl) rfl <| hv 20 rfl (fa oG rfl) (by kernel_rfl) rfl <| ho 21 rfl (by kernel_rfl) fun ke eX => ts 2 m73 rfl rfl a.o1 rfl <| hk eX (nq 3 rfl (nq 4 rfl ns)) <| hz (by kernel_rfl) <| jn [2, 3, 1, 4, 0] (o p b a hp)
           · refine tbs [(0, g)] [g] u73 i25 (by obtain ⟨_, _, rfl⟩ := (c).len; kernel_rfl) rfl rfl rfl rfl fun F => hk eD (nq 3 rfl (nq 5 rfl ns)) <| nU [8, 12] (by kernel_rfl) (by simp) (nF ⟨_, rfl, fun kf eY => ?_⟩ (nF ⟨_, rfl, fun kg eZ => ?_⟩ nV))
             · exact tp [4, 1, 7, 0, 2, 3, 5, 6, 8] [_,_,_,_,_,_,_,_,_] rfl rfl <| tp2 u73 i25 n hp (RepL.to (G' := i) (RepL.cons (k := (kSl 3 (nt .i64))) (x := l) ⟨_, rfl, d⟩ RepL.nil) (by simp)) rfl rfl rfl rfl rfl rfl rfl rfl rfl fun z B C b hp => hk eY (nq 3 rfl (nq 4 rfl ns)) <| ho 12 rfl (by kernel_rfl) fun kh e0 => tv (lb s73 2 rfl rfl rfl) rfl <| hk e0 (nq 3 rfl (nq 4 rfl ns)) <| ho 15 rfl (by kernel_rfl) fun ki e1 => tp [5, 1, 6, 0, 2, 3, 4] [_,_,_,_,_,_,_] rfl rfl <| tp2 u73 i25 h hp (RepL.to (G' := m) (RepL.cons (k := (kSl 3 (nt .i64))) (x := j) ⟨_, rfl, c⟩ RepL.nil) (by simp)) rfl rfl rfl rfl rfl rfl rfl rfl rfl fun q t u a hp => hk e1 (nq 3 rfl (nq 4 rfl ns)) <| hv 16 rfl (nE rfl) (by kernel_rfl) rfl <| hv 17 rfl (fa oF rfl) (by kernel_rfl) rfl <| ho 18 rfl (by kernel_rfl) fun kj e2 => ts 2 m73 rfl rfl b.o1 rfl <| hk e2 (nq 3 rfl (nq 4 rfl ns)) <| hv 19 rfl (nE rfl) (by kernel_rfl) rfl <| hv 20 rfl (fa oG rfl) (by kernel_rfl) rfl <| ho 21 rfl (by kernel_rfl) fun kk e3 => ts 2 m73 rfl rfl a.o1 rfl <| hk e3 (nq 3 rfl (nq 4 rfl ns)) <| hz (by kernel_rfl) <| jn [2, 3, 1, 4, 0] (o p b a hp)
             · exact tv (lb s73 2 rfl rfl rfl) rfl <| hk eZ (nq 3 rfl (nq 5 rfl ns)) <| ho 8 rfl (by kernel_rfl) fun kl e4 => tp [4, 1, 7, 0, 2, 3, 5, 6, 8] [_,_,_,_,_,_,_,_,_] rfl rfl <| tp2 u73 i25 n hp (RepL.to (G' := i) (RepL.cons (k := (kSl 3 (nt .i64))) (x := l) ⟨_, rfl, d⟩ RepL.nil) (by simp)) rfl rfl rfl rfl rfl rfl rfl rfl rfl fun z B C b hp => hk e4 (nq 3 rfl (nq 4 rfl ns)) <| ho 15 rfl (by kernel_rfl) fun km e5 => tp [5, 1, 6, 0, 2, 3, 4] [_,_,_,_,_,_,_] rfl rfl <| tp2 u73 i25 h hp (RepL.to (G' := m) (RepL.cons (k := (kSl 3 (nt .i64))) (x := j) ⟨_, rfl, c⟩ RepL.nil) (by simp)) rfl rfl rfl rfl rfl rfl rfl rfl rfl fun q t u a hp => hk e5 (nq 3 rfl (nq 4 rfl ns)) <| hv 16 rfl (nE rfl) (by kernel_rfl) rfl <| hv 17 rfl (fa oF rfl) (by kernel_rfl) rfl <| ho 18 rfl (by kernel_rfl) fun kn e6 => ts 2 m73 rfl rfl b.o1 rfl <| hk e6 (nq 3 rfl (nq 4 rfl ns)) <| hv 19 rfl (nE rfl) (by kernel_rfl) rfl <| hv 20 rfl (fa oG rfl) (by kernel_rfl) rfl <| ho 21 rfl (by kernel_rfl) fun ko e7 => ts 2 m73 rfl rfl a.o1 rfl <| hk e7 (nq 3 rfl (nq 4 rfl ns)) <| hz (by kernel_rfl) <| jn [2, 3, 1, 4, 0] (o p b a hp)
         · refine tv (lb s73 1 rfl rfl rfl) rfl <| hk ez (nq 2 rfl (nq 4 rfl ns)) <| nU [5, 14] (by kernel_rfl) (by simp) (nF ⟨_, rfl, fun kp e8 => ?_⟩ (nF ⟨_, rfl, fun kq e9 => ?_⟩ nV))
           · refine tv (lb s73 1 rfl rfl rfl) rfl <| hk e8 (nq 2 rfl (nq 4 rfl ns)) <| nU [8, 14] (by kernel_rfl) (by simp) (nF ⟨_, rfl, fun kr fc => ?_⟩ (nF ⟨_, rfl, fun ks fd => ?_⟩ nV))
             · exact tp [3, 0, 6, 1, 2, 4, 5, 7] [_,_,_,_,_,_,_,_] rfl rfl <| tp2 u73 i25 n hp (RepL.to (G' := i) (RepL.cons (k := (kSl 3 (nt .i64))) (x := l) ⟨_, rfl, d⟩ RepL.nil) (by simp)) rfl rfl rfl rfl rfl rfl rfl rfl rfl fun z B C b hp => hk fc (nq 2 rfl (nq 3 rfl ns)) <| ho 14 rfl (by kernel_rfl) fun kt fe => tbs [(0, g)] [g] u73 i25 (by obtain ⟨_, _, rfl⟩ := (c).len; kernel_rfl) rfl rfl rfl rfl fun F => hk fe (nq 3 rfl (nq 4 rfl ns)) <| ho 15 rfl (by kernel_rfl) fun ku ff => tp [5, 0, 6, 1, 2, 3, 4] [_,_,_,_,_,_,_] rfl rfl <| tp2 u73 i25 h hp (RepL.to (G' := m) (RepL.cons (k := (kSl 3 (nt .i64))) (x := j) ⟨_, rfl, c⟩ RepL.nil) (by simp)) rfl rfl rfl rfl rfl rfl rfl rfl rfl fun q t u a hp => hk ff (nq 3 rfl (nq 4 rfl ns)) <| hv 16 rfl (nE rfl) (by kernel_rfl) rfl <| hv 17 rfl (fa oF rfl) (by kernel_rfl) rfl <| ho 18 rfl (by kernel_rfl) fun kv fg => ts 2 m73 rfl rfl b.o1 rfl <| hk fg (nq 3 rfl (nq 4 rfl ns)) <| hv 19 rfl (nE rfl) (by kernel_rfl) rfl <| hv 20 rfl (fa oG rfl) (by kernel_rfl) rfl <| ho 21 rfl (by kernel_rfl) fun kw fh => ts 2 m73 rfl rfl a.o1 rfl <| hk fh (nq 3 rfl (nq 4 rfl ns)) <| hz (by kernel_rfl) <| jn [2, 3, 1, 4, 0] (o p b a hp)
             · exact tbs [(0, g)] [g] u73 i25 (by obtain ⟨_, _, rfl⟩ := (c).len; kernel_rfl) rfl rfl rfl rfl fun F => hk fd (nq 3 rfl (nq 5 rfl ns)) <| ho 8 rfl (by kernel_rfl) fun kx fi => tp [4, 1, 7, 0, 2, 3, 5, 6, 8] [_,_,_,_,_,_,_,_,_] rfl rfl <| tp2 u73 i25 n hp (RepL.to (G' := i) (RepL.cons (k := (kSl 3 (nt .i64))) (x := l) ⟨_, rfl, d⟩ RepL.nil) (by simp)) rfl rfl rfl rfl rfl rfl rfl rfl rfl fun z B C b hp => hk fi (nq 3 rfl (nq 4 rfl ns)) <| ho 15 rfl (by kernel_rfl) fun ky fj => tp [5, 1, 6, 0, 2, 3, 4] [_,_,_,_,_,_,_] rfl rfl <| tp2 u73 i25 h hp (RepL.to (G' := m) (RepL.cons (k := (kSl 3 (nt .i64))) (x := j) ⟨_, rfl, c⟩ RepL.nil) (by simp)) rfl rfl rfl rfl rfl rfl rfl rfl rfl fun q t u a hp => hk fj (nq 3 rfl (nq 4 rfl ns)) <| hv 16 rfl (nE rfl) (by kernel_rfl) rfl <| hv 17 rfl (fa oF rfl) (by kernel_rfl) rfl <| ho 18 rfl (by kernel_rfl) fun kz fk => ts 2 m73 rfl rfl b.o1 rfl <| hk fk (nq 3 rfl (nq 4 rfl ns)) <| hv 19 rfl (nE rfl) (by kernel_rfl) rfl <| hv 20 rfl (fa oG rfl) (by kernel_rfl) rfl <| ho 21 rfl (by kernel_rfl) fun kA fl => ts 2 m73 rfl rfl a.o1 rfl <| hk fl (nq 3 rfl (nq 4 rfl ns)) <| hz (by kernel_rfl) <| jn [2, 3, 1, 4, 0] (o p b a hp)
           · exact tbs [(0, g)] [g] u73 i25 (by obtain ⟨_, _, rfl⟩ := (c).len; kernel_rfl) rfl rfl rfl rfl fun F => hk e9 (nq 3 rfl (nq 5 rfl ns)) <| ho 5 rfl (by kernel_rfl) fun kB fm => tv (lb s73 2 rfl rfl rfl) rfl <| hk fm (nq 3 rfl (nq 5 rfl ns)) <| ho 8 rfl (by kernel_rfl) fun kC fo => tp [4, 1, 7, 0, 2, 3, 5, 6, 8] [_,_,_,_,_,_,_,_,_] rfl rfl <| tp2 u73 i25 n hp (RepL.to (G' := i) (RepL.cons (k := (kSl 3 (nt .i64))) (x := l) ⟨_, rfl, d⟩ RepL.nil) (by simp)) rfl rfl rfl rfl rfl rfl rfl rfl rfl fun z B C b hp => hk fo (nq 3 rfl (nq 4 rfl ns)) <| ho 15 rfl (by kernel_rfl) fun kD fp => tp [5, 1, 6, 0, 2, 3, 4] [_,_,_,_,_,_,_] rfl rfl <| tp2 u73 i25 h hp (RepL.to (G' := m) (RepL.cons (k := (kSl 3 (nt .i64))) (x := j) ⟨_, rfl, c⟩ RepL.nil) (by simp)) rfl rfl rfl rfl rfl rfl rfl rfl rfl fun q t u a hp => hk fp (nq 3 rfl (nq 4 rfl ns)) <| hv 16 rfl (nE rfl) (by kernel_rfl) rfl <| hv 17 rfl (fa oF rfl) (by kernel_rfl) rfl <| ho 18 rfl (by kernel_rfl) fun kE fq => ts 2 m73 rfl rfl b.o1 rfl <| hk fq (nq 3 rfl (nq 4 rfl ns)) <| hv 19 rfl (nE rfl) (by kernel_rfl) rfl <| hv 20 rfl (fa oG rfl) (by kernel_rfl) rfl <| ho 21 rfl (by kernel_rfl) fun kF fr => ts 2 m73 rfl rfl a.o1 rfl <| hk fr (nq 3 rfl (nq 4 rfl ns)) <| hz (by kernel_rfl) <| jn [2, 3, 1, 4, 0] (o p b a hp)
         · refine tbs [(0, g)] [g] u73 i25 (by obtain ⟨_, _, rfl⟩ := (c).len; kernel_rfl) rfl rfl rfl rfl fun F => hk eA (nq 3 rfl (nq 5 rfl ns)) <| nU [5, 12] (by kernel_rfl) (by simp) (nF ⟨_, rfl, fun kG fs => ?_⟩ (nF ⟨_, rfl, fun kH ft => ?_⟩ nV))
           · refine tv (lb s73 2 rfl rfl rfl) rfl <| hk fs (nq 3 rfl (nq 5 rfl ns)) <| nU [8, 12] (by kernel_rfl) (by simp) (nF ⟨_, rfl, fun kI fu => ?_⟩ (nF ⟨_, rfl, fun kJ fv => ?_⟩ nV))
             · exact tp [4, 1, 7, 0, 2, 3, 5, 6, 8] [_,_,_,_,_,_,_,_,_] rfl rfl <| tp2 u73 i25 n hp (RepL.to (G' := i) (RepL.cons (k := (kSl 3 (nt .i64))) (x := l) ⟨_, rfl, d⟩ RepL.nil) (by simp)) rfl rfl rfl rfl rfl rfl rfl rfl rfl fun z B C b hp => hk fu (nq 3 rfl (nq 4 rfl ns)) <| ho 12 rfl (by kernel_rfl) fun kK fw => tv (lb s73 2 rfl rfl rfl) rfl <| hk fw (nq 3 rfl (nq 4 rfl ns)) <| ho 15 rfl (by kernel_rfl) fun kL fx => tp [5, 1, 6, 0, 2, 3, 4] [_,_,_,_,_,_,_] rfl rfl <| tp2 u73 i25 h hp (RepL.to (G' := m) (RepL.cons (k := (kSl 3 (nt .i64))) (x := j) ⟨_, rfl, c⟩ RepL.nil) (by simp)) rfl rfl rfl rfl rfl rfl rfl rfl rfl fun q t u a hp => hk fx (nq 3 rfl (nq 4 rfl ns)) <| hv 16 rfl (nE rfl) (by kernel_rfl) rfl <| hv 17 rfl (fa oF rfl) (by kernel_rfl) rfl <| ho 18 rfl (by kernel_rfl) fun kM fy => ts 2 m73 rfl rfl b.o1 rfl <| hk fy (nq 3 rfl (nq 4 rfl ns)) <| hv 19 rfl (nE rfl) (by kernel_rfl) rfl <| hv 20 rfl (fa oG rfl) (by kernel_rfl) rfl <| ho 21 rfl (by kernel_rfl) fun kN fz => ts 2 m73 rfl rfl a.o1 rfl <| hk fz (nq 3 rfl (nq 4 rfl ns)) <| hz (by kernel_rfl) <| jn [2, 3, 1, 4, 0] (o p b a hp)
             · exact tv (lb s73 2 rfl rfl rfl) rfl <| hk fv (nq 3 rfl (nq 5 rfl ns)) <| ho 8 rfl (by kernel_rfl) fun kO fA => tp [4, 1, 7, 0, 2, 3, 5, 6, 8] [_,_,_,_,_,_,_,_,_] rfl rfl <| tp2 u73 i25 n hp (RepL.to (G' := i) (RepL.cons (k := (kSl 3 (nt .i64))) (x := l) ⟨_, rfl, d⟩ RepL.nil) (by simp)) rfl rfl rfl rfl rfl rfl rfl rfl rfl fun z B C b hp => hk fA (nq 3 rfl (nq 4 rfl ns)) <| ho 15 rfl (by kernel_rfl) fun kP fB => tp [5, 1, 6, 0, 2, 3, 4] [_,_,_,_,_,_,_] rfl rfl <| tp2 u73 i25 h hp (RepL.to (G' := m) (RepL.cons (k := (kSl 3 (nt .i64))) (x := j) ⟨_, rfl, c⟩ RepL.nil) (by simp)) rfl rfl rfl rfl rfl rfl rfl rfl rfl fun q t u a hp => hk fB (nq 3 rfl (nq 4 rfl ns)) <| hv 16 rfl (nE rfl) (by kernel_rfl) rfl <| hv 17 rfl (fa oF rfl) (by kernel_rfl) rfl <| ho 18 rfl (by kernel_rfl) fun kQ fC => ts 2 m73 rfl rfl b.o1 rfl <| hk fC (nq 3 rfl (nq 4 rfl ns)) <| hv 19 rfl (nE rfl) (by kernel_rfl) rfl <| hv 20 rfl (fa oG rfl) (by kernel_rfl) rfl <| ho 21 rfl (by kernel_rfl) fun kR fD => ts 2 m73 rfl rfl a.o1 rfl <| hk fD (nq 3 rfl (nq 4 rfl ns)) <| hz (by kernel_rfl) <| jn [2, 3, 1, 4, 0] (o p b a hp)
           · exact tv (lb s73 2 rfl rfl rfl) rfl <| hk ft (nq 3 rfl (nq 5 rfl ns)) <| ho 5 rfl (by kernel_rfl) fun kS fE => tv (lb s73 2 rfl rfl rfl) rfl <| hk fE (nq 3 rfl (nq 5 rfl ns)) <| ho 8 rfl (by kernel_rfl) fun kT fF => tp [4, 1, 7, 0, 2, 3, 5, 6, 8] [_,_,_,_,_,_,_,_,_] rfl rfl <| tp2 u73 i25 n hp (RepL.to (G' := i) (RepL.cons (k := (kSl 3 (nt .i64))) (x := l) ⟨_, rfl, d⟩ RepL.nil) (by simp)) rfl rfl rfl rfl rfl rfl rfl rfl rfl fun z B C b hp => hk fF (nq 3 rfl (nq 4 rfl ns)) <| ho 15 rfl (by kernel_rfl) fun kU fG => tp [5, 1, 6, 0, 2, 3, 4] [_,_,_,_,_,_,_] rfl rfl <| tp2 u73 i25 h hp (RepL.to (G' := m) (RepL.cons (k := (kSl 3 (nt .i64))) (x := j) ⟨_, rfl, c⟩ RepL.nil) (by simp)) rfl rfl rfl rfl rfl rfl rfl rfl rfl fun q t u a hp => hk fG (nq 3 rfl (nq 4 rfl ns)) <| hv 16 rfl (nE rfl) (by kernel_rfl) rfl <| hv 17 rfl (fa oF rfl) (by kernel_rfl) rfl <| ho 18 rfl (by kernel_rfl) fun kV fH => ts 2 m73 rfl rfl b.o1 rfl <| hk fH (nq 3 rfl (nq 4 rfl ns)) <| hv 19 rfl (nE rfl) (by kernel_rfl) rfl <| hv 20 rfl (fa oG rfl) (by kernel_rfl) rfl <| ho 21 rfl (by kernel_rfl) fun kW fI => ts 2 m73 rfl rfl a.o1 rfl <| hk fI (nq 3 rfl (nq 4 rfl ns)) <| hz (by kernel_rfl) <| jn [2, 3, 1, 4, 0] (o p b a hp)
       · refine tv (lb s73 0 rfl rfl rfl) rfl <| hk dm (nq 1 rfl (nq 3 rfl ns)) <| nU [5, 7, 14] (by kernel_rfl) (by simp) (nF ⟨_, rfl, fun kX fJ => ?_⟩ (nF ⟨_, rfl, fun kY fK => ?_⟩ (nF ⟨_, rfl, fun kZ fL => ?_⟩ nV)))
         · refine tv (lb s73 0 rfl rfl rfl) rfl <| hk fJ (nq 1 rfl (nq 3 rfl ns)) <| nU [7, 14] (by kernel_rfl) (by simp) (nF ⟨_, rfl, fun k0 fM => ?_⟩ (nF ⟨_, rfl, fun k1 fN => ?_⟩ nV))
           · refine tbs [(0, y)] [y] u73 i25 (by obtain ⟨_, _, rfl⟩ := (d).len; kernel_rfl) rfl rfl rfl rfl fun Q => hk fM (nq 2 rfl (nq 4 rfl ns)) <| nU [8, 14] (by kernel_rfl) (by simp) (nF ⟨_, rfl, fun k2 fO => ?_⟩ (nF ⟨_, rfl, fun k3 fP => ?_⟩ nV))
             · exact tp [3, 0, 6, 1, 2, 4, 5, 7] [_,_,_,_,_,_,_,_] rfl rfl <| tp2 u73 i25 n hp (RepL.to (G' := i) (RepL.cons (k := (kSl 3 (nt .i64))) (x := l) ⟨_, rfl, d⟩ RepL.nil) (by simp)) rfl rfl rfl rfl rfl rfl rfl rfl rfl fun z B C b hp => hk fO (nq 2 rfl (nq 3 rfl ns)) <| ho 14 rfl (by kernel_rfl) fun k4 fQ => tbs [(0, g)] [g] u73 i25 (by obtain ⟨_, _, rfl⟩ := (c).len; kernel_rfl) rfl rfl rfl rfl fun F => hk fQ (nq 3 rfl (nq 4 rfl ns)) <| ho 15 rfl (by kernel_rfl) fun k5 fR => tp [5, 0, 6, 1, 2, 3, 4] [_,_,_,_,_,_,_] rfl rfl <| tp2 u73 i25 h hp (RepL.to (G' := m) (RepL.cons (k := (kSl 3 (nt .i64))) (x := j) ⟨_, rfl, c⟩ RepL.nil) (by simp)) rfl rfl rfl rfl rfl rfl rfl rfl rfl fun q t u a hp => hk fR (nq 3 rfl (nq 4 rfl ns)) <| hv 16 rfl (nE rfl) (by kernel_rfl) rfl <| hv 17 rfl (fa oF rfl) (by kernel_rfl) rfl <| ho 18 rfl (by kernel_rfl) fun k6 fS => ts 2 m73 rfl rfl b.o1 rfl <| hk fS (nq 3 rfl (nq 4 rfl ns)) <| hv 19 rfl (nE rfl) (by kernel_rfl) rfl <| hv 20 rfl (fa oG rfl) (by kernel_rfl) rfl <| ho 21 rfl (by kernel_rfl) fun k7 fT => ts 2 m73 rfl rfl a.o1 rfl <| hk fT (nq 3 rfl (nq 4 rfl ns)) <| hz (by kernel_rfl) <| jn [2, 3, 1, 4, 0] (o p b a hp)
             · exact tbs [(0, g)] [g] u73 i25 (by obtain ⟨_, _, rfl⟩ := (c).len; kernel_rfl) rfl rfl rfl rfl fun F => hk fP (nq 3 rfl (nq 5 rfl ns)) <| ho 8 rfl (by kernel_rfl) fun k8 fU => tp [4, 1, 7, 0, 2, 3, 5, 6, 8] [_,_,_,_,_,_,_,_,_] rfl rfl <| tp2 u73 i25 n hp (RepL.to (G' := i) (RepL.cons (k := (kSl 3 (nt .i64))) (x := l) ⟨_, rfl, d⟩ RepL.nil) (by simp)) rfl rfl rfl rfl rfl rfl rfl rfl rfl fun z B C b hp => hk fU (nq 3 rfl (nq 4 rfl ns)) <| ho 15 rfl (by kernel_rfl) fun k9 fV => tp [5, 1, 6, 0, 2, 3, 4] [_,_,_,_,_,_,_] rfl rfl <| tp2 u73 i25 h hp (RepL.to (G' := m) (RepL.cons (k := (kSl 3 (nt .i64))) (x := j) ⟨_, rfl, c⟩ RepL.nil) (by simp)) rfl rfl rfl rfl rfl rfl rfl rfl rfl fun q t u a hp => hk fV (nq 3 rfl (nq 4 rfl ns)) <| hv 16 rfl (nE rfl) (by kernel_rfl) rfl <| hv 17 rfl (fa oF rfl) (by kernel_rfl) rfl <| ho 18 rfl (by kernel_rfl) fun la fW => ts 2 m73 rfl rfl b.o1 rfl <| hk fW (nq 3 rfl (nq 4 rfl ns)) <| hv 19 rfl (nE rfl) (by kernel_rfl) rfl <| hv 20 rfl (fa oG rfl) (by kernel_rfl) rfl <| ho 21 rfl (by kernel_rfl) fun lc fX => ts 2 m73 rfl rfl a.o1 rfl <| hk fX (nq 3 rfl (nq 4 rfl ns)) <| hz (by kernel_rfl) <| jn [2, 3, 1, 4, 0] (o p b a hp)
           · exact tbs [(0, g)] [g] u73 i25 (by obtain ⟨_, _, rfl⟩ := (c).len; kernel_rfl) rfl rfl rfl rfl fun F => hk fN (nq 2 rfl (nq 4 rfl ns)) <| ho 7 rfl (by kernel_rfl) fun ld fY => tbs [(0, y)] [y] u73 i25 (by obtain ⟨_, _, rfl⟩ := (d).len; kernel_rfl) rfl rfl rfl rfl fun Q => hk fY (nq 3 rfl (nq 5 rfl ns)) <| ho 8 rfl (by kernel_rfl) fun le fZ => tp [4, 0, 7, 1, 2, 3, 5, 6, 8] [_,_,_,_,_,_,_,_,_] rfl rfl <| tp2 u73 i25 n hp (RepL.to (G' := i) (RepL.cons (k := (kSl 3 (nt .i64))) (x := l) ⟨_, rfl, d⟩ RepL.nil) (by simp)) rfl rfl rfl rfl rfl rfl rfl rfl rfl fun z B C b hp => hk fZ (nq 3 rfl (nq 4 rfl ns)) <| ho 15 rfl (by kernel_rfl) fun lf f0 => tp [5, 1, 6, 0, 2, 3, 4] [_,_,_,_,_,_,_] rfl rfl <| tp2 u73 i25 h hp (RepL.to (G' := m) (RepL.cons (k := (kSl 3 (nt .i64))) (x := j) ⟨_, rfl, c⟩ RepL.nil) (by simp)) rfl rfl rfl rfl rfl rfl rfl rfl rfl fun q t u a hp => hk f0 (nq 3 rfl (nq 4 rfl ns)) <| hv 16 rfl (nE rfl) (by kernel_rfl) rfl <| hv 17 rfl (fa oF rfl) (by kernel_rfl) rfl <| ho 18 rfl (by kernel_rfl) fun lg f1 => ts 2 m73 rfl rfl b.o1 rfl <| hk f1 (nq 3 rfl (nq 4 rfl ns)) <| hv 19 rfl (nE rfl) (by kernel_rfl) rfl <| hv 20 rfl (fa oG rfl) (by kernel_rfl) rfl <| ho 21 rfl (by kernel_rfl) fun lh f2 => ts 2 m73 rfl rfl a.o1 rfl <| hk f2 (nq 3 rfl (nq 4 rfl ns)) <| hz (by kernel_rfl) <| jn [2, 3, 1, 4, 0] (o p b a hp)
         · refine tbs [(0, y)] [y] u73 i25 (by obtain ⟨_, _, rfl⟩ := (d).len; kernel_rfl) rfl rfl rfl rfl fun Q => hk fK (nq 2 rfl (nq 4 rfl ns)) <| nU [5, 14] (by kernel_rfl) (by simp) (nF ⟨_, rfl, fun li f3 => ?_⟩ (nF ⟨_, rfl, fun lj f4 => ?_⟩ nV))
           · refine tv (lb s73 1 rfl rfl rfl) rfl <| hk f3 (nq 2 rfl (nq 4 rfl ns)) <| nU [8, 14] (by kernel_rfl) (by simp) (nF ⟨_, rfl, fun lk f5 => ?_⟩ (nF ⟨_, rfl, fun ll f6 => ?_⟩ nV))
             · exact tp [3, 0, 6, 1, 2, 4, 5, 7] [_,_,_,_,_,_,_,_] rfl rfl <| tp2 u73 i25 n hp (RepL.to (G' := i) (RepL.cons (k := (kSl 3 (nt .i64))) (x := l) ⟨_, rfl, d⟩ RepL.nil) (by simp)) rfl rfl rfl rfl rfl rfl rfl rfl rfl fun z B C b hp => hk f5 (nq 2 rfl (nq 3 rfl ns)) <| ho 14 rfl (by kernel_rfl) fun lm f7 => tbs [(0, g)] [g] u73 i25 (by obtain ⟨_, _, rfl⟩ := (c).len; kernel_rfl) rfl rfl rfl rfl fun F => hk f7 (nq 3 rfl (nq 4 rfl ns)) <| ho 15 rfl (by kernel_rfl) fun lo f8 => tp [5, 0, 6, 1, 2, 3, 4] [_,_,_,_,_,_,_] rfl rfl <| tp2 u73 i25 h hp (RepL.to (G' := m) (RepL.cons (k := (kSl 3 (nt .i64))) (x := j) ⟨_, rfl, c⟩ RepL.nil) (by simp)) rfl rfl rfl rfl rfl rfl rfl rfl rfl fun q t u a hp => hk f8 (nq 3 rfl (nq 4 rfl ns)) <| hv 16 rfl (nE rfl) (by kernel_rfl) rfl <| hv 17 rfl (fa oF rfl) (by kernel_rfl) rfl <| ho 18 rfl (by kernel_rfl) fun lq f9 => ts 2 m73 rfl rfl b.o1 rfl <| hk f9 (nq 3 rfl (nq 4 rfl ns)) <| hv 19 rfl (nE rfl) (by kernel_rfl) rfl <| hv 20 rfl (fa oG rfl) (by kernel_rfl) rfl <| ho 21 rfl (by kernel_rfl) fun ls ga => ts 2 m73 rfl rfl a.o1 rfl <| hk ga (nq 3 rfl (nq 4 rfl ns)) <| hz (by kernel_rfl) <| jn [2, 3, 1, 4, 0] (o p b a hp)
             · exact tbs [(0, g)] [g] u73 i25 (by obtain ⟨_, _, rfl⟩ := (c).len; kernel_rfl) rfl rfl rfl rfl fun F => hk f6 (nq 3 rfl (nq 5 rfl ns)) <| ho 8 rfl (by kernel_rfl) fun lt gb => tp [4, 1, 7, 0, 2, 3, 5, 6, 8] [_,_,_,_,_,_,_,_,_] rfl rfl <| tp2 u73 i25 n hp (RepL.to (G' := i) (RepL.cons (k := (kSl 3 (nt .i64))) (x := l) ⟨_, rfl, d⟩ RepL.nil) (by simp)) rfl rfl rfl rfl rfl rfl rfl rfl rfl fun z B C b hp => hk gb (nq 3 rfl (nq 4 rfl ns)) <| ho 15 rfl (by kernel_rfl) fun lu gc => tp [5, 1, 6, 0, 2, 3, 4] [_,_,_,_,_,_,_] rfl rfl <| tp2 u73 i25 h hp (RepL.to (G' := m) (RepL.cons (k := (kSl 3 (nt .i64))) (x := j) ⟨_, rfl, c⟩ RepL.nil) (by simp)) rfl rfl rfl rfl rfl rfl rfl rfl rfl fun q t u a hp => hk gc (nq 3 rfl (nq 4 rfl ns)) <| hv 16 rfl (nE rfl) (by kernel_rfl) rfl <| hv 17 rfl (fa oF rfl) (by kernel_rfl) rfl <| ho 18 rfl (by kernel_rfl) fun lv gd => ts 2 m73 rfl rfl b.o1 rfl <| hk gd (nq 3 rfl (nq 4 rfl ns)) <| hv 19 rfl (nE rfl) (by kernel_rfl) rfl <| hv 20 rfl (fa oG rfl) (by kernel_rfl) rfl <| ho 21 rfl (by kernel_rfl) fun lw ge => ts 2 m73 rfl rfl a.o1 rfl <| hk ge (nq 3 rfl (nq 4 rfl ns)) <| hz (by kernel_rfl) <| jn [2, 3, 1, 4, 0] (o p b a hp)
           · exact tbs [(0, g)] [g] u73 i25 (by obtain ⟨_, _, rfl⟩ := (c).len; kernel_rfl) rfl rfl rfl rfl fun F => hk f4 (nq 3 rfl (nq 5 rfl ns)) <| ho 5 rfl (by kernel_rfl) fun lx gf => tv (lb s73 2 rfl rfl rfl) rfl <| hk gf (nq 3 rfl (nq 5 rfl ns)) <| ho 8 rfl (by kernel_rfl) fun ly gg => tp [4, 1, 7, 0, 2, 3, 5, 6, 8] [_,_,_,_,_,_,_,_,_] rfl rfl <| tp2 u73 i25 n hp (RepL.to (G' := i) (RepL.cons (k := (kSl 3 (nt .i64))) (x := l) ⟨_, rfl, d⟩ RepL.nil) (by simp)) rfl rfl rfl rfl rfl rfl rfl rfl rfl fun z B C b hp => hk gg (nq 3 rfl (nq 4 rfl ns)) <| ho 15 rfl (by kernel_rfl) fun lz gh => tp [5, 1, 6, 0, 2, 3, 4] [_,_,_,_,_,_,_] rfl rfl <| tp2 u73 i25 h hp (RepL.to (G' := m) (RepL.cons (k := (kSl 3 (nt .i64))) (x := j) ⟨_, rfl, c⟩ RepL.nil) (by simp)) rfl rfl rfl rfl rfl rfl rfl rfl rfl fun q t u a hp => hk gh (nq 3 rfl (nq 4 rfl ns)) <| hv 16 rfl (nE rfl) (by kernel_rfl) rfl <| hv 17 rfl (fa oF rfl) (by kernel_rfl) rfl <| ho 18 rfl (by kernel_rfl) fun lA gi => ts 2 m73 rfl rfl b.o1 rfl <| hk gi (nq 3 rfl (nq 4 rfl ns)) <| hv 19 rfl (nE rfl) (by kernel_rfl) rfl <| hv 20 rfl (fa oG rfl) (by kernel_rfl) rfl <| ho 21 rfl (by kernel_rfl) fun lB gj => ts 2 m73 rfl rfl a.o1 rfl <| hk gj (nq 3 rfl (nq 4 rfl ns)) <| hz (by kernel_rfl) <| jn [2, 3, 1, 4, 0] (o p b a hp)
         · refine tbs [(0, g)] [g] u73 i25 (by obtain ⟨_, _, rfl⟩ := (c).len; kernel_rfl) rfl rfl rfl rfl fun F => hk fL (nq 2 rfl (nq 4 rfl ns)) <| nU [5, 7] (by kernel_rfl) (by simp) (nF ⟨_, rfl, fun lC gl => ?_⟩ (nF ⟨_, rfl, fun lD gm => ?_⟩ nV))
           · exact tv (lb s73 1 rfl rfl rfl) rfl <| hk gl (nq 2 rfl (nq 4 rfl ns)) <| ho 7 rfl (by kernel_rfl) fun lE gn => tbs [(0, y)] [y] u73 i25 (by obtain ⟨_, _, rfl⟩ := (d).len; kernel_rfl) rfl rfl rfl rfl fun Q => hk gn (nq 3 rfl (nq 5 rfl ns)) <| ho 8 rfl (by kernel_rfl) fun lF go => tp [4, 0, 7, 1, 2, 3, 5, 6, 8] [_,_,_,_,_,_,_,_,_] rfl rfl <| tp2 u73 i25 n hp (RepL.to (G' := i) (RepL.cons (k := (kSl 3 (nt .i64))) (x := l) ⟨_, rfl, d⟩ RepL.nil) (by simp)) rfl rfl rfl rfl rfl rfl rfl rfl rfl fun z B C b hp => hk go (nq 3 rfl (nq 4 rfl ns)) <| ho 15 rfl (by kernel_rfl) fun lG gp => tp [5, 1, 6, 0, 2, 3, 4] [_,_,_,_,_,_,_] rfl rfl <| tp2 u73 i25 h hp (RepL.to (G' := m) (RepL.cons (k := (kSl 3 (nt .i64))) (x := j) ⟨_, rfl, c⟩ RepL.nil) (by simp)) rfl rfl rfl rfl rfl rfl rfl rfl rfl fun q t u a hp => hk gp (nq 3 rfl (nq 4 rfl ns)) <| hv 16 rfl (nE rfl) (by kernel_rfl) rfl <| hv 17 rfl (fa oF rfl) (by kernel_rfl) rfl <| ho 18 rfl (by kernel_rfl) fun lH gq => ts 2 m73 rfl rfl b.o1 rfl <| hk gq (nq 3 rfl (nq 4 rfl ns)) <| hv 19 rfl (nE rfl) (by kernel_rfl) rfl <| hv 20 rfl (fa oG rfl) (by kernel_rfl) rfl <| ho 21 rfl (by kernel_rfl) fun lI gr => ts 2 m73 rfl rfl a.o1 rfl <| hk gr (nq 3 rfl (nq 4 rfl ns)) <| hz (by kernel_rfl) <| jn [2, 3, 1, 4, 0] (o p b a hp)
           · exact tbs [(0, y)] [y] u73 i25 (by obtain ⟨_, _, rfl⟩ := (d).len; kernel_rfl) rfl rfl rfl rfl fun Q => hk gm (nq 3 rfl (nq 5 rfl ns)) <| ho 5 rfl (by kernel_rfl) fun lJ gs => tv (lb s73 2 rfl rfl rfl) rfl <| hk gs (nq 3 rfl (nq 5 rfl ns)) <| ho 8 rfl (by kernel_rfl) fun lK gt => tp [4, 0, 7, 1, 2, 3, 5, 6, 8] [_,_,_,_,_,_,_,_,_] rfl rfl <| tp2 u73 i25 n hp (RepL.to (G' := i) (RepL.cons (k := (kSl 3 (nt .i64))) (x := l) ⟨_, rfl, d⟩ RepL.nil) (by simp)) rfl rfl rfl rfl rfl rfl rfl rfl rfl fun z B C b hp => hk gt (nq 3 rfl (nq 4 rfl ns)) <| ho 15 rfl (by kernel_rfl) fun lL gu => tp [5, 1, 6, 0, 2, 3, 4] [_,_,_,_,_,_,_] rfl rfl <| tp2 u73 i25 h hp (RepL.to (G' := m) (RepL.cons (k := (kSl 3 (nt .i64))) (x := j) ⟨_, rfl, c⟩ RepL.nil) (by simp)) rfl rfl rfl rfl rfl rfl rfl rfl rfl fun q t u a hp => hk gu (nq 3 rfl (nq 4 rfl ns)) <| hv 16 rfl (nE rfl) (by kernel_rfl) rfl <| hv 17 rfl (fa oF rfl) (by kernel_rfl) rfl <| ho 18 rfl (by kernel_rfl) fun lM gv => ts 2 m73 rfl rfl b.o1 rfl <| hk gv (nq 3 rfl (nq 4 rfl ns)) <| hv 19 rfl (nE rfl) (by kernel_rfl) rfl <| hv 20 rfl (fa oG rfl) (by kernel_rfl) rfl <| ho 21 rfl (by kernel_rfl) fun lN gw => ts 2 m73 rfl rfl a.o1 rfl <| hk gw (nq 3 rfl (nq 4 rfl ns)) <| hz (by kernel_rfl) <| jn [2, 3, 1, 4, 0] (o p b a hp)
       · refine tbs [(0, g)] [g] u73 i25 (by obtain ⟨_, _, rfl⟩ := (c).len; kernel_rfl) rfl rfl rfl rfl fun F => hk dn (nq 2 rfl (nq 4 rfl ns)) <| nU [5, 7, 12] (by kernel_rfl) (by simp) (nF ⟨_, rfl, fun lO gx => ?_⟩ (nF ⟨_, rfl, fun lP gy => ?_⟩ (nF ⟨_, rfl, fun lQ gz => ?_⟩ nV)))
         · refine tv (lb s73 1 rfl rfl rfl) rfl <| hk gx (nq 2 rfl (nq 4 rfl ns)) <| nU [7, 12] (by kernel_rfl) (by simp) (nF ⟨_, rfl, fun lS gA => ?_⟩ (nF ⟨_, rfl, fun lT gB => ?_⟩ nV))
           · refine tbs [(0, y)] [y] u73 i25 (by obtain ⟨_, _, rfl⟩ := (d).len; kernel_rfl) rfl rfl rfl rfl fun Q => hk gA (nq 3 rfl (nq 5 rfl ns)) <| nU [8, 12] (by kernel_rfl) (by simp) (nF ⟨_, rfl, fun lU gC => ?_⟩ (nF ⟨_, rfl, fun lV gD => ?_⟩ nV))
             · exact tp [4, 0, 7, 1, 2, 3, 5, 6, 8] [_,_,_,_,_,_,_,_,_] rfl rfl <| tp2 u73 i25 n hp (RepL.to (G' := i) (RepL.cons (k := (kSl 3 (nt .i64))) (x := l) ⟨_, rfl, d⟩ RepL.nil) (by simp)) rfl rfl rfl rfl rfl rfl rfl rfl rfl fun z B C b hp => hk gC (nq 3 rfl (nq 4 rfl ns)) <| ho 12 rfl (by kernel_rfl) fun lW gE => tv (lb s73 2 rfl rfl rfl) rfl <| hk gE (nq 3 rfl (nq 4 rfl ns)) <| ho 15 rfl (by kernel_rfl) fun lX gF => tp [5, 1, 6, 0, 2, 3, 4] [_,_,_,_,_,_,_] rfl rfl <| tp2 u73 i25 h hp (RepL.to (G' := m) (RepL.cons (k := (kSl 3 (nt .i64))) (x := j) ⟨_, rfl, c⟩ RepL.nil) (by simp)) rfl rfl rfl rfl rfl rfl rfl rfl rfl fun q t u a hp => hk gF (nq 3 rfl (nq 4 rfl ns)) <| hv 16 rfl (nE rfl) (by kernel_rfl) rfl <| hv 17 rfl (fa oF rfl) (by kernel_rfl) rfl <| ho 18 rfl (by kernel_rfl) fun lY gG => ts 2 m73 rfl rfl b.o1 rfl <| hk gG (nq 3 rfl (nq 4 rfl ns)) <| hv 19 rfl (nE rfl) (by kernel_rfl) rfl <| hv 20 rfl (fa oG rfl) (by kernel_rfl) rfl <| ho 21 rfl (by kernel_rfl) fun lZ gH => ts 2 m73 rfl rfl a.o1 rfl <| hk gH (nq 3 rfl (nq 4 rfl ns)) <| hz (by kernel_rfl) <| jn [2, 3, 1, 4, 0] (o p b a hp)
             · exact tv (lb s73 2 rfl rfl rfl) rfl <| hk gD (nq 3 rfl (nq 5 rfl ns)) <| ho 8 rfl (by kernel_rfl) fun l0 gI => tp [4, 0, 7, 1, 2, 3, 5, 6, 8] [_,_,_,_,_,_,_,_,_] rfl rfl <| tp2 u73 i25 n hp (RepL.to (G' := i) (RepL.cons (k := (kSl 3 (nt .i64))) (x := l) ⟨_, rfl, d⟩ RepL.nil) (by simp)) rfl rfl rfl rfl rfl rfl rfl rfl rfl fun z B C b hp => hk gI (nq 3 rfl (nq 4 rfl ns)) <| ho 15 rfl (by kernel_rfl) fun l1 gJ => tp [5, 1, 6, 0, 2, 3, 4] [_,_,_,_,_,_,_] rfl rfl <| tp2 u73 i25 h hp (RepL.to (G' := m) (RepL.cons (k := (kSl 3 (nt .i64))) (x := j) ⟨_, rfl, c⟩ RepL.nil) (by simp)) rfl rfl rfl rfl rfl rfl rfl rfl rfl fun q t u a hp => hk gJ (nq 3 rfl (nq 4 rfl ns)) <| hv 16 rfl (nE rfl) (by kernel_rfl) rfl <| hv 17 rfl (fa oF rfl) (by kernel_rfl) rfl <| ho 18 rfl (by kernel_rfl) fun l2 gK => ts 2 m73 rfl rfl b.o1 rfl <| hk gK (nq 3 rfl (nq 4 rfl ns)) <| hv 19 rfl (nE rfl) (by kernel_rfl) rfl <| hv 20 rfl (fa oG rfl) (by kernel_rfl) rfl <| ho 21 rfl (by kernel_rfl) fun l3 gL => ts 2 m73 rfl rfl a.o1 rfl <| hk gL (nq 3 rfl (nq 4 rfl ns)) <| hz (by kernel_rfl) <| jn [2, 3, 1, 4, 0] (o p b a hp)
           · exact tv (lb s73 1 rfl rfl rfl) rfl <| hk gB (nq 2 rfl (nq 4 rfl ns)) <| ho 7 rfl (by kernel_rfl) fun l4 gM => tbs [(0, y)] [y] u73 i25 (by obtain ⟨_, _, rfl⟩ := (d).len; kernel_rfl) rfl rfl rfl rfl fun Q => hk gM (nq 3 rfl (nq 5 rfl ns)) <| ho 8 rfl (by kernel_rfl) fun l5 gN => tp [4, 0, 7, 1, 2, 3, 5, 6, 8] [_,_,_,_,_,_,_,_,_] rfl rfl <| tp2 u73 i25 n hp (RepL.to (G' := i) (RepL.cons (k := (kSl 3 (nt .i64))) (x := l) ⟨_, rfl, d⟩ RepL.nil) (by simp)) rfl rfl rfl rfl rfl rfl rfl rfl rfl fun z B C b hp => hk gN (nq 3 rfl (nq 4 rfl ns)) <| ho 15 rfl (by kernel_rfl) fun l6 gO => tp [5, 1, 6, 0, 2, 3, 4] [_,_,_,_,_,_,_] rfl rfl <| tp2 u73 i25 h hp (RepL.to (G' := m) (RepL.cons (k := (kSl 3 (nt .i64))) (x := j) ⟨_, rfl, c⟩ RepL.nil) (by simp)) rfl rfl rfl rfl rfl rfl rfl rfl rfl fun q t u a hp => hk gO (nq 3 rfl (nq 4 rfl ns)) <| hv 16 rfl (nE rfl) (by kernel_rfl) rfl <| hv 17 rfl (fa oF rfl) (by kernel_rfl) rfl <| ho 18 rfl (by kernel_rfl) fun l7 gP => ts 2 m73 rfl rfl b.o1 rfl <| hk gP (nq 3 rfl (nq 4 rfl ns)) <| hv 19 rfl (nE rfl) (by kernel_rfl) rfl <| hv 20 rfl (fa oG rfl) (by kernel_rfl) rfl <| ho 21 rfl (by kernel_rfl) fun l8 gQ => ts 2 m73 rfl rfl a.o1 rfl <| hk gQ (nq 3 rfl (nq 4 rfl ns)) <| hz (by kernel_rfl) <| jn [2, 3, 1, 4, 0] (o p b a hp)
         · refine tbs [(0, y)] [y] u73 i25 (by obtain ⟨_, _, rfl⟩ := (d).len; kernel_rfl) rfl rfl rfl rfl fun Q => hk gy (nq 3 rfl (nq 5 rfl ns)) <| nU [5, 12] (by kernel_rfl) (by simp) (nF ⟨_, rfl, fun l9 gR => ?_⟩ (nF ⟨_, rfl, fun ma gS => ?_⟩ nV))
           · refine tv (lb s73 2 rfl rfl rfl) rfl <| hk gR (nq 3 rfl (nq 5 rfl ns)) <| nU [8, 12] (by kernel_rfl) (by simp) (nF ⟨_, rfl, fun mb gT => ?_⟩ (nF ⟨_, rfl, fun mc gU => ?_⟩ nV))
             · exact tp [4, 0, 7, 1, 2, 3, 5, 6, 8] [_,_,_,_,_,_,_,_,_] rfl rfl <| tp2 u73 i25 n hp (RepL.to (G' := i) (RepL.cons (k := (kSl 3 (nt .i64))) (x := l) ⟨_, rfl, d⟩ RepL.nil) (by simp)) rfl rfl rfl rfl rfl rfl rfl rfl rfl fun z B C b hp => hk gT (nq 3 rfl (nq 4 rfl ns)) <| ho 12 rfl (by kernel_rfl) fun md gV => tv (lb s73 2 rfl rfl rfl) rfl <| hk gV (nq 3 rfl (nq 4 rfl ns)) <| ho 15 rfl (by kernel_rfl) fun me gW => tp [5, 1, 6, 0, 2, 3, 4] [_,_,_,_,_,_,_] rfl rfl <| tp2 u73 i25 h hp (RepL.to (G' := m) (RepL.cons (k := (kSl 3 (nt .i64))) (x := j) ⟨_, rfl, c⟩ RepL.nil) (by simp)) rfl rfl rfl rfl rfl rfl rfl rfl rfl fun q t u a hp => hk gW (nq 3 rfl (nq 4 rfl ns)) <| hv 16 rfl (nE rfl) (by kernel_rfl) rfl <| hv 17 rfl (fa oF rfl) (by kernel_rfl) rfl <| ho 18 rfl (by kernel_rfl) fun mf gX => ts 2 m73 rfl rfl b.o1 rfl <| hk gX (nq 3 rfl (nq 4 rfl ns)) <| hv 19 rfl (nE rfl) (by kernel_rfl) rfl <| hv 20 rfl (fa oG rfl) (by kernel_rfl) rfl <| ho 21 rfl (by kernel_rfl) fun mg gY => ts 2 m73 rfl rfl a.o1 rfl <| hk gY (nq 3 rfl (nq 4 rfl ns)) <| hz (by kernel_rfl) <| jn [2, 3, 1, 4, 0] (o p b a hp)
             · exact tv (lb s73 2 rfl rfl rfl) rfl <| hk gU (nq 3 rfl (nq 5 rfl ns)) <| ho 8 rfl (by kernel_rfl) fun mh gZ => tp [4, 0, 7, 1, 2, 3, 5, 6, 8] [_,_,_,_,_,_,_,_,_] rfl rfl <| tp2 u73 i25 n hp (RepL.to (G' := i) (RepL.cons (k := (kSl 3 (nt .i64))) (x := l) ⟨_, rfl, d⟩ RepL.nil) (by simp)) rfl rfl rfl rfl rfl rfl rfl rfl rfl fun z B C b hp => hk gZ (nq 3 rfl (nq 4 rfl ns)) <| ho 15 rfl (by kernel_rfl) fun mi g0 => tp [5, 1, 6, 0, 2, 3, 4] [_,_,_,_,_,_,_] rfl rfl <| tp2 u73 i25 h hp (RepL.to (G' := m) (RepL.cons (k := (kSl 3 (nt .i64))) (x := j) ⟨_, rfl, c⟩ RepL.nil) (by simp)) rfl rfl rfl rfl rfl rfl rfl rfl rfl fun q t u a hp => hk g0 (nq 3 rfl (nq 4 rfl ns)) <| hv 16 rfl (nE rfl) (by kernel_rfl) rfl <| hv 17 rfl (fa oF rfl) (by kernel_rfl) rfl <| ho 18 rfl (by kernel_rfl) fun mj g1 => ts 2 m73 rfl rfl b.o1 rfl <| hk g1 (nq 3 rfl (nq 4 rfl ns)) <| hv 19 rfl (nE rfl) (by kernel_rfl) rfl <| hv 20 rfl (fa oG rfl) (by kernel_rfl) rfl <| ho 21 rfl (by kernel_rfl) fun mk g2 => ts 2 m73 rfl rfl a.o1 rfl <| hk g2 (nq 3 rfl (nq 4 rfl ns)) <| hz (by kernel_rfl) <| jn [2, 3, 1, 4, 0] (o p b a hp)
           · exact tv (lb s73 2 rfl rfl rfl) rfl <| hk gS (nq 3 rfl (nq 5 rfl ns)) <| ho 5 rfl (by kernel_rfl) fun ml g3 => tv (lb s73 2 rfl rfl rfl) rfl <| hk g3 (nq 3 rfl (nq 5 rfl ns)) <| ho 8 rfl (by kernel_rfl) fun mm g4 => tp [4, 0, 7, 1, 2, 3, 5, 6, 8] [_,_,_,_,_,_,_,_,_] rfl rfl <| tp2 u73 i25 n hp (RepL.to (G' := i) (RepL.cons (k := (kSl 3 (nt .i64))) (x := l) ⟨_, rfl, d⟩ RepL.nil) (by simp)) rfl rfl rfl rfl rfl rfl rfl rfl rfl fun z B C b hp => hk g4 (nq 3 rfl (nq 4 rfl ns)) <| ho 15 rfl (by kernel_rfl) fun mn g5 => tp [5, 1, 6, 0, 2, 3, 4] [_,_,_,_,_,_,_] rfl rfl <| tp2 u73 i25 h hp (RepL.to (G' := m) (RepL.cons (k := (kSl 3 (nt .i64))) (x := j) ⟨_, rfl, c⟩ RepL.nil) (by simp)) rfl rfl rfl rfl rfl rfl rfl rfl rfl fun q t u a hp => hk g5 (nq 3 rfl (nq 4 rfl ns)) <| hv 16 rfl (nE rfl) (by kernel_rfl) rfl <| hv 17 rfl (fa oF rfl) (by kernel_rfl) rfl <| ho 18 rfl (by kernel_rfl) fun mo g6 => ts 2 m73 rfl rfl b.o1 rfl <| hk g6 (nq 3 rfl (nq 4 rfl ns)) <| hv 19 rfl (nE rfl) (by kernel_rfl) rfl <| hv 20 rfl (fa oG rfl) (by kernel_rfl) rfl <| ho 21 rfl (by kernel_rfl) fun mp g7 => ts 2 m73 rfl rfl a.o1 rfl <| hk g7 (nq 3 rfl (nq 4 rfl ns)) <| hz (by kernel_rfl) <| jn [2, 3, 1, 4, 0] (o p b a hp)
         · refine tv (lb s73 1 rfl rfl rfl) rfl <| hk gz (nq 2 rfl (nq 4 rfl ns)) <| nU [5, 7] (by kernel_rfl) (by simp) (nF ⟨_, rfl, fun mq g8 => ?_⟩ (nF ⟨_, rfl, fun mr g9 => ?_⟩ nV))
           · exact tv (lb s73 1 rfl rfl rfl) rfl <| hk g8 (nq 2 rfl (nq 4 rfl ns)) <| ho 7 rfl (by kernel_rfl) fun ms ha => tbs [(0, y)] [y] u73 i25 (by obtain ⟨_, _, rfl⟩ := (d).len; kernel_rfl) rfl rfl rfl rfl fun Q => hk ha (nq 3 rfl (nq 5 rfl ns)) <| ho 8 rfl (by kernel_rfl) fun mt hb => tp [4, 0, 7, 1, 2, 3, 5, 6, 8] [_,_,_,_,_,_,_,_,_] rfl rfl <| tp2 u73 i25 n hp (RepL.to (G' := i) (RepL.cons (k := (kSl 3 (nt .i64))) (x := l) ⟨_, rfl, d⟩ RepL.nil) (by simp)) rfl rfl rfl rfl rfl rfl rfl rfl rfl fun z B C b hp => hk hb (nq 3 rfl (nq 4 rfl ns)) <| ho 15 rfl (by kernel_rfl) fun mu hc => tp [5, 1, 6, 0, 2, 3, 4] [_,_,_,_,_,_,_] rfl rfl <| tp2 u73 i25 h hp (RepL.to (G' := m) (RepL.cons (k := (kSl 3 (nt .i64))) (x := j) ⟨_, rfl, c⟩ RepL.nil) (by simp)) rfl rfl rfl rfl rfl rfl rfl rfl rfl fun q t u a hp => hk hc (nq 3 rfl (nq 4 rfl ns)) <| hv 16 rfl (nE rfl) (by kernel_rfl) rfl <| hv 17 rfl (fa oF rfl) (by kernel_rfl) rfl <| ho 18 rfl (by kernel_rfl) fun mw hd => ts 2 m73 rfl rfl b.o1 rfl <| hk hd (nq 3 rfl (nq 4 rfl ns)) <| hv 19 rfl (nE rfl) (by kernel_rfl) rfl <| hv 20 rfl (fa oG rfl) (by kernel_rfl) rfl <| ho 21 rfl (by kernel_rfl) fun mx he => ts 2 m73 rfl rfl a.o1 rfl <| hk he (nq 3 rfl (nq 4 rfl ns)) <| hz (by kernel_rfl) <| jn [2, 3, 1, 4, 0] (o p b a hp)
           · exact tbs [(0, y)] [y] u73 i25 (by obtain ⟨_, _, rfl⟩ := (d).len; kernel_rfl) rfl rfl rfl rfl fun Q => hk g9 (nq 3 rfl (nq 5 rfl ns)) <| ho 5 rfl (by kernel_rfl) fun my hf => tv (lb s73 2 rfl rfl rfl) rfl <| hk hf (nq 3 rfl (nq 5 rfl ns)) <| ho 8 rfl (by kernel_rfl) fun mz hg => tp [4, 0, 7, 1, 2, 3, 5, 6, 8] [_,_,_,_,_,_,_,_,_] rfl rfl <| tp2 u73 i25 n hp (RepL.to (G' := i) (RepL.cons (k := (kSl 3 (nt .i64))) (x := l) ⟨_, rfl, d⟩ RepL.nil) (by simp)) rfl rfl rfl rfl rfl rfl rfl rfl rfl fun z B C b hp => hk hg (nq 3 rfl (nq 4 rfl ns)) <| ho 15 rfl (by kernel_rfl) fun mA hh => tp [5, 1, 6, 0, 2, 3, 4] [_,_,_,_,_,_,_] rfl rfl <| tp2 u73 i25 h hp (RepL.to (G' := m) (RepL.cons (k := (kSl 3 (nt .i64))) (x := j) ⟨_, rfl, c⟩ RepL.nil) (by simp)) rfl rfl rfl rfl rfl rfl rfl rfl rfl fun q t u a hp => hk hh (nq 3 rfl (nq 4 rfl ns)) <| hv 16 rfl (nE rfl) (by kernel_rfl) rfl <| hv 17 rfl (fa oF rfl) (by kernel_rfl) rfl <| ho 18 rfl (by kernel_rfl) fun mB hi => ts 2 m73 rfl rfl b.o1 rfl <| hk hi (nq 3 rfl (nq 4 rfl ns)) <| hv 19 rfl (nE rfl) (by kernel_rfl) rfl <| hv 20 rfl (fa oG rfl) (by kernel_rfl) rfl <| ho 21 rfl (by kernel_rfl) fun mC hj => ts 2 m73 rfl rfl a.o1 rfl <| hk hj (nq 3 rfl (nq 4 rfl ns)) <| hz (by kernel_rfl) <| jn [2, 3, 1, 4, 0] (o p b a hp)
      refine W.new0 <| lp df [1, 2, 3, 4, 5, 7, 0] rfl (fun s e L => ∃ az aP aq bq br bs bt b6, s = (az, aP, aq) ∧ SlO 3 (nt .i64) az bq br ∧ SlO 3 (nt .i64) aP bs bt ∧ e = ovr b6 [(0, .pointer (some ⟨D, 0, none⟩)), (6, y), (7, bs), (53, G), (54, .int .i64 (len a2.f.blocks)), (55, .int .i64 S), (80, ap), (81, .int .i64 (len U.ins)), (82, .int .i64 aq)] ∧ L = [bx D 100 [.int .i64 a2.f.params, .int .i64 a2.f.result, v3, G, J, K, M, N, I, bq, ae, V, ag, O, P], br, af, T, ah, i, bt]) ⟨_, _, _, bm, bn, (.slice none 0 0), ([] : FP), _, rfl, da, (SlO.nil 3), nD _ _ rfl, rfl⟩ ?_
      rintro _ _ _ ⟨az, aP, aq, bq, br, bs, bt, b6, rfl, bu, bv, rfl, rfl⟩ b7 hp hl
      replace hp : n8.bd50 a2 X Y Z U az aP aq = some b7 := hp
      refine sr <| tv (blt rfl rfl) rfl <| nz <| nv fun mD hm => cD rfl hp (fun hn hp => ?_) fun hn hp => ?_
      · refine sk hm rfl <| nv fun hq hr => ?_
        have b8 {b9 ca bw bz bA bB hs} (ht : SlO 3 (nt .i64) b9 bw bz) (hu : SlO 3 (nt .i64) ca bA bB) (hp : n8.jn622 aq b9 ca = some b7) : ∀ w, St E H [bx D 100 [.int .i64 a2.f.params, .int .i64 a2.f.result, v3, G, J, K, M, N, I, bw, ae, V, ag, O, P], bz, af, T, ah, i, bB] w → hq (ovr hs [(0, .pointer (some ⟨D, 0, none⟩)), (6, y), (7, bA), (53, G), (54, .int .i64 (len a2.f.blocks)), (55, .int .i64 S), (80, ap), (81, .int .i64 (len U.ins)), (82, .int .i64 aq)]) w := by
         exact tg hr <| nG <| tv (bad rfl rfl) rfl <| tm rfl <| nl <| gk hp [0, 1, 2, 3, 4, 5, 6] ⟨_, _, _, bw, bz, bA, bB, _, rfl, ht, hu, nD _ _ rfl, rfl⟩
        refine nC <| sr <| ti u48 i52 bk hp rfl rfl rfl rfl ?_
        rintro ad mE mF _ hp ⟨cb, rfl, hw⟩ hx
        refine tv (lR (ds := [.int .i64 ad.op, .int .i64 ad.dst, cb, .int .i64 ad.imm, .int .i64 ad.fn]) pi sH hx 0 rfl rfl rfl) rfl <| tl i52 rfl fun mG => tS 0 m52 rfl rfl [.int .i64 ad.op, .int .i64 ad.dst, cb, .int .i64 ad.imm, .int .i64 ad.fn] rfl (oc rfl (oc rfl (oc (hw).one (oc rfl (oc rfl oc0))))) rfl rfl <| nz <| sr <| tv (fa pj rfl) rfl <| tv (lb s3 0 rfl rfl rfl) rfl <| tv (blt rfl rfl) rfl <| nz <| cD rfl hp (fun hy hp => ?_) fun hy hp => ?_
        · exact nG <| tm rfl <| tbs [(0, .int .i64 (-1))] [.int .i64 (-1)] u25 i3 (by kernel_rfl) rfl rfl rfl rfl fun mH => tp [8, 0, 1, 2, 3, 4, 5, 6, 7] [_,_,_,_,_,_,_,_,_] rfl rfl <| tf 2 0 [_,_,_,_,_,_,_,_,_,_] rfl <| tp2 u25 i3 bv hp (RepL.to (RepL.cons (k := (nt .i64)) (x := -1) ⟨rfl, rfl⟩ RepL.nil) rfl) rfl rfl rfl rfl rfl rfl rfl rfl rfl fun mI mJ mK hA hp => ta rfl <| nl <| jn [2, 3, 4, 5, 6, 7, 0] (b8 bu hA hp)
        · refine nG <| tm rfl <| tm rfl <| tv (fa pj rfl) rfl <| tv (lb s3 0 rfl rfl rfl) rfl <| tp [1, 2, 0, 3, 4, 5, 6, 7] [_,_,_,_,_,_,_,_] rfl rfl <| bE hp fun bC hy626 hp => tc 2 [_,_,_,_,_,_] rfl c70 (fun _ => sb (a2 := (⟨(⟨a2.f.params, a2.f.result, a2.f.regs, a2.f.blocks⟩ : nA), a2.in_, a2.front, a2.nearest, a2.phis, a2.zeros, az, Y, X, Z, a2.begin, a2.end_⟩ : nS)) (a31 := ad.dst) (am.mono nw) (an.mono nw) (aD.mono nw) (aE.mono nw) (aF.mono nw) (ay.mono nw) (ao.mono nw) bu (n.ro.mono (subB 1 rfl)) (a3.ro.mono (subB 2 rfl)) (h.ro.mono (subB 3 rfl)) (aG.mono nw) (aH.mono nw) hy626) rfl ?_
          rintro _ _ ⟨mL, mM, rfl, rfl, hB⟩
          exact tbs [(0, .int .i64 bC.1)] [.int .i64 bC.1] u25 i3 (by kernel_rfl) rfl rfl rfl rfl fun mN => tp [8, 0, 1, 2, 3, 4, 5, 6, 7] [_,_,_,_,_,_,_,_,_] rfl rfl <| tf 2 0 [_,_,_,_,_,_,_,_,_,_] rfl <| tp2 u25 i3 bv hp (RepL.to (RepL.cons (k := (nt .i64)) (x := bC.1) ⟨rfl, rfl⟩ RepL.nil) rfl) rfl rfl rfl rfl rfl rfl rfl rfl rfl fun mO mP mQ hC hp => ta rfl <| nl <| jn [1, 2, 4, 5, 6, 7, 0] (b8 hB hC hp)
      · exact nN <| jn [0, 1, 2, 3, 4, 5, 6] (dh bu bv (nJ hp hl))
     refine W.new0 <| lp c6 [2, 3, 4, 5, 6, 1, 0] rfl (fun s e L => ∃ aA aQ aR bD bF bG bH cc, s = (aA, aQ, aR) ∧ SlO 3 (nt .i64) aA bD bF ∧ SlO 3 (nt .i64) aQ bG bH ∧ e = ovr cc [(0, .pointer (some ⟨D, 0, none⟩)), (5, .pointer (some ⟨aO, 0, none⟩)), (6, bG), (7, .slice none 0 0), (53, G), (54, .int .i64 (len a2.f.blocks)), (55, .int .i64 S), (66, c3), (67, .int .i64 (len b3)), (68, .int .i64 aR)] ∧ L = [bx D 100 [.int .i64 a2.f.params, .int .i64 a2.f.result, v3, G, J, K, M, N, I, bD, ae, V, ag, O, P], bF, af, T, ah, bx aO 50 [aM, ap, .int .i64 U.term.kind, .int .i64 U.term.arg, aN], bH]) ⟨_, _, _, aJ, aK, (.slice none 0 0), ([] : FP), _, rfl, bZ, (SlO.nil 3), nD _ _ rfl, rfl⟩ ?_
     rintro _ _ _ ⟨aA, aQ, aR, bD, bF, bG, bH, cc, rfl, cd, ce, rfl, rfl⟩ hD hp hE
     replace hp : n8.bd41 a2 X Y Z b3 aA aQ aR = some hD := hp
     refine sr <| tv (blt rfl rfl) rfl <| nz <| nv fun mR hF => cD rfl hp (fun hG hp => ?_) fun hG hp => ?_
     · refine sk hF rfl <| nv fun mS hH => nC <| sr <| ti u25 i3 b4 hp rfl rfl rfl rfl ?_
       rintro hI mT mU _ hp rfl hJ
       refine tv (lr s3 sH hJ 0 rfl rfl) rfl <| ta rfl <| nz <| nG <| tm rfl <| tm rfl <| tm rfl <| bE hp fun bI hy639 hp => tc 2 [_,_,_,_,_] rfl c70 (fun _ => sb (a2 := (⟨(⟨a2.f.params, a2.f.result, a2.f.regs, a2.f.blocks⟩ : nA), a2.in_, a2.front, a2.nearest, a2.phis, a2.zeros, aA, Y, X, Z, a2.begin, a2.end_⟩ : nS)) (a31 := hI) (am.mono nw) (an.mono nw) (aD.mono nw) (aE.mono nw) (aF.mono nw) (ay.mono nw) (ao.mono nw) cd (n.ro.mono (subB 0 rfl)) (a3.ro.mono (subB 1 rfl)) (h.ro.mono (subB 2 rfl)) (aG.mono nw) (aH.mono nw) hy639) rfl ?_
       rintro _ _ ⟨hK, hL, rfl, rfl, hM⟩
       exact tbs [(0, .int .i64 bI.1)] [.int .i64 bI.1] u25 i3 (by kernel_rfl) rfl rfl rfl rfl fun mV => tp [7, 0, 1, 2, 3, 4, 5, 6] [_,_,_,_,_,_,_,_] rfl rfl <| tf 2 0 [_,_,_,_,_,_,_,_,_] rfl <| tp2 u25 i3 ce hp (RepL.to (RepL.cons (k := (nt .i64)) (x := bI.1) ⟨rfl, rfl⟩ RepL.nil) rfl) rfl rfl rfl rfl rfl rfl rfl rfl rfl fun mW hN hO hP hp => ta rfl <| nl <| tg hH <| nG <| tv (bad rfl rfl) rfl <| tm rfl <| nl <| gk hp [1, 2, 3, 4, 5, 6, 0] ⟨_, _, _, hK, hL, hN, hO, _, rfl, hM, hP, nD _ _ rfl, rfl⟩
     · exact nN <| jn [0, 1, 2, 3, 4, 5, 6] (c8 cd ce (nJ hp hE))
   · exact nN <| jn [0, 1, 2, 3, 4] (cJ bZ n h (nJ hp cP))
  refine lp cx [0, 1, 2, 3, 4] rfl (fun s e L => ∃ ar au av bJ bK bL bM cf, s = (ar, au, av) ∧ SlO 3 (nt .i64) ar bJ bK ∧ SlO 3 (nt .i64) au bL bM ∧ e = ovr cf [(0, .pointer (some ⟨D, 0, none⟩)), (30, I), (31, .int .i64 (len a2.zeros)), (32, .int .i64 av)] ∧ L = [bx D 100 [.int .i64 a2.f.params, .int .i64 a2.f.result, v3, G, J, K, M, N, I, bJ, aj, bL, ak, O, P], bK, ab, bM, ac]) ⟨_, _, _, aW, aX, aC, ax, _, rfl, ct, cp, nD _ _ rfl, rfl⟩ ?_
  rintro _ _ _ ⟨ar, au, av, bJ, bK, bL, bM, cf, rfl, bN, aw, rfl, rfl⟩ cg hp hQ
  replace hp : n8.bd12 a2 ar au av = some cg := hp
  refine sr <| tv (blt rfl rfl) rfl <| nz <| nv fun mX hR => cD rfl hp (fun hS hp => ?_) fun hS hp => ?_
  · refine sk hR rfl <| nv fun hU hV => ?_
    have bO {ci cj bP bQ bR bS hW} (hX : SlO 3 (nt .i64) ci bP bQ) (hY : SlO 3 (nt .i64) cj bR bS) (hp : n8.jn654 av ci cj = some cg) : ∀ w, St E H [bx D 100 [.int .i64 a2.f.params, .int .i64 a2.f.result, v3, G, J, K, M, N, I, bP, aj, bR, ak, O, P], bQ, ab, bS, ac] w → hU (ovr hW [(0, .pointer (some ⟨D, 0, none⟩)), (30, I), (31, .int .i64 (len a2.zeros)), (32, .int .i64 av)]) w := by
     exact tg hV <| nG <| tv (bad rfl rfl) rfl <| tm rfl <| nl <| gk hp [0, 1, 2, 3, 4] ⟨_, _, _, bP, bQ, bR, bS, _, rfl, hX, hY, nD _ _ rfl, rfl⟩
    refine nC <| sr <| ti u25 i3 ao hp rfl rfl rfl rfl ?_
    rintro ck mY mZ _ hp rfl hZ
    refine tv (lr s3 sH hZ 0 rfl rfl) rfl <| ta rfl <| nz <| ch mix [ab, ac] (nq 2 rfl (nq 4 rfl ns)) <| hv 0 rfl mv (by kernel_rfl) rfl <| hv 1 rfl mv (by kernel_rfl) rfl <| hv 2 rfl (nE rfl) (by kernel_rfl) rfl <| hv 3 rfl (fa qW rfl) (by kernel_rfl) rfl <| hv 5 rfl mv (by kernel_rfl) rfl <| hv 6 rfl mv (by kernel_rfl) rfl <| nU [4, 7] (by kernel_rfl) (by simp) (nF ⟨_, rfl, fun m0 h0 => ?_⟩ (nF ⟨_, rfl, fun m1 h1 => ?_⟩ nV))
    · refine tv (lb s25 0 rfl rfl rfl) rfl <| hk h0 (nq 2 rfl (nq 4 rfl ns)) <| ho 7 rfl (by kernel_rfl) fun m2 h2 => bE hp fun aa hy660 hp => tc 2 [_,_,_] rfl c70 (fun _ => sb (a2 := (⟨(⟨a2.f.params, a2.f.result, a2.f.regs, a2.f.blocks⟩ : nA), a2.in_, a2.front, a2.nearest, a2.phis, a2.zeros, ar, a2.phi, au, a2.dst, a2.begin, a2.end_⟩ : nS)) (a31 := ck) (am.mono nw) (an.mono nw) (aD.mono nw) (aE.mono nw) (aF.mono nw) (ay.mono nw) (ao.mono nw) bN (aU.ro.mono (subB 0 rfl)) (aw.ro.mono (subB 1 rfl)) (aV.ro.mono (subB 2 rfl)) (aG.mono nw) (aH.mono nw) hy660) rfl ?_
      rintro _ _ ⟨h3, h4, rfl, rfl, aS⟩
      exact hk h2 (nq 2 rfl (nq 4 rfl ns)) <| ho 8 rfl (by kernel_rfl) fun m3 h5 => tbs [(0, .int .i64 aa.1)] [.int .i64 aa.1] u25 i3 (by kernel_rfl) rfl rfl rfl rfl fun cl => hk h5 (nq 3 rfl (nq 5 rfl ns)) <| ho 9 rfl (by kernel_rfl) fun m4 h6 => tp [4, 0, 1, 2, 3, 5] [_,_,_,_,_,_] rfl rfl <| tf 2 0 [_,_,_,_,_,_,_] rfl <| tp2 u25 i3 aw hp (RepL.to (RepL.cons (k := (nt .i64)) (x := aa.1) ⟨rfl, rfl⟩ RepL.nil) rfl) rfl rfl rfl rfl rfl rfl rfl rfl rfl fun cm cn co ai hp => hk h6 (nq 3 rfl (nq 4 rfl ns)) <| hv 10 rfl (nE rfl) (by kernel_rfl) rfl <| hv 11 rfl (fa qW rfl) (by kernel_rfl) rfl <| ho 12 rfl (by kernel_rfl) fun m5 h7 => ts 1 m25 rfl rfl ai.o1 rfl <| hk h7 (nq 3 rfl (nq 4 rfl ns)) <| hz (by kernel_rfl) <| jn [1, 2, 3, 0, 4] (bO aS ai hp)
    · refine bE hp fun aa hy671 hp => tc 2 [_,_,_] rfl c70 (fun _ => sb (a2 := (⟨(⟨a2.f.params, a2.f.result, a2.f.regs, a2.f.blocks⟩ : nA), a2.in_, a2.front, a2.nearest, a2.phis, a2.zeros, ar, a2.phi, au, a2.dst, a2.begin, a2.end_⟩ : nS)) (a31 := ck) (am.mono nw) (an.mono nw) (aD.mono nw) (aE.mono nw) (aF.mono nw) (ay.mono nw) (ao.mono nw) bN (aU.ro.mono (subB 0 rfl)) (aw.ro.mono (subB 1 rfl)) (aV.ro.mono (subB 2 rfl)) (aG.mono nw) (aH.mono nw) hy671) rfl ?_
      rintro _ _ ⟨h3, h4, rfl, rfl, aS⟩
      refine hk h1 (nq 2 rfl (nq 4 rfl ns)) <| nU [4, 8] (by kernel_rfl) (by simp) (nF ⟨_, rfl, fun m6 h8 => ?_⟩ (nF ⟨_, rfl, fun m7 h9 => ?_⟩ nV))
      · exact tv (lb s25 0 rfl rfl rfl) rfl <| hk h8 (nq 2 rfl (nq 4 rfl ns)) <| ho 8 rfl (by kernel_rfl) fun m8 ia => tbs [(0, .int .i64 aa.1)] [.int .i64 aa.1] u25 i3 (by kernel_rfl) rfl rfl rfl rfl fun cl => hk ia (nq 3 rfl (nq 5 rfl ns)) <| ho 9 rfl (by kernel_rfl) fun m9 ib => tp [4, 0, 1, 2, 3, 5] [_,_,_,_,_,_] rfl rfl <| tf 2 0 [_,_,_,_,_,_,_] rfl <| tp2 u25 i3 aw hp (RepL.to (RepL.cons (k := (nt .i64)) (x := aa.1) ⟨rfl, rfl⟩ RepL.nil) rfl) rfl rfl rfl rfl rfl rfl rfl rfl rfl fun cm cn co ai hp => hk ib (nq 3 rfl (nq 4 rfl ns)) <| hv 10 rfl (nE rfl) (by kernel_rfl) rfl <| hv 11 rfl (fa qW rfl) (by kernel_rfl) rfl <| ho 12 rfl (by kernel_rfl) fun na ic => ts 1 m25 rfl rfl ai.o1 rfl <| hk ic (nq 3 rfl (nq 4 rfl ns)) <| hz (by kernel_rfl) <| jn [1, 2, 3, 0, 4] (bO aS ai hp)
      · exact tbs [(0, .int .i64 aa.1)] [.int .i64 aa.1] u25 i3 (by kernel_rfl) rfl rfl rfl rfl fun cl => hk h9 (nq 3 rfl (nq 5 rfl ns)) <| ho 4 rfl (by kernel_rfl) fun nb id => tv (lb s25 1 rfl rfl rfl) rfl <| hk id (nq 3 rfl (nq 5 rfl ns)) <| ho 9 rfl (by kernel_rfl) fun nc ie => tp [4, 0, 1, 2, 3, 5] [_,_,_,_,_,_] rfl rfl <| tf 2 0 [_,_,_,_,_,_,_] rfl <| tp2 u25 i3 aw hp (RepL.to (RepL.cons (k := (nt .i64)) (x := aa.1) ⟨rfl, rfl⟩ RepL.nil) rfl) rfl rfl rfl rfl rfl rfl rfl rfl rfl fun cm cn co ai hp => hk ie (nq 3 rfl (nq 4 rfl ns)) <| hv 10 rfl (nE rfl) (by kernel_rfl) rfl <| hv 11 rfl (fa qW rfl) (by kernel_rfl) rfl <| ho 12 rfl (by kernel_rfl) fun nd ig => ts 1 m25 rfl rfl ai.o1 rfl <| hk ig (nq 3 rfl (nq 4 rfl ns)) <| hz (by kernel_rfl) <| jn [1, 2, 3, 0, 4] (bO aS ai hp)
  · exact nN <| jn [0, 1, 2, 3, 4] (cz bN aw (nJ hp hQ))
 refine ch mix [aT, ab, ax, ac] (nq 1 rfl (nq 2 rfl (nq 3 rfl (nq 4 rfl ns)))) <| hv 0 rfl mv (by kernel_rfl) rfl <| hv 1 rfl mv (by kernel_rfl) rfl <| hv 2 rfl (nE rfl) (by kernel_rfl) rfl <| hv 3 rfl (fa pK rfl) (by kernel_rfl) rfl <| hv 4 rfl (fa oV rfl) (by kernel_rfl) rfl <| hv 6 rfl mv (by kernel_rfl) rfl <| hv 7 rfl (nE rfl) (by kernel_rfl) rfl <| hv 8 rfl (fa pK rfl) (by kernel_rfl) rfl <| hv 9 rfl (fa py rfl) (by kernel_rfl) rfl <| nU [5, 10] (by kernel_rfl) (by simp) (nF ⟨_, rfl, fun ne ih => ?_⟩ (nF ⟨_, rfl, fun nf ii => ?_⟩ nV))
 · refine tv (lb s25 0 rfl rfl rfl) rfl <| hk ih (nq 1 rfl (nq 2 rfl (nq 3 rfl (nq 4 rfl ns)))) <| ho 10 rfl (by kernel_rfl) fun ng ij => tv (lb s3 0 rfl rfl rfl) rfl <| hk ij (nq 1 rfl (nq 2 rfl (nq 3 rfl (nq 4 rfl ns)))) <| hT 11 rfl u25 i3 am hp rfl rfl rfl (by kernel_rfl) rfl fun bT ik bU hp => ho 12 rfl (by kernel_rfl) fun nh il => bE hp fun im hy700 hp => tc 0 [_,_,_,_,_] rfl c28 (fun _ => p8 (a1 := bT) (bU.mono nw) hy700) rfl ?_
   rintro _ _ ⟨io, ip, rfl, rfl, aB⟩
   exact hk il (nq 2 rfl (nq 3 rfl (nq 4 rfl (nq 5 rfl ns)))) <| hv 13 rfl (nE rfl) (by kernel_rfl) rfl <| hv 14 rfl (fa qE rfl) (by kernel_rfl) rfl <| ho 15 rfl (by kernel_rfl) fun ni iq => ts 1 m25 rfl rfl aB.o1 rfl <| hk iq (nq 2 rfl (nq 3 rfl (nq 4 rfl (nq 5 rfl ns)))) <| hz (by kernel_rfl) <| jn [1, 0, 3, 4, 5] (bW aB hp)
 · refine tv (lb s3 0 rfl rfl rfl) rfl <| hk ii (nq 1 rfl (nq 2 rfl (nq 3 rfl (nq 4 rfl ns)))) <| ho 5 rfl (by kernel_rfl) fun nj ir => tv (lb s25 0 rfl rfl rfl) rfl <| hk ir (nq 1 rfl (nq 2 rfl (nq 3 rfl (nq 4 rfl ns)))) <| hT 11 rfl u25 i3 am hp rfl rfl rfl (by kernel_rfl) rfl fun bT ik bU hp => ho 12 rfl (by kernel_rfl) fun nk it => bE hp fun im hy711 hp => tc 0 [_,_,_,_,_] rfl c28 (fun _ => p8 (a1 := bT) (bU.mono nw) hy711) rfl ?_
   rintro _ _ ⟨io, ip, rfl, rfl, aB⟩
   exact hk it (nq 2 rfl (nq 3 rfl (nq 4 rfl (nq 5 rfl ns)))) <| hv 13 rfl (nE rfl) (by kernel_rfl) rfl <| hv 14 rfl (fa qE rfl) (by kernel_rfl) rfl <| ho 15 rfl (by kernel_rfl) fun nm iu => ts 1 m25 rfl rfl aB.o1 rfl <| hk iu (nq 2 rfl (nq 3 rfl (nq 4 rfl (nq 5 rfl ns)))) <| hz (by kernel_rfl) <| jn [1, 0, 3, 4, 5] (bW aB hp)
end Go.Proofs.Ytpmcbahahjelnaa
namespace Go.Proofs.Ytpmcbahahjelnaa
open Go Go.Proofs
/-! ### (*fettle/ssa.builder).first -/
abbrev oZ.R (r : List Int) (v : Value) (A : List FP) : Prop := ∃ (w1 : Value) (a : FP), w1 = v ∧ A = [a] ∧ SlO 3 (nt .i64) r w1 a
def oZ.nx18  (a : List Int) : Option (List Int) :=
  some a
def oZ.bd18 (a2 : nS) (b : List Int) (a : Int) : Option (Ex (List Int) (List Int × Int)) :=
  if a < (len a2.zeros) then
    (idx a2.zeros a).bind fun c =>
    (idx a2.zero_ a).bind fun d =>
    (idx b c).bind fun e =>
    some (.go ((b.set (c).toNat d), (w64 (a + 1))))
  else
    some (.ret b)
def oZ.nx9 (a2 : nS) (a : List Int) : Option (List Int) :=
  (whl (fun (s : (List Int × Int)) => oZ.bd18 a2 s.1 s.2) nB (a, 0)).bind fun z =>
  oZ.nx18 z
def oZ.jn40 (a : Int) (b : List Int) : Option (Ex (List Int) (List Int × Int)) :=
  some (.go (b, (w64 (a + 1))))
def oZ.bd9 (a2 : nS) (c : List Int) (b : List Int) (a : Int) : Option (Ex (List Int) (List Int × Int)) :=
  if a < (len c) then
    (idx b a).bind fun d =>
    if a < a2.f.params then
      (idx (b.set (a).toNat (-1)) a).bind fun e =>
      oZ.jn40 a ((b.set (a).toNat (-1)).set (a).toNat a)
    else
      oZ.jn40 a (b.set (a).toNat (-1))
  else
    some (.ret b)
def oZ (a2 : nS) : Option (List Int) :=
  (mkl (len a2.f.regs) (0 : Int)).bind fun a =>
  (whl (fun (s : (List Int × Int)) => oZ.bd9 a2 a s.1 s.2) nB (a, 0)).bind fun z =>
  oZ.nx9 a2 z
set_option maxHeartbeats 4000000 in
theorem w6 {E : World} {H : FP} {w : World} {a2 : nS} {b : Nat} {c : Nat} {C : Value} {D : Value} {F : Value} {G : Value} {I : Value} {J : Value} {l : Value} {K : Value} {M : Value} {N : Value} {O : Value} {P : Value} {Q : Value} {r : List Int} (g : oa H b c [.int .i64 a2.f.params, .int .i64 a2.f.result, C, D, F, G, I, J, l, K, M, N, O, P, Q]) (Z : SlI (nt .i64) H a2.f.regs C) (aR : SlI nW H a2.f.blocks D) (aS : SlI (kSl 4 kBool) H a2.in_ F) (aT : SlI (kSl 3 (nt .i64)) H a2.front G) (aU : SlI (nt .i64) H a2.nearest I) (aV : SlI (kSl 3 (nt .i64)) H a2.phis J) (S : SlI (nt .i64) H a2.zeros l) (aW : SlI (nt .i64) H a2.regs K) (aX : SlI (kSl 3 (nt .i64)) H a2.phi M) (aa : SlI (nt .i64) H a2.zero_ N) (aY : SlI (kSl 3 (nt .i64)) H a2.dst O) (aZ : SlI (kSl 3 (nt .i64)) H a2.begin P) (a0 : SlI (kSl 3 (nt .i64)) H a2.end_ Q) (hp : oZ a2 = some r) (hst : St E H [] w) :
    Fn Try.prog 71 #[.pointer (some ⟨b, c, none⟩)] w fun v w' => ∃ A, oZ.R r v A ∧ St E H A w' := by
 refine fb 56 [.tmp 2] Try.func71 rfl rfl rfl rfl rfl hst <| sr <| ta rfl <| nz <| sr <| tm rfl <| tv (nE rfl) rfl <| tv (fa pK rfl) rfl <| tv (fa oV rfl) rfl <| tv (lr s25 sH g 2 rfl rfl) rfl <| tv (ln u25 Z rfl) rfl <| tk (k := (nt .i64)) u25 i3 hp ⟨rfl, rfl⟩ rfl rfl rfl rfl rfl rfl fun m a ab T hp => ta rfl <| nz <| nv fun ac ad => sr <| tm rfl <| tv (ln u25 T.ro rfl) rfl <| tm rfl <| nz <| nC <| bE hp fun ae af ag => ?_
 have ah {n o ai} (aj : SlO 3 (nt .i64) n a o) (ak : n = ae) : ∀ w, St E H [o] w → ac (ovr ai [(0, .pointer (some ⟨b, c, none⟩)), (3, a)]) w := by
  subst ak
  replace hp : oZ.nx9 a2 n = some r := ag
  refine tg ad <| nv fun al am => sr <| tm rfl <| tv (nE rfl) rfl <| tv (fa r6 rfl) rfl <| tv (lr s25 sH g 8 rfl rfl) rfl <| tv (ln u25 S rfl) rfl <| tm rfl <| nz <| nC <| bE hp fun an ao ap => ?_
  have aq {p q ar} (au : SlO 3 (nt .i64) p a q) (av : p = an) : ∀ w, St E H [q] w → al (ovr ar [(3, a)]) w := by
   subst av
   replace hp : oZ.nx18 p = some r := ap
   exact tg am <| sr <| tm rfl <| ta rfl <| nz <| nH <| rt hp [0] ⟨a, q, rfl, rfl, au⟩
  refine lp ao [0] rfl (fun s e L => ∃ h i t U, s = (h, i) ∧ SlO 3 (nt .i64) h a t ∧ e = ovr U [(0, .pointer (some ⟨b, c, none⟩)), (3, a), (37, l), (38, .int .i64 (len a2.zeros)), (39, .int .i64 i)] ∧ L = [t]) ⟨_, _, o, _, rfl, aj, nD _ _ rfl, rfl⟩ ?_
  rintro _ _ _ ⟨h, i, t, U, rfl, u, rfl, rfl⟩ aw hp ax
  replace hp : oZ.bd18 a2 h i = some aw := hp
  refine sr <| tv (blt rfl rfl) rfl <| nz <| nv fun a1 ay => cD rfl hp (fun az hp => ?_) fun az hp => ?_
  · refine sk ay rfl <| nv fun a3 aA => nC <| sr <| tm rfl <| ti u25 i3 S hp rfl rfl rfl rfl ?_
    rintro a4 a5 a6 _ hp rfl aB
    refine tv (lr s3 sH aB 0 rfl rfl) rfl <| ta rfl <| ta rfl <| nz <| nG <| tm rfl <| tm rfl <| tm rfl <| tv (nE rfl) rfl <| tv (fa qW rfl) rfl <| tv (lr s25 sH g 11 rfl rfl) rfl <| tm rfl <| ti u25 i3 aa hp rfl rfl rfl rfl ?_
    rintro a7 a8 a9 _ hp rfl aC
    exact tv (lr s3 sH aC 0 rfl rfl) rfl <| tO u25 i3 u hp rfl rfl rfl rfl fun ba bb bc aD hp => tE u aD m3 rfl ⟨rfl, rfl⟩ w1 fun aE aF => nl <| tg aA <| nG <| tv (bad rfl rfl) rfl <| tm rfl <| nl <| gk hp [0] ⟨_, _, aE, _, rfl, aF, nD _ _ rfl, rfl⟩
  · exact nN <| jn [0] (aq u (nJ hp ax))
 refine lp af [0] rfl (fun s e L => ∃ j d x V, s = (j, d) ∧ SlO 3 (nt .i64) j a x ∧ e = ovr V [(0, .pointer (some ⟨b, c, none⟩)), (3, a), (15, .int .i64 (len m)), (16, .int .i64 d)] ∧ L = [x]) ⟨_, _, ab, _, rfl, T, nD _ _ rfl, rfl⟩ ?_
 rintro _ _ _ ⟨j, d, x, V, rfl, y, rfl, rfl⟩ W hp aG
 replace hp : oZ.bd9 a2 m j d = some W := hp
 refine sr <| tv (blt rfl rfl) rfl <| nz <| nv fun be aH => cD rfl hp (fun aI hp => ?_) fun aI hp => ?_
 · refine sk aH rfl <| nv fun aJ aK => ?_
   have X {Y z aL} (aM : SlO 3 (nt .i64) Y a z) (hp : oZ.jn40 d Y = some W) : ∀ w, St E H [z] w → aJ (ovr aL [(0, .pointer (some ⟨b, c, none⟩)), (3, a), (15, .int .i64 (len m)), (16, .int .i64 d)]) w := by
    exact tg aK <| nG <| tv (bad rfl rfl) rfl <| tm rfl <| nl <| gk hp [0] ⟨_, _, z, _, rfl, aM, nD _ _ rfl, rfl⟩
   refine nC <| sr <| tm rfl <| ta rfl <| nz <| sr <| tm rfl <| tm rfl <| tO u25 i3 y hp rfl rfl rfl rfl fun bf bg bh aN hp => tE y aN m3 rfl ⟨rfl, rfl⟩ w1 fun bi B => nz <| sr <| tm rfl <| tm rfl <| tv (nE rfl) rfl <| tv (fa pK rfl) rfl <| tv (fa py rfl) rfl <| tv (lr s3 sH g 0 rfl rfl) rfl <| tv (blt rfl rfl) rfl <| nz <| cD rfl hp (fun aO hp => ?_) fun aO hp => ?_
   · exact nG <| tm rfl <| tm rfl <| tm rfl <| tO u25 i3 B hp rfl rfl rfl rfl fun bj bk bl aP hp => tE B aP m3 rfl ⟨rfl, rfl⟩ w1 fun bm aQ => nl <| jn [0] (X aQ hp)
   · exact TC.skip <| jn [0] (X B hp)
 · exact nN <| jn [0] (ah y (nJ hp aG))
/-! ### (*fettle/ssa.builder).versions -/
abbrev oj.R (c : Nat) (a2 : nS) (v3 : Value) (d : Value) (e : Value) (g : Value) (h : Value) (i : Value) (j : Value) (k : Value) (l : Value) (m : Value) (n : Value) (r : List (List Int) × List (List Int)) (v : Value) (A : List FP) : Prop := ∃ (w1 : Value) (a : FP) (w2 : Value) (b : FP), .tuple #[] = v ∧ A = [bx c 100 [.int .i64 a2.f.params, .int .i64 a2.f.result, v3, d, e, g, h, i, j, k, l, m, n, w1, w2], a, b] ∧ SlO 25 (kSl 3 (nt .i64)) r.1 w1 a ∧ SlO 25 (kSl 3 (nt .i64)) r.2 w2 b
def oj.nx14  (a : List (List Int)) (b : List (List Int)) : Option (List (List Int) × List (List Int)) :=
  some (a, b)
def oj.nx55 (c : List (List Int)) (b : List (List Int)) (d : Int) (a : Int) (e : List Int) (f : List Int) : Option (Ex (List (List Int) × List (List Int)) (List (List Int) × List (List Int) × Int)) :=
  (idx b a).bind fun g =>
  some (.go ((c.set (a).toNat e), (b.set (a).toNat f), (w64 (d + 1))))
def oj.jn66 (a : Int) (b : List Int) : Option (Ex (List Int) (List Int × Int)) :=
  some (.go (b, (w64 (a + 1))))
def oj.bd55 (a2 : nS) (e : Int) (d : ny) (b : List Int) (a : Int) : Option (Ex (List Int) (List Int × Int)) :=
  if a < (len d.ins) then
    (idx d.ins a).bind fun c =>
    if c.dst ≥ 0 then
      (idx a2.dst e).bind fun f =>
      (idx f a).bind fun g =>
      (idx b c.dst).bind fun h =>
      oj.jn66 a (b.set (c.dst).toNat g)
    else
      oj.jn66 a b
  else
    some (.ret b)
def oj.nx36 (a2 : nS) (b : List (List Int)) (d : List (List Int)) (e : Int) (a : Int) (c : List Int) : Option (Ex (List (List Int) × List (List Int)) (List (List Int) × List (List Int) × Int)) :=
  (pE c).bind fun g =>
  (idx b a).bind fun i =>
  (idx a2.f.blocks a).bind fun h =>
  (whl (fun (s : (List Int × Int)) => oj.bd55 a2 a h s.1 s.2) nB (c, 0)).bind fun z =>
  oj.nx55 b d e a g z
def oj.bd36 (a2 : nS) (e : Int) (c : List Int) (b : List Int) (a : Int) : Option (Ex (List Int) (List Int × Int)) :=
  if a < (len c) then
    (idx c a).bind fun d =>
    (idx a2.phi e).bind fun f =>
    (idx f a).bind fun g =>
    (idx b d).bind fun h =>
    some (.go ((b.set (d).toNat g), (w64 (a + 1))))
  else
    some (.ret b)
def oj.jn27 (a2 : nS) (b : List (List Int)) (c : List (List Int)) (d : Int) (a : Int) (e : List Int) : Option (Ex (List (List Int) × List (List Int)) (List (List Int) × List (List Int) × Int)) :=
  (idx a2.phis a).bind fun f =>
  (whl (fun (s : (List Int × Int)) => oj.bd36 a2 a f s.1 s.2) nB (e, 0)).bind fun z =>
  oj.nx36 a2 b c d a z
def oj.bd14 (a2 : nS) (e : List Int) (b : List (List Int)) (a : List (List Int)) (c : Int) : Option (Ex (List (List Int) × List (List Int)) (List (List Int) × List (List Int) × Int)) :=
  if c < (len e) then
    (idx e c).bind fun d =>
    if d = 0 then
      (oZ (⟨(⟨a2.f.params, a2.f.result, a2.f.regs, a2.f.blocks⟩ : nA), a2.in_, a2.front, a2.nearest, a2.phis, a2.zeros, a2.regs, a2.phi, a2.zero_, a2.dst, b, a⟩ : nS)).bind fun g =>
      oj.jn27 a2 b a c d g
    else
      (idx a2.nearest d).bind fun h =>
      (idx a h).bind fun i =>
      (pE i).bind fun j =>
      oj.jn27 a2 b a c d j
  else
    some (.ret (b, a))
def oj.jn4 (a2 : nS) (a : List (List Int)) (b : List (List Int)) : Option (List (List Int) × List (List Int)) :=
  (qy a2.f).bind fun c =>
  (whl (fun (s : (List (List Int) × List (List Int) × Int)) => oj.bd14 a2 c s.1 s.2.1 s.2.2) nB (a, b, 0)).bind fun z =>
  oj.nx14 z.1 z.2
def oj (a2 : nS) : Option (List (List Int) × List (List Int)) :=
  (mkl (len a2.f.blocks) ([] : List Int)).bind fun a =>
  (mkl (len a2.f.blocks) ([] : List Int)).bind fun b =>
  oj.jn4 a2 a b
set_option maxHeartbeats 4000000 in
theorem w7 {E : World} {H : FP} {w : World} {a2 : nS} {b : Nat} {v3 : Value} {c : Value} {h : Value} {i : Value} {j : Value} {l : Value} {m : Value} {n : Value} {o : Value} {p : Value} {q : Value} {av : Value} {ab : FP} {aw : Value} {ac : FP} {r : List (List Int) × List (List Int)} (ax : SlI (nt .i64) H a2.f.regs v3) (Q : SlI nW H a2.f.blocks c) (a0 : SlI (kSl 4 kBool) H a2.in_ h) (a3 : SlI (kSl 3 (nt .i64)) H a2.front i) (ay : SlI (nt .i64) H a2.nearest j) (az : SlI (kSl 3 (nt .i64)) H a2.phis l) (a4 : SlI (nt .i64) H a2.zeros m) (a5 : SlI (nt .i64) H a2.regs n) (aA : SlI (kSl 3 (nt .i64)) H a2.phi o) (a6 : SlI (nt .i64) H a2.zero_ p) (aB : SlI (kSl 3 (nt .i64)) H a2.dst q) (cQ : SlO 25 (kSl 3 (nt .i64)) a2.begin av ab) (cR : SlO 25 (kSl 3 (nt .i64)) a2.end_ aw ac) (hp : oj a2 = some r) (hst : St E H [bx b 100 [.int .i64 a2.f.params, .int .i64 a2.f.result, v3, c, h, i, j, l, m, n, o, p, q, av, aw], ab, ac] w) :
    Fn Try.prog 45 #[.pointer (some ⟨b, 0, none⟩)] w fun v w' => ∃ A, oj.R b a2 v3 c h i j l m n o p q r v A ∧ St E H A w' := by
 refine fb 130 [] Try.func45 rfl rfl rfl rfl rfl hst <| sr <| tm rfl <| tv (nE rfl) rfl <| tv (fa pK rfl) rfl <| tv (fa n6 rfl) rfl <| tv (lb s39 0 rfl rfl rfl) rfl <| tv (ln u39 Q rfl) rfl <| ta rfl <| nz <| nv fun a7 a8 => ?_
 have ad {aC aD d ae g af a9} (ba : SlO 25 (kSl 3 (nt .i64)) aC d ae) (bb : SlO 25 (kSl 3 (nt .i64)) aD g af) (hp : oj.jn4 a2 aC aD = some r) : ∀ w, St E H [bx b 100 [.int .i64 a2.f.params, .int .i64 a2.f.result, v3, c, h, i, j, l, m, n, o, p, q, d, g], ae, af] w → a7 (ovr a9 [(0, .pointer (some ⟨b, 0, none⟩))]) w := by
  refine tg a8 <| sr <| tm rfl <| tv (nE rfl) rfl <| tv (fa pK rfl) rfl <| tv (lA (ds := [.int .i64 a2.f.params, .int .i64 a2.f.result, v3, c]) n9 0 rfl rfl rfl rfl) rfl <| bE hp fun D hy5 hp => tc 0 [_,_,_] rfl c66 (fun _ => tU (a1 := a2.f) (ax.mono nw) (Q.mono nw) hy5) rfl ?_
  rintro _ _ ⟨J, C, rfl, rfl, aE⟩
  refine tv (ln u25 aE.ro rfl) rfl <| tm rfl <| nz <| qo fun bc be => nC <| bE hp fun bf bg bh => ?_
  have bi {ag ah ai aj bj} (bk : SlO 25 (kSl 3 (nt .i64)) ag d ai) (bl : SlO 25 (kSl 3 (nt .i64)) ah g aj) (bm : (ag, ah) = bf) : ∀ w, St E H [bx b 100 [.int .i64 a2.f.params, .int .i64 a2.f.result, v3, c, h, i, j, l, m, n, o, p, q, d, g], ai, aj] w → bc (ovr bj []) w := by
   subst bm
   replace hp : oj.nx14 ag ah = some r := bh
   exact viaK be <| rt hp [0, 1, 2] ⟨d, ai, g, aj, rfl, rfl, bk, bl⟩
  refine lp bg [1, 2, 3, 0] rfl (fun s e L => ∃ F G x K y aF, s = (F, G, x) ∧ SlO 25 (kSl 3 (nt .i64)) F d K ∧ SlO 25 (kSl 3 (nt .i64)) G g y ∧ e = ovr aF [(0, .pointer (some ⟨b, 0, none⟩)), (30, J), (31, .int .i64 (len D)), (32, .int .i64 x)] ∧ L = [bx b 100 [.int .i64 a2.f.params, .int .i64 a2.f.result, v3, c, h, i, j, l, m, n, o, p, q, d, g], K, y, C]) ⟨_, _, _, ae, af, _, rfl, ba, bb, nD _ _ rfl, rfl⟩ ?_
  rintro _ _ _ ⟨F, G, x, K, y, aF, rfl, S, O, rfl, rfl⟩ T hp bn
  replace hp : oj.bd14 a2 D F G x = some T := hp
  refine sr <| tv (blt rfl rfl) rfl <| nz <| nv fun cS bo => cD rfl hp (fun bp hp => ?_) fun bp hp => ?_
  · refine sk bo rfl <| nv fun cT bq => nC <| sr <| ti u25 i3 (aE).ro hp rfl rfl rfl rfl ?_
    rintro B cU cV _ hp rfl br
    refine tv (lr s3 (Src.at_ 3 rfl) br 0 rfl rfl) rfl <| ta rfl <| nz <| sr <| ta rfl <| nz <| nv fun bs bt => ?_
    have aG {aH t ak bu} (bv : SlO 3 (nt .i64) aH t ak) (hp : oj.jn27 a2 F G x B aH = some T) : ∀ w, St E H [bx b 100 [.int .i64 a2.f.params, .int .i64 a2.f.result, v3, c, h, i, j, l, m, n, o, p, q, d, g], K, y, ak, C] w → bs (ovr bu [(0, .pointer (some ⟨b, 0, none⟩)), (4, .int .i64 B), (5, t), (30, J), (31, .int .i64 (len D)), (32, .int .i64 x)]) w := by
     refine tg bt <| nv fun bw bz => sr <| tm rfl <| tv (nE rfl) rfl <| tv (fa qV rfl) rfl <| tv (lb s73 0 rfl rfl rfl) rfl <| tm rfl <| ti u73 i25 az hp rfl rfl rfl rfl ?_
     rintro aI cW cX _ hp ⟨bA, rfl, aJ⟩ bB
     refine tv (lr s25 sH bB 0 rfl rfl) rfl <| tv (ln u25 aJ rfl) rfl <| tm rfl <| nz <| nC <| bE hp fun bC bD bF => ?_
     have bG {U V bH} (aK : SlO 3 (nt .i64) U t V) (bI : U = bC) : ∀ w, St E H [bx b 100 [.int .i64 a2.f.params, .int .i64 a2.f.result, v3, c, h, i, j, l, m, n, o, p, q, d, g], K, y, V, C] w → bw (ovr bH [(0, .pointer (some ⟨b, 0, none⟩)), (4, .int .i64 B), (5, t), (30, J), (31, .int .i64 (len D)), (32, .int .i64 x)]) w := by
      subst bI
      replace hp : oj.nx36 a2 F G x B U = some T := bF
      refine tg bz <| nv fun cY bJ => ch mix [bx b 100 [.int .i64 a2.f.params, .int .i64 a2.f.result, v3, c, h, i, j, l, m, n, o, p, q, d, g], y, V, C] (nq 0 rfl (nq 2 rfl (nq 3 rfl (nq 4 rfl ns)))) <| hv 0 rfl mv (by kernel_rfl) rfl <| hv 1 rfl (nE rfl) (by kernel_rfl) rfl <| hv 2 rfl (fa r7 rfl) (by kernel_rfl) rfl <| hv 3 rfl (lbG s73 0 rfl rfl rfl) (by kernel_rfl) rfl <| hv 4 rfl mv (by kernel_rfl) rfl <| hv 5 rfl mv (by kernel_rfl) rfl <| ho 6 rfl (by kernel_rfl) fun cZ bK => bE hp fun aL hy42 hp => tc 0 [_,_,_,_,_] rfl c28 (fun _ => p8 (a1 := U) (aK.ro.mono (subB 3 rfl)) hy42) rfl ?_
      rintro _ _ ⟨aM, c0, rfl, rfl, aN⟩
      refine hk bK (nq 1 rfl (nq 3 rfl (nq 4 rfl (nq 5 rfl ns)))) <| hO 7 rfl u73 i25 S hp rfl rfl rfl (by kernel_rfl) rfl fun c1 c2 c3 bL hp => ho 8 rfl (by kernel_rfl) fun c4 bM => tp [2, 0, 1, 3, 4, 5] [_,_,_,_,_,_] rfl rfl <| TL.stE (ds := [aM]) (u := aM) (a := aL) S bL m25 rfl rfl (SlO.cells aN) ⟨_, rfl, aN⟩ fun P bN => hk bM (nq 1 rfl (nq 2 rfl (nq 3 rfl (nq 4 rfl ns)))) <| hz (by kernel_rfl) <| tg bJ <| nv fun bO bP => sr <| tm rfl <| tv (nE rfl) rfl <| tv (fa pK rfl) rfl <| tv (fa n6 rfl) rfl <| tv (lb s39 1 rfl rfl rfl) rfl <| tm rfl <| ti u39 i50 Q hp rfl rfl rfl rfl ?_
      rintro am c5 c6 _ hp ⟨c7, aO, c8, rfl, c9, aP, da⟩ bQ
      refine tv (fa ou rfl) rfl <| tv (lr s48 sH bQ 1 rfl rfl) rfl <| tv (ln u48 aP rfl) rfl <| tm rfl <| nz <| nC <| bE hp fun bR bS bT => ?_
      have bU {W aQ bV} (aR : SlO 3 (nt .i64) W t aQ) (bW : W = bR) : ∀ w, St E H [bx b 100 [.int .i64 a2.f.params, .int .i64 a2.f.result, v3, c, h, i, j, l, m, n, o, p, q, d, g], P, y, aQ, C] w → bO (ovr bV [(0, .pointer (some ⟨b, 0, none⟩)), (4, .int .i64 B), (5, t), (30, J), (31, .int .i64 (len D)), (32, .int .i64 x)]) w := by
       subst bW
       replace hp : oj.nx55 F G x B aL W = some T := bT
       exact tg bP <| nG <| tm rfl <| tv (nE rfl) rfl <| tv (fa qX rfl) rfl <| tv (lb s73 0 rfl rfl rfl) rfl <| tm rfl <| tm rfl <| tO u73 i25 O hp rfl rfl rfl rfl fun db dc dd bX hp => tp [2, 3, 0, 1, 4] [_,_,_,_,_] rfl rfl <| TL.stE (ds := [t]) (u := t) (a := W) O bX m25 rfl rfl (SlO.cells aR) ⟨_, rfl, aR⟩ fun bY bZ => nl <| tg bq <| nG <| tv (bad rfl rfl) rfl <| tm rfl <| nl <| gk hp [1, 2, 0, 3] ⟨_, _, _, P, bY, _, rfl, bN, bZ, nD _ _ rfl, rfl⟩
      refine lp bS [1, 0, 2, 3, 4] rfl (fun s e L => ∃ X N an aS, s = (X, N) ∧ SlO 3 (nt .i64) X t an ∧ e = ovr aS [(0, .pointer (some ⟨b, 0, none⟩)), (4, .int .i64 B), (5, t), (30, J), (31, .int .i64 (len D)), (32, .int .i64 x), (97, aO), (98, .int .i64 (len am.ins)), (99, .int .i64 N)] ∧ L = [bx b 100 [.int .i64 a2.f.params, .int .i64 a2.f.result, v3, c, h, i, j, l, m, n, o, p, q, d, g], P, y, an, C]) ⟨_, _, V, _, rfl, aK, nD _ _ rfl, rfl⟩ ?_
      rintro _ _ _ ⟨X, N, an, aS, rfl, Y, rfl, rfl⟩ aT hp b0
      replace hp : oj.bd55 a2 B am X N = some aT := hp
      refine sr <| tv (blt rfl rfl) rfl <| nz <| nv fun de b1 => cD rfl hp (fun b2 hp => ?_) fun b2 hp => ?_
      · refine sk b1 rfl <| nv fun b3 b4 => ?_
        have aU {aV ao b5} (b6 : SlO 3 (nt .i64) aV t ao) (hp : oj.jn66 N aV = some aT) : ∀ w, St E H [bx b 100 [.int .i64 a2.f.params, .int .i64 a2.f.result, v3, c, h, i, j, l, m, n, o, p, q, d, g], P, y, ao, C] w → b3 (ovr b5 [(0, .pointer (some ⟨b, 0, none⟩)), (4, .int .i64 B), (5, t), (30, J), (31, .int .i64 (len D)), (32, .int .i64 x), (97, aO), (98, .int .i64 (len am.ins)), (99, .int .i64 N)]) w := by
         exact tg b4 <| nG <| tv (bad rfl rfl) rfl <| tm rfl <| nl <| gk hp [0, 1, 2, 3, 4] ⟨_, _, ao, _, rfl, b6, nD _ _ rfl, rfl⟩
        refine nC <| sr <| tm rfl <| ti u48 i52 aP hp rfl rfl rfl rfl ?_
        rintro z df dg _ hp ⟨ap, rfl, b7⟩ b8
        refine tv (lR (ds := [.int .i64 z.op, .int .i64 z.dst, ap, .int .i64 z.imm, .int .i64 z.fn]) pi sH b8 0 rfl rfl rfl) rfl <| tl i52 rfl fun b9 => ta rfl <| tS 0 m52 rfl rfl [.int .i64 z.op, .int .i64 z.dst, ap, .int .i64 z.imm, .int .i64 z.fn] rfl (oc rfl (oc rfl (oc (b7).one (oc rfl (oc rfl oc0))))) rfl rfl <| nz <| sr <| tv (fa pj rfl) rfl <| tv (lb s3 0 rfl rfl rfl) rfl <| tv (bge rfl rfl) rfl <| nz <| cD rfl hp (fun ca hp => ?_) fun ca hp => ?_
        · refine ch mix [bx b9 52 [.int .i64 z.op, .int .i64 z.dst, ap, .int .i64 z.imm, .int .i64 z.fn], bx b 100 [.int .i64 a2.f.params, .int .i64 a2.f.result, v3, c, h, i, j, l, m, n, o, p, q, d, g], P, y, C] (nq 0 rfl (nq 1 rfl (nq 2 rfl (nq 3 rfl (nq 5 rfl ns))))) <| hv 0 rfl mv (by kernel_rfl) rfl <| hv 1 rfl (fa pj rfl) (by kernel_rfl) rfl <| hv 2 rfl (lbG s3 0 rfl rfl rfl) (by kernel_rfl) rfl <| hv 3 rfl mv (by kernel_rfl) rfl <| hv 4 rfl (nE rfl) (by kernel_rfl) rfl <| hv 5 rfl (fa oG rfl) (by kernel_rfl) rfl <| hv 6 rfl (lbG s73 1 rfl rfl rfl) (by kernel_rfl) rfl <| hv 7 rfl mv (by kernel_rfl) rfl <| hi 8 rfl u73 i25 aB hp rfl rfl rfl (by kernel_rfl) rfl ?_
          rintro dh di dj _ hp ⟨dk, rfl, cb⟩ cc
          refine hv 9 rfl (lr s25 srcInH cc 0 rfl rfl) (by kernel_rfl) rfl <| hv 10 rfl mv (by kernel_rfl) rfl <| hi 11 rfl u25 i3 cb hp rfl rfl rfl (by kernel_rfl) rfl ?_
          rintro dl dm dn _ hp rfl cd
          exact hv 12 rfl (lr s3 srcInH cd 0 rfl rfl) (by kernel_rfl) rfl <| hO 13 rfl u25 i3 Y hp rfl rfl rfl (by kernel_rfl) rfl fun dp dq dr ce hp => ho 14 rfl (by kernel_rfl) fun dt cf => tp [4, 0, 1, 2, 3, 5] [_,_,_,_,_,_] rfl rfl <| tE Y ce m3 rfl ⟨rfl, rfl⟩ w1 fun du cg => hk cf (nq 1 rfl (nq 2 rfl (nq 3 rfl (nq 4 rfl (nq 5 rfl ns))))) <| hz (by kernel_rfl) <| jn [2, 3, 4, 0, 5] (aU cg hp)
        · exact TC.skip <| jn [1, 2, 3, 4, 5] (aU Y hp)
      · exact nN <| jn [0, 1, 2, 3, 4] (bU Y (nJ hp b0))
     refine lp bD [0, 1, 2, 3, 4] rfl (fun s e L => ∃ Z aa aq aW, s = (Z, aa) ∧ SlO 3 (nt .i64) Z t aq ∧ e = ovr aW [(0, .pointer (some ⟨b, 0, none⟩)), (4, .int .i64 B), (5, t), (30, J), (31, .int .i64 (len D)), (32, .int .i64 x), (60, bA), (61, .int .i64 (len aI)), (62, .int .i64 aa)] ∧ L = [bx b 100 [.int .i64 a2.f.params, .int .i64 a2.f.result, v3, c, h, i, j, l, m, n, o, p, q, d, g], K, y, aq, C]) ⟨_, _, ak, _, rfl, bv, nD _ _ rfl, rfl⟩ ?_
     rintro _ _ _ ⟨Z, aa, aq, aW, rfl, ar, rfl, rfl⟩ ci hp cj
     replace hp : oj.bd36 a2 B aI Z aa = some ci := hp
     refine sr <| tv (blt rfl rfl) rfl <| nz <| nv fun dv ck => cD rfl hp (fun cl hp => ?_) fun cl hp => ?_
     · refine sk ck rfl <| nv fun dw cm => nC <| sr <| tm rfl <| ti u25 i3 aJ hp rfl rfl rfl rfl ?_
       rintro dx dy dz _ hp rfl cn
       refine tv (lr s3 sH cn 0 rfl rfl) rfl <| ta rfl <| ta rfl <| nz <| nG <| tm rfl <| tm rfl <| tm rfl <| tv (nE rfl) rfl <| tv (fa oF rfl) rfl <| tv (lb s73 0 rfl rfl rfl) rfl <| tm rfl <| ti u73 i25 aA hp rfl rfl rfl rfl ?_
       rintro dA dB dC _ hp ⟨dD, rfl, co⟩ cp
       refine tv (lr s25 sH cp 0 rfl rfl) rfl <| tm rfl <| ti u25 i3 co hp rfl rfl rfl rfl ?_
       rintro dE dF dG _ hp rfl cq
       exact tv (lr s3 sH cq 0 rfl rfl) rfl <| tO u25 i3 ar hp rfl rfl rfl rfl fun dH dI dJ cr hp => tp [3, 0, 1, 2, 4] [_,_,_,_,_] rfl rfl <| tE ar cr m3 rfl ⟨rfl, rfl⟩ w1 fun cs ct => nl <| tg cm <| nG <| tv (bad rfl rfl) rfl <| tm rfl <| nl <| gk hp [1, 2, 3, 0, 4] ⟨_, _, cs, _, rfl, ct, nD _ _ rfl, rfl⟩
     · exact nN <| jn [0, 1, 2, 3, 4] (bG ar (nJ hp cj))
    refine sr <| tm rfl <| tv (beq rfl rfl) rfl <| nz <| cD rfl hp (fun cu hp => ?_) fun cu hp => ?_
    · refine nG <| tm rfl <| bE hp fun dK hy90 hp => tc 0 [_,_,_,_] rfl c71 (fun _ => w6 (a2 := (⟨(⟨a2.f.params, a2.f.result, a2.f.regs, a2.f.blocks⟩ : nA), a2.in_, a2.front, a2.nearest, a2.phis, a2.zeros, a2.regs, a2.phi, a2.zero_, a2.dst, F, G⟩ : nS)) ((pA b 100 _).mono (subB 0 rfl)) (ax.mono nw) (Q.mono nw) (a0.mono nw) (a3.mono nw) (ay.mono nw) (az.mono nw) (a4.mono nw) (a5.mono nw) (aA.mono nw) (a6.mono nw) (aB.mono nw) (S.ro.mono (subB 1 rfl)) (O.ro.mono (subB 2 rfl)) hy90) rfl ?_
      rintro _ _ ⟨dL, dM, rfl, rfl, cv⟩
      exact ta rfl <| nl <| jn [1, 2, 3, 0, 4] (aG cv hp)
    · refine ch mix [bx b 100 [.int .i64 a2.f.params, .int .i64 a2.f.result, v3, c, h, i, j, l, m, n, o, p, q, d, g], K, y, C] (nq 0 rfl (nq 1 rfl (nq 2 rfl (nq 3 rfl ns)))) <| hv 0 rfl mv (by kernel_rfl) rfl <| hv 1 rfl (nE rfl) (by kernel_rfl) rfl <| hv 2 rfl (fa qX rfl) (by kernel_rfl) rfl <| hv 3 rfl (lbG s73 0 rfl rfl rfl) (by kernel_rfl) rfl <| hv 4 rfl mv (by kernel_rfl) rfl <| hv 5 rfl (nE rfl) (by kernel_rfl) rfl <| hv 6 rfl (fa vN rfl) (by kernel_rfl) rfl <| hv 7 rfl (lbG s25 0 rfl rfl rfl) (by kernel_rfl) rfl <| hv 8 rfl mv (by kernel_rfl) rfl <| hi 9 rfl u25 i3 ay hp rfl rfl rfl (by kernel_rfl) rfl ?_
      rintro dN dO dP _ hp rfl cw
      refine hv 10 rfl (lr s3 srcInH cw 0 rfl rfl) (by kernel_rfl) rfl <| hi 11 rfl u73 i25 (O).ro hp rfl rfl rfl (by kernel_rfl) rfl ?_
      rintro cx dQ dR _ hp ⟨dS, rfl, cy⟩ cz
      refine hv 12 rfl (lr s25 (srcInG 2 rfl) cz 0 rfl rfl) (by kernel_rfl) rfl <| ho 13 rfl (by kernel_rfl) fun dT cA => bE hp fun dU hy96 hp => tc 0 [_,_,_,_] rfl c28 (fun _ => p8 (a1 := cx) (cy.mono (subB 2 rfl)) hy96) rfl ?_
      rintro _ _ ⟨dV, dW, rfl, rfl, cB⟩
      exact hk cA (nq 1 rfl (nq 2 rfl (nq 3 rfl (nq 4 rfl ns)))) <| hv 14 rfl sg (by kernel_rfl) rfl <| hz (by kernel_rfl) <| jn [1, 2, 3, 0, 4] (aG cB hp)
  · exact nN <| jn [0, 1, 2] (bi S O (nJ hp bn))
 refine bE hp fun dX aX hp => bE hp fun dY au hp => ch mix [ab, ac] (nq 1 rfl (nq 2 rfl ns)) <| hv 0 rfl mv (by kernel_rfl) rfl <| hv 1 rfl mv (by kernel_rfl) rfl <| hv 2 rfl mv (by kernel_rfl) rfl <| hv 4 rfl mv (by kernel_rfl) rfl <| nU [3, 5] (by kernel_rfl) (by simp) (nF ⟨_, rfl, fun dZ cC => ?_⟩ (nF ⟨_, rfl, fun d0 cE => ?_⟩ nV))
 · refine tk0 (k := (kSl 3 (nt .i64))) u73 i25 aX ⟨_, rfl, SlO.nil 3⟩ rfl rfl rfl rfl rfl rfl fun cF cG M => hk cC (nq 2 rfl (nq 3 rfl ns)) <| hv 6 rfl (nE rfl) (by kernel_rfl) rfl <| hv 7 rfl (fa r7 rfl) (by kernel_rfl) rfl <| nU [5, 8] (by kernel_rfl) (by simp) (nF ⟨_, rfl, fun d1 cH => ?_⟩ (nF ⟨_, rfl, fun d2 cI => ?_⟩ nV))
   · exact tk0 (k := (kSl 3 (nt .i64))) u73 i25 au ⟨_, rfl, SlO.nil 3⟩ rfl rfl rfl rfl rfl rfl fun aY aZ I => hk cH (nq 3 rfl (nq 4 rfl ns)) <| ho 8 rfl (by kernel_rfl) fun d3 cJ => ts 2 m73 rfl rfl M.o1 rfl <| hk cJ (nq 3 rfl (nq 4 rfl ns)) <| hv 9 rfl (nE rfl) (by kernel_rfl) rfl <| hv 10 rfl (fa qX rfl) (by kernel_rfl) rfl <| ho 11 rfl (by kernel_rfl) fun d4 cK => ts 2 m73 rfl rfl I.o1 rfl <| hk cK (nq 3 rfl (nq 4 rfl ns)) <| hz (by kernel_rfl) <| jn [2, 1, 0] (ad M I hp)
   · exact ts 1 m73 rfl rfl M.o1 rfl <| hk cI (nq 2 rfl (nq 3 rfl ns)) <| ho 5 rfl (by kernel_rfl) fun d5 cL => tk0 (k := (kSl 3 (nt .i64))) u73 i25 au ⟨_, rfl, SlO.nil 3⟩ rfl rfl rfl rfl rfl rfl fun aY aZ I => hk cL (nq 3 rfl (nq 4 rfl ns)) <| hv 9 rfl (nE rfl) (by kernel_rfl) rfl <| hv 10 rfl (fa qX rfl) (by kernel_rfl) rfl <| ho 11 rfl (by kernel_rfl) fun d6 cM => ts 2 m73 rfl rfl I.o1 rfl <| hk cM (nq 3 rfl (nq 4 rfl ns)) <| hz (by kernel_rfl) <| jn [2, 1, 0] (ad M I hp)
 · exact tk0 (k := (kSl 3 (nt .i64))) u73 i25 au ⟨_, rfl, SlO.nil 3⟩ rfl rfl rfl rfl rfl rfl fun aY aZ I => hk cE (nq 2 rfl (nq 3 rfl ns)) <| ho 3 rfl (by kernel_rfl) fun d7 cN => tk0 (k := (kSl 3 (nt .i64))) u73 i25 aX ⟨_, rfl, SlO.nil 3⟩ rfl rfl rfl rfl rfl rfl fun cF cG M => hk cN (nq 3 rfl (nq 4 rfl ns)) <| hv 6 rfl (nE rfl) (by kernel_rfl) rfl <| hv 7 rfl (fa r7 rfl) (by kernel_rfl) rfl <| ho 8 rfl (by kernel_rfl) fun d8 cO => ts 2 m73 rfl rfl M.o1 rfl <| hk cO (nq 3 rfl (nq 4 rfl ns)) <| hv 9 rfl (nE rfl) (by kernel_rfl) rfl <| hv 10 rfl (fa qX rfl) (by kernel_rfl) rfl <| ho 11 rfl (by kernel_rfl) fun d9 cP => ts 2 m73 rfl rfl I.o1 rfl <| hk cP (nq 3 rfl (nq 4 rfl ns)) <| hz (by kernel_rfl) <| jn [2, 0, 1] (ad M I hp)
end Go.Proofs.Ytpmcbahahjelnaa
namespace Go.Proofs.Ytpmcbahahjelnaa
open Go Go.Proofs
/-! ### (*fettle/ssa.builder).block -/
abbrev nX.R (r : ny) (v : Value) (A : List FP) : Prop := ∃ (w1 : Value) (a : FP) (w2 : Value) (b : FP) (w3 : Value) (c : FP), .agg #[w1, w2, .int .i64 r.term.kind, .int .i64 r.term.arg, w3] = v ∧ A = [a, b, c] ∧ SlO 70 o0 r.phis w1 a ∧ SlO 52 oK r.ins w2 b ∧ SlO 3 (nt .i64) r.term.to w3 c
def nX.jn40 (a : List PPhi) (b : List nO) (c : ny) (d : List Int) (e : Int) : Option ny :=
  some (⟨a, b, (⟨c.term.kind, e, d⟩ : PTerm)⟩ : ny)
def nX.nx26 (a2 : nS) (a31 : Int) (b : List PPhi) (c : List nO) (e : List Int) : Option ny :=
  (idx a2.f.blocks a31).bind fun a =>
  (pE a.term.to).bind fun d =>
  if a.term.arg ≥ 0 then
    (idx e a.term.arg).bind fun g =>
    nX.jn40 b c a d g
  else
    nX.jn40 b c a d a.term.arg
def nX.jn71 (b : List nO) (c : Int) (a : nO) (d : Int) (e : List Int) (f : List Int) : Option (Ex (List nO × List Int) (List nO × List Int × Int)) :=
  (cat b [(⟨a.op, d, e, a.imm, a.fn⟩ : nO)]).bind fun g =>
  some (.go (g, f, (w64 (c + 1))))
def nX.nx66 (d : List nO) (b : List Int) (e : Int) (a : nO) (c : Int) (f : List Int) : Option (Ex (List nO × List Int) (List nO × List Int × Int)) :=
  if a.dst ≥ 0 then
    (idx b a.dst).bind fun g =>
    nX.jn71 d e a c f (b.set (a.dst).toNat c)
  else
    nX.jn71 d e a c f b
def nX.jn83 (a : Int) (b : List Int) : Option (Ex (List Int) (List Int × Int)) :=
  some (.go (b, (w64 (a + 1))))
def nX.bd66 (d : List Int) (b : nO) (c : List Int) (a : Int) : Option (Ex (List Int) (List Int × Int)) :=
  if a < (len b.args) then
    (idx b.args a).bind fun e =>
    (idx d e).bind fun f =>
    (cat c [f]).bind fun g =>
    nX.jn83 a g
  else
    some (.ret c)
def nX.bd26 (a2 : nS) (a31 : Int) (c : ny) (d : List nO) (b : List Int) (a : Int) : Option (Ex (List nO × List Int) (List nO × List Int × Int)) :=
  if a < (len c.ins) then
    (idx c.ins a).bind fun e =>
    (idx a2.dst a31).bind fun f =>
    (idx f a).bind fun g =>
    (whl (fun (s : (List Int × Int)) => nX.bd66 b e s.1 s.2) nB (([] : List Int), 0)).bind fun z =>
    nX.nx66 d b a e g z
  else
    some (.ret (d, b))
def nX.jn14 (a2 : nS) (a31 : Int) (a : List PPhi) (b : List nO) : Option ny :=
  (idx a2.begin a31).bind fun c =>
  (pE c).bind fun d =>
  (idx a2.f.blocks a31).bind fun e =>
  (whl (fun (s : (List nO × List Int × Int)) => nX.bd26 a2 a31 e s.1 s.2.1 s.2.2) nB (b, d, 0)).bind fun z =>
  nX.nx26 a2 a31 a z.1 z.2
def nX.nx114 (a2 : nS) (a31 : Int) (a : List PPhi) (b : List nO) : Option ny :=
  nX.jn14 a2 a31 a b
def nX.bd114 (a2 : nS) (b : List nO) (a : Int) : Option (Ex (List nO) (List nO × Int)) :=
  if a < (len a2.zero_) then
    (idx a2.zero_ a).bind fun c =>
    (cat b [(⟨1, c, ([] : List Int), 0, 0⟩ : nO)]).bind fun d =>
    some (.go (d, (w64 (a + 1))))
  else
    some (.ret b)
def nX.nx9 (a2 : nS) (a31 : Int) (a : List PPhi) : Option ny :=
  if a31 = 0 then
    (whl (fun (s : (List nO × Int)) => nX.bd114 a2 s.1 s.2) nB (([] : List nO), 0)).bind fun z =>
    nX.nx114 a2 a31 a z
  else
    nX.jn14 a2 a31 a ([] : List nO)
def nX.nx144 (a : List PPhi) (b : Int) (c : Int) (d : List Int) : Option (Ex (List PPhi) (List PPhi × Int)) :=
  (cat a [(⟨c, d⟩ : PPhi)]).bind fun e =>
  some (.go (e, (w64 (b + 1))))
def nX.jn155 (a : Int) (b : List Int) : Option (Ex (List Int) (List Int × Int)) :=
  some (.go (b, (w64 (a + 1))))
def nX.bd144 (a2 : nS) (a32 : List Int) (c : Int) (b : List Int) (a : Int) : Option (Ex (List Int) (List Int × Int)) :=
  if a < (len a32) then
    (idx a32 a).bind fun d =>
    (idx a2.end_ d).bind fun e =>
    (idx e c).bind fun f =>
    (cat b [f]).bind fun g =>
    nX.jn155 a g
  else
    some (.ret b)
def nX.bd9 (a2 : nS) (a31 : Int) (a32 : List Int) (b : List Int) (c : List PPhi) (a : Int) : Option (Ex (List PPhi) (List PPhi × Int)) :=
  if a < (len b) then
    (idx b a).bind fun d =>
    (idx a2.phi a31).bind fun e =>
    (idx e a).bind fun f =>
    (whl (fun (s : (List Int × Int)) => nX.bd144 a2 a32 d s.1 s.2) nB (([] : List Int), 0)).bind fun z =>
    nX.nx144 c a f z
  else
    some (.ret c)
def nX (a2 : nS) (a31 : Int) (a32 : List Int) : Option ny :=
  (idx a2.phis a31).bind fun a =>
  (whl (fun (s : (List PPhi × Int)) => nX.bd9 a2 a31 a32 a s.1 s.2) nB (([] : List PPhi), 0)).bind fun z =>
  nX.nx9 a2 a31 z
set_option maxHeartbeats 4000000 in
theorem w8 {E : World} {H : FP} {w : World} {a2 : nS} {a31 : Int} {a32 : List Int} {d : Nat} {g : Nat} {aS : Value} {aT : Value} {aU : Value} {aV : Value} {aW : Value} {aX : Value} {aY : Value} {aZ : Value} {a0 : Value} {au : Value} {a3 : Value} {a4 : Value} {a5 : Value} {o : Value} {r : ny} (y : oa H d g [.int .i64 a2.f.params, .int .i64 a2.f.result, aS, aT, aU, aV, aW, aX, aY, aZ, a0, au, a3, a4, a5]) (ee : SlI (nt .i64) H a2.f.regs aS) (a6 : SlI nW H a2.f.blocks aT) (ef : SlI (kSl 4 kBool) H a2.in_ aU) (eg : SlI (kSl 3 (nt .i64)) H a2.front aV) (eh : SlI (nt .i64) H a2.nearest aW) (bJ : SlI (kSl 3 (nt .i64)) H a2.phis aX) (ei : SlI (nt .i64) H a2.zeros aY) (ej : SlI (nt .i64) H a2.regs aZ) (bK : SlI (kSl 3 (nt .i64)) H a2.phi a0) (a7 : SlI (nt .i64) H a2.zero_ au) (bL : SlI (kSl 3 (nt .i64)) H a2.dst a3) (bM : SlI (kSl 3 (nt .i64)) H a2.begin a4) (bN : SlI (kSl 3 (nt .i64)) H a2.end_ a5) (a8 : SlI (nt .i64) H a32 o) (hp : nX a2 a31 a32 = some r) (hst : St E H [] w) :
    Fn Try.prog 46 #[.pointer (some ⟨d, g, none⟩), .int .i64 a31, o] w fun v w' => ∃ A, nX.R r v A ∧ St E H A w' := by
 refine Fn.bodyV (fn := Try.f46) (args := [.pointer (some ⟨d, g, none⟩), .int .i64 a31, o]) E H [] 196 Try.func46 rfl rfl (leb rfl) hst <| sr <| tl i50 rfl fun b => nz <| sr <| tl i50 rfl fun c => nz <| nv fun bO bP => sr <| tm rfl <| tv (nE rfl) rfl <| tv (fa qV rfl) rfl <| tv (lr s73 sH y 7 rfl rfl) rfl <| tm rfl <| ti u73 i25 bJ hp rfl rfl rfl rfl ?_
 rintro X ek el _ hp ⟨ah, rfl, a9⟩ bQ
 refine tv (lr s25 sH bQ 0 rfl rfl) rfl <| tv (ln u25 a9 rfl) rfl <| tm rfl <| nz <| nC <| bE hp fun bR bS bT => ?_
 have bU {F h j bV} (ba : SlO 70 o0 F h j) (bW : F = bR) : ∀ w, St E H [bx b 50 [.slice none 0 0, .slice none 0 0, .int .i64 0, .int .i64 0, .slice none 0 0], bx c 50 [h, .slice none 0 0, .int .i64 0, .int .i64 0, .slice none 0 0], j] w → bO (ovr bV [(0, .pointer (some ⟨d, g, none⟩)), (1, .int .i64 a31), (6, .pointer (some ⟨b, 0, none⟩)), (7, .pointer (some ⟨c, 0, none⟩))]) w := by
  subst bW
  replace hp : nX.nx9 a2 a31 F = some r := bT
  refine tg bP <| nv fun bb bX => ?_
  have bc {be av aw bY} (bZ : SlO 52 oK be av aw) (hp : nX.jn14 a2 a31 F be = some r) : ∀ w, St E H [bx b 50 [.slice none 0 0, .slice none 0 0, .int .i64 0, .int .i64 0, .slice none 0 0], bx c 50 [h, av, .int .i64 0, .int .i64 0, .slice none 0 0], j, aw] w → bb (ovr bY [(0, .pointer (some ⟨d, g, none⟩)), (1, .int .i64 a31), (6, .pointer (some ⟨b, 0, none⟩)), (7, .pointer (some ⟨c, 0, none⟩))]) w := by
   refine tg bX <| sr <| tm rfl <| tv (nE rfl) rfl <| tv (fa r7 rfl) rfl <| tv (lr s73 sH y 13 rfl rfl) rfl <| tm rfl <| ti u73 i25 bM hp rfl rfl rfl rfl ?_
   rintro b0 em en _ hp ⟨eo, rfl, b1⟩ b2
   refine tv (lr s25 sH b2 0 rfl rfl) rfl <| bE hp fun ep hy16 hp => tc 0 [_,_,_,_] rfl c28 (fun _ => p8 (a1 := b0) (b1.mono nw) hy16) rfl ?_
   rintro _ _ ⟨p, b3, rfl, rfl, b4⟩
   refine ta rfl <| nz <| nv fun b5 b6 => sr <| tm rfl <| tv (nE rfl) rfl <| tv (fa pK rfl) rfl <| tv (fa n6 rfl) rfl <| tv (lr s39 sH y 3 rfl rfl) rfl <| tm rfl <| ti u39 i50 a6 hp rfl rfl rfl rfl ?_
   rintro K eq er _ hp ⟨es, Y, et, rfl, eu, bf, ev⟩ b7
   refine tv (fa ou rfl) rfl <| tv (lr s48 sH b7 1 rfl rfl) rfl <| tv (ln u48 bf rfl) rfl <| tm rfl <| nz <| nC <| bE hp fun b8 b9 ca => ?_
   have cb {ai ax M Z ay cc} (bg : SlO 52 oK ai M Z) (cd : SlO 3 (nt .i64) ax p ay) (ce : (ai, ax) = b8) : ∀ w, St E H [bx b 50 [.slice none 0 0, .slice none 0 0, .int .i64 0, .int .i64 0, .slice none 0 0], bx c 50 [h, M, .int .i64 0, .int .i64 0, .slice none 0 0], j, Z, ay] w → b5 (ovr cc [(0, .pointer (some ⟨d, g, none⟩)), (1, .int .i64 a31), (6, .pointer (some ⟨b, 0, none⟩)), (7, .pointer (some ⟨c, 0, none⟩)), (15, p)]) w := by
    subst ce
    replace hp : nX.nx26 a2 a31 F ai ax = some r := ca
    refine tg b6 <| sr <| tm rfl <| tv (nE rfl) rfl <| tv (fa pK rfl) rfl <| tv (fa n6 rfl) rfl <| tv (lr s39 sH y 3 rfl rfl) rfl <| tm rfl <| ti u39 i50 a6 hp rfl rfl rfl rfl ?_
    rintro i ew ex _ hp ⟨ey, ez, az, rfl, eA, eB, bh⟩ cf
    refine tv (fa oP rfl) rfl <| tv (lR (ds := [.int .i64 i.term.kind, .int .i64 i.term.arg, az]) sF sH cf 2 rfl rfl rfl) rfl <| tl i46 rfl fun cg => tS 0 m46 rfl rfl [.int .i64 i.term.kind, .int .i64 i.term.arg, az] rfl (oc rfl (oc rfl (oc (bh).one oc0))) rfl rfl <| nz <| nv fun eC ci => ch mix [bx cg 46 [.int .i64 i.term.kind, .int .i64 i.term.arg, az], bx b 50 [.slice none 0 0, .slice none 0 0, .int .i64 0, .int .i64 0, .slice none 0 0], j, Z, ay] (nq 0 rfl (nq 1 rfl (nq 3 rfl (nq 4 rfl (nq 5 rfl ns))))) <| hv 0 rfl (fa qg rfl) (by kernel_rfl) rfl <| hv 1 rfl (lbG s3 0 rfl rfl rfl) (by kernel_rfl) rfl <| hv 2 rfl (fa pJ rfl) (by kernel_rfl) rfl <| hv 3 rfl (lbG s3 0 rfl rfl rfl) (by kernel_rfl) rfl <| hv 4 rfl (fa pf rfl) (by kernel_rfl) rfl <| hv 5 rfl (lbG s25 0 rfl rfl rfl) (by kernel_rfl) rfl <| ho 6 rfl (by kernel_rfl) fun eD cj => bE hp fun ck hy33 hp => tc 0 [_,_,_,_,_,_] rfl c28 (fun _ => p8 (a1 := i.term.to) (bh.mono nw) hy33) rfl ?_
    rintro _ _ ⟨G, bi, rfl, rfl, aj⟩
    refine hk cj (nq 1 rfl (nq 2 rfl (nq 4 rfl (nq 5 rfl (nq 6 rfl ns))))) <| hv 7 rfl (oh (vs := [(0, .int .i64 i.term.kind), (1, .int .i64 i.term.arg), (2, G)]) (ds := [.int .i64 i.term.kind, .int .i64 i.term.arg, G]) rfl (fun w => by obtain ⟨_, _, rfl⟩ := (aj).len; kernel_rfl)) (by kernel_rfl) rfl <| hv 8 rfl (fa oP rfl) (by kernel_rfl) rfl <| ho 9 rfl (by kernel_rfl) fun eE cl => tS 3 m46 rfl rfl [.int .i64 i.term.kind, .int .i64 i.term.arg, G] rfl (oc rfl (oc rfl (oc (aj).one oc0))) rfl rfl <| hk cl (nq 1 rfl (nq 2 rfl (nq 4 rfl (nq 5 rfl (nq 6 rfl ns))))) <| hz (by kernel_rfl) <| tg ci <| nv fun cm cn => ?_
    have bj {ak co} (hp : nX.jn40 F ai i ck ak = some r) : ∀ w, St E H [bx b 50 [.slice none 0 0, .slice none 0 0, .int .i64 0, .int .i64 0, .slice none 0 0], bx c 50 [h, M, .int .i64 i.term.kind, .int .i64 ak, G], j, Z, bi] w → cm (ovr co [(6, .pointer (some ⟨b, 0, none⟩)), (7, .pointer (some ⟨c, 0, none⟩))]) w := by
     refine tg cn <| sr <| tv (lA (ds := [h, M, .int .i64 i.term.kind, .int .i64 ak, G]) o5 1 rfl rfl rfl rfl) rfl <| tS 0 m50 rfl rfl [h, M, .int .i64 i.term.kind, .int .i64 ak, G] rfl (oc (ba).one (oc (bg).one (oc rfl (oc rfl (oc (aj).one oc0))))) rfl rfl <| nz <| nH ?_
     obtain rfl := Option.some.inj hp
     exact fun w hw => retC1 hw rfl rfl o5 0 rfl rfl ⟨h, j, M, Z, G, bi, rfl, rfl, ba, bg, aj⟩ (hw.pickA [2, 3, 4] rfl)
    refine sr <| tv (fa pJ rfl) rfl <| tv (lb s3 1 rfl rfl rfl) rfl <| tv (bge rfl rfl) rfl <| nz <| cD rfl hp (fun cp hp => ?_) fun cp hp => ?_
    · refine nG <| tm rfl <| tv (fa pJ rfl) rfl <| tv (lb s3 1 rfl rfl rfl) rfl <| ti u25 i3 (cd).ro hp rfl rfl rfl rfl ?_
      rintro eF eG eH _ hp rfl cq
      exact tv (lr s3 (Src.at_ 6 rfl) cq 0 rfl rfl) rfl <| tv (fa oP rfl) rfl <| tv (fa pJ rfl) rfl <| ts 3 m3 rfl rfl w1 rfl <| nl <| jn [2, 3, 4, 5, 0] (bj hp)
    · exact TC.skip <| jn [2, 3, 4, 5, 0] (bj hp)
   refine lp b9 [1, 2, 3, 4, 0] rfl (fun s e L => ∃ N O n q t z bk, s = (N, O, n) ∧ SlO 52 oK N q t ∧ SlO 3 (nt .i64) O p z ∧ e = ovr bk [(0, .pointer (some ⟨d, g, none⟩)), (1, .int .i64 a31), (6, .pointer (some ⟨b, 0, none⟩)), (7, .pointer (some ⟨c, 0, none⟩)), (15, p), (110, Y), (111, .int .i64 (len K.ins)), (112, .int .i64 n)] ∧ L = [bx b 50 [.slice none 0 0, .slice none 0 0, .int .i64 0, .int .i64 0, .slice none 0 0], bx c 50 [h, q, .int .i64 0, .int .i64 0, .slice none 0 0], j, t, z]) ⟨_, _, _, av, aw, b3, _, rfl, bZ, b4, nD _ _ rfl, rfl⟩ ?_
   rintro _ _ _ ⟨N, O, n, q, t, z, bk, rfl, bl, aa, rfl, rfl⟩ aA hp cr
   replace hp : nX.bd26 a2 a31 K N O n = some aA := hp
   refine sr <| tv (blt rfl rfl) rfl <| nz <| nv fun eI cs => cD rfl hp (fun ct hp => ?_) fun ct hp => ?_
   · refine sk cs rfl <| nv fun eJ cu => nC <| sr <| tm rfl <| ti u48 i52 bf hp rfl rfl rfl rfl ?_
     rintro a eK eL _ hp ⟨u, rfl, aB⟩ cv
     refine tv (lR (ds := [.int .i64 a.op, .int .i64 a.dst, u, .int .i64 a.imm, .int .i64 a.fn]) pi sH cv 0 rfl rfl rfl) rfl <| tl i52 rfl fun B => ta rfl <| tS 0 m52 rfl rfl [.int .i64 a.op, .int .i64 a.dst, u, .int .i64 a.imm, .int .i64 a.fn] rfl (oc rfl (oc rfl (oc (aB).one (oc rfl (oc rfl oc0))))) rfl rfl <| nz <| nv fun eM cw => ch mix [bx B 52 [.int .i64 a.op, .int .i64 a.dst, u, .int .i64 a.imm, .int .i64 a.fn], bx b 50 [.slice none 0 0, .slice none 0 0, .int .i64 0, .int .i64 0, .slice none 0 0], bx c 50 [h, q, .int .i64 0, .int .i64 0, .slice none 0 0], j, t, z] (nq 0 rfl (nq 1 rfl (nq 2 rfl (nq 3 rfl (nq 4 rfl (nq 5 rfl ns)))))) <| hv 0 rfl (fa qC rfl) (by kernel_rfl) rfl <| hv 1 rfl (lbG s3 0 rfl rfl rfl) (by kernel_rfl) rfl <| hv 2 rfl mv (by kernel_rfl) rfl <| hv 3 rfl (nE rfl) (by kernel_rfl) rfl <| hv 4 rfl (fa oG rfl) (by kernel_rfl) rfl <| hv 5 rfl (lr s73 srcInH y 12 rfl rfl) (by kernel_rfl) rfl <| hv 6 rfl mv (by kernel_rfl) rfl <| hi 7 rfl u73 i25 bL hp rfl rfl rfl (by kernel_rfl) rfl ?_
     rintro eN eO eP _ hp ⟨eQ, rfl, cx⟩ cy
     refine hv 8 rfl (lr s25 srcInH cy 0 rfl rfl) (by kernel_rfl) rfl <| hv 9 rfl mv (by kernel_rfl) rfl <| hi 10 rfl u25 i3 cx hp rfl rfl rfl (by kernel_rfl) rfl ?_
     rintro l eR eS _ hp rfl cz
     refine hv 11 rfl (lr s3 srcInH cz 0 rfl rfl) (by kernel_rfl) rfl <| hv 12 rfl (fa qU rfl) (by kernel_rfl) rfl <| hv 13 rfl (lbG s2 0 rfl rfl rfl) (by kernel_rfl) rfl <| hv 14 rfl (fa qD rfl) (by kernel_rfl) rfl <| hv 15 rfl (lbG s3 0 rfl rfl rfl) (by kernel_rfl) rfl <| hv 16 rfl (oh (vs := [(0, .int .i64 a.op), (1, .int .i64 l), (3, .int .i64 a.imm), (4, .int .i64 a.fn)]) (ds := [.int .i64 a.op, .int .i64 l, .slice none 0 0, .int .i64 a.imm, .int .i64 a.fn]) rfl (fun w => by kernel_rfl)) (by kernel_rfl) rfl <| ho 17 rfl (by kernel_rfl) fun eT cA => tl i52 rfl fun C => hk cA (nq 1 rfl (nq 2 rfl (nq 3 rfl (nq 4 rfl (nq 5 rfl (nq 6 rfl ns)))))) <| ho 18 rfl (by kernel_rfl) fun eU cB => tS 0 m52 rfl rfl [.int .i64 a.op, .int .i64 l, .slice none 0 0, .int .i64 a.imm, .int .i64 a.fn] rfl (oc rfl (oc rfl (oc rfl (oc rfl (oc rfl oc0))))) rfl rfl <| hk cB (nq 1 rfl (nq 2 rfl (nq 3 rfl (nq 4 rfl (nq 5 rfl (nq 6 rfl ns)))))) <| hz (by kernel_rfl) <| tg cw <| nv fun cC cE => sr <| tv (fa o9 rfl) rfl <| tv (lb s25 1 rfl rfl rfl) rfl <| tv (ln u25 aB rfl) rfl <| tm rfl <| nz <| nC <| bE hp fun cF cG cH => ?_
     have cI {ab P am cJ} (cK : SlO 3 (nt .i64) ab P am) (cL : ab = cF) : ∀ w, St E H [bx b 50 [.slice none 0 0, .slice none 0 0, .int .i64 0, .int .i64 0, .slice none 0 0], bx c 50 [h, q, .int .i64 0, .int .i64 0, .slice none 0 0], j, t, z, bx B 52 [.int .i64 a.op, .int .i64 a.dst, u, .int .i64 a.imm, .int .i64 a.fn], bx C 52 [.int .i64 a.op, .int .i64 l, P, .int .i64 a.imm, .int .i64 a.fn], am] w → cC (ovr cJ [(0, .pointer (some ⟨d, g, none⟩)), (1, .int .i64 a31), (6, .pointer (some ⟨b, 0, none⟩)), (7, .pointer (some ⟨c, 0, none⟩)), (15, p), (17, .pointer (some ⟨B, 0, none⟩)), (18, .pointer (some ⟨C, 0, none⟩)), (110, Y), (111, .int .i64 (len K.ins)), (112, .int .i64 n)]) w := by
      subst cL
      replace hp : nX.nx66 N O n a l ab = some aA := cH
      refine tg cE <| nv fun cM cN => ?_
      have bm {bn aC cO} (cP : SlO 3 (nt .i64) bn p aC) (hp : nX.jn71 N n a l ab bn = some aA) : ∀ w, St E H [bx b 50 [.slice none 0 0, .slice none 0 0, .int .i64 0, .int .i64 0, .slice none 0 0], bx c 50 [h, q, .int .i64 0, .int .i64 0, .slice none 0 0], j, t, aC, bx C 52 [.int .i64 a.op, .int .i64 l, P, .int .i64 a.imm, .int .i64 a.fn], am] w → cM (ovr cO [(0, .pointer (some ⟨d, g, none⟩)), (1, .int .i64 a31), (6, .pointer (some ⟨b, 0, none⟩)), (7, .pointer (some ⟨c, 0, none⟩)), (15, p), (18, .pointer (some ⟨C, 0, none⟩)), (110, Y), (111, .int .i64 (len K.ins)), (112, .int .i64 n)]) w := by
       exact tg cN <| nG <| tv (fa ou rfl) rfl <| tv (lb s48 1 rfl rfl rfl) rfl <| tv (lA (ds := [.int .i64 a.op, .int .i64 l, P, .int .i64 a.imm, .int .i64 a.fn]) pi 5 rfl rfl rfl rfl) rfl <| tbs [(0, .agg #[.int .i64 a.op, .int .i64 l, P, .int .i64 a.imm, .int .i64 a.fn])] [.int .i64 a.op, .int .i64 l, P, .int .i64 a.imm, .int .i64 a.fn] u48 i52 (by kernel_rfl) rfl rfl rfl rfl fun eV => tp [4, 0, 7, 1, 2, 3, 5, 6] [_,_,_,_,_,_,_,_] rfl rfl <| tp2 u48 i52 bl hp (RepL.to (G' := am) (RepL.cons (k := oK) (x := (⟨a.op, l, ab, a.imm, a.fn⟩ : nO)) ⟨_, _, rfl, rfl, cK⟩ RepL.nil) (by simp)) rfl rfl rfl rfl rfl rfl rfl rfl rfl fun eW cQ cR bo hp => tv (fa ou rfl) rfl <| ts 2 m48 rfl rfl bo.o1 rfl <| nl <| tg cu <| nG <| tv (bad rfl rfl) rfl <| tm rfl <| nl <| gk hp [1, 2, 3, 0, 4] ⟨_, _, _, cQ, cR, aC, _, rfl, bo, cP, nD _ _ rfl, rfl⟩
      refine sr <| tv (fa pj rfl) rfl <| tv (lb s3 5 rfl rfl rfl) rfl <| tv (bge rfl rfl) rfl <| nz <| cD rfl hp (fun cS hp => ?_) fun cS hp => ?_
      · exact nG <| tm rfl <| tv (fa pj rfl) rfl <| tv (lb s3 5 rfl rfl rfl) rfl <| tv (fa pj rfl) rfl <| tv (lb s3 6 rfl rfl rfl) rfl <| tO u25 i3 aa hp rfl rfl rfl rfl fun eX eY eZ cT hp => tp [4, 0, 1, 2, 3, 5, 6, 7] [_,_,_,_,_,_,_,_] rfl rfl <| tE aa cT m3 rfl ⟨rfl, rfl⟩ w1 fun e0 cU => nl <| jn [1, 2, 3, 4, 0, 6, 7] (bm cU hp)
      · exact TC.skip <| jn [0, 1, 2, 3, 4, 6, 7] (bm aa hp)
     refine W.new0 <| lp cG [3, 4, 5, 6, 7, 2, 1, 0] rfl (fun s e L => ∃ an Q aD aE bp, s = (an, Q) ∧ SlO 3 (nt .i64) an aD aE ∧ e = ovr bp [(0, .pointer (some ⟨d, g, none⟩)), (1, .int .i64 a31), (6, .pointer (some ⟨b, 0, none⟩)), (7, .pointer (some ⟨c, 0, none⟩)), (15, p), (17, .pointer (some ⟨B, 0, none⟩)), (18, .pointer (some ⟨C, 0, none⟩)), (110, Y), (111, .int .i64 (len K.ins)), (112, .int .i64 n), (135, u), (136, .int .i64 (len a.args)), (137, .int .i64 Q)] ∧ L = [bx b 50 [.slice none 0 0, .slice none 0 0, .int .i64 0, .int .i64 0, .slice none 0 0], bx c 50 [h, q, .int .i64 0, .int .i64 0, .slice none 0 0], j, t, z, bx B 52 [.int .i64 a.op, .int .i64 a.dst, u, .int .i64 a.imm, .int .i64 a.fn], bx C 52 [.int .i64 a.op, .int .i64 l, aD, .int .i64 a.imm, .int .i64 a.fn], aE]) ⟨_, _, (.slice none 0 0), ([] : FP), _, rfl, (SlO.nil 3), nD _ _ rfl, rfl⟩ ?_
     rintro _ _ _ ⟨an, Q, aD, aE, bp, rfl, aF, rfl, rfl⟩ bq hp cV
     replace hp : nX.bd66 O a an Q = some bq := hp
     refine sr <| tv (blt rfl rfl) rfl <| nz <| nv fun e1 cW => cD rfl hp (fun cX hp => ?_) fun cX hp => ?_
     · refine sk cW rfl <| nv fun cY cZ => ?_
       have br {bs aG aH c0} (c1 : SlO 3 (nt .i64) bs aG aH) (hp : nX.jn83 Q bs = some bq) : ∀ w, St E H [bx b 50 [.slice none 0 0, .slice none 0 0, .int .i64 0, .int .i64 0, .slice none 0 0], bx c 50 [h, q, .int .i64 0, .int .i64 0, .slice none 0 0], j, t, z, bx B 52 [.int .i64 a.op, .int .i64 a.dst, u, .int .i64 a.imm, .int .i64 a.fn], bx C 52 [.int .i64 a.op, .int .i64 l, aG, .int .i64 a.imm, .int .i64 a.fn], aH] w → cY (ovr c0 [(0, .pointer (some ⟨d, g, none⟩)), (1, .int .i64 a31), (6, .pointer (some ⟨b, 0, none⟩)), (7, .pointer (some ⟨c, 0, none⟩)), (15, p), (17, .pointer (some ⟨B, 0, none⟩)), (18, .pointer (some ⟨C, 0, none⟩)), (110, Y), (111, .int .i64 (len K.ins)), (112, .int .i64 n), (135, u), (136, .int .i64 (len a.args)), (137, .int .i64 Q)]) w := by
        exact tg cZ <| nG <| tv (bad rfl rfl) rfl <| tm rfl <| nl <| gk hp [0, 1, 2, 3, 4, 5, 6, 7] ⟨_, _, aG, aH, _, rfl, c1, nD _ _ rfl, rfl⟩
       refine nC <| sr <| ti u25 i3 aB hp rfl rfl rfl rfl ?_
       rintro e2 e3 e4 _ hp rfl c2
       refine tv (lr s3 sH c2 0 rfl rfl) rfl <| ta rfl <| nz <| ch mix [bx b 50 [.slice none 0 0, .slice none 0 0, .int .i64 0, .int .i64 0, .slice none 0 0], bx c 50 [h, q, .int .i64 0, .int .i64 0, .slice none 0 0], j, t, z, bx B 52 [.int .i64 a.op, .int .i64 a.dst, u, .int .i64 a.imm, .int .i64 a.fn]] (nq 0 rfl (nq 1 rfl (nq 2 rfl (nq 3 rfl (nq 4 rfl (nq 5 rfl ns)))))) <| hv 0 rfl (fa o9 rfl) (by kernel_rfl) rfl <| hv 2 rfl mv (by kernel_rfl) rfl <| hv 3 rfl mv (by kernel_rfl) rfl <| hi 4 rfl u25 i3 (aa).ro hp rfl rfl rfl (by kernel_rfl) rfl ?_
       rintro S e5 e6 _ hp rfl c3
       refine hv 5 rfl (lr s3 (srcInG 4 rfl) c3 0 rfl rfl) (by kernel_rfl) rfl <| nU [1, 6] (by kernel_rfl) (by simp) (nF ⟨_, rfl, fun e7 c4 => ?_⟩ (nF ⟨_, rfl, fun e8 c5 => ?_⟩ nV))
       · exact tv (lb s25 6 rfl rfl rfl) rfl <| hk c4 (nq 0 rfl (nq 1 rfl (nq 2 rfl (nq 3 rfl (nq 4 rfl (nq 5 rfl ns)))))) <| ho 6 rfl (by kernel_rfl) fun e9 c6 => tbs [(0, .int .i64 S)] [.int .i64 S] u25 i3 (by kernel_rfl) rfl rfl rfl rfl fun c7 => hk c6 (nq 1 rfl (nq 2 rfl (nq 3 rfl (nq 4 rfl (nq 5 rfl (nq 6 rfl ns)))))) <| ho 7 rfl (by kernel_rfl) fun fb c8 => tp [8, 0, 1, 2, 3, 4, 5, 6, 7] [_,_,_,_,_,_,_,_,_] rfl rfl <| tf 2 0 [_,_,_,_,_,_,_,_,_,_] rfl <| tp2 u25 i3 aF hp (RepL.to (RepL.cons (k := (nt .i64)) (x := S) ⟨rfl, rfl⟩ RepL.nil) rfl) rfl rfl rfl rfl rfl rfl rfl rfl rfl fun c9 da db ac hp => hk c8 (nq 1 rfl (nq 2 rfl (nq 3 rfl (nq 4 rfl (nq 5 rfl (nq 6 rfl ns)))))) <| hv 8 rfl (fa o9 rfl) (by kernel_rfl) rfl <| ho 9 rfl (by kernel_rfl) fun fc dc => ts 7 m25 rfl rfl ac.o1 rfl <| hk dc (nq 1 rfl (nq 2 rfl (nq 3 rfl (nq 4 rfl (nq 5 rfl (nq 6 rfl ns)))))) <| hz (by kernel_rfl) <| jn [1, 2, 3, 4, 5, 6, 7, 0] (br ac hp)
       · exact tbs [(0, .int .i64 S)] [.int .i64 S] u25 i3 (by kernel_rfl) rfl rfl rfl rfl fun c7 => hk c5 (nq 1 rfl (nq 2 rfl (nq 3 rfl (nq 4 rfl (nq 5 rfl (nq 6 rfl ns)))))) <| ho 1 rfl (by kernel_rfl) fun fd dd => tv (lb s25 7 rfl rfl rfl) rfl <| hk dd (nq 1 rfl (nq 2 rfl (nq 3 rfl (nq 4 rfl (nq 5 rfl (nq 6 rfl ns)))))) <| ho 7 rfl (by kernel_rfl) fun fe de => tp [8, 0, 1, 2, 3, 4, 5, 6, 7] [_,_,_,_,_,_,_,_,_] rfl rfl <| tf 2 0 [_,_,_,_,_,_,_,_,_,_] rfl <| tp2 u25 i3 aF hp (RepL.to (RepL.cons (k := (nt .i64)) (x := S) ⟨rfl, rfl⟩ RepL.nil) rfl) rfl rfl rfl rfl rfl rfl rfl rfl rfl fun c9 da db ac hp => hk de (nq 1 rfl (nq 2 rfl (nq 3 rfl (nq 4 rfl (nq 5 rfl (nq 6 rfl ns)))))) <| hv 8 rfl (fa o9 rfl) (by kernel_rfl) rfl <| ho 9 rfl (by kernel_rfl) fun ff df => ts 7 m25 rfl rfl ac.o1 rfl <| hk df (nq 1 rfl (nq 2 rfl (nq 3 rfl (nq 4 rfl (nq 5 rfl (nq 6 rfl ns)))))) <| hz (by kernel_rfl) <| jn [1, 2, 3, 4, 5, 6, 7, 0] (br ac hp)
     · exact nN <| jn [0, 1, 2, 3, 4, 5, 6, 7] (cI aF (nJ hp cV))
   · exact nN <| jn [0, 1, 2, 3, 4] (cb bl aa (nJ hp cr))
  refine sr <| tm rfl <| tv (beq rfl rfl) rfl <| nz <| cD rfl hp (fun dg hp => ?_) fun dg hp => ?_
  · refine sr <| tm rfl <| tv (nE rfl) rfl <| tv (fa qW rfl) rfl <| tv (lr s25 sH y 11 rfl rfl) rfl <| tv (ln u25 a7 rfl) rfl <| tm rfl <| nz <| nC <| bE hp fun dh di dj => ?_
    have dk {aI bt bu dl} (dm : SlO 52 oK aI bt bu) (dn : aI = dh) : ∀ w, St E H [bx b 50 [.slice none 0 0, .slice none 0 0, .int .i64 0, .int .i64 0, .slice none 0 0], bx c 50 [h, bt, .int .i64 0, .int .i64 0, .slice none 0 0], j, bu] w → bb (ovr dl [(0, .pointer (some ⟨d, g, none⟩)), (1, .int .i64 a31), (6, .pointer (some ⟨b, 0, none⟩)), (7, .pointer (some ⟨c, 0, none⟩))]) w := by
     subst dn
     replace hp : nX.nx114 a2 a31 F aI = some r := dj
     exact jn [0, 1, 2, 3] (bc dm hp)
    refine W.new0 <| lp di [1, 2, 3, 0] rfl (fun s e L => ∃ ao ap aJ aK bv, s = (ao, ap) ∧ SlO 52 oK ao aJ aK ∧ e = ovr bv [(0, .pointer (some ⟨d, g, none⟩)), (1, .int .i64 a31), (6, .pointer (some ⟨b, 0, none⟩)), (7, .pointer (some ⟨c, 0, none⟩)), (80, au), (81, .int .i64 (len a2.zero_)), (82, .int .i64 ap)] ∧ L = [bx b 50 [.slice none 0 0, .slice none 0 0, .int .i64 0, .int .i64 0, .slice none 0 0], bx c 50 [h, aJ, .int .i64 0, .int .i64 0, .slice none 0 0], j, aK]) ⟨_, _, (.slice none 0 0), ([] : FP), _, rfl, (SlO.nil 52), nD _ _ rfl, rfl⟩ ?_
    rintro _ _ _ ⟨ao, ap, aJ, aK, bv, rfl, bw, rfl, rfl⟩ dp hp dq
    replace hp : nX.bd114 a2 ao ap = some dp := hp
    refine sr <| tv (blt rfl rfl) rfl <| nz <| nv fun fg dr => cD rfl hp (fun dt hp => ?_) fun dt hp => ?_
    · refine sk dr rfl <| nv fun fh du => nC <| sr <| ti u25 i3 a7 hp rfl rfl rfl rfl ?_
      rintro ad fi fj _ hp rfl dv
      exact tv (lr s3 sH dv 0 rfl rfl) rfl <| ta rfl <| nz <| nG <| tv (fa ou rfl) rfl <| tv (lb s48 1 rfl rfl rfl) rfl <| tm rfl <| tv (oh (vs := [(0, .int .i64 1), (1, .int .i64 ad)]) (ds := [.int .i64 1, .int .i64 ad, .slice none 0 0, .int .i64 0, .int .i64 0]) rfl (fun w => by kernel_rfl)) rfl <| tbs [(0, .agg #[.int .i64 1, .int .i64 ad, .slice none 0 0, .int .i64 0, .int .i64 0])] [.int .i64 1, .int .i64 ad, .slice none 0 0, .int .i64 0, .int .i64 0] u48 i52 (by kernel_rfl) rfl rfl rfl rfl fun fk => TL.new0 <| tp [5, 1, 0, 2, 3, 4] [_,_,_,_,_,_] rfl rfl <| tp2 u48 i52 bw hp (RepL.to (G' := ([] : FP)) (RepL.cons (k := oK) (x := (⟨1, ad, ([] : List Int), 0, 0⟩ : nO)) ⟨_, _, rfl, rfl, (SlO.nil 3)⟩ RepL.nil) (by simp)) rfl rfl rfl rfl rfl rfl rfl rfl rfl fun fl dw dx bz hp => tv (fa ou rfl) rfl <| ts 2 m48 rfl rfl bz.o1 rfl <| nl <| tg du <| nG <| tv (bad rfl rfl) rfl <| tm rfl <| nl <| gk hp [1, 2, 3, 0] ⟨_, _, dw, dx, _, rfl, bz, nD _ _ rfl, rfl⟩
    · exact nN <| jn [0, 1, 2, 3] (dk bw (nJ hp dq))
  · exact TC.skip <| W.new0 <| jn [1, 2, 3, 0] (bc (SlO.nil 52) hp)
 refine W.new0 <| lp bS [2, 1, 0] rfl (fun s e L => ∃ ae D I J bA, s = (ae, D) ∧ SlO 70 o0 ae I J ∧ e = ovr bA [(0, .pointer (some ⟨d, g, none⟩)), (1, .int .i64 a31), (2, o), (6, .pointer (some ⟨b, 0, none⟩)), (7, .pointer (some ⟨c, 0, none⟩)), (28, ah), (29, .int .i64 (len X)), (30, .int .i64 D)] ∧ L = [bx b 50 [.slice none 0 0, .slice none 0 0, .int .i64 0, .int .i64 0, .slice none 0 0], bx c 50 [I, .slice none 0 0, .int .i64 0, .int .i64 0, .slice none 0 0], J]) ⟨_, _, (.slice none 0 0), ([] : FP), _, rfl, (SlO.nil 70), nD _ _ rfl, rfl⟩ ?_
 rintro _ _ _ ⟨ae, D, I, J, bA, rfl, bB, rfl, rfl⟩ bC hp dy
 replace hp : nX.bd9 a2 a31 a32 X ae D = some bC := hp
 refine sr <| tv (blt rfl rfl) rfl <| nz <| nv fun fm dz => cD rfl hp (fun dA hp => ?_) fun dA hp => ?_
 · refine sk dz rfl <| nv fun fo dB => nC <| sr <| tm rfl <| ti u25 i3 a9 hp rfl rfl rfl rfl ?_
   rintro aL fp fq _ hp rfl dC
   refine tv (lr s3 sH dC 0 rfl rfl) rfl <| ta rfl <| ta rfl <| nz <| sr <| tm rfl <| tv (nE rfl) rfl <| tv (fa oF rfl) rfl <| tv (lr s73 sH y 10 rfl rfl) rfl <| tm rfl <| ti u73 i25 bK hp rfl rfl rfl rfl ?_
   rintro fr fs ft _ hp ⟨fu, rfl, dD⟩ dE
   refine tv (lr s25 sH dE 0 rfl rfl) rfl <| tm rfl <| ti u25 i3 dD hp rfl rfl rfl rfl ?_
   rintro m fv fw _ hp rfl dF
   refine tv (lr s3 sH dF 0 rfl rfl) rfl <| tv (oh (vs := [(0, .int .i64 m)]) (ds := [.int .i64 m, .slice none 0 0]) rfl (fun w => by kernel_rfl)) rfl <| tl i70 rfl fun T => tS 0 m70 rfl rfl [.int .i64 m, .slice none 0 0] rfl (oc rfl (oc rfl oc0)) rfl rfl <| nz <| nv fun dG dH => sr <| tm rfl <| tv (ln u25 a8 rfl) rfl <| tm rfl <| nz <| nC <| bE hp fun dI dJ dK => ?_
   have dL {aq af aM dM} (dN : SlO 3 (nt .i64) aq af aM) (dO : aq = dI) : ∀ w, St E H [bx b 50 [.slice none 0 0, .slice none 0 0, .int .i64 0, .int .i64 0, .slice none 0 0], bx c 50 [I, .slice none 0 0, .int .i64 0, .int .i64 0, .slice none 0 0], J, bx T 70 [.int .i64 m, af], aM] w → dG (ovr dM [(0, .pointer (some ⟨d, g, none⟩)), (1, .int .i64 a31), (2, o), (6, .pointer (some ⟨b, 0, none⟩)), (7, .pointer (some ⟨c, 0, none⟩)), (10, .pointer (some ⟨T, 0, none⟩)), (28, ah), (29, .int .i64 (len X)), (30, .int .i64 D)]) w := by
    subst dO
    replace hp : nX.nx144 ae D m aq = some bC := dK
    exact tg dH <| nG <| tv (fa oL rfl) rfl <| tv (lb s47 1 rfl rfl rfl) rfl <| tv (lA (ds := [.int .i64 m, af]) qp 3 rfl rfl rfl rfl) rfl <| tbs [(0, .agg #[.int .i64 m, af])] [.int .i64 m, af] u47 i70 (by kernel_rfl) rfl rfl rfl rfl fun fx => tp [3, 0, 5, 1, 2, 4] [_,_,_,_,_,_] rfl rfl <| tp2 u47 i70 bB hp (RepL.to (G' := aM) (RepL.cons (k := o0) (x := (⟨m, aq⟩ : PPhi)) ⟨_, _, rfl, rfl, dN⟩ RepL.nil) (by simp)) rfl rfl rfl rfl rfl rfl rfl rfl rfl fun fy dP dQ bD hp => tv (fa oL rfl) rfl <| ts 2 m47 rfl rfl bD.o1 rfl <| nl <| tg dB <| nG <| tv (bad rfl rfl) rfl <| tm rfl <| nl <| gk hp [1, 2, 0] ⟨_, _, dP, dQ, _, rfl, bD, nD _ _ rfl, rfl⟩
   refine W.new0 <| lp dJ [2, 3, 4, 1, 0] rfl (fun s e L => ∃ ar U aN aO bF, s = (ar, U) ∧ SlO 3 (nt .i64) ar aN aO ∧ e = ovr bF [(0, .pointer (some ⟨d, g, none⟩)), (1, .int .i64 a31), (2, o), (6, .pointer (some ⟨b, 0, none⟩)), (7, .pointer (some ⟨c, 0, none⟩)), (9, .int .i64 aL), (10, .pointer (some ⟨T, 0, none⟩)), (28, ah), (29, .int .i64 (len X)), (30, .int .i64 D), (46, o), (47, .int .i64 (len a32)), (48, .int .i64 U)] ∧ L = [bx b 50 [.slice none 0 0, .slice none 0 0, .int .i64 0, .int .i64 0, .slice none 0 0], bx c 50 [I, .slice none 0 0, .int .i64 0, .int .i64 0, .slice none 0 0], J, bx T 70 [.int .i64 m, aN], aO]) ⟨_, _, (.slice none 0 0), ([] : FP), _, rfl, (SlO.nil 3), nD _ _ rfl, rfl⟩ ?_
   rintro _ _ _ ⟨ar, U, aN, aO, bF, rfl, aP, rfl, rfl⟩ bG hp dR
   replace hp : nX.bd144 a2 a32 aL ar U = some bG := hp
   refine sr <| tv (blt rfl rfl) rfl <| nz <| nv fun fz dS => cD rfl hp (fun dT hp => ?_) fun dT hp => ?_
   · refine sk dS rfl <| nv fun dU dV => ?_
     have bH {bI aQ aR dW} (dX : SlO 3 (nt .i64) bI aQ aR) (hp : nX.jn155 U bI = some bG) : ∀ w, St E H [bx b 50 [.slice none 0 0, .slice none 0 0, .int .i64 0, .int .i64 0, .slice none 0 0], bx c 50 [I, .slice none 0 0, .int .i64 0, .int .i64 0, .slice none 0 0], J, bx T 70 [.int .i64 m, aQ], aR] w → dU (ovr dW [(0, .pointer (some ⟨d, g, none⟩)), (1, .int .i64 a31), (2, o), (6, .pointer (some ⟨b, 0, none⟩)), (7, .pointer (some ⟨c, 0, none⟩)), (9, .int .i64 aL), (10, .pointer (some ⟨T, 0, none⟩)), (28, ah), (29, .int .i64 (len X)), (30, .int .i64 D), (46, o), (47, .int .i64 (len a32)), (48, .int .i64 U)]) w := by
      exact tg dV <| nG <| tv (bad rfl rfl) rfl <| tm rfl <| nl <| gk hp [0, 1, 2, 3, 4] ⟨_, _, aQ, aR, _, rfl, dX, nD _ _ rfl, rfl⟩
     refine nC <| sr <| ti u25 i3 a8 hp rfl rfl rfl rfl ?_
     rintro fA fB fC _ hp rfl dY
     refine tv (lr s3 sH dY 0 rfl rfl) rfl <| ta rfl <| nz <| ch mix [bx b 50 [.slice none 0 0, .slice none 0 0, .int .i64 0, .int .i64 0, .slice none 0 0], bx c 50 [I, .slice none 0 0, .int .i64 0, .int .i64 0, .slice none 0 0], J] (nq 0 rfl (nq 1 rfl (nq 2 rfl ns))) <| hv 0 rfl (fa p5 rfl) (by kernel_rfl) rfl <| hv 2 rfl mv (by kernel_rfl) rfl <| hv 3 rfl (nE rfl) (by kernel_rfl) rfl <| hv 4 rfl (fa qX rfl) (by kernel_rfl) rfl <| hv 5 rfl (lr s73 srcInH y 14 rfl rfl) (by kernel_rfl) rfl <| hv 6 rfl mv (by kernel_rfl) rfl <| hi 7 rfl u73 i25 bN hp rfl rfl rfl (by kernel_rfl) rfl ?_
     rintro fD fE fF _ hp ⟨fG, rfl, dZ⟩ d0
     refine hv 8 rfl (lr s25 srcInH d0 0 rfl rfl) (by kernel_rfl) rfl <| hv 9 rfl mv (by kernel_rfl) rfl <| hi 10 rfl u25 i3 dZ hp rfl rfl rfl (by kernel_rfl) rfl ?_
     rintro V fH fI _ hp rfl d1
     refine hv 11 rfl (lr s3 srcInH d1 0 rfl rfl) (by kernel_rfl) rfl <| nU [1, 12] (by kernel_rfl) (by simp) (nF ⟨_, rfl, fun fJ d2 => ?_⟩ (nF ⟨_, rfl, fun fK d3 => ?_⟩ nV))
     · exact tv (lb s25 3 rfl rfl rfl) rfl <| hk d2 (nq 0 rfl (nq 1 rfl (nq 2 rfl ns))) <| ho 12 rfl (by kernel_rfl) fun fL d4 => tbs [(0, .int .i64 V)] [.int .i64 V] u25 i3 (by kernel_rfl) rfl rfl rfl rfl fun d5 => hk d4 (nq 1 rfl (nq 2 rfl (nq 3 rfl ns))) <| ho 13 rfl (by kernel_rfl) fun fM d6 => tp [5, 0, 1, 2, 3, 4] [_,_,_,_,_,_] rfl rfl <| tf 2 0 [_,_,_,_,_,_,_] rfl <| tp2 u25 i3 aP hp (RepL.to (RepL.cons (k := (nt .i64)) (x := V) ⟨rfl, rfl⟩ RepL.nil) rfl) rfl rfl rfl rfl rfl rfl rfl rfl rfl fun d7 d8 d9 ag hp => hk d6 (nq 1 rfl (nq 2 rfl (nq 3 rfl ns))) <| hv 14 rfl (fa p5 rfl) (by kernel_rfl) rfl <| ho 15 rfl (by kernel_rfl) fun fN ea => ts 4 m25 rfl rfl ag.o1 rfl <| hk ea (nq 1 rfl (nq 2 rfl (nq 3 rfl ns))) <| hz (by kernel_rfl) <| jn [1, 2, 3, 4, 0] (bH ag hp)
     · exact tbs [(0, .int .i64 V)] [.int .i64 V] u25 i3 (by kernel_rfl) rfl rfl rfl rfl fun d5 => hk d3 (nq 1 rfl (nq 2 rfl (nq 3 rfl ns))) <| ho 1 rfl (by kernel_rfl) fun fO eb => tv (lb s25 4 rfl rfl rfl) rfl <| hk eb (nq 1 rfl (nq 2 rfl (nq 3 rfl ns))) <| ho 13 rfl (by kernel_rfl) fun fP ec => tp [5, 0, 1, 2, 3, 4] [_,_,_,_,_,_] rfl rfl <| tf 2 0 [_,_,_,_,_,_,_] rfl <| tp2 u25 i3 aP hp (RepL.to (RepL.cons (k := (nt .i64)) (x := V) ⟨rfl, rfl⟩ RepL.nil) rfl) rfl rfl rfl rfl rfl rfl rfl rfl rfl fun d7 d8 d9 ag hp => hk ec (nq 1 rfl (nq 2 rfl (nq 3 rfl ns))) <| hv 14 rfl (fa p5 rfl) (by kernel_rfl) rfl <| ho 15 rfl (by kernel_rfl) fun fQ ed => ts 4 m25 rfl rfl ag.o1 rfl <| hk ed (nq 1 rfl (nq 2 rfl (nq 3 rfl ns))) <| hz (by kernel_rfl) <| jn [1, 2, 3, 4, 0] (bH ag hp)
   · exact nN <| jn [0, 1, 2, 3, 4] (dL aP (nJ hp dR))
 · exact nN <| jn [0, 1, 2] (bU bB (nJ hp dy))
end Go.Proofs.Ytpmcbahahjelnaa
namespace Go.Proofs.Ytpmcbahahjelnaa
open Go Go.Proofs
/-! ### fettle/ssa.Build -/
abbrev pG.R (r : nA × GErr) (v : Value) (A : List FP) : Prop := ∃ (w1 : Value) (a : FP) (w2 : Value) (b : FP) (w3 : Value) (c : FP), .tuple #[.agg #[.int .i64 r.1.params, .int .i64 r.1.result, w1, w2], w3] = v ∧ A = [a, b, c] ∧ SlO 3 (nt .i64) r.1.regs w1 a ∧ SlO 50 nW r.1.blocks w2 b ∧ ErO 63 106 108 r.2 w3 c
def pG.nx57 (a : nA × List Int) (b : List Int × List (List Int) × List Int × List (List Int)) (c : List ny) (d : Int) : Option (nA × GErr) :=
  if d > 256 ∨ (len b.1) > 256 then
    some ((⟨0, 0, ([] : List Int), ([] : List ny)⟩ : nA), (GErr.code 5))
  else
    some ((⟨a.1.params, a.1.result, b.1, c⟩ : nA), GErr.no)
def pG.bd57 (a : nA × List Int) (j : List (List Bool) × List (List Bool) × GErr) (k : List (List Int)) (l : List Int) (e : List (List Int) × List Int) (b : List Int × List (List Int) × List Int × List (List Int)) (f : List (List Int) × List (List Int)) (g : List (List Int)) (h : List ny) (i : Int) (c : Int) : Option (Ex (List ny × Int) (List ny × Int × Int)) :=
  if c < (len g) then
    (idx g c).bind fun m =>
    (nX (⟨(⟨a.1.params, a.1.result, a.1.regs, a.1.blocks⟩ : nA), j.1, k, l, e.1, e.2, b.1, b.2.1, b.2.2.1, b.2.2.2, f.1, f.2⟩ : nS) c m).bind fun d =>
    (cat h [d]).bind fun n =>
    some (.go (n, (w64 (i + (w64 ((w64 ((len d.phis) + (len d.ins))) + 1)))), (w64 (c + 1))))
  else
    some (.ret (h, i))
def pG (a1 : nT) (a4 : Int) : Option (nA × GErr) :=
  (pY a1).bind fun g =>
  if ¬ g = GErr.no then
    some ((⟨0, 0, ([] : List Int), ([] : List ny)⟩ : nA), g)
  else
    if a4 < 0 ∨ a4 ≥ (len a1.funcs) then
      some ((⟨0, 0, ([] : List Int), ([] : List ny)⟩ : nA), (GErr.code 1))
    else
      (idx a1.funcs a4).bind fun i =>
      (nZ i).bind fun a =>
      (rK a1.funcs).bind fun h =>
      (idx h a4).bind fun l =>
      (nM (⟨(h.set (a4).toNat a.1)⟩ : nT) a4).bind fun b =>
      if ¬ b.2.2 = GErr.no then
        some ((⟨0, 0, ([] : List Int), ([] : List ny)⟩ : nA), b.2.2)
      else
        (ol a.1).bind fun e =>
        (nY a.1).bind fun f =>
        (oI (⟨(⟨a.1.params, a.1.result, a.1.regs, a.1.blocks⟩ : nA), b.1, e, f, ([] : List (List Int)), ([] : List Int), [], [], [], [], [], []⟩ : nS)).bind fun d =>
        (n8 (⟨(⟨a.1.params, a.1.result, a.1.regs, a.1.blocks⟩ : nA), b.1, e, f, d.1, d.2, ([] : List Int), ([] : List (List Int)), ([] : List Int), ([] : List (List Int)), [], []⟩ : nS)).bind fun c =>
        (oj (⟨(⟨a.1.params, a.1.result, a.1.regs, a.1.blocks⟩ : nA), b.1, e, f, d.1, d.2, c.1, c.2.1, c.2.2.1, c.2.2.2, ([] : List (List Int)), ([] : List (List Int))⟩ : nS)).bind fun j =>
        (oH a.1).bind fun k =>
        (whl (fun (s : (List ny × Int × Int)) => pG.bd57 a b e f d c j k s.1 s.2.1 s.2.2) nB (([] : List ny), 0, 0)).bind fun z =>
        pG.nx57 a c z.1 z.2
set_option maxHeartbeats 4000000 in
theorem w9 {E : World} {H : FP} {w : World} {a1 : nT} {a4 : Int} {v2 : Value} {r : nA × GErr} (Q : SlI oB H a1.funcs v2) (hp : pG a1 a4 = some r) (hst : St E H [] w) :
    Fn Try.prog 25 #[.agg #[v2], .int .i64 a4] w fun v w' => ∃ A, pG.R r v A ∧ St E H A w' := by
 refine Fn.bodyV (fn := Try.f25) (args := [.agg #[v2], .int .i64 a4]) E H [] 128 Try.func25 rfl rfl (leb rfl) hst <| sr <| tb [v2] rfl rfl fun S => tl i41 rfl fun j => ta rfl <| nz <| nv fun b4 a3 => sr <| tv (lA (ds := [v2]) pc 1 rfl rfl rfl rfl) rfl <| bE hp fun b5 hy3 hp => tc 0 [_,_] rfl c38 (fun _ => wM (a1 := a1) (Q.mono nw) hy3) rfl ?_
 rintro _ _ ⟨a5, T, rfl, rfl, aq⟩
 refine ta rfl <| nz <| sr <| tm rfl <| tv (pI pp aq rfl) rfl <| nz <| cD rfl hp (fun a6 hp => ?_) fun a6 hp => ?_
 · refine sr <| tv (oh (vs := []) (ds := [.int .i64 0, .int .i64 0, .slice none 0 0, .slice none 0 0]) rfl (fun w => by kernel_rfl)) rfl <| tm rfl <| tS 1 m41 rfl rfl [.int .i64 0, .int .i64 0, .slice none 0 0, .slice none 0 0] rfl (oc rfl (oc rfl (oc rfl (oc rfl oc0)))) rfl rfl <| ta rfl <| nz <| nH <| W.new0 <| W.new0 ?_
   obtain rfl := Option.some.inj hp
   exact fun w hw => retC2 hw rfl rfl rfl n9 3 rfl rfl ⟨(.slice none 0 0), ([] : FP), (.slice none 0 0), ([] : FP), a5, T, rfl, rfl, (SlO.nil 3), (SlO.nil 50), aq⟩ (hw.pickA [1, 0, 2] rfl)
 · refine sk a3 rfl <| nv fun b6 a7 => sr <| tm rfl <| tv (blt rfl rfl) rfl <| tm rfl <| TL.cut 6 fun a8 a9 => ?_
   have ar {ba} : ∀ w, St E H [T, bx j 41 [.int .i64 0, .int .i64 0, .slice none 0 0, .slice none 0 0], bx S 35 [v2]] w → a8 (ovr ba [(33, .bool (decide (a4 < 0 ∨ a4 ≥ (len a1.funcs)))), (1, .int .i64 a4), (2, .pointer (some ⟨S, 0, none⟩)), (4, .pointer (some ⟨j, 0, none⟩))]) w := by
    refine tlg a9 <| nz <| cD rfl hp (fun bb hp => ?_) fun bb hp => ?_
    · refine sr <| tv (oh (vs := []) (ds := [.int .i64 0, .int .i64 0, .slice none 0 0, .slice none 0 0]) rfl (fun w => by kernel_rfl)) rfl <| tv (mI u63 rfl) rfl <| tS 1 m41 rfl rfl [.int .i64 0, .int .i64 0, .slice none 0 0, .slice none 0 0] rfl (oc rfl (oc rfl (oc rfl (oc rfl oc0)))) rfl rfl <| ta rfl <| nz <| nH <| W.new0 <| W.new0 <| W.new0 ?_
      obtain rfl := Option.some.inj hp
      exact fun w hw => retC2 hw rfl rfl rfl n9 4 rfl rfl ⟨(.slice none 0 0), ([] : FP), (.slice none 0 0), ([] : FP), (.iface 63 (.int .i64 1)), ([] : FP), rfl, rfl, (SlO.nil 3), (SlO.nil 50), (ErO.mk _ : ErO 63 106 108 (GErr.code 1) (.iface 63 (.int .i64 1)) [])⟩ (hw.pickA [2, 1, 0] rfl)
    · refine sk a7 rfl <| sr <| tv (fa oS rfl) rfl <| tv (lb s33 2 rfl rfl rfl) rfl <| tm rfl <| ti u33 i41 Q hp rfl rfl rfl rfl ?_
      rintro af b7 b8 _ hp ⟨bc, be, rfl, bf, bg⟩ bh
      refine tv (lR (ds := [.int .i64 af.params, .int .i64 af.result, bc, be]) n9 sH bh 0 rfl rfl rfl) rfl <| bE hp fun b hy15 hp => tc 0 [_,_,_] rfl c36 (fun _ => wO (a1 := af) (bf.mono nw) (bg.mono nw) hy15) rfl ?_
      rintro _ _ ⟨c, U, d, V, b9, au, rfl, rfl, l, m, ca⟩
      refine tm rfl <| tv (xt rfl rfl) rfl <| tv (xt rfl rfl) rfl <| tl i41 rfl fun av => tS 0 m41 rfl rfl [.int .i64 b.1.params, .int .i64 b.1.result, c, d] rfl (oc rfl (oc rfl (oc (l).one (oc (m).one oc0)))) rfl rfl <| ta rfl <| nz <| sr <| tv (fa oS rfl) rfl <| tv (lb s33 6 rfl rfl rfl) rfl <| bE hp fun bi hy17 hp => tc 0 [_,_,_,_,_,_,_] rfl c39 (fun _ => wQ (G := H) nw Q hy17) rfl ?_
      rintro _ _ ⟨q, cb, rfl, rfl, X⟩
      refine tv (oh (vs := [(0, q)]) (ds := [q]) rfl (fun w => by obtain ⟨_, _, rfl⟩ := (X).len; kernel_rfl)) rfl <| tl i35 rfl fun aw => tS 0 m35 rfl rfl [q] rfl (oc (X).one oc0) rfl rfl <| nz <| sr <| tv (fa oS rfl) rfl <| tv (lb s33 0 rfl rfl rfl) rfl <| tm rfl <| tv (lA (ds := [.int .i64 b.1.params, .int .i64 b.1.result, c, d]) n9 2 rfl rfl rfl rfl) rfl <| tO u33 i41 X hp rfl rfl rfl rfl fun cc cd ce bj hp => tp [1, 0, 2, 3, 4, 5, 6, 7, 8] [_,_,_,_,_,_,_,_,_] rfl rfl <| TL.stE0 (ds := [.int .i64 b.1.params, .int .i64 b.1.result, c, d]) (u := .agg #[.int .i64 b.1.params, .int .i64 b.1.result, c, d]) (a := b.1) (SlO.refM (G' := (U ++ (V ++ H))) X (inR (inR inI))) bj m41 rfl rfl rfl ⟨⟨⟨_, _, rfl, (l.ro.mono ((inL inI))), (m.ro.mono ((inR (inL inI))))⟩, (oc rfl (oc rfl (oc (l).one (oc (m).one oc0))))⟩, rfl⟩ fun ax bk => nz <| sr <| tv (lA (ds := [q]) pc 1 rfl rfl rfl rfl) rfl <| tm rfl <| bE hp fun z hy19 hp => tc 0 [_,_,_,_,_,_,_,_,_] rfl c40 (fun _ => wT (a1 := (⟨(bi.set (a4).toNat b.1)⟩ : nT)) (a4 := a4) ((SlO.refI bk).mono (subO (subB 0 rfl) (subO (subB 3 rfl) (subO (subB 4 rfl) nw)))) hy19) rfl ?_
      rintro _ _ ⟨B, ag, cf, ay, bl, ah, rfl, rfl, C, cg, az⟩
      refine tm rfl <| tv (xt rfl rfl) rfl <| tv (xt rfl rfl) rfl <| tv (xt rfl rfl) rfl <| ta rfl <| ta rfl <| ta rfl <| nz <| nv fun ci bm => sr <| tm rfl <| tv (pI pp az rfl) rfl <| nz <| cD rfl hp (fun bn hp => ?_) fun bn hp => ?_
      · refine sr <| tv (oh (vs := []) (ds := [.int .i64 0, .int .i64 0, .slice none 0 0, .slice none 0 0]) rfl (fun w => by kernel_rfl)) rfl <| tm rfl <| tS 10 m41 rfl rfl [.int .i64 0, .int .i64 0, .slice none 0 0, .slice none 0 0] rfl (oc rfl (oc rfl (oc rfl (oc rfl oc0)))) rfl rfl <| ta rfl <| nz <| nH <| W.new0 <| W.new0 ?_
        obtain rfl := Option.some.inj hp
        exact fun w hw => retC2 hw rfl rfl rfl n9 12 rfl rfl ⟨(.slice none 0 0), ([] : FP), (.slice none 0 0), ([] : FP), bl, ah, rfl, rfl, (SlO.nil 3), (SlO.nil 50), az⟩ (hw.pickA [1, 0, 4] rfl)
      · refine sk bm rfl <| nv fun cj bo => ch mix [ag, ay, ah, ax, bx aw 35 [q], bx av 41 [.int .i64 b.1.params, .int .i64 b.1.result, c, d], U, V, au, T, bx j 41 [.int .i64 0, .int .i64 0, .slice none 0 0, .slice none 0 0], bx S 35 [v2]] (nq 0 rfl (nq 1 rfl (nq 2 rfl (nq 3 rfl (nq 4 rfl (nq 5 rfl (nq 6 rfl (nq 7 rfl (nq 8 rfl (nq 9 rfl (nq 10 rfl (nq 11 rfl ns)))))))))))) <| hv 0 rfl (lAG (ds := [.int .i64 b.1.params, .int .i64 b.1.result, c, d]) n9 5 rfl rfl rfl rfl) (by kernel_rfl) rfl <| hv 1 rfl mv (by kernel_rfl) rfl <| hv 2 rfl (lAG (ds := [.int .i64 b.1.params, .int .i64 b.1.result, c, d]) n9 5 rfl rfl rfl rfl) (by kernel_rfl) rfl <| hv 4 rfl (lAG (ds := [.int .i64 b.1.params, .int .i64 b.1.result, c, d]) n9 5 rfl rfl rfl rfl) (by kernel_rfl) rfl <| ho 3 rfl (by kernel_rfl) fun ck bp => bE hp fun D hy28 hp => tc 0 [_,_,_,_,_,_,_,_,_,_,_,_] rfl c41 (fun _ => wU (a1 := b.1) (l.ro.mono (subB 6 rfl)) (m.ro.mono (subB 7 rfl)) hy28) rfl ?_
        rintro _ _ ⟨F, aA, rfl, rfl, I⟩
        refine hk bp (nq 1 rfl (nq 2 rfl (nq 3 rfl (nq 4 rfl (nq 5 rfl (nq 6 rfl (nq 7 rfl (nq 8 rfl (nq 9 rfl (nq 10 rfl (nq 11 rfl (nq 12 rfl ns)))))))))))) <| ho 5 rfl (by kernel_rfl) fun cl bq => bE hp fun J hy32 hp => tc 0 [_,_,_,_,_,_,_,_,_,_,_,_,_] rfl c42 (fun _ => tV (a1 := b.1) (l.ro.mono (subB 7 rfl)) (m.ro.mono (subB 8 rfl)) hy32) rfl ?_
        rintro _ _ ⟨K, aB, rfl, rfl, M⟩
        refine hk bq (nq 2 rfl (nq 3 rfl (nq 4 rfl (nq 5 rfl (nq 6 rfl (nq 7 rfl (nq 8 rfl (nq 9 rfl (nq 10 rfl (nq 11 rfl (nq 12 rfl (nq 13 rfl ns)))))))))))) <| hv 6 rfl (oh (vs := [(0, .agg #[.int .i64 b.1.params, .int .i64 b.1.result, c, d]), (1, B), (2, F), (3, K)]) (ds := [.int .i64 b.1.params, .int .i64 b.1.result, c, d, B, F, K, .slice none 0 0, .slice none 0 0, .slice none 0 0, .slice none 0 0, .slice none 0 0, .slice none 0 0, .slice none 0 0, .slice none 0 0]) rfl (fun w => by obtain ⟨_, _, rfl⟩ := (C).len; obtain ⟨_, _, rfl⟩ := (I).len; obtain ⟨_, _, rfl⟩ := (M).len; kernel_rfl)) (by kernel_rfl) rfl <| ho 7 rfl (by kernel_rfl) fun cm br => tb [.int .i64 b.1.params, .int .i64 b.1.result, c, d, B, F, K, .slice none 0 0, .slice none 0 0, .slice none 0 0, .slice none 0 0, .slice none 0 0, .slice none 0 0, .slice none 0 0, .slice none 0 0] rfl rfl fun Y => hk br (nq 3 rfl (nq 4 rfl (nq 5 rfl (nq 6 rfl (nq 7 rfl (nq 8 rfl (nq 9 rfl (nq 10 rfl (nq 11 rfl (nq 12 rfl (nq 13 rfl (nq 14 rfl ns)))))))))))) <| hv 8 rfl sg (by kernel_rfl) rfl <| hz (by kernel_rfl) <| tg bo <| sr <| tm rfl <| TL.new0 <| TL.new0 <| tp [2, 1, 0, 3, 4, 5, 6, 7, 8, 9, 10, 11, 12, 13, 14, 15, 16] [_,_,_,_,_,_,_,_,_,_,_,_,_,_,_,_,_] rfl rfl <| bE hp fun o hy36 hp => tc 3 [_,_,_,_,_,_,_,_,_,_,_,_,_,_] rfl c43 (fun _ => wZ (a2 := (⟨(⟨b.1.params, b.1.result, b.1.regs, b.1.blocks⟩ : nA), z.1, D, J, ([] : List (List Int)), ([] : List Int), [], [], [], [], [], []⟩ : nS)) (l.ro.mono (subB 8 rfl)) (m.ro.mono (subB 9 rfl)) (C.ro.mono (subB 2 rfl)) (I.ro.mono (subB 1 rfl)) (M.ro.mono (subB 0 rfl)) (SlO.nil 25) (SlO.nil 3) ((SlI.nil (G := H) none 0).mono nw) ((SlI.nil (G := H) none 0).mono nw) ((SlI.nil (G := H) none 0).mono nw) ((SlI.nil (G := H) none 0).mono nw) ((SlI.nil (G := H) none 0).mono nw) ((SlI.nil (G := H) none 0).mono nw) hy36) rfl ?_
        rintro _ _ ⟨aC, aD, aE, aF, rfl, rfl, ai, aj⟩
        refine nz <| sr <| tm rfl <| TL.new0 <| TL.new0 <| TL.new0 <| TL.new0 <| tp [4, 3, 2, 1, 0, 5, 6, 7, 8, 9, 10, 11, 12, 13, 14, 15, 16, 17, 18, 19, 20] [_,_,_,_,_,_,_,_,_,_,_,_,_,_,_,_,_,_,_,_,_] rfl rfl <| bE hp fun h hy38 hp => tc 5 [_,_,_,_,_,_,_,_,_,_,_,_,_,_,_,_] rfl c44 (fun _ => w5 (a2 := (⟨(⟨b.1.params, b.1.result, b.1.regs, b.1.blocks⟩ : nA), z.1, D, J, o.1, o.2, ([] : List Int), ([] : List (List Int)), ([] : List Int), ([] : List (List Int)), [], []⟩ : nS)) (l.ro.mono (subB 10 rfl)) (m.ro.mono (subB 11 rfl)) (C.ro.mono (subB 4 rfl)) (I.ro.mono (subB 3 rfl)) (M.ro.mono (subB 2 rfl)) (ai.ro.mono (subB 0 rfl)) (aj.ro.mono (subB 1 rfl)) (SlO.nil 3) (SlO.nil 25) (SlO.nil 3) (SlO.nil 25) ((SlI.nil (G := H) none 0).mono nw) ((SlI.nil (G := H) none 0).mono nw) hy38) rfl ?_
        rintro _ _ ⟨i, N, aG, aH, aI, aJ, aK, aL, rfl, rfl, p, aM, aN, aO⟩
        refine nz <| sr <| tm rfl <| TL.new0 <| TL.new0 <| tp [2, 1, 0, 3, 4, 5, 6, 7, 8, 9, 10, 11, 12, 13, 14, 15, 16, 17, 18, 19, 20, 21, 22] [_,_,_,_,_,_,_,_,_,_,_,_,_,_,_,_,_,_,_,_,_,_,_] rfl rfl <| bE hp fun ak hy40 hp => tc 3 [_,_,_,_,_,_,_,_,_,_,_,_,_,_,_,_,_,_,_,_] rfl c45 (fun _ => w7 (a2 := (⟨(⟨b.1.params, b.1.result, b.1.regs, b.1.blocks⟩ : nA), z.1, D, J, o.1, o.2, h.1, h.2.1, h.2.2.1, h.2.2.2, ([] : List (List Int)), ([] : List (List Int))⟩ : nS)) (l.ro.mono (subB 14 rfl)) (m.ro.mono (subB 15 rfl)) (C.ro.mono (subB 8 rfl)) (I.ro.mono (subB 7 rfl)) (M.ro.mono (subB 6 rfl)) (ai.ro.mono (subB 4 rfl)) (aj.ro.mono (subB 5 rfl)) (p.ro.mono (subB 0 rfl)) (aM.ro.mono (subB 1 rfl)) (aN.ro.mono (subB 2 rfl)) (aO.ro.mono (subB 3 rfl)) (SlO.nil 25) (SlO.nil 25) hy40) rfl ?_
        rintro _ _ ⟨aP, aQ, aR, aS, rfl, rfl, bs, bt⟩
        refine nz <| nv fun cn bu => ch mix [bx Y 100 [.int .i64 b.1.params, .int .i64 b.1.result, c, d, B, F, K, aC, aE, i, aG, aI, aK, aP, aR], aQ, aS, N, aH, aJ, aL, aD, aF, aB, aA, ag, ay, ah, ax, bx aw 35 [q], bx av 41 [.int .i64 b.1.params, .int .i64 b.1.result, c, d], U, V, au, T, bx j 41 [.int .i64 0, .int .i64 0, .slice none 0 0, .slice none 0 0], bx S 35 [v2]] (nq 0 rfl (nq 1 rfl (nq 2 rfl (nq 3 rfl (nq 4 rfl (nq 5 rfl (nq 6 rfl (nq 7 rfl (nq 8 rfl (nq 9 rfl (nq 10 rfl (nq 11 rfl (nq 12 rfl (nq 13 rfl (nq 14 rfl (nq 15 rfl (nq 16 rfl (nq 17 rfl (nq 18 rfl (nq 19 rfl (nq 20 rfl (nq 21 rfl (nq 22 rfl ns))))))))))))))))))))))) <| hv 0 rfl (fa py rfl) (by kernel_rfl) rfl <| hv 1 rfl (lbG s3 16 rfl rfl rfl) (by kernel_rfl) rfl <| hv 2 rfl (fa qb rfl) (by kernel_rfl) rfl <| hv 3 rfl (lbG s3 16 rfl rfl rfl) (by kernel_rfl) rfl <| hv 4 rfl mv (by kernel_rfl) rfl <| hv 5 rfl (nE rfl) (by kernel_rfl) rfl <| hv 6 rfl (fa qE rfl) (by kernel_rfl) rfl <| hv 7 rfl (lbG s25 0 rfl rfl rfl) (by kernel_rfl) rfl <| hv 8 rfl (oh (vs := [(0, .int .i64 b.1.params), (1, .int .i64 b.1.result), (2, i)]) (ds := [.int .i64 b.1.params, .int .i64 b.1.result, i, .slice none 0 0]) rfl (fun w => by obtain ⟨_, _, rfl⟩ := (p).len; kernel_rfl)) (by kernel_rfl) rfl <| ho 9 rfl (by kernel_rfl) fun co bv => tl i41 rfl fun t => hk bv (nq 1 rfl (nq 2 rfl (nq 3 rfl (nq 4 rfl (nq 5 rfl (nq 6 rfl (nq 7 rfl (nq 8 rfl (nq 9 rfl (nq 10 rfl (nq 11 rfl (nq 12 rfl (nq 13 rfl (nq 14 rfl (nq 15 rfl (nq 16 rfl (nq 17 rfl (nq 18 rfl (nq 19 rfl (nq 20 rfl (nq 21 rfl (nq 22 rfl (nq 23 rfl ns))))))))))))))))))))))) <| ho 10 rfl (by kernel_rfl) fun cp bw => tS 0 m41 rfl rfl [.int .i64 b.1.params, .int .i64 b.1.result, i, .slice none 0 0] rfl (oc rfl (oc rfl (oc (p).one (oc rfl oc0)))) rfl rfl <| hk bw (nq 1 rfl (nq 2 rfl (nq 3 rfl (nq 4 rfl (nq 5 rfl (nq 6 rfl (nq 7 rfl (nq 8 rfl (nq 9 rfl (nq 10 rfl (nq 11 rfl (nq 12 rfl (nq 13 rfl (nq 14 rfl (nq 15 rfl (nq 16 rfl (nq 17 rfl (nq 18 rfl (nq 19 rfl (nq 20 rfl (nq 21 rfl (nq 22 rfl (nq 23 rfl ns))))))))))))))))))))))) <| hz (by kernel_rfl) <| tg bu <| sr <| ta rfl <| nz <| nv fun bz bA => sr <| tv (lA (ds := [.int .i64 b.1.params, .int .i64 b.1.result, c, d]) n9 17 rfl rfl rfl rfl) rfl <| bE hp fun aT hy50 hp => tc 0 [_,_,_,_,_,_,_,_,_,_,_,_,_,_,_,_,_,_,_,_,_,_,_,_] rfl c27 (fun _ => rB (a1 := b.1) (l.ro.mono (subB 18 rfl)) (m.ro.mono (subB 19 rfl)) hy50) rfl ?_
        rintro _ _ ⟨bB, bC, rfl, rfl, aU⟩
        refine tv (ln u73 aU.ro rfl) rfl <| tm rfl <| nz <| nC <| bE hp fun bD bG bH => ?_
        have bI {al O y Z bJ} (aV : SlO 50 nW al y Z) (bK : (al, O) = bD) : ∀ w, St E H [bx j 41 [.int .i64 0, .int .i64 0, .slice none 0 0, .slice none 0 0], bx t 41 [.int .i64 b.1.params, .int .i64 b.1.result, i, y], N, Z] w → bz (ovr bJ [(4, .pointer (some ⟨j, 0, none⟩)), (14, .pointer (some ⟨t, 0, none⟩)), (15, .int .i64 O)]) w := by
         subst bK
         replace hp : pG.nx57 b h al O = some r := bH
         refine tg bA <| nv fun cq bL => sr <| tm rfl <| tv (bgt rfl rfl) rfl <| tm rfl <| TL.cut 5 fun bM bN => ?_
         have aW {bO} : ∀ w, St E H [bx j 41 [.int .i64 0, .int .i64 0, .slice none 0 0, .slice none 0 0], bx t 41 [.int .i64 b.1.params, .int .i64 b.1.result, i, y], N, Z] w → bM (ovr bO [(124, .bool (decide (O > 256 ∨ (len h.1) > 256))), (4, .pointer (some ⟨j, 0, none⟩)), (14, .pointer (some ⟨t, 0, none⟩))]) w := by
          refine tlg bN <| nz <| cD rfl hp (fun bP hp => ?_) fun bP hp => ?_
          · refine sr <| tv (oh (vs := []) (ds := [.int .i64 0, .int .i64 0, .slice none 0 0, .slice none 0 0]) rfl (fun w => by kernel_rfl)) rfl <| tv (mI u63 rfl) rfl <| tS 0 m41 rfl rfl [.int .i64 0, .int .i64 0, .slice none 0 0, .slice none 0 0] rfl (oc rfl (oc rfl (oc rfl (oc rfl oc0)))) rfl rfl <| ta rfl <| nz <| nH <| W.new0 <| W.new0 <| W.new0 ?_
            obtain rfl := Option.some.inj hp
            exact fun w hw => retC2 hw rfl rfl rfl n9 3 rfl rfl ⟨(.slice none 0 0), ([] : FP), (.slice none 0 0), ([] : FP), (.iface 63 (.int .i64 5)), ([] : FP), rfl, rfl, (SlO.nil 3), (SlO.nil 50), (ErO.mk _ : ErO 63 106 108 (GErr.code 5) (.iface 63 (.int .i64 5)) [])⟩ (hw.pickA [2, 1, 0] rfl)
          · refine sk bL rfl <| sr <| tv (lA (ds := [.int .i64 b.1.params, .int .i64 b.1.result, i, y]) n9 1 rfl rfl rfl rfl) rfl <| tS 0 m41 rfl rfl [.int .i64 b.1.params, .int .i64 b.1.result, i, y] rfl (oc rfl (oc rfl (oc (p).one (oc (aV).one oc0)))) rfl rfl <| ta rfl <| nz <| nH <| W.new0 ?_
            obtain rfl := Option.some.inj hp
            exact fun w hw => retC2 hw rfl rfl rfl n9 1 rfl rfl ⟨i, N, y, Z, .nilIface, ([] : FP), rfl, rfl, p, aV, (ErO.nil : ErO 63 106 108 GErr.no .nilIface [])⟩ (hw.pickA [3, 4, 0] rfl)
         by_cases g : O > 256
         · exact gn rfl (bT g) rfl rfl <| gn rfl (bT g) rfl rfl <| gn rfl (bT g) rfl rfl <| gn rfl (bT g) rfl rfl <| tv (pT (bT g)) rfl <| nj aW (bOt g)
         · exact gy rfl (bF g) <| tv (fa oV rfl) rfl <| gy rfl (bF g) <| tv (lb s25 1 rfl rfl rfl) rfl <| gy rfl (bF g) <| tv (ln u25 p.ro rfl) rfl <| gy rfl (bF g) <| tv (bgt rfl rfl) rfl <| tv (pF (bF g)) rfl <| nj aW (bOf g)
        refine W.new0 <| lp bG [24, 3, 20, 21, 14, 13, 12, 10, 11, 6, 7, 8, 9, 4, 5, 2, 0, 1] rfl (fun s e L => ∃ aa ab P am an aX, s = (aa, ab, P) ∧ SlO 50 nW aa am an ∧ e = ovr aX [(4, .pointer (some ⟨j, 0, none⟩)), (13, .pointer (some ⟨Y, 0, none⟩)), (14, .pointer (some ⟨t, 0, none⟩)), (15, .int .i64 ab), (89, bB), (90, .int .i64 (len aT)), (91, .int .i64 P)] ∧ L = [bx j 41 [.int .i64 0, .int .i64 0, .slice none 0 0, .slice none 0 0], bx Y 100 [.int .i64 b.1.params, .int .i64 b.1.result, c, d, B, F, K, aC, aE, i, aG, aI, aK, aP, aR], U, V, ag, aA, aB, aD, aF, N, aH, aJ, aL, aQ, aS, bx t 41 [.int .i64 b.1.params, .int .i64 b.1.result, i, am], an, bC]) ⟨_, _, _, (.slice none 0 0), ([] : FP), _, rfl, (SlO.nil 50), nD _ _ rfl, rfl⟩ ?_
        rintro _ _ _ ⟨aa, ab, P, am, an, aX, rfl, aY, rfl, rfl⟩ bQ hp bR
        replace hp : pG.bd57 b z D J o h ak aT aa ab P = some bQ := hp
        refine sr <| tv (blt rfl rfl) rfl <| nz <| nv fun cr bS => cD rfl hp (fun bU hp => ?_) fun bU hp => ?_
        · refine sk bS rfl <| nv fun cs bV => nC <| sr <| tm rfl <| ti u73 i25 (aU).ro hp rfl rfl rfl rfl ?_
          rintro bW ct cu _ hp ⟨cv, rfl, bX⟩ bY
          refine tv (lr s25 (Src.at_ 17 rfl) bY 0 rfl rfl) rfl <| ta rfl <| ta rfl <| nz <| sr <| tm rfl <| tm rfl <| tm rfl <| bE hp fun n hy75 hp => tc 0 [_,_,_,_,_,_,_,_,_,_,_,_,_,_,_,_,_,_] rfl c46 (fun _ => w8 (a2 := (⟨(⟨b.1.params, b.1.result, b.1.regs, b.1.blocks⟩ : nA), z.1, D, J, o.1, o.2, h.1, h.2.1, h.2.2.1, h.2.2.2, ak.1, ak.2⟩ : nS)) (a31 := P) (a32 := bW) ((pA Y 100 _).mono (subB 1 rfl)) (l.ro.mono (subB 2 rfl)) (m.ro.mono (subB 3 rfl)) (C.ro.mono (subB 4 rfl)) (I.ro.mono (subB 5 rfl)) (M.ro.mono (subB 6 rfl)) (ai.ro.mono (subB 7 rfl)) (aj.ro.mono (subB 8 rfl)) (p.ro.mono (subB 9 rfl)) (aM.ro.mono (subB 10 rfl)) (aN.ro.mono (subB 11 rfl)) (aO.ro.mono (subB 12 rfl)) (bs.ro.mono (subB 13 rfl)) (bt.ro.mono (subB 14 rfl)) (bX.mono (subB 17 rfl)) hy75) rfl ?_
          rintro _ _ ⟨ac, bZ, ad, b0, ae, b1, rfl, rfl, ao, ap, aZ⟩
          exact tl i50 rfl fun cw => tS 0 m50 rfl rfl [ac, ad, .int .i64 n.term.kind, .int .i64 n.term.arg, ae] rfl (oc (ao).one (oc (ap).one (oc rfl (oc rfl (oc (aZ).one oc0))))) rfl rfl <| nz <| sr <| tm rfl <| tv (fa oL rfl) rfl <| tv (lb s47 0 rfl rfl rfl) rfl <| tv (ln u47 ao.ro rfl) rfl <| tv (fa ou rfl) rfl <| tv (lb s48 0 rfl rfl rfl) rfl <| tv (ln u48 ap.ro rfl) rfl <| tv (bad rfl rfl) rfl <| tv (bad rfl rfl) rfl <| tv (bad rfl rfl) rfl <| ta rfl <| nz <| nG <| tv (fa n6 rfl) rfl <| tv (lb s39 19 rfl rfl rfl) rfl <| tv (lA (ds := [ac, ad, .int .i64 n.term.kind, .int .i64 n.term.arg, ae]) o5 0 rfl rfl rfl rfl) rfl <| tbs [(0, .agg #[ac, ad, .int .i64 n.term.kind, .int .i64 n.term.arg, ae])] [ac, ad, .int .i64 n.term.kind, .int .i64 n.term.arg, ae] u39 i50 (by kernel_rfl) rfl rfl rfl rfl fun cx => tp [21, 0, 2, 3, 4, 1, 5, 6, 7, 8, 9, 10, 11, 12, 13, 14, 15, 16, 17, 18, 19, 20, 22] [_,_,_,_,_,_,_,_,_,_,_,_,_,_,_,_,_,_,_,_,_,_,_] rfl rfl <| tf 2 3 [_,_,_,_,_,_,_,_,_,_,_,_,_,_,_,_,_,_,_,_,_] rfl <| tp2 u39 i50 aY hp (RepL.to (G' := bZ ++ (b0 ++ (b1))) (RepL.cons (k := nW) (x := n) ⟨_, _, _, _, _, _, rfl, rfl, ao, ap, aZ⟩ RepL.nil) (by simp)) rfl rfl rfl rfl rfl rfl rfl rfl rfl fun cy b2 b3 a0 hp => tv (fa n6 rfl) rfl <| ts 17 m39 rfl rfl a0.o1 rfl <| nl <| tg bV <| nG <| tv (bad rfl rfl) rfl <| tm rfl <| nl <| gk hp [2, 3, 4, 5, 6, 7, 8, 9, 10, 11, 12, 13, 14, 15, 16, 17, 0, 18] ⟨_, _, _, b2, b3, _, rfl, a0, nD _ _ rfl, rfl⟩
        · exact nN <| jn [0, 15, 9, 16] (bI aY (nJ hp bR))
   by_cases f : a4 < 0
   · exact gn rfl (bT f) rfl rfl <| gn rfl (bT f) rfl rfl <| gn rfl (bT f) rfl rfl <| gn rfl (bT f) rfl rfl <| gn rfl (bT f) rfl rfl <| tv (pT (bT f)) rfl <| nj ar (bOt f)
   · exact gy rfl (bF f) <| tm rfl <| gy rfl (bF f) <| tv (fa oS rfl) rfl <| gy rfl (bF f) <| tv (lb s33 2 rfl rfl rfl) rfl <| gy rfl (bF f) <| tv (ln u33 Q rfl) rfl <| gy rfl (bF f) <| tv (bge rfl rfl) rfl <| tv (pF (bF f)) rfl <| nj ar (bOf f)
/-! ### fettle/fettleref02.CopyFunc -/
abbrev oD.R (r : nA) (v : Value) (A : List FP) : Prop := ∃ (w1 : Value) (a : FP) (w2 : Value) (b : FP), .agg #[.int .i64 r.params, .int .i64 r.result, w1, w2] = v ∧ A = [a, b] ∧ SlO 3 (nt .i64) r.regs w1 a ∧ SlO 50 nW r.blocks w2 b
def oD.nx12 (a1 : nA) (a : List Int) (b : List ny) : Option nA :=
  some (⟨a1.params, a1.result, a, b⟩ : nA)
def oD.nx42 (b : List ny) (c : Int) (a : ny) (d : List Int) (e : List PPhi) (f : List nO) : Option (Ex (List ny) (List ny × Int)) :=
  (cat b [(⟨e, f, (⟨a.term.kind, a.term.arg, d⟩ : PTerm)⟩ : ny)]).bind fun g =>
  some (.go (g, (w64 (c + 1))))
def oD.bd42 (c : ny) (d : List nO) (b : Int) : Option (Ex (List nO) (List nO × Int)) :=
  if b < (len c.ins) then
    (idx c.ins b).bind fun a =>
    (cat ([] : List Int) a.args).bind fun e =>
    (cat d [(⟨a.op, a.dst, e, a.imm, a.fn⟩ : nO)]).bind fun f =>
    some (.go (f, (w64 (b + 1))))
  else
    some (.ret d)
def oD.nx33 (b : List ny) (c : Int) (a : ny) (d : List Int) (e : List PPhi) : Option (Ex (List ny) (List ny × Int)) :=
  (whl (fun (s : (List nO × Int)) => oD.bd42 a s.1 s.2) nB (([] : List nO), 0)).bind fun z =>
  oD.nx42 b c a d e z
def oD.jn65 (a : Int) (b : List PPhi) : Option (Ex (List PPhi) (List PPhi × Int)) :=
  some (.go (b, (w64 (a + 1))))
def oD.bd33 (b : ny) (c : List PPhi) (a : Int) : Option (Ex (List PPhi) (List PPhi × Int)) :=
  if a < (len b.phis) then
    (idx b.phis a).bind fun d =>
    (idx b.phis a).bind fun e =>
    (cat ([] : List Int) e.args).bind fun f =>
    (cat c [(⟨d.dst, f⟩ : PPhi)]).bind fun g =>
    oD.jn65 a g
  else
    some (.ret c)
def oD.jn25 (b : List ny) (c : Int) (a : ny) (d : List Int) : Option (Ex (List ny) (List ny × Int)) :=
  (whl (fun (s : (List PPhi × Int)) => oD.bd33 a s.1 s.2) nB (([] : List PPhi), 0)).bind fun z =>
  oD.nx33 b c a d z
def oD.bd12 (a1 : nA) (b : List ny) (a : Int) : Option (Ex (List ny) (List ny × Int)) :=
  if a < (len a1.blocks) then
    (idx a1.blocks a).bind fun c =>
    (cat ([] : List Int) c.term.to).bind fun d =>
    oD.jn25 b a c d
  else
    some (.ret b)
def oD.jn4 (a1 : nA) (a : List Int) : Option nA :=
  (whl (fun (s : (List ny × Int)) => oD.bd12 a1 s.1 s.2) nB (([] : List ny), 0)).bind fun z =>
  oD.nx12 a1 a z
def oD (a1 : nA) : Option nA :=
  (cat ([] : List Int) a1.regs).bind fun a =>
  oD.jn4 a1 a
set_option maxHeartbeats 4000000 in
theorem sO {E : World} {H : FP} {w : World} {a1 : nA} {v2 : Value} {j : Value} {r : nA} (aj : SlI (nt .i64) H a1.regs v2) (aG : SlI nW H a1.blocks j) (hp : oD a1 = some r) (hst : St E H [] w) :
    Fn Try.prog 14 #[.agg #[.int .i64 a1.params, .int .i64 a1.result, v2, j]] w fun v w' => ∃ A, oD.R r v A ∧ St E H A w' := by
 refine Fn.bodyV (fn := Try.f14) (args := [.agg #[.int .i64 a1.params, .int .i64 a1.result, v2, j]]) E H [] 101 Try.func14 rfl rfl (leb rfl) hst <| sr <| tb [.int .i64 a1.params, .int .i64 a1.result, v2, j] rfl rfl fun f => tl i41 rfl fun c => nz <| nv fun a2 a3 => ?_
 have ak {am d l m a4} (aH : SlO 3 (nt .i64) am l m) (hp : oD.jn4 a1 am = some r) : ∀ w, St E H [bx f 41 [.int .i64 a1.params, .int .i64 a1.result, v2, j], bx c 41 [.int .i64 0, .int .i64 0, .slice none 0 0, .slice none 0 0], bx d 41 [.int .i64 a1.params, .int .i64 a1.result, l, .slice none 0 0], m] w → a2 (ovr a4 [(1, .pointer (some ⟨f, 0, none⟩)), (2, .pointer (some ⟨c, 0, none⟩)), (3, .pointer (some ⟨d, 0, none⟩))]) w := by
  refine tg a3 <| nv fun a5 a6 => sr <| ta rfl <| nz <| nC <| bE hp fun a7 a8 a9 => ?_
  have ba {an Q ao bb} (aI : SlO 50 nW an Q ao) (bc : an = a7) : ∀ w, St E H [bx c 41 [.int .i64 0, .int .i64 0, .slice none 0 0, .slice none 0 0], bx d 41 [.int .i64 a1.params, .int .i64 a1.result, l, Q], m, ao] w → a5 (ovr bb [(2, .pointer (some ⟨c, 0, none⟩)), (3, .pointer (some ⟨d, 0, none⟩))]) w := by
   subst bc
   replace hp : oD.nx12 a1 am an = some r := a9
   refine tg a6 <| sr <| tv (lA (ds := [.int .i64 a1.params, .int .i64 a1.result, l, Q]) n9 1 rfl rfl rfl rfl) rfl <| tS 0 m41 rfl rfl [.int .i64 a1.params, .int .i64 a1.result, l, Q] rfl (oc rfl (oc rfl (oc (aH).one (oc (aI).one oc0)))) rfl rfl <| nz <| nH ?_
   obtain rfl := Option.some.inj hp
   exact fun w hw => retC1 hw rfl rfl n9 0 rfl rfl ⟨l, m, Q, ao, rfl, rfl, aH, aI⟩ (hw.pickA [2, 3] rfl)
  refine W.new0 <| lp a8 [1, 2, 3, 4, 0] rfl (fun s e L => ∃ K n q t aJ, s = (K, n) ∧ SlO 50 nW K q t ∧ e = ovr aJ [(1, .pointer (some ⟨f, 0, none⟩)), (2, .pointer (some ⟨c, 0, none⟩)), (3, .pointer (some ⟨d, 0, none⟩)), (4, .int .i64 n)] ∧ L = [bx f 41 [.int .i64 a1.params, .int .i64 a1.result, v2, j], bx c 41 [.int .i64 0, .int .i64 0, .slice none 0 0, .slice none 0 0], bx d 41 [.int .i64 a1.params, .int .i64 a1.result, l, q], m, t]) ⟨_, _, (.slice none 0 0), ([] : FP), _, rfl, (SlO.nil 50), nD _ _ rfl, rfl⟩ ?_
  rintro _ _ _ ⟨K, n, q, t, aJ, rfl, aK, rfl, rfl⟩ Y hp be
  replace hp : oD.bd12 a1 K n = some Y := hp
  refine nv fun cN bf => sr <| tm rfl <| tv (fa n6 rfl) rfl <| tv (lb s39 0 rfl rfl rfl) rfl <| tv (ln u39 aG rfl) rfl <| tv (blt rfl rfl) rfl <| nz <| cD rfl hp (fun bg hp => ?_) fun bg hp => ?_
  · refine sk bf rfl <| nv fun cO bh => nC <| sr <| tv (fa n6 rfl) rfl <| tv (lb s39 0 rfl rfl rfl) rfl <| tm rfl <| ti u39 i50 aG hp rfl rfl rfl rfl ?_
    rintro a cP cQ _ hp ⟨D, F, G, rfl, Z, ap, aa⟩ bi
    refine tv (lR (ds := [D, F, .int .i64 a.term.kind, .int .i64 a.term.arg, G]) o5 sH bi 0 rfl rfl rfl) rfl <| tl i50 rfl fun o => tS 0 m50 rfl rfl [D, F, .int .i64 a.term.kind, .int .i64 a.term.arg, G] rfl (oc (Z).one (oc (ap).one (oc rfl (oc rfl (oc (aa).one oc0))))) rfl rfl <| nz <| nv fun bj bk => ?_
    have aq {S p C I bl} (bm : SlO 3 (nt .i64) S C I) (hp : oD.jn25 K n a S = some Y) : ∀ w, St E H [bx f 41 [.int .i64 a1.params, .int .i64 a1.result, v2, j], bx c 41 [.int .i64 0, .int .i64 0, .slice none 0 0, .slice none 0 0], bx d 41 [.int .i64 a1.params, .int .i64 a1.result, l, q], m, t, bx o 50 [D, F, .int .i64 a.term.kind, .int .i64 a.term.arg, G], bx p 50 [.slice none 0 0, .slice none 0 0, .int .i64 a.term.kind, .int .i64 a.term.arg, C], I] w → bj (ovr bl [(1, .pointer (some ⟨f, 0, none⟩)), (2, .pointer (some ⟨c, 0, none⟩)), (3, .pointer (some ⟨d, 0, none⟩)), (4, .int .i64 n), (5, .pointer (some ⟨o, 0, none⟩)), (6, .pointer (some ⟨p, 0, none⟩))]) w := by
     refine tg bk <| nv fun bn bo => sr <| ta rfl <| nz <| nC <| bE hp fun bp bq br => ?_
     have bs {T M U bt} (bu : SlO 70 o0 T M U) (bv : T = bp) : ∀ w, St E H [bx f 41 [.int .i64 a1.params, .int .i64 a1.result, v2, j], bx c 41 [.int .i64 0, .int .i64 0, .slice none 0 0, .slice none 0 0], bx d 41 [.int .i64 a1.params, .int .i64 a1.result, l, q], m, t, bx o 50 [D, F, .int .i64 a.term.kind, .int .i64 a.term.arg, G], bx p 50 [M, .slice none 0 0, .int .i64 a.term.kind, .int .i64 a.term.arg, C], U, I] w → bn (ovr bt [(1, .pointer (some ⟨f, 0, none⟩)), (2, .pointer (some ⟨c, 0, none⟩)), (3, .pointer (some ⟨d, 0, none⟩)), (4, .int .i64 n), (5, .pointer (some ⟨o, 0, none⟩)), (6, .pointer (some ⟨p, 0, none⟩))]) w := by
      subst bv
      replace hp : oD.nx33 K n a S T = some Y := br
      refine tg bo <| nv fun bw bz => sr <| ta rfl <| nz <| nC <| bE hp fun bA bB bC => ?_
      have bD {ab V ar bF} (bG : SlO 52 oK ab V ar) (bH : ab = bA) : ∀ w, St E H [bx f 41 [.int .i64 a1.params, .int .i64 a1.result, v2, j], bx c 41 [.int .i64 0, .int .i64 0, .slice none 0 0, .slice none 0 0], bx d 41 [.int .i64 a1.params, .int .i64 a1.result, l, q], m, t, bx p 50 [M, V, .int .i64 a.term.kind, .int .i64 a.term.arg, C], U, ar, I] w → bw (ovr bF [(1, .pointer (some ⟨f, 0, none⟩)), (2, .pointer (some ⟨c, 0, none⟩)), (3, .pointer (some ⟨d, 0, none⟩)), (4, .int .i64 n), (6, .pointer (some ⟨p, 0, none⟩))]) w := by
       subst bH
       replace hp : oD.nx42 K n a S T ab = some Y := bC
       exact tg bz <| nG <| tv (fa n6 rfl) rfl <| tv (lb s39 2 rfl rfl rfl) rfl <| tv (lA (ds := [M, V, .int .i64 a.term.kind, .int .i64 a.term.arg, C]) o5 5 rfl rfl rfl rfl) rfl <| tbs [(0, .agg #[M, V, .int .i64 a.term.kind, .int .i64 a.term.arg, C])] [M, V, .int .i64 a.term.kind, .int .i64 a.term.arg, C] u39 i50 (by kernel_rfl) rfl rfl rfl rfl fun cR => tp [5, 0, 7, 8, 9, 1, 2, 3, 4, 6] [_,_,_,_,_,_,_,_,_,_] rfl rfl <| tf 2 3 [_,_,_,_,_,_,_,_] rfl <| tp2 u39 i50 aK hp (RepL.to (G' := U ++ (ar ++ (I))) (RepL.cons (k := nW) (x := (⟨T, ab, (⟨a.term.kind, a.term.arg, S⟩ : PTerm)⟩ : ny)) ⟨_, _, _, _, _, _, rfl, rfl, bu, bG, bm⟩ RepL.nil) (by simp)) rfl rfl rfl rfl rfl rfl rfl rfl rfl fun cS bI bJ aL hp => tv (fa n6 rfl) rfl <| ts 3 m39 rfl rfl aL.o1 rfl <| nl <| tg bh <| nG <| tm rfl <| tv (bad rfl rfl) rfl <| ta rfl <| nl <| gk hp [1, 2, 3, 4, 0] ⟨_, _, bI, bJ, _, rfl, aL, nD _ _ rfl, rfl⟩
      refine W.new0 <| lp bB [1, 2, 3, 4, 5, 6, 7, 8, 0, 9] rfl (fun s e L => ∃ ac ad au av aM, s = (ac, ad) ∧ SlO 52 oK ac au av ∧ e = ovr aM [(1, .pointer (some ⟨f, 0, none⟩)), (2, .pointer (some ⟨c, 0, none⟩)), (3, .pointer (some ⟨d, 0, none⟩)), (4, .int .i64 n), (5, .pointer (some ⟨o, 0, none⟩)), (6, .pointer (some ⟨p, 0, none⟩)), (8, .int .i64 ad)] ∧ L = [bx f 41 [.int .i64 a1.params, .int .i64 a1.result, v2, j], bx c 41 [.int .i64 0, .int .i64 0, .slice none 0 0, .slice none 0 0], bx d 41 [.int .i64 a1.params, .int .i64 a1.result, l, q], m, t, bx o 50 [D, F, .int .i64 a.term.kind, .int .i64 a.term.arg, G], bx p 50 [M, au, .int .i64 a.term.kind, .int .i64 a.term.arg, C], U, av, I]) ⟨_, _, (.slice none 0 0), ([] : FP), _, rfl, (SlO.nil 52), nD _ _ rfl, rfl⟩ ?_
      rintro _ _ _ ⟨ac, ad, au, av, aM, rfl, aN, rfl, rfl⟩ bK hp bL
      replace hp : oD.bd42 a ac ad = some bK := hp
      refine nv fun cT bM => sr <| tm rfl <| tv (fa ou rfl) rfl <| tv (lb s48 5 rfl rfl rfl) rfl <| tv (ln u48 ap rfl) rfl <| tv (blt rfl rfl) rfl <| nz <| cD rfl hp (fun bN hp => ?_) fun bN hp => ?_
      · refine sk bM rfl <| nv fun cU bO => nC <| sr <| tv (fa ou rfl) rfl <| tv (lb s48 5 rfl rfl rfl) rfl <| tm rfl <| ti u48 i52 ap hp rfl rfl rfl rfl ?_
        rintro b cV cW _ hp ⟨aO, rfl, aP⟩ bP
        exact tv (lR (ds := [.int .i64 b.op, .int .i64 b.dst, aO, .int .i64 b.imm, .int .i64 b.fn]) pi sH bP 0 rfl rfl rfl) rfl <| tl i52 rfl fun cX => tS 0 m52 rfl rfl [.int .i64 b.op, .int .i64 b.dst, aO, .int .i64 b.imm, .int .i64 b.fn] rfl (oc rfl (oc rfl (oc (aP).one (oc rfl (oc rfl oc0))))) rfl rfl <| nz <| sr <| TL.bs0 u25 i3 (ltb rfl) fun bQ => tv (fa o9 rfl) rfl <| tv (lb s25 1 rfl rfl rfl) rfl <| tpI (fInt .i64) u25 i3 (SlO.lit0 (k := (nt .i64)) bQ) aP sH hp rfl rfl rfl rfl rfl rfl rfl fun bR aw bS aQ hp => tv (fa o9 rfl) rfl <| ts 1 m25 rfl rfl aQ.o1 rfl <| nz <| nG <| tv (fa ou rfl) rfl <| tv (lb s48 8 rfl rfl rfl) rfl <| tv (lA (ds := [.int .i64 b.op, .int .i64 b.dst, aw, .int .i64 b.imm, .int .i64 b.fn]) pi 1 rfl rfl rfl rfl) rfl <| tbs [(0, .agg #[.int .i64 b.op, .int .i64 b.dst, aw, .int .i64 b.imm, .int .i64 b.fn])] [.int .i64 b.op, .int .i64 b.dst, aw, .int .i64 b.imm, .int .i64 b.fn] u48 i52 (by kernel_rfl) rfl rfl rfl rfl fun cY => tp [11, 0, 1, 2, 3, 4, 5, 6, 7, 8, 9, 10, 12] [_,_,_,_,_,_,_,_,_,_,_,_,_] rfl rfl <| tp2 u48 i52 aN hp (RepL.to (G' := bS) (RepL.cons (k := oK) (x := (⟨b.op, b.dst, bR, b.imm, b.fn⟩ : nO)) ⟨_, _, rfl, rfl, aQ⟩ RepL.nil) (by simp)) rfl rfl rfl rfl rfl rfl rfl rfl rfl fun cZ bT bU aR hp => tv (fa ou rfl) rfl <| ts 8 m48 rfl rfl aR.o1 rfl <| nl <| tg bO <| nG <| tm rfl <| tv (bad rfl rfl) rfl <| ta rfl <| nl <| gk hp [2, 3, 4, 5, 6, 7, 8, 9, 0, 10] ⟨_, _, bT, bU, _, rfl, aR, nD _ _ rfl, rfl⟩
      · exact nN <| jn [0, 1, 2, 3, 4, 6, 7, 8, 9] (bD aN (nJ hp bL))
     refine W.new0 <| lp bq [1, 2, 3, 4, 5, 6, 7, 0, 8] rfl (fun s e L => ∃ ae N ax ay aS, s = (ae, N) ∧ SlO 70 o0 ae ax ay ∧ e = ovr aS [(1, .pointer (some ⟨f, 0, none⟩)), (2, .pointer (some ⟨c, 0, none⟩)), (3, .pointer (some ⟨d, 0, none⟩)), (4, .int .i64 n), (5, .pointer (some ⟨o, 0, none⟩)), (6, .pointer (some ⟨p, 0, none⟩)), (7, .int .i64 N)] ∧ L = [bx f 41 [.int .i64 a1.params, .int .i64 a1.result, v2, j], bx c 41 [.int .i64 0, .int .i64 0, .slice none 0 0, .slice none 0 0], bx d 41 [.int .i64 a1.params, .int .i64 a1.result, l, q], m, t, bx o 50 [D, F, .int .i64 a.term.kind, .int .i64 a.term.arg, G], bx p 50 [ax, .slice none 0 0, .int .i64 a.term.kind, .int .i64 a.term.arg, C], ay, I]) ⟨_, _, (.slice none 0 0), ([] : FP), _, rfl, (SlO.nil 70), nD _ _ rfl, rfl⟩ ?_
     rintro _ _ _ ⟨ae, N, ax, ay, aS, rfl, X, rfl, rfl⟩ aT hp bV
     replace hp : oD.bd33 a ae N = some aT := hp
     refine nv fun c0 bW => sr <| tm rfl <| tv (fa oL rfl) rfl <| tv (lb s47 5 rfl rfl rfl) rfl <| tv (ln u47 Z rfl) rfl <| tv (blt rfl rfl) rfl <| nz <| cD rfl hp (fun bX hp => ?_) fun bX hp => ?_
     · refine sk bW rfl <| nv fun bY bZ => ?_
       have af {aU az aA b0} (b1 : SlO 70 o0 aU az aA) (hp : oD.jn65 N aU = some aT) : ∀ w, St E H [bx f 41 [.int .i64 a1.params, .int .i64 a1.result, v2, j], bx c 41 [.int .i64 0, .int .i64 0, .slice none 0 0, .slice none 0 0], bx d 41 [.int .i64 a1.params, .int .i64 a1.result, l, q], m, t, bx o 50 [D, F, .int .i64 a.term.kind, .int .i64 a.term.arg, G], bx p 50 [az, .slice none 0 0, .int .i64 a.term.kind, .int .i64 a.term.arg, C], aA, I] w → bY (ovr b0 [(1, .pointer (some ⟨f, 0, none⟩)), (2, .pointer (some ⟨c, 0, none⟩)), (3, .pointer (some ⟨d, 0, none⟩)), (4, .int .i64 n), (5, .pointer (some ⟨o, 0, none⟩)), (6, .pointer (some ⟨p, 0, none⟩)), (7, .int .i64 N)]) w := by
        exact tg bZ <| nG <| tm rfl <| tv (bad rfl rfl) rfl <| ta rfl <| nl <| gk hp [0, 1, 2, 3, 4, 5, 6, 7, 8] ⟨_, _, az, aA, _, rfl, b1, nD _ _ rfl, rfl⟩
       refine nC <| ch mix [bx f 41 [.int .i64 a1.params, .int .i64 a1.result, v2, j], bx c 41 [.int .i64 0, .int .i64 0, .slice none 0 0, .slice none 0 0], bx d 41 [.int .i64 a1.params, .int .i64 a1.result, l, q], m, t, bx o 50 [D, F, .int .i64 a.term.kind, .int .i64 a.term.arg, G], I] (nq 0 rfl (nq 1 rfl (nq 2 rfl (nq 3 rfl (nq 4 rfl (nq 5 rfl (nq 8 rfl ns))))))) <| hv 0 rfl (fa oL rfl) (by kernel_rfl) rfl <| hv 2 rfl (fa oL rfl) (by kernel_rfl) rfl <| hv 3 rfl (lbG s47 5 rfl rfl rfl) (by kernel_rfl) rfl <| hv 4 rfl mv (by kernel_rfl) rfl <| hi 5 rfl u47 i70 Z hp rfl rfl rfl (by kernel_rfl) rfl ?_
       rintro g c1 c2 _ hp ⟨c3, rfl, c4⟩ b2
       refine hv 6 rfl (fa qx rfl) (by kernel_rfl) rfl <| hv 7 rfl (lr s3 srcInH b2 0 rfl rfl) (by kernel_rfl) rfl <| hv 9 rfl (fa oL rfl) (by kernel_rfl) rfl <| hv 10 rfl (lbG s47 5 rfl rfl rfl) (by kernel_rfl) rfl <| hv 11 rfl mv (by kernel_rfl) rfl <| hi 12 rfl u47 i70 Z hp rfl rfl rfl (by kernel_rfl) rfl ?_
       rintro c5 c6 c7 _ hp ⟨c8, rfl, aB⟩ b3
       refine hv 13 rfl (fa p5 rfl) (by kernel_rfl) rfl <| hv 14 rfl (lr s25 srcInH b3 1 rfl rfl) (by kernel_rfl) rfl <| nU [1, 8] (by kernel_rfl) (by simp) (nF ⟨_, rfl, fun c9 b4 => ?_⟩ (nF ⟨_, rfl, fun da b5 => ?_⟩ nV))
       · exact tv (lb s47 6 rfl rfl rfl) rfl <| hk b4 (nq 0 rfl (nq 1 rfl (nq 2 rfl (nq 3 rfl (nq 4 rfl (nq 5 rfl (nq 8 rfl ns))))))) <| ho 8 rfl (by kernel_rfl) fun db b6 => TL.bs0 u25 i3 (ltb rfl) fun ag => hk b6 (nq 1 rfl (nq 2 rfl (nq 3 rfl (nq 4 rfl (nq 5 rfl (nq 6 rfl (nq 9 rfl ns))))))) <| ho 15 rfl (by kernel_rfl) fun dc b7 => tpI (fInt .i64) u25 i3 (SlO.lit0 (k := (nt .i64)) ag) aB sH hp rfl rfl rfl rfl rfl rfl rfl fun O i P J hp => hk b7 (nq 1 rfl (nq 2 rfl (nq 3 rfl (nq 4 rfl (nq 5 rfl (nq 6 rfl (nq 9 rfl ns))))))) <| hv 16 rfl (oh (vs := [(0, .int .i64 g.dst), (1, i)]) (ds := [.int .i64 g.dst, i]) rfl (fun w => by obtain ⟨_, _, rfl⟩ := (J).len; kernel_rfl)) (by kernel_rfl) rfl <| ho 17 rfl (by kernel_rfl) fun dd b8 => tbs [(0, .agg #[.int .i64 g.dst, i])] [.int .i64 g.dst, i] u47 i70 (by kernel_rfl) rfl rfl rfl rfl fun aC => hk b8 (nq 2 rfl (nq 3 rfl (nq 4 rfl (nq 5 rfl (nq 6 rfl (nq 7 rfl (nq 10 rfl ns))))))) <| ho 18 rfl (by kernel_rfl) fun de b9 => tp [9, 0, 1, 2, 3, 4, 5, 6, 7, 8, 10] [_,_,_,_,_,_,_,_,_,_,_] rfl rfl <| tp2 u47 i70 X hp (RepL.to (G' := P) (RepL.cons (k := o0) (x := (⟨g.dst, O⟩ : PPhi)) ⟨_, _, rfl, rfl, J⟩ RepL.nil) (by simp)) rfl rfl rfl rfl rfl rfl rfl rfl rfl fun aD aE aF u hp => hk b9 (nq 1 rfl (nq 2 rfl (nq 3 rfl (nq 4 rfl (nq 5 rfl (nq 6 rfl (nq 8 rfl ns))))))) <| hv 19 rfl (fa oL rfl) (by kernel_rfl) rfl <| ho 20 rfl (by kernel_rfl) fun df ca => ts 7 m47 rfl rfl u.o1 rfl <| hk ca (nq 1 rfl (nq 2 rfl (nq 3 rfl (nq 4 rfl (nq 5 rfl (nq 6 rfl (nq 8 rfl ns))))))) <| hz (by kernel_rfl) <| jn [1, 2, 3, 4, 5, 6, 7, 0, 8] (af u hp)
       · refine TL.bs0 u25 i3 (ltb rfl) fun ag => hk b5 (nq 1 rfl (nq 2 rfl (nq 3 rfl (nq 4 rfl (nq 5 rfl (nq 6 rfl (nq 9 rfl ns))))))) <| nU [1, 15] (by kernel_rfl) (by simp) (nF ⟨_, rfl, fun dg cb => ?_⟩ (nF ⟨_, rfl, fun dh cc => ?_⟩ nV))
         · exact tv (lb s47 7 rfl rfl rfl) rfl <| hk cb (nq 1 rfl (nq 2 rfl (nq 3 rfl (nq 4 rfl (nq 5 rfl (nq 6 rfl (nq 9 rfl ns))))))) <| ho 15 rfl (by kernel_rfl) fun di cd => tpI (fInt .i64) u25 i3 (SlO.lit0 (k := (nt .i64)) ag) aB sH hp rfl rfl rfl rfl rfl rfl rfl fun O i P J hp => hk cd (nq 1 rfl (nq 2 rfl (nq 3 rfl (nq 4 rfl (nq 5 rfl (nq 6 rfl (nq 9 rfl ns))))))) <| hv 16 rfl (oh (vs := [(0, .int .i64 g.dst), (1, i)]) (ds := [.int .i64 g.dst, i]) rfl (fun w => by obtain ⟨_, _, rfl⟩ := (J).len; kernel_rfl)) (by kernel_rfl) rfl <| ho 17 rfl (by kernel_rfl) fun dj ce => tbs [(0, .agg #[.int .i64 g.dst, i])] [.int .i64 g.dst, i] u47 i70 (by kernel_rfl) rfl rfl rfl rfl fun aC => hk ce (nq 2 rfl (nq 3 rfl (nq 4 rfl (nq 5 rfl (nq 6 rfl (nq 7 rfl (nq 10 rfl ns))))))) <| ho 18 rfl (by kernel_rfl) fun dk cf => tp [9, 0, 1, 2, 3, 4, 5, 6, 7, 8, 10] [_,_,_,_,_,_,_,_,_,_,_] rfl rfl <| tp2 u47 i70 X hp (RepL.to (G' := P) (RepL.cons (k := o0) (x := (⟨g.dst, O⟩ : PPhi)) ⟨_, _, rfl, rfl, J⟩ RepL.nil) (by simp)) rfl rfl rfl rfl rfl rfl rfl rfl rfl fun aD aE aF u hp => hk cf (nq 1 rfl (nq 2 rfl (nq 3 rfl (nq 4 rfl (nq 5 rfl (nq 6 rfl (nq 8 rfl ns))))))) <| hv 19 rfl (fa oL rfl) (by kernel_rfl) rfl <| ho 20 rfl (by kernel_rfl) fun dl cg => ts 7 m47 rfl rfl u.o1 rfl <| hk cg (nq 1 rfl (nq 2 rfl (nq 3 rfl (nq 4 rfl (nq 5 rfl (nq 6 rfl (nq 8 rfl ns))))))) <| hz (by kernel_rfl) <| jn [1, 2, 3, 4, 5, 6, 7, 0, 8] (af u hp)
         · refine tpI (fInt .i64) u25 i3 (SlO.lit0 (k := (nt .i64)) ag) aB sH hp rfl rfl rfl rfl rfl rfl rfl fun O i P J hp => hk cc (nq 1 rfl (nq 2 rfl (nq 3 rfl (nq 4 rfl (nq 5 rfl (nq 6 rfl (nq 9 rfl ns))))))) <| hv 16 rfl (oh (vs := [(0, .int .i64 g.dst), (1, i)]) (ds := [.int .i64 g.dst, i]) rfl (fun w => by obtain ⟨_, _, rfl⟩ := (J).len; kernel_rfl)) (by kernel_rfl) rfl <| nU [1, 17] (by kernel_rfl) (by simp) (nF ⟨_, rfl, fun dm ci => ?_⟩ (nF ⟨_, rfl, fun dn cj => ?_⟩ nV))
           · exact tv (lb s47 7 rfl rfl rfl) rfl <| hk ci (nq 1 rfl (nq 2 rfl (nq 3 rfl (nq 4 rfl (nq 5 rfl (nq 6 rfl (nq 9 rfl ns))))))) <| ho 17 rfl (by kernel_rfl) fun dp ck => tbs [(0, .agg #[.int .i64 g.dst, i])] [.int .i64 g.dst, i] u47 i70 (by kernel_rfl) rfl rfl rfl rfl fun aC => hk ck (nq 2 rfl (nq 3 rfl (nq 4 rfl (nq 5 rfl (nq 6 rfl (nq 7 rfl (nq 10 rfl ns))))))) <| ho 18 rfl (by kernel_rfl) fun dq cl => tp [9, 0, 1, 2, 3, 4, 5, 6, 7, 8, 10] [_,_,_,_,_,_,_,_,_,_,_] rfl rfl <| tp2 u47 i70 X hp (RepL.to (G' := P) (RepL.cons (k := o0) (x := (⟨g.dst, O⟩ : PPhi)) ⟨_, _, rfl, rfl, J⟩ RepL.nil) (by simp)) rfl rfl rfl rfl rfl rfl rfl rfl rfl fun aD aE aF u hp => hk cl (nq 1 rfl (nq 2 rfl (nq 3 rfl (nq 4 rfl (nq 5 rfl (nq 6 rfl (nq 8 rfl ns))))))) <| hv 19 rfl (fa oL rfl) (by kernel_rfl) rfl <| ho 20 rfl (by kernel_rfl) fun dr cm => ts 7 m47 rfl rfl u.o1 rfl <| hk cm (nq 1 rfl (nq 2 rfl (nq 3 rfl (nq 4 rfl (nq 5 rfl (nq 6 rfl (nq 8 rfl ns))))))) <| hz (by kernel_rfl) <| jn [1, 2, 3, 4, 5, 6, 7, 0, 8] (af u hp)
           · exact tbs [(0, .agg #[.int .i64 g.dst, i])] [.int .i64 g.dst, i] u47 i70 (by kernel_rfl) rfl rfl rfl rfl fun aC => hk cj (nq 2 rfl (nq 3 rfl (nq 4 rfl (nq 5 rfl (nq 6 rfl (nq 7 rfl (nq 10 rfl ns))))))) <| ho 1 rfl (by kernel_rfl) fun dt cn => tv (lb s47 8 rfl rfl rfl) rfl <| hk cn (nq 2 rfl (nq 3 rfl (nq 4 rfl (nq 5 rfl (nq 6 rfl (nq 7 rfl (nq 10 rfl ns))))))) <| ho 18 rfl (by kernel_rfl) fun du co => tp [9, 0, 1, 2, 3, 4, 5, 6, 7, 8, 10] [_,_,_,_,_,_,_,_,_,_,_] rfl rfl <| tp2 u47 i70 X hp (RepL.to (G' := P) (RepL.cons (k := o0) (x := (⟨g.dst, O⟩ : PPhi)) ⟨_, _, rfl, rfl, J⟩ RepL.nil) (by simp)) rfl rfl rfl rfl rfl rfl rfl rfl rfl fun aD aE aF u hp => hk co (nq 1 rfl (nq 2 rfl (nq 3 rfl (nq 4 rfl (nq 5 rfl (nq 6 rfl (nq 8 rfl ns))))))) <| hv 19 rfl (fa oL rfl) (by kernel_rfl) rfl <| ho 20 rfl (by kernel_rfl) fun dv cp => ts 7 m47 rfl rfl u.o1 rfl <| hk cp (nq 1 rfl (nq 2 rfl (nq 3 rfl (nq 4 rfl (nq 5 rfl (nq 6 rfl (nq 8 rfl ns))))))) <| hz (by kernel_rfl) <| jn [1, 2, 3, 4, 5, 6, 7, 0, 8] (af u hp)
     · exact nN <| jn [0, 1, 2, 3, 4, 5, 6, 7, 8] (bs X (nJ hp bV))
    refine ch mix [bx o 50 [D, F, .int .i64 a.term.kind, .int .i64 a.term.arg, G], bx f 41 [.int .i64 a1.params, .int .i64 a1.result, v2, j], bx c 41 [.int .i64 0, .int .i64 0, .slice none 0 0, .slice none 0 0], bx d 41 [.int .i64 a1.params, .int .i64 a1.result, l, q], m, t] (nq 0 rfl (nq 1 rfl (nq 2 rfl (nq 3 rfl (nq 4 rfl (nq 5 rfl ns)))))) <| hv 0 rfl (fa oP rfl) (by kernel_rfl) rfl <| hv 1 rfl (fa qg rfl) (by kernel_rfl) rfl <| hv 2 rfl (lbG s3 0 rfl rfl rfl) (by kernel_rfl) rfl <| hv 3 rfl (fa oP rfl) (by kernel_rfl) rfl <| hv 4 rfl (fa pJ rfl) (by kernel_rfl) rfl <| hv 5 rfl (lbG s3 0 rfl rfl rfl) (by kernel_rfl) rfl <| hv 7 rfl (fa oP rfl) (by kernel_rfl) rfl <| hv 8 rfl (fa pf rfl) (by kernel_rfl) rfl <| hv 9 rfl (lbG s25 0 rfl rfl rfl) (by kernel_rfl) rfl <| nU [6, 13] (by kernel_rfl) (by simp) (nF ⟨_, rfl, fun dw cq => ?_⟩ (nF ⟨_, rfl, fun dx cr => ?_⟩ nV))
    · refine TL.bs0 u25 i3 (ltb rfl) fun ah => hk cq (nq 1 rfl (nq 2 rfl (nq 3 rfl (nq 4 rfl (nq 5 rfl (nq 6 rfl ns)))))) <| nU [10, 13] (by kernel_rfl) (by simp) (nF ⟨_, rfl, fun dy cs => ?_⟩ (nF ⟨_, rfl, fun dz ct => ?_⟩ nV))
      · exact tpI (fInt .i64) u25 i3 (SlO.lit0 (k := (nt .i64)) ah) aa sH hp rfl rfl rfl rfl rfl rfl rfl fun aV h aW y hp => hk cs (nq 1 rfl (nq 2 rfl (nq 3 rfl (nq 4 rfl (nq 5 rfl (nq 6 rfl ns)))))) <| hv 11 rfl (oh (vs := [(0, .int .i64 a.term.kind), (1, .int .i64 a.term.arg), (2, h)]) (ds := [.int .i64 a.term.kind, .int .i64 a.term.arg, h]) rfl (fun w => by obtain ⟨_, _, rfl⟩ := (y).len; kernel_rfl)) (by kernel_rfl) rfl <| hv 12 rfl (oh (vs := [(2, .agg #[.int .i64 a.term.kind, .int .i64 a.term.arg, h])]) (ds := [.slice none 0 0, .slice none 0 0, .int .i64 a.term.kind, .int .i64 a.term.arg, h]) rfl (fun w => by kernel_rfl)) (by kernel_rfl) rfl <| ho 13 rfl (by kernel_rfl) fun dA cu => tl i50 rfl fun aX => hk cu (nq 2 rfl (nq 3 rfl (nq 4 rfl (nq 5 rfl (nq 6 rfl (nq 7 rfl ns)))))) <| ho 14 rfl (by kernel_rfl) fun dB cv => tS 0 m50 rfl rfl [.slice none 0 0, .slice none 0 0, .int .i64 a.term.kind, .int .i64 a.term.arg, h] rfl (oc rfl (oc rfl (oc rfl (oc rfl (oc (y).one oc0))))) rfl rfl <| hk cv (nq 2 rfl (nq 3 rfl (nq 4 rfl (nq 5 rfl (nq 6 rfl (nq 7 rfl ns)))))) <| hz (by kernel_rfl) <| jn [3, 4, 5, 6, 7, 2, 0, 1] (aq y hp)
      · exact tl i50 rfl fun aX => hk ct (nq 2 rfl (nq 3 rfl (nq 4 rfl (nq 5 rfl (nq 6 rfl (nq 7 rfl ns)))))) <| ho 10 rfl (by kernel_rfl) fun dC cw => tp [1, 0, 2, 3, 4, 5, 6, 7] [_,_,_,_,_,_,_,_] rfl rfl <| tpI (fInt .i64) u25 i3 (SlO.lit0 (k := (nt .i64)) ah) aa sH hp rfl rfl rfl rfl rfl rfl rfl fun aV h aW y hp => hk cw (nq 2 rfl (nq 3 rfl (nq 4 rfl (nq 5 rfl (nq 6 rfl (nq 7 rfl ns)))))) <| hv 11 rfl (oh (vs := [(0, .int .i64 a.term.kind), (1, .int .i64 a.term.arg), (2, h)]) (ds := [.int .i64 a.term.kind, .int .i64 a.term.arg, h]) rfl (fun w => by obtain ⟨_, _, rfl⟩ := (y).len; kernel_rfl)) (by kernel_rfl) rfl <| hv 12 rfl (oh (vs := [(2, .agg #[.int .i64 a.term.kind, .int .i64 a.term.arg, h])]) (ds := [.slice none 0 0, .slice none 0 0, .int .i64 a.term.kind, .int .i64 a.term.arg, h]) rfl (fun w => by kernel_rfl)) (by kernel_rfl) rfl <| ho 14 rfl (by kernel_rfl) fun dD cx => tS 1 m50 rfl rfl [.slice none 0 0, .slice none 0 0, .int .i64 a.term.kind, .int .i64 a.term.arg, h] rfl (oc rfl (oc rfl (oc rfl (oc rfl (oc (y).one oc0))))) rfl rfl <| hk cx (nq 2 rfl (nq 3 rfl (nq 4 rfl (nq 5 rfl (nq 6 rfl (nq 7 rfl ns)))))) <| hz (by kernel_rfl) <| jn [3, 4, 5, 6, 7, 2, 1, 0] (aq y hp)
    · exact tl i50 rfl fun aX => hk cr (nq 1 rfl (nq 2 rfl (nq 3 rfl (nq 4 rfl (nq 5 rfl (nq 6 rfl ns)))))) <| ho 6 rfl (by kernel_rfl) fun dE cy => TL.bs0 u25 i3 (ltb rfl) fun ah => hk cy (nq 2 rfl (nq 3 rfl (nq 4 rfl (nq 5 rfl (nq 6 rfl (nq 7 rfl ns)))))) <| ho 10 rfl (by kernel_rfl) fun dF cz => tpI (fInt .i64) u25 i3 (SlO.lit0 (k := (nt .i64)) ah) aa sH hp rfl rfl rfl rfl rfl rfl rfl fun aV h aW y hp => hk cz (nq 2 rfl (nq 3 rfl (nq 4 rfl (nq 5 rfl (nq 6 rfl (nq 7 rfl ns)))))) <| hv 11 rfl (oh (vs := [(0, .int .i64 a.term.kind), (1, .int .i64 a.term.arg), (2, h)]) (ds := [.int .i64 a.term.kind, .int .i64 a.term.arg, h]) rfl (fun w => by obtain ⟨_, _, rfl⟩ := (y).len; kernel_rfl)) (by kernel_rfl) rfl <| hv 12 rfl (oh (vs := [(2, .agg #[.int .i64 a.term.kind, .int .i64 a.term.arg, h])]) (ds := [.slice none 0 0, .slice none 0 0, .int .i64 a.term.kind, .int .i64 a.term.arg, h]) rfl (fun w => by kernel_rfl)) (by kernel_rfl) rfl <| ho 14 rfl (by kernel_rfl) fun dG cA => tS 1 m50 rfl rfl [.slice none 0 0, .slice none 0 0, .int .i64 a.term.kind, .int .i64 a.term.arg, h] rfl (oc rfl (oc rfl (oc rfl (oc rfl (oc (y).one oc0))))) rfl rfl <| hk cA (nq 2 rfl (nq 3 rfl (nq 4 rfl (nq 5 rfl (nq 6 rfl (nq 7 rfl ns)))))) <| hz (by kernel_rfl) <| jn [3, 4, 5, 6, 7, 2, 1, 0] (aq y hp)
  · exact nN <| jn [1, 2, 3, 4] (ba aK (nJ hp be))
 refine ch mix [bx c 41 [.int .i64 0, .int .i64 0, .slice none 0 0, .slice none 0 0], bx f 41 [.int .i64 a1.params, .int .i64 a1.result, v2, j]] (nq 0 rfl (nq 1 rfl ns)) <| hv 0 rfl (fa py rfl) (by kernel_rfl) rfl <| hv 1 rfl (lbG s3 1 rfl rfl rfl) (by kernel_rfl) rfl <| hv 2 rfl (fa qb rfl) (by kernel_rfl) rfl <| hv 3 rfl (lbG s3 1 rfl rfl rfl) (by kernel_rfl) rfl <| hv 5 rfl (fa oV rfl) (by kernel_rfl) rfl <| hv 6 rfl (lbG s25 1 rfl rfl rfl) (by kernel_rfl) rfl <| nU [4, 9] (by kernel_rfl) (by simp) (nF ⟨_, rfl, fun dH cB => ?_⟩ (nF ⟨_, rfl, fun dI cC => ?_⟩ nV))
 · refine TL.bs0 u25 i3 (ltb rfl) fun ai => hk cB (nq 1 rfl (nq 2 rfl ns)) <| nU [7, 9] (by kernel_rfl) (by simp) (nF ⟨_, rfl, fun dJ cE => ?_⟩ (nF ⟨_, rfl, fun dK cF => ?_⟩ nV))
   · exact tpI (fInt .i64) u25 i3 (SlO.lit0 (k := (nt .i64)) ai) aj sH hp rfl rfl rfl rfl rfl rfl rfl fun aY z aZ B hp => hk cE (nq 1 rfl (nq 2 rfl ns)) <| hv 8 rfl (oh (vs := [(0, .int .i64 a1.params), (1, .int .i64 a1.result), (2, z)]) (ds := [.int .i64 a1.params, .int .i64 a1.result, z, .slice none 0 0]) rfl (fun w => by obtain ⟨_, _, rfl⟩ := (B).len; kernel_rfl)) (by kernel_rfl) rfl <| ho 9 rfl (by kernel_rfl) fun dL cG => tl i41 rfl fun a0 => hk cG (nq 2 rfl (nq 3 rfl ns)) <| ho 10 rfl (by kernel_rfl) fun dM cH => tS 0 m41 rfl rfl [.int .i64 a1.params, .int .i64 a1.result, z, .slice none 0 0] rfl (oc rfl (oc rfl (oc (B).one (oc rfl oc0)))) rfl rfl <| hk cH (nq 2 rfl (nq 3 rfl ns)) <| hz (by kernel_rfl) <| jn [3, 2, 0, 1] (ak B hp)
   · exact tl i41 rfl fun a0 => hk cF (nq 2 rfl (nq 3 rfl ns)) <| ho 7 rfl (by kernel_rfl) fun dN cI => tp [1, 0, 2, 3] [_,_,_,_] rfl rfl <| tpI (fInt .i64) u25 i3 (SlO.lit0 (k := (nt .i64)) ai) aj sH hp rfl rfl rfl rfl rfl rfl rfl fun aY z aZ B hp => hk cI (nq 2 rfl (nq 3 rfl ns)) <| hv 8 rfl (oh (vs := [(0, .int .i64 a1.params), (1, .int .i64 a1.result), (2, z)]) (ds := [.int .i64 a1.params, .int .i64 a1.result, z, .slice none 0 0]) rfl (fun w => by obtain ⟨_, _, rfl⟩ := (B).len; kernel_rfl)) (by kernel_rfl) rfl <| ho 10 rfl (by kernel_rfl) fun dO cJ => tS 1 m41 rfl rfl [.int .i64 a1.params, .int .i64 a1.result, z, .slice none 0 0] rfl (oc rfl (oc rfl (oc (B).one (oc rfl oc0)))) rfl rfl <| hk cJ (nq 2 rfl (nq 3 rfl ns)) <| hz (by kernel_rfl) <| jn [3, 2, 1, 0] (ak B hp)
 · exact tl i41 rfl fun a0 => hk cC (nq 1 rfl (nq 2 rfl ns)) <| ho 4 rfl (by kernel_rfl) fun dP cK => TL.bs0 u25 i3 (ltb rfl) fun ai => hk cK (nq 2 rfl (nq 3 rfl ns)) <| ho 7 rfl (by kernel_rfl) fun dQ cL => tpI (fInt .i64) u25 i3 (SlO.lit0 (k := (nt .i64)) ai) aj sH hp rfl rfl rfl rfl rfl rfl rfl fun aY z aZ B hp => hk cL (nq 2 rfl (nq 3 rfl ns)) <| hv 8 rfl (oh (vs := [(0, .int .i64 a1.params), (1, .int .i64 a1.result), (2, z)]) (ds := [.int .i64 a1.params, .int .i64 a1.result, z, .slice none 0 0]) rfl (fun w => by obtain ⟨_, _, rfl⟩ := (B).len; kernel_rfl)) (by kernel_rfl) rfl <| ho 10 rfl (by kernel_rfl) fun dR cM => tS 1 m41 rfl rfl [.int .i64 a1.params, .int .i64 a1.result, z, .slice none 0 0] rfl (oc rfl (oc rfl (oc (B).one (oc rfl oc0)))) rfl rfl <| hk cM (nq 2 rfl (nq 3 rfl ns)) <| hz (by kernel_rfl) <| jn [3, 2, 1, 0] (ak B hp)
end Go.Proofs.Ytpmcbahahjelnaa
namespace Go.Proofs.Ytpmcbahahjelnaa
open Go Go.Proofs
/-! ### fettle/fettleref02.Copy -/
abbrev pw.R (r : nT) (v : Value) (A : List FP) : Prop := ∃ (w1 : Value) (a : FP), .agg #[w1] = v ∧ A = [a] ∧ SlO 41 oB r.funcs w1 a
def pw.nx8  (a : List nA) : Option nT :=
  some (⟨a⟩ : nT)
def pw.jn18 (a : Int) (b : List nA) : Option (Ex (List nA) (List nA × Int)) :=
  some (.go (b, (w64 (a + 1))))
def pw.bd8 (a1 : nT) (b : List nA) (a : Int) : Option (Ex (List nA) (List nA × Int)) :=
  if a < (len a1.funcs) then
    (idx a1.funcs a).bind fun c =>
    (oD c).bind fun d =>
    (cat b [d]).bind fun e =>
    pw.jn18 a e
  else
    some (.ret b)
def pw (a1 : nT) : Option nT :=
  (whl (fun (s : (List nA × Int)) => pw.bd8 a1 s.1 s.2) nB (([] : List nA), 0)).bind fun z =>
  pw.nx8 z
set_option maxHeartbeats 4000000 in
theorem t5 {E : World} {H : FP} {w : World} {a1 : nT} {v2 : Value} {r : nT} (G : SlI oB H a1.funcs v2) (hp : pw a1 = some r) (hst : St E H [] w) :
    Fn Try.prog 12 #[.agg #[v2]] w fun v w' => ∃ A, pw.R r v A ∧ St E H A w' := by
 refine Fn.bodyV (fn := Try.f12) (args := [.agg #[v2]]) E H [] 24 Try.func12 rfl rfl (leb rfl) hst <| sr <| tb [v2] rfl rfl fun i => tl i35 rfl fun c => nz <| sr <| tl i35 rfl fun g => nz <| nv fun U V => sr <| ta rfl <| nz <| nC <| bE hp fun X Y Z => ?_
 have aa {u j y ab} (I : SlO 41 oB u j y) (ac : u = X) : ∀ w, St E H [bx c 35 [.slice none 0 0], bx g 35 [j], y] w → U (ovr ab [(2, .pointer (some ⟨c, 0, none⟩)), (3, .pointer (some ⟨g, 0, none⟩))]) w := by
  subst ac
  replace hp : pw.nx8 u = some r := Z
  refine tg V <| sr <| tv (lA (ds := [j]) pc 1 rfl rfl rfl rfl) rfl <| tS 0 m35 rfl rfl [j] rfl (oc (I).one oc0) rfl rfl <| nz <| nH ?_
  obtain rfl := Option.some.inj hp
  exact fun w hw => retC1 hw rfl rfl pc 0 rfl rfl ⟨j, y, rfl, rfl, I⟩ (hw.pickA [2] rfl)
 refine W.new0 <| lp Y [3, 2, 1, 0] rfl (fun s e L => ∃ l h z B J, s = (l, h) ∧ SlO 41 oB l z B ∧ e = ovr J [(1, .pointer (some ⟨i, 0, none⟩)), (2, .pointer (some ⟨c, 0, none⟩)), (3, .pointer (some ⟨g, 0, none⟩)), (4, .int .i64 h)] ∧ L = [bx i 35 [v2], bx c 35 [.slice none 0 0], bx g 35 [z], B]) ⟨_, _, (.slice none 0 0), ([] : FP), _, rfl, (SlO.nil 41), nD _ _ rfl, rfl⟩ ?_
 rintro _ _ _ ⟨l, h, z, B, J, rfl, m, rfl, rfl⟩ K hp ad
 replace hp : pw.bd8 a1 l h = some K := hp
 refine nv fun aE ae => sr <| tm rfl <| tv (fa oS rfl) rfl <| tv (lb s33 0 rfl rfl rfl) rfl <| tv (ln u33 G rfl) rfl <| tv (blt rfl rfl) rfl <| nz <| cD rfl hp (fun af hp => ?_) fun af hp => ?_
 · refine sk ae rfl <| nv fun ag ah => ?_
   have C {M D F ai} (aj : SlO 41 oB M D F) (hp : pw.jn18 h M = some K) : ∀ w, St E H [bx i 35 [v2], bx c 35 [.slice none 0 0], bx g 35 [D], F] w → ag (ovr ai [(1, .pointer (some ⟨i, 0, none⟩)), (2, .pointer (some ⟨c, 0, none⟩)), (3, .pointer (some ⟨g, 0, none⟩)), (4, .int .i64 h)]) w := by
    exact tg ah <| nG <| tm rfl <| tv (bad rfl rfl) rfl <| ta rfl <| nl <| gk hp [0, 1, 2, 3] ⟨_, _, D, F, _, rfl, aj, nD _ _ rfl, rfl⟩
   refine nC <| ch mix [bx i 35 [v2], bx c 35 [.slice none 0 0]] (nq 0 rfl (nq 1 rfl ns)) <| hv 0 rfl (fa oS rfl) (by kernel_rfl) rfl <| hv 2 rfl (fa oS rfl) (by kernel_rfl) rfl <| hv 3 rfl (lbG s33 0 rfl rfl rfl) (by kernel_rfl) rfl <| hv 4 rfl mv (by kernel_rfl) rfl <| hi 5 rfl u33 i41 G hp rfl rfl rfl (by kernel_rfl) rfl ?_
   rintro n aF aG _ hp ⟨ak, am, rfl, N, O⟩ an
   refine hv 6 rfl (lR (ds := [.int .i64 n.params, .int .i64 n.result, ak, am]) n9 srcInH an 0 rfl rfl rfl) (by kernel_rfl) rfl <| nU [1, 7] (by kernel_rfl) (by simp) (nF ⟨_, rfl, fun aH ao => ?_⟩ (nF ⟨_, rfl, fun aI ap => ?_⟩ nV))
   · refine tv (lb s33 2 rfl rfl rfl) rfl <| hk ao (nq 0 rfl (nq 1 rfl ns)) <| ho 7 rfl (by kernel_rfl) fun aJ aq => bE hp fun a hy24 hp => tc 0 [_,_,_,_] rfl c14 (fun _ => sO (a1 := n) (N.mono nw) (O.mono nw) hy24) rfl ?_
     rintro _ _ ⟨d, o, f, p, rfl, rfl, q, t⟩
     exact hk aq (nq 2 rfl (nq 3 rfl ns)) <| ho 8 rfl (by kernel_rfl) fun aK ar => tbs [(0, .agg #[.int .i64 a.params, .int .i64 a.result, d, f])] [.int .i64 a.params, .int .i64 a.result, d, f] u33 i41 (by kernel_rfl) rfl rfl rfl rfl fun P => hk ar (nq 3 rfl (nq 4 rfl ns)) <| ho 9 rfl (by kernel_rfl) fun aL au => tp [6, 0, 1, 2, 3, 4, 5] [_,_,_,_,_,_,_] rfl rfl <| tf 2 2 [_,_,_,_,_,_] rfl <| tp2 u33 i41 m hp (RepL.to (G' := o ++ (p)) (RepL.cons (k := oB) (x := a) ⟨_, _, _, _, rfl, rfl, q, t⟩ RepL.nil) (by simp)) rfl rfl rfl rfl rfl rfl rfl rfl rfl fun Q S T b hp => hk au (nq 1 rfl (nq 2 rfl ns)) <| hv 10 rfl (fa oS rfl) (by kernel_rfl) rfl <| ho 11 rfl (by kernel_rfl) fun aM av => ts 3 m33 rfl rfl b.o1 rfl <| hk av (nq 1 rfl (nq 2 rfl ns)) <| hz (by kernel_rfl) <| jn [1, 2, 3, 0] (C b hp)
   · refine bE hp fun a hy35 hp => tc 0 [_,_,_,_] rfl c14 (fun _ => sO (a1 := n) (N.mono nw) (O.mono nw) hy35) rfl ?_
     rintro _ _ ⟨d, o, f, p, rfl, rfl, q, t⟩
     refine hk ap (nq 2 rfl (nq 3 rfl ns)) <| nU [1, 8] (by kernel_rfl) (by simp) (nF ⟨_, rfl, fun aN aw => ?_⟩ (nF ⟨_, rfl, fun aO ax => ?_⟩ nV))
     · exact tv (lb s33 4 rfl rfl rfl) rfl <| hk aw (nq 2 rfl (nq 3 rfl ns)) <| ho 8 rfl (by kernel_rfl) fun aP ay => tbs [(0, .agg #[.int .i64 a.params, .int .i64 a.result, d, f])] [.int .i64 a.params, .int .i64 a.result, d, f] u33 i41 (by kernel_rfl) rfl rfl rfl rfl fun P => hk ay (nq 3 rfl (nq 4 rfl ns)) <| ho 9 rfl (by kernel_rfl) fun aQ az => tp [6, 0, 1, 2, 3, 4, 5] [_,_,_,_,_,_,_] rfl rfl <| tf 2 2 [_,_,_,_,_,_] rfl <| tp2 u33 i41 m hp (RepL.to (G' := o ++ (p)) (RepL.cons (k := oB) (x := a) ⟨_, _, _, _, rfl, rfl, q, t⟩ RepL.nil) (by simp)) rfl rfl rfl rfl rfl rfl rfl rfl rfl fun Q S T b hp => hk az (nq 1 rfl (nq 2 rfl ns)) <| hv 10 rfl (fa oS rfl) (by kernel_rfl) rfl <| ho 11 rfl (by kernel_rfl) fun aR aA => ts 3 m33 rfl rfl b.o1 rfl <| hk aA (nq 1 rfl (nq 2 rfl ns)) <| hz (by kernel_rfl) <| jn [1, 2, 3, 0] (C b hp)
     · exact tbs [(0, .agg #[.int .i64 a.params, .int .i64 a.result, d, f])] [.int .i64 a.params, .int .i64 a.result, d, f] u33 i41 (by kernel_rfl) rfl rfl rfl rfl fun P => hk ax (nq 3 rfl (nq 4 rfl ns)) <| ho 1 rfl (by kernel_rfl) fun aS aB => tv (lb s33 5 rfl rfl rfl) rfl <| hk aB (nq 3 rfl (nq 4 rfl ns)) <| ho 9 rfl (by kernel_rfl) fun aT aC => tp [6, 0, 1, 2, 3, 4, 5] [_,_,_,_,_,_,_] rfl rfl <| tf 2 2 [_,_,_,_,_,_] rfl <| tp2 u33 i41 m hp (RepL.to (G' := o ++ (p)) (RepL.cons (k := oB) (x := a) ⟨_, _, _, _, rfl, rfl, q, t⟩ RepL.nil) (by simp)) rfl rfl rfl rfl rfl rfl rfl rfl rfl fun Q S T b hp => hk aC (nq 1 rfl (nq 2 rfl ns)) <| hv 10 rfl (fa oS rfl) (by kernel_rfl) rfl <| ho 11 rfl (by kernel_rfl) fun aU aD => ts 3 m33 rfl rfl b.o1 rfl <| hk aD (nq 1 rfl (nq 2 rfl ns)) <| hz (by kernel_rfl) <| jn [1, 2, 3, 0] (C b hp)
 · exact nN <| jn [1, 2, 3] (aa m (nJ hp ad))
/-! ### fettle/fettlelaw14.Built -/
abbrev qM.R (G : FP) (r : nT) (v : Value) (A : List FP) : Prop := ∃ (w1 : Value) (a : FP), .agg #[w1] = v ∧ A = [a] ∧ SlI oB (a ++ G) r.funcs w1
def qM (a1 : nT) (a6 : Int) (a7 : Bool) : Option nT :=
  (pG a1 a6).bind fun a =>
  if (((!a7) = true ∨ (¬ a.2 = GErr.no)) ∨ a6 < 0) ∨ a6 ≥ (len a1.funcs) then
    some a1
  else
    (pw a1).bind fun b =>
    (idx b.funcs a6).bind fun c =>
    some (⟨(b.funcs.set (a6).toNat a.1)⟩ : nT)
set_option maxHeartbeats 4000000 in
theorem xa {E : World} {H G : FP} {w : World} {a1 : nT} {a6 : Int} {a7 : Bool} {v2 : Value} {r : nT} (D : ∀ p, p ∈ G → p ∈ H) (s : SlI oB G a1.funcs v2) (hp : qM a1 a6 a7 = some r) (hst : St E H [] w) :
    Fn Try.prog 11 #[.agg #[v2], .int .i64 a6, .bool a7] w fun v w' => ∃ A, qM.R G r v A ∧ St E H A w' := by
 have k := s.mono D
 refine Fn.bodyV (fn := Try.f11) (args := [.agg #[v2], .int .i64 a6, .bool a7]) E H [] 42 Try.func11 rfl rfl (leb rfl) hst <| sr <| tb [v2] rfl rfl fun h => tl i35 rfl fun i => nz <| sr <| tv (lA (ds := [v2]) pc 1 rfl rfl rfl rfl) rfl <| tm rfl <| bE hp fun b hy1 hp => tc 0 [_,_] rfl c25 (fun _ => w9 (a1 := a1) (a4 := a6) (k.mono nw) hy1) rfl ?_
 rintro _ _ ⟨f, m, g, n, X, o, rfl, rfl, t, x, F⟩
 refine tm rfl <| tv (xt rfl rfl) rfl <| tv (xt rfl rfl) rfl <| tl i41 rfl fun j => tS 0 m41 rfl rfl [.int .i64 b.1.params, .int .i64 b.1.result, f, g] rfl (oc rfl (oc rfl (oc (t).one (oc (x).one oc0)))) rfl rfl <| ta rfl <| nz <| nv fun Y I => sr <| tm rfl <| tv (oO rfl) rfl <| tm rfl <| TL.cut 3 fun J K => ?_
 have y {L} : ∀ w, St E H [bx j 41 [.int .i64 b.1.params, .int .i64 b.1.result, f, g], m, n, o, bx i 35 [.slice none 0 0], bx h 35 [v2]] w → J (ovr L [(21, .bool (decide ((!a7) = true ∨ (¬ b.2 = GErr.no)))), (1, .int .i64 a6), (3, .pointer (some ⟨h, 0, none⟩)), (6, .pointer (some ⟨i, 0, none⟩)), (7, .pointer (some ⟨j, 0, none⟩))]) w := by
  refine tlg K <| tm rfl <| TL.cut 3 fun M N => ?_
  have z {O} : ∀ w, St E H [bx j 41 [.int .i64 b.1.params, .int .i64 b.1.result, f, g], m, n, o, bx i 35 [.slice none 0 0], bx h 35 [v2]] w → M (ovr O [(25, .bool (decide (((!a7) = true ∨ (¬ b.2 = GErr.no)) ∨ a6 < 0))), (1, .int .i64 a6), (3, .pointer (some ⟨h, 0, none⟩)), (6, .pointer (some ⟨i, 0, none⟩)), (7, .pointer (some ⟨j, 0, none⟩))]) w := by
   refine tlg N <| tm rfl <| TL.cut 6 fun P Q => ?_
   have B {S} : ∀ w, St E H [bx j 41 [.int .i64 b.1.params, .int .i64 b.1.result, f, g], m, n, o, bx i 35 [.slice none 0 0], bx h 35 [v2]] w → P (ovr S [(32, .bool (decide ((((!a7) = true ∨ (¬ b.2 = GErr.no)) ∨ a6 < 0) ∨ a6 ≥ (len a1.funcs)))), (1, .int .i64 a6), (3, .pointer (some ⟨h, 0, none⟩)), (6, .pointer (some ⟨i, 0, none⟩)), (7, .pointer (some ⟨j, 0, none⟩))]) w := by
    refine tlg Q <| nz <| cD rfl hp (fun T hp => ?_) fun T hp => ?_
    · refine sr <| tv (lA (ds := [v2]) pc 5 rfl rfl rfl rfl) rfl <| tS 4 m35 rfl rfl [v2] rfl (oc (k).one oc0) rfl rfl <| nz <| nH <| W.new0 ?_
      obtain rfl := Option.some.inj hp
      exact fun w hw => retC1 hw rfl rfl pc 5 rfl rfl ⟨v2, ([] : FP), rfl, rfl, s⟩ (hw.pickA [0] rfl)
    · refine sk I rfl <| sr <| tv (lA (ds := [v2]) pc 5 rfl rfl rfl rfl) rfl <| bE hp fun Z hy21 hp => tc 0 [_,_,_,_,_,_] rfl c12 (fun _ => t5 (a1 := a1) (k.mono nw) hy21) rfl ?_
      rintro _ _ ⟨l, aa, rfl, rfl, q⟩
      refine tl i35 rfl fun ab => tS 0 m35 rfl rfl [l] rfl (oc (q).one oc0) rfl rfl <| nz <| sr <| tv (fa oS rfl) rfl <| tv (lb s33 0 rfl rfl rfl) rfl <| tm rfl <| tv (lA (ds := [.int .i64 b.1.params, .int .i64 b.1.result, f, g]) n9 2 rfl rfl rfl rfl) rfl <| tO u33 i41 q hp rfl rfl rfl rfl fun ac ad ae U hp => tp [1, 3, 4, 0, 2, 5, 6, 7] [_,_,_,_,_,_,_,_] rfl rfl <| tf 1 2 [_,_,_,_,_,_,_] rfl <| TL.stE (ds := [.int .i64 b.1.params, .int .i64 b.1.result, f, g]) (u := .agg #[.int .i64 b.1.params, .int .i64 b.1.result, f, g]) (a := b.1) q U m41 rfl rfl rfl ⟨_, _, _, _, rfl, rfl, t, x⟩ fun V C => nz <| sr <| tv (lA (ds := [l]) pc 1 rfl rfl rfl rfl) rfl <| tS 4 m35 rfl rfl [l] rfl (oc (C).one oc0) rfl rfl <| nz <| nH ?_
      obtain rfl := Option.some.inj hp
      exact fun w hw => retC1 hw rfl rfl pc 4 rfl rfl ⟨l, V, rfl, rfl, (SlO.mx C)⟩ (hw.pickA [0] rfl)
   by_cases c : ((!a7) = true ∨ (¬ b.2 = GErr.no)) ∨ a6 < 0
   · exact gn rfl (bT c) rfl rfl <| gn rfl (bT c) rfl rfl <| gn rfl (bT c) rfl rfl <| gn rfl (bT c) rfl rfl <| gn rfl (bT c) rfl rfl <| tv (pT (bT c)) rfl <| nj B (bOt c)
   · exact gy rfl (bF c) <| tm rfl <| gy rfl (bF c) <| tv (fa oS rfl) rfl <| gy rfl (bF c) <| tv (lb s33 5 rfl rfl rfl) rfl <| gy rfl (bF c) <| tv (ln u33 k rfl) rfl <| gy rfl (bF c) <| tv (bge rfl rfl) rfl <| tv (pF (bF c)) rfl <| nj B (bOf c)
  by_cases d : (!a7) = true ∨ (¬ b.2 = GErr.no)
  · exact gn rfl (bT d) rfl rfl <| gn rfl (bT d) rfl rfl <| tv (pT (bT d)) rfl <| nj z (bOt d)
  · exact gy rfl (bF d) <| tm rfl <| gy rfl (bF d) <| tv (blt rfl rfl) rfl <| tv (pF (bF d)) rfl <| nj z (bOf d)
 by_cases e : (!a7) = true
 · exact gn rfl (bbT e) rfl rfl <| gn rfl (bbT e) rfl rfl <| tv (pT (bbT e)) rfl <| nj y (bOt e)
 · exact gy rfl (bbF e) <| tm rfl <| gy rfl (bbF e) <| tv (pI pp F rfl) rfl <| tv (pF (bbF e)) rfl <| nj y (bOf e)
/-! ### fettle/fettleref02.ints -/
abbrev pz.R (r : Bool) (v : Value) (A : List FP) : Prop := .bool r = v ∧ A = []
def pz.nx11  : Option Bool :=
  some true
def pz.bd11 (a1 : List Int) (a4 : List Int) (a : Int) : Option (Ex (Ex Bool Unit) Int) :=
  if a < (len a1) then
    (idx a1 a).bind fun b =>
    (idx a4 a).bind fun c =>
    if ¬ b = c then
      some (.ret (.ret false))
    else
      some (.go (w64 (a + 1)))
  else
    some (.ret (.go ()))
def pz (a1 : List Int) (a4 : List Int) : Option Bool :=
  if ¬ (len a1) = (len a4) then
    some false
  else
    (whl (fun (s : Int) => pz.bd11 a1 a4 s) nB 0).bind fun z =>
    match z with
      | .ret r => some r
      | .go p => pz.nx11
theorem sc {E : World} {H : FP} {w : World} {a1 : List Int} {a4 : List Int} {v2 : Value} {a : Value} {r : Bool} (b : SlI (nt .i64) H a1 v2) (c : SlI (nt .i64) H a4 a) (hp : pz a1 a4 = some r) (hst : St E H [] w) :
    Fn Try.prog 31 #[v2, a] w fun v w' => ∃ A, pz.R r v A ∧ St E H A w' := by
 refine fb 26 [.tmp 4] Try.func31 rfl rfl rfl rfl rfl hst <| sr <| ta rfl <| nz <| nv fun F h => sr <| tm rfl <| tv (ln u25 b rfl) rfl <| tm rfl <| tv (ln u25 c rfl) rfl <| tv (bne rfl rfl) rfl <| nz <| cD rfl hp (fun i hp => ?_) fun i hp => ?_
 · exact sr <| ta rfl <| nz <| nH <| rt hp [] ⟨rfl, rfl⟩
 · refine sk h rfl <| nv fun j k => sr <| ta rfl <| nz <| nC <| bE hp fun l m d => ?_
   have n {o} (p : .go () = l) : ∀ w, St E H [] w → j (ovr o []) w := by
    subst p
    replace hp : pz.nx11 = some r := d
    exact tg k <| sr <| ta rfl <| nz <| nH <| rt hp [] ⟨rfl, rfl⟩
   refine lp m [] rfl (fun s e L => ∃ f, e = ovr f [(0, v2), (1, a), (5, .int .i64 s)] ∧ L = []) ⟨_, nD _ _ rfl, rfl⟩ ?_
   rintro q _ _ ⟨f, rfl, rfl⟩ t hp g
   replace hp : pz.bd11 a1 a4 q = some t := hp
   refine nv fun G u => sr <| tm rfl <| tm rfl <| tv (ln u25 b rfl) rfl <| tv (blt rfl rfl) rfl <| nz <| cD rfl hp (fun x hp => ?_) fun x hp => ?_
   · refine sk u rfl <| nv fun I y => nC <| nv fun J z => cq mix (by kernel_rfl) <| qv mv rfl <| qv mv rfl <| qi u25 i3 b hp rfl rfl rfl rfl ?_
     rintro K M N _ hp rfl B
     refine qv (lr s3 sH B 0 rfl rfl) rfl <| qv mv rfl <| qv mv rfl <| qi u25 i3 c hp rfl rfl rfl rfl ?_
     rintro O P Q _ hp rfl C
     refine qv (lr s3 sH C 0 rfl rfl) rfl <| qv (bne rfl rfl) rfl <| QL.nil <| tg z <| cD rfl hp (fun D hp => ?_) fun D hp => ?_
     · refine sr <| ta rfl <| nz <| nH ?_
       obtain rfl := nJ hp g
       exact rt d [] ⟨rfl, rfl⟩
     · exact sk y rfl <| nG <| tm rfl <| tv (bad rfl rfl) rfl <| ta rfl <| nl <| gk hp [] ⟨_, nD _ _ rfl, rfl⟩
   · exact nN <| jn [] (n (nJ hp g))
/-! ### fettle/fettleref02.sameBlock -/
abbrev pd.R (r : Bool) (v : Value) (A : List FP) : Prop := .bool r = v ∧ A = []
def pd.nx40  : Option Bool :=
  some true
def pd.bd40 (a1 : ny) (a8 : ny) (c : Int) : Option (Ex (Ex Bool Unit) Int) :=
  if c < (len a1.ins) then
    (idx a1.ins c).bind fun a =>
    (idx a8.ins c).bind fun b =>
    (if (¬ a.op = b.op) ∨ (¬ a.dst = b.dst) then some true else (pz a.args b.args).bind fun d =>
    some (!d)).bind fun e =>
    if (e = true ∨ (¬ a.imm = b.imm)) ∨ (¬ a.fn = b.fn) then
      some (.ret (.ret false))
    else
      some (.go (w64 (c + 1)))
  else
    some (.ret (.go ()))
def pd.nx31 (a1 : ny) (a8 : ny) : Option Bool :=
  (whl (fun (s : Int) => pd.bd40 a1 a8 s) nB 0).bind fun z =>
  match z with
    | .ret r => some r
    | .go p => pd.nx40
def pd.bd31 (a1 : ny) (a8 : ny) (a : Int) : Option (Ex (Ex Bool Unit) Int) :=
  if a < (len a1.phis) then
    (idx a1.phis a).bind fun b =>
    (idx a8.phis a).bind fun c =>
    (if ¬ b.dst = c.dst then some true else (idx a1.phis a).bind fun d =>
    (idx a8.phis a).bind fun e =>
    (pz d.args e.args).bind fun f =>
    some (!f)).bind fun g =>
    if g = true then
      some (.ret (.ret false))
    else
      some (.go (w64 (a + 1)))
  else
    some (.ret (.go ()))
def pd (a1 : ny) (a8 : ny) : Option Bool :=
  (if (((¬ (len a1.phis) = (len a8.phis)) ∨ (¬ (len a1.ins) = (len a8.ins))) ∨ (¬ a1.term.kind = a8.term.kind)) ∨ (¬ a1.term.arg = a8.term.arg) then some true else (pz a1.term.to a8.term.to).bind fun a =>
  some (!a)).bind fun b =>
  if b = true then
    some false
  else
    (whl (fun (s : Int) => pd.bd31 a1 a8 s) nB 0).bind fun z =>
    match z with
      | .ret r => some r
      | .go p => pd.nx31 a1 a8
set_option maxHeartbeats 4000000 in
theorem xb {E : World} {H : FP} {w : World} {a1 : ny} {a8 : ny} {v2 : Value} {m : Value} {n : Value} {o : Value} {p : Value} {q : Value} {r : Bool} (G : SlI o0 H a1.phis v2) (I : SlI oK H a1.ins m) (af : SlI (nt .i64) H a1.term.to n) (J : SlI o0 H a8.phis o) (K : SlI oK H a8.ins p) (ag : SlI (nt .i64) H a8.term.to q) (hp : pd a1 a8 = some r) (hst : St E H [] w) :
    Fn Try.prog 32 #[.agg #[v2, m, .int .i64 a1.term.kind, .int .i64 a1.term.arg, n], .agg #[o, p, .int .i64 a8.term.kind, .int .i64 a8.term.arg, q]] w fun v w' => ∃ A, pd.R r v A ∧ St E H A w' := by
 refine fb 140 [.tmp 4] Try.func32 rfl rfl rfl rfl rfl hst <| sr <| tb [v2, m, .int .i64 a1.term.kind, .int .i64 a1.term.arg, n] rfl rfl fun d => tb [o, p, .int .i64 a8.term.kind, .int .i64 a8.term.arg, q] rfl rfl fun f => ta rfl <| nz <| nv fun bs ah => sr <| tv (fa oL rfl) rfl <| tv (lb s47 1 rfl rfl rfl) rfl <| tv (ln u47 G rfl) rfl <| tv (fa oL rfl) rfl <| tv (lb s47 0 rfl rfl rfl) rfl <| tv (ln u47 J rfl) rfl <| tv (bne rfl rfl) rfl <| tm rfl <| TL.cut 8 fun ai aj => ?_
 have M {ak} : ∀ w, St E H [bx f 50 [o, p, .int .i64 a8.term.kind, .int .i64 a8.term.arg, q], bx d 50 [v2, m, .int .i64 a1.term.kind, .int .i64 a1.term.arg, n]] w → ai (ovr ak [(24, .bool (decide ((¬ (len a1.phis) = (len a8.phis)) ∨ (¬ (len a1.ins) = (len a8.ins))))), (2, .pointer (some ⟨d, 0, none⟩)), (3, .pointer (some ⟨f, 0, none⟩))]) w := by
  refine tlg aj <| tm rfl <| TL.cut 8 fun al am => ?_
  have N {an} : ∀ w, St E H [bx f 50 [o, p, .int .i64 a8.term.kind, .int .i64 a8.term.arg, q], bx d 50 [v2, m, .int .i64 a1.term.kind, .int .i64 a1.term.arg, n]] w → al (ovr an [(33, .bool (decide (((¬ (len a1.phis) = (len a8.phis)) ∨ (¬ (len a1.ins) = (len a8.ins))) ∨ (¬ a1.term.kind = a8.term.kind)))), (2, .pointer (some ⟨d, 0, none⟩)), (3, .pointer (some ⟨f, 0, none⟩))]) w := by
   refine tlg am <| tm rfl <| TL.cut 8 fun ao ap => ?_
   have O {aq} : ∀ w, St E H [bx f 50 [o, p, .int .i64 a8.term.kind, .int .i64 a8.term.arg, q], bx d 50 [v2, m, .int .i64 a1.term.kind, .int .i64 a1.term.arg, n]] w → ao (ovr aq [(42, .bool (decide ((((¬ (len a1.phis) = (len a8.phis)) ∨ (¬ (len a1.ins) = (len a8.ins))) ∨ (¬ a1.term.kind = a8.term.kind)) ∨ (¬ a1.term.arg = a8.term.arg)))), (2, .pointer (some ⟨d, 0, none⟩)), (3, .pointer (some ⟨f, 0, none⟩))]) w := by
    refine tlg ap <| tm rfl <| bE hp fun ar ht100 hp => TL.cut 9 fun au av => ?_
    have P {aw} : ∀ w, St E H [bx f 50 [o, p, .int .i64 a8.term.kind, .int .i64 a8.term.arg, q], bx d 50 [v2, m, .int .i64 a1.term.kind, .int .i64 a1.term.arg, n]] w → au (ovr aw [(52, .bool ar), (2, .pointer (some ⟨d, 0, none⟩)), (3, .pointer (some ⟨f, 0, none⟩))]) w := by
     refine tlg av <| nz <| cB rfl hp (fun ax hp => ?_) fun ax hp => ?_
     · exact sr <| ta rfl <| nz <| nH <| rt hp [] ⟨rfl, rfl⟩
     · refine sk ah rfl <| nv fun ay az => sr <| ta rfl <| nz <| nC <| bE hp fun aA aB Q => ?_
       have aC {aD} (aE : .go () = aA) : ∀ w, St E H [bx d 50 [v2, m, .int .i64 a1.term.kind, .int .i64 a1.term.arg, n], bx f 50 [o, p, .int .i64 a8.term.kind, .int .i64 a8.term.arg, q]] w → ay (ovr aD [(2, .pointer (some ⟨d, 0, none⟩)), (3, .pointer (some ⟨f, 0, none⟩))]) w := by
        subst aE
        replace hp : pd.nx31 a1 a8 = some r := Q
        refine tg az <| nv fun aF aG => sr <| ta rfl <| nz <| nC <| bE hp fun aH aI S => ?_
        have aJ {aK} (aL : .go () = aH) : ∀ w, St E H [] w → aF (ovr aK []) w := by
         subst aL
         replace hp : pd.nx40 = some r := S
         exact tg aG <| sr <| ta rfl <| nz <| nH <| rt hp [] ⟨rfl, rfl⟩
        refine lp aI [0, 1] rfl (fun s e L => ∃ T, e = ovr T [(2, .pointer (some ⟨d, 0, none⟩)), (3, .pointer (some ⟨f, 0, none⟩)), (6, .int .i64 s)] ∧ L = [bx d 50 [v2, m, .int .i64 a1.term.kind, .int .i64 a1.term.arg, n], bx f 50 [o, p, .int .i64 a8.term.kind, .int .i64 a8.term.arg, q]]) ⟨_, nD _ _ rfl, rfl⟩ ?_
        rintro D _ _ ⟨T, rfl, rfl⟩ aM hp U
        replace hp : pd.bd40 a1 a8 D = some aM := hp
        refine nv fun bt aN => sr <| tm rfl <| tv (fa ou rfl) rfl <| tv (lb s48 0 rfl rfl rfl) rfl <| tv (ln u48 I rfl) rfl <| tv (blt rfl rfl) rfl <| nz <| cD rfl hp (fun aO hp => ?_) fun aO hp => ?_
        · refine sk aN rfl <| nv fun bu aP => nC <| sr <| tv (fa ou rfl) rfl <| tv (lb s48 0 rfl rfl rfl) rfl <| tm rfl <| ti u48 i52 I hp rfl rfl rfl rfl ?_
          rintro a bv bw _ hp ⟨B, rfl, V⟩ aQ
          refine tv (lR (ds := [.int .i64 a.op, .int .i64 a.dst, B, .int .i64 a.imm, .int .i64 a.fn]) pi sH aQ 0 rfl rfl rfl) rfl <| tl i52 rfl fun y => tS 0 m52 rfl rfl [.int .i64 a.op, .int .i64 a.dst, B, .int .i64 a.imm, .int .i64 a.fn] rfl (oc rfl (oc rfl (oc (V).one (oc rfl (oc rfl oc0))))) rfl rfl <| nz <| sr <| tv (fa ou rfl) rfl <| tv (lb s48 2 rfl rfl rfl) rfl <| tm rfl <| ti u48 i52 K hp rfl rfl rfl rfl ?_
          rintro b bz bA _ hp ⟨C, rfl, W⟩ aR
          refine tv (lR (ds := [.int .i64 b.op, .int .i64 b.dst, C, .int .i64 b.imm, .int .i64 b.fn]) pi sH aR 0 rfl rfl rfl) rfl <| tl i52 rfl fun z => tS 0 m52 rfl rfl [.int .i64 b.op, .int .i64 b.dst, C, .int .i64 b.imm, .int .i64 b.fn] rfl (oc rfl (oc rfl (oc (W).one (oc rfl (oc rfl oc0))))) rfl rfl <| nz <| sr <| tv (fa qC rfl) rfl <| tv (lb s3 1 rfl rfl rfl) rfl <| tv (fa qC rfl) rfl <| tv (lb s3 0 rfl rfl rfl) rfl <| tv (bne rfl rfl) rfl <| tm rfl <| TL.cut 6 fun aS aT => ?_
          have X {aU} : ∀ w, St E H [bx z 52 [.int .i64 b.op, .int .i64 b.dst, C, .int .i64 b.imm, .int .i64 b.fn], bx y 52 [.int .i64 a.op, .int .i64 a.dst, B, .int .i64 a.imm, .int .i64 a.fn], bx d 50 [v2, m, .int .i64 a1.term.kind, .int .i64 a1.term.arg, n], bx f 50 [o, p, .int .i64 a8.term.kind, .int .i64 a8.term.arg, q]] w → aS (ovr aU [(117, .bool (decide ((¬ a.op = b.op) ∨ (¬ a.dst = b.dst)))), (2, .pointer (some ⟨d, 0, none⟩)), (3, .pointer (some ⟨f, 0, none⟩)), (6, .int .i64 D), (7, .pointer (some ⟨y, 0, none⟩)), (8, .pointer (some ⟨z, 0, none⟩))]) w := by
           refine tlg aT <| tm rfl <| bE hp fun F ht72 hp => TL.cut 7 fun aV aW => ?_
           have Y {aX} : ∀ w, St E H [bx z 52 [.int .i64 b.op, .int .i64 b.dst, C, .int .i64 b.imm, .int .i64 b.fn], bx y 52 [.int .i64 a.op, .int .i64 a.dst, B, .int .i64 a.imm, .int .i64 a.fn], bx d 50 [v2, m, .int .i64 a1.term.kind, .int .i64 a1.term.arg, n], bx f 50 [o, p, .int .i64 a8.term.kind, .int .i64 a8.term.arg, q]] w → aV (ovr aX [(125, .bool F), (2, .pointer (some ⟨d, 0, none⟩)), (3, .pointer (some ⟨f, 0, none⟩)), (6, .int .i64 D), (7, .pointer (some ⟨y, 0, none⟩)), (8, .pointer (some ⟨z, 0, none⟩))]) w := by
            refine tlg aW <| tm rfl <| TL.cut 6 fun aY aZ => ?_
            have Z {a0} : ∀ w, St E H [bx z 52 [.int .i64 b.op, .int .i64 b.dst, C, .int .i64 b.imm, .int .i64 b.fn], bx y 52 [.int .i64 a.op, .int .i64 a.dst, B, .int .i64 a.imm, .int .i64 a.fn], bx d 50 [v2, m, .int .i64 a1.term.kind, .int .i64 a1.term.arg, n], bx f 50 [o, p, .int .i64 a8.term.kind, .int .i64 a8.term.arg, q]] w → aY (ovr a0 [(132, .bool (decide (F = true ∨ (¬ a.imm = b.imm)))), (2, .pointer (some ⟨d, 0, none⟩)), (3, .pointer (some ⟨f, 0, none⟩)), (6, .int .i64 D), (7, .pointer (some ⟨y, 0, none⟩)), (8, .pointer (some ⟨z, 0, none⟩))]) w := by
             refine tlg aZ <| tm rfl <| TL.cut 6 fun a2 a3 => ?_
             have aa {a5} : ∀ w, St E H [bx z 52 [.int .i64 b.op, .int .i64 b.dst, C, .int .i64 b.imm, .int .i64 b.fn], bx y 52 [.int .i64 a.op, .int .i64 a.dst, B, .int .i64 a.imm, .int .i64 a.fn], bx d 50 [v2, m, .int .i64 a1.term.kind, .int .i64 a1.term.arg, n], bx f 50 [o, p, .int .i64 a8.term.kind, .int .i64 a8.term.arg, q]] w → a2 (ovr a5 [(139, .bool (decide ((F = true ∨ (¬ a.imm = b.imm)) ∨ (¬ a.fn = b.fn)))), (2, .pointer (some ⟨d, 0, none⟩)), (3, .pointer (some ⟨f, 0, none⟩)), (6, .int .i64 D)]) w := by
              refine tlg a3 <| nz <| cD rfl hp (fun a6 hp => ?_) fun a6 hp => ?_
              · refine sr <| ta rfl <| nz <| nH ?_
                obtain rfl := nJ hp U
                exact rt S [] ⟨rfl, rfl⟩
              · exact sk aP rfl <| nG <| tm rfl <| tv (bad rfl rfl) rfl <| ta rfl <| nl <| gk hp [2, 3] ⟨_, nD _ _ rfl, rfl⟩
             by_cases t : F = true ∨ (¬ a.imm = b.imm)
             · exact gn rfl (bT t) rfl rfl <| gn rfl (bT t) rfl rfl <| gn rfl (bT t) rfl rfl <| gn rfl (bT t) rfl rfl <| gn rfl (bT t) rfl rfl <| tv (pT (bT t)) rfl <| nj aa (bOt t)
             · exact gy rfl (bF t) <| tv (fa qD rfl) rfl <| gy rfl (bF t) <| tv (lb s3 1 rfl rfl rfl) rfl <| gy rfl (bF t) <| tv (fa qD rfl) rfl <| gy rfl (bF t) <| tv (lb s3 0 rfl rfl rfl) rfl <| gy rfl (bF t) <| tv (bne rfl rfl) rfl <| tv (pF (bF t)) rfl <| nj aa (bOf t)
            by_cases u : F = true
            · exact gn rfl (bbT u) rfl rfl <| gn rfl (bbT u) rfl rfl <| gn rfl (bbT u) rfl rfl <| gn rfl (bbT u) rfl rfl <| gn rfl (bbT u) rfl rfl <| tv (pT (bbT u)) rfl <| nj Z (bOt u)
            · exact gy rfl (bbF u) <| tv (fa qU rfl) rfl <| gy rfl (bbF u) <| tv (lb s2 1 rfl rfl rfl) rfl <| gy rfl (bbF u) <| tv (fa qU rfl) rfl <| gy rfl (bbF u) <| tv (lb s2 0 rfl rfl rfl) rfl <| gy rfl (bbF u) <| tv (bne rfl rfl) rfl <| tv (pF (bbF u)) rfl <| nj Z (bOf u)
           refine ifE ht72 (fun l hp => ?_) fun l hp => ?_
           · refine gn rfl (bT l) rfl rfl <| gn rfl (bT l) rfl rfl <| gn rfl (bT l) rfl rfl <| gn rfl (bT l) rfl rfl <| gn rfl (bT l) rfl rfl <| gn rfl (bT l) rfl rfl <| tv (pT (bT l)) rfl ?_
             obtain rfl := Option.some.inj hp
             exact nj Y rfl
           · refine gy rfl (bF l) <| tv (fa o9 rfl) rfl <| gy rfl (bF l) <| tv (lb s25 1 rfl rfl rfl) rfl <| gy rfl (bF l) <| tv (fa o9 rfl) rfl <| gy rfl (bF l) <| tv (lb s25 0 rfl rfl rfl) rfl <| gy rfl (bF l) <| bE hp fun bB hy73 hp => tc 0 [_,_,_,_] rfl c31 (fun _ => sc (a1 := a.args) (a4 := b.args) (V.mono nw) (W.mono nw) hy73) rfl ?_
             rintro _ _ ⟨rfl, rfl⟩
             refine gy rfl (bF l) <| tv (oO rfl) rfl <| tv (pF (bF l)) rfl ?_
             obtain rfl := Option.some.inj hp
             exact nj Y rfl
          by_cases x : ¬ a.op = b.op
          · exact gn rfl (bT x) rfl rfl <| gn rfl (bT x) rfl rfl <| gn rfl (bT x) rfl rfl <| gn rfl (bT x) rfl rfl <| gn rfl (bT x) rfl rfl <| tv (pT (bT x)) rfl <| nj X (bOt x)
          · exact gy rfl (bF x) <| tv (fa pj rfl) rfl <| gy rfl (bF x) <| tv (lb s3 1 rfl rfl rfl) rfl <| gy rfl (bF x) <| tv (fa pj rfl) rfl <| gy rfl (bF x) <| tv (lb s3 0 rfl rfl rfl) rfl <| gy rfl (bF x) <| tv (bne rfl rfl) rfl <| tv (pF (bF x)) rfl <| nj X (bOf x)
        · exact nN <| jn [] (aJ (nJ hp U))
       refine lp aB [1, 0] rfl (fun s e L => ∃ ab, e = ovr ab [(2, .pointer (some ⟨d, 0, none⟩)), (3, .pointer (some ⟨f, 0, none⟩)), (5, .int .i64 s)] ∧ L = [bx d 50 [v2, m, .int .i64 a1.term.kind, .int .i64 a1.term.arg, n], bx f 50 [o, p, .int .i64 a8.term.kind, .int .i64 a8.term.arg, q]]) ⟨_, nD _ _ rfl, rfl⟩ ?_
       rintro ac _ _ ⟨ab, rfl, rfl⟩ a7 hp ad
       replace hp : pd.bd31 a1 a8 ac = some a7 := hp
       refine nv fun bC a9 => sr <| tm rfl <| tv (fa oL rfl) rfl <| tv (lb s47 0 rfl rfl rfl) rfl <| tv (ln u47 G rfl) rfl <| tv (blt rfl rfl) rfl <| nz <| cD rfl hp (fun ba hp => ?_) fun ba hp => ?_
       · refine sk a9 rfl <| nv fun bD bb => nC <| nv fun bG bc => cq mix (by kernel_rfl) <| qv (fa oL rfl) rfl <| qv (lb s47 0 rfl rfl rfl) rfl <| qv mv rfl <| qi u47 i70 G hp rfl rfl rfl rfl ?_
         rintro bH bI bJ _ hp ⟨bK, rfl, bL⟩ be
         refine qv (fa qx rfl) rfl <| qv (lr s3 sH be 0 rfl rfl) rfl <| qv (fa oL rfl) rfl <| qv (lb s47 1 rfl rfl rfl) rfl <| qv mv rfl <| qi u47 i70 J hp rfl rfl rfl rfl ?_
         rintro bM bN bO _ hp ⟨bP, rfl, bQ⟩ bf
         refine qv (fa qx rfl) rfl <| qv (lr s3 sH bf 0 rfl rfl) rfl <| qv (bne rfl rfl) rfl <| qv mv rfl <| bE hp fun bg ht94 hp => QL.cut 15 fun bh bi => ?_
         have ae {bj} : bh (ovr bj [(88, .bool bg), (2, .pointer (some ⟨d, 0, none⟩)), (3, .pointer (some ⟨f, 0, none⟩)), (5, .int .i64 ac)]) := by
          refine bi _ <| QL.nil <| tg bc <| cB rfl hp (fun bk hp => ?_) fun bk hp => ?_
          · refine sr <| ta rfl <| nz <| nH ?_
            obtain rfl := nJ hp ad
            exact rt Q [] ⟨rfl, rfl⟩
          · exact sk bb rfl <| nG <| tm rfl <| tv (bad rfl rfl) rfl <| ta rfl <| nl <| gk hp [0, 1] ⟨_, nD _ _ rfl, rfl⟩
         refine ifE ht94 (fun c hp => ?_) fun c hp => ?_
         · refine qgn rfl (bT c) rfl rfl <| qgn rfl (bT c) rfl rfl <| qgn rfl (bT c) rfl rfl <| qgn rfl (bT c) rfl rfl <| qgn rfl (bT c) rfl rfl <| qgn rfl (bT c) rfl rfl <| qgn rfl (bT c) rfl rfl <| qgn rfl (bT c) rfl rfl <| qgn rfl (bT c) rfl rfl <| qgn rfl (bT c) rfl rfl <| qgn rfl (bT c) rfl rfl <| qgn rfl (bT c) rfl rfl <| qgn rfl (bT c) rfl rfl <| qgn rfl (bT c) rfl rfl <| qv (pT (bT c)) rfl ?_
           obtain rfl := Option.some.inj hp
           exact qj ae rfl
         · refine qgy rfl (bF c) <| qv (fa oL rfl) rfl <| qgy rfl (bF c) <| qv (lb s47 0 rfl rfl rfl) rfl <| qgy rfl (bF c) <| qv mv rfl <| qgy rfl (bF c) <| qi u47 i70 G hp rfl rfl rfl rfl ?_
           rintro bl bR bS _ hp ⟨bU, rfl, bm⟩ bn
           refine qgy rfl (bF c) <| qv (fa p5 rfl) rfl <| qgy rfl (bF c) <| qv (lr s25 sH bn 1 rfl rfl) rfl <| qgy rfl (bF c) <| qv (fa oL rfl) rfl <| qgy rfl (bF c) <| qv (lb s47 1 rfl rfl rfl) rfl <| qgy rfl (bF c) <| qv mv rfl <| qgy rfl (bF c) <| qi u47 i70 J hp rfl rfl rfl rfl ?_
           rintro bo bV bW _ hp ⟨bX, rfl, bp⟩ bq
           refine qgy rfl (bF c) <| qv (fa p5 rfl) rfl <| qgy rfl (bF c) <| qv (lr s25 sH bq 1 rfl rfl) rfl <| qgy rfl (bF c) <| bE hp fun br hy97 hp => qc (.bool br) c31 (fun _ => sc (a1 := bl.args) (a4 := bo.args) (bm.mono nw) (bp.mono nw) hy97) (fun _ _ h => ⟨h.1.symm, h.2⟩) rfl <| qgy rfl (bF c) <| qv (oO rfl) rfl <| qv (pF (bF c)) rfl ?_
           obtain rfl := Option.some.inj hp
           exact qj ae rfl
       · exact nN <| jn [0, 1] (aC (nJ hp ad))
    refine ifE ht100 (fun g hp => ?_) fun g hp => ?_
    · refine gn rfl (bT g) rfl rfl <| gn rfl (bT g) rfl rfl <| gn rfl (bT g) rfl rfl <| gn rfl (bT g) rfl rfl <| gn rfl (bT g) rfl rfl <| gn rfl (bT g) rfl rfl <| gn rfl (bT g) rfl rfl <| gn rfl (bT g) rfl rfl <| tv (pT (bT g)) rfl ?_
      obtain rfl := Option.some.inj hp
      exact nj P rfl
    · refine gy rfl (bF g) <| tv (fa oP rfl) rfl <| gy rfl (bF g) <| tv (fa pf rfl) rfl <| gy rfl (bF g) <| tv (lb s25 1 rfl rfl rfl) rfl <| gy rfl (bF g) <| tv (fa oP rfl) rfl <| gy rfl (bF g) <| tv (fa pf rfl) rfl <| gy rfl (bF g) <| tv (lb s25 0 rfl rfl rfl) rfl <| gy rfl (bF g) <| bE hp fun bY hy101 hp => tc 0 [_,_] rfl c31 (fun _ => sc (a1 := a1.term.to) (a4 := a8.term.to) (af.mono nw) (ag.mono nw) hy101) rfl ?_
      rintro _ _ ⟨rfl, rfl⟩
      refine gy rfl (bF g) <| tv (oO rfl) rfl <| tv (pF (bF g)) rfl ?_
      obtain rfl := Option.some.inj hp
      exact nj P rfl
   by_cases i : ((¬ (len a1.phis) = (len a8.phis)) ∨ (¬ (len a1.ins) = (len a8.ins))) ∨ (¬ a1.term.kind = a8.term.kind)
   · exact gn rfl (bT i) rfl rfl <| gn rfl (bT i) rfl rfl <| gn rfl (bT i) rfl rfl <| gn rfl (bT i) rfl rfl <| gn rfl (bT i) rfl rfl <| gn rfl (bT i) rfl rfl <| gn rfl (bT i) rfl rfl <| tv (pT (bT i)) rfl <| nj O (bOt i)
   · exact gy rfl (bF i) <| tv (fa oP rfl) rfl <| gy rfl (bF i) <| tv (fa pJ rfl) rfl <| gy rfl (bF i) <| tv (lb s3 1 rfl rfl rfl) rfl <| gy rfl (bF i) <| tv (fa oP rfl) rfl <| gy rfl (bF i) <| tv (fa pJ rfl) rfl <| gy rfl (bF i) <| tv (lb s3 0 rfl rfl rfl) rfl <| gy rfl (bF i) <| tv (bne rfl rfl) rfl <| tv (pF (bF i)) rfl <| nj O (bOf i)
  by_cases j : (¬ (len a1.phis) = (len a8.phis)) ∨ (¬ (len a1.ins) = (len a8.ins))
  · exact gn rfl (bT j) rfl rfl <| gn rfl (bT j) rfl rfl <| gn rfl (bT j) rfl rfl <| gn rfl (bT j) rfl rfl <| gn rfl (bT j) rfl rfl <| gn rfl (bT j) rfl rfl <| gn rfl (bT j) rfl rfl <| tv (pT (bT j)) rfl <| nj N (bOt j)
  · exact gy rfl (bF j) <| tv (fa oP rfl) rfl <| gy rfl (bF j) <| tv (fa qg rfl) rfl <| gy rfl (bF j) <| tv (lb s3 1 rfl rfl rfl) rfl <| gy rfl (bF j) <| tv (fa oP rfl) rfl <| gy rfl (bF j) <| tv (fa qg rfl) rfl <| gy rfl (bF j) <| tv (lb s3 0 rfl rfl rfl) rfl <| gy rfl (bF j) <| tv (bne rfl rfl) rfl <| tv (pF (bF j)) rfl <| nj N (bOf j)
 by_cases k : ¬ (len a1.phis) = (len a8.phis)
 · exact gn rfl (bT k) rfl rfl <| gn rfl (bT k) rfl rfl <| gn rfl (bT k) rfl rfl <| gn rfl (bT k) rfl rfl <| gn rfl (bT k) rfl rfl <| gn rfl (bT k) rfl rfl <| gn rfl (bT k) rfl rfl <| tv (pT (bT k)) rfl <| nj M (bOt k)
 · exact gy rfl (bF k) <| tv (fa ou rfl) rfl <| gy rfl (bF k) <| tv (lb s48 1 rfl rfl rfl) rfl <| gy rfl (bF k) <| tv (ln u48 I rfl) rfl <| gy rfl (bF k) <| tv (fa ou rfl) rfl <| gy rfl (bF k) <| tv (lb s48 0 rfl rfl rfl) rfl <| gy rfl (bF k) <| tv (ln u48 K rfl) rfl <| gy rfl (bF k) <| tv (bne rfl rfl) rfl <| tv (pF (bF k)) rfl <| nj M (bOf k)
/-! ### fettle/fettleref02.SameFunc -/
abbrev pH.R (r : Bool) (v : Value) (A : List FP) : Prop := .bool r = v ∧ A = []
def pH.nx26  : Option Bool :=
  some true
def pH.bd26 (a1 : nA) (a6 : nA) (a : Int) : Option (Ex (Ex Bool Unit) Int) :=
  if a < (len a1.blocks) then
    (idx a1.blocks a).bind fun b =>
    (idx a6.blocks a).bind fun c =>
    (pd b c).bind fun d =>
    if (!d) = true then
      some (.ret (.ret false))
    else
      some (.go (w64 (a + 1)))
  else
    some (.ret (.go ()))
def pH (a1 : nA) (a6 : nA) : Option Bool :=
  (if (¬ a1.params = a6.params) ∨ (¬ a1.result = a6.result) then some true else (pz a1.regs a6.regs).bind fun a =>
  some (!a)).bind fun b =>
  if b = true ∨ (¬ (len a1.blocks) = (len a6.blocks)) then
    some false
  else
    (whl (fun (s : Int) => pH.bd26 a1 a6 s) nB 0).bind fun z =>
    match z with
      | .ret r => some r
      | .go p => pH.nx26
set_option maxHeartbeats 4000000 in
theorem t6 {E : World} {H : FP} {w : World} {a1 : nA} {a6 : nA} {v2 : Value} {g : Value} {i : Value} {j : Value} {r : Bool} (z : SlI (nt .i64) H a1.regs v2) (k : SlI nW H a1.blocks g) (B : SlI (nt .i64) H a6.regs i) (o : SlI nW H a6.blocks j) (hp : pH a1 a6 = some r) (hst : St E H [] w) :
    Fn Try.prog 16 #[.agg #[.int .i64 a1.params, .int .i64 a1.result, v2, g], .agg #[.int .i64 a6.params, .int .i64 a6.result, i, j]] w fun v w' => ∃ A, pH.R r v A ∧ St E H A w' := by
 refine fb 56 [.tmp 4] Try.func16 rfl rfl rfl rfl rfl hst <| sr <| tb [.int .i64 a1.params, .int .i64 a1.result, v2, g] rfl rfl fun d => tb [.int .i64 a6.params, .int .i64 a6.result, i, j] rfl rfl fun f => ta rfl <| nz <| nv fun aw C => sr <| tv (fa py rfl) rfl <| tv (lb s3 1 rfl rfl rfl) rfl <| tv (fa py rfl) rfl <| tv (lb s3 0 rfl rfl rfl) rfl <| tv (bne rfl rfl) rfl <| tm rfl <| TL.cut 6 fun D F => ?_
 have p {G} : ∀ w, St E H [bx f 41 [.int .i64 a6.params, .int .i64 a6.result, i, j], bx d 41 [.int .i64 a1.params, .int .i64 a1.result, v2, g]] w → D (ovr G [(18, .bool (decide ((¬ a1.params = a6.params) ∨ (¬ a1.result = a6.result)))), (2, .pointer (some ⟨d, 0, none⟩)), (3, .pointer (some ⟨f, 0, none⟩))]) w := by
  refine tlg F <| tm rfl <| bE hp fun l ht43 hp => TL.cut 7 fun I J => ?_
  have q {K} : ∀ w, St E H [bx f 41 [.int .i64 a6.params, .int .i64 a6.result, i, j], bx d 41 [.int .i64 a1.params, .int .i64 a1.result, v2, g]] w → I (ovr K [(26, .bool l), (2, .pointer (some ⟨d, 0, none⟩)), (3, .pointer (some ⟨f, 0, none⟩))]) w := by
   refine tlg J <| tm rfl <| TL.cut 8 fun M N => ?_
   have t {O} : ∀ w, St E H [bx f 41 [.int .i64 a6.params, .int .i64 a6.result, i, j], bx d 41 [.int .i64 a1.params, .int .i64 a1.result, v2, g]] w → M (ovr O [(35, .bool (decide (l = true ∨ (¬ (len a1.blocks) = (len a6.blocks))))), (2, .pointer (some ⟨d, 0, none⟩)), (3, .pointer (some ⟨f, 0, none⟩))]) w := by
    refine tlg N <| nz <| cD rfl hp (fun P hp => ?_) fun P hp => ?_
    · exact sr <| ta rfl <| nz <| nH <| rt hp [] ⟨rfl, rfl⟩
    · refine sk C rfl <| nv fun Q S => sr <| ta rfl <| nz <| nC <| bE hp fun T U u => ?_
      have V {W} (X : .go () = T) : ∀ w, St E H [] w → Q (ovr W []) w := by
       subst X
       replace hp : pH.nx26 = some r := u
       exact tg S <| sr <| ta rfl <| nz <| nH <| rt hp [] ⟨rfl, rfl⟩
      refine lp U [1, 0] rfl (fun s e L => ∃ x, e = ovr x [(2, .pointer (some ⟨d, 0, none⟩)), (3, .pointer (some ⟨f, 0, none⟩)), (5, .int .i64 s)] ∧ L = [bx d 41 [.int .i64 a1.params, .int .i64 a1.result, v2, g], bx f 41 [.int .i64 a6.params, .int .i64 a6.result, i, j]]) ⟨_, nD _ _ rfl, rfl⟩ ?_
      rintro Y _ _ ⟨x, rfl, rfl⟩ Z hp y
      replace hp : pH.bd26 a1 a6 Y = some Z := hp
      refine nv fun ax aa => sr <| tm rfl <| tv (fa n6 rfl) rfl <| tv (lb s39 0 rfl rfl rfl) rfl <| tv (ln u39 k rfl) rfl <| tv (blt rfl rfl) rfl <| nz <| cD rfl hp (fun ab hp => ?_) fun ab hp => ?_
      · refine sk aa rfl <| nv fun ay ac => nC <| nv fun az ad => cq mix (by kernel_rfl) <| qv (fa n6 rfl) rfl <| qv (lb s39 0 rfl rfl rfl) rfl <| qv mv rfl <| qi u39 i50 k hp rfl rfl rfl rfl ?_
        rintro m aA aB _ hp ⟨ae, af, ag, rfl, ah, ai, aj⟩ ak
        refine qv (lR (ds := [ae, af, .int .i64 m.term.kind, .int .i64 m.term.arg, ag]) o5 sH ak 0 rfl rfl rfl) rfl <| qv (fa n6 rfl) rfl <| qv (lb s39 1 rfl rfl rfl) rfl <| qv mv rfl <| qi u39 i50 o hp rfl rfl rfl rfl ?_
        rintro n aC aD _ hp ⟨al, am, an, rfl, ao, ap, aq⟩ ar
        refine qv (lR (ds := [al, am, .int .i64 n.term.kind, .int .i64 n.term.arg, an]) o5 sH ar 0 rfl rfl rfl) rfl <| bE hp fun au hy39 hp => qc (.bool au) c32 (fun _ => xb (a1 := m) (a8 := n) (ah.mono nw) (ai.mono nw) (aj.mono nw) (ao.mono nw) (ap.mono nw) (aq.mono nw) hy39) (fun _ _ h => ⟨h.1.symm, h.2⟩) rfl <| qv sg rfl <| QL.nil <| tg ad <| sr <| tm rfl <| tv (oO rfl) rfl <| nz <| cB rfl hp (fun av hp => ?_) fun av hp => ?_
        · refine sr <| ta rfl <| nz <| nH ?_
          obtain rfl := nJ hp y
          exact rt u [] ⟨rfl, rfl⟩
        · exact sk ac rfl <| nG <| tm rfl <| tv (bad rfl rfl) rfl <| ta rfl <| nl <| gk hp [0, 1] ⟨_, nD _ _ rfl, rfl⟩
      · exact nN <| jn [] (V (nJ hp y))
   by_cases a : l = true
   · exact gn rfl (bbT a) rfl rfl <| gn rfl (bbT a) rfl rfl <| gn rfl (bbT a) rfl rfl <| gn rfl (bbT a) rfl rfl <| gn rfl (bbT a) rfl rfl <| gn rfl (bbT a) rfl rfl <| gn rfl (bbT a) rfl rfl <| tv (pT (bbT a)) rfl <| nj t (bOt a)
   · exact gy rfl (bbF a) <| tv (fa n6 rfl) rfl <| gy rfl (bbF a) <| tv (lb s39 1 rfl rfl rfl) rfl <| gy rfl (bbF a) <| tv (ln u39 k rfl) rfl <| gy rfl (bbF a) <| tv (fa n6 rfl) rfl <| gy rfl (bbF a) <| tv (lb s39 0 rfl rfl rfl) rfl <| gy rfl (bbF a) <| tv (ln u39 o rfl) rfl <| gy rfl (bbF a) <| tv (bne rfl rfl) rfl <| tv (pF (bbF a)) rfl <| nj t (bOf a)
  refine ifE ht43 (fun b hp => ?_) fun b hp => ?_
  · refine gn rfl (bT b) rfl rfl <| gn rfl (bT b) rfl rfl <| gn rfl (bT b) rfl rfl <| gn rfl (bT b) rfl rfl <| gn rfl (bT b) rfl rfl <| gn rfl (bT b) rfl rfl <| tv (pT (bT b)) rfl ?_
    obtain rfl := Option.some.inj hp
    exact nj q rfl
  · refine gy rfl (bF b) <| tv (fa oV rfl) rfl <| gy rfl (bF b) <| tv (lb s25 1 rfl rfl rfl) rfl <| gy rfl (bF b) <| tv (fa oV rfl) rfl <| gy rfl (bF b) <| tv (lb s25 0 rfl rfl rfl) rfl <| gy rfl (bF b) <| bE hp fun aE hy44 hp => tc 0 [_,_] rfl c31 (fun _ => sc (a1 := a1.regs) (a4 := a6.regs) (z.mono nw) (B.mono nw) hy44) rfl ?_
    rintro _ _ ⟨rfl, rfl⟩
    refine gy rfl (bF b) <| tv (oO rfl) rfl <| tv (pF (bF b)) rfl ?_
    obtain rfl := Option.some.inj hp
    exact nj q rfl
 by_cases c : ¬ a1.params = a6.params
 · exact gn rfl (bT c) rfl rfl <| gn rfl (bT c) rfl rfl <| gn rfl (bT c) rfl rfl <| gn rfl (bT c) rfl rfl <| gn rfl (bT c) rfl rfl <| tv (pT (bT c)) rfl <| nj p (bOt c)
 · exact gy rfl (bF c) <| tv (fa qb rfl) rfl <| gy rfl (bF c) <| tv (lb s3 1 rfl rfl rfl) rfl <| gy rfl (bF c) <| tv (fa qb rfl) rfl <| gy rfl (bF c) <| tv (lb s3 0 rfl rfl rfl) rfl <| gy rfl (bF c) <| tv (bne rfl rfl) rfl <| tv (pF (bF c)) rfl <| nj p (bOf c)
/-! ### fettle/fettlelaw14.LowerNone -/
abbrev rM.R (r : Bool) (v : Value) (A : List FP) : Prop := .bool r = v ∧ A = []
def rM.nx37 (a4 : Int) (a : Bool) (b : nT) (c : nA × GErr) (d : Bool) : Option Bool :=
  (if a = true then (if d = true then some true else (idx b.funcs a4).bind fun e =>
  (pH c.1 e).bind fun f =>
  some f).bind fun g =>
  some g else some false).bind fun h =>
  some h
def rM.bd37 (a4 : Int) (b : nT) (c : Bool) (a : Int) : Option (Ex Bool (Bool × Int)) :=
  (idx b.funcs a4).bind fun d =>
  if a < (len d.blocks) then
    (if c = true then some true else (idx b.funcs a4).bind fun e =>
    (idx e.blocks a).bind fun f =>
    some (decide ((len f.phis) > 0))).bind fun g =>
    some (.go (g, (w64 (a + 1))))
  else
    some (.ret c)
def rM (a1 : nT) (a4 : Int) : Option Bool :=
  (rc).bind fun b =>
  (oq a1).bind fun d =>
  if (!d) = true then
    some b
  else
    (qM a1 a4 true).bind fun a =>
    (ov a a4).bind fun c =>
    if ((¬ c.2 = GErr.no) ∨ a4 < 0) ∨ a4 ≥ (len a.funcs) then
      some (decide (b = true ∧ (¬ c.2 = GErr.no)))
    else
      (whl (fun (s : (Bool × Int)) => rM.bd37 a4 a s.1 s.2) nB (false, 0)).bind fun z =>
      rM.nx37 a4 b a c z
end Go.Proofs.Ytpmcbahahjelnaa
namespace Go.Proofs.Ytpmcbahahjelnaa
open Go Go.Proofs
/-! ### fettle/fettleref02.Same -/
abbrev pZ.R (r : Bool) (v : Value) (A : List FP) : Prop := .bool r = v ∧ A = []
def pZ.nx11  : Option Bool :=
  some true
def pZ.bd11 (a1 : nT) (a4 : nT) (a : Int) : Option (Ex (Ex Bool Unit) Int) :=
  if a < (len a1.funcs) then
    (idx a1.funcs a).bind fun b =>
    (idx a4.funcs a).bind fun c =>
    (pH b c).bind fun d =>
    if (!d) = true then
      some (.ret (.ret false))
    else
      some (.go (w64 (a + 1)))
  else
    some (.ret (.go ()))
def pZ (a1 : nT) (a4 : nT) : Option Bool :=
  if ¬ (len a1.funcs) = (len a4.funcs) then
    some false
  else
    (whl (fun (s : Int) => pZ.bd11 a1 a4 s) nB 0).bind fun z =>
    match z with
      | .ret r => some r
      | .go p => pZ.nx11
theorem xc {E : World} {H : FP} {w : World} {a1 : nT} {a4 : nT} {v2 : Value} {a : Value} {r : Bool} (b : SlI oB H a1.funcs v2) (f : SlI oB H a4.funcs a) (hp : pZ a1 a4 = some r) (hst : St E H [] w) :
    Fn Try.prog 15 #[.agg #[v2], .agg #[a]] w fun v w' => ∃ A, pZ.R r v A ∧ St E H A w' := by
 refine fb 34 [.tmp 4] Try.func15 rfl rfl rfl rfl rfl hst <| sr <| tb [v2] rfl rfl fun g => tb [a] rfl rfl fun i => ta rfl <| nz <| nv fun W m => sr <| tv (fa oS rfl) rfl <| tv (lb s33 1 rfl rfl rfl) rfl <| tv (ln u33 b rfl) rfl <| tv (fa oS rfl) rfl <| tv (lb s33 0 rfl rfl rfl) rfl <| tv (ln u33 f rfl) rfl <| tv (bne rfl rfl) rfl <| nz <| cD rfl hp (fun n hp => ?_) fun n hp => ?_
 · exact sr <| ta rfl <| nz <| nH <| rt hp [] ⟨rfl, rfl⟩
 · refine sk m rfl <| nv fun o p => sr <| ta rfl <| nz <| nC <| bE hp fun q t j => ?_
   have u {x} (y : .go () = q) : ∀ w, St E H [] w → o (ovr x []) w := by
    subst y
    replace hp : pZ.nx11 = some r := j
    exact tg p <| sr <| ta rfl <| nz <| nH <| rt hp [] ⟨rfl, rfl⟩
   refine lp t [1, 0] rfl (fun s e L => ∃ k, e = ovr k [(2, .pointer (some ⟨g, 0, none⟩)), (3, .pointer (some ⟨i, 0, none⟩)), (5, .int .i64 s)] ∧ L = [bx g 35 [v2], bx i 35 [a]]) ⟨_, nD _ _ rfl, rfl⟩ ?_
   rintro z _ _ ⟨k, rfl, rfl⟩ B hp l
   replace hp : pZ.bd11 a1 a4 z = some B := hp
   refine nv fun X C => sr <| tm rfl <| tv (fa oS rfl) rfl <| tv (lb s33 0 rfl rfl rfl) rfl <| tv (ln u33 b rfl) rfl <| tv (blt rfl rfl) rfl <| nz <| cD rfl hp (fun D hp => ?_) fun D hp => ?_
   · refine sk C rfl <| nv fun Y F => nC <| nv fun Z G => cq mix (by kernel_rfl) <| qv (fa oS rfl) rfl <| qv (lb s33 0 rfl rfl rfl) rfl <| qv mv rfl <| qi u33 i41 b hp rfl rfl rfl rfl ?_
     rintro c aa ab _ hp ⟨I, J, rfl, K, M⟩ N
     refine qv (lR (ds := [.int .i64 c.params, .int .i64 c.result, I, J]) n9 sH N 0 rfl rfl rfl) rfl <| qv (fa oS rfl) rfl <| qv (lb s33 1 rfl rfl rfl) rfl <| qv mv rfl <| qi u33 i41 f hp rfl rfl rfl rfl ?_
     rintro d ac ad _ hp ⟨O, P, rfl, Q, S⟩ T
     refine qv (lR (ds := [.int .i64 d.params, .int .i64 d.result, O, P]) n9 sH T 0 rfl rfl rfl) rfl <| bE hp fun U hy24 hp => qc (.bool U) c16 (fun _ => t6 (a1 := c) (a6 := d) (K.mono nw) (M.mono nw) (Q.mono nw) (S.mono nw) hy24) (fun _ _ h => ⟨h.1.symm, h.2⟩) rfl <| qv sg rfl <| QL.nil <| tg G <| sr <| tm rfl <| tv (oO rfl) rfl <| nz <| cB rfl hp (fun V hp => ?_) fun V hp => ?_
     · refine sr <| ta rfl <| nz <| nH ?_
       obtain rfl := nJ hp l
       exact rt j [] ⟨rfl, rfl⟩
     · exact sk F rfl <| nG <| tm rfl <| tv (bad rfl rfl) rfl <| ta rfl <| nl <| gk hp [0, 1] ⟨_, nD _ _ rfl, rfl⟩
   · exact nN <| jn [] (u (nJ hp l))
/-! ### fettle/fettlelaw14.LowerStays -/
abbrev og.R (r : Bool) (v : Value) (A : List FP) : Prop := .bool r = v ∧ A = []
def og.nx42 (b : Bool) (c : nT) (d : nT) (e : nA × GErr) (f : nA) (a : nA × GErr) : Option Bool :=
  (if b = true then (pZ d c).bind fun g =>
  some g else some false).bind fun h =>
  (if h = true ∧ (((decide (e.2 = GErr.no)) == (decide (a.2 = GErr.no))) = true) then (pH a.1 f).bind fun i =>
  some i else some false).bind fun j =>
  some j
def og.bd42 (a5 : List nK) (b : List nK) (a : Int) : Option (Ex (Ex Bool Unit) Int) :=
  if a < (len b) then
    (idx b a).bind fun c =>
    (idx a5 a).bind fun d =>
    if ¬ c = d then
      some (.ret (.ret false))
    else
      some (.go (w64 (a + 1)))
  else
    some (.ret (.go ()))
def og.nx28 (a4 : Int) (a5 : List nK) (a8 : Int) (c : Bool) (d : nT) (a : nT) (e : nA × GErr) (f : nA) : Option Bool :=
  (ov a a4).bind fun g =>
  (cat ([] : List nK) a5).bind fun b =>
  (n7 b a8).bind fun h =>
  (whl (fun (s : Int) => og.bd42 a5 b s) nB 0).bind fun z =>
  match z with
    | .ret r => some r
    | .go p => og.nx42 c d a e f g
def og.nx100 (a : Int) (b : List ny) : Option (Ex Unit (List ny × Int)) :=
  some (.go (b, (w64 (a + 1))))
def og.nx115 (a : Int) (b : List ny) : Option (Ex (List ny) (List ny × Int)) :=
  some (.go (b, (w64 (a + 1))))
def og.bd115 (e : Int) (f : Int) (c : List ny) (d : Int) : Option (Ex (List ny) (List ny × Int)) :=
  (idx c e).bind fun g =>
  (idx g.ins f).bind fun h =>
  if d < (len h.args) then
    (idx c e).bind fun a =>
    (idx a.ins f).bind fun b =>
    (idx b.args d).bind fun i =>
    some (.go ((c.set (e).toNat (⟨a.phis, (a.ins.set (f).toNat (⟨b.op, b.dst, (b.args.set (d).toNat 9), b.imm, b.fn⟩ : nO)), (⟨a.term.kind, a.term.arg, a.term.to⟩ : PTerm)⟩ : ny)), (w64 (d + 1))))
  else
    some (.ret c)
def og.bd100 (c : Int) (a : List ny) (b : Int) : Option (Ex (List ny) (List ny × Int)) :=
  (idx a c).bind fun d =>
  if b < (len d.ins) then
    (whl (fun (s : (List ny × Int)) => og.bd115 c b s.1 s.2) nB (a, 0)).bind fun z =>
    og.nx115 b z
  else
    some (.ret a)
def og.nx93 (a : Int) (b : List ny) : Option (Ex Unit (List ny × Int)) :=
  (whl (fun (s : (List ny × Int)) => og.bd100 a s.1 s.2) nB (b, 0)).bind fun z =>
  og.nx100 a z
def og.bd93 (d : Int) (b : List ny) (c : Int) : Option (Ex (List ny) (List ny × Int)) :=
  (idx b d).bind fun e =>
  if c < (len e.term.to) then
    (idx b d).bind fun a =>
    (idx a.term.to c).bind fun f =>
    some (.go ((b.set (d).toNat (⟨a.phis, a.ins, (⟨a.term.kind, a.term.arg, (a.term.to.set (c).toNat 9)⟩ : PTerm)⟩ : ny)), (w64 (c + 1))))
  else
    some (.ret b)
def og.bd28  (b : List ny) (a : Int) : Option (Ex Unit (List ny × Int)) :=
  if a < (len b) then
    (whl (fun (s : (List ny × Int)) => og.bd93 a s.1 s.2) nB (b, 0)).bind fun z =>
    og.nx93 a z
  else
    some (.ret ())
def og (a1 : nT) (a4 : Int) (a5 : List nK) (a8 : Int) : Option Bool :=
  (rc).bind fun b =>
  (oq a1).bind fun e =>
  if (!e) = true ∨ (len a5) > 300 then
    some b
  else
    (qM a1 a4 true).bind fun c =>
    (pw c).bind fun d =>
    (ov d a4).bind fun a =>
    (oD a.1).bind fun f =>
    (whl (fun (s : (List ny × Int)) => og.bd28 s.1 s.2) nB (a.1.blocks, 0)).bind fun z =>
    og.nx28 a4 a5 a8 b c d a f
set_option maxHeartbeats 4000000 in
theorem xd {E : World} {H : FP} {w : World} {a1 : nT} {a4 : Int} {a5 : List nK} {a8 : Int} {v2 : Value} {y : Value} {r : Bool} (aI : SlI oB H a1.funcs v2) (aj : SlI kPair H a5 y) (hp : og a1 a4 a5 a8 = some r) (hst : St E H [] w) :
    Fn Try.prog 4 #[.agg #[v2], .int .i64 a4, y, .int .i64 a8] w fun v w' => ∃ A, og.R r v A ∧ St E H A w' := by
 refine fb 158 [.tmp 8] Try.func4 rfl rfl rfl rfl rfl hst <| sr <| tb [v2] rfl rfl fun g => ta rfl <| nz <| sr <| bE hp fun x hy1 hp => tc 0 [_] rfl c7 (fun _ => wH hy1) rfl ?_
 rintro _ _ ⟨rfl, rfl⟩
 refine ta rfl <| nz <| sr <| tv (lA (ds := [v2]) pc 0 rfl rfl rfl rfl) rfl <| bE hp fun aJ hy3 hp => tc 0 [_] rfl c10 (fun _ => wI (a1 := a1) (aI.mono nw) hy3) rfl ?_
 rintro _ _ ⟨rfl, rfl⟩
 refine ta rfl <| nz <| nv fun dp bi => sr <| tm rfl <| tv (oO rfl) rfl <| tm rfl <| TL.cut 4 fun bj bk => ?_
 have aK {bl} : ∀ w, St E H [bx g 35 [v2]] w → bj (ovr bl [(32, .bool (decide ((!aJ) = true ∨ (len a5) > 300))), (1, .int .i64 a4), (2, y), (3, .int .i64 a8), (4, .pointer (some ⟨g, 0, none⟩)), (9, .bool x)]) w := by
  refine tlg bk <| nz <| cD rfl hp (fun bm hp => ?_) fun bm hp => ?_
  · exact sr <| tm rfl <| ta rfl <| nz <| nH <| rt hp [] ⟨rfl, rfl⟩
  · refine sk bi rfl <| sr <| tv (lA (ds := [v2]) pc 0 rfl rfl rfl rfl) rfl <| tm rfl <| bE hp fun Z hy13 hp => tc 0 [_] rfl c11 (fun _ => xa (a1 := a1) (a6 := a4) (a7 := true) nw aI hy13) rfl ?_
    rintro _ _ ⟨o, z, rfl, rfl, ak⟩
    refine tS 1 m35 rfl rfl [o] rfl (oc (ak).one oc0) rfl rfl <| nz <| sr <| tv (lA (ds := [o]) pc 1 rfl rfl rfl rfl) rfl <| bE hp fun U hy15 hp => tc 0 [_,_] rfl c12 (fun _ => t5 (a1 := Z) (ak.mono (subO (subB 0 rfl) nw)) hy15) rfl ?_
    rintro _ _ ⟨m, B, rfl, rfl, aa⟩
    refine tl i35 rfl fun j => tS 0 m35 rfl rfl [m] rfl (oc (aa).one oc0) rfl rfl <| nz <| sr <| tv (lA (ds := [m]) pc 0 rfl rfl rfl rfl) rfl <| tm rfl <| bE hp fun f hy17 hp => tc 0 [_,_,_,_] rfl c13 (fun _ => sN (a1 := U) (a4 := a4) (aa.ro.mono (subB 1 rfl)) hy17) rfl ?_
    rintro _ _ ⟨I, N, l, bn, J, C, rfl, rfl, aL, al, bo⟩
    refine tm rfl <| tv (xt rfl rfl) rfl <| tv (xt rfl rfl) rfl <| tl i41 rfl fun n => tS 0 m41 rfl rfl [.int .i64 f.1.params, .int .i64 f.1.result, I, l] rfl (oc rfl (oc rfl (oc (aL).one (oc (al).one oc0)))) rfl rfl <| ta rfl <| nz <| sr <| tv (lA (ds := [.int .i64 f.1.params, .int .i64 f.1.result, I, l]) n9 0 rfl rfl rfl rfl) rfl <| bE hp fun d hy19 hp => tc 0 [_,_,_,_,_,_,_,_] rfl c14 (fun _ => sO (a1 := f.1) (aL.ro.mono (subB 1 rfl)) (al.ro.mono (subB 2 rfl)) hy19) rfl ?_
    rintro _ _ ⟨q, D, t, F, rfl, rfl, aM, aN⟩
    refine tl i41 rfl fun i => tS 0 m41 rfl rfl [.int .i64 d.params, .int .i64 d.result, q, t] rfl (oc rfl (oc rfl (oc (aM).one (oc (aN).one oc0)))) rfl rfl <| nz <| nv fun bp bq => sr <| ta rfl <| nz <| nC <| bE hp fun br bs bt => ?_
    have bu {bv} (bw : () = br) : ∀ w, St E H [bx g 35 [o], z, bx j 35 [m], B, C, bx i 41 [.int .i64 d.params, .int .i64 d.result, q, t], D, F] w → bp (ovr bv [(1, .int .i64 a4), (2, y), (3, .int .i64 a8), (4, .pointer (some ⟨g, 0, none⟩)), (9, .bool x), (11, .pointer (some ⟨j, 0, none⟩)), (13, J), (14, .pointer (some ⟨i, 0, none⟩))]) w := by
     subst bw
     replace hp : og.nx28 a4 a5 a8 x Z U f d = some r := bt
     refine tg bq <| sr <| tv (lA (ds := [m]) pc 2 rfl rfl rfl rfl) rfl <| tm rfl <| bE hp fun G hy30 hp => tc 0 [_,_,_,_,_,_,_,_] rfl c13 (fun _ => sN (a1 := U) (a4 := a4) (aa.ro.mono (subB 3 rfl)) hy30) rfl ?_
     rintro _ _ ⟨ab, aO, ac, aP, am, aQ, rfl, rfl, aR, aS, bz⟩
     refine tm rfl <| tv (xt rfl rfl) rfl <| tv (xt rfl rfl) rfl <| tl i41 rfl fun S => tS 0 m41 rfl rfl [.int .i64 G.1.params, .int .i64 G.1.result, ab, ac] rfl (oc rfl (oc rfl (oc (aR).one (oc (aS).one oc0)))) rfl rfl <| ta rfl <| nz <| sr <| TL.bs0 u22 i31 (ltb rfl) fun bA => tm rfl <| tpI fPair u22 i31 (SlO.lit0 (k := kPair) bA) aj sH hp rfl rfl rfl rfl rfl rfl rfl fun aT bB bC an hp => ta rfl <| nz <| sr <| tm rfl <| tm rfl <| bE hp fun dq hy33 hp => tc 0 [_,_,_,_,_,_,_,_,_,_,_,_,_] rfl c8 (fun _ => sK (a1 := aT) (a4 := a8) (an.ro.mono (subB 0 rfl)) hy33) rfl ?_
     rintro _ _ ⟨dr, dt, du, dv, dw, dx, rfl, rfl, dy, dz, dA⟩
     refine nz <| nv fun bD bG => sr <| ta rfl <| nz <| nC <| bE hp fun bH bI aU => ?_
     have bJ {bK} (bL : .go () = bH) : ∀ w, St E H [bx g 35 [o], z, bx j 35 [m], B, C, bx i 41 [.int .i64 d.params, .int .i64 d.result, q, t], D, F, bx S 41 [.int .i64 G.1.params, .int .i64 G.1.result, ab, ac], aO, aP, aQ] w → bD (ovr bK [(4, .pointer (some ⟨g, 0, none⟩)), (9, .bool x), (11, .pointer (some ⟨j, 0, none⟩)), (13, J), (14, .pointer (some ⟨i, 0, none⟩)), (19, .pointer (some ⟨S, 0, none⟩)), (20, am)]) w := by
      subst bL
      replace hp : og.nx42 x Z U f d G = some r := aU
      refine tg bG <| nv fun dB bM => cq mix (by kernel_rfl) <| qv mv rfl <| qv mv rfl <| bE hp fun ao ht63 hp => QL.cut 4 fun bN bO => ?_
      have aV {bP} : bN (ovr bP [(145, .bool ao), (13, J), (14, .pointer (some ⟨i, 0, none⟩)), (19, .pointer (some ⟨S, 0, none⟩)), (20, am)]) := by
       refine bO _ <| qv mv rfl <| QL.cut 6 fun bQ bR => ?_
       have aW {bS} : bQ (ovr bS [(152, .bool (decide (ao = true ∧ (((decide (f.2 = GErr.no)) == (decide (G.2 = GErr.no))) = true)))), (14, .pointer (some ⟨i, 0, none⟩)), (19, .pointer (some ⟨S, 0, none⟩))]) := by
        refine bR _ <| qv mv rfl <| bE hp fun bU ht61 hp => QL.cut 4 fun bV bW => ?_
        have aX {bX} : bV (ovr bX [(157, .bool bU)]) := by
         exact bW _ <| qv sg rfl <| QL.nil <| tg bM <| nH <| rt hp [] ⟨rfl, rfl⟩
        refine ifE ht61 (fun O hp => ?_) fun O hp => ?_
        · refine qgy rfl (bT O) <| qv (lA (ds := [.int .i64 G.1.params, .int .i64 G.1.result, ab, ac]) n9 8 rfl rfl rfl rfl) rfl <| qgy rfl (bT O) <| qv (lA (ds := [.int .i64 d.params, .int .i64 d.result, q, t]) n9 5 rfl rfl rfl rfl) rfl <| qgy rfl (bT O) <| bE hp fun bY hy62 hp => qc (.bool bY) c16 (fun _ => t6 (a1 := G.1) (a6 := d) (aR.ro.mono (subB 9 rfl)) (aS.ro.mono (subB 10 rfl)) (aM.ro.mono (subB 6 rfl)) (aN.ro.mono (subB 7 rfl)) hy62) (fun _ _ h => ⟨h.1.symm, h.2⟩) rfl <| qv (pT (bT O)) rfl ?_
          obtain rfl := Option.some.inj hp
          exact qj aX rfl
        · refine qgn rfl (bF O) rfl rfl <| qgn rfl (bF O) rfl rfl <| qgn rfl (bF O) rfl rfl <| qv (pF (bF O)) rfl ?_
          obtain rfl := Option.some.inj hp
          exact qj aX rfl
       by_cases u : ao = true
       · exact qgy rfl (bbT u) <| qv mv rfl <| qgy rfl (bbT u) <| qv (sC pp bo rfl) rfl <| qgy rfl (bbT u) <| qv mv rfl <| qgy rfl (bbT u) <| qv (sC pp bz rfl) rfl <| qgy rfl (bbT u) <| qv (vq (b := (decide (f.2 = GErr.no))) (c := (decide (G.2 = GErr.no))) Try.underlying4 rfl rfl) rfl <| qv (pT (bbT u)) rfl <| qj aW (bAt' u)
       · exact qgn rfl (bbF u) rfl rfl <| qgn rfl (bbF u) rfl rfl <| qgn rfl (bbF u) rfl rfl <| qgn rfl (bbF u) rfl rfl <| qgn rfl (bbF u) rfl rfl <| qv (pF (bbF u)) rfl <| qj aW (bAf u)
      refine ifE ht63 (fun P hp => ?_) fun P hp => ?_
      · refine qgy rfl (bbT P) <| qv (lA (ds := [m]) pc 2 rfl rfl rfl rfl) rfl <| qgy rfl (bbT P) <| qv (lA (ds := [o]) pc 0 rfl rfl rfl rfl) rfl <| qgy rfl (bbT P) <| bE hp fun bZ hy64 hp => qc (.bool bZ) c15 (fun _ => xc (a1 := U) (a4 := Z) (aa.ro.mono (subB 3 rfl)) (ak.mono (subO (subB 1 rfl) nw)) hy64) (fun _ _ h => ⟨h.1.symm, h.2⟩) rfl <| qv (pT (bbT P)) rfl ?_
        obtain rfl := Option.some.inj hp
        exact qj aV rfl
      · refine qgn rfl (bbF P) rfl rfl <| qgn rfl (bbF P) rfl rfl <| qgn rfl (bbF P) rfl rfl <| qv (pF (bbF P)) rfl ?_
        obtain rfl := Option.some.inj hp
        exact qj aV rfl
     refine lp bI [8, 9, 10, 11, 12, 13, 14, 15, 4, 5, 6, 7, 3] rfl (fun s e L => ∃ aY, e = ovr aY [(2, y), (4, .pointer (some ⟨g, 0, none⟩)), (9, .bool x), (11, .pointer (some ⟨j, 0, none⟩)), (13, J), (14, .pointer (some ⟨i, 0, none⟩)), (19, .pointer (some ⟨S, 0, none⟩)), (20, am), (21, bB), (22, .int .i64 s)] ∧ L = [bx g 35 [o], z, bx j 35 [m], B, C, bx i 41 [.int .i64 d.params, .int .i64 d.result, q, t], D, F, bx S 41 [.int .i64 G.1.params, .int .i64 G.1.result, ab, ac], aO, aP, aQ, bC]) ⟨_, nD _ _ rfl, rfl⟩ ?_
     rintro b0 _ _ ⟨aY, rfl, rfl⟩ b1 hp aZ
     replace hp : og.bd42 a5 aT b0 = some b1 := hp
     refine nv fun dC b2 => sr <| tm rfl <| tm rfl <| tv (ln u22 an.ro rfl) rfl <| tv (blt rfl rfl) rfl <| nz <| cD rfl hp (fun b3 hp => ?_) fun b3 hp => ?_
     · refine sk b2 rfl <| nv fun dD b4 => nC <| nv fun dE b5 => cq mix (by kernel_rfl) <| qv mv rfl <| qv mv rfl <| qi u22 i31 (an).ro hp rfl rfl rfl rfl ?_
       rintro ap dF dG _ hp rfl b6
       refine qv (lR (ds := [.int .i64 ap.a, .int .i64 ap.b]) qe (Src.at_ 12 rfl) b6 0 rfl rfl rfl) rfl <| qv mv rfl <| qv mv rfl <| qi u22 i31 aj hp rfl rfl rfl rfl ?_
       rintro aq dH dI _ hp rfl b7
       refine qv (lR (ds := [.int .i64 aq.a, .int .i64 aq.b]) qe sH b7 0 rfl rfl rfl) rfl <| qv (neS31 (a := ap) (b := aq) rfl rfl) rfl <| QL.nil <| tg b5 <| cD rfl hp (fun b8 hp => ?_) fun b8 hp => ?_
       · refine sr <| ta rfl <| nz <| nH ?_
         obtain rfl := nJ hp aZ
         exact rt aU [] ⟨rfl, rfl⟩
       · exact sk b4 rfl <| nG <| tm rfl <| tv (bad rfl rfl) rfl <| ta rfl <| nl <| gk hp [0, 1, 2, 3, 4, 5, 6, 7, 8, 9, 10, 11, 12] ⟨_, nD _ _ rfl, rfl⟩
     · exact nN <| jn [0, 1, 2, 3, 4, 5, 6, 7, 8, 9, 10, 11] (bJ (nJ hp aZ))
    refine lp bs [10, 9, 7, 8, 3, 4, 5, 6, 0, 1, 2] rfl (fun s e L => ∃ ad p ae a0, s = (ad, p) ∧ SlO 50 nW ad l ae ∧ e = ovr a0 [(1, .int .i64 a4), (2, y), (3, .int .i64 a8), (4, .pointer (some ⟨g, 0, none⟩)), (9, .bool x), (11, .pointer (some ⟨j, 0, none⟩)), (12, .pointer (some ⟨n, 0, none⟩)), (13, J), (14, .pointer (some ⟨i, 0, none⟩)), (15, .int .i64 p)] ∧ L = [bx g 35 [o], z, bx j 35 [m], B, bx n 41 [.int .i64 f.1.params, .int .i64 f.1.result, I, l], N, ae, C, bx i 41 [.int .i64 d.params, .int .i64 d.result, q, t], D, F]) ⟨_, _, bn, _, rfl, al, nD _ _ rfl, rfl⟩ ?_
    rintro _ _ _ ⟨ad, p, ae, a0, rfl, a2, rfl, rfl⟩ ar hp b9
    replace hp : og.bd28 ad p = some ar := hp
    refine nv fun dJ ca => sr <| tm rfl <| tv (fa n6 rfl) rfl <| tv (lb s39 4 rfl rfl rfl) rfl <| tv (ln u39 a2.ro rfl) rfl <| tv (blt rfl rfl) rfl <| nz <| cD rfl hp (fun cb hp => ?_) fun cb hp => ?_
    · refine sk ca rfl <| nv fun cc cd => nC <| nv fun ce cf => sr <| ta rfl <| nz <| nC <| bE hp fun cg ch ci => ?_
      have cj {au av ck} (cl : SlO 50 nW au l av) (cm : au = cg) : ∀ w, St E H [bx g 35 [o], z, bx j 35 [m], B, bx n 41 [.int .i64 f.1.params, .int .i64 f.1.result, I, l], N, av, C, bx i 41 [.int .i64 d.params, .int .i64 d.result, q, t], D, F] w → ce (ovr ck [(1, .int .i64 a4), (2, y), (3, .int .i64 a8), (4, .pointer (some ⟨g, 0, none⟩)), (9, .bool x), (11, .pointer (some ⟨j, 0, none⟩)), (12, .pointer (some ⟨n, 0, none⟩)), (13, J), (14, .pointer (some ⟨i, 0, none⟩)), (15, .int .i64 p)]) w := by
       subst cm
       replace hp : og.nx93 p au = some ar := ci
       refine tg cf <| sr <| ta rfl <| nz <| nC <| bE hp fun cn co cp => ?_
       have cr {aw ax cs} (ct : SlO 50 nW aw l ax) (cu : aw = cn) : ∀ w, St E H [bx g 35 [o], z, bx j 35 [m], B, bx n 41 [.int .i64 f.1.params, .int .i64 f.1.result, I, l], N, ax, C, bx i 41 [.int .i64 d.params, .int .i64 d.result, q, t], D, F] w → cc (ovr cs [(1, .int .i64 a4), (2, y), (3, .int .i64 a8), (4, .pointer (some ⟨g, 0, none⟩)), (9, .bool x), (11, .pointer (some ⟨j, 0, none⟩)), (12, .pointer (some ⟨n, 0, none⟩)), (13, J), (14, .pointer (some ⟨i, 0, none⟩)), (15, .int .i64 p)]) w := by
        subst cu
        replace hp : og.nx100 p aw = some ar := cp
        exact tg cd <| nG <| tm rfl <| tv (bad rfl rfl) rfl <| ta rfl <| nl <| gk hp [0, 1, 2, 3, 4, 5, 6, 7, 8, 9, 10] ⟨_, _, ax, _, rfl, ct, nD _ _ rfl, rfl⟩
       refine lp co [0, 1, 2, 3, 4, 5, 6, 7, 8, 9, 10] rfl (fun s e L => ∃ af Q ag a3, s = (af, Q) ∧ SlO 50 nW af l ag ∧ e = ovr a3 [(1, .int .i64 a4), (2, y), (3, .int .i64 a8), (4, .pointer (some ⟨g, 0, none⟩)), (9, .bool x), (11, .pointer (some ⟨j, 0, none⟩)), (12, .pointer (some ⟨n, 0, none⟩)), (13, J), (14, .pointer (some ⟨i, 0, none⟩)), (15, .int .i64 p), (17, .int .i64 Q)] ∧ L = [bx g 35 [o], z, bx j 35 [m], B, bx n 41 [.int .i64 f.1.params, .int .i64 f.1.result, I, l], N, ag, C, bx i 41 [.int .i64 d.params, .int .i64 d.result, q, t], D, F]) ⟨_, _, av, _, rfl, cl, nD _ _ rfl, rfl⟩ ?_
       rintro _ _ _ ⟨af, Q, ag, a3, rfl, ay, rfl, rfl⟩ a9 hp cv
       replace hp : og.bd100 p af Q = some a9 := hp
       refine nv fun dK cw => sr <| tm rfl <| tv (fa n6 rfl) rfl <| tv (lb s39 4 rfl rfl rfl) rfl <| tm rfl <| ti u39 i50 (ay).ro hp rfl rfl rfl rfl ?_
       rintro dL dM dN _ hp ⟨dO, dP, dQ, rfl, dR, cx, dS⟩ cy
       refine tv (fa ou rfl) rfl <| tv (lr s48 (Src.at_ 6 rfl) cy 1 rfl rfl) rfl <| tv (ln u48 cx rfl) rfl <| tv (blt rfl rfl) rfl <| nz <| cD rfl hp (fun cz hp => ?_) fun cz hp => ?_
       · refine sk cw rfl <| nv fun cA cB => nC <| sr <| ta rfl <| nz <| nC <| bE hp fun cC cE cF => ?_
         have cG {az aA cH} (cI : SlO 50 nW az l aA) (cJ : az = cC) : ∀ w, St E H [bx g 35 [o], z, bx j 35 [m], B, bx n 41 [.int .i64 f.1.params, .int .i64 f.1.result, I, l], N, aA, C, bx i 41 [.int .i64 d.params, .int .i64 d.result, q, t], D, F] w → cA (ovr cH [(1, .int .i64 a4), (2, y), (3, .int .i64 a8), (4, .pointer (some ⟨g, 0, none⟩)), (9, .bool x), (11, .pointer (some ⟨j, 0, none⟩)), (12, .pointer (some ⟨n, 0, none⟩)), (13, J), (14, .pointer (some ⟨i, 0, none⟩)), (15, .int .i64 p), (17, .int .i64 Q)]) w := by
          subst cJ
          replace hp : og.nx115 Q az = some a9 := cF
          exact tg cB <| nG <| tm rfl <| tv (bad rfl rfl) rfl <| ta rfl <| nl <| gk hp [0, 1, 2, 3, 4, 5, 6, 7, 8, 9, 10] ⟨_, _, aA, _, rfl, cI, nD _ _ rfl, rfl⟩
         refine lp cE [0, 1, 2, 3, 4, 5, 6, 7, 8, 9, 10] rfl (fun s e L => ∃ ah T aB ba, s = (ah, T) ∧ SlO 50 nW ah l aB ∧ e = ovr ba [(1, .int .i64 a4), (2, y), (3, .int .i64 a8), (4, .pointer (some ⟨g, 0, none⟩)), (9, .bool x), (11, .pointer (some ⟨j, 0, none⟩)), (12, .pointer (some ⟨n, 0, none⟩)), (13, J), (14, .pointer (some ⟨i, 0, none⟩)), (15, .int .i64 p), (17, .int .i64 Q), (18, .int .i64 T)] ∧ L = [bx g 35 [o], z, bx j 35 [m], B, bx n 41 [.int .i64 f.1.params, .int .i64 f.1.result, I, l], N, aB, C, bx i 41 [.int .i64 d.params, .int .i64 d.result, q, t], D, F]) ⟨_, _, ag, _, rfl, ay, nD _ _ rfl, rfl⟩ ?_
         rintro _ _ _ ⟨ah, T, aB, ba, rfl, aC, rfl, rfl⟩ cK hp cL
         replace hp : og.bd115 p Q ah T = some cK := hp
         refine nv fun dT cM => sr <| tm rfl <| tv (fa n6 rfl) rfl <| tv (lb s39 4 rfl rfl rfl) rfl <| tm rfl <| ti u39 i50 (aC).ro hp rfl rfl rfl rfl ?_
         rintro dU dV dW _ hp ⟨dX, dY, dZ, rfl, d0, cN, d1⟩ cO
         refine tv (fa ou rfl) rfl <| tv (lr s48 (Src.at_ 6 rfl) cO 1 rfl rfl) rfl <| tm rfl <| ti u48 i52 cN hp rfl rfl rfl rfl ?_
         rintro d2 d3 d4 _ hp ⟨d5, rfl, cP⟩ cQ
         refine tv (fa o9 rfl) rfl <| tv (lr s25 (Src.at_ 6 rfl) cQ 2 rfl rfl) rfl <| tv (ln u25 cP rfl) rfl <| tv (blt rfl rfl) rfl <| nz <| cD rfl hp (fun cR hp => ?_) fun cR hp => ?_
         · refine sk cM rfl <| nv fun d6 cS => nC <| nG <| tv (fa n6 rfl) rfl <| tv (lb s39 4 rfl rfl rfl) rfl <| tm rfl <| tp [6, 0, 1, 2, 3, 4, 5, 7, 8, 9, 10] [_,_,_,_,_,_,_,_,_,_,_] rfl rfl <| bE hp fun V bb hp => TL.open_ aC bb ?_
           rintro d7 _ cT d8 aD ⟨d9, cU, ea, cV, eb, cW, rfl, rfl, cX, cY, cZ⟩
           refine TL.perm (L' := [cT, cU, cV, cW, bx g 35 [o], z, bx j 35 [m], B, bx n 41 [.int .i64 f.1.params, .int .i64 f.1.result, I, l], N, C, bx i 41 [.int .i64 d.params, .int .i64 d.result, q, t], D, F]) (by simp) <| tv (oR u39 i50 rfl rfl (oA bb).1 aD) rfl <| tv (fa ou rfl) rfl <| tv (lr s48 (Src.at_ 0 rfl) (Hole.cells aD) 1 rfl rfl) rfl <| tm rfl <| tp [2, 0, 1, 3, 4, 5, 6, 7, 8, 9, 10, 11, 12, 13] [_,_,_,_,_,_,_,_,_,_,_,_,_,_] rfl rfl <| bE hp fun K bc hp => TL.open_ cY bc ?_
           rintro ec _ ed ee aE ⟨ef, eg, rfl, rfl, be⟩
           exact tv (oR u48 i52 rfl rfl (oA bc).1 aE) rfl <| tv (fa o9 rfl) rfl <| tv (lr s25 (Src.at_ 0 rfl) (Hole.cells aE) 2 rfl rfl) rfl <| tm rfl <| tO u25 i3 be hp rfl rfl rfl rfl fun eh ei ej c0 hp => tp [1, 0, 2, 3, 4, 5, 6, 7, 8, 9, 10, 11, 12, 13, 14] [_,_,_,_,_,_,_,_,_,_,_,_,_,_,_] rfl rfl <| tE be c0 m3 rfl ⟨rfl, rfl⟩ w1 fun ek c1 => nl <| tg cS <| nG <| tm rfl <| tv (bad rfl rfl) rfl <| ta rfl <| nl <| wp [1, 0, 2, 3, 4, 5, 6, 7, 8, 9, 10, 11, 12, 13, 14] [_,_,_,_,_,_,_,_,_,_,_,_,_,_,_] rfl rfl <| W.shut (a := (⟨K.op, K.dst, (K.args.set (T).toNat 9), K.imm, K.fn⟩ : nO)) aE ⟨_, _, rfl, rfl, c1⟩ fun el c2 => wp [1, 2, 0, 3, 4, 5, 6, 7, 8, 9, 10, 11, 12, 13] [_,_,_,_,_,_,_,_,_,_,_,_,_,_] rfl rfl <| wf 1 3 [_,_,_,_,_,_,_,_,_,_,_,_] rfl <| W.shut (a := (⟨V.phis, (V.ins.set (Q).toNat (⟨K.op, K.dst, (K.args.set (T).toNat 9), K.imm, K.fn⟩ : nO)), (⟨V.term.kind, V.term.arg, V.term.to⟩ : PTerm)⟩ : ny)) aD ⟨_, _, _, _, _, _, rfl, rfl, cX, c2, cZ⟩ fun c3 c4 => gk hp [1, 2, 3, 4, 5, 6, 0, 7, 8, 9, 10] ⟨_, _, c3, _, rfl, c4, nD _ _ rfl, rfl⟩
         · exact nN <| jn [0, 1, 2, 3, 4, 5, 6, 7, 8, 9, 10] (cG aC (nJ hp cL))
       · exact nN <| jn [0, 1, 2, 3, 4, 5, 6, 7, 8, 9, 10] (cr ay (nJ hp cv))
      refine lp ch [0, 1, 2, 3, 4, 5, 6, 7, 8, 9, 10] rfl (fun s e L => ∃ ai X aF bf, s = (ai, X) ∧ SlO 50 nW ai l aF ∧ e = ovr bf [(1, .int .i64 a4), (2, y), (3, .int .i64 a8), (4, .pointer (some ⟨g, 0, none⟩)), (9, .bool x), (11, .pointer (some ⟨j, 0, none⟩)), (12, .pointer (some ⟨n, 0, none⟩)), (13, J), (14, .pointer (some ⟨i, 0, none⟩)), (15, .int .i64 p), (16, .int .i64 X)] ∧ L = [bx g 35 [o], z, bx j 35 [m], B, bx n 41 [.int .i64 f.1.params, .int .i64 f.1.result, I, l], N, aF, C, bx i 41 [.int .i64 d.params, .int .i64 d.result, q, t], D, F]) ⟨_, _, ae, _, rfl, a2, nD _ _ rfl, rfl⟩ ?_
      rintro _ _ _ ⟨ai, X, aF, bf, rfl, aG, rfl, rfl⟩ c5 hp c6
      replace hp : og.bd93 p ai X = some c5 := hp
      refine nv fun em c9 => sr <| tm rfl <| tv (fa n6 rfl) rfl <| tv (lb s39 4 rfl rfl rfl) rfl <| tm rfl <| ti u39 i50 (aG).ro hp rfl rfl rfl rfl ?_
      rintro en eo ep _ hp ⟨eq, er, es, rfl, et, eu, da⟩ db
      refine tv (fa oP rfl) rfl <| tv (fa pf rfl) rfl <| tv (lr s25 (Src.at_ 6 rfl) db 4 rfl rfl) rfl <| tv (ln u25 da rfl) rfl <| tv (blt rfl rfl) rfl <| nz <| cD rfl hp (fun dc hp => ?_) fun dc hp => ?_
      · refine sk c9 rfl <| nv fun ev dd => nC <| nG <| tv (fa n6 rfl) rfl <| tv (lb s39 4 rfl rfl rfl) rfl <| tm rfl <| tp [6, 0, 1, 2, 3, 4, 5, 7, 8, 9, 10] [_,_,_,_,_,_,_,_,_,_,_] rfl rfl <| bE hp fun Y bg hp => TL.open_ aG bg ?_
        rintro ew _ de ex aH ⟨ey, df, ez, dg, eA, dh, rfl, rfl, di, dj, bh⟩
        exact TL.perm (L' := [de, df, dg, dh, bx g 35 [o], z, bx j 35 [m], B, bx n 41 [.int .i64 f.1.params, .int .i64 f.1.result, I, l], N, C, bx i 41 [.int .i64 d.params, .int .i64 d.result, q, t], D, F]) (by simp) <| tv (oR u39 i50 rfl rfl (oA bg).1 aH) rfl <| tv (fa oP rfl) rfl <| tv (fa pf rfl) rfl <| tv (lr s25 (Src.at_ 0 rfl) (Hole.cells aH) 4 rfl rfl) rfl <| tm rfl <| tO u25 i3 bh hp rfl rfl rfl rfl fun eB eC eD dk hp => tp [3, 0, 1, 2, 4, 5, 6, 7, 8, 9, 10, 11, 12, 13] [_,_,_,_,_,_,_,_,_,_,_,_,_,_] rfl rfl <| tE bh dk m3 rfl ⟨rfl, rfl⟩ w1 fun eE dl => nl <| tg dd <| nG <| tm rfl <| tv (bad rfl rfl) rfl <| ta rfl <| nl <| wp [1, 2, 3, 0, 4, 5, 6, 7, 8, 9, 10, 11, 12, 13] [_,_,_,_,_,_,_,_,_,_,_,_,_,_] rfl rfl <| wf 1 3 [_,_,_,_,_,_,_,_,_,_,_,_] rfl <| W.shut (a := (⟨Y.phis, Y.ins, (⟨Y.term.kind, Y.term.arg, (Y.term.to.set (X).toNat 9)⟩ : PTerm)⟩ : ny)) aH ⟨_, _, _, _, _, _, rfl, rfl, di, dj, dl⟩ fun dm dn => gk hp [1, 2, 3, 4, 5, 6, 0, 7, 8, 9, 10] ⟨_, _, dm, _, rfl, dn, nD _ _ rfl, rfl⟩
      · exact nN <| jn [0, 1, 2, 3, 4, 5, 6, 7, 8, 9, 10] (cj aG (nJ hp c6))
    · exact nN <| jn [0, 1, 2, 3, 7, 8, 9, 10] (bu (nJ hp b9))
 by_cases M : (!aJ) = true
 · exact gn rfl (bbT M) rfl rfl <| gn rfl (bbT M) rfl rfl <| gn rfl (bbT M) rfl rfl <| tv (pT (bbT M)) rfl <| nj aK (bOt M)
 · exact gy rfl (bbF M) <| tm rfl <| gy rfl (bbF M) <| tv (ln u22 aj rfl) rfl <| gy rfl (bbF M) <| tv (bgt rfl rfl) rfl <| tv (pF (bbF M)) rfl <| nj aK (bOf M)
end Go.Proofs.Ytpmcbahahjelnaa
namespace Go.Proofs.Ytpmcbahahjelnaa
open Go Go.Proofs
theorem qm {w : World} : Opens Try.prog w 3 (nt .i64) inI64 := tI Try.underlying3
def wfPair (x : nK) : Prop := inI64 x.a ∧ inI64 x.b
theorem xe {H : Type} {enc : TypeId × Value → H} {P : Program} {w : World} {base : Nat} {spare : Nat → Bool} {held : Bool} {t e : TypeId} {fuel : Nat} {cs : List Value} {x : DataW H × List MemPlace} (ht : P.underlying t = some (.array 2 e)) (hs : P.cellsOf e = 1) (hs2 : P.cellsOf t = 2) (h : DataW.trod enc P w base spare held fuel t cs = some x) :
    ∃ c0 c1 y0 y1 n, cs = [c0, c1] ∧ DataW.trod enc P w base spare held n e [c0] = some y0 ∧ DataW.trod enc P w base spare held n e [c1] = some y1 := by
  cases fuel with
  | zero => simp [DataW.trod] at h
  | succ n =>
    unfold DataW.trod at h
    rw [ht] at h
    split at h <;> try (simp_all; done)
    rename_i heq
    cases heq
    split at h
    · rename_i hl
      simp only [show List.range 2 = [0, 1] from rfl, List.mapM_cons, List.mapM_nil, Option.map_eq_some_iff] at h
      obtain ⟨ys, h, _⟩ := h
      simp only [Option.bind_eq_bind, Option.bind_eq_some_iff] at h
      obtain ⟨y0, g0, z, ⟨y1, g1, _⟩, _⟩ := h
      rw [hs2] at hl
      rw [hs] at g0 g1
      obtain ⟨c0, c1, hc⟩ := len2 hl
      simp only [hc] at g0 g1
      exact ⟨c0, c1, y0, y1, n, hc, g0, g1⟩
    · cases h
theorem xf {w : World} : Opens Try.prog w 31 kPair wfPair := by
  intro H enc base spare held fuel cs x h
  obtain ⟨c0, c1, y0, y1, n, rfl, g0, g1⟩ := xe Try.underlying31 (by kernel_rfl) (by kernel_rfl) h
  obtain ⟨a, r0, w0⟩ := qm _ _ _ _ _ _ _ _ g0
  obtain ⟨b, r1, w1⟩ := qm _ _ _ _ _ _ _ _ g1
  have e0 : [c0] = [.int .i64 a] := r0
  have e1 : [c1] = [.int .i64 b] := r1
  simp only [List.cons.injEq, and_true] at e0 e1
  subst e0; subst e1
  exact ⟨⟨a, b⟩, rfl, w0, w1⟩
theorem xg {w : World} : Opens Try.prog w 22 (kSl 31 kPair) (okL wfPair) := qZ Try.underlying22 (by kernel_rfl) (by decide) xf
theorem sd {w : World} : Opens Try.prog w 25 (kSl 3 (nt .i64)) (okL inI64) := qZ Try.underlying25 (by kernel_rfl) (by decide) qm
def wfPhi (x : PPhi) : Prop := inI64 x.dst ∧ (okL inI64) x.args
theorem xh {w : World} : Opens Try.prog w 70 o0 wfPhi := by
  intro H enc base spare held fuel cs x h
  obtain ⟨ys, n, rfl, rfl, hl, hxl, hf⟩ := DataW.trod_struct Try.underlying70 h
  have hn : cs.length = 2 := hl.trans (by kernel_rfl)
  obtain ⟨c0, c1, rfl⟩ := len2 hn
  have g0 : DataW.trod enc Try.prog w base spare held n 3 (([c0, c1].drop 0).take (Try.prog.cellsOf 3)) = ys[0]? := hf 0 _ rfl
  have s0 : Try.prog.cellsOf 3 = 1 := by kernel_rfl
  rw [s0] at g0
  have i0 : 0 < ys.length := by rw [hxl]; exact ltb rfl
  rw [List.getElem?_eq_getElem i0] at g0
  have g1 : DataW.trod enc Try.prog w base spare held n 25 (([c0, c1].drop 1).take (Try.prog.cellsOf 25)) = ys[1]? := hf 1 _ rfl
  have s1 : Try.prog.cellsOf 25 = 1 := by kernel_rfl
  rw [s1] at g1
  have i1 : 1 < ys.length := by rw [hxl]; exact ltb rfl
  rw [List.getElem?_eq_getElem i1] at g1
  obtain ⟨a0, r0, w0⟩ := qm _ _ _ _ _ _ _ _ g0
  have e0 : [c0] = [.int .i64 a0] := r0
  simp only [List.cons.injEq, and_true] at e0
  subst e0
  obtain ⟨a1, r1, w1⟩ := sd _ _ _ _ _ _ _ _ g1
  obtain ⟨v1, q1, t1⟩ := r1
  have e1 : [c1] = [v1] := q1
  simp only [List.cons.injEq, and_true] at e1
  subst e1
  exact ⟨⟨a0, a1⟩, ⟨_, rfl, t1⟩, ⟨w0, w1⟩⟩
theorem xi {w : World} : Opens Try.prog w 47 (kSl 70 o0) (okL wfPhi) := qZ Try.underlying47 (by kernel_rfl) (by decide) xh
theorem xj {w : World} : Opens Try.prog w 2 (nt .i64) inI64 := tI Try.underlying2
def wfInstr (x : nO) : Prop := inI64 x.op ∧ inI64 x.dst ∧ (okL inI64) x.args ∧ inI64 x.imm ∧ inI64 x.fn
theorem xk {w : World} : Opens Try.prog w 52 oK wfInstr := by
  intro H enc base spare held fuel cs x h
  obtain ⟨ys, n, rfl, rfl, hl, hxl, hf⟩ := DataW.trod_struct Try.underlying52 h
  have hn : cs.length = 5 := hl.trans (by kernel_rfl)
  obtain ⟨c0, c1, c2, c3, c4, rfl⟩ := len5 hn
  have g0 : DataW.trod enc Try.prog w base spare held n 3 (([c0, c1, c2, c3, c4].drop 0).take (Try.prog.cellsOf 3)) = ys[0]? := hf 0 _ rfl
  have s0 : Try.prog.cellsOf 3 = 1 := by kernel_rfl
  rw [s0] at g0
  have i0 : 0 < ys.length := by rw [hxl]; exact ltb rfl
  rw [List.getElem?_eq_getElem i0] at g0
  have g1 : DataW.trod enc Try.prog w base spare held n 3 (([c0, c1, c2, c3, c4].drop 1).take (Try.prog.cellsOf 3)) = ys[1]? := hf 1 _ rfl
  have s1 : Try.prog.cellsOf 3 = 1 := by kernel_rfl
  rw [s1] at g1
  have i1 : 1 < ys.length := by rw [hxl]; exact ltb rfl
  rw [List.getElem?_eq_getElem i1] at g1
  have g2 : DataW.trod enc Try.prog w base spare held n 25 (([c0, c1, c2, c3, c4].drop 2).take (Try.prog.cellsOf 25)) = ys[2]? := hf 2 _ rfl
  have s2 : Try.prog.cellsOf 25 = 1 := by kernel_rfl
  rw [s2] at g2
  have i2 : 2 < ys.length := by rw [hxl]; exact ltb rfl
  rw [List.getElem?_eq_getElem i2] at g2
  have g3 : DataW.trod enc Try.prog w base spare held n 2 (([c0, c1, c2, c3, c4].drop 3).take (Try.prog.cellsOf 2)) = ys[3]? := hf 3 _ rfl
  have s3 : Try.prog.cellsOf 2 = 1 := by kernel_rfl
  rw [s3] at g3
  have i3 : 3 < ys.length := by rw [hxl]; exact ltb rfl
  rw [List.getElem?_eq_getElem i3] at g3
  have g4 : DataW.trod enc Try.prog w base spare held n 3 (([c0, c1, c2, c3, c4].drop 4).take (Try.prog.cellsOf 3)) = ys[4]? := hf 4 _ rfl
  have s4 : Try.prog.cellsOf 3 = 1 := by kernel_rfl
  rw [s4] at g4
  have i4 : 4 < ys.length := by rw [hxl]; exact ltb rfl
  rw [List.getElem?_eq_getElem i4] at g4
  obtain ⟨a0, r0, w0⟩ := qm _ _ _ _ _ _ _ _ g0
  have e0 : [c0] = [.int .i64 a0] := r0
  simp only [List.cons.injEq, and_true] at e0
  subst e0
  obtain ⟨a1, r1, w1⟩ := qm _ _ _ _ _ _ _ _ g1
  have e1 : [c1] = [.int .i64 a1] := r1
  simp only [List.cons.injEq, and_true] at e1
  subst e1
  obtain ⟨a2, r2, w2⟩ := sd _ _ _ _ _ _ _ _ g2
  obtain ⟨v2, q2, t2⟩ := r2
  have e2 : [c2] = [v2] := q2
  simp only [List.cons.injEq, and_true] at e2
  subst e2
  obtain ⟨a3, r3, w3⟩ := xj _ _ _ _ _ _ _ _ g3
  have e3 : [c3] = [.int .i64 a3] := r3
  simp only [List.cons.injEq, and_true] at e3
  subst e3
  obtain ⟨a4, r4, w4⟩ := qm _ _ _ _ _ _ _ _ g4
  have e4 : [c4] = [.int .i64 a4] := r4
  simp only [List.cons.injEq, and_true] at e4
  subst e4
  exact ⟨⟨a0, a1, a2, a3, a4⟩, ⟨_, rfl, t2⟩, ⟨w0, w1, w2, w3, w4⟩⟩
theorem xl {w : World} : Opens Try.prog w 48 (kSl 52 oK) (okL wfInstr) := qZ Try.underlying48 (by kernel_rfl) (by decide) xk
def wfTerm (x : PTerm) : Prop := inI64 x.kind ∧ inI64 x.arg ∧ (okL inI64) x.to
theorem xm {w : World} : Opens Try.prog w 46 kTerm wfTerm := by
  intro H enc base spare held fuel cs x h
  obtain ⟨ys, n, rfl, rfl, hl, hxl, hf⟩ := DataW.trod_struct Try.underlying46 h
  have hn : cs.length = 3 := hl.trans (by kernel_rfl)
  obtain ⟨c0, c1, c2, rfl⟩ := len3 hn
  have g0 : DataW.trod enc Try.prog w base spare held n 3 (([c0, c1, c2].drop 0).take (Try.prog.cellsOf 3)) = ys[0]? := hf 0 _ rfl
  have s0 : Try.prog.cellsOf 3 = 1 := by kernel_rfl
  rw [s0] at g0
  have i0 : 0 < ys.length := by rw [hxl]; exact ltb rfl
  rw [List.getElem?_eq_getElem i0] at g0
  have g1 : DataW.trod enc Try.prog w base spare held n 3 (([c0, c1, c2].drop 1).take (Try.prog.cellsOf 3)) = ys[1]? := hf 1 _ rfl
  have s1 : Try.prog.cellsOf 3 = 1 := by kernel_rfl
  rw [s1] at g1
  have i1 : 1 < ys.length := by rw [hxl]; exact ltb rfl
  rw [List.getElem?_eq_getElem i1] at g1
  have g2 : DataW.trod enc Try.prog w base spare held n 25 (([c0, c1, c2].drop 2).take (Try.prog.cellsOf 25)) = ys[2]? := hf 2 _ rfl
  have s2 : Try.prog.cellsOf 25 = 1 := by kernel_rfl
  rw [s2] at g2
  have i2 : 2 < ys.length := by rw [hxl]; exact ltb rfl
  rw [List.getElem?_eq_getElem i2] at g2
  obtain ⟨a0, r0, w0⟩ := qm _ _ _ _ _ _ _ _ g0
  have e0 : [c0] = [.int .i64 a0] := r0
  simp only [List.cons.injEq, and_true] at e0
  subst e0
  obtain ⟨a1, r1, w1⟩ := qm _ _ _ _ _ _ _ _ g1
  have e1 : [c1] = [.int .i64 a1] := r1
  simp only [List.cons.injEq, and_true] at e1
  subst e1
  obtain ⟨a2, r2, w2⟩ := sd _ _ _ _ _ _ _ _ g2
  obtain ⟨v2, q2, t2⟩ := r2
  have e2 : [c2] = [v2] := q2
  simp only [List.cons.injEq, and_true] at e2
  subst e2
  exact ⟨⟨a0, a1, a2⟩, ⟨_, rfl, t2⟩, ⟨w0, w1, w2⟩⟩
def wfBlock (x : ny) : Prop := (okL wfPhi) x.phis ∧ (okL wfInstr) x.ins ∧ wfTerm x.term
theorem xn {w : World} : Opens Try.prog w 50 nW wfBlock := by
  intro H enc base spare held fuel cs x h
  obtain ⟨ys, n, rfl, rfl, hl, hxl, hf⟩ := DataW.trod_struct Try.underlying50 h
  have hn : cs.length = 5 := hl.trans (by kernel_rfl)
  obtain ⟨c0, c1, c2, c3, c4, rfl⟩ := len5 hn
  have g0 : DataW.trod enc Try.prog w base spare held n 47 (([c0, c1, c2, c3, c4].drop 0).take (Try.prog.cellsOf 47)) = ys[0]? := hf 0 _ rfl
  have s0 : Try.prog.cellsOf 47 = 1 := by kernel_rfl
  rw [s0] at g0
  have i0 : 0 < ys.length := by rw [hxl]; exact ltb rfl
  rw [List.getElem?_eq_getElem i0] at g0
  have g1 : DataW.trod enc Try.prog w base spare held n 48 (([c0, c1, c2, c3, c4].drop 1).take (Try.prog.cellsOf 48)) = ys[1]? := hf 1 _ rfl
  have s1 : Try.prog.cellsOf 48 = 1 := by kernel_rfl
  rw [s1] at g1
  have i1 : 1 < ys.length := by rw [hxl]; exact ltb rfl
  rw [List.getElem?_eq_getElem i1] at g1
  have g2 : DataW.trod enc Try.prog w base spare held n 46 (([c0, c1, c2, c3, c4].drop 2).take (Try.prog.cellsOf 46)) = ys[2]? := hf 2 _ rfl
  have s2 : Try.prog.cellsOf 46 = 3 := by kernel_rfl
  rw [s2] at g2
  have i2 : 2 < ys.length := by rw [hxl]; exact ltb rfl
  rw [List.getElem?_eq_getElem i2] at g2
  obtain ⟨a0, r0, w0⟩ := xi _ _ _ _ _ _ _ _ g0
  obtain ⟨v0, q0, t0⟩ := r0
  have e0 : [c0] = [v0] := q0
  simp only [List.cons.injEq, and_true] at e0
  subst e0
  obtain ⟨a1, r1, w1⟩ := xl _ _ _ _ _ _ _ _ g1
  obtain ⟨v1, q1, t1⟩ := r1
  have e1 : [c1] = [v1] := q1
  simp only [List.cons.injEq, and_true] at e1
  subst e1
  obtain ⟨a2, r2, w2⟩ := xm _ _ _ _ _ _ _ _ g2
  obtain ⟨u2_2, q2, t2_2⟩ := r2
  have e2 : [c2, c3, c4] = [.int .i64 a2.kind, .int .i64 a2.arg, u2_2] := q2
  simp only [List.cons.injEq, and_true] at e2
  obtain ⟨rfl, rfl, rfl⟩ := e2
  exact ⟨⟨a0, a1, a2⟩, ⟨_, _, _, rfl, t0, t1, t2_2⟩, ⟨w0, w1, w2⟩⟩
theorem xo {w : World} : Opens Try.prog w 39 (kSl 50 nW) (okL wfBlock) := qZ Try.underlying39 (by kernel_rfl) (by decide) xn
def wfFunc (x : nA) : Prop := inI64 x.params ∧ inI64 x.result ∧ (okL inI64) x.regs ∧ (okL wfBlock) x.blocks
theorem xp {w : World} : Opens Try.prog w 41 oB wfFunc := by
  intro H enc base spare held fuel cs x h
  obtain ⟨ys, n, rfl, rfl, hl, hxl, hf⟩ := DataW.trod_struct Try.underlying41 h
  have hn : cs.length = 4 := hl.trans (by kernel_rfl)
  obtain ⟨c0, c1, c2, c3, rfl⟩ := len4 hn
  have g0 : DataW.trod enc Try.prog w base spare held n 3 (([c0, c1, c2, c3].drop 0).take (Try.prog.cellsOf 3)) = ys[0]? := hf 0 _ rfl
  have s0 : Try.prog.cellsOf 3 = 1 := by kernel_rfl
  rw [s0] at g0
  have i0 : 0 < ys.length := by rw [hxl]; exact ltb rfl
  rw [List.getElem?_eq_getElem i0] at g0
  have g1 : DataW.trod enc Try.prog w base spare held n 3 (([c0, c1, c2, c3].drop 1).take (Try.prog.cellsOf 3)) = ys[1]? := hf 1 _ rfl
  have s1 : Try.prog.cellsOf 3 = 1 := by kernel_rfl
  rw [s1] at g1
  have i1 : 1 < ys.length := by rw [hxl]; exact ltb rfl
  rw [List.getElem?_eq_getElem i1] at g1
  have g2 : DataW.trod enc Try.prog w base spare held n 25 (([c0, c1, c2, c3].drop 2).take (Try.prog.cellsOf 25)) = ys[2]? := hf 2 _ rfl
  have s2 : Try.prog.cellsOf 25 = 1 := by kernel_rfl
  rw [s2] at g2
  have i2 : 2 < ys.length := by rw [hxl]; exact ltb rfl
  rw [List.getElem?_eq_getElem i2] at g2
  have g3 : DataW.trod enc Try.prog w base spare held n 39 (([c0, c1, c2, c3].drop 3).take (Try.prog.cellsOf 39)) = ys[3]? := hf 3 _ rfl
  have s3 : Try.prog.cellsOf 39 = 1 := by kernel_rfl
  rw [s3] at g3
  have i3 : 3 < ys.length := by rw [hxl]; exact ltb rfl
  rw [List.getElem?_eq_getElem i3] at g3
  obtain ⟨a0, r0, w0⟩ := qm _ _ _ _ _ _ _ _ g0
  have e0 : [c0] = [.int .i64 a0] := r0
  simp only [List.cons.injEq, and_true] at e0
  subst e0
  obtain ⟨a1, r1, w1⟩ := qm _ _ _ _ _ _ _ _ g1
  have e1 : [c1] = [.int .i64 a1] := r1
  simp only [List.cons.injEq, and_true] at e1
  subst e1
  obtain ⟨a2, r2, w2⟩ := sd _ _ _ _ _ _ _ _ g2
  obtain ⟨v2, q2, t2⟩ := r2
  have e2 : [c2] = [v2] := q2
  simp only [List.cons.injEq, and_true] at e2
  subst e2
  obtain ⟨a3, r3, w3⟩ := xo _ _ _ _ _ _ _ _ g3
  obtain ⟨v3, q3, t3⟩ := r3
  have e3 : [c3] = [v3] := q3
  simp only [List.cons.injEq, and_true] at e3
  subst e3
  exact ⟨⟨a0, a1, a2, a3⟩, ⟨_, _, rfl, t2, t3⟩, ⟨w0, w1, w2, w3⟩⟩
theorem xq {w : World} : Opens Try.prog w 33 (kSl 41 oB) (okL wfFunc) := qZ Try.underlying33 (by kernel_rfl) (by decide) xp
def wfModule (x : nT) : Prop := (okL wfFunc) x.funcs
theorem xr {w : World} : Opens Try.prog w 35 kModule wfModule := by
  intro H enc base spare held fuel cs x h
  obtain ⟨ys, n, rfl, rfl, hl, hxl, hf⟩ := DataW.trod_struct Try.underlying35 h
  have hn : cs.length = 1 := hl.trans (by kernel_rfl)
  obtain ⟨c0, rfl⟩ := len1 hn
  have g0 : DataW.trod enc Try.prog w base spare held n 33 (([c0].drop 0).take (Try.prog.cellsOf 33)) = ys[0]? := hf 0 _ rfl
  have s0 : Try.prog.cellsOf 33 = 1 := by kernel_rfl
  rw [s0] at g0
  have i0 : 0 < ys.length := by rw [hxl]; exact ltb rfl
  rw [List.getElem?_eq_getElem i0] at g0
  obtain ⟨a0, r0, w0⟩ := xq _ _ _ _ _ _ _ _ g0
  obtain ⟨v0, q0, t0⟩ := r0
  have e0 : [c0] = [v0] := q0
  simp only [List.cons.injEq, and_true] at e0
  subst e0
  exact ⟨⟨a0⟩, ⟨_, rfl, t0⟩, w0⟩
end Go.Proofs.Ytpmcbahahjelnaa
namespace Go.Proofs.Ytpmcbahahjelnaa
open Go
theorem oY {n : Nat} (h : n ≤ maxLen) : n < nB := by
  have : maxLen < nB := by unfold nB maxLen; decide
  omega
theorem qa {x : Int} (h : inI64 x) : w64 x = x := by
  obtain ⟨h1, h2⟩ := h
  simp only [w64, IntKind.wrap, IntKind.signed, IntKind.bits, IntKind.min, Bool.true_and, decide_eq_true_eq, ge_iff_le]
  split <;> omega
theorem qN {n : Nat} (h : n ≤ 9223372036854775807) : w64 (n : Int) = n := qa ⟨by omega, by omega⟩
theorem rN {n : Nat} (h : n < 9223372036854775807) : w64 ((n : Int) + 1) = ((n + 1 : Nat) : Int) := by
  rw [show ((n : Int) + 1) = ((n + 1 : Nat) : Int) by omega]; exact qN (by omega)
theorem ox {α : Type} (xs : List α) (i : Nat) : idx xs (i : Int) = xs[i]? := by simp [idx]
theorem nI {α : Type} {xs : List α} {i : Nat} (h : i < xs.length) : idx xs (i : Int) = some xs[i] := by rw [ox, List.getElem?_eq_getElem h]
theorem nP {α : Type} (xs : List α) (i : Nat) : (i : Int) < len xs ↔ i < xs.length := by simp [len]
/-- A loop whose states are known one by one. -/
theorem pe {ρ σ : Type} {body : σ → Option (Ex ρ σ)} {r : ρ} : ∀ (n k : Nat) (st : Nat → σ), (∀ i, i < n → body (st i) = some (.go (st (i + 1)))) → body (st n) = some (.ret r) → n < k → whl body k (st 0) = some r
  | 0, k, st, _, he, hk => by
    obtain ⟨k, rfl⟩ : ∃ m, k = m + 1 := ⟨k - 1, by omega⟩
    simp [whl, he]
  | n + 1, k, st, hs, he, hk => by
    obtain ⟨k, rfl⟩ : ∃ m, k = m + 1 := ⟨k - 1, by omega⟩
    simp only [whl, hs 0 (by omega), Option.bind_some]
    exact pe n k (fun i => st (i + 1)) (fun i hi => hs (i + 1) (by omega)) he (by omega)
/-- A loop by a measure: what holds at each round's head. -/
theorem qr {ρ σ : Type} {body : σ → Option (Ex ρ σ)} (I : σ → Prop) (m : σ → Nat) (R : ρ → Prop) (h : ∀ s, I s → (∃ r, body s = some (.ret r) ∧ R r) ∨ ∃ s', body s = some (.go s') ∧ I s' ∧ m s' < m s) :
    ∀ (k : Nat) (s : σ), I s → m s < k → ∃ r, whl body k s = some r ∧ R r
  | 0, s, _, hk => by omega
  | k + 1, s, hI, hk => by
    rcases h s hI with ⟨r, hb, hr⟩ | ⟨s', hb, hI', hm⟩
    · exact ⟨r, by simp [whl, hb], hr⟩
    · obtain ⟨r, h1, h2⟩ := qr I m R h k s' hI' (by omega)
      exact ⟨r, by simp [whl, hb, h1], h2⟩
theorem rO {α β : Type} (g : β → α → β) (a : β) (xs : List α) {i : Nat} (h : i < xs.length) : (xs.take (i + 1)).foldl g a = g ((xs.take i).foldl g a) xs[i] := by
  rw [List.take_succ_eq_append_getElem h, List.foldl_append]; rfl
end Go.Proofs.Ytpmcbahahjelnaa
