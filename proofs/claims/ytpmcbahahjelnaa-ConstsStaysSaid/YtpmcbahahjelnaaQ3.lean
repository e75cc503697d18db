/- Several parts in one text, the first of which: The walk through the program's functions: each one's pure reading, and that a call does what it says. No conditions. -/
import Derived.Test.YtpmcbahahjelnaaQ2
set_option linter.unusedVariables false
set_option linter.unusedSimpArgs false
namespace Go.Proofs.Ytpmcbahahjelnaa
open Go Go.Proofs
section
/-! ### fettle/proper.Form -/
abbrev oU.R (r : GErr) (v : Value) (A : List FP) : Prop := ∃ (w1 : Value) (a : FP), w1 = v ∧ A = [a] ∧ ErO 63 106 108 r w1 a
def oU.nx35 (a : ny) (c : List PMaker × List Int) : Option GErr :=
  (oJ a).bind fun d =>
  (od (⟨(⟨a.params, a.result, a.regs, a.blocks⟩ : ny), c.1, d, -1⟩ : oX)).bind fun b =>
  if b ≥ 0 then
    some (GErr.spot b (GErr.code 4))
  else
    some GErr.no
def oU.bd35 (d : ny) (b : List PMaker × List Int) (a : Int) : Option (Ex (Ex GErr Unit) Int) :=
  if a < (len b.2) then
    (idx b.2 a).bind fun c =>
    if c > 1 ∨ (c > 0 ∧ a < d.params) then
      some (.ret (.ret (GErr.spot a (GErr.code 7))))
    else
      some (.go (w64 (a + 1)))
  else
    some (.ret (.go ()))
def oU.nx24 (a : ny) : Option GErr :=
  (oo a).bind fun b =>
  (whl (fun (s : Int) => oU.bd35 a b s) nD 0).bind fun z =>
  match z with
    | .ret r => some r
    | .go p => oU.nx35 a b
def oU.bd24 (b : List Bool) (a : Int) : Option (Ex (Ex GErr Unit) Int) :=
  if a < (len b) then
    (idx b a).bind fun c =>
    if (!c) = true then
      some (.ret (.ret (GErr.code 6)))
    else
      some (.go (w64 (a + 1)))
  else
    some (.ret (.go ()))
def oU (a1 : nR) (a4 : Int) : Option GErr :=
  (pB a1).bind fun a =>
  if ¬ a = GErr.no then
    some a
  else
    if a4 < 0 ∨ a4 ≥ (len a1.funcs) then
      some (GErr.code 1)
    else
      (idx a1.funcs a4).bind fun b =>
      (ql b).bind fun c =>
      (whl (fun (s : Int) => oU.bd24 c s) nD 0).bind fun z =>
      match z with
        | .ret r => some r
        | .go p => oU.nx24 b
set_option maxHeartbeats 4000000 in
theorem wM {E : World} {H : FP} {w : World} {a1 : nR} {a4 : Int} {v2 : Value} {r : GErr} (q : SlI ou H a1.funcs v2) (hp : oU a1 a4 = some r) (hst : St E H [] w) :
    Fn Try.prog 26 #[.agg #[v2], .int .i64 a4] w fun v w' => ∃ A, oU.R r v A ∧ St E H A w' := by
 refine fb 96 [.tmp 4] Try.func26 rfl rfl rfl rfl rfl hst <| sr <| tb [v2] rfl rfl fun B => ta rfl <| nz <| nv fun aX X => sr <| tv (lA (ds := [v2]) oZ 0 rfl rfl rfl rfl) rfl <| bE hp fun aY hy3 hp => tc 0 [_] rfl c47 (fun _ => sK (a1 := a1) (q.mono nw) hy3) rfl ?_
 rintro _ _ ⟨Y, C, rfl, rfl, D⟩
 refine ta rfl <| nz <| sr <| tm rfl <| tv (pw pc D rfl) rfl <| nz <| cD rfl hp (fun Z hp => ?_) fun Z hp => ?_
 · exact sr <| tm rfl <| ta rfl <| nz <| nH <| rt hp [0] ⟨Y, C, rfl, rfl, D⟩
 · refine sk X rfl <| nv fun aZ aa => sr <| tm rfl <| tv (blt rfl rfl) rfl <| tm rfl <| TL.cut 6 fun ab ac => ?_
   have F {ad} : ∀ w, St E H [C, bx B 35 [v2]] w → ab (ovr ad [(27, .bool (decide (a4 < 0 ∨ a4 ≥ (len a1.funcs)))), (1, .int .i64 a4), (2, .pointer (some ⟨B, 0, none⟩))]) w := by
    refine tlg ac <| nz <| cD rfl hp (fun ae hp => ?_) fun ae hp => ?_
    · exact sr <| tv (mI u63 rfl) rfl <| ta rfl <| nz <| nH <| W.new0 <| rt hp [0] ⟨(.iface 63 (.int .i64 1)), ([] : FP), rfl, rfl, (ErO.mk _ : ErO 63 106 108 (GErr.code 1) (.iface 63 (.int .i64 1)) [])⟩
    · refine sk aa rfl <| sr <| tv (fa oR rfl) rfl <| tv (lb s33 1 rfl rfl rfl) rfl <| tm rfl <| ti u33 i41 q hp rfl rfl rfl rfl ?_
      rintro a a0 a3 _ hp ⟨b, c, rfl, m, n⟩ af
      refine tv (lR (ds := [.int .i64 a.params, .int .i64 a.result, b, c]) n8 sH af 0 rfl rfl rfl) rfl <| tl i41 rfl fun f => tS 0 m41 rfl rfl [.int .i64 a.params, .int .i64 a.result, b, c] rfl (oc rfl (oc rfl (oc (m).one (oc (n).one oc0)))) rfl rfl <| nz <| nv fun ag ah => sr <| tv (lA (ds := [.int .i64 a.params, .int .i64 a.result, b, c]) n8 0 rfl rfl rfl rfl) rfl <| bE hp fun G hy17 hp => tc 0 [_,_,_] rfl c48 (fun _ => sd (a1 := a) (m.mono nw) (n.mono nw) hy17) rfl ?_
      rintro _ _ ⟨ai, aj, rfl, rfl, I⟩
      refine tv (ln u58 I.ro rfl) rfl <| tm rfl <| nz <| nB <| bE hp fun ak al J => ?_
      have am {an} (ao : .go () = ak) : ∀ w, St E H [bx f 41 [.int .i64 a.params, .int .i64 a.result, b, c]] w → ag (ovr an [(6, .pointer (some ⟨f, 0, none⟩))]) w := by
       subst ao
       replace hp : oU.nx24 a = some r := J
       refine tg ah <| sr <| tv (lA (ds := [.int .i64 a.params, .int .i64 a.result, b, c]) n8 0 rfl rfl rfl rfl) rfl <| bE hp fun l hy26 hp => tc 0 [_] rfl c49 (fun _ => wI (a1 := a) (m.mono nw) (n.mono nw) hy26) rfl ?_
       rintro _ _ ⟨k, o, t, u, rfl, rfl, K, M⟩
       refine tm rfl <| tv (xt rfl rfl) rfl <| tv (xt rfl rfl) rfl <| ta rfl <| ta rfl <| nz <| nv fun ap aq => sr <| tm rfl <| tv (ln u25 M.ro rfl) rfl <| tm rfl <| nz <| nB <| bE hp fun ar au N => ?_
       have av {aw} (ax : .go () = ar) : ∀ w, St E H [bx f 41 [.int .i64 a.params, .int .i64 a.result, b, c], o] w → ap (ovr aw [(6, .pointer (some ⟨f, 0, none⟩)), (9, k)]) w := by
        subst ax
        replace hp : oU.nx35 a l = some r := N
        refine tg aq <| nv fun a5 ay => ch mix [bx f 41 [.int .i64 a.params, .int .i64 a.result, b, c], o] (nq 0 rfl (nq 1 rfl ns)) <| hv 0 rfl (lAG (ds := [.int .i64 a.params, .int .i64 a.result, b, c]) n8 0 rfl rfl rfl rfl) Ag rfl <| hv 1 rfl mv Ag rfl <| hv 2 rfl (lAG (ds := [.int .i64 a.params, .int .i64 a.result, b, c]) n8 0 rfl rfl rfl rfl) Ag rfl <| ho 3 rfl Ag fun a6 az => bE hp fun aA hy41 hp => tc 0 [_,_] rfl c50 (fun _ => t6 (a1 := a) (m.mono nw) (n.mono nw) hy41) rfl ?_
        rintro _ _ ⟨x, a7, rfl, rfl, O⟩
        refine hk az (nq 1 rfl (nq 2 rfl ns)) <| hv 4 rfl (n9 (vs := [(0, .agg #[.int .i64 a.params, .int .i64 a.result, b, c]), (1, k), (2, x), (3, .int .i64 (-1))]) (ds := [.int .i64 a.params, .int .i64 a.result, b, c, k, x, .int .i64 (-1)]) rfl (fun w => by obtain ⟨_, _, rfl⟩ := (K).len; obtain ⟨_, _, rfl⟩ := (O).len; kernel_rfl)) Ag rfl <| ho 5 rfl Ag fun a8 aB => tb [.int .i64 a.params, .int .i64 a.result, b, c, k, x, .int .i64 (-1)] rfl rfl fun a9 => hk aB (nq 2 rfl (nq 3 rfl ns)) <| hv 6 rfl sg Ag rfl <| hz Ag <| tg ay <| sr <| tm rfl <| bE hp fun p hy45 hp => tc 1 [_,_,_] rfl c51 (fun _ => wL (a2 := (⟨(⟨a.params, a.result, a.regs, a.blocks⟩ : ny), l.1, aA, -1⟩ : oX)) (m.mono nw) (n.mono nw) (K.ro.mono (subB 2 rfl)) (O.ro.mono (subB 0 rfl)) hy45) rfl ?_
        rintro _ _ ⟨rfl, rfl⟩
        refine nz <| nv fun ba aC => sr <| tm rfl <| tv (nE rfl) rfl <| tv (fa rA rfl) rfl <| tv (lb s3 0 rfl rfl rfl) rfl <| tv (bge rfl rfl) rfl <| nz <| cD rfl hp (fun aD hp => ?_) fun aD hp => ?_
        · exact sr <| tm rfl <| tv (nE rfl) rfl <| tv (fa rA rfl) rfl <| tv (lb s3 0 rfl rfl rfl) rfl <| tv (mI u63 rfl) rfl <| tv (n9 (vs := [(0, .int .i64 p), (1, .iface 63 (.int .i64 4))]) (ds := [.int .i64 p, .iface 63 (.int .i64 4)]) rfl (fun w => by kernel_rfl)) rfl <| tb [.int .i64 p, .iface 63 (.int .i64 4)] rfl rfl fun y => TL.new0 <| tv (mI u106 rfl) rfl <| tp [1, 0, 2, 3, 4, 5] [_,_,_,_,_,_] rfl rfl <| tf 0 2 [_,_,_,_,_] rfl <| ta rfl <| nz <| nH <| rt hp [0] ⟨(.iface 106 (.pointer (some ⟨y, 0, none⟩))), (bx y 108 [.int .i64 p, (.iface 63 (.int .i64 4))] ++ (([] : FP))), rfl, rfl, (ErO.at_ p y (ErO.mk _ : ErO 63 106 108 (GErr.code 4) (.iface 63 (.int .i64 4)) []))⟩
        · exact sk aC rfl <| sr <| ta rfl <| nz <| nH <| W.new0 <| rt hp [0] ⟨.nilIface, ([] : FP), rfl, rfl, (ErO.nil : ErO 63 106 108 GErr.no .nilIface [])⟩
       refine lp au [2, 0, 1] rfl (fun s e L => ∃ P, e = ovr P [(6, .pointer (some ⟨f, 0, none⟩)), (9, k), (50, t), (51, .int .i64 (len l.2)), (52, .int .i64 s)] ∧ L = [bx f 41 [.int .i64 a.params, .int .i64 a.result, b, c], o, u]) ⟨_, nC _ _ rfl, rfl⟩ ?_
       rintro h _ _ ⟨P, rfl, rfl⟩ aE hp Q
       replace hp : oU.bd35 a l h = some aE := hp
       refine sr <| tv (blt rfl rfl) rfl <| nz <| nv fun bb aF => cD rfl hp (fun aG hp => ?_) fun aG hp => ?_
       · refine sk aF rfl <| nv fun bc aH => nB <| sr <| tm rfl <| ti u25 i3 (M).ro hp rfl rfl rfl rfl ?_
         rintro j be bf _ hp rfl aI
         refine tv (lr s3 (Src.at_ 2 rfl) aI 0 rfl rfl) rfl <| ta rfl <| ta rfl <| nz <| sr <| tm rfl <| tv (bgt rfl rfl) rfl <| tm rfl <| TL.cut 9 fun aJ aK => ?_
         have S {aL} : ∀ w, St E H [bx f 41 [.int .i64 a.params, .int .i64 a.result, b, c], o, u] w → aJ (ovr aL [(68, .bool (decide (j > 1 ∨ (j > 0 ∧ h < a.params)))), (6, .pointer (some ⟨f, 0, none⟩)), (9, k), (11, .int .i64 h), (50, t), (51, .int .i64 (len l.2)), (52, .int .i64 h)]) w := by
          refine tlg aK <| nz <| cD rfl hp (fun aM hp => ?_) fun aM hp => ?_
          · refine sr <| tm rfl <| tv (mI u63 rfl) rfl <| tv (n9 (vs := [(0, .int .i64 h), (1, .iface 63 (.int .i64 7))]) (ds := [.int .i64 h, .iface 63 (.int .i64 7)]) rfl (fun w => by kernel_rfl)) rfl <| tb [.int .i64 h, .iface 63 (.int .i64 7)] rfl rfl fun z => TL.new0 <| tv (mI u106 rfl) rfl <| tp [1, 0, 2, 3, 4] [_,_,_,_,_] rfl rfl <| tf 0 2 [_,_,_,_] rfl <| ta rfl <| nz <| nH ?_
            obtain rfl := nK hp Q
            exact rt N [0] ⟨(.iface 106 (.pointer (some ⟨z, 0, none⟩))), (bx z 108 [.int .i64 h, (.iface 63 (.int .i64 7))] ++ (([] : FP))), rfl, rfl, (ErO.at_ h z (ErO.mk _ : ErO 63 106 108 (GErr.code 7) (.iface 63 (.int .i64 7)) []))⟩
          · exact sk aH rfl <| nF <| tv (bad rfl rfl) rfl <| tm rfl <| nl <| gk hp [0, 1, 2] ⟨_, nC _ _ rfl, rfl⟩
         by_cases g : j > 1
         · exact gn rfl (bT g) rfl rfl <| gn rfl (bT g) rfl rfl <| gn rfl (bT g) rfl rfl <| gu rfl rfl rfl <| gu rfl rfl rfl <| gu rfl rfl rfl <| gu rfl rfl rfl <| gn rfl (bT g) rfl rfl <| tv (pT (bT g)) rfl <| nj S (bOt g)
         · refine gy rfl (bF g) <| tm rfl <| gy rfl (bF g) <| tv (bgt rfl rfl) rfl <| gy rfl (bF g) <| tm rfl <| TL.cut 5 fun aN aO => ?_
           have T {aP} : ∀ w, St E H [bx f 41 [.int .i64 a.params, .int .i64 a.result, b, c], o, u] w → aN (ovr aP [(67, .bool (decide (j > 0 ∧ h < a.params))), (6, .pointer (some ⟨f, 0, none⟩)), (9, k), (11, .int .i64 h), (50, t), (51, .int .i64 (len l.2)), (52, .int .i64 h), (59, .bool (decide (j > 1))), (60, .int .i64 j), (61, .bool (decide (j > 0))), (62, .bool (decide (j > 0)))]) w := by
            exact tlg aO <| tv (pF (bF g)) rfl <| nj S (bOf g)
           by_cases i : j > 0
           · exact gy rfl (bT i) <| tm rfl <| gy rfl (bT i) <| tv (fa po rfl) rfl <| gy rfl (bT i) <| tv (lb s3 0 rfl rfl rfl) rfl <| gy rfl (bT i) <| tv (blt rfl rfl) rfl <| gy rfl (bF g) <| tv (pT (bT i)) rfl <| nj T (bAt i)
           · exact gn rfl (bF i) rfl rfl <| gn rfl (bF i) rfl rfl <| gn rfl (bF i) rfl rfl <| gn rfl (bF i) rfl rfl <| gy rfl (bF g) <| tv (pF (bF i)) rfl <| nj T (bAf i)
       · exact nN <| jn [0, 1] (av (nK hp Q))
      refine lp al [1, 0] rfl (fun s e L => ∃ U, e = ovr U [(6, .pointer (some ⟨f, 0, none⟩)), (35, ai), (36, .int .i64 (len G)), (37, .int .i64 s)] ∧ L = [bx f 41 [.int .i64 a.params, .int .i64 a.result, b, c], aj]) ⟨_, nC _ _ rfl, rfl⟩ ?_
      rintro aQ _ _ ⟨U, rfl, rfl⟩ aR hp V
      replace hp : oU.bd24 G aQ = some aR := hp
      refine sr <| tv (blt rfl rfl) rfl <| nz <| nv fun bg aS => cD rfl hp (fun aT hp => ?_) fun aT hp => ?_
      · refine sk aS rfl <| nv fun bh aU => nB <| sr <| ti u58 i4 (I).ro hp rfl rfl rfl rfl ?_
        rintro bi bj bk _ hp rfl aV
        refine tv (lr s4 (Src.at_ 1 rfl) aV 0 rfl rfl) rfl <| ta rfl <| nz <| sr <| tm rfl <| tv (oI rfl) rfl <| nz <| cB rfl hp (fun aW hp => ?_) fun aW hp => ?_
        · refine sr <| tv (mI u63 rfl) rfl <| ta rfl <| nz <| nH <| W.new0 ?_
          obtain rfl := nK hp V
          exact rt J [0] ⟨(.iface 63 (.int .i64 6)), ([] : FP), rfl, rfl, (ErO.mk _ : ErO 63 106 108 (GErr.code 6) (.iface 63 (.int .i64 6)) [])⟩
        · exact sk aU rfl <| nF <| tv (bad rfl rfl) rfl <| tm rfl <| nl <| gk hp [0, 1] ⟨_, nC _ _ rfl, rfl⟩
      · exact nN <| jn [0] (am (nK hp V))
   by_cases d : a4 < 0
   · exact gn rfl (bT d) rfl rfl <| gn rfl (bT d) rfl rfl <| gn rfl (bT d) rfl rfl <| gn rfl (bT d) rfl rfl <| gn rfl (bT d) rfl rfl <| tv (pT (bT d)) rfl <| nj F (bOt d)
   · exact gy rfl (bF d) <| tm rfl <| gy rfl (bF d) <| tv (fa oR rfl) rfl <| gy rfl (bF d) <| tv (lb s33 1 rfl rfl rfl) rfl <| gy rfl (bF d) <| tv (ln u33 q rfl) rfl <| gy rfl (bF d) <| tv (bge rfl rfl) rfl <| tv (pF (bF d)) rfl <| nj F (bOf d)
/-! ### (*fettle/consts.finder).become -/
abbrev pY.R (c : Nat) (a2 : PFinder) (v3 : Value) (d : Value) (e : Value) (a : Value) (g : Value) (h : Value) (r : List PKnown × Bool) (v : Value) (A : List FP) : Prop := ∃ (b : FP), .tuple #[] = v ∧ A = [bx c 87 [.int .i64 a2.f.params, .int .i64 a2.f.result, v3, d, e, a, g, h, .bool r.2], b] ∧ SlO 62 kKnown r.1 a b
def pY.jn5 (a2 : PFinder) (a17 : Int) (a : Int) (b : Int) : Option (List PKnown × Bool) :=
  (idx a2.known a17).bind fun c =>
  some ((a2.known.set (a17).toNat (⟨a, b⟩ : PKnown)), true)
def pY (a2 : PFinder) (a17 : Int) (a18 : PKnown) : Option (List PKnown × Bool) :=
  (idx a2.known a17).bind fun a =>
  if (a18.kind = 0 ∨ a = a18) ∨ a.kind = 2 then
    some (a2.known, a2.changed)
  else
    if a.kind = 1 then
      pY.jn5 a2 a17 2 0
    else
      pY.jn5 a2 a17 a18.kind a18.v
set_option maxHeartbeats 4000000 in
theorem sM {E : World} {H : FP} {w : World} {a2 : PFinder} {a17 : Int} {a18 : PKnown} {g : Nat} {v3 : Value} {k : Value} {l : Value} {m : Value} {n : FP} {o : Value} {p : Value} {r : List PKnown × Bool} (V : SlI (nt .i64) H a2.f.regs v3) (W : SlI nY H a2.f.blocks k) (X : SlI (kSl 3 (nt .i64)) H a2.ahead l) (q : SlO 62 kKnown a2.known m n) (Y : SlI kBool H a2.entered o) (Z : SlI (kSl 4 kBool) H a2.gone p) (hp : pY a2 a17 a18 = some r) (hst : St E H [bx g 87 [.int .i64 a2.f.params, .int .i64 a2.f.result, v3, k, l, m, o, p, .bool a2.changed], n] w) :
    Fn Try.prog 78 #[.pointer (some ⟨g, 0, none⟩), .int .i64 a17, .agg #[.int .i64 a18.kind, .int .i64 a18.v]] w fun v w' => ∃ A, pY.R g a2 v3 k l m o p r v A ∧ St E H A w' := by
 refine fb 43 [] Try.func78 rfl rfl rfl rfl rfl hst <| sr <| tb [.int .i64 a18.kind, .int .i64 a18.v] rfl rfl fun h => nz <| sr <| tm rfl <| tv (nE rfl) rfl <| tv (fa qo rfl) rfl <| tv (lb s57 1 rfl rfl rfl) rfl <| tm rfl <| ti u57 i62 (q).ro hp rfl rfl rfl rfl ?_
 rintro c aa ab _ hp rfl z
 refine tv (lR (ds := [.int .i64 c.kind, .int .i64 c.v]) px (Src.at_ 2 rfl) z 0 rfl rfl rfl) rfl <| tl i62 rfl fun s => tS 0 m62 rfl rfl [.int .i64 c.kind, .int .i64 c.v] rfl (oc rfl (oc rfl oc0)) rfl rfl <| nz <| nv fun B C => ?_
 have t {i j D} (hp : pY.jn5 a2 a17 i j = some r) : ∀ w, St E H [bx g 87 [.int .i64 a2.f.params, .int .i64 a2.f.result, v3, k, l, m, o, p, .bool a2.changed], n, bx h 62 [.int .i64 i, .int .i64 j]] w → B (ovr D [(0, .pointer (some ⟨g, 0, none⟩)), (1, .int .i64 a17), (5, .pointer (some ⟨h, 0, none⟩))]) w := by
  exact tg C <| ch mix [bx h 62 [.int .i64 i, .int .i64 j]] (nq 2 rfl ns) <| hv 0 rfl mv Ag rfl <| hv 1 rfl (nE rfl) Ag rfl <| hv 2 rfl (fa qo rfl) Ag rfl <| hv 4 rfl mv Ag rfl <| hv 5 rfl mv Ag rfl <| hv 6 rfl (lAG (ds := [.int .i64 i, .int .i64 j]) px 0 rfl rfl rfl rfl) Ag rfl <| ho 3 rfl Ag fun ac F => tv (lb s57 0 rfl rfl rfl) rfl <| hk F (nq 2 rfl ns) <| hO 7 rfl u57 i62 q hp rfl rfl rfl Ag rfl fun ad ae af G hp => ho 8 rfl Ag fun ag I => tp [1, 0, 2] [_,_,_] rfl rfl <| TL.stE0 (ds := [.int .i64 i, .int .i64 j]) (u := .agg #[.int .i64 i, .int .i64 j]) (a := (⟨i, j⟩ : PKnown)) q G m62 rfl rfl rfl ⟨rfl, rfl⟩ fun J K => hk I (nq 2 rfl ns) <| hv 9 rfl (nE rfl) Ag rfl <| hv 10 rfl (fa r7 rfl) Ag rfl <| ho 11 rfl Ag fun ah L => ts 1 m4 rfl rfl w1 rfl <| hk L (nq 2 rfl ns) <| hz Ag <| rt hp [1, 0] ⟨J, rfl, rfl, K⟩
 refine nB <| sr <| tv (fa p7 rfl) rfl <| tv (lb s3 1 rfl rfl rfl) rfl <| tv (beq rfl rfl) rfl <| tm rfl <| TL.cut 4 fun M N => ?_
 have x {O} : ∀ w, St E H [bx s 62 [.int .i64 c.kind, .int .i64 c.v], bx h 62 [.int .i64 a18.kind, .int .i64 a18.v], bx g 87 [.int .i64 a2.f.params, .int .i64 a2.f.result, v3, k, l, m, o, p, .bool a2.changed], n] w → M (ovr O [(22, .bool (decide (a18.kind = 0 ∨ c = a18))), (0, .pointer (some ⟨g, 0, none⟩)), (1, .int .i64 a17), (5, .pointer (some ⟨h, 0, none⟩)), (6, .pointer (some ⟨s, 0, none⟩))]) w := by
  refine tlg N <| tm rfl <| TL.cut 4 fun P Q => ?_
  have y {S} : ∀ w, St E H [bx s 62 [.int .i64 c.kind, .int .i64 c.v], bx h 62 [.int .i64 a18.kind, .int .i64 a18.v], bx g 87 [.int .i64 a2.f.params, .int .i64 a2.f.result, v3, k, l, m, o, p, .bool a2.changed], n] w → P (ovr S [(27, .bool (decide ((a18.kind = 0 ∨ c = a18) ∨ c.kind = 2))), (0, .pointer (some ⟨g, 0, none⟩)), (1, .int .i64 a17), (5, .pointer (some ⟨h, 0, none⟩)), (6, .pointer (some ⟨s, 0, none⟩))]) w := by
   refine tlg Q <| ta rfl <| nz <| cD rfl hp (fun T hp => ?_) fun T hp => ?_
   · exact nH <| rt hp [2, 3] ⟨n, rfl, rfl, q⟩
   · refine sr <| tv (fa p7 rfl) rfl <| tv (lb s3 0 rfl rfl rfl) rfl <| tv (beq rfl rfl) rfl <| ta rfl <| nz <| cD rfl hp (fun U hp => ?_) fun U hp => ?_
     · exact nF <| tv (n9 (vs := [(0, .int .i64 2)]) (ds := [.int .i64 2, .int .i64 0]) rfl (fun w => by kernel_rfl)) rfl <| tS 1 m62 rfl rfl [.int .i64 2, .int .i64 0] rfl (oc rfl (oc rfl oc0)) rfl rfl <| nl <| jn [2, 3, 1] (t hp)
     · exact TC.skip <| jn [2, 3, 1] (t hp)
  by_cases d : a18.kind = 0 ∨ c = a18
  · exact gn rfl (bT d) rfl rfl <| gn rfl (bT d) rfl rfl <| gn rfl (bT d) rfl rfl <| tv (pT (bT d)) rfl <| nj y (bOt d)
  · exact gy rfl (bF d) <| tv (fa p7 rfl) rfl <| gy rfl (bF d) <| tv (lb s3 0 rfl rfl rfl) rfl <| gy rfl (bF d) <| tv (beq rfl rfl) rfl <| tv (pF (bF d)) rfl <| nj y (bOf d)
 by_cases e : a18.kind = 0
 · exact gn rfl (bT e) rfl rfl <| gn rfl (bT e) rfl rfl <| gn rfl (bT e) rfl rfl <| tv (pT (bT e)) rfl <| nj x (bOt e)
 · exact gy rfl (bF e) <| tv (lA (ds := [.int .i64 c.kind, .int .i64 c.v]) px 0 rfl rfl rfl rfl) rfl <| gy rfl (bF e) <| tv (lA (ds := [.int .i64 a18.kind, .int .i64 a18.v]) px 1 rfl rfl rfl rfl) rfl <| gy rfl (bF e) <| tv (eqS62 (a := c) (b := a18) rfl rfl) rfl <| tv (pF (bF e)) rfl <| nj x (bOf e)
/-! ### (*fettle/consts.finder).along -/
abbrev q8.R (r : Bool) (v : Value) (A : List FP) : Prop := .bool r = v ∧ A = []
def q8 (a2 : PFinder) (a17 : Int) (a18 : Int) : Option Bool :=
  (idx a2.f.blocks a17).bind fun a =>
  (pj a.term.to a18).bind fun b =>
  (idx a2.gone a17).bind fun c =>
  (idx c b).bind fun d =>
  some d
theorem wN {E : World} {H : FP} {w : World} {a2 : PFinder} {a17 : Int} {a18 : Int} {a : Nat} {b : Nat} {c : Value} {d : Value} {e : Value} {g : Value} {h : Value} {i : Value} {r : Bool} (j : n7 H a b [.int .i64 a2.f.params, .int .i64 a2.f.result, c, d, e, g, h, i, .bool a2.changed]) (t : SlI (nt .i64) H a2.f.regs c) (k : SlI nY H a2.f.blocks d) (u : SlI (kSl 3 (nt .i64)) H a2.ahead e) (x : SlI kKnown H a2.known g) (y : SlI kBool H a2.entered h) (l : SlI (kSl 4 kBool) H a2.gone i) (hp : q8 a2 a17 a18 = some r) (hst : St E H [] w) :
    Fn Try.prog 90 #[.pointer (some ⟨a, b, none⟩), .int .i64 a17, .int .i64 a18] w fun v w' => ∃ A, q8.R r v A ∧ St E H A w' := by
 refine fb 30 [.tmp 6] Try.func90 rfl rfl rfl rfl rfl hst <| sr <| ta rfl <| nz <| sr <| tm rfl <| tv (nE rfl) rfl <| tv (fa qn rfl) rfl <| tv (fa oa rfl) rfl <| tv (lr s39 sH j 3 rfl rfl) rfl <| tm rfl <| ti u39 i50 k hp rfl rfl rfl rfl ?_
 rintro m z B _ hp ⟨C, D, F, rfl, G, I, n⟩ o
 refine tv (fa oQ rfl) rfl <| tv (fa o8 rfl) rfl <| tv (lr s25 sH o 4 rfl rfl) rfl <| tm rfl <| bE hp fun J hy2 hp => tc 0 [] rfl c54 (fun _ => tX (a1 := m.term.to) (a4 := a18) (n.mono nw) hy2) rfl ?_
 rintro _ _ ⟨rfl, rfl⟩
 refine ta rfl <| nz <| sr <| tm rfl <| tv (nE rfl) rfl <| tv (fa qL rfl) rfl <| tv (lr s85 sH j 7 rfl rfl) rfl <| tm rfl <| ti u85 i58 l hp rfl rfl rfl rfl ?_
 rintro K L M _ hp ⟨N, rfl, p⟩ q
 refine tv (lr s58 sH q 0 rfl rfl) rfl <| tm rfl <| ti u58 i4 p hp rfl rfl rfl rfl ?_
 rintro O P Q _ hp rfl s
 exact tv (lr s4 sH s 0 rfl rfl) rfl <| ta rfl <| nz <| nH <| rt hp [] ⟨rfl, rfl⟩
/-! ### (*fettle/consts.finder).phi -/
abbrev o9.R (c : Nat) (a2 : PFinder) (v3 : Value) (d : Value) (e : Value) (a : Value) (g : Value) (h : Value) (r : List PKnown × Bool) (v : Value) (A : List FP) : Prop := ∃ (b : FP), .tuple #[] = v ∧ A = [bx c 87 [.int .i64 a2.f.params, .int .i64 a2.f.result, v3, d, e, a, g, h, .bool r.2], b] ∧ SlO 62 kKnown r.1 a b
def o9.nx12  (a : List PKnown) (b : Bool) : Option (List PKnown × Bool) :=
  some (a, b)
def o9.jn22 (a : Int) (b : List PKnown) (c : Bool) : Option (Ex (List PKnown × Bool) (List PKnown × Bool × Int)) :=
  some (.go (b, c, (w64 (a + 1))))
def o9.bd12 (a2 : PFinder) (a17 : Int) (a18 : PPhi) (a : List PKnown) (c : Bool) (b : Int) : Option (Ex (List PKnown × Bool) (List PKnown × Bool × Int)) :=
  if b < (len a18.args) then
    (idx a18.args b).bind fun e =>
    (idx a2.ahead a17).bind fun g =>
    (idx g b).bind fun h =>
    (q8 (⟨(⟨a2.f.params, a2.f.result, a2.f.regs, a2.f.blocks⟩ : ny), a2.ahead, a, a2.entered, a2.gone, c⟩ : PFinder) h a17).bind fun i =>
    if i = true then
      (idx a e).bind fun j =>
      (pY (⟨(⟨a2.f.params, a2.f.result, a2.f.regs, a2.f.blocks⟩ : ny), a2.ahead, a, a2.entered, a2.gone, c⟩ : PFinder) a18.dst j).bind fun d =>
      o9.jn22 b d.1 d.2
    else
      o9.jn22 b a c
  else
    some (.ret (a, c))
def o9.jn4 (a2 : PFinder) (a17 : Int) (a18 : PPhi) (a : List PKnown) (b : Bool) : Option (List PKnown × Bool) :=
  (whl (fun (s : (List PKnown × Bool × Int)) => o9.bd12 a2 a17 a18 s.1 s.2.1 s.2.2) nD (a, b, 0)).bind fun z =>
  o9.nx12 z.1 z.2
def o9 (a2 : PFinder) (a17 : Int) (a18 : PPhi) : Option (List PKnown × Bool) :=
  if (len a18.args) = 0 then
    (pY a2 a18.dst (⟨2, 0⟩ : PKnown)).bind fun a =>
    o9.jn4 a2 a17 a18 a.1 a.2
  else
    o9.jn4 a2 a17 a18 a2.known a2.changed
set_option maxHeartbeats 4000000 in
theorem wO {E : World} {H : FP} {w : World} {a2 : PFinder} {a17 : Int} {a18 : PPhi} {a : Nat} {v3 : Value} {d : Value} {g : Value} {b : Value} {I : FP} {h : Value} {i : Value} {c : Value} {r : List PKnown × Bool} (p : SlI (nt .i64) H a2.f.regs v3) (q : SlI nY H a2.f.blocks d) (o : SlI (kSl 3 (nt .i64)) H a2.ahead g) (J : SlO 62 kKnown a2.known b I) (t : SlI kBool H a2.entered h) (u : SlI (kSl 4 kBool) H a2.gone i) (x : SlI (nt .i64) H a18.args c) (hp : o9 a2 a17 a18 = some r) (hst : St E H [bx a 87 [.int .i64 a2.f.params, .int .i64 a2.f.result, v3, d, g, b, h, i, .bool a2.changed], I] w) :
    Fn Try.prog 77 #[.pointer (some ⟨a, 0, none⟩), .int .i64 a17, .agg #[.int .i64 a18.dst, c]] w fun v w' => ∃ A, o9.R a a2 v3 d g b h i r v A ∧ St E H A w' := by
 refine fb 50 [] Try.func77 rfl rfl rfl rfl rfl hst <| sr <| tb [.int .i64 a18.dst, c] rfl rfl fun j => nz <| nv fun U V => ?_
 have K {M N y W} (X : SlO 62 kKnown M b y) (hp : o9.jn4 a2 a17 a18 M N = some r) : ∀ w, St E H [bx a 87 [.int .i64 a2.f.params, .int .i64 a2.f.result, v3, d, g, b, h, i, .bool N], y, bx j 70 [.int .i64 a18.dst, c]] w → U (ovr W [(0, .pointer (some ⟨a, 0, none⟩)), (1, .int .i64 a17), (5, .pointer (some ⟨j, 0, none⟩))]) w := by
  refine tg V <| sr <| tv (fa py rfl) rfl <| tv (lb s25 2 rfl rfl rfl) rfl <| tv (ln u25 x rfl) rfl <| tm rfl <| nz <| qf fun Y Z => nB <| bE hp fun aa ab ac => ?_
  have ad {z B C ae} (af : SlO 62 kKnown z b C) (ag : (z, B) = aa) : ∀ w, St E H [bx a 87 [.int .i64 a2.f.params, .int .i64 a2.f.result, v3, d, g, b, h, i, .bool B], C] w → Y (ovr ae []) w := by
   subst ag
   replace hp : o9.nx12 z B = some r := ac
   exact viaK Z <| rt hp [0, 1] ⟨C, rfl, rfl, af⟩
  refine lp ab [0, 1, 2] rfl (fun s e L => ∃ k l m D O, s = (k, l, m) ∧ SlO 62 kKnown k b D ∧ e = ovr O [(0, .pointer (some ⟨a, 0, none⟩)), (1, .int .i64 a17), (5, .pointer (some ⟨j, 0, none⟩)), (18, c), (19, .int .i64 (len a18.args)), (20, .int .i64 m)] ∧ L = [bx a 87 [.int .i64 a2.f.params, .int .i64 a2.f.result, v3, d, g, b, h, i, .bool l], D, bx j 70 [.int .i64 a18.dst, c]]) ⟨_, _, _, y, _, rfl, X, nC _ _ rfl, rfl⟩ ?_
  rintro _ _ _ ⟨k, l, m, D, O, rfl, n, rfl, rfl⟩ P hp ah
  replace hp : o9.bd12 a2 a17 a18 k l m = some P := hp
  refine sr <| tv (blt rfl rfl) rfl <| nz <| nv fun aD ai => cD rfl hp (fun aj hp => ?_) fun aj hp => ?_
  · refine sk ai rfl <| nv fun ak al => ?_
    have Q {S T F am} (an : SlO 62 kKnown S b F) (hp : o9.jn22 m S T = some P) : ∀ w, St E H [bx a 87 [.int .i64 a2.f.params, .int .i64 a2.f.result, v3, d, g, b, h, i, .bool T], F, bx j 70 [.int .i64 a18.dst, c]] w → ak (ovr am [(0, .pointer (some ⟨a, 0, none⟩)), (1, .int .i64 a17), (5, .pointer (some ⟨j, 0, none⟩)), (18, c), (19, .int .i64 (len a18.args)), (20, .int .i64 m)]) w := by
     exact tg al <| nF <| tv (bad rfl rfl) rfl <| tm rfl <| nl <| gk hp [0, 1, 2] ⟨_, _, _, F, _, rfl, an, nC _ _ rfl, rfl⟩
    refine nB <| sr <| tm rfl <| ti u25 i3 x hp rfl rfl rfl rfl ?_
    rintro aE aF aG _ hp rfl ao
    refine tv (lr s3 sH ao 0 rfl rfl) rfl <| ta rfl <| ta rfl <| nz <| sr <| tm rfl <| tm rfl <| tv (nE rfl) rfl <| tv (fa tT rfl) rfl <| tv (lb s73 0 rfl rfl rfl) rfl <| tm rfl <| ti u73 i25 o hp rfl rfl rfl rfl ?_
    rintro aH aI aJ _ hp ⟨aK, rfl, ap⟩ aq
    refine tv (lr s25 sH aq 0 rfl rfl) rfl <| tm rfl <| ti u25 i3 ap hp rfl rfl rfl rfl ?_
    rintro ar aL aM _ hp rfl au
    refine tv (lr s3 sH au 0 rfl rfl) rfl <| tm rfl <| bE hp fun aN hy26 hp => tc 0 [_,_,_] rfl c90 (fun _ => wN (a2 := (⟨(⟨a2.f.params, a2.f.result, a2.f.regs, a2.f.blocks⟩ : ny), a2.ahead, k, a2.entered, a2.gone, l⟩ : PFinder)) (a17 := ar) (a18 := a17) ((pi a 87 _).mono (subB 0 rfl)) (p.mono nw) (q.mono nw) (o.mono nw) (n.ro.mono (subB 1 rfl)) (t.mono nw) (u.mono nw) hy26) rfl ?_
    rintro _ _ ⟨rfl, rfl⟩
    refine nz <| cB rfl hp (fun av hp => ?_) fun av hp => ?_
    · refine ch mix [bx j 70 [.int .i64 a18.dst, c]] (nq 2 rfl ns) <| hv 0 rfl mv Ag rfl <| hv 1 rfl (fa qd rfl) Ag rfl <| hv 2 rfl (lbG s3 0 rfl rfl rfl) Ag rfl <| hv 3 rfl mv Ag rfl <| hv 4 rfl (nE rfl) Ag rfl <| hv 5 rfl (fa qo rfl) Ag rfl <| hv 7 rfl mv Ag rfl <| ho 6 rfl Ag fun aO aw => tv (lb s57 0 rfl rfl rfl) rfl <| hk aw (nq 2 rfl ns) <| hi 8 rfl u57 i62 (n).ro hp rfl rfl rfl Ag rfl ?_
      rintro G aP aQ _ hp rfl ax
      refine ho 9 rfl Ag fun aR ay => tv (lR (ds := [.int .i64 G.kind, .int .i64 G.v]) px (Src.at_ 1 rfl) ax 0 rfl rfl rfl) rfl <| hk ay (nq 2 rfl ns) <| ho 10 rfl Ag fun aS az => bE hp fun aT hy36 hp => tc 2 [_] rfl c78 (fun _ => sM (a2 := (⟨(⟨a2.f.params, a2.f.result, a2.f.regs, a2.f.blocks⟩ : ny), a2.ahead, k, a2.entered, a2.gone, l⟩ : PFinder)) (a17 := a18.dst) (a18 := G) (p.mono nw) (q.mono nw) (o.mono nw) n (t.mono nw) (u.mono nw) hy36) rfl ?_
      rintro _ _ ⟨aU, rfl, rfl, aA⟩
      exact hk az (nq 2 rfl ns) <| hz Ag <| jn [0, 1, 2] (Q aA hp)
    · exact TC.skip <| jn [0, 1, 2] (Q n hp)
  · exact nN <| jn [0, 1] (ad n (nK hp ah))
 refine sr <| tv (fa py rfl) rfl <| tv (lb s25 0 rfl rfl rfl) rfl <| tv (ln u25 x rfl) rfl <| tv (beq rfl rfl) rfl <| nz <| cD rfl hp (fun aB hp => ?_) fun aB hp => ?_
 · refine nF <| tm rfl <| tv (fa qd rfl) rfl <| tv (lb s3 0 rfl rfl rfl) rfl <| tv (n9 (vs := [(0, .int .i64 2)]) (ds := [.int .i64 2, .int .i64 0]) rfl (fun w => by kernel_rfl)) rfl <| tp [1, 2, 0] [_,_,_] rfl rfl <| bE hp fun aV hy41 hp => tc 2 [_] rfl c78 (fun _ => sM (a2 := a2) (a17 := a18.dst) (a18 := (⟨2, 0⟩ : PKnown)) (p.mono nw) (q.mono nw) (o.mono nw) J (t.mono nw) (u.mono nw) hy41) rfl ?_
   rintro _ _ ⟨aW, rfl, rfl, aC⟩
   exact nl <| jn [0, 1, 2] (K aC hp)
 · exact TC.skip <| jn [1, 2, 0] (K J hp)
/-! ### fettle/arith.bit -/
abbrev q9.R (r : Int) (v : Value) (A : List FP) : Prop := .int .i64 r = v ∧ A = []
def q9 (a1 : Bool) : Option Int :=
  if a1 = true then
    some 1
  else
    some 0
theorem t7 {E : World} {H : FP} {w : World} {a1 : Bool} {r : Int}  (hp : q9 a1 = some r) (hst : St E H [] w) :
    Fn Try.prog 99 #[.bool a1] w fun v w' => ∃ A, q9.R r v A ∧ St E H A w' := by
 refine fb 4 [.tmp 2] Try.func99 rfl rfl rfl rfl rfl hst <| sr <| ta rfl <| nz <| nv fun c a => sr <| tm rfl <| nz <| cB rfl hp (fun b hp => ?_) fun b hp => ?_
 · exact sr <| ta rfl <| nz <| nH <| rt hp [] ⟨rfl, rfl⟩
 · exact sk a rfl <| sr <| ta rfl <| nz <| nH <| rt hp [] ⟨rfl, rfl⟩
/-! ### fettle/arith.Eval -/
abbrev rb.R (r : Int × GErr) (v : Value) (A : List FP) : Prop := ∃ (w1 : Value) (a : FP), .tuple #[.int .i64 r.1, w1] = v ∧ A = [a] ∧ ErO 63 106 108 r.2 w1 a
def rb (a1 : Int) (a2 : List Int) : Option (Int × GErr) :=
  (qk a1).bind fun c =>
  if (!c.2) = true ∨ (¬ (len a2) = c.1) then
    some (0, (GErr.code 1))
  else
    (idx a2 0).bind fun a =>
    if a1 = 2 then
      some (a, GErr.no)
    else
      if a1 = 14 then
        some ((w64 (1 - a)), GErr.no)
      else
        (idx a2 1).bind fun b =>
        if a1 = 3 then
          some ((w64 (a + b)), GErr.no)
        else
          if a1 = 4 then
            some ((w64 (a - b)), GErr.no)
          else
            if a1 = 5 then
              some ((w64 (a * b)), GErr.no)
            else
              if a1 = 6 then
                some ((bitw .and a b), GErr.no)
              else
                if a1 = 7 then
                  some ((bitw .or a b), GErr.no)
                else
                  if a1 = 8 then
                    some ((bitw .xor a b), GErr.no)
                  else
                    if a1 = 9 then
                      some ((shlw a (andU (u64of b) 63)), GErr.no)
                    else
                      if a1 = 10 then
                        some ((shrw a (andU (u64of b) 63)), GErr.no)
                      else
                        if a1 = 12 then
                          (q9 (decide (a < b))).bind fun d =>
                          some (d, GErr.no)
                        else
                          if a1 = 13 then
                            (q9 (decide (a = b))).bind fun e =>
                            some (e, GErr.no)
                          else
                            if b = 0 then
                              some (0, (GErr.code 7))
                            else
                              some ((w64 (Int.tdiv a b)), GErr.no)
set_option maxHeartbeats 4000000 in
theorem wP {E : World} {H : FP} {w : World} {a1 : Int} {a2 : List Int} {v3 : Value} {r : Int × GErr} (d : SlI (nt .i64) H a2 v3) (hp : rb a1 a2 = some r) (hst : St E H [] w) :
    Fn Try.prog 91 #[.int .i64 a1, v3] w fun v w' => ∃ A, rb.R r v A ∧ St E H A w' := by
 refine fb 101 [.tmp 4, .tmp 5] Try.func91 rfl rfl rfl rfl rfl hst <| sr <| ta rfl <| ta rfl <| nz <| sr <| tm rfl <| bE hp fun e hy1 hp => tc 0 [] rfl c57 (fun _ => sc (a1 := a1) hy1) rfl ?_
 rintro _ _ ⟨rfl, rfl⟩
 refine tm rfl <| tv (xt rfl rfl) rfl <| tv (xt rfl rfl) rfl <| ta rfl <| ta rfl <| nz <| nv fun M h => sr <| tm rfl <| tv (oI rfl) rfl <| tm rfl <| TL.cut 5 fun i j => ?_
 have f {l} : ∀ w, St E H [] w → i (ovr l [(22, .bool (decide ((!e.2) = true ∨ (¬ (len a2) = e.1)))), (0, .int .i64 a1), (1, v3)]) w := by
  refine tlg j <| nz <| cD rfl hp (fun o hp => ?_) fun o hp => ?_
  · exact sr <| tv (mI u63 rfl) rfl <| ta rfl <| ta rfl <| nz <| nH <| W.new0 <| rt hp [0] ⟨(.iface 63 (.int .i64 1)), ([] : FP), rfl, rfl, (ErO.mk _ : ErO 63 106 108 (GErr.code 1) (.iface 63 (.int .i64 1)) [])⟩
  · refine sk h rfl <| sr <| tm rfl <| ti u23 i2 d hp rfl rfl rfl rfl ?_
    rintro c N O _ hp rfl p
    refine tv (lr s2 sH p 0 rfl rfl) rfl <| ta rfl <| nz <| nv fun P q => sr <| tm rfl <| nz <| nB <| sr <| tv (beq rfl rfl) rfl <| ta rfl <| nz <| cD rfl hp (fun s hp => ?_) fun s hp => ?_
    · exact sr <| tm rfl <| ta rfl <| ta rfl <| nz <| nH <| W.new0 <| rt hp [0] ⟨.nilIface, ([] : FP), rfl, rfl, (ErO.nil : ErO 63 106 108 GErr.no .nilIface [])⟩
    · refine sr <| tv (beq rfl rfl) rfl <| ta rfl <| nz <| cD rfl hp (fun t hp => ?_) fun t hp => ?_
      · exact sr <| tm rfl <| tv (bsu rfl rfl) rfl <| ta rfl <| ta rfl <| nz <| nH <| W.new0 <| rt hp [0] ⟨.nilIface, ([] : FP), rfl, rfl, (ErO.nil : ErO 63 106 108 GErr.no .nilIface [])⟩
      · refine sk q rfl <| sr <| tm rfl <| ti u23 i2 d hp rfl rfl rfl rfl ?_
        rintro b Q S _ hp rfl u
        refine tv (lr s2 sH u 0 rfl rfl) rfl <| ta rfl <| nz <| nv fun T x => sr <| tm rfl <| nz <| nB <| sr <| tv (beq rfl rfl) rfl <| ta rfl <| nz <| cD rfl hp (fun y hp => ?_) fun y hp => ?_
        · exact sr <| tm rfl <| tm rfl <| tv (bad rfl rfl) rfl <| ta rfl <| ta rfl <| nz <| nH <| W.new0 <| rt hp [0] ⟨.nilIface, ([] : FP), rfl, rfl, (ErO.nil : ErO 63 106 108 GErr.no .nilIface [])⟩
        · refine sr <| tv (beq rfl rfl) rfl <| ta rfl <| nz <| cD rfl hp (fun z hp => ?_) fun z hp => ?_
          · exact sr <| tm rfl <| tm rfl <| tv (bsu rfl rfl) rfl <| ta rfl <| ta rfl <| nz <| nH <| W.new0 <| rt hp [0] ⟨.nilIface, ([] : FP), rfl, rfl, (ErO.nil : ErO 63 106 108 GErr.no .nilIface [])⟩
          · refine sr <| tv (beq rfl rfl) rfl <| ta rfl <| nz <| cD rfl hp (fun B hp => ?_) fun B hp => ?_
            · exact sr <| tm rfl <| tm rfl <| tv (bmu rfl rfl) rfl <| ta rfl <| ta rfl <| nz <| nH <| W.new0 <| rt hp [0] ⟨.nilIface, ([] : FP), rfl, rfl, (ErO.nil : ErO 63 106 108 GErr.no .nilIface [])⟩
            · refine sr <| tv (beq rfl rfl) rfl <| ta rfl <| nz <| cD rfl hp (fun C hp => ?_) fun C hp => ?_
              · exact sr <| tm rfl <| tm rfl <| tv (v6 (m := c) (n := b) rfl rfl) rfl <| ta rfl <| ta rfl <| nz <| nH <| W.new0 <| rt hp [0] ⟨.nilIface, ([] : FP), rfl, rfl, (ErO.nil : ErO 63 106 108 GErr.no .nilIface [])⟩
              · refine sr <| tv (beq rfl rfl) rfl <| ta rfl <| nz <| cD rfl hp (fun D hp => ?_) fun D hp => ?_
                · exact sr <| tm rfl <| tm rfl <| tv (v7 (m := c) (n := b) rfl rfl) rfl <| ta rfl <| ta rfl <| nz <| nH <| W.new0 <| rt hp [0] ⟨.nilIface, ([] : FP), rfl, rfl, (ErO.nil : ErO 63 106 108 GErr.no .nilIface [])⟩
                · refine sr <| tv (beq rfl rfl) rfl <| ta rfl <| nz <| cD rfl hp (fun F hp => ?_) fun F hp => ?_
                  · exact sr <| tm rfl <| tm rfl <| tv (v8 (m := c) (n := b) rfl rfl) rfl <| ta rfl <| ta rfl <| nz <| nH <| W.new0 <| rt hp [0] ⟨.nilIface, ([] : FP), rfl, rfl, (ErO.nil : ErO 63 106 108 GErr.no .nilIface [])⟩
                  · refine sr <| tv (beq rfl rfl) rfl <| ta rfl <| nz <| cD rfl hp (fun G hp => ?_) fun G hp => ?_
                    · exact sr <| tm rfl <| tm rfl <| tv (tK (k := .i64) (m := b) Ag Try.underlying159 rfl) rfl <| tv (tI (m := (u64of b)) (n := 63) rfl rfl) rfl <| tv (v9 (m := c) (n := (andU (u64of b) 63)) (tJ _ _) rfl rfl) rfl <| ta rfl <| ta rfl <| nz <| nH <| W.new0 <| rt hp [0] ⟨.nilIface, ([] : FP), rfl, rfl, (ErO.nil : ErO 63 106 108 GErr.no .nilIface [])⟩
                    · refine sr <| tv (beq rfl rfl) rfl <| ta rfl <| nz <| cD rfl hp (fun I hp => ?_) fun I hp => ?_
                      · exact sr <| tm rfl <| tm rfl <| tv (tK (k := .i64) (m := b) Ag Try.underlying159 rfl) rfl <| tv (tI (m := (u64of b)) (n := 63) rfl rfl) rfl <| tv (wa (m := c) (n := (andU (u64of b) 63)) (tJ _ _) rfl rfl) rfl <| ta rfl <| ta rfl <| nz <| nH <| W.new0 <| rt hp [0] ⟨.nilIface, ([] : FP), rfl, rfl, (ErO.nil : ErO 63 106 108 GErr.no .nilIface [])⟩
                      · refine sr <| tv (beq rfl rfl) rfl <| ta rfl <| nz <| cD rfl hp (fun J hp => ?_) fun J hp => ?_
                        · refine sr <| tm rfl <| tm rfl <| tv (blt rfl rfl) rfl <| bE hp fun U hy28 hp => tc 0 [] rfl c99 (fun _ => t7 (a1 := (decide (c < b))) hy28) rfl ?_
                          rintro _ _ ⟨rfl, rfl⟩
                          exact ta rfl <| ta rfl <| nz <| nH <| W.new0 <| rt hp [0] ⟨.nilIface, ([] : FP), rfl, rfl, (ErO.nil : ErO 63 106 108 GErr.no .nilIface [])⟩
                        · refine sr <| tv (beq rfl rfl) rfl <| ta rfl <| nz <| cD rfl hp (fun K hp => ?_) fun K hp => ?_
                          · refine sr <| tm rfl <| tm rfl <| tv (beq rfl rfl) rfl <| bE hp fun V hy31 hp => tc 0 [] rfl c99 (fun _ => t7 (a1 := (decide (c = b))) hy31) rfl ?_
                            rintro _ _ ⟨rfl, rfl⟩
                            exact ta rfl <| ta rfl <| nz <| nH <| W.new0 <| rt hp [0] ⟨.nilIface, ([] : FP), rfl, rfl, (ErO.nil : ErO 63 106 108 GErr.no .nilIface [])⟩
                          · refine sk x rfl <| nv fun X L => sr <| tm rfl <| tv (beq rfl rfl) rfl <| nz <| cD rfl hp (fun g hp => ?_) fun g hp => ?_
                            · exact sr <| tv (mI u63 rfl) rfl <| ta rfl <| ta rfl <| nz <| nH <| W.new0 <| rt hp [0] ⟨(.iface 63 (.int .i64 7)), ([] : FP), rfl, rfl, (ErO.mk _ : ErO 63 106 108 (GErr.code 7) (.iface 63 (.int .i64 7)) [])⟩
                            · exact sk L rfl <| sr <| tm rfl <| tm rfl <| tv (bqu rfl rfl g) rfl <| ta rfl <| ta rfl <| nz <| nH <| W.new0 <| rt hp [0] ⟨.nilIface, ([] : FP), rfl, rfl, (ErO.nil : ErO 63 106 108 GErr.no .nilIface [])⟩
 by_cases a : (!e.2) = true
 · exact gn rfl (bbT a) rfl rfl <| gn rfl (bbT a) rfl rfl <| gn rfl (bbT a) rfl rfl <| gn rfl (bbT a) rfl rfl <| tv (pT (bbT a)) rfl <| nj f (bOt a)
 · exact gy rfl (bbF a) <| tm rfl <| gy rfl (bbF a) <| tv (ln u23 d rfl) rfl <| gy rfl (bbF a) <| tm rfl <| gy rfl (bbF a) <| tv (bne rfl rfl) rfl <| tv (pF (bbF a)) rfl <| nj f (bOf a)
/-! ### (*fettle/consts.finder).value -/
abbrev pI.R (r : PKnown) (v : Value) (A : List FP) : Prop := .agg #[.int .i64 r.kind, .int .i64 r.v] = v ∧ A = []
def pI.nx16 (a17 : nL) (b : List Int) (c : Bool) : Option PKnown :=
  if (!c) = true then
    some (⟨2, 0⟩ : PKnown)
  else
    (rb a17.op b).bind fun a =>
    if ¬ a.2 = GErr.no then
      some (⟨2, 0⟩ : PKnown)
    else
      some (⟨1, a.1⟩ : PKnown)
def pI.bd16 (a2 : PFinder) (a17 : nL) (c : List Int) (d : Bool) (b : Int) : Option (Ex (Ex PKnown (List Int × Bool)) (List Int × Bool × Int)) :=
  if b < (len a17.args) then
    (idx a17.args b).bind fun e =>
    (idx a2.known e).bind fun a =>
    if a.kind = 0 then
      some (.ret (.ret a))
    else
      (cat c [a.v]).bind fun f =>
      some (.go (f, (decide (d = true ∧ a.kind = 1)), (w64 (b + 1))))
  else
    some (.ret (.go (c, d)))
def pI (a2 : PFinder) (a17 : nL) : Option PKnown :=
  if a17.op = 1 then
    some (⟨1, a17.imm⟩ : PKnown)
  else
    (qk a17.op).bind fun a =>
    if (!a.2) = true then
      some (⟨2, 0⟩ : PKnown)
    else
      (whl (fun (s : (List Int × Bool × Int)) => pI.bd16 a2 a17 s.1 s.2.1 s.2.2) nD (([] : List Int), true, 0)).bind fun z =>
      match z with
        | .ret r => some r
        | .go p => pI.nx16 a17 p.1 p.2
set_option maxHeartbeats 4000000 in
theorem wQ {E : World} {H : FP} {w : World} {a2 : PFinder} {a17 : nL} {j : Nat} {l : Nat} {y : Value} {z : Value} {B : Value} {C : Value} {D : Value} {F : Value} {c : Value} {r : PKnown} (S : n7 H j l [.int .i64 a2.f.params, .int .i64 a2.f.result, y, z, B, C, D, F, .bool a2.changed]) (aC : SlI (nt .i64) H a2.f.regs y) (aD : SlI nY H a2.f.blocks z) (aE : SlI (kSl 3 (nt .i64)) H a2.ahead B) (T : SlI kKnown H a2.known C) (aF : SlI kBool H a2.entered D) (aG : SlI (kSl 4 kBool) H a2.gone F) (G : SlI (nt .i64) H a17.args c) (hp : pI a2 a17 = some r) (hst : St E H [] w) :
    Fn Try.prog 79 #[.pointer (some ⟨j, l, none⟩), .agg #[.int .i64 a17.op, .int .i64 a17.dst, c, .int .i64 a17.imm, .int .i64 a17.fn]] w fun v w' => ∃ A, pI.R r v A ∧ St E H A w' := by
 refine Fn.bodyV (fn := Try.f79) (args := [.pointer (some ⟨j, l, none⟩), .agg #[.int .i64 a17.op, .int .i64 a17.dst, c, .int .i64 a17.imm, .int .i64 a17.fn]]) E H [] 76 Try.func79 rfl rfl (leb rfl) hst <| sr <| tb [.int .i64 a17.op, .int .i64 a17.dst, c, .int .i64 a17.imm, .int .i64 a17.fn] rfl rfl fun d => tl i62 rfl fun g => nz <| nv fun aH U => sr <| tv (fa qb rfl) rfl <| tv (lb s3 1 rfl rfl rfl) rfl <| tv (beq rfl rfl) rfl <| nz <| cD rfl hp (fun V hp => ?_) fun V hp => ?_
 · refine sr <| tv (fa qK rfl) rfl <| tv (lb s2 1 rfl rfl rfl) rfl <| tv (n9 (vs := [(0, .int .i64 1), (1, .int .i64 a17.imm)]) (ds := [.int .i64 1, .int .i64 a17.imm]) rfl (fun w => by kernel_rfl)) rfl <| tS 0 m62 rfl rfl [.int .i64 1, .int .i64 a17.imm] rfl (oc rfl (oc rfl oc0)) rfl rfl <| nz <| nH ?_
   obtain rfl := Option.some.inj hp
   exact fun w hw => retC1 hw rfl rfl px 0 rfl rfl ⟨rfl, rfl⟩ (hw.pickA [] rfl)
 · refine sk U rfl <| sr <| tv (n9 (vs := [(0, .int .i64 2)]) (ds := [.int .i64 2, .int .i64 0]) rfl (fun w => by kernel_rfl)) rfl <| tl i62 rfl fun h => tS 0 m62 rfl rfl [.int .i64 2, .int .i64 0] rfl (oc rfl (oc rfl oc0)) rfl rfl <| nz <| nv fun aI X => sr <| tv (fa qb rfl) rfl <| tv (lb s3 2 rfl rfl rfl) rfl <| bE hp fun aJ hy6 hp => tc 0 [_,_,_] rfl c57 (fun _ => sc (a1 := a17.op) hy6) rfl ?_
   rintro _ _ ⟨rfl, rfl⟩
   refine tm rfl <| tv (xt rfl rfl) rfl <| tv (xt rfl rfl) rfl <| ta rfl <| ta rfl <| nz <| sr <| tm rfl <| tv (oI rfl) rfl <| nz <| cB rfl hp (fun Y hp => ?_) fun Y hp => ?_
   · refine sr <| tv (lA (ds := [.int .i64 2, .int .i64 0]) px 0 rfl rfl rfl rfl) rfl <| tS 1 m62 rfl rfl [.int .i64 2, .int .i64 0] rfl (oc rfl (oc rfl oc0)) rfl rfl <| nz <| nH ?_
     obtain rfl := Option.some.inj hp
     exact fun w hw => retC1 hw rfl rfl px 1 rfl rfl ⟨rfl, rfl⟩ (hw.pickA [] rfl)
   · refine sk X rfl <| sr <| ta rfl <| nz <| sr <| ta rfl <| nz <| nv fun Z aa => sr <| tv (fa o6 rfl) rfl <| tv (lb s25 2 rfl rfl rfl) rfl <| tv (ln u25 G rfl) rfl <| tm rfl <| nz <| nB <| bE hp fun ab ac I => ?_
     have ad {n t J K ae} (af : SlO 2 (nt .i64) n J K) (ag : .go (n, t) = ab) : ∀ w, St E H [bx d 52 [.int .i64 a17.op, .int .i64 a17.dst, c, .int .i64 a17.imm, .int .i64 a17.fn], bx g 62 [.int .i64 0, .int .i64 0], bx h 62 [.int .i64 2, .int .i64 0], K] w → Z (ovr ae [(3, .pointer (some ⟨d, 0, none⟩)), (4, .pointer (some ⟨g, 0, none⟩)), (5, .pointer (some ⟨h, 0, none⟩)), (8, J), (9, .bool t)]) w := by
      subst ag
      replace hp : pI.nx16 a17 n t = some r := I
      refine tg aa <| nv fun aK ah => sr <| tm rfl <| tv (oI rfl) rfl <| nz <| cB rfl hp (fun ai hp => ?_) fun ai hp => ?_
      · refine sr <| tv (lA (ds := [.int .i64 2, .int .i64 0]) px 2 rfl rfl rfl rfl) rfl <| tS 1 m62 rfl rfl [.int .i64 2, .int .i64 0] rfl (oc rfl (oc rfl oc0)) rfl rfl <| nz <| nH ?_
        obtain rfl := Option.some.inj hp
        exact fun w hw => retC1 hw rfl rfl px 1 rfl rfl ⟨rfl, rfl⟩ (hw.pickA [] rfl)
      · refine sk ah rfl <| sr <| tv (fa qb rfl) rfl <| tv (lb s3 0 rfl rfl rfl) rfl <| tm rfl <| bE hp fun u hy21 hp => tc 0 [_,_,_,_] rfl c91 (fun _ => wP (a1 := a17.op) (a2 := n) (af.ro.mono (subB 3 rfl)) hy21) rfl ?_
        rintro _ _ ⟨aL, aM, rfl, rfl, aj⟩
        refine tm rfl <| tv (xt rfl rfl) rfl <| tv (xt rfl rfl) rfl <| ta rfl <| ta rfl <| nz <| nv fun aN ak => sr <| tm rfl <| tv (pw pc aj rfl) rfl <| nz <| cD rfl hp (fun al hp => ?_) fun al hp => ?_
        · refine sr <| tv (lA (ds := [.int .i64 2, .int .i64 0]) px 3 rfl rfl rfl rfl) rfl <| tS 2 m62 rfl rfl [.int .i64 2, .int .i64 0] rfl (oc rfl (oc rfl oc0)) rfl rfl <| nz <| nH ?_
          obtain rfl := Option.some.inj hp
          exact fun w hw => retC1 hw rfl rfl px 2 rfl rfl ⟨rfl, rfl⟩ (hw.pickA [] rfl)
        · refine sk ak rfl <| sr <| tm rfl <| tv (n9 (vs := [(0, .int .i64 1), (1, .int .i64 u.1)]) (ds := [.int .i64 1, .int .i64 u.1]) rfl (fun w => by kernel_rfl)) rfl <| tS 2 m62 rfl rfl [.int .i64 1, .int .i64 u.1] rfl (oc rfl (oc rfl oc0)) rfl rfl <| nz <| nH ?_
          obtain rfl := Option.some.inj hp
          exact fun w hw => retC1 hw rfl rfl px 2 rfl rfl ⟨rfl, rfl⟩ (hw.pickA [] rfl)
     refine W.new0 <| lp ac [3, 2, 1, 0] rfl (fun s e L => ∃ o i m p q M, s = (o, i, m) ∧ SlO 2 (nt .i64) o p q ∧ e = ovr M [(0, .pointer (some ⟨j, l, none⟩)), (3, .pointer (some ⟨d, 0, none⟩)), (4, .pointer (some ⟨g, 0, none⟩)), (5, .pointer (some ⟨h, 0, none⟩)), (8, p), (9, .bool i), (32, c), (33, .int .i64 (len a17.args)), (34, .int .i64 m)] ∧ L = [bx d 52 [.int .i64 a17.op, .int .i64 a17.dst, c, .int .i64 a17.imm, .int .i64 a17.fn], bx g 62 [.int .i64 0, .int .i64 0], bx h 62 [.int .i64 2, .int .i64 0], q]) ⟨_, _, _, (.slice none 0 0), ([] : FP), _, rfl, (SlO.nil 2), nC _ _ rfl, rfl⟩ ?_
     rintro _ _ _ ⟨o, i, m, p, q, M, rfl, N, rfl, rfl⟩ am hp O
     replace hp : pI.bd16 a2 a17 o i m = some am := hp
     refine sr <| tv (blt rfl rfl) rfl <| nz <| nv fun aO an => cD rfl hp (fun ao hp => ?_) fun ao hp => ?_
     · refine sk an rfl <| nv fun aP ap => nB <| sr <| ti u25 i3 G hp rfl rfl rfl rfl ?_
       rintro aQ aR aS _ hp rfl aq
       refine tv (lr s3 sH aq 0 rfl rfl) rfl <| ta rfl <| nz <| sr <| tm rfl <| tv (nE rfl) rfl <| tv (fa qo rfl) rfl <| tv (lr s57 sH S 5 rfl rfl) rfl <| tm rfl <| ti u57 i62 T hp rfl rfl rfl rfl ?_
       rintro a aT aU _ hp rfl ar
       refine tv (lR (ds := [.int .i64 a.kind, .int .i64 a.v]) px sH ar 0 rfl rfl rfl) rfl <| tl i62 rfl fun P => tS 0 m62 rfl rfl [.int .i64 a.kind, .int .i64 a.v] rfl (oc rfl (oc rfl oc0)) rfl rfl <| nz <| nv fun aV au => sr <| tv (fa p7 rfl) rfl <| tv (lb s3 0 rfl rfl rfl) rfl <| tv (beq rfl rfl) rfl <| nz <| cD rfl hp (fun av hp => ?_) fun av hp => ?_
       · refine sr <| tv (lA (ds := [.int .i64 a.kind, .int .i64 a.v]) px 0 rfl rfl rfl rfl) rfl <| tS 2 m62 rfl rfl [.int .i64 a.kind, .int .i64 a.v] rfl (oc rfl (oc rfl oc0)) rfl rfl <| nz <| nH ?_
         obtain rfl := nK hp O
         obtain rfl := Option.some.inj I
         exact fun w hw => retC1 hw rfl rfl px 2 rfl rfl ⟨rfl, rfl⟩ (hw.pickA [] rfl)
       · refine sk au rfl <| sr <| tm rfl <| tm rfl <| TL.cut 4 fun aw ax => ?_
         have Q {ay} : ∀ w, St E H [bx P 62 [.int .i64 a.kind, .int .i64 a.v], bx d 52 [.int .i64 a17.op, .int .i64 a17.dst, c, .int .i64 a17.imm, .int .i64 a17.fn], bx g 62 [.int .i64 0, .int .i64 0], bx h 62 [.int .i64 2, .int .i64 0], q] w → aw (ovr ay [(54, .bool (decide (i = true ∧ a.kind = 1))), (0, .pointer (some ⟨j, l, none⟩)), (3, .pointer (some ⟨d, 0, none⟩)), (4, .pointer (some ⟨g, 0, none⟩)), (5, .pointer (some ⟨h, 0, none⟩)), (8, p), (12, .pointer (some ⟨P, 0, none⟩)), (32, c), (33, .int .i64 (len a17.args)), (34, .int .i64 m)]) w := by
          exact tlg ax <| ta rfl <| nz <| nF <| tm rfl <| tv (fa rz rfl) rfl <| tv (lb s2 0 rfl rfl rfl) rfl <| tbs [(0, .int .i64 a.v)] [.int .i64 a.v] u23 i2 Ag rfl rfl rfl rfl fun aW => tp [5, 0, 1, 2, 3, 4] [_,_,_,_,_,_] rfl rfl <| tf 2 0 [_,_,_,_,_,_,_] rfl <| tp2 u23 i2 N hp (RepL.to (RepL.cons (k := (nt .i64)) (x := a.v) ⟨rfl, rfl⟩ RepL.nil) rfl) rfl rfl rfl rfl rfl rfl rfl rfl rfl fun aX az aA aB hp => ta rfl <| nl <| tg ap <| nF <| tv (bad rfl rfl) rfl <| tm rfl <| nl <| gk hp [2, 3, 4, 0] ⟨_, _, _, az, aA, _, rfl, aB, nC _ _ rfl, rfl⟩
         by_cases b : i = true
         · exact gy rfl (bbT b) <| tv (fa p7 rfl) rfl <| gy rfl (bbT b) <| tv (lb s3 0 rfl rfl rfl) rfl <| gy rfl (bbT b) <| tv (beq rfl rfl) rfl <| tv (pT (bbT b)) rfl <| nj Q (bAt b)
         · exact gn rfl (bbF b) rfl rfl <| gn rfl (bbF b) rfl rfl <| gn rfl (bbF b) rfl rfl <| tv (pF (bbF b)) rfl <| nj Q (bAf b)
     · exact nN <| jn [0, 1, 2, 3] (ad N (nK hp O))
/-! ### (*fettle/consts.finder).edge -/
abbrev qG.R (e : Nat) (a2 : PFinder) (v3 : Value) (g : Value) (h : Value) (i : Value) (a : Value) (b : Value) (r : List Bool × List (List Bool) × Bool) (v : Value) (A : List FP) : Prop := ∃ (c : FP) (d : FP), .tuple #[] = v ∧ A = [bx e 87 [.int .i64 a2.f.params, .int .i64 a2.f.result, v3, g, h, i, a, b, .bool r.2.2], c, d] ∧ SlO 4 kBool r.1 a c ∧ SlO 58 (kSl 4 kBool) r.2.1 b d
def qG (a2 : PFinder) (a18 : Int) (a19 : Int) : Option (List Bool × List (List Bool) × Bool) :=
  (idx a2.gone a18).bind fun c =>
  (idx c a19).bind fun d =>
  if d = true then
    some (a2.entered, a2.gone, a2.changed)
  else
    (idx a2.gone a18).bind fun a =>
    (idx a a19).bind fun g =>
    (idx a2.f.blocks a18).bind fun e =>
    (idx e.term.to a19).bind fun b =>
    (idx a2.entered b).bind fun h =>
    some ((a2.entered.set (b).toNat true), (a2.gone.set (a18).toNat (a.set (a19).toNat true)), true)
theorem sN {E : World} {H : FP} {w : World} {a2 : PFinder} {a18 : Int} {a19 : Int} {b : Nat} {v3 : Value} {c : Value} {d : Value} {e : Value} {g : Value} {i : FP} {h : Value} {j : FP} {r : List Bool × List (List Bool) × Bool} (N : SlI (nt .i64) H a2.f.regs v3) (q : SlI nY H a2.f.blocks c) (O : SlI (kSl 3 (nt .i64)) H a2.ahead d) (P : SlI kKnown H a2.known e) (k : SlO 4 kBool a2.entered g i) (l : SlO 58 (kSl 4 kBool) a2.gone h j) (hp : qG a2 a18 a19 = some r) (hst : St E H [bx b 87 [.int .i64 a2.f.params, .int .i64 a2.f.result, v3, c, d, e, g, h, .bool a2.changed], i, j] w) :
    Fn Try.prog 80 #[.pointer (some ⟨b, 0, none⟩), .int .i64 a18, .int .i64 a19] w fun v w' => ∃ A, qG.R b a2 v3 c d e g h r v A ∧ St E H A w' := by
 refine fb 46 [] Try.func80 rfl rfl rfl rfl rfl hst <| nv fun Q s => sr <| tm rfl <| tv (nE rfl) rfl <| tv (fa qL rfl) rfl <| tv (lb s85 0 rfl rfl rfl) rfl <| tm rfl <| ti u85 i58 (l).ro hp rfl rfl rfl rfl ?_
 rintro S T U _ hp ⟨V, rfl, t⟩ u
 refine tv (lr s58 (Src.at_ 2 rfl) u 0 rfl rfl) rfl <| tm rfl <| ti u58 i4 t hp rfl rfl rfl rfl ?_
 rintro W X Y _ hp rfl x
 refine tv (lr s4 (Src.at_ 2 rfl) x 0 rfl rfl) rfl <| nz <| cB rfl hp (fun y hp => ?_) fun y hp => ?_
 · exact nH <| rt hp [0, 1, 2] ⟨i, j, rfl, rfl, k, l⟩
 · refine sk s rfl <| sr <| tm rfl <| tv (nE rfl) rfl <| tv (fa qL rfl) rfl <| tv (lb s85 0 rfl rfl rfl) rfl <| tm rfl <| tp [2, 0, 1] [_,_,_] rfl rfl <| bE hp fun z n hp => TL.open_ l n ?_
   rintro Z _ aa ab m ⟨ac, rfl, o⟩
   refine tv (pa u85 i58 rfl rfl (oM n).1 m) rfl <| tv (lr s58 (Src.at_ 0 rfl) (Hole.cells m) 0 rfl rfl) rfl <| tm rfl <| tm rfl <| tO u58 i4 o hp rfl rfl rfl rfl fun ad ae af B hp => tp [1, 0, 2, 3] [_,_,_,_] rfl rfl <| tE o B m4 rfl ⟨rfl, rfl⟩ w1 fun ag C => tv (nE rfl) rfl <| tv (fa r7 rfl) rfl <| ts 2 m4 rfl rfl w1 rfl <| nz <| cp [1, 0, 2, 3] [_,_,_,_] rfl rfl <| TC.shut (a := (z.set (a19).toNat true)) m ⟨_, rfl, C⟩ fun p D => ch mix [p, bx b 87 [.int .i64 a2.f.params, .int .i64 a2.f.result, v3, c, d, e, g, h, .bool true]] (nq 0 rfl (nq 1 rfl ns)) <| hv 0 rfl mv Ag rfl <| hv 1 rfl (nE rfl) Ag rfl <| hv 2 rfl (fa r6 rfl) Ag rfl <| hv 3 rfl (lbG s58 1 rfl rfl rfl) Ag rfl <| hv 4 rfl mv Ag rfl <| hv 5 rfl (nE rfl) Ag rfl <| hv 6 rfl (fa qn rfl) Ag rfl <| hv 7 rfl (fa oa rfl) Ag rfl <| hv 8 rfl (lbG s39 1 rfl rfl rfl) Ag rfl <| hv 9 rfl mv Ag rfl <| hi 10 rfl u39 i50 q hp rfl rfl rfl Ag rfl ?_
   rintro ah ai aj _ hp ⟨ak, al, am, rfl, an, ao, F⟩ G
   refine hv 11 rfl (fa oQ rfl) Ag rfl <| hv 12 rfl (fa o8 rfl) Ag rfl <| hv 13 rfl (lr s25 srcInH G 4 rfl rfl) Ag rfl <| hv 14 rfl mv Ag rfl <| hi 15 rfl u25 i3 F hp rfl rfl rfl Ag rfl ?_
   rintro ap aq ar _ hp rfl I
   exact hv 16 rfl (lr s3 srcInH I 0 rfl rfl) Ag rfl <| hO 17 rfl u58 i4 k hp rfl rfl rfl Ag rfl fun au av aw J hp => ho 18 rfl Ag fun ax K => tp [2, 0, 1] [_,_,_] rfl rfl <| tE k J m4 rfl ⟨rfl, rfl⟩ w1 fun L M => hk K (nq 1 rfl (nq 2 rfl ns)) <| hz Ag <| rt hp [2, 0, 1] ⟨L, p, rfl, rfl, M, D⟩
end
section
/-! ### (*fettle/consts.finder).block -/
abbrev oK.R (h : Nat) (a2 : PFinder) (v3 : Value) (i : Value) (j : Value) (a : Value) (b : Value) (c : Value) (r : List PKnown × List Bool × List (List Bool) × Bool) (v : Value) (A : List FP) : Prop := ∃ (d : FP) (e : FP) (g : FP), .tuple #[] = v ∧ A = [bx h 87 [.int .i64 a2.f.params, .int .i64 a2.f.result, v3, i, j, a, b, c, .bool r.2.2.2], d, e, g] ∧ SlO 62 kKnown r.1 a d ∧ SlO 4 kBool r.2.1 b e ∧ SlO 58 (kSl 4 kBool) r.2.2.1 c g
def oK.jn34 (a2 : PFinder) (a19 : Int) (a : List PKnown) (b : PKnown) (d : List Bool) (e : List (List Bool)) (g : Bool) : Option (List PKnown × List Bool × List (List Bool) × Bool) :=
  if b.kind = 2 ∨ (b.kind = 1 ∧ b.v = 0) then
    (qG (⟨(⟨a2.f.params, a2.f.result, a2.f.regs, a2.f.blocks⟩ : ny), a2.ahead, a, d, e, g⟩ : PFinder) a19 1).bind fun c =>
    some (a, c.1, c.2.1, c.2.2)
  else
    some (a, d, e, g)
def oK.nx18 (a2 : PFinder) (a19 : Int) (d : nA) (a : List PKnown) (c : Bool) : Option (List PKnown × List Bool × List (List Bool) × Bool) :=
  if d.term.kind = 1 then
    (qG (⟨(⟨a2.f.params, a2.f.result, a2.f.regs, a2.f.blocks⟩ : ny), a2.ahead, a, a2.entered, a2.gone, c⟩ : PFinder) a19 0).bind fun e =>
    some (a, e.1, e.2.1, e.2.2)
  else
    if d.term.kind = 2 then
      (idx a d.term.arg).bind fun b =>
      if b.kind = 2 ∨ (b.kind = 1 ∧ (¬ b.v = 0)) then
        (qG (⟨(⟨a2.f.params, a2.f.result, a2.f.regs, a2.f.blocks⟩ : ny), a2.ahead, a, a2.entered, a2.gone, c⟩ : PFinder) a19 0).bind fun g =>
        oK.jn34 a2 a19 a b g.1 g.2.1 g.2.2
      else
        oK.jn34 a2 a19 a b a2.entered a2.gone c
    else
      some (a, a2.entered, a2.gone, c)
def oK.jn69 (a : Int) (b : List PKnown) (c : Bool) : Option (Ex (List PKnown × Bool) (List PKnown × Bool × Int)) :=
  some (.go (b, c, (w64 (a + 1))))
def oK.bd18 (a2 : PFinder) (e : nA) (a : List PKnown) (b : Bool) (c : Int) : Option (Ex (List PKnown × Bool) (List PKnown × Bool × Int)) :=
  if c < (len e.ins) then
    (idx e.ins c).bind fun d =>
    if d.dst ≥ 0 then
      (pI (⟨(⟨a2.f.params, a2.f.result, a2.f.regs, a2.f.blocks⟩ : ny), a2.ahead, a, a2.entered, a2.gone, b⟩ : PFinder) d).bind fun h =>
      (pY (⟨(⟨a2.f.params, a2.f.result, a2.f.regs, a2.f.blocks⟩ : ny), a2.ahead, a, a2.entered, a2.gone, b⟩ : PFinder) d.dst h).bind fun g =>
      oK.jn69 c g.1 g.2
    else
      oK.jn69 c a b
  else
    some (.ret (a, b))
def oK.nx9 (a2 : PFinder) (a19 : Int) (a : nA) (b : List PKnown) (c : Bool) : Option (List PKnown × List Bool × List (List Bool) × Bool) :=
  (whl (fun (s : (List PKnown × Bool × Int)) => oK.bd18 a2 a s.1 s.2.1 s.2.2) nD (b, c, 0)).bind fun z =>
  oK.nx18 a2 a19 a z.1 z.2
def oK.bd9 (a2 : PFinder) (a19 : Int) (b : nA) (c : List PKnown) (d : Bool) (a : Int) : Option (Ex (List PKnown × Bool) (List PKnown × Bool × Int)) :=
  if a < (len b.phis) then
    (idx b.phis a).bind fun g =>
    (o9 (⟨(⟨a2.f.params, a2.f.result, a2.f.regs, a2.f.blocks⟩ : ny), a2.ahead, c, a2.entered, a2.gone, d⟩ : PFinder) a19 g).bind fun e =>
    some (.go (e.1, e.2, (w64 (a + 1))))
  else
    some (.ret (c, d))
def oK (a2 : PFinder) (a19 : Int) : Option (List PKnown × List Bool × List (List Bool) × Bool) :=
  (idx a2.f.blocks a19).bind fun a =>
  (whl (fun (s : (List PKnown × Bool × Int)) => oK.bd9 a2 a19 a s.1 s.2.1 s.2.2) nD (a2.known, a2.changed, 0)).bind fun z =>
  oK.nx9 a2 a19 a z.1 z.2
set_option maxHeartbeats 4000000 in
theorem wR {E : World} {H : FP} {w : World} {a2 : PFinder} {a19 : Int} {c : Nat} {v3 : Value} {l : Value} {m : Value} {d : Value} {aa : FP} {h : Value} {p : FP} {i : Value} {q : FP} {r : List PKnown × List Bool × List (List Bool) × Bool} (K : SlI (nt .i64) H a2.f.regs v3) (F : SlI nY H a2.f.blocks l) (M : SlI (kSl 3 (nt .i64)) H a2.ahead m) (aE : SlO 62 kKnown a2.known d aa) (G : SlO 4 kBool a2.entered h p) (I : SlO 58 (kSl 4 kBool) a2.gone i q) (hp : oK a2 a19 = some r) (hst : St E H [bx c 87 [.int .i64 a2.f.params, .int .i64 a2.f.result, v3, l, m, d, h, i, .bool a2.changed], aa, p, q] w) :
    Fn Try.prog 55 #[.pointer (some ⟨c, 0, none⟩), .int .i64 a19] w fun v w' => ∃ A, oK.R c a2 v3 l m d h i r v A ∧ St E H A w' := by
 refine fb 99 [] Try.func55 rfl rfl rfl rfl rfl hst <| sr <| tm rfl <| tv (nE rfl) rfl <| tv (fa qn rfl) rfl <| tv (fa oa rfl) rfl <| tv (lb s39 0 rfl rfl rfl) rfl <| tm rfl <| ti u39 i50 F hp rfl rfl rfl rfl ?_
 rintro b bY bZ _ hp ⟨t, o, x, rfl, ab, ac, aF⟩ aG
 refine tv (lR (ds := [t, o, .int .i64 b.term.kind, .int .i64 b.term.arg, x]) oY sH aG 0 rfl rfl rfl) rfl <| tl i50 rfl fun n => tS 0 m50 rfl rfl [t, o, .int .i64 b.term.kind, .int .i64 b.term.arg, x] rfl (oc (ab).one (oc (ac).one (oc rfl (oc rfl (oc (aF).one oc0))))) rfl rfl <| nz <| nv fun aH aI => sr <| tv (fa oE rfl) rfl <| tv (lb s47 0 rfl rfl rfl) rfl <| tv (ln u47 ab rfl) rfl <| tm rfl <| nz <| nB <| bE hp fun aJ aK aL => ?_
 have aM {ad ae af aN} (aO : SlO 62 kKnown ad d af) (aP : (ad, ae) = aJ) : ∀ w, St E H [bx c 87 [.int .i64 a2.f.params, .int .i64 a2.f.result, v3, l, m, d, h, i, .bool ae], af, p, q, bx n 50 [t, o, .int .i64 b.term.kind, .int .i64 b.term.arg, x]] w → aH (ovr aN [(0, .pointer (some ⟨c, 0, none⟩)), (1, .int .i64 a19), (4, .pointer (some ⟨n, 0, none⟩))]) w := by
  subst aP
  replace hp : oK.nx9 a2 a19 b ad ae = some r := aL
  refine tg aI <| nv fun aQ aR => sr <| tv (fa oB rfl) rfl <| tv (lb s48 4 rfl rfl rfl) rfl <| tv (ln u48 ac rfl) rfl <| tm rfl <| nz <| nB <| bE hp fun aS aT aU => ?_
  have aV {J B u aW} (C : SlO 62 kKnown J d u) (aX : (J, B) = aS) : ∀ w, St E H [bx c 87 [.int .i64 a2.f.params, .int .i64 a2.f.result, v3, l, m, d, h, i, .bool B], u, p, q, bx n 50 [t, o, .int .i64 b.term.kind, .int .i64 b.term.arg, x]] w → aQ (ovr aW [(0, .pointer (some ⟨c, 0, none⟩)), (1, .int .i64 a19), (4, .pointer (some ⟨n, 0, none⟩))]) w := by
   subst aX
   replace hp : oK.nx18 a2 a19 b J B = some r := aU
   refine tg aR <| sr <| tv (fa oQ rfl) rfl <| tv (fa p6 rfl) rfl <| tv (lb s3 4 rfl rfl rfl) rfl <| nz <| nB <| sr <| tv (beq rfl rfl) rfl <| ta rfl <| nz <| cD rfl hp (fun aY hp => ?_) fun aY hp => ?_
   · refine nF <| tm rfl <| tm rfl <| tp [0, 2, 3, 1, 4] [_,_,_,_,_] rfl rfl <| bE hp fun b0 hy21 hp => tc 3 [_,_] rfl c80 (fun _ => sN (a2 := (⟨(⟨a2.f.params, a2.f.result, a2.f.regs, a2.f.blocks⟩ : ny), a2.ahead, J, a2.entered, a2.gone, B⟩ : PFinder)) (a18 := a19) (a19 := 0) (K.mono nw) (F.mono nw) (M.mono nw) (C.ro.mono (subB 0 rfl)) G I hy21) rfl ?_
     rintro _ _ ⟨aZ, a0, rfl, rfl, a1, a3⟩
     exact nl <| rt hp [0, 3, 1, 2] ⟨u, aZ, a0, rfl, rfl, C, a1, a3⟩
   · refine sr <| tv (beq rfl rfl) rfl <| ta rfl <| nz <| cD rfl hp (fun a4 hp => ?_) fun a4 hp => ?_
     · refine nv fun b1 a5 => ch mix [bx c 87 [.int .i64 a2.f.params, .int .i64 a2.f.result, v3, l, m, d, h, i, .bool B], u, p, q, bx n 50 [t, o, .int .i64 b.term.kind, .int .i64 b.term.arg, x]] (nq 0 rfl (nq 1 rfl (nq 2 rfl (nq 3 rfl (nq 4 rfl ns))))) <| hv 0 rfl mv Ag rfl <| hv 1 rfl (nE rfl) Ag rfl <| hv 2 rfl (fa qo rfl) Ag rfl <| hv 3 rfl (lbG s57 0 rfl rfl rfl) Ag rfl <| hv 4 rfl (fa oQ rfl) Ag rfl <| hv 5 rfl (fa pp rfl) Ag rfl <| hv 6 rfl (lbG s3 4 rfl rfl rfl) Ag rfl <| hi 7 rfl u57 i62 (C).ro hp rfl rfl rfl Ag rfl ?_
       rintro a b2 b3 _ hp rfl a6
       refine hv 8 rfl (lR (ds := [.int .i64 a.kind, .int .i64 a.v]) px (srcInG 1 rfl) a6 0 rfl rfl rfl) Ag rfl <| ho 9 rfl Ag fun b4 a7 => tl i62 rfl fun D => hk a7 (nq 1 rfl (nq 2 rfl (nq 3 rfl (nq 4 rfl (nq 5 rfl ns))))) <| ho 10 rfl Ag fun b5 a8 => tS 0 m62 rfl rfl [.int .i64 a.kind, .int .i64 a.v] rfl (oc rfl (oc rfl oc0)) rfl rfl <| hk a8 (nq 1 rfl (nq 2 rfl (nq 3 rfl (nq 4 rfl (nq 5 rfl ns))))) <| hz Ag <| tg a5 <| nv fun a9 ba => ?_
       have am {ag ah Q S T bb} (an : SlO 4 kBool ag h S) (ao : SlO 58 (kSl 4 kBool) ah i T) (hp : oK.jn34 a2 a19 J a ag ah Q = some r) : ∀ w, St E H [bx c 87 [.int .i64 a2.f.params, .int .i64 a2.f.result, v3, l, m, d, h, i, .bool Q], u, S, T, bx D 62 [.int .i64 a.kind, .int .i64 a.v]] w → a9 (ovr bb [(0, .pointer (some ⟨c, 0, none⟩)), (1, .int .i64 a19), (9, .pointer (some ⟨D, 0, none⟩))]) w := by
        refine tg ba <| sr <| tv (fa p7 rfl) rfl <| tv (lb s3 4 rfl rfl rfl) rfl <| tv (beq rfl rfl) rfl <| tm rfl <| TL.cut 9 fun bc be => ?_
        have ap {bf} : ∀ w, St E H [bx c 87 [.int .i64 a2.f.params, .int .i64 a2.f.result, v3, l, m, d, h, i, .bool Q], u, S, T, bx D 62 [.int .i64 a.kind, .int .i64 a.v]] w → bc (ovr bf [(95, .bool (decide (a.kind = 2 ∨ (a.kind = 1 ∧ a.v = 0)))), (0, .pointer (some ⟨c, 0, none⟩)), (1, .int .i64 a19)]) w := by
         refine tlg be <| nz <| cD rfl hp (fun bg hp => ?_) fun bg hp => ?_
         · refine nF <| tm rfl <| tm rfl <| tp [0, 2, 3, 1, 4] [_,_,_,_,_] rfl rfl <| bE hp fun b6 hy41 hp => tc 3 [_,_] rfl c80 (fun _ => sN (a2 := (⟨(⟨a2.f.params, a2.f.result, a2.f.regs, a2.f.blocks⟩ : ny), a2.ahead, J, ag, ah, Q⟩ : PFinder)) (a18 := a19) (a19 := 1) (K.mono nw) (F.mono nw) (M.mono nw) (C.ro.mono (subB 0 rfl)) an ao hy41) rfl ?_
           rintro _ _ ⟨bh, bi, rfl, rfl, bj, bk⟩
           exact nl <| rt hp [0, 3, 1, 2] ⟨u, bh, bi, rfl, rfl, C, bj, bk⟩
         · exact TC.skip <| rt hp [0, 1, 2, 3] ⟨u, S, T, rfl, rfl, C, an, ao⟩
        by_cases j : a.kind = 2
        · exact gn rfl (bT j) rfl rfl <| gn rfl (bT j) rfl rfl <| gn rfl (bT j) rfl rfl <| gn rfl (bT j) rfl rfl <| gu rfl rfl rfl <| gu rfl rfl rfl <| gu rfl rfl rfl <| gn rfl (bT j) rfl rfl <| tv (pT (bT j)) rfl <| nj ap (bOt j)
        · refine gy rfl (bF j) <| tv (fa p7 rfl) rfl <| gy rfl (bF j) <| tv (lb s3 4 rfl rfl rfl) rfl <| gy rfl (bF j) <| tv (beq rfl rfl) rfl <| gy rfl (bF j) <| tm rfl <| TL.cut 4 fun bl bm => ?_
          have aq {bn} : ∀ w, St E H [bx c 87 [.int .i64 a2.f.params, .int .i64 a2.f.result, v3, l, m, d, h, i, .bool Q], u, S, T, bx D 62 [.int .i64 a.kind, .int .i64 a.v]] w → bl (ovr bn [(94, .bool (decide (a.kind = 1 ∧ a.v = 0))), (0, .pointer (some ⟨c, 0, none⟩)), (1, .int .i64 a19), (86, .bool (decide (a.kind = 2)))]) w := by
           exact tlg bm <| tv (pF (bF j)) rfl <| nj ap (bOf j)
          by_cases y : a.kind = 1
          · exact gy rfl (bT y) <| tv (fa rz rfl) rfl <| gy rfl (bT y) <| tv (lb s2 4 rfl rfl rfl) rfl <| gy rfl (bT y) <| tv (beq rfl rfl) rfl <| gy rfl (bF j) <| tv (pT (bT y)) rfl <| nj aq (bAt y)
          · exact gn rfl (bF y) rfl rfl <| gn rfl (bF y) rfl rfl <| gn rfl (bF y) rfl rfl <| gy rfl (bF j) <| tv (pF (bF y)) rfl <| nj aq (bAf y)
       refine sr <| tv (fa p7 rfl) rfl <| tv (lb s3 0 rfl rfl rfl) rfl <| tv (beq rfl rfl) rfl <| tm rfl <| TL.cut 9 fun bo bp => ?_
       have ar {bq} : ∀ w, St E H [bx D 62 [.int .i64 a.kind, .int .i64 a.v], bx c 87 [.int .i64 a2.f.params, .int .i64 a2.f.result, v3, l, m, d, h, i, .bool B], u, p, q, bx n 50 [t, o, .int .i64 b.term.kind, .int .i64 b.term.arg, x]] w → bo (ovr bq [(79, .bool (decide (a.kind = 2 ∨ (a.kind = 1 ∧ (¬ a.v = 0))))), (0, .pointer (some ⟨c, 0, none⟩)), (1, .int .i64 a19), (9, .pointer (some ⟨D, 0, none⟩))]) w := by
        refine tlg bp <| nz <| cD rfl hp (fun br hp => ?_) fun br hp => ?_
        · refine nF <| tm rfl <| tm rfl <| tp [1, 3, 4, 0, 2, 5] [_,_,_,_,_,_] rfl rfl <| bE hp fun b7 hy54 hp => tc 3 [_,_,_] rfl c80 (fun _ => sN (a2 := (⟨(⟨a2.f.params, a2.f.result, a2.f.regs, a2.f.blocks⟩ : ny), a2.ahead, J, a2.entered, a2.gone, B⟩ : PFinder)) (a18 := a19) (a19 := 0) (K.mono nw) (F.mono nw) (M.mono nw) (C.ro.mono (subB 1 rfl)) G I hy54) rfl ?_
          rintro _ _ ⟨b8, b9, rfl, rfl, bs, bt⟩
          exact nl <| jn [0, 4, 1, 2, 3] (am bs bt hp)
        · exact TC.skip <| jn [1, 2, 3, 4, 0] (am G I hp)
       by_cases k : a.kind = 2
       · exact gn rfl (bT k) rfl rfl <| gn rfl (bT k) rfl rfl <| gn rfl (bT k) rfl rfl <| gn rfl (bT k) rfl rfl <| gu rfl rfl rfl <| gu rfl rfl rfl <| gu rfl rfl rfl <| gn rfl (bT k) rfl rfl <| tv (pT (bT k)) rfl <| nj ar (bOt k)
       · refine gy rfl (bF k) <| tv (fa p7 rfl) rfl <| gy rfl (bF k) <| tv (lb s3 0 rfl rfl rfl) rfl <| gy rfl (bF k) <| tv (beq rfl rfl) rfl <| gy rfl (bF k) <| tm rfl <| TL.cut 4 fun bu bv => ?_
         have au {bw} : ∀ w, St E H [bx D 62 [.int .i64 a.kind, .int .i64 a.v], bx c 87 [.int .i64 a2.f.params, .int .i64 a2.f.result, v3, l, m, d, h, i, .bool B], u, p, q, bx n 50 [t, o, .int .i64 b.term.kind, .int .i64 b.term.arg, x]] w → bu (ovr bw [(78, .bool (decide (a.kind = 1 ∧ (¬ a.v = 0)))), (0, .pointer (some ⟨c, 0, none⟩)), (1, .int .i64 a19), (9, .pointer (some ⟨D, 0, none⟩)), (70, .bool (decide (a.kind = 2)))]) w := by
          exact tlg bv <| tv (pF (bF k)) rfl <| nj ar (bOf k)
         by_cases z : a.kind = 1
         · exact gy rfl (bT z) <| tv (fa rz rfl) rfl <| gy rfl (bT z) <| tv (lb s2 0 rfl rfl rfl) rfl <| gy rfl (bT z) <| tv (bne rfl rfl) rfl <| gy rfl (bF k) <| tv (pT (bT z)) rfl <| nj au (bAt z)
         · exact gn rfl (bF z) rfl rfl <| gn rfl (bF z) rfl rfl <| gn rfl (bF z) rfl rfl <| gy rfl (bF k) <| tv (pF (bF z)) rfl <| nj au (bAf z)
     · exact TC.skip <| rt hp [0, 1, 2, 3] ⟨u, p, q, rfl, rfl, C, G, I⟩
  refine lp aT [0, 1, 2, 3, 4] rfl (fun s e L => ∃ N O P ai av, s = (N, O, P) ∧ SlO 62 kKnown N d ai ∧ e = ovr av [(0, .pointer (some ⟨c, 0, none⟩)), (1, .int .i64 a19), (4, .pointer (some ⟨n, 0, none⟩)), (31, o), (32, .int .i64 (len b.ins)), (33, .int .i64 P)] ∧ L = [bx c 87 [.int .i64 a2.f.params, .int .i64 a2.f.result, v3, l, m, d, h, i, .bool O], ai, p, q, bx n 50 [t, o, .int .i64 b.term.kind, .int .i64 b.term.arg, x]]) ⟨_, _, _, af, _, rfl, aO, nC _ _ rfl, rfl⟩ ?_
  rintro _ _ _ ⟨N, O, P, ai, av, rfl, W, rfl, rfl⟩ aw hp bz
  replace hp : oK.bd18 a2 b N O P = some aw := hp
  refine sr <| tv (blt rfl rfl) rfl <| nz <| nv fun ca bA => cD rfl hp (fun bB hp => ?_) fun bB hp => ?_
  · refine sk bA rfl <| nv fun bC bD => ?_
    have ax {ay az aj bG} (bH : SlO 62 kKnown ay d aj) (hp : oK.jn69 P ay az = some aw) : ∀ w, St E H [bx c 87 [.int .i64 a2.f.params, .int .i64 a2.f.result, v3, l, m, d, h, i, .bool az], aj, p, q, bx n 50 [t, o, .int .i64 b.term.kind, .int .i64 b.term.arg, x]] w → bC (ovr bG [(0, .pointer (some ⟨c, 0, none⟩)), (1, .int .i64 a19), (4, .pointer (some ⟨n, 0, none⟩)), (31, o), (32, .int .i64 (len b.ins)), (33, .int .i64 P)]) w := by
     exact tg bD <| nF <| tv (bad rfl rfl) rfl <| tm rfl <| nl <| gk hp [0, 1, 2, 3, 4] ⟨_, _, _, aj, _, rfl, bH, nC _ _ rfl, rfl⟩
    refine nB <| sr <| ti u48 i52 ac hp rfl rfl rfl rfl ?_
    rintro g cb cc _ hp ⟨X, rfl, aA⟩ bI
    refine tv (lR (ds := [.int .i64 g.op, .int .i64 g.dst, X, .int .i64 g.imm, .int .i64 g.fn]) o5 sH bI 0 rfl rfl rfl) rfl <| tl i52 rfl fun bJ => tS 0 m52 rfl rfl [.int .i64 g.op, .int .i64 g.dst, X, .int .i64 g.imm, .int .i64 g.fn] rfl (oc rfl (oc rfl (oc (aA).one (oc rfl (oc rfl oc0))))) rfl rfl <| nz <| sr <| tv (fa pd rfl) rfl <| tv (lb s3 0 rfl rfl rfl) rfl <| tv (bge rfl rfl) rfl <| nz <| cD rfl hp (fun bK hp => ?_) fun bK hp => ?_
    · refine ch mix [bx bJ 52 [.int .i64 g.op, .int .i64 g.dst, X, .int .i64 g.imm, .int .i64 g.fn], p, q, bx n 50 [t, o, .int .i64 b.term.kind, .int .i64 b.term.arg, x]] (nq 0 rfl (nq 3 rfl (nq 4 rfl (nq 5 rfl ns)))) <| hv 0 rfl mv Ag rfl <| hv 1 rfl (fa pd rfl) Ag rfl <| hv 2 rfl (lbG s3 0 rfl rfl rfl) Ag rfl <| hv 3 rfl mv Ag rfl <| hv 4 rfl (lAG (ds := [.int .i64 g.op, .int .i64 g.dst, X, .int .i64 g.imm, .int .i64 g.fn]) o5 0 rfl rfl rfl rfl) Ag rfl <| ho 5 rfl Ag fun cd bL => bE hp fun bM hy74 hp => tc 0 [_,_,_,_,_,_] rfl c79 (fun _ => wQ (a2 := (⟨(⟨a2.f.params, a2.f.result, a2.f.regs, a2.f.blocks⟩ : ny), a2.ahead, N, a2.entered, a2.gone, O⟩ : PFinder)) (a17 := g) ((pi c 87 _).mono (subB 1 rfl)) (K.mono nw) (F.mono nw) (M.mono nw) (W.ro.mono (subB 2 rfl)) (G.ro.mono (subB 3 rfl)) (I.ro.mono (subB 4 rfl)) (aA.mono nw) hy74) rfl ?_
      rintro _ _ ⟨rfl, rfl⟩
      refine hk bL (nq 0 rfl (nq 3 rfl (nq 4 rfl (nq 5 rfl ns)))) <| ho 6 rfl Ag fun ce bN => tp [1, 2, 0, 3, 4, 5] [_,_,_,_,_,_] rfl rfl <| bE hp fun cf hy78 hp => tc 2 [_,_,_,_] rfl c78 (fun _ => sM (a2 := (⟨(⟨a2.f.params, a2.f.result, a2.f.regs, a2.f.blocks⟩ : ny), a2.ahead, N, a2.entered, a2.gone, O⟩ : PFinder)) (a17 := g.dst) (a18 := bM) (K.mono nw) (F.mono nw) (M.mono nw) W (G.ro.mono (subB 1 rfl)) (I.ro.mono (subB 2 rfl)) hy78) rfl ?_
      rintro _ _ ⟨cg, rfl, rfl, bO⟩
      exact hk bN (nq 2 rfl (nq 3 rfl (nq 4 rfl (nq 5 rfl ns)))) <| hz Ag <| jn [0, 1, 3, 4, 5] (ax bO hp)
    · exact TC.skip <| jn [1, 2, 3, 4, 5] (ax W hp)
  · exact nN <| jn [0, 1, 2, 3, 4] (aV W (nK hp bz))
 refine lp aK [1, 2, 3, 4, 0] rfl (fun s e L => ∃ U V Y ak aB, s = (U, V, Y) ∧ SlO 62 kKnown U d ak ∧ e = ovr aB [(0, .pointer (some ⟨c, 0, none⟩)), (1, .int .i64 a19), (4, .pointer (some ⟨n, 0, none⟩)), (19, t), (20, .int .i64 (len b.phis)), (21, .int .i64 Y)] ∧ L = [bx c 87 [.int .i64 a2.f.params, .int .i64 a2.f.result, v3, l, m, d, h, i, .bool V], ak, p, q, bx n 50 [t, o, .int .i64 b.term.kind, .int .i64 b.term.arg, x]]) ⟨_, _, _, aa, _, rfl, aE, nC _ _ rfl, rfl⟩ ?_
 rintro _ _ _ ⟨U, V, Y, ak, aB, rfl, aC, rfl, rfl⟩ bP hp bQ
 replace hp : oK.bd9 a2 a19 b U V Y = some bP := hp
 refine sr <| tv (blt rfl rfl) rfl <| nz <| nv fun ci bR => cD rfl hp (fun bS hp => ?_) fun bS hp => ?_
 · refine sk bR rfl <| nv fun cj bU => nB <| sr <| ti u47 i70 ab hp rfl rfl rfl rfl ?_
   rintro Z ck cl _ hp ⟨al, rfl, aD⟩ bV
   refine tv (lR (ds := [.int .i64 Z.dst, al]) p8 sH bV 0 rfl rfl rfl) rfl <| tl i70 rfl fun cm => tS 0 m70 rfl rfl [.int .i64 Z.dst, al] rfl (oc rfl (oc (aD).one oc0)) rfl rfl <| nz <| nF <| tm rfl <| tm rfl <| tv (lA (ds := [.int .i64 Z.dst, al]) p8 0 rfl rfl rfl rfl) rfl <| tp [1, 2, 0, 3, 4, 5] [_,_,_,_,_,_] rfl rfl <| bE hp fun cn hy90 hp => tc 2 [_,_,_,_] rfl c77 (fun _ => wO (a2 := (⟨(⟨a2.f.params, a2.f.result, a2.f.regs, a2.f.blocks⟩ : ny), a2.ahead, U, a2.entered, a2.gone, V⟩ : PFinder)) (a17 := a19) (a18 := Z) (K.mono nw) (F.mono nw) (M.mono nw) aC (G.ro.mono (subB 1 rfl)) (I.ro.mono (subB 2 rfl)) (aD.mono nw) hy90) rfl ?_
   rintro _ _ ⟨bW, rfl, rfl, bX⟩
   exact nl <| tg bU <| nF <| tv (bad rfl rfl) rfl <| tm rfl <| nl <| gk hp [0, 1, 3, 4, 5] ⟨_, _, _, bW, _, rfl, bX, nC _ _ rfl, rfl⟩
 · exact nN <| jn [0, 1, 2, 3, 4] (aM aC (nK hp bQ))
/-! ### fettle/consts.found -/
abbrev oe.R (H : FP) (r : Ex GErr PFinder) (v : Value) (A : List FP) : Prop := match r with | .ret e => ∃ (w : Value) (G : FP), .tuple #[.pointer none, w] = v ∧ A = [G] ∧ ErO 63 106 108 e w G ∧ ¬ e = GErr.no | .go s => ∃ (a : Nat) (w1 : Value) (w2 : Value) (w3 : Value) (b : FP) (c : Value) (d : FP) (g : Value) (h : FP) (i : Value) (j : FP), .tuple #[.pointer (some ⟨a, 0, none⟩), .nilIface] = v ∧ A = [bx a 87 [.int .i64 s.f.params, .int .i64 s.f.result, w1, w2, w3, c, g, i, .bool s.changed], b, d, h, j] ∧ SlI (nt .i64) H s.f.regs w1 ∧ SlI nY H s.f.blocks w2 ∧ SlO 25 (kSl 3 (nt .i64)) s.ahead w3 b ∧ SlO 62 kKnown s.known c d ∧ SlO 4 kBool s.entered g h ∧ SlO 58 (kSl 4 kBool) s.gone i j
def oe.nx37 (a : ny) (b : List (List Int)) (c : List PKnown) (d : List Bool) (e : List (List Bool)) (f : Bool) : Option (Ex GErr PFinder) :=
  some (.go (⟨(⟨a.params, a.result, a.regs, a.blocks⟩ : ny), b, c, d, e, f⟩ : PFinder))
def oe.nx51  (a : List PKnown) (b : List Bool) (c : List (List Bool)) (d : Bool) : Option (Ex (List PKnown × List Bool × List (List Bool) × Bool) (List PKnown × List Bool × List (List Bool) × Bool)) :=
  some (.go (a, b, c, d))
def oe.jn61 (a : Int) (b : List PKnown) (c : List Bool) (d : List (List Bool)) (e : Bool) : Option (Ex (List PKnown × List Bool × List (List Bool) × Bool) (List PKnown × List Bool × List (List Bool) × Bool × Int)) :=
  some (.go (b, c, d, e, (w64 (a + 1))))
def oe.bd51 (b : ny) (h : List (List Int)) (i : List Bool) (e : List PKnown) (c : List Bool) (f : List (List Bool)) (g : Bool) (a : Int) : Option (Ex (List PKnown × List Bool × List (List Bool) × Bool) (List PKnown × List Bool × List (List Bool) × Bool × Int)) :=
  if a < (len i) then
    (idx c a).bind fun j =>
    if j = true then
      (oK (⟨(⟨b.params, b.result, b.regs, b.blocks⟩ : ny), h, e, c, f, g⟩ : PFinder) a).bind fun d =>
      oe.jn61 a d.1 d.2.1 d.2.2.1 d.2.2.2
    else
      oe.jn61 a e c f g
  else
    some (.ret (e, c, f, g))
def oe.bd37 (e : ny) (f : List (List Int)) (b : List PKnown) (a : List Bool) (c : List (List Bool)) (d : Bool) : Option (Ex (List PKnown × List Bool × List (List Bool) × Bool) (List PKnown × List Bool × List (List Bool) × Bool)) :=
  if d = true then
    (whl (fun (s : (List PKnown × List Bool × List (List Bool) × Bool × Int)) => oe.bd51 e f a s.1 s.2.1 s.2.2.1 s.2.2.2.1 s.2.2.2.2) nD (b, a, c, false, 0)).bind fun z =>
    oe.nx51 z.1 z.2.1 z.2.2.1 z.2.2.2
  else
    some (.ret (b, a, c, d))
def oe.nx27 (a : ny) (b : List (List Int)) (c : List Bool) (d : List (List Bool)) (e : List PKnown) : Option (Ex GErr PFinder) :=
  (idx c 0).bind fun f =>
  (whl (fun (s : (List PKnown × List Bool × List (List Bool) × Bool)) => oe.bd37 a b s.1 s.2.1 s.2.2.1 s.2.2.2) nD (e, (c.set (0 : Int).toNat true), d, true)).bind fun z =>
  oe.nx37 a b z.1 z.2.1 z.2.2.1 z.2.2.2
def oe.bd27 (c : ny) (b : List PKnown) (a : Int) : Option (Ex (List PKnown) (List PKnown × Int)) :=
  if a < c.params then
    (idx b a).bind fun d =>
    some (.go ((b.set (a).toNat (⟨2, d.v⟩ : PKnown)), (w64 (a + 1))))
  else
    some (.ret b)
def oe.nx18 (a : ny) (b : List (List Int)) (c : List PKnown) (d : List Bool) (e : List (List Bool)) : Option (Ex GErr PFinder) :=
  (whl (fun (s : (List PKnown × Int)) => oe.bd27 a s.1 s.2) nD (c, 0)).bind fun z =>
  oe.nx27 a b d e z
def oe.jn88 (a : Int) (b : List (List Bool)) : Option (Ex (List (List Bool)) (List (List Bool) × Int)) :=
  some (.go (b, (w64 (a + 1))))
def oe.bd18 (b : ny) (c : List (List Bool)) (a : Int) : Option (Ex (List (List Bool)) (List (List Bool) × Int)) :=
  if a < (len b.blocks) then
    (idx b.blocks a).bind fun d =>
    (mkl (len d.term.to) false).bind fun e =>
    (cat c [e]).bind fun f =>
    oe.jn88 a f
  else
    some (.ret c)
def oe.jn10 (a : ny) (b : List (List Int)) (c : List PKnown) (d : List Bool) : Option (Ex GErr PFinder) :=
  (whl (fun (s : (List (List Bool) × Int)) => oe.bd18 a s.1 s.2) nD (([] : List (List Bool)), 0)).bind fun z =>
  oe.nx18 a b c d z
def oe (a1 : nR) (a4 : Int) : Option (Ex GErr PFinder) :=
  (oU a1 a4).bind fun b =>
  if ¬ b = GErr.no then
    some (.ret b)
  else
    (idx a1.funcs a4).bind fun a =>
    (oF a).bind fun c =>
    (mkl (len a.regs) PKnown.zero).bind fun d =>
    (mkl (len a.blocks) false).bind fun e =>
    oe.jn10 a c d e
set_option maxHeartbeats 4000000 in
theorem t8 {E : World} {H : FP} {w : World} {a1 : nR} {a4 : Int} {v2 : Value} {r : Ex GErr PFinder} (a7 : SlI ou H a1.funcs v2) (hp : oe a1 a4 = some r) (hst : St E H [] w) :
    Fn Try.prog 33 #[.agg #[v2], .int .i64 a4] w fun v w' => ∃ A, oe.R H r v A ∧ St E H A w' := by
 refine fb 101 [.tmp 4, .tmp 5] Try.func33 rfl rfl rfl rfl rfl hst <| sr <| tb [v2] rfl rfl fun bD => ta rfl <| ta rfl <| nz <| nv fun dJ bF => sr <| tv (lA (ds := [v2]) oZ 0 rfl rfl rfl rfl) rfl <| tm rfl <| bE hp fun dK hy3 hp => tc 0 [_] rfl c26 (fun _ => wM (a1 := a1) (a4 := a4) (a7.mono nw) hy3) rfl ?_
 rintro _ _ ⟨bG, a8, rfl, rfl, a9⟩
 refine ta rfl <| nz <| sr <| tm rfl <| tv (pw pc a9 rfl) rfl <| nz <| cD rfl hp (fun ba hp => ?_) fun ba hp => ?_
 · exact sr <| tm rfl <| ta rfl <| ta rfl <| nz <| nH <| rt hp [0] ⟨bG, a8, rfl, rfl, a9, ba⟩
 · refine sk bF rfl <| sr <| tv (fa oR rfl) rfl <| tv (lb s33 1 rfl rfl rfl) rfl <| tm rfl <| ti u33 i41 a7 hp rfl rfl rfl rfl ?_
   rintro b dL dM _ hp ⟨d, c, rfl, z, u⟩ bH
   refine tv (lR (ds := [.int .i64 b.params, .int .i64 b.result, d, c]) n8 sH bH 0 rfl rfl rfl) rfl <| tl i41 rfl fun y => tS 0 m41 rfl rfl [.int .i64 b.params, .int .i64 b.result, d, c] rfl (oc rfl (oc rfl (oc (z).one (oc (u).one oc0)))) rfl rfl <| nz <| nv fun bI bJ => ?_
   have M {C av aa f t q j F l B bK} (bb : SlO 25 (kSl 3 (nt .i64)) C t q) (bL : SlO 62 kKnown av j F) (bc : SlO 4 kBool aa l B) (hp : oe.jn10 b C av aa = some r) : ∀ w, St E H [bx y 41 [.int .i64 b.params, .int .i64 b.result, d, c], bx f 87 [.int .i64 b.params, .int .i64 b.result, d, c, t, j, l, .slice none 0 0, .bool true], q, F, B] w → bI (ovr bK [(7, .pointer (some ⟨y, 0, none⟩)), (8, .pointer (some ⟨f, 0, none⟩))]) w := by
    refine tg bJ <| nv fun bM bN => sr <| tv (fa oa rfl) rfl <| tv (lb s39 0 rfl rfl rfl) rfl <| tv (ln u39 u rfl) rfl <| tm rfl <| nz <| nB <| bE hp fun bO bP bQ => ?_
    have bR {ab m N bS} (bT : SlO 58 (kSl 4 kBool) ab m N) (bU : ab = bO) : ∀ w, St E H [bx y 41 [.int .i64 b.params, .int .i64 b.result, d, c], bx f 87 [.int .i64 b.params, .int .i64 b.result, d, c, t, j, l, m, .bool true], q, F, B, N] w → bM (ovr bS [(7, .pointer (some ⟨y, 0, none⟩)), (8, .pointer (some ⟨f, 0, none⟩))]) w := by
     subst bU
     replace hp : oe.nx18 b C av aa ab = some r := bQ
     refine tg bN <| nv fun bV bW => sr <| tv (fa po rfl) rfl <| tv (lb s3 0 rfl rfl rfl) rfl <| tm rfl <| nz <| nB <| bE hp fun bX bY bZ => ?_
     have b0 {aw ax b1} (b2 : SlO 62 kKnown aw j ax) (b3 : aw = bX) : ∀ w, St E H [bx f 87 [.int .i64 b.params, .int .i64 b.result, d, c, t, j, l, m, .bool true], q, ax, B, N] w → bV (ovr b1 [(8, .pointer (some ⟨f, 0, none⟩))]) w := by
      subst b3
      replace hp : oe.nx27 b C aa ab aw = some r := bZ
      refine tg bW <| sr <| tm rfl <| tv (nE rfl) rfl <| tv (fa r6 rfl) rfl <| tv (lb s58 0 rfl rfl rfl) rfl <| tO u58 i4 bc hp rfl rfl rfl rfl fun dN dO dP b4 hp => tp [3, 0, 1, 2, 4] [_,_,_,_,_] rfl rfl <| tE bc b4 m4 rfl ⟨rfl, rfl⟩ w1 fun b5 b6 => nz <| nv fun b7 b8 => nB <| bE hp fun b9 ca cb => ?_
      have cc {ay az aA aB aC aD aE cd} (ce : SlO 62 kKnown ay j aC) (cf : SlO 4 kBool az l aD) (cg : SlO 58 (kSl 4 kBool) aA m aE) (ci : (ay, az, aA, aB) = b9) : ∀ w, St E H [bx f 87 [.int .i64 b.params, .int .i64 b.result, d, c, t, j, l, m, .bool aB], q, aC, aD, aE] w → b7 (ovr cd [(8, .pointer (some ⟨f, 0, none⟩))]) w := by
       subst ci
       replace hp : oe.nx37 b C ay az aA aB = some r := cb
       exact tg b8 <| sr <| tm rfl <| ta rfl <| ta rfl <| nz <| nH <| rt hp [0, 1, 2, 3, 4] ⟨f, d, c, t, q, j, aC, l, aD, m, aE, rfl, rfl, z, u, bb, ce, cf, cg⟩
      refine lp ca [1, 2, 3, 0, 4] rfl (fun s e L => ∃ ac G ad ae af ag ah be, s = (ac, G, ad, ae) ∧ SlO 62 kKnown ac j af ∧ SlO 4 kBool G l ag ∧ SlO 58 (kSl 4 kBool) ad m ah ∧ e = ovr be [(8, .pointer (some ⟨f, 0, none⟩))] ∧ L = [bx f 87 [.int .i64 b.params, .int .i64 b.result, d, c, t, j, l, m, .bool ae], q, af, ag, ah]) ⟨_, _, _, _, ax, b5, N, _, rfl, b2, b6, bT, nC _ _ rfl, rfl⟩ ?_
      rintro _ _ _ ⟨ac, G, ad, ae, af, ag, ah, be, rfl, bf, aF, bg, rfl, rfl⟩ bh hp cj
      replace hp : oe.bd37 b C ac G ad ae = some bh := hp
      refine nv fun dQ ck => sr <| tm rfl <| tv (nE rfl) rfl <| tv (fa r7 rfl) rfl <| tv (lb s4 0 rfl rfl rfl) rfl <| nz <| cB rfl hp (fun cl hp => ?_) fun cl hp => ?_
      · refine sk ck rfl <| qf fun cm cn => nB <| sr <| tm rfl <| tv (nE rfl) rfl <| tv (fa r7 rfl) rfl <| ts 0 m4 rfl rfl w1 rfl <| nz <| sr <| tm rfl <| tv (nE rfl) rfl <| tv (fa r6 rfl) rfl <| tv (lb s58 0 rfl rfl rfl) rfl <| tv (ln u58 aF.ro rfl) rfl <| tm rfl <| nz <| nB <| bE hp fun co cp cq => ?_
        have cr {aG aH aI aJ aK aL aM cs} (ct : SlO 62 kKnown aG j aK) (cu : SlO 4 kBool aH l aL) (cv : SlO 58 (kSl 4 kBool) aI m aM) (cw : (aG, aH, aI, aJ) = co) : ∀ w, St E H [bx f 87 [.int .i64 b.params, .int .i64 b.result, d, c, t, j, l, m, .bool aJ], q, aK, aL, aM] w → cm (ovr cs [(8, .pointer (some ⟨f, 0, none⟩))]) w := by
         subst cw
         replace hp : oe.nx51 aG aH aI aJ = some bh := cq
         exact viaK cn <| gk hp [0, 1, 2, 3, 4] ⟨_, _, _, _, aK, aL, aM, _, rfl, ct, cu, cv, nC _ _ rfl, rfl⟩
        refine lp cp [0, 1, 2, 3, 4] rfl (fun s e L => ∃ Q S T U I aN aO aP bi, s = (Q, S, T, U, I) ∧ SlO 62 kKnown Q j aN ∧ SlO 4 kBool S l aO ∧ SlO 58 (kSl 4 kBool) T m aP ∧ e = ovr bi [(8, .pointer (some ⟨f, 0, none⟩)), (88, l), (89, .int .i64 (len G)), (90, .int .i64 I)] ∧ L = [bx f 87 [.int .i64 b.params, .int .i64 b.result, d, c, t, j, l, m, .bool U], q, aN, aO, aP]) ⟨_, _, _, _, _, af, ag, ah, _, rfl, bf, aF, bg, nC _ _ rfl, rfl⟩ ?_
        rintro _ _ _ ⟨Q, S, T, U, I, aN, aO, aP, bi, rfl, aQ, ai, aR, rfl, rfl⟩ bj hp cx
        replace hp : oe.bd51 b C G Q S T U I = some bj := hp
        refine sr <| tv (blt rfl rfl) rfl <| nz <| nv fun dR cy => cD rfl hp (fun cz hp => ?_) fun cz hp => ?_
        · refine sk cy rfl <| nv fun cA cC => ?_
          have bk {bl bm bn bo aS aT aU cE} (cF : SlO 62 kKnown bl j aS) (cG : SlO 4 kBool bm l aT) (cH : SlO 58 (kSl 4 kBool) bn m aU) (hp : oe.jn61 I bl bm bn bo = some bj) : ∀ w, St E H [bx f 87 [.int .i64 b.params, .int .i64 b.result, d, c, t, j, l, m, .bool bo], q, aS, aT, aU] w → cA (ovr cE [(8, .pointer (some ⟨f, 0, none⟩)), (88, l), (89, .int .i64 (len G)), (90, .int .i64 I)]) w := by
           exact tg cC <| nF <| tv (bad rfl rfl) rfl <| tm rfl <| nl <| gk hp [0, 1, 2, 3, 4] ⟨_, _, _, _, _, aS, aT, aU, _, rfl, cF, cG, cH, nC _ _ rfl, rfl⟩
          refine nB <| sr <| tm rfl <| ti u58 i4 (ai).ro hp rfl rfl rfl rfl ?_
          rintro dS dT dU _ hp rfl cI
          refine tv (lr s4 (Src.at_ 3 rfl) cI 0 rfl rfl) rfl <| ta rfl <| ta rfl <| nz <| sr <| tm rfl <| nz <| cB rfl hp (fun cJ hp => ?_) fun cJ hp => ?_
          · refine nF <| tm rfl <| tm rfl <| tp [0, 2, 3, 4, 1] [_,_,_,_,_] rfl rfl <| bE hp fun dV hy64 hp => tc 4 [_] rfl c55 (fun _ => wR (a2 := (⟨(⟨b.params, b.result, b.regs, b.blocks⟩ : ny), C, Q, S, T, U⟩ : PFinder)) (a19 := I) (z.mono nw) (u.mono nw) (bb.ro.mono (subB 0 rfl)) aQ ai aR hy64) rfl ?_
            rintro _ _ ⟨dW, dX, dY, rfl, rfl, cK, cL, cM⟩
            exact nl <| jn [0, 4, 1, 2, 3] (bk cK cL cM hp)
          · exact TC.skip <| jn [0, 1, 2, 3, 4] (bk aQ ai aR hp)
        · exact nN <| jn [0, 1, 2, 3, 4] (cr aQ ai aR (nK hp cx))
      · exact nN <| jn [0, 1, 2, 3, 4] (cc bf aF bg (nK hp cj))
     refine lp bY [1, 2, 3, 4, 5] rfl (fun s e L => ∃ aj ak aV bp, s = (aj, ak) ∧ SlO 62 kKnown aj j aV ∧ e = ovr bp [(8, .pointer (some ⟨f, 0, none⟩)), (61, .int .i64 b.params), (62, .int .i64 ak)] ∧ L = [bx f 87 [.int .i64 b.params, .int .i64 b.result, d, c, t, j, l, m, .bool true], q, aV, B, N]) ⟨_, _, F, _, rfl, bL, nC _ _ rfl, rfl⟩ ?_
     rintro _ _ _ ⟨aj, ak, aV, bp, rfl, bq, rfl, rfl⟩ cN hp cO
     replace hp : oe.bd27 b aj ak = some cN := hp
     refine sr <| tv (blt rfl rfl) rfl <| nz <| nv fun dZ cP => cD rfl hp (fun cQ hp => ?_) fun cQ hp => ?_
     · refine sk cP rfl <| nv fun d0 cR => nB <| sr <| tm rfl <| ta rfl <| nz <| nF <| tm rfl <| tv (nE rfl) rfl <| tv (fa qo rfl) rfl <| tv (lb s57 0 rfl rfl rfl) rfl <| tm rfl <| tp [2, 0, 1, 3, 4] [_,_,_,_,_] rfl rfl <| bE hp fun cS br hp => TL.open_ bq br ?_
       rintro d1 _ cT d2 bs ⟨rfl, rfl⟩
       exact TL.perm (L' := [cT, bx f 87 [.int .i64 b.params, .int .i64 b.result, d, c, t, j, l, m, .bool true], q, B, N]) (by simp) <| tv (pa u57 i62 rfl rfl (oM br).1 bs) rfl <| tv (fa p7 rfl) rfl <| tsH bs m3 0 rfl w1 rfl fun d3 cU => nl <| tg cR <| nF <| tv (bad rfl rfl) rfl <| tm rfl <| nl <| W.empty <| W.shut (a := (⟨2, cS.v⟩ : PKnown)) cU ⟨rfl, rfl⟩ fun cV cW => gk hp [1, 2, 0, 3, 4] ⟨_, _, cV, _, rfl, cW, nC _ _ rfl, rfl⟩
     · exact nN <| jn [0, 1, 2, 3, 4] (b0 bq (nK hp cO))
    refine W.new0 <| lp bP [1, 2, 3, 4, 5, 0] rfl (fun s e L => ∃ am O aW aX bt, s = (am, O) ∧ SlO 58 (kSl 4 kBool) am aW aX ∧ e = ovr bt [(7, .pointer (some ⟨y, 0, none⟩)), (8, .pointer (some ⟨f, 0, none⟩)), (39, c), (40, .int .i64 (len b.blocks)), (41, .int .i64 O)] ∧ L = [bx y 41 [.int .i64 b.params, .int .i64 b.result, d, c], bx f 87 [.int .i64 b.params, .int .i64 b.result, d, c, t, j, l, aW, .bool true], q, F, B, aX]) ⟨_, _, (.slice none 0 0), ([] : FP), _, rfl, (SlO.nil 58), nC _ _ rfl, rfl⟩ ?_
    rintro _ _ _ ⟨am, O, aW, aX, bt, rfl, an, rfl, rfl⟩ bu hp cX
    replace hp : oe.bd18 b am O = some bu := hp
    refine sr <| tv (blt rfl rfl) rfl <| nz <| nv fun d4 cY => cD rfl hp (fun cZ hp => ?_) fun cZ hp => ?_
    · refine sk cY rfl <| nv fun c0 c1 => ?_
      have aY {bv aZ a0 c2} (c3 : SlO 58 (kSl 4 kBool) bv aZ a0) (hp : oe.jn88 O bv = some bu) : ∀ w, St E H [bx y 41 [.int .i64 b.params, .int .i64 b.result, d, c], bx f 87 [.int .i64 b.params, .int .i64 b.result, d, c, t, j, l, aZ, .bool true], q, F, B, a0] w → c0 (ovr c2 [(7, .pointer (some ⟨y, 0, none⟩)), (8, .pointer (some ⟨f, 0, none⟩)), (39, c), (40, .int .i64 (len b.blocks)), (41, .int .i64 O)]) w := by
       exact tg c1 <| nF <| tv (bad rfl rfl) rfl <| tm rfl <| nl <| gk hp [0, 1, 2, 3, 4, 5] ⟨_, _, aZ, a0, _, rfl, c3, nC _ _ rfl, rfl⟩
      refine nB <| sr <| ti u39 i50 u hp rfl rfl rfl rfl ?_
      rintro P d5 d6 _ hp ⟨a3, a5, a6, rfl, c4, c5, bw⟩ c6
      refine tv (lR (ds := [a3, a5, .int .i64 P.term.kind, .int .i64 P.term.arg, a6]) oY sH c6 0 rfl rfl rfl) rfl <| tl i50 rfl fun c7 => tS 0 m50 rfl rfl [a3, a5, .int .i64 P.term.kind, .int .i64 P.term.arg, a6] rfl (oc (c4).one (oc (c5).one (oc rfl (oc rfl (oc (bw).one oc0))))) rfl rfl <| nz <| ch mix [bx c7 50 [a3, a5, .int .i64 P.term.kind, .int .i64 P.term.arg, a6], bx y 41 [.int .i64 b.params, .int .i64 b.result, d, c], q, F, B] (nq 0 rfl (nq 1 rfl (nq 3 rfl (nq 4 rfl (nq 5 rfl ns))))) <| hv 0 rfl mv Ag rfl <| hv 1 rfl mv Ag rfl <| hv 2 rfl (nE rfl) Ag rfl <| hv 3 rfl (fa qL rfl) Ag rfl <| hv 5 rfl (fa oQ rfl) Ag rfl <| hv 6 rfl (fa o8 rfl) Ag rfl <| hv 7 rfl (lbG s25 0 rfl rfl rfl) Ag rfl <| hv 8 rfl (ln u25 bw rfl) Ag rfl <| nT [4, 9] Ag (by simp) (nG ⟨_, rfl, fun d7 c8 => ?_⟩ (nG ⟨_, rfl, fun d8 c9 => ?_⟩ nU))
      · exact tv (lb s85 2 rfl rfl rfl) rfl <| hk c8 (nq 0 rfl (nq 1 rfl (nq 3 rfl (nq 4 rfl (nq 5 rfl ns))))) <| ho 9 rfl Ag fun d9 da => tk (k := kBool) u58 i4 hp ⟨rfl, rfl⟩ rfl rfl rfl rfl rfl rfl fun ao J ap K hp => hk da (nq 1 rfl (nq 2 rfl (nq 4 rfl (nq 5 rfl (nq 6 rfl ns))))) <| ho 10 rfl Ag fun ea db => tbs [(0, J)] [J] u85 i58 (by obtain ⟨_, _, rfl⟩ := (K).len; kernel_rfl) rfl rfl rfl rfl fun bz => hk db (nq 2 rfl (nq 3 rfl (nq 5 rfl (nq 6 rfl (nq 7 rfl ns))))) <| ho 11 rfl Ag fun eb dc => tp [8, 0, 1, 2, 3, 4, 5, 6, 7] [_,_,_,_,_,_,_,_,_] rfl rfl <| tp2 u85 i58 an hp (RepL.to (G' := ap) (RepL.cons (k := (kSl 4 kBool)) (x := ao) ⟨_, rfl, K⟩ RepL.nil) (by simp)) rfl rfl rfl rfl rfl rfl rfl rfl rfl fun bA bB bC D hp => hk dc (nq 1 rfl (nq 2 rfl (nq 4 rfl (nq 5 rfl (nq 6 rfl ns))))) <| hv 12 rfl (nE rfl) Ag rfl <| hv 13 rfl (fa qL rfl) Ag rfl <| ho 14 rfl Ag fun ec dd => ts 3 m85 rfl rfl D.o1 rfl <| hk dd (nq 1 rfl (nq 2 rfl (nq 4 rfl (nq 5 rfl (nq 6 rfl ns))))) <| hz Ag <| jn [2, 3, 4, 5, 6, 0] (aY D hp)
      · refine tk (k := kBool) u58 i4 hp ⟨rfl, rfl⟩ rfl rfl rfl rfl rfl rfl fun ao J ap K hp => hk c9 (nq 1 rfl (nq 2 rfl (nq 4 rfl (nq 5 rfl (nq 6 rfl ns))))) <| nT [4, 10] Ag (by simp) (nG ⟨_, rfl, fun ed de => ?_⟩ (nG ⟨_, rfl, fun ee df => ?_⟩ nU))
        · exact tv (lb s85 3 rfl rfl rfl) rfl <| hk de (nq 1 rfl (nq 2 rfl (nq 4 rfl (nq 5 rfl (nq 6 rfl ns))))) <| ho 10 rfl Ag fun ef dg => tbs [(0, J)] [J] u85 i58 (by obtain ⟨_, _, rfl⟩ := (K).len; kernel_rfl) rfl rfl rfl rfl fun bz => hk dg (nq 2 rfl (nq 3 rfl (nq 5 rfl (nq 6 rfl (nq 7 rfl ns))))) <| ho 11 rfl Ag fun eg dh => tp [8, 0, 1, 2, 3, 4, 5, 6, 7] [_,_,_,_,_,_,_,_,_] rfl rfl <| tp2 u85 i58 an hp (RepL.to (G' := ap) (RepL.cons (k := (kSl 4 kBool)) (x := ao) ⟨_, rfl, K⟩ RepL.nil) (by simp)) rfl rfl rfl rfl rfl rfl rfl rfl rfl fun bA bB bC D hp => hk dh (nq 1 rfl (nq 2 rfl (nq 4 rfl (nq 5 rfl (nq 6 rfl ns))))) <| hv 12 rfl (nE rfl) Ag rfl <| hv 13 rfl (fa qL rfl) Ag rfl <| ho 14 rfl Ag fun eh di => ts 3 m85 rfl rfl D.o1 rfl <| hk di (nq 1 rfl (nq 2 rfl (nq 4 rfl (nq 5 rfl (nq 6 rfl ns))))) <| hz Ag <| jn [2, 3, 4, 5, 6, 0] (aY D hp)
        · exact tbs [(0, J)] [J] u85 i58 (by obtain ⟨_, _, rfl⟩ := (K).len; kernel_rfl) rfl rfl rfl rfl fun bz => hk df (nq 2 rfl (nq 3 rfl (nq 5 rfl (nq 6 rfl (nq 7 rfl ns))))) <| ho 4 rfl Ag fun ei dj => tv (lb s85 4 rfl rfl rfl) rfl <| hk dj (nq 2 rfl (nq 3 rfl (nq 5 rfl (nq 6 rfl (nq 7 rfl ns))))) <| ho 11 rfl Ag fun ej dk => tp [8, 0, 1, 2, 3, 4, 5, 6, 7] [_,_,_,_,_,_,_,_,_] rfl rfl <| tp2 u85 i58 an hp (RepL.to (G' := ap) (RepL.cons (k := (kSl 4 kBool)) (x := ao) ⟨_, rfl, K⟩ RepL.nil) (by simp)) rfl rfl rfl rfl rfl rfl rfl rfl rfl fun bA bB bC D hp => hk dk (nq 1 rfl (nq 2 rfl (nq 4 rfl (nq 5 rfl (nq 6 rfl ns))))) <| hv 12 rfl (nE rfl) Ag rfl <| hv 13 rfl (fa qL rfl) Ag rfl <| ho 14 rfl Ag fun ek dl => ts 3 m85 rfl rfl D.o1 rfl <| hk dl (nq 1 rfl (nq 2 rfl (nq 4 rfl (nq 5 rfl (nq 6 rfl ns))))) <| hz Ag <| jn [2, 3, 4, 5, 6, 0] (aY D hp)
    · exact nN <| jn [0, 1, 2, 3, 4, 5] (bR an (nK hp cX))
   refine bE hp fun el V hp => bE hp fun em X hp => bE hp fun en Y hp => ch mix [bx y 41 [.int .i64 b.params, .int .i64 b.result, d, c], a8, bx bD 35 [v2]] (nq 0 rfl (nq 1 rfl (nq 2 rfl ns))) <| hv 0 rfl (lAG (ds := [.int .i64 b.params, .int .i64 b.result, d, c]) n8 0 rfl rfl rfl rfl) Ag rfl <| hv 1 rfl (lAG (ds := [.int .i64 b.params, .int .i64 b.result, d, c]) n8 0 rfl rfl rfl rfl) Ag rfl <| hv 3 rfl (fa o7 rfl) Ag rfl <| hv 4 rfl (lbG s25 0 rfl rfl rfl) Ag rfl <| hv 5 rfl (ln u25 z rfl) Ag rfl <| hv 7 rfl (fa oa rfl) Ag rfl <| hv 8 rfl (lbG s39 0 rfl rfl rfl) Ag rfl <| hv 9 rfl (ln u39 u rfl) Ag rfl <| nT [2, 6, 10] Ag (by simp) (nG ⟨_, rfl, fun eo dm => ?_⟩ (nG ⟨_, rfl, fun ep dn => ?_⟩ (nG ⟨_, rfl, fun eq dp => ?_⟩ nU)))
   · refine tc 0 [_,_,_] rfl c27 (fun _ => qu (a1 := b) (z.mono nw) (u.mono nw) V) rfl ?_
     rintro _ _ ⟨g, aq, rfl, rfl, n⟩
     refine hk dm (nq 1 rfl (nq 2 rfl (nq 3 rfl ns))) <| nT [6, 10] Ag (by simp) (nG ⟨_, rfl, fun er dq => ?_⟩ (nG ⟨_, rfl, fun es dr => ?_⟩ nU))
     · exact tk0 (k := kKnown) u57 i62 X ⟨rfl, rfl⟩ rfl rfl rfl rfl rfl rfl fun h ar o => hk dq (nq 2 rfl (nq 3 rfl (nq 4 rfl ns))) <| ho 10 rfl Ag fun et dt => tk0 (k := kBool) u58 i4 Y ⟨rfl, rfl⟩ rfl rfl rfl rfl rfl rfl fun i au p => hk dt (nq 3 rfl (nq 4 rfl (nq 5 rfl ns))) <| hv 11 rfl (n9 (vs := [(0, .agg #[.int .i64 b.params, .int .i64 b.result, d, c]), (1, g), (2, h), (3, i), (5, .bool true)]) (ds := [.int .i64 b.params, .int .i64 b.result, d, c, g, h, i, .slice none 0 0, .bool true]) rfl (fun w => by obtain ⟨_, _, rfl⟩ := (n).len; obtain ⟨_, _, rfl⟩ := (o).len; obtain ⟨_, _, rfl⟩ := (p).len; kernel_rfl)) Ag rfl <| ho 12 rfl Ag fun eu du => tb [.int .i64 b.params, .int .i64 b.result, d, c, g, h, i, .slice none 0 0, .bool true] rfl rfl fun Z => hk du (nq 4 rfl (nq 5 rfl (nq 6 rfl ns))) <| hv 13 rfl sg Ag rfl <| hz Ag <| jn [4, 0, 3, 2, 1] (M n o p hp)
     · exact tk0 (k := kBool) u58 i4 Y ⟨rfl, rfl⟩ rfl rfl rfl rfl rfl rfl fun i au p => hk dr (nq 2 rfl (nq 3 rfl (nq 4 rfl ns))) <| ho 6 rfl Ag fun ev dv => tk0 (k := kKnown) u57 i62 X ⟨rfl, rfl⟩ rfl rfl rfl rfl rfl rfl fun h ar o => hk dv (nq 3 rfl (nq 4 rfl (nq 5 rfl ns))) <| hv 11 rfl (n9 (vs := [(0, .agg #[.int .i64 b.params, .int .i64 b.result, d, c]), (1, g), (2, h), (3, i), (5, .bool true)]) (ds := [.int .i64 b.params, .int .i64 b.result, d, c, g, h, i, .slice none 0 0, .bool true]) rfl (fun w => by obtain ⟨_, _, rfl⟩ := (n).len; obtain ⟨_, _, rfl⟩ := (o).len; obtain ⟨_, _, rfl⟩ := (p).len; kernel_rfl)) Ag rfl <| ho 12 rfl Ag fun ew dw => tb [.int .i64 b.params, .int .i64 b.result, d, c, g, h, i, .slice none 0 0, .bool true] rfl rfl fun Z => hk dw (nq 4 rfl (nq 5 rfl (nq 6 rfl ns))) <| hv 13 rfl sg Ag rfl <| hz Ag <| jn [4, 0, 3, 1, 2] (M n o p hp)
   · refine tk0 (k := kKnown) u57 i62 X ⟨rfl, rfl⟩ rfl rfl rfl rfl rfl rfl fun h ar o => hk dn (nq 1 rfl (nq 2 rfl (nq 3 rfl ns))) <| nT [2, 10] Ag (by simp) (nG ⟨_, rfl, fun ex dx => ?_⟩ (nG ⟨_, rfl, fun ey dy => ?_⟩ nU))
     · refine tc 0 [_,_,_,_] rfl c27 (fun _ => qu (a1 := b) (z.mono nw) (u.mono nw) V) rfl ?_
       rintro _ _ ⟨g, aq, rfl, rfl, n⟩
       exact hk dx (nq 2 rfl (nq 3 rfl (nq 4 rfl ns))) <| ho 10 rfl Ag fun ez dz => tk0 (k := kBool) u58 i4 Y ⟨rfl, rfl⟩ rfl rfl rfl rfl rfl rfl fun i au p => hk dz (nq 3 rfl (nq 4 rfl (nq 5 rfl ns))) <| hv 11 rfl (n9 (vs := [(0, .agg #[.int .i64 b.params, .int .i64 b.result, d, c]), (1, g), (2, h), (3, i), (5, .bool true)]) (ds := [.int .i64 b.params, .int .i64 b.result, d, c, g, h, i, .slice none 0 0, .bool true]) rfl (fun w => by obtain ⟨_, _, rfl⟩ := (n).len; obtain ⟨_, _, rfl⟩ := (o).len; obtain ⟨_, _, rfl⟩ := (p).len; kernel_rfl)) Ag rfl <| ho 12 rfl Ag fun eA dA => tb [.int .i64 b.params, .int .i64 b.result, d, c, g, h, i, .slice none 0 0, .bool true] rfl rfl fun Z => hk dA (nq 4 rfl (nq 5 rfl (nq 6 rfl ns))) <| hv 13 rfl sg Ag rfl <| hz Ag <| jn [4, 0, 2, 3, 1] (M n o p hp)
     · refine tk0 (k := kBool) u58 i4 Y ⟨rfl, rfl⟩ rfl rfl rfl rfl rfl rfl fun i au p => hk dy (nq 2 rfl (nq 3 rfl (nq 4 rfl ns))) <| ho 2 rfl Ag fun eB dB => tc 0 [_,_,_,_,_] rfl c27 (fun _ => qu (a1 := b) (z.mono nw) (u.mono nw) V) rfl ?_
       rintro _ _ ⟨g, aq, rfl, rfl, n⟩
       exact hk dB (nq 3 rfl (nq 4 rfl (nq 5 rfl ns))) <| hv 11 rfl (n9 (vs := [(0, .agg #[.int .i64 b.params, .int .i64 b.result, d, c]), (1, g), (2, h), (3, i), (5, .bool true)]) (ds := [.int .i64 b.params, .int .i64 b.result, d, c, g, h, i, .slice none 0 0, .bool true]) rfl (fun w => by obtain ⟨_, _, rfl⟩ := (n).len; obtain ⟨_, _, rfl⟩ := (o).len; obtain ⟨_, _, rfl⟩ := (p).len; kernel_rfl)) Ag rfl <| ho 12 rfl Ag fun eC dC => tb [.int .i64 b.params, .int .i64 b.result, d, c, g, h, i, .slice none 0 0, .bool true] rfl rfl fun Z => hk dC (nq 4 rfl (nq 5 rfl (nq 6 rfl ns))) <| hv 13 rfl sg Ag rfl <| hz Ag <| jn [4, 0, 1, 3, 2] (M n o p hp)
   · refine tk0 (k := kBool) u58 i4 Y ⟨rfl, rfl⟩ rfl rfl rfl rfl rfl rfl fun i au p => hk dp (nq 1 rfl (nq 2 rfl (nq 3 rfl ns))) <| nT [2, 6] Ag (by simp) (nG ⟨_, rfl, fun eD dD => ?_⟩ (nG ⟨_, rfl, fun eE dE => ?_⟩ nU))
     · refine tc 0 [_,_,_,_] rfl c27 (fun _ => qu (a1 := b) (z.mono nw) (u.mono nw) V) rfl ?_
       rintro _ _ ⟨g, aq, rfl, rfl, n⟩
       exact hk dD (nq 2 rfl (nq 3 rfl (nq 4 rfl ns))) <| ho 6 rfl Ag fun eF dF => tk0 (k := kKnown) u57 i62 X ⟨rfl, rfl⟩ rfl rfl rfl rfl rfl rfl fun h ar o => hk dF (nq 3 rfl (nq 4 rfl (nq 5 rfl ns))) <| hv 11 rfl (n9 (vs := [(0, .agg #[.int .i64 b.params, .int .i64 b.result, d, c]), (1, g), (2, h), (3, i), (5, .bool true)]) (ds := [.int .i64 b.params, .int .i64 b.result, d, c, g, h, i, .slice none 0 0, .bool true]) rfl (fun w => by obtain ⟨_, _, rfl⟩ := (n).len; obtain ⟨_, _, rfl⟩ := (o).len; obtain ⟨_, _, rfl⟩ := (p).len; kernel_rfl)) Ag rfl <| ho 12 rfl Ag fun eG dG => tb [.int .i64 b.params, .int .i64 b.result, d, c, g, h, i, .slice none 0 0, .bool true] rfl rfl fun Z => hk dG (nq 4 rfl (nq 5 rfl (nq 6 rfl ns))) <| hv 13 rfl sg Ag rfl <| hz Ag <| jn [4, 0, 2, 1, 3] (M n o p hp)
     · refine tk0 (k := kKnown) u57 i62 X ⟨rfl, rfl⟩ rfl rfl rfl rfl rfl rfl fun h ar o => hk dE (nq 2 rfl (nq 3 rfl (nq 4 rfl ns))) <| ho 2 rfl Ag fun eH dH => tc 0 [_,_,_,_,_] rfl c27 (fun _ => qu (a1 := b) (z.mono nw) (u.mono nw) V) rfl ?_
       rintro _ _ ⟨g, aq, rfl, rfl, n⟩
       exact hk dH (nq 3 rfl (nq 4 rfl (nq 5 rfl ns))) <| hv 11 rfl (n9 (vs := [(0, .agg #[.int .i64 b.params, .int .i64 b.result, d, c]), (1, g), (2, h), (3, i), (5, .bool true)]) (ds := [.int .i64 b.params, .int .i64 b.result, d, c, g, h, i, .slice none 0 0, .bool true]) rfl (fun w => by obtain ⟨_, _, rfl⟩ := (n).len; obtain ⟨_, _, rfl⟩ := (o).len; obtain ⟨_, _, rfl⟩ := (p).len; kernel_rfl)) Ag rfl <| ho 12 rfl Ag fun eI dI => tb [.int .i64 b.params, .int .i64 b.result, d, c, g, h, i, .slice none 0 0, .bool true] rfl rfl fun Z => hk dI (nq 4 rfl (nq 5 rfl (nq 6 rfl ns))) <| hv 13 rfl sg Ag rfl <| hz Ag <| jn [4, 0, 1, 2, 3] (M n o p hp)
/-! ### fettle/consts.Values -/
abbrev qN.R (r : List PKnown × List Bool × GErr) (v : Value) (A : List FP) : Prop := ∃ (w1 : Value) (a : FP) (w2 : Value) (b : FP) (w3 : Value) (c : FP), .tuple #[w1, w2, w3] = v ∧ A = [a, b, c] ∧ SlO 62 kKnown r.1 w1 a ∧ SlO 4 kBool r.2.1 w2 b ∧ ErO 63 106 108 r.2.2 w3 c
def qN (a1 : nR) (a4 : Int) : Option (List PKnown × List Bool × GErr) :=
  (oe a1 a4).bind fun b =>
  (match b with
  | .ret c =>
    some (([] : List PKnown), ([] : List Bool), c)
  | .go a =>
    if ¬ GErr.no = GErr.no then
      some (([] : List PKnown), ([] : List Bool), GErr.no)
    else
      some (a.known, a.entered, GErr.no))
theorem t9 {E : World} {H : FP} {w : World} {a1 : nR} {a4 : Int} {v2 : Value} {r : List PKnown × List Bool × GErr} (c : SlI ou H a1.funcs v2) (hp : qN a1 a4 = some r) (hst : St E H [] w) :
    Fn Try.prog 19 #[.agg #[v2], .int .i64 a4] w fun v w' => ∃ A, qN.R r v A ∧ St E H A w' := by
 refine fb 26 [.tmp 4, .tmp 5, .tmp 6] Try.func19 rfl rfl rfl rfl rfl hst <| sr <| tb [v2] rfl rfl fun a => ta rfl <| ta rfl <| ta rfl <| nz <| sr <| tv (lA (ds := [v2]) oZ 0 rfl rfl rfl rfl) rfl <| tm rfl <| bE hp fun d hy1 hp => tc 0 [_] rfl c33 (fun _ => t8 (a1 := a1) (a4 := a4) (c.mono nw) hy1) rfl ?_
 rcases d with t | u
 · rintro _ _ ⟨e, f, rfl, rfl, b, hn2⟩
   exact tm rfl <| tv (xt rfl rfl) rfl <| tv (xt rfl rfl) rfl <| ta rfl <| ta rfl <| nz <| nv fun x y => sr <| tm rfl <| tv (pw pc b rfl) rfl <| nz <| TC.condT (bT hn2) <| sr <| tm rfl <| ta rfl <| ta rfl <| ta rfl <| nz <| nH <| W.new0 <| W.new0 <| rt hp [1, 0, 2] ⟨(.slice none 0 0), ([] : FP), (.slice none 0 0), ([] : FP), e, f, rfl, rfl, (SlO.nil 62), (SlO.nil 4), b⟩
 · rintro _ _ ⟨z, B, C, D, F, g, h, i, j, G, I, rfl, rfl, k, l, J, m, n, K⟩
   have L := SlI.mono (G' := (bx a 35 [v2] ++ H)) k (fun p hp => by simp only [List.flatten_cons, List.flatten_nil, List.append_nil, List.mem_append, or_assoc] at hp ⊢; exact hp)
   have M := SlI.mono (G' := (bx a 35 [v2] ++ H)) l (fun p hp => by simp only [List.flatten_cons, List.flatten_nil, List.append_nil, List.mem_append, or_assoc] at hp ⊢; exact hp)
   refine tm rfl <| tv (xt rfl rfl) rfl <| tv (xt rfl rfl) rfl <| ta rfl <| ta rfl <| nz <| nv fun N o => sr <| tm rfl <| tv (pw pc (ErO.nil : ErO 63 106 108 GErr.no .nilIface []) rfl) rfl <| nz <| cD rfl hp (fun q hp => ?_) fun q hp => ?_
   · exact sr <| tm rfl <| ta rfl <| ta rfl <| ta rfl <| nz <| nH <| W.new0 <| W.new0 <| W.new0 <| rt hp [2, 1, 0] ⟨(.slice none 0 0), ([] : FP), (.slice none 0 0), ([] : FP), .nilIface, ([] : FP), rfl, rfl, (SlO.nil 62), (SlO.nil 4), (ErO.nil : ErO 63 106 108 GErr.no .nilIface [])⟩
   · exact sk o rfl <| nv fun O s => cq mix Ag <| qv mv rfl <| qv (nE rfl) rfl <| qv (fa qo rfl) rfl <| qv (lb s57 0 rfl rfl rfl) rfl <| qv mv rfl <| qv (nE rfl) rfl <| qv (fa r6 rfl) rfl <| qv (lb s58 0 rfl rfl rfl) rfl <| qv sg rfl <| qv sg rfl <| qv sg rfl <| QL.nil <| tg s <| nH <| W.new0 <| rt hp [3, 4, 0] ⟨g, h, i, j, .nilIface, ([] : FP), rfl, rfl, m, n, (ErO.nil : ErO 63 106 108 GErr.no .nilIface [])⟩
/-! ### slices.Clone[[]int,int] -/
abbrev pJ.R (r : List Int) (v : Value) (A : List FP) : Prop := ∃ (w1 : Value) (a : FP), w1 = v ∧ A = [a] ∧ SlO 3 (nt .i64) r w1 a
def pJ (a1 : List Int) : Option (List Int) :=
  (cat ([] : List Int) a1).bind fun a =>
  some a
theorem pQ {E : World} {H : FP} {w : World} {a1 : List Int} {v2 : Value} {r : List Int} (b : SlI (nt .i64) H a1 v2) (hp : pJ a1 = some r) (hst : St E H [] w) :
    Fn Try.prog 28 #[v2] w fun v w' => ∃ A, pJ.R r v A ∧ St E H A w' := by
 refine fb 8 [.tmp 2] Try.func28 rfl rfl rfl rfl rfl hst <| sr <| ta rfl <| nz <| nv fun m d => sr <| tm rfl ?_
 obtain ⟨e, f, hv4⟩ := nilEq (P := Try.prog) Try.underlying25 b
 refine tv (tG rfl hv4) rfl <| nz ?_
 by_cases a : e = true
 · replace hp : ((cat ([] : List Int) a1).bind fun c => some c) = some r := hp
   have g := f a
   replace hp : (some ([] : List Int)) = some r := by rw [g] at hp; simpa [cat, LIM] using hp
   exact TC.condT (bbT a) <| sr <| ta rfl <| nz <| nH <| W.new0 <| rt hp [0] ⟨(.slice none 0 0), ([] : FP), rfl, rfl, (SlO.nil 3)⟩
 · exact TC.condF (bbF a) <| sk d rfl <| sr <| TL.bs0 u25 i3 (ltb rfl) fun h => tm rfl <| tpI (fInt .i64) u25 i3 (SlO.lit0 (k := (nt .i64)) h) b sH hp rfl rfl rfl rfl rfl rfl rfl fun c i j l hp => ta rfl <| nz <| nH <| rt hp [0] ⟨i, j, rfl, rfl, l⟩
end
section
/-! ### (*fettle/consts.finder).end -/
abbrev pR.R (r : PTerm) (v : Value) (A : List FP) : Prop := ∃ (w1 : Value) (a : FP), .agg #[.int .i64 r.kind, .int .i64 r.arg, w1] = v ∧ A = [a] ∧ SlO 3 (nt .i64) r.to w1 a
def pR.jn20  (a : Int) : Option PTerm :=
  some (⟨1, -1, [a]⟩ : PTerm)
def pR.jn5 (a2 : PFinder) (a : nA) (b : List Int) : Option PTerm :=
  (if ¬ a.term.kind = 2 then some true else (idx a2.known a.term.arg).bind fun c =>
  some (decide (¬ c.kind = 1))).bind fun d =>
  if d = true then
    some (⟨a.term.kind, a.term.arg, b⟩ : PTerm)
  else
    (idx a.term.to 0).bind fun e =>
    (idx a2.known a.term.arg).bind fun f =>
    if f.v = 0 then
      (idx a.term.to 1).bind fun g =>
      pR.jn20 g
    else
      pR.jn20 e
def pR (a2 : PFinder) (a17 : Int) : Option PTerm :=
  (idx a2.f.blocks a17).bind fun a =>
  (pJ a.term.to).bind fun b =>
  pR.jn5 a2 a b
set_option maxHeartbeats 4000000 in
theorem wS {E : World} {H : FP} {w : World} {a2 : PFinder} {a17 : Int} {h : Nat} {i : Nat} {u : Value} {y : Value} {z : Value} {B : Value} {C : Value} {D : Value} {r : PTerm} (q : n7 H h i [.int .i64 a2.f.params, .int .i64 a2.f.result, u, y, z, B, C, D, .bool a2.changed]) (aw : SlI (nt .i64) H a2.f.regs u) (N : SlI nY H a2.f.blocks y) (ax : SlI (kSl 3 (nt .i64)) H a2.ahead z) (F : SlI kKnown H a2.known B) (ay : SlI kBool H a2.entered C) (az : SlI (kSl 4 kBool) H a2.gone D) (hp : pR a2 a17 = some r) (hst : St E H [] w) :
    Fn Try.prog 34 #[.pointer (some ⟨h, i, none⟩), .int .i64 a17] w fun v w' => ∃ A, pR.R r v A ∧ St E H A w' := by
 refine Fn.bodyV (fn := Try.f34) (args := [.pointer (some ⟨h, i, none⟩), .int .i64 a17]) E H [] 62 Try.func34 rfl rfl (leb rfl) hst <| sr <| tl i46 rfl fun e => nz <| sr <| tm rfl <| tv (nE rfl) rfl <| tv (fa qn rfl) rfl <| tv (fa oa rfl) rfl <| tv (lr s39 sH q 3 rfl rfl) rfl <| tm rfl <| ti u39 i50 N hp rfl rfl rfl rfl ?_
 rintro a aA aB _ hp ⟨aC, aD, m, rfl, aE, aF, j⟩ O
 refine tv (fa oQ rfl) rfl <| tv (lR (ds := [.int .i64 a.term.kind, .int .i64 a.term.arg, m]) qB sH O 2 rfl rfl rfl) rfl <| tl i46 rfl fun o => tS 0 m46 rfl rfl [.int .i64 a.term.kind, .int .i64 a.term.arg, m] rfl (oc rfl (oc rfl (oc (j).one oc0))) rfl rfl <| nz <| nv fun P Q => ?_
 have G {I s l t S} (J : SlO 3 (nt .i64) I l t) (hp : pR.jn5 a2 a I = some r) : ∀ w, St E H [bx e 46 [.int .i64 0, .int .i64 0, .slice none 0 0], bx o 46 [.int .i64 a.term.kind, .int .i64 a.term.arg, m], bx s 46 [.int .i64 a.term.kind, .int .i64 a.term.arg, l], t] w → P (ovr S [(0, .pointer (some ⟨h, i, none⟩)), (4, .pointer (some ⟨e, 0, none⟩)), (5, .pointer (some ⟨o, 0, none⟩)), (6, .pointer (some ⟨s, 0, none⟩))]) w := by
  refine tg Q <| nv fun aG T => nv fun aH U => cq mix Ag <| qv (fa p6 rfl) rfl <| qv (lb s3 1 rfl rfl rfl) rfl <| qv (bne rfl rfl) rfl <| qv mv rfl <| bE hp fun V ht26 hp => QL.cut 11 fun W X => ?_
  have K {Y} : W (ovr Y [(39, .bool V), (0, .pointer (some ⟨h, i, none⟩)), (4, .pointer (some ⟨e, 0, none⟩)), (5, .pointer (some ⟨o, 0, none⟩)), (6, .pointer (some ⟨s, 0, none⟩))]) := by
   refine X _ <| QL.nil <| tg U <| cB rfl hp (fun Z hp => ?_) fun Z hp => ?_
   · refine sr <| tv (lA (ds := [.int .i64 a.term.kind, .int .i64 a.term.arg, l]) qB 2 rfl rfl rfl rfl) rfl <| tS 0 m46 rfl rfl [.int .i64 a.term.kind, .int .i64 a.term.arg, l] rfl (oc rfl (oc rfl (oc (J).one oc0))) rfl rfl <| nz <| nH ?_
     obtain rfl := Option.some.inj hp
     exact fun w hw => retC1 hw rfl rfl qB 0 rfl rfl ⟨l, t, rfl, rfl, J⟩ (hw.pickA [3] rfl)
   · refine sk T rfl <| sr <| tv (fa o8 rfl) rfl <| tv (lb s25 1 rfl rfl rfl) rfl <| ti u25 i3 j hp rfl rfl rfl rfl ?_
     rintro aI aJ aK _ hp rfl aa
     refine tv (lr s3 sH aa 0 rfl rfl) rfl <| ta rfl <| nz <| nv fun ab ac => ?_
     have L {g ad} (hp : pR.jn20 g = some r) : ∀ w, St E H [bx e 46 [.int .i64 0, .int .i64 0, .slice none 0 0]] w → ab (ovr ad [(4, .pointer (some ⟨e, 0, none⟩)), (7, .int .i64 g)]) w := by
      refine tg ac <| sr <| tm rfl <| tbs [(0, .int .i64 g)] [.int .i64 g] u25 i3 Ag rfl rfl rfl rfl fun p => tv (n9 (vs := [(0, .int .i64 1), (1, .int .i64 (-1)), (2, .slice (some ⟨p, 0, none⟩) 1 1)]) (ds := [.int .i64 1, .int .i64 (-1), .slice (some ⟨p, 0, none⟩) 1 1]) rfl (fun w => by kernel_rfl)) rfl <| tf 1 0 [_,_,_] rfl <| TL.litOwn (n := 1) (xs := [g]) (RepL.to (RepL.cons (k := (nt .i64)) (x := g) ⟨rfl, rfl⟩ RepL.nil) rfl) rfl rfl (ltb rfl) fun ae M => tS 1 m46 rfl rfl [.int .i64 1, .int .i64 (-1), (.slice (some ⟨p, 0, none⟩) 1 1)] rfl (oc rfl (oc rfl (oc (M).one oc0))) rfl rfl <| nz <| nH ?_
      obtain rfl := Option.some.inj hp
      exact fun w hw => retC1 hw rfl rfl qB 1 rfl rfl ⟨(.slice (some ⟨p, 0, none⟩) 1 1), ae, rfl, rfl, M⟩ (hw.pickA [0] rfl)
     refine nv fun aL af => cq mix Ag <| qv mv rfl <| qv (nE rfl) rfl <| qv (fa qo rfl) rfl <| qv (lr s57 sH q 5 rfl rfl) rfl <| qv (fa pp rfl) rfl <| qv (lb s3 1 rfl rfl rfl) rfl <| qi u57 i62 F hp rfl rfl rfl rfl ?_
     rintro aM aN aO _ hp rfl ag
     refine qv (fa rz rfl) rfl <| qv (lr s2 sH ag 1 rfl rfl) rfl <| qv (beq rfl rfl) rfl <| QL.nil <| tg af <| cD rfl hp (fun ah hp => ?_) fun ah hp => ?_
     · refine nF <| tv (fa o8 rfl) rfl <| tv (lb s25 1 rfl rfl rfl) rfl <| ti u25 i3 j hp rfl rfl rfl rfl ?_
       rintro aP aQ aR _ hp rfl ai
       exact tv (lr s3 sH ai 0 rfl rfl) rfl <| ta rfl <| nl <| jn [0] (L hp)
     · exact TC.skip <| jn [0] (L hp)
  refine ifE ht26 (fun b hp => ?_) fun b hp => ?_
  · refine qgn rfl (bT b) rfl rfl <| qgn rfl (bT b) rfl rfl <| qgn rfl (bT b) rfl rfl <| qgn rfl (bT b) rfl rfl <| qgn rfl (bT b) rfl rfl <| qgn rfl (bT b) rfl rfl <| qgn rfl (bT b) rfl rfl <| qgn rfl (bT b) rfl rfl <| qgn rfl (bT b) rfl rfl <| qgn rfl (bT b) rfl rfl <| qv (pT (bT b)) rfl ?_
    obtain rfl := Option.some.inj hp
    exact qj K rfl
  · refine qgy rfl (bF b) <| qv mv rfl <| qgy rfl (bF b) <| qv (nE rfl) rfl <| qgy rfl (bF b) <| qv (fa qo rfl) rfl <| qgy rfl (bF b) <| qv (lr s57 sH q 5 rfl rfl) rfl <| qgy rfl (bF b) <| qv (fa pp rfl) rfl <| qgy rfl (bF b) <| qv (lb s3 1 rfl rfl rfl) rfl <| qgy rfl (bF b) <| qi u57 i62 F hp rfl rfl rfl rfl ?_
    rintro aS aT aU _ hp rfl aj
    refine qgy rfl (bF b) <| qv (fa p7 rfl) rfl <| qgy rfl (bF b) <| qv (lr s3 sH aj 0 rfl rfl) rfl <| qgy rfl (bF b) <| qv (bne rfl rfl) rfl <| qv (pF (bF b)) rfl ?_
    obtain rfl := Option.some.inj hp
    exact qj K rfl
 refine ch mix [bx o 46 [.int .i64 a.term.kind, .int .i64 a.term.arg, m], bx e 46 [.int .i64 0, .int .i64 0, .slice none 0 0]] (nq 0 rfl (nq 1 rfl ns)) <| hv 0 rfl (fa p6 rfl) Ag rfl <| hv 1 rfl (lbG s3 0 rfl rfl rfl) Ag rfl <| hv 2 rfl (fa pp rfl) Ag rfl <| hv 3 rfl (lbG s3 0 rfl rfl rfl) Ag rfl <| hv 4 rfl (fa o8 rfl) Ag rfl <| hv 5 rfl (lbG s25 0 rfl rfl rfl) Ag rfl <| nT [6, 8] Ag (by simp) (nG ⟨_, rfl, fun aV ak => ?_⟩ (nG ⟨_, rfl, fun aW am => ?_⟩ nU))
 · refine bE hp fun an hy30 hp => tc 0 [_,_] rfl c28 (fun _ => pQ (a1 := a.term.to) (j.mono nw) hy30) rfl ?_
   rintro _ _ ⟨c, ao, rfl, rfl, d⟩
   exact hk ak (nq 1 rfl (nq 2 rfl ns)) <| hv 7 rfl (n9 (vs := [(0, .int .i64 a.term.kind), (1, .int .i64 a.term.arg), (2, c)]) (ds := [.int .i64 a.term.kind, .int .i64 a.term.arg, c]) rfl (fun w => by obtain ⟨_, _, rfl⟩ := (d).len; kernel_rfl)) Ag rfl <| ho 8 rfl Ag fun aX ap => tl i46 rfl fun aq => hk ap (nq 2 rfl (nq 3 rfl ns)) <| ho 9 rfl Ag fun aY ar => tS 0 m46 rfl rfl [.int .i64 a.term.kind, .int .i64 a.term.arg, c] rfl (oc rfl (oc rfl (oc (d).one oc0))) rfl rfl <| hk ar (nq 2 rfl (nq 3 rfl ns)) <| hz Ag <| jn [3, 2, 0, 1] (G d hp)
 · refine tl i46 rfl fun aq => hk am (nq 1 rfl (nq 2 rfl ns)) <| ho 6 rfl Ag fun aZ au => bE hp fun an hy40 hp => tc 0 [_,_,_] rfl c28 (fun _ => pQ (a1 := a.term.to) (j.mono nw) hy40) rfl ?_
   rintro _ _ ⟨c, ao, rfl, rfl, d⟩
   exact hk au (nq 2 rfl (nq 3 rfl ns)) <| hv 7 rfl (n9 (vs := [(0, .int .i64 a.term.kind), (1, .int .i64 a.term.arg), (2, c)]) (ds := [.int .i64 a.term.kind, .int .i64 a.term.arg, c]) rfl (fun w => by obtain ⟨_, _, rfl⟩ := (d).len; kernel_rfl)) Ag rfl <| ho 9 rfl Ag fun a0 av => tS 1 m46 rfl rfl [.int .i64 a.term.kind, .int .i64 a.term.arg, c] rfl (oc rfl (oc rfl (oc (d).one oc0))) rfl rfl <| hk av (nq 2 rfl (nq 3 rfl ns)) <| hz Ag <| jn [3, 2, 1, 0] (G d hp)
/-! ### (*fettle/consts.finder).constant -/
abbrev qO.R (r : nL × Bool) (v : Value) (A : List FP) : Prop := ∃ (w1 : Value) (a : FP), .tuple #[.agg #[.int .i64 r.1.op, .int .i64 r.1.dst, w1, .int .i64 r.1.imm, .int .i64 r.1.fn], .bool r.2] = v ∧ A = [a] ∧ SlO 3 (nt .i64) r.1.args w1 a
def qO (a2 : PFinder) (a17 : Int) : Option (nL × Bool) :=
  (idx a2.known a17).bind fun a =>
  some ((⟨1, a17, ([] : List Int), a.v, 0⟩ : nL), (decide (a.kind = 1)))
theorem ua {E : World} {H : FP} {w : World} {a2 : PFinder} {a17 : Int} {b : Nat} {c : Nat} {d : Value} {e : Value} {g : Value} {h : Value} {i : Value} {j : Value} {r : nL × Bool} (k : n7 H b c [.int .i64 a2.f.params, .int .i64 a2.f.result, d, e, g, h, i, j, .bool a2.changed]) (q : SlI (nt .i64) H a2.f.regs d) (s : SlI nY H a2.f.blocks e) (t : SlI (kSl 3 (nt .i64)) H a2.ahead g) (l : SlI kKnown H a2.known h) (u : SlI kBool H a2.entered i) (x : SlI (kSl 4 kBool) H a2.gone j) (hp : qO a2 a17 = some r) (hst : St E H [] w) :
    Fn Try.prog 56 #[.pointer (some ⟨b, c, none⟩), .int .i64 a17] w fun v w' => ∃ A, qO.R r v A ∧ St E H A w' := by
 refine Fn.bodyV (fn := Try.f56) (args := [.pointer (some ⟨b, c, none⟩), .int .i64 a17]) E H [] 21 Try.func56 rfl rfl (leb rfl) hst <| sr <| tl i52 rfl fun y => ta rfl <| nz <| sr <| tm rfl <| tv (nE rfl) rfl <| tv (fa qo rfl) rfl <| tv (lr s57 sH k 5 rfl rfl) rfl <| tm rfl <| ti u57 i62 l hp rfl rfl rfl rfl ?_
 rintro a z B _ hp rfl m
 refine tv (lR (ds := [.int .i64 a.kind, .int .i64 a.v]) px sH m 0 rfl rfl rfl) rfl <| tl i62 rfl fun n => tS 0 m62 rfl rfl [.int .i64 a.kind, .int .i64 a.v] rfl (oc rfl (oc rfl oc0)) rfl rfl <| nz <| nv fun C o => ch mix [bx n 62 [.int .i64 a.kind, .int .i64 a.v]] (nq 0 rfl ns) <| hv 0 rfl mv Ag rfl <| hv 1 rfl (fa rz rfl) Ag rfl <| hv 2 rfl (lbG s2 0 rfl rfl rfl) Ag rfl <| hv 3 rfl (n9 (vs := [(0, .int .i64 1), (1, .int .i64 a17), (3, .int .i64 a.v)]) (ds := [.int .i64 1, .int .i64 a17, .slice none 0 0, .int .i64 a.v, .int .i64 0]) rfl (fun w => by kernel_rfl)) Ag rfl <| hv 4 rfl (fa p7 rfl) Ag rfl <| hv 5 rfl (lbG s3 0 rfl rfl rfl) Ag rfl <| hv 6 rfl (beq rfl rfl) Ag rfl <| ho 7 rfl Ag fun D p => tS 1 m52 rfl rfl [.int .i64 1, .int .i64 a17, .slice none 0 0, .int .i64 a.v, .int .i64 0] rfl (oc rfl (oc rfl (oc rfl (oc rfl (oc rfl oc0))))) rfl rfl <| hk p (nq 0 rfl ns) <| hv 8 rfl sg Ag rfl <| hz Ag <| tg o <| nH <| W.new0 ?_
 obtain rfl := Option.some.inj hp
 exact fun w hw => retC2 hw rfl rfl rfl o5 2 rfl rfl ⟨(.slice none 0 0), ([] : FP), rfl, rfl, (SlO.nil 3)⟩ (hw.pickA [0] rfl)
/-! ### (*fettle/consts.finder).folded -/
abbrev ol.R (G : FP) (r : nA) (v : Value) (A : List FP) : Prop := ∃ (w1 : Value) (a : FP) (w2 : Value) (b : FP) (w3 : Value), .agg #[w1, w2, .int .i64 r.term.kind, .int .i64 r.term.arg, w3] = v ∧ A = [a, b] ∧ SlO 70 oS r.phis w1 a ∧ SlO 52 oN r.ins w2 b ∧ SlI (nt .i64) G r.term.to w3
def ol.nx19 (a : PTerm) (b : List PPhi) (c : List nL) : Option nA :=
  some (⟨b, c, (⟨a.kind, a.arg, a.to⟩ : PTerm)⟩ : nA)
def ol.jn29 (a : Int) (b : List nL) : Option (Ex (List nL) (List nL × Int)) :=
  some (.go (b, (w64 (a + 1))))
def ol.jn36 (b : List nL) (c : Int) (a : nL) : Option (Ex (List nL) (List nL × Int)) :=
  (pJ a.args).bind fun d =>
  (cat b [(⟨a.op, a.dst, d, a.imm, a.fn⟩ : nL)]).bind fun e =>
  ol.jn29 c e
def ol.bd19 (a2 : PFinder) (d : nA) (b : List nL) (a : Int) : Option (Ex (List nL) (List nL × Int)) :=
  if a < (len d.ins) then
    (idx d.ins a).bind fun c =>
    (qk c.op).bind fun f =>
    if f.2 = true then
      (qO a2 c.dst).bind fun e =>
      if e.2 = true then
        (cat b [e.1]).bind fun g =>
        ol.jn29 a g
      else
        ol.jn36 b a c
    else
      ol.jn36 b a c
  else
    some (.ret b)
def ol.nx10 (a2 : PFinder) (a : nA) (b : PTerm) (c : List PPhi) (d : List nL) : Option nA :=
  (whl (fun (s : (List nL × Int)) => ol.bd19 a2 a s.1 s.2) nD (d, 0)).bind fun z =>
  ol.nx19 b c z
def ol.jn55 (a : Int) (b : List PPhi) (c : List nL) : Option (Ex (List PPhi × List nL) (List PPhi × List nL × Int)) :=
  some (.go (b, c, (w64 (a + 1))))
def ol.nx70 (a : List PPhi) (b : List nL) (c : Int) (d : PPhi) (e : List Int) : Option (Ex (List PPhi × List nL) (List PPhi × List nL × Int)) :=
  (cat a [(⟨d.dst, e⟩ : PPhi)]).bind fun f =>
  ol.jn55 c f b
def ol.jn81 (a : Int) (b : List Int) : Option (Ex (List Int) (List Int × Int)) :=
  some (.go (b, (w64 (a + 1))))
def ol.bd70 (a2 : PFinder) (a17 : Int) (a18 : List PTerm) (c : PPhi) (b : List Int) (a : Int) : Option (Ex (List Int) (List Int × Int)) :=
  if a < (len c.args) then
    (idx c.args a).bind fun d =>
    (idx a2.ahead a17).bind fun e =>
    (idx e a).bind fun f =>
    (idx a18 f).bind fun g =>
    (qE g.to a17).bind fun h =>
    if h = true then
      (cat b [d]).bind fun i =>
      ol.jn81 a i
    else
      ol.jn81 a b
  else
    some (.ret b)
def ol.bd10 (a2 : PFinder) (a17 : Int) (a18 : List PTerm) (e : nA) (b : List PPhi) (c : List nL) (a : Int) : Option (Ex (List PPhi × List nL) (List PPhi × List nL × Int)) :=
  if a < (len e.phis) then
    (idx e.phis a).bind fun d =>
    (qO a2 d.dst).bind fun f =>
    if f.2 = true then
      (cat c [f.1]).bind fun g =>
      ol.jn55 a b g
    else
      (whl (fun (s : (List Int × Int)) => ol.bd70 a2 a17 a18 d s.1 s.2) nD (([] : List Int), 0)).bind fun z =>
      ol.nx70 b c a d z
  else
    some (.ret (b, c))
def ol (a2 : PFinder) (a17 : Int) (a18 : List PTerm) : Option nA :=
  (idx a2.f.blocks a17).bind fun a =>
  (idx a18 a17).bind fun b =>
  (whl (fun (s : (List PPhi × List nL × Int)) => ol.bd10 a2 a17 a18 a s.1 s.2.1 s.2.2) nD (([] : List PPhi), ([] : List nL), 0)).bind fun z =>
  ol.nx10 a2 a b z.1 z.2
set_option maxHeartbeats 4000000 in
theorem ub {E : World} {H G : FP} {w : World} {a2 : PFinder} {a17 : Int} {a18 : List PTerm} {n : Nat} {o : Nat} {aM : Value} {aN : Value} {aO : Value} {aP : Value} {aQ : Value} {aR : Value} {z : Value} {r : nA} (U : n7 H n o [.int .i64 a2.f.params, .int .i64 a2.f.result, aM, aN, aO, aP, aQ, aR, .bool a2.changed]) (aS : SlI (nt .i64) H a2.f.regs aM) (ae : SlI nY H a2.f.blocks aN) (af : SlI (kSl 3 (nt .i64)) H a2.ahead aO) (aT : SlI kKnown H a2.known aP) (aU : SlI kBool H a2.entered aQ) (aV : SlI (kSl 4 kBool) H a2.gone aR) (ag : ∀ p, p ∈ G → p ∈ H) (aW : SlI kTerm G a18 z) (hp : ol a2 a17 a18 = some r) (hst : St E H [] w) :
    Fn Try.prog 35 #[.pointer (some ⟨n, o, none⟩), .int .i64 a17, z] w fun v w' => ∃ A, ol.R G r v A ∧ St E H A w' := by
 refine Fn.bodyV (fn := Try.f35) (args := [.pointer (some ⟨n, o, none⟩), .int .i64 a17, z]) E H [] 137 Try.func35 rfl rfl (leb rfl) hst <| sr <| tl i50 rfl fun d => nz <| sr <| tm rfl <| tv (nE rfl) rfl <| tv (fa qn rfl) rfl <| tv (fa oa rfl) rfl <| tv (lr s39 sH U 3 rfl rfl) rfl <| tm rfl <| ti u39 i50 ae hp rfl rfl rfl rfl ?_
 rintro c cE cF _ hp ⟨m, t, B, rfl, ah, ai, bp⟩ bq
 refine tv (lR (ds := [m, t, .int .i64 c.term.kind, .int .i64 c.term.arg, B]) oY sH bq 0 rfl rfl rfl) rfl <| tl i50 rfl fun q => tS 0 m50 rfl rfl [m, t, .int .i64 c.term.kind, .int .i64 c.term.arg, B] rfl (oc (ah).one (oc (ai).one (oc rfl (oc rfl (oc (bp).one oc0))))) rfl rfl <| nz <| sr <| tm rfl <| tm rfl <| ti u84 i46 aW hp rfl rfl rfl rfl ?_
 rintro a cG cH _ hp ⟨h, rfl, aj⟩ br
 refine tv (lR (ds := [.int .i64 a.kind, .int .i64 a.arg, h]) qB (srcSub ag) br 0 rfl rfl rfl) rfl <| tv (n9 (vs := [(2, .agg #[.int .i64 a.kind, .int .i64 a.arg, h])]) (ds := [.slice none 0 0, .slice none 0 0, .int .i64 a.kind, .int .i64 a.arg, h]) rfl (fun w => by kernel_rfl)) rfl <| tl i50 rfl fun g => tS 0 m50 rfl rfl [.slice none 0 0, .slice none 0 0, .int .i64 a.kind, .int .i64 a.arg, h] rfl (oc rfl (oc rfl (oc rfl (oc rfl (oc (aj).one oc0))))) rfl rfl <| nz <| nv fun bs bt => sr <| tv (fa oE rfl) rfl <| tv (lb s47 1 rfl rfl rfl) rfl <| tv (ln u47 ah rfl) rfl <| tm rfl <| nz <| nB <| bE hp fun bu bv bw => ?_
 have bz {V ak y D al am bA} (aX : SlO 70 oS V y D) (bB : SlO 52 oN ak al am) (bC : (V, ak) = bu) : ∀ w, St E H [bx d 50 [.slice none 0 0, .slice none 0 0, .int .i64 0, .int .i64 0, .slice none 0 0], bx q 50 [m, t, .int .i64 c.term.kind, .int .i64 c.term.arg, B], bx g 50 [y, al, .int .i64 a.kind, .int .i64 a.arg, h], D, am] w → bs (ovr bA [(0, .pointer (some ⟨n, o, none⟩)), (6, .pointer (some ⟨d, 0, none⟩)), (7, .pointer (some ⟨q, 0, none⟩)), (8, .pointer (some ⟨g, 0, none⟩))]) w := by
  subst bC
  replace hp : ol.nx10 a2 c a V ak = some r := bw
  refine tg bt <| nv fun bD bF => sr <| tv (fa oB rfl) rfl <| tv (lb s48 1 rfl rfl rfl) rfl <| tv (ln u48 ai rfl) rfl <| tm rfl <| nz <| nB <| bE hp fun bG bH bI => ?_
  have bJ {an O ao bK} (aY : SlO 52 oN an O ao) (bL : an = bG) : ∀ w, St E H [bx d 50 [.slice none 0 0, .slice none 0 0, .int .i64 0, .int .i64 0, .slice none 0 0], bx g 50 [y, O, .int .i64 a.kind, .int .i64 a.arg, h], D, ao] w → bD (ovr bK [(6, .pointer (some ⟨d, 0, none⟩)), (8, .pointer (some ⟨g, 0, none⟩))]) w := by
   subst bL
   replace hp : ol.nx19 a V an = some r := bI
   refine tg bF <| sr <| tv (lA (ds := [y, O, .int .i64 a.kind, .int .i64 a.arg, h]) oY 1 rfl rfl rfl rfl) rfl <| tS 0 m50 rfl rfl [y, O, .int .i64 a.kind, .int .i64 a.arg, h] rfl (oc (aX).one (oc (aY).one (oc rfl (oc rfl (oc (aj).one oc0))))) rfl rfl <| nz <| nH ?_
   obtain rfl := Option.some.inj hp
   exact fun w hw => retC1 hw rfl rfl oY 0 rfl rfl ⟨y, D, O, ao, h, rfl, rfl, aX, aY, aj⟩ (hw.pickA [2, 3] rfl)
  refine lp bH [0, 2, 3, 4] rfl (fun s e L => ∃ P C X Y aZ, s = (P, C) ∧ SlO 52 oN P X Y ∧ e = ovr aZ [(0, .pointer (some ⟨n, o, none⟩)), (6, .pointer (some ⟨d, 0, none⟩)), (8, .pointer (some ⟨g, 0, none⟩)), (98, t), (99, .int .i64 (len c.ins)), (100, .int .i64 C)] ∧ L = [bx d 50 [.slice none 0 0, .slice none 0 0, .int .i64 0, .int .i64 0, .slice none 0 0], bx g 50 [y, X, .int .i64 a.kind, .int .i64 a.arg, h], D, Y]) ⟨_, _, al, am, _, rfl, bB, nC _ _ rfl, rfl⟩ ?_
  rintro _ _ _ ⟨P, C, X, Y, aZ, rfl, ap, rfl, rfl⟩ aq hp bM
  replace hp : ol.bd19 a2 c P C = some aq := hp
  refine sr <| tv (blt rfl rfl) rfl <| nz <| nv fun cI bN => cD rfl hp (fun bO hp => ?_) fun bO hp => ?_
  · refine sk bN rfl <| nv fun bP bQ => ?_
    have a0 {a3 ar au bR} (bS : SlO 52 oN a3 ar au) (hp : ol.jn29 C a3 = some aq) : ∀ w, St E H [bx d 50 [.slice none 0 0, .slice none 0 0, .int .i64 0, .int .i64 0, .slice none 0 0], bx g 50 [y, ar, .int .i64 a.kind, .int .i64 a.arg, h], D, au] w → bP (ovr bR [(0, .pointer (some ⟨n, o, none⟩)), (6, .pointer (some ⟨d, 0, none⟩)), (8, .pointer (some ⟨g, 0, none⟩)), (98, t), (99, .int .i64 (len c.ins)), (100, .int .i64 C)]) w := by
     exact tg bQ <| nF <| tv (bad rfl rfl) rfl <| tm rfl <| nl <| gk hp [0, 1, 2, 3] ⟨_, _, ar, au, _, rfl, bS, nC _ _ rfl, rfl⟩
    refine nB <| sr <| ti u48 i52 ai hp rfl rfl rfl rfl ?_
    rintro b cJ cK _ hp ⟨av, rfl, a5⟩ bT
    refine tv (lR (ds := [.int .i64 b.op, .int .i64 b.dst, av, .int .i64 b.imm, .int .i64 b.fn]) o5 sH bT 0 rfl rfl rfl) rfl <| tl i52 rfl fun a6 => tS 0 m52 rfl rfl [.int .i64 b.op, .int .i64 b.dst, av, .int .i64 b.imm, .int .i64 b.fn] rfl (oc rfl (oc rfl (oc (a5).one (oc rfl (oc rfl oc0))))) rfl rfl <| nz <| sr <| tv (fa qb rfl) rfl <| tv (lb s3 0 rfl rfl rfl) rfl <| bE hp fun cL hy31 hp => tc 0 [_,_,_,_,_] rfl c57 (fun _ => sc (a1 := b.op) hy31) rfl ?_
    rintro _ _ ⟨rfl, rfl⟩
    refine tm rfl <| tv (xt rfl rfl) rfl <| tv (xt rfl rfl) rfl <| ta rfl <| ta rfl <| nz <| nv fun bU bV => ?_
    have a7 {bW} (hp : ol.jn36 P C b = some aq) : ∀ w, St E H [bx d 50 [.slice none 0 0, .slice none 0 0, .int .i64 0, .int .i64 0, .slice none 0 0], bx g 50 [y, X, .int .i64 a.kind, .int .i64 a.arg, h], D, Y, bx a6 52 [.int .i64 b.op, .int .i64 b.dst, av, .int .i64 b.imm, .int .i64 b.fn]] w → bU (ovr bW [(0, .pointer (some ⟨n, o, none⟩)), (6, .pointer (some ⟨d, 0, none⟩)), (8, .pointer (some ⟨g, 0, none⟩)), (17, .pointer (some ⟨a6, 0, none⟩)), (98, t), (99, .int .i64 (len c.ins)), (100, .int .i64 C)]) w := by
     refine tg bV <| sr <| tv (fa o6 rfl) rfl <| tv (lb s25 4 rfl rfl rfl) rfl <| bE hp fun bX hy37 hp => tc 0 [_,_,_,_,_] rfl c28 (fun _ => pQ (a1 := b.args) (a5.mono nw) hy37) rfl ?_
     rintro _ _ ⟨aw, bY, rfl, rfl, a8⟩
     exact tv (fa o6 rfl) rfl <| ts 5 m25 rfl rfl a8.o1 rfl <| nz <| nF <| tv (fa oB rfl) rfl <| tv (lb s48 2 rfl rfl rfl) rfl <| tv (lA (ds := [.int .i64 b.op, .int .i64 b.dst, aw, .int .i64 b.imm, .int .i64 b.fn]) o5 5 rfl rfl rfl rfl) rfl <| tbs [(0, .agg #[.int .i64 b.op, .int .i64 b.dst, aw, .int .i64 b.imm, .int .i64 b.fn])] [.int .i64 b.op, .int .i64 b.dst, aw, .int .i64 b.imm, .int .i64 b.fn] u48 i52 Ag rfl rfl rfl rfl fun cM => tp [5, 0, 1, 2, 3, 4, 6] [_,_,_,_,_,_,_] rfl rfl <| tp2 u48 i52 ap hp (RepL.to (G' := bY) (RepL.cons (k := oN) (x := (⟨b.op, b.dst, bX, b.imm, b.fn⟩ : nL)) ⟨_, _, rfl, rfl, a8⟩ RepL.nil) (by simp)) rfl rfl rfl rfl rfl rfl rfl rfl rfl fun cN cO cP a9 hp => tv (fa oB rfl) rfl <| ts 2 m48 rfl rfl a9.o1 rfl <| nl <| jn [1, 2, 3, 0] (a0 a9 hp)
    refine sr <| tm rfl <| nz <| cB rfl hp (fun bZ hp => ?_) fun bZ hp => ?_
    · refine sr <| tm rfl <| tv (fa pd rfl) rfl <| tv (lb s3 0 rfl rfl rfl) rfl <| bE hp fun i hy41 hp => tc 0 [_,_,_,_,_] rfl c56 (fun _ => ua (a2 := a2) (a17 := b.dst) (U.mono nw) (aS.mono nw) (ae.mono nw) (af.mono nw) (aT.mono nw) (aU.mono nw) (aV.mono nw) hy41) rfl ?_
      rintro _ _ ⟨Z, b0, rfl, rfl, ba⟩
      refine tm rfl <| tv (xt rfl rfl) rfl <| tv (xt rfl rfl) rfl <| tl i52 rfl fun cQ => tS 0 m52 rfl rfl [.int .i64 i.1.op, .int .i64 i.1.dst, Z, .int .i64 i.1.imm, .int .i64 i.1.fn] rfl (oc rfl (oc rfl (oc (ba).one (oc rfl (oc rfl oc0))))) rfl rfl <| ta rfl <| nz <| sr <| tm rfl <| nz <| cB rfl hp (fun b1 hp => ?_) fun b1 hp => ?_
      · exact sr <| tv (fa oB rfl) rfl <| tv (lb s48 4 rfl rfl rfl) rfl <| tv (lA (ds := [.int .i64 i.1.op, .int .i64 i.1.dst, Z, .int .i64 i.1.imm, .int .i64 i.1.fn]) o5 0 rfl rfl rfl rfl) rfl <| tbs [(0, .agg #[.int .i64 i.1.op, .int .i64 i.1.dst, Z, .int .i64 i.1.imm, .int .i64 i.1.fn])] [.int .i64 i.1.op, .int .i64 i.1.dst, Z, .int .i64 i.1.imm, .int .i64 i.1.fn] u48 i52 Ag rfl rfl rfl rfl fun cR => tp [7, 0, 2, 1, 3, 4, 5, 6] [_,_,_,_,_,_,_,_] rfl rfl <| tp2 u48 i52 ap hp (RepL.to (G' := b0) (RepL.cons (k := oN) (x := i.1) ⟨_, _, rfl, rfl, ba⟩ RepL.nil) (by simp)) rfl rfl rfl rfl rfl rfl rfl rfl rfl fun cS cT cU bb hp => tv (fa oB rfl) rfl <| ts 4 m48 rfl rfl bb.o1 rfl <| nz <| nN <| jn [3, 4, 5, 0] (a0 bb hp)
      · exact TC.skip <| jn [3, 4, 5, 6, 2] (a7 hp)
    · exact TC.skip <| jn [1, 2, 3, 4, 0] (a7 hp)
  · exact nN <| jn [0, 1, 2, 3] (bJ ap (nK hp bM))
 refine W.new0 <| W.new0 <| lp bv [4, 3, 2, 1, 0] rfl (fun s e L => ∃ Q S u F I J K bc, s = (Q, S, u) ∧ SlO 70 oS Q F I ∧ SlO 52 oN S J K ∧ e = ovr bc [(0, .pointer (some ⟨n, o, none⟩)), (1, .int .i64 a17), (2, z), (6, .pointer (some ⟨d, 0, none⟩)), (7, .pointer (some ⟨q, 0, none⟩)), (8, .pointer (some ⟨g, 0, none⟩)), (36, m), (37, .int .i64 (len c.phis)), (38, .int .i64 u)] ∧ L = [bx d 50 [.slice none 0 0, .slice none 0 0, .int .i64 0, .int .i64 0, .slice none 0 0], bx q 50 [m, t, .int .i64 c.term.kind, .int .i64 c.term.arg, B], bx g 50 [F, J, .int .i64 a.kind, .int .i64 a.arg, h], I, K]) ⟨_, _, _, (.slice none 0 0), ([] : FP), (.slice none 0 0), ([] : FP), _, rfl, (SlO.nil 70), (SlO.nil 52), nC _ _ rfl, rfl⟩ ?_
 rintro _ _ _ ⟨Q, S, u, F, I, J, K, bc, rfl, ax, ay, rfl, rfl⟩ az hp b2
 replace hp : ol.bd10 a2 a17 a18 c Q S u = some az := hp
 refine sr <| tv (blt rfl rfl) rfl <| nz <| nv fun cV b3 => cD rfl hp (fun b4 hp => ?_) fun b4 hp => ?_
 · refine sk b3 rfl <| nv fun b5 b6 => ?_
   have be {bf bg aA aB aC aD b7} (b8 : SlO 70 oS bf aA aB) (b9 : SlO 52 oN bg aC aD) (hp : ol.jn55 u bf bg = some az) : ∀ w, St E H [bx d 50 [.slice none 0 0, .slice none 0 0, .int .i64 0, .int .i64 0, .slice none 0 0], bx q 50 [m, t, .int .i64 c.term.kind, .int .i64 c.term.arg, B], bx g 50 [aA, aC, .int .i64 a.kind, .int .i64 a.arg, h], aB, aD] w → b5 (ovr b7 [(0, .pointer (some ⟨n, o, none⟩)), (1, .int .i64 a17), (2, z), (6, .pointer (some ⟨d, 0, none⟩)), (7, .pointer (some ⟨q, 0, none⟩)), (8, .pointer (some ⟨g, 0, none⟩)), (36, m), (37, .int .i64 (len c.phis)), (38, .int .i64 u)]) w := by
    exact tg b6 <| nF <| tv (bad rfl rfl) rfl <| tm rfl <| nl <| gk hp [0, 1, 2, 3, 4] ⟨_, _, _, aA, aB, aC, aD, _, rfl, b8, b9, nC _ _ rfl, rfl⟩
   refine nB <| sr <| ti u47 i70 ah hp rfl rfl rfl rfl ?_
   rintro j cW cX _ hp ⟨aa, rfl, aE⟩ ca
   refine tv (lR (ds := [.int .i64 j.dst, aa]) p8 sH ca 0 rfl rfl rfl) rfl <| tl i70 rfl fun cY => tS 0 m70 rfl rfl [.int .i64 j.dst, aa] rfl (oc rfl (oc (aE).one oc0)) rfl rfl <| nz <| nv fun cZ cb => sr <| tm rfl <| tv (fa qd rfl) rfl <| tv (lb s3 0 rfl rfl rfl) rfl <| bE hp fun l hy59 hp => tc 0 [_,_,_,_,_,_] rfl c56 (fun _ => ua (a2 := a2) (a17 := j.dst) (U.mono nw) (aS.mono nw) (ae.mono nw) (af.mono nw) (aT.mono nw) (aU.mono nw) (aV.mono nw) hy59) rfl ?_
   rintro _ _ ⟨ab, cc, rfl, rfl, bh⟩
   refine tm rfl <| tv (xt rfl rfl) rfl <| tv (xt rfl rfl) rfl <| tl i52 rfl fun c0 => tS 0 m52 rfl rfl [.int .i64 l.1.op, .int .i64 l.1.dst, ab, .int .i64 l.1.imm, .int .i64 l.1.fn] rfl (oc rfl (oc rfl (oc (bh).one (oc rfl (oc rfl oc0))))) rfl rfl <| ta rfl <| nz <| sr <| tm rfl <| nz <| cB rfl hp (fun cd hp => ?_) fun cd hp => ?_
   · exact sr <| tv (fa oB rfl) rfl <| tv (lb s48 5 rfl rfl rfl) rfl <| tv (lA (ds := [.int .i64 l.1.op, .int .i64 l.1.dst, ab, .int .i64 l.1.imm, .int .i64 l.1.fn]) o5 0 rfl rfl rfl rfl) rfl <| tbs [(0, .agg #[.int .i64 l.1.op, .int .i64 l.1.dst, ab, .int .i64 l.1.imm, .int .i64 l.1.fn])] [.int .i64 l.1.op, .int .i64 l.1.dst, ab, .int .i64 l.1.imm, .int .i64 l.1.fn] u48 i52 Ag rfl rfl rfl rfl fun c1 => tp [8, 0, 2, 1, 3, 4, 5, 6, 7] [_,_,_,_,_,_,_,_,_] rfl rfl <| tp2 u48 i52 ay hp (RepL.to (G' := cc) (RepL.cons (k := oN) (x := l.1) ⟨_, _, rfl, rfl, bh⟩ RepL.nil) (by simp)) rfl rfl rfl rfl rfl rfl rfl rfl rfl fun c2 c3 c4 bi hp => tv (fa oB rfl) rfl <| ts 5 m48 rfl rfl bi.o1 rfl <| nz <| nN <| jn [3, 4, 5, 6, 0] (be ax bi hp)
   · refine sk cb rfl <| sr <| tv (fa qd rfl) rfl <| tv (lb s3 2 rfl rfl rfl) rfl <| tv (n9 (vs := [(0, .int .i64 j.dst)]) (ds := [.int .i64 j.dst, .slice none 0 0]) rfl (fun w => by kernel_rfl)) rfl <| tl i70 rfl fun M => tS 0 m70 rfl rfl [.int .i64 j.dst, .slice none 0 0] rfl (oc rfl (oc rfl oc0)) rfl rfl <| nz <| nv fun ce cf => sr <| tv (fa py rfl) rfl <| tv (lb s25 3 rfl rfl rfl) rfl <| tv (ln u25 aE rfl) rfl <| tm rfl <| nz <| nB <| bE hp fun cg ch ci => ?_
     have cj {ac T aF ck} (cl : SlO 3 (nt .i64) ac T aF) (cm : ac = cg) : ∀ w, St E H [bx d 50 [.slice none 0 0, .slice none 0 0, .int .i64 0, .int .i64 0, .slice none 0 0], bx q 50 [m, t, .int .i64 c.term.kind, .int .i64 c.term.arg, B], bx g 50 [F, J, .int .i64 a.kind, .int .i64 a.arg, h], I, K, bx M 70 [.int .i64 j.dst, T], aF] w → ce (ovr ck [(0, .pointer (some ⟨n, o, none⟩)), (1, .int .i64 a17), (2, z), (6, .pointer (some ⟨d, 0, none⟩)), (7, .pointer (some ⟨q, 0, none⟩)), (8, .pointer (some ⟨g, 0, none⟩)), (13, .pointer (some ⟨M, 0, none⟩)), (36, m), (37, .int .i64 (len c.phis)), (38, .int .i64 u)]) w := by
      subst cm
      replace hp : ol.nx70 Q S u j ac = some az := ci
      exact tg cf <| nF <| tv (fa oE rfl) rfl <| tv (lb s47 2 rfl rfl rfl) rfl <| tv (lA (ds := [.int .i64 j.dst, T]) p8 5 rfl rfl rfl rfl) rfl <| tbs [(0, .agg #[.int .i64 j.dst, T])] [.int .i64 j.dst, T] u47 i70 Ag rfl rfl rfl rfl fun c5 => tp [4, 0, 7, 1, 2, 3, 5, 6] [_,_,_,_,_,_,_,_] rfl rfl <| tp2 u47 i70 ax hp (RepL.to (G' := aF) (RepL.cons (k := oS) (x := (⟨j.dst, ac⟩ : PPhi)) ⟨_, _, rfl, rfl, cl⟩ RepL.nil) (by simp)) rfl rfl rfl rfl rfl rfl rfl rfl rfl fun c6 c7 c8 bj hp => tv (fa oE rfl) rfl <| ts 3 m47 rfl rfl bj.o1 rfl <| nl <| jn [1, 2, 3, 0, 4] (be bj ay hp)
     refine W.new0 <| lp ch [5, 6, 7, 8, 9, 1, 0] rfl (fun s e L => ∃ ad N aG aH bk, s = (ad, N) ∧ SlO 3 (nt .i64) ad aG aH ∧ e = ovr bk [(0, .pointer (some ⟨n, o, none⟩)), (1, .int .i64 a17), (2, z), (6, .pointer (some ⟨d, 0, none⟩)), (7, .pointer (some ⟨q, 0, none⟩)), (8, .pointer (some ⟨g, 0, none⟩)), (13, .pointer (some ⟨M, 0, none⟩)), (36, m), (37, .int .i64 (len c.phis)), (38, .int .i64 u), (60, aa), (61, .int .i64 (len j.args)), (62, .int .i64 N)] ∧ L = [bx d 50 [.slice none 0 0, .slice none 0 0, .int .i64 0, .int .i64 0, .slice none 0 0], bx q 50 [m, t, .int .i64 c.term.kind, .int .i64 c.term.arg, B], bx g 50 [F, J, .int .i64 a.kind, .int .i64 a.arg, h], I, K, bx M 70 [.int .i64 j.dst, aG], aH]) ⟨_, _, (.slice none 0 0), ([] : FP), _, rfl, (SlO.nil 3), nC _ _ rfl, rfl⟩ ?_
     rintro _ _ _ ⟨ad, N, aG, aH, bk, rfl, aI, rfl, rfl⟩ bl hp cn
     replace hp : ol.bd70 a2 a17 a18 j ad N = some bl := hp
     refine sr <| tv (blt rfl rfl) rfl <| nz <| nv fun c9 co => cD rfl hp (fun cp hp => ?_) fun cp hp => ?_
     · refine sk co rfl <| nv fun cq cr => ?_
       have bm {bn aJ aK cs} (ct : SlO 3 (nt .i64) bn aJ aK) (hp : ol.jn81 N bn = some bl) : ∀ w, St E H [bx d 50 [.slice none 0 0, .slice none 0 0, .int .i64 0, .int .i64 0, .slice none 0 0], bx q 50 [m, t, .int .i64 c.term.kind, .int .i64 c.term.arg, B], bx g 50 [F, J, .int .i64 a.kind, .int .i64 a.arg, h], I, K, bx M 70 [.int .i64 j.dst, aJ], aK] w → cq (ovr cs [(0, .pointer (some ⟨n, o, none⟩)), (1, .int .i64 a17), (2, z), (6, .pointer (some ⟨d, 0, none⟩)), (7, .pointer (some ⟨q, 0, none⟩)), (8, .pointer (some ⟨g, 0, none⟩)), (13, .pointer (some ⟨M, 0, none⟩)), (36, m), (37, .int .i64 (len c.phis)), (38, .int .i64 u), (60, aa), (61, .int .i64 (len j.args)), (62, .int .i64 N)]) w := by
        exact tg cr <| nF <| tv (bad rfl rfl) rfl <| tm rfl <| nl <| gk hp [0, 1, 2, 3, 4, 5, 6] ⟨_, _, aJ, aK, _, rfl, ct, nC _ _ rfl, rfl⟩
       refine nB <| sr <| tm rfl <| ti u25 i3 aE hp rfl rfl rfl rfl ?_
       rintro aL da db _ hp rfl cu
       refine tv (lr s3 sH cu 0 rfl rfl) rfl <| ta rfl <| ta rfl <| nz <| sr <| tm rfl <| tm rfl <| tv (nE rfl) rfl <| tv (fa tT rfl) rfl <| tv (lr s73 sH U 4 rfl rfl) rfl <| tm rfl <| ti u73 i25 af hp rfl rfl rfl rfl ?_
       rintro dc dd de _ hp ⟨df, rfl, cv⟩ cw
       refine tv (lr s25 sH cw 0 rfl rfl) rfl <| tm rfl <| ti u25 i3 cv hp rfl rfl rfl rfl ?_
       rintro dg dh di _ hp rfl cx
       refine tv (lr s3 sH cx 0 rfl rfl) rfl <| ti u84 i46 aW hp rfl rfl rfl rfl ?_
       rintro cy dj dk _ hp ⟨dl, rfl, cz⟩ cA
       refine tv (fa o8 rfl) rfl <| tv (lr s25 (srcSub ag) cA 2 rfl rfl) rfl <| tm rfl <| bE hp fun dm hy86 hp => tc 0 [_,_,_,_,_,_,_] rfl c52 (fun _ => sJ (a1 := cy.to) (a4 := a17) (cz.mono (fun p hp => nw p (ag p hp))) hy86) rfl ?_
       rintro _ _ ⟨rfl, rfl⟩
       refine nz <| cB rfl hp (fun cC hp => ?_) fun cC hp => ?_
       · exact nF <| tv (fa py rfl) rfl <| tv (lb s25 5 rfl rfl rfl) rfl <| tm rfl <| tbs [(0, .int .i64 aL)] [.int .i64 aL] u25 i3 Ag rfl rfl rfl rfl fun dn => tp [7, 0, 1, 2, 3, 4, 5, 6] [_,_,_,_,_,_,_,_] rfl rfl <| tf 2 0 [_,_,_,_,_,_,_,_,_] rfl <| tp2 u25 i3 aI hp (RepL.to (RepL.cons (k := (nt .i64)) (x := aL) ⟨rfl, rfl⟩ RepL.nil) rfl) rfl rfl rfl rfl rfl rfl rfl rfl rfl fun dp dq dr bo hp => tv (fa py rfl) rfl <| ts 6 m25 rfl rfl bo.o1 rfl <| nl <| jn [1, 2, 3, 4, 5, 6, 0] (bm bo hp)
       · exact TC.skip <| jn [0, 1, 2, 3, 4, 5, 6] (bm aI hp)
     · exact nN <| jn [0, 1, 2, 3, 4, 5, 6] (cj aI (nK hp cn))
 · exact nN <| jn [0, 1, 2, 3, 4] (bz ax ay (nK hp b2))
/-! ### fettle/graph.ahead -/
abbrev o4.R (r : List (List Int)) (v : Value) (A : List FP) : Prop := ∃ (w1 : Value) (a : FP), w1 = v ∧ A = [a] ∧ SlO 25 (kSl 3 (nt .i64)) r w1 a
def o4.nx9  (a : List (List Int)) : Option (List (List Int)) :=
  some a
def o4.nx24 (a : Int) (b : List (List Int)) : Option (Ex (List (List Int)) (List (List Int) × Int)) :=
  some (.go (b, (w64 (a + 1))))
def o4.bd24 (e : Int) (c : List Int) (a : List (List Int)) (b : Int) : Option (Ex (List (List Int)) (List (List Int) × Int)) :=
  if b < (len c) then
    (idx c b).bind fun d =>
    (idx a d).bind fun f =>
    (cat f [e]).bind fun g =>
    some (.go ((a.set (d).toNat g), (w64 (b + 1))))
  else
    some (.ret a)
def o4.bd9 (a1 : List (List Int)) (b : List (List Int)) (a : Int) : Option (Ex (List (List Int)) (List (List Int) × Int)) :=
  if a < (len a1) then
    (idx a1 a).bind fun c =>
    (whl (fun (s : (List (List Int) × Int)) => o4.bd24 a c s.1 s.2) nD (b, 0)).bind fun z =>
    o4.nx24 a z
  else
    some (.ret b)
def o4 (a1 : List (List Int)) : Option (List (List Int)) :=
  (mkl (len a1) ([] : List Int)).bind fun a =>
  (whl (fun (s : (List (List Int) × Int)) => o4.bd9 a1 s.1 s.2) nD (a, 0)).bind fun z =>
  o4.nx9 z
set_option maxHeartbeats 4000000 in
theorem wT {E : World} {H : FP} {w : World} {a1 : List (List Int)} {v2 : Value} {r : List (List Int)} (j : SlI (kSl 3 (nt .i64)) H a1 v2) (hp : o4 a1 = some r) (hst : St E H [] w) :
    Fn Try.prog 59 #[v2] w fun v w' => ∃ A, o4.R r v A ∧ St E H A w' := by
 refine fb 37 [.tmp 2] Try.func59 rfl rfl rfl rfl rfl hst <| sr <| ta rfl <| nz <| sr <| tm rfl <| tv (ln u73 j rfl) rfl <| tk (k := (kSl 3 (nt .i64))) u73 i25 hp ⟨_, rfl, SlO.nil 3⟩ rfl rfl rfl rfl rfl rfl fun aw c G I hp => ta rfl <| nz <| nv fun J K => sr <| tm rfl <| tv (ln u73 j rfl) rfl <| tm rfl <| nz <| nB <| bE hp fun M N O => ?_
 have P {l m Q} (S : SlO 25 (kSl 3 (nt .i64)) l c m) (T : l = M) : ∀ w, St E H [m] w → J (ovr Q [(3, c)]) w := by
  subst T
  replace hp : o4.nx9 l = some r := O
  exact tg K <| sr <| tm rfl <| ta rfl <| nz <| nH <| rt hp [0] ⟨c, m, rfl, rfl, S⟩
 refine lp N [0] rfl (fun s e L => ∃ d b f t, s = (d, b) ∧ SlO 25 (kSl 3 (nt .i64)) d c f ∧ e = ovr t [(3, c), (11, v2), (12, .int .i64 (len a1)), (13, .int .i64 b)] ∧ L = [f]) ⟨_, _, G, _, rfl, I, nC _ _ rfl, rfl⟩ ?_
 rintro _ _ _ ⟨d, b, f, t, rfl, u, rfl, rfl⟩ y hp U
 replace hp : o4.bd9 a1 d b = some y := hp
 refine sr <| tv (blt rfl rfl) rfl <| nz <| nv fun ax V => cD rfl hp (fun X hp => ?_) fun X hp => ?_
 · refine sk V rfl <| nv fun Y Z => nB <| sr <| tm rfl <| ti u73 i25 j hp rfl rfl rfl rfl ?_
   rintro z ay az _ hp ⟨aa, rfl, B⟩ ab
   refine tv (lr s25 sH ab 0 rfl rfl) rfl <| ta rfl <| ta rfl <| nz <| sr <| tm rfl <| tv (ln u25 B rfl) rfl <| tm rfl <| nz <| nB <| bE hp fun ac ad ae => ?_
   have af {n o ag} (ah : SlO 25 (kSl 3 (nt .i64)) n c o) (ai : n = ac) : ∀ w, St E H [o] w → Y (ovr ag [(3, c), (11, v2), (12, .int .i64 (len a1)), (13, .int .i64 b)]) w := by
    subst ai
    replace hp : o4.nx24 b n = some y := ae
    exact tg Z <| nF <| tv (bad rfl rfl) rfl <| tm rfl <| nl <| gk hp [0] ⟨_, _, o, _, rfl, ah, nC _ _ rfl, rfl⟩
   refine lp ad [0] rfl (fun s e L => ∃ g h p C, s = (g, h) ∧ SlO 25 (kSl 3 (nt .i64)) g c p ∧ e = ovr C [(3, c), (4, .int .i64 b), (11, v2), (12, .int .i64 (len a1)), (13, .int .i64 b), (18, aa), (19, .int .i64 (len z)), (20, .int .i64 h)] ∧ L = [p]) ⟨_, _, f, _, rfl, u, nC _ _ rfl, rfl⟩ ?_
   rintro _ _ _ ⟨g, h, p, C, rfl, D, rfl, rfl⟩ aj hp ak
   replace hp : o4.bd24 b z g h = some aj := hp
   refine sr <| tv (blt rfl rfl) rfl <| nz <| nv fun aA al => cD rfl hp (fun am hp => ?_) fun am hp => ?_
   · refine sk al rfl <| nv fun aB an => nB <| sr <| ti u25 i3 B hp rfl rfl rfl rfl ?_
     rintro aC aD aE _ hp rfl ao
     refine tv (lr s3 sH ao 0 rfl rfl) rfl <| ta rfl <| nz <| nF <| tm rfl <| tm rfl <| tm rfl <| tm rfl <| bE hp fun aF q hp => TL.open_ D q ?_
     rintro aG _ aH aI i ⟨aJ, rfl, ap⟩
     exact tv (pa u73 i25 rfl rfl (oM q).1 i) rfl <| tv (lr s25 (Src.at_ 0 rfl) (Hole.cells i) 0 rfl rfl) rfl <| tm rfl <| tbs [(0, .int .i64 b)] [.int .i64 b] u25 i3 Ag rfl rfl rfl rfl fun aK => tp [2, 0, 1] [_,_,_] rfl rfl <| tf 2 0 [_,_,_,_] rfl <| tp2 u25 i3 ap hp (RepL.to (RepL.cons (k := (nt .i64)) (x := b) ⟨rfl, rfl⟩ RepL.nil) rfl) rfl rfl rfl rfl rfl rfl rfl rfl rfl fun aq aL aM F hp => tv (pa u73 i25 rfl rfl (oM q).1 i) rfl <| tp [1, 0] [_,_] rfl rfl <| tsH i m25 0 rfl F.o1 rfl fun aN ar => nl <| tg an <| nF <| tv (bad rfl rfl) rfl <| tm rfl <| nl <| W.shut (a := aq) ar ⟨_, rfl, F⟩ fun au av => gk hp [0] ⟨_, _, au, _, rfl, av, nC _ _ rfl, rfl⟩
   · exact nN <| jn [0] (af D (nK hp ak))
 · exact nN <| jn [0] (P u (nK hp U))
/-! ### fettle/graph.kept -/
abbrev pm.R (r : List Int) (v : Value) (A : List FP) : Prop := ∃ (w1 : Value) (a : FP), w1 = v ∧ A = [a] ∧ SlO 3 (nt .i64) r w1 a
def pm.nx13  (a : List Int) : Option (List Int) :=
  some a
def pm.jn23 (a : Int) (b : List Int) : Option (Ex (List Int) (List Int × Int)) :=
  some (.go (b, (w64 (a + 1))))
def pm.bd13 (a1 : List Int) (a4 : List Int) (a7 : List Bool) (b : List Int) (a : Int) : Option (Ex (List Int) (List Int × Int)) :=
  if a < (len a1) then
    (idx a1 a).bind fun c =>
    (idx a4 a).bind fun d =>
    (idx a7 d).bind fun e =>
    if e = true then
      (cat b [c]).bind fun f =>
      pm.jn23 a f
    else
      pm.jn23 a b
  else
    some (.ret b)
def pm (a1 : List Int) (a4 : List Int) (a7 : List Bool) : Option (List Int) :=
  if ¬ (len a1) = (len a4) then
    (pJ a1).bind fun a =>
    some a
  else
    (whl (fun (s : (List Int × Int)) => pm.bd13 a1 a4 a7 s.1 s.2) nD (([] : List Int), 0)).bind fun z =>
    pm.nx13 z
theorem uc {E : World} {H : FP} {w : World} {a1 : List Int} {a4 : List Int} {a7 : List Bool} {v2 : Value} {b : Value} {c : Value} {r : List Int} (d : SlI (nt .i64) H a1 v2) (q : SlI (nt .i64) H a4 b) (B : SlI kBool H a7 c) (hp : pm a1 a4 a7 = some r) (hst : St E H [] w) :
    Fn Try.prog 60 #[v2, b, c] w fun v w' => ∃ A, pm.R r v A ∧ St E H A w' := by
 refine fb 37 [.tmp 6] Try.func60 rfl rfl rfl rfl rfl hst <| sr <| ta rfl <| nz <| nv fun ah C => sr <| tm rfl <| tv (ln u25 d rfl) rfl <| tm rfl <| tv (ln u25 q rfl) rfl <| tv (bne rfl rfl) rfl <| nz <| cD rfl hp (fun D hp => ?_) fun D hp => ?_
 · refine sr <| tm rfl <| bE hp fun ai hy4 hp => tc 0 [] rfl c28 (fun _ => pQ (a1 := a1) (d.mono nw) hy4) rfl ?_
   rintro _ _ ⟨F, G, rfl, rfl, I⟩
   exact ta rfl <| nz <| nH <| rt hp [0] ⟨F, G, rfl, rfl, I⟩
 · refine sk C rfl <| sr <| ta rfl <| nz <| nv fun J K => sr <| tm rfl <| tv (ln u25 d rfl) rfl <| tm rfl <| nz <| nB <| bE hp fun M N O => ?_
   have P {g h i Q} (S : SlO 3 (nt .i64) g h i) (T : g = M) : ∀ w, St E H [i] w → J (ovr Q [(7, h)]) w := by
    subst T
    replace hp : pm.nx13 g = some r := O
    exact tg K <| sr <| tm rfl <| ta rfl <| nz <| nH <| rt hp [0] ⟨h, i, rfl, rfl, S⟩
   refine W.new0 <| lp N [0] rfl (fun s e L => ∃ f a j l t, s = (f, a) ∧ SlO 3 (nt .i64) f j l ∧ e = ovr t [(1, b), (2, c), (7, j), (17, v2), (18, .int .i64 (len a1)), (19, .int .i64 a)] ∧ L = [l]) ⟨_, _, (.slice none 0 0), ([] : FP), _, rfl, (SlO.nil 3), nC _ _ rfl, rfl⟩ ?_
   rintro _ _ _ ⟨f, a, j, l, t, rfl, m, rfl, rfl⟩ u hp U
   replace hp : pm.bd13 a1 a4 a7 f a = some u := hp
   refine sr <| tv (blt rfl rfl) rfl <| nz <| nv fun aj V => cD rfl hp (fun X hp => ?_) fun X hp => ?_
   · refine sk V rfl <| nv fun Y Z => ?_
     have y {z n o aa} (ab : SlO 3 (nt .i64) z n o) (hp : pm.jn23 a z = some u) : ∀ w, St E H [o] w → Y (ovr aa [(1, b), (2, c), (7, n), (17, v2), (18, .int .i64 (len a1)), (19, .int .i64 a)]) w := by
      exact tg Z <| nF <| tv (bad rfl rfl) rfl <| tm rfl <| nl <| gk hp [0] ⟨_, _, n, o, _, rfl, ab, nC _ _ rfl, rfl⟩
     refine nB <| sr <| tm rfl <| ti u25 i3 d hp rfl rfl rfl rfl ?_
     rintro p ak al _ hp rfl ac
     refine tv (lr s3 sH ac 0 rfl rfl) rfl <| ta rfl <| ta rfl <| nz <| sr <| tm rfl <| tm rfl <| tm rfl <| ti u25 i3 q hp rfl rfl rfl rfl ?_
     rintro am an ao _ hp rfl ad
     refine tv (lr s3 sH ad 0 rfl rfl) rfl <| ti u58 i4 B hp rfl rfl rfl rfl ?_
     rintro ap aq ar _ hp rfl ae
     refine tv (lr s4 sH ae 0 rfl rfl) rfl <| nz <| cB rfl hp (fun af hp => ?_) fun af hp => ?_
     · exact nF <| tm rfl <| tm rfl <| tbs [(0, .int .i64 p)] [.int .i64 p] u25 i3 Ag rfl rfl rfl rfl fun au => tp [1, 0] [_,_] rfl rfl <| tf 2 0 [_,_,_] rfl <| tp2 u25 i3 m hp (RepL.to (RepL.cons (k := (nt .i64)) (x := p) ⟨rfl, rfl⟩ RepL.nil) rfl) rfl rfl rfl rfl rfl rfl rfl rfl rfl fun av aw ax ag hp => ta rfl <| nl <| jn [0] (y ag hp)
     · exact TC.skip <| jn [0] (y m hp)
   · exact nN <| jn [0] (P m (nK hp U))
end
section
/-! ### fettle/graph.Trim -/
abbrev nW.R (r : ny × List Int) (v : Value) (A : List FP) : Prop := ∃ (w1 : Value) (a : FP) (w2 : Value) (b : FP) (w3 : Value) (c : FP), .tuple #[.agg #[.int .i64 r.1.params, .int .i64 r.1.result, w1, w2], w3] = v ∧ A = [a, b, c] ∧ SlO 3 (nt .i64) r.1.regs w1 a ∧ SlO 50 nY r.1.blocks w2 b ∧ SlO 3 (nt .i64) r.2 w3 c
def nW.nx28 (a1 : ny) (a : List Int) (b : List Int) (c : List nA) : Option (ny × List Int) :=
  some ((⟨a1.params, a1.result, b, c⟩ : ny), a)
def nW.jn38 (a : Int) (b : List nA) : Option (Ex (List nA) (List nA × Int)) :=
  some (.go (b, (w64 (a + 1))))
def nW.nx69 (b : List nA) (c : Int) (a : nA) (d : List PPhi) (e : List nL) (f : List Int) : Option (Ex (List nA) (List nA × Int)) :=
  (cat b [(⟨d, e, (⟨a.term.kind, a.term.arg, f⟩ : PTerm)⟩ : nA)]).bind fun g =>
  nW.jn38 c g
def nW.jn83 (a : List Int) (b : Int) (c : Int) : Option (Ex (List Int) (List Int × Int)) :=
  (cat a [c]).bind fun d =>
  some (.go (d, (w64 (b + 1))))
def nW.bd69 (d : List Int) (e : nA) (c : List Int) (a : Int) : Option (Ex (List Int) (List Int × Int)) :=
  if a < (len e.term.to) then
    (idx e.term.to a).bind fun b =>
    if b ≥ 0 ∧ b < (len d) then
      (idx d b).bind fun f =>
      nW.jn83 c a f
    else
      nW.jn83 c a b
  else
    some (.ret c)
def nW.nx60 (b : List Int) (c : List nA) (d : Int) (a : nA) (e : List PPhi) (f : List nL) : Option (Ex (List nA) (List nA × Int)) :=
  (whl (fun (s : (List Int × Int)) => nW.bd69 b a s.1 s.2) nD (([] : List Int), 0)).bind fun z =>
  nW.nx69 c d a e f z
def nW.bd60 (c : nA) (d : List nL) (b : Int) : Option (Ex (List nL) (List nL × Int)) :=
  if b < (len c.ins) then
    (idx c.ins b).bind fun a =>
    (pJ a.args).bind fun e =>
    (cat d [(⟨a.op, a.dst, e, a.imm, a.fn⟩ : nL)]).bind fun f =>
    some (.go (f, (w64 (b + 1))))
  else
    some (.ret d)
def nW.nx51 (b : List Int) (c : List nA) (d : Int) (a : nA) (e : List PPhi) : Option (Ex (List nA) (List nA × Int)) :=
  (whl (fun (s : (List nL × Int)) => nW.bd60 a s.1 s.2) nD (([] : List nL), 0)).bind fun z =>
  nW.nx60 b c d a e z
def nW.jn115 (a : Int) (b : List PPhi) : Option (Ex (List PPhi) (List PPhi × Int)) :=
  some (.go (b, (w64 (a + 1))))
def nW.bd51 (e : List Bool) (f : List (List Int)) (g : Int) (b : nA) (c : List PPhi) (a : Int) : Option (Ex (List PPhi) (List PPhi × Int)) :=
  if a < (len b.phis) then
    (idx b.phis a).bind fun d =>
    (idx f g).bind fun h =>
    (pm d.args h e).bind fun i =>
    (cat c [(⟨d.dst, i⟩ : PPhi)]).bind fun j =>
    nW.jn115 a j
  else
    some (.ret c)
def nW.bd28 (a1 : ny) (c : List Bool) (e : List (List Int)) (f : List Int) (b : List nA) (a : Int) : Option (Ex (List nA) (List nA × Int)) :=
  if a < (len a1.blocks) then
    (idx a1.blocks a).bind fun d =>
    (idx c a).bind fun g =>
    if (!g) = true then
      nW.jn38 a b
    else
      (whl (fun (s : (List PPhi × Int)) => nW.bd51 c e a d s.1 s.2) nD (([] : List PPhi), 0)).bind fun z =>
      nW.nx51 f b a d z
  else
    some (.ret b)
def nW.jn20 (a1 : ny) (b : List Bool) (c : List (List Int)) (a : List Int) (d : List Int) : Option (ny × List Int) :=
  (whl (fun (s : (List nA × Int)) => nW.bd28 a1 b c a s.1 s.2) nD (([] : List nA), 0)).bind fun z =>
  nW.nx28 a1 a d z
def nW.nx15 (a1 : ny) (a : List Bool) (b : List (List Int)) (c : List Int) : Option (ny × List Int) :=
  (pJ a1.regs).bind fun d =>
  nW.jn20 a1 a b c d
def nW.jn181 (a : Int) (b : List Int) (c : Int) : Option (Ex (List Int) (List Int × Int × Int)) :=
  some (.go (b, c, (w64 (a + 1))))
def nW.bd15 (d : List Bool) (e : List Int) (b : List Int) (c : Int) (a : Int) : Option (Ex (List Int) (List Int × Int × Int)) :=
  if a < (len e) then
    (idx b a).bind fun g =>
    (idx d a).bind fun f =>
    if f = true then
      (idx (b.set (a).toNat (-1)) a).bind fun h =>
      nW.jn181 a ((b.set (a).toNat (-1)).set (a).toNat c) (w64 (c + 1))
    else
      nW.jn181 a (b.set (a).toNat (-1)) c
  else
    some (.ret b)
def nW (a1 : ny) : Option (ny × List Int) :=
  (oO a1).bind fun c =>
  (ql a1).bind fun a =>
  (o4 c).bind fun d =>
  (mkl (len a1.blocks) (0 : Int)).bind fun b =>
  (whl (fun (s : (List Int × Int × Int)) => nW.bd15 a b s.1 s.2.1 s.2.2) nD (b, 0, 0)).bind fun z =>
  nW.nx15 a1 a d z
set_option maxHeartbeats 4000000 in
theorem ud {E : World} {H : FP} {w : World} {a1 : ny} {v2 : Value} {f : Value} {r : ny × List Int} (ak : SlI (nt .i64) H a1.regs v2) (ab : SlI nY H a1.blocks f) (hp : nW a1 = some r) (hst : St E H [] w) :
    Fn Try.prog 36 #[.agg #[.int .i64 a1.params, .int .i64 a1.result, v2, f]] w fun v w' => ∃ A, nW.R r v A ∧ St E H A w' := by
 refine Fn.bodyV (fn := Try.f36) (args := [.agg #[.int .i64 a1.params, .int .i64 a1.result, v2, f]]) E H [] 158 Try.func36 rfl rfl (leb rfl) hst <| sr <| tb [.int .i64 a1.params, .int .i64 a1.result, v2, f] rfl rfl fun J => tl i41 rfl fun b => ta rfl <| nz <| sr <| tv (lA (ds := [.int .i64 a1.params, .int .i64 a1.result, v2, f]) n8 1 rfl rfl rfl rfl) rfl <| bE hp fun bG hy1 hp => tc 0 [_,_] rfl c58 (fun _ => rJ (a1 := a1) (ak.mono nw) (ab.mono nw) hy1) rfl ?_
 rintro _ _ ⟨dT, dU, rfl, rfl, bH⟩
 refine ta rfl <| nz <| sr <| tv (lA (ds := [.int .i64 a1.params, .int .i64 a1.result, v2, f]) n8 2 rfl rfl rfl rfl) rfl <| bE hp fun P hy3 hp => tc 0 [_,_,_] rfl c48 (fun _ => sd (a1 := a1) (ak.mono nw) (ab.mono nw) hy3) rfl ?_
 rintro _ _ ⟨q, n, rfl, rfl, am⟩
 refine tm rfl <| bE hp fun an hy5 hp => tc 0 [_,_,_,_] rfl c59 (fun _ => wT (a1 := bG) (bH.ro.mono (subB 1 rfl)) hy5) rfl ?_
 rintro _ _ ⟨t, o, rfl, rfl, bI⟩
 refine ta rfl <| ta rfl <| nz <| sr <| tv (fa oa rfl) rfl <| tv (lb s39 4 rfl rfl rfl) rfl <| tv (ln u39 ab rfl) rfl <| tk (k := (nt .i64)) u25 i3 hp ⟨rfl, rfl⟩ rfl rfl rfl rfl rfl rfl fun aA h bJ a0 hp => ta rfl <| nz <| sr <| ta rfl <| nz <| nv fun bK bL => sr <| tm rfl <| tv (ln u25 a0.ro rfl) rfl <| tm rfl <| nz <| nB <| bE hp fun bM bN bO => ?_
 have bP {G i bQ} (aB : SlO 3 (nt .i64) G h i) (bR : G = bM) : ∀ w, St E H [bx J 41 [.int .i64 a1.params, .int .i64 a1.result, v2, f], bx b 41 [.int .i64 0, .int .i64 0, .slice none 0 0, .slice none 0 0], n, o, i] w → bK (ovr bQ [(1, .pointer (some ⟨J, 0, none⟩)), (2, .pointer (some ⟨b, 0, none⟩)), (5, q), (6, t), (7, h)]) w := by
  subst bR
  replace hp : nW.nx15 a1 P an G = some r := bO
  refine tg bL <| nv fun bS bU => ?_
  have a2 {aC c j p bV} (a3 : SlO 3 (nt .i64) aC j p) (hp : nW.jn20 a1 P an G aC = some r) : ∀ w, St E H [bx J 41 [.int .i64 a1.params, .int .i64 a1.result, v2, f], bx b 41 [.int .i64 0, .int .i64 0, .slice none 0 0, .slice none 0 0], n, o, i, bx c 41 [.int .i64 a1.params, .int .i64 a1.result, j, .slice none 0 0], p] w → bS (ovr bV [(1, .pointer (some ⟨J, 0, none⟩)), (2, .pointer (some ⟨b, 0, none⟩)), (5, q), (6, t), (7, h), (10, .pointer (some ⟨c, 0, none⟩))]) w := by
   refine tg bU <| nv fun bW bX => sr <| tv (fa oa rfl) rfl <| tv (lb s39 0 rfl rfl rfl) rfl <| tv (ln u39 ab rfl) rfl <| tm rfl <| nz <| nB <| bE hp fun bY bZ b0 => ?_
   have b1 {aD ac aE b2} (a5 : SlO 50 nY aD ac aE) (b3 : aD = bY) : ∀ w, St E H [bx b 41 [.int .i64 0, .int .i64 0, .slice none 0 0, .slice none 0 0], i, bx c 41 [.int .i64 a1.params, .int .i64 a1.result, j, ac], p, aE] w → bW (ovr b2 [(2, .pointer (some ⟨b, 0, none⟩)), (7, h), (10, .pointer (some ⟨c, 0, none⟩))]) w := by
    subst b3
    replace hp : nW.nx28 a1 G aC aD = some r := b0
    refine tg bX <| sr <| tv (lA (ds := [.int .i64 a1.params, .int .i64 a1.result, j, ac]) n8 2 rfl rfl rfl rfl) rfl <| tm rfl <| tS 0 m41 rfl rfl [.int .i64 a1.params, .int .i64 a1.result, j, ac] rfl (oc rfl (oc rfl (oc (a3).one (oc (a5).one oc0)))) rfl rfl <| ta rfl <| nz <| nH ?_
    obtain rfl := Option.some.inj hp
    exact fun w hw => retC2 hw rfl rfl rfl n8 0 rfl rfl ⟨j, p, ac, aE, h, i, rfl, rfl, a3, a5, aB⟩ (hw.pickA [3, 4, 1] rfl)
   refine W.new0 <| lp bZ [2, 3, 4, 5, 6, 7, 0] rfl (fun s e L => ∃ Q g u y a6, s = (Q, g) ∧ SlO 50 nY Q u y ∧ e = ovr a6 [(2, .pointer (some ⟨b, 0, none⟩)), (5, q), (6, t), (7, h), (10, .pointer (some ⟨c, 0, none⟩)), (58, f), (59, .int .i64 (len a1.blocks)), (60, .int .i64 g)] ∧ L = [bx b 41 [.int .i64 0, .int .i64 0, .slice none 0 0, .slice none 0 0], n, o, i, bx c 41 [.int .i64 a1.params, .int .i64 a1.result, j, u], p, y]) ⟨_, _, (.slice none 0 0), ([] : FP), _, rfl, (SlO.nil 50), nC _ _ rfl, rfl⟩ ?_
   rintro _ _ _ ⟨Q, g, u, y, a6, rfl, aF, rfl, rfl⟩ ad hp b4
   replace hp : nW.bd28 a1 P an G Q g = some ad := hp
   refine sr <| tv (blt rfl rfl) rfl <| nz <| nv fun dV b5 => cD rfl hp (fun b6 hp => ?_) fun b6 hp => ?_
   · refine sk b5 rfl <| nv fun b7 b8 => ?_
     have a8 {a9 aG aH b9} (ca : SlO 50 nY a9 aG aH) (hp : nW.jn38 g a9 = some ad) : ∀ w, St E H [bx b 41 [.int .i64 0, .int .i64 0, .slice none 0 0, .slice none 0 0], n, o, i, bx c 41 [.int .i64 a1.params, .int .i64 a1.result, j, aG], p, aH] w → b7 (ovr b9 [(2, .pointer (some ⟨b, 0, none⟩)), (5, q), (6, t), (7, h), (10, .pointer (some ⟨c, 0, none⟩)), (58, f), (59, .int .i64 (len a1.blocks)), (60, .int .i64 g)]) w := by
      exact tg b8 <| nF <| tv (bad rfl rfl) rfl <| tm rfl <| nl <| gk hp [0, 1, 2, 3, 4, 5, 6] ⟨_, _, aG, aH, _, rfl, ca, nC _ _ rfl, rfl⟩
     refine nB <| sr <| tm rfl <| ti u39 i50 ab hp rfl rfl rfl rfl ?_
     rintro a dW dX _ hp ⟨I, K, B, rfl, aI, aJ, aK⟩ cb
     refine tv (lR (ds := [I, K, .int .i64 a.term.kind, .int .i64 a.term.arg, B]) oY sH cb 0 rfl rfl rfl) rfl <| tl i50 rfl fun C => ta rfl <| tS 0 m50 rfl rfl [I, K, .int .i64 a.term.kind, .int .i64 a.term.arg, B] rfl (oc (aI).one (oc (aJ).one (oc rfl (oc rfl (oc (aK).one oc0))))) rfl rfl <| nz <| nv fun dY cc => sr <| tm rfl <| tm rfl <| ti u58 i4 (am).ro hp rfl rfl rfl rfl ?_
     rintro dZ d0 d1 _ hp rfl cd
     refine tv (lr s4 (Src.at_ 2 rfl) cd 0 rfl rfl) rfl <| tv (oI rfl) rfl <| nz <| cB rfl hp (fun ce hp => ?_) fun ce hp => ?_
     · exact nN <| jn [1, 2, 3, 4, 5, 6, 7] (a8 aF hp)
     · refine sk cc rfl <| sr <| tv (fa oQ rfl) rfl <| tv (fa p6 rfl) rfl <| tv (lb s3 0 rfl rfl rfl) rfl <| tv (fa oQ rfl) rfl <| tv (fa pp rfl) rfl <| tv (lb s3 0 rfl rfl rfl) rfl <| tv (n9 (vs := [(0, .int .i64 a.term.kind), (1, .int .i64 a.term.arg)]) (ds := [.int .i64 a.term.kind, .int .i64 a.term.arg, .slice none 0 0]) rfl (fun w => by kernel_rfl)) rfl <| tv (n9 (vs := [(2, .agg #[.int .i64 a.term.kind, .int .i64 a.term.arg, .slice none 0 0])]) (ds := [.slice none 0 0, .slice none 0 0, .int .i64 a.term.kind, .int .i64 a.term.arg, .slice none 0 0]) rfl (fun w => by kernel_rfl)) rfl <| tl i50 rfl fun l => tS 0 m50 rfl rfl [.slice none 0 0, .slice none 0 0, .int .i64 a.term.kind, .int .i64 a.term.arg, .slice none 0 0] rfl (oc rfl (oc rfl (oc rfl (oc rfl (oc rfl oc0))))) rfl rfl <| nz <| nv fun cf cg => sr <| tv (fa oE rfl) rfl <| tv (lb s47 1 rfl rfl rfl) rfl <| tv (ln u47 aI rfl) rfl <| tm rfl <| nz <| nB <| bE hp fun ci cj ck => ?_
       have cl {X D M cm} (cn : SlO 70 oS X D M) (co : X = ci) : ∀ w, St E H [bx b 41 [.int .i64 0, .int .i64 0, .slice none 0 0, .slice none 0 0], n, o, i, bx c 41 [.int .i64 a1.params, .int .i64 a1.result, j, u], p, y, bx C 50 [I, K, .int .i64 a.term.kind, .int .i64 a.term.arg, B], bx l 50 [D, .slice none 0 0, .int .i64 a.term.kind, .int .i64 a.term.arg, .slice none 0 0], M] w → cf (ovr cm [(2, .pointer (some ⟨b, 0, none⟩)), (5, q), (6, t), (7, h), (10, .pointer (some ⟨c, 0, none⟩)), (12, .pointer (some ⟨C, 0, none⟩)), (13, .pointer (some ⟨l, 0, none⟩)), (58, f), (59, .int .i64 (len a1.blocks)), (60, .int .i64 g)]) w := by
        subst co
        replace hp : nW.nx51 G Q g a X = some ad := ck
        refine tg cg <| nv fun cp cq => sr <| tv (fa oB rfl) rfl <| tv (lb s48 7 rfl rfl rfl) rfl <| tv (ln u48 aJ rfl) rfl <| tm rfl <| nz <| nB <| bE hp fun cr cs ct => ?_
        have cu {ae N S cv} (cw : SlO 52 oN ae N S) (cx : ae = cr) : ∀ w, St E H [bx b 41 [.int .i64 0, .int .i64 0, .slice none 0 0, .slice none 0 0], n, o, i, bx c 41 [.int .i64 a1.params, .int .i64 a1.result, j, u], p, y, bx C 50 [I, K, .int .i64 a.term.kind, .int .i64 a.term.arg, B], bx l 50 [D, N, .int .i64 a.term.kind, .int .i64 a.term.arg, .slice none 0 0], M, S] w → cp (ovr cv [(2, .pointer (some ⟨b, 0, none⟩)), (5, q), (6, t), (7, h), (10, .pointer (some ⟨c, 0, none⟩)), (12, .pointer (some ⟨C, 0, none⟩)), (13, .pointer (some ⟨l, 0, none⟩)), (58, f), (59, .int .i64 (len a1.blocks)), (60, .int .i64 g)]) w := by
         subst cx
         replace hp : nW.nx60 G Q g a X ae = some ad := ct
         refine tg cq <| nv fun cy cz => sr <| tv (fa oQ rfl) rfl <| tv (fa o8 rfl) rfl <| tv (lb s25 7 rfl rfl rfl) rfl <| tv (ln u25 aK rfl) rfl <| tm rfl <| nz <| nB <| bE hp fun cA cC cE => ?_
         have cF {ao af aL cG} (cH : SlO 3 (nt .i64) ao af aL) (cI : ao = cA) : ∀ w, St E H [bx b 41 [.int .i64 0, .int .i64 0, .slice none 0 0, .slice none 0 0], n, o, i, bx c 41 [.int .i64 a1.params, .int .i64 a1.result, j, u], p, y, bx l 50 [D, N, .int .i64 a.term.kind, .int .i64 a.term.arg, af], M, S, aL] w → cy (ovr cG [(2, .pointer (some ⟨b, 0, none⟩)), (5, q), (6, t), (7, h), (10, .pointer (some ⟨c, 0, none⟩)), (13, .pointer (some ⟨l, 0, none⟩)), (58, f), (59, .int .i64 (len a1.blocks)), (60, .int .i64 g)]) w := by
          subst cI
          replace hp : nW.nx69 Q g a X ae ao = some ad := cE
          exact tg cz <| nF <| tv (fa oa rfl) rfl <| tv (lb s39 4 rfl rfl rfl) rfl <| tv (lA (ds := [D, N, .int .i64 a.term.kind, .int .i64 a.term.arg, af]) oY 7 rfl rfl rfl rfl) rfl <| tbs [(0, .agg #[D, N, .int .i64 a.term.kind, .int .i64 a.term.arg, af])] [D, N, .int .i64 a.term.kind, .int .i64 a.term.arg, af] u39 i50 Ag rfl rfl rfl rfl fun d2 => tp [7, 0, 9, 10, 11, 1, 2, 3, 4, 5, 6, 8] [_,_,_,_,_,_,_,_,_,_,_,_] rfl rfl <| tf 2 3 [_,_,_,_,_,_,_,_,_,_] rfl <| tp2 u39 i50 aF hp (RepL.to (G' := M ++ (S ++ (aL))) (RepL.cons (k := nY) (x := (⟨X, ae, (⟨a.term.kind, a.term.arg, ao⟩ : PTerm)⟩ : nA)) ⟨_, _, _, _, _, _, rfl, rfl, cn, cw, cH⟩ RepL.nil) (by simp)) rfl rfl rfl rfl rfl rfl rfl rfl rfl fun d3 d4 d5 ba hp => tv (fa oa rfl) rfl <| ts 5 m39 rfl rfl ba.o1 rfl <| nl <| jn [1, 2, 3, 4, 5, 6, 0] (a8 ba hp)
         refine W.new0 <| lp cC [1, 2, 3, 4, 5, 6, 7, 9, 10, 11, 0] rfl (fun s e L => ∃ ag T ah ai bb, s = (ag, T) ∧ SlO 3 (nt .i64) ag ah ai ∧ e = ovr bb [(2, .pointer (some ⟨b, 0, none⟩)), (5, q), (6, t), (7, h), (10, .pointer (some ⟨c, 0, none⟩)), (13, .pointer (some ⟨l, 0, none⟩)), (58, f), (59, .int .i64 (len a1.blocks)), (60, .int .i64 g), (122, B), (123, .int .i64 (len a.term.to)), (124, .int .i64 T)] ∧ L = [bx b 41 [.int .i64 0, .int .i64 0, .slice none 0 0, .slice none 0 0], n, o, i, bx c 41 [.int .i64 a1.params, .int .i64 a1.result, j, u], p, y, bx l 50 [D, N, .int .i64 a.term.kind, .int .i64 a.term.arg, ah], M, S, ai]) ⟨_, _, (.slice none 0 0), ([] : FP), _, rfl, (SlO.nil 3), nC _ _ rfl, rfl⟩ ?_
         rintro _ _ _ ⟨ag, T, ah, ai, bb, rfl, bc, rfl, rfl⟩ be hp cJ
         replace hp : nW.bd69 G a ag T = some be := hp
         refine sr <| tv (blt rfl rfl) rfl <| nz <| nv fun d6 cK => cD rfl hp (fun cL hp => ?_) fun cL hp => ?_
         · refine sk cK rfl <| nv fun d7 cM => nB <| sr <| ti u25 i3 aK hp rfl rfl rfl rfl ?_
           rintro ap d8 d9 _ hp rfl cN
           refine tv (lr s3 sH cN 0 rfl rfl) rfl <| ta rfl <| nz <| nv fun cO cP => ?_
           have bf {aj cQ} (hp : nW.jn83 ag T aj = some be) : ∀ w, St E H [bx b 41 [.int .i64 0, .int .i64 0, .slice none 0 0, .slice none 0 0], n, o, i, bx c 41 [.int .i64 a1.params, .int .i64 a1.result, j, u], p, y, bx l 50 [D, N, .int .i64 a.term.kind, .int .i64 a.term.arg, ah], M, S, ai] w → cO (ovr cQ [(2, .pointer (some ⟨b, 0, none⟩)), (5, q), (6, t), (7, h), (10, .pointer (some ⟨c, 0, none⟩)), (13, .pointer (some ⟨l, 0, none⟩)), (19, .int .i64 aj), (58, f), (59, .int .i64 (len a1.blocks)), (60, .int .i64 g), (122, B), (123, .int .i64 (len a.term.to)), (124, .int .i64 T)]) w := by
            exact tg cP <| nF <| tv (fa oQ rfl) rfl <| tv (fa o8 rfl) rfl <| tv (lb s25 7 rfl rfl rfl) rfl <| tm rfl <| tbs [(0, .int .i64 aj)] [.int .i64 aj] u25 i3 Ag rfl rfl rfl rfl fun ea => tp [11, 0, 1, 2, 3, 4, 5, 6, 7, 8, 9, 10] [_,_,_,_,_,_,_,_,_,_,_,_] rfl rfl <| tf 2 0 [_,_,_,_,_,_,_,_,_,_,_,_,_] rfl <| tp2 u25 i3 bc hp (RepL.to (RepL.cons (k := (nt .i64)) (x := aj) ⟨rfl, rfl⟩ RepL.nil) rfl) rfl rfl rfl rfl rfl rfl rfl rfl rfl fun eb cR cS bg hp => tv (fa oQ rfl) rfl <| tv (fa o8 rfl) rfl <| ts 8 m25 rfl rfl bg.o1 rfl <| nl <| tg cM <| nF <| tv (bad rfl rfl) rfl <| tm rfl <| nl <| gk hp [1, 2, 3, 4, 5, 6, 7, 8, 9, 10, 0] ⟨_, _, cR, cS, _, rfl, bg, nC _ _ rfl, rfl⟩
           refine sr <| tm rfl <| tv (bge rfl rfl) rfl <| tm rfl <| TL.cut 5 fun cT cU => ?_
           have bh {cV} : ∀ w, St E H [bx b 41 [.int .i64 0, .int .i64 0, .slice none 0 0, .slice none 0 0], n, o, i, bx c 41 [.int .i64 a1.params, .int .i64 a1.result, j, u], p, y, bx l 50 [D, N, .int .i64 a.term.kind, .int .i64 a.term.arg, ah], M, S, ai] w → cT (ovr cV [(135, .bool (decide (ap ≥ 0 ∧ ap < (len G)))), (2, .pointer (some ⟨b, 0, none⟩)), (5, q), (6, t), (7, h), (10, .pointer (some ⟨c, 0, none⟩)), (13, .pointer (some ⟨l, 0, none⟩)), (19, .int .i64 ap), (58, f), (59, .int .i64 (len a1.blocks)), (60, .int .i64 g), (122, B), (123, .int .i64 (len a.term.to)), (124, .int .i64 T)]) w := by
            refine tlg cU <| nz <| cD rfl hp (fun cW hp => ?_) fun cW hp => ?_
            · refine nF <| tm rfl <| tm rfl <| ti u25 i3 (aB).ro hp rfl rfl rfl rfl ?_
              rintro ec ed ee _ hp rfl cX
              exact tv (lr s3 (Src.at_ 3 rfl) cX 0 rfl rfl) rfl <| ta rfl <| nl <| jn [0, 1, 2, 3, 4, 5, 6, 7, 8, 9, 10] (bf hp)
            · exact TC.skip <| jn [0, 1, 2, 3, 4, 5, 6, 7, 8, 9, 10] (bf hp)
           by_cases z : ap ≥ 0
           · exact gy rfl (bT z) <| tm rfl <| gy rfl (bT z) <| tm rfl <| gy rfl (bT z) <| tv (ln u25 aB.ro rfl) rfl <| gy rfl (bT z) <| tv (blt rfl rfl) rfl <| tv (pT (bT z)) rfl <| nj bh (bAt z)
           · exact gn rfl (bF z) rfl rfl <| gn rfl (bF z) rfl rfl <| gn rfl (bF z) rfl rfl <| gn rfl (bF z) rfl rfl <| tv (pF (bF z)) rfl <| nj bh (bAf z)
         · exact nN <| jn [0, 1, 2, 3, 4, 5, 6, 7, 8, 9, 10] (cF bc (nK hp cJ))
        refine W.new0 <| lp cs [1, 2, 3, 4, 5, 6, 7, 8, 9, 10, 0] rfl (fun s e L => ∃ aq ar aM aN bi, s = (aq, ar) ∧ SlO 52 oN aq aM aN ∧ e = ovr bi [(2, .pointer (some ⟨b, 0, none⟩)), (5, q), (6, t), (7, h), (10, .pointer (some ⟨c, 0, none⟩)), (12, .pointer (some ⟨C, 0, none⟩)), (13, .pointer (some ⟨l, 0, none⟩)), (58, f), (59, .int .i64 (len a1.blocks)), (60, .int .i64 g), (103, K), (104, .int .i64 (len a.ins)), (105, .int .i64 ar)] ∧ L = [bx b 41 [.int .i64 0, .int .i64 0, .slice none 0 0, .slice none 0 0], n, o, i, bx c 41 [.int .i64 a1.params, .int .i64 a1.result, j, u], p, y, bx C 50 [I, K, .int .i64 a.term.kind, .int .i64 a.term.arg, B], bx l 50 [D, aM, .int .i64 a.term.kind, .int .i64 a.term.arg, .slice none 0 0], M, aN]) ⟨_, _, (.slice none 0 0), ([] : FP), _, rfl, (SlO.nil 52), nC _ _ rfl, rfl⟩ ?_
        rintro _ _ _ ⟨aq, ar, aM, aN, bi, rfl, bj, rfl, rfl⟩ cY hp cZ
        replace hp : nW.bd60 a aq ar = some cY := hp
        refine sr <| tv (blt rfl rfl) rfl <| nz <| nv fun ef c0 => cD rfl hp (fun c1 hp => ?_) fun c1 hp => ?_
        · refine sk c0 rfl <| nv fun eg c2 => nB <| sr <| ti u48 i52 aJ hp rfl rfl rfl rfl ?_
          rintro d eh ei _ hp ⟨bk, rfl, bl⟩ c3
          refine tv (lR (ds := [.int .i64 d.op, .int .i64 d.dst, bk, .int .i64 d.imm, .int .i64 d.fn]) o5 sH c3 0 rfl rfl rfl) rfl <| tl i52 rfl fun ej => tS 0 m52 rfl rfl [.int .i64 d.op, .int .i64 d.dst, bk, .int .i64 d.imm, .int .i64 d.fn] rfl (oc rfl (oc rfl (oc (bl).one (oc rfl (oc rfl oc0))))) rfl rfl <| nz <| sr <| tv (fa o6 rfl) rfl <| tv (lb s25 0 rfl rfl rfl) rfl <| bE hp fun c4 hy102 hp => tc 0 [_,_,_,_,_,_,_,_,_,_,_,_] rfl c28 (fun _ => pQ (a1 := d.args) (bl.mono nw) hy102) rfl ?_
          rintro _ _ ⟨aO, c5, rfl, rfl, bm⟩
          exact tv (fa o6 rfl) rfl <| ts 1 m25 rfl rfl bm.o1 rfl <| nz <| nF <| tv (fa oB rfl) rfl <| tv (lb s48 10 rfl rfl rfl) rfl <| tv (lA (ds := [.int .i64 d.op, .int .i64 d.dst, aO, .int .i64 d.imm, .int .i64 d.fn]) o5 1 rfl rfl rfl rfl) rfl <| tbs [(0, .agg #[.int .i64 d.op, .int .i64 d.dst, aO, .int .i64 d.imm, .int .i64 d.fn])] [.int .i64 d.op, .int .i64 d.dst, aO, .int .i64 d.imm, .int .i64 d.fn] u48 i52 Ag rfl rfl rfl rfl fun ek => tp [13, 0, 1, 2, 3, 4, 5, 6, 7, 8, 9, 10, 11, 12] [_,_,_,_,_,_,_,_,_,_,_,_,_,_] rfl rfl <| tp2 u48 i52 bj hp (RepL.to (G' := c5) (RepL.cons (k := oN) (x := (⟨d.op, d.dst, c4, d.imm, d.fn⟩ : nL)) ⟨_, _, rfl, rfl, bm⟩ RepL.nil) (by simp)) rfl rfl rfl rfl rfl rfl rfl rfl rfl fun el c6 c7 bn hp => tv (fa oB rfl) rfl <| ts 10 m48 rfl rfl bn.o1 rfl <| nl <| tg c2 <| nF <| tv (bad rfl rfl) rfl <| tm rfl <| nl <| gk hp [2, 3, 4, 5, 6, 7, 8, 9, 10, 11, 0] ⟨_, _, c6, c7, _, rfl, bn, nC _ _ rfl, rfl⟩
        · exact nN <| jn [0, 1, 2, 3, 4, 5, 6, 7, 8, 9, 10] (cu bj (nK hp cZ))
       refine W.new0 <| lp cj [3, 4, 5, 6, 7, 8, 9, 2, 1, 0] rfl (fun s e L => ∃ au Y aP aQ bo, s = (au, Y) ∧ SlO 70 oS au aP aQ ∧ e = ovr bo [(2, .pointer (some ⟨b, 0, none⟩)), (5, q), (6, t), (7, h), (10, .pointer (some ⟨c, 0, none⟩)), (11, .int .i64 g), (12, .pointer (some ⟨C, 0, none⟩)), (13, .pointer (some ⟨l, 0, none⟩)), (58, f), (59, .int .i64 (len a1.blocks)), (60, .int .i64 g), (79, I), (80, .int .i64 (len a.phis)), (81, .int .i64 Y)] ∧ L = [bx b 41 [.int .i64 0, .int .i64 0, .slice none 0 0, .slice none 0 0], n, o, i, bx c 41 [.int .i64 a1.params, .int .i64 a1.result, j, u], p, y, bx C 50 [I, K, .int .i64 a.term.kind, .int .i64 a.term.arg, B], bx l 50 [aP, .slice none 0 0, .int .i64 a.term.kind, .int .i64 a.term.arg, .slice none 0 0], aQ]) ⟨_, _, (.slice none 0 0), ([] : FP), _, rfl, (SlO.nil 70), nC _ _ rfl, rfl⟩ ?_
       rintro _ _ _ ⟨au, Y, aP, aQ, bo, rfl, av, rfl, rfl⟩ bp hp c8
       replace hp : nW.bd51 P an g a au Y = some bp := hp
       refine sr <| tv (blt rfl rfl) rfl <| nz <| nv fun em c9 => cD rfl hp (fun da hp => ?_) fun da hp => ?_
       · refine sk c9 rfl <| nv fun db dc => ?_
         have aR {bq aS aT dd} (de : SlO 70 oS bq aS aT) (hp : nW.jn115 Y bq = some bp) : ∀ w, St E H [bx b 41 [.int .i64 0, .int .i64 0, .slice none 0 0, .slice none 0 0], n, o, i, bx c 41 [.int .i64 a1.params, .int .i64 a1.result, j, u], p, y, bx C 50 [I, K, .int .i64 a.term.kind, .int .i64 a.term.arg, B], bx l 50 [aS, .slice none 0 0, .int .i64 a.term.kind, .int .i64 a.term.arg, .slice none 0 0], aT] w → db (ovr dd [(2, .pointer (some ⟨b, 0, none⟩)), (5, q), (6, t), (7, h), (10, .pointer (some ⟨c, 0, none⟩)), (11, .int .i64 g), (12, .pointer (some ⟨C, 0, none⟩)), (13, .pointer (some ⟨l, 0, none⟩)), (58, f), (59, .int .i64 (len a1.blocks)), (60, .int .i64 g), (79, I), (80, .int .i64 (len a.phis)), (81, .int .i64 Y)]) w := by
          exact tg dc <| nF <| tv (bad rfl rfl) rfl <| tm rfl <| nl <| gk hp [0, 1, 2, 3, 4, 5, 6, 7, 8, 9] ⟨_, _, aS, aT, _, rfl, de, nC _ _ rfl, rfl⟩
         refine nB <| sr <| ti u47 i70 aI hp rfl rfl rfl rfl ?_
         rintro m en eo _ hp ⟨aU, rfl, aV⟩ df
         refine tv (lR (ds := [.int .i64 m.dst, aU]) p8 sH df 0 rfl rfl rfl) rfl <| tl i70 rfl fun dg => tS 0 m70 rfl rfl [.int .i64 m.dst, aU] rfl (oc rfl (oc (aV).one oc0)) rfl rfl <| nz <| ch mix [bx dg 70 [.int .i64 m.dst, aU], bx b 41 [.int .i64 0, .int .i64 0, .slice none 0 0, .slice none 0 0], n, o, i, bx c 41 [.int .i64 a1.params, .int .i64 a1.result, j, u], p, y, bx C 50 [I, K, .int .i64 a.term.kind, .int .i64 a.term.arg, B]] (nq 0 rfl (nq 1 rfl (nq 2 rfl (nq 3 rfl (nq 4 rfl (nq 5 rfl (nq 6 rfl (nq 7 rfl (nq 8 rfl ns))))))))) <| hv 0 rfl (fa oE rfl) Ag rfl <| hv 2 rfl (fa qd rfl) Ag rfl <| hv 3 rfl (lbG s3 0 rfl rfl rfl) Ag rfl <| hv 4 rfl (fa py rfl) Ag rfl <| hv 5 rfl (lbG s25 0 rfl rfl rfl) Ag rfl <| hv 6 rfl mv Ag rfl <| hv 7 rfl mv Ag rfl <| hi 8 rfl u73 i25 (bI).ro hp rfl rfl rfl Ag rfl ?_
         rintro br ep eq _ hp ⟨er, rfl, bs⟩ dh
         refine hv 9 rfl (lr s25 (srcInG 3 rfl) dh 0 rfl rfl) Ag rfl <| hv 10 rfl mv Ag rfl <| nT [1, 11] Ag (by simp) (nG ⟨_, rfl, fun es di => ?_⟩ (nG ⟨_, rfl, fun et dj => ?_⟩ nU))
         · refine tv (lb s47 9 rfl rfl rfl) rfl <| hk di (nq 0 rfl (nq 1 rfl (nq 2 rfl (nq 3 rfl (nq 4 rfl (nq 5 rfl (nq 6 rfl (nq 7 rfl (nq 8 rfl ns))))))))) <| ho 11 rfl Ag fun eu dk => bE hp fun aw hy122 hp => tc 0 [_,_,_,_,_,_,_,_,_,_,_] rfl c60 (fun _ => uc (a1 := m.args) (a4 := br) (a7 := P) (aV.mono nw) (bs.mono (subB 3 rfl)) (am.ro.mono (subB 2 rfl)) hy122) rfl ?_
           rintro _ _ ⟨F, ax, rfl, rfl, Z⟩
           exact hk dk (nq 1 rfl (nq 2 rfl (nq 3 rfl (nq 4 rfl (nq 5 rfl (nq 6 rfl (nq 7 rfl (nq 8 rfl (nq 9 rfl ns))))))))) <| hv 12 rfl (n9 (vs := [(0, .int .i64 m.dst), (1, F)]) (ds := [.int .i64 m.dst, F]) rfl (fun w => by obtain ⟨_, _, rfl⟩ := (Z).len; kernel_rfl)) Ag rfl <| ho 13 rfl Ag fun ev dl => tbs [(0, .agg #[.int .i64 m.dst, F])] [.int .i64 m.dst, F] u47 i70 Ag rfl rfl rfl rfl fun bt => hk dl (nq 2 rfl (nq 3 rfl (nq 4 rfl (nq 5 rfl (nq 6 rfl (nq 7 rfl (nq 8 rfl (nq 9 rfl (nq 10 rfl ns))))))))) <| ho 14 rfl Ag fun ew dm => tp [12, 0, 1, 2, 3, 4, 5, 6, 7, 8, 9, 10, 11] [_,_,_,_,_,_,_,_,_,_,_,_,_] rfl rfl <| tp2 u47 i70 av hp (RepL.to (G' := ax) (RepL.cons (k := oS) (x := (⟨m.dst, aw⟩ : PPhi)) ⟨_, _, rfl, rfl, Z⟩ RepL.nil) (by simp)) rfl rfl rfl rfl rfl rfl rfl rfl rfl fun bu bv bw O hp => hk dm (nq 1 rfl (nq 2 rfl (nq 3 rfl (nq 4 rfl (nq 5 rfl (nq 6 rfl (nq 7 rfl (nq 8 rfl (nq 9 rfl ns))))))))) <| hv 15 rfl (fa oE rfl) Ag rfl <| ho 16 rfl Ag fun ex dn => ts 10 m47 rfl rfl O.o1 rfl <| hk dn (nq 1 rfl (nq 2 rfl (nq 3 rfl (nq 4 rfl (nq 5 rfl (nq 6 rfl (nq 7 rfl (nq 8 rfl (nq 9 rfl ns))))))))) <| hz Ag <| jn [2, 3, 4, 5, 6, 7, 8, 9, 10, 0] (aR O hp)
         · refine bE hp fun aw hy133 hp => tc 0 [_,_,_,_,_,_,_,_,_,_,_] rfl c60 (fun _ => uc (a1 := m.args) (a4 := br) (a7 := P) (aV.mono nw) (bs.mono (subB 3 rfl)) (am.ro.mono (subB 2 rfl)) hy133) rfl ?_
           rintro _ _ ⟨F, ax, rfl, rfl, Z⟩
           refine hk dj (nq 1 rfl (nq 2 rfl (nq 3 rfl (nq 4 rfl (nq 5 rfl (nq 6 rfl (nq 7 rfl (nq 8 rfl (nq 9 rfl ns))))))))) <| hv 12 rfl (n9 (vs := [(0, .int .i64 m.dst), (1, F)]) (ds := [.int .i64 m.dst, F]) rfl (fun w => by obtain ⟨_, _, rfl⟩ := (Z).len; kernel_rfl)) Ag rfl <| nT [1, 13] Ag (by simp) (nG ⟨_, rfl, fun ey dp => ?_⟩ (nG ⟨_, rfl, fun ez dq => ?_⟩ nU))
           · exact tv (lb s47 10 rfl rfl rfl) rfl <| hk dp (nq 1 rfl (nq 2 rfl (nq 3 rfl (nq 4 rfl (nq 5 rfl (nq 6 rfl (nq 7 rfl (nq 8 rfl (nq 9 rfl ns))))))))) <| ho 13 rfl Ag fun eA dr => tbs [(0, .agg #[.int .i64 m.dst, F])] [.int .i64 m.dst, F] u47 i70 Ag rfl rfl rfl rfl fun bt => hk dr (nq 2 rfl (nq 3 rfl (nq 4 rfl (nq 5 rfl (nq 6 rfl (nq 7 rfl (nq 8 rfl (nq 9 rfl (nq 10 rfl ns))))))))) <| ho 14 rfl Ag fun eB dt => tp [12, 0, 1, 2, 3, 4, 5, 6, 7, 8, 9, 10, 11] [_,_,_,_,_,_,_,_,_,_,_,_,_] rfl rfl <| tp2 u47 i70 av hp (RepL.to (G' := ax) (RepL.cons (k := oS) (x := (⟨m.dst, aw⟩ : PPhi)) ⟨_, _, rfl, rfl, Z⟩ RepL.nil) (by simp)) rfl rfl rfl rfl rfl rfl rfl rfl rfl fun bu bv bw O hp => hk dt (nq 1 rfl (nq 2 rfl (nq 3 rfl (nq 4 rfl (nq 5 rfl (nq 6 rfl (nq 7 rfl (nq 8 rfl (nq 9 rfl ns))))))))) <| hv 15 rfl (fa oE rfl) Ag rfl <| ho 16 rfl Ag fun eC du => ts 10 m47 rfl rfl O.o1 rfl <| hk du (nq 1 rfl (nq 2 rfl (nq 3 rfl (nq 4 rfl (nq 5 rfl (nq 6 rfl (nq 7 rfl (nq 8 rfl (nq 9 rfl ns))))))))) <| hz Ag <| jn [2, 3, 4, 5, 6, 7, 8, 9, 10, 0] (aR O hp)
           · exact tbs [(0, .agg #[.int .i64 m.dst, F])] [.int .i64 m.dst, F] u47 i70 Ag rfl rfl rfl rfl fun bt => hk dq (nq 2 rfl (nq 3 rfl (nq 4 rfl (nq 5 rfl (nq 6 rfl (nq 7 rfl (nq 8 rfl (nq 9 rfl (nq 10 rfl ns))))))))) <| ho 1 rfl Ag fun eD dv => tv (lb s47 11 rfl rfl rfl) rfl <| hk dv (nq 2 rfl (nq 3 rfl (nq 4 rfl (nq 5 rfl (nq 6 rfl (nq 7 rfl (nq 8 rfl (nq 9 rfl (nq 10 rfl ns))))))))) <| ho 14 rfl Ag fun eE dw => tp [12, 0, 1, 2, 3, 4, 5, 6, 7, 8, 9, 10, 11] [_,_,_,_,_,_,_,_,_,_,_,_,_] rfl rfl <| tp2 u47 i70 av hp (RepL.to (G' := ax) (RepL.cons (k := oS) (x := (⟨m.dst, aw⟩ : PPhi)) ⟨_, _, rfl, rfl, Z⟩ RepL.nil) (by simp)) rfl rfl rfl rfl rfl rfl rfl rfl rfl fun bu bv bw O hp => hk dw (nq 1 rfl (nq 2 rfl (nq 3 rfl (nq 4 rfl (nq 5 rfl (nq 6 rfl (nq 7 rfl (nq 8 rfl (nq 9 rfl ns))))))))) <| hv 15 rfl (fa oE rfl) Ag rfl <| ho 16 rfl Ag fun eF dx => ts 10 m47 rfl rfl O.o1 rfl <| hk dx (nq 1 rfl (nq 2 rfl (nq 3 rfl (nq 4 rfl (nq 5 rfl (nq 6 rfl (nq 7 rfl (nq 8 rfl (nq 9 rfl ns))))))))) <| hz Ag <| jn [2, 3, 4, 5, 6, 7, 8, 9, 10, 0] (aR O hp)
       · exact nN <| jn [0, 1, 2, 3, 4, 5, 6, 7, 8, 9] (cl av (nK hp c8))
   · exact nN <| jn [0, 3, 4, 5, 6] (b1 aF (nK hp b4))
  refine ch mix [bx J 41 [.int .i64 a1.params, .int .i64 a1.result, v2, f], bx b 41 [.int .i64 0, .int .i64 0, .slice none 0 0, .slice none 0 0], n, o, i] (nq 0 rfl (nq 1 rfl (nq 2 rfl (nq 3 rfl (nq 4 rfl ns))))) <| hv 0 rfl (fa po rfl) Ag rfl <| hv 1 rfl (lbG s3 0 rfl rfl rfl) Ag rfl <| hv 2 rfl (fa p5 rfl) Ag rfl <| hv 3 rfl (lbG s3 0 rfl rfl rfl) Ag rfl <| hv 4 rfl (fa o7 rfl) Ag rfl <| hv 5 rfl (lbG s25 0 rfl rfl rfl) Ag rfl <| nT [6, 8] Ag (by simp) (nG ⟨_, rfl, fun eG dy => ?_⟩ (nG ⟨_, rfl, fun eH dz => ?_⟩ nU))
  · refine bE hp fun dA hy159 hp => tc 0 [_,_,_,_,_] rfl c28 (fun _ => pQ (a1 := a1.regs) (ak.mono nw) hy159) rfl ?_
    rintro _ _ ⟨U, dB, rfl, rfl, V⟩
    exact hk dy (nq 1 rfl (nq 2 rfl (nq 3 rfl (nq 4 rfl (nq 5 rfl ns))))) <| hv 7 rfl (n9 (vs := [(0, .int .i64 a1.params), (1, .int .i64 a1.result), (2, U)]) (ds := [.int .i64 a1.params, .int .i64 a1.result, U, .slice none 0 0]) rfl (fun w => by obtain ⟨_, _, rfl⟩ := (V).len; kernel_rfl)) Ag rfl <| ho 8 rfl Ag fun eI dC => tl i41 rfl fun dD => hk dC (nq 2 rfl (nq 3 rfl (nq 4 rfl (nq 5 rfl (nq 6 rfl ns))))) <| ho 9 rfl Ag fun eJ dE => tS 0 m41 rfl rfl [.int .i64 a1.params, .int .i64 a1.result, U, .slice none 0 0] rfl (oc rfl (oc rfl (oc (V).one (oc rfl oc0)))) rfl rfl <| hk dE (nq 2 rfl (nq 3 rfl (nq 4 rfl (nq 5 rfl (nq 6 rfl ns))))) <| hz Ag <| jn [2, 3, 4, 5, 6, 0, 1] (a2 V hp)
  · refine tl i41 rfl fun dD => hk dz (nq 1 rfl (nq 2 rfl (nq 3 rfl (nq 4 rfl (nq 5 rfl ns))))) <| ho 6 rfl Ag fun eK dF => bE hp fun dA hy169 hp => tc 0 [_,_,_,_,_,_] rfl c28 (fun _ => pQ (a1 := a1.regs) (ak.mono nw) hy169) rfl ?_
    rintro _ _ ⟨U, dB, rfl, rfl, V⟩
    exact hk dF (nq 2 rfl (nq 3 rfl (nq 4 rfl (nq 5 rfl (nq 6 rfl ns))))) <| hv 7 rfl (n9 (vs := [(0, .int .i64 a1.params), (1, .int .i64 a1.result), (2, U)]) (ds := [.int .i64 a1.params, .int .i64 a1.result, U, .slice none 0 0]) rfl (fun w => by obtain ⟨_, _, rfl⟩ := (V).len; kernel_rfl)) Ag rfl <| ho 9 rfl Ag fun eL dG => tS 1 m41 rfl rfl [.int .i64 a1.params, .int .i64 a1.result, U, .slice none 0 0] rfl (oc rfl (oc rfl (oc (V).one (oc rfl oc0)))) rfl rfl <| hk dG (nq 2 rfl (nq 3 rfl (nq 4 rfl (nq 5 rfl (nq 6 rfl ns))))) <| hz Ag <| jn [2, 3, 4, 5, 6, 1, 0] (a2 V hp)
 refine lp bN [5, 4, 2, 1, 0] rfl (fun s e L => ∃ ay az aa aW bz, s = (ay, az, aa) ∧ SlO 3 (nt .i64) ay h aW ∧ e = ovr bz [(1, .pointer (some ⟨J, 0, none⟩)), (2, .pointer (some ⟨b, 0, none⟩)), (5, q), (6, t), (7, h), (8, .int .i64 az), (31, .int .i64 (len aA)), (32, .int .i64 aa)] ∧ L = [bx J 41 [.int .i64 a1.params, .int .i64 a1.result, v2, f], bx b 41 [.int .i64 0, .int .i64 0, .slice none 0 0, .slice none 0 0], n, o, aW]) ⟨_, _, _, bJ, _, rfl, a0, nC _ _ rfl, rfl⟩ ?_
 rintro _ _ _ ⟨ay, az, aa, aW, bz, rfl, aX, rfl, rfl⟩ bA hp dH
 replace hp : nW.bd15 P aA ay az aa = some bA := hp
 refine sr <| tv (blt rfl rfl) rfl <| nz <| nv fun eM dI => cD rfl hp (fun dJ hp => ?_) fun dJ hp => ?_
 · refine sk dI rfl <| nv fun dK dL => ?_
   have bB {bC bD aY dM} (dN : SlO 3 (nt .i64) bC h aY) (hp : nW.jn181 aa bC bD = some bA) : ∀ w, St E H [bx J 41 [.int .i64 a1.params, .int .i64 a1.result, v2, f], bx b 41 [.int .i64 0, .int .i64 0, .slice none 0 0, .slice none 0 0], n, o, aY] w → dK (ovr dM [(1, .pointer (some ⟨J, 0, none⟩)), (2, .pointer (some ⟨b, 0, none⟩)), (5, q), (6, t), (7, h), (8, .int .i64 bD), (31, .int .i64 (len aA)), (32, .int .i64 aa)]) w := by
    exact tg dL <| nF <| tv (bad rfl rfl) rfl <| tm rfl <| nl <| gk hp [0, 1, 2, 3, 4] ⟨_, _, _, aY, _, rfl, dN, nC _ _ rfl, rfl⟩
   refine nB <| sr <| tm rfl <| ta rfl <| nz <| sr <| tm rfl <| tm rfl <| tO u25 i3 aX hp rfl rfl rfl rfl fun eN eO eP dO hp => tp [4, 0, 1, 2, 3] [_,_,_,_,_] rfl rfl <| tE aX dO m3 rfl ⟨rfl, rfl⟩ w1 fun eQ aZ => nz <| sr <| tm rfl <| tm rfl <| ti u58 i4 (am).ro hp rfl rfl rfl rfl ?_
   rintro eR eS eT _ hp rfl dP
   refine tv (lr s4 (Src.at_ 3 rfl) dP 0 rfl rfl) rfl <| nz <| cB rfl hp (fun dQ hp => ?_) fun dQ hp => ?_
   · exact sr <| tm rfl <| tm rfl <| tm rfl <| tO u25 i3 aZ hp rfl rfl rfl rfl fun eU eV eW dR hp => tE aZ dR m3 rfl ⟨rfl, rfl⟩ w1 fun eX dS => nz <| nF <| tm rfl <| tv (bad rfl rfl) rfl <| ta rfl <| nl <| jn [1, 2, 3, 4, 0] (bB dS hp)
   · exact TC.skip <| jn [1, 2, 3, 4, 0] (bB aZ hp)
 · exact nN <| jn [0, 1, 2, 3, 4] (bP aX (nK hp dH))
end
section
/-! ### fettle/consts.Fold -/
abbrev oL.R (r : ny × GErr) (v : Value) (A : List FP) : Prop := ∃ (w1 : Value) (a : FP) (w2 : Value) (b : FP) (w3 : Value) (c : FP), .tuple #[.agg #[.int .i64 r.1.params, .int .i64 r.1.result, w1, w2], w3] = v ∧ A = [a, b, c] ∧ SlO 3 (nt .i64) r.1.regs w1 a ∧ SlO 50 nY r.1.blocks w2 b ∧ ErO 63 106 108 r.2 w3 c
def oL.nx28 (a : PFinder) (b : List Int) (c : List nA) : Option (ny × GErr) :=
  (nW (⟨a.f.params, a.f.result, b, c⟩ : ny)).bind fun d =>
  some (d.1, GErr.no)
def oL.jn40 (a : Int) (b : List nA) : Option (Ex (List nA) (List nA × Int)) :=
  some (.go (b, (w64 (a + 1))))
def oL.bd28 (b : PFinder) (d : List PTerm) (c : List nA) (a : Int) : Option (Ex (List nA) (List nA × Int)) :=
  if a < (len b.f.blocks) then
    (ol b a d).bind fun e =>
    (cat c [e]).bind fun g =>
    oL.jn40 a g
  else
    some (.ret c)
def oL.jn20 (a : PFinder) (b : List PTerm) (c : List Int) : Option (ny × GErr) :=
  (whl (fun (s : (List nA × Int)) => oL.bd28 a b s.1 s.2) nD (([] : List nA), 0)).bind fun z =>
  oL.nx28 a c z
def oL.nx15 (a : PFinder) (b : List PTerm) : Option (ny × GErr) :=
  (pJ a.f.regs).bind fun c =>
  oL.jn20 a b c
def oL.bd15 (b : PFinder) (c : List PTerm) (a : Int) : Option (Ex (List PTerm) (List PTerm × Int)) :=
  if a < (len b.f.blocks) then
    (pR b a).bind fun d =>
    (cat c [d]).bind fun e =>
    some (.go (e, (w64 (a + 1))))
  else
    some (.ret c)
def oL (a1 : nR) (a4 : Int) : Option (ny × GErr) :=
  (oe a1 a4).bind fun b =>
  (match b with
  | .ret c =>
    some ((⟨0, 0, ([] : List Int), ([] : List nA)⟩ : ny), c)
  | .go a =>
    if ¬ GErr.no = GErr.no then
      some ((⟨0, 0, ([] : List Int), ([] : List nA)⟩ : ny), GErr.no)
    else
      (whl (fun (s : (List PTerm × Int)) => oL.bd15 a s.1 s.2) nD (([] : List PTerm), 0)).bind fun z =>
      oL.nx15 a z)
set_option maxHeartbeats 4000000 in
theorem sO {E : World} {H : FP} {w : World} {a1 : nR} {a4 : Int} {v2 : Value} {r : ny × GErr} (aN : SlI ou H a1.funcs v2) (hp : oL a1 a4 = some r) (hst : St E H [] w) :
    Fn Try.prog 18 #[.agg #[v2], .int .i64 a4] w fun v w' => ∃ A, oL.R r v A ∧ St E H A w' := by
 refine Fn.bodyV (fn := Try.f18) (args := [.agg #[v2], .int .i64 a4]) E H [] 80 Try.func18 rfl rfl (leb rfl) hst <| sr <| tb [v2] rfl rfl fun h => tl i41 rfl fun b => ta rfl <| nz <| sr <| tv (lA (ds := [v2]) oZ 1 rfl rfl rfl rfl) rfl <| tm rfl <| bE hp fun aO hy1 hp => tc 0 [_,_] rfl c33 (fun _ => t8 (a1 := a1) (a4 := a4) (aN.mono nw) hy1) rfl ?_
 rcases aO with b4 | a
 · rintro _ _ ⟨aP, aQ, rfl, rfl, az, hn2⟩
   refine tm rfl <| tv (xt rfl rfl) rfl <| tv (xt rfl rfl) rfl <| ta rfl <| ta rfl <| nz <| nv fun b5 b6 => sr <| tm rfl <| tv (pw pc az rfl) rfl <| nz <| TC.condT (bT hn2) <| sr <| tv (n9 (vs := []) (ds := [.int .i64 0, .int .i64 0, .slice none 0 0, .slice none 0 0]) rfl (fun w => by kernel_rfl)) rfl <| tm rfl <| tS 1 m41 rfl rfl [.int .i64 0, .int .i64 0, .slice none 0 0, .slice none 0 0] rfl (oc rfl (oc rfl (oc rfl (oc rfl oc0)))) rfl rfl <| ta rfl <| nz <| nH <| W.new0 <| W.new0 ?_
   obtain rfl := Option.some.inj hp
   exact fun w hw => retC2 hw rfl rfl rfl n8 3 rfl rfl ⟨(.slice none 0 0), ([] : FP), (.slice none 0 0), ([] : FP), aP, aQ, rfl, rfl, (SlO.nil 3), (SlO.nil 50), az⟩ (hw.pickA [1, 0, 2] rfl)
 · rintro _ _ ⟨d, m, n, o, q, t, u, y, z, B, C, rfl, rfl, aR, aS, ai, aj, ak, am⟩
   have P := SlI.mono (G' := (bx b 41 [.int .i64 0, .int .i64 0, .slice none 0 0, .slice none 0 0] ++ (bx h 35 [v2] ++ H))) aR (fun p hp => by simp only [List.flatten_cons, List.flatten_nil, List.append_nil, List.mem_append, or_assoc] at hp ⊢; exact hp)
   have Q := SlI.mono (G' := (bx b 41 [.int .i64 0, .int .i64 0, .slice none 0 0, .slice none 0 0] ++ (bx h 35 [v2] ++ H))) aS (fun p hp => by simp only [List.flatten_cons, List.flatten_nil, List.append_nil, List.mem_append, or_assoc] at hp ⊢; exact hp)
   refine tm rfl <| tv (xt rfl rfl) rfl <| tv (xt rfl rfl) rfl <| ta rfl <| ta rfl <| nz <| nv fun b7 aT => sr <| tm rfl <| tv (pw pc (ErO.nil : ErO 63 106 108 GErr.no .nilIface []) rfl) rfl <| nz <| cD rfl hp (fun aU hp => ?_) fun aU hp => ?_
   · refine sr <| tv (n9 (vs := []) (ds := [.int .i64 0, .int .i64 0, .slice none 0 0, .slice none 0 0]) rfl (fun w => by kernel_rfl)) rfl <| tm rfl <| tS 5 m41 rfl rfl [.int .i64 0, .int .i64 0, .slice none 0 0, .slice none 0 0] rfl (oc rfl (oc rfl (oc rfl (oc rfl oc0)))) rfl rfl <| ta rfl <| nz <| nH <| W.new0 <| W.new0 <| W.new0 ?_
     obtain rfl := Option.some.inj hp
     exact fun w hw => retC2 hw rfl rfl rfl n8 8 rfl rfl ⟨(.slice none 0 0), ([] : FP), (.slice none 0 0), ([] : FP), .nilIface, ([] : FP), rfl, rfl, (SlO.nil 3), (SlO.nil 50), (ErO.nil : ErO 63 106 108 GErr.no .nilIface [])⟩ (hw.pickA [2, 1, 0] rfl)
   · refine sk aT rfl <| sr <| ta rfl <| nz <| nv fun aV aW => sr <| tm rfl <| tv (nE rfl) rfl <| tv (fa qn rfl) rfl <| tv (fa oa rfl) rfl <| tv (lb s39 0 rfl rfl rfl) rfl <| tv (ln u39 Q rfl) rfl <| tm rfl <| nz <| nB <| bE hp fun aX aY aZ => ?_
     have a0 {D S g a3} (aA : SlO 46 kTerm D S g) (a5 : D = aX) : ∀ w, St E H [bx b 41 [.int .i64 0, .int .i64 0, .slice none 0 0, .slice none 0 0], bx d 87 [.int .i64 a.f.params, .int .i64 a.f.result, m, n, o, t, y, B, .bool a.changed], bx h 35 [v2], q, u, z, C, g] w → aV (ovr a3 [(4, .pointer (some ⟨b, 0, none⟩)), (6, .pointer (some ⟨d, 0, none⟩)), (8, S)]) w := by
      subst a5
      replace hp : oL.nx15 a D = some r := aZ
      refine tg aW <| nv fun a6 a7 => ?_
      have aB {V i M N a8} (a9 : SlO 3 (nt .i64) V M N) (hp : oL.jn20 a D V = some r) : ∀ w, St E H [bx b 41 [.int .i64 0, .int .i64 0, .slice none 0 0, .slice none 0 0], bx d 87 [.int .i64 a.f.params, .int .i64 a.f.result, m, n, o, t, y, B, .bool a.changed], bx h 35 [v2], q, u, z, C, g, bx i 41 [.int .i64 a.f.params, .int .i64 a.f.result, M, .slice none 0 0], N] w → a6 (ovr a8 [(4, .pointer (some ⟨b, 0, none⟩)), (6, .pointer (some ⟨d, 0, none⟩)), (8, S), (10, .pointer (some ⟨i, 0, none⟩))]) w := by
       refine tg a7 <| nv fun ba bb => sr <| tm rfl <| tv (nE rfl) rfl <| tv (fa qn rfl) rfl <| tv (fa oa rfl) rfl <| tv (lb s39 1 rfl rfl rfl) rfl <| tv (ln u39 Q rfl) rfl <| tm rfl <| nz <| nB <| bE hp fun bc be bf => ?_
       have bg {X an aC bh} (bi : SlO 50 (kBlkR g) X an aC) (bj : X = bc) : ∀ w, St E H [bx b 41 [.int .i64 0, .int .i64 0, .slice none 0 0, .slice none 0 0], bx i 41 [.int .i64 a.f.params, .int .i64 a.f.result, M, an], N, g, aC] w → ba (ovr bh [(4, .pointer (some ⟨b, 0, none⟩)), (10, .pointer (some ⟨i, 0, none⟩))]) w := by
        subst bj
        replace hp : oL.nx28 a V X = some r := bf
        refine tg bb <| sr <| tv (lA (ds := [.int .i64 a.f.params, .int .i64 a.f.result, M, an]) n8 1 rfl rfl rfl rfl) rfl <| bE hp fun O hy30 hp => tc 0 [_,_,_,_,_] rfl c36 (fun _ => ud (a1 := (⟨a.f.params, a.f.result, V, X⟩ : ny)) (a9.ro.mono (subB 2 rfl)) ((SlO.refB (H := H) bi).mono (subO (subB 4 rfl) (subO (subB 3 rfl) nw))) hy30) rfl ?_
        rintro _ _ ⟨Y, bk, Z, bl, b8, b9, rfl, rfl, ao, ap, ca⟩
        refine tm rfl <| tv (xt rfl rfl) rfl <| tv (xt rfl rfl) rfl <| tS 4 m41 rfl rfl [.int .i64 O.1.params, .int .i64 O.1.result, Y, Z] rfl (oc rfl (oc rfl (oc (ao).one (oc (ap).one oc0)))) rfl rfl <| nz <| sr <| tv (lA (ds := [.int .i64 O.1.params, .int .i64 O.1.result, Y, Z]) n8 4 rfl rfl rfl rfl) rfl <| tS 3 m41 rfl rfl [.int .i64 O.1.params, .int .i64 O.1.result, Y, Z] rfl (oc rfl (oc rfl (oc (ao).one (oc (ap).one oc0)))) rfl rfl <| ta rfl <| nz <| nH <| W.new0 ?_
        obtain rfl := Option.some.inj hp
        exact fun w hw => retC2 hw rfl rfl rfl n8 4 rfl rfl ⟨Y, bk, Z, bl, .nilIface, ([] : FP), rfl, rfl, ao, ap, (ErO.nil : ErO 63 106 108 GErr.no .nilIface [])⟩ (hw.pickA [1, 2, 0] rfl)
       refine W.new0 <| lp be [1, 2, 3, 4, 5, 6, 7, 8, 9, 10, 0] rfl (fun s e L => ∃ aa j aq ar aD, s = (aa, j) ∧ SlO 50 (kBlkR g) aa aq ar ∧ e = ovr aD [(4, .pointer (some ⟨b, 0, none⟩)), (6, .pointer (some ⟨d, 0, none⟩)), (8, S), (10, .pointer (some ⟨i, 0, none⟩)), (60, .int .i64 (len a.f.blocks)), (61, .int .i64 j)] ∧ L = [bx b 41 [.int .i64 0, .int .i64 0, .slice none 0 0, .slice none 0 0], bx d 87 [.int .i64 a.f.params, .int .i64 a.f.result, m, n, o, t, y, B, .bool a.changed], bx h 35 [v2], q, u, z, C, g, bx i 41 [.int .i64 a.f.params, .int .i64 a.f.result, M, aq], N, ar]) ⟨_, _, (.slice none 0 0), ([] : FP), _, rfl, (SlO.nil 50), nC _ _ rfl, rfl⟩ ?_
       rintro _ _ _ ⟨aa, j, aq, ar, aD, rfl, ab, rfl, rfl⟩ aE hp bm
       replace hp : oL.bd28 a D aa j = some aE := hp
       refine sr <| tv (blt rfl rfl) rfl <| nz <| nv fun cb bn => cD rfl hp (fun bo hp => ?_) fun bo hp => ?_
       · refine sk bn rfl <| nv fun bp bq => ?_
         have au {aF av aw br} (bs : SlO 50 (kBlkR g) aF av aw) (hp : oL.jn40 j aF = some aE) : ∀ w, St E H [bx b 41 [.int .i64 0, .int .i64 0, .slice none 0 0, .slice none 0 0], bx d 87 [.int .i64 a.f.params, .int .i64 a.f.result, m, n, o, t, y, B, .bool a.changed], bx h 35 [v2], q, u, z, C, g, bx i 41 [.int .i64 a.f.params, .int .i64 a.f.result, M, av], N, aw] w → bp (ovr br [(4, .pointer (some ⟨b, 0, none⟩)), (6, .pointer (some ⟨d, 0, none⟩)), (8, S), (10, .pointer (some ⟨i, 0, none⟩)), (60, .int .i64 (len a.f.blocks)), (61, .int .i64 j)]) w := by
          exact tg bq <| nF <| tv (bad rfl rfl) rfl <| tm rfl <| nl <| gk hp [0, 1, 2, 3, 4, 5, 6, 7, 8, 9, 10] ⟨_, _, av, aw, _, rfl, bs, nC _ _ rfl, rfl⟩
         refine nB <| sr <| tm rfl <| ta rfl <| nz <| ch mix [bx b 41 [.int .i64 0, .int .i64 0, .slice none 0 0, .slice none 0 0], bx d 87 [.int .i64 a.f.params, .int .i64 a.f.result, m, n, o, t, y, B, .bool a.changed], bx h 35 [v2], q, u, z, C, g, N] (nq 0 rfl (nq 1 rfl (nq 2 rfl (nq 3 rfl (nq 4 rfl (nq 5 rfl (nq 6 rfl (nq 7 rfl (nq 9 rfl ns))))))))) <| hv 0 rfl (fa oa rfl) Ag rfl <| hv 2 rfl mv Ag rfl <| hv 3 rfl mv Ag rfl <| hv 4 rfl mv Ag rfl <| nT [1, 5] Ag (by simp) (nG ⟨_, rfl, fun cc bt => ?_⟩ (nG ⟨_, rfl, fun cd bu => ?_⟩ nU))
         · refine tv (lb s39 8 rfl rfl rfl) rfl <| hk bt (nq 0 rfl (nq 1 rfl (nq 2 rfl (nq 3 rfl (nq 4 rfl (nq 5 rfl (nq 6 rfl (nq 7 rfl (nq 9 rfl ns))))))))) <| ho 5 rfl Ag fun ce bv => bE hp fun c hy45 hp => tc 0 [_,_,_,_,_,_,_,_,_,_,_] rfl c35 (fun _ => ub (a2 := a) (a17 := j) (a18 := D) ((pi d 87 _).mono (subB 1 rfl)) (P.mono (subO (subB 0 rfl) (subO (subB 2 rfl) nw))) (Q.mono (subO (subB 0 rfl) (subO (subB 2 rfl) nw))) (ai.ro.mono (subB 3 rfl)) (aj.ro.mono (subB 4 rfl)) (ak.ro.mono (subB 5 rfl)) (am.ro.mono (subB 6 rfl)) (subB 7 rfl) aA.ro hy45) rfl ?_
           rintro _ _ ⟨F, ac, G, ad, I, rfl, rfl, ae, af, ag⟩
           exact hk bv (nq 2 rfl (nq 3 rfl (nq 4 rfl (nq 5 rfl (nq 6 rfl (nq 7 rfl (nq 8 rfl (nq 9 rfl (nq 11 rfl ns))))))))) <| ho 6 rfl Ag fun cf bw => tbs [(0, .agg #[F, G, .int .i64 c.term.kind, .int .i64 c.term.arg, I])] [F, G, .int .i64 c.term.kind, .int .i64 c.term.arg, I] u39 i50 Ag rfl rfl rfl rfl fun aG => hk bw (nq 3 rfl (nq 4 rfl (nq 5 rfl (nq 6 rfl (nq 7 rfl (nq 8 rfl (nq 9 rfl (nq 10 rfl (nq 12 rfl ns))))))))) <| ho 7 rfl Ag fun cg bz => tp [13, 0, 1, 2, 3, 4, 5, 6, 7, 8, 9, 10, 11, 12] [_,_,_,_,_,_,_,_,_,_,_,_,_,_] rfl rfl <| tf 2 2 [_,_,_,_,_,_,_,_,_,_,_,_,_] rfl <| tp2 u39 i50 ab hp (RepL.to (G' := ac ++ (ad)) (RepL.cons (k := (kBlkR g)) (x := c) ⟨_, _, _, _, _, rfl, rfl, ae, af, ag⟩ RepL.nil) (by simp)) rfl rfl rfl rfl rfl rfl rfl rfl rfl fun aH aI aJ l hp => hk bz (nq 1 rfl (nq 2 rfl (nq 3 rfl (nq 4 rfl (nq 5 rfl (nq 6 rfl (nq 7 rfl (nq 8 rfl (nq 10 rfl ns))))))))) <| hv 8 rfl (fa oa rfl) Ag rfl <| ho 9 rfl Ag fun ci bA => ts 9 m39 rfl rfl l.o1 rfl <| hk bA (nq 1 rfl (nq 2 rfl (nq 3 rfl (nq 4 rfl (nq 5 rfl (nq 6 rfl (nq 7 rfl (nq 8 rfl (nq 10 rfl ns))))))))) <| hz Ag <| jn [1, 2, 3, 4, 5, 6, 7, 8, 9, 10, 0] (au l hp)
         · refine bE hp fun c hy56 hp => tc 0 [_,_,_,_,_,_,_,_,_,_,_] rfl c35 (fun _ => ub (a2 := a) (a17 := j) (a18 := D) ((pi d 87 _).mono (subB 1 rfl)) (P.mono (subO (subB 0 rfl) (subO (subB 2 rfl) nw))) (Q.mono (subO (subB 0 rfl) (subO (subB 2 rfl) nw))) (ai.ro.mono (subB 3 rfl)) (aj.ro.mono (subB 4 rfl)) (ak.ro.mono (subB 5 rfl)) (am.ro.mono (subB 6 rfl)) (subB 7 rfl) aA.ro hy56) rfl ?_
           rintro _ _ ⟨F, ac, G, ad, I, rfl, rfl, ae, af, ag⟩
           refine hk bu (nq 2 rfl (nq 3 rfl (nq 4 rfl (nq 5 rfl (nq 6 rfl (nq 7 rfl (nq 8 rfl (nq 9 rfl (nq 11 rfl ns))))))))) <| nT [1, 6] Ag (by simp) (nG ⟨_, rfl, fun cj bB => ?_⟩ (nG ⟨_, rfl, fun ck bC => ?_⟩ nU))
           · exact tv (lb s39 10 rfl rfl rfl) rfl <| hk bB (nq 2 rfl (nq 3 rfl (nq 4 rfl (nq 5 rfl (nq 6 rfl (nq 7 rfl (nq 8 rfl (nq 9 rfl (nq 11 rfl ns))))))))) <| ho 6 rfl Ag fun cl bD => tbs [(0, .agg #[F, G, .int .i64 c.term.kind, .int .i64 c.term.arg, I])] [F, G, .int .i64 c.term.kind, .int .i64 c.term.arg, I] u39 i50 Ag rfl rfl rfl rfl fun aG => hk bD (nq 3 rfl (nq 4 rfl (nq 5 rfl (nq 6 rfl (nq 7 rfl (nq 8 rfl (nq 9 rfl (nq 10 rfl (nq 12 rfl ns))))))))) <| ho 7 rfl Ag fun cm bF => tp [13, 0, 1, 2, 3, 4, 5, 6, 7, 8, 9, 10, 11, 12] [_,_,_,_,_,_,_,_,_,_,_,_,_,_] rfl rfl <| tf 2 2 [_,_,_,_,_,_,_,_,_,_,_,_,_] rfl <| tp2 u39 i50 ab hp (RepL.to (G' := ac ++ (ad)) (RepL.cons (k := (kBlkR g)) (x := c) ⟨_, _, _, _, _, rfl, rfl, ae, af, ag⟩ RepL.nil) (by simp)) rfl rfl rfl rfl rfl rfl rfl rfl rfl fun aH aI aJ l hp => hk bF (nq 1 rfl (nq 2 rfl (nq 3 rfl (nq 4 rfl (nq 5 rfl (nq 6 rfl (nq 7 rfl (nq 8 rfl (nq 10 rfl ns))))))))) <| hv 8 rfl (fa oa rfl) Ag rfl <| ho 9 rfl Ag fun cn bG => ts 9 m39 rfl rfl l.o1 rfl <| hk bG (nq 1 rfl (nq 2 rfl (nq 3 rfl (nq 4 rfl (nq 5 rfl (nq 6 rfl (nq 7 rfl (nq 8 rfl (nq 10 rfl ns))))))))) <| hz Ag <| jn [1, 2, 3, 4, 5, 6, 7, 8, 9, 10, 0] (au l hp)
           · exact tbs [(0, .agg #[F, G, .int .i64 c.term.kind, .int .i64 c.term.arg, I])] [F, G, .int .i64 c.term.kind, .int .i64 c.term.arg, I] u39 i50 Ag rfl rfl rfl rfl fun aG => hk bC (nq 3 rfl (nq 4 rfl (nq 5 rfl (nq 6 rfl (nq 7 rfl (nq 8 rfl (nq 9 rfl (nq 10 rfl (nq 12 rfl ns))))))))) <| ho 1 rfl Ag fun co bH => tv (lb s39 11 rfl rfl rfl) rfl <| hk bH (nq 3 rfl (nq 4 rfl (nq 5 rfl (nq 6 rfl (nq 7 rfl (nq 8 rfl (nq 9 rfl (nq 10 rfl (nq 12 rfl ns))))))))) <| ho 7 rfl Ag fun cp bI => tp [13, 0, 1, 2, 3, 4, 5, 6, 7, 8, 9, 10, 11, 12] [_,_,_,_,_,_,_,_,_,_,_,_,_,_] rfl rfl <| tf 2 2 [_,_,_,_,_,_,_,_,_,_,_,_,_] rfl <| tp2 u39 i50 ab hp (RepL.to (G' := ac ++ (ad)) (RepL.cons (k := (kBlkR g)) (x := c) ⟨_, _, _, _, _, rfl, rfl, ae, af, ag⟩ RepL.nil) (by simp)) rfl rfl rfl rfl rfl rfl rfl rfl rfl fun aH aI aJ l hp => hk bI (nq 1 rfl (nq 2 rfl (nq 3 rfl (nq 4 rfl (nq 5 rfl (nq 6 rfl (nq 7 rfl (nq 8 rfl (nq 10 rfl ns))))))))) <| hv 8 rfl (fa oa rfl) Ag rfl <| ho 9 rfl Ag fun cq bJ => ts 9 m39 rfl rfl l.o1 rfl <| hk bJ (nq 1 rfl (nq 2 rfl (nq 3 rfl (nq 4 rfl (nq 5 rfl (nq 6 rfl (nq 7 rfl (nq 8 rfl (nq 10 rfl ns))))))))) <| hz Ag <| jn [1, 2, 3, 4, 5, 6, 7, 8, 9, 10, 0] (au l hp)
       · exact nN <| jn [0, 8, 9, 7, 10] (bg ab (nK hp bm))
      refine ch mix [bx b 41 [.int .i64 0, .int .i64 0, .slice none 0 0, .slice none 0 0], bx d 87 [.int .i64 a.f.params, .int .i64 a.f.result, m, n, o, t, y, B, .bool a.changed], bx h 35 [v2], q, u, z, C, g] (nq 0 rfl (nq 1 rfl (nq 2 rfl (nq 3 rfl (nq 4 rfl (nq 5 rfl (nq 6 rfl (nq 7 rfl ns)))))))) <| hv 0 rfl mv Ag rfl <| hv 1 rfl (nE rfl) Ag rfl <| hv 2 rfl (fa qn rfl) Ag rfl <| hv 3 rfl (fa po rfl) Ag rfl <| hv 4 rfl (lbG s3 1 rfl rfl rfl) Ag rfl <| hv 5 rfl mv Ag rfl <| hv 6 rfl (nE rfl) Ag rfl <| hv 7 rfl (fa qn rfl) Ag rfl <| hv 8 rfl (fa p5 rfl) Ag rfl <| hv 9 rfl (lbG s3 1 rfl rfl rfl) Ag rfl <| hv 10 rfl mv Ag rfl <| hv 11 rfl (nE rfl) Ag rfl <| hv 12 rfl (fa qn rfl) Ag rfl <| hv 13 rfl (fa o7 rfl) Ag rfl <| hv 14 rfl (lbG s25 1 rfl rfl rfl) Ag rfl <| nT [15, 17] Ag (by simp) (nG ⟨_, rfl, fun cr bK => ?_⟩ (nG ⟨_, rfl, fun cs bL => ?_⟩ nU))
      · refine bE hp fun bM hy80 hp => tc 0 [_,_,_,_,_,_,_,_] rfl c28 (fun _ => pQ (a1 := a.f.regs) (P.mono (subO (subB 0 rfl) (subO (subB 2 rfl) nw))) hy80) rfl ?_
        rintro _ _ ⟨J, bN, rfl, rfl, K⟩
        exact hk bK (nq 1 rfl (nq 2 rfl (nq 3 rfl (nq 4 rfl (nq 5 rfl (nq 6 rfl (nq 7 rfl (nq 8 rfl ns)))))))) <| hv 16 rfl (n9 (vs := [(0, .int .i64 a.f.params), (1, .int .i64 a.f.result), (2, J)]) (ds := [.int .i64 a.f.params, .int .i64 a.f.result, J, .slice none 0 0]) rfl (fun w => by obtain ⟨_, _, rfl⟩ := (K).len; kernel_rfl)) Ag rfl <| ho 17 rfl Ag fun ct bO => tl i41 rfl fun bP => hk bO (nq 2 rfl (nq 3 rfl (nq 4 rfl (nq 5 rfl (nq 6 rfl (nq 7 rfl (nq 8 rfl (nq 9 rfl ns)))))))) <| ho 18 rfl Ag fun cu bQ => tS 0 m41 rfl rfl [.int .i64 a.f.params, .int .i64 a.f.result, J, .slice none 0 0] rfl (oc rfl (oc rfl (oc (K).one (oc rfl oc0)))) rfl rfl <| hk bQ (nq 2 rfl (nq 3 rfl (nq 4 rfl (nq 5 rfl (nq 6 rfl (nq 7 rfl (nq 8 rfl (nq 9 rfl ns)))))))) <| hz Ag <| jn [2, 3, 4, 5, 6, 7, 8, 9, 0, 1] (aB K hp)
      · refine tl i41 rfl fun bP => hk bL (nq 1 rfl (nq 2 rfl (nq 3 rfl (nq 4 rfl (nq 5 rfl (nq 6 rfl (nq 7 rfl (nq 8 rfl ns)))))))) <| ho 15 rfl Ag fun cv bR => bE hp fun bM hy90 hp => tc 0 [_,_,_,_,_,_,_,_,_] rfl c28 (fun _ => pQ (a1 := a.f.regs) (P.mono (subO (subB 1 rfl) (subO (subB 3 rfl) nw))) hy90) rfl ?_
        rintro _ _ ⟨J, bN, rfl, rfl, K⟩
        exact hk bR (nq 2 rfl (nq 3 rfl (nq 4 rfl (nq 5 rfl (nq 6 rfl (nq 7 rfl (nq 8 rfl (nq 9 rfl ns)))))))) <| hv 16 rfl (n9 (vs := [(0, .int .i64 a.f.params), (1, .int .i64 a.f.result), (2, J)]) (ds := [.int .i64 a.f.params, .int .i64 a.f.result, J, .slice none 0 0]) rfl (fun w => by obtain ⟨_, _, rfl⟩ := (K).len; kernel_rfl)) Ag rfl <| ho 18 rfl Ag fun cw bS => tS 1 m41 rfl rfl [.int .i64 a.f.params, .int .i64 a.f.result, J, .slice none 0 0] rfl (oc rfl (oc rfl (oc (K).one (oc rfl oc0)))) rfl rfl <| hk bS (nq 2 rfl (nq 3 rfl (nq 4 rfl (nq 5 rfl (nq 6 rfl (nq 7 rfl (nq 8 rfl (nq 9 rfl ns)))))))) <| hz Ag <| jn [2, 3, 4, 5, 6, 7, 8, 9, 1, 0] (aB K hp)
     refine W.new0 <| lp aY [6, 1, 7, 2, 3, 4, 5, 0] rfl (fun s e L => ∃ ah T ax ay aK, s = (ah, T) ∧ SlO 46 kTerm ah ax ay ∧ e = ovr aK [(4, .pointer (some ⟨b, 0, none⟩)), (6, .pointer (some ⟨d, 0, none⟩)), (8, ax), (27, .int .i64 (len a.f.blocks)), (28, .int .i64 T)] ∧ L = [bx b 41 [.int .i64 0, .int .i64 0, .slice none 0 0, .slice none 0 0], bx d 87 [.int .i64 a.f.params, .int .i64 a.f.result, m, n, o, t, y, B, .bool a.changed], bx h 35 [v2], q, u, z, C, ay]) ⟨_, _, (.slice none 0 0), ([] : FP), _, rfl, (SlO.nil 46), nC _ _ rfl, rfl⟩ ?_
     rintro _ _ _ ⟨ah, T, ax, ay, aK, rfl, aL, rfl, rfl⟩ bU hp bV
     replace hp : oL.bd15 a ah T = some bU := hp
     refine sr <| tv (blt rfl rfl) rfl <| nz <| nv fun cx bW => cD rfl hp (fun bX hp => ?_) fun bX hp => ?_
     · refine sk bW rfl <| nv fun cy bY => nB <| sr <| tm rfl <| ta rfl <| nz <| nF <| tm rfl <| tm rfl <| tm rfl <| bE hp fun U hy101 hp => tc 0 [_,_,_,_,_,_,_,_] rfl c34 (fun _ => wS (a2 := a) (a17 := T) ((pi d 87 _).mono (subB 1 rfl)) (P.mono (subO (subB 0 rfl) (subO (subB 2 rfl) nw))) (Q.mono (subO (subB 0 rfl) (subO (subB 2 rfl) nw))) (ai.ro.mono (subB 3 rfl)) (aj.ro.mono (subB 4 rfl)) (ak.ro.mono (subB 5 rfl)) (am.ro.mono (subB 6 rfl)) hy101) rfl ?_
       rintro _ _ ⟨aM, bZ, rfl, rfl, b0⟩
       exact tbs [(0, .agg #[.int .i64 U.kind, .int .i64 U.arg, aM])] [.int .i64 U.kind, .int .i64 U.arg, aM] u84 i46 Ag rfl rfl rfl rfl fun cz => tp [9, 0, 1, 2, 3, 4, 5, 6, 7, 8] [_,_,_,_,_,_,_,_,_,_] rfl rfl <| tp2 u84 i46 aL hp (RepL.to (G' := bZ) (RepL.cons (k := kTerm) (x := U) ⟨_, _, rfl, rfl, b0⟩ RepL.nil) (by simp)) rfl rfl rfl rfl rfl rfl rfl rfl rfl fun cA b1 b2 b3 hp => ta rfl <| nl <| tg bY <| nF <| tv (bad rfl rfl) rfl <| tm rfl <| nl <| gk hp [1, 2, 3, 4, 5, 6, 7, 0] ⟨_, _, b1, b2, _, rfl, b3, nC _ _ rfl, rfl⟩
     · exact nN <| jn [0, 1, 2, 3, 4, 5, 6, 7] (a0 aL (nK hp bV))
/-! ### fettle/fettlelaw16.up -/
abbrev rK.R (r : Bool) (v : Value) (A : List FP) : Prop := .bool r = v ∧ A = []
def rK  : Option Bool :=
  (qN (⟨[(⟨1, 1, [1], [(⟨([] : List PPhi), ([] : List nL), (⟨3, 0, ([] : List Int)⟩ : PTerm)⟩ : nA)]⟩ : ny)]⟩ : nR) 0).bind fun a =>
  (oL (⟨[]⟩ : nR) 0).bind fun b =>
  (if a.2.2 = GErr.no ∧ (len a.1) = 1 then (idx a.1 0).bind fun c =>
  some (decide (c.kind = 2)) else some false).bind fun d =>
  (if d = true ∧ (len a.2.1) = 1 then (idx a.2.1 0).bind fun e =>
  some e else some false).bind fun f =>
  some (decide (f = true ∧ b.2 = (GErr.code 1)))
set_option maxHeartbeats 4000000 in
theorem wU {E : World} {H : FP} {w : World} {r : Bool}  (hp : rK = some r) (hst : St E H [] w) :
    Fn Try.prog 17 #[] w fun v w' => ∃ A, rK.R r v A ∧ St E H A w' := by
 refine fb 54 [.tmp 0] Try.func17 rfl rfl rfl rfl rfl hst <| sr <| ta rfl <| nz <| sr <| tbs [(0, .int .i64 1)] [.int .i64 1] u25 i3 Ag rfl rfl rfl rfl fun c => tv (n9 (vs := [(0, .int .i64 3)]) (ds := [.int .i64 3, .int .i64 0, .slice none 0 0]) rfl (fun w => by kernel_rfl)) rfl <| tv (n9 (vs := [(2, .agg #[.int .i64 3, .int .i64 0, .slice none 0 0])]) (ds := [.slice none 0 0, .slice none 0 0, .int .i64 3, .int .i64 0, .slice none 0 0]) rfl (fun w => by kernel_rfl)) rfl <| tbs [(0, .agg #[.slice none 0 0, .slice none 0 0, .int .i64 3, .int .i64 0, .slice none 0 0])] [.slice none 0 0, .slice none 0 0, .int .i64 3, .int .i64 0, .slice none 0 0] u39 i50 Ag rfl rfl rfl rfl fun d => tv (n9 (vs := [(0, .int .i64 1), (1, .int .i64 1), (2, .slice (some ⟨c, 0, none⟩) 1 1), (3, .slice (some ⟨d, 0, none⟩) 1 1)]) (ds := [.int .i64 1, .int .i64 1, .slice (some ⟨c, 0, none⟩) 1 1, .slice (some ⟨d, 0, none⟩) 1 1]) rfl (fun w => by kernel_rfl)) rfl <| tl i41 rfl fun l => tp [2, 0, 1] [_,_,_] rfl rfl <| tf 1 0 [_,_,_,_] rfl <| TL.litOwn (n := 1) (xs := [1]) (RepL.to (RepL.cons (k := (nt .i64)) (x := 1) ⟨rfl, rfl⟩ RepL.nil) rfl) rfl rfl (ltb rfl) fun T I => TL.new0 <| TL.new0 <| TL.new0 <| tp [5, 2, 1, 0, 3, 4] [_,_,_,_,_,_] rfl rfl <| tf 1 3 [_,_,_,_] rfl <| TL.litOwn (n := 1) (xs := [(⟨([] : List PPhi), ([] : List nL), (⟨3, 0, ([] : List Int)⟩ : PTerm)⟩ : nA)]) (RepL.to (G' := ([] : FP) ++ (([] : FP) ++ (([] : FP)))) (RepL.cons (k := nY) (x := (⟨([] : List PPhi), ([] : List nL), (⟨3, 0, ([] : List Int)⟩ : PTerm)⟩ : nA)) ⟨_, _, _, _, _, _, rfl, rfl, (SlO.nil 70), (SlO.nil 52), (SlO.nil 3)⟩ RepL.nil) (by simp)) rfl rfl (ltb rfl) fun U J => tS 2 m41 rfl rfl [.int .i64 1, .int .i64 1, (.slice (some ⟨c, 0, none⟩) 1 1), (.slice (some ⟨d, 0, none⟩) 1 1)] rfl (oc rfl (oc rfl (oc (I).one (oc (J).one oc0)))) rfl rfl <| nz <| sr <| tv (lA (ds := [.int .i64 1, .int .i64 1, (.slice (some ⟨c, 0, none⟩) 1 1), (.slice (some ⟨d, 0, none⟩) 1 1)]) n8 2 rfl rfl rfl rfl) rfl <| tbs [(0, .agg #[.int .i64 1, .int .i64 1, (.slice (some ⟨c, 0, none⟩) 1 1), (.slice (some ⟨d, 0, none⟩) 1 1)])] [.int .i64 1, .int .i64 1, (.slice (some ⟨c, 0, none⟩) 1 1), (.slice (some ⟨d, 0, none⟩) 1 1)] u33 i41 Ag rfl rfl rfl rfl fun K => tv (n9 (vs := [(0, .slice (some ⟨K, 0, none⟩) 1 1)]) (ds := [.slice (some ⟨K, 0, none⟩) 1 1]) rfl (fun w => by kernel_rfl)) rfl <| tp [0, 2, 1, 3] [_,_,_,_] rfl rfl <| tf 1 2 [_,_,_] rfl <| TL.litOwn (n := 1) (xs := [(⟨1, 1, [1], [(⟨([] : List PPhi), ([] : List nL), (⟨3, 0, ([] : List Int)⟩ : PTerm)⟩ : nA)]⟩ : ny)]) (RepL.to (G' := T ++ (U)) (RepL.cons (k := ou) (x := (⟨1, 1, [1], [(⟨([] : List PPhi), ([] : List nL), (⟨3, 0, ([] : List Int)⟩ : PTerm)⟩ : nA)]⟩ : ny)) ⟨_, _, _, _, rfl, rfl, I, J⟩ RepL.nil) (by simp)) rfl rfl (ltb rfl) fun m V => bE hp fun z hy1 hp => tc 0 [_,_] rfl c19 (fun _ => t9 (a1 := (⟨[(⟨1, 1, [1], [(⟨([] : List PPhi), ([] : List nL), (⟨3, 0, ([] : List Int)⟩ : PTerm)⟩ : nA)]⟩ : ny)]⟩ : nR)) (a4 := 0) (V.ro.mono (subB 0 rfl)) hy1) rfl ?_
 rintro _ _ ⟨W, o, C, p, au, q, rfl, rfl, L, M, X⟩
 refine tm rfl <| tv (xt rfl rfl) rfl <| tv (xt rfl rfl) rfl <| tv (xt rfl rfl) rfl <| ta rfl <| ta rfl <| ta rfl <| nz <| sr <| tv (n9 (vs := []) (ds := [.slice none 0 0]) rfl (fun w => by kernel_rfl)) rfl <| bE hp fun a hy3 hp => tc 0 [_,_,_,_,_] rfl c18 (fun _ => sO (a1 := (⟨[]⟩ : nR)) (a4 := 0) ((SlI.nil (G := H) none 0).mono nw) hy3) rfl ?_
 rintro _ _ ⟨i, s, j, t, B, u, rfl, rfl, Y, Z, aa⟩
 refine tm rfl <| tv (xt rfl rfl) rfl <| tv (xt rfl rfl) rfl <| tl i41 rfl fun y => tS 0 m41 rfl rfl [.int .i64 a.1.params, .int .i64 a.1.result, i, j] rfl (oc rfl (oc rfl (oc (Y).one (oc (Z).one oc0)))) rfl rfl <| ta rfl <| nz <| sr <| tm rfl <| tv (ry pc X rfl) rfl <| tm rfl <| TL.cut 4 fun ab ac => ?_
 have N {ad} : ∀ w, St E H [bx y 41 [.int .i64 a.1.params, .int .i64 a.1.result, i, j], s, t, u, o, p, q, m, bx l 41 [.int .i64 1, .int .i64 1, (.slice (some ⟨c, 0, none⟩) 1 1), (.slice (some ⟨d, 0, none⟩) 1 1)]] w → ab (ovr ad [(31, .bool (decide (z.2.2 = GErr.no ∧ (len z.1) = 1))), (2, W), (3, C), (6, B)]) w := by
  refine tlg ac <| tm rfl <| bE hp fun D ht32 hp => TL.cut 6 fun ae af => ?_
  have O {ag} : ∀ w, St E H [bx y 41 [.int .i64 a.1.params, .int .i64 a.1.result, i, j], s, t, u, o, p, q, m, bx l 41 [.int .i64 1, .int .i64 1, (.slice (some ⟨c, 0, none⟩) 1 1), (.slice (some ⟨d, 0, none⟩) 1 1)]] w → ae (ovr ag [(38, .bool D), (3, C), (6, B)]) w := by
   refine tlg af <| tm rfl <| TL.cut 4 fun ah ai => ?_
   have P {aj} : ∀ w, St E H [bx y 41 [.int .i64 a.1.params, .int .i64 a.1.result, i, j], s, t, u, o, p, q, m, bx l 41 [.int .i64 1, .int .i64 1, (.slice (some ⟨c, 0, none⟩) 1 1), (.slice (some ⟨d, 0, none⟩) 1 1)]] w → ah (ovr aj [(43, .bool (decide (D = true ∧ (len z.2.1) = 1))), (3, C), (6, B)]) w := by
    refine tlg ai <| tm rfl <| bE hp fun F ht30 hp => TL.cut 4 fun ak al => ?_
    have Q {am} : ∀ w, St E H [bx y 41 [.int .i64 a.1.params, .int .i64 a.1.result, i, j], s, t, u, o, p, q, m, bx l 41 [.int .i64 1, .int .i64 1, (.slice (some ⟨c, 0, none⟩) 1 1), (.slice (some ⟨d, 0, none⟩) 1 1)]] w → ak (ovr am [(48, .bool F), (6, B)]) w := by
     refine tlg al <| tm rfl <| TL.cut 4 fun an ao => ?_
     have S {ap} : ∀ w, St E H [bx y 41 [.int .i64 a.1.params, .int .i64 a.1.result, i, j], s, t, u, o, p, q, m, bx l 41 [.int .i64 1, .int .i64 1, (.slice (some ⟨c, 0, none⟩) 1 1), (.slice (some ⟨d, 0, none⟩) 1 1)]] w → an (ovr ap [(53, .bool (decide (F = true ∧ a.2 = (GErr.code 1))))]) w := by
      exact tlg ao <| ta rfl <| nz <| nH <| rt hp [] ⟨rfl, rfl⟩
     by_cases e : F = true
     · exact gy rfl (bbT e) <| tm rfl <| gy rfl (bbT e) <| tv (mI u63 rfl) rfl <| gy rfl (bbT e) <| tv (vY pc wb Try.underlying63 Try.underlying106 (by decide) aa rfl rfl) rfl <| tv (pT (bbT e)) rfl <| nj S (bAt e)
     · exact gn rfl (bbF e) rfl rfl <| gn rfl (bbF e) rfl rfl <| gn rfl (bbF e) rfl rfl <| tv (pF (bbF e)) rfl <| nj S (bAf e)
    refine ifE ht30 (fun h hp => ?_) fun h hp => ?_
    · refine gy rfl (bT h) <| tm rfl <| gy rfl (bT h) <| ti u58 i4 (M).ro hp rfl rfl rfl rfl ?_
      rintro av aw ax _ hp rfl aq
      refine gy rfl (bT h) <| tv (lr s4 (Src.at_ 5 rfl) aq 0 rfl rfl) rfl <| tv (pT (bT h)) rfl ?_
      obtain rfl := Option.some.inj hp
      exact nj Q rfl
    · refine gn rfl (bF h) rfl rfl <| gn rfl (bF h) rfl rfl <| gn rfl (bF h) rfl rfl <| tv (pF (bF h)) rfl ?_
      obtain rfl := Option.some.inj hp
      exact nj Q rfl
   by_cases f : D = true
   · exact gy rfl (bbT f) <| tm rfl <| gy rfl (bbT f) <| tv (ln u58 M.ro rfl) rfl <| gy rfl (bbT f) <| tv (beq rfl rfl) rfl <| tv (pT (bbT f)) rfl <| nj P (bAt f)
   · exact gn rfl (bbF f) rfl rfl <| gn rfl (bbF f) rfl rfl <| gn rfl (bbF f) rfl rfl <| tv (pF (bbF f)) rfl <| nj P (bAf f)
  refine ifE ht32 (fun b hp => ?_) fun b hp => ?_
  · refine gy rfl (bT b) <| tm rfl <| gy rfl (bT b) <| ti u57 i62 (L).ro hp rfl rfl rfl rfl ?_
    rintro ay az aA _ hp rfl ar
    refine gy rfl (bT b) <| tv (fa p7 rfl) rfl <| gy rfl (bT b) <| tv (lr s3 (Src.at_ 4 rfl) ar 0 rfl rfl) rfl <| gy rfl (bT b) <| tv (beq rfl rfl) rfl <| tv (pT (bT b)) rfl ?_
    obtain rfl := Option.some.inj hp
    exact nj O rfl
  · refine gn rfl (bF b) rfl rfl <| gn rfl (bF b) rfl rfl <| gn rfl (bF b) rfl rfl <| gn rfl (bF b) rfl rfl <| gn rfl (bF b) rfl rfl <| tv (pF (bF b)) rfl ?_
    obtain rfl := Option.some.inj hp
    exact nj O rfl
 by_cases g : z.2.2 = GErr.no
 · exact gy rfl (bT g) <| tm rfl <| gy rfl (bT g) <| tv (ln u57 L.ro rfl) rfl <| gy rfl (bT g) <| tv (beq rfl rfl) rfl <| tv (pT (bT g)) rfl <| nj N (bAt g)
 · exact gn rfl (bF g) rfl rfl <| gn rfl (bF g) rfl rfl <| gn rfl (bF g) rfl rfl <| tv (pF (bF g)) rfl <| nj N (bAf g)
/-! ### fettle/fettleref02.Small -/
abbrev ov.R (r : Bool) (v : Value) (A : List FP) : Prop := .bool r = v ∧ A = []
def ov.nx11  : Option Bool :=
  some true
def ov.nx39 (a : Int) : Option (Ex (Ex Bool Unit) Int) :=
  some (.go (w64 (a + 1)))
def ov.nx76 (a : Int) : Option (Ex (Ex Bool Unit) Int) :=
  some (.go (w64 (a + 1)))
def ov.bd76 (b : nA) (a : Int) : Option (Ex (Ex Bool Unit) Int) :=
  if a < (len b.phis) then
    (idx b.phis a).bind fun c =>
    if (len c.args) > 300 then
      some (.ret (.ret false))
    else
      some (.go (w64 (a + 1)))
  else
    some (.ret (.go ()))
def ov.nx69 (a : Int) (b : nA) : Option (Ex (Ex Bool Unit) Int) :=
  (whl (fun (s : Int) => ov.bd76 b s) nD 0).bind fun z =>
  match z with
    | .ret r => some (.ret (.ret r))
    | .go p => ov.nx76 a
def ov.bd69 (b : nA) (a : Int) : Option (Ex (Ex Bool Unit) Int) :=
  if a < (len b.ins) then
    (idx b.ins a).bind fun c =>
    if (len c.args) > 300 then
      some (.ret (.ret false))
    else
      some (.go (w64 (a + 1)))
  else
    some (.ret (.go ()))
def ov.bd39 (c : ny) (b : Int) : Option (Ex (Ex Bool Unit) Int) :=
  if b < (len c.blocks) then
    (idx c.blocks b).bind fun a =>
    if ((len a.ins) > 300 ∨ (len a.phis) > 300) ∨ (len a.term.to) > 70 then
      some (.ret (.ret false))
    else
      (whl (fun (s : Int) => ov.bd69 a s) nD 0).bind fun z =>
      match z with
        | .ret r => some (.ret (.ret r))
        | .go p => ov.nx69 b a
  else
    some (.ret (.go ()))
def ov.bd11 (a1 : nR) (b : Int) : Option (Ex (Ex Bool Unit) Int) :=
  if b < (len a1.funcs) then
    (idx a1.funcs b).bind fun a =>
    if ((len a.blocks) > 70 ∨ (len a.regs) > 300) ∨ a.params > 1000 then
      some (.ret (.ret false))
    else
      (whl (fun (s : Int) => ov.bd39 a s) nD 0).bind fun z =>
      match z with
        | .ret r => some (.ret (.ret r))
        | .go p => ov.nx39 b
  else
    some (.ret (.go ()))
def ov (a1 : nR) : Option Bool :=
  if (len a1.funcs) > 40 then
    some false
  else
    (whl (fun (s : Int) => ov.bd11 a1 s) nD 0).bind fun z =>
    match z with
      | .ret r => some r
      | .go p => ov.nx11
set_option maxHeartbeats 4000000 in
theorem wV {E : World} {H : FP} {w : World} {a1 : nR} {v2 : Value} {r : Bool} (D : SlI ou H a1.funcs v2) (hp : ov a1 = some r) (hst : St E H [] w) :
    Fn Try.prog 10 #[.agg #[v2]] w fun v w' => ∃ A, ov.R r v A ∧ St E H A w' := by
 refine fb 99 [.tmp 2] Try.func10 rfl rfl rfl rfl rfl hst <| sr <| tb [v2] rfl rfl fun c => ta rfl <| nz <| nv fun bi Y => sr <| tv (fa oR rfl) rfl <| tv (lb s33 0 rfl rfl rfl) rfl <| tv (ln u33 D rfl) rfl <| tv (bgt rfl rfl) rfl <| nz <| cD rfl hp (fun Z hp => ?_) fun Z hp => ?_
 · exact sr <| ta rfl <| nz <| nH <| rt hp [] ⟨rfl, rfl⟩
 · refine sk Y rfl <| nv fun aa ab => sr <| ta rfl <| nz <| nB <| bE hp fun ac ad t => ?_
   have ae {af} (ag : .go () = ac) : ∀ w, St E H [] w → aa (ovr af []) w := by
    subst ag
    replace hp : ov.nx11 = some r := t
    exact tg ab <| sr <| ta rfl <| nz <| nH <| rt hp [] ⟨rfl, rfl⟩
   refine lp ad [0] rfl (fun s e L => ∃ G, e = ovr G [(1, .pointer (some ⟨c, 0, none⟩)), (3, .int .i64 s)] ∧ L = [bx c 35 [v2]]) ⟨_, nC _ _ rfl, rfl⟩ ?_
   rintro g _ _ ⟨G, rfl, rfl⟩ I hp u
   replace hp : ov.bd11 a1 g = some I := hp
   refine nv fun bj ah => sr <| tm rfl <| tv (fa oR rfl) rfl <| tv (lb s33 0 rfl rfl rfl) rfl <| tv (ln u33 D rfl) rfl <| tv (blt rfl rfl) rfl <| nz <| cD rfl hp (fun ai hp => ?_) fun ai hp => ?_
   · refine sk ah rfl <| nv fun aj ak => nB <| sr <| tv (fa oR rfl) rfl <| tv (lb s33 0 rfl rfl rfl) rfl <| tm rfl <| ti u33 i41 D hp rfl rfl rfl rfl ?_
     rintro a bk bl _ hp ⟨j, k, rfl, J, x⟩ al
     refine tv (lR (ds := [.int .i64 a.params, .int .i64 a.result, j, k]) n8 sH al 0 rfl rfl rfl) rfl <| tl i41 rfl fun d => tS 0 m41 rfl rfl [.int .i64 a.params, .int .i64 a.result, j, k] rfl (oc rfl (oc rfl (oc (J).one (oc (x).one oc0)))) rfl rfl <| nz <| nv fun bm am => sr <| tv (fa oa rfl) rfl <| tv (lb s39 0 rfl rfl rfl) rfl <| tv (ln u39 x rfl) rfl <| tv (bgt rfl rfl) rfl <| tm rfl <| TL.cut 5 fun an ao => ?_
     have K {ap} : ∀ w, St E H [bx d 41 [.int .i64 a.params, .int .i64 a.result, j, k], bx c 35 [v2]] w → an (ovr ap [(34, .bool (decide ((len a.blocks) > 70 ∨ (len a.regs) > 300))), (1, .pointer (some ⟨c, 0, none⟩)), (3, .int .i64 g), (4, .pointer (some ⟨d, 0, none⟩))]) w := by
      refine tlg ao <| tm rfl <| TL.cut 4 fun aq ar => ?_
      have M {au} : ∀ w, St E H [bx d 41 [.int .i64 a.params, .int .i64 a.result, j, k], bx c 35 [v2]] w → aq (ovr au [(39, .bool (decide (((len a.blocks) > 70 ∨ (len a.regs) > 300) ∨ a.params > 1000))), (1, .pointer (some ⟨c, 0, none⟩)), (3, .int .i64 g), (4, .pointer (some ⟨d, 0, none⟩))]) w := by
       refine tlg ar <| nz <| cD rfl hp (fun av hp => ?_) fun av hp => ?_
       · refine sr <| ta rfl <| nz <| nH ?_
         obtain rfl := nK hp u
         exact rt t [] ⟨rfl, rfl⟩
       · refine sk am rfl <| sr <| ta rfl <| nz <| nB <| bE hp fun aw ax y => ?_
         have ay {az} (aA : .go () = aw) : ∀ w, St E H [bx c 35 [v2]] w → aj (ovr az [(1, .pointer (some ⟨c, 0, none⟩)), (3, .int .i64 g)]) w := by
          subst aA
          replace hp : ov.nx39 g = some I := y
          exact tg ak <| nF <| tm rfl <| tv (bad rfl rfl) rfl <| ta rfl <| nl <| gk hp [0] ⟨_, nC _ _ rfl, rfl⟩
         refine lp ax [1, 0] rfl (fun s e L => ∃ N, e = ovr N [(1, .pointer (some ⟨c, 0, none⟩)), (3, .int .i64 g), (4, .pointer (some ⟨d, 0, none⟩)), (5, .int .i64 s)] ∧ L = [bx c 35 [v2], bx d 41 [.int .i64 a.params, .int .i64 a.result, j, k]]) ⟨_, nC _ _ rfl, rfl⟩ ?_
         rintro n _ _ ⟨N, rfl, rfl⟩ F hp z
         replace hp : ov.bd39 a n = some F := hp
         refine nv fun bn aB => sr <| tm rfl <| tv (fa oa rfl) rfl <| tv (lb s39 1 rfl rfl rfl) rfl <| tv (ln u39 x rfl) rfl <| tv (blt rfl rfl) rfl <| nz <| cD rfl hp (fun aC hp => ?_) fun aC hp => ?_
         · refine sk aB rfl <| nv fun aD aE => nB <| sr <| tv (fa oa rfl) rfl <| tv (lb s39 1 rfl rfl rfl) rfl <| tm rfl <| ti u39 i50 x hp rfl rfl rfl rfl ?_
           rintro b bo bp _ hp ⟨o, p, q, rfl, B, C, O⟩ aF
           refine tv (lR (ds := [o, p, .int .i64 b.term.kind, .int .i64 b.term.arg, q]) oY sH aF 0 rfl rfl rfl) rfl <| tl i50 rfl fun l => tS 0 m50 rfl rfl [o, p, .int .i64 b.term.kind, .int .i64 b.term.arg, q] rfl (oc (B).one (oc (C).one (oc rfl (oc rfl (oc (O).one oc0))))) rfl rfl <| nz <| nv fun bq aG => sr <| tv (fa oB rfl) rfl <| tv (lb s48 0 rfl rfl rfl) rfl <| tv (ln u48 C rfl) rfl <| tv (bgt rfl rfl) rfl <| tm rfl <| TL.cut 5 fun aH aI => ?_
           have P {aJ} : ∀ w, St E H [bx l 50 [o, p, .int .i64 b.term.kind, .int .i64 b.term.arg, q], bx c 35 [v2], bx d 41 [.int .i64 a.params, .int .i64 a.result, j, k]] w → aH (ovr aJ [(61, .bool (decide ((len b.ins) > 300 ∨ (len b.phis) > 300))), (1, .pointer (some ⟨c, 0, none⟩)), (3, .int .i64 g), (4, .pointer (some ⟨d, 0, none⟩)), (5, .int .i64 n), (6, .pointer (some ⟨l, 0, none⟩))]) w := by
            refine tlg aI <| tm rfl <| TL.cut 6 fun aK aL => ?_
            have Q {aM} : ∀ w, St E H [bx l 50 [o, p, .int .i64 b.term.kind, .int .i64 b.term.arg, q], bx c 35 [v2], bx d 41 [.int .i64 a.params, .int .i64 a.result, j, k]] w → aK (ovr aM [(68, .bool (decide (((len b.ins) > 300 ∨ (len b.phis) > 300) ∨ (len b.term.to) > 70))), (1, .pointer (some ⟨c, 0, none⟩)), (3, .int .i64 g), (4, .pointer (some ⟨d, 0, none⟩)), (5, .int .i64 n), (6, .pointer (some ⟨l, 0, none⟩))]) w := by
             refine tlg aL <| nz <| cD rfl hp (fun aN hp => ?_) fun aN hp => ?_
             · refine sr <| ta rfl <| nz <| nH ?_
               obtain rfl := nK hp z
               obtain rfl := nK y u
               exact rt t [] ⟨rfl, rfl⟩
             · refine sk aG rfl <| nv fun aO aP => sr <| ta rfl <| nz <| nB <| bE hp fun aQ aR S => ?_
               have aS {aT} (aU : .go () = aQ) : ∀ w, St E H [bx c 35 [v2], bx d 41 [.int .i64 a.params, .int .i64 a.result, j, k], bx l 50 [o, p, .int .i64 b.term.kind, .int .i64 b.term.arg, q]] w → aO (ovr aT [(1, .pointer (some ⟨c, 0, none⟩)), (3, .int .i64 g), (4, .pointer (some ⟨d, 0, none⟩)), (5, .int .i64 n), (6, .pointer (some ⟨l, 0, none⟩))]) w := by
                subst aU
                replace hp : ov.nx69 n b = some F := S
                refine tg aP <| sr <| ta rfl <| nz <| nB <| bE hp fun aV aW T => ?_
                have aX {aY} (aZ : .go () = aV) : ∀ w, St E H [bx c 35 [v2], bx d 41 [.int .i64 a.params, .int .i64 a.result, j, k]] w → aD (ovr aY [(1, .pointer (some ⟨c, 0, none⟩)), (3, .int .i64 g), (4, .pointer (some ⟨d, 0, none⟩)), (5, .int .i64 n)]) w := by
                 subst aZ
                 replace hp : ov.nx76 n = some F := T
                 exact tg aE <| nF <| tm rfl <| tv (bad rfl rfl) rfl <| ta rfl <| nl <| gk hp [0, 1] ⟨_, nC _ _ rfl, rfl⟩
                refine lp aW [0, 1, 2] rfl (fun s e L => ∃ U, e = ovr U [(1, .pointer (some ⟨c, 0, none⟩)), (3, .int .i64 g), (4, .pointer (some ⟨d, 0, none⟩)), (5, .int .i64 n), (6, .pointer (some ⟨l, 0, none⟩)), (8, .int .i64 s)] ∧ L = [bx c 35 [v2], bx d 41 [.int .i64 a.params, .int .i64 a.result, j, k], bx l 50 [o, p, .int .i64 b.term.kind, .int .i64 b.term.arg, q]]) ⟨_, nC _ _ rfl, rfl⟩ ?_
                rintro a0 _ _ ⟨U, rfl, rfl⟩ a2 hp V
                replace hp : ov.bd76 b a0 = some a2 := hp
                refine nv fun br a3 => sr <| tm rfl <| tv (fa oE rfl) rfl <| tv (lb s47 2 rfl rfl rfl) rfl <| tv (ln u47 B rfl) rfl <| tv (blt rfl rfl) rfl <| nz <| cD rfl hp (fun a4 hp => ?_) fun a4 hp => ?_
                · refine sk a3 rfl <| nv fun bs a5 => nB <| sr <| tv (fa oE rfl) rfl <| tv (lb s47 2 rfl rfl rfl) rfl <| tm rfl <| ti u47 i70 B hp rfl rfl rfl rfl ?_
                  rintro bt bu bv _ hp ⟨bw, rfl, a6⟩ a7
                  refine tv (fa py rfl) rfl <| tv (lr s25 sH a7 1 rfl rfl) rfl <| tv (ln u25 a6 rfl) rfl <| tv (bgt rfl rfl) rfl <| nz <| cD rfl hp (fun a8 hp => ?_) fun a8 hp => ?_
                  · refine sr <| ta rfl <| nz <| nH ?_
                    obtain rfl := nK hp V
                    obtain rfl := nK T z
                    obtain rfl := nK y u
                    exact rt t [] ⟨rfl, rfl⟩
                  · exact sk a5 rfl <| nF <| tm rfl <| tv (bad rfl rfl) rfl <| ta rfl <| nl <| gk hp [0, 1, 2] ⟨_, nC _ _ rfl, rfl⟩
                · exact nN <| jn [0, 1] (aX (nK hp V))
               refine lp aR [1, 2, 0] rfl (fun s e L => ∃ W, e = ovr W [(1, .pointer (some ⟨c, 0, none⟩)), (3, .int .i64 g), (4, .pointer (some ⟨d, 0, none⟩)), (5, .int .i64 n), (6, .pointer (some ⟨l, 0, none⟩)), (7, .int .i64 s)] ∧ L = [bx c 35 [v2], bx d 41 [.int .i64 a.params, .int .i64 a.result, j, k], bx l 50 [o, p, .int .i64 b.term.kind, .int .i64 b.term.arg, q]]) ⟨_, nC _ _ rfl, rfl⟩ ?_
               rintro a9 _ _ ⟨W, rfl, rfl⟩ ba hp X
               replace hp : ov.bd69 b a9 = some ba := hp
               refine nv fun bz bb => sr <| tm rfl <| tv (fa oB rfl) rfl <| tv (lb s48 2 rfl rfl rfl) rfl <| tv (ln u48 C rfl) rfl <| tv (blt rfl rfl) rfl <| nz <| cD rfl hp (fun bc hp => ?_) fun bc hp => ?_
               · refine sk bb rfl <| nv fun bA be => nB <| sr <| tv (fa oB rfl) rfl <| tv (lb s48 2 rfl rfl rfl) rfl <| tm rfl <| ti u48 i52 C hp rfl rfl rfl rfl ?_
                 rintro bB bC bD _ hp ⟨bG, rfl, bf⟩ bg
                 refine tv (fa o6 rfl) rfl <| tv (lr s25 sH bg 2 rfl rfl) rfl <| tv (ln u25 bf rfl) rfl <| tv (bgt rfl rfl) rfl <| nz <| cD rfl hp (fun bh hp => ?_) fun bh hp => ?_
                 · refine sr <| ta rfl <| nz <| nH ?_
                   obtain rfl := nK hp X
                   obtain rfl := nK S z
                   obtain rfl := nK y u
                   exact rt t [] ⟨rfl, rfl⟩
                 · exact sk be rfl <| nF <| tm rfl <| tv (bad rfl rfl) rfl <| ta rfl <| nl <| gk hp [0, 1, 2] ⟨_, nC _ _ rfl, rfl⟩
               · exact nN <| jn [0, 1, 2] (aS (nK hp X))
            by_cases f : (len b.ins) > 300 ∨ (len b.phis) > 300
            · exact gn rfl (bT f) rfl rfl <| gn rfl (bT f) rfl rfl <| gn rfl (bT f) rfl rfl <| gn rfl (bT f) rfl rfl <| gn rfl (bT f) rfl rfl <| tv (pT (bT f)) rfl <| nj Q (bOt f)
            · exact gy rfl (bF f) <| tv (fa oQ rfl) rfl <| gy rfl (bF f) <| tv (fa o8 rfl) rfl <| gy rfl (bF f) <| tv (lb s25 0 rfl rfl rfl) rfl <| gy rfl (bF f) <| tv (ln u25 O rfl) rfl <| gy rfl (bF f) <| tv (bgt rfl rfl) rfl <| tv (pF (bF f)) rfl <| nj Q (bOf f)
           by_cases h : (len b.ins) > 300
           · exact gn rfl (bT h) rfl rfl <| gn rfl (bT h) rfl rfl <| gn rfl (bT h) rfl rfl <| gn rfl (bT h) rfl rfl <| tv (pT (bT h)) rfl <| nj P (bOt h)
           · exact gy rfl (bF h) <| tv (fa oE rfl) rfl <| gy rfl (bF h) <| tv (lb s47 0 rfl rfl rfl) rfl <| gy rfl (bF h) <| tv (ln u47 B rfl) rfl <| gy rfl (bF h) <| tv (bgt rfl rfl) rfl <| tv (pF (bF h)) rfl <| nj P (bOf h)
         · exact nN <| jn [0] (ay (nK hp z))
      by_cases m : (len a.blocks) > 70 ∨ (len a.regs) > 300
      · exact gn rfl (bT m) rfl rfl <| gn rfl (bT m) rfl rfl <| gn rfl (bT m) rfl rfl <| tv (pT (bT m)) rfl <| nj M (bOt m)
      · exact gy rfl (bF m) <| tv (fa po rfl) rfl <| gy rfl (bF m) <| tv (lb s3 0 rfl rfl rfl) rfl <| gy rfl (bF m) <| tv (bgt rfl rfl) rfl <| tv (pF (bF m)) rfl <| nj M (bOf m)
     by_cases i : (len a.blocks) > 70
     · exact gn rfl (bT i) rfl rfl <| gn rfl (bT i) rfl rfl <| gn rfl (bT i) rfl rfl <| gn rfl (bT i) rfl rfl <| tv (pT (bT i)) rfl <| nj K (bOt i)
     · exact gy rfl (bF i) <| tv (fa o7 rfl) rfl <| gy rfl (bF i) <| tv (lb s25 0 rfl rfl rfl) rfl <| gy rfl (bF i) <| tv (ln u25 J rfl) rfl <| gy rfl (bF i) <| tv (bgt rfl rfl) rfl <| tv (pF (bF i)) rfl <| nj K (bOf i)
   · exact nN <| jn [] (ae (nK hp u))
/-! ### fettle/check.Plain$1 -/
abbrev rL.R (r : Bool) (v : Value) (A : List FP) : Prop := .bool r = v ∧ A = []
def rL (a1 : nA) : Option Bool :=
  some (decide ((len a1.phis) > 0))
theorem wW {E : World} {H : FP} {w : World} {a1 : nA} {v2 : Value} {a : Value} {b : Value} {r : Bool} (c : SlI oS H a1.phis v2) (d : SlI oN H a1.ins a) (e : SlI (nt .i64) H a1.term.to b) (hp : rL a1 = some r) (hst : St E H [] w) :
    Fn Try.prog 62 #[.agg #[v2, a, .int .i64 a1.term.kind, .int .i64 a1.term.arg, b]] w fun v w' => ∃ A, rL.R r v A ∧ St E H A w' := by
 exact fb 7 [.tmp 2] Try.func62 rfl rfl rfl rfl rfl hst <| sr <| tb [v2, a, .int .i64 a1.term.kind, .int .i64 a1.term.arg, b] rfl rfl fun f => ta rfl <| nz <| sr <| tv (fa oE rfl) rfl <| tv (lb s47 0 rfl rfl rfl) rfl <| tv (ln u47 c rfl) rfl <| tv (bgt rfl rfl) rfl <| ta rfl <| nz <| nH <| rt hp [] ⟨rfl, rfl⟩
/-! ### slices.IndexFunc[[]fettle/api.Block,fettle/api.Block] -/
abbrev pS.R (r : Int) (v : Value) (A : List FP) : Prop := .int .i64 r = v ∧ A = []
def pS.nx8  : Option Int :=
  some (-1)
def pS.bd8 (a1 : List nA) (a : Int) : Option (Ex (Ex Int Unit) Int) :=
  if a < (len a1) then
    (idx a1 a).bind fun b =>
    (rL b).bind fun c =>
    if c = true then
      some (.ret (.ret a))
    else
      some (.go (w64 (a + 1)))
  else
    some (.ret (.go ()))
def pS (a1 : List nA) : Option Int :=
  (whl (fun (s : Int) => pS.bd8 a1 s) nD 0).bind fun z =>
  match z with
    | .ret r => some r
    | .go p => pS.nx8
theorem wX {E : World} {H : FP} {w : World} {a1 : List nA} {v2 : Value} {r : Int} (b : SlI nY H a1 v2) (hp : pS a1 = some r) (hst : St E H [] w) :
    Fn Try.prog 81 #[v2, .func (.func 62) #[] #[]] w fun v w' => ∃ A, pS.R r v A ∧ St E H A w' := by
 refine fb 19 [.tmp 4] Try.func81 rfl rfl rfl rfl rfl hst <| sr <| ta rfl <| nz <| nv fun g h => sr <| tm rfl <| tv (ln u39 b rfl) rfl <| tm rfl <| nz <| nB <| bE hp fun i j c => ?_
 have k {l} (m : .go () = i) : ∀ w, St E H [] w → g (ovr l []) w := by
  subst m
  replace hp : pS.nx8 = some r := c
  exact tg h <| sr <| ta rfl <| nz <| nH <| rt hp [] ⟨rfl, rfl⟩
 refine lp j [] rfl (fun s e L => ∃ d, e = ovr d [(0, v2), (1, .func (.func 62) #[] #[]), (7, .int .i64 (len a1)), (8, .int .i64 s)] ∧ L = []) ⟨_, nC _ _ rfl, rfl⟩ ?_
 rintro n _ _ ⟨d, rfl, rfl⟩ o hp f
 replace hp : pS.bd8 a1 n = some o := hp
 refine sr <| tv (blt rfl rfl) rfl <| nz <| nv fun G p => cD rfl hp (fun q hp => ?_) fun q hp => ?_
 · refine sk p rfl <| nv fun I t => nB <| sr <| tm rfl <| ta rfl <| nz <| sr <| tm rfl <| tm rfl <| tm rfl <| ti u39 i50 b hp rfl rfl rfl rfl ?_
   rintro a J K _ hp ⟨u, x, y, rfl, z, B, C⟩ D
   refine tv (lR (ds := [u, x, .int .i64 a.term.kind, .int .i64 a.term.arg, y]) oY sH D 0 rfl rfl rfl) rfl <| bE hp fun M hy18 hp => tcv 0 [] rfl c62 rfl (fun _ => wW (a1 := a) (z.mono nw) (B.mono nw) (C.mono nw) hy18) rfl ?_
   rintro _ _ ⟨rfl, rfl⟩
   refine nz <| cB rfl hp (fun F hp => ?_) fun F hp => ?_
   · refine sr <| tm rfl <| ta rfl <| nz <| nH ?_
     obtain rfl := nK hp f
     exact rt c [] ⟨rfl, rfl⟩
   · exact sk t rfl <| nF <| tv (bad rfl rfl) rfl <| tm rfl <| nl <| gk hp [] ⟨_, nC _ _ rfl, rfl⟩
 · exact nN <| jn [] (k (nK hp f))
/-! ### slices.ContainsFunc[[]fettle/api.Block,fettle/api.Block] -/
abbrev rc.R (r : Bool) (v : Value) (A : List FP) : Prop := .bool r = v ∧ A = []
def rc (a1 : List nA) : Option Bool :=
  (pS a1).bind fun a =>
  some (decide (a ≥ 0))
theorem wY {E : World} {H : FP} {w : World} {a1 : List nA} {v2 : Value} {r : Bool} (a : SlI nY H a1 v2) (hp : rc a1 = some r) (hst : St E H [] w) :
    Fn Try.prog 61 #[v2, .func (.func 62) #[] #[]] w fun v w' => ∃ A, rc.R r v A ∧ St E H A w' := by
 refine fb 9 [.tmp 4] Try.func61 rfl rfl rfl rfl rfl hst <| sr <| ta rfl <| nz <| sr <| tm rfl <| tm rfl <| bE hp fun b hy1 hp => tc 0 [] rfl c81 (fun _ => wX (a1 := a1) (a.mono nw) hy1) rfl ?_
 rintro _ _ ⟨rfl, rfl⟩
 exact tv (bge rfl rfl) rfl <| ta rfl <| nz <| nH <| rt hp [] ⟨rfl, rfl⟩
/-! ### fettle/check.Plain -/
abbrev pU.R (r : GErr) (v : Value) (A : List FP) : Prop := ∃ (w1 : Value) (a : FP), w1 = v ∧ A = [a] ∧ ErO 63 106 108 r w1 a
def pU.nx13  : Option GErr :=
  some GErr.no
def pU.bd13 (a1 : nR) (a : Int) : Option (Ex (Ex GErr Unit) Int) :=
  if a < (len a1.funcs) then
    (idx a1.funcs a).bind fun b =>
    (rc b.blocks).bind fun c =>
    if c = true then
      some (.ret (.ret (GErr.spot a (GErr.code 6))))
    else
      some (.go (w64 (a + 1)))
  else
    some (.ret (.go ()))
def pU (a1 : nR) : Option GErr :=
  (pB a1).bind fun a =>
  if ¬ a = GErr.no then
    some a
  else
    (whl (fun (s : Int) => pU.bd13 a1 s) nD 0).bind fun z =>
    match z with
      | .ret r => some r
      | .go p => pU.nx13
theorem wZ {E : World} {H : FP} {w : World} {a1 : nR} {v2 : Value} {r : GErr} (c : SlI ou H a1.funcs v2) (hp : pU a1 = some r) (hst : St E H [] w) :
    Fn Try.prog 38 #[.agg #[v2]] w fun v w' => ∃ A, pU.R r v A ∧ St E H A w' := by
 refine fb 28 [.tmp 2] Try.func38 rfl rfl rfl rfl rfl hst <| sr <| tb [v2] rfl rfl fun M => ta rfl <| nz <| nv fun N m => sr <| tv (lA (ds := [v2]) oZ 0 rfl rfl rfl rfl) rfl <| bE hp fun O hy3 hp => tc 0 [_] rfl c47 (fun _ => sK (a1 := a1) (c.mono nw) hy3) rfl ?_
 rintro _ _ ⟨n, o, rfl, rfl, f⟩
 refine ta rfl <| nz <| sr <| tm rfl <| tv (pw pc f rfl) rfl <| nz <| cD rfl hp (fun p hp => ?_) fun p hp => ?_
 · exact sr <| tm rfl <| ta rfl <| nz <| nH <| rt hp [0] ⟨n, o, rfl, rfl, f⟩
 · refine sk m rfl <| nv fun q t => sr <| tv (fa oR rfl) rfl <| tv (lb s33 1 rfl rfl rfl) rfl <| tv (ln u33 c rfl) rfl <| tm rfl <| nz <| nB <| bE hp fun u x g => ?_
   have y {z} (B : .go () = u) : ∀ w, St E H [] w → q (ovr z []) w := by
    subst B
    replace hp : pU.nx13 = some r := g
    exact tg t <| sr <| ta rfl <| nz <| nH <| W.new0 <| rt hp [0] ⟨.nilIface, ([] : FP), rfl, rfl, (ErO.nil : ErO 63 106 108 GErr.no .nilIface [])⟩
   refine lp x [] rfl (fun s e L => ∃ h, e = ovr h [(12, v2), (13, .int .i64 (len a1.funcs)), (14, .int .i64 s)] ∧ L = []) ⟨_, nC _ _ rfl, rfl⟩ ?_
   rintro a _ _ ⟨h, rfl, rfl⟩ C hp i
   replace hp : pU.bd13 a1 a = some C := hp
   refine sr <| tv (blt rfl rfl) rfl <| nz <| nv fun P D => cD rfl hp (fun F hp => ?_) fun F hp => ?_
   · refine sk D rfl <| nv fun Q G => nB <| sr <| tm rfl <| ti u33 i41 c hp rfl rfl rfl rfl ?_
     rintro b S T _ hp ⟨j, k, rfl, I, l⟩ J
     refine tv (lR (ds := [.int .i64 b.params, .int .i64 b.result, j, k]) n8 sH J 0 rfl rfl rfl) rfl <| tl i41 rfl fun U => ta rfl <| tS 0 m41 rfl rfl [.int .i64 b.params, .int .i64 b.result, j, k] rfl (oc rfl (oc rfl (oc (I).one (oc (l).one oc0)))) rfl rfl <| nz <| sr <| tv (fa oa rfl) rfl <| tv (lb s39 0 rfl rfl rfl) rfl <| bE hp fun V hy23 hp => tc 0 [_] rfl c61 (fun _ => wY (a1 := b.blocks) (l.mono nw) hy23) rfl ?_
     rintro _ _ ⟨rfl, rfl⟩
     refine nz <| cB rfl hp (fun K hp => ?_) fun K hp => ?_
     · refine sr <| tm rfl <| tv (mI u63 rfl) rfl <| tv (n9 (vs := [(0, .int .i64 a), (1, .iface 63 (.int .i64 6))]) (ds := [.int .i64 a, .iface 63 (.int .i64 6)]) rfl (fun w => by kernel_rfl)) rfl <| tb [.int .i64 a, .iface 63 (.int .i64 6)] rfl rfl fun d => TL.new0 <| tv (mI u106 rfl) rfl <| tp [1, 0, 2] [_,_,_] rfl rfl <| tf 0 2 [_,_] rfl <| ta rfl <| nz <| nH ?_
       obtain rfl := nK hp i
       exact rt g [0] ⟨(.iface 106 (.pointer (some ⟨d, 0, none⟩))), (bx d 108 [.int .i64 a, (.iface 63 (.int .i64 6))] ++ (([] : FP))), rfl, rfl, (ErO.at_ a d (ErO.mk _ : ErO 63 106 108 (GErr.code 6) (.iface 63 (.int .i64 6)) []))⟩
     · exact sk G rfl <| nF <| tv (bad rfl rfl) rfl <| tm rfl <| nl <| gk hp [] ⟨_, nC _ _ rfl, rfl⟩
   · exact nN <| jn [] (y (nK hp i))
/-! ### slices.Clone[[]fettle/api.Func,fettle/api.Func] -/
def rM (a1 : List ny) : Option (List ny) := (cat ([] : List ny) a1).bind fun a => some a
theorem w5 (G : FP) : ∀ x cs, ou.ro G x cs → ∀ v, v ∈ cs → v.oneCell' = true := by
 rintro x cs ⟨_, _, rfl, a, b⟩
 exact (oc rfl (oc rfl (oc a.one (oc b.one oc0))))
theorem w6 {E : World} {H G : FP} {w : World} {a1 : List ny} {v2 : Value} {r : List ny} (hG : ∀ p, p ∈ G → p ∈ H) (b : SlI ou G a1 v2) (hp : rM a1 = some r) (hst : St E H [] w) :
    Fn Try.prog 39 #[v2] w fun v w' => ∃ A, (∃ (w1 : Value) (c : FP), w1 = v ∧ A = [c] ∧ SlO 41 (kRef G ou) r w1 c) ∧ St E H A w' := by
 refine fb 8 [.tmp 2] Try.func39 rfl rfl rfl rfl rfl hst <| sr <| ta rfl <| nz <| nv fun m d => sr <| tm rfl ?_
 obtain ⟨e, f, hv4⟩ := nilEq (P := Try.prog) Try.underlying33 b
 refine tv (tG rfl hv4) rfl <| nz ?_
 by_cases a : e = true
 · have g := f a
   replace hp : (some ([] : List ny)) = some r := by unfold rM at hp; rw [g] at hp; simpa [cat, LIM] using hp
   exact TC.condT (bbT a) <| sr <| ta rfl <| nz <| nH <| W.new0 <| fun w hw => ⟨_, ⟨(.slice none 0 0), ([] : FP), rfl, rfl, by rw [← Option.some.inj hp]; exact SlO.nil 41⟩, hw.pickA [0] rfl⟩
 · exact TC.condF (bbF a) <| sk d rfl <| sr <| TL.bs0 u33 i41 (ltb rfl) fun h => tm rfl <| tpR (w5 G) u33 i41 (SlO.lit0 (k := kRef G ou) h) b (fun p hp => .inl (hG p hp)) hp rfl rfl rfl rfl rfl rfl rfl fun n i j l hp => ta rfl <| nz <| nH <| fun w hw => ⟨_, ⟨i, j, rfl, rfl, by rw [← Option.some.inj hp]; exact l⟩, hw.pickA [0] rfl⟩
end
section
/-! ### fettle/live.has -/
abbrev qP.R (r : GErr) (v : Value) (A : List FP) : Prop := ∃ (w1 : Value) (a : FP), w1 = v ∧ A = [a] ∧ ErO 63 106 108 r w1 a
def qP (a1 : nR) (a4 : Int) : Option GErr :=
  (pB a1).bind fun a =>
  if ¬ a = GErr.no then
    some a
  else
    if a4 < 0 ∨ a4 ≥ (len a1.funcs) then
      some (GErr.code 1)
    else
      some GErr.no
theorem w7 {E : World} {H : FP} {w : World} {a1 : nR} {a4 : Int} {v2 : Value} {r : GErr} (b : SlI ou H a1.funcs v2) (hp : qP a1 a4 = some r) (hst : St E H [] w) :
    Fn Try.prog 63 #[.agg #[v2], .int .i64 a4] w fun v w' => ∃ A, qP.R r v A ∧ St E H A w' := by
 refine fb 21 [.tmp 4] Try.func63 rfl rfl rfl rfl rfl hst <| sr <| tb [v2] rfl rfl fun f => ta rfl <| nz <| nv fun o g => sr <| tv (lA (ds := [v2]) oZ 0 rfl rfl rfl rfl) rfl <| bE hp fun p hy3 hp => tc 0 [_] rfl c47 (fun _ => sK (a1 := a1) (b.mono nw) hy3) rfl ?_
 rintro _ _ ⟨h, c, rfl, rfl, d⟩
 refine ta rfl <| nz <| sr <| tm rfl <| tv (pw pc d rfl) rfl <| nz <| cD rfl hp (fun i hp => ?_) fun i hp => ?_
 · exact sr <| tm rfl <| ta rfl <| nz <| nH <| rt hp [0] ⟨h, c, rfl, rfl, d⟩
 · refine sk g rfl <| nv fun q j => sr <| tm rfl <| tv (blt rfl rfl) rfl <| tm rfl <| TL.cut 6 fun k l => ?_
   have e {m} : ∀ w, St E H [c, bx f 35 [v2]] w → k (ovr m [(19, .bool (decide (a4 < 0 ∨ a4 ≥ (len a1.funcs))))]) w := by
    refine tlg l <| nz <| cD rfl hp (fun n hp => ?_) fun n hp => ?_
    · exact sr <| tv (mI u63 rfl) rfl <| ta rfl <| nz <| nH <| W.new0 <| rt hp [0] ⟨(.iface 63 (.int .i64 1)), ([] : FP), rfl, rfl, (ErO.mk _ : ErO 63 106 108 (GErr.code 1) (.iface 63 (.int .i64 1)) [])⟩
    · exact sk j rfl <| sr <| ta rfl <| nz <| nH <| W.new0 <| rt hp [0] ⟨.nilIface, ([] : FP), rfl, rfl, (ErO.nil : ErO 63 106 108 GErr.no .nilIface [])⟩
   by_cases a : a4 < 0
   · exact gn rfl (bT a) rfl rfl <| gn rfl (bT a) rfl rfl <| gn rfl (bT a) rfl rfl <| gn rfl (bT a) rfl rfl <| gn rfl (bT a) rfl rfl <| tv (pT (bT a)) rfl <| nj e (bOt a)
   · exact gy rfl (bF a) <| tm rfl <| gy rfl (bF a) <| tv (fa oR rfl) rfl <| gy rfl (bF a) <| tv (lb s33 1 rfl rfl rfl) rfl <| gy rfl (bF a) <| tv (ln u33 b rfl) rfl <| gy rfl (bF a) <| tv (bge rfl rfl) rfl <| tv (pF (bF a)) rfl <| nj e (bOf a)
/-! ### fettle/live.table -/
abbrev pK.R (r : List (List Bool)) (v : Value) (A : List FP) : Prop := ∃ (w1 : Value) (a : FP), w1 = v ∧ A = [a] ∧ SlO 58 (kSl 4 kBool) r w1 a
def pK.nx9  (a : List (List Bool)) : Option (List (List Bool)) :=
  some a
def pK.bd9 (a1 : ny) (c : List (List Bool)) (b : List (List Bool)) (a : Int) : Option (Ex (List (List Bool)) (List (List Bool) × Int)) :=
  if a < (len c) then
    (mkl (len a1.regs) false).bind fun d =>
    (idx b a).bind fun e =>
    some (.go ((b.set (a).toNat d), (w64 (a + 1))))
  else
    some (.ret b)
def pK (a1 : ny) : Option (List (List Bool)) :=
  (mkl (len a1.blocks) ([] : List Bool)).bind fun a =>
  (whl (fun (s : (List (List Bool) × Int)) => pK.bd9 a1 a s.1 s.2) nD (a, 0)).bind fun z =>
  pK.nx9 z
theorem ue {E : World} {H : FP} {w : World} {a1 : ny} {v2 : Value} {c : Value} {r : List (List Bool)} (t : SlI (nt .i64) H a1.regs v2) (x : SlI nY H a1.blocks c) (hp : pK a1 = some r) (hst : St E H [] w) :
    Fn Try.prog 64 #[.agg #[.int .i64 a1.params, .int .i64 a1.result, v2, c]] w fun v w' => ∃ A, pK.R r v A ∧ St E H A w' := by
 refine fb 23 [.tmp 2] Try.func64 rfl rfl rfl rfl rfl hst <| sr <| tb [.int .i64 a1.params, .int .i64 a1.result, v2, c] rfl rfl fun l => ta rfl <| nz <| sr <| tv (fa oa rfl) rfl <| tv (lb s39 0 rfl rfl rfl) rfl <| tv (ln u39 x rfl) rfl <| tk (k := (kSl 4 kBool)) u85 i58 hp ⟨_, rfl, SlO.nil 4⟩ rfl rfl rfl rfl rfl rfl fun m b y n hp => ta rfl <| nz <| nv fun z B => sr <| tm rfl <| tv (ln u85 n.ro rfl) rfl <| tm rfl <| nz <| nB <| bE hp fun C D F => ?_
 have G {g h I} (J : SlO 58 (kSl 4 kBool) g b h) (K : g = C) : ∀ w, St E H [h] w → z (ovr I [(3, b)]) w := by
  subst K
  replace hp : pK.nx9 g = some r := F
  exact tg B <| sr <| tm rfl <| ta rfl <| nz <| nH <| rt hp [0] ⟨b, h, rfl, rfl, J⟩
 refine lp D [1, 0] rfl (fun s e L => ∃ d f i o, s = (d, f) ∧ SlO 58 (kSl 4 kBool) d b i ∧ e = ovr o [(1, .pointer (some ⟨l, 0, none⟩)), (3, b), (10, .int .i64 (len m)), (11, .int .i64 f)] ∧ L = [bx l 41 [.int .i64 a1.params, .int .i64 a1.result, v2, c], i]) ⟨_, _, y, _, rfl, n, nC _ _ rfl, rfl⟩ ?_
 rintro _ _ _ ⟨d, f, i, o, rfl, j, rfl, rfl⟩ M hp N
 replace hp : pK.bd9 a1 m d f = some M := hp
 refine sr <| tv (blt rfl rfl) rfl <| nz <| nv fun W O => cD rfl hp (fun P hp => ?_) fun P hp => ?_
 · exact sk O rfl <| nv fun X Q => nB <| sr <| tm rfl <| ta rfl <| nz <| nF <| tm rfl <| tm rfl <| tv (fa o7 rfl) rfl <| tv (lb s25 0 rfl rfl rfl) rfl <| tv (ln u25 t rfl) rfl <| tk (k := kBool) u58 i4 hp ⟨rfl, rfl⟩ rfl rfl rfl rfl rfl rfl fun S p Y q hp => tO u85 i58 j hp rfl rfl rfl rfl fun Z aa ab T hp => tp [2, 0, 1] [_,_,_] rfl rfl <| TL.stE (ds := [p]) (u := p) (a := S) j T m58 rfl rfl (SlO.cells q) ⟨_, rfl, q⟩ fun U V => nl <| tg Q <| nF <| tv (bad rfl rfl) rfl <| tm rfl <| nl <| gk hp [1, 0] ⟨_, _, U, _, rfl, V, nC _ _ rfl, rfl⟩
 · exact nN <| jn [1] (G j (nK hp N))
/-! ### fettle/live.begin -/
abbrev ow.R (r : List Bool) (v : Value) (A : List FP) : Prop := ∃ (w1 : Value) (a : FP), w1 = v ∧ A = [a] ∧ SlO 4 kBool r w1 a
def ow.nx22  (a : List Bool) : Option (List Bool) :=
  some a
def ow.bd22 (a1 : nA) (a : List Bool) (b : Int) : Option (Ex (List Bool) (List Bool × Int)) :=
  if b < (len a1.phis) then
    (idx a1.phis b).bind fun c =>
    (idx a c.dst).bind fun d =>
    some (.go ((a.set (c.dst).toNat false), (w64 (b + 1))))
  else
    some (.ret a)
def ow.nx13 (a1 : nA) (a : List Bool) : Option (List Bool) :=
  (whl (fun (s : (List Bool × Int)) => ow.bd22 a1 s.1 s.2) nD (a, 0)).bind fun z =>
  ow.nx22 z
def ow.nx52 (a : Int) (b : List Bool) : Option (Ex (List Bool) (List Bool × Int)) :=
  some (.go (b, (w64 (a - 1))))
def ow.bd52 (c : nL) (a : List Bool) (b : Int) : Option (Ex (List Bool) (List Bool × Int)) :=
  if b < (len c.args) then
    (idx c.args b).bind fun d =>
    (idx a d).bind fun e =>
    some (.go ((a.set (d).toNat true), (w64 (b + 1))))
  else
    some (.ret a)
def ow.jn46 (a : Int) (b : nL) (c : List Bool) : Option (Ex (List Bool) (List Bool × Int)) :=
  (whl (fun (s : (List Bool × Int)) => ow.bd52 b s.1 s.2) nD (c, 0)).bind fun z =>
  ow.nx52 a z
def ow.bd13 (a1 : nA) (b : List Bool) (c : Int) : Option (Ex (List Bool) (List Bool × Int)) :=
  if c ≥ 0 then
    (idx a1.ins c).bind fun a =>
    if a.dst ≥ 0 then
      (idx b a.dst).bind fun d =>
      ow.jn46 c a (b.set (a.dst).toNat false)
    else
      ow.jn46 c a b
  else
    some (.ret b)
def ow.jn5 (a1 : nA) (a : List Bool) : Option (List Bool) :=
  (whl (fun (s : (List Bool × Int)) => ow.bd13 a1 s.1 s.2) nD (a, (w64 ((len a1.ins) - 1)))).bind fun z =>
  ow.nx13 a1 z
def ow (a1 : nA) (a8 : List Bool) : Option (List Bool) :=
  (mkl (len a8) false).bind fun a =>
  if a1.term.arg ≥ 0 then
    (idx (cpy a a8) a1.term.arg).bind fun b =>
    ow.jn5 a1 ((cpy a a8).set (a1.term.arg).toNat true)
  else
    ow.jn5 a1 (cpy a a8)
set_option maxHeartbeats 4000000 in
theorem w8 {E : World} {H : FP} {w : World} {a1 : nA} {a8 : List Bool} {v2 : Value} {d : Value} {f : Value} {N : Value} {r : List Bool} (O : SlI oS H a1.phis v2) (P : SlI oN H a1.ins d) (bk : SlI (nt .i64) H a1.term.to f) (Q : SlI kBool H a8 N) (hp : ow a1 a8 = some r) (hst : St E H [] w) :
    Fn Try.prog 65 #[.agg #[v2, d, .int .i64 a1.term.kind, .int .i64 a1.term.arg, f], N] w fun v w' => ∃ A, ow.R r v A ∧ St E H A w' := by
 refine fb 71 [.tmp 4] Try.func65 rfl rfl rfl rfl rfl hst <| sr <| tb [v2, d, .int .i64 a1.term.kind, .int .i64 a1.term.arg, f] rfl rfl fun c => ta rfl <| nz <| sr <| tm rfl <| tv (ln u58 Q rfl) rfl <| tk (k := kBool) u58 i4 hp ⟨rfl, rfl⟩ rfl rfl rfl rfl rfl rfl fun bl a bm ac hp => ta rfl <| nz <| sr <| tm rfl <| tm rfl <| TL.copy fBool u58 i4 (ltb rfl) rfl rfl rfl rfl ac Q sH fun bn p => nz <| nv fun ad ae => ?_
 have S {T q af} (ag : SlO 4 kBool T a q) (hp : ow.jn5 a1 T = some r) : ∀ w, St E H [bx c 50 [v2, d, .int .i64 a1.term.kind, .int .i64 a1.term.arg, f], q] w → ad (ovr af [(2, .pointer (some ⟨c, 0, none⟩)), (5, a)]) w := by
  refine tg ae <| nv fun ah ai => sr <| tv (fa oB rfl) rfl <| tv (lb s48 0 rfl rfl rfl) rfl <| tv (ln u48 P rfl) rfl <| tv (bsu rfl rfl) rfl <| ta rfl <| nz <| nB <| bE hp fun aj ak al => ?_
  have am {t u an} (ao : SlO 4 kBool t a u) (ap : t = aj) : ∀ w, St E H [bx c 50 [v2, d, .int .i64 a1.term.kind, .int .i64 a1.term.arg, f], u] w → ah (ovr an [(2, .pointer (some ⟨c, 0, none⟩)), (5, a)]) w := by
   subst ap
   replace hp : ow.nx13 a1 t = some r := al
   refine tg ai <| nv fun aq ar => sr <| tv (fa oE rfl) rfl <| tv (lb s47 0 rfl rfl rfl) rfl <| tv (ln u47 O rfl) rfl <| tm rfl <| nz <| nB <| bE hp fun au av aw => ?_
   have ax {x y ay} (az : SlO 4 kBool x a y) (aA : x = au) : ∀ w, St E H [y] w → aq (ovr ay [(5, a)]) w := by
    subst aA
    replace hp : ow.nx22 x = some r := aw
    exact tg ar <| sr <| tm rfl <| ta rfl <| nz <| nH <| rt hp [0] ⟨a, y, rfl, rfl, az⟩
   refine lp av [1] rfl (fun s e L => ∃ h i z U, s = (h, i) ∧ SlO 4 kBool h a z ∧ e = ovr U [(5, a), (59, v2), (60, .int .i64 (len a1.phis)), (61, .int .i64 i)] ∧ L = [z]) ⟨_, _, u, _, rfl, ao, nC _ _ rfl, rfl⟩ ?_
   rintro _ _ _ ⟨h, i, z, U, rfl, B, rfl, rfl⟩ aB hp aC
   replace hp : ow.bd22 a1 h i = some aB := hp
   refine sr <| tv (blt rfl rfl) rfl <| nz <| nv fun bo aD => cD rfl hp (fun aE hp => ?_) fun aE hp => ?_
   · refine sk aD rfl <| nv fun bp aF => nB <| sr <| ti u47 i70 O hp rfl rfl rfl rfl ?_
     rintro V bq br _ hp ⟨W, rfl, aG⟩ aH
     exact tv (lR (ds := [.int .i64 V.dst, W]) p8 sH aH 0 rfl rfl rfl) rfl <| tl i70 rfl fun bs => tS 0 m70 rfl rfl [.int .i64 V.dst, W] rfl (oc rfl (oc (aG).one oc0)) rfl rfl <| nz <| nF <| tm rfl <| tv (fa qd rfl) rfl <| tv (lb s3 0 rfl rfl rfl) rfl <| tO u58 i4 B hp rfl rfl rfl rfl fun bt bu bv aI hp => tp [1, 0] [_,_] rfl rfl <| tE B aI m4 rfl ⟨rfl, rfl⟩ w1 fun aJ aK => nl <| tg aF <| nF <| tv (bad rfl rfl) rfl <| tm rfl <| nl <| gk hp [0] ⟨_, _, aJ, _, rfl, aK, nC _ _ rfl, rfl⟩
   · exact nN <| jn [0] (ax B (nK hp aC))
  refine lp ak [0, 1] rfl (fun s e L => ∃ j g C X, s = (j, g) ∧ SlO 4 kBool j a C ∧ e = ovr X [(2, .pointer (some ⟨c, 0, none⟩)), (5, a), (6, .int .i64 g)] ∧ L = [bx c 50 [v2, d, .int .i64 a1.term.kind, .int .i64 a1.term.arg, f], C]) ⟨_, _, q, _, rfl, ag, nC _ _ rfl, rfl⟩ ?_
  rintro _ _ _ ⟨j, g, C, X, rfl, l, rfl, rfl⟩ D hp aL
  replace hp : ow.bd13 a1 j g = some D := hp
  refine nv fun bw aM => sr <| tm rfl <| tv (bge rfl rfl) rfl <| nz <| cD rfl hp (fun aN hp => ?_) fun aN hp => ?_
  · refine sk aM rfl <| nv fun aO aP => nB <| sr <| tv (fa oB rfl) rfl <| tv (lb s48 0 rfl rfl rfl) rfl <| tm rfl <| ti u48 i52 P hp rfl rfl rfl rfl ?_
    rintro b bz bA _ hp ⟨m, rfl, F⟩ aQ
    refine tv (lR (ds := [.int .i64 b.op, .int .i64 b.dst, m, .int .i64 b.imm, .int .i64 b.fn]) o5 sH aQ 0 rfl rfl rfl) rfl <| tl i52 rfl fun Y => tS 0 m52 rfl rfl [.int .i64 b.op, .int .i64 b.dst, m, .int .i64 b.imm, .int .i64 b.fn] rfl (oc rfl (oc rfl (oc (F).one (oc rfl (oc rfl oc0))))) rfl rfl <| nz <| nv fun aR aS => ?_
    have Z {aa G aT} (aU : SlO 4 kBool aa a G) (hp : ow.jn46 g b aa = some D) : ∀ w, St E H [bx c 50 [v2, d, .int .i64 a1.term.kind, .int .i64 a1.term.arg, f], G, bx Y 52 [.int .i64 b.op, .int .i64 b.dst, m, .int .i64 b.imm, .int .i64 b.fn]] w → aR (ovr aT [(2, .pointer (some ⟨c, 0, none⟩)), (5, a), (6, .int .i64 g), (7, .pointer (some ⟨Y, 0, none⟩))]) w := by
     refine tg aS <| sr <| tv (fa o6 rfl) rfl <| tv (lb s25 2 rfl rfl rfl) rfl <| tv (ln u25 F rfl) rfl <| tm rfl <| nz <| nB <| bE hp fun aV aW aX => ?_
     have aY {I J aZ} (a0 : SlO 4 kBool I a J) (a2 : I = aV) : ∀ w, St E H [bx c 50 [v2, d, .int .i64 a1.term.kind, .int .i64 a1.term.arg, f], J] w → aO (ovr aZ [(2, .pointer (some ⟨c, 0, none⟩)), (5, a), (6, .int .i64 g)]) w := by
      subst a2
      replace hp : ow.nx52 g I = some D := aX
      exact tg aP <| nF <| tm rfl <| tv (bsu rfl rfl) rfl <| ta rfl <| nl <| gk hp [0, 1] ⟨_, _, J, _, rfl, a0, nC _ _ rfl, rfl⟩
     refine lp aW [0, 1] rfl (fun s e L => ∃ n o K ab, s = (n, o) ∧ SlO 4 kBool n a K ∧ e = ovr ab [(2, .pointer (some ⟨c, 0, none⟩)), (5, a), (6, .int .i64 g), (48, m), (49, .int .i64 (len b.args)), (50, .int .i64 o)] ∧ L = [bx c 50 [v2, d, .int .i64 a1.term.kind, .int .i64 a1.term.arg, f], K]) ⟨_, _, G, _, rfl, aU, nC _ _ rfl, rfl⟩ ?_
     rintro _ _ _ ⟨n, o, K, ab, rfl, M, rfl, rfl⟩ a3 hp a4
     replace hp : ow.bd52 b n o = some a3 := hp
     refine sr <| tv (blt rfl rfl) rfl <| nz <| nv fun bB a5 => cD rfl hp (fun a6 hp => ?_) fun a6 hp => ?_
     · refine sk a5 rfl <| nv fun bC a7 => nB <| sr <| ti u25 i3 F hp rfl rfl rfl rfl ?_
       rintro bD bF bG _ hp rfl a9
       exact tv (lr s3 sH a9 0 rfl rfl) rfl <| ta rfl <| nz <| nF <| tm rfl <| tm rfl <| tO u58 i4 M hp rfl rfl rfl rfl fun bH bI bJ ba hp => tp [1, 0] [_,_] rfl rfl <| tE M ba m4 rfl ⟨rfl, rfl⟩ w1 fun bb bc => nl <| tg a7 <| nF <| tv (bad rfl rfl) rfl <| tm rfl <| nl <| gk hp [1, 0] ⟨_, _, bb, _, rfl, bc, nC _ _ rfl, rfl⟩
     · exact nN <| jn [0, 1] (aY M (nK hp a4))
    refine sr <| tv (fa pd rfl) rfl <| tv (lb s3 0 rfl rfl rfl) rfl <| tv (bge rfl rfl) rfl <| nz <| cD rfl hp (fun be hp => ?_) fun be hp => ?_
    · exact nF <| tm rfl <| tv (fa pd rfl) rfl <| tv (lb s3 0 rfl rfl rfl) rfl <| tO u58 i4 l hp rfl rfl rfl rfl fun bK bL bM bf hp => tp [2, 0, 1] [_,_,_] rfl rfl <| tE l bf m4 rfl ⟨rfl, rfl⟩ w1 fun bN bg => nl <| jn [2, 0, 1] (Z bg hp)
    · exact TC.skip <| jn [1, 2, 0] (Z l hp)
  · exact nN <| jn [0, 1] (am l (nK hp aL))
 refine sr <| tv (fa oQ rfl) rfl <| tv (fa pp rfl) rfl <| tv (lb s3 1 rfl rfl rfl) rfl <| tv (bge rfl rfl) rfl <| nz <| cD rfl hp (fun bh hp => ?_) fun bh hp => ?_
 · exact nF <| tm rfl <| tv (fa oQ rfl) rfl <| tv (fa pp rfl) rfl <| tv (lb s3 1 rfl rfl rfl) rfl <| tO u58 i4 p hp rfl rfl rfl rfl fun bO bP bQ bi hp => tE p bi m4 rfl ⟨rfl, rfl⟩ w1 fun bR bj => nl <| jn [1, 0] (S bj hp)
 · exact TC.skip <| jn [1, 0] (S p hp)
/-! ### fettle/live.Live -/
abbrev nM.R (r : List (List Bool) × List (List Bool) × GErr) (v : Value) (A : List FP) : Prop := ∃ (w1 : Value) (a : FP) (w2 : Value) (b : FP) (w3 : Value) (c : FP), .tuple #[w1, w2, w3] = v ∧ A = [a, b, c] ∧ SlO 58 (kSl 4 kBool) r.1 w1 a ∧ SlO 58 (kSl 4 kBool) r.2.1 w2 b ∧ ErO 63 106 108 r.2.2 w3 c
def nM.nx43  (a : List (List Bool)) (b : List (List Bool)) : Option (List (List Bool) × List (List Bool) × GErr) :=
  some (a, b, GErr.no)
def nM.nx57  (a : List (List Bool)) (b : List (List Bool)) (c : Bool) : Option (Ex (List (List Bool) × List (List Bool)) (List (List Bool) × List (List Bool) × Bool)) :=
  some (.go (a, b, c))
def nM.nx89 (a : Int) (b : List (List Bool)) (c : List (List Bool)) (d : Bool) : Option (Ex (List (List Bool) × List (List Bool) × Bool) (List (List Bool) × List (List Bool) × Bool × Int)) :=
  some (.go (c, b, d, (w64 (a - 1))))
def nM.jn99 (a : Int) (b : List (List Bool)) (c : Bool) : Option (Ex (List (List Bool) × Bool) (List (List Bool) × Bool × Int)) :=
  some (.go (b, c, (w64 (a + 1))))
def nM.bd89 (c : Int) (d : List Bool) (b : List (List Bool)) (e : Bool) (a : Int) : Option (Ex (List (List Bool) × Bool) (List (List Bool) × Bool × Int)) :=
  if a < (len d) then
    (idx d a).bind fun f =>
    (idx b c).bind fun h =>
    (idx h a).bind fun i =>
    if (!(f == i)) = true then
      (idx b c).bind fun g =>
      (idx g a).bind fun j =>
      nM.jn99 a (b.set (c).toNat (g.set (a).toNat f)) true
    else
      nM.jn99 a b e
  else
    some (.ret (b, e))
def nM.nx74 (c : ny) (d : List (List Bool)) (a : Int) (b : List (List Bool)) (e : Bool) : Option (Ex (List (List Bool) × List (List Bool) × Bool) (List (List Bool) × List (List Bool) × Bool × Int)) :=
  (idx c.blocks a).bind fun f =>
  (idx b a).bind fun g =>
  (ow f g).bind fun h =>
  (whl (fun (s : (List (List Bool) × Bool × Int)) => nM.bd89 a h s.1 s.2.1 s.2.2) nD (d, e, 0)).bind fun z =>
  nM.nx89 a b z.1 z.2
def nM.nx122 (a : Int) (b : List (List Bool)) (c : Bool) : Option (Ex (List (List Bool) × Bool) (List (List Bool) × Bool × Int)) :=
  some (.go (b, c, (w64 (a + 1))))
def nM.jn132 (a : Int) (b : List (List Bool)) (c : Bool) : Option (Ex (List (List Bool) × Bool) (List (List Bool) × Bool × Int)) :=
  some (.go (b, c, (w64 (a + 1))))
def nM.bd122 (c : Int) (d : List Bool) (b : List (List Bool)) (e : Bool) (a : Int) : Option (Ex (List (List Bool) × Bool) (List (List Bool) × Bool × Int)) :=
  if a < (len d) then
    (idx d a).bind fun g =>
    (if g = true then (idx b c).bind fun h =>
    (idx h a).bind fun i =>
    some (!i) else some false).bind fun j =>
    if j = true then
      (idx b c).bind fun f =>
      (idx f a).bind fun k =>
      nM.jn132 a (b.set (c).toNat (f.set (a).toNat true)) true
    else
      nM.jn132 a b e
  else
    some (.ret (b, e))
def nM.bd74 (e : List (List Bool)) (f : Int) (b : List Int) (c : List (List Bool)) (d : Bool) (a : Int) : Option (Ex (List (List Bool) × Bool) (List (List Bool) × Bool × Int)) :=
  if a < (len b) then
    (idx b a).bind fun g =>
    (idx e g).bind fun h =>
    (whl (fun (s : (List (List Bool) × Bool × Int)) => nM.bd122 f h s.1 s.2.1 s.2.2) nD (c, d, 0)).bind fun z =>
    nM.nx122 a z.1 z.2
  else
    some (.ret (c, d))
def nM.bd57 (e : ny) (f : List (List Int)) (b : List (List Bool)) (c : List (List Bool)) (d : Bool) (a : Int) : Option (Ex (List (List Bool) × List (List Bool) × Bool) (List (List Bool) × List (List Bool) × Bool × Int)) :=
  if a ≥ 0 then
    (idx f a).bind fun g =>
    (whl (fun (s : (List (List Bool) × Bool × Int)) => nM.bd74 b a g s.1 s.2.1 s.2.2) nD (c, d, 0)).bind fun z =>
    nM.nx74 e b a z.1 z.2
  else
    some (.ret (b, c, d))
def nM.bd43 (a : ny) (d : List (List Int)) (b : List (List Bool)) (c : List (List Bool)) (e : Bool) : Option (Ex (List (List Bool) × List (List Bool)) (List (List Bool) × List (List Bool) × Bool)) :=
  if e = true then
    (whl (fun (s : (List (List Bool) × List (List Bool) × Bool × Int)) => nM.bd57 a d s.1 s.2.1 s.2.2.1 s.2.2.2) nD (b, c, false, (w64 ((len a.blocks) - 1)))).bind fun z =>
    nM.nx57 z.1 z.2.1 z.2.2
  else
    some (.ret (b, c))
def nM.nx34 (a : ny) (b : List (List Int)) (c : List (List Bool)) (d : List (List Bool)) : Option (List (List Bool) × List (List Bool) × GErr) :=
  (whl (fun (s : (List (List Bool) × List (List Bool) × Bool)) => nM.bd43 a b s.1 s.2.1 s.2.2) nD (c, d, true)).bind fun z =>
  nM.nx43 z.1 z.2
def nM.nx166 (a : Int) (b : List (List Bool)) : Option (Ex (List (List Bool)) (List (List Bool) × Int)) :=
  some (.go (b, (w64 (a + 1))))
def nM.nx181 (a : Int) (b : List (List Bool)) : Option (Ex (List (List Bool)) (List (List Bool) × Int)) :=
  some (.go (b, (w64 (a + 1))))
def nM.bd181 (g : List (List Int)) (h : Int) (c : PPhi) (b : List (List Bool)) (a : Int) : Option (Ex (List (List Bool)) (List (List Bool) × Int)) :=
  if a < (len c.args) then
    (idx c.args a).bind fun d =>
    (idx g h).bind fun i =>
    (idx i a).bind fun e =>
    (idx b e).bind fun f =>
    (idx f d).bind fun j =>
    some (.go ((b.set (e).toNat (f.set (d).toNat true)), (w64 (a + 1))))
  else
    some (.ret b)
def nM.bd166 (d : List (List Int)) (e : Int) (b : nA) (c : List (List Bool)) (a : Int) : Option (Ex (List (List Bool)) (List (List Bool) × Int)) :=
  if a < (len b.phis) then
    (idx b.phis a).bind fun f =>
    (whl (fun (s : (List (List Bool) × Int)) => nM.bd181 d e f s.1 s.2) nD (c, 0)).bind fun z =>
    nM.nx181 a z
  else
    some (.ret c)
def nM.bd34 (b : ny) (d : List (List Int)) (c : List (List Bool)) (a : Int) : Option (Ex (List (List Bool)) (List (List Bool) × Int)) :=
  if a < (len b.blocks) then
    (idx b.blocks a).bind fun e =>
    (whl (fun (s : (List (List Bool) × Int)) => nM.bd166 d a e s.1 s.2) nD (c, 0)).bind fun z =>
    nM.nx166 a z
  else
    some (.ret c)
def nM (a1 : nR) (a4 : Int) : Option (List (List Bool) × List (List Bool) × GErr) :=
  (qP a1 a4).bind fun b =>
  if ¬ b = GErr.no then
    some (([] : List (List Bool)), ([] : List (List Bool)), b)
  else
    (idx a1.funcs a4).bind fun a =>
    (oO a).bind fun c =>
    (oF a).bind fun d =>
    (pK a).bind fun e =>
    (pK a).bind fun f =>
    (whl (fun (s : (List (List Bool) × Int)) => nM.bd34 a d s.1 s.2) nD (f, 0)).bind fun z =>
    nM.nx34 a c e z
set_option maxHeartbeats 4000000 in
theorem w9 {E : World} {H : FP} {w : World} {a1 : nR} {a4 : Int} {v2 : Value} {r : List (List Bool) × List (List Bool) × GErr} (a9 : SlI ou H a1.funcs v2) (hp : nM a1 a4 = some r) (hst : St E H [] w) :
    Fn Try.prog 40 #[.agg #[v2], .int .i64 a4] w fun v w' => ∃ A, nM.R r v A ∧ St E H A w' := by
 refine fb 166 [.tmp 4, .tmp 5, .tmp 6] Try.func40 rfl rfl rfl rfl rfl hst <| sr <| tb [v2] rfl rfl fun ba => ta rfl <| ta rfl <| ta rfl <| nz <| nv fun eR bX => sr <| tv (lA (ds := [v2]) oZ 0 rfl rfl rfl rfl) rfl <| tm rfl <| bE hp fun eS hy3 hp => tc 0 [_] rfl c63 (fun _ => w7 (a1 := a1) (a4 := a4) (a9.mono nw) hy3) rfl ?_
 rintro _ _ ⟨bY, aq, rfl, rfl, bb⟩
 refine ta rfl <| nz <| sr <| tm rfl <| tv (pw pc bb rfl) rfl <| nz <| cD rfl hp (fun bZ hp => ?_) fun bZ hp => ?_
 · exact sr <| tm rfl <| ta rfl <| ta rfl <| ta rfl <| nz <| nH <| W.new0 <| W.new0 <| rt hp [1, 0, 2] ⟨(.slice none 0 0), ([] : FP), (.slice none 0 0), ([] : FP), bY, aq, rfl, rfl, (SlO.nil 58), (SlO.nil 58), bb⟩
 · refine sk bX rfl <| sr <| tv (fa oR rfl) rfl <| tv (lb s33 1 rfl rfl rfl) rfl <| tm rfl <| ti u33 i41 a9 hp rfl rfl rfl rfl ?_
   rintro d eT eU _ hp ⟨i, h, rfl, I, q⟩ b0
   refine tv (lR (ds := [.int .i64 d.params, .int .i64 d.result, i, h]) n8 sH b0 0 rfl rfl rfl) rfl <| tl i41 rfl fun f => tS 0 m41 rfl rfl [.int .i64 d.params, .int .i64 d.result, i, h] rfl (oc rfl (oc rfl (oc (I).one (oc (q).one oc0)))) rfl rfl <| nz <| nv fun eV b1 => ch mix [bx f 41 [.int .i64 d.params, .int .i64 d.result, i, h], aq, bx ba 35 [v2]] (nq 0 rfl (nq 1 rfl (nq 2 rfl ns))) <| hv 0 rfl (lAG (ds := [.int .i64 d.params, .int .i64 d.result, i, h]) n8 0 rfl rfl rfl rfl) Ag rfl <| hv 2 rfl (lAG (ds := [.int .i64 d.params, .int .i64 d.result, i, h]) n8 0 rfl rfl rfl rfl) Ag rfl <| ho 1 rfl Ag fun eW b2 => bE hp fun ar hy11 hp => tc 0 [_,_,_] rfl c58 (fun _ => rJ (a1 := d) (I.mono nw) (q.mono nw) hy11) rfl ?_
   rintro _ _ ⟨m, k, rfl, rfl, b3⟩
   refine hk b2 (nq 1 rfl (nq 2 rfl (nq 3 rfl ns))) <| ho 3 rfl Ag fun eX b4 => bE hp fun au hy15 hp => tc 0 [_,_,_,_] rfl c27 (fun _ => qu (a1 := d) (I.mono nw) (q.mono nw) hy15) rfl ?_
   rintro _ _ ⟨J, D, rfl, rfl, b5⟩
   refine hk b4 (nq 2 rfl (nq 3 rfl (nq 4 rfl ns))) <| hv 4 rfl sg Ag rfl <| hv 5 rfl sg Ag rfl <| hz Ag <| tg b1 <| nv fun eY b6 => ch mix [D, k, bx f 41 [.int .i64 d.params, .int .i64 d.result, i, h], aq, bx ba 35 [v2]] (nq 0 rfl (nq 1 rfl (nq 2 rfl (nq 3 rfl (nq 4 rfl ns))))) <| hv 0 rfl (lAG (ds := [.int .i64 d.params, .int .i64 d.result, i, h]) n8 2 rfl rfl rfl rfl) Ag rfl <| hv 2 rfl (lAG (ds := [.int .i64 d.params, .int .i64 d.result, i, h]) n8 2 rfl rfl rfl rfl) Ag rfl <| ho 1 rfl Ag fun eZ b7 => bE hp fun b8 hy21 hp => tc 0 [_,_,_,_,_] rfl c64 (fun _ => ue (a1 := d) (I.mono nw) (q.mono nw) hy21) rfl ?_
   rintro _ _ ⟨j, y, rfl, rfl, b9⟩
   refine hk b7 (nq 1 rfl (nq 2 rfl (nq 3 rfl (nq 4 rfl (nq 5 rfl ns))))) <| ho 3 rfl Ag fun e0 ca => bE hp fun e1 hy25 hp => tc 0 [_,_,_,_,_,_] rfl c64 (fun _ => ue (a1 := d) (I.mono nw) (q.mono nw) hy25) rfl ?_
   rintro _ _ ⟨g, cb, rfl, rfl, cc⟩
   refine hk ca (nq 2 rfl (nq 3 rfl (nq 4 rfl (nq 5 rfl (nq 6 rfl ns))))) <| hv 4 rfl sg Ag rfl <| hv 5 rfl sg Ag rfl <| hz Ag <| tg b6 <| nv fun cd ce => sr <| tv (fa oa rfl) rfl <| tv (lb s39 4 rfl rfl rfl) rfl <| tv (ln u39 q rfl) rfl <| tm rfl <| nz <| nB <| bE hp fun cf cg ci => ?_
   have cj {av aw ck} (cl : SlO 58 (kSl 4 kBool) av g aw) (cm : av = cf) : ∀ w, St E H [bx f 41 [.int .i64 d.params, .int .i64 d.result, i, h], k, y, aw] w → cd (ovr ck [(8, .pointer (some ⟨f, 0, none⟩)), (9, m), (11, j), (12, g)]) w := by
    subst cm
    replace hp : nM.nx34 d ar b8 av = some r := ci
    refine tg ce <| nv fun cn co => sr <| ta rfl <| nz <| nB <| bE hp fun cp cq cr => ?_
    have cs {ax ay az aA ct} (cu : SlO 58 (kSl 4 kBool) ax j az) (cv : SlO 58 (kSl 4 kBool) ay g aA) (cw : (ax, ay) = cp) : ∀ w, St E H [az, aA] w → cn (ovr ct [(11, j), (12, g)]) w := by
     subst cw
     replace hp : nM.nx43 ax ay = some r := cr
     exact tg co <| sr <| tm rfl <| tm rfl <| ta rfl <| ta rfl <| ta rfl <| nz <| nH <| W.new0 <| rt hp [1, 2, 0] ⟨j, az, g, aA, .nilIface, ([] : FP), rfl, rfl, cu, cv, (ErO.nil : ErO 63 106 108 GErr.no .nilIface [])⟩
    refine lp cq [0, 1, 2, 3] rfl (fun s e L => ∃ O P Q S T bc, s = (O, P, Q) ∧ SlO 58 (kSl 4 kBool) O j S ∧ SlO 58 (kSl 4 kBool) P g T ∧ e = ovr bc [(8, .pointer (some ⟨f, 0, none⟩)), (9, m), (11, j), (12, g), (19, .bool Q)] ∧ L = [bx f 41 [.int .i64 d.params, .int .i64 d.result, i, h], k, S, T]) ⟨_, _, _, y, aw, _, rfl, b9, cl, nC _ _ rfl, rfl⟩ ?_
    rintro _ _ _ ⟨O, P, Q, S, T, bc, rfl, be, bf, rfl, rfl⟩ bg hp cx
    replace hp : nM.bd43 d ar O P Q = some bg := hp
    refine nv fun e2 cy => sr <| tm rfl <| nz <| cB rfl hp (fun cz hp => ?_) fun cz hp => ?_
    · refine sk cy rfl <| qf fun cA cC => nB <| sr <| ta rfl <| nz <| sr <| tv (fa oa rfl) rfl <| tv (lb s39 0 rfl rfl rfl) rfl <| tv (ln u39 q rfl) rfl <| tv (bsu rfl rfl) rfl <| ta rfl <| nz <| nB <| bE hp fun cE cF cG => ?_
      have cH {aB aC aD aE aF cI} (cJ : SlO 58 (kSl 4 kBool) aB j aE) (cK : SlO 58 (kSl 4 kBool) aC g aF) (cL : (aB, aC, aD) = cE) : ∀ w, St E H [bx f 41 [.int .i64 d.params, .int .i64 d.result, i, h], k, aE, aF] w → cA (ovr cI [(8, .pointer (some ⟨f, 0, none⟩)), (9, m), (11, j), (12, g), (19, .bool aD)]) w := by
       subst cL
       replace hp : nM.nx57 aB aC aD = some bg := cG
       exact viaK cC <| gk hp [0, 1, 2, 3] ⟨_, _, _, aE, aF, _, rfl, cJ, cK, nC _ _ rfl, rfl⟩
      refine lp cF [0, 1, 2, 3] rfl (fun s e L => ∃ F U V n p X bh, s = (F, U, V, n) ∧ SlO 58 (kSl 4 kBool) F j p ∧ SlO 58 (kSl 4 kBool) U g X ∧ e = ovr bh [(8, .pointer (some ⟨f, 0, none⟩)), (9, m), (11, j), (12, g), (19, .bool V), (20, .int .i64 n)] ∧ L = [bx f 41 [.int .i64 d.params, .int .i64 d.result, i, h], k, p, X]) ⟨_, _, _, _, S, T, _, rfl, be, bf, nC _ _ rfl, rfl⟩ ?_
      rintro _ _ _ ⟨F, U, V, n, p, X, bh, rfl, aG, bi, rfl, rfl⟩ aH hp cM
      replace hp : nM.bd57 d ar F U V n = some aH := hp
      refine nv fun e3 cN => sr <| tm rfl <| tv (bge rfl rfl) rfl <| nz <| cD rfl hp (fun cO hp => ?_) fun cO hp => ?_
      · refine sk cN rfl <| nv fun cP cQ => nB <| nv fun cR cS => sr <| tm rfl <| tm rfl <| ti u73 i25 (b3).ro hp rfl rfl rfl rfl ?_
        rintro G e4 e5 _ hp ⟨K, rfl, bj⟩ cT
        refine tv (lr s25 (Src.at_ 1 rfl) cT 0 rfl rfl) rfl <| tv (ln u25 bj rfl) rfl <| tm rfl <| nz <| nB <| bE hp fun cU cV cW => ?_
        have cX {Y aI z cY} (bk : SlO 58 (kSl 4 kBool) Y g z) (cZ : (Y, aI) = cU) : ∀ w, St E H [bx f 41 [.int .i64 d.params, .int .i64 d.result, i, h], k, p, z] w → cR (ovr cY [(8, .pointer (some ⟨f, 0, none⟩)), (9, m), (11, j), (12, g), (19, .bool aI), (20, .int .i64 n)]) w := by
         subst cZ
         replace hp : nM.nx74 d F n Y aI = some aH := cW
         refine tg cS <| nv fun e6 c0 => ch mix [bx f 41 [.int .i64 d.params, .int .i64 d.result, i, h], k, p, z] (nq 0 rfl (nq 1 rfl (nq 2 rfl (nq 3 rfl ns)))) <| hv 0 rfl (fa oa rfl) Ag rfl <| hv 1 rfl (lbG s39 0 rfl rfl rfl) Ag rfl <| hv 2 rfl mv Ag rfl <| hi 3 rfl u39 i50 q hp rfl rfl rfl Ag rfl ?_
         rintro aJ e7 e8 _ hp ⟨c1, c2, c3, rfl, c4, c5, c6⟩ c7
         refine hv 4 rfl (lR (ds := [c1, c2, .int .i64 aJ.term.kind, .int .i64 aJ.term.arg, c3]) oY srcInH c7 0 rfl rfl rfl) Ag rfl <| hv 5 rfl mv Ag rfl <| hv 6 rfl mv Ag rfl <| hi 7 rfl u85 i58 (bk).ro hp rfl rfl rfl Ag rfl ?_
         rintro c8 e9 fc _ hp ⟨fd, rfl, c9⟩ da
         refine hv 8 rfl (lr s58 (srcInG 3 rfl) da 0 rfl rfl) Ag rfl <| hv 11 rfl mv Ag rfl <| ho 9 rfl Ag fun fe db => bE hp fun aK hy82 hp => tc 0 [_,_,_,_] rfl c65 (fun _ => w8 (a1 := aJ) (a8 := c8) (c4.mono nw) (c5.mono nw) (c6.mono nw) (c9.mono (subB 3 rfl)) hy82) rfl ?_
         rintro _ _ ⟨bl, bm, rfl, rfl, bn⟩
         refine hk db (nq 1 rfl (nq 2 rfl (nq 3 rfl (nq 4 rfl ns)))) <| hv 10 rfl (ln u58 bn.ro rfl) Ag rfl <| hz Ag <| tg c0 <| nB <| bE hp fun dc dd de => ?_
         have df {aL aM aN dg} (dh : SlO 58 (kSl 4 kBool) aL j aN) (di : (aL, aM) = dc) : ∀ w, St E H [bx f 41 [.int .i64 d.params, .int .i64 d.result, i, h], k, aN, z] w → cP (ovr dg [(8, .pointer (some ⟨f, 0, none⟩)), (9, m), (11, j), (12, g), (19, .bool aM), (20, .int .i64 n)]) w := by
          subst di
          replace hp : nM.nx89 n Y aL aM = some aH := de
          exact tg cQ <| nF <| tm rfl <| tv (bsu rfl rfl) rfl <| ta rfl <| nl <| gk hp [0, 1, 2, 3] ⟨_, _, _, _, aN, z, _, rfl, dh, bk, nC _ _ rfl, rfl⟩
         refine lp dd [1, 2, 3, 4, 0] rfl (fun s e L => ∃ Z aa B aO bo, s = (Z, aa, B) ∧ SlO 58 (kSl 4 kBool) Z j aO ∧ e = ovr bo [(8, .pointer (some ⟨f, 0, none⟩)), (9, m), (11, j), (12, g), (19, .bool aa), (20, .int .i64 n), (140, bl), (141, .int .i64 (len aK)), (142, .int .i64 B)] ∧ L = [bx f 41 [.int .i64 d.params, .int .i64 d.result, i, h], k, aO, z, bm]) ⟨_, _, _, p, _, rfl, aG, nC _ _ rfl, rfl⟩ ?_
         rintro _ _ _ ⟨Z, aa, B, aO, bo, rfl, ab, rfl, rfl⟩ bp hp dj
         replace hp : nM.bd89 n aK Z aa B = some bp := hp
         refine sr <| tv (blt rfl rfl) rfl <| nz <| nv fun ff dk => cD rfl hp (fun dl hp => ?_) fun dl hp => ?_
         · refine sk dk rfl <| nv fun dm dn => ?_
           have bq {br bs aP dp} (dq : SlO 58 (kSl 4 kBool) br j aP) (hp : nM.jn99 B br bs = some bp) : ∀ w, St E H [bx f 41 [.int .i64 d.params, .int .i64 d.result, i, h], k, aP, z, bm] w → dm (ovr dp [(8, .pointer (some ⟨f, 0, none⟩)), (9, m), (11, j), (12, g), (19, .bool bs), (20, .int .i64 n), (140, bl), (141, .int .i64 (len aK)), (142, .int .i64 B)]) w := by
            exact tg dn <| nF <| tv (bad rfl rfl) rfl <| tm rfl <| nl <| gk hp [0, 1, 2, 3, 4] ⟨_, _, _, aP, _, rfl, dq, nC _ _ rfl, rfl⟩
           refine nB <| sr <| tm rfl <| ti u58 i4 (bn).ro hp rfl rfl rfl rfl ?_
           rintro bt fg fh _ hp rfl dr
           refine tv (lr s4 (Src.at_ 4 rfl) dr 0 rfl rfl) rfl <| ta rfl <| ta rfl <| nz <| sr <| tm rfl <| tm rfl <| tm rfl <| ti u85 i58 (ab).ro hp rfl rfl rfl rfl ?_
           rintro fi fj fk _ hp ⟨fl, rfl, dt⟩ du
           refine tv (lr s58 (Src.at_ 2 rfl) du 0 rfl rfl) rfl <| tm rfl <| ti u58 i4 dt hp rfl rfl rfl rfl ?_
           rintro dv fm fn _ hp rfl dw
           refine tv (lr s4 (Src.at_ 2 rfl) dw 0 rfl rfl) rfl <| tv (vI (b := bt) (c := dv) Try.underlying4 rfl rfl) rfl <| nz <| cB rfl hp (fun dx hp => ?_) fun dx hp => ?_
           · refine nF <| tm rfl <| tm rfl <| tp [2, 0, 1, 3, 4] [_,_,_,_,_] rfl rfl <| bE hp fun dy bu hp => TL.open_ ab bu ?_
             rintro fo _ fp fq aQ ⟨fr, rfl, bv⟩
             exact tv (pa u85 i58 rfl rfl (oM bu).1 aQ) rfl <| tv (lr s58 (Src.at_ 0 rfl) (Hole.cells aQ) 0 rfl rfl) rfl <| tm rfl <| tm rfl <| tO u58 i4 bv hp rfl rfl rfl rfl fun fs ft fu dz hp => tp [1, 0, 2, 3, 4, 5] [_,_,_,_,_,_] rfl rfl <| tE bv dz m4 rfl ⟨rfl, rfl⟩ w1 fun fv dA => ta rfl <| nl <| wp [1, 0, 2, 3, 4, 5] [_,_,_,_,_,_] rfl rfl <| W.shut (a := (dy.set (B).toNat bt)) aQ ⟨_, rfl, dA⟩ fun fw dB => jn [1, 2, 0, 3, 4] (bq dB hp)
           · exact TC.skip <| jn [0, 1, 2, 3, 4] (bq ab hp)
         · exact nN <| jn [0, 1, 2, 3] (df ab (nK hp dj))
        refine lp cV [0, 1, 2, 3] rfl (fun s e L => ∃ ac ad t ae bw, s = (ac, ad, t) ∧ SlO 58 (kSl 4 kBool) ac g ae ∧ e = ovr bw [(8, .pointer (some ⟨f, 0, none⟩)), (9, m), (11, j), (12, g), (19, .bool ad), (20, .int .i64 n), (96, K), (97, .int .i64 (len G)), (98, .int .i64 t)] ∧ L = [bx f 41 [.int .i64 d.params, .int .i64 d.result, i, h], k, p, ae]) ⟨_, _, _, X, _, rfl, bi, nC _ _ rfl, rfl⟩ ?_
        rintro _ _ _ ⟨ac, ad, t, ae, bw, rfl, bz, rfl, rfl⟩ bA hp dC
        replace hp : nM.bd74 F n G ac ad t = some bA := hp
        refine sr <| tv (blt rfl rfl) rfl <| nz <| nv fun fx dD => cD rfl hp (fun dE hp => ?_) fun dE hp => ?_
        · refine sk dD rfl <| nv fun dF dG => nB <| sr <| ti u25 i3 bj hp rfl rfl rfl rfl ?_
          rintro fy fz fA _ hp rfl dH
          refine tv (lr s3 (Src.at_ 1 rfl) dH 0 rfl rfl) rfl <| ta rfl <| nz <| sr <| tm rfl <| tm rfl <| ti u85 i58 (aG).ro hp rfl rfl rfl rfl ?_
          rintro af fB fC _ hp ⟨aR, rfl, bB⟩ dI
          refine tv (lr s58 (Src.at_ 2 rfl) dI 0 rfl rfl) rfl <| tv (ln u58 bB rfl) rfl <| tm rfl <| nz <| nB <| bE hp fun dJ dK dL => ?_
          have dM {aS aT aU dN} (dO : SlO 58 (kSl 4 kBool) aS g aU) (dP : (aS, aT) = dJ) : ∀ w, St E H [bx f 41 [.int .i64 d.params, .int .i64 d.result, i, h], k, p, aU] w → dF (ovr dN [(8, .pointer (some ⟨f, 0, none⟩)), (9, m), (11, j), (12, g), (19, .bool aT), (20, .int .i64 n), (96, K), (97, .int .i64 (len G)), (98, .int .i64 t)]) w := by
           subst dP
           replace hp : nM.nx122 t aS aT = some bA := dL
           exact tg dG <| nF <| tv (bad rfl rfl) rfl <| tm rfl <| nl <| gk hp [0, 1, 2, 3] ⟨_, _, _, aU, _, rfl, dO, nC _ _ rfl, rfl⟩
          refine lp dK [0, 1, 2, 3] rfl (fun s e L => ∃ ag M u ah bC, s = (ag, M, u) ∧ SlO 58 (kSl 4 kBool) ag g ah ∧ e = ovr bC [(8, .pointer (some ⟨f, 0, none⟩)), (9, m), (11, j), (12, g), (19, .bool M), (20, .int .i64 n), (96, K), (97, .int .i64 (len G)), (98, .int .i64 t), (105, aR), (106, .int .i64 (len af)), (107, .int .i64 u)] ∧ L = [bx f 41 [.int .i64 d.params, .int .i64 d.result, i, h], k, p, ah]) ⟨_, _, _, ae, _, rfl, bz, nC _ _ rfl, rfl⟩ ?_
          rintro _ _ _ ⟨ag, M, u, ah, bC, rfl, ai, rfl, rfl⟩ bD hp dQ
          replace hp : nM.bd122 n af ag M u = some bD := hp
          refine sr <| tv (blt rfl rfl) rfl <| nz <| nv fun fD dR => cD rfl hp (fun dS hp => ?_) fun dS hp => ?_
          · refine sk dR rfl <| nv fun dT dU => ?_
            have bF {bG bH aV dV} (dW : SlO 58 (kSl 4 kBool) bG g aV) (hp : nM.jn132 u bG bH = some bD) : ∀ w, St E H [bx f 41 [.int .i64 d.params, .int .i64 d.result, i, h], k, p, aV] w → dT (ovr dV [(8, .pointer (some ⟨f, 0, none⟩)), (9, m), (11, j), (12, g), (19, .bool bH), (20, .int .i64 n), (96, K), (97, .int .i64 (len G)), (98, .int .i64 t), (105, aR), (106, .int .i64 (len af)), (107, .int .i64 u)]) w := by
             exact tg dU <| nF <| tv (bad rfl rfl) rfl <| tm rfl <| nl <| gk hp [0, 1, 2, 3] ⟨_, _, _, aV, _, rfl, dW, nC _ _ rfl, rfl⟩
            refine nB <| sr <| tm rfl <| ti u58 i4 bB hp rfl rfl rfl rfl ?_
            rintro fE fF fG _ hp rfl dX
            refine tv (lr s4 (Src.at_ 2 rfl) dX 0 rfl rfl) rfl <| ta rfl <| ta rfl <| nz <| sr <| tm rfl <| tm rfl <| bE hp fun dY ht142 hp => TL.cut 9 fun dZ d0 => ?_
            have bI {d1} : ∀ w, St E H [bx f 41 [.int .i64 d.params, .int .i64 d.result, i, h], k, p, ah] w → dZ (ovr d1 [(122, .bool dY), (8, .pointer (some ⟨f, 0, none⟩)), (9, m), (11, j), (12, g), (19, .bool M), (20, .int .i64 n), (23, .int .i64 u), (96, K), (97, .int .i64 (len G)), (98, .int .i64 t), (105, aR), (106, .int .i64 (len af)), (107, .int .i64 u)]) w := by
             refine tlg d0 <| nz <| cB rfl hp (fun d2 hp => ?_) fun d2 hp => ?_
             · refine nF <| tm rfl <| tm rfl <| tp [3, 0, 1, 2] [_,_,_,_] rfl rfl <| bE hp fun d3 bJ hp => TL.open_ ai bJ ?_
               rintro fH _ fI fJ aW ⟨fK, rfl, bK⟩
               exact tv (pa u85 i58 rfl rfl (oM bJ).1 aW) rfl <| tv (lr s58 (Src.at_ 0 rfl) (Hole.cells aW) 0 rfl rfl) rfl <| tm rfl <| tO u58 i4 bK hp rfl rfl rfl rfl fun fL fM fN d4 hp => tp [1, 0, 2, 3, 4] [_,_,_,_,_] rfl rfl <| tE bK d4 m4 rfl ⟨rfl, rfl⟩ w1 fun fO d5 => ta rfl <| nl <| wp [1, 0, 2, 3, 4] [_,_,_,_,_] rfl rfl <| W.shut (a := (d3.set (u).toNat true)) aW ⟨_, rfl, d5⟩ fun fP d6 => jn [1, 2, 3, 0] (bF d6 hp)
             · exact TC.skip <| jn [0, 1, 2, 3] (bF ai hp)
            refine ifE ht142 (fun l hp => ?_) fun l hp => ?_
            · refine gy rfl (bbT l) <| tm rfl <| gy rfl (bbT l) <| tm rfl <| gy rfl (bbT l) <| ti u85 i58 (ai).ro hp rfl rfl rfl rfl ?_
              rintro fQ fR fS _ hp ⟨fT, rfl, d7⟩ d8
              refine gy rfl (bbT l) <| tv (lr s58 (Src.at_ 3 rfl) d8 0 rfl rfl) rfl <| gy rfl (bbT l) <| tm rfl <| gy rfl (bbT l) <| ti u58 i4 d7 hp rfl rfl rfl rfl ?_
              rintro fU fV fW _ hp rfl d9
              refine gy rfl (bbT l) <| tv (lr s4 (Src.at_ 3 rfl) d9 0 rfl rfl) rfl <| gy rfl (bbT l) <| tv (oI rfl) rfl <| tv (pT (bbT l)) rfl ?_
              obtain rfl := Option.some.inj hp
              exact nj bI rfl
            · refine gn rfl (bbF l) rfl rfl <| gn rfl (bbF l) rfl rfl <| gn rfl (bbF l) rfl rfl <| gn rfl (bbF l) rfl rfl <| gn rfl (bbF l) rfl rfl <| gn rfl (bbF l) rfl rfl <| gn rfl (bbF l) rfl rfl <| gn rfl (bbF l) rfl rfl <| tv (pF (bbF l)) rfl ?_
              obtain rfl := Option.some.inj hp
              exact nj bI rfl
          · exact nN <| jn [0, 1, 2, 3] (dM ai (nK hp dQ))
        · exact nN <| jn [0, 1, 2, 3] (cX bz (nK hp dC))
      · exact nN <| jn [0, 1, 2, 3] (cH aG bi (nK hp cM))
    · exact nN <| jn [2, 3] (cs be bf (nK hp cx))
   refine lp cg [4, 3, 2, 1, 0] rfl (fun s e L => ∃ aj o ak bL, s = (aj, o) ∧ SlO 58 (kSl 4 kBool) aj g ak ∧ e = ovr bL [(8, .pointer (some ⟨f, 0, none⟩)), (9, m), (10, J), (11, j), (12, g), (47, h), (48, .int .i64 (len d.blocks)), (49, .int .i64 o)] ∧ L = [bx f 41 [.int .i64 d.params, .int .i64 d.result, i, h], k, D, y, ak]) ⟨_, _, cb, _, rfl, cc, nC _ _ rfl, rfl⟩ ?_
   rintro _ _ _ ⟨aj, o, ak, bL, rfl, bM, rfl, rfl⟩ bN hp ea
   replace hp : nM.bd34 d au aj o = some bN := hp
   refine sr <| tv (blt rfl rfl) rfl <| nz <| nv fun fX eb => cD rfl hp (fun ec hp => ?_) fun ec hp => ?_
   · refine sk eb rfl <| nv fun ed ee => nB <| sr <| tm rfl <| ti u39 i50 q hp rfl rfl rfl rfl ?_
     rintro x fY fZ _ hp ⟨N, bO, bP, rfl, aX, ef, eg⟩ eh
     refine tv (lR (ds := [N, bO, .int .i64 x.term.kind, .int .i64 x.term.arg, bP]) oY sH eh 0 rfl rfl rfl) rfl <| tl i50 rfl fun f0 => ta rfl <| tS 0 m50 rfl rfl [N, bO, .int .i64 x.term.kind, .int .i64 x.term.arg, bP] rfl (oc (aX).one (oc (ef).one (oc rfl (oc rfl (oc (eg).one oc0))))) rfl rfl <| nz <| sr <| tv (fa oE rfl) rfl <| tv (lb s47 0 rfl rfl rfl) rfl <| tv (ln u47 aX rfl) rfl <| tm rfl <| nz <| nB <| bE hp fun ei ej ek => ?_
     have el {aY aZ em} (en : SlO 58 (kSl 4 kBool) aY g aZ) (eo : aY = ei) : ∀ w, St E H [bx f 41 [.int .i64 d.params, .int .i64 d.result, i, h], k, D, y, aZ] w → ed (ovr em [(8, .pointer (some ⟨f, 0, none⟩)), (9, m), (10, J), (11, j), (12, g), (47, h), (48, .int .i64 (len d.blocks)), (49, .int .i64 o)]) w := by
      subst eo
      replace hp : nM.nx166 o aY = some bN := ek
      exact tg ee <| nF <| tv (bad rfl rfl) rfl <| tm rfl <| nl <| gk hp [0, 1, 2, 3, 4] ⟨_, _, aZ, _, rfl, en, nC _ _ rfl, rfl⟩
     refine lp ej [1, 2, 3, 4, 5] rfl (fun s e L => ∃ al C am bQ, s = (al, C) ∧ SlO 58 (kSl 4 kBool) al g am ∧ e = ovr bQ [(8, .pointer (some ⟨f, 0, none⟩)), (9, m), (10, J), (11, j), (12, g), (13, .int .i64 o), (47, h), (48, .int .i64 (len d.blocks)), (49, .int .i64 o), (55, N), (56, .int .i64 (len x.phis)), (57, .int .i64 C)] ∧ L = [bx f 41 [.int .i64 d.params, .int .i64 d.result, i, h], k, D, y, am]) ⟨_, _, ak, _, rfl, bM, nC _ _ rfl, rfl⟩ ?_
     rintro _ _ _ ⟨al, C, am, bQ, rfl, bR, rfl, rfl⟩ bS hp ep
     replace hp : nM.bd166 au o x al C = some bS := hp
     refine sr <| tv (blt rfl rfl) rfl <| nz <| nv fun f1 eq => cD rfl hp (fun er hp => ?_) fun er hp => ?_
     · refine sk eq rfl <| nv fun es et => nB <| sr <| ti u47 i70 aX hp rfl rfl rfl rfl ?_
       rintro an f2 f3 _ hp ⟨a0, rfl, a2⟩ eu
       refine tv (lR (ds := [.int .i64 an.dst, a0]) p8 sH eu 0 rfl rfl rfl) rfl <| tl i70 rfl fun f4 => tS 0 m70 rfl rfl [.int .i64 an.dst, a0] rfl (oc rfl (oc (a2).one oc0)) rfl rfl <| nz <| sr <| tv (fa py rfl) rfl <| tv (lb s25 0 rfl rfl rfl) rfl <| tv (ln u25 a2 rfl) rfl <| tm rfl <| nz <| nB <| bE hp fun ev ew ex => ?_
       have ey {a3 a5 ez} (eA : SlO 58 (kSl 4 kBool) a3 g a5) (eB : a3 = ev) : ∀ w, St E H [bx f 41 [.int .i64 d.params, .int .i64 d.result, i, h], k, D, y, a5] w → es (ovr ez [(8, .pointer (some ⟨f, 0, none⟩)), (9, m), (10, J), (11, j), (12, g), (13, .int .i64 o), (47, h), (48, .int .i64 (len d.blocks)), (49, .int .i64 o), (55, N), (56, .int .i64 (len x.phis)), (57, .int .i64 C)]) w := by
        subst eB
        replace hp : nM.nx181 C a3 = some bS := ex
        exact tg et <| nF <| tv (bad rfl rfl) rfl <| tm rfl <| nl <| gk hp [0, 1, 2, 3, 4] ⟨_, _, a5, _, rfl, eA, nC _ _ rfl, rfl⟩
       refine lp ew [1, 2, 3, 4, 5] rfl (fun s e L => ∃ ao ap a6 bT, s = (ao, ap) ∧ SlO 58 (kSl 4 kBool) ao g a6 ∧ e = ovr bT [(8, .pointer (some ⟨f, 0, none⟩)), (9, m), (10, J), (11, j), (12, g), (13, .int .i64 o), (47, h), (48, .int .i64 (len d.blocks)), (49, .int .i64 o), (55, N), (56, .int .i64 (len x.phis)), (57, .int .i64 C), (62, a0), (63, .int .i64 (len an.args)), (64, .int .i64 ap)] ∧ L = [bx f 41 [.int .i64 d.params, .int .i64 d.result, i, h], k, D, y, a6]) ⟨_, _, am, _, rfl, bR, nC _ _ rfl, rfl⟩ ?_
       rintro _ _ _ ⟨ao, ap, a6, bT, rfl, bU, rfl, rfl⟩ eC hp eD
       replace hp : nM.bd181 au o an ao ap = some eC := hp
       refine sr <| tv (blt rfl rfl) rfl <| nz <| nv fun f5 eE => cD rfl hp (fun eF hp => ?_) fun eF hp => ?_
       · refine sk eE rfl <| nv fun f6 eG => nB <| sr <| tm rfl <| ti u25 i3 a2 hp rfl rfl rfl rfl ?_
         rintro eH f7 f8 _ hp rfl eI
         refine tv (lr s3 sH eI 0 rfl rfl) rfl <| ta rfl <| ta rfl <| nz <| nF <| tm rfl <| tm rfl <| tm rfl <| ti u73 i25 (b5).ro hp rfl rfl rfl rfl ?_
         rintro f9 ga gb _ hp ⟨gc, rfl, eJ⟩ eK
         refine tv (lr s25 (Src.at_ 2 rfl) eK 0 rfl rfl) rfl <| tm rfl <| ti u25 i3 eJ hp rfl rfl rfl rfl ?_
         rintro gd ge gf _ hp rfl eL
         refine tv (lr s3 (Src.at_ 2 rfl) eL 0 rfl rfl) rfl <| tp [4, 0, 1, 2, 3] [_,_,_,_,_] rfl rfl <| bE hp fun eM bV hp => TL.open_ bU bV ?_
         rintro gg _ gh gi a7 ⟨gj, rfl, bW⟩
         exact tv (pa u85 i58 rfl rfl (oM bV).1 a7) rfl <| tv (lr s58 (Src.at_ 0 rfl) (Hole.cells a7) 0 rfl rfl) rfl <| tm rfl <| tO u58 i4 bW hp rfl rfl rfl rfl fun gl gm go eN hp => tp [1, 0, 2, 3, 4, 5] [_,_,_,_,_,_] rfl rfl <| tE bW eN m4 rfl ⟨rfl, rfl⟩ w1 fun gp eO => nl <| tg eG <| nF <| tv (bad rfl rfl) rfl <| tm rfl <| nl <| wp [1, 0, 2, 3, 4, 5] [_,_,_,_,_,_] rfl rfl <| W.shut (a := (eM.set (eH).toNat true)) a7 ⟨_, rfl, eO⟩ fun eP eQ => gk hp [1, 2, 3, 4, 0] ⟨_, _, eP, _, rfl, eQ, nC _ _ rfl, rfl⟩
       · exact nN <| jn [0, 1, 2, 3, 4] (ey bU (nK hp eD))
     · exact nN <| jn [0, 1, 2, 3, 4] (el bR (nK hp ep))
   · exact nN <| jn [0, 1, 3, 4] (cj bM (nK hp ea))
end
end Go.Proofs.Ytpmcbahahjelnaa
