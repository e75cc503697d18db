/- Several parts in one text, the first of which: The walk through the program's functions: each one's pure reading, and that a call does what it says. No conditions. -/
import Derived.Test.YtpmcbahahjelnaaQ2
set_option linter.unusedVariables false
set_option linter.unusedSimpArgs false
namespace Go.Proofs.Ytpmcbahahjelnaa
open Go Go.Proofs
/-! ### fettle/proper.Form -/
abbrev oX.R (r : GErr) (v : Value) (A : List FP) : Prop := ∃ (w1 : Value) (a : FP), w1 = v ∧ A = [a] ∧ ErO 63 106 108 r w1 a
def oX.nx35 (a : nA) (c : List PMaker × List Int) : Option GErr :=
  (oJ a).bind fun d =>
  (od (⟨(⟨a.params, a.result, a.regs, a.blocks⟩ : nA), c.1, d, -1⟩ : o4)).bind fun b =>
  if b ≥ 0 then
    some (GErr.spot b (GErr.code 4))
  else
    some GErr.no
def oX.bd35 (d : nA) (b : List PMaker × List Int) (a : Int) : Option (Ex (Ex GErr Unit) Int) :=
  if a < (len b.2) then
    (idx b.2 a).bind fun c =>
    if c > 1 ∨ (c > 0 ∧ a < d.params) then
      some (.ret (.ret (GErr.spot a (GErr.code 7))))
    else
      some (.go (w64 (a + 1)))
  else
    some (.ret (.go ()))
def oX.nx24 (a : nA) : Option GErr :=
  (oo a).bind fun b =>
  (whl (fun (s : Int) => oX.bd35 a b s) nB 0).bind fun z =>
  match z with
    | .ret r => some r
    | .go p => oX.nx35 a b
def oX.bd24 (b : List Bool) (a : Int) : Option (Ex (Ex GErr Unit) Int) :=
  if a < (len b) then
    (idx b a).bind fun c =>
    if (!c) = true then
      some (.ret (.ret (GErr.code 6)))
    else
      some (.go (w64 (a + 1)))
  else
    some (.ret (.go ()))
def oX (a1 : nT) (a4 : Int) : Option GErr :=
  (pD a1).bind fun a =>
  if ¬ a = GErr.no then
    some a
  else
    if a4 < 0 ∨ a4 ≥ (len a1.funcs) then
      some (GErr.code 1)
    else
      (idx a1.funcs a4).bind fun b =>
      (ql b).bind fun c =>
      (whl (fun (s : Int) => oX.bd24 c s) nB 0).bind fun z =>
      match z with
        | .ret r => some r
        | .go p => oX.nx24 b
set_option maxHeartbeats 4000000 in
theorem wC {E : World} {H : FP} {w : World} {a1 : nT} {a4 : Int} {v2 : Value} {r : GErr} (q : SlI oB H a1.funcs v2) (hp : oX a1 a4 = some r) (hst : St E H [] w) :
    Fn Try.prog 26 #[.agg #[v2], .int .i64 a4] w fun v w' => ∃ A, oX.R r v A ∧ St E H A w' := by
 refine fb 96 [.tmp 4] Try.func26 rfl rfl rfl rfl rfl hst <| sr <| tb [v2] rfl rfl fun B => ta rfl <| nz <| nv fun aX X => sr <| tv (lA (ds := [v2]) pc 0 rfl rfl rfl rfl) rfl <| bE hp fun aY hy3 hp => tc 0 [_] rfl c47 (fun _ => sL (a1 := a1) (q.mono nw) hy3) rfl ?_
 rintro _ _ ⟨Y, C, rfl, rfl, D⟩
 refine ta rfl <| nz <| sr <| tm rfl <| tv (pI pp D rfl) rfl <| nz <| cD rfl hp (fun Z hp => ?_) fun Z hp => ?_
 · exact sr <| tm rfl <| ta rfl <| nz <| nH <| rt hp [0] ⟨Y, C, rfl, rfl, D⟩
 · refine sk X rfl <| nv fun aZ aa => sr <| tm rfl <| tv (blt rfl rfl) rfl <| tm rfl <| TL.cut 6 fun ab ac => ?_
   have F {ad} : ∀ w, St E H [C, bx B 35 [v2]] w → ab (ovr ad [(27, .bool (decide (a4 < 0 ∨ a4 ≥ (len a1.funcs)))), (1, .int .i64 a4), (2, .pointer (some ⟨B, 0, none⟩))]) w := by
    refine tlg ac <| nz <| cD rfl hp (fun ae hp => ?_) fun ae hp => ?_
    · exact sr <| tv (mI u63 rfl) rfl <| ta rfl <| nz <| nH <| W.new0 <| rt hp [0] ⟨(.iface 63 (.int .i64 1)), ([] : FP), rfl, rfl, (ErO.mk _ : ErO 63 106 108 (GErr.code 1) (.iface 63 (.int .i64 1)) [])⟩
    · refine sk aa rfl <| sr <| tv (fa oS rfl) rfl <| tv (lb s33 1 rfl rfl rfl) rfl <| tm rfl <| ti u33 i41 q hp rfl rfl rfl rfl ?_
      rintro a a0 a3 _ hp ⟨b, c, rfl, m, n⟩ af
      refine tv (lR (ds := [.int .i64 a.params, .int .i64 a.result, b, c]) n9 sH af 0 rfl rfl rfl) rfl <| tl i41 rfl fun f => tS 0 m41 rfl rfl [.int .i64 a.params, .int .i64 a.result, b, c] rfl (oc rfl (oc rfl (oc (m).one (oc (n).one oc0)))) rfl rfl <| nz <| nv fun ag ah => sr <| tv (lA (ds := [.int .i64 a.params, .int .i64 a.result, b, c]) n9 0 rfl rfl rfl rfl) rfl <| bE hp fun G hy17 hp => tc 0 [_,_,_] rfl c48 (fun _ => sa (a1 := a) (m.mono nw) (n.mono nw) hy17) rfl ?_
      rintro _ _ ⟨ai, aj, rfl, rfl, I⟩
      refine tv (ln u58 I.ro rfl) rfl <| tm rfl <| nz <| nC <| bE hp fun ak al J => ?_
      have am {an} (ao : .go () = ak) : ∀ w, St E H [bx f 41 [.int .i64 a.params, .int .i64 a.result, b, c]] w → ag (ovr an [(6, .pointer (some ⟨f, 0, none⟩))]) w := by
       subst ao
       replace hp : oX.nx24 a = some r := J
       refine tg ah <| sr <| tv (lA (ds := [.int .i64 a.params, .int .i64 a.result, b, c]) n9 0 rfl rfl rfl rfl) rfl <| bE hp fun l hy26 hp => tc 0 [_] rfl c49 (fun _ => wy (a1 := a) (m.mono nw) (n.mono nw) hy26) rfl ?_
       rintro _ _ ⟨k, o, t, u, rfl, rfl, K, M⟩
       refine tm rfl <| tv (xt rfl rfl) rfl <| tv (xt rfl rfl) rfl <| ta rfl <| ta rfl <| nz <| nv fun ap aq => sr <| tm rfl <| tv (ln u25 M.ro rfl) rfl <| tm rfl <| nz <| nC <| bE hp fun ar au N => ?_
       have av {aw} (ax : .go () = ar) : ∀ w, St E H [bx f 41 [.int .i64 a.params, .int .i64 a.result, b, c], o] w → ap (ovr aw [(6, .pointer (some ⟨f, 0, none⟩)), (9, k)]) w := by
        subst ax
        replace hp : oX.nx35 a l = some r := N
        refine tg aq <| nv fun a5 ay => ch mix [bx f 41 [.int .i64 a.params, .int .i64 a.result, b, c], o] (nq 0 rfl (nq 1 rfl ns)) <| hv 0 rfl (lAG (ds := [.int .i64 a.params, .int .i64 a.result, b, c]) n9 0 rfl rfl rfl rfl) (by kernel_rfl) rfl <| hv 1 rfl mv (by kernel_rfl) rfl <| hv 2 rfl (lAG (ds := [.int .i64 a.params, .int .i64 a.result, b, c]) n9 0 rfl rfl rfl rfl) (by kernel_rfl) rfl <| ho 3 rfl (by kernel_rfl) fun a6 az => bE hp fun aA hy41 hp => tc 0 [_,_] rfl c50 (fun _ => tW (a1 := a) (m.mono nw) (n.mono nw) hy41) rfl ?_
        rintro _ _ ⟨x, a7, rfl, rfl, O⟩
        refine hk az (nq 1 rfl (nq 2 rfl ns)) <| hv 4 rfl (oh (vs := [(0, .agg #[.int .i64 a.params, .int .i64 a.result, b, c]), (1, k), (2, x), (3, .int .i64 (-1))]) (ds := [.int .i64 a.params, .int .i64 a.result, b, c, k, x, .int .i64 (-1)]) rfl (fun w => by obtain ⟨_, _, rfl⟩ := (K).len; obtain ⟨_, _, rfl⟩ := (O).len; kernel_rfl)) (by kernel_rfl) rfl <| ho 5 rfl (by kernel_rfl) fun a8 aB => tb [.int .i64 a.params, .int .i64 a.result, b, c, k, x, .int .i64 (-1)] rfl rfl fun a9 => hk aB (nq 2 rfl (nq 3 rfl ns)) <| hv 6 rfl sg (by kernel_rfl) rfl <| hz (by kernel_rfl) <| tg ay <| sr <| tm rfl <| bE hp fun p hy45 hp => tc 1 [_,_,_] rfl c51 (fun _ => wB (a2 := (⟨(⟨a.params, a.result, a.regs, a.blocks⟩ : nA), l.1, aA, -1⟩ : o4)) (m.mono nw) (n.mono nw) (K.ro.mono (subB 2 rfl)) (O.ro.mono (subB 0 rfl)) hy45) rfl ?_
        rintro _ _ ⟨rfl, rfl⟩
        refine nz <| nv fun ba aC => sr <| tm rfl <| tv (nE rfl) rfl <| tv (fa rv rfl) rfl <| tv (lb s3 0 rfl rfl rfl) rfl <| tv (bge rfl rfl) rfl <| nz <| cD rfl hp (fun aD hp => ?_) fun aD hp => ?_
        · exact sr <| tm rfl <| tv (nE rfl) rfl <| tv (fa rv rfl) rfl <| tv (lb s3 0 rfl rfl rfl) rfl <| tv (mI u63 rfl) rfl <| tv (oh (vs := [(0, .int .i64 p), (1, .iface 63 (.int .i64 4))]) (ds := [.int .i64 p, .iface 63 (.int .i64 4)]) rfl (fun w => by kernel_rfl)) rfl <| tb [.int .i64 p, .iface 63 (.int .i64 4)] rfl rfl fun y => TL.new0 <| tv (mI u106 rfl) rfl <| tp [1, 0, 2, 3, 4, 5] [_,_,_,_,_,_] rfl rfl <| tf 0 2 [_,_,_,_,_] rfl <| ta rfl <| nz <| nH <| rt hp [0] ⟨(.iface 106 (.pointer (some ⟨y, 0, none⟩))), (bx y 108 [.int .i64 p, (.iface 63 (.int .i64 4))] ++ (([] : FP))), rfl, rfl, (ErO.at_ p y (ErO.mk _ : ErO 63 106 108 (GErr.code 4) (.iface 63 (.int .i64 4)) []))⟩
        · exact sk aC rfl <| sr <| ta rfl <| nz <| nH <| W.new0 <| rt hp [0] ⟨.nilIface, ([] : FP), rfl, rfl, (ErO.nil : ErO 63 106 108 GErr.no .nilIface [])⟩
       refine lp au [2, 0, 1] rfl (fun s e L => ∃ P, e = ovr P [(6, .pointer (some ⟨f, 0, none⟩)), (9, k), (50, t), (51, .int .i64 (len l.2)), (52, .int .i64 s)] ∧ L = [bx f 41 [.int .i64 a.params, .int .i64 a.result, b, c], o, u]) ⟨_, nD _ _ rfl, rfl⟩ ?_
       rintro h _ _ ⟨P, rfl, rfl⟩ aE hp Q
       replace hp : oX.bd35 a l h = some aE := hp
       refine sr <| tv (blt rfl rfl) rfl <| nz <| nv fun bb aF => cD rfl hp (fun aG hp => ?_) fun aG hp => ?_
       · refine sk aF rfl <| nv fun bc aH => nC <| sr <| tm rfl <| ti u25 i3 (M).ro hp rfl rfl rfl rfl ?_
         rintro j be bf _ hp rfl aI
         refine tv (lr s3 (Src.at_ 2 rfl) aI 0 rfl rfl) rfl <| ta rfl <| ta rfl <| nz <| sr <| tm rfl <| tv (bgt rfl rfl) rfl <| tm rfl <| TL.cut 9 fun aJ aK => ?_
         have S {aL} : ∀ w, St E H [bx f 41 [.int .i64 a.params, .int .i64 a.result, b, c], o, u] w → aJ (ovr aL [(68, .bool (decide (j > 1 ∨ (j > 0 ∧ h < a.params)))), (6, .pointer (some ⟨f, 0, none⟩)), (9, k), (11, .int .i64 h), (50, t), (51, .int .i64 (len l.2)), (52, .int .i64 h)]) w := by
          refine tlg aK <| nz <| cD rfl hp (fun aM hp => ?_) fun aM hp => ?_
          · refine sr <| tm rfl <| tv (mI u63 rfl) rfl <| tv (oh (vs := [(0, .int .i64 h), (1, .iface 63 (.int .i64 7))]) (ds := [.int .i64 h, .iface 63 (.int .i64 7)]) rfl (fun w => by kernel_rfl)) rfl <| tb [.int .i64 h, .iface 63 (.int .i64 7)] rfl rfl fun z => TL.new0 <| tv (mI u106 rfl) rfl <| tp [1, 0, 2, 3, 4] [_,_,_,_,_] rfl rfl <| tf 0 2 [_,_,_,_] rfl <| ta rfl <| nz <| nH ?_
            obtain rfl := nJ hp Q
            exact rt N [0] ⟨(.iface 106 (.pointer (some ⟨z, 0, none⟩))), (bx z 108 [.int .i64 h, (.iface 63 (.int .i64 7))] ++ (([] : FP))), rfl, rfl, (ErO.at_ h z (ErO.mk _ : ErO 63 106 108 (GErr.code 7) (.iface 63 (.int .i64 7)) []))⟩
          · exact sk aH rfl <| nG <| tv (bad rfl rfl) rfl <| tm rfl <| nl <| gk hp [0, 1, 2] ⟨_, nD _ _ rfl, rfl⟩
         by_cases g : j > 1
         · exact gn rfl (bT g) rfl rfl <| gn rfl (bT g) rfl rfl <| gn rfl (bT g) rfl rfl <| gu rfl rfl rfl <| gu rfl rfl rfl <| gu rfl rfl rfl <| gu rfl rfl rfl <| gn rfl (bT g) rfl rfl <| tv (pT (bT g)) rfl <| nj S (bOt g)
         · refine gy rfl (bF g) <| tm rfl <| gy rfl (bF g) <| tv (bgt rfl rfl) rfl <| gy rfl (bF g) <| tm rfl <| TL.cut 5 fun aN aO => ?_
           have T {aP} : ∀ w, St E H [bx f 41 [.int .i64 a.params, .int .i64 a.result, b, c], o, u] w → aN (ovr aP [(67, .bool (decide (j > 0 ∧ h < a.params))), (6, .pointer (some ⟨f, 0, none⟩)), (9, k), (11, .int .i64 h), (50, t), (51, .int .i64 (len l.2)), (52, .int .i64 h), (59, .bool (decide (j > 1))), (60, .int .i64 j), (61, .bool (decide (j > 0))), (62, .bool (decide (j > 0)))]) w := by
            exact tlg aO <| tv (pF (bF g)) rfl <| nj S (bOf g)
           by_cases i : j > 0
           · exact gy rfl (bT i) <| tm rfl <| gy rfl (bT i) <| tv (fa py rfl) rfl <| gy rfl (bT i) <| tv (lb s3 0 rfl rfl rfl) rfl <| gy rfl (bT i) <| tv (blt rfl rfl) rfl <| gy rfl (bF g) <| tv (pT (bT i)) rfl <| nj T (bAt i)
           · exact gn rfl (bF i) rfl rfl <| gn rfl (bF i) rfl rfl <| gn rfl (bF i) rfl rfl <| gn rfl (bF i) rfl rfl <| gy rfl (bF g) <| tv (pF (bF i)) rfl <| nj T (bAf i)
       · exact nN <| jn [0, 1] (av (nJ hp Q))
      refine lp al [1, 0] rfl (fun s e L => ∃ U, e = ovr U [(6, .pointer (some ⟨f, 0, none⟩)), (35, ai), (36, .int .i64 (len G)), (37, .int .i64 s)] ∧ L = [bx f 41 [.int .i64 a.params, .int .i64 a.result, b, c], aj]) ⟨_, nD _ _ rfl, rfl⟩ ?_
      rintro aQ _ _ ⟨U, rfl, rfl⟩ aR hp V
      replace hp : oX.bd24 G aQ = some aR := hp
      refine sr <| tv (blt rfl rfl) rfl <| nz <| nv fun bg aS => cD rfl hp (fun aT hp => ?_) fun aT hp => ?_
      · refine sk aS rfl <| nv fun bh aU => nC <| sr <| ti u58 i4 (I).ro hp rfl rfl rfl rfl ?_
        rintro bi bj bk _ hp rfl aV
        refine tv (lr s4 (Src.at_ 1 rfl) aV 0 rfl rfl) rfl <| ta rfl <| nz <| sr <| tm rfl <| tv (oO rfl) rfl <| nz <| cB rfl hp (fun aW hp => ?_) fun aW hp => ?_
        · refine sr <| tv (mI u63 rfl) rfl <| ta rfl <| nz <| nH <| W.new0 ?_
          obtain rfl := nJ hp V
          exact rt J [0] ⟨(.iface 63 (.int .i64 6)), ([] : FP), rfl, rfl, (ErO.mk _ : ErO 63 106 108 (GErr.code 6) (.iface 63 (.int .i64 6)) [])⟩
        · exact sk aU rfl <| nG <| tv (bad rfl rfl) rfl <| tm rfl <| nl <| gk hp [0, 1] ⟨_, nD _ _ rfl, rfl⟩
      · exact nN <| jn [0] (am (nJ hp V))
   by_cases d : a4 < 0
   · exact gn rfl (bT d) rfl rfl <| gn rfl (bT d) rfl rfl <| gn rfl (bT d) rfl rfl <| gn rfl (bT d) rfl rfl <| gn rfl (bT d) rfl rfl <| tv (pT (bT d)) rfl <| nj F (bOt d)
   · exact gy rfl (bF d) <| tm rfl <| gy rfl (bF d) <| tv (fa oS rfl) rfl <| gy rfl (bF d) <| tv (lb s33 1 rfl rfl rfl) rfl <| gy rfl (bF d) <| tv (ln u33 q rfl) rfl <| gy rfl (bF d) <| tv (bge rfl rfl) rfl <| tv (pF (bF d)) rfl <| nj F (bOf d)
/-! ### slices.Clone[[]int,int] -/
abbrev pE.R (r : List Int) (v : Value) (A : List FP) : Prop := ∃ (w1 : Value) (a : FP), w1 = v ∧ A = [a] ∧ SlO 3 (nt .i64) r w1 a
def pE (a1 : List Int) : Option (List Int) :=
  (cat ([] : List Int) a1).bind fun a =>
  some a
theorem p8 {E : World} {H : FP} {w : World} {a1 : List Int} {v2 : Value} {r : List Int} (b : SlI (nt .i64) H a1 v2) (hp : pE a1 = some r) (hst : St E H [] w) :
    Fn Try.prog 28 #[v2] w fun v w' => ∃ A, pE.R r v A ∧ St E H A w' := by
 refine fb 8 [.tmp 2] Try.func28 rfl rfl rfl rfl rfl hst <| sr <| ta rfl <| nz <| nv fun m d => sr <| tm rfl ?_
 obtain ⟨e, f, hv4⟩ := nilEq (P := Try.prog) Try.underlying25 b
 refine tv (tz rfl hv4) rfl <| nz ?_
 by_cases a : e = true
 · replace hp : ((cat ([] : List Int) a1).bind fun c => some c) = some r := hp
   have g := f a
   replace hp : (some ([] : List Int)) = some r := by rw [g] at hp; simpa [cat, LIM] using hp
   exact TC.condT (bbT a) <| sr <| ta rfl <| nz <| nH <| W.new0 <| rt hp [0] ⟨(.slice none 0 0), ([] : FP), rfl, rfl, (SlO.nil 3)⟩
 · exact TC.condF (bbF a) <| sk d rfl <| sr <| TL.bs0 u25 i3 (ltb rfl) fun h => tm rfl <| tpI (fInt .i64) u25 i3 (SlO.lit0 (k := (nt .i64)) h) b sH hp rfl rfl rfl rfl rfl rfl rfl fun c i j l hp => ta rfl <| nz <| nH <| rt hp [0] ⟨i, j, rfl, rfl, l⟩
/-! ### fettle/lower.copied -/
abbrev pv.R (r : ny) (v : Value) (A : List FP) : Prop := ∃ (w1 : Value) (a : FP) (w2 : Value) (b : FP) (w3 : Value) (c : FP), .agg #[w1, w2, .int .i64 r.term.kind, .int .i64 r.term.arg, w3] = v ∧ A = [a, b, c] ∧ SlO 70 o0 r.phis w1 a ∧ SlO 52 oK r.ins w2 b ∧ SlO 3 (nt .i64) r.term.to w3 c
def pv.nx12 (a1 : ny) (a : List Int) (b : List nO) : Option ny :=
  some (⟨([] : List PPhi), b, (⟨a1.term.kind, a1.term.arg, a⟩ : PTerm)⟩ : ny)
def pv.bd12 (a1 : ny) (c : List nO) (b : Int) : Option (Ex (List nO) (List nO × Int)) :=
  if b < (len a1.ins) then
    (idx a1.ins b).bind fun a =>
    (pE a.args).bind fun d =>
    (cat c [(⟨a.op, a.dst, d, a.imm, a.fn⟩ : nO)]).bind fun e =>
    some (.go (e, (w64 (b + 1))))
  else
    some (.ret c)
def pv.jn4 (a1 : ny) (a : List Int) : Option ny :=
  (whl (fun (s : (List nO × Int)) => pv.bd12 a1 s.1 s.2) nB (([] : List nO), 0)).bind fun z =>
  pv.nx12 a1 a z
def pv (a1 : ny) : Option ny :=
  (pE a1.term.to).bind fun a =>
  pv.jn4 a1 a
set_option maxHeartbeats 4000000 in
theorem tX {E : World} {H : FP} {w : World} {a1 : ny} {v2 : Value} {c : Value} {h : Value} {r : ny} (ay : SlI o0 H a1.phis v2) (B : SlI oK H a1.ins c) (C : SlI (nt .i64) H a1.term.to h) (hp : pv a1 = some r) (hst : St E H [] w) :
    Fn Try.prog 29 #[.agg #[v2, c, .int .i64 a1.term.kind, .int .i64 a1.term.arg, h]] w fun v w' => ∃ A, pv.R r v A ∧ St E H A w' := by
 refine Fn.bodyV (fn := Try.f29) (args := [.agg #[v2, c, .int .i64 a1.term.kind, .int .i64 a1.term.arg, h]]) E H [] 37 Try.func29 rfl rfl (leb rfl) hst <| sr <| tb [v2, c, .int .i64 a1.term.kind, .int .i64 a1.term.arg, h] rfl rfl fun o => tl i50 rfl fun d => nz <| nv fun P Q => ?_
 have D {p i f j S} (F : SlO 3 (nt .i64) p f j) (hp : pv.jn4 a1 p = some r) : ∀ w, St E H [bx o 50 [v2, c, .int .i64 a1.term.kind, .int .i64 a1.term.arg, h], bx d 50 [.slice none 0 0, .slice none 0 0, .int .i64 0, .int .i64 0, .slice none 0 0], bx i 50 [.slice none 0 0, .slice none 0 0, .int .i64 a1.term.kind, .int .i64 a1.term.arg, f], j] w → P (ovr S [(1, .pointer (some ⟨o, 0, none⟩)), (2, .pointer (some ⟨d, 0, none⟩)), (3, .pointer (some ⟨i, 0, none⟩))]) w := by
  refine tg Q <| nv fun T U => sr <| tv (fa ou rfl) rfl <| tv (lb s48 0 rfl rfl rfl) rfl <| tv (ln u48 B rfl) rfl <| tm rfl <| nz <| nC <| bE hp fun V X Y => ?_
  have Z {q l t aa} (G : SlO 52 oK q l t) (ab : q = V) : ∀ w, St E H [bx d 50 [.slice none 0 0, .slice none 0 0, .int .i64 0, .int .i64 0, .slice none 0 0], bx i 50 [.slice none 0 0, l, .int .i64 a1.term.kind, .int .i64 a1.term.arg, f], t, j] w → T (ovr aa [(2, .pointer (some ⟨d, 0, none⟩)), (3, .pointer (some ⟨i, 0, none⟩))]) w := by
   subst ab
   replace hp : pv.nx12 a1 p q = some r := Y
   refine tg U <| sr <| tv (lA (ds := [.slice none 0 0, l, .int .i64 a1.term.kind, .int .i64 a1.term.arg, f]) o5 1 rfl rfl rfl rfl) rfl <| tS 0 m50 rfl rfl [.slice none 0 0, l, .int .i64 a1.term.kind, .int .i64 a1.term.arg, f] rfl (oc rfl (oc (G).one (oc rfl (oc rfl (oc (F).one oc0))))) rfl rfl <| nz <| nH <| W.new0 ?_
   obtain rfl := Option.some.inj hp
   exact fun w hw => retC1 hw rfl rfl o5 1 rfl rfl ⟨(.slice none 0 0), ([] : FP), l, t, f, j, rfl, rfl, (SlO.nil 70), G, F⟩ (hw.pickA [0, 3, 4] rfl)
  refine W.new0 <| lp X [2, 3, 0, 4] rfl (fun s e L => ∃ m n u y I, s = (m, n) ∧ SlO 52 oK m u y ∧ e = ovr I [(2, .pointer (some ⟨d, 0, none⟩)), (3, .pointer (some ⟨i, 0, none⟩)), (19, c), (20, .int .i64 (len a1.ins)), (21, .int .i64 n)] ∧ L = [bx d 50 [.slice none 0 0, .slice none 0 0, .int .i64 0, .int .i64 0, .slice none 0 0], bx i 50 [.slice none 0 0, u, .int .i64 a1.term.kind, .int .i64 a1.term.arg, f], y, j]) ⟨_, _, (.slice none 0 0), ([] : FP), _, rfl, (SlO.nil 52), nD _ _ rfl, rfl⟩ ?_
  rintro _ _ _ ⟨m, n, u, y, I, rfl, J, rfl, rfl⟩ ac hp ad
  replace hp : pv.bd12 a1 m n = some ac := hp
  refine sr <| tv (blt rfl rfl) rfl <| nz <| nv fun az ae => cD rfl hp (fun af hp => ?_) fun af hp => ?_
  · refine sk ae rfl <| nv fun aA ag => nC <| sr <| ti u48 i52 B hp rfl rfl rfl rfl ?_
    rintro a aB aC _ hp ⟨K, rfl, M⟩ ah
    refine tv (lR (ds := [.int .i64 a.op, .int .i64 a.dst, K, .int .i64 a.imm, .int .i64 a.fn]) pi sH ah 0 rfl rfl rfl) rfl <| tl i52 rfl fun aD => tS 0 m52 rfl rfl [.int .i64 a.op, .int .i64 a.dst, K, .int .i64 a.imm, .int .i64 a.fn] rfl (oc rfl (oc rfl (oc (M).one (oc rfl (oc rfl oc0))))) rfl rfl <| nz <| sr <| tv (fa o9 rfl) rfl <| tv (lb s25 0 rfl rfl rfl) rfl <| bE hp fun ai hy22 hp => tc 0 [_,_,_,_,_] rfl c28 (fun _ => p8 (a1 := a.args) (M.mono nw) hy22) rfl ?_
    rintro _ _ ⟨z, aj, rfl, rfl, N⟩
    exact tv (fa o9 rfl) rfl <| ts 1 m25 rfl rfl N.o1 rfl <| nz <| nG <| tv (fa ou rfl) rfl <| tv (lb s48 3 rfl rfl rfl) rfl <| tv (lA (ds := [.int .i64 a.op, .int .i64 a.dst, z, .int .i64 a.imm, .int .i64 a.fn]) pi 1 rfl rfl rfl rfl) rfl <| tbs [(0, .agg #[.int .i64 a.op, .int .i64 a.dst, z, .int .i64 a.imm, .int .i64 a.fn])] [.int .i64 a.op, .int .i64 a.dst, z, .int .i64 a.imm, .int .i64 a.fn] u48 i52 (by kernel_rfl) rfl rfl rfl rfl fun aE => tp [5, 0, 1, 2, 3, 4, 6] [_,_,_,_,_,_,_] rfl rfl <| tp2 u48 i52 J hp (RepL.to (G' := aj) (RepL.cons (k := oK) (x := (⟨a.op, a.dst, ai, a.imm, a.fn⟩ : nO)) ⟨_, _, rfl, rfl, N⟩ RepL.nil) (by simp)) rfl rfl rfl rfl rfl rfl rfl rfl rfl fun aF ak am O hp => tv (fa ou rfl) rfl <| ts 3 m48 rfl rfl O.o1 rfl <| nl <| tg ag <| nG <| tv (bad rfl rfl) rfl <| tm rfl <| nl <| gk hp [2, 3, 0, 4] ⟨_, _, ak, am, _, rfl, O, nD _ _ rfl, rfl⟩
  · exact nN <| jn [0, 1, 2, 3] (Z J (nJ hp ad))
 refine ch mix [bx d 50 [.slice none 0 0, .slice none 0 0, .int .i64 0, .int .i64 0, .slice none 0 0], bx o 50 [v2, c, .int .i64 a1.term.kind, .int .i64 a1.term.arg, h]] (nq 0 rfl (nq 1 rfl ns)) <| hv 0 rfl (fa oP rfl) (by kernel_rfl) rfl <| hv 1 rfl (fa qg rfl) (by kernel_rfl) rfl <| hv 2 rfl (lbG s3 1 rfl rfl rfl) (by kernel_rfl) rfl <| hv 3 rfl (fa oP rfl) (by kernel_rfl) rfl <| hv 4 rfl (fa pJ rfl) (by kernel_rfl) rfl <| hv 5 rfl (lbG s3 1 rfl rfl rfl) (by kernel_rfl) rfl <| hv 6 rfl (fa oP rfl) (by kernel_rfl) rfl <| hv 7 rfl (fa pf rfl) (by kernel_rfl) rfl <| hv 8 rfl (lbG s25 1 rfl rfl rfl) (by kernel_rfl) rfl <| nU [9, 12] (by kernel_rfl) (by simp) (nF ⟨_, rfl, fun aG an => ?_⟩ (nF ⟨_, rfl, fun aH ao => ?_⟩ nV))
 · refine bE hp fun ap hy29 hp => tc 0 [_,_] rfl c28 (fun _ => p8 (a1 := a1.term.to) (C.mono nw) hy29) rfl ?_
   rintro _ _ ⟨b, aq, rfl, rfl, g⟩
   exact hk an (nq 1 rfl (nq 2 rfl ns)) <| hv 10 rfl (oh (vs := [(0, .int .i64 a1.term.kind), (1, .int .i64 a1.term.arg), (2, b)]) (ds := [.int .i64 a1.term.kind, .int .i64 a1.term.arg, b]) rfl (fun w => by obtain ⟨_, _, rfl⟩ := (g).len; kernel_rfl)) (by kernel_rfl) rfl <| hv 11 rfl (oh (vs := [(2, .agg #[.int .i64 a1.term.kind, .int .i64 a1.term.arg, b])]) (ds := [.slice none 0 0, .slice none 0 0, .int .i64 a1.term.kind, .int .i64 a1.term.arg, b]) rfl (fun w => by kernel_rfl)) (by kernel_rfl) rfl <| ho 12 rfl (by kernel_rfl) fun aI ar => tl i50 rfl fun au => hk ar (nq 2 rfl (nq 3 rfl ns)) <| ho 13 rfl (by kernel_rfl) fun aJ av => tS 0 m50 rfl rfl [.slice none 0 0, .slice none 0 0, .int .i64 a1.term.kind, .int .i64 a1.term.arg, b] rfl (oc rfl (oc rfl (oc rfl (oc rfl (oc (g).one oc0))))) rfl rfl <| hk av (nq 2 rfl (nq 3 rfl ns)) <| hz (by kernel_rfl) <| jn [3, 2, 0, 1] (D g hp)
 · refine tl i50 rfl fun au => hk ao (nq 1 rfl (nq 2 rfl ns)) <| ho 9 rfl (by kernel_rfl) fun aK aw => bE hp fun ap hy39 hp => tc 0 [_,_,_] rfl c28 (fun _ => p8 (a1 := a1.term.to) (C.mono nw) hy39) rfl ?_
   rintro _ _ ⟨b, aq, rfl, rfl, g⟩
   exact hk aw (nq 2 rfl (nq 3 rfl ns)) <| hv 10 rfl (oh (vs := [(0, .int .i64 a1.term.kind), (1, .int .i64 a1.term.arg), (2, b)]) (ds := [.int .i64 a1.term.kind, .int .i64 a1.term.arg, b]) rfl (fun w => by obtain ⟨_, _, rfl⟩ := (g).len; kernel_rfl)) (by kernel_rfl) rfl <| hv 11 rfl (oh (vs := [(2, .agg #[.int .i64 a1.term.kind, .int .i64 a1.term.arg, b])]) (ds := [.slice none 0 0, .slice none 0 0, .int .i64 a1.term.kind, .int .i64 a1.term.arg, b]) rfl (fun w => by kernel_rfl)) (by kernel_rfl) rfl <| ho 13 rfl (by kernel_rfl) fun aL ax => tS 1 m50 rfl rfl [.slice none 0 0, .slice none 0 0, .int .i64 a1.term.kind, .int .i64 a1.term.arg, b] rfl (oc rfl (oc rfl (oc rfl (oc rfl (oc (g).one oc0))))) rfl rfl <| hk ax (nq 2 rfl (nq 3 rfl ns)) <| hz (by kernel_rfl) <| jn [3, 2, 1, 0] (D g hp)
/-! ### fettle/lower.moves -/
abbrev pW.R (r : List nK) (v : Value) (A : List FP) : Prop := ∃ (w1 : Value) (a : FP), w1 = v ∧ A = [a] ∧ SlO 31 kPair r w1 a
def pW.nx8  (a : List nK) : Option (List nK) :=
  some a
def pW.bd8 (a1 : List PPhi) (a4 : Int) (b : List nK) (a : Int) : Option (Ex (List nK) (List nK × Int)) :=
  if a < (len a1) then
    (idx a1 a).bind fun c =>
    (idx c.args a4).bind fun d =>
    (cat b [(⟨c.dst, d⟩ : nK)]).bind fun e =>
    some (.go (e, (w64 (a + 1))))
  else
    some (.ret b)
def pW (a1 : List PPhi) (a4 : Int) : Option (List nK) :=
  (whl (fun (s : (List nK × Int)) => pW.bd8 a1 a4 s.1 s.2) nB (([] : List nK), 0)).bind fun z =>
  pW.nx8 z
theorem wD {E : World} {H : FP} {w : World} {a1 : List PPhi} {a4 : Int} {v2 : Value} {r : List nK} (m : SlI o0 H a1 v2) (hp : pW a1 a4 = some r) (hst : St E H [] w) :
    Fn Try.prog 76 #[v2, .int .i64 a4] w fun v w' => ∃ A, pW.R r v A ∧ St E H A w' := by
 refine fb 27 [.tmp 4] Try.func76 rfl rfl rfl rfl rfl hst <| sr <| ta rfl <| nz <| sr <| ta rfl <| nz <| nv fun q t => sr <| tm rfl <| tv (ln u47 m rfl) rfl <| tm rfl <| nz <| nC <| bE hp fun u y z => ?_
 have B {f g h C} (D : SlO 31 kPair f g h) (F : f = u) : ∀ w, St E H [h] w → q (ovr C [(5, g)]) w := by
  subst F
  replace hp : pW.nx8 f = some r := z
  exact tg t <| sr <| tm rfl <| ta rfl <| nz <| nH <| rt hp [0] ⟨g, h, rfl, rfl, D⟩
 refine W.new0 <| lp y [0] rfl (fun s e L => ∃ c d i j n, s = (c, d) ∧ SlO 31 kPair c i j ∧ e = ovr n [(1, .int .i64 a4), (5, i), (8, v2), (9, .int .i64 (len a1)), (10, .int .i64 d)] ∧ L = [j]) ⟨_, _, (.slice none 0 0), ([] : FP), _, rfl, (SlO.nil 31), nD _ _ rfl, rfl⟩ ?_
 rintro _ _ _ ⟨c, d, i, j, n, rfl, o, rfl, rfl⟩ G hp I
 replace hp : pW.bd8 a1 a4 c d = some G := hp
 refine sr <| tv (blt rfl rfl) rfl <| nz <| nv fun X J => cD rfl hp (fun K hp => ?_) fun K hp => ?_
 · refine sk J rfl <| nv fun Y M => nC <| sr <| ti u47 i70 m hp rfl rfl rfl rfl ?_
   rintro a Z aa _ hp ⟨l, rfl, p⟩ N
   refine tv (lR (ds := [.int .i64 a.dst, l]) qp sH N 0 rfl rfl rfl) rfl <| tl i70 rfl fun O => tS 0 m70 rfl rfl [.int .i64 a.dst, l] rfl (oc rfl (oc (p).one oc0)) rfl rfl <| nz <| ch mix [bx O 70 [.int .i64 a.dst, l]] (nq 0 rfl ns) <| hv 0 rfl mv (by kernel_rfl) rfl <| hv 1 rfl (fa qx rfl) (by kernel_rfl) rfl <| hv 2 rfl (lbG s3 0 rfl rfl rfl) (by kernel_rfl) rfl <| hv 3 rfl (fa p5 rfl) (by kernel_rfl) rfl <| hv 4 rfl (lbG s25 0 rfl rfl rfl) (by kernel_rfl) rfl <| hv 5 rfl mv (by kernel_rfl) rfl <| hi 6 rfl u25 i3 p hp rfl rfl rfl (by kernel_rfl) rfl ?_
   rintro b ab ac _ hp rfl P
   exact hv 7 rfl (lr s3 srcInH P 0 rfl rfl) (by kernel_rfl) rfl <| hv 8 rfl (oh (vs := [(0, .int .i64 a.dst), (1, .int .i64 b)]) (ds := [.int .i64 a.dst, .int .i64 b]) rfl (fun w => by kernel_rfl)) (by kernel_rfl) rfl <| ho 9 rfl (by kernel_rfl) fun ad Q => tbs [(0, .agg #[.int .i64 a.dst, .int .i64 b])] [.int .i64 a.dst, .int .i64 b] u22 i31 (by kernel_rfl) rfl rfl rfl rfl fun ae => hk Q (nq 1 rfl ns) <| ho 10 rfl (by kernel_rfl) fun af S => tp [2, 0, 1] [_,_,_] rfl rfl <| tf 2 0 [_,_,_,_] rfl <| tp2 u22 i31 o hp (RepL.to (RepL.cons (k := kPair) (x := (⟨a.dst, b⟩ : nK)) ⟨rfl, rfl⟩ RepL.nil) rfl) rfl rfl rfl rfl rfl rfl rfl rfl rfl fun ag T U V hp => hk S (nq 1 rfl ns) <| hv 11 rfl sg (by kernel_rfl) rfl <| hz (by kernel_rfl) <| tg M <| nG <| tv (bad rfl rfl) rfl <| tm rfl <| nl <| gk hp [0] ⟨_, _, T, U, _, rfl, V, nD _ _ rfl, rfl⟩
 · exact nN <| jn [0] (B o (nJ hp I))
end Go.Proofs.Ytpmcbahahjelnaa
namespace Go.Proofs.Ytpmcbahahjelnaa
open Go Go.Proofs
/-! ### (*fettle/lower.lowerer).copies -/
abbrev oN.R (d : Nat) (a2 : pB) (v3 : Value) (e : Value) (g : Value) (r : GErr × List Int × List ny) (v : Value) (A : List FP) : Prop := ∃ (w1 : Value) (a : FP) (w2 : Value) (b : FP) (w3 : Value) (c : FP), w1 = v ∧ A = [a, bx d 77 [.int .i64 a2.f.params, .int .i64 a2.f.result, v3, e, g, .int .i64 a2.out.params, .int .i64 a2.out.result, w2, w3], b, c] ∧ ErO 63 106 108 r.1 w1 a ∧ SlO 3 (nt .i64) r.2.1 w2 b ∧ SlO 50 nW r.2.2 w3 c
def oN.nx31 (a : List Int) (b : List ny) : Option (GErr × List Int × List ny) :=
  some (GErr.no, a, b)
def oN.jn41 (a : Int) (b : List ny) : Option (Ex (List ny) (List ny × Int)) :=
  some (.go (b, (w64 (a + 1))))
def oN.bd31 (a16 : Int) (f : List nK × List Int × GErr) (d : List ny) (e : Int) : Option (Ex (List ny) (List ny × Int)) :=
  if e < (len f.1) then
    (idx f.1 e).bind fun g =>
    (idx d a16).bind fun c =>
    (cat c.ins [(⟨2, g.a, [g.b], 0, 0⟩ : nO)]).bind fun h =>
    oN.jn41 e (d.set (a16).toNat (⟨c.phis, h, (⟨c.term.kind, c.term.arg, c.term.to⟩ : PTerm)⟩ : ny))
  else
    some (.ret d)
def oN.nx22 (a2 : pB) (a16 : Int) (a : List nK × List Int × GErr) (b : List Int) : Option (GErr × List Int × List ny) :=
  (whl (fun (s : (List ny × Int)) => oN.bd31 a16 a s.1 s.2) nB (a2.out.blocks, 0)).bind fun z =>
  oN.nx31 b z
def oN.jn128 (a : Int) (b : List Int) : Option (Ex (List Int) (List Int × Int)) :=
  some (.go (b, (w64 (a + 1))))
def oN.bd22 (c : List nK × List Int × GErr) (a : List Int) (b : Int) : Option (Ex (List Int) (List Int × Int)) :=
  if b < (len c.2.1) then
    (idx c.2.1 b).bind fun d =>
    (idx a d).bind fun e =>
    (cat a [e]).bind fun f =>
    oN.jn128 b f
  else
    some (.ret a)
def oN (a2 : pB) (a16 : Int) (a17 : Int) (a18 : Int) : Option (GErr × List Int × List ny) :=
  (idx a2.f.blocks a17).bind fun b =>
  (pW b.phis a18).bind fun c =>
  (n7 c (len a2.out.regs)).bind fun a =>
  if ¬ a.2.2 = GErr.no then
    some (a.2.2, a2.out.regs, a2.out.blocks)
  else
    (whl (fun (s : (List Int × Int)) => oN.bd22 a s.1 s.2) nB (a2.out.regs, 0)).bind fun z =>
    oN.nx22 a2 a16 a z
set_option maxHeartbeats 4000000 in
theorem wE {E : World} {H : FP} {w : World} {a2 : pB} {a16 : Int} {a17 : Int} {a18 : Int} {i : Nat} {v3 : Value} {l : Value} {m : Value} {V : Value} {X : FP} {j : Value} {G : FP} {r : GErr × List Int × List ny} (cH : SlI (nt .i64) H a2.f.regs v3) (aW : SlI nW H a2.f.blocks l) (cI : SlI (kSl 3 (nt .i64)) H a2.ahead m) (aq : SlO 3 (nt .i64) a2.out.regs V X) (aG : SlO 50 nW a2.out.blocks j G) (hp : oN a2 a16 a17 a18 = some r) (hst : St E H [bx i 77 [.int .i64 a2.f.params, .int .i64 a2.f.result, v3, l, m, .int .i64 a2.out.params, .int .i64 a2.out.result, V, j], X, G] w) :
    Fn Try.prog 53 #[.pointer (some ⟨i, 0, none⟩), .int .i64 a16, .int .i64 a17, .int .i64 a18] w fun v w' => ∃ A, oN.R i a2 v3 l m r v A ∧ St E H A w' := by
 refine fb 99 [.tmp 8] Try.func53 rfl rfl rfl rfl rfl hst <| sr <| ta rfl <| nz <| nv fun cJ aX => ch mix [bx i 77 [.int .i64 a2.f.params, .int .i64 a2.f.result, v3, l, m, .int .i64 a2.out.params, .int .i64 a2.out.result, V, j], X, G] (nq 0 rfl (nq 1 rfl (nq 2 rfl ns))) <| hv 0 rfl mv (by kernel_rfl) rfl <| hv 1 rfl (nE rfl) (by kernel_rfl) rfl <| hv 2 rfl (fa r5 rfl) (by kernel_rfl) rfl <| hv 3 rfl (fa n6 rfl) (by kernel_rfl) rfl <| hv 4 rfl (lbG s39 0 rfl rfl rfl) (by kernel_rfl) rfl <| hv 5 rfl mv (by kernel_rfl) rfl <| hi 6 rfl u39 i50 aW hp rfl rfl rfl (by kernel_rfl) rfl ?_
 rintro aY cK cL _ hp ⟨cM, cN, cO, rfl, aZ, cP, cQ⟩ a0
 refine hv 7 rfl (fa oL rfl) (by kernel_rfl) rfl <| hv 8 rfl (lr s47 srcInH a0 0 rfl rfl) (by kernel_rfl) rfl <| hv 9 rfl mv (by kernel_rfl) rfl <| hv 11 rfl mv (by kernel_rfl) rfl <| hv 12 rfl (nE rfl) (by kernel_rfl) rfl <| hv 13 rfl (fa pm rfl) (by kernel_rfl) rfl <| hv 14 rfl (fa oV rfl) (by kernel_rfl) rfl <| hv 15 rfl (lbG s25 0 rfl rfl rfl) (by kernel_rfl) rfl <| hv 16 rfl (ln u25 aq.ro rfl) (by kernel_rfl) rfl <| ho 10 rfl (by kernel_rfl) fun cR a3 => bE hp fun a5 hy6 hp => tc 0 [_,_,_] rfl c76 (fun _ => wD (a1 := aY.phis) (a4 := a18) (aZ.mono nw) hy6) rfl ?_
 rintro _ _ ⟨cS, cT, rfl, rfl, a6⟩
 refine hk a3 (nq 1 rfl (nq 2 rfl (nq 3 rfl ns))) <| ho 17 rfl (by kernel_rfl) fun cU a7 => bE hp fun M hy10 hp => tc 0 [_,_,_,_] rfl c8 (fun _ => sK (a1 := a5) (a4 := (len a2.out.regs)) (a6.ro.mono (subB 0 rfl)) hy10) rfl ?_
 rintro _ _ ⟨Y, p, aH, ar, a8, a9, rfl, rfl, aI, aJ, aK⟩
 refine hk a7 (nq 4 rfl (nq 5 rfl (nq 6 rfl ns))) <| hv 18 rfl mv (by kernel_rfl) rfl <| hv 19 rfl (xt rfl rfl) (by kernel_rfl) rfl <| hv 20 rfl (xt rfl rfl) (by kernel_rfl) rfl <| hv 21 rfl (xt rfl rfl) (by kernel_rfl) rfl <| hv 22 rfl sg (by kernel_rfl) rfl <| hv 23 rfl sg (by kernel_rfl) rfl <| hv 24 rfl sg (by kernel_rfl) rfl <| hz (by kernel_rfl) <| tg aX <| nv fun cV ba => sr <| tm rfl <| tv (pI pp aK rfl) rfl <| nz <| cD rfl hp (fun bb hp => ?_) fun bb hp => ?_
 · exact sr <| tm rfl <| ta rfl <| nz <| nH <| rt hp [2, 4, 5, 6] ⟨a8, a9, V, X, j, G, rfl, rfl, aK, aq, aG⟩
 · refine sk ba rfl <| nv fun bc be => sr <| tm rfl <| tv (ln u25 aJ.ro rfl) rfl <| tm rfl <| nz <| nC <| bE hp fun bf bg bh => ?_
   have bi {ai q t bj} (bk : SlO 3 (nt .i64) ai q t) (bl : ai = bf) : ∀ w, St E H [bx i 77 [.int .i64 a2.f.params, .int .i64 a2.f.result, v3, l, m, .int .i64 a2.out.params, .int .i64 a2.out.result, q, j], t, G, p] w → bc (ovr bj [(0, .pointer (some ⟨i, 0, none⟩)), (1, .int .i64 a16), (9, Y)]) w := by
    subst bl
    replace hp : oN.nx22 a2 a16 M ai = some r := bh
    refine tg be <| nv fun bm bn => sr <| tm rfl <| tv (ln u22 aI.ro rfl) rfl <| tm rfl <| nz <| nC <| bE hp fun bo bp bq => ?_
    have br {au av bs} (bt : SlO 50 nW au j av) (bu : au = bo) : ∀ w, St E H [bx i 77 [.int .i64 a2.f.params, .int .i64 a2.f.result, v3, l, m, .int .i64 a2.out.params, .int .i64 a2.out.result, q, j], t, av] w → bm (ovr bs []) w := by
     subst bu
     replace hp : oN.nx31 ai au = some r := bq
     exact tg bn <| sr <| ta rfl <| nz <| nH <| W.new0 <| rt hp [0, 1, 2, 3] ⟨.nilIface, ([] : FP), q, t, j, av, rfl, rfl, (ErO.nil : ErO 63 106 108 GErr.no .nilIface []), bk, bt⟩
    refine lp bp [0, 1, 2, 3] rfl (fun s e L => ∃ aj Q S aL, s = (aj, Q) ∧ SlO 50 nW aj j S ∧ e = ovr aL [(0, .pointer (some ⟨i, 0, none⟩)), (1, .int .i64 a16), (67, Y), (68, .int .i64 (len M.1)), (69, .int .i64 Q)] ∧ L = [bx i 77 [.int .i64 a2.f.params, .int .i64 a2.f.result, v3, l, m, .int .i64 a2.out.params, .int .i64 a2.out.result, q, j], t, S, p]) ⟨_, _, G, _, rfl, aG, nD _ _ rfl, rfl⟩ ?_
    rintro _ _ _ ⟨aj, Q, S, aL, rfl, ak, rfl, rfl⟩ aM hp bv
    replace hp : oN.bd31 a16 M aj Q = some aM := hp
    refine sr <| tv (blt rfl rfl) rfl <| nz <| nv fun cW bw => cD rfl hp (fun bz hp => ?_) fun bz hp => ?_
    · refine sk bw rfl <| nv fun bA bB => ?_
      have T {aN aw bC} (bD : SlO 50 nW aN j aw) (hp : oN.jn41 Q aN = some aM) : ∀ w, St E H [bx i 77 [.int .i64 a2.f.params, .int .i64 a2.f.result, v3, l, m, .int .i64 a2.out.params, .int .i64 a2.out.result, q, j], t, aw, p] w → bA (ovr bC [(0, .pointer (some ⟨i, 0, none⟩)), (1, .int .i64 a16), (67, Y), (68, .int .i64 (len M.1)), (69, .int .i64 Q)]) w := by
       exact tg bB <| nG <| tv (bad rfl rfl) rfl <| tm rfl <| nl <| gk hp [0, 1, 2, 3] ⟨_, _, aw, _, rfl, bD, nD _ _ rfl, rfl⟩
      refine nC <| sr <| ti u22 i31 (aI).ro hp rfl rfl rfl rfl ?_
      rintro c cX cY _ hp rfl bF
      refine tv (lR (ds := [.int .i64 c.a, .int .i64 c.b]) qe (Src.at_ 3 rfl) bF 0 rfl rfl rfl) rfl <| tl i31 rfl fun N => tS 0 m31 rfl rfl [.int .i64 c.a, .int .i64 c.b] rfl (oc rfl (oc rfl oc0)) rfl rfl <| nz <| ch mix [bx N 31 [.int .i64 c.a, .int .i64 c.b], bx i 77 [.int .i64 a2.f.params, .int .i64 a2.f.result, v3, l, m, .int .i64 a2.out.params, .int .i64 a2.out.result, q, j], t, p] (nq 0 rfl (nq 1 rfl (nq 2 rfl (nq 4 rfl ns)))) <| hv 0 rfl mv (by kernel_rfl) rfl <| hv 1 rfl (nE rfl) (by kernel_rfl) rfl <| hv 2 rfl (fa pm rfl) (by kernel_rfl) rfl <| hv 3 rfl (fa n6 rfl) (by kernel_rfl) rfl <| hv 4 rfl (lbG s39 1 rfl rfl rfl) (by kernel_rfl) rfl <| hv 5 rfl mv (by kernel_rfl) rfl <| hv 6 rfl mv (by kernel_rfl) rfl <| hv 7 rfl (nE rfl) (by kernel_rfl) rfl <| hv 8 rfl (fa pm rfl) (by kernel_rfl) rfl <| hv 9 rfl (fa n6 rfl) (by kernel_rfl) rfl <| hv 10 rfl (lbG s39 1 rfl rfl rfl) (by kernel_rfl) rfl <| hv 11 rfl mv (by kernel_rfl) rfl <| hv 15 rfl (ixP 0 pq i3 rfl rfl rfl) (by kernel_rfl) rfl <| hv 16 rfl (lbG s3 0 rfl rfl rfl) (by kernel_rfl) rfl <| hv 17 rfl (ixP 1 pq i3 rfl rfl rfl) (by kernel_rfl) rfl <| hv 18 rfl (lbG s3 0 rfl rfl rfl) (by kernel_rfl) rfl <| nU [12, 19] (by kernel_rfl) (by simp) (nF ⟨_, rfl, fun cZ bG => ?_⟩ (nF ⟨_, rfl, fun c0 bH => ?_⟩ nV))
      · refine tp [3, 0, 1, 2, 4] [_,_,_,_,_] rfl rfl <| TL.norm (L' := [S, bx N 31 [.int .i64 c.a, .int .i64 c.b], bx i 77 [.int .i64 a2.f.params, .int .i64 a2.f.result, v3, l, m, .int .i64 a2.out.params, .int .i64 a2.out.result, q, j], t, p]) rfl <| bE hp fun d Z hp => TL.open_ ak Z ?_
        rintro aO _ aa aP h ⟨aQ, ab, aR, ac, aS, ad, rfl, rfl, I, J, K⟩
        refine TL.perm (L' := [aa, ab, ac, ad, bx N 31 [.int .i64 c.a, .int .i64 c.b], bx i 77 [.int .i64 a2.f.params, .int .i64 a2.f.result, v3, l, m, .int .i64 a2.out.params, .int .i64 a2.out.result, q, j], t, p]) (by simp) <| tv (oR u39 i50 rfl rfl (oA Z).1 h) rfl <| hk bG (nq 4 rfl (nq 5 rfl (nq 6 rfl (nq 7 rfl ns)))) <| hv 13 rfl (fa ou rfl) (by kernel_rfl) rfl <| nU [14, 19] (by kernel_rfl) (by simp) (nF ⟨_, rfl, fun c1 bI => ?_⟩ (nF ⟨_, rfl, fun c2 bJ => ?_⟩ nV))
        · exact tv (lr s48 (Src.at_ 0 rfl) (Hole.cells h) 1 rfl rfl) rfl <| hk bI (nq 4 rfl (nq 5 rfl (nq 6 rfl (nq 7 rfl ns)))) <| ho 19 rfl (by kernel_rfl) fun c3 bK => tbs [(0, .int .i64 c.b)] [.int .i64 c.b] u25 i3 (by kernel_rfl) rfl rfl rfl rfl fun g => hk bK (nq 5 rfl (nq 6 rfl (nq 7 rfl (nq 8 rfl ns)))) <| hv 20 rfl (oh (vs := [(0, .int .i64 2), (1, .int .i64 c.a), (2, .slice (some ⟨g, 0, none⟩) 1 1)]) (ds := [.int .i64 2, .int .i64 c.a, .slice (some ⟨g, 0, none⟩) 1 1, .int .i64 0, .int .i64 0]) rfl (fun w => by kernel_rfl)) (by kernel_rfl) rfl <| ho 21 rfl (by kernel_rfl) fun c4 bL => tbs [(0, .agg #[.int .i64 2, .int .i64 c.a, .slice (some ⟨g, 0, none⟩) 1 1, .int .i64 0, .int .i64 0])] [.int .i64 2, .int .i64 c.a, .slice (some ⟨g, 0, none⟩) 1 1, .int .i64 0, .int .i64 0] u48 i52 (by kernel_rfl) rfl rfl rfl rfl fun O => hk bL (nq 6 rfl (nq 7 rfl (nq 8 rfl (nq 9 rfl ns)))) <| ho 22 rfl (by kernel_rfl) fun c5 bM => tp [1, 0, 2, 3, 4, 5, 6, 7, 8, 9] [_,_,_,_,_,_,_,_,_,_] rfl rfl <| tf 1 0 [_,_,_,_,_,_,_,_,_,_,_] rfl <| TL.litOwn (n := 1) (xs := [c.b]) (RepL.to (RepL.cons (k := (nt .i64)) (x := c.b) ⟨rfl, rfl⟩ RepL.nil) rfl) rfl rfl (ltb rfl) fun y z => tp [4, 1, 0, 2, 3, 5, 6, 7, 8, 9] [_,_,_,_,_,_,_,_,_,_] rfl rfl <| tp2 u48 i52 J hp (RepL.to (G' := y) (RepL.cons (k := oK) (x := (⟨2, c.a, [c.b], 0, 0⟩ : nO)) ⟨_, _, rfl, rfl, z⟩ RepL.nil) (by simp)) rfl rfl rfl rfl rfl rfl rfl rfl rfl fun B ae af o hp => hk bM (nq 4 rfl (nq 5 rfl (nq 6 rfl (nq 7 rfl ns)))) <| hv 23 rfl (oR u39 i50 rfl rfl (oA Z).1 h) (by kernel_rfl) rfl <| hv 24 rfl (fa ou rfl) (by kernel_rfl) rfl <| ho 25 rfl (by kernel_rfl) fun c6 bN => tp [1, 0, 2, 3, 4, 5, 6, 7] [_,_,_,_,_,_,_,_] rfl rfl <| tsH h m48 1 rfl o.o1 rfl fun ag C => hk bN (nq 4 rfl (nq 5 rfl (nq 6 rfl (nq 7 rfl ns)))) <| hz (by kernel_rfl) <| wp [0, 2, 1, 3, 4, 5, 6, 7] [_,_,_,_,_,_,_,_] rfl rfl <| wf 1 3 [_,_,_,_,_,_] rfl <| W.shut (a := (⟨d.phis, B, (⟨d.term.kind, d.term.arg, d.term.to⟩ : PTerm)⟩ : ny)) C ⟨_, _, _, _, _, _, rfl, rfl, I, o, K⟩ fun ah D => jn [2, 3, 0, 4] (T D hp)
        · refine tbs [(0, .int .i64 c.b)] [.int .i64 c.b] u25 i3 (by kernel_rfl) rfl rfl rfl rfl fun g => hk bJ (nq 5 rfl (nq 6 rfl (nq 7 rfl (nq 8 rfl ns)))) <| hv 20 rfl (oh (vs := [(0, .int .i64 2), (1, .int .i64 c.a), (2, .slice (some ⟨g, 0, none⟩) 1 1)]) (ds := [.int .i64 2, .int .i64 c.a, .slice (some ⟨g, 0, none⟩) 1 1, .int .i64 0, .int .i64 0]) rfl (fun w => by kernel_rfl)) (by kernel_rfl) rfl <| nU [14, 21] (by kernel_rfl) (by simp) (nF ⟨_, rfl, fun c7 bO => ?_⟩ (nF ⟨_, rfl, fun c9 bP => ?_⟩ nV))
          · exact tv (lr s48 (Src.at_ 1 rfl) (Hole.cells h) 1 rfl rfl) rfl <| hk bO (nq 5 rfl (nq 6 rfl (nq 7 rfl (nq 8 rfl ns)))) <| ho 21 rfl (by kernel_rfl) fun da bQ => tbs [(0, .agg #[.int .i64 2, .int .i64 c.a, .slice (some ⟨g, 0, none⟩) 1 1, .int .i64 0, .int .i64 0])] [.int .i64 2, .int .i64 c.a, .slice (some ⟨g, 0, none⟩) 1 1, .int .i64 0, .int .i64 0] u48 i52 (by kernel_rfl) rfl rfl rfl rfl fun O => hk bQ (nq 6 rfl (nq 7 rfl (nq 8 rfl (nq 9 rfl ns)))) <| ho 22 rfl (by kernel_rfl) fun db bR => tp [1, 0, 2, 3, 4, 5, 6, 7, 8, 9] [_,_,_,_,_,_,_,_,_,_] rfl rfl <| tf 1 0 [_,_,_,_,_,_,_,_,_,_,_] rfl <| TL.litOwn (n := 1) (xs := [c.b]) (RepL.to (RepL.cons (k := (nt .i64)) (x := c.b) ⟨rfl, rfl⟩ RepL.nil) rfl) rfl rfl (ltb rfl) fun y z => tp [4, 1, 0, 2, 3, 5, 6, 7, 8, 9] [_,_,_,_,_,_,_,_,_,_] rfl rfl <| tp2 u48 i52 J hp (RepL.to (G' := y) (RepL.cons (k := oK) (x := (⟨2, c.a, [c.b], 0, 0⟩ : nO)) ⟨_, _, rfl, rfl, z⟩ RepL.nil) (by simp)) rfl rfl rfl rfl rfl rfl rfl rfl rfl fun B ae af o hp => hk bR (nq 4 rfl (nq 5 rfl (nq 6 rfl (nq 7 rfl ns)))) <| hv 23 rfl (oR u39 i50 rfl rfl (oA Z).1 h) (by kernel_rfl) rfl <| hv 24 rfl (fa ou rfl) (by kernel_rfl) rfl <| ho 25 rfl (by kernel_rfl) fun dc bS => tp [1, 0, 2, 3, 4, 5, 6, 7] [_,_,_,_,_,_,_,_] rfl rfl <| tsH h m48 1 rfl o.o1 rfl fun ag C => hk bS (nq 4 rfl (nq 5 rfl (nq 6 rfl (nq 7 rfl ns)))) <| hz (by kernel_rfl) <| wp [0, 2, 1, 3, 4, 5, 6, 7] [_,_,_,_,_,_,_,_] rfl rfl <| wf 1 3 [_,_,_,_,_,_] rfl <| W.shut (a := (⟨d.phis, B, (⟨d.term.kind, d.term.arg, d.term.to⟩ : PTerm)⟩ : ny)) C ⟨_, _, _, _, _, _, rfl, rfl, I, o, K⟩ fun ah D => jn [2, 3, 0, 4] (T D hp)
          · exact tbs [(0, .agg #[.int .i64 2, .int .i64 c.a, (.slice (some ⟨g, 0, none⟩) 1 1), .int .i64 0, .int .i64 0])] [.int .i64 2, .int .i64 c.a, (.slice (some ⟨g, 0, none⟩) 1 1), .int .i64 0, .int .i64 0] u48 i52 (by kernel_rfl) rfl rfl rfl rfl fun O => hk bP (nq 6 rfl (nq 7 rfl (nq 8 rfl (nq 9 rfl ns)))) <| ho 14 rfl (by kernel_rfl) fun dd bT => tv (lr s48 (Src.at_ 2 rfl) (Hole.cells h) 1 rfl rfl) rfl <| hk bT (nq 6 rfl (nq 7 rfl (nq 8 rfl (nq 9 rfl ns)))) <| ho 22 rfl (by kernel_rfl) fun de bU => tp [1, 0, 2, 3, 4, 5, 6, 7, 8, 9] [_,_,_,_,_,_,_,_,_,_] rfl rfl <| tf 1 0 [_,_,_,_,_,_,_,_,_,_,_] rfl <| TL.litOwn (n := 1) (xs := [c.b]) (RepL.to (RepL.cons (k := (nt .i64)) (x := c.b) ⟨rfl, rfl⟩ RepL.nil) rfl) rfl rfl (ltb rfl) fun y z => tp [4, 1, 0, 2, 3, 5, 6, 7, 8, 9] [_,_,_,_,_,_,_,_,_,_] rfl rfl <| tp2 u48 i52 J hp (RepL.to (G' := y) (RepL.cons (k := oK) (x := (⟨2, c.a, [c.b], 0, 0⟩ : nO)) ⟨_, _, rfl, rfl, z⟩ RepL.nil) (by simp)) rfl rfl rfl rfl rfl rfl rfl rfl rfl fun B ae af o hp => hk bU (nq 4 rfl (nq 5 rfl (nq 6 rfl (nq 7 rfl ns)))) <| hv 23 rfl (oR u39 i50 rfl rfl (oA Z).1 h) (by kernel_rfl) rfl <| hv 24 rfl (fa ou rfl) (by kernel_rfl) rfl <| ho 25 rfl (by kernel_rfl) fun df bV => tp [1, 0, 2, 3, 4, 5, 6, 7] [_,_,_,_,_,_,_,_] rfl rfl <| tsH h m48 1 rfl o.o1 rfl fun ag C => hk bV (nq 4 rfl (nq 5 rfl (nq 6 rfl (nq 7 rfl ns)))) <| hz (by kernel_rfl) <| wp [0, 2, 1, 3, 4, 5, 6, 7] [_,_,_,_,_,_,_,_] rfl rfl <| wf 1 3 [_,_,_,_,_,_] rfl <| W.shut (a := (⟨d.phis, B, (⟨d.term.kind, d.term.arg, d.term.to⟩ : PTerm)⟩ : ny)) C ⟨_, _, _, _, _, _, rfl, rfl, I, o, K⟩ fun ah D => jn [2, 3, 0, 4] (T D hp)
      · refine tbs [(0, .int .i64 c.b)] [.int .i64 c.b] u25 i3 (by kernel_rfl) rfl rfl rfl rfl fun g => hk bH (nq 1 rfl (nq 2 rfl (nq 3 rfl (nq 5 rfl ns)))) <| hv 20 rfl (oh (vs := [(0, .int .i64 2), (1, .int .i64 c.a), (2, .slice (some ⟨g, 0, none⟩) 1 1)]) (ds := [.int .i64 2, .int .i64 c.a, .slice (some ⟨g, 0, none⟩) 1 1, .int .i64 0, .int .i64 0]) rfl (fun w => by kernel_rfl)) (by kernel_rfl) rfl <| nU [12, 21] (by kernel_rfl) (by simp) (nF ⟨_, rfl, fun dg bW => ?_⟩ (nF ⟨_, rfl, fun dh bX => ?_⟩ nV))
        · refine tp [4, 0, 1, 2, 3, 5] [_,_,_,_,_,_] rfl rfl <| TL.norm (L' := [S, bx g 3 [.int .i64 c.b], bx N 31 [.int .i64 c.a, .int .i64 c.b], bx i 77 [.int .i64 a2.f.params, .int .i64 a2.f.result, v3, l, m, .int .i64 a2.out.params, .int .i64 a2.out.result, q, j], t, p]) rfl <| bE hp fun d am hp => TL.open_ ak am ?_
          rintro aO _ aa aP h ⟨aQ, ab, aR, ac, aS, ad, rfl, rfl, I, J, K⟩
          refine TL.perm (L' := [aa, ab, ac, ad, bx g 3 [.int .i64 c.b], bx N 31 [.int .i64 c.a, .int .i64 c.b], bx i 77 [.int .i64 a2.f.params, .int .i64 a2.f.result, v3, l, m, .int .i64 a2.out.params, .int .i64 a2.out.result, q, j], t, p]) (by simp) <| tv (oR u39 i50 rfl rfl (oA am).1 h) rfl <| hk bW (nq 5 rfl (nq 6 rfl (nq 7 rfl (nq 8 rfl ns)))) <| hv 13 rfl (fa ou rfl) (by kernel_rfl) rfl <| nU [14, 21] (by kernel_rfl) (by simp) (nF ⟨_, rfl, fun di bY => ?_⟩ (nF ⟨_, rfl, fun dj bZ => ?_⟩ nV))
          · exact tv (lr s48 (Src.at_ 0 rfl) (Hole.cells h) 1 rfl rfl) rfl <| hk bY (nq 5 rfl (nq 6 rfl (nq 7 rfl (nq 8 rfl ns)))) <| ho 21 rfl (by kernel_rfl) fun dk b0 => tbs [(0, .agg #[.int .i64 2, .int .i64 c.a, .slice (some ⟨g, 0, none⟩) 1 1, .int .i64 0, .int .i64 0])] [.int .i64 2, .int .i64 c.a, .slice (some ⟨g, 0, none⟩) 1 1, .int .i64 0, .int .i64 0] u48 i52 (by kernel_rfl) rfl rfl rfl rfl fun O => hk b0 (nq 6 rfl (nq 7 rfl (nq 8 rfl (nq 9 rfl ns)))) <| ho 22 rfl (by kernel_rfl) fun dl b1 => tp [5, 0, 1, 2, 3, 4, 6, 7, 8, 9] [_,_,_,_,_,_,_,_,_,_] rfl rfl <| tf 1 0 [_,_,_,_,_,_,_,_,_,_,_] rfl <| TL.litOwn (n := 1) (xs := [c.b]) (RepL.to (RepL.cons (k := (nt .i64)) (x := c.b) ⟨rfl, rfl⟩ RepL.nil) rfl) rfl rfl (ltb rfl) fun y z => tp [4, 1, 0, 2, 3, 5, 6, 7, 8, 9] [_,_,_,_,_,_,_,_,_,_] rfl rfl <| tp2 u48 i52 J hp (RepL.to (G' := y) (RepL.cons (k := oK) (x := (⟨2, c.a, [c.b], 0, 0⟩ : nO)) ⟨_, _, rfl, rfl, z⟩ RepL.nil) (by simp)) rfl rfl rfl rfl rfl rfl rfl rfl rfl fun B ae af o hp => hk b1 (nq 4 rfl (nq 5 rfl (nq 6 rfl (nq 7 rfl ns)))) <| hv 23 rfl (oR u39 i50 rfl rfl (oA am).1 h) (by kernel_rfl) rfl <| hv 24 rfl (fa ou rfl) (by kernel_rfl) rfl <| ho 25 rfl (by kernel_rfl) fun dm b2 => tp [1, 0, 2, 3, 4, 5, 6, 7] [_,_,_,_,_,_,_,_] rfl rfl <| tsH h m48 1 rfl o.o1 rfl fun ag C => hk b2 (nq 4 rfl (nq 5 rfl (nq 6 rfl (nq 7 rfl ns)))) <| hz (by kernel_rfl) <| wp [0, 2, 1, 3, 4, 5, 6, 7] [_,_,_,_,_,_,_,_] rfl rfl <| wf 1 3 [_,_,_,_,_,_] rfl <| W.shut (a := (⟨d.phis, B, (⟨d.term.kind, d.term.arg, d.term.to⟩ : PTerm)⟩ : ny)) C ⟨_, _, _, _, _, _, rfl, rfl, I, o, K⟩ fun ah D => jn [2, 3, 0, 4] (T D hp)
          · exact tbs [(0, .agg #[.int .i64 2, .int .i64 c.a, (.slice (some ⟨g, 0, none⟩) 1 1), .int .i64 0, .int .i64 0])] [.int .i64 2, .int .i64 c.a, (.slice (some ⟨g, 0, none⟩) 1 1), .int .i64 0, .int .i64 0] u48 i52 (by kernel_rfl) rfl rfl rfl rfl fun O => hk bZ (nq 6 rfl (nq 7 rfl (nq 8 rfl (nq 9 rfl ns)))) <| ho 14 rfl (by kernel_rfl) fun dn b3 => tv (lr s48 (Src.at_ 1 rfl) (Hole.cells h) 1 rfl rfl) rfl <| hk b3 (nq 6 rfl (nq 7 rfl (nq 8 rfl (nq 9 rfl ns)))) <| ho 22 rfl (by kernel_rfl) fun dp b4 => tp [5, 0, 1, 2, 3, 4, 6, 7, 8, 9] [_,_,_,_,_,_,_,_,_,_] rfl rfl <| tf 1 0 [_,_,_,_,_,_,_,_,_,_,_] rfl <| TL.litOwn (n := 1) (xs := [c.b]) (RepL.to (RepL.cons (k := (nt .i64)) (x := c.b) ⟨rfl, rfl⟩ RepL.nil) rfl) rfl rfl (ltb rfl) fun y z => tp [4, 1, 0, 2, 3, 5, 6, 7, 8, 9] [_,_,_,_,_,_,_,_,_,_] rfl rfl <| tp2 u48 i52 J hp (RepL.to (G' := y) (RepL.cons (k := oK) (x := (⟨2, c.a, [c.b], 0, 0⟩ : nO)) ⟨_, _, rfl, rfl, z⟩ RepL.nil) (by simp)) rfl rfl rfl rfl rfl rfl rfl rfl rfl fun B ae af o hp => hk b4 (nq 4 rfl (nq 5 rfl (nq 6 rfl (nq 7 rfl ns)))) <| hv 23 rfl (oR u39 i50 rfl rfl (oA am).1 h) (by kernel_rfl) rfl <| hv 24 rfl (fa ou rfl) (by kernel_rfl) rfl <| ho 25 rfl (by kernel_rfl) fun dq b5 => tp [1, 0, 2, 3, 4, 5, 6, 7] [_,_,_,_,_,_,_,_] rfl rfl <| tsH h m48 1 rfl o.o1 rfl fun ag C => hk b5 (nq 4 rfl (nq 5 rfl (nq 6 rfl (nq 7 rfl ns)))) <| hz (by kernel_rfl) <| wp [0, 2, 1, 3, 4, 5, 6, 7] [_,_,_,_,_,_,_,_] rfl rfl <| wf 1 3 [_,_,_,_,_,_] rfl <| W.shut (a := (⟨d.phis, B, (⟨d.term.kind, d.term.arg, d.term.to⟩ : PTerm)⟩ : ny)) C ⟨_, _, _, _, _, _, rfl, rfl, I, o, K⟩ fun ah D => jn [2, 3, 0, 4] (T D hp)
        · refine tbs [(0, .agg #[.int .i64 2, .int .i64 c.a, (.slice (some ⟨g, 0, none⟩) 1 1), .int .i64 0, .int .i64 0])] [.int .i64 2, .int .i64 c.a, (.slice (some ⟨g, 0, none⟩) 1 1), .int .i64 0, .int .i64 0] u48 i52 (by kernel_rfl) rfl rfl rfl rfl fun O => hk bX (nq 2 rfl (nq 3 rfl (nq 4 rfl (nq 6 rfl ns)))) <| ho 12 rfl (by kernel_rfl) fun dr b6 => tp [5, 0, 1, 2, 3, 4, 6] [_,_,_,_,_,_,_] rfl rfl <| TL.norm (L' := [S, bx O 52 [.int .i64 2, .int .i64 c.a, (.slice (some ⟨g, 0, none⟩) 1 1), .int .i64 0, .int .i64 0], bx g 3 [.int .i64 c.b], bx N 31 [.int .i64 c.a, .int .i64 c.b], bx i 77 [.int .i64 a2.f.params, .int .i64 a2.f.result, v3, l, m, .int .i64 a2.out.params, .int .i64 a2.out.result, q, j], t, p]) rfl <| bE hp fun d ax hp => TL.open_ ak ax ?_
          rintro aO _ aa aP h ⟨aQ, ab, aR, ac, aS, ad, rfl, rfl, I, J, K⟩
          exact TL.perm (L' := [aa, ab, ac, ad, bx O 52 [.int .i64 2, .int .i64 c.a, (.slice (some ⟨g, 0, none⟩) 1 1), .int .i64 0, .int .i64 0], bx g 3 [.int .i64 c.b], bx N 31 [.int .i64 c.a, .int .i64 c.b], bx i 77 [.int .i64 a2.f.params, .int .i64 a2.f.result, v3, l, m, .int .i64 a2.out.params, .int .i64 a2.out.result, q, j], t, p]) (by simp) <| tv (oR u39 i50 rfl rfl (oA ax).1 h) rfl <| hk b6 (nq 6 rfl (nq 7 rfl (nq 8 rfl (nq 9 rfl ns)))) <| hv 13 rfl (fa ou rfl) (by kernel_rfl) rfl <| ho 14 rfl (by kernel_rfl) fun dt b7 => tv (lr s48 (Src.at_ 0 rfl) (Hole.cells h) 1 rfl rfl) rfl <| hk b7 (nq 6 rfl (nq 7 rfl (nq 8 rfl (nq 9 rfl ns)))) <| ho 22 rfl (by kernel_rfl) fun du b8 => tp [5, 0, 1, 2, 3, 4, 6, 7, 8, 9] [_,_,_,_,_,_,_,_,_,_] rfl rfl <| tf 1 0 [_,_,_,_,_,_,_,_,_,_,_] rfl <| TL.litOwn (n := 1) (xs := [c.b]) (RepL.to (RepL.cons (k := (nt .i64)) (x := c.b) ⟨rfl, rfl⟩ RepL.nil) rfl) rfl rfl (ltb rfl) fun y z => tp [3, 5, 0, 1, 2, 4, 6, 7, 8, 9] [_,_,_,_,_,_,_,_,_,_] rfl rfl <| tp2 u48 i52 J hp (RepL.to (G' := y) (RepL.cons (k := oK) (x := (⟨2, c.a, [c.b], 0, 0⟩ : nO)) ⟨_, _, rfl, rfl, z⟩ RepL.nil) (by simp)) rfl rfl rfl rfl rfl rfl rfl rfl rfl fun B ae af o hp => hk b8 (nq 4 rfl (nq 5 rfl (nq 6 rfl (nq 7 rfl ns)))) <| hv 23 rfl (oR u39 i50 rfl rfl (oA ax).1 h) (by kernel_rfl) rfl <| hv 24 rfl (fa ou rfl) (by kernel_rfl) rfl <| ho 25 rfl (by kernel_rfl) fun dv b9 => tp [1, 0, 2, 3, 4, 5, 6, 7] [_,_,_,_,_,_,_,_] rfl rfl <| tsH h m48 1 rfl o.o1 rfl fun ag C => hk b9 (nq 4 rfl (nq 5 rfl (nq 6 rfl (nq 7 rfl ns)))) <| hz (by kernel_rfl) <| wp [0, 2, 1, 3, 4, 5, 6, 7] [_,_,_,_,_,_,_,_] rfl rfl <| wf 1 3 [_,_,_,_,_,_] rfl <| W.shut (a := (⟨d.phis, B, (⟨d.term.kind, d.term.arg, d.term.to⟩ : PTerm)⟩ : ny)) C ⟨_, _, _, _, _, _, rfl, rfl, I, o, K⟩ fun ah D => jn [2, 3, 0, 4] (T D hp)
    · exact nN <| jn [0, 1, 2] (br ak (nJ hp bv))
   refine lp bg [4, 5, 6, 0, 1] rfl (fun s e L => ∃ an U ay az aT, s = (an, U) ∧ SlO 3 (nt .i64) an ay az ∧ e = ovr aT [(0, .pointer (some ⟨i, 0, none⟩)), (1, .int .i64 a16), (9, Y), (41, aH), (42, .int .i64 (len M.2.1)), (43, .int .i64 U)] ∧ L = [bx i 77 [.int .i64 a2.f.params, .int .i64 a2.f.result, v3, l, m, .int .i64 a2.out.params, .int .i64 a2.out.result, ay, j], az, G, p, ar]) ⟨_, _, V, X, _, rfl, aq, nD _ _ rfl, rfl⟩ ?_
   rintro _ _ _ ⟨an, U, ay, az, aT, rfl, P, rfl, rfl⟩ aU hp ca
   replace hp : oN.bd22 M an U = some aU := hp
   refine sr <| tv (blt rfl rfl) rfl <| nz <| nv fun dw cb => cD rfl hp (fun cc hp => ?_) fun cc hp => ?_
   · refine sk cb rfl <| nv fun cd ce => ?_
     have ao {aV aA aB cf} (cg : SlO 3 (nt .i64) aV aA aB) (hp : oN.jn128 U aV = some aU) : ∀ w, St E H [bx i 77 [.int .i64 a2.f.params, .int .i64 a2.f.result, v3, l, m, .int .i64 a2.out.params, .int .i64 a2.out.result, aA, j], aB, G, p, ar] w → cd (ovr cf [(0, .pointer (some ⟨i, 0, none⟩)), (1, .int .i64 a16), (9, Y), (41, aH), (42, .int .i64 (len M.2.1)), (43, .int .i64 U)]) w := by
      exact tg ce <| nG <| tv (bad rfl rfl) rfl <| tm rfl <| nl <| gk hp [0, 1, 2, 3, 4] ⟨_, _, aA, aB, _, rfl, cg, nD _ _ rfl, rfl⟩
     refine nC <| sr <| ti u25 i3 (aJ).ro hp rfl rfl rfl rfl ?_
     rintro dx dy dz _ hp rfl ci
     refine tv (lr s3 (Src.at_ 4 rfl) ci 0 rfl rfl) rfl <| ta rfl <| nz <| ch mix [G, p, ar] (nq 2 rfl (nq 3 rfl (nq 4 rfl ns))) <| hv 0 rfl mv (by kernel_rfl) rfl <| hv 1 rfl mv (by kernel_rfl) rfl <| hv 2 rfl (nE rfl) (by kernel_rfl) rfl <| hv 3 rfl (fa pm rfl) (by kernel_rfl) rfl <| hv 4 rfl (fa oV rfl) (by kernel_rfl) rfl <| hv 6 rfl mv (by kernel_rfl) rfl <| hv 7 rfl (nE rfl) (by kernel_rfl) rfl <| hv 8 rfl (fa pm rfl) (by kernel_rfl) rfl <| hv 9 rfl (fa oV rfl) (by kernel_rfl) rfl <| hv 11 rfl mv (by kernel_rfl) rfl <| nU [5, 10] (by kernel_rfl) (by simp) (nF ⟨_, rfl, fun dA cj => ?_⟩ (nF ⟨_, rfl, fun dB ck => ?_⟩ nV))
     · refine tv (lb s25 0 rfl rfl rfl) rfl <| hk cj (nq 2 rfl (nq 3 rfl (nq 4 rfl ns))) <| ho 10 rfl (by kernel_rfl) fun dC cl => tv (lb s25 0 rfl rfl rfl) rfl <| hk cl (nq 2 rfl (nq 3 rfl (nq 4 rfl ns))) <| hi 12 rfl u25 i3 (P).ro hp rfl rfl rfl (by kernel_rfl) rfl ?_
       rintro u cm cn _ hp rfl ap
       exact ho 13 rfl (by kernel_rfl) fun dD co => tv (lr s3 (Src.at_ 1 rfl) ap 0 rfl rfl) rfl <| hk co (nq 2 rfl (nq 3 rfl (nq 4 rfl ns))) <| ho 14 rfl (by kernel_rfl) fun dE cp => tbs [(0, .int .i64 u)] [.int .i64 u] u25 i3 (by kernel_rfl) rfl rfl rfl rfl fun aC => hk cp (nq 3 rfl (nq 4 rfl (nq 5 rfl ns))) <| ho 15 rfl (by kernel_rfl) fun dF cq => tp [2, 0, 1, 3, 4, 5] [_,_,_,_,_,_] rfl rfl <| tf 2 0 [_,_,_,_,_,_,_] rfl <| tp2 u25 i3 P hp (RepL.to (RepL.cons (k := (nt .i64)) (x := u) ⟨rfl, rfl⟩ RepL.nil) rfl) rfl rfl rfl rfl rfl rfl rfl rfl rfl fun aD aE aF F hp => hk cq (nq 2 rfl (nq 3 rfl (nq 4 rfl ns))) <| hv 16 rfl (nE rfl) (by kernel_rfl) rfl <| hv 17 rfl (fa pm rfl) (by kernel_rfl) rfl <| hv 18 rfl (fa oV rfl) (by kernel_rfl) rfl <| ho 19 rfl (by kernel_rfl) fun dG cr => ts 1 m25 rfl rfl F.o1 rfl <| hk cr (nq 2 rfl (nq 3 rfl (nq 4 rfl ns))) <| hz (by kernel_rfl) <| jn [1, 0, 2, 3, 4] (ao F hp)
     · refine tv (lb s25 0 rfl rfl rfl) rfl <| hk ck (nq 2 rfl (nq 3 rfl (nq 4 rfl ns))) <| hi 12 rfl u25 i3 (P).ro hp rfl rfl rfl (by kernel_rfl) rfl ?_
       rintro u cm cn _ hp rfl ap
       refine nU [5, 13] (by kernel_rfl) (by simp) (nF ⟨_, rfl, fun dH cs => ?_⟩ (nF ⟨_, rfl, fun dI ct => ?_⟩ nV))
       · exact tv (lb s25 0 rfl rfl rfl) rfl <| hk cs (nq 2 rfl (nq 3 rfl (nq 4 rfl ns))) <| ho 13 rfl (by kernel_rfl) fun dJ cu => tv (lr s3 (Src.at_ 1 rfl) ap 0 rfl rfl) rfl <| hk cu (nq 2 rfl (nq 3 rfl (nq 4 rfl ns))) <| ho 14 rfl (by kernel_rfl) fun dK cv => tbs [(0, .int .i64 u)] [.int .i64 u] u25 i3 (by kernel_rfl) rfl rfl rfl rfl fun aC => hk cv (nq 3 rfl (nq 4 rfl (nq 5 rfl ns))) <| ho 15 rfl (by kernel_rfl) fun dL cw => tp [2, 0, 1, 3, 4, 5] [_,_,_,_,_,_] rfl rfl <| tf 2 0 [_,_,_,_,_,_,_] rfl <| tp2 u25 i3 P hp (RepL.to (RepL.cons (k := (nt .i64)) (x := u) ⟨rfl, rfl⟩ RepL.nil) rfl) rfl rfl rfl rfl rfl rfl rfl rfl rfl fun aD aE aF F hp => hk cw (nq 2 rfl (nq 3 rfl (nq 4 rfl ns))) <| hv 16 rfl (nE rfl) (by kernel_rfl) rfl <| hv 17 rfl (fa pm rfl) (by kernel_rfl) rfl <| hv 18 rfl (fa oV rfl) (by kernel_rfl) rfl <| ho 19 rfl (by kernel_rfl) fun dM cx => ts 1 m25 rfl rfl F.o1 rfl <| hk cx (nq 2 rfl (nq 3 rfl (nq 4 rfl ns))) <| hz (by kernel_rfl) <| jn [1, 0, 2, 3, 4] (ao F hp)
       · refine tv (lr s3 (Src.at_ 1 rfl) ap 0 rfl rfl) rfl <| hk ct (nq 2 rfl (nq 3 rfl (nq 4 rfl ns))) <| nU [5, 14] (by kernel_rfl) (by simp) (nF ⟨_, rfl, fun dN cy => ?_⟩ (nF ⟨_, rfl, fun dO cz => ?_⟩ nV))
         · exact tv (lb s25 0 rfl rfl rfl) rfl <| hk cy (nq 2 rfl (nq 3 rfl (nq 4 rfl ns))) <| ho 14 rfl (by kernel_rfl) fun dP cA => tbs [(0, .int .i64 u)] [.int .i64 u] u25 i3 (by kernel_rfl) rfl rfl rfl rfl fun aC => hk cA (nq 3 rfl (nq 4 rfl (nq 5 rfl ns))) <| ho 15 rfl (by kernel_rfl) fun dQ cB => tp [2, 0, 1, 3, 4, 5] [_,_,_,_,_,_] rfl rfl <| tf 2 0 [_,_,_,_,_,_,_] rfl <| tp2 u25 i3 P hp (RepL.to (RepL.cons (k := (nt .i64)) (x := u) ⟨rfl, rfl⟩ RepL.nil) rfl) rfl rfl rfl rfl rfl rfl rfl rfl rfl fun aD aE aF F hp => hk cB (nq 2 rfl (nq 3 rfl (nq 4 rfl ns))) <| hv 16 rfl (nE rfl) (by kernel_rfl) rfl <| hv 17 rfl (fa pm rfl) (by kernel_rfl) rfl <| hv 18 rfl (fa oV rfl) (by kernel_rfl) rfl <| ho 19 rfl (by kernel_rfl) fun dR cC => ts 1 m25 rfl rfl F.o1 rfl <| hk cC (nq 2 rfl (nq 3 rfl (nq 4 rfl ns))) <| hz (by kernel_rfl) <| jn [1, 0, 2, 3, 4] (ao F hp)
         · exact tbs [(0, .int .i64 u)] [.int .i64 u] u25 i3 (by kernel_rfl) rfl rfl rfl rfl fun aC => hk cz (nq 3 rfl (nq 4 rfl (nq 5 rfl ns))) <| ho 5 rfl (by kernel_rfl) fun dS cE => tv (lb s25 1 rfl rfl rfl) rfl <| hk cE (nq 3 rfl (nq 4 rfl (nq 5 rfl ns))) <| ho 15 rfl (by kernel_rfl) fun dT cF => tp [2, 0, 1, 3, 4, 5] [_,_,_,_,_,_] rfl rfl <| tf 2 0 [_,_,_,_,_,_,_] rfl <| tp2 u25 i3 P hp (RepL.to (RepL.cons (k := (nt .i64)) (x := u) ⟨rfl, rfl⟩ RepL.nil) rfl) rfl rfl rfl rfl rfl rfl rfl rfl rfl fun aD aE aF F hp => hk cF (nq 2 rfl (nq 3 rfl (nq 4 rfl ns))) <| hv 16 rfl (nE rfl) (by kernel_rfl) rfl <| hv 17 rfl (fa pm rfl) (by kernel_rfl) rfl <| hv 18 rfl (fa oV rfl) (by kernel_rfl) rfl <| ho 19 rfl (by kernel_rfl) fun dU cG => ts 1 m25 rfl rfl F.o1 rfl <| hk cG (nq 2 rfl (nq 3 rfl (nq 4 rfl ns))) <| hz (by kernel_rfl) <| jn [1, 0, 2, 3, 4] (ao F hp)
   · exact nN <| jn [0, 1, 2, 3] (bi P (nJ hp ca))
/-! ### (*fettle/lower.lowerer).block -/
abbrev oT.R (d : Nat) (a2 : pB) (v3 : Value) (e : Value) (g : Value) (r : GErr × List Int × List ny) (v : Value) (A : List FP) : Prop := ∃ (w1 : Value) (a : FP) (w2 : Value) (b : FP) (w3 : Value) (c : FP), w1 = v ∧ A = [a, bx d 77 [.int .i64 a2.f.params, .int .i64 a2.f.result, v3, e, g, .int .i64 a2.out.params, .int .i64 a2.out.result, w2, w3], b, c] ∧ ErO 63 106 108 r.1 w1 a ∧ SlO 3 (nt .i64) r.2.1 w2 b ∧ SlO 50 nW r.2.2 w3 c
def oT.nx9  (a : List Int) (b : List ny) : Option (GErr × List Int × List ny) :=
  some (GErr.no, a, b)
def oT.jn19 (a : Int) (b : List Int) (c : List ny) : Option (Ex (Ex (GErr × List Int × List ny) (List Int × List ny)) (List Int × List ny × Int)) :=
  some (.go (b, c, (w64 (a + 1))))
def oT.jn28 (a2 : pB) (a16 : Int) (c : List Int) (d : Int) (b : Int) (e : List ny) (g : Int) : Option (Ex (Ex (GErr × List Int × List ny) (List Int × List ny)) (List Int × List ny × Int)) :=
  (idx a2.ahead b).bind fun h =>
  (pn h a16).bind fun i =>
  (oN (⟨(⟨a2.f.params, a2.f.result, a2.f.regs, a2.f.blocks⟩ : nA), a2.ahead, (⟨a2.out.params, a2.out.result, c, e⟩ : nA)⟩ : pB) g b i).bind fun a =>
  if ¬ a.1 = GErr.no then
    some (.ret (.ret (a.1, a.2.1, a.2.2)))
  else
    oT.jn19 d a.2.1 a.2.2
def oT.bd9 (a2 : pB) (a16 : Int) (g : ny) (d : List Int) (b : List ny) (a : Int) : Option (Ex (Ex (GErr × List Int × List ny) (List Int × List ny)) (List Int × List ny × Int)) :=
  if a < (len g.term.to) then
    (idx g.term.to a).bind fun e =>
    (idx a2.f.blocks e).bind fun i =>
    if (len i.phis) = 0 then
      oT.jn19 a d b
    else
      (idx a2.f.blocks a16).bind fun j =>
      if (len j.term.to) > 1 then
        (cat b [(⟨([] : List PPhi), ([] : List nO), (⟨1, -1, [e]⟩ : PTerm)⟩ : ny)]).bind fun h =>
        (idx h a16).bind fun c =>
        (idx c.term.to a).bind fun k =>
        oT.jn28 a2 a16 d a e (h.set (a16).toNat (⟨c.phis, c.ins, (⟨c.term.kind, c.term.arg, (c.term.to.set (a).toNat (len b))⟩ : PTerm)⟩ : ny)) (len b)
      else
        oT.jn28 a2 a16 d a e b a16
  else
    some (.ret (.go (d, b)))
def oT (a2 : pB) (a16 : Int) : Option (GErr × List Int × List ny) :=
  (idx a2.f.blocks a16).bind fun a =>
  (whl (fun (s : (List Int × List ny × Int)) => oT.bd9 a2 a16 a s.1 s.2.1 s.2.2) nB (a2.out.regs, a2.out.blocks, 0)).bind fun z =>
  match z with
    | .ret r => some r
    | .go p => oT.nx9 p.1 p.2
set_option maxHeartbeats 4000000 in
theorem wF {E : World} {H : FP} {w : World} {a2 : pB} {a16 : Int} {b : Nat} {v3 : Value} {c : Value} {d : Value} {y : Value} {z : FP} {B : Value} {C : FP} {r : GErr × List Int × List ny} (au : SlI (nt .i64) H a2.f.regs v3) (t : SlI nW H a2.f.blocks c) (aa : SlI (kSl 3 (nt .i64)) H a2.ahead d) (av : SlO 3 (nt .i64) a2.out.regs y z) (aw : SlO 50 nW a2.out.blocks B C) (hp : oT a2 a16 = some r) (hst : St E H [bx b 77 [.int .i64 a2.f.params, .int .i64 a2.f.result, v3, c, d, .int .i64 a2.out.params, .int .i64 a2.out.result, y, B], z, C] w) :
    Fn Try.prog 30 #[.pointer (some ⟨b, 0, none⟩), .int .i64 a16] w fun v w' => ∃ A, oT.R b a2 v3 c d r v A ∧ St E H A w' := by
 refine fb 100 [.tmp 4] Try.func30 rfl rfl rfl rfl rfl hst <| sr <| ta rfl <| nz <| nv fun ax ay => sr <| tm rfl <| tv (nE rfl) rfl <| tv (fa r5 rfl) rfl <| tv (fa n6 rfl) rfl <| tv (lb s39 0 rfl rfl rfl) rfl <| tm rfl <| ti u39 i50 t hp rfl rfl rfl rfl ?_
 rintro u br bs _ hp ⟨bt, bu, D, rfl, bv, bw, ab⟩ az
 refine tv (fa oP rfl) rfl <| tv (fa pf rfl) rfl <| tv (lr s25 sH az 4 rfl rfl) rfl <| tv (ln u25 ab rfl) rfl <| tm rfl <| nz <| nC <| bE hp fun aA aB ac => ?_
 have aC {F G I J K M aD} (aE : SlO 3 (nt .i64) F I J) (aF : SlO 50 nW G K M) (aG : .go (F, G) = aA) : ∀ w, St E H [bx b 77 [.int .i64 a2.f.params, .int .i64 a2.f.result, v3, c, d, .int .i64 a2.out.params, .int .i64 a2.out.result, I, K], J, M] w → ax (ovr aD []) w := by
  subst aG
  replace hp : oT.nx9 F G = some r := ac
  exact tg ay <| sr <| ta rfl <| nz <| nH <| W.new0 <| rt hp [0, 1, 2, 3] ⟨.nilIface, ([] : FP), I, J, K, M, rfl, rfl, (ErO.nil : ErO 63 106 108 GErr.no .nilIface []), aE, aF⟩
 refine lp aB [0, 1, 2] rfl (fun s e L => ∃ i o g j l N O ad, s = (i, o, g) ∧ SlO 3 (nt .i64) i j l ∧ SlO 50 nW o N O ∧ e = ovr ad [(0, .pointer (some ⟨b, 0, none⟩)), (1, .int .i64 a16), (18, D), (19, .int .i64 (len u.term.to)), (20, .int .i64 g)] ∧ L = [bx b 77 [.int .i64 a2.f.params, .int .i64 a2.f.result, v3, c, d, .int .i64 a2.out.params, .int .i64 a2.out.result, j, N], l, O]) ⟨_, _, _, y, z, B, C, _, rfl, av, aw, nD _ _ rfl, rfl⟩ ?_
 rintro _ _ _ ⟨i, o, g, j, l, N, O, ad, rfl, P, p, rfl, rfl⟩ Q hp ae
 replace hp : oT.bd9 a2 a16 u i o g = some Q := hp
 refine sr <| tv (blt rfl rfl) rfl <| nz <| nv fun bz aH => cD rfl hp (fun aI hp => ?_) fun aI hp => ?_
 · refine sk aH rfl <| nv fun aJ aK => ?_
   have af {ag ah S T U V aL} (aM : SlO 3 (nt .i64) ag S T) (aN : SlO 50 nW ah U V) (hp : oT.jn19 g ag ah = some Q) : ∀ w, St E H [bx b 77 [.int .i64 a2.f.params, .int .i64 a2.f.result, v3, c, d, .int .i64 a2.out.params, .int .i64 a2.out.result, S, U], T, V] w → aJ (ovr aL [(0, .pointer (some ⟨b, 0, none⟩)), (1, .int .i64 a16), (18, D), (19, .int .i64 (len u.term.to)), (20, .int .i64 g)]) w := by
    exact tg aK <| nG <| tv (bad rfl rfl) rfl <| tm rfl <| nl <| gk hp [0, 1, 2] ⟨_, _, _, S, T, U, V, _, rfl, aM, aN, nD _ _ rfl, rfl⟩
   refine nC <| sr <| tm rfl <| ti u25 i3 ab hp rfl rfl rfl rfl ?_
   rintro h bA bB _ hp rfl aO
   refine tv (lr s3 sH aO 0 rfl rfl) rfl <| ta rfl <| ta rfl <| nz <| nv fun bC aP => sr <| tm rfl <| tv (nE rfl) rfl <| tv (fa r5 rfl) rfl <| tv (fa n6 rfl) rfl <| tv (lb s39 0 rfl rfl rfl) rfl <| tm rfl <| ti u39 i50 t hp rfl rfl rfl rfl ?_
   rintro bD bF bG _ hp ⟨bH, bI, bJ, rfl, aQ, bK, bL⟩ aR
   refine tv (fa oL rfl) rfl <| tv (lr s47 sH aR 0 rfl rfl) rfl <| tv (ln u47 aQ rfl) rfl <| tv (beq rfl rfl) rfl <| nz <| cD rfl hp (fun aS hp => ?_) fun aS hp => ?_
   · exact nN <| jn [0, 1, 2] (af P p hp)
   · refine sk aP rfl <| sr <| tm rfl <| ta rfl <| nz <| nv fun aT aU => ?_
     have ai {X Y aj ak aV} (aW : SlO 50 nW X aj ak) (hp : oT.jn28 a2 a16 i g h X Y = some Q) : ∀ w, St E H [bx b 77 [.int .i64 a2.f.params, .int .i64 a2.f.result, v3, c, d, .int .i64 a2.out.params, .int .i64 a2.out.result, j, aj], l, ak] w → aT (ovr aV [(0, .pointer (some ⟨b, 0, none⟩)), (1, .int .i64 a16), (6, .int .i64 h), (7, .int .i64 Y), (18, D), (19, .int .i64 (len u.term.to)), (20, .int .i64 g)]) w := by
      refine tg aU <| sr <| tm rfl <| tm rfl <| tm rfl <| tm rfl <| tv (nE rfl) rfl <| tv (fa vL rfl) rfl <| tv (lb s73 0 rfl rfl rfl) rfl <| tm rfl <| ti u73 i25 aa hp rfl rfl rfl rfl ?_
      rintro aX bM bN _ hp ⟨bO, rfl, aY⟩ aZ
      refine tv (lr s25 sH aZ 0 rfl rfl) rfl <| tm rfl <| bE hp fun a0 hy30 hp => tc 0 [_,_,_] rfl c54 (fun _ => tN (a1 := aX) (a4 := a16) (aY.mono nw) hy30) rfl ?_
      rintro _ _ ⟨rfl, rfl⟩
      refine bE hp fun bP hy32 hp => tc 3 [] rfl c53 (fun _ => wE (a2 := (⟨(⟨a2.f.params, a2.f.result, a2.f.regs, a2.f.blocks⟩ : nA), a2.ahead, (⟨a2.out.params, a2.out.result, i, X⟩ : nA)⟩ : pB)) (a16 := Y) (a17 := h) (a18 := a0) (au.mono nw) (t.mono nw) (aa.mono nw) P aW hy32) rfl ?_
      rintro _ _ ⟨a3, a5, a6, a7, a8, a9, rfl, rfl, al, am, an⟩
      refine ta rfl <| nz <| sr <| tm rfl <| tv (pI pp al rfl) rfl <| nz <| cD rfl hp (fun ba hp => ?_) fun ba hp => ?_
      · refine sr <| tm rfl <| ta rfl <| nz <| nH ?_
        obtain rfl := nJ hp ae
        exact rt ac [0, 1, 2, 3] ⟨a3, a5, a6, a7, a8, a9, rfl, rfl, al, am, an⟩
      · exact TC.skip <| jn [1, 2, 3] (af am an hp)
     refine sr <| tm rfl <| tv (nE rfl) rfl <| tv (fa r5 rfl) rfl <| tv (fa n6 rfl) rfl <| tv (lb s39 0 rfl rfl rfl) rfl <| tm rfl <| ti u39 i50 t hp rfl rfl rfl rfl ?_
     rintro bQ bR bS _ hp ⟨bT, bU, bV, rfl, bW, bX, bb⟩ bc
     refine tv (fa oP rfl) rfl <| tv (fa pf rfl) rfl <| tv (lr s25 sH bc 4 rfl rfl) rfl <| tv (ln u25 bb rfl) rfl <| tv (bgt rfl rfl) rfl <| nz <| cD rfl hp (fun be hp => ?_) fun be hp => ?_
     · refine sr <| tm rfl <| tv (nE rfl) rfl <| tv (fa pm rfl) rfl <| tv (fa n6 rfl) rfl <| tv (lb s39 0 rfl rfl rfl) rfl <| tv (ln u39 p.ro rfl) rfl <| ta rfl <| nz <| sr <| tm rfl <| tm rfl <| tv (nE rfl) rfl <| tv (fa pm rfl) rfl <| tv (fa n6 rfl) rfl <| tv (lb s39 0 rfl rfl rfl) rfl <| tm rfl <| tbs [(0, .int .i64 h)] [.int .i64 h] u25 i3 (by kernel_rfl) rfl rfl rfl rfl fun m => tv (oh (vs := [(0, .int .i64 1), (1, .int .i64 (-1)), (2, .slice (some ⟨m, 0, none⟩) 1 1)]) (ds := [.int .i64 1, .int .i64 (-1), .slice (some ⟨m, 0, none⟩) 1 1]) rfl (fun w => by kernel_rfl)) rfl <| tv (oh (vs := [(2, .agg #[.int .i64 1, .int .i64 (-1), .slice (some ⟨m, 0, none⟩) 1 1])]) (ds := [.slice none 0 0, .slice none 0 0, .int .i64 1, .int .i64 (-1), .slice (some ⟨m, 0, none⟩) 1 1]) rfl (fun w => by kernel_rfl)) rfl <| tbs [(0, .agg #[.slice none 0 0, .slice none 0 0, .int .i64 1, .int .i64 (-1), .slice (some ⟨m, 0, none⟩) 1 1])] [.slice none 0 0, .slice none 0 0, .int .i64 1, .int .i64 (-1), .slice (some ⟨m, 0, none⟩) 1 1] u39 i50 (by kernel_rfl) rfl rfl rfl rfl fun bY => TL.new0 <| TL.new0 <| tp [3, 0, 1, 2, 4, 5, 6] [_,_,_,_,_,_,_] rfl rfl <| tf 1 0 [_,_,_,_,_,_,_,_] rfl <| TL.litOwn (n := 1) (xs := [h]) (RepL.to (RepL.cons (k := (nt .i64)) (x := h) ⟨rfl, rfl⟩ RepL.nil) rfl) rfl rfl (ltb rfl) fun bf bg => tp [6, 3, 2, 1, 0, 4, 5] [_,_,_,_,_,_,_] rfl rfl <| tf 2 3 [_,_,_,_,_] rfl <| tp2 u39 i50 p hp (RepL.to (G' := ([] : FP) ++ (([] : FP) ++ (bf))) (RepL.cons (k := nW) (x := (⟨([] : List PPhi), ([] : List nO), (⟨1, -1, [h]⟩ : PTerm)⟩ : ny)) ⟨_, _, _, _, _, _, rfl, rfl, (SlO.nil 70), (SlO.nil 52), bg⟩ RepL.nil) (by simp)) rfl rfl rfl rfl rfl rfl rfl rfl rfl fun bZ ao bh ap hp => tv (nE rfl) rfl <| tv (fa pm rfl) rfl <| tv (fa n6 rfl) rfl <| ts 1 m39 rfl rfl ap.o1 rfl <| nz <| nG <| tm rfl <| tv (nE rfl) rfl <| tv (fa pm rfl) rfl <| tv (fa n6 rfl) rfl <| tv (lb s39 1 rfl rfl rfl) rfl <| tm rfl <| TL.norm (L' := [bh, bx b 77 [.int .i64 a2.f.params, .int .i64 a2.f.result, v3, c, d, .int .i64 a2.out.params, .int .i64 a2.out.result, j, ao], l]) rfl <| bE hp fun q aq hp => TL.open_ ap aq ?_
       rintro b0 _ bi b1 Z ⟨b2, bj, b3, bk, b4, bl, rfl, rfl, bm, bn, ar⟩
       exact TL.perm (L' := [bi, bj, bk, bl, bx b 77 [.int .i64 a2.f.params, .int .i64 a2.f.result, v3, c, d, .int .i64 a2.out.params, .int .i64 a2.out.result, j, ao], l]) (by simp) <| tv (oR u39 i50 rfl rfl (oA aq).1 Z) rfl <| tv (fa oP rfl) rfl <| tv (fa pf rfl) rfl <| tv (lr s25 (Src.at_ 0 rfl) (Hole.cells Z) 4 rfl rfl) rfl <| tm rfl <| tm rfl <| tO u25 i3 ar hp rfl rfl rfl rfl fun b5 b6 b7 bo hp => tp [3, 0, 1, 2, 4, 5] [_,_,_,_,_,_] rfl rfl <| tE ar bo m3 rfl ⟨rfl, rfl⟩ w1 fun b8 bp => nl <| wp [1, 2, 3, 0, 4, 5] [_,_,_,_,_,_] rfl rfl <| wf 1 3 [_,_,_,_] rfl <| W.shut (a := (⟨q.phis, q.ins, (⟨q.term.kind, q.term.arg, (q.term.to.set (g).toNat (len o))⟩ : PTerm)⟩ : ny)) Z ⟨_, _, _, _, _, _, rfl, rfl, bm, bn, bp⟩ fun b9 bq => jn [1, 2, 0] (ai bq hp)
     · exact TC.skip <| jn [0, 1, 2] (ai p hp)
 · exact nN <| jn [0, 1, 2] (aC P p (nJ hp ae))
end Go.Proofs.Ytpmcbahahjelnaa
namespace Go.Proofs.Ytpmcbahahjelnaa
open Go Go.Proofs
/-! ### fettle/lower.Lower -/
abbrev ov.R (r : nA × GErr) (v : Value) (A : List FP) : Prop := ∃ (w1 : Value) (a : FP) (w2 : Value) (b : FP) (w3 : Value) (c : FP), .tuple #[.agg #[.int .i64 r.1.params, .int .i64 r.1.result, w1, w2], w3] = v ∧ A = [a, b, c] ∧ SlO 3 (nt .i64) r.1.regs w1 a ∧ SlO 50 nW r.1.blocks w2 b ∧ ErO 63 106 108 r.2 w3 c
def ov.nx44 (a : nA) (b : List Int) (c : List ny) (d : Int) : Option (nA × GErr) :=
  if (d > 256 ∨ (len b) > 256) ∨ (len c) > 64 then
    some ((⟨0, 0, ([] : List Int), ([] : List ny)⟩ : nA), (GErr.code 5))
  else
    some ((⟨a.params, a.result, b, c⟩ : nA), GErr.no)
def ov.bd44 (b : List ny) (c : Int) (a : Int) : Option (Ex Int (Int × Int)) :=
  if a < (len b) then
    (idx b a).bind fun d =>
    some (.go ((w64 (c + (w64 ((len d.ins) + 1)))), (w64 (a + 1))))
  else
    some (.ret c)
def ov.nx35 (b : nA) (c : List Int) (a : List ny) : Option (nA × GErr) :=
  (whl (fun (s : (Int × Int)) => ov.bd44 a s.1 s.2) nB (0, 0)).bind fun z =>
  ov.nx44 b c a z
def ov.bd35 (a : nA) (f : List (List Int)) (d : List Int) (e : List ny) (c : Int) : Option (Ex (Ex (nA × GErr) (List Int × List ny)) (List Int × List ny × Int)) :=
  if c < (len a.blocks) then
    (oT (⟨(⟨a.params, a.result, a.regs, a.blocks⟩ : nA), f, (⟨a.params, a.result, d, e⟩ : nA)⟩ : pB) c).bind fun b =>
    if ¬ b.1 = GErr.no then
      some (.ret (.ret ((⟨0, 0, ([] : List Int), ([] : List ny)⟩ : nA), b.1)))
    else
      some (.go (b.2.1, b.2.2, (w64 (c + 1))))
  else
    some (.ret (.go (d, e)))
def ov.nx26 (a : nA) (b : List (List Int)) (c : List Int) (d : List ny) : Option (nA × GErr) :=
  (whl (fun (s : (List Int × List ny × Int)) => ov.bd35 a b s.1 s.2.1 s.2.2) nB (c, d, 0)).bind fun z =>
  match z with
    | .ret r => some r
    | .go p => ov.nx35 a p.1 p.2
def ov.jn89 (a : Int) (b : List ny) : Option (Ex (List ny) (List ny × Int)) :=
  some (.go (b, (w64 (a + 1))))
def ov.bd26 (b : nA) (c : List ny) (a : Int) : Option (Ex (List ny) (List ny × Int)) :=
  if a < (len b.blocks) then
    (idx b.blocks a).bind fun d =>
    (pv d).bind fun e =>
    (cat c [e]).bind fun f =>
    ov.jn89 a f
  else
    some (.ret c)
def ov (a1 : nT) (a4 : Int) : Option (nA × GErr) :=
  (oX a1 a4).bind fun b =>
  if ¬ b = GErr.no then
    some ((⟨0, 0, ([] : List Int), ([] : List ny)⟩ : nA), b)
  else
    (idx a1.funcs a4).bind fun a =>
    (oH a).bind fun c =>
    (pE a.regs).bind fun d =>
    (whl (fun (s : (List ny × Int)) => ov.bd26 a s.1 s.2) nB (([] : List ny), 0)).bind fun z =>
    ov.nx26 a c d z
set_option maxHeartbeats 4000000 in
theorem sN {E : World} {H : FP} {w : World} {a1 : nT} {a4 : Int} {v2 : Value} {r : nA × GErr} (aB : SlI oB H a1.funcs v2) (hp : ov a1 a4 = some r) (hst : St E H [] w) :
    Fn Try.prog 13 #[.agg #[v2], .int .i64 a4] w fun v w' => ∃ A, ov.R r v A ∧ St E H A w' := by
 refine Fn.bodyV (fn := Try.f13) (args := [.agg #[v2], .int .i64 a4]) E H [] 119 Try.func13 rfl rfl (leb rfl) hst <| sr <| tb [v2] rfl rfl fun a0 => tl i41 rfl fun d => ta rfl <| nz <| nv fun cy a3 => sr <| tv (lA (ds := [v2]) pc 1 rfl rfl rfl rfl) rfl <| tm rfl <| bE hp fun cz hy3 hp => tc 0 [_,_] rfl c26 (fun _ => wC (a1 := a1) (a4 := a4) (aB.mono nw) hy3) rfl ?_
 rintro _ _ ⟨a5, aC, rfl, rfl, aD⟩
 refine ta rfl <| nz <| sr <| tm rfl <| tv (pI pp aD rfl) rfl <| nz <| cD rfl hp (fun a6 hp => ?_) fun a6 hp => ?_
 · refine sr <| tv (oh (vs := []) (ds := [.int .i64 0, .int .i64 0, .slice none 0 0, .slice none 0 0]) rfl (fun w => by kernel_rfl)) rfl <| tm rfl <| tS 1 m41 rfl rfl [.int .i64 0, .int .i64 0, .slice none 0 0, .slice none 0 0] rfl (oc rfl (oc rfl (oc rfl (oc rfl oc0)))) rfl rfl <| ta rfl <| nz <| nH <| W.new0 <| W.new0 ?_
   obtain rfl := Option.some.inj hp
   exact fun w hw => retC2 hw rfl rfl rfl n9 3 rfl rfl ⟨(.slice none 0 0), ([] : FP), (.slice none 0 0), ([] : FP), a5, aC, rfl, rfl, (SlO.nil 3), (SlO.nil 50), aD⟩ (hw.pickA [1, 0, 2] rfl)
 · refine sk a3 rfl <| sr <| tv (fa oS rfl) rfl <| tv (lb s33 2 rfl rfl rfl) rfl <| tm rfl <| ti u33 i41 aB hp rfl rfl rfl rfl ?_
   rintro a cA cB _ hp ⟨c, b, rfl, Q, I⟩ a7
   refine tv (lR (ds := [.int .i64 a.params, .int .i64 a.result, c, b]) n9 sH a7 0 rfl rfl rfl) rfl <| tl i41 rfl fun q => tS 0 m41 rfl rfl [.int .i64 a.params, .int .i64 a.result, c, b] rfl (oc rfl (oc rfl (oc (Q).one (oc (I).one oc0)))) rfl rfl <| nz <| nv fun cC a8 => ch mix [bx q 41 [.int .i64 a.params, .int .i64 a.result, c, b], aC, bx d 41 [.int .i64 0, .int .i64 0, .slice none 0 0, .slice none 0 0], bx a0 35 [v2]] (nq 0 rfl (nq 1 rfl (nq 2 rfl (nq 3 rfl ns)))) <| hv 0 rfl (lAG (ds := [.int .i64 a.params, .int .i64 a.result, c, b]) n9 0 rfl rfl rfl rfl) (by kernel_rfl) rfl <| hv 1 rfl (lAG (ds := [.int .i64 a.params, .int .i64 a.result, c, b]) n9 0 rfl rfl rfl rfl) (by kernel_rfl) rfl <| hv 3 rfl (fa py rfl) (by kernel_rfl) rfl <| hv 4 rfl (lbG s3 0 rfl rfl rfl) (by kernel_rfl) rfl <| hv 5 rfl (fa qb rfl) (by kernel_rfl) rfl <| hv 6 rfl (lbG s3 0 rfl rfl rfl) (by kernel_rfl) rfl <| hv 7 rfl (fa oV rfl) (by kernel_rfl) rfl <| hv 8 rfl (lbG s25 0 rfl rfl rfl) (by kernel_rfl) rfl <| ho 2 rfl (by kernel_rfl) fun cE a9 => bE hp fun ah hy11 hp => tc 0 [_,_,_,_] rfl c27 (fun _ => rB (a1 := a) (Q.mono nw) (I.mono nw) hy11) rfl ?_
   rintro _ _ ⟨j, l, rfl, rfl, aE⟩
   refine hk a9 (nq 1 rfl (nq 2 rfl (nq 3 rfl (nq 4 rfl ns)))) <| ho 9 rfl (by kernel_rfl) fun cF ba => bE hp fun bb hy15 hp => tc 0 [_,_,_,_,_] rfl c28 (fun _ => p8 (a1 := a.regs) (Q.mono nw) hy15) rfl ?_
   rintro _ _ ⟨o, K, rfl, rfl, aF⟩
   refine hk ba (nq 2 rfl (nq 3 rfl (nq 4 rfl (nq 5 rfl ns)))) <| hv 10 rfl (oh (vs := [(0, .int .i64 a.params), (1, .int .i64 a.result), (2, o)]) (ds := [.int .i64 a.params, .int .i64 a.result, o, .slice none 0 0]) rfl (fun w => by obtain ⟨_, _, rfl⟩ := (aF).len; kernel_rfl)) (by kernel_rfl) rfl <| hv 11 rfl (oh (vs := [(0, .agg #[.int .i64 a.params, .int .i64 a.result, c, b]), (1, j), (2, .agg #[.int .i64 a.params, .int .i64 a.result, o, .slice none 0 0])]) (ds := [.int .i64 a.params, .int .i64 a.result, c, b, j, .int .i64 a.params, .int .i64 a.result, o, .slice none 0 0]) rfl (fun w => by obtain ⟨_, _, rfl⟩ := (aE).len; kernel_rfl)) (by kernel_rfl) rfl <| ho 12 rfl (by kernel_rfl) fun cG bc => tb [.int .i64 a.params, .int .i64 a.result, c, b, j, .int .i64 a.params, .int .i64 a.result, o, .slice none 0 0] rfl rfl fun f => hk bc (nq 3 rfl (nq 4 rfl (nq 5 rfl (nq 6 rfl ns)))) <| hv 13 rfl sg (by kernel_rfl) rfl <| hz (by kernel_rfl) <| tg a8 <| nv fun be bf => sr <| tv (fa n6 rfl) rfl <| tv (lb s39 3 rfl rfl rfl) rfl <| tv (ln u39 I rfl) rfl <| tm rfl <| nz <| nC <| bE hp fun bg bh bi => ?_
   have bj {ai aj ak bk} (bl : SlO 50 nW ai aj ak) (bm : ai = bg) : ∀ w, St E H [bx d 41 [.int .i64 0, .int .i64 0, .slice none 0 0, .slice none 0 0], bx q 41 [.int .i64 a.params, .int .i64 a.result, c, b], bx f 77 [.int .i64 a.params, .int .i64 a.result, c, b, j, .int .i64 a.params, .int .i64 a.result, o, aj], l, K, ak] w → be (ovr bk [(4, .pointer (some ⟨d, 0, none⟩)), (7, .pointer (some ⟨q, 0, none⟩)), (8, .pointer (some ⟨f, 0, none⟩))]) w := by
    subst bm
    replace hp : ov.nx26 a ah bb ai = some r := bi
    refine tg bf <| nv fun bn bo => sr <| tv (fa n6 rfl) rfl <| tv (lb s39 1 rfl rfl rfl) rfl <| tv (ln u39 I rfl) rfl <| tm rfl <| nz <| nC <| bE hp fun bp bq aG => ?_
    have br {u y p z m B bs} (am : SlO 3 (nt .i64) u p z) (M : SlO 50 nW y m B) (bt : .go (u, y) = bp) : ∀ w, St E H [bx d 41 [.int .i64 0, .int .i64 0, .slice none 0 0, .slice none 0 0], bx f 77 [.int .i64 a.params, .int .i64 a.result, c, b, j, .int .i64 a.params, .int .i64 a.result, p, m], l, z, B] w → bn (ovr bs [(4, .pointer (some ⟨d, 0, none⟩)), (8, .pointer (some ⟨f, 0, none⟩))]) w := by
     subst bt
     replace hp : ov.nx35 a u y = some r := aG
     refine tg bo <| sr <| ta rfl <| nz <| nv fun bu bv => sr <| tm rfl <| tv (nE rfl) rfl <| tv (fa pm rfl) rfl <| tv (fa n6 rfl) rfl <| tv (lb s39 1 rfl rfl rfl) rfl <| tv (ln u39 M.ro rfl) rfl <| tm rfl <| nz <| nC <| bE hp fun bw bz bA => ?_
     have bB {C bC} (bD : C = bw) : ∀ w, St E H [bx d 41 [.int .i64 0, .int .i64 0, .slice none 0 0, .slice none 0 0], bx f 77 [.int .i64 a.params, .int .i64 a.result, c, b, j, .int .i64 a.params, .int .i64 a.result, p, m], l, z, B] w → bu (ovr bC [(4, .pointer (some ⟨d, 0, none⟩)), (8, .pointer (some ⟨f, 0, none⟩)), (13, .int .i64 C)]) w := by
      subst bD
      replace hp : ov.nx44 a u y C = some r := bA
      refine tg bv <| nv fun cH bG => sr <| tm rfl <| tv (bgt rfl rfl) rfl <| tm rfl <| TL.cut 8 fun bH bI => ?_
      have aH {bJ} : ∀ w, St E H [bx d 41 [.int .i64 0, .int .i64 0, .slice none 0 0, .slice none 0 0], bx f 77 [.int .i64 a.params, .int .i64 a.result, c, b, j, .int .i64 a.params, .int .i64 a.result, p, m], l, z, B] w → bH (ovr bJ [(103, .bool (decide (C > 256 ∨ (len u) > 256))), (4, .pointer (some ⟨d, 0, none⟩)), (8, .pointer (some ⟨f, 0, none⟩))]) w := by
       refine tlg bI <| tm rfl <| TL.cut 8 fun bK bL => ?_
       have aI {bM} : ∀ w, St E H [bx d 41 [.int .i64 0, .int .i64 0, .slice none 0 0, .slice none 0 0], bx f 77 [.int .i64 a.params, .int .i64 a.result, c, b, j, .int .i64 a.params, .int .i64 a.result, p, m], l, z, B] w → bK (ovr bM [(112, .bool (decide ((C > 256 ∨ (len u) > 256) ∨ (len y) > 64))), (4, .pointer (some ⟨d, 0, none⟩)), (8, .pointer (some ⟨f, 0, none⟩))]) w := by
        refine tlg bL <| nz <| cD rfl hp (fun bN hp => ?_) fun bN hp => ?_
        · refine sr <| tv (oh (vs := []) (ds := [.int .i64 0, .int .i64 0, .slice none 0 0, .slice none 0 0]) rfl (fun w => by kernel_rfl)) rfl <| tv (mI u63 rfl) rfl <| tS 0 m41 rfl rfl [.int .i64 0, .int .i64 0, .slice none 0 0, .slice none 0 0] rfl (oc rfl (oc rfl (oc rfl (oc rfl oc0)))) rfl rfl <| ta rfl <| nz <| nH <| W.new0 <| W.new0 <| W.new0 ?_
          obtain rfl := Option.some.inj hp
          exact fun w hw => retC2 hw rfl rfl rfl n9 3 rfl rfl ⟨(.slice none 0 0), ([] : FP), (.slice none 0 0), ([] : FP), (.iface 63 (.int .i64 5)), ([] : FP), rfl, rfl, (SlO.nil 3), (SlO.nil 50), (ErO.mk _ : ErO 63 106 108 (GErr.code 5) (.iface 63 (.int .i64 5)) [])⟩ (hw.pickA [2, 1, 0] rfl)
        · refine sk bG rfl <| sr <| tm rfl <| tv (nE rfl) rfl <| tv (fa pm rfl) rfl <| tv (lA (ds := [.int .i64 a.params, .int .i64 a.result, p, m]) n9 1 rfl rfl rfl rfl) rfl <| tS 0 m41 rfl rfl [.int .i64 a.params, .int .i64 a.result, p, m] rfl (oc rfl (oc rfl (oc (am).one (oc (M).one oc0)))) rfl rfl <| ta rfl <| nz <| nH <| W.new0 ?_
          obtain rfl := Option.some.inj hp
          exact fun w hw => retC2 hw rfl rfl rfl n9 1 rfl rfl ⟨p, z, m, B, .nilIface, ([] : FP), rfl, rfl, am, M, (ErO.nil : ErO 63 106 108 GErr.no .nilIface [])⟩ (hw.pickA [4, 5, 0] rfl)
       by_cases g : C > 256 ∨ (len u) > 256
       · exact gn rfl (bT g) rfl rfl <| gn rfl (bT g) rfl rfl <| gn rfl (bT g) rfl rfl <| gn rfl (bT g) rfl rfl <| gn rfl (bT g) rfl rfl <| gn rfl (bT g) rfl rfl <| gn rfl (bT g) rfl rfl <| tv (pT (bT g)) rfl <| nj aI (bOt g)
       · exact gy rfl (bF g) <| tm rfl <| gy rfl (bF g) <| tv (nE rfl) rfl <| gy rfl (bF g) <| tv (fa pm rfl) rfl <| gy rfl (bF g) <| tv (fa n6 rfl) rfl <| gy rfl (bF g) <| tv (lb s39 1 rfl rfl rfl) rfl <| gy rfl (bF g) <| tv (ln u39 M.ro rfl) rfl <| gy rfl (bF g) <| tv (bgt rfl rfl) rfl <| tv (pF (bF g)) rfl <| nj aI (bOf g)
      by_cases h : C > 256
      · exact gn rfl (bT h) rfl rfl <| gn rfl (bT h) rfl rfl <| gn rfl (bT h) rfl rfl <| gn rfl (bT h) rfl rfl <| gn rfl (bT h) rfl rfl <| gn rfl (bT h) rfl rfl <| gn rfl (bT h) rfl rfl <| tv (pT (bT h)) rfl <| nj aH (bOt h)
      · exact gy rfl (bF h) <| tm rfl <| gy rfl (bF h) <| tv (nE rfl) rfl <| gy rfl (bF h) <| tv (fa pm rfl) rfl <| gy rfl (bF h) <| tv (fa oV rfl) rfl <| gy rfl (bF h) <| tv (lb s25 1 rfl rfl rfl) rfl <| gy rfl (bF h) <| tv (ln u25 am.ro rfl) rfl <| gy rfl (bF h) <| tv (bgt rfl rfl) rfl <| tv (pF (bF h)) rfl <| nj aH (bOf h)
     refine lp bz [0, 1, 2, 3, 4] rfl (fun s e L => ∃ S T aJ, s = (S, T) ∧ e = ovr aJ [(4, .pointer (some ⟨d, 0, none⟩)), (8, .pointer (some ⟨f, 0, none⟩)), (13, .int .i64 S), (80, m), (81, .int .i64 (len y)), (82, .int .i64 T)] ∧ L = [bx d 41 [.int .i64 0, .int .i64 0, .slice none 0 0, .slice none 0 0], bx f 77 [.int .i64 a.params, .int .i64 a.result, c, b, j, .int .i64 a.params, .int .i64 a.result, p, m], l, z, B]) ⟨_, _, _, rfl, nD _ _ rfl, rfl⟩ ?_
     rintro _ _ _ ⟨S, T, aJ, rfl, rfl, rfl⟩ bO hp bP
     replace hp : ov.bd44 y S T = some bO := hp
     refine sr <| tv (blt rfl rfl) rfl <| nz <| nv fun cI bQ => cD rfl hp (fun bR hp => ?_) fun bR hp => ?_
     · refine sk bQ rfl <| nv fun cJ bS => nC <| sr <| ti u39 i50 (M).ro hp rfl rfl rfl rfl ?_
       rintro U cK cL _ hp ⟨aK, aL, aM, rfl, bU, aN, bV⟩ bW
       exact tv (lR (ds := [aK, aL, .int .i64 U.term.kind, .int .i64 U.term.arg, aM]) o5 (Src.at_ 4 rfl) bW 0 rfl rfl rfl) rfl <| tl i50 rfl fun cM => tS 0 m50 rfl rfl [aK, aL, .int .i64 U.term.kind, .int .i64 U.term.arg, aM] rfl (oc (bU).one (oc (aN).one (oc rfl (oc rfl (oc (bV).one oc0))))) rfl rfl <| nz <| nG <| tm rfl <| tv (fa ou rfl) rfl <| tv (lb s48 0 rfl rfl rfl) rfl <| tv (ln u48 aN rfl) rfl <| tv (bad rfl rfl) rfl <| tv (bad rfl rfl) rfl <| ta rfl <| nl <| tg bS <| nG <| tv (bad rfl rfl) rfl <| tm rfl <| nl <| gk hp [1, 2, 3, 4, 5] ⟨_, _, _, rfl, nD _ _ rfl, rfl⟩
     · exact nN <| jn [0, 1, 2, 3, 4] (bB (nJ hp bP))
    refine lp bq [0, 2, 3, 4, 5] rfl (fun s e L => ∃ N O P an ao ap aq aO, s = (N, O, P) ∧ SlO 3 (nt .i64) N an ao ∧ SlO 50 nW O ap aq ∧ e = ovr aO [(4, .pointer (some ⟨d, 0, none⟩)), (8, .pointer (some ⟨f, 0, none⟩)), (64, .int .i64 (len a.blocks)), (65, .int .i64 P)] ∧ L = [bx d 41 [.int .i64 0, .int .i64 0, .slice none 0 0, .slice none 0 0], bx f 77 [.int .i64 a.params, .int .i64 a.result, c, b, j, .int .i64 a.params, .int .i64 a.result, an, ap], l, ao, aq]) ⟨_, _, _, o, K, aj, ak, _, rfl, aF, bl, nD _ _ rfl, rfl⟩ ?_
    rintro _ _ _ ⟨N, O, P, an, ao, ap, aq, aO, rfl, aP, aQ, rfl, rfl⟩ bX hp aR
    replace hp : ov.bd35 a ah N O P = some bX := hp
    refine sr <| tv (blt rfl rfl) rfl <| nz <| nv fun cN bY => cD rfl hp (fun bZ hp => ?_) fun bZ hp => ?_
    · refine sk bY rfl <| nv fun cO b0 => nC <| sr <| tm rfl <| ta rfl <| nz <| sr <| tm rfl <| tm rfl <| tp [1, 3, 4, 0, 2] [_,_,_,_,_] rfl rfl <| bE hp fun cP hy76 hp => tc 3 [_,_] rfl c30 (fun _ => wF (a2 := (⟨(⟨a.params, a.result, a.regs, a.blocks⟩ : nA), ah, (⟨a.params, a.result, N, O⟩ : nA)⟩ : pB)) (a16 := P) (Q.mono nw) (I.mono nw) (aE.ro.mono (subB 1 rfl)) aP aQ hy76) rfl ?_
      rintro _ _ ⟨b1, b2, b3, b4, b5, b6, rfl, rfl, aS, b7, b8⟩
      refine ta rfl <| nz <| sr <| tm rfl <| tv (pI pp aS rfl) rfl <| nz <| cD rfl hp (fun b9 hp => ?_) fun b9 hp => ?_
      · refine sr <| tv (oh (vs := []) (ds := [.int .i64 0, .int .i64 0, .slice none 0 0, .slice none 0 0]) rfl (fun w => by kernel_rfl)) rfl <| tm rfl <| tS 4 m41 rfl rfl [.int .i64 0, .int .i64 0, .slice none 0 0, .slice none 0 0] rfl (oc rfl (oc rfl (oc rfl (oc rfl oc0)))) rfl rfl <| ta rfl <| nz <| nH <| W.new0 <| W.new0 ?_
        obtain rfl := nJ hp aR
        obtain rfl := Option.some.inj aG
        exact fun w hw => retC2 hw rfl rfl rfl n9 6 rfl rfl ⟨(.slice none 0 0), ([] : FP), (.slice none 0 0), ([] : FP), b1, b2, rfl, rfl, (SlO.nil 3), (SlO.nil 50), aS⟩ (hw.pickA [1, 0, 2] rfl)
      · exact sk b0 rfl <| nG <| tv (bad rfl rfl) rfl <| tm rfl <| nl <| gk hp [4, 1, 5, 2, 3] ⟨_, _, _, b3, b4, b5, b6, _, rfl, b7, b8, nD _ _ rfl, rfl⟩
    · exact nN <| jn [0, 1, 2, 3, 4] (br aP aQ (nJ hp aR))
   refine W.new0 <| lp bh [6, 4, 1, 3, 2, 0] rfl (fun s e L => ∃ V J ar au aT, s = (V, J) ∧ SlO 50 nW V ar au ∧ e = ovr aT [(4, .pointer (some ⟨d, 0, none⟩)), (7, .pointer (some ⟨q, 0, none⟩)), (8, .pointer (some ⟨f, 0, none⟩)), (42, b), (43, .int .i64 (len a.blocks)), (44, .int .i64 J)] ∧ L = [bx d 41 [.int .i64 0, .int .i64 0, .slice none 0 0, .slice none 0 0], bx q 41 [.int .i64 a.params, .int .i64 a.result, c, b], bx f 77 [.int .i64 a.params, .int .i64 a.result, c, b, j, .int .i64 a.params, .int .i64 a.result, o, ar], l, K, au]) ⟨_, _, (.slice none 0 0), ([] : FP), _, rfl, (SlO.nil 50), nD _ _ rfl, rfl⟩ ?_
   rintro _ _ _ ⟨V, J, ar, au, aT, rfl, X, rfl, rfl⟩ aU hp ca
   replace hp : ov.bd26 a V J = some aU := hp
   refine sr <| tv (blt rfl rfl) rfl <| nz <| nv fun cQ cb => cD rfl hp (fun cc hp => ?_) fun cc hp => ?_
   · refine sk cb rfl <| nv fun cd ce => ?_
     have av {aV aw ax cf} (cg : SlO 50 nW aV aw ax) (hp : ov.jn89 J aV = some aU) : ∀ w, St E H [bx d 41 [.int .i64 0, .int .i64 0, .slice none 0 0, .slice none 0 0], bx q 41 [.int .i64 a.params, .int .i64 a.result, c, b], bx f 77 [.int .i64 a.params, .int .i64 a.result, c, b, j, .int .i64 a.params, .int .i64 a.result, o, aw], l, K, ax] w → cd (ovr cf [(4, .pointer (some ⟨d, 0, none⟩)), (7, .pointer (some ⟨q, 0, none⟩)), (8, .pointer (some ⟨f, 0, none⟩)), (42, b), (43, .int .i64 (len a.blocks)), (44, .int .i64 J)]) w := by
      exact tg ce <| nG <| tv (bad rfl rfl) rfl <| tm rfl <| nl <| gk hp [0, 1, 2, 3, 4, 5] ⟨_, _, aw, ax, _, rfl, cg, nD _ _ rfl, rfl⟩
     refine nC <| sr <| ti u39 i50 I hp rfl rfl rfl rfl ?_
     rintro n cR cS _ hp ⟨Y, Z, aa, rfl, ay, az, aA⟩ ci
     refine tv (lR (ds := [Y, Z, .int .i64 n.term.kind, .int .i64 n.term.arg, aa]) o5 sH ci 0 rfl rfl rfl) rfl <| tl i50 rfl fun cj => tS 0 m50 rfl rfl [Y, Z, .int .i64 n.term.kind, .int .i64 n.term.arg, aa] rfl (oc (ay).one (oc (az).one (oc rfl (oc rfl (oc (aA).one oc0))))) rfl rfl <| nz <| ch mix [bx cj 50 [Y, Z, .int .i64 n.term.kind, .int .i64 n.term.arg, aa], bx d 41 [.int .i64 0, .int .i64 0, .slice none 0 0, .slice none 0 0], bx q 41 [.int .i64 a.params, .int .i64 a.result, c, b], l, K] (nq 0 rfl (nq 1 rfl (nq 2 rfl (nq 4 rfl (nq 5 rfl ns))))) <| hv 0 rfl mv (by kernel_rfl) rfl <| hv 1 rfl mv (by kernel_rfl) rfl <| hv 2 rfl (nE rfl) (by kernel_rfl) rfl <| hv 3 rfl (fa pm rfl) (by kernel_rfl) rfl <| hv 4 rfl (fa n6 rfl) (by kernel_rfl) rfl <| hv 6 rfl (lAG (ds := [Y, Z, .int .i64 n.term.kind, .int .i64 n.term.arg, aa]) o5 0 rfl rfl rfl rfl) (by kernel_rfl) rfl <| nU [5, 7] (by kernel_rfl) (by simp) (nF ⟨_, rfl, fun cT ck => ?_⟩ (nF ⟨_, rfl, fun cU cl => ?_⟩ nV))
     · refine tv (lb s39 3 rfl rfl rfl) rfl <| hk ck (nq 0 rfl (nq 1 rfl (nq 2 rfl (nq 4 rfl (nq 5 rfl ns))))) <| ho 7 rfl (by kernel_rfl) fun cV cm => bE hp fun i hy95 hp => tc 0 [_,_,_,_,_,_,_] rfl c29 (fun _ => tX (a1 := n) (ay.mono nw) (az.mono nw) (aA.mono nw) hy95) rfl ?_
       rintro _ _ ⟨D, ab, F, ac, G, ad, rfl, rfl, ae, af, ag⟩
       exact hk cm (nq 3 rfl (nq 4 rfl (nq 5 rfl (nq 7 rfl (nq 8 rfl ns))))) <| ho 8 rfl (by kernel_rfl) fun cW cn => tbs [(0, .agg #[D, F, .int .i64 i.term.kind, .int .i64 i.term.arg, G])] [D, F, .int .i64 i.term.kind, .int .i64 i.term.arg, G] u39 i50 (by kernel_rfl) rfl rfl rfl rfl fun aW => hk cn (nq 4 rfl (nq 5 rfl (nq 6 rfl (nq 8 rfl (nq 9 rfl ns))))) <| ho 9 rfl (by kernel_rfl) fun cX co => tp [10, 0, 1, 2, 3, 4, 5, 6, 7, 8, 9] [_,_,_,_,_,_,_,_,_,_,_] rfl rfl <| tf 2 3 [_,_,_,_,_,_,_,_,_] rfl <| tp2 u39 i50 X hp (RepL.to (G' := ab ++ (ac ++ (ad))) (RepL.cons (k := nW) (x := i) ⟨_, _, _, _, _, _, rfl, rfl, ae, af, ag⟩ RepL.nil) (by simp)) rfl rfl rfl rfl rfl rfl rfl rfl rfl fun aX aY aZ t hp => hk co (nq 1 rfl (nq 2 rfl (nq 3 rfl (nq 5 rfl (nq 6 rfl ns))))) <| hv 10 rfl (nE rfl) (by kernel_rfl) rfl <| hv 11 rfl (fa pm rfl) (by kernel_rfl) rfl <| hv 12 rfl (fa n6 rfl) (by kernel_rfl) rfl <| ho 13 rfl (by kernel_rfl) fun cY cp => ts 4 m39 rfl rfl t.o1 rfl <| hk cp (nq 1 rfl (nq 2 rfl (nq 3 rfl (nq 5 rfl (nq 6 rfl ns))))) <| hz (by kernel_rfl) <| jn [2, 3, 4, 5, 6, 0] (av t hp)
     · refine bE hp fun i hy106 hp => tc 0 [_,_,_,_,_,_,_] rfl c29 (fun _ => tX (a1 := n) (ay.mono nw) (az.mono nw) (aA.mono nw) hy106) rfl ?_
       rintro _ _ ⟨D, ab, F, ac, G, ad, rfl, rfl, ae, af, ag⟩
       refine hk cl (nq 3 rfl (nq 4 rfl (nq 5 rfl (nq 7 rfl (nq 8 rfl ns))))) <| nU [5, 8] (by kernel_rfl) (by simp) (nF ⟨_, rfl, fun cZ cq => ?_⟩ (nF ⟨_, rfl, fun c0 cr => ?_⟩ nV))
       · exact tv (lb s39 6 rfl rfl rfl) rfl <| hk cq (nq 3 rfl (nq 4 rfl (nq 5 rfl (nq 7 rfl (nq 8 rfl ns))))) <| ho 8 rfl (by kernel_rfl) fun c1 cs => tbs [(0, .agg #[D, F, .int .i64 i.term.kind, .int .i64 i.term.arg, G])] [D, F, .int .i64 i.term.kind, .int .i64 i.term.arg, G] u39 i50 (by kernel_rfl) rfl rfl rfl rfl fun aW => hk cs (nq 4 rfl (nq 5 rfl (nq 6 rfl (nq 8 rfl (nq 9 rfl ns))))) <| ho 9 rfl (by kernel_rfl) fun c2 ct => tp [10, 0, 1, 2, 3, 4, 5, 6, 7, 8, 9] [_,_,_,_,_,_,_,_,_,_,_] rfl rfl <| tf 2 3 [_,_,_,_,_,_,_,_,_] rfl <| tp2 u39 i50 X hp (RepL.to (G' := ab ++ (ac ++ (ad))) (RepL.cons (k := nW) (x := i) ⟨_, _, _, _, _, _, rfl, rfl, ae, af, ag⟩ RepL.nil) (by simp)) rfl rfl rfl rfl rfl rfl rfl rfl rfl fun aX aY aZ t hp => hk ct (nq 1 rfl (nq 2 rfl (nq 3 rfl (nq 5 rfl (nq 6 rfl ns))))) <| hv 10 rfl (nE rfl) (by kernel_rfl) rfl <| hv 11 rfl (fa pm rfl) (by kernel_rfl) rfl <| hv 12 rfl (fa n6 rfl) (by kernel_rfl) rfl <| ho 13 rfl (by kernel_rfl) fun c3 cu => ts 4 m39 rfl rfl t.o1 rfl <| hk cu (nq 1 rfl (nq 2 rfl (nq 3 rfl (nq 5 rfl (nq 6 rfl ns))))) <| hz (by kernel_rfl) <| jn [2, 3, 4, 5, 6, 0] (av t hp)
       · exact tbs [(0, .agg #[D, F, .int .i64 i.term.kind, .int .i64 i.term.arg, G])] [D, F, .int .i64 i.term.kind, .int .i64 i.term.arg, G] u39 i50 (by kernel_rfl) rfl rfl rfl rfl fun aW => hk cr (nq 4 rfl (nq 5 rfl (nq 6 rfl (nq 8 rfl (nq 9 rfl ns))))) <| ho 5 rfl (by kernel_rfl) fun c4 cv => tv (lb s39 7 rfl rfl rfl) rfl <| hk cv (nq 4 rfl (nq 5 rfl (nq 6 rfl (nq 8 rfl (nq 9 rfl ns))))) <| ho 9 rfl (by kernel_rfl) fun c5 cw => tp [10, 0, 1, 2, 3, 4, 5, 6, 7, 8, 9] [_,_,_,_,_,_,_,_,_,_,_] rfl rfl <| tf 2 3 [_,_,_,_,_,_,_,_,_] rfl <| tp2 u39 i50 X hp (RepL.to (G' := ab ++ (ac ++ (ad))) (RepL.cons (k := nW) (x := i) ⟨_, _, _, _, _, _, rfl, rfl, ae, af, ag⟩ RepL.nil) (by simp)) rfl rfl rfl rfl rfl rfl rfl rfl rfl fun aX aY aZ t hp => hk cw (nq 1 rfl (nq 2 rfl (nq 3 rfl (nq 5 rfl (nq 6 rfl ns))))) <| hv 10 rfl (nE rfl) (by kernel_rfl) rfl <| hv 11 rfl (fa pm rfl) (by kernel_rfl) rfl <| hv 12 rfl (fa n6 rfl) (by kernel_rfl) rfl <| ho 13 rfl (by kernel_rfl) fun c6 cx => ts 4 m39 rfl rfl t.o1 rfl <| hk cx (nq 1 rfl (nq 2 rfl (nq 3 rfl (nq 5 rfl (nq 6 rfl ns))))) <| hz (by kernel_rfl) <| jn [2, 3, 4, 5, 6, 0] (av t hp)
   · exact nN <| jn [0, 1, 2, 3, 4, 5] (bj X (nJ hp ca))
/-! ### fettle/fettlelaw05.Ints -/
abbrev qq.R (r : Bool) (v : Value) (A : List FP) : Prop := .bool r = v ∧ A = []
def qq.nx11  : Option Bool :=
  some true
def qq.bd11 (a1 : List Int) (a4 : List Int) (a : Int) : Option (Ex (Ex Bool Unit) Int) :=
  if a < (len a1) then
    (idx a1 a).bind fun b =>
    (idx a4 a).bind fun c =>
    if ¬ b = c then
      some (.ret (.ret false))
    else
      some (.go (w64 (a + 1)))
  else
    some (.ret (.go ()))
def qq (a1 : List Int) (a4 : List Int) : Option Bool :=
  if ¬ (len a1) = (len a4) then
    some false
  else
    (whl (fun (s : Int) => qq.bd11 a1 a4 s) nB 0).bind fun z =>
    match z with
      | .ret r => some r
      | .go p => qq.nx11
theorem wG {E : World} {H : FP} {w : World} {a1 : List Int} {a4 : List Int} {v2 : Value} {a : Value} {r : Bool} (b : SlI (nt .i64) H a1 v2) (c : SlI (nt .i64) H a4 a) (hp : qq a1 a4 = some r) (hst : St E H [] w) :
    Fn Try.prog 20 #[v2, a] w fun v w' => ∃ A, qq.R r v A ∧ St E H A w' := by
 refine fb 26 [.tmp 4] Try.func20 rfl rfl rfl rfl rfl hst <| sr <| ta rfl <| nz <| nv fun F h => sr <| tm rfl <| tv (ln u25 b rfl) rfl <| tm rfl <| tv (ln u25 c rfl) rfl <| tv (bne rfl rfl) rfl <| nz <| cD rfl hp (fun i hp => ?_) fun i hp => ?_
 · exact sr <| ta rfl <| nz <| nH <| rt hp [] ⟨rfl, rfl⟩
 · refine sk h rfl <| nv fun j k => sr <| ta rfl <| nz <| nC <| bE hp fun l m d => ?_
   have n {o} (p : .go () = l) : ∀ w, St E H [] w → j (ovr o []) w := by
    subst p
    replace hp : qq.nx11 = some r := d
    exact tg k <| sr <| ta rfl <| nz <| nH <| rt hp [] ⟨rfl, rfl⟩
   refine lp m [] rfl (fun s e L => ∃ f, e = ovr f [(0, v2), (1, a), (5, .int .i64 s)] ∧ L = []) ⟨_, nD _ _ rfl, rfl⟩ ?_
   rintro q _ _ ⟨f, rfl, rfl⟩ t hp g
   replace hp : qq.bd11 a1 a4 q = some t := hp
   refine nv fun G u => sr <| tm rfl <| tm rfl <| tv (ln u25 b rfl) rfl <| tv (blt rfl rfl) rfl <| nz <| cD rfl hp (fun x hp => ?_) fun x hp => ?_
   · refine sk u rfl <| nv fun I y => nC <| nv fun J z => cq mix (by kernel_rfl) <| qv mv rfl <| qv mv rfl <| qi u25 i3 b hp rfl rfl rfl rfl ?_
     rintro K M N _ hp rfl B
     refine qv (lr s3 sH B 0 rfl rfl) rfl <| qv mv rfl <| qv mv rfl <| qi u25 i3 c hp rfl rfl rfl rfl ?_
     rintro O P Q _ hp rfl C
     refine qv (lr s3 sH C 0 rfl rfl) rfl <| qv (bne rfl rfl) rfl <| QL.nil <| tg z <| cD rfl hp (fun D hp => ?_) fun D hp => ?_
     · refine sr <| ta rfl <| nz <| nH ?_
       obtain rfl := nJ hp g
       exact rt d [] ⟨rfl, rfl⟩
     · exact sk y rfl <| nG <| tm rfl <| tv (bad rfl rfl) rfl <| ta rfl <| nl <| gk hp [] ⟨_, nD _ _ rfl, rfl⟩
   · exact nN <| jn [] (n (nJ hp g))
/-! ### fettle/fettlelaw14.up -/
abbrev rc.R (r : Bool) (v : Value) (A : List FP) : Prop := .bool r = v ∧ A = []
def rc  : Option Bool :=
  (n7 ([(⟨1, 2⟩ : nK), (⟨2, 1⟩ : nK)]) 3).bind fun c =>
  (ov (⟨[]⟩ : nT) 0).bind fun g =>
  (if c.2.2 = GErr.no ∧ g.2 = (GErr.code 1) then (qq c.2.1 ([2])).bind fun h =>
  some h else some false).bind fun i =>
  (if i = true ∧ (len c.1) = 3 then (idx c.1 0).bind fun d =>
  some (decide (d.a = 3 ∧ d.b = 2)) else some false).bind fun j =>
  (if j = true then (idx c.1 1).bind fun e =>
  some (decide (e.a = 2 ∧ e.b = 1)) else some false).bind fun k =>
  (if k = true then (idx c.1 2).bind fun f =>
  some (decide (f.a = 1 ∧ f.b = 3)) else some false).bind fun l =>
  some l
set_option maxHeartbeats 4000000 in
theorem wH {E : World} {H : FP} {w : World} {r : Bool}  (hp : rc = some r) (hst : St E H [] w) :
    Fn Try.prog 7 #[] w fun v w' => ∃ A, rc.R r v A ∧ St E H A w' := by
 refine fb 57 [.tmp 0] Try.func7 rfl rfl rfl rfl rfl hst <| sr <| ta rfl <| nz <| sr <| tv (oh (vs := [(0, .int .i64 1), (1, .int .i64 2)]) (ds := [.int .i64 1, .int .i64 2]) rfl (fun w => by kernel_rfl)) rfl <| tv (oh (vs := [(0, .int .i64 2), (1, .int .i64 1)]) (ds := [.int .i64 2, .int .i64 1]) rfl (fun w => by kernel_rfl)) rfl <| tbs [(0, .agg #[.int .i64 1, .int .i64 2]), (1, .agg #[.int .i64 2, .int .i64 1])] [.int .i64 1, .int .i64 2, .int .i64 2, .int .i64 1] u22 i31 (by kernel_rfl) rfl rfl rfl rfl fun az => tf 1 0 [_,_] rfl <| TL.litOwn (n := 2) (xs := [(⟨1, 2⟩ : nK), (⟨2, 1⟩ : nK)]) (RepL.to (RepL.cons (k := kPair) (x := (⟨1, 2⟩ : nK)) ⟨rfl, rfl⟩ (RepL.cons (k := kPair) (x := (⟨2, 1⟩ : nK)) ⟨rfl, rfl⟩ RepL.nil)) rfl) rfl rfl (ltb rfl) fun m Q => bE hp fun B hy1 hp => tc 0 [_] rfl c8 (fun _ => sK (a1 := [(⟨1, 2⟩ : nK), (⟨2, 1⟩ : nK)]) (a4 := 3) (Q.ro.mono (subB 0 rfl)) hy1) rfl ?_
 rintro _ _ ⟨z, o, S, p, aA, q, rfl, rfl, C, T, U⟩
 refine tm rfl <| tv (xt rfl rfl) rfl <| tv (xt rfl rfl) rfl <| tv (xt rfl rfl) rfl <| ta rfl <| ta rfl <| ta rfl <| nz <| sr <| tv (oh (vs := []) (ds := [.slice none 0 0]) rfl (fun w => by kernel_rfl)) rfl <| bE hp fun c hy3 hp => tc 0 [_,_,_,_] rfl c13 (fun _ => sN (a1 := (⟨[]⟩ : nT)) (a4 := 0) ((SlI.nil (G := H) none 0).mono nw) hy3) rfl ?_
 rintro _ _ ⟨j, s, l, t, aB, u, rfl, rfl, V, W, X⟩
 refine tm rfl <| tv (xt rfl rfl) rfl <| tv (xt rfl rfl) rfl <| tl i41 rfl fun y => tS 0 m41 rfl rfl [.int .i64 c.1.params, .int .i64 c.1.result, j, l] rfl (oc rfl (oc rfl (oc (V).one (oc (W).one oc0)))) rfl rfl <| ta rfl <| nz <| sr <| tm rfl <| tv (sC pp U rfl) rfl <| tm rfl <| TL.cut 4 fun Y Z => ?_
 have F {aa} : ∀ w, St E H [bx y 41 [.int .i64 c.1.params, .int .i64 c.1.result, j, l], s, t, u, o, p, q, m] w → Y (ovr aa [(25, .bool (decide (B.2.2 = GErr.no ∧ c.2 = (GErr.code 1)))), (1, z), (2, S)]) w := by
  refine tlg Z <| tm rfl <| bE hp fun D ht41 hp => TL.cut 4 fun ab ac => ?_
  have I {ad} : ∀ w, St E H [bx y 41 [.int .i64 c.1.params, .int .i64 c.1.result, j, l], s, t, u, o, p, q, m] w → ab (ovr ad [(30, .bool D), (1, z)]) w := by
   refine tlg ac <| tm rfl <| TL.cut 4 fun ae af => ?_
   have J {ag} : ∀ w, St E H [bx y 41 [.int .i64 c.1.params, .int .i64 c.1.result, j, l], s, t, u, o, p, q, m] w → ae (ovr ag [(35, .bool (decide (D = true ∧ (len B.1) = 3))), (1, z)]) w := by
    refine tlg af <| tm rfl <| bE hp fun ah ht39 hp => TL.cut 6 fun ai aj => ?_
    have K {ak} : ∀ w, St E H [bx y 41 [.int .i64 c.1.params, .int .i64 c.1.result, j, l], s, t, u, o, p, q, m] w → ai (ovr ak [(42, .bool ah), (1, z)]) w := by
     refine tlg aj <| tm rfl <| bE hp fun al ht37 hp => TL.cut 6 fun am an => ?_
     have L {ao} : ∀ w, St E H [bx y 41 [.int .i64 c.1.params, .int .i64 c.1.result, j, l], s, t, u, o, p, q, m] w → am (ovr ao [(49, .bool al), (1, z)]) w := by
      refine tlg an <| tm rfl <| bE hp fun ap ht35 hp => TL.cut 6 fun aq ar => ?_
      have M {au} : ∀ w, St E H [bx y 41 [.int .i64 c.1.params, .int .i64 c.1.result, j, l], s, t, u, o, p, q, m] w → aq (ovr au [(56, .bool ap)]) w := by
       exact tlg ar <| ta rfl <| nz <| nH <| rt hp [] ⟨rfl, rfl⟩
      refine ifE ht35 (fun d hp => ?_) fun d hp => ?_
      · refine gy rfl (bbT d) <| tm rfl <| gy rfl (bbT d) <| ti u22 i31 (C).ro hp rfl rfl rfl rfl ?_
        rintro N aC aD _ hp rfl av
        refine gy rfl (bbT d) <| tv (lR (ds := [.int .i64 N.a, .int .i64 N.b]) qe (Src.at_ 4 rfl) av 0 rfl rfl rfl) rfl <| gy rfl (bbT d) <| tv (oh (vs := [(0, .int .i64 1), (1, .int .i64 3)]) (ds := [.int .i64 1, .int .i64 3]) rfl (fun w => by kernel_rfl)) rfl <| gy rfl (bbT d) <| tv (eqP2 pq i3 ru rY Try.underlying3 rZ rfl rfl) rfl <| tv (pT (bbT d)) rfl ?_
        obtain rfl := Option.some.inj hp
        exact nj M rfl
      · refine gn rfl (bbF d) rfl rfl <| gn rfl (bbF d) rfl rfl <| gn rfl (bbF d) rfl rfl <| gn rfl (bbF d) rfl rfl <| gn rfl (bbF d) rfl rfl <| tv (pF (bbF d)) rfl ?_
        obtain rfl := Option.some.inj hp
        exact nj M rfl
     refine ifE ht37 (fun e hp => ?_) fun e hp => ?_
     · refine gy rfl (bbT e) <| tm rfl <| gy rfl (bbT e) <| ti u22 i31 (C).ro hp rfl rfl rfl rfl ?_
       rintro O aE aF _ hp rfl aw
       refine gy rfl (bbT e) <| tv (lR (ds := [.int .i64 O.a, .int .i64 O.b]) qe (Src.at_ 4 rfl) aw 0 rfl rfl rfl) rfl <| gy rfl (bbT e) <| tv (oh (vs := [(0, .int .i64 2), (1, .int .i64 1)]) (ds := [.int .i64 2, .int .i64 1]) rfl (fun w => by kernel_rfl)) rfl <| gy rfl (bbT e) <| tv (eqP2 pq i3 ru rY Try.underlying3 rZ rfl rfl) rfl <| tv (pT (bbT e)) rfl ?_
       obtain rfl := Option.some.inj hp
       exact nj L rfl
     · refine gn rfl (bbF e) rfl rfl <| gn rfl (bbF e) rfl rfl <| gn rfl (bbF e) rfl rfl <| gn rfl (bbF e) rfl rfl <| gn rfl (bbF e) rfl rfl <| tv (pF (bbF e)) rfl ?_
       obtain rfl := Option.some.inj hp
       exact nj L rfl
    refine ifE ht39 (fun f hp => ?_) fun f hp => ?_
    · refine gy rfl (bT f) <| tm rfl <| gy rfl (bT f) <| ti u22 i31 (C).ro hp rfl rfl rfl rfl ?_
      rintro P aG aH _ hp rfl ax
      refine gy rfl (bT f) <| tv (lR (ds := [.int .i64 P.a, .int .i64 P.b]) qe (Src.at_ 4 rfl) ax 0 rfl rfl rfl) rfl <| gy rfl (bT f) <| tv (oh (vs := [(0, .int .i64 3), (1, .int .i64 2)]) (ds := [.int .i64 3, .int .i64 2]) rfl (fun w => by kernel_rfl)) rfl <| gy rfl (bT f) <| tv (eqP2 pq i3 ru rY Try.underlying3 rZ rfl rfl) rfl <| tv (pT (bT f)) rfl ?_
      obtain rfl := Option.some.inj hp
      exact nj K rfl
    · refine gn rfl (bF f) rfl rfl <| gn rfl (bF f) rfl rfl <| gn rfl (bF f) rfl rfl <| gn rfl (bF f) rfl rfl <| gn rfl (bF f) rfl rfl <| tv (pF (bF f)) rfl ?_
      obtain rfl := Option.some.inj hp
      exact nj K rfl
   by_cases g : D = true
   · exact gy rfl (bbT g) <| tm rfl <| gy rfl (bbT g) <| tv (ln u22 C.ro rfl) rfl <| gy rfl (bbT g) <| tv (beq rfl rfl) rfl <| tv (pT (bbT g)) rfl <| nj J (bAt g)
   · exact gn rfl (bbF g) rfl rfl <| gn rfl (bbF g) rfl rfl <| gn rfl (bbF g) rfl rfl <| tv (pF (bbF g)) rfl <| nj J (bAf g)
  refine ifE ht41 (fun i hp => ?_) fun i hp => ?_
  · refine gy rfl (bT i) <| tm rfl <| gy rfl (bT i) <| tbs [(0, .int .i64 2)] [.int .i64 2] u25 i3 (by kernel_rfl) rfl rfl rfl rfl fun aI => gy rfl (bT i) <| tf 1 0 [_,_,_,_,_,_,_,_,_,_] rfl <| TL.litOwn (n := 1) (xs := [2]) (RepL.to (RepL.cons (k := (nt .i64)) (x := 2) ⟨rfl, rfl⟩ RepL.nil) rfl) rfl rfl (ltb rfl) fun aJ ay => bE hp fun aK hy42 hp => tc 0 [_,_,_,_,_,_,_,_,_] rfl c20 (fun _ => wG (a1 := B.2.1) (a4 := [2]) (T.ro.mono (subB 6 rfl)) (ay.ro.mono (subB 0 rfl)) hy42) rfl ?_
    rintro _ _ ⟨rfl, rfl⟩
    refine tv (pT (bT i)) rfl <| tp [1, 2, 3, 4, 5, 6, 7, 8] [_,_,_,_,_,_,_,_] rfl rfl ?_
    obtain rfl := Option.some.inj hp
    exact nj I rfl
  · refine gn rfl (bF i) rfl rfl <| gn rfl (bF i) rfl rfl <| gn rfl (bF i) rfl rfl <| tv (pF (bF i)) rfl ?_
    obtain rfl := Option.some.inj hp
    exact nj I rfl
 by_cases h : B.2.2 = GErr.no
 · exact gy rfl (bT h) <| tm rfl <| gy rfl (bT h) <| tv (mI u63 rfl) rfl <| gy rfl (bT h) <| tv (vJ pp vK Try.underlying63 Try.underlying106 (by decide) X rfl rfl) rfl <| tv (pT (bT h)) rfl <| nj F (bAt h)
 · exact gn rfl (bF h) rfl rfl <| gn rfl (bF h) rfl rfl <| gn rfl (bF h) rfl rfl <| tv (pF (bF h)) rfl <| nj F (bAf h)
/-! ### fettle/fettleref02.Small -/
abbrev oq.R (r : Bool) (v : Value) (A : List FP) : Prop := .bool r = v ∧ A = []
def oq.nx11  : Option Bool :=
  some true
def oq.nx39 (a : Int) : Option (Ex (Ex Bool Unit) Int) :=
  some (.go (w64 (a + 1)))
def oq.nx76 (a : Int) : Option (Ex (Ex Bool Unit) Int) :=
  some (.go (w64 (a + 1)))
def oq.bd76 (b : ny) (a : Int) : Option (Ex (Ex Bool Unit) Int) :=
  if a < (len b.phis) then
    (idx b.phis a).bind fun c =>
    if (len c.args) > 300 then
      some (.ret (.ret false))
    else
      some (.go (w64 (a + 1)))
  else
    some (.ret (.go ()))
def oq.nx69 (a : Int) (b : ny) : Option (Ex (Ex Bool Unit) Int) :=
  (whl (fun (s : Int) => oq.bd76 b s) nB 0).bind fun z =>
  match z with
    | .ret r => some (.ret (.ret r))
    | .go p => oq.nx76 a
def oq.bd69 (b : ny) (a : Int) : Option (Ex (Ex Bool Unit) Int) :=
  if a < (len b.ins) then
    (idx b.ins a).bind fun c =>
    if (len c.args) > 300 then
      some (.ret (.ret false))
    else
      some (.go (w64 (a + 1)))
  else
    some (.ret (.go ()))
def oq.bd39 (c : nA) (b : Int) : Option (Ex (Ex Bool Unit) Int) :=
  if b < (len c.blocks) then
    (idx c.blocks b).bind fun a =>
    if ((len a.ins) > 300 ∨ (len a.phis) > 300) ∨ (len a.term.to) > 70 then
      some (.ret (.ret false))
    else
      (whl (fun (s : Int) => oq.bd69 a s) nB 0).bind fun z =>
      match z with
        | .ret r => some (.ret (.ret r))
        | .go p => oq.nx69 b a
  else
    some (.ret (.go ()))
def oq.bd11 (a1 : nT) (b : Int) : Option (Ex (Ex Bool Unit) Int) :=
  if b < (len a1.funcs) then
    (idx a1.funcs b).bind fun a =>
    if ((len a.blocks) > 70 ∨ (len a.regs) > 300) ∨ a.params > 1000 then
      some (.ret (.ret false))
    else
      (whl (fun (s : Int) => oq.bd39 a s) nB 0).bind fun z =>
      match z with
        | .ret r => some (.ret (.ret r))
        | .go p => oq.nx39 b
  else
    some (.ret (.go ()))
def oq (a1 : nT) : Option Bool :=
  if (len a1.funcs) > 40 then
    some false
  else
    (whl (fun (s : Int) => oq.bd11 a1 s) nB 0).bind fun z =>
    match z with
      | .ret r => some r
      | .go p => oq.nx11
set_option maxHeartbeats 4000000 in
theorem wI {E : World} {H : FP} {w : World} {a1 : nT} {v2 : Value} {r : Bool} (D : SlI oB H a1.funcs v2) (hp : oq a1 = some r) (hst : St E H [] w) :
    Fn Try.prog 10 #[.agg #[v2]] w fun v w' => ∃ A, oq.R r v A ∧ St E H A w' := by
 refine fb 99 [.tmp 2] Try.func10 rfl rfl rfl rfl rfl hst <| sr <| tb [v2] rfl rfl fun c => ta rfl <| nz <| nv fun bi Y => sr <| tv (fa oS rfl) rfl <| tv (lb s33 0 rfl rfl rfl) rfl <| tv (ln u33 D rfl) rfl <| tv (bgt rfl rfl) rfl <| nz <| cD rfl hp (fun Z hp => ?_) fun Z hp => ?_
 · exact sr <| ta rfl <| nz <| nH <| rt hp [] ⟨rfl, rfl⟩
 · refine sk Y rfl <| nv fun aa ab => sr <| ta rfl <| nz <| nC <| bE hp fun ac ad t => ?_
   have ae {af} (ag : .go () = ac) : ∀ w, St E H [] w → aa (ovr af []) w := by
    subst ag
    replace hp : oq.nx11 = some r := t
    exact tg ab <| sr <| ta rfl <| nz <| nH <| rt hp [] ⟨rfl, rfl⟩
   refine lp ad [0] rfl (fun s e L => ∃ G, e = ovr G [(1, .pointer (some ⟨c, 0, none⟩)), (3, .int .i64 s)] ∧ L = [bx c 35 [v2]]) ⟨_, nD _ _ rfl, rfl⟩ ?_
   rintro g _ _ ⟨G, rfl, rfl⟩ I hp u
   replace hp : oq.bd11 a1 g = some I := hp
   refine nv fun bj ah => sr <| tm rfl <| tv (fa oS rfl) rfl <| tv (lb s33 0 rfl rfl rfl) rfl <| tv (ln u33 D rfl) rfl <| tv (blt rfl rfl) rfl <| nz <| cD rfl hp (fun ai hp => ?_) fun ai hp => ?_
   · refine sk ah rfl <| nv fun aj ak => nC <| sr <| tv (fa oS rfl) rfl <| tv (lb s33 0 rfl rfl rfl) rfl <| tm rfl <| ti u33 i41 D hp rfl rfl rfl rfl ?_
     rintro a bk bl _ hp ⟨j, k, rfl, J, x⟩ al
     refine tv (lR (ds := [.int .i64 a.params, .int .i64 a.result, j, k]) n9 sH al 0 rfl rfl rfl) rfl <| tl i41 rfl fun d => tS 0 m41 rfl rfl [.int .i64 a.params, .int .i64 a.result, j, k] rfl (oc rfl (oc rfl (oc (J).one (oc (x).one oc0)))) rfl rfl <| nz <| nv fun bm am => sr <| tv (fa n6 rfl) rfl <| tv (lb s39 0 rfl rfl rfl) rfl <| tv (ln u39 x rfl) rfl <| tv (bgt rfl rfl) rfl <| tm rfl <| TL.cut 5 fun an ao => ?_
     have K {ap} : ∀ w, St E H [bx d 41 [.int .i64 a.params, .int .i64 a.result, j, k], bx c 35 [v2]] w → an (ovr ap [(34, .bool (decide ((len a.blocks) > 70 ∨ (len a.regs) > 300))), (1, .pointer (some ⟨c, 0, none⟩)), (3, .int .i64 g), (4, .pointer (some ⟨d, 0, none⟩))]) w := by
      refine tlg ao <| tm rfl <| TL.cut 4 fun aq ar => ?_
      have M {au} : ∀ w, St E H [bx d 41 [.int .i64 a.params, .int .i64 a.result, j, k], bx c 35 [v2]] w → aq (ovr au [(39, .bool (decide (((len a.blocks) > 70 ∨ (len a.regs) > 300) ∨ a.params > 1000))), (1, .pointer (some ⟨c, 0, none⟩)), (3, .int .i64 g), (4, .pointer (some ⟨d, 0, none⟩))]) w := by
       refine tlg ar <| nz <| cD rfl hp (fun av hp => ?_) fun av hp => ?_
       · refine sr <| ta rfl <| nz <| nH ?_
         obtain rfl := nJ hp u
         exact rt t [] ⟨rfl, rfl⟩
       · refine sk am rfl <| sr <| ta rfl <| nz <| nC <| bE hp fun aw ax y => ?_
         have ay {az} (aA : .go () = aw) : ∀ w, St E H [bx c 35 [v2]] w → aj (ovr az [(1, .pointer (some ⟨c, 0, none⟩)), (3, .int .i64 g)]) w := by
          subst aA
          replace hp : oq.nx39 g = some I := y
          exact tg ak <| nG <| tm rfl <| tv (bad rfl rfl) rfl <| ta rfl <| nl <| gk hp [0] ⟨_, nD _ _ rfl, rfl⟩
         refine lp ax [1, 0] rfl (fun s e L => ∃ N, e = ovr N [(1, .pointer (some ⟨c, 0, none⟩)), (3, .int .i64 g), (4, .pointer (some ⟨d, 0, none⟩)), (5, .int .i64 s)] ∧ L = [bx c 35 [v2], bx d 41 [.int .i64 a.params, .int .i64 a.result, j, k]]) ⟨_, nD _ _ rfl, rfl⟩ ?_
         rintro n _ _ ⟨N, rfl, rfl⟩ F hp z
         replace hp : oq.bd39 a n = some F := hp
         refine nv fun bn aB => sr <| tm rfl <| tv (fa n6 rfl) rfl <| tv (lb s39 1 rfl rfl rfl) rfl <| tv (ln u39 x rfl) rfl <| tv (blt rfl rfl) rfl <| nz <| cD rfl hp (fun aC hp => ?_) fun aC hp => ?_
         · refine sk aB rfl <| nv fun aD aE => nC <| sr <| tv (fa n6 rfl) rfl <| tv (lb s39 1 rfl rfl rfl) rfl <| tm rfl <| ti u39 i50 x hp rfl rfl rfl rfl ?_
           rintro b bo bp _ hp ⟨o, p, q, rfl, B, C, O⟩ aF
           refine tv (lR (ds := [o, p, .int .i64 b.term.kind, .int .i64 b.term.arg, q]) o5 sH aF 0 rfl rfl rfl) rfl <| tl i50 rfl fun l => tS 0 m50 rfl rfl [o, p, .int .i64 b.term.kind, .int .i64 b.term.arg, q] rfl (oc (B).one (oc (C).one (oc rfl (oc rfl (oc (O).one oc0))))) rfl rfl <| nz <| nv fun bq aG => sr <| tv (fa ou rfl) rfl <| tv (lb s48 0 rfl rfl rfl) rfl <| tv (ln u48 C rfl) rfl <| tv (bgt rfl rfl) rfl <| tm rfl <| TL.cut 5 fun aH aI => ?_
           have P {aJ} : ∀ w, St E H [bx l 50 [o, p, .int .i64 b.term.kind, .int .i64 b.term.arg, q], bx c 35 [v2], bx d 41 [.int .i64 a.params, .int .i64 a.result, j, k]] w → aH (ovr aJ [(61, .bool (decide ((len b.ins) > 300 ∨ (len b.phis) > 300))), (1, .pointer (some ⟨c, 0, none⟩)), (3, .int .i64 g), (4, .pointer (some ⟨d, 0, none⟩)), (5, .int .i64 n), (6, .pointer (some ⟨l, 0, none⟩))]) w := by
            refine tlg aI <| tm rfl <| TL.cut 6 fun aK aL => ?_
            have Q {aM} : ∀ w, St E H [bx l 50 [o, p, .int .i64 b.term.kind, .int .i64 b.term.arg, q], bx c 35 [v2], bx d 41 [.int .i64 a.params, .int .i64 a.result, j, k]] w → aK (ovr aM [(68, .bool (decide (((len b.ins) > 300 ∨ (len b.phis) > 300) ∨ (len b.term.to) > 70))), (1, .pointer (some ⟨c, 0, none⟩)), (3, .int .i64 g), (4, .pointer (some ⟨d, 0, none⟩)), (5, .int .i64 n), (6, .pointer (some ⟨l, 0, none⟩))]) w := by
             refine tlg aL <| nz <| cD rfl hp (fun aN hp => ?_) fun aN hp => ?_
             · refine sr <| ta rfl <| nz <| nH ?_
               obtain rfl := nJ hp z
               obtain rfl := nJ y u
               exact rt t [] ⟨rfl, rfl⟩
             · refine sk aG rfl <| nv fun aO aP => sr <| ta rfl <| nz <| nC <| bE hp fun aQ aR S => ?_
               have aS {aT} (aU : .go () = aQ) : ∀ w, St E H [bx c 35 [v2], bx d 41 [.int .i64 a.params, .int .i64 a.result, j, k], bx l 50 [o, p, .int .i64 b.term.kind, .int .i64 b.term.arg, q]] w → aO (ovr aT [(1, .pointer (some ⟨c, 0, none⟩)), (3, .int .i64 g), (4, .pointer (some ⟨d, 0, none⟩)), (5, .int .i64 n), (6, .pointer (some ⟨l, 0, none⟩))]) w := by
                subst aU
                replace hp : oq.nx69 n b = some F := S
                refine tg aP <| sr <| ta rfl <| nz <| nC <| bE hp fun aV aW T => ?_
                have aX {aY} (aZ : .go () = aV) : ∀ w, St E H [bx c 35 [v2], bx d 41 [.int .i64 a.params, .int .i64 a.result, j, k]] w → aD (ovr aY [(1, .pointer (some ⟨c, 0, none⟩)), (3, .int .i64 g), (4, .pointer (some ⟨d, 0, none⟩)), (5, .int .i64 n)]) w := by
                 subst aZ
                 replace hp : oq.nx76 n = some F := T
                 exact tg aE <| nG <| tm rfl <| tv (bad rfl rfl) rfl <| ta rfl <| nl <| gk hp [0, 1] ⟨_, nD _ _ rfl, rfl⟩
                refine lp aW [0, 1, 2] rfl (fun s e L => ∃ U, e = ovr U [(1, .pointer (some ⟨c, 0, none⟩)), (3, .int .i64 g), (4, .pointer (some ⟨d, 0, none⟩)), (5, .int .i64 n), (6, .pointer (some ⟨l, 0, none⟩)), (8, .int .i64 s)] ∧ L = [bx c 35 [v2], bx d 41 [.int .i64 a.params, .int .i64 a.result, j, k], bx l 50 [o, p, .int .i64 b.term.kind, .int .i64 b.term.arg, q]]) ⟨_, nD _ _ rfl, rfl⟩ ?_
                rintro a0 _ _ ⟨U, rfl, rfl⟩ a2 hp V
                replace hp : oq.bd76 b a0 = some a2 := hp
                refine nv fun br a3 => sr <| tm rfl <| tv (fa oL rfl) rfl <| tv (lb s47 2 rfl rfl rfl) rfl <| tv (ln u47 B rfl) rfl <| tv (blt rfl rfl) rfl <| nz <| cD rfl hp (fun a4 hp => ?_) fun a4 hp => ?_
                · refine sk a3 rfl <| nv fun bs a5 => nC <| sr <| tv (fa oL rfl) rfl <| tv (lb s47 2 rfl rfl rfl) rfl <| tm rfl <| ti u47 i70 B hp rfl rfl rfl rfl ?_
                  rintro bt bu bv _ hp ⟨bw, rfl, a6⟩ a7
                  refine tv (fa p5 rfl) rfl <| tv (lr s25 sH a7 1 rfl rfl) rfl <| tv (ln u25 a6 rfl) rfl <| tv (bgt rfl rfl) rfl <| nz <| cD rfl hp (fun a8 hp => ?_) fun a8 hp => ?_
                  · refine sr <| ta rfl <| nz <| nH ?_
                    obtain rfl := nJ hp V
                    obtain rfl := nJ T z
                    obtain rfl := nJ y u
                    exact rt t [] ⟨rfl, rfl⟩
                  · exact sk a5 rfl <| nG <| tm rfl <| tv (bad rfl rfl) rfl <| ta rfl <| nl <| gk hp [0, 1, 2] ⟨_, nD _ _ rfl, rfl⟩
                · exact nN <| jn [0, 1] (aX (nJ hp V))
               refine lp aR [1, 2, 0] rfl (fun s e L => ∃ W, e = ovr W [(1, .pointer (some ⟨c, 0, none⟩)), (3, .int .i64 g), (4, .pointer (some ⟨d, 0, none⟩)), (5, .int .i64 n), (6, .pointer (some ⟨l, 0, none⟩)), (7, .int .i64 s)] ∧ L = [bx c 35 [v2], bx d 41 [.int .i64 a.params, .int .i64 a.result, j, k], bx l 50 [o, p, .int .i64 b.term.kind, .int .i64 b.term.arg, q]]) ⟨_, nD _ _ rfl, rfl⟩ ?_
               rintro a9 _ _ ⟨W, rfl, rfl⟩ ba hp X
               replace hp : oq.bd69 b a9 = some ba := hp
               refine nv fun bz bb => sr <| tm rfl <| tv (fa ou rfl) rfl <| tv (lb s48 2 rfl rfl rfl) rfl <| tv (ln u48 C rfl) rfl <| tv (blt rfl rfl) rfl <| nz <| cD rfl hp (fun bc hp => ?_) fun bc hp => ?_
               · refine sk bb rfl <| nv fun bA be => nC <| sr <| tv (fa ou rfl) rfl <| tv (lb s48 2 rfl rfl rfl) rfl <| tm rfl <| ti u48 i52 C hp rfl rfl rfl rfl ?_
                 rintro bB bC bD _ hp ⟨bG, rfl, bf⟩ bg
                 refine tv (fa o9 rfl) rfl <| tv (lr s25 sH bg 2 rfl rfl) rfl <| tv (ln u25 bf rfl) rfl <| tv (bgt rfl rfl) rfl <| nz <| cD rfl hp (fun bh hp => ?_) fun bh hp => ?_
                 · refine sr <| ta rfl <| nz <| nH ?_
                   obtain rfl := nJ hp X
                   obtain rfl := nJ S z
                   obtain rfl := nJ y u
                   exact rt t [] ⟨rfl, rfl⟩
                 · exact sk be rfl <| nG <| tm rfl <| tv (bad rfl rfl) rfl <| ta rfl <| nl <| gk hp [0, 1, 2] ⟨_, nD _ _ rfl, rfl⟩
               · exact nN <| jn [0, 1, 2] (aS (nJ hp X))
            by_cases f : (len b.ins) > 300 ∨ (len b.phis) > 300
            · exact gn rfl (bT f) rfl rfl <| gn rfl (bT f) rfl rfl <| gn rfl (bT f) rfl rfl <| gn rfl (bT f) rfl rfl <| gn rfl (bT f) rfl rfl <| tv (pT (bT f)) rfl <| nj Q (bOt f)
            · exact gy rfl (bF f) <| tv (fa oP rfl) rfl <| gy rfl (bF f) <| tv (fa pf rfl) rfl <| gy rfl (bF f) <| tv (lb s25 0 rfl rfl rfl) rfl <| gy rfl (bF f) <| tv (ln u25 O rfl) rfl <| gy rfl (bF f) <| tv (bgt rfl rfl) rfl <| tv (pF (bF f)) rfl <| nj Q (bOf f)
           by_cases h : (len b.ins) > 300
           · exact gn rfl (bT h) rfl rfl <| gn rfl (bT h) rfl rfl <| gn rfl (bT h) rfl rfl <| gn rfl (bT h) rfl rfl <| tv (pT (bT h)) rfl <| nj P (bOt h)
           · exact gy rfl (bF h) <| tv (fa oL rfl) rfl <| gy rfl (bF h) <| tv (lb s47 0 rfl rfl rfl) rfl <| gy rfl (bF h) <| tv (ln u47 B rfl) rfl <| gy rfl (bF h) <| tv (bgt rfl rfl) rfl <| tv (pF (bF h)) rfl <| nj P (bOf h)
         · exact nN <| jn [0] (ay (nJ hp z))
      by_cases m : (len a.blocks) > 70 ∨ (len a.regs) > 300
      · exact gn rfl (bT m) rfl rfl <| gn rfl (bT m) rfl rfl <| gn rfl (bT m) rfl rfl <| tv (pT (bT m)) rfl <| nj M (bOt m)
      · exact gy rfl (bF m) <| tv (fa py rfl) rfl <| gy rfl (bF m) <| tv (lb s3 0 rfl rfl rfl) rfl <| gy rfl (bF m) <| tv (bgt rfl rfl) rfl <| tv (pF (bF m)) rfl <| nj M (bOf m)
     by_cases i : (len a.blocks) > 70
     · exact gn rfl (bT i) rfl rfl <| gn rfl (bT i) rfl rfl <| gn rfl (bT i) rfl rfl <| gn rfl (bT i) rfl rfl <| tv (pT (bT i)) rfl <| nj K (bOt i)
     · exact gy rfl (bF i) <| tv (fa oV rfl) rfl <| gy rfl (bF i) <| tv (lb s25 0 rfl rfl rfl) rfl <| gy rfl (bF i) <| tv (ln u25 J rfl) rfl <| gy rfl (bF i) <| tv (bgt rfl rfl) rfl <| tv (pF (bF i)) rfl <| nj K (bOf i)
   · exact nN <| jn [] (ae (nJ hp u))
/-! ### fettle/check.Plain$1 -/
abbrev rJ.R (r : Bool) (v : Value) (A : List FP) : Prop := .bool r = v ∧ A = []
def rJ (a1 : ny) : Option Bool :=
  some (decide ((len a1.phis) > 0))
theorem wJ {E : World} {H : FP} {w : World} {a1 : ny} {v2 : Value} {a : Value} {b : Value} {r : Bool} (c : SlI o0 H a1.phis v2) (d : SlI oK H a1.ins a) (e : SlI (nt .i64) H a1.term.to b) (hp : rJ a1 = some r) (hst : St E H [] w) :
    Fn Try.prog 62 #[.agg #[v2, a, .int .i64 a1.term.kind, .int .i64 a1.term.arg, b]] w fun v w' => ∃ A, rJ.R r v A ∧ St E H A w' := by
 exact fb 7 [.tmp 2] Try.func62 rfl rfl rfl rfl rfl hst <| sr <| tb [v2, a, .int .i64 a1.term.kind, .int .i64 a1.term.arg, b] rfl rfl fun f => ta rfl <| nz <| sr <| tv (fa oL rfl) rfl <| tv (lb s47 0 rfl rfl rfl) rfl <| tv (ln u47 c rfl) rfl <| tv (bgt rfl rfl) rfl <| ta rfl <| nz <| nH <| rt hp [] ⟨rfl, rfl⟩
/-! ### slices.IndexFunc[[]fettle/api.Block,fettle/api.Block] -/
abbrev pX.R (r : Int) (v : Value) (A : List FP) : Prop := .int .i64 r = v ∧ A = []
def pX.nx8  : Option Int :=
  some (-1)
def pX.bd8 (a1 : List ny) (a : Int) : Option (Ex (Ex Int Unit) Int) :=
  if a < (len a1) then
    (idx a1 a).bind fun b =>
    (rJ b).bind fun c =>
    if c = true then
      some (.ret (.ret a))
    else
      some (.go (w64 (a + 1)))
  else
    some (.ret (.go ()))
def pX (a1 : List ny) : Option Int :=
  (whl (fun (s : Int) => pX.bd8 a1 s) nB 0).bind fun z =>
  match z with
    | .ret r => some r
    | .go p => pX.nx8
theorem wK {E : World} {H : FP} {w : World} {a1 : List ny} {v2 : Value} {r : Int} (b : SlI nW H a1 v2) (hp : pX a1 = some r) (hst : St E H [] w) :
    Fn Try.prog 81 #[v2, .func (.func 62) #[] #[]] w fun v w' => ∃ A, pX.R r v A ∧ St E H A w' := by
 refine fb 19 [.tmp 4] Try.func81 rfl rfl rfl rfl rfl hst <| sr <| ta rfl <| nz <| nv fun g h => sr <| tm rfl <| tv (ln u39 b rfl) rfl <| tm rfl <| nz <| nC <| bE hp fun i j c => ?_
 have k {l} (m : .go () = i) : ∀ w, St E H [] w → g (ovr l []) w := by
  subst m
  replace hp : pX.nx8 = some r := c
  exact tg h <| sr <| ta rfl <| nz <| nH <| rt hp [] ⟨rfl, rfl⟩
 refine lp j [] rfl (fun s e L => ∃ d, e = ovr d [(0, v2), (1, .func (.func 62) #[] #[]), (7, .int .i64 (len a1)), (8, .int .i64 s)] ∧ L = []) ⟨_, nD _ _ rfl, rfl⟩ ?_
 rintro n _ _ ⟨d, rfl, rfl⟩ o hp f
 replace hp : pX.bd8 a1 n = some o := hp
 refine sr <| tv (blt rfl rfl) rfl <| nz <| nv fun G p => cD rfl hp (fun q hp => ?_) fun q hp => ?_
 · refine sk p rfl <| nv fun I t => nC <| sr <| tm rfl <| ta rfl <| nz <| sr <| tm rfl <| tm rfl <| tm rfl <| ti u39 i50 b hp rfl rfl rfl rfl ?_
   rintro a J K _ hp ⟨u, x, y, rfl, z, B, C⟩ D
   refine tv (lR (ds := [u, x, .int .i64 a.term.kind, .int .i64 a.term.arg, y]) o5 sH D 0 rfl rfl rfl) rfl <| bE hp fun M hy18 hp => tcv 0 [] rfl c62 rfl (fun _ => wJ (a1 := a) (z.mono nw) (B.mono nw) (C.mono nw) hy18) rfl ?_
   rintro _ _ ⟨rfl, rfl⟩
   refine nz <| cB rfl hp (fun F hp => ?_) fun F hp => ?_
   · refine sr <| tm rfl <| ta rfl <| nz <| nH ?_
     obtain rfl := nJ hp f
     exact rt c [] ⟨rfl, rfl⟩
   · exact sk t rfl <| nG <| tv (bad rfl rfl) rfl <| tm rfl <| nl <| gk hp [] ⟨_, nD _ _ rfl, rfl⟩
 · exact nN <| jn [] (k (nJ hp f))
/-! ### slices.ContainsFunc[[]fettle/api.Block,fettle/api.Block] -/
abbrev rd.R (r : Bool) (v : Value) (A : List FP) : Prop := .bool r = v ∧ A = []
def rd (a1 : List ny) : Option Bool :=
  (pX a1).bind fun a =>
  some (decide (a ≥ 0))
theorem wL {E : World} {H : FP} {w : World} {a1 : List ny} {v2 : Value} {r : Bool} (a : SlI nW H a1 v2) (hp : rd a1 = some r) (hst : St E H [] w) :
    Fn Try.prog 61 #[v2, .func (.func 62) #[] #[]] w fun v w' => ∃ A, rd.R r v A ∧ St E H A w' := by
 refine fb 9 [.tmp 4] Try.func61 rfl rfl rfl rfl rfl hst <| sr <| ta rfl <| nz <| sr <| tm rfl <| tm rfl <| bE hp fun b hy1 hp => tc 0 [] rfl c81 (fun _ => wK (a1 := a1) (a.mono nw) hy1) rfl ?_
 rintro _ _ ⟨rfl, rfl⟩
 exact tv (bge rfl rfl) rfl <| ta rfl <| nz <| nH <| rt hp [] ⟨rfl, rfl⟩
end Go.Proofs.Ytpmcbahahjelnaa
namespace Go.Proofs.Ytpmcbahahjelnaa
open Go Go.Proofs
/-! ### fettle/check.Plain -/
abbrev pY.R (r : GErr) (v : Value) (A : List FP) : Prop := ∃ (w1 : Value) (a : FP), w1 = v ∧ A = [a] ∧ ErO 63 106 108 r w1 a
def pY.nx13  : Option GErr :=
  some GErr.no
def pY.bd13 (a1 : nT) (a : Int) : Option (Ex (Ex GErr Unit) Int) :=
  if a < (len a1.funcs) then
    (idx a1.funcs a).bind fun b =>
    (rd b.blocks).bind fun c =>
    if c = true then
      some (.ret (.ret (GErr.spot a (GErr.code 6))))
    else
      some (.go (w64 (a + 1)))
  else
    some (.ret (.go ()))
def pY (a1 : nT) : Option GErr :=
  (pD a1).bind fun a =>
  if ¬ a = GErr.no then
    some a
  else
    (whl (fun (s : Int) => pY.bd13 a1 s) nB 0).bind fun z =>
    match z with
      | .ret r => some r
      | .go p => pY.nx13
theorem wM {E : World} {H : FP} {w : World} {a1 : nT} {v2 : Value} {r : GErr} (c : SlI oB H a1.funcs v2) (hp : pY a1 = some r) (hst : St E H [] w) :
    Fn Try.prog 38 #[.agg #[v2]] w fun v w' => ∃ A, pY.R r v A ∧ St E H A w' := by
 refine fb 28 [.tmp 2] Try.func38 rfl rfl rfl rfl rfl hst <| sr <| tb [v2] rfl rfl fun M => ta rfl <| nz <| nv fun N m => sr <| tv (lA (ds := [v2]) pc 0 rfl rfl rfl rfl) rfl <| bE hp fun O hy3 hp => tc 0 [_] rfl c47 (fun _ => sL (a1 := a1) (c.mono nw) hy3) rfl ?_
 rintro _ _ ⟨n, o, rfl, rfl, f⟩
 refine ta rfl <| nz <| sr <| tm rfl <| tv (pI pp f rfl) rfl <| nz <| cD rfl hp (fun p hp => ?_) fun p hp => ?_
 · exact sr <| tm rfl <| ta rfl <| nz <| nH <| rt hp [0] ⟨n, o, rfl, rfl, f⟩
 · refine sk m rfl <| nv fun q t => sr <| tv (fa oS rfl) rfl <| tv (lb s33 1 rfl rfl rfl) rfl <| tv (ln u33 c rfl) rfl <| tm rfl <| nz <| nC <| bE hp fun u x g => ?_
   have y {z} (B : .go () = u) : ∀ w, St E H [] w → q (ovr z []) w := by
    subst B
    replace hp : pY.nx13 = some r := g
    exact tg t <| sr <| ta rfl <| nz <| nH <| W.new0 <| rt hp [0] ⟨.nilIface, ([] : FP), rfl, rfl, (ErO.nil : ErO 63 106 108 GErr.no .nilIface [])⟩
   refine lp x [] rfl (fun s e L => ∃ h, e = ovr h [(12, v2), (13, .int .i64 (len a1.funcs)), (14, .int .i64 s)] ∧ L = []) ⟨_, nD _ _ rfl, rfl⟩ ?_
   rintro a _ _ ⟨h, rfl, rfl⟩ C hp i
   replace hp : pY.bd13 a1 a = some C := hp
   refine sr <| tv (blt rfl rfl) rfl <| nz <| nv fun P D => cD rfl hp (fun F hp => ?_) fun F hp => ?_
   · refine sk D rfl <| nv fun Q G => nC <| sr <| tm rfl <| ti u33 i41 c hp rfl rfl rfl rfl ?_
     rintro b S T _ hp ⟨j, k, rfl, I, l⟩ J
     refine tv (lR (ds := [.int .i64 b.params, .int .i64 b.result, j, k]) n9 sH J 0 rfl rfl rfl) rfl <| tl i41 rfl fun U => ta rfl <| tS 0 m41 rfl rfl [.int .i64 b.params, .int .i64 b.result, j, k] rfl (oc rfl (oc rfl (oc (I).one (oc (l).one oc0)))) rfl rfl <| nz <| sr <| tv (fa n6 rfl) rfl <| tv (lb s39 0 rfl rfl rfl) rfl <| bE hp fun V hy23 hp => tc 0 [_] rfl c61 (fun _ => wL (a1 := b.blocks) (l.mono nw) hy23) rfl ?_
     rintro _ _ ⟨rfl, rfl⟩
     refine nz <| cB rfl hp (fun K hp => ?_) fun K hp => ?_
     · refine sr <| tm rfl <| tv (mI u63 rfl) rfl <| tv (oh (vs := [(0, .int .i64 a), (1, .iface 63 (.int .i64 6))]) (ds := [.int .i64 a, .iface 63 (.int .i64 6)]) rfl (fun w => by kernel_rfl)) rfl <| tb [.int .i64 a, .iface 63 (.int .i64 6)] rfl rfl fun d => TL.new0 <| tv (mI u106 rfl) rfl <| tp [1, 0, 2] [_,_,_] rfl rfl <| tf 0 2 [_,_] rfl <| ta rfl <| nz <| nH ?_
       obtain rfl := nJ hp i
       exact rt g [0] ⟨(.iface 106 (.pointer (some ⟨d, 0, none⟩))), (bx d 108 [.int .i64 a, (.iface 63 (.int .i64 6))] ++ (([] : FP))), rfl, rfl, (ErO.at_ a d (ErO.mk _ : ErO 63 106 108 (GErr.code 6) (.iface 63 (.int .i64 6)) []))⟩
     · exact sk G rfl <| nG <| tv (bad rfl rfl) rfl <| tm rfl <| nl <| gk hp [] ⟨_, nD _ _ rfl, rfl⟩
   · exact nN <| jn [] (y (nJ hp i))
/-! ### fettle/graph.ahead -/
abbrev o8.R (r : List (List Int)) (v : Value) (A : List FP) : Prop := ∃ (w1 : Value) (a : FP), w1 = v ∧ A = [a] ∧ SlO 25 (kSl 3 (nt .i64)) r w1 a
def o8.nx9  (a : List (List Int)) : Option (List (List Int)) :=
  some a
def o8.nx24 (a : Int) (b : List (List Int)) : Option (Ex (List (List Int)) (List (List Int) × Int)) :=
  some (.go (b, (w64 (a + 1))))
def o8.bd24 (e : Int) (c : List Int) (a : List (List Int)) (b : Int) : Option (Ex (List (List Int)) (List (List Int) × Int)) :=
  if b < (len c) then
    (idx c b).bind fun d =>
    (idx a d).bind fun f =>
    (cat f [e]).bind fun g =>
    some (.go ((a.set (d).toNat g), (w64 (b + 1))))
  else
    some (.ret a)
def o8.bd9 (a1 : List (List Int)) (b : List (List Int)) (a : Int) : Option (Ex (List (List Int)) (List (List Int) × Int)) :=
  if a < (len a1) then
    (idx a1 a).bind fun c =>
    (whl (fun (s : (List (List Int) × Int)) => o8.bd24 a c s.1 s.2) nB (b, 0)).bind fun z =>
    o8.nx24 a z
  else
    some (.ret b)
def o8 (a1 : List (List Int)) : Option (List (List Int)) :=
  (mkl (len a1) ([] : List Int)).bind fun a =>
  (whl (fun (s : (List (List Int) × Int)) => o8.bd9 a1 s.1 s.2) nB (a, 0)).bind fun z =>
  o8.nx9 z
set_option maxHeartbeats 4000000 in
theorem wN {E : World} {H : FP} {w : World} {a1 : List (List Int)} {v2 : Value} {r : List (List Int)} (j : SlI (kSl 3 (nt .i64)) H a1 v2) (hp : o8 a1 = some r) (hst : St E H [] w) :
    Fn Try.prog 59 #[v2] w fun v w' => ∃ A, o8.R r v A ∧ St E H A w' := by
 refine fb 37 [.tmp 2] Try.func59 rfl rfl rfl rfl rfl hst <| sr <| ta rfl <| nz <| sr <| tm rfl <| tv (ln u73 j rfl) rfl <| tk (k := (kSl 3 (nt .i64))) u73 i25 hp ⟨_, rfl, SlO.nil 3⟩ rfl rfl rfl rfl rfl rfl fun aw c G I hp => ta rfl <| nz <| nv fun J K => sr <| tm rfl <| tv (ln u73 j rfl) rfl <| tm rfl <| nz <| nC <| bE hp fun M N O => ?_
 have P {l m Q} (S : SlO 25 (kSl 3 (nt .i64)) l c m) (T : l = M) : ∀ w, St E H [m] w → J (ovr Q [(3, c)]) w := by
  subst T
  replace hp : o8.nx9 l = some r := O
  exact tg K <| sr <| tm rfl <| ta rfl <| nz <| nH <| rt hp [0] ⟨c, m, rfl, rfl, S⟩
 refine lp N [0] rfl (fun s e L => ∃ d b f t, s = (d, b) ∧ SlO 25 (kSl 3 (nt .i64)) d c f ∧ e = ovr t [(3, c), (11, v2), (12, .int .i64 (len a1)), (13, .int .i64 b)] ∧ L = [f]) ⟨_, _, G, _, rfl, I, nD _ _ rfl, rfl⟩ ?_
 rintro _ _ _ ⟨d, b, f, t, rfl, u, rfl, rfl⟩ y hp U
 replace hp : o8.bd9 a1 d b = some y := hp
 refine sr <| tv (blt rfl rfl) rfl <| nz <| nv fun ax V => cD rfl hp (fun X hp => ?_) fun X hp => ?_
 · refine sk V rfl <| nv fun Y Z => nC <| sr <| tm rfl <| ti u73 i25 j hp rfl rfl rfl rfl ?_
   rintro z ay az _ hp ⟨aa, rfl, B⟩ ab
   refine tv (lr s25 sH ab 0 rfl rfl) rfl <| ta rfl <| ta rfl <| nz <| sr <| tm rfl <| tv (ln u25 B rfl) rfl <| tm rfl <| nz <| nC <| bE hp fun ac ad ae => ?_
   have af {n o ag} (ah : SlO 25 (kSl 3 (nt .i64)) n c o) (ai : n = ac) : ∀ w, St E H [o] w → Y (ovr ag [(3, c), (11, v2), (12, .int .i64 (len a1)), (13, .int .i64 b)]) w := by
    subst ai
    replace hp : o8.nx24 b n = some y := ae
    exact tg Z <| nG <| tv (bad rfl rfl) rfl <| tm rfl <| nl <| gk hp [0] ⟨_, _, o, _, rfl, ah, nD _ _ rfl, rfl⟩
   refine lp ad [0] rfl (fun s e L => ∃ g h p C, s = (g, h) ∧ SlO 25 (kSl 3 (nt .i64)) g c p ∧ e = ovr C [(3, c), (4, .int .i64 b), (11, v2), (12, .int .i64 (len a1)), (13, .int .i64 b), (18, aa), (19, .int .i64 (len z)), (20, .int .i64 h)] ∧ L = [p]) ⟨_, _, f, _, rfl, u, nD _ _ rfl, rfl⟩ ?_
   rintro _ _ _ ⟨g, h, p, C, rfl, D, rfl, rfl⟩ aj hp ak
   replace hp : o8.bd24 b z g h = some aj := hp
   refine sr <| tv (blt rfl rfl) rfl <| nz <| nv fun aA al => cD rfl hp (fun am hp => ?_) fun am hp => ?_
   · refine sk al rfl <| nv fun aB an => nC <| sr <| ti u25 i3 B hp rfl rfl rfl rfl ?_
     rintro aC aD aE _ hp rfl ao
     refine tv (lr s3 sH ao 0 rfl rfl) rfl <| ta rfl <| nz <| nG <| tm rfl <| tm rfl <| tm rfl <| tm rfl <| bE hp fun aF q hp => TL.open_ D q ?_
     rintro aG _ aH aI i ⟨aJ, rfl, ap⟩
     exact tv (oR u73 i25 rfl rfl (oA q).1 i) rfl <| tv (lr s25 (Src.at_ 0 rfl) (Hole.cells i) 0 rfl rfl) rfl <| tm rfl <| tbs [(0, .int .i64 b)] [.int .i64 b] u25 i3 (by kernel_rfl) rfl rfl rfl rfl fun aK => tp [2, 0, 1] [_,_,_] rfl rfl <| tf 2 0 [_,_,_,_] rfl <| tp2 u25 i3 ap hp (RepL.to (RepL.cons (k := (nt .i64)) (x := b) ⟨rfl, rfl⟩ RepL.nil) rfl) rfl rfl rfl rfl rfl rfl rfl rfl rfl fun aq aL aM F hp => tv (oR u73 i25 rfl rfl (oA q).1 i) rfl <| tp [1, 0] [_,_] rfl rfl <| tsH i m25 0 rfl F.o1 rfl fun aN ar => nl <| tg an <| nG <| tv (bad rfl rfl) rfl <| tm rfl <| nl <| W.shut (a := aq) ar ⟨_, rfl, F⟩ fun au av => gk hp [0] ⟨_, _, au, _, rfl, av, nD _ _ rfl, rfl⟩
   · exact nN <| jn [0] (af D (nJ hp ak))
 · exact nN <| jn [0] (P u (nJ hp U))
/-! ### fettle/graph.kept -/
abbrev po.R (r : List Int) (v : Value) (A : List FP) : Prop := ∃ (w1 : Value) (a : FP), w1 = v ∧ A = [a] ∧ SlO 3 (nt .i64) r w1 a
def po.nx13  (a : List Int) : Option (List Int) :=
  some a
def po.jn23 (a : Int) (b : List Int) : Option (Ex (List Int) (List Int × Int)) :=
  some (.go (b, (w64 (a + 1))))
def po.bd13 (a1 : List Int) (a4 : List Int) (a7 : List Bool) (b : List Int) (a : Int) : Option (Ex (List Int) (List Int × Int)) :=
  if a < (len a1) then
    (idx a1 a).bind fun c =>
    (idx a4 a).bind fun d =>
    (idx a7 d).bind fun e =>
    if e = true then
      (cat b [c]).bind fun f =>
      po.jn23 a f
    else
      po.jn23 a b
  else
    some (.ret b)
def po (a1 : List Int) (a4 : List Int) (a7 : List Bool) : Option (List Int) :=
  if ¬ (len a1) = (len a4) then
    (pE a1).bind fun a =>
    some a
  else
    (whl (fun (s : (List Int × Int)) => po.bd13 a1 a4 a7 s.1 s.2) nB (([] : List Int), 0)).bind fun z =>
    po.nx13 z
theorem tY {E : World} {H : FP} {w : World} {a1 : List Int} {a4 : List Int} {a7 : List Bool} {v2 : Value} {b : Value} {c : Value} {r : List Int} (d : SlI (nt .i64) H a1 v2) (q : SlI (nt .i64) H a4 b) (B : SlI kBool H a7 c) (hp : po a1 a4 a7 = some r) (hst : St E H [] w) :
    Fn Try.prog 60 #[v2, b, c] w fun v w' => ∃ A, po.R r v A ∧ St E H A w' := by
 refine fb 37 [.tmp 6] Try.func60 rfl rfl rfl rfl rfl hst <| sr <| ta rfl <| nz <| nv fun ah C => sr <| tm rfl <| tv (ln u25 d rfl) rfl <| tm rfl <| tv (ln u25 q rfl) rfl <| tv (bne rfl rfl) rfl <| nz <| cD rfl hp (fun D hp => ?_) fun D hp => ?_
 · refine sr <| tm rfl <| bE hp fun ai hy4 hp => tc 0 [] rfl c28 (fun _ => p8 (a1 := a1) (d.mono nw) hy4) rfl ?_
   rintro _ _ ⟨F, G, rfl, rfl, I⟩
   exact ta rfl <| nz <| nH <| rt hp [0] ⟨F, G, rfl, rfl, I⟩
 · refine sk C rfl <| sr <| ta rfl <| nz <| nv fun J K => sr <| tm rfl <| tv (ln u25 d rfl) rfl <| tm rfl <| nz <| nC <| bE hp fun M N O => ?_
   have P {g h i Q} (S : SlO 3 (nt .i64) g h i) (T : g = M) : ∀ w, St E H [i] w → J (ovr Q [(7, h)]) w := by
    subst T
    replace hp : po.nx13 g = some r := O
    exact tg K <| sr <| tm rfl <| ta rfl <| nz <| nH <| rt hp [0] ⟨h, i, rfl, rfl, S⟩
   refine W.new0 <| lp N [0] rfl (fun s e L => ∃ f a j l t, s = (f, a) ∧ SlO 3 (nt .i64) f j l ∧ e = ovr t [(1, b), (2, c), (7, j), (17, v2), (18, .int .i64 (len a1)), (19, .int .i64 a)] ∧ L = [l]) ⟨_, _, (.slice none 0 0), ([] : FP), _, rfl, (SlO.nil 3), nD _ _ rfl, rfl⟩ ?_
   rintro _ _ _ ⟨f, a, j, l, t, rfl, m, rfl, rfl⟩ u hp U
   replace hp : po.bd13 a1 a4 a7 f a = some u := hp
   refine sr <| tv (blt rfl rfl) rfl <| nz <| nv fun aj V => cD rfl hp (fun X hp => ?_) fun X hp => ?_
   · refine sk V rfl <| nv fun Y Z => ?_
     have y {z n o aa} (ab : SlO 3 (nt .i64) z n o) (hp : po.jn23 a z = some u) : ∀ w, St E H [o] w → Y (ovr aa [(1, b), (2, c), (7, n), (17, v2), (18, .int .i64 (len a1)), (19, .int .i64 a)]) w := by
      exact tg Z <| nG <| tv (bad rfl rfl) rfl <| tm rfl <| nl <| gk hp [0] ⟨_, _, n, o, _, rfl, ab, nD _ _ rfl, rfl⟩
     refine nC <| sr <| tm rfl <| ti u25 i3 d hp rfl rfl rfl rfl ?_
     rintro p ak al _ hp rfl ac
     refine tv (lr s3 sH ac 0 rfl rfl) rfl <| ta rfl <| ta rfl <| nz <| sr <| tm rfl <| tm rfl <| tm rfl <| ti u25 i3 q hp rfl rfl rfl rfl ?_
     rintro am an ao _ hp rfl ad
     refine tv (lr s3 sH ad 0 rfl rfl) rfl <| ti u58 i4 B hp rfl rfl rfl rfl ?_
     rintro ap aq ar _ hp rfl ae
     refine tv (lr s4 sH ae 0 rfl rfl) rfl <| nz <| cB rfl hp (fun af hp => ?_) fun af hp => ?_
     · exact nG <| tm rfl <| tm rfl <| tbs [(0, .int .i64 p)] [.int .i64 p] u25 i3 (by kernel_rfl) rfl rfl rfl rfl fun au => tp [1, 0] [_,_] rfl rfl <| tf 2 0 [_,_,_] rfl <| tp2 u25 i3 m hp (RepL.to (RepL.cons (k := (nt .i64)) (x := p) ⟨rfl, rfl⟩ RepL.nil) rfl) rfl rfl rfl rfl rfl rfl rfl rfl rfl fun av aw ax ag hp => ta rfl <| nl <| jn [0] (y ag hp)
     · exact TC.skip <| jn [0] (y m hp)
   · exact nN <| jn [0] (P m (nJ hp U))
/-! ### fettle/graph.Trim -/
abbrev nZ.R (r : nA × List Int) (v : Value) (A : List FP) : Prop := ∃ (w1 : Value) (a : FP) (w2 : Value) (b : FP) (w3 : Value) (c : FP), .tuple #[.agg #[.int .i64 r.1.params, .int .i64 r.1.result, w1, w2], w3] = v ∧ A = [a, b, c] ∧ SlO 3 (nt .i64) r.1.regs w1 a ∧ SlO 50 nW r.1.blocks w2 b ∧ SlO 3 (nt .i64) r.2 w3 c
def nZ.nx28 (a1 : nA) (a : List Int) (b : List Int) (c : List ny) : Option (nA × List Int) :=
  some ((⟨a1.params, a1.result, b, c⟩ : nA), a)
def nZ.jn38 (a : Int) (b : List ny) : Option (Ex (List ny) (List ny × Int)) :=
  some (.go (b, (w64 (a + 1))))
def nZ.nx69 (b : List ny) (c : Int) (a : ny) (d : List PPhi) (e : List nO) (f : List Int) : Option (Ex (List ny) (List ny × Int)) :=
  (cat b [(⟨d, e, (⟨a.term.kind, a.term.arg, f⟩ : PTerm)⟩ : ny)]).bind fun g =>
  nZ.jn38 c g
def nZ.jn83 (a : List Int) (b : Int) (c : Int) : Option (Ex (List Int) (List Int × Int)) :=
  (cat a [c]).bind fun d =>
  some (.go (d, (w64 (b + 1))))
def nZ.bd69 (d : List Int) (e : ny) (c : List Int) (a : Int) : Option (Ex (List Int) (List Int × Int)) :=
  if a < (len e.term.to) then
    (idx e.term.to a).bind fun b =>
    if b ≥ 0 ∧ b < (len d) then
      (idx d b).bind fun f =>
      nZ.jn83 c a f
    else
      nZ.jn83 c a b
  else
    some (.ret c)
def nZ.nx60 (b : List Int) (c : List ny) (d : Int) (a : ny) (e : List PPhi) (f : List nO) : Option (Ex (List ny) (List ny × Int)) :=
  (whl (fun (s : (List Int × Int)) => nZ.bd69 b a s.1 s.2) nB (([] : List Int), 0)).bind fun z =>
  nZ.nx69 c d a e f z
def nZ.bd60 (c : ny) (d : List nO) (b : Int) : Option (Ex (List nO) (List nO × Int)) :=
  if b < (len c.ins) then
    (idx c.ins b).bind fun a =>
    (pE a.args).bind fun e =>
    (cat d [(⟨a.op, a.dst, e, a.imm, a.fn⟩ : nO)]).bind fun f =>
    some (.go (f, (w64 (b + 1))))
  else
    some (.ret d)
def nZ.nx51 (b : List Int) (c : List ny) (d : Int) (a : ny) (e : List PPhi) : Option (Ex (List ny) (List ny × Int)) :=
  (whl (fun (s : (List nO × Int)) => nZ.bd60 a s.1 s.2) nB (([] : List nO), 0)).bind fun z =>
  nZ.nx60 b c d a e z
def nZ.jn115 (a : Int) (b : List PPhi) : Option (Ex (List PPhi) (List PPhi × Int)) :=
  some (.go (b, (w64 (a + 1))))
def nZ.bd51 (e : List Bool) (f : List (List Int)) (g : Int) (b : ny) (c : List PPhi) (a : Int) : Option (Ex (List PPhi) (List PPhi × Int)) :=
  if a < (len b.phis) then
    (idx b.phis a).bind fun d =>
    (idx f g).bind fun h =>
    (po d.args h e).bind fun i =>
    (cat c [(⟨d.dst, i⟩ : PPhi)]).bind fun j =>
    nZ.jn115 a j
  else
    some (.ret c)
def nZ.bd28 (a1 : nA) (c : List Bool) (e : List (List Int)) (f : List Int) (b : List ny) (a : Int) : Option (Ex (List ny) (List ny × Int)) :=
  if a < (len a1.blocks) then
    (idx a1.blocks a).bind fun d =>
    (idx c a).bind fun g =>
    if (!g) = true then
      nZ.jn38 a b
    else
      (whl (fun (s : (List PPhi × Int)) => nZ.bd51 c e a d s.1 s.2) nB (([] : List PPhi), 0)).bind fun z =>
      nZ.nx51 f b a d z
  else
    some (.ret b)
def nZ.jn20 (a1 : nA) (b : List Bool) (c : List (List Int)) (a : List Int) (d : List Int) : Option (nA × List Int) :=
  (whl (fun (s : (List ny × Int)) => nZ.bd28 a1 b c a s.1 s.2) nB (([] : List ny), 0)).bind fun z =>
  nZ.nx28 a1 a d z
def nZ.nx15 (a1 : nA) (a : List Bool) (b : List (List Int)) (c : List Int) : Option (nA × List Int) :=
  (pE a1.regs).bind fun d =>
  nZ.jn20 a1 a b c d
def nZ.jn181 (a : Int) (b : List Int) (c : Int) : Option (Ex (List Int) (List Int × Int × Int)) :=
  some (.go (b, c, (w64 (a + 1))))
def nZ.bd15 (d : List Bool) (e : List Int) (b : List Int) (c : Int) (a : Int) : Option (Ex (List Int) (List Int × Int × Int)) :=
  if a < (len e) then
    (idx b a).bind fun g =>
    (idx d a).bind fun f =>
    if f = true then
      (idx (b.set (a).toNat (-1)) a).bind fun h =>
      nZ.jn181 a ((b.set (a).toNat (-1)).set (a).toNat c) (w64 (c + 1))
    else
      nZ.jn181 a (b.set (a).toNat (-1)) c
  else
    some (.ret b)
def nZ (a1 : nA) : Option (nA × List Int) :=
  (oM a1).bind fun c =>
  (ql a1).bind fun a =>
  (o8 c).bind fun d =>
  (mkl (len a1.blocks) (0 : Int)).bind fun b =>
  (whl (fun (s : (List Int × Int × Int)) => nZ.bd15 a b s.1 s.2.1 s.2.2) nB (b, 0, 0)).bind fun z =>
  nZ.nx15 a1 a d z
set_option maxHeartbeats 4000000 in
theorem wO {E : World} {H : FP} {w : World} {a1 : nA} {v2 : Value} {f : Value} {r : nA × List Int} (ak : SlI (nt .i64) H a1.regs v2) (ab : SlI nW H a1.blocks f) (hp : nZ a1 = some r) (hst : St E H [] w) :
    Fn Try.prog 36 #[.agg #[.int .i64 a1.params, .int .i64 a1.result, v2, f]] w fun v w' => ∃ A, nZ.R r v A ∧ St E H A w' := by
 refine Fn.bodyV (fn := Try.f36) (args := [.agg #[.int .i64 a1.params, .int .i64 a1.result, v2, f]]) E H [] 158 Try.func36 rfl rfl (leb rfl) hst <| sr <| tb [.int .i64 a1.params, .int .i64 a1.result, v2, f] rfl rfl fun J => tl i41 rfl fun b => ta rfl <| nz <| sr <| tv (lA (ds := [.int .i64 a1.params, .int .i64 a1.result, v2, f]) n9 1 rfl rfl rfl rfl) rfl <| bE hp fun bG hy1 hp => tc 0 [_,_] rfl c58 (fun _ => rI (a1 := a1) (ak.mono nw) (ab.mono nw) hy1) rfl ?_
 rintro _ _ ⟨dT, dU, rfl, rfl, bH⟩
 refine ta rfl <| nz <| sr <| tv (lA (ds := [.int .i64 a1.params, .int .i64 a1.result, v2, f]) n9 2 rfl rfl rfl rfl) rfl <| bE hp fun P hy3 hp => tc 0 [_,_,_] rfl c48 (fun _ => sa (a1 := a1) (ak.mono nw) (ab.mono nw) hy3) rfl ?_
 rintro _ _ ⟨q, n, rfl, rfl, am⟩
 refine tm rfl <| bE hp fun an hy5 hp => tc 0 [_,_,_,_] rfl c59 (fun _ => wN (a1 := bG) (bH.ro.mono (subB 1 rfl)) hy5) rfl ?_
 rintro _ _ ⟨t, o, rfl, rfl, bI⟩
 refine ta rfl <| ta rfl <| nz <| sr <| tv (fa n6 rfl) rfl <| tv (lb s39 4 rfl rfl rfl) rfl <| tv (ln u39 ab rfl) rfl <| tk (k := (nt .i64)) u25 i3 hp ⟨rfl, rfl⟩ rfl rfl rfl rfl rfl rfl fun aA h bJ a0 hp => ta rfl <| nz <| sr <| ta rfl <| nz <| nv fun bK bL => sr <| tm rfl <| tv (ln u25 a0.ro rfl) rfl <| tm rfl <| nz <| nC <| bE hp fun bM bN bO => ?_
 have bP {G i bQ} (aB : SlO 3 (nt .i64) G h i) (bR : G = bM) : ∀ w, St E H [bx J 41 [.int .i64 a1.params, .int .i64 a1.result, v2, f], bx b 41 [.int .i64 0, .int .i64 0, .slice none 0 0, .slice none 0 0], n, o, i] w → bK (ovr bQ [(1, .pointer (some ⟨J, 0, none⟩)), (2, .pointer (some ⟨b, 0, none⟩)), (5, q), (6, t), (7, h)]) w := by
  subst bR
  replace hp : nZ.nx15 a1 P an G = some r := bO
  refine tg bL <| nv fun bS bU => ?_
  have a2 {aC c j p bV} (a3 : SlO 3 (nt .i64) aC j p) (hp : nZ.jn20 a1 P an G aC = some r) : ∀ w, St E H [bx J 41 [.int .i64 a1.params, .int .i64 a1.result, v2, f], bx b 41 [.int .i64 0, .int .i64 0, .slice none 0 0, .slice none 0 0], n, o, i, bx c 41 [.int .i64 a1.params, .int .i64 a1.result, j, .slice none 0 0], p] w → bS (ovr bV [(1, .pointer (some ⟨J, 0, none⟩)), (2, .pointer (some ⟨b, 0, none⟩)), (5, q), (6, t), (7, h), (10, .pointer (some ⟨c, 0, none⟩))]) w := by
   refine tg bU <| nv fun bW bX => sr <| tv (fa n6 rfl) rfl <| tv (lb s39 0 rfl rfl rfl) rfl <| tv (ln u39 ab rfl) rfl <| tm rfl <| nz <| nC <| bE hp fun bY bZ b0 => ?_
   have b1 {aD ac aE b2} (a5 : SlO 50 nW aD ac aE) (b3 : aD = bY) : ∀ w, St E H [bx b 41 [.int .i64 0, .int .i64 0, .slice none 0 0, .slice none 0 0], i, bx c 41 [.int .i64 a1.params, .int .i64 a1.result, j, ac], p, aE] w → bW (ovr b2 [(2, .pointer (some ⟨b, 0, none⟩)), (7, h), (10, .pointer (some ⟨c, 0, none⟩))]) w := by
    subst b3
    replace hp : nZ.nx28 a1 G aC aD = some r := b0
    refine tg bX <| sr <| tv (lA (ds := [.int .i64 a1.params, .int .i64 a1.result, j, ac]) n9 2 rfl rfl rfl rfl) rfl <| tm rfl <| tS 0 m41 rfl rfl [.int .i64 a1.params, .int .i64 a1.result, j, ac] rfl (oc rfl (oc rfl (oc (a3).one (oc (a5).one oc0)))) rfl rfl <| ta rfl <| nz <| nH ?_
    obtain rfl := Option.some.inj hp
    exact fun w hw => retC2 hw rfl rfl rfl n9 0 rfl rfl ⟨j, p, ac, aE, h, i, rfl, rfl, a3, a5, aB⟩ (hw.pickA [3, 4, 1] rfl)
   refine W.new0 <| lp bZ [2, 3, 4, 5, 6, 7, 0] rfl (fun s e L => ∃ Q g u y a6, s = (Q, g) ∧ SlO 50 nW Q u y ∧ e = ovr a6 [(2, .pointer (some ⟨b, 0, none⟩)), (5, q), (6, t), (7, h), (10, .pointer (some ⟨c, 0, none⟩)), (58, f), (59, .int .i64 (len a1.blocks)), (60, .int .i64 g)] ∧ L = [bx b 41 [.int .i64 0, .int .i64 0, .slice none 0 0, .slice none 0 0], n, o, i, bx c 41 [.int .i64 a1.params, .int .i64 a1.result, j, u], p, y]) ⟨_, _, (.slice none 0 0), ([] : FP), _, rfl, (SlO.nil 50), nD _ _ rfl, rfl⟩ ?_
   rintro _ _ _ ⟨Q, g, u, y, a6, rfl, aF, rfl, rfl⟩ ad hp b4
   replace hp : nZ.bd28 a1 P an G Q g = some ad := hp
   refine sr <| tv (blt rfl rfl) rfl <| nz <| nv fun dV b5 => cD rfl hp (fun b6 hp => ?_) fun b6 hp => ?_
   · refine sk b5 rfl <| nv fun b7 b8 => ?_
     have a8 {a9 aG aH b9} (ca : SlO 50 nW a9 aG aH) (hp : nZ.jn38 g a9 = some ad) : ∀ w, St E H [bx b 41 [.int .i64 0, .int .i64 0, .slice none 0 0, .slice none 0 0], n, o, i, bx c 41 [.int .i64 a1.params, .int .i64 a1.result, j, aG], p, aH] w → b7 (ovr b9 [(2, .pointer (some ⟨b, 0, none⟩)), (5, q), (6, t), (7, h), (10, .pointer (some ⟨c, 0, none⟩)), (58, f), (59, .int .i64 (len a1.blocks)), (60, .int .i64 g)]) w := by
      exact tg b8 <| nG <| tv (bad rfl rfl) rfl <| tm rfl <| nl <| gk hp [0, 1, 2, 3, 4, 5, 6] ⟨_, _, aG, aH, _, rfl, ca, nD _ _ rfl, rfl⟩
     refine nC <| sr <| tm rfl <| ti u39 i50 ab hp rfl rfl rfl rfl ?_
     rintro a dW dX _ hp ⟨I, K, B, rfl, aI, aJ, aK⟩ cb
     refine tv (lR (ds := [I, K, .int .i64 a.term.kind, .int .i64 a.term.arg, B]) o5 sH cb 0 rfl rfl rfl) rfl <| tl i50 rfl fun C => ta rfl <| tS 0 m50 rfl rfl [I, K, .int .i64 a.term.kind, .int .i64 a.term.arg, B] rfl (oc (aI).one (oc (aJ).one (oc rfl (oc rfl (oc (aK).one oc0))))) rfl rfl <| nz <| nv fun dY cc => sr <| tm rfl <| tm rfl <| ti u58 i4 (am).ro hp rfl rfl rfl rfl ?_
     rintro dZ d0 d1 _ hp rfl cd
     refine tv (lr s4 (Src.at_ 2 rfl) cd 0 rfl rfl) rfl <| tv (oO rfl) rfl <| nz <| cB rfl hp (fun ce hp => ?_) fun ce hp => ?_
     · exact nN <| jn [1, 2, 3, 4, 5, 6, 7] (a8 aF hp)
     · refine sk cc rfl <| sr <| tv (fa oP rfl) rfl <| tv (fa qg rfl) rfl <| tv (lb s3 0 rfl rfl rfl) rfl <| tv (fa oP rfl) rfl <| tv (fa pJ rfl) rfl <| tv (lb s3 0 rfl rfl rfl) rfl <| tv (oh (vs := [(0, .int .i64 a.term.kind), (1, .int .i64 a.term.arg)]) (ds := [.int .i64 a.term.kind, .int .i64 a.term.arg, .slice none 0 0]) rfl (fun w => by kernel_rfl)) rfl <| tv (oh (vs := [(2, .agg #[.int .i64 a.term.kind, .int .i64 a.term.arg, .slice none 0 0])]) (ds := [.slice none 0 0, .slice none 0 0, .int .i64 a.term.kind, .int .i64 a.term.arg, .slice none 0 0]) rfl (fun w => by kernel_rfl)) rfl <| tl i50 rfl fun l => tS 0 m50 rfl rfl [.slice none 0 0, .slice none 0 0, .int .i64 a.term.kind, .int .i64 a.term.arg, .slice none 0 0] rfl (oc rfl (oc rfl (oc rfl (oc rfl (oc rfl oc0))))) rfl rfl <| nz <| nv fun cf cg => sr <| tv (fa oL rfl) rfl <| tv (lb s47 1 rfl rfl rfl) rfl <| tv (ln u47 aI rfl) rfl <| tm rfl <| nz <| nC <| bE hp fun ci cj ck => ?_
       have cl {X D M cm} (cn : SlO 70 o0 X D M) (co : X = ci) : ∀ w, St E H [bx b 41 [.int .i64 0, .int .i64 0, .slice none 0 0, .slice none 0 0], n, o, i, bx c 41 [.int .i64 a1.params, .int .i64 a1.result, j, u], p, y, bx C 50 [I, K, .int .i64 a.term.kind, .int .i64 a.term.arg, B], bx l 50 [D, .slice none 0 0, .int .i64 a.term.kind, .int .i64 a.term.arg, .slice none 0 0], M] w → cf (ovr cm [(2, .pointer (some ⟨b, 0, none⟩)), (5, q), (6, t), (7, h), (10, .pointer (some ⟨c, 0, none⟩)), (12, .pointer (some ⟨C, 0, none⟩)), (13, .pointer (some ⟨l, 0, none⟩)), (58, f), (59, .int .i64 (len a1.blocks)), (60, .int .i64 g)]) w := by
        subst co
        replace hp : nZ.nx51 G Q g a X = some ad := ck
        refine tg cg <| nv fun cp cq => sr <| tv (fa ou rfl) rfl <| tv (lb s48 7 rfl rfl rfl) rfl <| tv (ln u48 aJ rfl) rfl <| tm rfl <| nz <| nC <| bE hp fun cr cs ct => ?_
        have cu {ae N S cv} (cw : SlO 52 oK ae N S) (cx : ae = cr) : ∀ w, St E H [bx b 41 [.int .i64 0, .int .i64 0, .slice none 0 0, .slice none 0 0], n, o, i, bx c 41 [.int .i64 a1.params, .int .i64 a1.result, j, u], p, y, bx C 50 [I, K, .int .i64 a.term.kind, .int .i64 a.term.arg, B], bx l 50 [D, N, .int .i64 a.term.kind, .int .i64 a.term.arg, .slice none 0 0], M, S] w → cp (ovr cv [(2, .pointer (some ⟨b, 0, none⟩)), (5, q), (6, t), (7, h), (10, .pointer (some ⟨c, 0, none⟩)), (12, .pointer (some ⟨C, 0, none⟩)), (13, .pointer (some ⟨l, 0, none⟩)), (58, f), (59, .int .i64 (len a1.blocks)), (60, .int .i64 g)]) w := by
         subst cx
         replace hp : nZ.nx60 G Q g a X ae = some ad := ct
         refine tg cq <| nv fun cy cz => sr <| tv (fa oP rfl) rfl <| tv (fa pf rfl) rfl <| tv (lb s25 7 rfl rfl rfl) rfl <| tv (ln u25 aK rfl) rfl <| tm rfl <| nz <| nC <| bE hp fun cA cC cE => ?_
         have cF {ao af aL cG} (cH : SlO 3 (nt .i64) ao af aL) (cI : ao = cA) : ∀ w, St E H [bx b 41 [.int .i64 0, .int .i64 0, .slice none 0 0, .slice none 0 0], n, o, i, bx c 41 [.int .i64 a1.params, .int .i64 a1.result, j, u], p, y, bx l 50 [D, N, .int .i64 a.term.kind, .int .i64 a.term.arg, af], M, S, aL] w → cy (ovr cG [(2, .pointer (some ⟨b, 0, none⟩)), (5, q), (6, t), (7, h), (10, .pointer (some ⟨c, 0, none⟩)), (13, .pointer (some ⟨l, 0, none⟩)), (58, f), (59, .int .i64 (len a1.blocks)), (60, .int .i64 g)]) w := by
          subst cI
          replace hp : nZ.nx69 Q g a X ae ao = some ad := cE
          exact tg cz <| nG <| tv (fa n6 rfl) rfl <| tv (lb s39 4 rfl rfl rfl) rfl <| tv (lA (ds := [D, N, .int .i64 a.term.kind, .int .i64 a.term.arg, af]) o5 7 rfl rfl rfl rfl) rfl <| tbs [(0, .agg #[D, N, .int .i64 a.term.kind, .int .i64 a.term.arg, af])] [D, N, .int .i64 a.term.kind, .int .i64 a.term.arg, af] u39 i50 (by kernel_rfl) rfl rfl rfl rfl fun d2 => tp [7, 0, 9, 10, 11, 1, 2, 3, 4, 5, 6, 8] [_,_,_,_,_,_,_,_,_,_,_,_] rfl rfl <| tf 2 3 [_,_,_,_,_,_,_,_,_,_] rfl <| tp2 u39 i50 aF hp (RepL.to (G' := M ++ (S ++ (aL))) (RepL.cons (k := nW) (x := (⟨X, ae, (⟨a.term.kind, a.term.arg, ao⟩ : PTerm)⟩ : ny)) ⟨_, _, _, _, _, _, rfl, rfl, cn, cw, cH⟩ RepL.nil) (by simp)) rfl rfl rfl rfl rfl rfl rfl rfl rfl fun d3 d4 d5 ba hp => tv (fa n6 rfl) rfl <| ts 5 m39 rfl rfl ba.o1 rfl <| nl <| jn [1, 2, 3, 4, 5, 6, 0] (a8 ba hp)
         refine W.new0 <| lp cC [1, 2, 3, 4, 5, 6, 7, 9, 10, 11, 0] rfl (fun s e L => ∃ ag T ah ai bb, s = (ag, T) ∧ SlO 3 (nt .i64) ag ah ai ∧ e = ovr bb [(2, .pointer (some ⟨b, 0, none⟩)), (5, q), (6, t), (7, h), (10, .pointer (some ⟨c, 0, none⟩)), (13, .pointer (some ⟨l, 0, none⟩)), (58, f), (59, .int .i64 (len a1.blocks)), (60, .int .i64 g), (122, B), (123, .int .i64 (len a.term.to)), (124, .int .i64 T)] ∧ L = [bx b 41 [.int .i64 0, .int .i64 0, .slice none 0 0, .slice none 0 0], n, o, i, bx c 41 [.int .i64 a1.params, .int .i64 a1.result, j, u], p, y, bx l 50 [D, N, .int .i64 a.term.kind, .int .i64 a.term.arg, ah], M, S, ai]) ⟨_, _, (.slice none 0 0), ([] : FP), _, rfl, (SlO.nil 3), nD _ _ rfl, rfl⟩ ?_
         rintro _ _ _ ⟨ag, T, ah, ai, bb, rfl, bc, rfl, rfl⟩ be hp cJ
         replace hp : nZ.bd69 G a ag T = some be := hp
         refine sr <| tv (blt rfl rfl) rfl <| nz <| nv fun d6 cK => cD rfl hp (fun cL hp => ?_) fun cL hp => ?_
         · refine sk cK rfl <| nv fun d7 cM => nC <| sr <| ti u25 i3 aK hp rfl rfl rfl rfl ?_
           rintro ap d8 d9 _ hp rfl cN
           refine tv (lr s3 sH cN 0 rfl rfl) rfl <| ta rfl <| nz <| nv fun cO cP => ?_
           have bf {aj cQ} (hp : nZ.jn83 ag T aj = some be) : ∀ w, St E H [bx b 41 [.int .i64 0, .int .i64 0, .slice none 0 0, .slice none 0 0], n, o, i, bx c 41 [.int .i64 a1.params, .int .i64 a1.result, j, u], p, y, bx l 50 [D, N, .int .i64 a.term.kind, .int .i64 a.term.arg, ah], M, S, ai] w → cO (ovr cQ [(2, .pointer (some ⟨b, 0, none⟩)), (5, q), (6, t), (7, h), (10, .pointer (some ⟨c, 0, none⟩)), (13, .pointer (some ⟨l, 0, none⟩)), (19, .int .i64 aj), (58, f), (59, .int .i64 (len a1.blocks)), (60, .int .i64 g), (122, B), (123, .int .i64 (len a.term.to)), (124, .int .i64 T)]) w := by
            exact tg cP <| nG <| tv (fa oP rfl) rfl <| tv (fa pf rfl) rfl <| tv (lb s25 7 rfl rfl rfl) rfl <| tm rfl <| tbs [(0, .int .i64 aj)] [.int .i64 aj] u25 i3 (by kernel_rfl) rfl rfl rfl rfl fun ea => tp [11, 0, 1, 2, 3, 4, 5, 6, 7, 8, 9, 10] [_,_,_,_,_,_,_,_,_,_,_,_] rfl rfl <| tf 2 0 [_,_,_,_,_,_,_,_,_,_,_,_,_] rfl <| tp2 u25 i3 bc hp (RepL.to (RepL.cons (k := (nt .i64)) (x := aj) ⟨rfl, rfl⟩ RepL.nil) rfl) rfl rfl rfl rfl rfl rfl rfl rfl rfl fun eb cR cS bg hp => tv (fa oP rfl) rfl <| tv (fa pf rfl) rfl <| ts 8 m25 rfl rfl bg.o1 rfl <| nl <| tg cM <| nG <| tv (bad rfl rfl) rfl <| tm rfl <| nl <| gk hp [1, 2, 3, 4, 5, 6, 7, 8, 9, 10, 0] ⟨_, _, cR, cS, _, rfl, bg, nD _ _ rfl, rfl⟩
           refine sr <| tm rfl <| tv (bge rfl rfl) rfl <| tm rfl <| TL.cut 5 fun cT cU => ?_
           have bh {cV} : ∀ w, St E H [bx b 41 [.int .i64 0, .int .i64 0, .slice none 0 0, .slice none 0 0], n, o, i, bx c 41 [.int .i64 a1.params, .int .i64 a1.result, j, u], p, y, bx l 50 [D, N, .int .i64 a.term.kind, .int .i64 a.term.arg, ah], M, S, ai] w → cT (ovr cV [(135, .bool (decide (ap ≥ 0 ∧ ap < (len G)))), (2, .pointer (some ⟨b, 0, none⟩)), (5, q), (6, t), (7, h), (10, .pointer (some ⟨c, 0, none⟩)), (13, .pointer (some ⟨l, 0, none⟩)), (19, .int .i64 ap), (58, f), (59, .int .i64 (len a1.blocks)), (60, .int .i64 g), (122, B), (123, .int .i64 (len a.term.to)), (124, .int .i64 T)]) w := by
            refine tlg cU <| nz <| cD rfl hp (fun cW hp => ?_) fun cW hp => ?_
            · refine nG <| tm rfl <| tm rfl <| ti u25 i3 (aB).ro hp rfl rfl rfl rfl ?_
              rintro ec ed ee _ hp rfl cX
              exact tv (lr s3 (Src.at_ 3 rfl) cX 0 rfl rfl) rfl <| ta rfl <| nl <| jn [0, 1, 2, 3, 4, 5, 6, 7, 8, 9, 10] (bf hp)
            · exact TC.skip <| jn [0, 1, 2, 3, 4, 5, 6, 7, 8, 9, 10] (bf hp)
           by_cases z : ap ≥ 0
           · exact gy rfl (bT z) <| tm rfl <| gy rfl (bT z) <| tm rfl <| gy rfl (bT z) <| tv (ln u25 aB.ro rfl) rfl <| gy rfl (bT z) <| tv (blt rfl rfl) rfl <| tv (pT (bT z)) rfl <| nj bh (bAt z)
           · exact gn rfl (bF z) rfl rfl <| gn rfl (bF z) rfl rfl <| gn rfl (bF z) rfl rfl <| gn rfl (bF z) rfl rfl <| tv (pF (bF z)) rfl <| nj bh (bAf z)
         · exact nN <| jn [0, 1, 2, 3, 4, 5, 6, 7, 8, 9, 10] (cF bc (nJ hp cJ))
        refine W.new0 <| lp cs [1, 2, 3, 4, 5, 6, 7, 8, 9, 10, 0] rfl (fun s e L => ∃ aq ar aM aN bi, s = (aq, ar) ∧ SlO 52 oK aq aM aN ∧ e = ovr bi [(2, .pointer (some ⟨b, 0, none⟩)), (5, q), (6, t), (7, h), (10, .pointer (some ⟨c, 0, none⟩)), (12, .pointer (some ⟨C, 0, none⟩)), (13, .pointer (some ⟨l, 0, none⟩)), (58, f), (59, .int .i64 (len a1.blocks)), (60, .int .i64 g), (103, K), (104, .int .i64 (len a.ins)), (105, .int .i64 ar)] ∧ L = [bx b 41 [.int .i64 0, .int .i64 0, .slice none 0 0, .slice none 0 0], n, o, i, bx c 41 [.int .i64 a1.params, .int .i64 a1.result, j, u], p, y, bx C 50 [I, K, .int .i64 a.term.kind, .int .i64 a.term.arg, B], bx l 50 [D, aM, .int .i64 a.term.kind, .int .i64 a.term.arg, .slice none 0 0], M, aN]) ⟨_, _, (.slice none 0 0), ([] : FP), _, rfl, (SlO.nil 52), nD _ _ rfl, rfl⟩ ?_
        rintro _ _ _ ⟨aq, ar, aM, aN, bi, rfl, bj, rfl, rfl⟩ cY hp cZ
        replace hp : nZ.bd60 a aq ar = some cY := hp
        refine sr <| tv (blt rfl rfl) rfl <| nz <| nv fun ef c0 => cD rfl hp (fun c1 hp => ?_) fun c1 hp => ?_
        · refine sk c0 rfl <| nv fun eg c2 => nC <| sr <| ti u48 i52 aJ hp rfl rfl rfl rfl ?_
          rintro d eh ei _ hp ⟨bk, rfl, bl⟩ c3
          refine tv (lR (ds := [.int .i64 d.op, .int .i64 d.dst, bk, .int .i64 d.imm, .int .i64 d.fn]) pi sH c3 0 rfl rfl rfl) rfl <| tl i52 rfl fun ej => tS 0 m52 rfl rfl [.int .i64 d.op, .int .i64 d.dst, bk, .int .i64 d.imm, .int .i64 d.fn] rfl (oc rfl (oc rfl (oc (bl).one (oc rfl (oc rfl oc0))))) rfl rfl <| nz <| sr <| tv (fa o9 rfl) rfl <| tv (lb s25 0 rfl rfl rfl) rfl <| bE hp fun c4 hy102 hp => tc 0 [_,_,_,_,_,_,_,_,_,_,_,_] rfl c28 (fun _ => p8 (a1 := d.args) (bl.mono nw) hy102) rfl ?_
          rintro _ _ ⟨aO, c5, rfl, rfl, bm⟩
          exact tv (fa o9 rfl) rfl <| ts 1 m25 rfl rfl bm.o1 rfl <| nz <| nG <| tv (fa ou rfl) rfl <| tv (lb s48 10 rfl rfl rfl) rfl <| tv (lA (ds := [.int .i64 d.op, .int .i64 d.dst, aO, .int .i64 d.imm, .int .i64 d.fn]) pi 1 rfl rfl rfl rfl) rfl <| tbs [(0, .agg #[.int .i64 d.op, .int .i64 d.dst, aO, .int .i64 d.imm, .int .i64 d.fn])] [.int .i64 d.op, .int .i64 d.dst, aO, .int .i64 d.imm, .int .i64 d.fn] u48 i52 (by kernel_rfl) rfl rfl rfl rfl fun ek => tp [13, 0, 1, 2, 3, 4, 5, 6, 7, 8, 9, 10, 11, 12] [_,_,_,_,_,_,_,_,_,_,_,_,_,_] rfl rfl <| tp2 u48 i52 bj hp (RepL.to (G' := c5) (RepL.cons (k := oK) (x := (⟨d.op, d.dst, c4, d.imm, d.fn⟩ : nO)) ⟨_, _, rfl, rfl, bm⟩ RepL.nil) (by simp)) rfl rfl rfl rfl rfl rfl rfl rfl rfl fun el c6 c7 bn hp => tv (fa ou rfl) rfl <| ts 10 m48 rfl rfl bn.o1 rfl <| nl <| tg c2 <| nG <| tv (bad rfl rfl) rfl <| tm rfl <| nl <| gk hp [2, 3, 4, 5, 6, 7, 8, 9, 10, 11, 0] ⟨_, _, c6, c7, _, rfl, bn, nD _ _ rfl, rfl⟩
        · exact nN <| jn [0, 1, 2, 3, 4, 5, 6, 7, 8, 9, 10] (cu bj (nJ hp cZ))
       refine W.new0 <| lp cj [3, 4, 5, 6, 7, 8, 9, 2, 1, 0] rfl (fun s e L => ∃ au Y aP aQ bo, s = (au, Y) ∧ SlO 70 o0 au aP aQ ∧ e = ovr bo [(2, .pointer (some ⟨b, 0, none⟩)), (5, q), (6, t), (7, h), (10, .pointer (some ⟨c, 0, none⟩)), (11, .int .i64 g), (12, .pointer (some ⟨C, 0, none⟩)), (13, .pointer (some ⟨l, 0, none⟩)), (58, f), (59, .int .i64 (len a1.blocks)), (60, .int .i64 g), (79, I), (80, .int .i64 (len a.phis)), (81, .int .i64 Y)] ∧ L = [bx b 41 [.int .i64 0, .int .i64 0, .slice none 0 0, .slice none 0 0], n, o, i, bx c 41 [.int .i64 a1.params, .int .i64 a1.result, j, u], p, y, bx C 50 [I, K, .int .i64 a.term.kind, .int .i64 a.term.arg, B], bx l 50 [aP, .slice none 0 0, .int .i64 a.term.kind, .int .i64 a.term.arg, .slice none 0 0], aQ]) ⟨_, _, (.slice none 0 0), ([] : FP), _, rfl, (SlO.nil 70), nD _ _ rfl, rfl⟩ ?_
       rintro _ _ _ ⟨au, Y, aP, aQ, bo, rfl, av, rfl, rfl⟩ bp hp c8
       replace hp : nZ.bd51 P an g a au Y = some bp := hp
       refine sr <| tv (blt rfl rfl) rfl <| nz <| nv fun em c9 => cD rfl hp (fun da hp => ?_) fun da hp => ?_
       · refine sk c9 rfl <| nv fun db dc => ?_
         have aR {bq aS aT dd} (de : SlO 70 o0 bq aS aT) (hp : nZ.jn115 Y bq = some bp) : ∀ w, St E H [bx b 41 [.int .i64 0, .int .i64 0, .slice none 0 0, .slice none 0 0], n, o, i, bx c 41 [.int .i64 a1.params, .int .i64 a1.result, j, u], p, y, bx C 50 [I, K, .int .i64 a.term.kind, .int .i64 a.term.arg, B], bx l 50 [aS, .slice none 0 0, .int .i64 a.term.kind, .int .i64 a.term.arg, .slice none 0 0], aT] w → db (ovr dd [(2, .pointer (some ⟨b, 0, none⟩)), (5, q), (6, t), (7, h), (10, .pointer (some ⟨c, 0, none⟩)), (11, .int .i64 g), (12, .pointer (some ⟨C, 0, none⟩)), (13, .pointer (some ⟨l, 0, none⟩)), (58, f), (59, .int .i64 (len a1.blocks)), (60, .int .i64 g), (79, I), (80, .int .i64 (len a.phis)), (81, .int .i64 Y)]) w := by
          exact tg dc <| nG <| tv (bad rfl rfl) rfl <| tm rfl <| nl <| gk hp [0, 1, 2, 3, 4, 5, 6, 7, 8, 9] ⟨_, _, aS, aT, _, rfl, de, nD _ _ rfl, rfl⟩
         refine nC <| sr <| ti u47 i70 aI hp rfl rfl rfl rfl ?_
         rintro m en eo _ hp ⟨aU, rfl, aV⟩ df
         refine tv (lR (ds := [.int .i64 m.dst, aU]) qp sH df 0 rfl rfl rfl) rfl <| tl i70 rfl fun dg => tS 0 m70 rfl rfl [.int .i64 m.dst, aU] rfl (oc rfl (oc (aV).one oc0)) rfl rfl <| nz <| ch mix [bx dg 70 [.int .i64 m.dst, aU], bx b 41 [.int .i64 0, .int .i64 0, .slice none 0 0, .slice none 0 0], n, o, i, bx c 41 [.int .i64 a1.params, .int .i64 a1.result, j, u], p, y, bx C 50 [I, K, .int .i64 a.term.kind, .int .i64 a.term.arg, B]] (nq 0 rfl (nq 1 rfl (nq 2 rfl (nq 3 rfl (nq 4 rfl (nq 5 rfl (nq 6 rfl (nq 7 rfl (nq 8 rfl ns))))))))) <| hv 0 rfl (fa oL rfl) (by kernel_rfl) rfl <| hv 2 rfl (fa qx rfl) (by kernel_rfl) rfl <| hv 3 rfl (lbG s3 0 rfl rfl rfl) (by kernel_rfl) rfl <| hv 4 rfl (fa p5 rfl) (by kernel_rfl) rfl <| hv 5 rfl (lbG s25 0 rfl rfl rfl) (by kernel_rfl) rfl <| hv 6 rfl mv (by kernel_rfl) rfl <| hv 7 rfl mv (by kernel_rfl) rfl <| hi 8 rfl u73 i25 (bI).ro hp rfl rfl rfl (by kernel_rfl) rfl ?_
         rintro br ep eq _ hp ⟨er, rfl, bs⟩ dh
         refine hv 9 rfl (lr s25 (srcInG 3 rfl) dh 0 rfl rfl) (by kernel_rfl) rfl <| hv 10 rfl mv (by kernel_rfl) rfl <| nU [1, 11] (by kernel_rfl) (by simp) (nF ⟨_, rfl, fun es di => ?_⟩ (nF ⟨_, rfl, fun et dj => ?_⟩ nV))
         · refine tv (lb s47 9 rfl rfl rfl) rfl <| hk di (nq 0 rfl (nq 1 rfl (nq 2 rfl (nq 3 rfl (nq 4 rfl (nq 5 rfl (nq 6 rfl (nq 7 rfl (nq 8 rfl ns))))))))) <| ho 11 rfl (by kernel_rfl) fun eu dk => bE hp fun aw hy122 hp => tc 0 [_,_,_,_,_,_,_,_,_,_,_] rfl c60 (fun _ => tY (a1 := m.args) (a4 := br) (a7 := P) (aV.mono nw) (bs.mono (subB 3 rfl)) (am.ro.mono (subB 2 rfl)) hy122) rfl ?_
           rintro _ _ ⟨F, ax, rfl, rfl, Z⟩
           exact hk dk (nq 1 rfl (nq 2 rfl (nq 3 rfl (nq 4 rfl (nq 5 rfl (nq 6 rfl (nq 7 rfl (nq 8 rfl (nq 9 rfl ns))))))))) <| hv 12 rfl (oh (vs := [(0, .int .i64 m.dst), (1, F)]) (ds := [.int .i64 m.dst, F]) rfl (fun w => by obtain ⟨_, _, rfl⟩ := (Z).len; kernel_rfl)) (by kernel_rfl) rfl <| ho 13 rfl (by kernel_rfl) fun ev dl => tbs [(0, .agg #[.int .i64 m.dst, F])] [.int .i64 m.dst, F] u47 i70 (by kernel_rfl) rfl rfl rfl rfl fun bt => hk dl (nq 2 rfl (nq 3 rfl (nq 4 rfl (nq 5 rfl (nq 6 rfl (nq 7 rfl (nq 8 rfl (nq 9 rfl (nq 10 rfl ns))))))))) <| ho 14 rfl (by kernel_rfl) fun ew dm => tp [12, 0, 1, 2, 3, 4, 5, 6, 7, 8, 9, 10, 11] [_,_,_,_,_,_,_,_,_,_,_,_,_] rfl rfl <| tp2 u47 i70 av hp (RepL.to (G' := ax) (RepL.cons (k := o0) (x := (⟨m.dst, aw⟩ : PPhi)) ⟨_, _, rfl, rfl, Z⟩ RepL.nil) (by simp)) rfl rfl rfl rfl rfl rfl rfl rfl rfl fun bu bv bw O hp => hk dm (nq 1 rfl (nq 2 rfl (nq 3 rfl (nq 4 rfl (nq 5 rfl (nq 6 rfl (nq 7 rfl (nq 8 rfl (nq 9 rfl ns))))))))) <| hv 15 rfl (fa oL rfl) (by kernel_rfl) rfl <| ho 16 rfl (by kernel_rfl) fun ex dn => ts 10 m47 rfl rfl O.o1 rfl <| hk dn (nq 1 rfl (nq 2 rfl (nq 3 rfl (nq 4 rfl (nq 5 rfl (nq 6 rfl (nq 7 rfl (nq 8 rfl (nq 9 rfl ns))))))))) <| hz (by kernel_rfl) <| jn [2, 3, 4, 5, 6, 7, 8, 9, 10, 0] (aR O hp)
         · refine bE hp fun aw hy133 hp => tc 0 [_,_,_,_,_,_,_,_,_,_,_] rfl c60 (fun _ => tY (a1 := m.args) (a4 := br) (a7 := P) (aV.mono nw) (bs.mono (subB 3 rfl)) (am.ro.mono (subB 2 rfl)) hy133) rfl ?_
           rintro _ _ ⟨F, ax, rfl, rfl, Z⟩
           refine hk dj (nq 1 rfl (nq 2 rfl (nq 3 rfl (nq 4 rfl (nq 5 rfl (nq 6 rfl (nq 7 rfl (nq 8 rfl (nq 9 rfl ns))))))))) <| hv 12 rfl (oh (vs := [(0, .int .i64 m.dst), (1, F)]) (ds := [.int .i64 m.dst, F]) rfl (fun w => by obtain ⟨_, _, rfl⟩ := (Z).len; kernel_rfl)) (by kernel_rfl) rfl <| nU [1, 13] (by kernel_rfl) (by simp) (nF ⟨_, rfl, fun ey dp => ?_⟩ (nF ⟨_, rfl, fun ez dq => ?_⟩ nV))
           · exact tv (lb s47 10 rfl rfl rfl) rfl <| hk dp (nq 1 rfl (nq 2 rfl (nq 3 rfl (nq 4 rfl (nq 5 rfl (nq 6 rfl (nq 7 rfl (nq 8 rfl (nq 9 rfl ns))))))))) <| ho 13 rfl (by kernel_rfl) fun eA dr => tbs [(0, .agg #[.int .i64 m.dst, F])] [.int .i64 m.dst, F] u47 i70 (by kernel_rfl) rfl rfl rfl rfl fun bt => hk dr (nq 2 rfl (nq 3 rfl (nq 4 rfl (nq 5 rfl (nq 6 rfl (nq 7 rfl (nq 8 rfl (nq 9 rfl (nq 10 rfl ns))))))))) <| ho 14 rfl (by kernel_rfl) fun eB dt => tp [12, 0, 1, 2, 3, 4, 5, 6, 7, 8, 9, 10, 11] [_,_,_,_,_,_,_,_,_,_,_,_,_] rfl rfl <| tp2 u47 i70 av hp (RepL.to (G' := ax) (RepL.cons (k := o0) (x := (⟨m.dst, aw⟩ : PPhi)) ⟨_, _, rfl, rfl, Z⟩ RepL.nil) (by simp)) rfl rfl rfl rfl rfl rfl rfl rfl rfl fun bu bv bw O hp => hk dt (nq 1 rfl (nq 2 rfl (nq 3 rfl (nq 4 rfl (nq 5 rfl (nq 6 rfl (nq 7 rfl (nq 8 rfl (nq 9 rfl ns))))))))) <| hv 15 rfl (fa oL rfl) (by kernel_rfl) rfl <| ho 16 rfl (by kernel_rfl) fun eC du => ts 10 m47 rfl rfl O.o1 rfl <| hk du (nq 1 rfl (nq 2 rfl (nq 3 rfl (nq 4 rfl (nq 5 rfl (nq 6 rfl (nq 7 rfl (nq 8 rfl (nq 9 rfl ns))))))))) <| hz (by kernel_rfl) <| jn [2, 3, 4, 5, 6, 7, 8, 9, 10, 0] (aR O hp)
           · exact tbs [(0, .agg #[.int .i64 m.dst, F])] [.int .i64 m.dst, F] u47 i70 (by kernel_rfl) rfl rfl rfl rfl fun bt => hk dq (nq 2 rfl (nq 3 rfl (nq 4 rfl (nq 5 rfl (nq 6 rfl (nq 7 rfl (nq 8 rfl (nq 9 rfl (nq 10 rfl ns))))))))) <| ho 1 rfl (by kernel_rfl) fun eD dv => tv (lb s47 11 rfl rfl rfl) rfl <| hk dv (nq 2 rfl (nq 3 rfl (nq 4 rfl (nq 5 rfl (nq 6 rfl (nq 7 rfl (nq 8 rfl (nq 9 rfl (nq 10 rfl ns))))))))) <| ho 14 rfl (by kernel_rfl) fun eE dw => tp [12, 0, 1, 2, 3, 4, 5, 6, 7, 8, 9, 10, 11] [_,_,_,_,_,_,_,_,_,_,_,_,_] rfl rfl <| tp2 u47 i70 av hp (RepL.to (G' := ax) (RepL.cons (k := o0) (x := (⟨m.dst, aw⟩ : PPhi)) ⟨_, _, rfl, rfl, Z⟩ RepL.nil) (by simp)) rfl rfl rfl rfl rfl rfl rfl rfl rfl fun bu bv bw O hp => hk dw (nq 1 rfl (nq 2 rfl (nq 3 rfl (nq 4 rfl (nq 5 rfl (nq 6 rfl (nq 7 rfl (nq 8 rfl (nq 9 rfl ns))))))))) <| hv 15 rfl (fa oL rfl) (by kernel_rfl) rfl <| ho 16 rfl (by kernel_rfl) fun eF dx => ts 10 m47 rfl rfl O.o1 rfl <| hk dx (nq 1 rfl (nq 2 rfl (nq 3 rfl (nq 4 rfl (nq 5 rfl (nq 6 rfl (nq 7 rfl (nq 8 rfl (nq 9 rfl ns))))))))) <| hz (by kernel_rfl) <| jn [2, 3, 4, 5, 6, 7, 8, 9, 10, 0] (aR O hp)
       · exact nN <| jn [0, 1, 2, 3, 4, 5, 6, 7, 8, 9] (cl av (nJ hp c8))
   · exact nN <| jn [0, 3, 4, 5, 6] (b1 aF (nJ hp b4))
  refine ch mix [bx J 41 [.int .i64 a1.params, .int .i64 a1.result, v2, f], bx b 41 [.int .i64 0, .int .i64 0, .slice none 0 0, .slice none 0 0], n, o, i] (nq 0 rfl (nq 1 rfl (nq 2 rfl (nq 3 rfl (nq 4 rfl ns))))) <| hv 0 rfl (fa py rfl) (by kernel_rfl) rfl <| hv 1 rfl (lbG s3 0 rfl rfl rfl) (by kernel_rfl) rfl <| hv 2 rfl (fa qb rfl) (by kernel_rfl) rfl <| hv 3 rfl (lbG s3 0 rfl rfl rfl) (by kernel_rfl) rfl <| hv 4 rfl (fa oV rfl) (by kernel_rfl) rfl <| hv 5 rfl (lbG s25 0 rfl rfl rfl) (by kernel_rfl) rfl <| nU [6, 8] (by kernel_rfl) (by simp) (nF ⟨_, rfl, fun eG dy => ?_⟩ (nF ⟨_, rfl, fun eH dz => ?_⟩ nV))
  · refine bE hp fun dA hy159 hp => tc 0 [_,_,_,_,_] rfl c28 (fun _ => p8 (a1 := a1.regs) (ak.mono nw) hy159) rfl ?_
    rintro _ _ ⟨U, dB, rfl, rfl, V⟩
    exact hk dy (nq 1 rfl (nq 2 rfl (nq 3 rfl (nq 4 rfl (nq 5 rfl ns))))) <| hv 7 rfl (oh (vs := [(0, .int .i64 a1.params), (1, .int .i64 a1.result), (2, U)]) (ds := [.int .i64 a1.params, .int .i64 a1.result, U, .slice none 0 0]) rfl (fun w => by obtain ⟨_, _, rfl⟩ := (V).len; kernel_rfl)) (by kernel_rfl) rfl <| ho 8 rfl (by kernel_rfl) fun eI dC => tl i41 rfl fun dD => hk dC (nq 2 rfl (nq 3 rfl (nq 4 rfl (nq 5 rfl (nq 6 rfl ns))))) <| ho 9 rfl (by kernel_rfl) fun eJ dE => tS 0 m41 rfl rfl [.int .i64 a1.params, .int .i64 a1.result, U, .slice none 0 0] rfl (oc rfl (oc rfl (oc (V).one (oc rfl oc0)))) rfl rfl <| hk dE (nq 2 rfl (nq 3 rfl (nq 4 rfl (nq 5 rfl (nq 6 rfl ns))))) <| hz (by kernel_rfl) <| jn [2, 3, 4, 5, 6, 0, 1] (a2 V hp)
  · refine tl i41 rfl fun dD => hk dz (nq 1 rfl (nq 2 rfl (nq 3 rfl (nq 4 rfl (nq 5 rfl ns))))) <| ho 6 rfl (by kernel_rfl) fun eK dF => bE hp fun dA hy169 hp => tc 0 [_,_,_,_,_,_] rfl c28 (fun _ => p8 (a1 := a1.regs) (ak.mono nw) hy169) rfl ?_
    rintro _ _ ⟨U, dB, rfl, rfl, V⟩
    exact hk dF (nq 2 rfl (nq 3 rfl (nq 4 rfl (nq 5 rfl (nq 6 rfl ns))))) <| hv 7 rfl (oh (vs := [(0, .int .i64 a1.params), (1, .int .i64 a1.result), (2, U)]) (ds := [.int .i64 a1.params, .int .i64 a1.result, U, .slice none 0 0]) rfl (fun w => by obtain ⟨_, _, rfl⟩ := (V).len; kernel_rfl)) (by kernel_rfl) rfl <| ho 9 rfl (by kernel_rfl) fun eL dG => tS 1 m41 rfl rfl [.int .i64 a1.params, .int .i64 a1.result, U, .slice none 0 0] rfl (oc rfl (oc rfl (oc (V).one (oc rfl oc0)))) rfl rfl <| hk dG (nq 2 rfl (nq 3 rfl (nq 4 rfl (nq 5 rfl (nq 6 rfl ns))))) <| hz (by kernel_rfl) <| jn [2, 3, 4, 5, 6, 1, 0] (a2 V hp)
 refine lp bN [5, 4, 2, 1, 0] rfl (fun s e L => ∃ ay az aa aW bz, s = (ay, az, aa) ∧ SlO 3 (nt .i64) ay h aW ∧ e = ovr bz [(1, .pointer (some ⟨J, 0, none⟩)), (2, .pointer (some ⟨b, 0, none⟩)), (5, q), (6, t), (7, h), (8, .int .i64 az), (31, .int .i64 (len aA)), (32, .int .i64 aa)] ∧ L = [bx J 41 [.int .i64 a1.params, .int .i64 a1.result, v2, f], bx b 41 [.int .i64 0, .int .i64 0, .slice none 0 0, .slice none 0 0], n, o, aW]) ⟨_, _, _, bJ, _, rfl, a0, nD _ _ rfl, rfl⟩ ?_
 rintro _ _ _ ⟨ay, az, aa, aW, bz, rfl, aX, rfl, rfl⟩ bA hp dH
 replace hp : nZ.bd15 P aA ay az aa = some bA := hp
 refine sr <| tv (blt rfl rfl) rfl <| nz <| nv fun eM dI => cD rfl hp (fun dJ hp => ?_) fun dJ hp => ?_
 · refine sk dI rfl <| nv fun dK dL => ?_
   have bB {bC bD aY dM} (dN : SlO 3 (nt .i64) bC h aY) (hp : nZ.jn181 aa bC bD = some bA) : ∀ w, St E H [bx J 41 [.int .i64 a1.params, .int .i64 a1.result, v2, f], bx b 41 [.int .i64 0, .int .i64 0, .slice none 0 0, .slice none 0 0], n, o, aY] w → dK (ovr dM [(1, .pointer (some ⟨J, 0, none⟩)), (2, .pointer (some ⟨b, 0, none⟩)), (5, q), (6, t), (7, h), (8, .int .i64 bD), (31, .int .i64 (len aA)), (32, .int .i64 aa)]) w := by
    exact tg dL <| nG <| tv (bad rfl rfl) rfl <| tm rfl <| nl <| gk hp [0, 1, 2, 3, 4] ⟨_, _, _, aY, _, rfl, dN, nD _ _ rfl, rfl⟩
   refine nC <| sr <| tm rfl <| ta rfl <| nz <| sr <| tm rfl <| tm rfl <| tO u25 i3 aX hp rfl rfl rfl rfl fun eN eO eP dO hp => tp [4, 0, 1, 2, 3] [_,_,_,_,_] rfl rfl <| tE aX dO m3 rfl ⟨rfl, rfl⟩ w1 fun eQ aZ => nz <| sr <| tm rfl <| tm rfl <| ti u58 i4 (am).ro hp rfl rfl rfl rfl ?_
   rintro eR eS eT _ hp rfl dP
   refine tv (lr s4 (Src.at_ 3 rfl) dP 0 rfl rfl) rfl <| nz <| cB rfl hp (fun dQ hp => ?_) fun dQ hp => ?_
   · exact sr <| tm rfl <| tm rfl <| tm rfl <| tO u25 i3 aZ hp rfl rfl rfl rfl fun eU eV eW dR hp => tE aZ dR m3 rfl ⟨rfl, rfl⟩ w1 fun eX dS => nz <| nG <| tm rfl <| tv (bad rfl rfl) rfl <| ta rfl <| nl <| jn [1, 2, 3, 4, 0] (bB dS hp)
   · exact TC.skip <| jn [1, 2, 3, 4, 0] (bB aZ hp)
 · exact nN <| jn [0, 1, 2, 3, 4] (bP aX (nJ hp dH))
/-! ### slices.Clone[[]fettle/api.Func,fettle/api.Func] -/
def rK (a1 : List nA) : Option (List nA) := (cat ([] : List nA) a1).bind fun a => some a
theorem wP (G : FP) : ∀ x cs, oB.ro G x cs → ∀ v, v ∈ cs → v.oneCell' = true := by
 rintro x cs ⟨_, _, rfl, a, b⟩
 exact (oc rfl (oc rfl (oc a.one (oc b.one oc0))))
theorem wQ {E : World} {H G : FP} {w : World} {a1 : List nA} {v2 : Value} {r : List nA} (hG : ∀ p, p ∈ G → p ∈ H) (b : SlI oB G a1 v2) (hp : rK a1 = some r) (hst : St E H [] w) :
    Fn Try.prog 39 #[v2] w fun v w' => ∃ A, (∃ (w1 : Value) (c : FP), w1 = v ∧ A = [c] ∧ SlO 41 (kRef G oB) r w1 c) ∧ St E H A w' := by
 refine fb 8 [.tmp 2] Try.func39 rfl rfl rfl rfl rfl hst <| sr <| ta rfl <| nz <| nv fun m d => sr <| tm rfl ?_
 obtain ⟨e, f, hv4⟩ := nilEq (P := Try.prog) Try.underlying33 b
 refine tv (tz rfl hv4) rfl <| nz ?_
 by_cases a : e = true
 · have g := f a
   replace hp : (some ([] : List nA)) = some r := by unfold rK at hp; rw [g] at hp; simpa [cat, LIM] using hp
   exact TC.condT (bbT a) <| sr <| ta rfl <| nz <| nH <| W.new0 <| fun w hw => ⟨_, ⟨(.slice none 0 0), ([] : FP), rfl, rfl, by rw [← Option.some.inj hp]; exact SlO.nil 41⟩, hw.pickA [0] rfl⟩
 · exact TC.condF (bbF a) <| sk d rfl <| sr <| TL.bs0 u33 i41 (ltb rfl) fun h => tm rfl <| tpR (wP G) u33 i41 (SlO.lit0 (k := kRef G oB) h) b (fun p hp => .inl (hG p hp)) hp rfl rfl rfl rfl rfl rfl rfl fun n i j l hp => ta rfl <| nz <| nH <| fun w hw => ⟨_, ⟨i, j, rfl, rfl, by rw [← Option.some.inj hp]; exact l⟩, hw.pickA [0] rfl⟩
/-! ### fettle/live.has -/
abbrev qL.R (r : GErr) (v : Value) (A : List FP) : Prop := ∃ (w1 : Value) (a : FP), w1 = v ∧ A = [a] ∧ ErO 63 106 108 r w1 a
def qL (a1 : nT) (a4 : Int) : Option GErr :=
  (pD a1).bind fun a =>
  if ¬ a = GErr.no then
    some a
  else
    if a4 < 0 ∨ a4 ≥ (len a1.funcs) then
      some (GErr.code 1)
    else
      some GErr.no
theorem wR {E : World} {H : FP} {w : World} {a1 : nT} {a4 : Int} {v2 : Value} {r : GErr} (b : SlI oB H a1.funcs v2) (hp : qL a1 a4 = some r) (hst : St E H [] w) :
    Fn Try.prog 63 #[.agg #[v2], .int .i64 a4] w fun v w' => ∃ A, qL.R r v A ∧ St E H A w' := by
 refine fb 21 [.tmp 4] Try.func63 rfl rfl rfl rfl rfl hst <| sr <| tb [v2] rfl rfl fun f => ta rfl <| nz <| nv fun o g => sr <| tv (lA (ds := [v2]) pc 0 rfl rfl rfl rfl) rfl <| bE hp fun p hy3 hp => tc 0 [_] rfl c47 (fun _ => sL (a1 := a1) (b.mono nw) hy3) rfl ?_
 rintro _ _ ⟨h, c, rfl, rfl, d⟩
 refine ta rfl <| nz <| sr <| tm rfl <| tv (pI pp d rfl) rfl <| nz <| cD rfl hp (fun i hp => ?_) fun i hp => ?_
 · exact sr <| tm rfl <| ta rfl <| nz <| nH <| rt hp [0] ⟨h, c, rfl, rfl, d⟩
 · refine sk g rfl <| nv fun q j => sr <| tm rfl <| tv (blt rfl rfl) rfl <| tm rfl <| TL.cut 6 fun k l => ?_
   have e {m} : ∀ w, St E H [c, bx f 35 [v2]] w → k (ovr m [(19, .bool (decide (a4 < 0 ∨ a4 ≥ (len a1.funcs))))]) w := by
    refine tlg l <| nz <| cD rfl hp (fun n hp => ?_) fun n hp => ?_
    · exact sr <| tv (mI u63 rfl) rfl <| ta rfl <| nz <| nH <| W.new0 <| rt hp [0] ⟨(.iface 63 (.int .i64 1)), ([] : FP), rfl, rfl, (ErO.mk _ : ErO 63 106 108 (GErr.code 1) (.iface 63 (.int .i64 1)) [])⟩
    · exact sk j rfl <| sr <| ta rfl <| nz <| nH <| W.new0 <| rt hp [0] ⟨.nilIface, ([] : FP), rfl, rfl, (ErO.nil : ErO 63 106 108 GErr.no .nilIface [])⟩
   by_cases a : a4 < 0
   · exact gn rfl (bT a) rfl rfl <| gn rfl (bT a) rfl rfl <| gn rfl (bT a) rfl rfl <| gn rfl (bT a) rfl rfl <| gn rfl (bT a) rfl rfl <| tv (pT (bT a)) rfl <| nj e (bOt a)
   · exact gy rfl (bF a) <| tm rfl <| gy rfl (bF a) <| tv (fa oS rfl) rfl <| gy rfl (bF a) <| tv (lb s33 1 rfl rfl rfl) rfl <| gy rfl (bF a) <| tv (ln u33 b rfl) rfl <| gy rfl (bF a) <| tv (bge rfl rfl) rfl <| tv (pF (bF a)) rfl <| nj e (bOf a)
end Go.Proofs.Ytpmcbahahjelnaa
namespace Go.Proofs.Ytpmcbahahjelnaa
open Go Go.Proofs
/-! ### fettle/live.table -/
abbrev pO.R (r : List (List Bool)) (v : Value) (A : List FP) : Prop := ∃ (w1 : Value) (a : FP), w1 = v ∧ A = [a] ∧ SlO 58 (kSl 4 kBool) r w1 a
def pO.nx9  (a : List (List Bool)) : Option (List (List Bool)) :=
  some a
def pO.bd9 (a1 : nA) (c : List (List Bool)) (b : List (List Bool)) (a : Int) : Option (Ex (List (List Bool)) (List (List Bool) × Int)) :=
  if a < (len c) then
    (mkl (len a1.regs) false).bind fun d =>
    (idx b a).bind fun e =>
    some (.go ((b.set (a).toNat d), (w64 (a + 1))))
  else
    some (.ret b)
def pO (a1 : nA) : Option (List (List Bool)) :=
  (mkl (len a1.blocks) ([] : List Bool)).bind fun a =>
  (whl (fun (s : (List (List Bool) × Int)) => pO.bd9 a1 a s.1 s.2) nB (a, 0)).bind fun z =>
  pO.nx9 z
theorem tZ {E : World} {H : FP} {w : World} {a1 : nA} {v2 : Value} {c : Value} {r : List (List Bool)} (t : SlI (nt .i64) H a1.regs v2) (x : SlI nW H a1.blocks c) (hp : pO a1 = some r) (hst : St E H [] w) :
    Fn Try.prog 64 #[.agg #[.int .i64 a1.params, .int .i64 a1.result, v2, c]] w fun v w' => ∃ A, pO.R r v A ∧ St E H A w' := by
 refine fb 23 [.tmp 2] Try.func64 rfl rfl rfl rfl rfl hst <| sr <| tb [.int .i64 a1.params, .int .i64 a1.result, v2, c] rfl rfl fun l => ta rfl <| nz <| sr <| tv (fa n6 rfl) rfl <| tv (lb s39 0 rfl rfl rfl) rfl <| tv (ln u39 x rfl) rfl <| tk (k := (kSl 4 kBool)) u85 i58 hp ⟨_, rfl, SlO.nil 4⟩ rfl rfl rfl rfl rfl rfl fun m b y n hp => ta rfl <| nz <| nv fun z B => sr <| tm rfl <| tv (ln u85 n.ro rfl) rfl <| tm rfl <| nz <| nC <| bE hp fun C D F => ?_
 have G {g h I} (J : SlO 58 (kSl 4 kBool) g b h) (K : g = C) : ∀ w, St E H [h] w → z (ovr I [(3, b)]) w := by
  subst K
  replace hp : pO.nx9 g = some r := F
  exact tg B <| sr <| tm rfl <| ta rfl <| nz <| nH <| rt hp [0] ⟨b, h, rfl, rfl, J⟩
 refine lp D [1, 0] rfl (fun s e L => ∃ d f i o, s = (d, f) ∧ SlO 58 (kSl 4 kBool) d b i ∧ e = ovr o [(1, .pointer (some ⟨l, 0, none⟩)), (3, b), (10, .int .i64 (len m)), (11, .int .i64 f)] ∧ L = [bx l 41 [.int .i64 a1.params, .int .i64 a1.result, v2, c], i]) ⟨_, _, y, _, rfl, n, nD _ _ rfl, rfl⟩ ?_
 rintro _ _ _ ⟨d, f, i, o, rfl, j, rfl, rfl⟩ M hp N
 replace hp : pO.bd9 a1 m d f = some M := hp
 refine sr <| tv (blt rfl rfl) rfl <| nz <| nv fun W O => cD rfl hp (fun P hp => ?_) fun P hp => ?_
 · exact sk O rfl <| nv fun X Q => nC <| sr <| tm rfl <| ta rfl <| nz <| nG <| tm rfl <| tm rfl <| tv (fa oV rfl) rfl <| tv (lb s25 0 rfl rfl rfl) rfl <| tv (ln u25 t rfl) rfl <| tk (k := kBool) u58 i4 hp ⟨rfl, rfl⟩ rfl rfl rfl rfl rfl rfl fun S p Y q hp => tO u85 i58 j hp rfl rfl rfl rfl fun Z aa ab T hp => tp [2, 0, 1] [_,_,_] rfl rfl <| TL.stE (ds := [p]) (u := p) (a := S) j T m58 rfl rfl (SlO.cells q) ⟨_, rfl, q⟩ fun U V => nl <| tg Q <| nG <| tv (bad rfl rfl) rfl <| tm rfl <| nl <| gk hp [1, 0] ⟨_, _, U, _, rfl, V, nD _ _ rfl, rfl⟩
 · exact nN <| jn [1] (G j (nJ hp N))
/-! ### fettle/live.begin -/
abbrev ow.R (r : List Bool) (v : Value) (A : List FP) : Prop := ∃ (w1 : Value) (a : FP), w1 = v ∧ A = [a] ∧ SlO 4 kBool r w1 a
def ow.nx22  (a : List Bool) : Option (List Bool) :=
  some a
def ow.bd22 (a1 : ny) (a : List Bool) (b : Int) : Option (Ex (List Bool) (List Bool × Int)) :=
  if b < (len a1.phis) then
    (idx a1.phis b).bind fun c =>
    (idx a c.dst).bind fun d =>
    some (.go ((a.set (c.dst).toNat false), (w64 (b + 1))))
  else
    some (.ret a)
def ow.nx13 (a1 : ny) (a : List Bool) : Option (List Bool) :=
  (whl (fun (s : (List Bool × Int)) => ow.bd22 a1 s.1 s.2) nB (a, 0)).bind fun z =>
  ow.nx22 z
def ow.nx52 (a : Int) (b : List Bool) : Option (Ex (List Bool) (List Bool × Int)) :=
  some (.go (b, (w64 (a - 1))))
def ow.bd52 (c : nO) (a : List Bool) (b : Int) : Option (Ex (List Bool) (List Bool × Int)) :=
  if b < (len c.args) then
    (idx c.args b).bind fun d =>
    (idx a d).bind fun e =>
    some (.go ((a.set (d).toNat true), (w64 (b + 1))))
  else
    some (.ret a)
def ow.jn46 (a : Int) (b : nO) (c : List Bool) : Option (Ex (List Bool) (List Bool × Int)) :=
  (whl (fun (s : (List Bool × Int)) => ow.bd52 b s.1 s.2) nB (c, 0)).bind fun z =>
  ow.nx52 a z
def ow.bd13 (a1 : ny) (b : List Bool) (c : Int) : Option (Ex (List Bool) (List Bool × Int)) :=
  if c ≥ 0 then
    (idx a1.ins c).bind fun a =>
    if a.dst ≥ 0 then
      (idx b a.dst).bind fun d =>
      ow.jn46 c a (b.set (a.dst).toNat false)
    else
      ow.jn46 c a b
  else
    some (.ret b)
def ow.jn5 (a1 : ny) (a : List Bool) : Option (List Bool) :=
  (whl (fun (s : (List Bool × Int)) => ow.bd13 a1 s.1 s.2) nB (a, (w64 ((len a1.ins) - 1)))).bind fun z =>
  ow.nx13 a1 z
def ow (a1 : ny) (a8 : List Bool) : Option (List Bool) :=
  (mkl (len a8) false).bind fun a =>
  if a1.term.arg ≥ 0 then
    (idx (cpy a a8) a1.term.arg).bind fun b =>
    ow.jn5 a1 ((cpy a a8).set (a1.term.arg).toNat true)
  else
    ow.jn5 a1 (cpy a a8)
set_option maxHeartbeats 4000000 in
theorem wS {E : World} {H : FP} {w : World} {a1 : ny} {a8 : List Bool} {v2 : Value} {d : Value} {f : Value} {N : Value} {r : List Bool} (O : SlI o0 H a1.phis v2) (P : SlI oK H a1.ins d) (bk : SlI (nt .i64) H a1.term.to f) (Q : SlI kBool H a8 N) (hp : ow a1 a8 = some r) (hst : St E H [] w) :
    Fn Try.prog 65 #[.agg #[v2, d, .int .i64 a1.term.kind, .int .i64 a1.term.arg, f], N] w fun v w' => ∃ A, ow.R r v A ∧ St E H A w' := by
 refine fb 71 [.tmp 4] Try.func65 rfl rfl rfl rfl rfl hst <| sr <| tb [v2, d, .int .i64 a1.term.kind, .int .i64 a1.term.arg, f] rfl rfl fun c => ta rfl <| nz <| sr <| tm rfl <| tv (ln u58 Q rfl) rfl <| tk (k := kBool) u58 i4 hp ⟨rfl, rfl⟩ rfl rfl rfl rfl rfl rfl fun bl a bm ac hp => ta rfl <| nz <| sr <| tm rfl <| tm rfl <| TL.copy fBool u58 i4 (ltb rfl) rfl rfl rfl rfl ac Q sH fun bn p => nz <| nv fun ad ae => ?_
 have S {T q af} (ag : SlO 4 kBool T a q) (hp : ow.jn5 a1 T = some r) : ∀ w, St E H [bx c 50 [v2, d, .int .i64 a1.term.kind, .int .i64 a1.term.arg, f], q] w → ad (ovr af [(2, .pointer (some ⟨c, 0, none⟩)), (5, a)]) w := by
  refine tg ae <| nv fun ah ai => sr <| tv (fa ou rfl) rfl <| tv (lb s48 0 rfl rfl rfl) rfl <| tv (ln u48 P rfl) rfl <| tv (bsu rfl rfl) rfl <| ta rfl <| nz <| nC <| bE hp fun aj ak al => ?_
  have am {t u an} (ao : SlO 4 kBool t a u) (ap : t = aj) : ∀ w, St E H [bx c 50 [v2, d, .int .i64 a1.term.kind, .int .i64 a1.term.arg, f], u] w → ah (ovr an [(2, .pointer (some ⟨c, 0, none⟩)), (5, a)]) w := by
   subst ap
   replace hp : ow.nx13 a1 t = some r := al
   refine tg ai <| nv fun aq ar => sr <| tv (fa oL rfl) rfl <| tv (lb s47 0 rfl rfl rfl) rfl <| tv (ln u47 O rfl) rfl <| tm rfl <| nz <| nC <| bE hp fun au av aw => ?_
   have ax {x y ay} (az : SlO 4 kBool x a y) (aA : x = au) : ∀ w, St E H [y] w → aq (ovr ay [(5, a)]) w := by
    subst aA
    replace hp : ow.nx22 x = some r := aw
    exact tg ar <| sr <| tm rfl <| ta rfl <| nz <| nH <| rt hp [0] ⟨a, y, rfl, rfl, az⟩
   refine lp av [1] rfl (fun s e L => ∃ h i z U, s = (h, i) ∧ SlO 4 kBool h a z ∧ e = ovr U [(5, a), (59, v2), (60, .int .i64 (len a1.phis)), (61, .int .i64 i)] ∧ L = [z]) ⟨_, _, u, _, rfl, ao, nD _ _ rfl, rfl⟩ ?_
   rintro _ _ _ ⟨h, i, z, U, rfl, B, rfl, rfl⟩ aB hp aC
   replace hp : ow.bd22 a1 h i = some aB := hp
   refine sr <| tv (blt rfl rfl) rfl <| nz <| nv fun bo aD => cD rfl hp (fun aE hp => ?_) fun aE hp => ?_
   · refine sk aD rfl <| nv fun bp aF => nC <| sr <| ti u47 i70 O hp rfl rfl rfl rfl ?_
     rintro V bq br _ hp ⟨W, rfl, aG⟩ aH
     exact tv (lR (ds := [.int .i64 V.dst, W]) qp sH aH 0 rfl rfl rfl) rfl <| tl i70 rfl fun bs => tS 0 m70 rfl rfl [.int .i64 V.dst, W] rfl (oc rfl (oc (aG).one oc0)) rfl rfl <| nz <| nG <| tm rfl <| tv (fa qx rfl) rfl <| tv (lb s3 0 rfl rfl rfl) rfl <| tO u58 i4 B hp rfl rfl rfl rfl fun bt bu bv aI hp => tp [1, 0] [_,_] rfl rfl <| tE B aI m4 rfl ⟨rfl, rfl⟩ w1 fun aJ aK => nl <| tg aF <| nG <| tv (bad rfl rfl) rfl <| tm rfl <| nl <| gk hp [0] ⟨_, _, aJ, _, rfl, aK, nD _ _ rfl, rfl⟩
   · exact nN <| jn [0] (ax B (nJ hp aC))
  refine lp ak [0, 1] rfl (fun s e L => ∃ j g C X, s = (j, g) ∧ SlO 4 kBool j a C ∧ e = ovr X [(2, .pointer (some ⟨c, 0, none⟩)), (5, a), (6, .int .i64 g)] ∧ L = [bx c 50 [v2, d, .int .i64 a1.term.kind, .int .i64 a1.term.arg, f], C]) ⟨_, _, q, _, rfl, ag, nD _ _ rfl, rfl⟩ ?_
  rintro _ _ _ ⟨j, g, C, X, rfl, l, rfl, rfl⟩ D hp aL
  replace hp : ow.bd13 a1 j g = some D := hp
  refine nv fun bw aM => sr <| tm rfl <| tv (bge rfl rfl) rfl <| nz <| cD rfl hp (fun aN hp => ?_) fun aN hp => ?_
  · refine sk aM rfl <| nv fun aO aP => nC <| sr <| tv (fa ou rfl) rfl <| tv (lb s48 0 rfl rfl rfl) rfl <| tm rfl <| ti u48 i52 P hp rfl rfl rfl rfl ?_
    rintro b bz bA _ hp ⟨m, rfl, F⟩ aQ
    refine tv (lR (ds := [.int .i64 b.op, .int .i64 b.dst, m, .int .i64 b.imm, .int .i64 b.fn]) pi sH aQ 0 rfl rfl rfl) rfl <| tl i52 rfl fun Y => tS 0 m52 rfl rfl [.int .i64 b.op, .int .i64 b.dst, m, .int .i64 b.imm, .int .i64 b.fn] rfl (oc rfl (oc rfl (oc (F).one (oc rfl (oc rfl oc0))))) rfl rfl <| nz <| nv fun aR aS => ?_
    have Z {aa G aT} (aU : SlO 4 kBool aa a G) (hp : ow.jn46 g b aa = some D) : ∀ w, St E H [bx c 50 [v2, d, .int .i64 a1.term.kind, .int .i64 a1.term.arg, f], G, bx Y 52 [.int .i64 b.op, .int .i64 b.dst, m, .int .i64 b.imm, .int .i64 b.fn]] w → aR (ovr aT [(2, .pointer (some ⟨c, 0, none⟩)), (5, a), (6, .int .i64 g), (7, .pointer (some ⟨Y, 0, none⟩))]) w := by
     refine tg aS <| sr <| tv (fa o9 rfl) rfl <| tv (lb s25 2 rfl rfl rfl) rfl <| tv (ln u25 F rfl) rfl <| tm rfl <| nz <| nC <| bE hp fun aV aW aX => ?_
     have aY {I J aZ} (a0 : SlO 4 kBool I a J) (a2 : I = aV) : ∀ w, St E H [bx c 50 [v2, d, .int .i64 a1.term.kind, .int .i64 a1.term.arg, f], J] w → aO (ovr aZ [(2, .pointer (some ⟨c, 0, none⟩)), (5, a), (6, .int .i64 g)]) w := by
      subst a2
      replace hp : ow.nx52 g I = some D := aX
      exact tg aP <| nG <| tm rfl <| tv (bsu rfl rfl) rfl <| ta rfl <| nl <| gk hp [0, 1] ⟨_, _, J, _, rfl, a0, nD _ _ rfl, rfl⟩
     refine lp aW [0, 1] rfl (fun s e L => ∃ n o K ab, s = (n, o) ∧ SlO 4 kBool n a K ∧ e = ovr ab [(2, .pointer (some ⟨c, 0, none⟩)), (5, a), (6, .int .i64 g), (48, m), (49, .int .i64 (len b.args)), (50, .int .i64 o)] ∧ L = [bx c 50 [v2, d, .int .i64 a1.term.kind, .int .i64 a1.term.arg, f], K]) ⟨_, _, G, _, rfl, aU, nD _ _ rfl, rfl⟩ ?_
     rintro _ _ _ ⟨n, o, K, ab, rfl, M, rfl, rfl⟩ a3 hp a4
     replace hp : ow.bd52 b n o = some a3 := hp
     refine sr <| tv (blt rfl rfl) rfl <| nz <| nv fun bB a5 => cD rfl hp (fun a6 hp => ?_) fun a6 hp => ?_
     · refine sk a5 rfl <| nv fun bC a7 => nC <| sr <| ti u25 i3 F hp rfl rfl rfl rfl ?_
       rintro bD bF bG _ hp rfl a9
       exact tv (lr s3 sH a9 0 rfl rfl) rfl <| ta rfl <| nz <| nG <| tm rfl <| tm rfl <| tO u58 i4 M hp rfl rfl rfl rfl fun bH bI bJ ba hp => tp [1, 0] [_,_] rfl rfl <| tE M ba m4 rfl ⟨rfl, rfl⟩ w1 fun bb bc => nl <| tg a7 <| nG <| tv (bad rfl rfl) rfl <| tm rfl <| nl <| gk hp [1, 0] ⟨_, _, bb, _, rfl, bc, nD _ _ rfl, rfl⟩
     · exact nN <| jn [0, 1] (aY M (nJ hp a4))
    refine sr <| tv (fa pj rfl) rfl <| tv (lb s3 0 rfl rfl rfl) rfl <| tv (bge rfl rfl) rfl <| nz <| cD rfl hp (fun be hp => ?_) fun be hp => ?_
    · exact nG <| tm rfl <| tv (fa pj rfl) rfl <| tv (lb s3 0 rfl rfl rfl) rfl <| tO u58 i4 l hp rfl rfl rfl rfl fun bK bL bM bf hp => tp [2, 0, 1] [_,_,_] rfl rfl <| tE l bf m4 rfl ⟨rfl, rfl⟩ w1 fun bN bg => nl <| jn [2, 0, 1] (Z bg hp)
    · exact TC.skip <| jn [1, 2, 0] (Z l hp)
  · exact nN <| jn [0, 1] (am l (nJ hp aL))
 refine sr <| tv (fa oP rfl) rfl <| tv (fa pJ rfl) rfl <| tv (lb s3 1 rfl rfl rfl) rfl <| tv (bge rfl rfl) rfl <| nz <| cD rfl hp (fun bh hp => ?_) fun bh hp => ?_
 · exact nG <| tm rfl <| tv (fa oP rfl) rfl <| tv (fa pJ rfl) rfl <| tv (lb s3 1 rfl rfl rfl) rfl <| tO u58 i4 p hp rfl rfl rfl rfl fun bO bP bQ bi hp => tE p bi m4 rfl ⟨rfl, rfl⟩ w1 fun bR bj => nl <| jn [1, 0] (S bj hp)
 · exact TC.skip <| jn [1, 0] (S p hp)
/-! ### fettle/live.Live -/
abbrev nM.R (r : List (List Bool) × List (List Bool) × GErr) (v : Value) (A : List FP) : Prop := ∃ (w1 : Value) (a : FP) (w2 : Value) (b : FP) (w3 : Value) (c : FP), .tuple #[w1, w2, w3] = v ∧ A = [a, b, c] ∧ SlO 58 (kSl 4 kBool) r.1 w1 a ∧ SlO 58 (kSl 4 kBool) r.2.1 w2 b ∧ ErO 63 106 108 r.2.2 w3 c
def nM.nx43  (a : List (List Bool)) (b : List (List Bool)) : Option (List (List Bool) × List (List Bool) × GErr) :=
  some (a, b, GErr.no)
def nM.nx57  (a : List (List Bool)) (b : List (List Bool)) (c : Bool) : Option (Ex (List (List Bool) × List (List Bool)) (List (List Bool) × List (List Bool) × Bool)) :=
  some (.go (a, b, c))
def nM.nx89 (a : Int) (b : List (List Bool)) (c : List (List Bool)) (d : Bool) : Option (Ex (List (List Bool) × List (List Bool) × Bool) (List (List Bool) × List (List Bool) × Bool × Int)) :=
  some (.go (c, b, d, (w64 (a - 1))))
def nM.jn99 (a : Int) (b : List (List Bool)) (c : Bool) : Option (Ex (List (List Bool) × Bool) (List (List Bool) × Bool × Int)) :=
  some (.go (b, c, (w64 (a + 1))))
def nM.bd89 (c : Int) (d : List Bool) (b : List (List Bool)) (e : Bool) (a : Int) : Option (Ex (List (List Bool) × Bool) (List (List Bool) × Bool × Int)) :=
  if a < (len d) then
    (idx d a).bind fun f =>
    (idx b c).bind fun h =>
    (idx h a).bind fun i =>
    if (!(f == i)) = true then
      (idx b c).bind fun g =>
      (idx g a).bind fun j =>
      nM.jn99 a (b.set (c).toNat (g.set (a).toNat f)) true
    else
      nM.jn99 a b e
  else
    some (.ret (b, e))
def nM.nx74 (c : nA) (d : List (List Bool)) (a : Int) (b : List (List Bool)) (e : Bool) : Option (Ex (List (List Bool) × List (List Bool) × Bool) (List (List Bool) × List (List Bool) × Bool × Int)) :=
  (idx c.blocks a).bind fun f =>
  (idx b a).bind fun g =>
  (ow f g).bind fun h =>
  (whl (fun (s : (List (List Bool) × Bool × Int)) => nM.bd89 a h s.1 s.2.1 s.2.2) nB (d, e, 0)).bind fun z =>
  nM.nx89 a b z.1 z.2
def nM.nx122 (a : Int) (b : List (List Bool)) (c : Bool) : Option (Ex (List (List Bool) × Bool) (List (List Bool) × Bool × Int)) :=
  some (.go (b, c, (w64 (a + 1))))
def nM.jn132 (a : Int) (b : List (List Bool)) (c : Bool) : Option (Ex (List (List Bool) × Bool) (List (List Bool) × Bool × Int)) :=
  some (.go (b, c, (w64 (a + 1))))
def nM.bd122 (c : Int) (d : List Bool) (b : List (List Bool)) (e : Bool) (a : Int) : Option (Ex (List (List Bool) × Bool) (List (List Bool) × Bool × Int)) :=
  if a < (len d) then
    (idx d a).bind fun g =>
    (if g = true then (idx b c).bind fun h =>
    (idx h a).bind fun i =>
    some (!i) else some false).bind fun j =>
    if j = true then
      (idx b c).bind fun f =>
      (idx f a).bind fun k =>
      nM.jn132 a (b.set (c).toNat (f.set (a).toNat true)) true
    else
      nM.jn132 a b e
  else
    some (.ret (b, e))
def nM.bd74 (e : List (List Bool)) (f : Int) (b : List Int) (c : List (List Bool)) (d : Bool) (a : Int) : Option (Ex (List (List Bool) × Bool) (List (List Bool) × Bool × Int)) :=
  if a < (len b) then
    (idx b a).bind fun g =>
    (idx e g).bind fun h =>
    (whl (fun (s : (List (List Bool) × Bool × Int)) => nM.bd122 f h s.1 s.2.1 s.2.2) nB (c, d, 0)).bind fun z =>
    nM.nx122 a z.1 z.2
  else
    some (.ret (c, d))
def nM.bd57 (e : nA) (f : List (List Int)) (b : List (List Bool)) (c : List (List Bool)) (d : Bool) (a : Int) : Option (Ex (List (List Bool) × List (List Bool) × Bool) (List (List Bool) × List (List Bool) × Bool × Int)) :=
  if a ≥ 0 then
    (idx f a).bind fun g =>
    (whl (fun (s : (List (List Bool) × Bool × Int)) => nM.bd74 b a g s.1 s.2.1 s.2.2) nB (c, d, 0)).bind fun z =>
    nM.nx74 e b a z.1 z.2
  else
    some (.ret (b, c, d))
def nM.bd43 (a : nA) (d : List (List Int)) (b : List (List Bool)) (c : List (List Bool)) (e : Bool) : Option (Ex (List (List Bool) × List (List Bool)) (List (List Bool) × List (List Bool) × Bool)) :=
  if e = true then
    (whl (fun (s : (List (List Bool) × List (List Bool) × Bool × Int)) => nM.bd57 a d s.1 s.2.1 s.2.2.1 s.2.2.2) nB (b, c, false, (w64 ((len a.blocks) - 1)))).bind fun z =>
    nM.nx57 z.1 z.2.1 z.2.2
  else
    some (.ret (b, c))
def nM.nx34 (a : nA) (b : List (List Int)) (c : List (List Bool)) (d : List (List Bool)) : Option (List (List Bool) × List (List Bool) × GErr) :=
  (whl (fun (s : (List (List Bool) × List (List Bool) × Bool)) => nM.bd43 a b s.1 s.2.1 s.2.2) nB (c, d, true)).bind fun z =>
  nM.nx43 z.1 z.2
def nM.nx166 (a : Int) (b : List (List Bool)) : Option (Ex (List (List Bool)) (List (List Bool) × Int)) :=
  some (.go (b, (w64 (a + 1))))
def nM.nx181 (a : Int) (b : List (List Bool)) : Option (Ex (List (List Bool)) (List (List Bool) × Int)) :=
  some (.go (b, (w64 (a + 1))))
def nM.bd181 (g : List (List Int)) (h : Int) (c : PPhi) (b : List (List Bool)) (a : Int) : Option (Ex (List (List Bool)) (List (List Bool) × Int)) :=
  if a < (len c.args) then
    (idx c.args a).bind fun d =>
    (idx g h).bind fun i =>
    (idx i a).bind fun e =>
    (idx b e).bind fun f =>
    (idx f d).bind fun j =>
    some (.go ((b.set (e).toNat (f.set (d).toNat true)), (w64 (a + 1))))
  else
    some (.ret b)
def nM.bd166 (d : List (List Int)) (e : Int) (b : ny) (c : List (List Bool)) (a : Int) : Option (Ex (List (List Bool)) (List (List Bool) × Int)) :=
  if a < (len b.phis) then
    (idx b.phis a).bind fun f =>
    (whl (fun (s : (List (List Bool) × Int)) => nM.bd181 d e f s.1 s.2) nB (c, 0)).bind fun z =>
    nM.nx181 a z
  else
    some (.ret c)
def nM.bd34 (b : nA) (d : List (List Int)) (c : List (List Bool)) (a : Int) : Option (Ex (List (List Bool)) (List (List Bool) × Int)) :=
  if a < (len b.blocks) then
    (idx b.blocks a).bind fun e =>
    (whl (fun (s : (List (List Bool) × Int)) => nM.bd166 d a e s.1 s.2) nB (c, 0)).bind fun z =>
    nM.nx166 a z
  else
    some (.ret c)
def nM (a1 : nT) (a4 : Int) : Option (List (List Bool) × List (List Bool) × GErr) :=
  (qL a1 a4).bind fun b =>
  if ¬ b = GErr.no then
    some (([] : List (List Bool)), ([] : List (List Bool)), b)
  else
    (idx a1.funcs a4).bind fun a =>
    (oM a).bind fun c =>
    (oH a).bind fun d =>
    (pO a).bind fun e =>
    (pO a).bind fun f =>
    (whl (fun (s : (List (List Bool) × Int)) => nM.bd34 a d s.1 s.2) nB (f, 0)).bind fun z =>
    nM.nx34 a c e z
set_option maxHeartbeats 4000000 in
theorem wT {E : World} {H : FP} {w : World} {a1 : nT} {a4 : Int} {v2 : Value} {r : List (List Bool) × List (List Bool) × GErr} (a9 : SlI oB H a1.funcs v2) (hp : nM a1 a4 = some r) (hst : St E H [] w) :
    Fn Try.prog 40 #[.agg #[v2], .int .i64 a4] w fun v w' => ∃ A, nM.R r v A ∧ St E H A w' := by
 refine fb 166 [.tmp 4, .tmp 5, .tmp 6] Try.func40 rfl rfl rfl rfl rfl hst <| sr <| tb [v2] rfl rfl fun ba => ta rfl <| ta rfl <| ta rfl <| nz <| nv fun eR bX => sr <| tv (lA (ds := [v2]) pc 0 rfl rfl rfl rfl) rfl <| tm rfl <| bE hp fun eS hy3 hp => tc 0 [_] rfl c63 (fun _ => wR (a1 := a1) (a4 := a4) (a9.mono nw) hy3) rfl ?_
 rintro _ _ ⟨bY, aq, rfl, rfl, bb⟩
 refine ta rfl <| nz <| sr <| tm rfl <| tv (pI pp bb rfl) rfl <| nz <| cD rfl hp (fun bZ hp => ?_) fun bZ hp => ?_
 · exact sr <| tm rfl <| ta rfl <| ta rfl <| ta rfl <| nz <| nH <| W.new0 <| W.new0 <| rt hp [1, 0, 2] ⟨(.slice none 0 0), ([] : FP), (.slice none 0 0), ([] : FP), bY, aq, rfl, rfl, (SlO.nil 58), (SlO.nil 58), bb⟩
 · refine sk bX rfl <| sr <| tv (fa oS rfl) rfl <| tv (lb s33 1 rfl rfl rfl) rfl <| tm rfl <| ti u33 i41 a9 hp rfl rfl rfl rfl ?_
   rintro d eT eU _ hp ⟨i, h, rfl, I, q⟩ b0
   refine tv (lR (ds := [.int .i64 d.params, .int .i64 d.result, i, h]) n9 sH b0 0 rfl rfl rfl) rfl <| tl i41 rfl fun f => tS 0 m41 rfl rfl [.int .i64 d.params, .int .i64 d.result, i, h] rfl (oc rfl (oc rfl (oc (I).one (oc (q).one oc0)))) rfl rfl <| nz <| nv fun eV b1 => ch mix [bx f 41 [.int .i64 d.params, .int .i64 d.result, i, h], aq, bx ba 35 [v2]] (nq 0 rfl (nq 1 rfl (nq 2 rfl ns))) <| hv 0 rfl (lAG (ds := [.int .i64 d.params, .int .i64 d.result, i, h]) n9 0 rfl rfl rfl rfl) (by kernel_rfl) rfl <| hv 2 rfl (lAG (ds := [.int .i64 d.params, .int .i64 d.result, i, h]) n9 0 rfl rfl rfl rfl) (by kernel_rfl) rfl <| ho 1 rfl (by kernel_rfl) fun eW b2 => bE hp fun ar hy11 hp => tc 0 [_,_,_] rfl c58 (fun _ => rI (a1 := d) (I.mono nw) (q.mono nw) hy11) rfl ?_
   rintro _ _ ⟨m, k, rfl, rfl, b3⟩
   refine hk b2 (nq 1 rfl (nq 2 rfl (nq 3 rfl ns))) <| ho 3 rfl (by kernel_rfl) fun eX b4 => bE hp fun au hy15 hp => tc 0 [_,_,_,_] rfl c27 (fun _ => rB (a1 := d) (I.mono nw) (q.mono nw) hy15) rfl ?_
   rintro _ _ ⟨J, D, rfl, rfl, b5⟩
   refine hk b4 (nq 2 rfl (nq 3 rfl (nq 4 rfl ns))) <| hv 4 rfl sg (by kernel_rfl) rfl <| hv 5 rfl sg (by kernel_rfl) rfl <| hz (by kernel_rfl) <| tg b1 <| nv fun eY b6 => ch mix [D, k, bx f 41 [.int .i64 d.params, .int .i64 d.result, i, h], aq, bx ba 35 [v2]] (nq 0 rfl (nq 1 rfl (nq 2 rfl (nq 3 rfl (nq 4 rfl ns))))) <| hv 0 rfl (lAG (ds := [.int .i64 d.params, .int .i64 d.result, i, h]) n9 2 rfl rfl rfl rfl) (by kernel_rfl) rfl <| hv 2 rfl (lAG (ds := [.int .i64 d.params, .int .i64 d.result, i, h]) n9 2 rfl rfl rfl rfl) (by kernel_rfl) rfl <| ho 1 rfl (by kernel_rfl) fun eZ b7 => bE hp fun b8 hy21 hp => tc 0 [_,_,_,_,_] rfl c64 (fun _ => tZ (a1 := d) (I.mono nw) (q.mono nw) hy21) rfl ?_
   rintro _ _ ⟨j, y, rfl, rfl, b9⟩
   refine hk b7 (nq 1 rfl (nq 2 rfl (nq 3 rfl (nq 4 rfl (nq 5 rfl ns))))) <| ho 3 rfl (by kernel_rfl) fun e0 ca => bE hp fun e1 hy25 hp => tc 0 [_,_,_,_,_,_] rfl c64 (fun _ => tZ (a1 := d) (I.mono nw) (q.mono nw) hy25) rfl ?_
   rintro _ _ ⟨g, cb, rfl, rfl, cc⟩
   refine hk ca (nq 2 rfl (nq 3 rfl (nq 4 rfl (nq 5 rfl (nq 6 rfl ns))))) <| hv 4 rfl sg (by kernel_rfl) rfl <| hv 5 rfl sg (by kernel_rfl) rfl <| hz (by kernel_rfl) <| tg b6 <| nv fun cd ce => sr <| tv (fa n6 rfl) rfl <| tv (lb s39 4 rfl rfl rfl) rfl <| tv (ln u39 q rfl) rfl <| tm rfl <| nz <| nC <| bE hp fun cf cg ci => ?_
   have cj {av aw ck} (cl : SlO 58 (kSl 4 kBool) av g aw) (cm : av = cf) : ∀ w, St E H [bx f 41 [.int .i64 d.params, .int .i64 d.result, i, h], k, y, aw] w → cd (ovr ck [(8, .pointer (some ⟨f, 0, none⟩)), (9, m), (11, j), (12, g)]) w := by
    subst cm
    replace hp : nM.nx34 d ar b8 av = some r := ci
    refine tg ce <| nv fun cn co => sr <| ta rfl <| nz <| nC <| bE hp fun cp cq cr => ?_
    have cs {ax ay az aA ct} (cu : SlO 58 (kSl 4 kBool) ax j az) (cv : SlO 58 (kSl 4 kBool) ay g aA) (cw : (ax, ay) = cp) : ∀ w, St E H [az, aA] w → cn (ovr ct [(11, j), (12, g)]) w := by
     subst cw
     replace hp : nM.nx43 ax ay = some r := cr
     exact tg co <| sr <| tm rfl <| tm rfl <| ta rfl <| ta rfl <| ta rfl <| nz <| nH <| W.new0 <| rt hp [1, 2, 0] ⟨j, az, g, aA, .nilIface, ([] : FP), rfl, rfl, cu, cv, (ErO.nil : ErO 63 106 108 GErr.no .nilIface [])⟩
    refine lp cq [0, 1, 2, 3] rfl (fun s e L => ∃ O P Q S T bc, s = (O, P, Q) ∧ SlO 58 (kSl 4 kBool) O j S ∧ SlO 58 (kSl 4 kBool) P g T ∧ e = ovr bc [(8, .pointer (some ⟨f, 0, none⟩)), (9, m), (11, j), (12, g), (19, .bool Q)] ∧ L = [bx f 41 [.int .i64 d.params, .int .i64 d.result, i, h], k, S, T]) ⟨_, _, _, y, aw, _, rfl, b9, cl, nD _ _ rfl, rfl⟩ ?_
    rintro _ _ _ ⟨O, P, Q, S, T, bc, rfl, be, bf, rfl, rfl⟩ bg hp cx
    replace hp : nM.bd43 d ar O P Q = some bg := hp
    refine nv fun e2 cy => sr <| tm rfl <| nz <| cB rfl hp (fun cz hp => ?_) fun cz hp => ?_
    · refine sk cy rfl <| qo fun cA cC => nC <| sr <| ta rfl <| nz <| sr <| tv (fa n6 rfl) rfl <| tv (lb s39 0 rfl rfl rfl) rfl <| tv (ln u39 q rfl) rfl <| tv (bsu rfl rfl) rfl <| ta rfl <| nz <| nC <| bE hp fun cE cF cG => ?_
      have cH {aB aC aD aE aF cI} (cJ : SlO 58 (kSl 4 kBool) aB j aE) (cK : SlO 58 (kSl 4 kBool) aC g aF) (cL : (aB, aC, aD) = cE) : ∀ w, St E H [bx f 41 [.int .i64 d.params, .int .i64 d.result, i, h], k, aE, aF] w → cA (ovr cI [(8, .pointer (some ⟨f, 0, none⟩)), (9, m), (11, j), (12, g), (19, .bool aD)]) w := by
       subst cL
       replace hp : nM.nx57 aB aC aD = some bg := cG
       exact viaK cC <| gk hp [0, 1, 2, 3] ⟨_, _, _, aE, aF, _, rfl, cJ, cK, nD _ _ rfl, rfl⟩
      refine lp cF [0, 1, 2, 3] rfl (fun s e L => ∃ F U V n p X bh, s = (F, U, V, n) ∧ SlO 58 (kSl 4 kBool) F j p ∧ SlO 58 (kSl 4 kBool) U g X ∧ e = ovr bh [(8, .pointer (some ⟨f, 0, none⟩)), (9, m), (11, j), (12, g), (19, .bool V), (20, .int .i64 n)] ∧ L = [bx f 41 [.int .i64 d.params, .int .i64 d.result, i, h], k, p, X]) ⟨_, _, _, _, S, T, _, rfl, be, bf, nD _ _ rfl, rfl⟩ ?_
      rintro _ _ _ ⟨F, U, V, n, p, X, bh, rfl, aG, bi, rfl, rfl⟩ aH hp cM
      replace hp : nM.bd57 d ar F U V n = some aH := hp
      refine nv fun e3 cN => sr <| tm rfl <| tv (bge rfl rfl) rfl <| nz <| cD rfl hp (fun cO hp => ?_) fun cO hp => ?_
      · refine sk cN rfl <| nv fun cP cQ => nC <| nv fun cR cS => sr <| tm rfl <| tm rfl <| ti u73 i25 (b3).ro hp rfl rfl rfl rfl ?_
        rintro G e4 e5 _ hp ⟨K, rfl, bj⟩ cT
        refine tv (lr s25 (Src.at_ 1 rfl) cT 0 rfl rfl) rfl <| tv (ln u25 bj rfl) rfl <| tm rfl <| nz <| nC <| bE hp fun cU cV cW => ?_
        have cX {Y aI z cY} (bk : SlO 58 (kSl 4 kBool) Y g z) (cZ : (Y, aI) = cU) : ∀ w, St E H [bx f 41 [.int .i64 d.params, .int .i64 d.result, i, h], k, p, z] w → cR (ovr cY [(8, .pointer (some ⟨f, 0, none⟩)), (9, m), (11, j), (12, g), (19, .bool aI), (20, .int .i64 n)]) w := by
         subst cZ
         replace hp : nM.nx74 d F n Y aI = some aH := cW
         refine tg cS <| nv fun e6 c0 => ch mix [bx f 41 [.int .i64 d.params, .int .i64 d.result, i, h], k, p, z] (nq 0 rfl (nq 1 rfl (nq 2 rfl (nq 3 rfl ns)))) <| hv 0 rfl (fa n6 rfl) (by kernel_rfl) rfl <| hv 1 rfl (lbG s39 0 rfl rfl rfl) (by kernel_rfl) rfl <| hv 2 rfl mv (by kernel_rfl) rfl <| hi 3 rfl u39 i50 q hp rfl rfl rfl (by kernel_rfl) rfl ?_
         rintro aJ e7 e8 _ hp ⟨c1, c2, c3, rfl, c4, c5, c6⟩ c7
         refine hv 4 rfl (lR (ds := [c1, c2, .int .i64 aJ.term.kind, .int .i64 aJ.term.arg, c3]) o5 srcInH c7 0 rfl rfl rfl) (by kernel_rfl) rfl <| hv 5 rfl mv (by kernel_rfl) rfl <| hv 6 rfl mv (by kernel_rfl) rfl <| hi 7 rfl u85 i58 (bk).ro hp rfl rfl rfl (by kernel_rfl) rfl ?_
         rintro c8 e9 fc _ hp ⟨fd, rfl, c9⟩ da
         refine hv 8 rfl (lr s58 (srcInG 3 rfl) da 0 rfl rfl) (by kernel_rfl) rfl <| hv 11 rfl mv (by kernel_rfl) rfl <| ho 9 rfl (by kernel_rfl) fun fe db => bE hp fun aK hy82 hp => tc 0 [_,_,_,_] rfl c65 (fun _ => wS (a1 := aJ) (a8 := c8) (c4.mono nw) (c5.mono nw) (c6.mono nw) (c9.mono (subB 3 rfl)) hy82) rfl ?_
         rintro _ _ ⟨bl, bm, rfl, rfl, bn⟩
         refine hk db (nq 1 rfl (nq 2 rfl (nq 3 rfl (nq 4 rfl ns)))) <| hv 10 rfl (ln u58 bn.ro rfl) (by kernel_rfl) rfl <| hz (by kernel_rfl) <| tg c0 <| nC <| bE hp fun dc dd de => ?_
         have df {aL aM aN dg} (dh : SlO 58 (kSl 4 kBool) aL j aN) (di : (aL, aM) = dc) : ∀ w, St E H [bx f 41 [.int .i64 d.params, .int .i64 d.result, i, h], k, aN, z] w → cP (ovr dg [(8, .pointer (some ⟨f, 0, none⟩)), (9, m), (11, j), (12, g), (19, .bool aM), (20, .int .i64 n)]) w := by
          subst di
          replace hp : nM.nx89 n Y aL aM = some aH := de
          exact tg cQ <| nG <| tm rfl <| tv (bsu rfl rfl) rfl <| ta rfl <| nl <| gk hp [0, 1, 2, 3] ⟨_, _, _, _, aN, z, _, rfl, dh, bk, nD _ _ rfl, rfl⟩
         refine lp dd [1, 2, 3, 4, 0] rfl (fun s e L => ∃ Z aa B aO bo, s = (Z, aa, B) ∧ SlO 58 (kSl 4 kBool) Z j aO ∧ e = ovr bo [(8, .pointer (some ⟨f, 0, none⟩)), (9, m), (11, j), (12, g), (19, .bool aa), (20, .int .i64 n), (140, bl), (141, .int .i64 (len aK)), (142, .int .i64 B)] ∧ L = [bx f 41 [.int .i64 d.params, .int .i64 d.result, i, h], k, aO, z, bm]) ⟨_, _, _, p, _, rfl, aG, nD _ _ rfl, rfl⟩ ?_
         rintro _ _ _ ⟨Z, aa, B, aO, bo, rfl, ab, rfl, rfl⟩ bp hp dj
         replace hp : nM.bd89 n aK Z aa B = some bp := hp
         refine sr <| tv (blt rfl rfl) rfl <| nz <| nv fun ff dk => cD rfl hp (fun dl hp => ?_) fun dl hp => ?_
         · refine sk dk rfl <| nv fun dm dn => ?_
           have bq {br bs aP dp} (dq : SlO 58 (kSl 4 kBool) br j aP) (hp : nM.jn99 B br bs = some bp) : ∀ w, St E H [bx f 41 [.int .i64 d.params, .int .i64 d.result, i, h], k, aP, z, bm] w → dm (ovr dp [(8, .pointer (some ⟨f, 0, none⟩)), (9, m), (11, j), (12, g), (19, .bool bs), (20, .int .i64 n), (140, bl), (141, .int .i64 (len aK)), (142, .int .i64 B)]) w := by
            exact tg dn <| nG <| tv (bad rfl rfl) rfl <| tm rfl <| nl <| gk hp [0, 1, 2, 3, 4] ⟨_, _, _, aP, _, rfl, dq, nD _ _ rfl, rfl⟩
           refine nC <| sr <| tm rfl <| ti u58 i4 (bn).ro hp rfl rfl rfl rfl ?_
           rintro bt fg fh _ hp rfl dr
           refine tv (lr s4 (Src.at_ 4 rfl) dr 0 rfl rfl) rfl <| ta rfl <| ta rfl <| nz <| sr <| tm rfl <| tm rfl <| tm rfl <| ti u85 i58 (ab).ro hp rfl rfl rfl rfl ?_
           rintro fi fj fk _ hp ⟨fl, rfl, dt⟩ du
           refine tv (lr s58 (Src.at_ 2 rfl) du 0 rfl rfl) rfl <| tm rfl <| ti u58 i4 dt hp rfl rfl rfl rfl ?_
           rintro dv fm fn _ hp rfl dw
           refine tv (lr s4 (Src.at_ 2 rfl) dw 0 rfl rfl) rfl <| tv (vr (b := bt) (c := dv) Try.underlying4 rfl rfl) rfl <| nz <| cB rfl hp (fun dx hp => ?_) fun dx hp => ?_
           · refine nG <| tm rfl <| tm rfl <| tp [2, 0, 1, 3, 4] [_,_,_,_,_] rfl rfl <| bE hp fun dy bu hp => TL.open_ ab bu ?_
             rintro fo _ fp fq aQ ⟨fr, rfl, bv⟩
             exact tv (oR u85 i58 rfl rfl (oA bu).1 aQ) rfl <| tv (lr s58 (Src.at_ 0 rfl) (Hole.cells aQ) 0 rfl rfl) rfl <| tm rfl <| tm rfl <| tO u58 i4 bv hp rfl rfl rfl rfl fun fs ft fu dz hp => tp [1, 0, 2, 3, 4, 5] [_,_,_,_,_,_] rfl rfl <| tE bv dz m4 rfl ⟨rfl, rfl⟩ w1 fun fv dA => ta rfl <| nl <| wp [1, 0, 2, 3, 4, 5] [_,_,_,_,_,_] rfl rfl <| W.shut (a := (dy.set (B).toNat bt)) aQ ⟨_, rfl, dA⟩ fun fw dB => jn [1, 2, 0, 3, 4] (bq dB hp)
           · exact TC.skip <| jn [0, 1, 2, 3, 4] (bq ab hp)
         · exact nN <| jn [0, 1, 2, 3] (df ab (nJ hp dj))
        refine lp cV [0, 1, 2, 3] rfl (fun s e L => ∃ ac ad t ae bw, s = (ac, ad, t) ∧ SlO 58 (kSl 4 kBool) ac g ae ∧ e = ovr bw [(8, .pointer (some ⟨f, 0, none⟩)), (9, m), (11, j), (12, g), (19, .bool ad), (20, .int .i64 n), (96, K), (97, .int .i64 (len G)), (98, .int .i64 t)] ∧ L = [bx f 41 [.int .i64 d.params, .int .i64 d.result, i, h], k, p, ae]) ⟨_, _, _, X, _, rfl, bi, nD _ _ rfl, rfl⟩ ?_
        rintro _ _ _ ⟨ac, ad, t, ae, bw, rfl, bz, rfl, rfl⟩ bA hp dC
        replace hp : nM.bd74 F n G ac ad t = some bA := hp
        refine sr <| tv (blt rfl rfl) rfl <| nz <| nv fun fx dD => cD rfl hp (fun dE hp => ?_) fun dE hp => ?_
        · refine sk dD rfl <| nv fun dF dG => nC <| sr <| ti u25 i3 bj hp rfl rfl rfl rfl ?_
          rintro fy fz fA _ hp rfl dH
          refine tv (lr s3 (Src.at_ 1 rfl) dH 0 rfl rfl) rfl <| ta rfl <| nz <| sr <| tm rfl <| tm rfl <| ti u85 i58 (aG).ro hp rfl rfl rfl rfl ?_
          rintro af fB fC _ hp ⟨aR, rfl, bB⟩ dI
          refine tv (lr s58 (Src.at_ 2 rfl) dI 0 rfl rfl) rfl <| tv (ln u58 bB rfl) rfl <| tm rfl <| nz <| nC <| bE hp fun dJ dK dL => ?_
          have dM {aS aT aU dN} (dO : SlO 58 (kSl 4 kBool) aS g aU) (dP : (aS, aT) = dJ) : ∀ w, St E H [bx f 41 [.int .i64 d.params, .int .i64 d.result, i, h], k, p, aU] w → dF (ovr dN [(8, .pointer (some ⟨f, 0, none⟩)), (9, m), (11, j), (12, g), (19, .bool aT), (20, .int .i64 n), (96, K), (97, .int .i64 (len G)), (98, .int .i64 t)]) w := by
           subst dP
           replace hp : nM.nx122 t aS aT = some bA := dL
           exact tg dG <| nG <| tv (bad rfl rfl) rfl <| tm rfl <| nl <| gk hp [0, 1, 2, 3] ⟨_, _, _, aU, _, rfl, dO, nD _ _ rfl, rfl⟩
          refine lp dK [0, 1, 2, 3] rfl (fun s e L => ∃ ag M u ah bC, s = (ag, M, u) ∧ SlO 58 (kSl 4 kBool) ag g ah ∧ e = ovr bC [(8, .pointer (some ⟨f, 0, none⟩)), (9, m), (11, j), (12, g), (19, .bool M), (20, .int .i64 n), (96, K), (97, .int .i64 (len G)), (98, .int .i64 t), (105, aR), (106, .int .i64 (len af)), (107, .int .i64 u)] ∧ L = [bx f 41 [.int .i64 d.params, .int .i64 d.result, i, h], k, p, ah]) ⟨_, _, _, ae, _, rfl, bz, nD _ _ rfl, rfl⟩ ?_
          rintro _ _ _ ⟨ag, M, u, ah, bC, rfl, ai, rfl, rfl⟩ bD hp dQ
          replace hp : nM.bd122 n af ag M u = some bD := hp
          refine sr <| tv (blt rfl rfl) rfl <| nz <| nv fun fD dR => cD rfl hp (fun dS hp => ?_) fun dS hp => ?_
          · refine sk dR rfl <| nv fun dT dU => ?_
            have bF {bG bH aV dV} (dW : SlO 58 (kSl 4 kBool) bG g aV) (hp : nM.jn132 u bG bH = some bD) : ∀ w, St E H [bx f 41 [.int .i64 d.params, .int .i64 d.result, i, h], k, p, aV] w → dT (ovr dV [(8, .pointer (some ⟨f, 0, none⟩)), (9, m), (11, j), (12, g), (19, .bool bH), (20, .int .i64 n), (96, K), (97, .int .i64 (len G)), (98, .int .i64 t), (105, aR), (106, .int .i64 (len af)), (107, .int .i64 u)]) w := by
             exact tg dU <| nG <| tv (bad rfl rfl) rfl <| tm rfl <| nl <| gk hp [0, 1, 2, 3] ⟨_, _, _, aV, _, rfl, dW, nD _ _ rfl, rfl⟩
            refine nC <| sr <| tm rfl <| ti u58 i4 bB hp rfl rfl rfl rfl ?_
            rintro fE fF fG _ hp rfl dX
            refine tv (lr s4 (Src.at_ 2 rfl) dX 0 rfl rfl) rfl <| ta rfl <| ta rfl <| nz <| sr <| tm rfl <| tm rfl <| bE hp fun dY ht142 hp => TL.cut 9 fun dZ d0 => ?_
            have bI {d1} : ∀ w, St E H [bx f 41 [.int .i64 d.params, .int .i64 d.result, i, h], k, p, ah] w → dZ (ovr d1 [(122, .bool dY), (8, .pointer (some ⟨f, 0, none⟩)), (9, m), (11, j), (12, g), (19, .bool M), (20, .int .i64 n), (23, .int .i64 u), (96, K), (97, .int .i64 (len G)), (98, .int .i64 t), (105, aR), (106, .int .i64 (len af)), (107, .int .i64 u)]) w := by
             refine tlg d0 <| nz <| cB rfl hp (fun d2 hp => ?_) fun d2 hp => ?_
             · refine nG <| tm rfl <| tm rfl <| tp [3, 0, 1, 2] [_,_,_,_] rfl rfl <| bE hp fun d3 bJ hp => TL.open_ ai bJ ?_
               rintro fH _ fI fJ aW ⟨fK, rfl, bK⟩
               exact tv (oR u85 i58 rfl rfl (oA bJ).1 aW) rfl <| tv (lr s58 (Src.at_ 0 rfl) (Hole.cells aW) 0 rfl rfl) rfl <| tm rfl <| tO u58 i4 bK hp rfl rfl rfl rfl fun fL fM fN d4 hp => tp [1, 0, 2, 3, 4] [_,_,_,_,_] rfl rfl <| tE bK d4 m4 rfl ⟨rfl, rfl⟩ w1 fun fO d5 => ta rfl <| nl <| wp [1, 0, 2, 3, 4] [_,_,_,_,_] rfl rfl <| W.shut (a := (d3.set (u).toNat true)) aW ⟨_, rfl, d5⟩ fun fP d6 => jn [1, 2, 3, 0] (bF d6 hp)
             · exact TC.skip <| jn [0, 1, 2, 3] (bF ai hp)
            refine ifE ht142 (fun l hp => ?_) fun l hp => ?_
            · refine gy rfl (bbT l) <| tm rfl <| gy rfl (bbT l) <| tm rfl <| gy rfl (bbT l) <| ti u85 i58 (ai).ro hp rfl rfl rfl rfl ?_
              rintro fQ fR fS _ hp ⟨fT, rfl, d7⟩ d8
              refine gy rfl (bbT l) <| tv (lr s58 (Src.at_ 3 rfl) d8 0 rfl rfl) rfl <| gy rfl (bbT l) <| tm rfl <| gy rfl (bbT l) <| ti u58 i4 d7 hp rfl rfl rfl rfl ?_
              rintro fU fV fW _ hp rfl d9
              refine gy rfl (bbT l) <| tv (lr s4 (Src.at_ 3 rfl) d9 0 rfl rfl) rfl <| gy rfl (bbT l) <| tv (oO rfl) rfl <| tv (pT (bbT l)) rfl ?_
              obtain rfl := Option.some.inj hp
              exact nj bI rfl
            · refine gn rfl (bbF l) rfl rfl <| gn rfl (bbF l) rfl rfl <| gn rfl (bbF l) rfl rfl <| gn rfl (bbF l) rfl rfl <| gn rfl (bbF l) rfl rfl <| gn rfl (bbF l) rfl rfl <| gn rfl (bbF l) rfl rfl <| gn rfl (bbF l) rfl rfl <| tv (pF (bbF l)) rfl ?_
              obtain rfl := Option.some.inj hp
              exact nj bI rfl
          · exact nN <| jn [0, 1, 2, 3] (dM ai (nJ hp dQ))
        · exact nN <| jn [0, 1, 2, 3] (cX bz (nJ hp dC))
      · exact nN <| jn [0, 1, 2, 3] (cH aG bi (nJ hp cM))
    · exact nN <| jn [2, 3] (cs be bf (nJ hp cx))
   refine lp cg [4, 3, 2, 1, 0] rfl (fun s e L => ∃ aj o ak bL, s = (aj, o) ∧ SlO 58 (kSl 4 kBool) aj g ak ∧ e = ovr bL [(8, .pointer (some ⟨f, 0, none⟩)), (9, m), (10, J), (11, j), (12, g), (47, h), (48, .int .i64 (len d.blocks)), (49, .int .i64 o)] ∧ L = [bx f 41 [.int .i64 d.params, .int .i64 d.result, i, h], k, D, y, ak]) ⟨_, _, cb, _, rfl, cc, nD _ _ rfl, rfl⟩ ?_
   rintro _ _ _ ⟨aj, o, ak, bL, rfl, bM, rfl, rfl⟩ bN hp ea
   replace hp : nM.bd34 d au aj o = some bN := hp
   refine sr <| tv (blt rfl rfl) rfl <| nz <| nv fun fX eb => cD rfl hp (fun ec hp => ?_) fun ec hp => ?_
   · refine sk eb rfl <| nv fun ed ee => nC <| sr <| tm rfl <| ti u39 i50 q hp rfl rfl rfl rfl ?_
     rintro x fY fZ _ hp ⟨N, bO, bP, rfl, aX, ef, eg⟩ eh
     refine tv (lR (ds := [N, bO, .int .i64 x.term.kind, .int .i64 x.term.arg, bP]) o5 sH eh 0 rfl rfl rfl) rfl <| tl i50 rfl fun f0 => ta rfl <| tS 0 m50 rfl rfl [N, bO, .int .i64 x.term.kind, .int .i64 x.term.arg, bP] rfl (oc (aX).one (oc (ef).one (oc rfl (oc rfl (oc (eg).one oc0))))) rfl rfl <| nz <| sr <| tv (fa oL rfl) rfl <| tv (lb s47 0 rfl rfl rfl) rfl <| tv (ln u47 aX rfl) rfl <| tm rfl <| nz <| nC <| bE hp fun ei ej ek => ?_
     have el {aY aZ em} (en : SlO 58 (kSl 4 kBool) aY g aZ) (eo : aY = ei) : ∀ w, St E H [bx f 41 [.int .i64 d.params, .int .i64 d.result, i, h], k, D, y, aZ] w → ed (ovr em [(8, .pointer (some ⟨f, 0, none⟩)), (9, m), (10, J), (11, j), (12, g), (47, h), (48, .int .i64 (len d.blocks)), (49, .int .i64 o)]) w := by
      subst eo
      replace hp : nM.nx166 o aY = some bN := ek
      exact tg ee <| nG <| tv (bad rfl rfl) rfl <| tm rfl <| nl <| gk hp [0, 1, 2, 3, 4] ⟨_, _, aZ, _, rfl, en, nD _ _ rfl, rfl⟩
     refine lp ej [1, 2, 3, 4, 5] rfl (fun s e L => ∃ al C am bQ, s = (al, C) ∧ SlO 58 (kSl 4 kBool) al g am ∧ e = ovr bQ [(8, .pointer (some ⟨f, 0, none⟩)), (9, m), (10, J), (11, j), (12, g), (13, .int .i64 o), (47, h), (48, .int .i64 (len d.blocks)), (49, .int .i64 o), (55, N), (56, .int .i64 (len x.phis)), (57, .int .i64 C)] ∧ L = [bx f 41 [.int .i64 d.params, .int .i64 d.result, i, h], k, D, y, am]) ⟨_, _, ak, _, rfl, bM, nD _ _ rfl, rfl⟩ ?_
     rintro _ _ _ ⟨al, C, am, bQ, rfl, bR, rfl, rfl⟩ bS hp ep
     replace hp : nM.bd166 au o x al C = some bS := hp
     refine sr <| tv (blt rfl rfl) rfl <| nz <| nv fun f1 eq => cD rfl hp (fun er hp => ?_) fun er hp => ?_
     · refine sk eq rfl <| nv fun es et => nC <| sr <| ti u47 i70 aX hp rfl rfl rfl rfl ?_
       rintro an f2 f3 _ hp ⟨a0, rfl, a2⟩ eu
       refine tv (lR (ds := [.int .i64 an.dst, a0]) qp sH eu 0 rfl rfl rfl) rfl <| tl i70 rfl fun f4 => tS 0 m70 rfl rfl [.int .i64 an.dst, a0] rfl (oc rfl (oc (a2).one oc0)) rfl rfl <| nz <| sr <| tv (fa p5 rfl) rfl <| tv (lb s25 0 rfl rfl rfl) rfl <| tv (ln u25 a2 rfl) rfl <| tm rfl <| nz <| nC <| bE hp fun ev ew ex => ?_
       have ey {a3 a5 ez} (eA : SlO 58 (kSl 4 kBool) a3 g a5) (eB : a3 = ev) : ∀ w, St E H [bx f 41 [.int .i64 d.params, .int .i64 d.result, i, h], k, D, y, a5] w → es (ovr ez [(8, .pointer (some ⟨f, 0, none⟩)), (9, m), (10, J), (11, j), (12, g), (13, .int .i64 o), (47, h), (48, .int .i64 (len d.blocks)), (49, .int .i64 o), (55, N), (56, .int .i64 (len x.phis)), (57, .int .i64 C)]) w := by
        subst eB
        replace hp : nM.nx181 C a3 = some bS := ex
        exact tg et <| nG <| tv (bad rfl rfl) rfl <| tm rfl <| nl <| gk hp [0, 1, 2, 3, 4] ⟨_, _, a5, _, rfl, eA, nD _ _ rfl, rfl⟩
       refine lp ew [1, 2, 3, 4, 5] rfl (fun s e L => ∃ ao ap a6 bT, s = (ao, ap) ∧ SlO 58 (kSl 4 kBool) ao g a6 ∧ e = ovr bT [(8, .pointer (some ⟨f, 0, none⟩)), (9, m), (10, J), (11, j), (12, g), (13, .int .i64 o), (47, h), (48, .int .i64 (len d.blocks)), (49, .int .i64 o), (55, N), (56, .int .i64 (len x.phis)), (57, .int .i64 C), (62, a0), (63, .int .i64 (len an.args)), (64, .int .i64 ap)] ∧ L = [bx f 41 [.int .i64 d.params, .int .i64 d.result, i, h], k, D, y, a6]) ⟨_, _, am, _, rfl, bR, nD _ _ rfl, rfl⟩ ?_
       rintro _ _ _ ⟨ao, ap, a6, bT, rfl, bU, rfl, rfl⟩ eC hp eD
       replace hp : nM.bd181 au o an ao ap = some eC := hp
       refine sr <| tv (blt rfl rfl) rfl <| nz <| nv fun f5 eE => cD rfl hp (fun eF hp => ?_) fun eF hp => ?_
       · refine sk eE rfl <| nv fun f6 eG => nC <| sr <| tm rfl <| ti u25 i3 a2 hp rfl rfl rfl rfl ?_
         rintro eH f7 f8 _ hp rfl eI
         refine tv (lr s3 sH eI 0 rfl rfl) rfl <| ta rfl <| ta rfl <| nz <| nG <| tm rfl <| tm rfl <| tm rfl <| ti u73 i25 (b5).ro hp rfl rfl rfl rfl ?_
         rintro f9 ga gb _ hp ⟨gc, rfl, eJ⟩ eK
         refine tv (lr s25 (Src.at_ 2 rfl) eK 0 rfl rfl) rfl <| tm rfl <| ti u25 i3 eJ hp rfl rfl rfl rfl ?_
         rintro gd ge gf _ hp rfl eL
         refine tv (lr s3 (Src.at_ 2 rfl) eL 0 rfl rfl) rfl <| tp [4, 0, 1, 2, 3] [_,_,_,_,_] rfl rfl <| bE hp fun eM bV hp => TL.open_ bU bV ?_
         rintro gg _ gh gi a7 ⟨gj, rfl, bW⟩
         exact tv (oR u85 i58 rfl rfl (oA bV).1 a7) rfl <| tv (lr s58 (Src.at_ 0 rfl) (Hole.cells a7) 0 rfl rfl) rfl <| tm rfl <| tO u58 i4 bW hp rfl rfl rfl rfl fun gl gm go eN hp => tp [1, 0, 2, 3, 4, 5] [_,_,_,_,_,_] rfl rfl <| tE bW eN m4 rfl ⟨rfl, rfl⟩ w1 fun gp eO => nl <| tg eG <| nG <| tv (bad rfl rfl) rfl <| tm rfl <| nl <| wp [1, 0, 2, 3, 4, 5] [_,_,_,_,_,_] rfl rfl <| W.shut (a := (eM.set (eH).toNat true)) a7 ⟨_, rfl, eO⟩ fun eP eQ => gk hp [1, 2, 3, 4, 0] ⟨_, _, eP, _, rfl, eQ, nD _ _ rfl, rfl⟩
       · exact nN <| jn [0, 1, 2, 3, 4] (ey bU (nJ hp eD))
     · exact nN <| jn [0, 1, 2, 3, 4] (el bR (nJ hp ep))
   · exact nN <| jn [0, 1, 3, 4] (cj bM (nJ hp ea))
end Go.Proofs.Ytpmcbahahjelnaa
namespace Go.Proofs.Ytpmcbahahjelnaa
open Go Go.Proofs
/-! ### fettle/dom.Frontier -/
abbrev ol.R (r : List (List Int)) (v : Value) (A : List FP) : Prop := ∃ (w1 : Value) (a : FP), w1 = v ∧ A = [a] ∧ SlO 25 (kSl 3 (nt .i64)) r w1 a
def ol.nx23  (a : List (List Int)) : Option (List (List Int)) :=
  some a
def ol.nx47 (a : Int) (b : List (List Int)) : Option (Ex (List (List Int)) (List (List Int) × Int)) :=
  some (.go (b, (w64 (a + 1))))
def ol.jn57 (a : Int) (b : List (List Int)) : Option (Ex (List (List Int)) (List (List Int) × Int)) :=
  some (.go (b, (w64 (a + 1))))
def ol.bd47 (e : List Bool) (f : List (List Bool)) (b : Int) (d : List Bool) (c : List (List Int)) (a : Int) : Option (Ex (List (List Int)) (List (List Int) × Int)) :=
  if a < (len d) then
    (idx d a).bind fun g =>
    (if g = true then (idx e b).bind fun h =>
    some h else some false).bind fun i =>
    (if i = true then (if b = a then some true else (idx f b).bind fun j =>
    (idx j a).bind fun k =>
    some (!k)).bind fun l =>
    some l else some false).bind fun m =>
    if m = true then
      (idx c b).bind fun n =>
      (cat n [a]).bind fun o =>
      ol.jn57 a (c.set (b).toNat o)
    else
      ol.jn57 a c
  else
    some (.ret c)
def ol.nx40 (b : List Bool) (c : List (List Bool)) (d : List (List Int)) (a : Int) (e : List Bool) : Option (Ex (List (List Int)) (List (List Int) × Int)) :=
  (whl (fun (s : (List (List Int) × Int)) => ol.bd47 b c a e s.1 s.2) nB (d, 0)).bind fun z =>
  ol.nx47 a z
def ol.nx99 (a : Int) (b : List Bool) : Option (Ex (List Bool) (List Bool × Int)) :=
  some (.go (b, (w64 (a + 1))))
def ol.bd99 (e : List (List Bool)) (f : Int) (g : Int) (d : List Int) (a : List Bool) (b : Int) : Option (Ex (List Bool) (List Bool × Int)) :=
  if b < (len d) then
    (idx d b).bind fun c =>
    (idx a c).bind fun h =>
    (if h = true then some true else (idx e f).bind fun i =>
    (idx i g).bind fun j =>
    some j).bind fun k =>
    (idx a c).bind fun l =>
    some (.go ((a.set (c).toNat k), (w64 (b + 1))))
  else
    some (.ret a)
def ol.bd40 (b : List (List Int)) (d : List (List Bool)) (e : Int) (c : List Bool) (a : Int) : Option (Ex (List Bool) (List Bool × Int)) :=
  if a < (len b) then
    (idx b a).bind fun f =>
    (whl (fun (s : (List Bool × Int)) => ol.bd99 d e a f s.1 s.2) nB (c, 0)).bind fun z =>
    ol.nx99 a z
  else
    some (.ret c)
def ol.bd23 (b : List (List Int)) (e : List Bool) (c : List (List Bool)) (f : List (List Int)) (d : List (List Int)) (a : Int) : Option (Ex (List (List Int)) (List (List Int) × Int)) :=
  if a < (len f) then
    (mkl (len b) false).bind fun g =>
    (whl (fun (s : (List Bool × Int)) => ol.bd40 b c a s.1 s.2) nB (g, 0)).bind fun z =>
    ol.nx40 e c d a z
  else
    some (.ret d)
def ol (a1 : nA) : Option (List (List Int)) :=
  (oM a1).bind fun a =>
  (ql a1).bind fun c =>
  (oJ a1).bind fun d =>
  (mkl (len a) ([] : List Int)).bind fun b =>
  (whl (fun (s : (List (List Int) × Int)) => ol.bd23 a c d b s.1 s.2) nB (b, 0)).bind fun z =>
  ol.nx23 z
set_option maxHeartbeats 4000000 in
theorem wU {E : World} {H : FP} {w : World} {a1 : nA} {v2 : Value} {B : Value} {r : List (List Int)} (U : SlI (nt .i64) H a1.regs v2) (V : SlI nW H a1.blocks B) (hp : ol a1 = some r) (hst : St E H [] w) :
    Fn Try.prog 41 #[.agg #[.int .i64 a1.params, .int .i64 a1.result, v2, B]] w fun v w' => ∃ A, ol.R r v A ∧ St E H A w' := by
 refine fb 105 [.tmp 2] Try.func41 rfl rfl rfl rfl rfl hst <| sr <| tb [.int .i64 a1.params, .int .i64 a1.result, v2, B] rfl rfl fun aG => ta rfl <| nz <| nv fun cn aH => ch mix [bx aG 41 [.int .i64 a1.params, .int .i64 a1.result, v2, B]] (nq 0 rfl ns) <| hv 0 rfl (lAG (ds := [.int .i64 a1.params, .int .i64 a1.result, v2, B]) n9 0 rfl rfl rfl rfl) (by kernel_rfl) rfl <| hv 2 rfl (lAG (ds := [.int .i64 a1.params, .int .i64 a1.result, v2, B]) n9 0 rfl rfl rfl rfl) (by kernel_rfl) rfl <| hv 4 rfl (lAG (ds := [.int .i64 a1.params, .int .i64 a1.result, v2, B]) n9 0 rfl rfl rfl rfl) (by kernel_rfl) rfl <| ho 1 rfl (by kernel_rfl) fun co aI => bE hp fun D hy5 hp => tc 0 [_] rfl c58 (fun _ => rI (a1 := a1) (U.mono nw) (V.mono nw) hy5) rfl ?_
 rintro _ _ ⟨h, m, rfl, rfl, K⟩
 refine hk aI (nq 1 rfl ns) <| ho 3 rfl (by kernel_rfl) fun cp aJ => bE hp fun X hy9 hp => tc 0 [_,_] rfl c48 (fun _ => sa (a1 := a1) (U.mono nw) (V.mono nw) hy9) rfl ?_
 rintro _ _ ⟨n, o, rfl, rfl, aK⟩
 refine hk aJ (nq 2 rfl ns) <| ho 5 rfl (by kernel_rfl) fun cq aL => bE hp fun G hy13 hp => tc 0 [_,_,_] rfl c50 (fun _ => tW (a1 := a1) (U.mono nw) (V.mono nw) hy13) rfl ?_
 rintro _ _ ⟨p, q, rfl, rfl, aj⟩
 refine hk aL (nq 3 rfl ns) <| hv 6 rfl sg (by kernel_rfl) rfl <| hv 7 rfl sg (by kernel_rfl) rfl <| hv 8 rfl sg (by kernel_rfl) rfl <| hz (by kernel_rfl) <| tg aH <| sr <| tm rfl <| tv (ln u73 K.ro rfl) rfl <| tk (k := (kSl 3 (nt .i64))) u73 i25 hp ⟨_, rfl, SlO.nil 3⟩ rfl rfl rfl rfl rfl rfl fun l c aM ak hp => ta rfl <| nz <| nv fun aN aO => sr <| tm rfl <| tv (ln u73 ak.ro rfl) rfl <| tm rfl <| nz <| nC <| bE hp fun aP aQ aR => ?_
 have aS {Y Z aT} (aU : SlO 25 (kSl 3 (nt .i64)) Y c Z) (aV : Y = aP) : ∀ w, St E H [Z] w → aN (ovr aT [(6, c)]) w := by
  subst aV
  replace hp : ol.nx23 Y = some r := aR
  exact tg aO <| sr <| tm rfl <| ta rfl <| nz <| nH <| rt hp [0] ⟨c, Z, rfl, rfl, aU⟩
 refine lp aQ [3, 2, 1, 0] rfl (fun s e L => ∃ I b y al, s = (I, b) ∧ SlO 25 (kSl 3 (nt .i64)) I c y ∧ e = ovr al [(3, h), (4, n), (5, p), (6, c), (25, .int .i64 (len l)), (26, .int .i64 b)] ∧ L = [m, o, q, y]) ⟨_, _, aM, _, rfl, ak, nD _ _ rfl, rfl⟩ ?_
 rintro _ _ _ ⟨I, b, y, al, rfl, am, rfl, rfl⟩ aa hp aW
 replace hp : ol.bd23 D X G l I b = some aa := hp
 refine sr <| tv (blt rfl rfl) rfl <| nz <| nv fun cr aX => cD rfl hp (fun aY hp => ?_) fun aY hp => ?_
 · refine sk aX rfl <| nv fun aZ a0 => nC <| sr <| tm rfl <| ta rfl <| nz <| sr <| tm rfl <| tv (ln u73 K.ro rfl) rfl <| tk (k := kBool) u58 i4 hp ⟨rfl, rfl⟩ rfl rfl rfl rfl rfl rfl fun cs i a2 a3 hp => ta rfl <| nz <| nv fun a4 a5 => sr <| tm rfl <| tv (ln u73 K.ro rfl) rfl <| tm rfl <| nz <| nC <| bE hp fun a6 a7 a8 => ?_
   have a9 {z C ba} (an : SlO 4 kBool z i C) (bb : z = a6) : ∀ w, St E H [m, o, q, y, C] w → a4 (ovr ba [(3, h), (4, n), (5, p), (6, c), (7, .int .i64 b), (8, i), (25, .int .i64 (len l)), (26, .int .i64 b)]) w := by
    subst bb
    replace hp : ol.nx40 X G I b z = some aa := a8
    refine tg a5 <| sr <| tm rfl <| tv (ln u58 an.ro rfl) rfl <| tm rfl <| nz <| nC <| bE hp fun bc be bf => ?_
    have bg {ab ac bh} (bi : SlO 25 (kSl 3 (nt .i64)) ab c ac) (bj : ab = bc) : ∀ w, St E H [m, o, q, ac] w → aZ (ovr bh [(3, h), (4, n), (5, p), (6, c), (25, .int .i64 (len l)), (26, .int .i64 b)]) w := by
     subst bj
     replace hp : ol.nx47 b ab = some aa := bf
     exact tg a0 <| nG <| tv (bad rfl rfl) rfl <| tm rfl <| nl <| gk hp [0, 1, 2, 3] ⟨_, _, ac, _, rfl, bi, nD _ _ rfl, rfl⟩
    refine lp be [0, 1, 2, 3, 4] rfl (fun s e L => ∃ M f F ao, s = (M, f) ∧ SlO 25 (kSl 3 (nt .i64)) M c F ∧ e = ovr ao [(3, h), (4, n), (5, p), (6, c), (7, .int .i64 b), (25, .int .i64 (len l)), (26, .int .i64 b), (63, i), (64, .int .i64 (len z)), (65, .int .i64 f)] ∧ L = [m, o, q, F, C]) ⟨_, _, y, _, rfl, am, nD _ _ rfl, rfl⟩ ?_
    rintro _ _ _ ⟨M, f, F, ao, rfl, ad, rfl, rfl⟩ ap hp bk
    replace hp : ol.bd47 X G b z M f = some ap := hp
    refine sr <| tv (blt rfl rfl) rfl <| nz <| nv fun ct bl => cD rfl hp (fun bm hp => ?_) fun bm hp => ?_
    · refine sk bl rfl <| nv fun bn bo => ?_
      have aq {ar ae bp} (bq : SlO 25 (kSl 3 (nt .i64)) ar c ae) (hp : ol.jn57 f ar = some ap) : ∀ w, St E H [m, o, q, ae, C] w → bn (ovr bp [(3, h), (4, n), (5, p), (6, c), (7, .int .i64 b), (25, .int .i64 (len l)), (26, .int .i64 b), (63, i), (64, .int .i64 (len z)), (65, .int .i64 f)]) w := by
       exact tg bo <| nG <| tv (bad rfl rfl) rfl <| tm rfl <| nl <| gk hp [0, 1, 2, 3, 4] ⟨_, _, ae, _, rfl, bq, nD _ _ rfl, rfl⟩
      refine nC <| sr <| tm rfl <| ti u58 i4 (an).ro hp rfl rfl rfl rfl ?_
      rintro cu cv cw _ hp rfl br
      refine tv (lr s4 (Src.at_ 4 rfl) br 0 rfl rfl) rfl <| ta rfl <| ta rfl <| nz <| sr <| tm rfl <| tm rfl <| bE hp fun au ht82 hp => TL.cut 5 fun bs bt => ?_
      have av {bu} : ∀ w, St E H [m, o, q, F, C] w → bs (ovr bu [(76, .bool au), (3, h), (4, n), (5, p), (6, c), (7, .int .i64 b), (13, .int .i64 f), (25, .int .i64 (len l)), (26, .int .i64 b), (63, i), (64, .int .i64 (len z)), (65, .int .i64 f)]) w := by
       refine tlg bt <| tm rfl <| bE hp fun bv ht73 hp => TL.cut 14 fun bw bz => ?_
       have aw {bA} : ∀ w, St E H [m, o, q, F, C] w → bw (ovr bA [(91, .bool bv), (3, h), (4, n), (5, p), (6, c), (7, .int .i64 b), (13, .int .i64 f), (25, .int .i64 (len l)), (26, .int .i64 b), (63, i), (64, .int .i64 (len z)), (65, .int .i64 f)]) w := by
        refine tlg bz <| nz <| cB rfl hp (fun bB hp => ?_) fun bB hp => ?_
        · refine nG <| tm rfl <| tm rfl <| tm rfl <| tm rfl <| tp [3, 0, 1, 2, 4] [_,_,_,_,_] rfl rfl <| bE hp fun cx af hp => TL.open_ ad af ?_
          rintro cy _ cz cA N ⟨cC, rfl, bC⟩
          exact tv (oR u73 i25 rfl rfl (oA af).1 N) rfl <| tv (lr s25 (Src.at_ 0 rfl) (Hole.cells N) 0 rfl rfl) rfl <| tm rfl <| tbs [(0, .int .i64 f)] [.int .i64 f] u25 i3 (by kernel_rfl) rfl rfl rfl rfl fun cE => tp [2, 0, 1, 3, 4, 5, 6] [_,_,_,_,_,_,_] rfl rfl <| tf 2 0 [_,_,_,_,_,_,_,_] rfl <| tp2 u25 i3 bC hp (RepL.to (RepL.cons (k := (nt .i64)) (x := f) ⟨rfl, rfl⟩ RepL.nil) rfl) rfl rfl rfl rfl rfl rfl rfl rfl rfl fun bD cF cG ax hp => tv (oR u73 i25 rfl rfl (oA af).1 N) rfl <| tp [1, 0, 2, 3, 4, 5] [_,_,_,_,_,_] rfl rfl <| tsH N m25 0 rfl ax.o1 rfl fun cH bG => nl <| W.shut (a := bD) bG ⟨_, rfl, ax⟩ fun cI bH => jn [1, 2, 3, 0, 4] (aq bH hp)
        · exact TC.skip <| jn [0, 1, 2, 3, 4] (aq ad hp)
       refine ifE ht73 (fun j hp => ?_) fun j hp => ?_
       · refine gy rfl (bbT j) <| tm rfl <| gy rfl (bbT j) <| tm rfl <| gy rfl (bbT j) <| tv (beq rfl rfl) rfl <| gy rfl (bbT j) <| tm rfl <| bE hp fun bI ht79 hp => TL.cut 9 fun bJ bK => ?_
         have ay {bL} : ∀ w, St E H [m, o, q, F, C] w → bJ (ovr bL [(90, .bool bI), (3, h), (4, n), (5, p), (6, c), (7, .int .i64 b), (13, .int .i64 f), (25, .int .i64 (len l)), (26, .int .i64 b), (63, i), (64, .int .i64 (len z)), (65, .int .i64 f), (77, .bool au), (78, .int .i64 b), (79, .int .i64 f), (80, .bool (decide (b = f))), (81, .bool (decide (b = f)))]) w := by
          refine tlg bK <| tv (pT (bbT j)) rfl ?_
          obtain rfl := Option.some.inj hp
          exact nj aw rfl
         refine ifE ht79 (fun d hp => ?_) fun d hp => ?_
         · refine gn rfl (bT d) rfl rfl <| gn rfl (bT d) rfl rfl <| gn rfl (bT d) rfl rfl <| gn rfl (bT d) rfl rfl <| gn rfl (bT d) rfl rfl <| gn rfl (bT d) rfl rfl <| gn rfl (bT d) rfl rfl <| gn rfl (bT d) rfl rfl <| gy rfl (bbT j) <| tv (pT (bT d)) rfl ?_
           obtain rfl := Option.some.inj hp
           exact nj ay rfl
         · refine gy rfl (bF d) <| tm rfl <| gy rfl (bF d) <| tm rfl <| gy rfl (bF d) <| ti u85 i58 (aj).ro hp rfl rfl rfl rfl ?_
           rintro cJ cK cL _ hp ⟨cM, rfl, bM⟩ bN
           refine gy rfl (bF d) <| tv (lr s58 (Src.at_ 2 rfl) bN 0 rfl rfl) rfl <| gy rfl (bF d) <| tm rfl <| gy rfl (bF d) <| ti u58 i4 bM hp rfl rfl rfl rfl ?_
           rintro cN cO cP _ hp rfl bO
           refine gy rfl (bF d) <| tv (lr s4 (Src.at_ 2 rfl) bO 0 rfl rfl) rfl <| gy rfl (bF d) <| tv (oO rfl) rfl <| gy rfl (bbT j) <| tv (pF (bF d)) rfl ?_
           obtain rfl := Option.some.inj hp
           exact nj ay rfl
       · refine gn rfl (bbF j) rfl rfl <| gn rfl (bbF j) rfl rfl <| gn rfl (bbF j) rfl rfl <| gn rfl (bbF j) rfl rfl <| gu rfl rfl rfl <| gu rfl rfl rfl <| gu rfl rfl rfl <| gu rfl rfl rfl <| gu rfl rfl rfl <| gu rfl rfl rfl <| gu rfl rfl rfl <| gu rfl rfl rfl <| gn rfl (bbF j) rfl rfl <| tv (pF (bbF j)) rfl ?_
         obtain rfl := Option.some.inj hp
         exact nj aw rfl
      refine ifE ht82 (fun t hp => ?_) fun t hp => ?_
      · refine gy rfl (bbT t) <| tm rfl <| gy rfl (bbT t) <| tm rfl <| gy rfl (bbT t) <| ti u58 i4 (aK).ro hp rfl rfl rfl rfl ?_
        rintro cQ cR cS _ hp rfl bP
        refine gy rfl (bbT t) <| tv (lr s4 (Src.at_ 1 rfl) bP 0 rfl rfl) rfl <| tv (pT (bbT t)) rfl ?_
        obtain rfl := Option.some.inj hp
        exact nj av rfl
      · refine gn rfl (bbF t) rfl rfl <| gn rfl (bbF t) rfl rfl <| gn rfl (bbF t) rfl rfl <| gn rfl (bbF t) rfl rfl <| tv (pF (bbF t)) rfl ?_
        obtain rfl := Option.some.inj hp
        exact nj av rfl
    · exact nN <| jn [0, 1, 2, 3] (bg ad (nJ hp bk))
   refine lp a7 [1, 2, 3, 4, 0] rfl (fun s e L => ∃ O u P az, s = (O, u) ∧ SlO 4 kBool O i P ∧ e = ovr az [(3, h), (4, n), (5, p), (6, c), (7, .int .i64 b), (8, i), (25, .int .i64 (len l)), (26, .int .i64 b), (32, h), (33, .int .i64 (len D)), (34, .int .i64 u)] ∧ L = [m, o, q, y, P]) ⟨_, _, a2, _, rfl, a3, nD _ _ rfl, rfl⟩ ?_
   rintro _ _ _ ⟨O, u, P, az, rfl, aA, rfl, rfl⟩ aB hp bQ
   replace hp : ol.bd40 D G b O u = some aB := hp
   refine sr <| tv (blt rfl rfl) rfl <| nz <| nv fun cT bR => cD rfl hp (fun bS hp => ?_) fun bS hp => ?_
   · refine sk bR rfl <| nv fun bU bV => nC <| sr <| tm rfl <| ti u73 i25 (K).ro hp rfl rfl rfl rfl ?_
     rintro ag cU cV _ hp ⟨aC, rfl, aD⟩ bW
     refine tv (lr s25 (Src.at_ 0 rfl) bW 0 rfl rfl) rfl <| ta rfl <| ta rfl <| nz <| sr <| tm rfl <| tv (ln u25 aD rfl) rfl <| tm rfl <| nz <| nC <| bE hp fun bX bY bZ => ?_
     have b0 {ah ai b1} (b2 : SlO 4 kBool ah i ai) (b3 : ah = bX) : ∀ w, St E H [m, o, q, y, ai] w → bU (ovr b1 [(3, h), (4, n), (5, p), (6, c), (7, .int .i64 b), (8, i), (25, .int .i64 (len l)), (26, .int .i64 b), (32, h), (33, .int .i64 (len D)), (34, .int .i64 u)]) w := by
      subst b3
      replace hp : ol.nx99 u ah = some aB := bZ
      exact tg bV <| nG <| tv (bad rfl rfl) rfl <| tm rfl <| nl <| gk hp [0, 1, 2, 3, 4] ⟨_, _, ai, _, rfl, b2, nD _ _ rfl, rfl⟩
     refine lp bY [0, 1, 2, 3, 4] rfl (fun s e L => ∃ Q J S aE, s = (Q, J) ∧ SlO 4 kBool Q i S ∧ e = ovr aE [(3, h), (4, n), (5, p), (6, c), (7, .int .i64 b), (8, i), (9, .int .i64 u), (25, .int .i64 (len l)), (26, .int .i64 b), (32, h), (33, .int .i64 (len D)), (34, .int .i64 u), (39, aC), (40, .int .i64 (len ag)), (41, .int .i64 J)] ∧ L = [m, o, q, y, S]) ⟨_, _, P, _, rfl, aA, nD _ _ rfl, rfl⟩ ?_
     rintro _ _ _ ⟨Q, J, S, aE, rfl, T, rfl, rfl⟩ b4 hp b5
     replace hp : ol.bd99 G b u ag Q J = some b4 := hp
     refine sr <| tv (blt rfl rfl) rfl <| nz <| nv fun cW b6 => cD rfl hp (fun b7 hp => ?_) fun b7 hp => ?_
     · refine sk b6 rfl <| nv fun cX b8 => nC <| sr <| ti u25 i3 aD hp rfl rfl rfl rfl ?_
       rintro b9 cY cZ _ hp rfl ca
       refine tv (lr s3 (Src.at_ 0 rfl) ca 0 rfl rfl) rfl <| ta rfl <| nz <| nG <| tm rfl <| tm rfl <| tm rfl <| tm rfl <| ti u58 i4 (T).ro hp rfl rfl rfl rfl ?_
       rintro c0 c1 c2 _ hp rfl cb
       refine tv (lr s4 (Src.at_ 4 rfl) cb 0 rfl rfl) rfl <| tm rfl <| bE hp fun cc ht116 hp => TL.cut 8 fun cd ce => ?_
       have aF {cf} : ∀ w, St E H [m, o, q, y, S] w → cd (ovr cf [(59, .bool cc), (3, h), (4, n), (5, p), (6, c), (7, .int .i64 b), (8, i), (9, .int .i64 u), (25, .int .i64 (len l)), (26, .int .i64 b), (32, h), (33, .int .i64 (len D)), (34, .int .i64 u), (39, aC), (40, .int .i64 (len ag)), (41, .int .i64 J), (45, i), (46, .int .i64 b9)]) w := by
        exact tlg ce <| tO u58 i4 T hp rfl rfl rfl rfl fun c3 c4 c5 cg hp => tp [4, 0, 1, 2, 3] [_,_,_,_,_] rfl rfl <| tE T cg m4 rfl ⟨rfl, rfl⟩ w1 fun ci cj => nl <| tg b8 <| nG <| tv (bad rfl rfl) rfl <| tm rfl <| nl <| gk hp [1, 2, 3, 4, 0] ⟨_, _, ci, _, rfl, cj, nD _ _ rfl, rfl⟩
       refine ifE ht116 (fun g hp => ?_) fun g hp => ?_
       · refine gn rfl (bbT g) rfl rfl <| gn rfl (bbT g) rfl rfl <| gn rfl (bbT g) rfl rfl <| gn rfl (bbT g) rfl rfl <| gn rfl (bbT g) rfl rfl <| gn rfl (bbT g) rfl rfl <| gn rfl (bbT g) rfl rfl <| tv (pT (bbT g)) rfl ?_
         obtain rfl := Option.some.inj hp
         exact nj aF rfl
       · refine gy rfl (bbF g) <| tm rfl <| gy rfl (bbF g) <| tm rfl <| gy rfl (bbF g) <| ti u85 i58 (aj).ro hp rfl rfl rfl rfl ?_
         rintro c6 c7 c8 _ hp ⟨c9, rfl, ck⟩ cl
         refine gy rfl (bbF g) <| tv (lr s58 (Src.at_ 2 rfl) cl 0 rfl rfl) rfl <| gy rfl (bbF g) <| tm rfl <| gy rfl (bbF g) <| ti u58 i4 ck hp rfl rfl rfl rfl ?_
         rintro da db dc _ hp rfl cm
         refine gy rfl (bbF g) <| tv (lr s4 (Src.at_ 2 rfl) cm 0 rfl rfl) rfl <| tv (pF (bbF g)) rfl ?_
         obtain rfl := Option.some.inj hp
         exact nj aF rfl
     · exact nN <| jn [0, 1, 2, 3, 4] (b0 T (nJ hp b5))
   · exact nN <| jn [0, 1, 2, 3, 4] (a9 aA (nJ hp bQ))
 · exact nN <| jn [3] (aS am (nJ hp aW))
/-! ### (*fettle/ssa.builder).closed$1 -/
abbrev rL.R (r : Bool) (v : Value) (A : List FP) : Prop := .bool r = v ∧ A = []
def rL (a1 : nO) (a5 : Int) : Option Bool :=
  some (decide (a1.dst = a5))
theorem wV {E : World} {H : FP} {w : World} {a1 : nO} {a5 : Int} {v2 : Value} {a : Nat} {b : Nat} {r : Bool} (d : SlI (nt .i64) H a1.args v2) (c : oa H a b [.int .i64 a5]) (hp : rL a1 a5 = some r) (hst : St E H [] w) :
    Fn Try.prog 83 #[.agg #[.int .i64 a1.op, .int .i64 a1.dst, v2, .int .i64 a1.imm, .int .i64 a1.fn], .pointer (some ⟨a, b, none⟩)] w fun v w' => ∃ A, rL.R r v A ∧ St E H A w' := by
 exact fb 8 [.tmp 3] Try.func83 rfl rfl rfl rfl rfl hst <| sr <| tb [.int .i64 a1.op, .int .i64 a1.dst, v2, .int .i64 a1.imm, .int .i64 a1.fn] rfl rfl fun e => ta rfl <| nz <| sr <| tv (fa pj rfl) rfl <| tv (lb s3 0 rfl rfl rfl) rfl <| tv (lr s3 sH c 0 rfl rfl) rfl <| tv (beq rfl rfl) rfl <| ta rfl <| nz <| nH <| rt hp [] ⟨rfl, rfl⟩
/-! ### slices.IndexFunc[[]fettle/api.Instr,fettle/api.Instr] -/
abbrev p9.R (r : Int) (v : Value) (A : List FP) : Prop := .int .i64 r = v ∧ A = []
def p9.nx8  : Option Int :=
  some (-1)
def p9.bd8 (a1 : List nO) (a6 : Int) (a : Int) : Option (Ex (Ex Int Unit) Int) :=
  if a < (len a1) then
    (idx a1 a).bind fun b =>
    (rL b a6).bind fun c =>
    if c = true then
      some (.ret (.ret a))
    else
      some (.go (w64 (a + 1)))
  else
    some (.ret (.go ()))
def p9 (a1 : List nO) (a6 : Int) : Option Int :=
  (whl (fun (s : Int) => p9.bd8 a1 a6 s) nB 0).bind fun z =>
  match z with
    | .ret r => some r
    | .go p => p9.nx8
theorem wW {E : World} {H : FP} {w : World} {a1 : List nO} {a6 : Int} {v2 : Value} {b : Nat} {c : Nat} {r : Int} (d : SlI oK H a1 v2) (i : oa H b c [.int .i64 a6]) (hp : p9 a1 a6 = some r) (hst : St E H [] w) :
    Fn Try.prog 92 #[v2, .func (.func 83) #[] #[.pointer (some ⟨b, c, none⟩)]] w fun v w' => ∃ A, p9.R r v A ∧ St E H A w' := by
 refine fb 19 [.tmp 4] Try.func92 rfl rfl rfl rfl rfl hst <| sr <| ta rfl <| nz <| nv fun j k => sr <| tm rfl <| tv (ln u48 d rfl) rfl <| tm rfl <| nz <| nC <| bE hp fun l m f => ?_
 have n {o} (p : .go () = l) : ∀ w, St E H [] w → j (ovr o []) w := by
  subst p
  replace hp : p9.nx8 = some r := f
  exact tg k <| sr <| ta rfl <| nz <| nH <| rt hp [] ⟨rfl, rfl⟩
 refine lp m [] rfl (fun s e L => ∃ g, e = ovr g [(0, v2), (1, .func (.func 83) #[] #[.pointer (some ⟨b, c, none⟩)]), (7, .int .i64 (len a1)), (8, .int .i64 s)] ∧ L = []) ⟨_, nD _ _ rfl, rfl⟩ ?_
 rintro q _ _ ⟨g, rfl, rfl⟩ t hp h
 replace hp : p9.bd8 a1 a6 q = some t := hp
 refine sr <| tv (blt rfl rfl) rfl <| nz <| nv fun F u => cD rfl hp (fun x hp => ?_) fun x hp => ?_
 · refine sk u rfl <| nv fun G y => nC <| sr <| tm rfl <| ta rfl <| nz <| sr <| tm rfl <| tm rfl <| tm rfl <| ti u48 i52 d hp rfl rfl rfl rfl ?_
   rintro a I J _ hp ⟨z, rfl, B⟩ C
   refine tv (lR (ds := [.int .i64 a.op, .int .i64 a.dst, z, .int .i64 a.imm, .int .i64 a.fn]) pi sH C 0 rfl rfl rfl) rfl <| bE hp fun K hy18 hp => tcv 0 [] rfl c83 rfl (fun _ => wV (a1 := a) (a5 := a6) (B.mono nw) (i.mono nw) hy18) rfl ?_
   rintro _ _ ⟨rfl, rfl⟩
   refine nz <| cB rfl hp (fun D hp => ?_) fun D hp => ?_
   · refine sr <| tm rfl <| ta rfl <| nz <| nH ?_
     obtain rfl := nJ hp h
     exact rt f [] ⟨rfl, rfl⟩
   · exact sk y rfl <| nG <| tv (bad rfl rfl) rfl <| tm rfl <| nl <| gk hp [] ⟨_, nD _ _ rfl, rfl⟩
 · exact nN <| jn [] (n (nJ hp h))
/-! ### slices.ContainsFunc[[]fettle/api.Instr,fettle/api.Instr] -/
abbrev rf.R (r : Bool) (v : Value) (A : List FP) : Prop := .bool r = v ∧ A = []
def rf (a1 : List nO) (a6 : Int) : Option Bool :=
  (p9 a1 a6).bind fun a =>
  some (decide (a ≥ 0))
theorem wX {E : World} {H : FP} {w : World} {a1 : List nO} {a6 : Int} {v2 : Value} {a : Nat} {b : Nat} {r : Bool} (c : SlI oK H a1 v2) (d : oa H a b [.int .i64 a6]) (hp : rf a1 a6 = some r) (hst : St E H [] w) :
    Fn Try.prog 82 #[v2, .func (.func 83) #[] #[.pointer (some ⟨a, b, none⟩)]] w fun v w' => ∃ A, rf.R r v A ∧ St E H A w' := by
 refine fb 9 [.tmp 4] Try.func82 rfl rfl rfl rfl rfl hst <| sr <| ta rfl <| nz <| sr <| tm rfl <| tm rfl <| bE hp fun e hy1 hp => tc 0 [] rfl c92 (fun _ => wW (a1 := a1) (a6 := a6) (c.mono nw) (d.mono nw) hy1) rfl ?_
 rintro _ _ ⟨rfl, rfl⟩
 exact tv (bge rfl rfl) rfl <| ta rfl <| nz <| nH <| rt hp [] ⟨rfl, rfl⟩
/-! ### (*fettle/ssa.builder).closed -/
abbrev oE.R (r : List Bool) (v : Value) (A : List FP) : Prop := ∃ (w1 : Value) (a : FP), w1 = v ∧ A = [a] ∧ SlO 4 kBool r w1 a
def oE.nx18  (a : List Bool) : Option (List Bool) :=
  some a
def oE.nx35  (a : List Bool) (b : List Int) : Option (Ex (List Bool) (List Bool × List Int)) :=
  some (.go (a, b))
def oE.jn45 (a : Int) (b : List Bool) (c : List Int) : Option (Ex (List Bool × List Int) (List Bool × List Int × Int)) :=
  some (.go (b, c, (w64 (a + 1))))
def oE.bd35 (e : List Int) (a : List Bool) (d : List Int) (b : Int) : Option (Ex (List Bool × List Int) (List Bool × List Int × Int)) :=
  if b < (len e) then
    (idx e b).bind fun c =>
    (idx a c).bind fun f =>
    if (!f) = true then
      (idx a c).bind fun h =>
      (cat d [c]).bind fun g =>
      oE.jn45 b (a.set (c).toNat true) g
    else
      oE.jn45 b a d
  else
    some (.ret (a, d))
def oE.bd18 (a2 : nS) (b : List Bool) (a : List Int) : Option (Ex (List Bool) (List Bool × List Int)) :=
  if (len a) > 0 then
    (idx a (w64 ((len a) - 1))).bind fun c =>
    (upto a (w64 ((len a) - 1))).bind fun d =>
    (idx a2.front c).bind fun e =>
    (whl (fun (s : (List Bool × List Int × Int)) => oE.bd35 e s.1 s.2.1 s.2.2) nB (b, d, 0)).bind fun z =>
    oE.nx35 z.1 z.2
  else
    some (.ret b)
def oE.nx9 (a2 : nS) (a : List Bool) (b : List Int) : Option (List Bool) :=
  (whl (fun (s : (List Bool × List Int)) => oE.bd18 a2 s.1 s.2) nB (a, b)).bind fun z =>
  oE.nx18 z
def oE.jn63 (a : Int) (b : List Int) : Option (Ex (List Int) (List Int × Int)) :=
  some (.go (b, (w64 (a + 1))))
def oE.bd9 (a2 : nS) (a31 : Int) (b : List Int) (a : Int) : Option (Ex (List Int) (List Int × Int)) :=
  if a < (len a2.f.blocks) then
    (idx a2.f.blocks a).bind fun c =>
    (rf c.ins a31).bind fun d =>
    if d = true then
      (cat b [a]).bind fun e =>
      oE.jn63 a e
    else
      oE.jn63 a b
  else
    some (.ret b)
def oE (a2 : nS) (a31 : Int) : Option (List Bool) :=
  (mkl (len a2.f.blocks) false).bind fun a =>
  (whl (fun (s : (List Int × Int)) => oE.bd9 a2 a31 s.1 s.2) nB ([0], 0)).bind fun z =>
  oE.nx9 a2 a z
set_option maxHeartbeats 4000000 in
theorem wY {E : World} {H : FP} {w : World} {a2 : nS} {a31 : Int} {b : Nat} {c : Nat} {ah : Value} {m : Value} {ai : Value} {aj : Value} {ak : Value} {al : Value} {am : Value} {an : Value} {ao : Value} {ap : Value} {aq : Value} {ar : Value} {au : Value} {r : List Bool} (B : oa H b c [.int .i64 a2.f.params, .int .i64 a2.f.result, ah, m, ai, aj, ak, al, am, an, ao, ap, aq, ar, au]) (b1 : SlI (nt .i64) H a2.f.regs ah) (C : SlI nW H a2.f.blocks m) (b2 : SlI (kSl 4 kBool) H a2.in_ ai) (aN : SlI (kSl 3 (nt .i64)) H a2.front aj) (b3 : SlI (nt .i64) H a2.nearest ak) (b4 : SlI (kSl 3 (nt .i64)) H a2.phis al) (b5 : SlI (nt .i64) H a2.zeros am) (b6 : SlI (nt .i64) H a2.regs an) (b7 : SlI (kSl 3 (nt .i64)) H a2.phi ao) (b8 : SlI (nt .i64) H a2.zero_ ap) (b9 : SlI (kSl 3 (nt .i64)) H a2.dst aq) (ca : SlI (kSl 3 (nt .i64)) H a2.begin ar) (cb : SlI (kSl 3 (nt .i64)) H a2.end_ au) (hp : oE a2 a31 = some r) (hst : St E H [] w) :
    Fn Try.prog 69 #[.pointer (some ⟨b, c, none⟩), .int .i64 a31] w fun v w' => ∃ A, oE.R r v A ∧ St E H A w' := by
 refine fb 80 [.tmp 4] Try.func69 rfl rfl rfl rfl rfl hst <| sr <| tb [.int .i64 a31] rfl rfl fun h => ta rfl <| nz <| sr <| tm rfl <| tv (nE rfl) rfl <| tv (fa pK rfl) rfl <| tv (fa n6 rfl) rfl <| tv (lr s39 sH B 3 rfl rfl) rfl <| tv (ln u39 C rfl) rfl <| tk (k := kBool) u58 i4 hp ⟨rfl, rfl⟩ rfl rfl rfl rfl rfl rfl fun aO a o aP hp => ta rfl <| nz <| sr <| tbs [(0, .int .i64 0)] [.int .i64 0] u25 i3 (by kernel_rfl) rfl rfl rfl rfl fun aQ => ta rfl <| tf 1 0 [_,_,_,_] rfl <| TL.litOwn (n := 1) (xs := [0]) (RepL.to (RepL.cons (k := (nt .i64)) (x := 0) ⟨rfl, rfl⟩ RepL.nil) rfl) rfl rfl (ltb rfl) fun aR aS => nz <| nv fun aT aU => sr <| tm rfl <| tv (nE rfl) rfl <| tv (fa pK rfl) rfl <| tv (fa n6 rfl) rfl <| tv (lr s39 sH B 3 rfl rfl) rfl <| tv (ln u39 C rfl) rfl <| tm rfl <| nz <| nC <| bE hp fun aV aW aX => ?_
 have aY {D F G aZ} (a0 : SlO 3 (nt .i64) D F G) (a3 : D = aV) : ∀ w, St E H [o, G] w → aT (ovr aZ [(0, .pointer (some ⟨b, c, none⟩)), (5, a), (6, F)]) w := by
  subst a3
  replace hp : oE.nx9 a2 aO D = some r := aX
  refine tg aU <| nv fun a4 a5 => nC <| bE hp fun a7 a8 a9 => ?_
  have ba {I J bb} (bc : SlO 4 kBool I a J) (be : I = a7) : ∀ w, St E H [J] w → a4 (ovr bb [(5, a)]) w := by
   subst be
   replace hp : oE.nx18 I = some r := a9
   exact tg a5 <| sr <| tm rfl <| ta rfl <| nz <| nH <| rt hp [0] ⟨a, J, rfl, rfl, bc⟩
  refine lp a8 [0, 1] rfl (fun s e L => ∃ p q t K M av, s = (p, q) ∧ SlO 4 kBool p a t ∧ SlO 3 (nt .i64) q K M ∧ e = ovr av [(0, .pointer (some ⟨b, c, none⟩)), (5, a), (6, K)] ∧ L = [t, M]) ⟨_, _, o, F, G, _, rfl, aP, a0, nD _ _ rfl, rfl⟩ ?_
  rintro _ _ _ ⟨p, q, t, K, M, av, rfl, aw, i, rfl, rfl⟩ ax hp bf
  replace hp : oE.bd18 a2 p q = some ax := hp
  refine nv fun cc bg => sr <| tm rfl <| tv (ln u25 i.ro rfl) rfl <| tv (bgt rfl rfl) rfl <| nz <| cD rfl hp (fun bh hp => ?_) fun bh hp => ?_
  · refine sk bg rfl <| qo fun bi bj => nC <| sr <| tm rfl <| tm rfl <| tv (ln u25 i.ro rfl) rfl <| tv (bsu rfl rfl) rfl <| ti u25 i3 (i).ro hp rfl rfl rfl rfl ?_
    rintro cd ce cf _ hp rfl bk
    refine tv (lr s3 (Src.at_ 1 rfl) bk 0 rfl rfl) rfl <| ta rfl <| nz <| sr <| tm rfl <| tm rfl <| tv (ln u25 i.ro rfl) rfl <| tv (bsu rfl rfl) rfl <| tp [1, 0] [_,_] rfl rfl <| bE hp fun cg bl hp => TL.slOwn u25 i3 rfl (ltb rfl) rfl rfl i bl fun bm bn bo => ta rfl <| nz <| sr <| tm rfl <| tv (nE rfl) rfl <| tv (fa vM rfl) rfl <| tv (lr s73 sH B 5 rfl rfl) rfl <| tm rfl <| ti u73 i25 aN hp rfl rfl rfl rfl ?_
    rintro N ch ci _ hp ⟨ay, rfl, az⟩ bp
    refine tv (lr s25 sH bp 0 rfl rfl) rfl <| tv (ln u25 az rfl) rfl <| tm rfl <| nz <| nC <| bE hp fun bq br bs => ?_
    have bt {O P Q S T bu} (bv : SlO 4 kBool O a Q) (bw : SlO 3 (nt .i64) P S T) (bz : (O, P) = bq) : ∀ w, St E H [Q, T] w → bi (ovr bu [(0, .pointer (some ⟨b, c, none⟩)), (5, a), (6, S)]) w := by
     subst bz
     replace hp : oE.nx35 O P = some ax := bs
     exact viaK bj <| gk hp [0, 1] ⟨_, _, Q, S, T, _, rfl, bv, bw, nD _ _ rfl, rfl⟩
    refine lp br [1, 0] rfl (fun s e L => ∃ u y g U V W aA, s = (u, y, g) ∧ SlO 4 kBool u a U ∧ SlO 3 (nt .i64) y V W ∧ e = ovr aA [(0, .pointer (some ⟨b, c, none⟩)), (5, a), (6, V), (60, ay), (61, .int .i64 (len N)), (62, .int .i64 g)] ∧ L = [U, W]) ⟨_, _, _, t, bm, bn, _, rfl, aw, bo, nD _ _ rfl, rfl⟩ ?_
    rintro _ _ _ ⟨u, y, g, U, V, W, aA, rfl, j, X, rfl, rfl⟩ aB hp bA
    replace hp : oE.bd35 N u y g = some aB := hp
    refine sr <| tv (blt rfl rfl) rfl <| nz <| nv fun cj bB => cD rfl hp (fun bC hp => ?_) fun bC hp => ?_
    · refine sk bB rfl <| nv fun bD bF => ?_
      have aC {aD aE Y Z aa bG} (bH : SlO 4 kBool aD a Y) (bI : SlO 3 (nt .i64) aE Z aa) (hp : oE.jn45 g aD aE = some aB) : ∀ w, St E H [Y, aa] w → bD (ovr bG [(0, .pointer (some ⟨b, c, none⟩)), (5, a), (6, Z), (60, ay), (61, .int .i64 (len N)), (62, .int .i64 g)]) w := by
       exact tg bF <| nG <| tv (bad rfl rfl) rfl <| tm rfl <| nl <| gk hp [0, 1] ⟨_, _, _, Y, Z, aa, _, rfl, bH, bI, nD _ _ rfl, rfl⟩
      refine nC <| sr <| ti u25 i3 az hp rfl rfl rfl rfl ?_
      rintro ab ck cl _ hp rfl bJ
      refine tv (lr s3 sH bJ 0 rfl rfl) rfl <| ta rfl <| nz <| sr <| tm rfl <| tm rfl <| ti u58 i4 (j).ro hp rfl rfl rfl rfl ?_
      rintro cm cn co _ hp rfl bK
      refine tv (lr s4 (Src.at_ 0 rfl) bK 0 rfl rfl) rfl <| tv (oO rfl) rfl <| nz <| cB rfl hp (fun bL hp => ?_) fun bL hp => ?_
      · exact sr <| tm rfl <| tm rfl <| tO u58 i4 j hp rfl rfl rfl rfl fun cp cq cr bM hp => tE j bM m4 rfl ⟨rfl, rfl⟩ w1 fun cs bN => nz <| nG <| tm rfl <| tm rfl <| tbs [(0, .int .i64 ab)] [.int .i64 ab] u25 i3 (by kernel_rfl) rfl rfl rfl rfl fun ct => tp [2, 0, 1] [_,_,_] rfl rfl <| tf 2 0 [_,_,_,_] rfl <| tp2 u25 i3 X hp (RepL.to (RepL.cons (k := (nt .i64)) (x := ab) ⟨rfl, rfl⟩ RepL.nil) rfl) rfl rfl rfl rfl rfl rfl rfl rfl rfl fun cu cv cw bO hp => ta rfl <| nl <| jn [1, 0] (aC bN bO hp)
      · exact TC.skip <| jn [0, 1] (aC j X hp)
    · exact nN <| jn [0, 1] (bt j X (nJ hp bA))
  · exact nN <| jn [0] (ba aw (nJ hp bf))
 refine lp aW [2, 1, 0] rfl (fun s e L => ∃ z d ac ad aF, s = (z, d) ∧ SlO 3 (nt .i64) z ac ad ∧ e = ovr aF [(0, .pointer (some ⟨b, c, none⟩)), (3, .pointer (some ⟨h, 0, none⟩)), (5, a), (6, ac), (24, m), (25, .int .i64 (len a2.f.blocks)), (26, .int .i64 d)] ∧ L = [bx h 3 [.int .i64 a31], o, ad]) ⟨_, _, (.slice (some ⟨aQ, 0, none⟩) 1 1), aR, _, rfl, aS, nD _ _ rfl, rfl⟩ ?_
 rintro _ _ _ ⟨z, d, ac, ad, aF, rfl, ae, rfl, rfl⟩ aG hp bP
 replace hp : oE.bd9 a2 a31 z d = some aG := hp
 refine sr <| tv (blt rfl rfl) rfl <| nz <| nv fun cx bQ => cD rfl hp (fun bR hp => ?_) fun bR hp => ?_
 · refine sk bQ rfl <| nv fun bS bT => ?_
   have aH {aI af ag bU} (bV : SlO 3 (nt .i64) aI af ag) (hp : oE.jn63 d aI = some aG) : ∀ w, St E H [bx h 3 [.int .i64 a31], o, ag] w → bS (ovr bU [(0, .pointer (some ⟨b, c, none⟩)), (3, .pointer (some ⟨h, 0, none⟩)), (5, a), (6, af), (24, m), (25, .int .i64 (len a2.f.blocks)), (26, .int .i64 d)]) w := by
    exact tg bT <| nG <| tv (bad rfl rfl) rfl <| tm rfl <| nl <| gk hp [0, 1, 2] ⟨_, _, af, ag, _, rfl, bV, nD _ _ rfl, rfl⟩
   refine nC <| sr <| tm rfl <| ti u39 i50 C hp rfl rfl rfl rfl ?_
   rintro l cy cz _ hp ⟨aJ, aK, aL, rfl, bW, aM, bX⟩ bY
   refine tv (lR (ds := [aJ, aK, .int .i64 l.term.kind, .int .i64 l.term.arg, aL]) o5 sH bY 0 rfl rfl rfl) rfl <| tl i50 rfl fun cA => ta rfl <| tS 0 m50 rfl rfl [aJ, aK, .int .i64 l.term.kind, .int .i64 l.term.arg, aL] rfl (oc (bW).one (oc (aM).one (oc rfl (oc rfl (oc (bX).one oc0))))) rfl rfl <| nz <| sr <| tv (fa ou rfl) rfl <| tv (lb s48 0 rfl rfl rfl) rfl <| tv mF rfl <| bE hp fun cC hy65 hp => tc 0 [_,_,_,_] rfl c82 (fun _ => wX (a1 := l.ins) (a6 := a31) (aM.mono nw) ((pA h 3 _).mono (subB 1 rfl)) hy65) rfl ?_
   rintro _ _ ⟨rfl, rfl⟩
   refine nz <| cB rfl hp (fun bZ hp => ?_) fun bZ hp => ?_
   · exact nG <| tm rfl <| tm rfl <| tbs [(0, .int .i64 d)] [.int .i64 d] u25 i3 (by kernel_rfl) rfl rfl rfl rfl fun cE => tp [4, 0, 1, 2, 3] [_,_,_,_,_] rfl rfl <| tf 2 0 [_,_,_,_,_,_] rfl <| tp2 u25 i3 ae hp (RepL.to (RepL.cons (k := (nt .i64)) (x := d) ⟨rfl, rfl⟩ RepL.nil) rfl) rfl rfl rfl rfl rfl rfl rfl rfl rfl fun cF cG cH b0 hp => ta rfl <| nl <| jn [2, 3, 0] (aH b0 hp)
   · exact TC.skip <| jn [1, 2, 3] (aH ae hp)
 · exact nN <| jn [1, 2] (aY ae (nJ hp bP))
/-! ### (*fettle/ssa.builder).place -/
abbrev oI.R (c : Nat) (a2 : nS) (v3 : Value) (d : Value) (e : Value) (g : Value) (h : Value) (i : Value) (j : Value) (k : Value) (l : Value) (m : Value) (n : Value) (r : List (List Int) × List Int) (v : Value) (A : List FP) : Prop := ∃ (w1 : Value) (a : FP) (w2 : Value) (b : FP), .tuple #[] = v ∧ A = [bx c 100 [.int .i64 a2.f.params, .int .i64 a2.f.result, v3, d, e, g, h, w1, w2, i, j, k, l, m, n], a, b] ∧ SlO 25 (kSl 3 (nt .i64)) r.1 w1 a ∧ SlO 3 (nt .i64) r.2 w2 b
def oI.nx9  (a : List (List Int)) (b : List Int) : Option (List (List Int) × List Int) :=
  some (a, b)
def oI.jn19 (a : Int) (b : List (List Int)) (c : List Int) : Option (Ex (List (List Int) × List Int) (List (List Int) × List Int × Int)) :=
  some (.go (b, c, (w64 (a + 1))))
def oI.nx29 (a2 : nS) (b : List Int) (a : Int) (c : List (List Int)) : Option (Ex (List (List Int) × List Int) (List (List Int) × List Int × Int)) :=
  (if a ≥ a2.f.params then (idx a2.in_ 0).bind fun d =>
  (idx d a).bind fun e =>
  some e else some false).bind fun g =>
  if g = true then
    (cat b [a]).bind fun h =>
    oI.jn19 a c h
  else
    oI.jn19 a c b
def oI.jn49 (a : Int) (b : List (List Int)) : Option (Ex (List (List Int)) (List (List Int) × Int)) :=
  some (.go (b, (w64 (a + 1))))
def oI.bd29 (a2 : nS) (c : Int) (d : List Bool) (b : List (List Int)) (a : Int) : Option (Ex (List (List Int)) (List (List Int) × Int)) :=
  if a < (len d) then
    (idx d a).bind fun e =>
    (if e = true then (idx a2.in_ a).bind fun f =>
    (idx f c).bind fun g =>
    some g else some false).bind fun h =>
    if h = true then
      (idx b a).bind fun i =>
      (cat i [c]).bind fun j =>
      oI.jn49 a (b.set (a).toNat j)
    else
      oI.jn49 a b
  else
    some (.ret b)
def oI.bd9 (a2 : nS) (b : List (List Int)) (c : List Int) (a : Int) : Option (Ex (List (List Int) × List Int) (List (List Int) × List Int × Int)) :=
  if a < (len a2.f.regs) then
    (oE (⟨(⟨a2.f.params, a2.f.result, a2.f.regs, a2.f.blocks⟩ : nA), a2.in_, a2.front, a2.nearest, b, c, a2.regs, a2.phi, a2.zero_, a2.dst, a2.begin, a2.end_⟩ : nS) a).bind fun d =>
    (whl (fun (s : (List (List Int) × Int)) => oI.bd29 a2 a d s.1 s.2) nB (b, 0)).bind fun z =>
    oI.nx29 a2 c a z
  else
    some (.ret (b, c))
def oI (a2 : nS) : Option (List (List Int) × List Int) :=
  (mkl (len a2.f.blocks) ([] : List Int)).bind fun a =>
  (whl (fun (s : (List (List Int) × List Int × Int)) => oI.bd9 a2 s.1 s.2.1 s.2.2) nB (a, a2.zeros, 0)).bind fun z =>
  oI.nx9 z.1 z.2
set_option maxHeartbeats 4000000 in
theorem wZ {E : World} {H : FP} {w : World} {a2 : nS} {g : Nat} {v3 : Value} {i : Value} {j : Value} {l : Value} {m : Value} {ar : Value} {au : FP} {Y : Value} {Z : FP} {n : Value} {o : Value} {p : Value} {q : Value} {t : Value} {u : Value} {r : List (List Int) × List Int} (av : SlI (nt .i64) H a2.f.regs v3) (aw : SlI nW H a2.f.blocks i) (aa : SlI (kSl 4 kBool) H a2.in_ j) (aP : SlI (kSl 3 (nt .i64)) H a2.front l) (aQ : SlI (nt .i64) H a2.nearest m) (cd : SlO 25 (kSl 3 (nt .i64)) a2.phis ar au) (aR : SlO 3 (nt .i64) a2.zeros Y Z) (aS : SlI (nt .i64) H a2.regs n) (aT : SlI (kSl 3 (nt .i64)) H a2.phi o) (aU : SlI (nt .i64) H a2.zero_ p) (aV : SlI (kSl 3 (nt .i64)) H a2.dst q) (aW : SlI (kSl 3 (nt .i64)) H a2.begin t) (aX : SlI (kSl 3 (nt .i64)) H a2.end_ u) (hp : oI a2 = some r) (hst : St E H [bx g 100 [.int .i64 a2.f.params, .int .i64 a2.f.result, v3, i, j, l, m, ar, Y, n, o, p, q, t, u], au, Z] w) :
    Fn Try.prog 43 #[.pointer (some ⟨g, 0, none⟩)] w fun v w' => ∃ A, oI.R g a2 v3 i j l m n o p q t u r v A ∧ St E H A w' := by
 refine fb 92 [] Try.func43 rfl rfl rfl rfl rfl hst <| sr <| tm rfl <| tm rfl <| tv (nE rfl) rfl <| tv (fa pK rfl) rfl <| tv (fa n6 rfl) rfl <| tv (lb s39 0 rfl rfl rfl) rfl <| tv (ln u39 aw rfl) rfl <| tk (k := (kSl 3 (nt .i64))) u73 i25 hp ⟨_, rfl, SlO.nil 3⟩ rfl rfl rfl rfl rfl rfl fun ce h aY ax hp => tv (nE rfl) rfl <| tv (fa qV rfl) rfl <| ts 1 m73 rfl rfl ax.o1 rfl <| nz <| sr <| tm rfl <| tv (nE rfl) rfl <| tv (fa pK rfl) rfl <| tv (fa oV rfl) rfl <| tv (lb s25 1 rfl rfl rfl) rfl <| tv (ln u25 av rfl) rfl <| tm rfl <| nz <| qo fun aZ a0 => nC <| bE hp fun a1 a3 a4 => ?_
 have a5 {ab ac ad ae af a6} (a7 : SlO 25 (kSl 3 (nt .i64)) ab h ad) (a8 : SlO 3 (nt .i64) ac ae af) (a9 : (ab, ac) = a1) : ∀ w, St E H [bx g 100 [.int .i64 a2.f.params, .int .i64 a2.f.result, v3, i, j, l, m, h, ae, n, o, p, q, t, u], ad, af] w → aZ (ovr a6 []) w := by
  subst a9
  replace hp : oI.nx9 ab ac = some r := a4
  exact viaK a0 <| rt hp [0, 1, 2] ⟨h, ad, ae, af, rfl, rfl, a7, a8⟩
 refine lp a3 [1, 0, 3] rfl (fun s e L => ∃ G F b M z B ay, s = (G, F, b) ∧ SlO 25 (kSl 3 (nt .i64)) G h M ∧ SlO 3 (nt .i64) F z B ∧ e = ovr ay [(0, .pointer (some ⟨g, 0, none⟩)), (20, .int .i64 (len a2.f.regs)), (21, .int .i64 b)] ∧ L = [bx g 100 [.int .i64 a2.f.params, .int .i64 a2.f.result, v3, i, j, l, m, h, z, n, o, p, q, t, u], M, B]) ⟨_, _, _, aY, Y, Z, _, rfl, ax, aR, nD _ _ rfl, rfl⟩ ?_
 rintro _ _ _ ⟨G, F, b, M, z, B, ay, rfl, ag, N, rfl, rfl⟩ ah hp ba
 replace hp : oI.bd9 a2 G F b = some ah := hp
 refine sr <| tv (blt rfl rfl) rfl <| nz <| nv fun cf bb => cD rfl hp (fun bc hp => ?_) fun bc hp => ?_
 · refine sk bb rfl <| nv fun be bf => ?_
   have az {aA aB ai aj ak bg} (bh : SlO 25 (kSl 3 (nt .i64)) aA h ai) (bi : SlO 3 (nt .i64) aB aj ak) (hp : oI.jn19 b aA aB = some ah) : ∀ w, St E H [bx g 100 [.int .i64 a2.f.params, .int .i64 a2.f.result, v3, i, j, l, m, h, aj, n, o, p, q, t, u], ai, ak] w → be (ovr bg [(0, .pointer (some ⟨g, 0, none⟩)), (20, .int .i64 (len a2.f.regs)), (21, .int .i64 b)]) w := by
    exact tg bf <| nG <| tv (bad rfl rfl) rfl <| tm rfl <| nl <| gk hp [0, 1, 2] ⟨_, _, _, ai, aj, ak, _, rfl, bh, bi, nD _ _ rfl, rfl⟩
   refine nC <| sr <| tm rfl <| ta rfl <| nz <| nv fun bj bk => sr <| tm rfl <| tm rfl <| bE hp fun O hy22 hp => tc 0 [_,_,_] rfl c69 (fun _ => wY (a2 := (⟨(⟨a2.f.params, a2.f.result, a2.f.regs, a2.f.blocks⟩ : nA), a2.in_, a2.front, a2.nearest, G, F, a2.regs, a2.phi, a2.zero_, a2.dst, a2.begin, a2.end_⟩ : nS)) (a31 := b) ((pA g 100 _).mono (subB 0 rfl)) (av.mono nw) (aw.mono nw) (aa.mono nw) (aP.mono nw) (aQ.mono nw) (ag.ro.mono (subB 1 rfl)) (N.ro.mono (subB 2 rfl)) (aS.mono nw) (aT.mono nw) (aU.mono nw) (aV.mono nw) (aW.mono nw) (aX.mono nw) hy22) rfl ?_
   rintro _ _ ⟨am, P, rfl, rfl, aC⟩
   refine tv (ln u58 aC.ro rfl) rfl <| tm rfl <| nz <| nC <| bE hp fun bl bm bn => ?_
   have bo {an ao bp} (aD : SlO 25 (kSl 3 (nt .i64)) an h ao) (bq : an = bl) : ∀ w, St E H [bx g 100 [.int .i64 a2.f.params, .int .i64 a2.f.result, v3, i, j, l, m, h, z, n, o, p, q, t, u], ao, B] w → bj (ovr bp [(0, .pointer (some ⟨g, 0, none⟩)), (2, .int .i64 b), (20, .int .i64 (len a2.f.regs)), (21, .int .i64 b)]) w := by
    subst bq
    replace hp : oI.nx29 a2 F b an = some ah := bn
    refine tg bk <| sr <| tm rfl <| tm rfl <| tv (nE rfl) rfl <| tv (fa pK rfl) rfl <| tv (fa py rfl) rfl <| tv (lb s3 0 rfl rfl rfl) rfl <| tv (bge rfl rfl) rfl <| tm rfl <| bE hp fun br ht38 hp => TL.cut 10 fun bs bt => ?_
    have aE {bu} : ∀ w, St E H [bx g 100 [.int .i64 a2.f.params, .int .i64 a2.f.result, v3, i, j, l, m, h, z, n, o, p, q, t, u], ao, B] w → bs (ovr bu [(80, .bool br), (0, .pointer (some ⟨g, 0, none⟩)), (2, .int .i64 b), (20, .int .i64 (len a2.f.regs)), (21, .int .i64 b)]) w := by
     refine tlg bt <| nz <| cB rfl hp (fun bv hp => ?_) fun bv hp => ?_
     · exact nG <| tm rfl <| tm rfl <| tv (nE rfl) rfl <| tv (fa r6 rfl) rfl <| tv (lb s25 0 rfl rfl rfl) rfl <| tm rfl <| tbs [(0, .int .i64 b)] [.int .i64 b] u25 i3 (by kernel_rfl) rfl rfl rfl rfl fun cg => tp [3, 0, 1, 2] [_,_,_,_] rfl rfl <| tf 2 0 [_,_,_,_,_] rfl <| tp2 u25 i3 N hp (RepL.to (RepL.cons (k := (nt .i64)) (x := b) ⟨rfl, rfl⟩ RepL.nil) rfl) rfl rfl rfl rfl rfl rfl rfl rfl rfl fun ci cj ck aF hp => tv (nE rfl) rfl <| tv (fa r6 rfl) rfl <| ts 1 m25 rfl rfl aF.o1 rfl <| nl <| jn [1, 2, 0] (az aD aF hp)
     · exact TC.skip <| jn [0, 1, 2] (az aD N hp)
    refine ifE ht38 (fun d hp => ?_) fun d hp => ?_
    · refine gy rfl (bT d) <| tm rfl <| gy rfl (bT d) <| tv (nE rfl) rfl <| gy rfl (bT d) <| tv (fa tH rfl) rfl <| gy rfl (bT d) <| tv (lb s85 0 rfl rfl rfl) rfl <| gy rfl (bT d) <| ti u85 i58 aa hp rfl rfl rfl rfl ?_
      rintro cl cm cn _ hp ⟨co, rfl, bw⟩ bz
      refine gy rfl (bT d) <| tv (lr s58 sH bz 0 rfl rfl) rfl <| gy rfl (bT d) <| tm rfl <| gy rfl (bT d) <| ti u58 i4 bw hp rfl rfl rfl rfl ?_
      rintro cp cq cr _ hp rfl bA
      refine gy rfl (bT d) <| tv (lr s4 sH bA 0 rfl rfl) rfl <| tv (pT (bT d)) rfl ?_
      obtain rfl := Option.some.inj hp
      exact nj aE rfl
    · refine gn rfl (bF d) rfl rfl <| gn rfl (bF d) rfl rfl <| gn rfl (bF d) rfl rfl <| gn rfl (bF d) rfl rfl <| gn rfl (bF d) rfl rfl <| gn rfl (bF d) rfl rfl <| gn rfl (bF d) rfl rfl <| gn rfl (bF d) rfl rfl <| gn rfl (bF d) rfl rfl <| tv (pF (bF d)) rfl ?_
      obtain rfl := Option.some.inj hp
      exact nj aE rfl
   refine lp bm [1, 2, 3, 0] rfl (fun s e L => ∃ Q C S aG, s = (Q, C) ∧ SlO 25 (kSl 3 (nt .i64)) Q h S ∧ e = ovr aG [(0, .pointer (some ⟨g, 0, none⟩)), (2, .int .i64 b), (20, .int .i64 (len a2.f.regs)), (21, .int .i64 b), (26, am), (27, .int .i64 (len O)), (28, .int .i64 C)] ∧ L = [bx g 100 [.int .i64 a2.f.params, .int .i64 a2.f.result, v3, i, j, l, m, h, z, n, o, p, q, t, u], S, B, P]) ⟨_, _, M, _, rfl, ag, nD _ _ rfl, rfl⟩ ?_
   rintro _ _ _ ⟨Q, C, S, aG, rfl, T, rfl, rfl⟩ aH hp bB
   replace hp : oI.bd29 a2 b O Q C = some aH := hp
   refine sr <| tv (blt rfl rfl) rfl <| nz <| nv fun cs bC => cD rfl hp (fun bD hp => ?_) fun bD hp => ?_
   · refine sk bC rfl <| nv fun bG bH => ?_
     have U {aI ap bI} (bJ : SlO 25 (kSl 3 (nt .i64)) aI h ap) (hp : oI.jn49 C aI = some aH) : ∀ w, St E H [bx g 100 [.int .i64 a2.f.params, .int .i64 a2.f.result, v3, i, j, l, m, h, z, n, o, p, q, t, u], ap, B, P] w → bG (ovr bI [(0, .pointer (some ⟨g, 0, none⟩)), (2, .int .i64 b), (20, .int .i64 (len a2.f.regs)), (21, .int .i64 b), (26, am), (27, .int .i64 (len O)), (28, .int .i64 C)]) w := by
      exact tg bH <| nG <| tv (bad rfl rfl) rfl <| tm rfl <| nl <| gk hp [0, 1, 2, 3] ⟨_, _, ap, _, rfl, bJ, nD _ _ rfl, rfl⟩
     refine nC <| sr <| tm rfl <| ti u58 i4 (aC).ro hp rfl rfl rfl rfl ?_
     rintro ct cu cv _ hp rfl bK
     refine tv (lr s4 (Src.at_ 3 rfl) bK 0 rfl rfl) rfl <| ta rfl <| ta rfl <| nz <| sr <| tm rfl <| tm rfl <| bE hp fun bL ht93 hp => TL.cut 11 fun bM bN => ?_
     have aJ {bO} : ∀ w, St E H [bx g 100 [.int .i64 a2.f.params, .int .i64 a2.f.result, v3, i, j, l, m, h, z, n, o, p, q, t, u], S, B, P] w → bM (ovr bO [(45, .bool bL), (0, .pointer (some ⟨g, 0, none⟩)), (2, .int .i64 b), (3, .int .i64 C), (20, .int .i64 (len a2.f.regs)), (21, .int .i64 b), (26, am), (27, .int .i64 (len O)), (28, .int .i64 C)]) w := by
      refine tlg bN <| nz <| cB rfl hp (fun bP hp => ?_) fun bP hp => ?_
      · refine ch mix [bx g 100 [.int .i64 a2.f.params, .int .i64 a2.f.result, v3, i, j, l, m, h, z, n, o, p, q, t, u], B, P] (nq 0 rfl (nq 2 rfl (nq 3 rfl ns))) <| hv 0 rfl mv (by kernel_rfl) rfl <| hv 1 rfl (nE rfl) (by kernel_rfl) rfl <| hv 2 rfl (fa qV rfl) (by kernel_rfl) rfl <| hv 3 rfl (lbG s73 0 rfl rfl rfl) (by kernel_rfl) rfl <| hv 4 rfl mv (by kernel_rfl) rfl <| hv 5 rfl mv (by kernel_rfl) rfl <| hv 6 rfl (nE rfl) (by kernel_rfl) rfl <| hv 7 rfl (fa qV rfl) (by kernel_rfl) rfl <| hv 8 rfl (lbG s73 0 rfl rfl rfl) (by kernel_rfl) rfl <| hv 9 rfl mv (by kernel_rfl) rfl <| hv 12 rfl mv (by kernel_rfl) rfl <| nU [10, 13] (by kernel_rfl) (by simp) (nF ⟨_, rfl, fun cw bQ => ?_⟩ (nF ⟨_, rfl, fun cx bR => ?_⟩ nV))
        · refine tp [1, 0, 2, 3] [_,_,_,_] rfl rfl <| bE hp fun bS V hp => TL.open_ T V ?_
          rintro bU _ bV bW y ⟨bX, rfl, X⟩
          refine tv (oR u73 i25 rfl rfl (oA V).1 y) rfl <| hk bQ (nq 2 rfl (nq 3 rfl (nq 4 rfl ns))) <| nU [11, 13] (by kernel_rfl) (by simp) (nF ⟨_, rfl, fun cy bY => ?_⟩ (nF ⟨_, rfl, fun cz bZ => ?_⟩ nV))
          · exact tv (lr s25 (Src.at_ 0 rfl) (Hole.cells y) 0 rfl rfl) rfl <| hk bY (nq 2 rfl (nq 3 rfl (nq 4 rfl ns))) <| ho 13 rfl (by kernel_rfl) fun cA b0 => tbs [(0, .int .i64 b)] [.int .i64 b] u25 i3 (by kernel_rfl) rfl rfl rfl rfl fun aK => hk b0 (nq 3 rfl (nq 4 rfl (nq 5 rfl ns))) <| ho 14 rfl (by kernel_rfl) fun cC b1 => tp [2, 0, 1, 3, 4, 5] [_,_,_,_,_,_] rfl rfl <| tf 2 0 [_,_,_,_,_,_,_] rfl <| tp2 u25 i3 X hp (RepL.to (RepL.cons (k := (nt .i64)) (x := b) ⟨rfl, rfl⟩ RepL.nil) rfl) rfl rfl rfl rfl rfl rfl rfl rfl rfl fun I aL aM D hp => hk b1 (nq 2 rfl (nq 3 rfl (nq 4 rfl ns))) <| hv 15 rfl (oR u73 i25 rfl rfl (oA V).1 y) (by kernel_rfl) rfl <| ho 16 rfl (by kernel_rfl) fun cE b2 => tp [1, 0, 2, 3, 4] [_,_,_,_,_] rfl rfl <| tsH y m25 0 rfl D.o1 rfl fun aN J => hk b2 (nq 2 rfl (nq 3 rfl (nq 4 rfl ns))) <| hz (by kernel_rfl) <| W.shut (a := I) J ⟨_, rfl, D⟩ fun aO K => jn [1, 0, 2, 3] (U K hp)
          · exact tbs [(0, .int .i64 b)] [.int .i64 b] u25 i3 (by kernel_rfl) rfl rfl rfl rfl fun aK => hk bZ (nq 3 rfl (nq 4 rfl (nq 5 rfl ns))) <| ho 11 rfl (by kernel_rfl) fun cF b3 => tv (lr s25 (Src.at_ 1 rfl) (Hole.cells y) 0 rfl rfl) rfl <| hk b3 (nq 3 rfl (nq 4 rfl (nq 5 rfl ns))) <| ho 14 rfl (by kernel_rfl) fun cG b4 => tp [2, 0, 1, 3, 4, 5] [_,_,_,_,_,_] rfl rfl <| tf 2 0 [_,_,_,_,_,_,_] rfl <| tp2 u25 i3 X hp (RepL.to (RepL.cons (k := (nt .i64)) (x := b) ⟨rfl, rfl⟩ RepL.nil) rfl) rfl rfl rfl rfl rfl rfl rfl rfl rfl fun I aL aM D hp => hk b4 (nq 2 rfl (nq 3 rfl (nq 4 rfl ns))) <| hv 15 rfl (oR u73 i25 rfl rfl (oA V).1 y) (by kernel_rfl) rfl <| ho 16 rfl (by kernel_rfl) fun cH b5 => tp [1, 0, 2, 3, 4] [_,_,_,_,_] rfl rfl <| tsH y m25 0 rfl D.o1 rfl fun aN J => hk b5 (nq 2 rfl (nq 3 rfl (nq 4 rfl ns))) <| hz (by kernel_rfl) <| W.shut (a := I) J ⟨_, rfl, D⟩ fun aO K => jn [1, 0, 2, 3] (U K hp)
        · refine tbs [(0, .int .i64 b)] [.int .i64 b] u25 i3 (by kernel_rfl) rfl rfl rfl rfl fun aK => hk bR (nq 1 rfl (nq 3 rfl (nq 4 rfl ns))) <| ho 10 rfl (by kernel_rfl) fun cI b6 => tp [2, 0, 1, 3, 4] [_,_,_,_,_] rfl rfl <| bE hp fun bS aq hp => TL.open_ T aq ?_
          rintro bU _ bV bW y ⟨bX, rfl, X⟩
          exact tv (oR u73 i25 rfl rfl (oA aq).1 y) rfl <| hk b6 (nq 3 rfl (nq 4 rfl (nq 5 rfl ns))) <| ho 11 rfl (by kernel_rfl) fun cJ b7 => tv (lr s25 (Src.at_ 0 rfl) (Hole.cells y) 0 rfl rfl) rfl <| hk b7 (nq 3 rfl (nq 4 rfl (nq 5 rfl ns))) <| ho 14 rfl (by kernel_rfl) fun cK b8 => tp [1, 2, 0, 3, 4, 5] [_,_,_,_,_,_] rfl rfl <| tf 2 0 [_,_,_,_,_,_,_] rfl <| tp2 u25 i3 X hp (RepL.to (RepL.cons (k := (nt .i64)) (x := b) ⟨rfl, rfl⟩ RepL.nil) rfl) rfl rfl rfl rfl rfl rfl rfl rfl rfl fun I aL aM D hp => hk b8 (nq 2 rfl (nq 3 rfl (nq 4 rfl ns))) <| hv 15 rfl (oR u73 i25 rfl rfl (oA aq).1 y) (by kernel_rfl) rfl <| ho 16 rfl (by kernel_rfl) fun cL b9 => tp [1, 0, 2, 3, 4] [_,_,_,_,_] rfl rfl <| tsH y m25 0 rfl D.o1 rfl fun aN J => hk b9 (nq 2 rfl (nq 3 rfl (nq 4 rfl ns))) <| hz (by kernel_rfl) <| W.shut (a := I) J ⟨_, rfl, D⟩ fun aO K => jn [1, 0, 2, 3] (U K hp)
      · exact TC.skip <| jn [0, 1, 2, 3] (U T hp)
     refine ifE ht93 (fun c hp => ?_) fun c hp => ?_
     · refine gy rfl (bbT c) <| tm rfl <| gy rfl (bbT c) <| tv (nE rfl) rfl <| gy rfl (bbT c) <| tv (fa tH rfl) rfl <| gy rfl (bbT c) <| tv (lb s85 0 rfl rfl rfl) rfl <| gy rfl (bbT c) <| tm rfl <| gy rfl (bbT c) <| ti u85 i58 aa hp rfl rfl rfl rfl ?_
       rintro cM cN cO _ hp ⟨cP, rfl, ca⟩ cb
       refine gy rfl (bbT c) <| tv (lr s58 sH cb 0 rfl rfl) rfl <| gy rfl (bbT c) <| tm rfl <| gy rfl (bbT c) <| ti u58 i4 ca hp rfl rfl rfl rfl ?_
       rintro cQ cR cS _ hp rfl cc
       refine gy rfl (bbT c) <| tv (lr s4 sH cc 0 rfl rfl) rfl <| tv (pT (bbT c)) rfl ?_
       obtain rfl := Option.some.inj hp
       exact nj aJ rfl
     · refine gn rfl (bbF c) rfl rfl <| gn rfl (bbF c) rfl rfl <| gn rfl (bbF c) rfl rfl <| gn rfl (bbF c) rfl rfl <| gn rfl (bbF c) rfl rfl <| gn rfl (bbF c) rfl rfl <| gn rfl (bbF c) rfl rfl <| gn rfl (bbF c) rfl rfl <| gn rfl (bbF c) rfl rfl <| gn rfl (bbF c) rfl rfl <| tv (pF (bbF c)) rfl ?_
       obtain rfl := Option.some.inj hp
       exact nj aJ rfl
   · exact nN <| jn [0, 1, 2] (bo T (nJ hp bB))
 · exact nN <| jn [0, 1, 2] (a5 ag N (nJ hp ba))
end Go.Proofs.Ytpmcbahahjelnaa
namespace Go.Proofs.Ytpmcbahahjelnaa
open Go Go.Proofs
/-! ### (*fettle/ssa.builder).fresh -/
abbrev qf.R (b : Nat) (a2 : nS) (v3 : Value) (c : Value) (d : Value) (e : Value) (g : Value) (h : Value) (i : Value) (j : Value) (k : Value) (l : Value) (m : Value) (n : Value) (r : Int × List Int) (v : Value) (A : List FP) : Prop := ∃ (w1 : Value) (a : FP), .int .i64 r.1 = v ∧ A = [bx b 100 [.int .i64 a2.f.params, .int .i64 a2.f.result, v3, c, d, e, g, h, i, w1, j, k, l, m, n], a] ∧ SlO 3 (nt .i64) r.2 w1 a
def qf.jn4  (a : List Int) : Option (Int × List Int) :=
  some ((w64 ((len a) - 1)), a)
def qf (a2 : nS) (a31 : Int) : Option (Int × List Int) :=
  (idx a2.f.regs a31).bind fun a =>
  (cat a2.regs [a]).bind fun b =>
  qf.jn4 b
set_option maxHeartbeats 4000000 in
theorem sb {E : World} {H : FP} {w : World} {a2 : nS} {a31 : Int} {c : Nat} {v3 : Value} {d : Value} {e : Value} {g : Value} {h : Value} {i : Value} {j : Value} {z : Value} {B : FP} {l : Value} {m : Value} {n : Value} {o : Value} {p : Value} {r : Int × List Int} (C : SlI (nt .i64) H a2.f.regs v3) (af : SlI nW H a2.f.blocks d) (ag : SlI (kSl 4 kBool) H a2.in_ e) (ah : SlI (kSl 3 (nt .i64)) H a2.front g) (ai : SlI (nt .i64) H a2.nearest h) (aj : SlI (kSl 3 (nt .i64)) H a2.phis i) (ak : SlI (nt .i64) H a2.zeros j) (q : SlO 3 (nt .i64) a2.regs z B) (am : SlI (kSl 3 (nt .i64)) H a2.phi l) (an : SlI (nt .i64) H a2.zero_ m) (ao : SlI (kSl 3 (nt .i64)) H a2.dst n) (ap : SlI (kSl 3 (nt .i64)) H a2.begin o) (aq : SlI (kSl 3 (nt .i64)) H a2.end_ p) (hp : qf a2 a31 = some r) (hst : St E H [bx c 100 [.int .i64 a2.f.params, .int .i64 a2.f.result, v3, d, e, g, h, i, j, z, l, m, n, o, p], B] w) :
    Fn Try.prog 70 #[.pointer (some ⟨c, 0, none⟩), .int .i64 a31] w fun v w' => ∃ A, qf.R c a2 v3 d e g h i j l m n o p r v A ∧ St E H A w' := by
 refine fb 28 [.tmp 4] Try.func70 rfl rfl rfl rfl rfl hst <| sr <| ta rfl <| nz <| nv fun L M => ?_
 have s {D t u N} (F : SlO 3 (nt .i64) D t u) (hp : qf.jn4 D = some r) : ∀ w, St E H [bx c 100 [.int .i64 a2.f.params, .int .i64 a2.f.result, v3, d, e, g, h, i, j, t, l, m, n, o, p], u] w → L (ovr N [(0, .pointer (some ⟨c, 0, none⟩))]) w := by
  exact tg M <| sr <| tm rfl <| tv (nE rfl) rfl <| tv (fa qE rfl) rfl <| tv (lb s25 0 rfl rfl rfl) rfl <| tv (ln u25 F.ro rfl) rfl <| tv (bsu rfl rfl) rfl <| ta rfl <| nz <| nH <| rt hp [0, 1] ⟨t, u, rfl, rfl, F⟩
 refine ch mix [] ns <| hv 0 rfl mv (by kernel_rfl) rfl <| hv 1 rfl mv (by kernel_rfl) rfl <| hv 2 rfl (nE rfl) (by kernel_rfl) rfl <| hv 3 rfl (fa qE rfl) (by kernel_rfl) rfl <| hv 5 rfl mv (by kernel_rfl) rfl <| hv 6 rfl (nE rfl) (by kernel_rfl) rfl <| hv 7 rfl (fa pK rfl) (by kernel_rfl) rfl <| hv 8 rfl (fa oV rfl) (by kernel_rfl) rfl <| hv 10 rfl mv (by kernel_rfl) rfl <| nU [4, 9] (by kernel_rfl) (by simp) (nF ⟨_, rfl, fun ar O => ?_⟩ (nF ⟨_, rfl, fun au P => ?_⟩ nV))
 · refine tv (lb s25 0 rfl rfl rfl) rfl <| hk O ns <| ho 9 rfl (by kernel_rfl) fun av Q => tv (lb s25 0 rfl rfl rfl) rfl <| hk Q ns <| hi 11 rfl u25 i3 C hp rfl rfl rfl (by kernel_rfl) rfl ?_
   rintro a S T _ hp rfl y
   exact hv 12 rfl (lr s3 srcInH y 0 rfl rfl) (by kernel_rfl) rfl <| ho 13 rfl (by kernel_rfl) fun aw U => tbs [(0, .int .i64 a)] [.int .i64 a] u25 i3 (by kernel_rfl) rfl rfl rfl rfl fun G => hk U ns <| ho 14 rfl (by kernel_rfl) fun ax V => tp [2, 0, 1] [_,_,_] rfl rfl <| tf 2 0 [_,_,_,_] rfl <| tp2 u25 i3 q hp (RepL.to (RepL.cons (k := (nt .i64)) (x := a) ⟨rfl, rfl⟩ RepL.nil) rfl) rfl rfl rfl rfl rfl rfl rfl rfl rfl fun I J K b hp => hk V ns <| hv 15 rfl (nE rfl) (by kernel_rfl) rfl <| hv 16 rfl (fa qE rfl) (by kernel_rfl) rfl <| ho 17 rfl (by kernel_rfl) fun ay W => ts 1 m25 rfl rfl b.o1 rfl <| hk W ns <| hz (by kernel_rfl) <| jn [1, 0] (s b hp)
 · refine tv (lb s25 0 rfl rfl rfl) rfl <| hk P ns <| hi 11 rfl u25 i3 C hp rfl rfl rfl (by kernel_rfl) rfl ?_
   rintro a S T _ hp rfl y
   refine hv 12 rfl (lr s3 srcInH y 0 rfl rfl) (by kernel_rfl) rfl <| nU [4, 13] (by kernel_rfl) (by simp) (nF ⟨_, rfl, fun az X => ?_⟩ (nF ⟨_, rfl, fun aA Y => ?_⟩ nV))
   · exact tv (lb s25 0 rfl rfl rfl) rfl <| hk X ns <| ho 13 rfl (by kernel_rfl) fun aB Z => tbs [(0, .int .i64 a)] [.int .i64 a] u25 i3 (by kernel_rfl) rfl rfl rfl rfl fun G => hk Z ns <| ho 14 rfl (by kernel_rfl) fun aC aa => tp [2, 0, 1] [_,_,_] rfl rfl <| tf 2 0 [_,_,_,_] rfl <| tp2 u25 i3 q hp (RepL.to (RepL.cons (k := (nt .i64)) (x := a) ⟨rfl, rfl⟩ RepL.nil) rfl) rfl rfl rfl rfl rfl rfl rfl rfl rfl fun I J K b hp => hk aa ns <| hv 15 rfl (nE rfl) (by kernel_rfl) rfl <| hv 16 rfl (fa qE rfl) (by kernel_rfl) rfl <| ho 17 rfl (by kernel_rfl) fun aD ab => ts 1 m25 rfl rfl b.o1 rfl <| hk ab ns <| hz (by kernel_rfl) <| jn [1, 0] (s b hp)
   · exact tbs [(0, .int .i64 a)] [.int .i64 a] u25 i3 (by kernel_rfl) rfl rfl rfl rfl fun G => hk Y ns <| ho 4 rfl (by kernel_rfl) fun aE ac => tv (lb s25 1 rfl rfl rfl) rfl <| hk ac ns <| ho 14 rfl (by kernel_rfl) fun aF ad => tp [2, 0, 1] [_,_,_] rfl rfl <| tf 2 0 [_,_,_,_] rfl <| tp2 u25 i3 q hp (RepL.to (RepL.cons (k := (nt .i64)) (x := a) ⟨rfl, rfl⟩ RepL.nil) rfl) rfl rfl rfl rfl rfl rfl rfl rfl rfl fun I J K b hp => hk ad ns <| hv 15 rfl (nE rfl) (by kernel_rfl) rfl <| hv 16 rfl (fa qE rfl) (by kernel_rfl) rfl <| ho 17 rfl (by kernel_rfl) fun aG ae => ts 1 m25 rfl rfl b.o1 rfl <| hk ae ns <| hz (by kernel_rfl) <| jn [1, 0] (s b hp)
end Go.Proofs.Ytpmcbahahjelnaa
