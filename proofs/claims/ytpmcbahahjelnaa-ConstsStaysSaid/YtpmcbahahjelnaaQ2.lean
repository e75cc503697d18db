/- Several parts in one text, the first of which: The walk through the program's functions: each one's pure reading, and that a call does what it says. No conditions. -/
import Derived.Test.YtpmcbahahjelnaaQ1
set_option linter.unusedVariables false
set_option linter.unusedSimpArgs false
namespace Go.Proofs.Ytpmcbahahjelnaa
open Go Go.Proofs
section
/-! ### fettle/check.small -/
abbrev pE.R (r : Bool) (v : Value) (A : List FP) : Prop := .bool r = v ∧ A = []
def pE.nx8 (a1 : ny) (a : Int) : Option Bool :=
  some (decide ((((len a1.blocks) ≥ 1 ∧ (len a1.blocks) ≤ 64) ∧ (len a1.regs) ≤ 256) ∧ a ≤ 256))
def pE.bd8 (a1 : ny) (b : Int) (a : Int) : Option (Ex Int (Int × Int)) :=
  if a < (len a1.blocks) then
    (idx a1.blocks a).bind fun c =>
    some (.go ((w64 (b + (w64 ((w64 ((len c.phis) + (len c.ins))) + 1)))), (w64 (a + 1))))
  else
    some (.ret b)
def pE (a1 : ny) : Option Bool :=
  (whl (fun (s : (Int × Int)) => pE.bd8 a1 s.1 s.2) nD (0, 0)).bind fun z =>
  pE.nx8 a1 z
set_option maxHeartbeats 4000000 in
theorem wk {E : World} {H : FP} {w : World} {a1 : ny} {v2 : Value} {c : Value} {r : Bool} (y : SlI (nt .i64) H a1.regs v2) (h : SlI nY H a1.blocks c) (hp : pE a1 = some r) (hst : St E H [] w) :
    Fn Try.prog 84 #[.agg #[.int .i64 a1.params, .int .i64 a1.result, v2, c]] w fun v w' => ∃ A, pE.R r v A ∧ St E H A w' := by
 refine fb 44 [.tmp 2] Try.func84 rfl rfl rfl rfl rfl hst <| sr <| tb [.int .i64 a1.params, .int .i64 a1.result, v2, c] rfl rfl fun d => ta rfl <| nz <| sr <| ta rfl <| nz <| nv fun z B => sr <| tv (fa oa rfl) rfl <| tv (lb s39 0 rfl rfl rfl) rfl <| tv (ln u39 h rfl) rfl <| tm rfl <| nz <| nB <| bE hp fun C D F => ?_
 have G {g I} (J : g = C) : ∀ w, St E H [bx d 41 [.int .i64 a1.params, .int .i64 a1.result, v2, c]] w → z (ovr I [(1, .pointer (some ⟨d, 0, none⟩)), (3, .int .i64 g)]) w := by
  subst J
  replace hp : pE.nx8 a1 g = some r := F
  refine tg B <| sr <| tv (fa oa rfl) rfl <| tv (lb s39 0 rfl rfl rfl) rfl <| tv (ln u39 h rfl) rfl <| tv (bge rfl rfl) rfl <| tm rfl <| TL.cut 5 fun K M => ?_
  have l {N} : ∀ w, St E H [bx d 41 [.int .i64 a1.params, .int .i64 a1.result, v2, c]] w → K (ovr N [(33, .bool (decide ((len a1.blocks) ≥ 1 ∧ (len a1.blocks) ≤ 64))), (1, .pointer (some ⟨d, 0, none⟩)), (3, .int .i64 g)]) w := by
   refine tlg M <| tm rfl <| TL.cut 5 fun O P => ?_
   have m {Q} : ∀ w, St E H [bx d 41 [.int .i64 a1.params, .int .i64 a1.result, v2, c]] w → O (ovr Q [(39, .bool (decide (((len a1.blocks) ≥ 1 ∧ (len a1.blocks) ≤ 64) ∧ (len a1.regs) ≤ 256))), (3, .int .i64 g)]) w := by
    refine tlg P <| tm rfl <| TL.cut 3 fun S T => ?_
    have n {U} : ∀ w, St E H [bx d 41 [.int .i64 a1.params, .int .i64 a1.result, v2, c]] w → S (ovr U [(43, .bool (decide ((((len a1.blocks) ≥ 1 ∧ (len a1.blocks) ≤ 64) ∧ (len a1.regs) ≤ 256) ∧ g ≤ 256)))]) w := by
     exact tlg T <| ta rfl <| nz <| nH <| rt hp [] ⟨rfl, rfl⟩
    by_cases f : ((len a1.blocks) ≥ 1 ∧ (len a1.blocks) ≤ 64) ∧ (len a1.regs) ≤ 256
    · exact gy rfl (bT f) <| tm rfl <| gy rfl (bT f) <| tv (ble rfl rfl) rfl <| tv (pT (bT f)) rfl <| nj n (bAt f)
    · exact gn rfl (bF f) rfl rfl <| gn rfl (bF f) rfl rfl <| tv (pF (bF f)) rfl <| nj n (bAf f)
   by_cases a : (len a1.blocks) ≥ 1 ∧ (len a1.blocks) ≤ 64
   · exact gy rfl (bT a) <| tv (fa o7 rfl) rfl <| gy rfl (bT a) <| tv (lb s25 0 rfl rfl rfl) rfl <| gy rfl (bT a) <| tv (ln u25 y rfl) rfl <| gy rfl (bT a) <| tv (ble rfl rfl) rfl <| tv (pT (bT a)) rfl <| nj m (bAt a)
   · exact gn rfl (bF a) rfl rfl <| gn rfl (bF a) rfl rfl <| gn rfl (bF a) rfl rfl <| gn rfl (bF a) rfl rfl <| tv (pF (bF a)) rfl <| nj m (bAf a)
  by_cases b : (len a1.blocks) ≥ 1
  · exact gy rfl (bT b) <| tv (fa oa rfl) rfl <| gy rfl (bT b) <| tv (lb s39 0 rfl rfl rfl) rfl <| gy rfl (bT b) <| tv (ln u39 h rfl) rfl <| gy rfl (bT b) <| tv (ble rfl rfl) rfl <| tv (pT (bT b)) rfl <| nj l (bAt b)
  · exact gn rfl (bF b) rfl rfl <| gn rfl (bF b) rfl rfl <| gn rfl (bF b) rfl rfl <| gn rfl (bF b) rfl rfl <| tv (pF (bF b)) rfl <| nj l (bAf b)
 refine lp D [0] rfl (fun s e L => ∃ i j o, s = (i, j) ∧ e = ovr o [(1, .pointer (some ⟨d, 0, none⟩)), (3, .int .i64 i), (7, c), (8, .int .i64 (len a1.blocks)), (9, .int .i64 j)] ∧ L = [bx d 41 [.int .i64 a1.params, .int .i64 a1.result, v2, c]]) ⟨_, _, _, rfl, nC _ _ rfl, rfl⟩ ?_
 rintro _ _ _ ⟨i, j, o, rfl, rfl, rfl⟩ V hp W
 replace hp : pE.bd8 a1 i j = some V := hp
 refine sr <| tv (blt rfl rfl) rfl <| nz <| nv fun ac X => cD rfl hp (fun Y hp => ?_) fun Y hp => ?_
 · refine sk X rfl <| nv fun ad Z => nB <| sr <| ti u39 i50 h hp rfl rfl rfl rfl ?_
   rintro k ae af _ hp ⟨p, q, t, rfl, u, x, aa⟩ ab
   exact tv (lR (ds := [p, q, .int .i64 k.term.kind, .int .i64 k.term.arg, t]) oY sH ab 0 rfl rfl rfl) rfl <| tl i50 rfl fun ag => tS 0 m50 rfl rfl [p, q, .int .i64 k.term.kind, .int .i64 k.term.arg, t] rfl (oc (u).one (oc (x).one (oc rfl (oc rfl (oc (aa).one oc0))))) rfl rfl <| nz <| nF <| tm rfl <| tv (fa oE rfl) rfl <| tv (lb s47 0 rfl rfl rfl) rfl <| tv (ln u47 u rfl) rfl <| tv (fa oB rfl) rfl <| tv (lb s48 0 rfl rfl rfl) rfl <| tv (ln u48 x rfl) rfl <| tv (bad rfl rfl) rfl <| tv (bad rfl rfl) rfl <| tv (bad rfl rfl) rfl <| ta rfl <| nl <| tg Z <| nF <| tv (bad rfl rfl) rfl <| tm rfl <| nl <| gk hp [1] ⟨_, _, _, rfl, nC _ _ rfl, rfl⟩
 · exact nN <| jn [0] (G (nK hp W))
/-! ### fettle/check.value -/
abbrev qY.R (r : Bool) (v : Value) (A : List FP) : Prop := .bool r = v ∧ A = []
def qY (a1 : Int) : Option Bool :=
  some (decide (a1 = 1 ∨ a1 = 2))
theorem tW {E : World} {H : FP} {w : World} {a1 : Int} {r : Bool}  (hp : qY a1 = some r) (hst : St E H [] w) :
    Fn Try.prog 94 #[.int .i64 a1] w fun v w' => ∃ A, qY.R r v A ∧ St E H A w' := by
 refine fb 9 [.tmp 2] Try.func94 rfl rfl rfl rfl rfl hst <| sr <| ta rfl <| nz <| sr <| tm rfl <| tv (beq rfl rfl) rfl <| tm rfl <| TL.cut 3 fun c d => ?_
 have b {e} : ∀ w, St E H [] w → c (ovr e [(8, .bool (decide (a1 = 1 ∨ a1 = 2)))]) w := by
  exact tlg d <| ta rfl <| nz <| nH <| rt hp [] ⟨rfl, rfl⟩
 by_cases a : a1 = 1
 · exact gn rfl (bT a) rfl rfl <| gn rfl (bT a) rfl rfl <| tv (pT (bT a)) rfl <| nj b (bOt a)
 · exact gy rfl (bF a) <| tm rfl <| gy rfl (bF a) <| tv (beq rfl rfl) rfl <| tv (pF (bF a)) rfl <| nj b (bOf a)
/-! ### fettle/check.typed$1 -/
abbrev rC.R (r : Bool) (v : Value) (A : List FP) : Prop := .bool r = v ∧ A = []
def rC (a1 : Int) : Option Bool :=
  (qY a1).bind fun a =>
  some (!a)
theorem wl {E : World} {H : FP} {w : World} {a1 : Int} {r : Bool}  (hp : rC a1 = some r) (hst : St E H [] w) :
    Fn Try.prog 93 #[.int .i64 a1] w fun v w' => ∃ A, rC.R r v A ∧ St E H A w' := by
 refine fb 6 [.tmp 2] Try.func93 rfl rfl rfl rfl rfl hst <| sr <| ta rfl <| nz <| sr <| tm rfl <| bE hp fun a hy1 hp => tc 0 [] rfl c94 (fun _ => tW (a1 := a1) hy1) rfl ?_
 rintro _ _ ⟨rfl, rfl⟩
 exact tv (oI rfl) rfl <| ta rfl <| nz <| nH <| rt hp [] ⟨rfl, rfl⟩
/-! ### slices.IndexFunc[[]int,int] -/
abbrev pM.R (r : Int) (v : Value) (A : List FP) : Prop := .int .i64 r = v ∧ A = []
def pM.nx8  : Option Int :=
  some (-1)
def pM.bd8 (a1 : List Int) (a : Int) : Option (Ex (Ex Int Unit) Int) :=
  if a < (len a1) then
    (idx a1 a).bind fun b =>
    (rC b).bind fun c =>
    if c = true then
      some (.ret (.ret a))
    else
      some (.go (w64 (a + 1)))
  else
    some (.ret (.go ()))
def pM (a1 : List Int) : Option Int :=
  (whl (fun (s : Int) => pM.bd8 a1 s) nD 0).bind fun z =>
  match z with
    | .ret r => some r
    | .go p => pM.nx8
theorem wm {E : World} {H : FP} {w : World} {a1 : List Int} {v2 : Value} {r : Int} (a : SlI (nt .i64) H a1 v2) (hp : pM a1 = some r) (hst : St E H [] w) :
    Fn Try.prog 100 #[v2, .func (.func 93) #[] #[]] w fun v w' => ∃ A, pM.R r v A ∧ St E H A w' := by
 refine fb 19 [.tmp 4] Try.func100 rfl rfl rfl rfl rfl hst <| sr <| ta rfl <| nz <| nv fun f g => sr <| tm rfl <| tv (ln u25 a rfl) rfl <| tm rfl <| nz <| nB <| bE hp fun h i b => ?_
 have j {k} (l : .go () = h) : ∀ w, St E H [] w → f (ovr k []) w := by
  subst l
  replace hp : pM.nx8 = some r := b
  exact tg g <| sr <| ta rfl <| nz <| nH <| rt hp [] ⟨rfl, rfl⟩
 refine lp i [] rfl (fun s e L => ∃ c, e = ovr c [(0, v2), (1, .func (.func 93) #[] #[]), (7, .int .i64 (len a1)), (8, .int .i64 s)] ∧ L = []) ⟨_, nC _ _ rfl, rfl⟩ ?_
 rintro m _ _ ⟨c, rfl, rfl⟩ n hp d
 replace hp : pM.bd8 a1 m = some n := hp
 refine sr <| tv (blt rfl rfl) rfl <| nz <| nv fun y o => cD rfl hp (fun p hp => ?_) fun p hp => ?_
 · refine sk o rfl <| nv fun z q => nB <| sr <| tm rfl <| ta rfl <| nz <| sr <| tm rfl <| tm rfl <| tm rfl <| ti u25 i3 a hp rfl rfl rfl rfl ?_
   rintro t B C _ hp rfl u
   refine tv (lr s3 sH u 0 rfl rfl) rfl <| bE hp fun D hy18 hp => tcv 0 [] rfl c93 rfl (fun _ => wl (a1 := t) hy18) rfl ?_
   rintro _ _ ⟨rfl, rfl⟩
   refine nz <| cB rfl hp (fun x hp => ?_) fun x hp => ?_
   · refine sr <| tm rfl <| ta rfl <| nz <| nH ?_
     obtain rfl := nK hp d
     exact rt b [] ⟨rfl, rfl⟩
   · exact sk q rfl <| nF <| tv (bad rfl rfl) rfl <| tm rfl <| nl <| gk hp [] ⟨_, nC _ _ rfl, rfl⟩
 · exact nN <| jn [] (j (nK hp d))
/-! ### slices.ContainsFunc[[]int,int] -/
abbrev rD.R (r : Bool) (v : Value) (A : List FP) : Prop := .bool r = v ∧ A = []
def rD (a1 : List Int) : Option Bool :=
  (pM a1).bind fun a =>
  some (decide (a ≥ 0))
theorem wn {E : World} {H : FP} {w : World} {a1 : List Int} {v2 : Value} {r : Bool} (a : SlI (nt .i64) H a1 v2) (hp : rD a1 = some r) (hst : St E H [] w) :
    Fn Try.prog 95 #[v2, .func (.func 93) #[] #[]] w fun v w' => ∃ A, rD.R r v A ∧ St E H A w' := by
 refine fb 9 [.tmp 4] Try.func95 rfl rfl rfl rfl rfl hst <| sr <| ta rfl <| nz <| sr <| tm rfl <| tm rfl <| bE hp fun b hy1 hp => tc 0 [] rfl c100 (fun _ => wm (a1 := a1) (a.mono nw) hy1) rfl ?_
 rintro _ _ ⟨rfl, rfl⟩
 exact tv (bge rfl rfl) rfl <| ta rfl <| nz <| nH <| rt hp [] ⟨rfl, rfl⟩
/-! ### fettle/check.typed -/
abbrev qZ.R (r : Bool) (v : Value) (A : List FP) : Prop := .bool r = v ∧ A = []
def qZ (a1 : ny) : Option Bool :=
  (rD a1.regs).bind fun a =>
  (if (((!a) = true ∧ a1.params ≥ 0) ∧ a1.params ≤ 8) ∧ a1.params ≤ (len a1.regs) then (if a1.result = 0 then some true else (qY a1.result).bind fun b =>
  some b).bind fun c =>
  some c else some false).bind fun d =>
  some d
set_option maxHeartbeats 4000000 in
theorem wo {E : World} {H : FP} {w : World} {a1 : ny} {v2 : Value} {f : Value} {r : Bool} (i : SlI (nt .i64) H a1.regs v2) (L : SlI nY H a1.blocks f) (hp : qZ a1 = some r) (hst : St E H [] w) :
    Fn Try.prog 85 #[.agg #[.int .i64 a1.params, .int .i64 a1.result, v2, f]] w fun v w' => ∃ A, qZ.R r v A ∧ St E H A w' := by
 refine fb 37 [.tmp 2] Try.func85 rfl rfl rfl rfl rfl hst <| sr <| tb [.int .i64 a1.params, .int .i64 a1.result, v2, f] rfl rfl fun g => ta rfl <| nz <| sr <| ta rfl <| nz <| sr <| tv (fa o7 rfl) rfl <| tv (lb s25 0 rfl rfl rfl) rfl <| tm rfl <| bE hp fun h hy1 hp => tc 0 [_] rfl c95 (fun _ => wn (a1 := a1.regs) (i.mono nw) hy1) rfl ?_
 rintro _ _ ⟨rfl, rfl⟩
 refine tv (oI rfl) rfl <| tm rfl <| TL.cut 4 fun o p => ?_
 have j {q} : ∀ w, St E H [bx g 41 [.int .i64 a1.params, .int .i64 a1.result, v2, f]] w → o (ovr q [(13, .bool (decide ((!h) = true ∧ a1.params ≥ 0))), (1, .pointer (some ⟨g, 0, none⟩))]) w := by
  refine tlg p <| tm rfl <| TL.cut 4 fun s t => ?_
  have k {u} : ∀ w, St E H [bx g 41 [.int .i64 a1.params, .int .i64 a1.result, v2, f]] w → s (ovr u [(18, .bool (decide (((!h) = true ∧ a1.params ≥ 0) ∧ a1.params ≤ 8))), (1, .pointer (some ⟨g, 0, none⟩))]) w := by
   refine tlg t <| tm rfl <| TL.cut 7 fun x y => ?_
   have l {z} : ∀ w, St E H [bx g 41 [.int .i64 a1.params, .int .i64 a1.result, v2, f]] w → x (ovr z [(26, .bool (decide ((((!h) = true ∧ a1.params ≥ 0) ∧ a1.params ≤ 8) ∧ a1.params ≤ (len a1.regs)))), (1, .pointer (some ⟨g, 0, none⟩))]) w := by
    refine tlg y <| tm rfl <| bE hp fun B ht23 hp => TL.cut 9 fun C D => ?_
    have m {F} : ∀ w, St E H [bx g 41 [.int .i64 a1.params, .int .i64 a1.result, v2, f]] w → C (ovr F [(36, .bool B)]) w := by
     exact tlg D <| ta rfl <| nz <| nH <| rt hp [] ⟨rfl, rfl⟩
    refine ifE ht23 (fun b hp => ?_) fun b hp => ?_
    · refine gy rfl (bT b) <| tv (fa p5 rfl) rfl <| gy rfl (bT b) <| tv (lb s3 0 rfl rfl rfl) rfl <| gy rfl (bT b) <| tv (beq rfl rfl) rfl <| gy rfl (bT b) <| tm rfl <| bE hp fun G ht29 hp => TL.cut 4 fun I J => ?_
      have n {K} : ∀ w, St E H [bx g 41 [.int .i64 a1.params, .int .i64 a1.result, v2, f]] w → I (ovr K [(35, .bool G), (27, .bool (decide ((((!h) = true ∧ a1.params ≥ 0) ∧ a1.params ≤ 8) ∧ a1.params ≤ (len a1.regs))))]) w := by
       refine tlg J <| tv (pT (bT b)) rfl ?_
       obtain rfl := Option.some.inj hp
       exact nj m rfl
      refine ifE ht29 (fun e hp => ?_) fun e hp => ?_
      · refine gn rfl (bT e) rfl rfl <| gn rfl (bT e) rfl rfl <| gn rfl (bT e) rfl rfl <| gy rfl (bT b) <| tv (pT (bT e)) rfl ?_
        obtain rfl := Option.some.inj hp
        exact nj n rfl
      · refine gy rfl (bF e) <| tv (fa p5 rfl) rfl <| gy rfl (bF e) <| tv (lb s3 0 rfl rfl rfl) rfl <| gy rfl (bF e) <| bE hp fun M hy30 hp => tc 0 [_] rfl c94 (fun _ => tW (a1 := a1.result) hy30) rfl ?_
        rintro _ _ ⟨rfl, rfl⟩
        refine gy rfl (bT b) <| tv (pF (bF e)) rfl ?_
        obtain rfl := Option.some.inj hp
        exact nj n rfl
    · refine gn rfl (bF b) rfl rfl <| gn rfl (bF b) rfl rfl <| gn rfl (bF b) rfl rfl <| gn rfl (bF b) rfl rfl <| gu rfl rfl rfl <| gu rfl rfl rfl <| gu rfl rfl rfl <| gn rfl (bF b) rfl rfl <| tv (pF (bF b)) rfl ?_
      obtain rfl := Option.some.inj hp
      exact nj m rfl
   by_cases a : ((!h) = true ∧ a1.params ≥ 0) ∧ a1.params ≤ 8
   · exact gy rfl (bT a) <| tv (fa po rfl) rfl <| gy rfl (bT a) <| tv (lb s3 0 rfl rfl rfl) rfl <| gy rfl (bT a) <| tv (fa o7 rfl) rfl <| gy rfl (bT a) <| tv (lb s25 0 rfl rfl rfl) rfl <| gy rfl (bT a) <| tv (ln u25 i rfl) rfl <| gy rfl (bT a) <| tv (ble rfl rfl) rfl <| tv (pT (bT a)) rfl <| nj l (bAt a)
   · exact gn rfl (bF a) rfl rfl <| gn rfl (bF a) rfl rfl <| gn rfl (bF a) rfl rfl <| gn rfl (bF a) rfl rfl <| gn rfl (bF a) rfl rfl <| gn rfl (bF a) rfl rfl <| tv (pF (bF a)) rfl <| nj l (bAf a)
  by_cases c : (!h) = true ∧ a1.params ≥ 0
  · exact gy rfl (bT c) <| tv (fa po rfl) rfl <| gy rfl (bT c) <| tv (lb s3 0 rfl rfl rfl) rfl <| gy rfl (bT c) <| tv (ble rfl rfl) rfl <| tv (pT (bT c)) rfl <| nj k (bAt c)
  · exact gn rfl (bF c) rfl rfl <| gn rfl (bF c) rfl rfl <| gn rfl (bF c) rfl rfl <| tv (pF (bF c)) rfl <| nj k (bAf c)
 by_cases d : (!h) = true
 · exact gy rfl (bbT d) <| tv (fa po rfl) rfl <| gy rfl (bbT d) <| tv (lb s3 0 rfl rfl rfl) rfl <| gy rfl (bbT d) <| tv (bge rfl rfl) rfl <| tv (pT (bbT d)) rfl <| nj j (bAt d)
 · exact gn rfl (bbF d) rfl rfl <| gn rfl (bbF d) rfl rfl <| gn rfl (bbF d) rfl rfl <| tv (pF (bbF d)) rfl <| nj j (bAf d)
/-! ### fettle/check.ends -/
abbrev pG.R (r : Bool) (v : Value) (A : List FP) : Prop := .bool r = v ∧ A = []
def pG.nx8 (a6 : PTerm) : Option Bool :=
  if a6.kind = 1 then
    some (decide ((len a6.to) = 1))
  else
    if a6.kind = 2 then
      (if (len a6.to) = 2 then (idx a6.to 0).bind fun a =>
      (idx a6.to 1).bind fun b =>
      some (decide (¬ a = b)) else some false).bind fun c =>
      some c
    else
      some (decide (a6.kind = 3 ∧ (len a6.to) = 0))
def pG.bd8 (a1 : ny) (a6 : PTerm) (a : Int) : Option (Ex (Ex Bool Unit) Int) :=
  if a < (len a6.to) then
    (idx a6.to a).bind fun b =>
    if b < 1 ∨ b ≥ (len a1.blocks) then
      some (.ret (.ret false))
    else
      some (.go (w64 (a + 1)))
  else
    some (.ret (.go ()))
def pG (a1 : ny) (a6 : PTerm) : Option Bool :=
  (whl (fun (s : Int) => pG.bd8 a1 a6 s) nD 0).bind fun z =>
  match z with
    | .ret r => some r
    | .go p => pG.nx8 a6
set_option maxHeartbeats 4000000 in
theorem wq {E : World} {H : FP} {w : World} {a1 : ny} {a6 : PTerm} {v2 : Value} {h : Value} {d : Value} {r : Bool} (ae : SlI (nt .i64) H a1.regs v2) (t : SlI nY H a1.blocks h) (f : SlI (nt .i64) H a6.to d) (hp : pG a1 a6 = some r) (hst : St E H [] w) :
    Fn Try.prog 86 #[.agg #[.int .i64 a1.params, .int .i64 a1.result, v2, h], .agg #[.int .i64 a6.kind, .int .i64 a6.arg, d]] w fun v w' => ∃ A, pG.R r v A ∧ St E H A w' := by
 refine fb 58 [.tmp 4] Try.func86 rfl rfl rfl rfl rfl hst <| sr <| tb [.int .i64 a1.params, .int .i64 a1.result, v2, h] rfl rfl fun i => tb [.int .i64 a6.kind, .int .i64 a6.arg, d] rfl rfl fun g => ta rfl <| nz <| nv fun u x => sr <| tv (fa o8 rfl) rfl <| tv (lb s25 0 rfl rfl rfl) rfl <| tv (ln u25 f rfl) rfl <| tm rfl <| nz <| nB <| bE hp fun y z k => ?_
 have B {C} (D : .go () = y) : ∀ w, St E H [bx g 46 [.int .i64 a6.kind, .int .i64 a6.arg, d]] w → u (ovr C [(3, .pointer (some ⟨g, 0, none⟩))]) w := by
  subst D
  replace hp : pG.nx8 a6 = some r := k
  refine tg x <| nv fun af F => sr <| tv (fa p6 rfl) rfl <| tv (lb s3 0 rfl rfl rfl) rfl <| nz <| nB <| sr <| tv (beq rfl rfl) rfl <| ta rfl <| nz <| cD rfl hp (fun G hp => ?_) fun G hp => ?_
  · exact sr <| tv (fa o8 rfl) rfl <| tv (lb s25 0 rfl rfl rfl) rfl <| tv (ln u25 f rfl) rfl <| tv (beq rfl rfl) rfl <| ta rfl <| nz <| nH <| rt hp [] ⟨rfl, rfl⟩
  · refine sr <| tv (beq rfl rfl) rfl <| ta rfl <| nz <| cD rfl hp (fun I hp => ?_) fun I hp => ?_
    · refine nv fun ag J => cq mix Ag <| qv (fa o8 rfl) rfl <| qv (lb s25 0 rfl rfl rfl) rfl <| qv (ln u25 f rfl) rfl <| qv (beq rfl rfl) rfl <| qv mv rfl <| bE hp fun K ht21 hp => QL.cut 10 fun M N => ?_
      have l {O} : M (ovr O [(48, .bool K)]) := by
       exact N _ <| qv sg rfl <| QL.nil <| tg J <| nH <| rt hp [] ⟨rfl, rfl⟩
      refine ifE ht21 (fun a hp => ?_) fun a hp => ?_
      · refine qgy rfl (bT a) <| qv (fa o8 rfl) rfl <| qgy rfl (bT a) <| qv (lb s25 0 rfl rfl rfl) rfl <| qgy rfl (bT a) <| qi u25 i3 f hp rfl rfl rfl rfl ?_
        rintro ah ai aj _ hp rfl P
        refine qgy rfl (bT a) <| qv (lr s3 sH P 0 rfl rfl) rfl <| qgy rfl (bT a) <| qv (fa o8 rfl) rfl <| qgy rfl (bT a) <| qv (lb s25 0 rfl rfl rfl) rfl <| qgy rfl (bT a) <| qi u25 i3 f hp rfl rfl rfl rfl ?_
        rintro ak al am _ hp rfl Q
        refine qgy rfl (bT a) <| qv (lr s3 sH Q 0 rfl rfl) rfl <| qgy rfl (bT a) <| qv (bne rfl rfl) rfl <| qv (pT (bT a)) rfl ?_
        obtain rfl := Option.some.inj hp
        exact qj l rfl
      · refine qgn rfl (bF a) rfl rfl <| qgn rfl (bF a) rfl rfl <| qgn rfl (bF a) rfl rfl <| qgn rfl (bF a) rfl rfl <| qgn rfl (bF a) rfl rfl <| qgn rfl (bF a) rfl rfl <| qgn rfl (bF a) rfl rfl <| qgn rfl (bF a) rfl rfl <| qgn rfl (bF a) rfl rfl <| qv (pF (bF a)) rfl ?_
        obtain rfl := Option.some.inj hp
        exact qj l rfl
    · refine sk F rfl <| sr <| tv (fa p6 rfl) rfl <| tv (lb s3 0 rfl rfl rfl) rfl <| tv (beq rfl rfl) rfl <| tm rfl <| TL.cut 5 fun S T => ?_
      have m {U} : ∀ w, St E H [bx g 46 [.int .i64 a6.kind, .int .i64 a6.arg, d]] w → S (ovr U [(57, .bool (decide (a6.kind = 3 ∧ (len a6.to) = 0)))]) w := by
       exact tlg T <| ta rfl <| nz <| nH <| rt hp [] ⟨rfl, rfl⟩
      by_cases c : a6.kind = 3
      · exact gy rfl (bT c) <| tv (fa o8 rfl) rfl <| gy rfl (bT c) <| tv (lb s25 0 rfl rfl rfl) rfl <| gy rfl (bT c) <| tv (ln u25 f rfl) rfl <| gy rfl (bT c) <| tv (beq rfl rfl) rfl <| tv (pT (bT c)) rfl <| nj m (bAt c)
      · exact gn rfl (bF c) rfl rfl <| gn rfl (bF c) rfl rfl <| gn rfl (bF c) rfl rfl <| gn rfl (bF c) rfl rfl <| tv (pF (bF c)) rfl <| nj m (bAf c)
 refine lp z [1, 0] rfl (fun s e L => ∃ n, e = ovr n [(2, .pointer (some ⟨i, 0, none⟩)), (3, .pointer (some ⟨g, 0, none⟩)), (8, d), (9, .int .i64 (len a6.to)), (10, .int .i64 s)] ∧ L = [bx i 41 [.int .i64 a1.params, .int .i64 a1.result, v2, h], bx g 46 [.int .i64 a6.kind, .int .i64 a6.arg, d]]) ⟨_, nC _ _ rfl, rfl⟩ ?_
 rintro o _ _ ⟨n, rfl, rfl⟩ V hp p
 replace hp : pG.bd8 a1 a6 o = some V := hp
 refine sr <| tv (blt rfl rfl) rfl <| nz <| nv fun an W => cD rfl hp (fun X hp => ?_) fun X hp => ?_
 · refine sk W rfl <| nv fun ao Y => nB <| sr <| ti u25 i3 f hp rfl rfl rfl rfl ?_
   rintro j ap aq _ hp rfl Z
   refine tv (lr s3 sH Z 0 rfl rfl) rfl <| ta rfl <| nz <| sr <| tm rfl <| tv (blt rfl rfl) rfl <| tm rfl <| TL.cut 6 fun aa ab => ?_
   have q {ac} : ∀ w, St E H [bx i 41 [.int .i64 a1.params, .int .i64 a1.result, v2, h], bx g 46 [.int .i64 a6.kind, .int .i64 a6.arg, d]] w → aa (ovr ac [(22, .bool (decide (j < 1 ∨ j ≥ (len a1.blocks)))), (2, .pointer (some ⟨i, 0, none⟩)), (3, .pointer (some ⟨g, 0, none⟩)), (8, d), (9, .int .i64 (len a6.to)), (10, .int .i64 o)]) w := by
    refine tlg ab <| nz <| cD rfl hp (fun ad hp => ?_) fun ad hp => ?_
    · refine sr <| ta rfl <| nz <| nH ?_
      obtain rfl := nK hp p
      exact rt k [] ⟨rfl, rfl⟩
    · exact sk Y rfl <| nF <| tv (bad rfl rfl) rfl <| tm rfl <| nl <| gk hp [0, 1] ⟨_, nC _ _ rfl, rfl⟩
   by_cases b : j < 1
   · exact gn rfl (bT b) rfl rfl <| gn rfl (bT b) rfl rfl <| gn rfl (bT b) rfl rfl <| gn rfl (bT b) rfl rfl <| gn rfl (bT b) rfl rfl <| tv (pT (bT b)) rfl <| nj q (bOt b)
   · exact gy rfl (bF b) <| tm rfl <| gy rfl (bF b) <| tv (fa oa rfl) rfl <| gy rfl (bF b) <| tv (lb s39 0 rfl rfl rfl) rfl <| gy rfl (bF b) <| tv (ln u39 t rfl) rfl <| gy rfl (bF b) <| tv (bge rfl rfl) rfl <| tv (pF (bF b)) rfl <| nj q (bOf b)
 · exact nN <| jn [1] (B (nK hp p))
/-! ### slices.Index[[]int,int] -/
abbrev pj.R (r : Int) (v : Value) (A : List FP) : Prop := .int .i64 r = v ∧ A = []
def pj.nx8  : Option Int :=
  some (-1)
def pj.bd8 (a1 : List Int) (a4 : Int) (a : Int) : Option (Ex (Ex Int Unit) Int) :=
  if a < (len a1) then
    (idx a1 a).bind fun b =>
    if a4 = b then
      some (.ret (.ret a))
    else
      some (.go (w64 (a + 1)))
  else
    some (.ret (.go ()))
def pj (a1 : List Int) (a4 : Int) : Option Int :=
  (whl (fun (s : Int) => pj.bd8 a1 a4 s) nD 0).bind fun z =>
  match z with
    | .ret r => some r
    | .go p => pj.nx8
theorem tX {E : World} {H : FP} {w : World} {a1 : List Int} {a4 : Int} {v2 : Value} {r : Int} (a : SlI (nt .i64) H a1 v2) (hp : pj a1 a4 = some r) (hst : St E H [] w) :
    Fn Try.prog 54 #[v2, .int .i64 a4] w fun v w' => ∃ A, pj.R r v A ∧ St E H A w' := by
 refine fb 19 [.tmp 4] Try.func54 rfl rfl rfl rfl rfl hst <| sr <| ta rfl <| nz <| nv fun f g => sr <| tm rfl <| tv (ln u25 a rfl) rfl <| tm rfl <| nz <| nB <| bE hp fun h i b => ?_
 have j {k} (l : .go () = h) : ∀ w, St E H [] w → f (ovr k []) w := by
  subst l
  replace hp : pj.nx8 = some r := b
  exact tg g <| sr <| ta rfl <| nz <| nH <| rt hp [] ⟨rfl, rfl⟩
 refine lp i [] rfl (fun s e L => ∃ c, e = ovr c [(0, v2), (1, .int .i64 a4), (7, .int .i64 (len a1)), (8, .int .i64 s)] ∧ L = []) ⟨_, nC _ _ rfl, rfl⟩ ?_
 rintro m _ _ ⟨c, rfl, rfl⟩ n hp d
 replace hp : pj.bd8 a1 a4 m = some n := hp
 refine sr <| tv (blt rfl rfl) rfl <| nz <| nv fun x o => cD rfl hp (fun p hp => ?_) fun p hp => ?_
 · refine sk o rfl <| nv fun y q => nB <| sr <| tm rfl <| ta rfl <| nz <| sr <| tm rfl <| tm rfl <| tm rfl <| ti u25 i3 a hp rfl rfl rfl rfl ?_
   rintro z B C _ hp rfl t
   refine tv (lr s3 sH t 0 rfl rfl) rfl <| tv (beq rfl rfl) rfl <| nz <| cD rfl hp (fun u hp => ?_) fun u hp => ?_
   · refine sr <| tm rfl <| ta rfl <| nz <| nH ?_
     obtain rfl := nK hp d
     exact rt b [] ⟨rfl, rfl⟩
   · exact sk q rfl <| nF <| tv (bad rfl rfl) rfl <| tm rfl <| nl <| gk hp [] ⟨_, nC _ _ rfl, rfl⟩
 · exact nN <| jn [] (j (nK hp d))
/-! ### slices.Contains[[]int,int] -/
abbrev qE.R (r : Bool) (v : Value) (A : List FP) : Prop := .bool r = v ∧ A = []
def qE (a1 : List Int) (a4 : Int) : Option Bool :=
  (pj a1 a4).bind fun a =>
  some (decide (a ≥ 0))
theorem sJ {E : World} {H : FP} {w : World} {a1 : List Int} {a4 : Int} {v2 : Value} {r : Bool} (a : SlI (nt .i64) H a1 v2) (hp : qE a1 a4 = some r) (hst : St E H [] w) :
    Fn Try.prog 52 #[v2, .int .i64 a4] w fun v w' => ∃ A, qE.R r v A ∧ St E H A w' := by
 refine fb 9 [.tmp 4] Try.func52 rfl rfl rfl rfl rfl hst <| sr <| ta rfl <| nz <| sr <| tm rfl <| tm rfl <| bE hp fun b hy1 hp => tc 0 [] rfl c54 (fun _ => tX (a1 := a1) (a4 := a4) (a.mono nw) hy1) rfl ?_
 rintro _ _ ⟨rfl, rfl⟩
 exact tv (bge rfl rfl) rfl <| ta rfl <| nz <| nH <| rt hp [] ⟨rfl, rfl⟩
/-! ### fettle/check.Ahead -/
abbrev oF.R (r : List (List Int)) (v : Value) (A : List FP) : Prop := ∃ (w1 : Value) (a : FP), w1 = v ∧ A = [a] ∧ SlO 25 (kSl 3 (nt .i64)) r w1 a
def oF.nx9  (a : List (List Int)) : Option (List (List Int)) :=
  some a
def oF.nx24 (a : Int) (b : List (List Int)) : Option (Ex (List (List Int)) (List (List Int) × Int)) :=
  some (.go (b, (w64 (a + 1))))
def oF.jn34 (a : Int) (b : List (List Int)) : Option (Ex (List (List Int)) (List (List Int) × Int)) :=
  some (.go (b, (w64 (a + 1))))
def oF.bd24 (d : Int) (e : nA) (a : List (List Int)) (c : Int) : Option (Ex (List (List Int)) (List (List Int) × Int)) :=
  if c < (len e.term.to) then
    (idx e.term.to c).bind fun b =>
    (if b ≥ 0 ∧ b < (len a) then (idx a b).bind fun f =>
    (qE f d).bind fun g =>
    some (!g) else some false).bind fun h =>
    if h = true then
      (idx a b).bind fun i =>
      (cat i [d]).bind fun j =>
      oF.jn34 c (a.set (b).toNat j)
    else
      oF.jn34 c a
  else
    some (.ret a)
def oF.bd9 (a1 : ny) (b : List (List Int)) (a : Int) : Option (Ex (List (List Int)) (List (List Int) × Int)) :=
  if a < (len a1.blocks) then
    (idx a1.blocks a).bind fun c =>
    (whl (fun (s : (List (List Int) × Int)) => oF.bd24 a c s.1 s.2) nD (b, 0)).bind fun z =>
    oF.nx24 a z
  else
    some (.ret b)
def oF (a1 : ny) : Option (List (List Int)) :=
  (mkl (len a1.blocks) ([] : List Int)).bind fun a =>
  (whl (fun (s : (List (List Int) × Int)) => oF.bd9 a1 s.1 s.2) nD (a, 0)).bind fun z =>
  oF.nx9 z
set_option maxHeartbeats 4000000 in
theorem qu {E : World} {H : FP} {w : World} {a1 : ny} {v2 : Value} {g : Value} {r : List (List Int)} (aW : SlI (nt .i64) H a1.regs v2) (u : SlI nY H a1.blocks g) (hp : oF a1 = some r) (hst : St E H [] w) :
    Fn Try.prog 27 #[.agg #[.int .i64 a1.params, .int .i64 a1.result, v2, g]] w fun v w' => ∃ A, oF.R r v A ∧ St E H A w' := by
 refine fb 58 [.tmp 2] Try.func27 rfl rfl rfl rfl rfl hst <| sr <| tb [.int .i64 a1.params, .int .i64 a1.result, v2, g] rfl rfl fun aX => ta rfl <| nz <| sr <| tv (fa oa rfl) rfl <| tv (lb s39 0 rfl rfl rfl) rfl <| tv (ln u39 u rfl) rfl <| tk (k := (kSl 3 (nt .i64))) u73 i25 hp ⟨_, rfl, SlO.nil 3⟩ rfl rfl rfl rfl rfl rfl fun aY d X Y hp => ta rfl <| nz <| nv fun Z aa => sr <| tv (fa oa rfl) rfl <| tv (lb s39 1 rfl rfl rfl) rfl <| tv (ln u39 u rfl) rfl <| tm rfl <| nz <| nB <| bE hp fun ab ac ad => ?_
 have ae {y z af} (ag : SlO 25 (kSl 3 (nt .i64)) y d z) (ah : y = ab) : ∀ w, St E H [z] w → Z (ovr af [(3, d)]) w := by
  subst ah
  replace hp : oF.nx9 y = some r := ad
  exact tg aa <| sr <| tm rfl <| ta rfl <| nz <| nH <| rt hp [0] ⟨d, z, rfl, rfl, ag⟩
 refine lp ac [0] rfl (fun s e L => ∃ p b q I, s = (p, b) ∧ SlO 25 (kSl 3 (nt .i64)) p d q ∧ e = ovr I [(3, d), (13, g), (14, .int .i64 (len a1.blocks)), (15, .int .i64 b)] ∧ L = [q]) ⟨_, _, X, _, rfl, Y, nC _ _ rfl, rfl⟩ ?_
 rintro _ _ _ ⟨p, b, q, I, rfl, J, rfl, rfl⟩ K hp ai
 replace hp : oF.bd9 a1 p b = some K := hp
 refine sr <| tv (blt rfl rfl) rfl <| nz <| nv fun aZ aj => cD rfl hp (fun ak hp => ?_) fun ak hp => ?_
 · refine sk aj rfl <| nv fun al am => nB <| sr <| tm rfl <| ti u39 i50 u hp rfl rfl rfl rfl ?_
   rintro h a0 a2 _ hp ⟨M, N, j, rfl, an, ao, B⟩ ap
   refine tv (lR (ds := [M, N, .int .i64 h.term.kind, .int .i64 h.term.arg, j]) oY sH ap 0 rfl rfl rfl) rfl <| tl i50 rfl fun a3 => ta rfl <| tS 0 m50 rfl rfl [M, N, .int .i64 h.term.kind, .int .i64 h.term.arg, j] rfl (oc (an).one (oc (ao).one (oc rfl (oc rfl (oc (B).one oc0))))) rfl rfl <| nz <| sr <| tv (fa oQ rfl) rfl <| tv (fa o8 rfl) rfl <| tv (lb s25 0 rfl rfl rfl) rfl <| tv (ln u25 B rfl) rfl <| tm rfl <| nz <| nB <| bE hp fun aq ar au => ?_
   have av {C D aw} (ax : SlO 25 (kSl 3 (nt .i64)) C d D) (ay : C = aq) : ∀ w, St E H [D] w → al (ovr aw [(3, d), (13, g), (14, .int .i64 (len a1.blocks)), (15, .int .i64 b)]) w := by
    subst ay
    replace hp : oF.nx24 b C = some K := au
    exact tg am <| nF <| tv (bad rfl rfl) rfl <| tm rfl <| nl <| gk hp [0] ⟨_, _, D, _, rfl, ax, nC _ _ rfl, rfl⟩
   refine lp ar [1] rfl (fun s e L => ∃ l i m O, s = (l, i) ∧ SlO 25 (kSl 3 (nt .i64)) l d m ∧ e = ovr O [(3, d), (4, .int .i64 b), (13, g), (14, .int .i64 (len a1.blocks)), (15, .int .i64 b), (22, j), (23, .int .i64 (len h.term.to)), (24, .int .i64 i)] ∧ L = [m]) ⟨_, _, q, _, rfl, J, nC _ _ rfl, rfl⟩ ?_
   rintro _ _ _ ⟨l, i, m, O, rfl, n, rfl, rfl⟩ P hp az
   replace hp : oF.bd24 b h l i = some P := hp
   refine sr <| tv (blt rfl rfl) rfl <| nz <| nv fun a5 aA => cD rfl hp (fun aB hp => ?_) fun aB hp => ?_
   · refine sk aA rfl <| nv fun aC aD => ?_
     have Q {S F aE} (aF : SlO 25 (kSl 3 (nt .i64)) S d F) (hp : oF.jn34 i S = some P) : ∀ w, St E H [F] w → aC (ovr aE [(3, d), (4, .int .i64 b), (13, g), (14, .int .i64 (len a1.blocks)), (15, .int .i64 b), (22, j), (23, .int .i64 (len h.term.to)), (24, .int .i64 i)]) w := by
      exact tg aD <| nF <| tv (bad rfl rfl) rfl <| tm rfl <| nl <| gk hp [0] ⟨_, _, F, _, rfl, aF, nC _ _ rfl, rfl⟩
     refine nB <| sr <| ti u25 i3 B hp rfl rfl rfl rfl ?_
     rintro o a6 a7 _ hp rfl aG
     refine tv (lr s3 sH aG 0 rfl rfl) rfl <| ta rfl <| nz <| sr <| tm rfl <| tv (bge rfl rfl) rfl <| tm rfl <| TL.cut 5 fun aH aI => ?_
     have T {aJ} : ∀ w, St E H [m] w → aH (ovr aJ [(35, .bool (decide (o ≥ 0 ∧ o < (len l)))), (3, d), (4, .int .i64 b), (7, .int .i64 o), (13, g), (14, .int .i64 (len a1.blocks)), (15, .int .i64 b), (22, j), (23, .int .i64 (len h.term.to)), (24, .int .i64 i)]) w := by
      refine tlg aI <| tm rfl <| bE hp fun aK ht50 hp => TL.cut 8 fun aL aM => ?_
      have U {aN} : ∀ w, St E H [m] w → aL (ovr aN [(44, .bool aK), (3, d), (4, .int .i64 b), (7, .int .i64 o), (13, g), (14, .int .i64 (len a1.blocks)), (15, .int .i64 b), (22, j), (23, .int .i64 (len h.term.to)), (24, .int .i64 i)]) w := by
       refine tlg aM <| nz <| cB rfl hp (fun aO hp => ?_) fun aO hp => ?_
       · refine nF <| tm rfl <| tm rfl <| tm rfl <| tm rfl <| bE hp fun a8 G hp => TL.open_ n G ?_
         rintro a9 _ ba bb t ⟨bc, rfl, aP⟩
         exact tv (pa u73 i25 rfl rfl (oM G).1 t) rfl <| tv (lr s25 (Src.at_ 0 rfl) (Hole.cells t) 0 rfl rfl) rfl <| tm rfl <| tbs [(0, .int .i64 b)] [.int .i64 b] u25 i3 Ag rfl rfl rfl rfl fun be => tp [2, 0, 1] [_,_,_] rfl rfl <| tf 2 0 [_,_,_,_] rfl <| tp2 u25 i3 aP hp (RepL.to (RepL.cons (k := (nt .i64)) (x := b) ⟨rfl, rfl⟩ RepL.nil) rfl) rfl rfl rfl rfl rfl rfl rfl rfl rfl fun aQ bf bg V hp => tv (pa u73 i25 rfl rfl (oM G).1 t) rfl <| tp [1, 0] [_,_] rfl rfl <| tsH t m25 0 rfl V.o1 rfl fun bh aR => nl <| W.shut (a := aQ) aR ⟨_, rfl, V⟩ fun bi aS => jn [0] (Q aS hp)
       · exact TC.skip <| jn [0] (Q n hp)
      refine ifE ht50 (fun c hp => ?_) fun c hp => ?_
      · refine gy rfl (bT c) <| tm rfl <| gy rfl (bT c) <| tm rfl <| gy rfl (bT c) <| ti u73 i25 (n).ro hp rfl rfl rfl rfl ?_
        rintro aT bj bk _ hp ⟨bl, rfl, aU⟩ aV
        refine gy rfl (bT c) <| tv (lr s25 (Src.at_ 0 rfl) aV 0 rfl rfl) rfl <| gy rfl (bT c) <| tm rfl <| gy rfl (bT c) <| bE hp fun bm hy52 hp => tc 0 [_] rfl c52 (fun _ => sJ (a1 := aT) (a4 := b) (aU.mono (subB 0 rfl)) hy52) rfl ?_
        rintro _ _ ⟨rfl, rfl⟩
        refine gy rfl (bT c) <| tv (oI rfl) rfl <| tv (pT (bT c)) rfl ?_
        obtain rfl := Option.some.inj hp
        exact nj U rfl
      · refine gn rfl (bF c) rfl rfl <| gn rfl (bF c) rfl rfl <| gn rfl (bF c) rfl rfl <| gn rfl (bF c) rfl rfl <| gn rfl (bF c) rfl rfl <| gn rfl (bF c) rfl rfl <| gn rfl (bF c) rfl rfl <| tv (pF (bF c)) rfl ?_
        obtain rfl := Option.some.inj hp
        exact nj U rfl
     by_cases f : o ≥ 0
     · exact gy rfl (bT f) <| tm rfl <| gy rfl (bT f) <| tm rfl <| gy rfl (bT f) <| tv (ln u73 n.ro rfl) rfl <| gy rfl (bT f) <| tv (blt rfl rfl) rfl <| tv (pT (bT f)) rfl <| nj T (bAt f)
     · exact gn rfl (bF f) rfl rfl <| gn rfl (bF f) rfl rfl <| gn rfl (bF f) rfl rfl <| gn rfl (bF f) rfl rfl <| tv (pF (bF f)) rfl <| nj T (bAf f)
   · exact nN <| jn [0] (av n (nK hp az))
 · exact nN <| jn [0] (ae J (nK hp ai))
/-! ### (*fettle/check.looker).has$1 -/
abbrev rE.R (r : Bool) (v : Value) (A : List FP) : Prop := .bool r = v ∧ A = []
def rE (a1 : Int) (a5 : oh) : Option Bool :=
  some (decide (a1 < 0 ∨ a1 ≥ (len a5.f.regs)))
theorem wr {E : World} {H : FP} {w : World} {a1 : Int} {a5 : oh} {b : Nat} {c : Nat} {d : Nat} {e : Nat} {g : Value} {h : Value} {i : Value} {r : Bool} (k : n7 H b c [.pointer (some ⟨d, e, none⟩)]) (l : n7 H d e [g, .int .i64 a5.f.params, .int .i64 a5.f.result, h, i]) (s : SlI ou H a5.m.funcs g) (n : SlI (nt .i64) H a5.f.regs h) (t : SlI nY H a5.f.blocks i) (hp : rE a1 a5 = some r) (hst : St E H [] w) :
    Fn Try.prog 105 #[.int .i64 a1, .pointer (some ⟨b, c, none⟩)] w fun v w' => ∃ A, rE.R r v A ∧ St E H A w' := by
 refine fb 16 [.tmp 3] Try.func105 rfl rfl rfl rfl rfl hst <| sr <| ta rfl <| nz <| sr <| tm rfl <| tv (blt rfl rfl) rfl <| tm rfl <| TL.cut 9 fun o p => ?_
 have j {q} : ∀ w, St E H [] w → o (ovr q [(15, .bool (decide (a1 < 0 ∨ a1 ≥ (len a5.f.regs))))]) w := by
  exact tlg p <| ta rfl <| nz <| nH <| rt hp [] ⟨rfl, rfl⟩
 by_cases a : a1 < 0
 · exact gn rfl (bT a) rfl rfl <| gn rfl (bT a) rfl rfl <| gn rfl (bT a) rfl rfl <| gn rfl (bT a) rfl rfl <| gn rfl (bT a) rfl rfl <| gn rfl (bT a) rfl rfl <| gn rfl (bT a) rfl rfl <| gn rfl (bT a) rfl rfl <| tv (pT (bT a)) rfl <| nj j (bOt a)
 · exact gy rfl (bF a) <| tm rfl <| gy rfl (bF a) <| tv (lr s143 sH k 0 rfl rfl) rfl <| gy rfl (bF a) <| tv (nE rfl) rfl <| gy rfl (bF a) <| tv (fa pW rfl) rfl <| gy rfl (bF a) <| tv (fa o7 rfl) rfl <| gy rfl (bF a) <| tv (lr s25 sH l 3 rfl rfl) rfl <| gy rfl (bF a) <| tv (ln u25 n rfl) rfl <| gy rfl (bF a) <| tv (bge rfl rfl) rfl <| tv (pF (bF a)) rfl <| nj j (bOf a)
/-! ### slices.IndexFunc[[]int,int] -/
abbrev pN.R (r : Int) (v : Value) (A : List FP) : Prop := .int .i64 r = v ∧ A = []
def pN.nx8  : Option Int :=
  some (-1)
def pN.bd8 (a1 : List Int) (a8 : oh) (a : Int) : Option (Ex (Ex Int Unit) Int) :=
  if a < (len a1) then
    (idx a1 a).bind fun b =>
    (rE b a8).bind fun c =>
    if c = true then
      some (.ret (.ret a))
    else
      some (.go (w64 (a + 1)))
  else
    some (.ret (.go ()))
def pN (a1 : List Int) (a8 : oh) : Option Int :=
  (whl (fun (s : Int) => pN.bd8 a1 a8 s) nD 0).bind fun z =>
  match z with
    | .ret r => some r
    | .go p => pN.nx8
theorem ws {E : World} {H : FP} {w : World} {a1 : List Int} {a8 : oh} {v2 : Value} {a : Nat} {b : Nat} {c : Nat} {d : Nat} {g : Value} {h : Value} {i : Value} {r : Int} (j : SlI (nt .i64) H a1 v2) (o : n7 H a b [.pointer (some ⟨c, d, none⟩)]) (p : n7 H c d [g, .int .i64 a8.f.params, .int .i64 a8.f.result, h, i]) (q : SlI ou H a8.m.funcs g) (t : SlI (nt .i64) H a8.f.regs h) (u : SlI nY H a8.f.blocks i) (hp : pN a1 a8 = some r) (hst : St E H [] w) :
    Fn Try.prog 100 #[v2, .func (.func 105) #[] #[.pointer (some ⟨a, b, none⟩)]] w fun v w' => ∃ A, pN.R r v A ∧ St E H A w' := by
 refine fb 19 [.tmp 4] Try.func100 rfl rfl rfl rfl rfl hst <| sr <| ta rfl <| nz <| nv fun x y => sr <| tm rfl <| tv (ln u25 j rfl) rfl <| tm rfl <| nz <| nB <| bE hp fun z B k => ?_
 have C {D} (F : .go () = z) : ∀ w, St E H [] w → x (ovr D []) w := by
  subst F
  replace hp : pN.nx8 = some r := k
  exact tg y <| sr <| ta rfl <| nz <| nH <| rt hp [] ⟨rfl, rfl⟩
 refine lp B [] rfl (fun s e L => ∃ l, e = ovr l [(0, v2), (1, .func (.func 105) #[] #[.pointer (some ⟨a, b, none⟩)]), (7, .int .i64 (len a1)), (8, .int .i64 s)] ∧ L = []) ⟨_, nC _ _ rfl, rfl⟩ ?_
 rintro G _ _ ⟨l, rfl, rfl⟩ I hp n
 replace hp : pN.bd8 a1 a8 G = some I := hp
 refine sr <| tv (blt rfl rfl) rfl <| nz <| nv fun Q J => cD rfl hp (fun K hp => ?_) fun K hp => ?_
 · refine sk J rfl <| nv fun S M => nB <| sr <| tm rfl <| ta rfl <| nz <| sr <| tm rfl <| tm rfl <| tm rfl <| ti u25 i3 j hp rfl rfl rfl rfl ?_
   rintro N T U _ hp rfl O
   refine tv (lr s3 sH O 0 rfl rfl) rfl <| bE hp fun V hy18 hp => tcv 0 [] rfl c105 rfl (fun _ => wr (a1 := N) (a5 := a8) (o.mono nw) (p.mono nw) (q.mono nw) (t.mono nw) (u.mono nw) hy18) rfl ?_
   rintro _ _ ⟨rfl, rfl⟩
   refine nz <| cB rfl hp (fun P hp => ?_) fun P hp => ?_
   · refine sr <| tm rfl <| ta rfl <| nz <| nH ?_
     obtain rfl := nK hp n
     exact rt k [] ⟨rfl, rfl⟩
   · exact sk M rfl <| nF <| tv (bad rfl rfl) rfl <| tm rfl <| nl <| gk hp [] ⟨_, nC _ _ rfl, rfl⟩
 · exact nN <| jn [] (C (nK hp n))
/-! ### slices.ContainsFunc[[]int,int] -/
abbrev rF.R (r : Bool) (v : Value) (A : List FP) : Prop := .bool r = v ∧ A = []
def rF (a1 : List Int) (a8 : oh) : Option Bool :=
  (pN a1 a8).bind fun a =>
  some (decide (a ≥ 0))
theorem wu {E : World} {H : FP} {w : World} {a1 : List Int} {a8 : oh} {v2 : Value} {a : Nat} {b : Nat} {c : Nat} {d : Nat} {e : Value} {g : Value} {h : Value} {r : Bool} (i : SlI (nt .i64) H a1 v2) (j : n7 H a b [.pointer (some ⟨c, d, none⟩)]) (k : n7 H c d [e, .int .i64 a8.f.params, .int .i64 a8.f.result, g, h]) (l : SlI ou H a8.m.funcs e) (n : SlI (nt .i64) H a8.f.regs g) (o : SlI nY H a8.f.blocks h) (hp : rF a1 a8 = some r) (hst : St E H [] w) :
    Fn Try.prog 95 #[v2, .func (.func 105) #[] #[.pointer (some ⟨a, b, none⟩)]] w fun v w' => ∃ A, rF.R r v A ∧ St E H A w' := by
 refine fb 9 [.tmp 4] Try.func95 rfl rfl rfl rfl rfl hst <| sr <| ta rfl <| nz <| sr <| tm rfl <| tm rfl <| bE hp fun p hy1 hp => tc 0 [] rfl c100 (fun _ => ws (a1 := a1) (a8 := a8) (i.mono nw) (j.mono nw) (k.mono nw) (l.mono nw) (n.mono nw) (o.mono nw) hy1) rfl ?_
 rintro _ _ ⟨rfl, rfl⟩
 exact tv (bge rfl rfl) rfl <| ta rfl <| nz <| nH <| rt hp [] ⟨rfl, rfl⟩
/-! ### (*fettle/check.looker).has -/
abbrev qg.R (r : Bool) (v : Value) (A : List FP) : Prop := .bool r = v ∧ A = []
def qg (a2 : oh) (a11 : List Int) : Option Bool :=
  (rF a11 a2).bind fun a =>
  some (!a)
theorem rG {E : World} {H : FP} {w : World} {a2 : oh} {a11 : List Int} {a : Nat} {b : Nat} {c : Value} {d : Value} {e : Value} {g : Value} {r : Bool} (h : n7 H a b [c, .int .i64 a2.f.params, .int .i64 a2.f.result, d, e]) (i : SlI ou H a2.m.funcs c) (j : SlI (nt .i64) H a2.f.regs d) (k : SlI nY H a2.f.blocks e) (l : SlI (nt .i64) H a11 g) (hp : qg a2 a11 = some r) (hst : St E H [] w) :
    Fn Try.prog 101 #[.pointer (some ⟨a, b, none⟩), g] w fun v w' => ∃ A, qg.R r v A ∧ St E H A w' := by
 refine fb 9 [.tmp 4] Try.func101 rfl rfl rfl rfl rfl hst <| sr <| tb [.pointer (some ⟨a, b, none⟩)] rfl rfl fun n => ta rfl <| nz <| sr <| tm rfl <| tv mF rfl <| bE hp fun o hy1 hp => tc 0 [_] rfl c95 (fun _ => wu (a1 := a11) (a8 := a2) (l.mono nw) ((pi n 143 _).mono (subB 0 rfl)) (h.mono nw) (i.mono nw) (j.mono nw) (k.mono nw) hy1) rfl ?_
 rintro _ _ ⟨rfl, rfl⟩
 exact tv (oI rfl) rfl <| ta rfl <| nz <| nH <| rt hp [] ⟨rfl, rfl⟩
/-! ### (*fettle/check.looker).are$1 -/
abbrev rH.R (r : Bool) (v : Value) (A : List FP) : Prop := .bool r = v ∧ A = []
def rH (a1 : Int) (a5 : oh) (a16 : Int) : Option Bool :=
  (idx a5.f.regs a1).bind fun a =>
  some (decide (¬ a = a16))
theorem wv {E : World} {H : FP} {w : World} {a1 : Int} {a5 : oh} {a16 : Int} {a : Nat} {b : Nat} {c : Nat} {d : Nat} {e : Value} {g : Value} {h : Value} {i : Nat} {j : Nat} {r : Bool} (k : n7 H a b [.pointer (some ⟨c, d, none⟩)]) (l : n7 H c d [e, .int .i64 a5.f.params, .int .i64 a5.f.result, g, h]) (s : SlI ou H a5.m.funcs e) (n : SlI (nt .i64) H a5.f.regs g) (t : SlI nY H a5.f.blocks h) (o : n7 H i j [.int .i64 a16]) (hp : rH a1 a5 a16 = some r) (hst : St E H [] w) :
    Fn Try.prog 106 #[.int .i64 a1, .pointer (some ⟨a, b, none⟩), .pointer (some ⟨i, j, none⟩)] w fun v w' => ∃ A, rH.R r v A ∧ St E H A w' := by
 refine fb 15 [.tmp 4] Try.func106 rfl rfl rfl rfl rfl hst <| sr <| ta rfl <| nz <| nv fun u p => cq mix Ag <| qv (lr s143 sH k 0 rfl rfl) rfl <| qv (nE rfl) rfl <| qv (fa pW rfl) rfl <| qv (fa o7 rfl) rfl <| qv (lr s25 sH l 3 rfl rfl) rfl <| qv mv rfl <| qi u25 i3 n hp rfl rfl rfl rfl ?_
 rintro x y z _ hp rfl q
 exact qv (lr s3 sH q 0 rfl rfl) rfl <| qv (lr s3 sH o 0 rfl rfl) rfl <| qv (bne rfl rfl) rfl <| qv sg rfl <| QL.nil <| tg p <| nH <| rt hp [] ⟨rfl, rfl⟩
/-! ### slices.IndexFunc[[]int,int] -/
abbrev pO.R (r : Int) (v : Value) (A : List FP) : Prop := .int .i64 r = v ∧ A = []
def pO.nx8  : Option Int :=
  some (-1)
def pO.bd8 (a1 : List Int) (a8 : oh) (a19 : Int) (a : Int) : Option (Ex (Ex Int Unit) Int) :=
  if a < (len a1) then
    (idx a1 a).bind fun b =>
    (rH b a8 a19).bind fun c =>
    if c = true then
      some (.ret (.ret a))
    else
      some (.go (w64 (a + 1)))
  else
    some (.ret (.go ()))
def pO (a1 : List Int) (a8 : oh) (a19 : Int) : Option Int :=
  (whl (fun (s : Int) => pO.bd8 a1 a8 a19 s) nD 0).bind fun z =>
  match z with
    | .ret r => some r
    | .go p => pO.nx8
theorem ww {E : World} {H : FP} {w : World} {a1 : List Int} {a8 : oh} {a19 : Int} {v2 : Value} {a : Nat} {b : Nat} {g : Nat} {h : Nat} {i : Value} {j : Value} {k : Value} {c : Nat} {d : Nat} {r : Int} (l : SlI (nt .i64) H a1 v2) (q : n7 H a b [.pointer (some ⟨g, h, none⟩)]) (t : n7 H g h [i, .int .i64 a8.f.params, .int .i64 a8.f.result, j, k]) (u : SlI ou H a8.m.funcs i) (x : SlI (nt .i64) H a8.f.regs j) (y : SlI nY H a8.f.blocks k) (z : n7 H c d [.int .i64 a19]) (hp : pO a1 a8 a19 = some r) (hst : St E H [] w) :
    Fn Try.prog 100 #[v2, .func (.func 106) #[] #[.pointer (some ⟨a, b, none⟩), .pointer (some ⟨c, d, none⟩)]] w fun v w' => ∃ A, pO.R r v A ∧ St E H A w' := by
 refine fb 19 [.tmp 4] Try.func100 rfl rfl rfl rfl rfl hst <| sr <| ta rfl <| nz <| nv fun B C => sr <| tm rfl <| tv (ln u25 l rfl) rfl <| tm rfl <| nz <| nB <| bE hp fun D F n => ?_
 have G {I} (J : .go () = D) : ∀ w, St E H [] w → B (ovr I []) w := by
  subst J
  replace hp : pO.nx8 = some r := n
  exact tg C <| sr <| ta rfl <| nz <| nH <| rt hp [] ⟨rfl, rfl⟩
 refine lp F [] rfl (fun s e L => ∃ o, e = ovr o [(0, v2), (1, .func (.func 106) #[] #[.pointer (some ⟨a, b, none⟩), .pointer (some ⟨c, d, none⟩)]), (7, .int .i64 (len a1)), (8, .int .i64 s)] ∧ L = []) ⟨_, nC _ _ rfl, rfl⟩ ?_
 rintro K _ _ ⟨o, rfl, rfl⟩ M hp p
 replace hp : pO.bd8 a1 a8 a19 K = some M := hp
 refine sr <| tv (blt rfl rfl) rfl <| nz <| nv fun U N => cD rfl hp (fun O hp => ?_) fun O hp => ?_
 · refine sk N rfl <| nv fun V P => nB <| sr <| tm rfl <| ta rfl <| nz <| sr <| tm rfl <| tm rfl <| tm rfl <| ti u25 i3 l hp rfl rfl rfl rfl ?_
   rintro Q W X _ hp rfl S
   refine tv (lr s3 sH S 0 rfl rfl) rfl <| bE hp fun Y hy18 hp => tcv 0 [] rfl c106 rfl (fun _ => wv (a1 := Q) (a5 := a8) (a16 := a19) (q.mono nw) (t.mono nw) (u.mono nw) (x.mono nw) (y.mono nw) (z.mono nw) hy18) rfl ?_
   rintro _ _ ⟨rfl, rfl⟩
   refine nz <| cB rfl hp (fun T hp => ?_) fun T hp => ?_
   · refine sr <| tm rfl <| ta rfl <| nz <| nH ?_
     obtain rfl := nK hp p
     exact rt n [] ⟨rfl, rfl⟩
   · exact sk P rfl <| nF <| tv (bad rfl rfl) rfl <| tm rfl <| nl <| gk hp [] ⟨_, nC _ _ rfl, rfl⟩
 · exact nN <| jn [] (G (nK hp p))
/-! ### slices.ContainsFunc[[]int,int] -/
abbrev rI.R (r : Bool) (v : Value) (A : List FP) : Prop := .bool r = v ∧ A = []
def rI (a1 : List Int) (a8 : oh) (a19 : Int) : Option Bool :=
  (pO a1 a8 a19).bind fun a =>
  some (decide (a ≥ 0))
theorem wx {E : World} {H : FP} {w : World} {a1 : List Int} {a8 : oh} {a19 : Int} {v2 : Value} {a : Nat} {b : Nat} {c : Nat} {d : Nat} {e : Value} {g : Value} {h : Value} {i : Nat} {j : Nat} {r : Bool} (k : SlI (nt .i64) H a1 v2) (l : n7 H a b [.pointer (some ⟨c, d, none⟩)]) (n : n7 H c d [e, .int .i64 a8.f.params, .int .i64 a8.f.result, g, h]) (o : SlI ou H a8.m.funcs e) (p : SlI (nt .i64) H a8.f.regs g) (q : SlI nY H a8.f.blocks h) (s : n7 H i j [.int .i64 a19]) (hp : rI a1 a8 a19 = some r) (hst : St E H [] w) :
    Fn Try.prog 95 #[v2, .func (.func 106) #[] #[.pointer (some ⟨a, b, none⟩), .pointer (some ⟨i, j, none⟩)]] w fun v w' => ∃ A, rI.R r v A ∧ St E H A w' := by
 refine fb 9 [.tmp 4] Try.func95 rfl rfl rfl rfl rfl hst <| sr <| ta rfl <| nz <| sr <| tm rfl <| tm rfl <| bE hp fun t hy1 hp => tc 0 [] rfl c100 (fun _ => ww (a1 := a1) (a8 := a8) (a19 := a19) (k.mono nw) (l.mono nw) (n.mono nw) (o.mono nw) (p.mono nw) (q.mono nw) (s.mono nw) hy1) rfl ?_
 rintro _ _ ⟨rfl, rfl⟩
 exact tv (bge rfl rfl) rfl <| ta rfl <| nz <| nH <| rt hp [] ⟨rfl, rfl⟩
/-! ### (*fettle/check.looker).are -/
abbrev pA.R (r : Bool) (v : Value) (A : List FP) : Prop := .bool r = v ∧ A = []
def pA (a2 : oh) (a11 : Int) (a12 : List Int) : Option Bool :=
  (rI a12 a2 a11).bind fun a =>
  some (!a)
theorem qh {E : World} {H : FP} {w : World} {a2 : oh} {a11 : Int} {a12 : List Int} {a : Nat} {b : Nat} {c : Value} {d : Value} {e : Value} {g : Value} {r : Bool} (h : n7 H a b [c, .int .i64 a2.f.params, .int .i64 a2.f.result, d, e]) (i : SlI ou H a2.m.funcs c) (j : SlI (nt .i64) H a2.f.regs d) (k : SlI nY H a2.f.blocks e) (l : SlI (nt .i64) H a12 g) (hp : pA a2 a11 a12 = some r) (hst : St E H [] w) :
    Fn Try.prog 102 #[.pointer (some ⟨a, b, none⟩), .int .i64 a11, g] w fun v w' => ∃ A, pA.R r v A ∧ St E H A w' := by
 refine fb 11 [.tmp 6] Try.func102 rfl rfl rfl rfl rfl hst <| sr <| tb [.pointer (some ⟨a, b, none⟩)] rfl rfl fun n => tb [.int .i64 a11] rfl rfl fun o => ta rfl <| nz <| sr <| tm rfl <| tv mF rfl <| bE hp fun p hy1 hp => tc 0 [_,_] rfl c95 (fun _ => wx (a1 := a12) (a8 := a2) (a19 := a11) (l.mono nw) ((pi n 143 _).mono (subB 1 rfl)) (h.mono nw) (i.mono nw) (j.mono nw) (k.mono nw) ((pi o 3 _).mono (subB 0 rfl)) hy1) rfl ?_
 rintro _ _ ⟨rfl, rfl⟩
 exact tv (oI rfl) rfl <| ta rfl <| nz <| nH <| rt hp [] ⟨rfl, rfl⟩
/-! ### (*fettle/check.looker).phi -/
abbrev q6.R (r : GErr) (v : Value) (A : List FP) : Prop := ∃ (w1 : Value) (a : FP), w1 = v ∧ A = [a] ∧ ErO 63 106 108 r w1 a
def q6 (a2 : oh) (a11 : PPhi) : Option GErr :=
  (qg a2 ([a11.dst])).bind fun a =>
  (if (!a) = true then some true else (qg a2 a11.args).bind fun b =>
  some (!b)).bind fun c =>
  if c = true then
    some (GErr.code 4)
  else
    (idx a2.f.regs a11.dst).bind fun d =>
    (pA a2 d a11.args).bind fun e =>
    if (!e) = true then
      some (GErr.code 3)
    else
      some GErr.no
theorem wy {E : World} {H : FP} {w : World} {a2 : oh} {a11 : PPhi} {e : Nat} {g : Nat} {l : Value} {o : Value} {p : Value} {b : Value} {r : GErr} (c : n7 H e g [l, .int .i64 a2.f.params, .int .i64 a2.f.result, o, p]) (i : SlI ou H a2.m.funcs l) (d : SlI (nt .i64) H a2.f.regs o) (j : SlI nY H a2.f.blocks p) (q : SlI (nt .i64) H a11.args b) (hp : q6 a2 a11 = some r) (hst : St E H [] w) :
    Fn Try.prog 96 #[.pointer (some ⟨e, g, none⟩), .agg #[.int .i64 a11.dst, b]] w fun v w' => ∃ A, q6.R r v A ∧ St E H A w' := by
 refine fb 36 [.tmp 4] Try.func96 rfl rfl rfl rfl rfl hst <| sr <| tb [.int .i64 a11.dst, b] rfl rfl fun s => ta rfl <| nz <| nv fun N u => nB <| sr <| tm rfl <| tv (fa qd rfl) rfl <| tv (lb s3 0 rfl rfl rfl) rfl <| tbs [(0, .int .i64 a11.dst)] [.int .i64 a11.dst] u25 i3 Ag rfl rfl rfl rfl fun O => tf 1 0 [_,_,_] rfl <| TL.litOwn (n := 1) (xs := [a11.dst]) (RepL.to (RepL.cons (k := (nt .i64)) (x := a11.dst) ⟨rfl, rfl⟩ RepL.nil) rfl) rfl rfl (ltb rfl) fun y z => bE hp fun P hy3 hp => tc 0 [_,_] rfl c101 (fun _ => rG (a2 := a2) (a11 := [a11.dst]) (c.mono nw) (i.mono nw) (d.mono nw) (j.mono nw) (z.ro.mono (subB 0 rfl)) hy3) rfl ?_
 rintro _ _ ⟨rfl, rfl⟩
 refine tv (oI rfl) rfl <| tm rfl <| bE hp fun B ht16 hp => TL.cut 6 fun C D => ?_
 have t {F} : ∀ w, St E H [y, bx s 70 [.int .i64 a11.dst, b]] w → C (ovr F [(18, .bool B), (0, .pointer (some ⟨e, g, none⟩)), (3, .pointer (some ⟨s, 0, none⟩))]) w := by
  refine tlg D <| ta rfl <| nz <| cB rfl hp (fun G hp => ?_) fun G hp => ?_
  · exact sr <| tv (mI u63 rfl) rfl <| ta rfl <| nz <| nH <| W.new0 <| rt hp [0] ⟨(.iface 63 (.int .i64 4)), ([] : FP), rfl, rfl, (ErO.mk _ : ErO 63 106 108 (GErr.code 4) (.iface 63 (.int .i64 4)) [])⟩
  · refine nv fun Q I => cq mix Ag <| qv mv rfl <| qv mv rfl <| qv (nE rfl) rfl <| qv (fa pW rfl) rfl <| qv (fa o7 rfl) rfl <| qv (lr s25 sH c 3 rfl rfl) rfl <| qv (fa qd rfl) rfl <| qv (lb s3 1 rfl rfl rfl) rfl <| qi u25 i3 d hp rfl rfl rfl rfl ?_
    rintro J S T _ hp rfl K
    refine qv (lr s3 sH K 0 rfl rfl) rfl <| qv (fa py rfl) rfl <| qv (lb s25 1 rfl rfl rfl) rfl <| bE hp fun L hy14 hp => qc (.bool L) c102 (fun _ => qh (a2 := a2) (a11 := J) (a12 := a11.args) (c.mono nw) (i.mono nw) (d.mono nw) (j.mono nw) (q.mono nw) hy14) (fun _ _ h => ⟨h.1.symm, h.2⟩) rfl <| qv (oI rfl) rfl <| qv sg rfl <| QL.nil <| tg I <| cB rfl hp (fun M hp => ?_) fun M hp => ?_
    · exact sr <| tv (mI u63 rfl) rfl <| ta rfl <| nz <| nH <| W.new0 <| rt hp [0] ⟨(.iface 63 (.int .i64 3)), ([] : FP), rfl, rfl, (ErO.mk _ : ErO 63 106 108 (GErr.code 3) (.iface 63 (.int .i64 3)) [])⟩
    · exact sk u rfl <| sr <| ta rfl <| nz <| nH <| W.new0 <| rt hp [0] ⟨.nilIface, ([] : FP), rfl, rfl, (ErO.nil : ErO 63 106 108 GErr.no .nilIface [])⟩
 refine ifE ht16 (fun a hp => ?_) fun a hp => ?_
 · refine gn rfl (bbT a) rfl rfl <| gn rfl (bbT a) rfl rfl <| gn rfl (bbT a) rfl rfl <| gn rfl (bbT a) rfl rfl <| gn rfl (bbT a) rfl rfl <| tv (pT (bbT a)) rfl ?_
   obtain rfl := Option.some.inj hp
   exact nj t rfl
 · refine gy rfl (bbF a) <| tm rfl <| gy rfl (bbF a) <| tv (fa py rfl) rfl <| gy rfl (bbF a) <| tv (lb s25 1 rfl rfl rfl) rfl <| gy rfl (bbF a) <| bE hp fun U hy17 hp => tc 0 [_,_] rfl c101 (fun _ => rG (a2 := a2) (a11 := a11.args) (c.mono nw) (i.mono nw) (d.mono nw) (j.mono nw) (q.mono nw) hy17) rfl ?_
   rintro _ _ ⟨rfl, rfl⟩
   refine gy rfl (bbF a) <| tv (oI rfl) rfl <| tv (pF (bbF a)) rfl ?_
   obtain rfl := Option.some.inj hp
   exact nj t rfl
/-! ### fettle/arith.Args -/
abbrev qk.R (r : Int × Bool) (v : Value) (A : List FP) : Prop := .tuple #[.int .i64 r.1, .bool r.2] = v ∧ A = []
def qk (a1 : Int) : Option (Int × Bool) :=
  if a1 = 2 ∨ a1 = 14 then
    some (1, true)
  else
    if a1 ≥ 3 ∧ a1 ≤ 13 then
      some (2, true)
    else
      some (0, false)
theorem sc {E : World} {H : FP} {w : World} {a1 : Int} {r : Int × Bool}  (hp : qk a1 = some r) (hst : St E H [] w) :
    Fn Try.prog 57 #[.int .i64 a1] w fun v w' => ∃ A, qk.R r v A ∧ St E H A w' := by
 refine fb 18 [.tmp 2, .tmp 3] Try.func57 rfl rfl rfl rfl rfl hst <| sr <| ta rfl <| ta rfl <| nz <| nv fun n e => nB <| sr <| tm rfl <| tv (beq rfl rfl) rfl <| tm rfl <| TL.cut 3 fun f g => ?_
 have c {h} : ∀ w, St E H [] w → f (ovr h [(10, .bool (decide (a1 = 2 ∨ a1 = 14))), (0, .int .i64 a1)]) w := by
  refine tlg g <| ta rfl <| nz <| cD rfl hp (fun i hp => ?_) fun i hp => ?_
  · exact sr <| ta rfl <| ta rfl <| nz <| nH <| rt hp [] ⟨rfl, rfl⟩
  · refine sr <| tm rfl <| tv (bge rfl rfl) rfl <| tm rfl <| TL.cut 3 fun j k => ?_
    have d {l} : ∀ w, St E H [] w → j (ovr l [(17, .bool (decide (a1 ≥ 3 ∧ a1 ≤ 13)))]) w := by
     refine tlg k <| ta rfl <| nz <| cD rfl hp (fun m hp => ?_) fun m hp => ?_
     · exact sr <| ta rfl <| ta rfl <| nz <| nH <| rt hp [] ⟨rfl, rfl⟩
     · exact sk e rfl <| sr <| ta rfl <| ta rfl <| nz <| nH <| rt hp [] ⟨rfl, rfl⟩
    by_cases a : a1 ≥ 3
    · exact gy rfl (bT a) <| tm rfl <| gy rfl (bT a) <| tv (ble rfl rfl) rfl <| tv (pT (bT a)) rfl <| nj d (bAt a)
    · exact gn rfl (bF a) rfl rfl <| gn rfl (bF a) rfl rfl <| tv (pF (bF a)) rfl <| nj d (bAf a)
 by_cases b : a1 = 2
 · exact gn rfl (bT b) rfl rfl <| gn rfl (bT b) rfl rfl <| tv (pT (bT b)) rfl <| nj c (bOt b)
 · exact gy rfl (bF b) <| tm rfl <| gy rfl (bF b) <| tv (beq rfl rfl) rfl <| tv (pF (bF b)) rfl <| nj c (bOf b)
end
section
/-! ### (*fettle/check.looker).arity -/
abbrev qM.R (r : Int × Int × GErr) (v : Value) (A : List FP) : Prop := ∃ (w1 : Value) (a : FP), .tuple #[.int .i64 r.1, .int .i64 r.2.1, w1] = v ∧ A = [a] ∧ ErO 63 106 108 r.2.2 w1 a
def qM (a2 : oh) (a11 : nL) : Option (Int × Int × GErr) :=
  (qk a11.op).bind fun a =>
  if a.2 = true then
    some (a.1, 1, GErr.no)
  else
    if a11.op = 1 then
      some (0, 1, GErr.no)
    else
      if a11.op = 15 then
        some (1, 1, GErr.no)
      else
        if a11.op = 18 then
          some (1, 0, GErr.no)
        else
          if a11.op = 16 then
            some (2, 0, GErr.no)
          else
            if a11.op = 17 then
              if a11.fn < 0 ∨ a11.fn ≥ (len a2.m.funcs) then
                some (0, 0, (GErr.code 4))
              else
                (idx a2.m.funcs a11.fn).bind fun b =>
                some (b.params, b.result, GErr.no)
            else
              some (0, 0, (GErr.code 6))
set_option maxHeartbeats 4000000 in
theorem wz {E : World} {H : FP} {w : World} {a2 : oh} {a11 : nL} {d : Nat} {e : Nat} {g : Value} {h : Value} {i : Value} {b : Value} {r : Int × Int × GErr} (j : n7 H d e [g, .int .i64 a2.f.params, .int .i64 a2.f.result, h, i]) (k : SlI ou H a2.m.funcs g) (S : SlI (nt .i64) H a2.f.regs h) (T : SlI nY H a2.f.blocks i) (U : SlI (nt .i64) H a11.args b) (hp : qM a2 a11 = some r) (hst : St E H [] w) :
    Fn Try.prog 103 #[.pointer (some ⟨d, e, none⟩), .agg #[.int .i64 a11.op, .int .i64 a11.dst, b, .int .i64 a11.imm, .int .i64 a11.fn]] w fun v w' => ∃ A, qM.R r v A ∧ St E H A w' := by
 refine fb 59 [.tmp 4, .tmp 5, .tmp 6] Try.func103 rfl rfl rfl rfl rfl hst <| sr <| tb [.int .i64 a11.op, .int .i64 a11.dst, b, .int .i64 a11.imm, .int .i64 a11.fn] rfl rfl fun l => ta rfl <| ta rfl <| ta rfl <| nz <| nv fun V q => sr <| tv (fa qb rfl) rfl <| tv (lb s3 0 rfl rfl rfl) rfl <| bE hp fun X hy3 hp => tc 0 [_] rfl c57 (fun _ => sc (a1 := a11.op) hy3) rfl ?_
 rintro _ _ ⟨rfl, rfl⟩
 refine tm rfl <| tv (xt rfl rfl) rfl <| tv (xt rfl rfl) rfl <| ta rfl <| ta rfl <| nz <| sr <| tm rfl <| nz <| cB rfl hp (fun s hp => ?_) fun s hp => ?_
 · exact sr <| tm rfl <| ta rfl <| ta rfl <| ta rfl <| nz <| nH <| W.new0 <| rt hp [0] ⟨.nilIface, ([] : FP), rfl, rfl, (ErO.nil : ErO 63 106 108 GErr.no .nilIface [])⟩
 · refine sk q rfl <| nv fun Y t => sr <| tv (fa qb rfl) rfl <| tv (lb s3 0 rfl rfl rfl) rfl <| nz <| nB <| sr <| tv (beq rfl rfl) rfl <| ta rfl <| nz <| cD rfl hp (fun u hp => ?_) fun u hp => ?_
   · exact sr <| ta rfl <| ta rfl <| ta rfl <| nz <| nH <| W.new0 <| rt hp [0] ⟨.nilIface, ([] : FP), rfl, rfl, (ErO.nil : ErO 63 106 108 GErr.no .nilIface [])⟩
   · refine sr <| tv (beq rfl rfl) rfl <| ta rfl <| nz <| cD rfl hp (fun x hp => ?_) fun x hp => ?_
     · exact sr <| ta rfl <| ta rfl <| ta rfl <| nz <| nH <| W.new0 <| rt hp [0] ⟨.nilIface, ([] : FP), rfl, rfl, (ErO.nil : ErO 63 106 108 GErr.no .nilIface [])⟩
     · refine sr <| tv (beq rfl rfl) rfl <| ta rfl <| nz <| cD rfl hp (fun y hp => ?_) fun y hp => ?_
       · exact sr <| ta rfl <| ta rfl <| ta rfl <| nz <| nH <| W.new0 <| rt hp [0] ⟨.nilIface, ([] : FP), rfl, rfl, (ErO.nil : ErO 63 106 108 GErr.no .nilIface [])⟩
       · refine sr <| tv (beq rfl rfl) rfl <| ta rfl <| nz <| cD rfl hp (fun z hp => ?_) fun z hp => ?_
         · exact sr <| ta rfl <| ta rfl <| ta rfl <| nz <| nH <| W.new0 <| rt hp [0] ⟨.nilIface, ([] : FP), rfl, rfl, (ErO.nil : ErO 63 106 108 GErr.no .nilIface [])⟩
         · refine sr <| tv (beq rfl rfl) rfl <| ta rfl <| nz <| cD rfl hp (fun B hp => ?_) fun B hp => ?_
           · refine nv fun Z C => nv fun aa D => cq mix Ag <| qv (fa qC rfl) rfl <| qv (lb s3 0 rfl rfl rfl) rfl <| qv (blt rfl rfl) rfl <| qv mv rfl <| QL.cut 10 fun F G => ?_
             have n {I} : F (ovr I [(43, .bool (decide (a11.fn < 0 ∨ a11.fn ≥ (len a2.m.funcs)))), (0, .pointer (some ⟨d, e, none⟩)), (3, .pointer (some ⟨l, 0, none⟩))]) := by
              refine G _ <| QL.nil <| tg D <| cD rfl hp (fun J hp => ?_) fun J hp => ?_
              · exact sr <| tv (mI u63 rfl) rfl <| ta rfl <| ta rfl <| ta rfl <| nz <| nH <| W.new0 <| rt hp [0] ⟨(.iface 63 (.int .i64 4)), ([] : FP), rfl, rfl, (ErO.mk _ : ErO 63 106 108 (GErr.code 4) (.iface 63 (.int .i64 4)) [])⟩
              · refine sk C rfl <| nv fun ab K => ch mix [bx l 52 [.int .i64 a11.op, .int .i64 a11.dst, b, .int .i64 a11.imm, .int .i64 a11.fn]] (nq 0 rfl ns) <| hv 0 rfl mv Ag rfl <| hv 1 rfl (nE rfl) Ag rfl <| hv 2 rfl (fa sG rfl) Ag rfl <| hv 3 rfl (fa oR rfl) Ag rfl <| hv 4 rfl (lr s33 srcInH j 0 rfl rfl) Ag rfl <| hv 5 rfl (fa qC rfl) Ag rfl <| hv 6 rfl (lbG s3 0 rfl rfl rfl) Ag rfl <| hi 7 rfl u33 i41 k hp rfl rfl rfl Ag rfl ?_
                rintro c ac ad _ hp ⟨o, p, rfl, L, M⟩ N
                exact hv 8 rfl (lR (ds := [.int .i64 c.params, .int .i64 c.result, o, p]) n8 srcInH N 0 rfl rfl rfl) Ag rfl <| ho 9 rfl Ag fun ae O => tl i41 rfl fun af => hk O (nq 1 rfl ns) <| ho 10 rfl Ag fun ag P => tS 0 m41 rfl rfl [.int .i64 c.params, .int .i64 c.result, o, p] rfl (oc rfl (oc rfl (oc (L).one (oc (M).one oc0)))) rfl rfl <| hk P (nq 1 rfl ns) <| hz Ag <| tg K <| nv fun ah Q => cq mix Ag <| qv (fa po rfl) rfl <| qv (lb s3 0 rfl rfl rfl) rfl <| qv (fa p5 rfl) rfl <| qv (lb s3 0 rfl rfl rfl) rfl <| qv sg rfl <| qv sg rfl <| qv sg rfl <| QL.nil <| tg Q <| nH <| W.new0 <| rt hp [0] ⟨.nilIface, ([] : FP), rfl, rfl, (ErO.nil : ErO 63 106 108 GErr.no .nilIface [])⟩
             by_cases a : a11.fn < 0
             · exact qgn rfl (bT a) rfl rfl <| qgn rfl (bT a) rfl rfl <| qgn rfl (bT a) rfl rfl <| qgn rfl (bT a) rfl rfl <| qgn rfl (bT a) rfl rfl <| qgn rfl (bT a) rfl rfl <| qgn rfl (bT a) rfl rfl <| qgn rfl (bT a) rfl rfl <| qgn rfl (bT a) rfl rfl <| qv (pT (bT a)) rfl <| qj n (bOt a)
             · exact qgy rfl (bF a) <| qv (fa qC rfl) rfl <| qgy rfl (bF a) <| qv (lb s3 0 rfl rfl rfl) rfl <| qgy rfl (bF a) <| qv mv rfl <| qgy rfl (bF a) <| qv (nE rfl) rfl <| qgy rfl (bF a) <| qv (fa sG rfl) rfl <| qgy rfl (bF a) <| qv (fa oR rfl) rfl <| qgy rfl (bF a) <| qv (lr s33 sH j 0 rfl rfl) rfl <| qgy rfl (bF a) <| qv (ln u33 k rfl) rfl <| qgy rfl (bF a) <| qv (bge rfl rfl) rfl <| qv (pF (bF a)) rfl <| qj n (bOf a)
           · exact sk t rfl <| sr <| tv (mI u63 rfl) rfl <| ta rfl <| ta rfl <| ta rfl <| nz <| nH <| W.new0 <| rt hp [0] ⟨(.iface 63 (.int .i64 6)), ([] : FP), rfl, rfl, (ErO.mk _ : ErO 63 106 108 (GErr.code 6) (.iface 63 (.int .i64 6)) [])⟩
/-! ### (*fettle/check.looker).call -/
abbrev pH.R (r : Bool) (v : Value) (A : List FP) : Prop := .bool r = v ∧ A = []
def pH.nx23 (a2 : oh) (a11 : nL) (a : ny) : Option Bool :=
  (if a.result = 0 then some true else (pA a2 a.result ([a11.dst])).bind fun b =>
  some b).bind fun c =>
  some c
def pH.bd23 (a2 : oh) (a11 : nL) (b : ny) (a : Int) : Option (Ex (Ex Bool Unit) Int) :=
  if a < (len a11.args) then
    (idx a11.args a).bind fun c =>
    (idx b.regs a).bind fun d =>
    (pA a2 d ([c])).bind fun e =>
    if (!e) = true then
      some (.ret (.ret false))
    else
      some (.go (w64 (a + 1)))
  else
    some (.ret (.go ()))
def pH (a2 : oh) (a11 : nL) : Option Bool :=
  (idx a2.m.funcs a11.fn).bind fun a =>
  if a.params < 0 ∨ a.params > (len a.regs) then
    some false
  else
    (whl (fun (s : Int) => pH.bd23 a2 a11 a s) nD 0).bind fun z =>
    match z with
      | .ret r => some r
      | .go p => pH.nx23 a2 a11 a
set_option maxHeartbeats 4000000 in
theorem wA {E : World} {H : FP} {w : World} {a2 : oh} {a11 : nL} {l : Nat} {o : Nat} {y : Value} {z : Value} {B : Value} {d : Value} {r : Bool} (q : n7 H l o [y, .int .i64 a2.f.params, .int .i64 a2.f.result, z, B]) (t : SlI ou H a2.m.funcs y) (C : SlI (nt .i64) H a2.f.regs z) (D : SlI nY H a2.f.blocks B) (F : SlI (nt .i64) H a11.args d) (hp : pH a2 a11 = some r) (hst : St E H [] w) :
    Fn Try.prog 107 #[.pointer (some ⟨l, o, none⟩), .agg #[.int .i64 a11.op, .int .i64 a11.dst, d, .int .i64 a11.imm, .int .i64 a11.fn]] w fun v w' => ∃ A, pH.R r v A ∧ St E H A w' := by
 refine fb 59 [.tmp 4] Try.func107 rfl rfl rfl rfl rfl hst <| sr <| tb [.int .i64 a11.op, .int .i64 a11.dst, d, .int .i64 a11.imm, .int .i64 a11.fn] rfl rfl fun g => ta rfl <| nz <| nv fun aw N => ch mix [bx g 52 [.int .i64 a11.op, .int .i64 a11.dst, d, .int .i64 a11.imm, .int .i64 a11.fn]] (nq 0 rfl ns) <| hv 0 rfl mv Ag rfl <| hv 1 rfl (nE rfl) Ag rfl <| hv 2 rfl (fa sG rfl) Ag rfl <| hv 3 rfl (fa oR rfl) Ag rfl <| hv 4 rfl (lr s33 srcInH q 0 rfl rfl) Ag rfl <| hv 5 rfl (fa qC rfl) Ag rfl <| hv 6 rfl (lbG s3 0 rfl rfl rfl) Ag rfl <| hi 7 rfl u33 i41 t hp rfl rfl rfl Ag rfl ?_
 rintro a ax ay _ hp ⟨i, j, rfl, u, O⟩ P
 refine hv 8 rfl (lR (ds := [.int .i64 a.params, .int .i64 a.result, i, j]) n8 srcInH P 0 rfl rfl rfl) Ag rfl <| ho 9 rfl Ag fun az Q => tl i41 rfl fun h => hk Q (nq 1 rfl ns) <| ho 10 rfl Ag fun aA S => tS 0 m41 rfl rfl [.int .i64 a.params, .int .i64 a.result, i, j] rfl (oc rfl (oc rfl (oc (u).one (oc (O).one oc0)))) rfl rfl <| hk S (nq 1 rfl ns) <| hz Ag <| tg N <| nv fun aB T => sr <| tv (fa po rfl) rfl <| tv (lb s3 0 rfl rfl rfl) rfl <| tv (blt rfl rfl) rfl <| tm rfl <| TL.cut 7 fun U V => ?_
 have G {W} : ∀ w, St E H [bx h 41 [.int .i64 a.params, .int .i64 a.result, i, j], bx g 52 [.int .i64 a11.op, .int .i64 a11.dst, d, .int .i64 a11.imm, .int .i64 a11.fn]] w → U (ovr W [(27, .bool (decide (a.params < 0 ∨ a.params > (len a.regs)))), (0, .pointer (some ⟨l, o, none⟩)), (3, .pointer (some ⟨g, 0, none⟩)), (5, .pointer (some ⟨h, 0, none⟩))]) w := by
  refine tlg V <| nz <| cD rfl hp (fun X hp => ?_) fun X hp => ?_
  · exact sr <| ta rfl <| nz <| nH <| rt hp [] ⟨rfl, rfl⟩
  · refine sk T rfl <| nv fun Y Z => sr <| tv (fa o6 rfl) rfl <| tv (lb s25 1 rfl rfl rfl) rfl <| tv (ln u25 F rfl) rfl <| tm rfl <| nz <| nB <| bE hp fun aa ab I => ?_
    have ac {ad} (ae : .go () = aa) : ∀ w, St E H [bx g 52 [.int .i64 a11.op, .int .i64 a11.dst, d, .int .i64 a11.imm, .int .i64 a11.fn], bx h 41 [.int .i64 a.params, .int .i64 a.result, i, j]] w → Y (ovr ad [(0, .pointer (some ⟨l, o, none⟩)), (3, .pointer (some ⟨g, 0, none⟩)), (5, .pointer (some ⟨h, 0, none⟩))]) w := by
     subst ae
     replace hp : pH.nx23 a2 a11 a = some r := I
     refine tg Z <| sr <| tv (fa p5 rfl) rfl <| tv (lb s3 1 rfl rfl rfl) rfl <| tv (beq rfl rfl) rfl <| tm rfl <| bE hp fun af ht30 hp => TL.cut 8 fun ag ah => ?_
     have J {ai} : ∀ w, St E H [bx g 52 [.int .i64 a11.op, .int .i64 a11.dst, d, .int .i64 a11.imm, .int .i64 a11.fn], bx h 41 [.int .i64 a.params, .int .i64 a.result, i, j]] w → ag (ovr ai [(58, .bool af)]) w := by
      exact tlg ah <| ta rfl <| nz <| nH <| rt hp [] ⟨rfl, rfl⟩
     refine ifE ht30 (fun b hp => ?_) fun b hp => ?_
     · refine gn rfl (bT b) rfl rfl <| gn rfl (bT b) rfl rfl <| gn rfl (bT b) rfl rfl <| gn rfl (bT b) rfl rfl <| gn rfl (bT b) rfl rfl <| gn rfl (bT b) rfl rfl <| gn rfl (bT b) rfl rfl <| tv (pT (bT b)) rfl ?_
       obtain rfl := Option.some.inj hp
       exact nj J rfl
     · refine gy rfl (bF b) <| tm rfl <| gy rfl (bF b) <| tv (fa p5 rfl) rfl <| gy rfl (bF b) <| tv (lb s3 1 rfl rfl rfl) rfl <| gy rfl (bF b) <| tv (fa pd rfl) rfl <| gy rfl (bF b) <| tv (lb s3 0 rfl rfl rfl) rfl <| gy rfl (bF b) <| tbs [(0, .int .i64 a11.dst)] [.int .i64 a11.dst] u25 i3 Ag rfl rfl rfl rfl fun aC => gy rfl (bF b) <| tf 1 0 [_,_,_,_] rfl <| TL.litOwn (n := 1) (xs := [a11.dst]) (RepL.to (RepL.cons (k := (nt .i64)) (x := a11.dst) ⟨rfl, rfl⟩ RepL.nil) rfl) rfl rfl (ltb rfl) fun aD aj => bE hp fun aE hy31 hp => tc 0 [_,_,_] rfl c102 (fun _ => qh (a2 := a2) (a11 := a.result) (a12 := [a11.dst]) (q.mono nw) (t.mono nw) (C.mono nw) (D.mono nw) (aj.ro.mono (subB 0 rfl)) hy31) rfl ?_
       rintro _ _ ⟨rfl, rfl⟩
       refine tv (pF (bF b)) rfl <| tp [1, 2] [_,_] rfl rfl ?_
       obtain rfl := Option.some.inj hp
       exact nj J rfl
    refine lp ab [1, 0] rfl (fun s e L => ∃ K, e = ovr K [(0, .pointer (some ⟨l, o, none⟩)), (3, .pointer (some ⟨g, 0, none⟩)), (5, .pointer (some ⟨h, 0, none⟩)), (29, d), (30, .int .i64 (len a11.args)), (31, .int .i64 s)] ∧ L = [bx g 52 [.int .i64 a11.op, .int .i64 a11.dst, d, .int .i64 a11.imm, .int .i64 a11.fn], bx h 41 [.int .i64 a.params, .int .i64 a.result, i, j]]) ⟨_, nC _ _ rfl, rfl⟩ ?_
    rintro ak _ _ ⟨K, rfl, rfl⟩ al hp M
    replace hp : pH.bd23 a2 a11 a ak = some al := hp
    refine sr <| tv (blt rfl rfl) rfl <| nz <| nv fun aF am => cD rfl hp (fun an hp => ?_) fun an hp => ?_
    · refine sk am rfl <| nv fun aG ao => nB <| sr <| tm rfl <| ti u25 i3 F hp rfl rfl rfl rfl ?_
      rintro p aH aI _ hp rfl ap
      refine tv (lr s3 sH ap 0 rfl rfl) rfl <| ta rfl <| ta rfl <| nz <| sr <| tm rfl <| tv (fa o7 rfl) rfl <| tv (lb s25 1 rfl rfl rfl) rfl <| tm rfl <| ti u25 i3 u hp rfl rfl rfl rfl ?_
      rintro aq aJ aK _ hp rfl ar
      refine tv (lr s3 sH ar 0 rfl rfl) rfl <| tm rfl <| tbs [(0, .int .i64 p)] [.int .i64 p] u25 i3 Ag rfl rfl rfl rfl fun aL => tf 1 0 [_,_,_,_] rfl <| TL.litOwn (n := 1) (xs := [p]) (RepL.to (RepL.cons (k := (nt .i64)) (x := p) ⟨rfl, rfl⟩ RepL.nil) rfl) rfl rfl (ltb rfl) fun aM au => bE hp fun aN hy42 hp => tc 0 [_,_,_] rfl c102 (fun _ => qh (a2 := a2) (a11 := aq) (a12 := [p]) (q.mono nw) (t.mono nw) (C.mono nw) (D.mono nw) (au.ro.mono (subB 0 rfl)) hy42) rfl ?_
      rintro _ _ ⟨rfl, rfl⟩
      refine tv (oI rfl) rfl <| nz <| cB rfl hp (fun av hp => ?_) fun av hp => ?_
      · refine sr <| ta rfl <| nz <| nH ?_
        obtain rfl := nK hp M
        exact rt I [] ⟨rfl, rfl⟩
      · exact sk ao rfl <| nF <| tv (bad rfl rfl) rfl <| tm rfl <| nl <| gk hp [1, 2] ⟨_, nC _ _ rfl, rfl⟩
    · exact nN <| jn [0, 1] (ac (nK hp M))
 by_cases c : a.params < 0
 · exact gn rfl (bT c) rfl rfl <| gn rfl (bT c) rfl rfl <| gn rfl (bT c) rfl rfl <| gn rfl (bT c) rfl rfl <| gn rfl (bT c) rfl rfl <| gn rfl (bT c) rfl rfl <| tv (pT (bT c)) rfl <| nj G (bOt c)
 · exact gy rfl (bF c) <| tv (fa po rfl) rfl <| gy rfl (bF c) <| tv (lb s3 0 rfl rfl rfl) rfl <| gy rfl (bF c) <| tv (fa o7 rfl) rfl <| gy rfl (bF c) <| tv (lb s25 0 rfl rfl rfl) rfl <| gy rfl (bF c) <| tv (ln u25 u rfl) rfl <| gy rfl (bF c) <| tv (bgt rfl rfl) rfl <| tv (pF (bF c)) rfl <| nj G (bOf c)
/-! ### (*fettle/check.looker).fits -/
abbrev pg.R (r : Bool) (v : Value) (A : List FP) : Prop := .bool r = v ∧ A = []
def pg.jn56 (a2 : oh) (a11 : nL) (a : Bool) : Option Bool :=
  if a = true then
    (pA a2 1 a11.args).bind fun b =>
    some b
  else
    if a11.op = 17 then
      (pH a2 a11).bind fun c =>
      some c
    else
      (pA a2 1 a11.args).bind fun d =>
      (if d = true then (pA a2 1 ([a11.dst])).bind fun e =>
      some e else some false).bind fun f =>
      some f
def pg.jn31 (a2 : oh) (a11 : nL) (a : Bool) : Option Bool :=
  if a = true then
    (pA a2 1 a11.args).bind fun b =>
    (if b = true then (pA a2 2 ([a11.dst])).bind fun c =>
    some c else some false).bind fun d =>
    some d
  else
    if a11.op = 14 then
      (idx a11.args 0).bind fun e =>
      (pA a2 2 ([e, a11.dst])).bind fun f =>
      some f
    else
      if a11.op = 18 then
        pg.jn56 a2 a11 (decide (a11.op = 18))
      else
        pg.jn56 a2 a11 (decide (a11.op = 16))
def pg (a2 : oh) (a11 : nL) : Option Bool :=
  if a11.op = 1 then
    (idx a2.f.regs a11.dst).bind fun a =>
    some (decide ((a = 1 ∨ a11.imm = 0) ∨ a11.imm = 1))
  else
    if a11.op = 2 then
      (idx a11.args 0).bind fun b =>
      (idx a2.f.regs b).bind fun c =>
      (pA a2 c ([a11.dst])).bind fun d =>
      some d
    else
      if a11.op = 12 then
        pg.jn31 a2 a11 (decide (a11.op = 12))
      else
        pg.jn31 a2 a11 (decide (a11.op = 13))
set_option maxHeartbeats 4000000 in
theorem wB {E : World} {H : FP} {w : World} {a2 : oh} {a11 : nL} {q : Nat} {s : Nat} {u : Value} {y : Value} {z : Value} {c : Value} {r : Bool} (d : n7 H q s [u, .int .i64 a2.f.params, .int .i64 a2.f.result, y, z]) (j : SlI ou H a2.m.funcs u) (e : SlI (nt .i64) H a2.f.regs y) (l : SlI nY H a2.f.blocks z) (o : SlI (nt .i64) H a11.args c) (hp : pg a2 a11 = some r) (hst : St E H [] w) :
    Fn Try.prog 104 #[.pointer (some ⟨q, s, none⟩), .agg #[.int .i64 a11.op, .int .i64 a11.dst, c, .int .i64 a11.imm, .int .i64 a11.fn]] w fun v w' => ∃ A, pg.R r v A ∧ St E H A w' := by
 refine fb 95 [.tmp 4] Try.func104 rfl rfl rfl rfl rfl hst <| sr <| tb [.int .i64 a11.op, .int .i64 a11.dst, c, .int .i64 a11.imm, .int .i64 a11.fn] rfl rfl fun i => ta rfl <| nz <| nv fun aH L => sr <| tv (fa qb rfl) rfl <| tv (lb s3 0 rfl rfl rfl) rfl <| nz <| nB <| sr <| tv (beq rfl rfl) rfl <| ta rfl <| nz <| cD rfl hp (fun M hp => ?_) fun M hp => ?_
 · refine nv fun aI N => cq mix Ag <| qv mv rfl <| qv (nE rfl) rfl <| qv (fa pW rfl) rfl <| qv (fa o7 rfl) rfl <| qv (lr s25 sH d 3 rfl rfl) rfl <| qv (fa pd rfl) rfl <| qv (lb s3 0 rfl rfl rfl) rfl <| qi u25 i3 e hp rfl rfl rfl rfl ?_
   rintro t aJ aK _ hp rfl O
   refine qv (lr s3 sH O 0 rfl rfl) rfl <| qv (beq rfl rfl) rfl <| qv mv rfl <| QL.cut 4 fun P Q => ?_
   have B {S} : P (ovr S [(23, .bool (decide (t = 1 ∨ a11.imm = 0))), (3, .pointer (some ⟨i, 0, none⟩))]) := by
    refine Q _ <| qv mv rfl <| QL.cut 4 fun T U => ?_
    have C {V} : T (ovr V [(28, .bool (decide ((t = 1 ∨ a11.imm = 0) ∨ a11.imm = 1)))]) := by
     exact U _ <| qv sg rfl <| QL.nil <| tg N <| nH <| rt hp [] ⟨rfl, rfl⟩
    by_cases g : t = 1 ∨ a11.imm = 0
    · exact qgn rfl (bT g) rfl rfl <| qgn rfl (bT g) rfl rfl <| qgn rfl (bT g) rfl rfl <| qv (pT (bT g)) rfl <| qj C (bOt g)
    · exact qgy rfl (bF g) <| qv (fa qK rfl) rfl <| qgy rfl (bF g) <| qv (lb s2 0 rfl rfl rfl) rfl <| qgy rfl (bF g) <| qv (beq rfl rfl) rfl <| qv (pF (bF g)) rfl <| qj C (bOf g)
   by_cases h : t = 1
   · exact qgn rfl (bT h) rfl rfl <| qgn rfl (bT h) rfl rfl <| qgn rfl (bT h) rfl rfl <| qv (pT (bT h)) rfl <| qj B (bOt h)
   · exact qgy rfl (bF h) <| qv (fa qK rfl) rfl <| qgy rfl (bF h) <| qv (lb s2 0 rfl rfl rfl) rfl <| qgy rfl (bF h) <| qv (beq rfl rfl) rfl <| qv (pF (bF h)) rfl <| qj B (bOf h)
 · refine sr <| tv (beq rfl rfl) rfl <| ta rfl <| nz <| cD rfl hp (fun W hp => ?_) fun W hp => ?_
   · refine nv fun aL X => ch mix [bx i 52 [.int .i64 a11.op, .int .i64 a11.dst, c, .int .i64 a11.imm, .int .i64 a11.fn]] (nq 0 rfl ns) <| hv 0 rfl mv Ag rfl <| hv 1 rfl mv Ag rfl <| hv 2 rfl (nE rfl) Ag rfl <| hv 3 rfl (fa pW rfl) Ag rfl <| hv 4 rfl (fa o7 rfl) Ag rfl <| hv 5 rfl (lr s25 srcInH d 3 rfl rfl) Ag rfl <| hv 6 rfl (fa o6 rfl) Ag rfl <| hv 7 rfl (lbG s25 0 rfl rfl rfl) Ag rfl <| hi 8 rfl u25 i3 o hp rfl rfl rfl Ag rfl ?_
     rintro aM aN aO _ hp rfl Y
     refine hv 9 rfl (lr s3 srcInH Y 0 rfl rfl) Ag rfl <| hi 10 rfl u25 i3 e hp rfl rfl rfl Ag rfl ?_
     rintro Z aP aQ _ hp rfl aa
     refine hv 11 rfl (lr s3 srcInH aa 0 rfl rfl) Ag rfl <| hv 12 rfl (fa pd rfl) Ag rfl <| hv 13 rfl (lbG s3 0 rfl rfl rfl) Ag rfl <| ho 14 rfl Ag fun aR ab => tbs [(0, .int .i64 a11.dst)] [.int .i64 a11.dst] u25 i3 Ag rfl rfl rfl rfl fun aS => hk ab (nq 1 rfl ns) <| ho 15 rfl Ag fun aT ac => tf 1 0 [_,_,_] rfl <| TL.litOwn (n := 1) (xs := [a11.dst]) (RepL.to (RepL.cons (k := (nt .i64)) (x := a11.dst) ⟨rfl, rfl⟩ RepL.nil) rfl) rfl rfl (ltb rfl) fun aU ad => bE hp fun aV hy26 hp => tc 0 [_,_] rfl c102 (fun _ => qh (a2 := a2) (a11 := Z) (a12 := [a11.dst]) (d.mono nw) (j.mono nw) (e.mono nw) (l.mono nw) (ad.ro.mono (subB 0 rfl)) hy26) rfl ?_
     rintro _ _ ⟨rfl, rfl⟩
     exact hk ac (nq 1 rfl ns) <| hv 16 rfl sg Ag rfl <| hz Ag <| tg X <| nH <| rt hp [] ⟨rfl, rfl⟩
   · refine nv fun ae af => ?_
     have D {F ag} (hp : pg.jn31 a2 a11 F = some r) : ∀ w, St E H [bx i 52 [.int .i64 a11.op, .int .i64 a11.dst, c, .int .i64 a11.imm, .int .i64 a11.fn]] w → ae (ovr ag [(0, .pointer (some ⟨q, s, none⟩)), (3, .pointer (some ⟨i, 0, none⟩)), (6, .int .i64 a11.op), (47, .bool F)]) w := by
      refine tg af <| cB rfl hp (fun ah hp => ?_) fun ah hp => ?_
      · refine sr <| tm rfl <| tv (fa o6 rfl) rfl <| tv (lb s25 0 rfl rfl rfl) rfl <| bE hp fun aW hy33 hp => tc 0 [_] rfl c102 (fun _ => qh (a2 := a2) (a11 := 1) (a12 := a11.args) (d.mono nw) (j.mono nw) (e.mono nw) (l.mono nw) (o.mono nw) hy33) rfl ?_
        rintro _ _ ⟨rfl, rfl⟩
        refine tm rfl <| bE hp fun ai ht40 hp => TL.cut 6 fun aj ak => ?_
        have G {al} : ∀ w, St E H [bx i 52 [.int .i64 a11.op, .int .i64 a11.dst, c, .int .i64 a11.imm, .int .i64 a11.fn]] w → aj (ovr al [(60, .bool ai)]) w := by
         exact tlg ak <| ta rfl <| nz <| nH <| rt hp [] ⟨rfl, rfl⟩
        refine ifE ht40 (fun a hp => ?_) fun a hp => ?_
        · refine gy rfl (bbT a) <| tm rfl <| gy rfl (bbT a) <| tv (fa pd rfl) rfl <| gy rfl (bbT a) <| tv (lb s3 0 rfl rfl rfl) rfl <| gy rfl (bbT a) <| tbs [(0, .int .i64 a11.dst)] [.int .i64 a11.dst] u25 i3 Ag rfl rfl rfl rfl fun aX => gy rfl (bbT a) <| tf 1 0 [_,_,_] rfl <| TL.litOwn (n := 1) (xs := [a11.dst]) (RepL.to (RepL.cons (k := (nt .i64)) (x := a11.dst) ⟨rfl, rfl⟩ RepL.nil) rfl) rfl rfl (ltb rfl) fun aY am => bE hp fun aZ hy41 hp => tc 0 [_,_] rfl c102 (fun _ => qh (a2 := a2) (a11 := 2) (a12 := [a11.dst]) (d.mono nw) (j.mono nw) (e.mono nw) (l.mono nw) (am.ro.mono (subB 0 rfl)) hy41) rfl ?_
          rintro _ _ ⟨rfl, rfl⟩
          refine tv (pT (bbT a)) rfl <| tp [1] [_] rfl rfl ?_
          obtain rfl := Option.some.inj hp
          exact nj G rfl
        · refine gn rfl (bbF a) rfl rfl <| gn rfl (bbF a) rfl rfl <| gn rfl (bbF a) rfl rfl <| gn rfl (bbF a) rfl rfl <| gn rfl (bbF a) rfl rfl <| tv (pF (bbF a)) rfl ?_
          obtain rfl := Option.some.inj hp
          exact nj G rfl
      · refine sr <| tv (beq rfl rfl) rfl <| ta rfl <| nz <| cD rfl hp (fun an hp => ?_) fun an hp => ?_
        · refine nv fun a0 ao => ch mix [bx i 52 [.int .i64 a11.op, .int .i64 a11.dst, c, .int .i64 a11.imm, .int .i64 a11.fn]] (nq 0 rfl ns) <| hv 0 rfl mv Ag rfl <| hv 1 rfl (fa o6 rfl) Ag rfl <| hv 2 rfl (lbG s25 0 rfl rfl rfl) Ag rfl <| hi 3 rfl u25 i3 o hp rfl rfl rfl Ag rfl ?_
          rintro p a1 a3 _ hp rfl ap
          refine hv 4 rfl (lr s3 srcInH ap 0 rfl rfl) Ag rfl <| hv 5 rfl (fa pd rfl) Ag rfl <| hv 6 rfl (lbG s3 0 rfl rfl rfl) Ag rfl <| ho 7 rfl Ag fun a4 aq => tbs [(0, .int .i64 p), (1, .int .i64 a11.dst)] [.int .i64 p, .int .i64 a11.dst] u25 i3 Ag rfl rfl rfl rfl fun a5 => hk aq (nq 1 rfl ns) <| ho 8 rfl Ag fun a6 ar => tf 1 0 [_,_,_] rfl <| TL.litOwn (n := 2) (xs := [p, a11.dst]) (RepL.to (RepL.cons (k := (nt .i64)) (x := p) ⟨rfl, rfl⟩ (RepL.cons (k := (nt .i64)) (x := a11.dst) ⟨rfl, rfl⟩ RepL.nil)) rfl) rfl rfl (ltb rfl) fun a7 au => bE hp fun a8 hy51 hp => tc 0 [_,_] rfl c102 (fun _ => qh (a2 := a2) (a11 := 2) (a12 := [p, a11.dst]) (d.mono nw) (j.mono nw) (e.mono nw) (l.mono nw) (au.ro.mono (subB 0 rfl)) hy51) rfl ?_
          rintro _ _ ⟨rfl, rfl⟩
          exact hk ar (nq 1 rfl ns) <| hv 9 rfl sg Ag rfl <| hz Ag <| tg ao <| nH <| rt hp [] ⟨rfl, rfl⟩
        · refine nv fun av aw => ?_
          have I {J ax} (hp : pg.jn56 a2 a11 J = some r) : ∀ w, St E H [bx i 52 [.int .i64 a11.op, .int .i64 a11.dst, c, .int .i64 a11.imm, .int .i64 a11.fn]] w → av (ovr ax [(0, .pointer (some ⟨q, s, none⟩)), (3, .pointer (some ⟨i, 0, none⟩)), (6, .int .i64 a11.op), (72, .bool J)]) w := by
           refine tg aw <| cB rfl hp (fun ay hp => ?_) fun ay hp => ?_
           · refine sr <| tm rfl <| tv (fa o6 rfl) rfl <| tv (lb s25 0 rfl rfl rfl) rfl <| bE hp fun a9 hy58 hp => tc 0 [_] rfl c102 (fun _ => qh (a2 := a2) (a11 := 1) (a12 := a11.args) (d.mono nw) (j.mono nw) (e.mono nw) (l.mono nw) (o.mono nw) hy58) rfl ?_
             rintro _ _ ⟨rfl, rfl⟩
             exact ta rfl <| nz <| nH <| rt hp [] ⟨rfl, rfl⟩
           · refine sr <| tv (beq rfl rfl) rfl <| ta rfl <| nz <| cD rfl hp (fun az hp => ?_) fun az hp => ?_
             · refine sr <| tm rfl <| tv (lA (ds := [.int .i64 a11.op, .int .i64 a11.dst, c, .int .i64 a11.imm, .int .i64 a11.fn]) o5 0 rfl rfl rfl rfl) rfl <| bE hp fun ba hy61 hp => tc 0 [_] rfl c107 (fun _ => wA (a2 := a2) (a11 := a11) (d.mono nw) (j.mono nw) (e.mono nw) (l.mono nw) (o.mono nw) hy61) rfl ?_
               rintro _ _ ⟨rfl, rfl⟩
               exact ta rfl <| nz <| nH <| rt hp [] ⟨rfl, rfl⟩
             · refine sk L rfl <| sr <| tm rfl <| tv (fa o6 rfl) rfl <| tv (lb s25 0 rfl rfl rfl) rfl <| bE hp fun bb hy63 hp => tc 0 [_] rfl c102 (fun _ => qh (a2 := a2) (a11 := 1) (a12 := a11.args) (d.mono nw) (j.mono nw) (e.mono nw) (l.mono nw) (o.mono nw) hy63) rfl ?_
               rintro _ _ ⟨rfl, rfl⟩
               refine tm rfl <| bE hp fun aA ht70 hp => TL.cut 6 fun aB aC => ?_
               have K {aD} : ∀ w, St E H [bx i 52 [.int .i64 a11.op, .int .i64 a11.dst, c, .int .i64 a11.imm, .int .i64 a11.fn]] w → aB (ovr aD [(94, .bool aA)]) w := by
                exact tlg aC <| ta rfl <| nz <| nH <| rt hp [] ⟨rfl, rfl⟩
               refine ifE ht70 (fun b hp => ?_) fun b hp => ?_
               · refine gy rfl (bbT b) <| tm rfl <| gy rfl (bbT b) <| tv (fa pd rfl) rfl <| gy rfl (bbT b) <| tv (lb s3 0 rfl rfl rfl) rfl <| gy rfl (bbT b) <| tbs [(0, .int .i64 a11.dst)] [.int .i64 a11.dst] u25 i3 Ag rfl rfl rfl rfl fun bc => gy rfl (bbT b) <| tf 1 0 [_,_,_] rfl <| TL.litOwn (n := 1) (xs := [a11.dst]) (RepL.to (RepL.cons (k := (nt .i64)) (x := a11.dst) ⟨rfl, rfl⟩ RepL.nil) rfl) rfl rfl (ltb rfl) fun be aE => bE hp fun bf hy71 hp => tc 0 [_,_] rfl c102 (fun _ => qh (a2 := a2) (a11 := 1) (a12 := [a11.dst]) (d.mono nw) (j.mono nw) (e.mono nw) (l.mono nw) (aE.ro.mono (subB 0 rfl)) hy71) rfl ?_
                 rintro _ _ ⟨rfl, rfl⟩
                 refine tv (pT (bbT b)) rfl <| tp [1] [_] rfl rfl ?_
                 obtain rfl := Option.some.inj hp
                 exact nj K rfl
               · refine gn rfl (bbF b) rfl rfl <| gn rfl (bbF b) rfl rfl <| gn rfl (bbF b) rfl rfl <| gn rfl (bbF b) rfl rfl <| gn rfl (bbF b) rfl rfl <| tv (pF (bbF b)) rfl ?_
                 obtain rfl := Option.some.inj hp
                 exact nj K rfl
          refine sr <| tv (beq rfl rfl) rfl <| ta rfl <| nz <| cD rfl hp (fun aF hp => ?_) fun aF hp => ?_
          · exact TC.skip <| jn [0] (I hp)
          · exact nF <| tv (beq rfl rfl) rfl <| ta rfl <| nl <| jn [0] (I hp)
     refine sr <| tv (beq rfl rfl) rfl <| ta rfl <| nz <| cD rfl hp (fun aG hp => ?_) fun aG hp => ?_
     · exact TC.skip <| jn [0] (D hp)
     · exact nF <| tv (beq rfl rfl) rfl <| ta rfl <| nl <| jn [0] (D hp)
/-! ### (*fettle/check.looker).instr -/
abbrev q7.R (r : GErr) (v : Value) (A : List FP) : Prop := ∃ (w1 : Value) (a : FP), w1 = v ∧ A = [a] ∧ ErO 63 106 108 r w1 a
def q7 (a2 : oh) (a11 : nL) : Option GErr :=
  (qM a2 a11).bind fun a =>
  if ¬ a.2.2 = GErr.no then
    some a.2.2
  else
    if ¬ (len a11.args) = a.1 then
      some (GErr.code 6)
    else
      (qg a2 a11.args).bind fun b =>
      (if (!b) = true then some true else (if ¬ (a.2.1 = 0) then (qg a2 ([a11.dst])).bind fun c =>
      some (!c) else some false).bind fun d =>
      some d).bind fun e =>
      if e = true then
        some (GErr.code 4)
      else
        (if ((a.2.1 = 0 ∧ (¬ a11.dst = -1)) ∨ ((¬ a11.op = 1) ∧ (¬ a11.imm = 0))) ∨ ((¬ a11.op = 17) ∧ (¬ a11.fn = 0)) then some true else (pg a2 a11).bind fun f =>
        some (!f)).bind fun g =>
        if g = true then
          some (GErr.code 3)
        else
          some GErr.no
set_option maxHeartbeats 4000000 in
theorem wC {E : World} {H : FP} {w : World} {a2 : oh} {a11 : nL} {q : Nat} {s : Nat} {D : Value} {F : Value} {G : Value} {e : Value} {r : GErr} (u : n7 H q s [D, .int .i64 a2.f.params, .int .i64 a2.f.result, F, G]) (y : SlI ou H a2.m.funcs D) (z : SlI (nt .i64) H a2.f.regs F) (B : SlI nY H a2.f.blocks G) (C : SlI (nt .i64) H a11.args e) (hp : q7 a2 a11 = some r) (hst : St E H [] w) :
    Fn Try.prog 97 #[.pointer (some ⟨q, s, none⟩), .agg #[.int .i64 a11.op, .int .i64 a11.dst, e, .int .i64 a11.imm, .int .i64 a11.fn]] w fun v w' => ∃ A, q7.R r v A ∧ St E H A w' := by
 refine fb 82 [.tmp 4] Try.func97 rfl rfl rfl rfl rfl hst <| sr <| tb [.int .i64 a11.op, .int .i64 a11.dst, e, .int .i64 a11.imm, .int .i64 a11.fn] rfl rfl fun a => ta rfl <| nz <| sr <| tm rfl <| tv (lA (ds := [.int .i64 a11.op, .int .i64 a11.dst, e, .int .i64 a11.imm, .int .i64 a11.fn]) o5 0 rfl rfl rfl rfl) rfl <| bE hp fun h hy1 hp => tc 0 [_] rfl c103 (fun _ => wz (a2 := a2) (a11 := a11) (u.mono nw) (y.mono nw) (z.mono nw) (B.mono nw) (C.mono nw) hy1) rfl ?_
 rintro _ _ ⟨S, t, rfl, rfl, I⟩
 refine tm rfl <| tv (xt rfl rfl) rfl <| tv (xt rfl rfl) rfl <| tv (xt rfl rfl) rfl <| ta rfl <| ta rfl <| ta rfl <| nz <| sr <| tm rfl <| tv (beq rfl rfl) rfl <| ta rfl <| nz <| nv fun aE T => nB <| sr <| tm rfl <| tv (pw pc I rfl) rfl <| ta rfl <| nz <| cD rfl hp (fun U hp => ?_) fun U hp => ?_
 · exact sr <| tm rfl <| ta rfl <| nz <| nH <| rt hp [0] ⟨S, t, rfl, rfl, I⟩
 · refine sr <| tv (fa o6 rfl) rfl <| tv (lb s25 1 rfl rfl rfl) rfl <| tv (ln u25 C rfl) rfl <| tm rfl <| tv (bne rfl rfl) rfl <| ta rfl <| nz <| cD rfl hp (fun V hp => ?_) fun V hp => ?_
   · exact sr <| tv (mI u63 rfl) rfl <| ta rfl <| nz <| nH <| W.new0 <| rt hp [0] ⟨(.iface 63 (.int .i64 6)), ([] : FP), rfl, rfl, (ErO.mk _ : ErO 63 106 108 (GErr.code 6) (.iface 63 (.int .i64 6)) [])⟩
   · refine sr <| tm rfl <| tv (fa o6 rfl) rfl <| tv (lb s25 1 rfl rfl rfl) rfl <| bE hp fun X hy7 hp => tc 0 [_,_] rfl c101 (fun _ => rG (a2 := a2) (a11 := a11.args) (u.mono nw) (y.mono nw) (z.mono nw) (B.mono nw) (C.mono nw) hy7) rfl ?_
     rintro _ _ ⟨rfl, rfl⟩
     refine tv (oI rfl) rfl <| tm rfl <| bE hp fun Y ht49 hp => TL.cut 11 fun Z aa => ?_
     have J {ab} : ∀ w, St E H [t, bx a 52 [.int .i64 a11.op, .int .i64 a11.dst, e, .int .i64 a11.imm, .int .i64 a11.fn]] w → Z (ovr ab [(46, .bool Y), (0, .pointer (some ⟨q, s, none⟩)), (3, .pointer (some ⟨a, 0, none⟩)), (8, .bool (decide (h.2.1 = 0)))]) w := by
      refine tlg aa <| ta rfl <| nz <| cB rfl hp (fun ac hp => ?_) fun ac hp => ?_
      · exact sr <| tv (mI u63 rfl) rfl <| ta rfl <| nz <| nH <| W.new0 <| rt hp [0] ⟨(.iface 63 (.int .i64 4)), ([] : FP), rfl, rfl, (ErO.mk _ : ErO 63 106 108 (GErr.code 4) (.iface 63 (.int .i64 4)) [])⟩
      · refine sr <| tm rfl <| tm rfl <| TL.cut 4 fun ad ae => ?_
        have K {af} : ∀ w, St E H [t, bx a 52 [.int .i64 a11.op, .int .i64 a11.dst, e, .int .i64 a11.imm, .int .i64 a11.fn]] w → ad (ovr af [(54, .bool (decide (h.2.1 = 0 ∧ (¬ a11.dst = -1)))), (0, .pointer (some ⟨q, s, none⟩)), (3, .pointer (some ⟨a, 0, none⟩))]) w := by
         refine tlg ae <| tm rfl <| TL.cut 9 fun ag ah => ?_
         have L {ai} : ∀ w, St E H [t, bx a 52 [.int .i64 a11.op, .int .i64 a11.dst, e, .int .i64 a11.imm, .int .i64 a11.fn]] w → ag (ovr ai [(64, .bool (decide ((h.2.1 = 0 ∧ (¬ a11.dst = -1)) ∨ ((¬ a11.op = 1) ∧ (¬ a11.imm = 0))))), (0, .pointer (some ⟨q, s, none⟩)), (3, .pointer (some ⟨a, 0, none⟩))]) w := by
          refine tlg ah <| tm rfl <| TL.cut 9 fun aj ak => ?_
          have M {al} : ∀ w, St E H [t, bx a 52 [.int .i64 a11.op, .int .i64 a11.dst, e, .int .i64 a11.imm, .int .i64 a11.fn]] w → aj (ovr al [(74, .bool (decide (((h.2.1 = 0 ∧ (¬ a11.dst = -1)) ∨ ((¬ a11.op = 1) ∧ (¬ a11.imm = 0))) ∨ ((¬ a11.op = 17) ∧ (¬ a11.fn = 0))))), (0, .pointer (some ⟨q, s, none⟩)), (3, .pointer (some ⟨a, 0, none⟩))]) w := by
           refine tlg ak <| tm rfl <| bE hp fun am ht36 hp => TL.cut 5 fun an ao => ?_
           have N {ap} : ∀ w, St E H [t, bx a 52 [.int .i64 a11.op, .int .i64 a11.dst, e, .int .i64 a11.imm, .int .i64 a11.fn]] w → an (ovr ap [(80, .bool am)]) w := by
            refine tlg ao <| ta rfl <| nz <| cB rfl hp (fun aq hp => ?_) fun aq hp => ?_
            · exact sr <| tv (mI u63 rfl) rfl <| ta rfl <| nz <| nH <| W.new0 <| rt hp [0] ⟨(.iface 63 (.int .i64 3)), ([] : FP), rfl, rfl, (ErO.mk _ : ErO 63 106 108 (GErr.code 3) (.iface 63 (.int .i64 3)) [])⟩
            · exact sk T rfl <| sr <| ta rfl <| nz <| nH <| W.new0 <| rt hp [0] ⟨.nilIface, ([] : FP), rfl, rfl, (ErO.nil : ErO 63 106 108 GErr.no .nilIface [])⟩
           refine ifE ht36 (fun i hp => ?_) fun i hp => ?_
           · refine gn rfl (bT i) rfl rfl <| gn rfl (bT i) rfl rfl <| gn rfl (bT i) rfl rfl <| gn rfl (bT i) rfl rfl <| tv (pT (bT i)) rfl ?_
             obtain rfl := Option.some.inj hp
             exact nj N rfl
           · refine gy rfl (bF i) <| tm rfl <| gy rfl (bF i) <| tv (lA (ds := [.int .i64 a11.op, .int .i64 a11.dst, e, .int .i64 a11.imm, .int .i64 a11.fn]) o5 1 rfl rfl rfl rfl) rfl <| gy rfl (bF i) <| bE hp fun aF hy37 hp => tc 0 [_,_] rfl c104 (fun _ => wB (a2 := a2) (a11 := a11) (u.mono nw) (y.mono nw) (z.mono nw) (B.mono nw) (C.mono nw) hy37) rfl ?_
             rintro _ _ ⟨rfl, rfl⟩
             refine gy rfl (bF i) <| tv (oI rfl) rfl <| tv (pF (bF i)) rfl ?_
             obtain rfl := Option.some.inj hp
             exact nj N rfl
          by_cases b : (h.2.1 = 0 ∧ (¬ a11.dst = -1)) ∨ ((¬ a11.op = 1) ∧ (¬ a11.imm = 0))
          · exact gn rfl (bT b) rfl rfl <| gn rfl (bT b) rfl rfl <| gn rfl (bT b) rfl rfl <| gn rfl (bT b) rfl rfl <| gu rfl rfl rfl <| gu rfl rfl rfl <| gu rfl rfl rfl <| gn rfl (bT b) rfl rfl <| tv (pT (bT b)) rfl <| nj M (bOt b)
          · refine gy rfl (bF b) <| tv (fa qb rfl) rfl <| gy rfl (bF b) <| tv (lb s3 1 rfl rfl rfl) rfl <| gy rfl (bF b) <| tv (bne rfl rfl) rfl <| gy rfl (bF b) <| tm rfl <| TL.cut 4 fun ar au => ?_
            have O {av} : ∀ w, St E H [t, bx a 52 [.int .i64 a11.op, .int .i64 a11.dst, e, .int .i64 a11.imm, .int .i64 a11.fn]] w → ar (ovr av [(73, .bool (decide ((¬ a11.op = 17) ∧ (¬ a11.fn = 0)))), (0, .pointer (some ⟨q, s, none⟩)), (3, .pointer (some ⟨a, 0, none⟩)), (65, .bool (decide ((h.2.1 = 0 ∧ (¬ a11.dst = -1)) ∨ ((¬ a11.op = 1) ∧ (¬ a11.imm = 0)))))]) w := by
             exact tlg au <| tv (pF (bF b)) rfl <| nj M (bOf b)
            by_cases j : ¬ a11.op = 17
            · exact gy rfl (bT j) <| tv (fa qC rfl) rfl <| gy rfl (bT j) <| tv (lb s3 1 rfl rfl rfl) rfl <| gy rfl (bT j) <| tv (bne rfl rfl) rfl <| gy rfl (bF b) <| tv (pT (bT j)) rfl <| nj O (bAt j)
            · exact gn rfl (bF j) rfl rfl <| gn rfl (bF j) rfl rfl <| gn rfl (bF j) rfl rfl <| gy rfl (bF b) <| tv (pF (bF j)) rfl <| nj O (bAf j)
         by_cases c : h.2.1 = 0 ∧ (¬ a11.dst = -1)
         · exact gn rfl (bT c) rfl rfl <| gn rfl (bT c) rfl rfl <| gn rfl (bT c) rfl rfl <| gn rfl (bT c) rfl rfl <| gu rfl rfl rfl <| gu rfl rfl rfl <| gu rfl rfl rfl <| gn rfl (bT c) rfl rfl <| tv (pT (bT c)) rfl <| nj L (bOt c)
         · refine gy rfl (bF c) <| tv (fa qb rfl) rfl <| gy rfl (bF c) <| tv (lb s3 1 rfl rfl rfl) rfl <| gy rfl (bF c) <| tv (bne rfl rfl) rfl <| gy rfl (bF c) <| tm rfl <| TL.cut 4 fun aw ax => ?_
           have P {ay} : ∀ w, St E H [t, bx a 52 [.int .i64 a11.op, .int .i64 a11.dst, e, .int .i64 a11.imm, .int .i64 a11.fn]] w → aw (ovr ay [(63, .bool (decide ((¬ a11.op = 1) ∧ (¬ a11.imm = 0)))), (0, .pointer (some ⟨q, s, none⟩)), (3, .pointer (some ⟨a, 0, none⟩)), (55, .bool (decide (h.2.1 = 0 ∧ (¬ a11.dst = -1))))]) w := by
            exact tlg ax <| tv (pF (bF c)) rfl <| nj L (bOf c)
           by_cases l : ¬ a11.op = 1
           · exact gy rfl (bT l) <| tv (fa qK rfl) rfl <| gy rfl (bT l) <| tv (lb s2 1 rfl rfl rfl) rfl <| gy rfl (bT l) <| tv (bne rfl rfl) rfl <| gy rfl (bF c) <| tv (pT (bT l)) rfl <| nj P (bAt l)
           · exact gn rfl (bF l) rfl rfl <| gn rfl (bF l) rfl rfl <| gn rfl (bF l) rfl rfl <| gy rfl (bF c) <| tv (pF (bF l)) rfl <| nj P (bAf l)
        by_cases o : h.2.1 = 0
        · exact gy rfl (bT o) <| tv (fa pd rfl) rfl <| gy rfl (bT o) <| tv (lb s3 1 rfl rfl rfl) rfl <| gy rfl (bT o) <| tv (bne rfl rfl) rfl <| tv (pT (bT o)) rfl <| nj K (bAt o)
        · exact gn rfl (bF o) rfl rfl <| gn rfl (bF o) rfl rfl <| gn rfl (bF o) rfl rfl <| tv (pF (bF o)) rfl <| nj K (bAf o)
     refine ifE ht49 (fun g hp => ?_) fun g hp => ?_
     · refine gn rfl (bbT g) rfl rfl <| gn rfl (bbT g) rfl rfl <| gn rfl (bbT g) rfl rfl <| gu rfl rfl rfl <| gu rfl rfl rfl <| gu rfl rfl rfl <| gu rfl rfl rfl <| gu rfl rfl rfl <| gu rfl rfl rfl <| gn rfl (bbT g) rfl rfl <| tv (pT (bbT g)) rfl ?_
       obtain rfl := Option.some.inj hp
       exact nj J rfl
     · refine gy rfl (bbF g) <| tm rfl <| gy rfl (bbF g) <| tv (vH (p := h.2.1 = 0) rfl) rfl <| gy rfl (bbF g) <| tm rfl <| bE hp fun az ht55 hp => TL.cut 7 fun aA aB => ?_
       have Q {aC} : ∀ w, St E H [t, bx a 52 [.int .i64 a11.op, .int .i64 a11.dst, e, .int .i64 a11.imm, .int .i64 a11.fn]] w → aA (ovr aC [(45, .bool az), (0, .pointer (some ⟨q, s, none⟩)), (3, .pointer (some ⟨a, 0, none⟩)), (8, .bool (decide (h.2.1 = 0))), (35, .bool (!X))]) w := by
        refine tlg aB <| tv (pF (bbF g)) rfl ?_
        obtain rfl := Option.some.inj hp
        exact nj J rfl
       refine ifE ht55 (fun d hp => ?_) fun d hp => ?_
       · refine gy rfl (bT d) <| tm rfl <| gy rfl (bT d) <| tv (fa pd rfl) rfl <| gy rfl (bT d) <| tv (lb s3 1 rfl rfl rfl) rfl <| gy rfl (bT d) <| tbs [(0, .int .i64 a11.dst)] [.int .i64 a11.dst] u25 i3 Ag rfl rfl rfl rfl fun aG => gy rfl (bT d) <| tf 1 0 [_,_,_,_] rfl <| TL.litOwn (n := 1) (xs := [a11.dst]) (RepL.to (RepL.cons (k := (nt .i64)) (x := a11.dst) ⟨rfl, rfl⟩ RepL.nil) rfl) rfl rfl (ltb rfl) fun aH aD => bE hp fun aI hy56 hp => tc 0 [_,_,_] rfl c101 (fun _ => rG (a2 := a2) (a11 := [a11.dst]) (u.mono nw) (y.mono nw) (z.mono nw) (B.mono nw) (aD.ro.mono (subB 0 rfl)) hy56) rfl ?_
         rintro _ _ ⟨rfl, rfl⟩
         refine gy rfl (bT d) <| tv (oI rfl) rfl <| gy rfl (bbF g) <| tv (pT (bT d)) rfl <| tp [1, 2] [_,_] rfl rfl ?_
         obtain rfl := Option.some.inj hp
         exact nj Q rfl
       · refine gn rfl (bF d) rfl rfl <| gn rfl (bF d) rfl rfl <| gn rfl (bF d) rfl rfl <| gn rfl (bF d) rfl rfl <| gn rfl (bF d) rfl rfl <| gn rfl (bF d) rfl rfl <| gy rfl (bbF g) <| tv (pF (bF d)) rfl ?_
         obtain rfl := Option.some.inj hp
         exact nj Q rfl
/-! ### (*fettle/check.looker).end -/
abbrev pX.R (r : GErr) (v : Value) (A : List FP) : Prop := ∃ (w1 : Value) (a : FP), w1 = v ∧ A = [a] ∧ ErO 63 106 108 r w1 a
def pX.jn15 (a2 : oh) (a11 : PTerm) (a : Int) : Option GErr :=
  (qg a2 ([a11.arg])).bind fun b =>
  if (!b) = true then
    some (GErr.code 4)
  else
    (pA a2 a ([a11.arg])).bind fun c =>
    if (!c) = true then
      some (GErr.code 3)
    else
      some GErr.no
def pX (a2 : oh) (a11 : PTerm) : Option GErr :=
  if a11.kind = 1 ∨ (a11.kind = 3 ∧ a2.f.result = 0) then
    if ¬ a11.arg = -1 then
      some (GErr.code 3)
    else
      some GErr.no
  else
    if a11.kind = 3 then
      pX.jn15 a2 a11 a2.f.result
    else
      pX.jn15 a2 a11 2
set_option maxHeartbeats 4000000 in
theorem wD {E : World} {H : FP} {w : World} {a2 : oh} {a11 : PTerm} {e : Nat} {g : Nat} {j : Value} {l : Value} {o : Value} {c : Value} {r : GErr} (h : n7 H e g [j, .int .i64 a2.f.params, .int .i64 a2.f.result, l, o]) (p : SlI ou H a2.m.funcs j) (q : SlI (nt .i64) H a2.f.regs l) (s : SlI nY H a2.f.blocks o) (X : SlI (nt .i64) H a11.to c) (hp : pX a2 a11 = some r) (hst : St E H [] w) :
    Fn Try.prog 98 #[.pointer (some ⟨e, g, none⟩), .agg #[.int .i64 a11.kind, .int .i64 a11.arg, c]] w fun v w' => ∃ A, pX.R r v A ∧ St E H A w' := by
 refine fb 51 [.tmp 4] Try.func98 rfl rfl rfl rfl rfl hst <| sr <| tb [.int .i64 a11.kind, .int .i64 a11.arg, c] rfl rfl fun d => ta rfl <| nz <| nv fun Y z => sr <| tv (fa p6 rfl) rfl <| tv (lb s3 0 rfl rfl rfl) rfl <| tv (beq rfl rfl) rfl <| tm rfl <| TL.cut 12 fun B C => ?_
 have t {D} : ∀ w, St E H [bx d 46 [.int .i64 a11.kind, .int .i64 a11.arg, c]] w → B (ovr D [(21, .bool (decide (a11.kind = 1 ∨ (a11.kind = 3 ∧ a2.f.result = 0)))), (0, .pointer (some ⟨e, g, none⟩)), (3, .pointer (some ⟨d, 0, none⟩))]) w := by
  refine tlg C <| nz <| cD rfl hp (fun F hp => ?_) fun F hp => ?_
  · refine nv fun Z G => sr <| tv (fa pp rfl) rfl <| tv (lb s3 0 rfl rfl rfl) rfl <| tv (bne rfl rfl) rfl <| nz <| cD rfl hp (fun I hp => ?_) fun I hp => ?_
    · exact sr <| tv (mI u63 rfl) rfl <| ta rfl <| nz <| nH <| W.new0 <| rt hp [0] ⟨(.iface 63 (.int .i64 3)), ([] : FP), rfl, rfl, (ErO.mk _ : ErO 63 106 108 (GErr.code 3) (.iface 63 (.int .i64 3)) [])⟩
    · exact sk G rfl <| sr <| ta rfl <| nz <| nH <| W.new0 <| rt hp [0] ⟨.nilIface, ([] : FP), rfl, rfl, (ErO.nil : ErO 63 106 108 GErr.no .nilIface [])⟩
  · refine sk z rfl <| sr <| ta rfl <| nz <| nv fun J K => ?_
    have u {i L} (hp : pX.jn15 a2 a11 i = some r) : ∀ w, St E H [bx d 46 [.int .i64 a11.kind, .int .i64 a11.arg, c]] w → J (ovr L [(0, .pointer (some ⟨e, g, none⟩)), (3, .pointer (some ⟨d, 0, none⟩)), (5, .int .i64 i)]) w := by
     refine tg K <| nv fun aa M => nB <| sr <| tm rfl <| tv (fa pp rfl) rfl <| tv (lb s3 0 rfl rfl rfl) rfl <| tbs [(0, .int .i64 a11.arg)] [.int .i64 a11.arg] u25 i3 Ag rfl rfl rfl rfl fun ab => tf 1 0 [_,_,_] rfl <| TL.litOwn (n := 1) (xs := [a11.arg]) (RepL.to (RepL.cons (k := (nt .i64)) (x := a11.arg) ⟨rfl, rfl⟩ RepL.nil) rfl) rfl rfl (ltb rfl) fun ac N => bE hp fun ad hy18 hp => tc 0 [_,_] rfl c101 (fun _ => rG (a2 := a2) (a11 := [a11.arg]) (h.mono nw) (p.mono nw) (q.mono nw) (s.mono nw) (N.ro.mono (subB 0 rfl)) hy18) rfl ?_
     rintro _ _ ⟨rfl, rfl⟩
     refine tv (oI rfl) rfl <| ta rfl <| nz <| cB rfl hp (fun O hp => ?_) fun O hp => ?_
     · exact sr <| tv (mI u63 rfl) rfl <| ta rfl <| nz <| nH <| W.new0 <| rt hp [0] ⟨(.iface 63 (.int .i64 4)), ([] : FP), rfl, rfl, (ErO.mk _ : ErO 63 106 108 (GErr.code 4) (.iface 63 (.int .i64 4)) [])⟩
     · refine sr <| tm rfl <| tm rfl <| tv (fa pp rfl) rfl <| tv (lb s3 1 rfl rfl rfl) rfl <| tbs [(0, .int .i64 a11.arg)] [.int .i64 a11.arg] u25 i3 Ag rfl rfl rfl rfl fun ae => tf 1 0 [_,_,_,_] rfl <| TL.litOwn (n := 1) (xs := [a11.arg]) (RepL.to (RepL.cons (k := (nt .i64)) (x := a11.arg) ⟨rfl, rfl⟩ RepL.nil) rfl) rfl rfl (ltb rfl) fun af P => bE hp fun ag hy21 hp => tc 0 [_,_,_] rfl c102 (fun _ => qh (a2 := a2) (a11 := i) (a12 := [a11.arg]) (h.mono nw) (p.mono nw) (q.mono nw) (s.mono nw) (P.ro.mono (subB 0 rfl)) hy21) rfl ?_
       rintro _ _ ⟨rfl, rfl⟩
       refine tv (oI rfl) rfl <| ta rfl <| nz <| cB rfl hp (fun Q hp => ?_) fun Q hp => ?_
       · exact sr <| tv (mI u63 rfl) rfl <| ta rfl <| nz <| nH <| W.new0 <| rt hp [0] ⟨(.iface 63 (.int .i64 3)), ([] : FP), rfl, rfl, (ErO.mk _ : ErO 63 106 108 (GErr.code 3) (.iface 63 (.int .i64 3)) [])⟩
       · exact sk M rfl <| sr <| ta rfl <| nz <| nH <| W.new0 <| rt hp [0] ⟨.nilIface, ([] : FP), rfl, rfl, (ErO.nil : ErO 63 106 108 GErr.no .nilIface [])⟩
    refine sr <| tv (fa p6 rfl) rfl <| tv (lb s3 0 rfl rfl rfl) rfl <| tv (beq rfl rfl) rfl <| nz <| cD rfl hp (fun S hp => ?_) fun S hp => ?_
    · exact nF <| tm rfl <| tv (nE rfl) rfl <| tv (fa pW rfl) rfl <| tv (fa p5 rfl) rfl <| tv (lr s3 sH h 2 rfl rfl) rfl <| ta rfl <| nl <| jn [0] (u hp)
    · exact TC.skip <| jn [0] (u hp)
 by_cases b : a11.kind = 1
 · exact gn rfl (bT b) rfl rfl <| gn rfl (bT b) rfl rfl <| gn rfl (bT b) rfl rfl <| gn rfl (bT b) rfl rfl <| gu rfl rfl rfl <| gu rfl rfl rfl <| gu rfl rfl rfl <| gu rfl rfl rfl <| gu rfl rfl rfl <| gu rfl rfl rfl <| gn rfl (bT b) rfl rfl <| tv (pT (bT b)) rfl <| nj t (bOt b)
 · refine gy rfl (bF b) <| tv (fa p6 rfl) rfl <| gy rfl (bF b) <| tv (lb s3 0 rfl rfl rfl) rfl <| gy rfl (bF b) <| tv (beq rfl rfl) rfl <| gy rfl (bF b) <| tm rfl <| TL.cut 7 fun T U => ?_
   have y {V} : ∀ w, St E H [bx d 46 [.int .i64 a11.kind, .int .i64 a11.arg, c]] w → T (ovr V [(20, .bool (decide (a11.kind = 3 ∧ a2.f.result = 0))), (0, .pointer (some ⟨e, g, none⟩)), (3, .pointer (some ⟨d, 0, none⟩)), (9, .bool (decide (a11.kind = 1)))]) w := by
    exact tlg U <| tv (pF (bF b)) rfl <| nj t (bOf b)
   by_cases a : a11.kind = 3
   · exact gy rfl (bT a) <| tm rfl <| gy rfl (bT a) <| tv (nE rfl) rfl <| gy rfl (bT a) <| tv (fa pW rfl) rfl <| gy rfl (bT a) <| tv (fa p5 rfl) rfl <| gy rfl (bT a) <| tv (lr s3 sH h 2 rfl rfl) rfl <| gy rfl (bT a) <| tv (beq rfl rfl) rfl <| gy rfl (bF b) <| tv (pT (bT a)) rfl <| nj y (bAt a)
   · exact gn rfl (bF a) rfl rfl <| gn rfl (bF a) rfl rfl <| gn rfl (bF a) rfl rfl <| gn rfl (bF a) rfl rfl <| gn rfl (bF a) rfl rfl <| gn rfl (bF a) rfl rfl <| gy rfl (bF b) <| tv (pF (bF a)) rfl <| nj y (bAf a)
/-! ### (*fettle/check.looker).block -/
abbrev o0.R (r : GErr) (v : Value) (A : List FP) : Prop := ∃ (w1 : Value) (a : FP), w1 = v ∧ A = [a] ∧ ErO 63 106 108 r w1 a
def o0.nx17 (a2 : oh) (a11 : nA) : Option GErr :=
  (pX a2 a11.term).bind fun a =>
  some a
def o0.bd17 (a2 : oh) (a11 : nA) (a : Int) : Option (Ex (Ex GErr Unit) Int) :=
  if a < (len a11.ins) then
    (idx a11.ins a).bind fun c =>
    (q7 a2 c).bind fun b =>
    if ¬ b = GErr.no then
      some (.ret (.ret b))
    else
      some (.go (w64 (a + 1)))
  else
    some (.ret (.go ()))
def o0.nx8 (a2 : oh) (a11 : nA) : Option GErr :=
  (whl (fun (s : Int) => o0.bd17 a2 a11 s) nD 0).bind fun z =>
  match z with
    | .ret r => some r
    | .go p => o0.nx17 a2 a11
def o0.bd8 (a2 : oh) (a11 : nA) (a : Int) : Option (Ex (Ex GErr Unit) Int) :=
  if a < (len a11.phis) then
    (idx a11.phis a).bind fun c =>
    (q6 a2 c).bind fun b =>
    if ¬ b = GErr.no then
      some (.ret (.ret b))
    else
      some (.go (w64 (a + 1)))
  else
    some (.ret (.go ()))
def o0 (a2 : oh) (a11 : nA) : Option GErr :=
  (whl (fun (s : Int) => o0.bd8 a2 a11 s) nD 0).bind fun z =>
  match z with
    | .ret r => some r
    | .go p => o0.nx8 a2 a11
set_option maxHeartbeats 4000000 in
theorem wE {E : World} {H : FP} {w : World} {a2 : oh} {a11 : nA} {h : Nat} {i : Nat} {t : Value} {u : Value} {x : Value} {b : Value} {c : Value} {d : Value} {r : GErr} (k : n7 H h i [t, .int .i64 a2.f.params, .int .i64 a2.f.result, u, x]) (l : SlI ou H a2.m.funcs t) (n : SlI (nt .i64) H a2.f.regs u) (o : SlI nY H a2.f.blocks x) (y : SlI oS H a11.phis b) (z : SlI oN H a11.ins c) (O : SlI (nt .i64) H a11.term.to d) (hp : o0 a2 a11 = some r) (hst : St E H [] w) :
    Fn Try.prog 87 #[.pointer (some ⟨h, i, none⟩), .agg #[b, c, .int .i64 a11.term.kind, .int .i64 a11.term.arg, d]] w fun v w' => ∃ A, o0.R r v A ∧ St E H A w' := by
 refine fb 43 [.tmp 4] Try.func87 rfl rfl rfl rfl rfl hst <| sr <| tb [b, c, .int .i64 a11.term.kind, .int .i64 a11.term.arg, d] rfl rfl fun g => ta rfl <| nz <| nv fun P Q => sr <| tv (fa oE rfl) rfl <| tv (lb s47 0 rfl rfl rfl) rfl <| tv (ln u47 y rfl) rfl <| tm rfl <| nz <| nB <| bE hp fun S T B => ?_
 have U {V} (W : .go () = S) : ∀ w, St E H [bx g 50 [b, c, .int .i64 a11.term.kind, .int .i64 a11.term.arg, d]] w → P (ovr V [(0, .pointer (some ⟨h, i, none⟩)), (3, .pointer (some ⟨g, 0, none⟩))]) w := by
  subst W
  replace hp : o0.nx8 a2 a11 = some r := B
  refine tg Q <| nv fun X Y => sr <| tv (fa oB rfl) rfl <| tv (lb s48 0 rfl rfl rfl) rfl <| tv (ln u48 z rfl) rfl <| tm rfl <| nz <| nB <| bE hp fun Z aa C => ?_
  have ab {ac} (ad : .go () = Z) : ∀ w, St E H [bx g 50 [b, c, .int .i64 a11.term.kind, .int .i64 a11.term.arg, d]] w → X (ovr ac [(0, .pointer (some ⟨h, i, none⟩)), (3, .pointer (some ⟨g, 0, none⟩))]) w := by
   subst ad
   replace hp : o0.nx17 a2 a11 = some r := C
   refine tg Y <| sr <| tm rfl <| tv (fa oQ rfl) rfl <| tv (lA (ds := [.int .i64 a11.term.kind, .int .i64 a11.term.arg, d]) qB 0 rfl rfl rfl rfl) rfl <| bE hp fun aB hy19 hp => tc 0 [_] rfl c98 (fun _ => wD (a2 := a2) (a11 := a11.term) (k.mono nw) (l.mono nw) (n.mono nw) (o.mono nw) (O.mono nw) hy19) rfl ?_
   rintro _ _ ⟨ae, af, rfl, rfl, ag⟩
   exact ta rfl <| nz <| nH <| rt hp [0] ⟨ae, af, rfl, rfl, ag⟩
  refine lp aa [0] rfl (fun s e L => ∃ D, e = ovr D [(0, .pointer (some ⟨h, i, none⟩)), (3, .pointer (some ⟨g, 0, none⟩)), (26, c), (27, .int .i64 (len a11.ins)), (28, .int .i64 s)] ∧ L = [bx g 50 [b, c, .int .i64 a11.term.kind, .int .i64 a11.term.arg, d]]) ⟨_, nC _ _ rfl, rfl⟩ ?_
  rintro ah _ _ ⟨D, rfl, rfl⟩ ai hp F
  replace hp : o0.bd17 a2 a11 ah = some ai := hp
  refine sr <| tv (blt rfl rfl) rfl <| nz <| nv fun aC aj => cD rfl hp (fun ak hp => ?_) fun ak hp => ?_
  · refine sk aj rfl <| nv fun aD al => nB <| sr <| ti u48 i52 z hp rfl rfl rfl rfl ?_
    rintro a aE aF _ hp ⟨p, rfl, G⟩ am
    refine tv (lR (ds := [.int .i64 a.op, .int .i64 a.dst, p, .int .i64 a.imm, .int .i64 a.fn]) o5 sH am 0 rfl rfl rfl) rfl <| tl i52 rfl fun aG => tS 0 m52 rfl rfl [.int .i64 a.op, .int .i64 a.dst, p, .int .i64 a.imm, .int .i64 a.fn] rfl (oc rfl (oc rfl (oc (G).one (oc rfl (oc rfl oc0))))) rfl rfl <| nz <| sr <| tm rfl <| tv (lA (ds := [.int .i64 a.op, .int .i64 a.dst, p, .int .i64 a.imm, .int .i64 a.fn]) o5 0 rfl rfl rfl rfl) rfl <| bE hp fun aH hy29 hp => tc 0 [_,_] rfl c97 (fun _ => wC (a2 := a2) (a11 := a) (k.mono nw) (l.mono nw) (n.mono nw) (o.mono nw) (G.mono nw) hy29) rfl ?_
    rintro _ _ ⟨an, ao, rfl, rfl, I⟩
    refine ta rfl <| nz <| sr <| tm rfl <| tv (pw pc I rfl) rfl <| nz <| cD rfl hp (fun ap hp => ?_) fun ap hp => ?_
    · refine sr <| tm rfl <| ta rfl <| nz <| nH ?_
      obtain rfl := nK hp F
      exact rt C [0] ⟨an, ao, rfl, rfl, I⟩
    · exact sk al rfl <| nF <| tv (bad rfl rfl) rfl <| tm rfl <| nl <| gk hp [2] ⟨_, nC _ _ rfl, rfl⟩
  · exact nN <| jn [0] (ab (nK hp F))
 refine lp T [0] rfl (fun s e L => ∃ J, e = ovr J [(0, .pointer (some ⟨h, i, none⟩)), (3, .pointer (some ⟨g, 0, none⟩)), (12, b), (13, .int .i64 (len a11.phis)), (14, .int .i64 s)] ∧ L = [bx g 50 [b, c, .int .i64 a11.term.kind, .int .i64 a11.term.arg, d]]) ⟨_, nC _ _ rfl, rfl⟩ ?_
 rintro aq _ _ ⟨J, rfl, rfl⟩ ar hp K
 replace hp : o0.bd8 a2 a11 aq = some ar := hp
 refine sr <| tv (blt rfl rfl) rfl <| nz <| nv fun aI au => cD rfl hp (fun av hp => ?_) fun av hp => ?_
 · refine sk au rfl <| nv fun aJ aw => nB <| sr <| ti u47 i70 y hp rfl rfl rfl rfl ?_
   rintro j aK aL _ hp ⟨q, rfl, M⟩ ax
   refine tv (lR (ds := [.int .i64 j.dst, q]) p8 sH ax 0 rfl rfl rfl) rfl <| tl i70 rfl fun aM => tS 0 m70 rfl rfl [.int .i64 j.dst, q] rfl (oc rfl (oc (M).one oc0)) rfl rfl <| nz <| sr <| tm rfl <| tv (lA (ds := [.int .i64 j.dst, q]) p8 0 rfl rfl rfl rfl) rfl <| bE hp fun aN hy42 hp => tc 0 [_,_] rfl c96 (fun _ => wy (a2 := a2) (a11 := j) (k.mono nw) (l.mono nw) (n.mono nw) (o.mono nw) (M.mono nw) hy42) rfl ?_
   rintro _ _ ⟨ay, az, rfl, rfl, N⟩
   refine ta rfl <| nz <| sr <| tm rfl <| tv (pw pc N rfl) rfl <| nz <| cD rfl hp (fun aA hp => ?_) fun aA hp => ?_
   · refine sr <| tm rfl <| ta rfl <| nz <| nH ?_
     obtain rfl := nK hp K
     exact rt B [0] ⟨ay, az, rfl, rfl, N⟩
   · exact sk aw rfl <| nF <| tv (bad rfl rfl) rfl <| tm rfl <| nl <| gk hp [2] ⟨_, nC _ _ rfl, rfl⟩
 · exact nN <| jn [0] (U (nK hp K))
end
section
/-! ### fettle/check.Func -/
abbrev ox.R (r : GErr) (v : Value) (A : List FP) : Prop := ∃ (w1 : Value) (a : FP), w1 = v ∧ A = [a] ∧ ErO 63 106 108 r w1 a
def ox.nx49  : Option GErr :=
  some GErr.no
def ox.bd49 (a1 : nR) (a : ny) (b : Int) : Option (Ex (Ex GErr Unit) Int) :=
  if b < (len a.blocks) then
    (idx a.blocks b).bind fun d =>
    (o0 (⟨(⟨a1.funcs⟩ : nR), (⟨a.params, a.result, a.regs, a.blocks⟩ : ny)⟩ : oh) d).bind fun c =>
    if ¬ c = GErr.no then
      some (.ret (.ret c))
    else
      some (.go (w64 (b + 1)))
  else
    some (.ret (.go ()))
def ox.nx40 (a1 : nR) (a : ny) : Option GErr :=
  (whl (fun (s : Int) => ox.bd49 a1 a s) nD 0).bind fun z =>
  match z with
    | .ret r => some r
    | .go p => ox.nx49
def ox.nx78 (a : Int) : Option (Ex (Ex GErr Unit) Int) :=
  some (.go (w64 (a + 1)))
def ox.bd78 (c : List Int) (b : nA) (a : Int) : Option (Ex (Ex GErr Unit) Int) :=
  if a < (len b.phis) then
    (idx b.phis a).bind fun d =>
    if ¬ (len d.args) = (len c) then
      some (.ret (.ret (GErr.code 6)))
    else
      some (.go (w64 (a + 1)))
  else
    some (.ret (.go ()))
def ox.bd40 (c : ny) (b : List (List Int)) (a : Int) : Option (Ex (Ex GErr Unit) Int) :=
  if a < (len b) then
    (idx b a).bind fun d =>
    (idx c.blocks a).bind fun e =>
    (whl (fun (s : Int) => ox.bd78 d e s) nD 0).bind fun z =>
    match z with
      | .ret r => some (.ret (.ret r))
      | .go p => ox.nx78 a
  else
    some (.ret (.go ()))
def ox.nx29 (a1 : nR) (a : ny) : Option GErr :=
  (oF a).bind fun b =>
  (whl (fun (s : Int) => ox.bd40 a b s) nD 0).bind fun z =>
  match z with
    | .ret r => some r
    | .go p => ox.nx40 a1 a
def ox.bd29 (a : ny) (b : Int) : Option (Ex (Ex GErr Unit) Int) :=
  if b < (len a.blocks) then
    (idx a.blocks b).bind fun c =>
    (pG a c.term).bind fun d =>
    if (!d) = true then
      some (.ret (.ret (GErr.code 6)))
    else
      some (.go (w64 (b + 1)))
  else
    some (.ret (.go ()))
def ox (a1 : nR) (a4 : Int) : Option GErr :=
  if a4 < 0 ∨ a4 ≥ (len a1.funcs) then
    some (GErr.code 1)
  else
    (idx a1.funcs a4).bind fun a =>
    (pE a).bind fun b =>
    if (!b) = true then
      some (GErr.code 5)
    else
      (qZ a).bind fun c =>
      if (!c) = true then
        some (GErr.code 3)
      else
        (whl (fun (s : Int) => ox.bd29 a s) nD 0).bind fun z =>
        match z with
          | .ret r => some r
          | .go p => ox.nx29 a1 a
set_option maxHeartbeats 4000000 in
theorem wF {E : World} {H : FP} {w : World} {a1 : nR} {a4 : Int} {v2 : Value} {r : GErr} (n : SlI ou H a1.funcs v2) (hp : ox a1 a4 = some r) (hst : St E H [] w) :
    Fn Try.prog 72 #[.agg #[v2], .int .i64 a4] w fun v w' => ∃ A, ox.R r v A ∧ St E H A w' := by
 refine fb 120 [.tmp 4] Try.func72 rfl rfl rfl rfl rfl hst <| sr <| tb [v2] rfl rfl fun o => ta rfl <| nz <| nv fun bB ag => sr <| tm rfl <| tv (blt rfl rfl) rfl <| tm rfl <| TL.cut 6 fun ah ai => ?_
 have z {aj} : ∀ w, St E H [bx o 35 [v2]] w → ah (ovr aj [(23, .bool (decide (a4 < 0 ∨ a4 ≥ (len a1.funcs)))), (1, .int .i64 a4), (2, .pointer (some ⟨o, 0, none⟩))]) w := by
  refine tlg ai <| nz <| cD rfl hp (fun ak hp => ?_) fun ak hp => ?_
  · exact sr <| tv (mI u63 rfl) rfl <| ta rfl <| nz <| nH <| W.new0 <| rt hp [0] ⟨(.iface 63 (.int .i64 1)), ([] : FP), rfl, rfl, (ErO.mk _ : ErO 63 106 108 (GErr.code 1) (.iface 63 (.int .i64 1)) [])⟩
  · refine sk ag rfl <| nv fun bC al => ch mix [bx o 35 [v2]] (nq 0 rfl ns) <| hv 0 rfl (lAG (ds := [v2]) oZ 0 rfl rfl rfl rfl) Ag rfl <| hv 1 rfl (fa oR rfl) Ag rfl <| hv 2 rfl (lbG s33 0 rfl rfl rfl) Ag rfl <| hv 3 rfl mv Ag rfl <| hi 4 rfl u33 i41 n hp rfl rfl rfl Ag rfl ?_
    rintro a bD bG _ hp ⟨c, b, rfl, k, g⟩ am
    refine hv 5 rfl (lR (ds := [.int .i64 a.params, .int .i64 a.result, c, b]) n8 srcInH am 0 rfl rfl rfl) Ag rfl <| hv 6 rfl (n9 (vs := [(0, .agg #[v2]), (1, .agg #[.int .i64 a.params, .int .i64 a.result, c, b])]) (ds := [v2, .int .i64 a.params, .int .i64 a.result, c, b]) rfl (fun w => by kernel_rfl)) Ag rfl <| ho 7 rfl Ag fun bH an => tb [v2, .int .i64 a.params, .int .i64 a.result, c, b] rfl rfl fun d => hk an (nq 1 rfl ns) <| hv 8 rfl sg Ag rfl <| hz Ag <| tg al <| nv fun bI ao => nB <| sr <| tm rfl <| tv (nE rfl) rfl <| tv (fa pW rfl) rfl <| tv (lA (ds := [.int .i64 a.params, .int .i64 a.result, c, b]) n8 0 rfl rfl rfl rfl) rfl <| bE hp fun bJ hy16 hp => tc 0 [_,_] rfl c84 (fun _ => wk (a1 := a) (k.mono nw) (g.mono nw) hy16) rfl ?_
    rintro _ _ ⟨rfl, rfl⟩
    refine tv (oI rfl) rfl <| ta rfl <| nz <| cB rfl hp (fun ap hp => ?_) fun ap hp => ?_
    · exact sr <| tv (mI u63 rfl) rfl <| ta rfl <| nz <| nH <| W.new0 <| rt hp [0] ⟨(.iface 63 (.int .i64 5)), ([] : FP), rfl, rfl, (ErO.mk _ : ErO 63 106 108 (GErr.code 5) (.iface 63 (.int .i64 5)) [])⟩
    · refine sr <| tm rfl <| tv (nE rfl) rfl <| tv (fa pW rfl) rfl <| tv (lA (ds := [.int .i64 a.params, .int .i64 a.result, c, b]) n8 0 rfl rfl rfl rfl) rfl <| bE hp fun bK hy19 hp => tc 0 [_,_] rfl c85 (fun _ => wo (a1 := a) (k.mono nw) (g.mono nw) hy19) rfl ?_
      rintro _ _ ⟨rfl, rfl⟩
      refine tv (oI rfl) rfl <| ta rfl <| nz <| cB rfl hp (fun aq hp => ?_) fun aq hp => ?_
      · exact sr <| tv (mI u63 rfl) rfl <| ta rfl <| nz <| nH <| W.new0 <| rt hp [0] ⟨(.iface 63 (.int .i64 3)), ([] : FP), rfl, rfl, (ErO.mk _ : ErO 63 106 108 (GErr.code 3) (.iface 63 (.int .i64 3)) [])⟩
      · refine sk ao rfl <| nv fun ar au => sr <| tm rfl <| tv (nE rfl) rfl <| tv (fa pW rfl) rfl <| tv (fa oa rfl) rfl <| tv (lb s39 0 rfl rfl rfl) rfl <| tv (ln u39 g rfl) rfl <| tm rfl <| nz <| nB <| bE hp fun av aw B => ?_
        have ax {ay} (az : .go () = av) : ∀ w, St E H [bx d 145 [v2, .int .i64 a.params, .int .i64 a.result, c, b]] w → ar (ovr ay [(5, .pointer (some ⟨d, 0, none⟩))]) w := by
         subst az
         replace hp : ox.nx29 a1 a = some r := B
         refine tg au <| nv fun aA aB => sr <| tm rfl <| tv (nE rfl) rfl <| tv (fa pW rfl) rfl <| tv (lA (ds := [.int .i64 a.params, .int .i64 a.result, c, b]) n8 0 rfl rfl rfl rfl) rfl <| bE hp fun l hy33 hp => tc 0 [_] rfl c27 (fun _ => qu (a1 := a) (k.mono nw) (g.mono nw) hy33) rfl ?_
         rintro _ _ ⟨p, q, rfl, rfl, C⟩
         refine tv (ln u73 C.ro rfl) rfl <| tm rfl <| nz <| nB <| bE hp fun aC aD D => ?_
         have aE {aF} (aG : .go () = aC) : ∀ w, St E H [bx d 145 [v2, .int .i64 a.params, .int .i64 a.result, c, b]] w → aA (ovr aF [(5, .pointer (some ⟨d, 0, none⟩))]) w := by
          subst aG
          replace hp : ox.nx40 a1 a = some r := D
          refine tg aB <| nv fun aH aI => sr <| tm rfl <| tv (nE rfl) rfl <| tv (fa pW rfl) rfl <| tv (fa oa rfl) rfl <| tv (lb s39 0 rfl rfl rfl) rfl <| tv (ln u39 g rfl) rfl <| tm rfl <| nz <| nB <| bE hp fun aJ aK F => ?_
          have aL {aM} (aN : .go () = aJ) : ∀ w, St E H [] w → aH (ovr aM []) w := by
           subst aN
           replace hp : ox.nx49 = some r := F
           exact tg aI <| sr <| ta rfl <| nz <| nH <| W.new0 <| rt hp [0] ⟨.nilIface, ([] : FP), rfl, rfl, (ErO.nil : ErO 63 106 108 GErr.no .nilIface [])⟩
          refine lp aK [0] rfl (fun s e L => ∃ G, e = ovr G [(5, .pointer (some ⟨d, 0, none⟩)), (107, b), (108, .int .i64 (len a.blocks)), (109, .int .i64 s)] ∧ L = [bx d 145 [v2, .int .i64 a.params, .int .i64 a.result, c, b]]) ⟨_, nC _ _ rfl, rfl⟩ ?_
          rintro aO _ _ ⟨G, rfl, rfl⟩ aP hp I
          replace hp : ox.bd49 a1 a aO = some aP := hp
          refine sr <| tv (blt rfl rfl) rfl <| nz <| nv fun bL aQ => cD rfl hp (fun aR hp => ?_) fun aR hp => ?_
          · refine sk aQ rfl <| nv fun bM aS => nB <| sr <| ti u39 i50 g hp rfl rfl rfl rfl ?_
            rintro i bN bO _ hp ⟨t, u, x, rfl, J, K, M⟩ aT
            refine tv (lR (ds := [t, u, .int .i64 i.term.kind, .int .i64 i.term.arg, x]) oY sH aT 0 rfl rfl rfl) rfl <| tl i50 rfl fun bP => tS 0 m50 rfl rfl [t, u, .int .i64 i.term.kind, .int .i64 i.term.arg, x] rfl (oc (J).one (oc (K).one (oc rfl (oc rfl (oc (M).one oc0))))) rfl rfl <| nz <| sr <| tm rfl <| tv (lA (ds := [t, u, .int .i64 i.term.kind, .int .i64 i.term.arg, x]) oY 0 rfl rfl rfl rfl) rfl <| bE hp fun bQ hy59 hp => tc 0 [_,_] rfl c87 (fun _ => wE (a2 := (⟨(⟨a1.funcs⟩ : nR), (⟨a.params, a.result, a.regs, a.blocks⟩ : ny)⟩ : oh)) (a11 := i) ((pi d 145 _).mono (subB 1 rfl)) (n.mono nw) (k.mono nw) (g.mono nw) (J.mono nw) (K.mono nw) (M.mono nw) hy59) rfl ?_
            rintro _ _ ⟨aU, aV, rfl, rfl, N⟩
            refine ta rfl <| nz <| sr <| tm rfl <| tv (pw pc N rfl) rfl <| nz <| cD rfl hp (fun aW hp => ?_) fun aW hp => ?_
            · refine sr <| tm rfl <| ta rfl <| nz <| nH ?_
              obtain rfl := nK hp I
              exact rt F [0] ⟨aU, aV, rfl, rfl, N⟩
            · exact sk aS rfl <| nF <| tv (bad rfl rfl) rfl <| tm rfl <| nl <| gk hp [2] ⟨_, nC _ _ rfl, rfl⟩
          · exact nN <| jn [] (aL (nK hp I))
         refine lp aD [1, 0] rfl (fun s e L => ∃ O, e = ovr O [(5, .pointer (some ⟨d, 0, none⟩)), (73, p), (74, .int .i64 (len l)), (75, .int .i64 s)] ∧ L = [bx d 145 [v2, .int .i64 a.params, .int .i64 a.result, c, b], q]) ⟨_, nC _ _ rfl, rfl⟩ ?_
         rintro m _ _ ⟨O, rfl, rfl⟩ P hp Q
         replace hp : ox.bd40 a l m = some P := hp
         refine sr <| tv (blt rfl rfl) rfl <| nz <| nv fun bR aX => cD rfl hp (fun aY hp => ?_) fun aY hp => ?_
         · refine sk aX rfl <| nv fun aZ a0 => nB <| sr <| tm rfl <| ti u73 i25 (C).ro hp rfl rfl rfl rfl ?_
           rintro a3 bS bU _ hp ⟨a5, rfl, a7⟩ a8
           refine tv (lr s25 (Src.at_ 1 rfl) a8 0 rfl rfl) rfl <| ta rfl <| ta rfl <| nz <| sr <| tm rfl <| tv (nE rfl) rfl <| tv (fa pW rfl) rfl <| tv (fa oa rfl) rfl <| tv (lb s39 0 rfl rfl rfl) rfl <| tm rfl <| ti u39 i50 g hp rfl rfl rfl rfl ?_
           rintro S bV bW _ hp ⟨a9, bX, bY, rfl, T, bZ, b0⟩ ba
           refine tv (fa oE rfl) rfl <| tv (lr s47 sH ba 0 rfl rfl) rfl <| tv (ln u47 T rfl) rfl <| tm rfl <| nz <| nB <| bE hp fun bb bc U => ?_
           have be {bf} (bg : .go () = bb) : ∀ w, St E H [bx d 145 [v2, .int .i64 a.params, .int .i64 a.result, c, b], q] w → aZ (ovr bf [(5, .pointer (some ⟨d, 0, none⟩)), (73, p), (74, .int .i64 (len l)), (75, .int .i64 m)]) w := by
            subst bg
            replace hp : ox.nx78 m = some P := U
            exact tg a0 <| nF <| tv (bad rfl rfl) rfl <| tm rfl <| nl <| gk hp [0, 1] ⟨_, nC _ _ rfl, rfl⟩
           refine lp bc [0, 1] rfl (fun s e L => ∃ V, e = ovr V [(5, .pointer (some ⟨d, 0, none⟩)), (9, a5), (73, p), (74, .int .i64 (len l)), (75, .int .i64 m), (88, a9), (89, .int .i64 (len S.phis)), (90, .int .i64 s)] ∧ L = [bx d 145 [v2, .int .i64 a.params, .int .i64 a.result, c, b], q]) ⟨_, nC _ _ rfl, rfl⟩ ?_
           rintro bh _ _ ⟨V, rfl, rfl⟩ bi hp X
           replace hp : ox.bd78 a3 S bh = some bi := hp
           refine sr <| tv (blt rfl rfl) rfl <| nz <| nv fun b1 bj => cD rfl hp (fun bk hp => ?_) fun bk hp => ?_
           · refine sk bj rfl <| nv fun b2 bl => nB <| sr <| ti u47 i70 T hp rfl rfl rfl rfl ?_
             rintro Y b3 b4 _ hp ⟨Z, rfl, aa⟩ bm
             refine tv (lR (ds := [.int .i64 Y.dst, Z]) p8 sH bm 0 rfl rfl rfl) rfl <| tl i70 rfl fun b5 => tS 0 m70 rfl rfl [.int .i64 Y.dst, Z] rfl (oc rfl (oc (aa).one oc0)) rfl rfl <| nz <| sr <| tv (fa py rfl) rfl <| tv (lb s25 0 rfl rfl rfl) rfl <| tv (ln u25 aa rfl) rfl <| tm rfl <| tv (ln u25 a7 rfl) rfl <| tv (bne rfl rfl) rfl <| nz <| cD rfl hp (fun bn hp => ?_) fun bn hp => ?_
             · refine sr <| tv (mI u63 rfl) rfl <| ta rfl <| nz <| nH <| W.new0 ?_
               obtain rfl := nK hp X
               obtain rfl := nK U Q
               exact rt D [0] ⟨(.iface 63 (.int .i64 6)), ([] : FP), rfl, rfl, (ErO.mk _ : ErO 63 106 108 (GErr.code 6) (.iface 63 (.int .i64 6)) [])⟩
             · exact sk bl rfl <| nF <| tv (bad rfl rfl) rfl <| tm rfl <| nl <| gk hp [1, 2] ⟨_, nC _ _ rfl, rfl⟩
           · exact nN <| jn [0, 1] (be (nK hp X))
         · exact nN <| jn [0] (aE (nK hp Q))
        refine lp aw [0] rfl (fun s e L => ∃ ab, e = ovr ab [(5, .pointer (some ⟨d, 0, none⟩)), (53, b), (54, .int .i64 (len a.blocks)), (55, .int .i64 s)] ∧ L = [bx d 145 [v2, .int .i64 a.params, .int .i64 a.result, c, b]]) ⟨_, nC _ _ rfl, rfl⟩ ?_
        rintro bo _ _ ⟨ab, rfl, rfl⟩ bp hp ac
        replace hp : ox.bd29 a bo = some bp := hp
        refine sr <| tv (blt rfl rfl) rfl <| nz <| nv fun b6 bq => cD rfl hp (fun br hp => ?_) fun br hp => ?_
        · refine sk bq rfl <| nv fun b7 bs => nB <| sr <| ti u39 i50 g hp rfl rfl rfl rfl ?_
          rintro j b8 b9 _ hp ⟨ad, ae, y, rfl, bt, bu, af⟩ bv
          refine tv (lR (ds := [ad, ae, .int .i64 j.term.kind, .int .i64 j.term.arg, y]) oY sH bv 0 rfl rfl rfl) rfl <| tl i50 rfl fun ca => tS 0 m50 rfl rfl [ad, ae, .int .i64 j.term.kind, .int .i64 j.term.arg, y] rfl (oc (bt).one (oc (bu).one (oc rfl (oc rfl (oc (af).one oc0))))) rfl rfl <| nz <| nv fun cb bw => cq mix Ag <| qv mv rfl <| qv (nE rfl) rfl <| qv (fa pW rfl) rfl <| qv (lA (ds := [.int .i64 a.params, .int .i64 a.result, c, b]) n8 1 rfl rfl rfl rfl) rfl <| qv (fa oQ rfl) rfl <| qv (lA (ds := [.int .i64 j.term.kind, .int .i64 j.term.arg, y]) qB 0 rfl rfl rfl rfl) rfl <| bE hp fun bz hy103 hp => qc (.bool bz) c86 (fun _ => wq (a1 := a) (a6 := j.term) (k.mono nw) (g.mono nw) (af.mono nw) hy103) (fun _ _ h => ⟨h.1.symm, h.2⟩) rfl <| qv (oI rfl) rfl <| QL.nil <| tg bw <| cB rfl hp (fun bA hp => ?_) fun bA hp => ?_
          · refine sr <| tv (mI u63 rfl) rfl <| ta rfl <| nz <| nH <| W.new0 ?_
            obtain rfl := nK hp ac
            exact rt B [0] ⟨(.iface 63 (.int .i64 6)), ([] : FP), rfl, rfl, (ErO.mk _ : ErO 63 106 108 (GErr.code 6) (.iface 63 (.int .i64 6)) [])⟩
          · exact sk bs rfl <| nF <| tv (bad rfl rfl) rfl <| tm rfl <| nl <| gk hp [1] ⟨_, nC _ _ rfl, rfl⟩
        · exact nN <| jn [0] (ax (nK hp ac))
 by_cases f : a4 < 0
 · exact gn rfl (bT f) rfl rfl <| gn rfl (bT f) rfl rfl <| gn rfl (bT f) rfl rfl <| gn rfl (bT f) rfl rfl <| gn rfl (bT f) rfl rfl <| tv (pT (bT f)) rfl <| nj z (bOt f)
 · exact gy rfl (bF f) <| tm rfl <| gy rfl (bF f) <| tv (fa oR rfl) rfl <| gy rfl (bF f) <| tv (lb s33 0 rfl rfl rfl) rfl <| gy rfl (bF f) <| tv (ln u33 n rfl) rfl <| gy rfl (bF f) <| tv (bge rfl rfl) rfl <| tv (pF (bF f)) rfl <| nj z (bOf f)
/-! ### fettle/check.Module -/
abbrev pB.R (r : GErr) (v : Value) (A : List FP) : Prop := ∃ (w1 : Value) (a : FP), w1 = v ∧ A = [a] ∧ ErO 63 106 108 r w1 a
def pB.nx11  : Option GErr :=
  some GErr.no
def pB.bd11 (a1 : nR) (a : Int) : Option (Ex (Ex GErr Unit) Int) :=
  if a < (len a1.funcs) then
    (ox a1 a).bind fun b =>
    if ¬ b = GErr.no then
      some (.ret (.ret (GErr.spot a b)))
    else
      some (.go (w64 (a + 1)))
  else
    some (.ret (.go ()))
def pB (a1 : nR) : Option GErr :=
  if (len a1.funcs) > 32 then
    some (GErr.code 5)
  else
    (whl (fun (s : Int) => pB.bd11 a1 s) nD 0).bind fun z =>
    match z with
      | .ret r => some r
      | .go p => pB.nx11
theorem sK {E : World} {H : FP} {w : World} {a1 : nR} {v2 : Value} {r : GErr} (c : SlI ou H a1.funcs v2) (hp : pB a1 = some r) (hst : St E H [] w) :
    Fn Try.prog 47 #[.agg #[v2]] w fun v w' => ∃ A, pB.R r v A ∧ St E H A w' := by
 refine fb 27 [.tmp 2] Try.func47 rfl rfl rfl rfl rfl hst <| sr <| tb [v2] rfl rfl fun g => ta rfl <| nz <| nv fun F k => sr <| tv (fa oR rfl) rfl <| tv (lb s33 0 rfl rfl rfl) rfl <| tv (ln u33 c rfl) rfl <| tv (bgt rfl rfl) rfl <| nz <| cD rfl hp (fun l hp => ?_) fun l hp => ?_
 · exact sr <| tv (mI u63 rfl) rfl <| ta rfl <| nz <| nH <| W.new0 <| rt hp [0] ⟨(.iface 63 (.int .i64 5)), ([] : FP), rfl, rfl, (ErO.mk _ : ErO 63 106 108 (GErr.code 5) (.iface 63 (.int .i64 5)) [])⟩
 · refine sk k rfl <| nv fun m n => sr <| tv (fa oR rfl) rfl <| tv (lb s33 0 rfl rfl rfl) rfl <| tv (ln u33 c rfl) rfl <| tm rfl <| nz <| nB <| bE hp fun o p h => ?_
   have q {t} (u : .go () = o) : ∀ w, St E H [] w → m (ovr t []) w := by
    subst u
    replace hp : pB.nx11 = some r := h
    exact tg n <| sr <| ta rfl <| nz <| nH <| W.new0 <| rt hp [0] ⟨.nilIface, ([] : FP), rfl, rfl, (ErO.nil : ErO 63 106 108 GErr.no .nilIface [])⟩
   refine lp p [0] rfl (fun s e L => ∃ i, e = ovr i [(1, .pointer (some ⟨g, 0, none⟩)), (12, .int .i64 (len a1.funcs)), (13, .int .i64 s)] ∧ L = [bx g 35 [v2]]) ⟨_, nC _ _ rfl, rfl⟩ ?_
   rintro a _ _ ⟨i, rfl, rfl⟩ x hp j
   replace hp : pB.bd11 a1 a = some x := hp
   refine sr <| tv (blt rfl rfl) rfl <| nz <| nv fun G y => cD rfl hp (fun z hp => ?_) fun z hp => ?_
   · refine sk y rfl <| nv fun I B => nB <| sr <| tm rfl <| ta rfl <| nz <| sr <| tv (lA (ds := [v2]) oZ 0 rfl rfl rfl rfl) rfl <| tm rfl <| bE hp fun J hy20 hp => tc 0 [_] rfl c72 (fun _ => wF (a1 := a1) (a4 := a) (c.mono nw) hy20) rfl ?_
     rintro _ _ ⟨b, C, rfl, rfl, d⟩
     refine ta rfl <| nz <| sr <| tm rfl <| tv (pw pc d rfl) rfl <| nz <| cD rfl hp (fun D hp => ?_) fun D hp => ?_
     · refine sr <| tm rfl <| tm rfl <| tv (n9 (vs := [(0, .int .i64 a), (1, b)]) (ds := [.int .i64 a, b]) rfl (fun w => by rcases (d).shp with rfl | ⟨_, _, rfl⟩ <;> kernel_rfl)) rfl <| tb [.int .i64 a, b] rfl rfl fun f => tv (mI u106 rfl) rfl <| tf 0 2 [_,_] rfl <| ta rfl <| nz <| nH ?_
       obtain rfl := nK hp j
       exact rt h [0] ⟨(.iface 106 (.pointer (some ⟨f, 0, none⟩))), (bx f 108 [.int .i64 a, b] ++ (C)), rfl, rfl, (ErO.at_ a f d)⟩
     · exact sk B rfl <| nF <| tv (bad rfl rfl) rfl <| tm rfl <| nl <| gk hp [1] ⟨_, nC _ _ rfl, rfl⟩
   · exact nN <| jn [] (q (nK hp j))
/-! ### fettle/graph.Next -/
abbrev oO.R (r : List (List Int)) (v : Value) (A : List FP) : Prop := ∃ (w1 : Value) (a : FP), w1 = v ∧ A = [a] ∧ SlO 25 (kSl 3 (nt .i64)) r w1 a
def oO.nx9  (a : List (List Int)) : Option (List (List Int)) :=
  some a
def oO.nx24 (a : Int) (b : List (List Int)) : Option (Ex (List (List Int)) (List (List Int) × Int)) :=
  some (.go (b, (w64 (a + 1))))
def oO.jn34 (a : Int) (b : List (List Int)) : Option (Ex (List (List Int)) (List (List Int) × Int)) :=
  some (.go (b, (w64 (a + 1))))
def oO.bd24 (d : Int) (e : nA) (a : List (List Int)) (b : Int) : Option (Ex (List (List Int)) (List (List Int) × Int)) :=
  if b < (len e.term.to) then
    (idx e.term.to b).bind fun c =>
    (if c ≥ 0 ∧ c < (len a) then (idx a d).bind fun f =>
    (qE f c).bind fun g =>
    some (!g) else some false).bind fun h =>
    if h = true then
      (idx a d).bind fun i =>
      (cat i [c]).bind fun j =>
      oO.jn34 b (a.set (d).toNat j)
    else
      oO.jn34 b a
  else
    some (.ret a)
def oO.bd9 (a1 : ny) (b : List (List Int)) (a : Int) : Option (Ex (List (List Int)) (List (List Int) × Int)) :=
  if a < (len a1.blocks) then
    (idx a1.blocks a).bind fun c =>
    (whl (fun (s : (List (List Int) × Int)) => oO.bd24 a c s.1 s.2) nD (b, 0)).bind fun z =>
    oO.nx24 a z
  else
    some (.ret b)
def oO (a1 : ny) : Option (List (List Int)) :=
  (mkl (len a1.blocks) ([] : List Int)).bind fun a =>
  (whl (fun (s : (List (List Int) × Int)) => oO.bd9 a1 s.1 s.2) nD (a, 0)).bind fun z =>
  oO.nx9 z
set_option maxHeartbeats 4000000 in
theorem rJ {E : World} {H : FP} {w : World} {a1 : ny} {v2 : Value} {g : Value} {r : List (List Int)} (aW : SlI (nt .i64) H a1.regs v2) (u : SlI nY H a1.blocks g) (hp : oO a1 = some r) (hst : St E H [] w) :
    Fn Try.prog 58 #[.agg #[.int .i64 a1.params, .int .i64 a1.result, v2, g]] w fun v w' => ∃ A, oO.R r v A ∧ St E H A w' := by
 refine fb 58 [.tmp 2] Try.func58 rfl rfl rfl rfl rfl hst <| sr <| tb [.int .i64 a1.params, .int .i64 a1.result, v2, g] rfl rfl fun aX => ta rfl <| nz <| sr <| tv (fa oa rfl) rfl <| tv (lb s39 0 rfl rfl rfl) rfl <| tv (ln u39 u rfl) rfl <| tk (k := (kSl 3 (nt .i64))) u73 i25 hp ⟨_, rfl, SlO.nil 3⟩ rfl rfl rfl rfl rfl rfl fun aY d X Y hp => ta rfl <| nz <| nv fun Z aa => sr <| tv (fa oa rfl) rfl <| tv (lb s39 1 rfl rfl rfl) rfl <| tv (ln u39 u rfl) rfl <| tm rfl <| nz <| nB <| bE hp fun ab ac ad => ?_
 have ae {y z af} (ag : SlO 25 (kSl 3 (nt .i64)) y d z) (ah : y = ab) : ∀ w, St E H [z] w → Z (ovr af [(3, d)]) w := by
  subst ah
  replace hp : oO.nx9 y = some r := ad
  exact tg aa <| sr <| tm rfl <| ta rfl <| nz <| nH <| rt hp [0] ⟨d, z, rfl, rfl, ag⟩
 refine lp ac [0] rfl (fun s e L => ∃ p c q I, s = (p, c) ∧ SlO 25 (kSl 3 (nt .i64)) p d q ∧ e = ovr I [(3, d), (13, g), (14, .int .i64 (len a1.blocks)), (15, .int .i64 c)] ∧ L = [q]) ⟨_, _, X, _, rfl, Y, nC _ _ rfl, rfl⟩ ?_
 rintro _ _ _ ⟨p, c, q, I, rfl, J, rfl, rfl⟩ K hp ai
 replace hp : oO.bd9 a1 p c = some K := hp
 refine sr <| tv (blt rfl rfl) rfl <| nz <| nv fun aZ aj => cD rfl hp (fun ak hp => ?_) fun ak hp => ?_
 · refine sk aj rfl <| nv fun al am => nB <| sr <| tm rfl <| ti u39 i50 u hp rfl rfl rfl rfl ?_
   rintro h a0 a2 _ hp ⟨M, N, l, rfl, an, ao, B⟩ ap
   refine tv (lR (ds := [M, N, .int .i64 h.term.kind, .int .i64 h.term.arg, l]) oY sH ap 0 rfl rfl rfl) rfl <| tl i50 rfl fun a3 => ta rfl <| tS 0 m50 rfl rfl [M, N, .int .i64 h.term.kind, .int .i64 h.term.arg, l] rfl (oc (an).one (oc (ao).one (oc rfl (oc rfl (oc (B).one oc0))))) rfl rfl <| nz <| sr <| tv (fa oQ rfl) rfl <| tv (fa o8 rfl) rfl <| tv (lb s25 0 rfl rfl rfl) rfl <| tv (ln u25 B rfl) rfl <| tm rfl <| nz <| nB <| bE hp fun aq ar au => ?_
   have av {C D aw} (ax : SlO 25 (kSl 3 (nt .i64)) C d D) (ay : C = aq) : ∀ w, St E H [D] w → al (ovr aw [(3, d), (13, g), (14, .int .i64 (len a1.blocks)), (15, .int .i64 c)]) w := by
    subst ay
    replace hp : oO.nx24 c C = some K := au
    exact tg am <| nF <| tv (bad rfl rfl) rfl <| tm rfl <| nl <| gk hp [0] ⟨_, _, D, _, rfl, ax, nC _ _ rfl, rfl⟩
   refine lp ar [1] rfl (fun s e L => ∃ m j n O, s = (m, j) ∧ SlO 25 (kSl 3 (nt .i64)) m d n ∧ e = ovr O [(3, d), (4, .int .i64 c), (13, g), (14, .int .i64 (len a1.blocks)), (15, .int .i64 c), (22, l), (23, .int .i64 (len h.term.to)), (24, .int .i64 j)] ∧ L = [n]) ⟨_, _, q, _, rfl, J, nC _ _ rfl, rfl⟩ ?_
   rintro _ _ _ ⟨m, j, n, O, rfl, o, rfl, rfl⟩ P hp az
   replace hp : oO.bd24 c h m j = some P := hp
   refine sr <| tv (blt rfl rfl) rfl <| nz <| nv fun a5 aA => cD rfl hp (fun aB hp => ?_) fun aB hp => ?_
   · refine sk aA rfl <| nv fun aC aD => ?_
     have Q {S F aE} (aF : SlO 25 (kSl 3 (nt .i64)) S d F) (hp : oO.jn34 j S = some P) : ∀ w, St E H [F] w → aC (ovr aE [(3, d), (4, .int .i64 c), (13, g), (14, .int .i64 (len a1.blocks)), (15, .int .i64 c), (22, l), (23, .int .i64 (len h.term.to)), (24, .int .i64 j)]) w := by
      exact tg aD <| nF <| tv (bad rfl rfl) rfl <| tm rfl <| nl <| gk hp [0] ⟨_, _, F, _, rfl, aF, nC _ _ rfl, rfl⟩
     refine nB <| sr <| ti u25 i3 B hp rfl rfl rfl rfl ?_
     rintro i a6 a7 _ hp rfl aG
     refine tv (lr s3 sH aG 0 rfl rfl) rfl <| ta rfl <| nz <| sr <| tm rfl <| tv (bge rfl rfl) rfl <| tm rfl <| TL.cut 5 fun aH aI => ?_
     have T {aJ} : ∀ w, St E H [n] w → aH (ovr aJ [(35, .bool (decide (i ≥ 0 ∧ i < (len m)))), (3, d), (4, .int .i64 c), (7, .int .i64 i), (13, g), (14, .int .i64 (len a1.blocks)), (15, .int .i64 c), (22, l), (23, .int .i64 (len h.term.to)), (24, .int .i64 j)]) w := by
      refine tlg aI <| tm rfl <| bE hp fun aK ht50 hp => TL.cut 8 fun aL aM => ?_
      have U {aN} : ∀ w, St E H [n] w → aL (ovr aN [(44, .bool aK), (3, d), (4, .int .i64 c), (7, .int .i64 i), (13, g), (14, .int .i64 (len a1.blocks)), (15, .int .i64 c), (22, l), (23, .int .i64 (len h.term.to)), (24, .int .i64 j)]) w := by
       refine tlg aM <| nz <| cB rfl hp (fun aO hp => ?_) fun aO hp => ?_
       · refine nF <| tm rfl <| tm rfl <| tm rfl <| tm rfl <| bE hp fun a8 G hp => TL.open_ o G ?_
         rintro a9 _ ba bb t ⟨bc, rfl, aP⟩
         exact tv (pa u73 i25 rfl rfl (oM G).1 t) rfl <| tv (lr s25 (Src.at_ 0 rfl) (Hole.cells t) 0 rfl rfl) rfl <| tm rfl <| tbs [(0, .int .i64 i)] [.int .i64 i] u25 i3 Ag rfl rfl rfl rfl fun be => tp [2, 0, 1] [_,_,_] rfl rfl <| tf 2 0 [_,_,_,_] rfl <| tp2 u25 i3 aP hp (RepL.to (RepL.cons (k := (nt .i64)) (x := i) ⟨rfl, rfl⟩ RepL.nil) rfl) rfl rfl rfl rfl rfl rfl rfl rfl rfl fun aQ bf bg V hp => tv (pa u73 i25 rfl rfl (oM G).1 t) rfl <| tp [1, 0] [_,_] rfl rfl <| tsH t m25 0 rfl V.o1 rfl fun bh aR => nl <| W.shut (a := aQ) aR ⟨_, rfl, V⟩ fun bi aS => jn [0] (Q aS hp)
       · exact TC.skip <| jn [0] (Q o hp)
      refine ifE ht50 (fun b hp => ?_) fun b hp => ?_
      · refine gy rfl (bT b) <| tm rfl <| gy rfl (bT b) <| tm rfl <| gy rfl (bT b) <| ti u73 i25 (o).ro hp rfl rfl rfl rfl ?_
        rintro aT bj bk _ hp ⟨bl, rfl, aU⟩ aV
        refine gy rfl (bT b) <| tv (lr s25 (Src.at_ 0 rfl) aV 0 rfl rfl) rfl <| gy rfl (bT b) <| tm rfl <| gy rfl (bT b) <| bE hp fun bm hy52 hp => tc 0 [_] rfl c52 (fun _ => sJ (a1 := aT) (a4 := i) (aU.mono (subB 0 rfl)) hy52) rfl ?_
        rintro _ _ ⟨rfl, rfl⟩
        refine gy rfl (bT b) <| tv (oI rfl) rfl <| tv (pT (bT b)) rfl ?_
        obtain rfl := Option.some.inj hp
        exact nj U rfl
      · refine gn rfl (bF b) rfl rfl <| gn rfl (bF b) rfl rfl <| gn rfl (bF b) rfl rfl <| gn rfl (bF b) rfl rfl <| gn rfl (bF b) rfl rfl <| gn rfl (bF b) rfl rfl <| gn rfl (bF b) rfl rfl <| tv (pF (bF b)) rfl ?_
        obtain rfl := Option.some.inj hp
        exact nj U rfl
     by_cases f : i ≥ 0
     · exact gy rfl (bT f) <| tm rfl <| gy rfl (bT f) <| tm rfl <| gy rfl (bT f) <| tv (ln u73 o.ro rfl) rfl <| gy rfl (bT f) <| tv (blt rfl rfl) rfl <| tv (pT (bT f)) rfl <| nj T (bAt f)
     · exact gn rfl (bF f) rfl rfl <| gn rfl (bF f) rfl rfl <| gn rfl (bF f) rfl rfl <| gn rfl (bF f) rfl rfl <| tv (pF (bF f)) rfl <| nj T (bAf f)
   · exact nN <| jn [0] (av o (nK hp az))
 · exact nN <| jn [0] (ae J (nK hp ai))
/-! ### fettle/graph.order$1 -/
abbrev og.R (c : Nat) (d : Nat) (r : List Bool × List Int) (v : Value) (A : List FP) : Prop := ∃ (w1 : Value) (a : FP) (w2 : Value) (b : FP), .tuple #[] = v ∧ A = [bx c 58 [w1], a, bx d 25 [w2], b] ∧ SlO 4 kBool r.1 w1 a ∧ SlO 3 (nt .i64) r.2 w2 b
def og.nx10 (a1 : Int) (a : List Bool) (b : List Int) : Option (List Bool × List Int) :=
  (cat b [a1]).bind fun c =>
  some (a, c)
def og.jn21 (a : Int) (b : List Bool) (c : List Int) : Option (Ex (List Bool × List Int) (List Bool × List Int × Int)) :=
  some (.go (b, c, (w64 (a + 1))))
def og.bd10 (a9 : List (List Int)) (rec : Int → (List Bool) → (List (List Int)) → (List Int) → Option (List Bool × List Int)) (d : List Int) (a : List Bool) (c : List Int) (b : Int) : Option (Ex (List Bool × List Int) (List Bool × List Int × Int)) :=
  if b < (len d) then
    (idx d b).bind fun e =>
    (idx a e).bind fun g =>
    if (!g) = true then
      (rec e a a9 c).bind fun f =>
      og.jn21 b f.1 f.2
    else
      og.jn21 b a c
  else
    some (.ret (a, c))
def og.body (rec : Int → (List Bool) → (List (List Int)) → (List Int) → Option (List Bool × List Int)) (a1 : Int) (a3 : List Bool) (a9 : List (List Int)) (a18 : List Int) : Option (List Bool × List Int) :=
  (idx a3 a1).bind fun b =>
  (idx a9 a1).bind fun a =>
  (whl (fun (s : (List Bool × List Int × Int)) => og.bd10 a9 rec a s.1 s.2.1 s.2.2) nD ((a3.set (a1).toNat true), a18, 0)).bind fun z =>
  og.nx10 a1 z.1 z.2
set_option maxHeartbeats 4000000 in
theorem og.body_ok {rec : Int → (List Bool) → (List (List Int)) → (List Int) → Option (List Bool × List Int)} (hrec : ∀ (E : World) (H : FP) (w : World) (a1 : Int) (a3 : List Bool) (a9 : List (List Int)) (a18 : List Int) (b : Nat) (h : Value) (m : FP) (f : Nat) (g : Nat) (n : Value) (c : Nat) (d : Nat) (a : Nat) (i : Value) (j : FP) (r : List Bool × List Int) (t : SlO 4 kBool a3 h m) (u : n7 H f g [n]) (y : SlI (kSl 3 (nt .i64)) H a9 n) (z : n7 H c d [.func (.func 88) #[] #[.pointer (some ⟨b, 0, none⟩), .pointer (some ⟨f, g, none⟩), .pointer (some ⟨c, d, none⟩), .pointer (some ⟨a, 0, none⟩)]]) (T : SlO 3 (nt .i64) a18 i j), rec a1 a3 a9 a18 = some r → St E H [bx b 58 [h], m, bx a 25 [i], j] w →
    Fn Try.prog 88 #[.int .i64 a1, .pointer (some ⟨b, 0, none⟩), .pointer (some ⟨f, g, none⟩), .pointer (some ⟨c, d, none⟩), .pointer (some ⟨a, 0, none⟩)] w fun v w' => ∃ A, og.R b a r v A ∧ St E H A w')
    {E : World} {H : FP} {w : World} {a1 : Int} {a3 : List Bool} {a9 : List (List Int)} {a18 : List Int} {b : Nat} {h : Value} {m : FP} {f : Nat} {g : Nat} {n : Value} {c : Nat} {d : Nat} {a : Nat} {i : Value} {j : FP} {r : List Bool × List Int} (t : SlO 4 kBool a3 h m) (u : n7 H f g [n]) (y : SlI (kSl 3 (nt .i64)) H a9 n) (z : n7 H c d [.func (.func 88) #[] #[.pointer (some ⟨b, 0, none⟩), .pointer (some ⟨f, g, none⟩), .pointer (some ⟨c, d, none⟩), .pointer (some ⟨a, 0, none⟩)]]) (T : SlO 3 (nt .i64) a18 i j) (hp : og.body rec a1 a3 a9 a18 = some r) (hst : St E H [bx b 58 [h], m, bx a 25 [i], j] w) :
    Fn Try.prog 88 #[.int .i64 a1, .pointer (some ⟨b, 0, none⟩), .pointer (some ⟨f, g, none⟩), .pointer (some ⟨c, d, none⟩), .pointer (some ⟨a, 0, none⟩)] w fun v w' => ∃ A, og.R b a r v A ∧ St E H A w' := by
 refine fb 33 [] Try.func88 rfl rfl rfl rfl rfl hst <| sr <| tv (lb s58 0 rfl rfl rfl) rfl <| tm rfl <| tO u58 i4 t hp rfl rfl rfl rfl fun aK aL aM ae hp => tp [1, 0, 2, 3] [_,_,_,_] rfl rfl <| tE t ae m4 rfl ⟨rfl, rfl⟩ w1 fun af ag => nz <| nv fun ah ai => sr <| tv (lr s73 sH u 0 rfl rfl) rfl <| tm rfl <| ti u73 i25 y hp rfl rfl rfl rfl ?_
 rintro B aN aO _ hp ⟨U, rfl, V⟩ aj
 refine tv (lr s25 sH aj 0 rfl rfl) rfl <| tv (ln u25 V rfl) rfl <| tm rfl <| nz <| nB <| bE hp fun ak al am => ?_
 have an {C D F G W X ao} (ap : SlO 4 kBool C F G) (aq : SlO 3 (nt .i64) D W X) (ar : (C, D) = ak) : ∀ w, St E H [bx b 58 [F], G, bx a 25 [W], X] w → ah (ovr ao [(0, .int .i64 a1), (4, .pointer (some ⟨a, 0, none⟩))]) w := by
  subst ar
  replace hp : og.nx10 a1 C D = some r := am
  exact tg ai <| nF <| tv (lb s25 2 rfl rfl rfl) rfl <| tm rfl <| tbs [(0, .int .i64 a1)] [.int .i64 a1] u25 i3 Ag rfl rfl rfl rfl fun aP => tp [4, 0, 1, 2, 3] [_,_,_,_,_] rfl rfl <| tf 2 0 [_,_,_,_,_,_] rfl <| tp2 u25 i3 aq hp (RepL.to (RepL.cons (k := (nt .i64)) (x := a1) ⟨rfl, rfl⟩ RepL.nil) rfl) rfl rfl rfl rfl rfl rfl rfl rfl rfl fun aQ au av Y hp => ts 3 m25 rfl rfl Y.o1 rfl <| nl <| rt hp [1, 2, 3, 0] ⟨F, G, au, av, rfl, rfl, ap, Y⟩
 refine lp al [1, 0, 2, 3] rfl (fun s e L => ∃ o p l I J K M Z, s = (o, p, l) ∧ SlO 4 kBool o I J ∧ SlO 3 (nt .i64) p K M ∧ e = ovr Z [(0, .int .i64 a1), (1, .pointer (some ⟨b, 0, none⟩)), (3, .pointer (some ⟨c, d, none⟩)), (4, .pointer (some ⟨a, 0, none⟩)), (14, U), (15, .int .i64 (len B)), (16, .int .i64 l)] ∧ L = [bx b 58 [I], J, bx a 25 [K], M]) ⟨_, _, _, h, af, i, j, _, rfl, ag, T, nC _ _ rfl, rfl⟩ ?_
 rintro _ _ _ ⟨o, p, l, I, J, K, M, Z, rfl, q, N, rfl, rfl⟩ aa hp aw
 replace hp : og.bd10 a9 rec B o p l = some aa := hp
 refine sr <| tv (blt rfl rfl) rfl <| nz <| nv fun aR ax => cD rfl hp (fun ay hp => ?_) fun ay hp => ?_
 · refine sk ax rfl <| nv fun az aA => ?_
   have ab {ac ad O P Q S aB} (aC : SlO 4 kBool ac O P) (aD : SlO 3 (nt .i64) ad Q S) (hp : og.jn21 l ac ad = some aa) : ∀ w, St E H [bx b 58 [O], P, bx a 25 [Q], S] w → az (ovr aB [(0, .int .i64 a1), (1, .pointer (some ⟨b, 0, none⟩)), (3, .pointer (some ⟨c, d, none⟩)), (4, .pointer (some ⟨a, 0, none⟩)), (14, U), (15, .int .i64 (len B)), (16, .int .i64 l)]) w := by
    exact tg aA <| nF <| tv (bad rfl rfl) rfl <| tm rfl <| nl <| gk hp [0, 1, 2, 3] ⟨_, _, _, O, P, Q, S, _, rfl, aC, aD, nC _ _ rfl, rfl⟩
   refine nB <| sr <| ti u25 i3 V hp rfl rfl rfl rfl ?_
   rintro aE aS aT _ hp rfl aF
   refine tv (lr s3 sH aF 0 rfl rfl) rfl <| ta rfl <| nz <| sr <| tv (lb s58 0 rfl rfl rfl) rfl <| tm rfl <| ti u58 i4 (q).ro hp rfl rfl rfl rfl ?_
   rintro aU aV aW _ hp rfl aG
   refine tv (lr s4 (Src.at_ 1 rfl) aG 0 rfl rfl) rfl <| tv (oI rfl) rfl <| nz <| cB rfl hp (fun aH hp => ?_) fun aH hp => ?_
   · refine nF <| tv (lr s116 sH z 0 rfl rfl) rfl <| tm rfl <| bE hp fun aX hy25 hp => tcv 4 [] rfl c88 rfl (fun _ => hrec _ _ _ aE o a9 p _ _ _ _ _ _ _ _ _ _ _ _ q (u.mono nw) (y.mono nw) (z.mono nw) N hy25) rfl ?_
     rintro _ _ ⟨aY, aZ, a0, a2, rfl, rfl, aI, aJ⟩
     exact nl <| jn [0, 1, 2, 3] (ab aI aJ hp)
   · exact TC.skip <| jn [0, 1, 2, 3] (ab q N hp)
 · exact nN <| jn [0, 1, 2, 3] (an q N (nK hp aw))
def og.it : Nat → Int → (List Bool) → (List (List Int)) → (List Int) → Option (List Bool × List Int)
  | 0 => fun _ _ _ _ => none
  | n + 1 => og.body (og.it n)
set_option maxHeartbeats 4000000 in
theorem og.it_ok (n : Nat) : ∀ (E : World) (H : FP) (w : World) (a1 : Int) (a3 : List Bool) (a9 : List (List Int)) (a18 : List Int) (a : Nat) (g : Value) (h : FP) (c : Nat) (d : Nat) (i : Value) (e : Nat) (f : Nat) (b : Nat) (j : Value) (k : FP) (r : List Bool × List Int) (l : SlO 4 kBool a3 g h) (m : n7 H c d [i]) (o : SlI (kSl 3 (nt .i64)) H a9 i) (p : n7 H e f [.func (.func 88) #[] #[.pointer (some ⟨a, 0, none⟩), .pointer (some ⟨c, d, none⟩), .pointer (some ⟨e, f, none⟩), .pointer (some ⟨b, 0, none⟩)]]) (q : SlO 3 (nt .i64) a18 j k), og.it n a1 a3 a9 a18 = some r → St E H [bx a 58 [g], h, bx b 25 [j], k] w →
    Fn Try.prog 88 #[.int .i64 a1, .pointer (some ⟨a, 0, none⟩), .pointer (some ⟨c, d, none⟩), .pointer (some ⟨e, f, none⟩), .pointer (some ⟨b, 0, none⟩)] w fun v w' => ∃ A, og.R a b r v A ∧ St E H A w' := by
  induction n with
  | zero => intro E H w a1 a3 a9 a18 a g h c d i e f b j k r l m o p q hp; exact absurd hp (by simp [og.it])
  | succ n ih => intro E H w a1 a3 a9 a18 a g h c d i e f b j k r l m o p q hp hst; exact og.body_ok ih l m o p q hp hst
def og (a1 : Int) (a3 : List Bool) (a9 : List (List Int)) (a18 : List Int) : Option (List Bool × List Int) := og.it nD a1 a3 a9 a18
set_option maxHeartbeats 4000000 in
theorem wG {E : World} {H : FP} {w : World} {a1 : Int} {a3 : List Bool} {a9 : List (List Int)} {a18 : List Int} {a : Nat} {g : Value} {h : FP} {c : Nat} {d : Nat} {i : Value} {e : Nat} {f : Nat} {b : Nat} {j : Value} {k : FP} {r : List Bool × List Int} (l : SlO 4 kBool a3 g h) (m : n7 H c d [i]) (n : SlI (kSl 3 (nt .i64)) H a9 i) (o : n7 H e f [.func (.func 88) #[] #[.pointer (some ⟨a, 0, none⟩), .pointer (some ⟨c, d, none⟩), .pointer (some ⟨e, f, none⟩), .pointer (some ⟨b, 0, none⟩)]]) (p : SlO 3 (nt .i64) a18 j k) (hp : og a1 a3 a9 a18 = some r) (hst : St E H [bx a 58 [g], h, bx b 25 [j], k] w) :
    Fn Try.prog 88 #[.int .i64 a1, .pointer (some ⟨a, 0, none⟩), .pointer (some ⟨c, d, none⟩), .pointer (some ⟨e, f, none⟩), .pointer (some ⟨b, 0, none⟩)] w fun v w' => ∃ A, og.R a b r v A ∧ St E H A w' :=
  og.it_ok nD _ _ _ _ _ _ _ _ _ _ _ _ _ _ _ _ _ _ _ l m n o p hp hst
/-! ### slices.Reverse[[]int,int] -/
abbrev pq.R (v2 : Value) (r : List Int) (v : Value) (A : List FP) : Prop := ∃ (a : FP), .tuple #[] = v ∧ A = [a] ∧ SlO 3 (nt .i64) r v2 a
def pq.nx8  (a : List Int) : Option (List Int) :=
  some a
def pq.jn18 (a : Int) (b : Int) (c : List Int) : Option (Ex (List Int) (List Int × Int × Int)) :=
  some (.go (c, (w64 (a + 1)), (w64 (b - 1))))
def pq.bd8  (a : List Int) (b : Int) (c : Int) : Option (Ex (List Int) (List Int × Int × Int)) :=
  if b < c then
    (idx a c).bind fun d =>
    (idx a b).bind fun e =>
    (idx a b).bind fun f =>
    (idx (a.set (b).toNat d) c).bind fun g =>
    pq.jn18 b c ((a.set (b).toNat d).set (c).toNat e)
  else
    some (.ret a)
def pq (a1 : List Int) : Option (List Int) :=
  (whl (fun (s : (List Int × Int × Int)) => pq.bd8 s.1 s.2.1 s.2.2) nD (a1, 0, (w64 ((len a1) - 1)))).bind fun z =>
  pq.nx8 z
theorem wH {E : World} {H : FP} {w : World} {a1 : List Int} {v2 : Value} {g : FP} {r : List Int} (o : SlO 3 (nt .i64) a1 v2 g) (hp : pq a1 = some r) (hst : St E H [g] w) :
    Fn Try.prog 89 #[v2] w fun v w' => ∃ A, pq.R v2 r v A ∧ St E H A w' := by
 refine fb 28 [] Try.func89 rfl rfl rfl rfl rfl hst <| sr <| tm rfl <| tv (ln u25 o.ro rfl) rfl <| tv (bsu rfl rfl) rfl <| ta rfl <| ta rfl <| nz <| qf fun z B => nB <| bE hp fun C D F => ?_
 have G {h i I} (J : SlO 3 (nt .i64) h v2 i) (K : h = C) : ∀ w, St E H [i] w → z (ovr I []) w := by
  subst K
  replace hp : pq.nx8 h = some r := F
  exact viaK B <| rt hp [0] ⟨i, rfl, rfl, J⟩
 refine lp D [0] rfl (fun s e L => ∃ f b c j p, s = (f, b, c) ∧ SlO 3 (nt .i64) f v2 j ∧ e = ovr p [(0, v2), (2, .int .i64 b), (3, .int .i64 c)] ∧ L = [j]) ⟨_, _, _, g, _, rfl, o, nC _ _ rfl, rfl⟩ ?_
 rintro _ _ _ ⟨f, b, c, j, p, rfl, a, rfl, rfl⟩ q hp M
 replace hp : pq.bd8 f b c = some q := hp
 refine nv fun ak N => sr <| tm rfl <| tm rfl <| tv (blt rfl rfl) rfl <| nz <| cD rfl hp (fun O hp => ?_) fun O hp => ?_
 · refine sk N rfl <| nv fun P Q => ?_
   have t {u k S} (T : SlO 3 (nt .i64) u v2 k) (hp : pq.jn18 b c u = some q) : ∀ w, St E H [k] w → P (ovr S [(0, v2), (2, .int .i64 b), (3, .int .i64 c)]) w := by
    exact tg Q <| nF <| tm rfl <| tv (bad rfl rfl) rfl <| tm rfl <| tv (bsu rfl rfl) rfl <| ta rfl <| ta rfl <| nl <| gk hp [0] ⟨_, _, _, k, _, rfl, T, nC _ _ rfl, rfl⟩
   refine nB <| ch mix [] ns <| hv 0 rfl mv Ag rfl <| hv 1 rfl mv Ag rfl <| hv 2 rfl mv Ag rfl <| hv 3 rfl mv Ag rfl <| hv 4 rfl mv Ag rfl <| hv 5 rfl mv Ag rfl <| hi 6 rfl u25 i3 (a).ro hp rfl rfl rfl Ag rfl ?_
   rintro am an ao _ hp rfl x
   refine hv 8 rfl mv Ag rfl <| hv 9 rfl mv Ag rfl <| hi 10 rfl u25 i3 (a).ro hp rfl rfl rfl Ag rfl ?_
   rintro ap aq ar _ hp rfl y
   refine nT [7, 11] Ag (by simp) (nG ⟨_, rfl, fun au U => ?_⟩ (nG ⟨_, rfl, fun av V => ?_⟩ nU))
   · exact tv (lr s3 (Src.at_ 0 rfl) x 0 rfl rfl) rfl <| hk U ns <| ho 11 rfl Ag fun aw W => tv (lr s3 (Src.at_ 0 rfl) y 0 rfl rfl) rfl <| hk W ns <| hO 12 rfl u25 i3 a hp rfl rfl rfl Ag rfl fun X Y Z l hp => ho 13 rfl Ag fun ax aa => tE a l m3 rfl ⟨rfl, rfl⟩ w1 fun ab d => hk aa ns <| hO 14 rfl u25 i3 d hp rfl rfl rfl Ag rfl fun ac ad ae m hp => ho 15 rfl Ag fun ay af => tE d m m3 rfl ⟨rfl, rfl⟩ w1 fun ag n => hk af ns <| hz Ag <| jn [0] (t n hp)
   · exact tv (lr s3 (Src.at_ 0 rfl) y 0 rfl rfl) rfl <| hk V ns <| ho 7 rfl Ag fun az ah => tv (lr s3 (Src.at_ 0 rfl) x 0 rfl rfl) rfl <| hk ah ns <| hO 12 rfl u25 i3 a hp rfl rfl rfl Ag rfl fun X Y Z l hp => ho 13 rfl Ag fun aA ai => tE a l m3 rfl ⟨rfl, rfl⟩ w1 fun ab d => hk ai ns <| hO 14 rfl u25 i3 d hp rfl rfl rfl Ag rfl fun ac ad ae m hp => ho 15 rfl Ag fun aB aj => tE d m m3 rfl ⟨rfl, rfl⟩ w1 fun ag n => hk aj ns <| hz Ag <| jn [0] (t n hp)
 · exact nN <| jn [0] (G a (nK hp M))
/-! ### fettle/graph.order -/
abbrev pP.R (r : List Int × List Bool) (v : Value) (A : List FP) : Prop := ∃ (w1 : Value) (a : FP) (w2 : Value) (b : FP), .tuple #[w1, w2] = v ∧ A = [a, b] ∧ SlO 3 (nt .i64) r.1 w1 a ∧ SlO 4 kBool r.2 w2 b
def pP.jn7  (a : List Bool) (b : List Int) : Option (List Int × List Bool) :=
  (pq b).bind fun c =>
  some (c, a)
def pP (a1 : ny) : Option (List Int × List Bool) :=
  (oO a1).bind fun a =>
  (mkl (len a) false).bind fun b =>
  if (len a) > 0 then
    (og 0 b a ([] : List Int)).bind fun c =>
    pP.jn7 c.1 c.2
  else
    pP.jn7 b ([] : List Int)
theorem tY {E : World} {H : FP} {w : World} {a1 : ny} {v2 : Value} {a : Value} {r : List Int × List Bool} (n : SlI (nt .i64) H a1.regs v2) (o : SlI nY H a1.blocks a) (hp : pP a1 = some r) (hst : St E H [] w) :
    Fn Try.prog 73 #[.agg #[.int .i64 a1.params, .int .i64 a1.result, v2, a]] w fun v w' => ∃ A, pP.R r v A ∧ St E H A w' := by
 refine fb 23 [.tmp 2, .tmp 3] Try.func73 rfl rfl rfl rfl rfl hst <| sr <| tb [.int .i64 a1.params, .int .i64 a1.result, v2, a] rfl rfl fun K => ta rfl <| ta rfl <| nz <| sr <| tv (lA (ds := [.int .i64 a1.params, .int .i64 a1.result, v2, a]) n8 0 rfl rfl rfl rfl) rfl <| bE hp fun p hy1 hp => tc 0 [_] rfl c58 (fun _ => rJ (a1 := a1) (n.mono nw) (o.mono nw) hy1) rfl ?_
 rintro _ _ ⟨L, M, rfl, rfl, b⟩
 refine tl i73 rfl fun q => ts 0 m73 rfl rfl b.o1 rfl <| nz <| sr <| tv (lb s73 0 rfl rfl rfl) rfl <| tv (ln u73 b.ro rfl) rfl <| tk (k := kBool) u58 i4 hp ⟨rfl, rfl⟩ rfl rfl rfl rfl rfl rfl fun s N O c hp => tl i58 rfl fun h => ts 0 m58 rfl rfl c.o1 rfl <| nz <| sr <| tl i25 rfl fun i => nz <| sr <| tl i116 rfl fun t => nz <| sr <| tv mF rfl <| ts 0 m116 rfl rfl w1 rfl <| nz <| nv fun u x => ?_
 have j {l d e f g m y} (z : SlO 4 kBool l e f) (B : SlO 3 (nt .i64) d g m) (hp : pP.jn7 l d = some r) : ∀ w, St E H [bx h 58 [e], f, bx i 25 [g], m] w → u (ovr y [(5, .pointer (some ⟨h, 0, none⟩)), (6, .pointer (some ⟨i, 0, none⟩))]) w := by
  refine tg x <| sr <| tv (lb s25 2 rfl rfl rfl) rfl <| tp [3, 0, 1, 2] [_,_,_,_] rfl rfl <| bE hp fun P hy8 hp => tc 1 [_,_,_] rfl c89 (fun _ => wH (a1 := d) B hy8) rfl ?_
  rintro _ _ ⟨C, rfl, rfl, D⟩
  exact nz <| nv fun Q F => cq mix Ag <| qv (lb s25 3 rfl rfl rfl) rfl <| qv (lb s58 1 rfl rfl rfl) rfl <| qv sg rfl <| qv sg rfl <| QL.nil <| tg F <| nH <| rt hp [0, 2] ⟨g, C, e, f, rfl, rfl, D, z⟩
 refine sr <| tv (lb s73 4 rfl rfl rfl) rfl <| tv (ln u73 b.ro rfl) rfl <| tv (bgt rfl rfl) rfl <| nz <| cD rfl hp (fun G hp => ?_) fun G hp => ?_
 · refine nF <| tv (lb s116 0 rfl rfl rfl) rfl <| TL.new0 <| tp [3, 4, 2, 0, 1, 5, 6, 7] [_,_,_,_,_,_,_,_] rfl rfl <| bE hp fun S hy13 hp => tcv 4 [_,_,_,_] rfl c88 rfl (fun _ => wG (a1 := 0) (a3 := s) (a9 := p) (a18 := ([] : List Int)) c ((pi q 73 _).mono (subB 1 rfl)) (b.ro.mono (subB 2 rfl)) ((pi t 116 _).mono (subB 0 rfl)) (SlO.nil 3) hy13) rfl ?_
   rintro _ _ ⟨T, U, V, X, rfl, rfl, I, J⟩
   exact nl <| jn [0, 1, 2, 3] (j I J hp)
 · exact TC.skip <| W.new0 <| jn [3, 4, 2, 0] (j c (SlO.nil 3) hp)
/-! ### fettle/graph.Reached -/
abbrev ql.R (r : List Bool) (v : Value) (A : List FP) : Prop := ∃ (w1 : Value) (a : FP), w1 = v ∧ A = [a] ∧ SlO 4 kBool r w1 a
def ql (a1 : ny) : Option (List Bool) :=
  (pP a1).bind fun a =>
  some a.2
theorem sd {E : World} {H : FP} {w : World} {a1 : ny} {v2 : Value} {a : Value} {r : List Bool} (b : SlI (nt .i64) H a1.regs v2) (c : SlI nY H a1.blocks a) (hp : ql a1 = some r) (hst : St E H [] w) :
    Fn Try.prog 48 #[.agg #[.int .i64 a1.params, .int .i64 a1.result, v2, a]] w fun v w' => ∃ A, ql.R r v A ∧ St E H A w' := by
 refine fb 11 [.tmp 2] Try.func48 rfl rfl rfl rfl rfl hst <| sr <| tb [.int .i64 a1.params, .int .i64 a1.result, v2, a] rfl rfl fun g => ta rfl <| nz <| sr <| tv (lA (ds := [.int .i64 a1.params, .int .i64 a1.result, v2, a]) n8 0 rfl rfl rfl rfl) rfl <| bE hp fun h hy1 hp => tc 0 [_] rfl c73 (fun _ => tY (a1 := a1) (b.mono nw) (c.mono nw) hy1) rfl ?_
 rintro _ _ ⟨i, j, d, e, rfl, rfl, k, f⟩
 exact tm rfl <| tv (xt rfl rfl) rfl <| tv (xt rfl rfl) rfl <| ta rfl <| ta rfl <| nz <| sr <| tm rfl <| ta rfl <| nz <| nH <| rt hp [1] ⟨d, e, rfl, rfl, f⟩
/-! ### fettle/proper.made$1 -/
abbrev p9.R (c : Nat) (d : Nat) (r : List PMaker × List Int) (v : Value) (A : List FP) : Prop := ∃ (w1 : Value) (a : FP) (w2 : Value) (b : FP), .tuple #[] = v ∧ A = [bx c 103 [w1], a, bx d 25 [w2], b] ∧ SlO 133 kMaker r.1 w1 a ∧ SlO 3 (nt .i64) r.2 w2 b
def p9.jn12 (a1 : Int) (a11 : List Int) (a : List PMaker) : Option (List PMaker × List Int) :=
  (idx a11 a1).bind fun b =>
  (idx a11 a1).bind fun c =>
  some (a, (a11.set (a1).toNat (w64 (b + 1))))
def p9 (a1 : Int) (a2 : Int) (a3 : Int) (a5 : List PMaker) (a11 : List Int) : Option (List PMaker × List Int) :=
  if a1 < 0 ∨ a1 ≥ (len a5) then
    some (a5, a11)
  else
    (idx a11 a1).bind fun a =>
    if a = 0 then
      (idx a5 a1).bind fun b =>
      p9.jn12 a1 a11 (a5.set (a1).toNat (⟨a2, a3⟩ : PMaker))
    else
      p9.jn12 a1 a11 a5
theorem tZ {E : World} {H : FP} {w : World} {a1 : Int} {a2 : Int} {a3 : Int} {a5 : List PMaker} {a11 : List Int} {e : Nat} {c : Value} {j : FP} {d : Nat} {f : Value} {g : FP} {r : List PMaker × List Int} (h : SlO 133 kMaker a5 c j) (i : SlO 3 (nt .i64) a11 f g) (hp : p9 a1 a2 a3 a5 a11 = some r) (hst : St E H [bx e 103 [c], j, bx d 25 [f], g] w) :
    Fn Try.prog 74 #[.int .i64 a1, .int .i64 a2, .int .i64 a3, .pointer (some ⟨e, 0, none⟩), .pointer (some ⟨d, 0, none⟩)] w fun v w' => ∃ A, p9.R e d r v A ∧ St E H A w' := by
 refine fb 33 [] Try.func74 rfl rfl rfl rfl rfl hst <| nv fun M o => sr <| tm rfl <| tv (blt rfl rfl) rfl <| tm rfl <| TL.cut 5 fun p q => ?_
 have l {s} : ∀ w, St E H [bx e 103 [c], j, bx d 25 [f], g] w → p (ovr s [(15, .bool (decide (a1 < 0 ∨ a1 ≥ (len a5)))), (0, .int .i64 a1), (1, .int .i64 a2), (2, .int .i64 a3), (3, .pointer (some ⟨e, 0, none⟩)), (4, .pointer (some ⟨d, 0, none⟩))]) w := by
  refine tlg q <| nz <| cD rfl hp (fun t hp => ?_) fun t hp => ?_
  · exact nH <| rt hp [0, 1, 2, 3] ⟨c, j, f, g, rfl, rfl, h, i⟩
  · refine sk o rfl <| nv fun x y => ?_
    have m {n k z} (B : SlO 133 kMaker n c k) (hp : p9.jn12 a1 a11 n = some r) : ∀ w, St E H [bx e 103 [c], k, bx d 25 [f], g] w → x (ovr z [(0, .int .i64 a1), (4, .pointer (some ⟨d, 0, none⟩))]) w := by
     refine tg y <| nF <| tv (lb s25 2 rfl rfl rfl) rfl <| tm rfl <| ti u25 i3 (i).ro hp rfl rfl rfl rfl ?_
     rintro N O P _ hp rfl C
     exact tv (lr s3 (Src.at_ 3 rfl) C 0 rfl rfl) rfl <| tv (bad rfl rfl) rfl <| tO u25 i3 i hp rfl rfl rfl rfl fun Q S T D hp => tp [3, 0, 1, 2] [_,_,_,_] rfl rfl <| tE i D m3 rfl ⟨rfl, rfl⟩ w1 fun F G => nl <| rt hp [1, 2, 3, 0] ⟨c, k, f, F, rfl, rfl, B, G⟩
    refine sr <| tv (lb s25 2 rfl rfl rfl) rfl <| tm rfl <| ti u25 i3 (i).ro hp rfl rfl rfl rfl ?_
    rintro U V W _ hp rfl I
    refine tv (lr s3 (Src.at_ 3 rfl) I 0 rfl rfl) rfl <| tv (beq rfl rfl) rfl <| nz <| cD rfl hp (fun J hp => ?_) fun J hp => ?_
    · exact nF <| tv (lb s103 0 rfl rfl rfl) rfl <| tm rfl <| tm rfl <| tm rfl <| tv (n9 (vs := [(0, .int .i64 a2), (1, .int .i64 a3)]) (ds := [.int .i64 a2, .int .i64 a3]) rfl (fun w => by kernel_rfl)) rfl <| tO u103 i133 h hp rfl rfl rfl rfl fun X Y Z K hp => tp [1, 0, 2, 3] [_,_,_,_] rfl rfl <| TL.stE0 (ds := [.int .i64 a2, .int .i64 a3]) (u := .agg #[.int .i64 a2, .int .i64 a3]) (a := (⟨a2, a3⟩ : PMaker)) h K m133 rfl rfl rfl ⟨rfl, rfl⟩ fun aa L => nl <| jn [1, 0, 2, 3] (m L hp)
    · exact TC.skip <| jn [0, 1, 2, 3] (m h hp)
 by_cases b : a1 < 0
 · exact gn rfl (bT b) rfl rfl <| gn rfl (bT b) rfl rfl <| gn rfl (bT b) rfl rfl <| gn rfl (bT b) rfl rfl <| tv (pT (bT b)) rfl <| nj l (bOt b)
 · exact gy rfl (bF b) <| tm rfl <| gy rfl (bF b) <| tv (lb s103 0 rfl rfl rfl) rfl <| gy rfl (bF b) <| tv (ln u103 h.ro rfl) rfl <| gy rfl (bF b) <| tv (bge rfl rfl) rfl <| tv (pF (bF b)) rfl <| nj l (bOf b)
end
section
/-! ### fettle/proper.made -/
abbrev oo.R (r : List PMaker × List Int) (v : Value) (A : List FP) : Prop := ∃ (w1 : Value) (a : FP) (w2 : Value) (b : FP), .tuple #[w1, w2] = v ∧ A = [a, b] ∧ SlO 133 kMaker r.1 w1 a ∧ SlO 3 (nt .i64) r.2 w2 b
def oo.nx21  (a : List PMaker) (b : List Int) : Option (List PMaker × List Int) :=
  some (a, b)
def oo.nx47 (a : Int) (b : List PMaker) (c : List Int) : Option (Ex (List PMaker × List Int) (List PMaker × List Int × Int)) :=
  some (.go (b, c, (w64 (a + 1))))
def oo.bd47 (f : Int) (b : nA) (c : List PMaker) (d : List Int) (a : Int) : Option (Ex (List PMaker × List Int) (List PMaker × List Int × Int)) :=
  if a < (len b.ins) then
    (idx b.ins a).bind fun g =>
    (p9 g.dst f a c d).bind fun e =>
    some (.go (e.1, e.2, (w64 (a + 1))))
  else
    some (.ret (c, d))
def oo.nx40 (a : Int) (b : nA) (c : List PMaker) (d : List Int) : Option (Ex (List PMaker × List Int) (List PMaker × List Int × Int)) :=
  (whl (fun (s : (List PMaker × List Int × Int)) => oo.bd47 a b s.1 s.2.1 s.2.2) nD (c, d, 0)).bind fun z =>
  oo.nx47 a z.1 z.2
def oo.bd40 (f : Int) (b : nA) (c : List PMaker) (d : List Int) (a : Int) : Option (Ex (List PMaker × List Int) (List PMaker × List Int × Int)) :=
  if a < (len b.phis) then
    (idx b.phis a).bind fun g =>
    (p9 g.dst f (-1) c d).bind fun e =>
    some (.go (e.1, e.2, (w64 (a + 1))))
  else
    some (.ret (c, d))
def oo.bd21 (a1 : ny) (b : List PMaker) (c : List Int) (a : Int) : Option (Ex (List PMaker × List Int) (List PMaker × List Int × Int)) :=
  if a < (len a1.blocks) then
    (idx a1.blocks a).bind fun d =>
    (whl (fun (s : (List PMaker × List Int × Int)) => oo.bd40 a d s.1 s.2.1 s.2.2) nD (b, c, 0)).bind fun z =>
    oo.nx40 a d z.1 z.2
  else
    some (.ret (b, c))
def oo.nx12 (a1 : ny) (a : List Int) (b : List PMaker) : Option (List PMaker × List Int) :=
  (whl (fun (s : (List PMaker × List Int × Int)) => oo.bd21 a1 s.1 s.2.1 s.2.2) nD (b, a, 0)).bind fun z =>
  oo.nx21 z.1 z.2
def oo.bd12 (c : List PMaker) (b : List PMaker) (a : Int) : Option (Ex (List PMaker) (List PMaker × Int)) :=
  if a < (len c) then
    (idx b a).bind fun d =>
    some (.go ((b.set (a).toNat (⟨-1, -2⟩ : PMaker)), (w64 (a + 1))))
  else
    some (.ret b)
def oo.jn4 (a1 : ny) (a : List PMaker) (b : List Int) : Option (List PMaker × List Int) :=
  (whl (fun (s : (List PMaker × Int)) => oo.bd12 a s.1 s.2) nD (a, 0)).bind fun z =>
  oo.nx12 a1 b z
def oo (a1 : ny) : Option (List PMaker × List Int) :=
  (mkl (len a1.regs) PMaker.zero).bind fun a =>
  (mkl (len a1.regs) (0 : Int)).bind fun b =>
  oo.jn4 a1 a b
set_option maxHeartbeats 4000000 in
theorem wI {E : World} {H : FP} {w : World} {a1 : ny} {v2 : Value} {x : Value} {r : List PMaker × List Int} (aO : SlI (nt .i64) H a1.regs v2) (aP : SlI nY H a1.blocks x) (hp : oo a1 = some r) (hst : St E H [] w) :
    Fn Try.prog 49 #[.agg #[.int .i64 a1.params, .int .i64 a1.result, v2, x]] w fun v w' => ∃ A, oo.R r v A ∧ St E H A w' := by
 refine fb 72 [.tmp 2, .tmp 3] Try.func49 rfl rfl rfl rfl rfl hst <| sr <| tb [.int .i64 a1.params, .int .i64 a1.result, v2, x] rfl rfl fun z => ta rfl <| ta rfl <| nz <| nv fun a7 a8 => ?_
 have d {O ab f B ac g C D a9} (aQ : SlO 133 kMaker O B ac) (ba : SlO 3 (nt .i64) ab C D) (hp : oo.jn4 a1 O ab = some r) : ∀ w, St E H [bx z 41 [.int .i64 a1.params, .int .i64 a1.result, v2, x], bx f 103 [B], ac, bx g 25 [C], D] w → a7 (ovr a9 [(1, .pointer (some ⟨z, 0, none⟩)), (4, .pointer (some ⟨f, 0, none⟩)), (5, .pointer (some ⟨g, 0, none⟩))]) w := by
  refine tg a8 <| nv fun bb bc => sr <| tv (lb s103 1 rfl rfl rfl) rfl <| tv (ln u103 aQ.ro rfl) rfl <| tm rfl <| nz <| nB <| bE hp fun be bf bg => ?_
  have bh {ad ae bi} (bj : SlO 133 kMaker ad B ae) (bk : ad = be) : ∀ w, St E H [bx z 41 [.int .i64 a1.params, .int .i64 a1.result, v2, x], bx f 103 [B], ae, bx g 25 [C], D] w → bb (ovr bi [(1, .pointer (some ⟨z, 0, none⟩)), (4, .pointer (some ⟨f, 0, none⟩)), (5, .pointer (some ⟨g, 0, none⟩))]) w := by
   subst bk
   replace hp : oo.nx12 a1 ab ad = some r := bg
   refine tg bc <| sr <| tv mF rfl <| ta rfl <| nz <| nv fun bl bm => sr <| tv (fa oa rfl) rfl <| tv (lb s39 0 rfl rfl rfl) rfl <| tv (ln u39 aP rfl) rfl <| tm rfl <| nz <| nB <| bE hp fun bn bo bp => ?_
   have bq {af ag ah ai aj ak br} (bs : SlO 133 kMaker af ah ai) (bt : SlO 3 (nt .i64) ag aj ak) (bu : (af, ag) = bn) : ∀ w, St E H [bx f 103 [ah], ai, bx g 25 [aj], ak] w → bl (ovr br [(4, .pointer (some ⟨f, 0, none⟩)), (5, .pointer (some ⟨g, 0, none⟩))]) w := by
    subst bu
    replace hp : oo.nx21 af ag = some r := bp
    exact tg bm <| nv fun eH bv => cq mix Ag <| qv (lb s103 0 rfl rfl rfl) rfl <| qv (lb s25 2 rfl rfl rfl) rfl <| qv sg rfl <| qv sg rfl <| QL.nil <| tg bv <| nH <| rt hp [1, 3] ⟨ah, ai, aj, ak, rfl, rfl, bs, bt⟩
   refine lp bo [1, 2, 3, 4] rfl (fun s e L => ∃ P Q l S T U V aR, s = (P, Q, l) ∧ SlO 133 kMaker P S T ∧ SlO 3 (nt .i64) Q U V ∧ e = ovr aR [(4, .pointer (some ⟨f, 0, none⟩)), (5, .pointer (some ⟨g, 0, none⟩)), (7, .func (.func 74) #[] #[.pointer (some ⟨f, 0, none⟩), .pointer (some ⟨g, 0, none⟩)]), (34, x), (35, .int .i64 (len a1.blocks)), (36, .int .i64 l)] ∧ L = [bx f 103 [S], T, bx g 25 [U], V]) ⟨_, _, _, B, ae, C, D, _, rfl, bj, ba, nC _ _ rfl, rfl⟩ ?_
   rintro _ _ _ ⟨P, Q, l, S, T, U, V, aR, rfl, aS, aT, rfl, rfl⟩ am hp bw
   replace hp : oo.bd21 a1 P Q l = some am := hp
   refine sr <| tv (blt rfl rfl) rfl <| nz <| nv fun eI bz => cD rfl hp (fun bA hp => ?_) fun bA hp => ?_
   · refine sk bz rfl <| nv fun bB bC => nB <| sr <| tm rfl <| ti u39 i50 aP hp rfl rfl rfl rfl ?_
     rintro t eJ eK _ hp ⟨F, G, W, rfl, an, ao, bD⟩ bF
     refine tv (lR (ds := [F, G, .int .i64 t.term.kind, .int .i64 t.term.arg, W]) oY sH bF 0 rfl rfl rfl) rfl <| tl i50 rfl fun X => ta rfl <| tS 0 m50 rfl rfl [F, G, .int .i64 t.term.kind, .int .i64 t.term.arg, W] rfl (oc (an).one (oc (ao).one (oc rfl (oc rfl (oc (bD).one oc0))))) rfl rfl <| nz <| nv fun bG bH => sr <| tv (fa oE rfl) rfl <| tv (lb s47 0 rfl rfl rfl) rfl <| tv (ln u47 an rfl) rfl <| tm rfl <| nz <| nB <| bE hp fun bI bJ bK => ?_
     have bL {ap aq ar au av aw bM} (bN : SlO 133 kMaker ap ar au) (bO : SlO 3 (nt .i64) aq av aw) (bP : (ap, aq) = bI) : ∀ w, St E H [bx f 103 [ar], au, bx g 25 [av], aw, bx X 50 [F, G, .int .i64 t.term.kind, .int .i64 t.term.arg, W]] w → bG (ovr bM [(4, .pointer (some ⟨f, 0, none⟩)), (5, .pointer (some ⟨g, 0, none⟩)), (7, .func (.func 74) #[] #[.pointer (some ⟨f, 0, none⟩), .pointer (some ⟨g, 0, none⟩)]), (8, .int .i64 l), (9, .pointer (some ⟨X, 0, none⟩)), (34, x), (35, .int .i64 (len a1.blocks)), (36, .int .i64 l)]) w := by
      subst bP
      replace hp : oo.nx40 l t ap aq = some am := bK
      refine tg bH <| sr <| tv (fa oB rfl) rfl <| tv (lb s48 4 rfl rfl rfl) rfl <| tv (ln u48 ao rfl) rfl <| tm rfl <| nz <| nB <| bE hp fun bQ bR bS => ?_
      have bT {ax ay az aA aB aC bU} (bV : SlO 133 kMaker ax az aA) (bW : SlO 3 (nt .i64) ay aB aC) (bX : (ax, ay) = bQ) : ∀ w, St E H [bx f 103 [az], aA, bx g 25 [aB], aC] w → bB (ovr bU [(4, .pointer (some ⟨f, 0, none⟩)), (5, .pointer (some ⟨g, 0, none⟩)), (7, .func (.func 74) #[] #[.pointer (some ⟨f, 0, none⟩), .pointer (some ⟨g, 0, none⟩)]), (34, x), (35, .int .i64 (len a1.blocks)), (36, .int .i64 l)]) w := by
       subst bX
       replace hp : oo.nx47 l ax ay = some am := bS
       exact tg bC <| nF <| tv (bad rfl rfl) rfl <| tm rfl <| nl <| gk hp [0, 1, 2, 3] ⟨_, _, _, az, aA, aB, aC, _, rfl, bV, bW, nC _ _ rfl, rfl⟩
      refine lp bR [0, 1, 2, 3] rfl (fun s e L => ∃ I J K aD aE aF aG aU, s = (I, J, K) ∧ SlO 133 kMaker I aD aE ∧ SlO 3 (nt .i64) J aF aG ∧ e = ovr aU [(4, .pointer (some ⟨f, 0, none⟩)), (5, .pointer (some ⟨g, 0, none⟩)), (7, .func (.func 74) #[] #[.pointer (some ⟨f, 0, none⟩), .pointer (some ⟨g, 0, none⟩)]), (8, .int .i64 l), (34, x), (35, .int .i64 (len a1.blocks)), (36, .int .i64 l), (55, G), (56, .int .i64 (len t.ins)), (57, .int .i64 K)] ∧ L = [bx f 103 [aD], aE, bx g 25 [aF], aG]) ⟨_, _, _, ar, au, av, aw, _, rfl, bN, bO, nC _ _ rfl, rfl⟩ ?_
      rintro _ _ _ ⟨I, J, K, aD, aE, aF, aG, aU, rfl, aV, aW, rfl, rfl⟩ bY hp bZ
      replace hp : oo.bd47 l t I J K = some bY := hp
      refine sr <| tv (blt rfl rfl) rfl <| nz <| nv fun eL b0 => cD rfl hp (fun b1 hp => ?_) fun b1 hp => ?_
      · refine sk b0 rfl <| nv fun eM b2 => nB <| sr <| tm rfl <| ti u48 i52 ao hp rfl rfl rfl rfl ?_
        rintro y eN eO _ hp ⟨aX, rfl, b3⟩ b4
        refine tv (lR (ds := [.int .i64 y.op, .int .i64 y.dst, aX, .int .i64 y.imm, .int .i64 y.fn]) o5 sH b4 0 rfl rfl rfl) rfl <| tl i52 rfl fun eP => ta rfl <| tS 0 m52 rfl rfl [.int .i64 y.op, .int .i64 y.dst, aX, .int .i64 y.imm, .int .i64 y.fn] rfl (oc rfl (oc rfl (oc (b3).one (oc rfl (oc rfl oc0))))) rfl rfl <| nz <| nF <| tm rfl <| tv (fa pd rfl) rfl <| tv (lb s3 0 rfl rfl rfl) rfl <| tm rfl <| tm rfl <| tp [1, 2, 3, 4, 0] [_,_,_,_,_] rfl rfl <| bE hp fun eQ hy57 hp => tcv 4 [_] rfl c74 rfl (fun _ => tZ (a1 := y.dst) (a2 := l) (a3 := K) (a5 := I) (a11 := J) aV aW hy57) rfl ?_
        rintro _ _ ⟨b5, b6, b7, b8, rfl, rfl, b9, ca⟩
        exact nl <| tg b2 <| nF <| tv (bad rfl rfl) rfl <| tm rfl <| nl <| gk hp [0, 1, 2, 3] ⟨_, _, _, b5, b6, b7, b8, _, rfl, b9, ca, nC _ _ rfl, rfl⟩
      · exact nN <| jn [0, 1, 2, 3] (bT aV aW (nK hp bZ))
     refine lp bJ [1, 2, 3, 4, 0] rfl (fun s e L => ∃ M N Y aH aI aJ aK aY, s = (M, N, Y) ∧ SlO 133 kMaker M aH aI ∧ SlO 3 (nt .i64) N aJ aK ∧ e = ovr aY [(4, .pointer (some ⟨f, 0, none⟩)), (5, .pointer (some ⟨g, 0, none⟩)), (7, .func (.func 74) #[] #[.pointer (some ⟨f, 0, none⟩), .pointer (some ⟨g, 0, none⟩)]), (8, .int .i64 l), (9, .pointer (some ⟨X, 0, none⟩)), (34, x), (35, .int .i64 (len a1.blocks)), (36, .int .i64 l), (42, F), (43, .int .i64 (len t.phis)), (44, .int .i64 Y)] ∧ L = [bx f 103 [aH], aI, bx g 25 [aJ], aK, bx X 50 [F, G, .int .i64 t.term.kind, .int .i64 t.term.arg, W]]) ⟨_, _, _, S, T, U, V, _, rfl, aS, aT, nC _ _ rfl, rfl⟩ ?_
     rintro _ _ _ ⟨M, N, Y, aH, aI, aJ, aK, aY, rfl, aZ, a0, rfl, rfl⟩ cb hp cc
     replace hp : oo.bd40 l t M N Y = some cb := hp
     refine sr <| tv (blt rfl rfl) rfl <| nz <| nv fun eR cd => cD rfl hp (fun ce hp => ?_) fun ce hp => ?_
     · refine sk cd rfl <| nv fun eS cf => nB <| sr <| ti u47 i70 an hp rfl rfl rfl rfl ?_
       rintro aL eT eU _ hp ⟨a4, rfl, cg⟩ ci
       refine tv (lR (ds := [.int .i64 aL.dst, a4]) p8 sH ci 0 rfl rfl rfl) rfl <| tl i70 rfl fun eV => tS 0 m70 rfl rfl [.int .i64 aL.dst, a4] rfl (oc rfl (oc (cg).one oc0)) rfl rfl <| nz <| nF <| tm rfl <| tv (fa qd rfl) rfl <| tv (lb s3 0 rfl rfl rfl) rfl <| tm rfl <| tp [1, 2, 3, 4, 0, 5] [_,_,_,_,_,_] rfl rfl <| bE hp fun eW hy69 hp => tcv 4 [_,_] rfl c74 rfl (fun _ => tZ (a1 := aL.dst) (a2 := l) (a3 := -1) (a5 := M) (a11 := N) aZ a0 hy69) rfl ?_
       rintro _ _ ⟨cj, ck, cl, cm, rfl, rfl, cn, co⟩
       exact nl <| tg cf <| nF <| tv (bad rfl rfl) rfl <| tm rfl <| nl <| gk hp [0, 1, 2, 3, 5] ⟨_, _, _, cj, ck, cl, cm, _, rfl, cn, co, nC _ _ rfl, rfl⟩
     · exact nN <| jn [0, 1, 2, 3, 4] (bL aZ a0 (nK hp cc))
   · exact nN <| jn [0, 1, 2, 3] (bq aS aT (nK hp bw))
  refine lp bf [0, 1, 2, 3, 4] rfl (fun s e L => ∃ Z aa aM a6, s = (Z, aa) ∧ SlO 133 kMaker Z B aM ∧ e = ovr a6 [(1, .pointer (some ⟨z, 0, none⟩)), (4, .pointer (some ⟨f, 0, none⟩)), (5, .pointer (some ⟨g, 0, none⟩)), (23, .int .i64 (len O)), (24, .int .i64 aa)] ∧ L = [bx z 41 [.int .i64 a1.params, .int .i64 a1.result, v2, x], bx f 103 [B], aM, bx g 25 [C], D]) ⟨_, _, ac, _, rfl, aQ, nC _ _ rfl, rfl⟩ ?_
  rintro _ _ _ ⟨Z, aa, aM, a6, rfl, aN, rfl, rfl⟩ cp hp cr
  replace hp : oo.bd12 O Z aa = some cp := hp
  refine sr <| tv (blt rfl rfl) rfl <| nz <| nv fun eX cs => cD rfl hp (fun ct hp => ?_) fun ct hp => ?_
  · exact sk cs rfl <| nv fun eY cu => nB <| sr <| tm rfl <| ta rfl <| nz <| nF <| tv (lb s103 1 rfl rfl rfl) rfl <| tm rfl <| tv (n9 (vs := [(0, .int .i64 (-1)), (1, .int .i64 (-2))]) (ds := [.int .i64 (-1), .int .i64 (-2)]) rfl (fun w => by kernel_rfl)) rfl <| tO u103 i133 aN hp rfl rfl rfl rfl fun eZ e0 e1 cv hp => tp [2, 0, 1, 3, 4] [_,_,_,_,_] rfl rfl <| TL.stE0 (ds := [.int .i64 (-1), .int .i64 (-2)]) (u := .agg #[.int .i64 (-1), .int .i64 (-2)]) (a := (⟨-1, -2⟩ : PMaker)) aN cv m133 rfl rfl rfl ⟨rfl, rfl⟩ fun cw cx => nl <| tg cu <| nF <| tv (bad rfl rfl) rfl <| tm rfl <| nl <| gk hp [1, 2, 0, 3, 4] ⟨_, _, cw, _, rfl, cx, nC _ _ rfl, rfl⟩
  · exact nN <| jn [0, 1, 2, 3, 4] (bh aN (nK hp cr))
 refine bE hp fun e2 m hp => bE hp fun e3 h hp => ch mix [bx z 41 [.int .i64 a1.params, .int .i64 a1.result, v2, x]] (nq 0 rfl ns) <| hv 0 rfl (fa o7 rfl) Ag rfl <| hv 1 rfl (lbG s25 0 rfl rfl rfl) Ag rfl <| hv 2 rfl (ln u25 aO rfl) Ag rfl <| hv 4 rfl (fa o7 rfl) Ag rfl <| hv 5 rfl (lbG s25 0 rfl rfl rfl) Ag rfl <| hv 6 rfl (ln u25 aO rfl) Ag rfl <| nT [3, 7, 8, 9] Ag (by simp) (nG ⟨_, rfl, fun e4 cy => ?_⟩ (nG ⟨_, rfl, fun e5 cz => ?_⟩ (nG ⟨_, rfl, fun e6 cA => ?_⟩ (nG ⟨_, rfl, fun e7 cB => ?_⟩ nU))))
 · refine tk0 (k := kMaker) u103 i133 m ⟨rfl, rfl⟩ rfl rfl rfl rfl rfl rfl fun n o c => hk cy (nq 1 rfl ns) <| nT [7, 8, 9] Ag (by simp) (nG ⟨_, rfl, fun e8 cC => ?_⟩ (nG ⟨_, rfl, fun e9 cE => ?_⟩ (nG ⟨_, rfl, fun fc cF => ?_⟩ nU)))
   · refine tk0 (k := (nt .i64)) u25 i3 h ⟨rfl, rfl⟩ rfl rfl rfl rfl rfl rfl fun i j b => hk cC (nq 2 rfl ns) <| nT [8, 9] Ag (by simp) (nG ⟨_, rfl, fun fd cG => ?_⟩ (nG ⟨_, rfl, fun fe cH => ?_⟩ nU))
     · exact tl i103 rfl fun p => hk cG (nq 3 rfl ns) <| ho 9 rfl Ag fun ff cI => tl i25 rfl fun q => hk cI (nq 4 rfl ns) <| ho 10 rfl Ag fun fg cJ => ts 1 m103 rfl rfl c.o1 rfl <| hk cJ (nq 4 rfl ns) <| ho 11 rfl Ag fun fh cK => ts 0 m25 rfl rfl b.o1 rfl <| hk cK (nq 4 rfl ns) <| hz Ag <| jn [4, 1, 3, 0, 2] (d c b hp)
     · exact tl i25 rfl fun q => hk cH (nq 3 rfl ns) <| ho 8 rfl Ag fun fi cL => tl i103 rfl fun p => hk cL (nq 4 rfl ns) <| ho 10 rfl Ag fun fj cM => ts 0 m103 rfl rfl c.o1 rfl <| hk cM (nq 4 rfl ns) <| ho 11 rfl Ag fun fk cN => ts 1 m25 rfl rfl b.o1 rfl <| hk cN (nq 4 rfl ns) <| hz Ag <| jn [4, 0, 3, 1, 2] (d c b hp)
   · refine tl i103 rfl fun p => hk cE (nq 2 rfl ns) <| nT [7, 9] Ag (by simp) (nG ⟨_, rfl, fun fl cO => ?_⟩ (nG ⟨_, rfl, fun fm cP => ?_⟩ nU))
     · exact tk0 (k := (nt .i64)) u25 i3 h ⟨rfl, rfl⟩ rfl rfl rfl rfl rfl rfl fun i j b => hk cO (nq 3 rfl ns) <| ho 9 rfl Ag fun fo cQ => tl i25 rfl fun q => hk cQ (nq 4 rfl ns) <| ho 10 rfl Ag fun fp cR => ts 2 m103 rfl rfl c.o1 rfl <| hk cR (nq 4 rfl ns) <| ho 11 rfl Ag fun fq cS => ts 0 m25 rfl rfl b.o1 rfl <| hk cS (nq 4 rfl ns) <| hz Ag <| jn [4, 2, 3, 0, 1] (d c b hp)
     · refine tl i25 rfl fun q => hk cP (nq 3 rfl ns) <| nT [7, 10] Ag (by simp) (nG ⟨_, rfl, fun fr cT => ?_⟩ (nG ⟨_, rfl, fun fs cU => ?_⟩ nU))
       · exact tk0 (k := (nt .i64)) u25 i3 h ⟨rfl, rfl⟩ rfl rfl rfl rfl rfl rfl fun i j b => hk cT (nq 4 rfl ns) <| ho 10 rfl Ag fun ft cV => ts 2 m103 rfl rfl c.o1 rfl <| hk cV (nq 4 rfl ns) <| ho 11 rfl Ag fun fu cW => ts 1 m25 rfl rfl b.o1 rfl <| hk cW (nq 4 rfl ns) <| hz Ag <| jn [4, 2, 3, 1, 0] (d c b hp)
       · exact ts 1 m103 rfl rfl c.o1 rfl <| hk cU (nq 3 rfl ns) <| ho 7 rfl Ag fun fv cX => tk0 (k := (nt .i64)) u25 i3 h ⟨rfl, rfl⟩ rfl rfl rfl rfl rfl rfl fun i j b => hk cX (nq 4 rfl ns) <| ho 11 rfl Ag fun fw cY => ts 1 m25 rfl rfl b.o1 rfl <| hk cY (nq 4 rfl ns) <| hz Ag <| jn [4, 2, 3, 1, 0] (d c b hp)
   · refine tl i25 rfl fun q => hk cF (nq 2 rfl ns) <| nT [7, 8] Ag (by simp) (nG ⟨_, rfl, fun fx cZ => ?_⟩ (nG ⟨_, rfl, fun fy c0 => ?_⟩ nU))
     · exact tk0 (k := (nt .i64)) u25 i3 h ⟨rfl, rfl⟩ rfl rfl rfl rfl rfl rfl fun i j b => hk cZ (nq 3 rfl ns) <| ho 8 rfl Ag fun fz c1 => tl i103 rfl fun p => hk c1 (nq 4 rfl ns) <| ho 10 rfl Ag fun fA c2 => ts 0 m103 rfl rfl c.o1 rfl <| hk c2 (nq 4 rfl ns) <| ho 11 rfl Ag fun fB c3 => ts 2 m25 rfl rfl b.o1 rfl <| hk c3 (nq 4 rfl ns) <| hz Ag <| jn [4, 0, 3, 2, 1] (d c b hp)
     · refine tl i103 rfl fun p => hk c0 (nq 3 rfl ns) <| nT [7, 10] Ag (by simp) (nG ⟨_, rfl, fun fC c4 => ?_⟩ (nG ⟨_, rfl, fun fD c5 => ?_⟩ nU))
       · exact tk0 (k := (nt .i64)) u25 i3 h ⟨rfl, rfl⟩ rfl rfl rfl rfl rfl rfl fun i j b => hk c4 (nq 4 rfl ns) <| ho 10 rfl Ag fun fE c6 => ts 1 m103 rfl rfl c.o1 rfl <| hk c6 (nq 4 rfl ns) <| ho 11 rfl Ag fun fF c7 => ts 2 m25 rfl rfl b.o1 rfl <| hk c7 (nq 4 rfl ns) <| hz Ag <| jn [4, 1, 3, 2, 0] (d c b hp)
       · exact ts 0 m103 rfl rfl c.o1 rfl <| hk c5 (nq 3 rfl ns) <| ho 7 rfl Ag fun fG c8 => tk0 (k := (nt .i64)) u25 i3 h ⟨rfl, rfl⟩ rfl rfl rfl rfl rfl rfl fun i j b => hk c8 (nq 4 rfl ns) <| ho 11 rfl Ag fun fH c9 => ts 2 m25 rfl rfl b.o1 rfl <| hk c9 (nq 4 rfl ns) <| hz Ag <| jn [4, 1, 3, 2, 0] (d c b hp)
 · refine tk0 (k := (nt .i64)) u25 i3 h ⟨rfl, rfl⟩ rfl rfl rfl rfl rfl rfl fun i j b => hk cz (nq 1 rfl ns) <| nT [3, 8, 9] Ag (by simp) (nG ⟨_, rfl, fun fI da => ?_⟩ (nG ⟨_, rfl, fun fJ db => ?_⟩ (nG ⟨_, rfl, fun fK dc => ?_⟩ nU)))
   · refine tk0 (k := kMaker) u103 i133 m ⟨rfl, rfl⟩ rfl rfl rfl rfl rfl rfl fun n o c => hk da (nq 2 rfl ns) <| nT [8, 9] Ag (by simp) (nG ⟨_, rfl, fun fL dd => ?_⟩ (nG ⟨_, rfl, fun fM de => ?_⟩ nU))
     · exact tl i103 rfl fun p => hk dd (nq 3 rfl ns) <| ho 9 rfl Ag fun fN df => tl i25 rfl fun q => hk df (nq 4 rfl ns) <| ho 10 rfl Ag fun fO dg => ts 1 m103 rfl rfl c.o1 rfl <| hk dg (nq 4 rfl ns) <| ho 11 rfl Ag fun fP dh => ts 0 m25 rfl rfl b.o1 rfl <| hk dh (nq 4 rfl ns) <| hz Ag <| jn [4, 1, 2, 0, 3] (d c b hp)
     · exact tl i25 rfl fun q => hk de (nq 3 rfl ns) <| ho 8 rfl Ag fun fQ di => tl i103 rfl fun p => hk di (nq 4 rfl ns) <| ho 10 rfl Ag fun fR dj => ts 0 m103 rfl rfl c.o1 rfl <| hk dj (nq 4 rfl ns) <| ho 11 rfl Ag fun fS dk => ts 1 m25 rfl rfl b.o1 rfl <| hk dk (nq 4 rfl ns) <| hz Ag <| jn [4, 0, 2, 1, 3] (d c b hp)
   · refine tl i103 rfl fun p => hk db (nq 2 rfl ns) <| nT [3, 9] Ag (by simp) (nG ⟨_, rfl, fun fT dl => ?_⟩ (nG ⟨_, rfl, fun fU dm => ?_⟩ nU))
     · exact tk0 (k := kMaker) u103 i133 m ⟨rfl, rfl⟩ rfl rfl rfl rfl rfl rfl fun n o c => hk dl (nq 3 rfl ns) <| ho 9 rfl Ag fun fV dn => tl i25 rfl fun q => hk dn (nq 4 rfl ns) <| ho 10 rfl Ag fun fW dp => ts 2 m103 rfl rfl c.o1 rfl <| hk dp (nq 4 rfl ns) <| ho 11 rfl Ag fun fX dq => ts 0 m25 rfl rfl b.o1 rfl <| hk dq (nq 4 rfl ns) <| hz Ag <| jn [4, 2, 1, 0, 3] (d c b hp)
     · exact tl i25 rfl fun q => hk dm (nq 3 rfl ns) <| ho 3 rfl Ag fun fY dr => tk0 (k := kMaker) u103 i133 m ⟨rfl, rfl⟩ rfl rfl rfl rfl rfl rfl fun n o c => hk dr (nq 4 rfl ns) <| ho 10 rfl Ag fun fZ dt => ts 2 m103 rfl rfl c.o1 rfl <| hk dt (nq 4 rfl ns) <| ho 11 rfl Ag fun f0 du => ts 1 m25 rfl rfl b.o1 rfl <| hk du (nq 4 rfl ns) <| hz Ag <| jn [4, 2, 0, 1, 3] (d c b hp)
   · refine tl i25 rfl fun q => hk dc (nq 2 rfl ns) <| nT [3, 8] Ag (by simp) (nG ⟨_, rfl, fun f1 dv => ?_⟩ (nG ⟨_, rfl, fun f2 dw => ?_⟩ nU))
     · exact tk0 (k := kMaker) u103 i133 m ⟨rfl, rfl⟩ rfl rfl rfl rfl rfl rfl fun n o c => hk dv (nq 3 rfl ns) <| ho 8 rfl Ag fun f3 dx => tl i103 rfl fun p => hk dx (nq 4 rfl ns) <| ho 10 rfl Ag fun f4 dy => ts 0 m103 rfl rfl c.o1 rfl <| hk dy (nq 4 rfl ns) <| ho 11 rfl Ag fun f5 dz => ts 2 m25 rfl rfl b.o1 rfl <| hk dz (nq 4 rfl ns) <| hz Ag <| jn [4, 0, 1, 2, 3] (d c b hp)
     · exact tl i103 rfl fun p => hk dw (nq 3 rfl ns) <| ho 3 rfl Ag fun f6 dA => tk0 (k := kMaker) u103 i133 m ⟨rfl, rfl⟩ rfl rfl rfl rfl rfl rfl fun n o c => hk dA (nq 4 rfl ns) <| ho 10 rfl Ag fun f7 dB => ts 1 m103 rfl rfl c.o1 rfl <| hk dB (nq 4 rfl ns) <| ho 11 rfl Ag fun f8 dC => ts 2 m25 rfl rfl b.o1 rfl <| hk dC (nq 4 rfl ns) <| hz Ag <| jn [4, 1, 0, 2, 3] (d c b hp)
 · refine tl i103 rfl fun p => hk cA (nq 1 rfl ns) <| nT [3, 7, 9] Ag (by simp) (nG ⟨_, rfl, fun f9 dD => ?_⟩ (nG ⟨_, rfl, fun ga dE => ?_⟩ (nG ⟨_, rfl, fun gb dF => ?_⟩ nU)))
   · refine tk0 (k := kMaker) u103 i133 m ⟨rfl, rfl⟩ rfl rfl rfl rfl rfl rfl fun n o c => hk dD (nq 2 rfl ns) <| nT [7, 9] Ag (by simp) (nG ⟨_, rfl, fun gc dG => ?_⟩ (nG ⟨_, rfl, fun gd dH => ?_⟩ nU))
     · exact tk0 (k := (nt .i64)) u25 i3 h ⟨rfl, rfl⟩ rfl rfl rfl rfl rfl rfl fun i j b => hk dG (nq 3 rfl ns) <| ho 9 rfl Ag fun ge dI => tl i25 rfl fun q => hk dI (nq 4 rfl ns) <| ho 10 rfl Ag fun gf dJ => ts 3 m103 rfl rfl c.o1 rfl <| hk dJ (nq 4 rfl ns) <| ho 11 rfl Ag fun gg dK => ts 0 m25 rfl rfl b.o1 rfl <| hk dK (nq 4 rfl ns) <| hz Ag <| jn [4, 3, 2, 0, 1] (d c b hp)
     · refine tl i25 rfl fun q => hk dH (nq 3 rfl ns) <| nT [7, 10] Ag (by simp) (nG ⟨_, rfl, fun gh dL => ?_⟩ (nG ⟨_, rfl, fun gi dM => ?_⟩ nU))
       · exact tk0 (k := (nt .i64)) u25 i3 h ⟨rfl, rfl⟩ rfl rfl rfl rfl rfl rfl fun i j b => hk dL (nq 4 rfl ns) <| ho 10 rfl Ag fun gj dN => ts 3 m103 rfl rfl c.o1 rfl <| hk dN (nq 4 rfl ns) <| ho 11 rfl Ag fun gl dO => ts 1 m25 rfl rfl b.o1 rfl <| hk dO (nq 4 rfl ns) <| hz Ag <| jn [4, 3, 2, 1, 0] (d c b hp)
       · exact ts 2 m103 rfl rfl c.o1 rfl <| hk dM (nq 3 rfl ns) <| ho 7 rfl Ag fun gm dP => tk0 (k := (nt .i64)) u25 i3 h ⟨rfl, rfl⟩ rfl rfl rfl rfl rfl rfl fun i j b => hk dP (nq 4 rfl ns) <| ho 11 rfl Ag fun gn dQ => ts 1 m25 rfl rfl b.o1 rfl <| hk dQ (nq 4 rfl ns) <| hz Ag <| jn [4, 3, 2, 1, 0] (d c b hp)
   · refine tk0 (k := (nt .i64)) u25 i3 h ⟨rfl, rfl⟩ rfl rfl rfl rfl rfl rfl fun i j b => hk dE (nq 2 rfl ns) <| nT [3, 9] Ag (by simp) (nG ⟨_, rfl, fun go dR => ?_⟩ (nG ⟨_, rfl, fun gp dS => ?_⟩ nU))
     · exact tk0 (k := kMaker) u103 i133 m ⟨rfl, rfl⟩ rfl rfl rfl rfl rfl rfl fun n o c => hk dR (nq 3 rfl ns) <| ho 9 rfl Ag fun gq dT => tl i25 rfl fun q => hk dT (nq 4 rfl ns) <| ho 10 rfl Ag fun gr dU => ts 3 m103 rfl rfl c.o1 rfl <| hk dU (nq 4 rfl ns) <| ho 11 rfl Ag fun gs dV => ts 0 m25 rfl rfl b.o1 rfl <| hk dV (nq 4 rfl ns) <| hz Ag <| jn [4, 3, 1, 0, 2] (d c b hp)
     · exact tl i25 rfl fun q => hk dS (nq 3 rfl ns) <| ho 3 rfl Ag fun gt dW => tk0 (k := kMaker) u103 i133 m ⟨rfl, rfl⟩ rfl rfl rfl rfl rfl rfl fun n o c => hk dW (nq 4 rfl ns) <| ho 10 rfl Ag fun gu dX => ts 3 m103 rfl rfl c.o1 rfl <| hk dX (nq 4 rfl ns) <| ho 11 rfl Ag fun gv dY => ts 1 m25 rfl rfl b.o1 rfl <| hk dY (nq 4 rfl ns) <| hz Ag <| jn [4, 3, 0, 1, 2] (d c b hp)
   · refine tl i25 rfl fun q => hk dF (nq 2 rfl ns) <| nT [3, 7] Ag (by simp) (nG ⟨_, rfl, fun gw dZ => ?_⟩ (nG ⟨_, rfl, fun gx d0 => ?_⟩ nU))
     · refine tk0 (k := kMaker) u103 i133 m ⟨rfl, rfl⟩ rfl rfl rfl rfl rfl rfl fun n o c => hk dZ (nq 3 rfl ns) <| nT [7, 10] Ag (by simp) (nG ⟨_, rfl, fun gy d1 => ?_⟩ (nG ⟨_, rfl, fun gz d2 => ?_⟩ nU))
       · exact tk0 (k := (nt .i64)) u25 i3 h ⟨rfl, rfl⟩ rfl rfl rfl rfl rfl rfl fun i j b => hk d1 (nq 4 rfl ns) <| ho 10 rfl Ag fun gA d3 => ts 3 m103 rfl rfl c.o1 rfl <| hk d3 (nq 4 rfl ns) <| ho 11 rfl Ag fun gB d4 => ts 2 m25 rfl rfl b.o1 rfl <| hk d4 (nq 4 rfl ns) <| hz Ag <| jn [4, 3, 1, 2, 0] (d c b hp)
       · exact ts 2 m103 rfl rfl c.o1 rfl <| hk d2 (nq 3 rfl ns) <| ho 7 rfl Ag fun gC d5 => tk0 (k := (nt .i64)) u25 i3 h ⟨rfl, rfl⟩ rfl rfl rfl rfl rfl rfl fun i j b => hk d5 (nq 4 rfl ns) <| ho 11 rfl Ag fun gD d6 => ts 2 m25 rfl rfl b.o1 rfl <| hk d6 (nq 4 rfl ns) <| hz Ag <| jn [4, 3, 1, 2, 0] (d c b hp)
     · exact tk0 (k := (nt .i64)) u25 i3 h ⟨rfl, rfl⟩ rfl rfl rfl rfl rfl rfl fun i j b => hk d0 (nq 3 rfl ns) <| ho 3 rfl Ag fun gE d7 => tk0 (k := kMaker) u103 i133 m ⟨rfl, rfl⟩ rfl rfl rfl rfl rfl rfl fun n o c => hk d7 (nq 4 rfl ns) <| ho 10 rfl Ag fun gF d8 => ts 3 m103 rfl rfl c.o1 rfl <| hk d8 (nq 4 rfl ns) <| ho 11 rfl Ag fun gG d9 => ts 2 m25 rfl rfl b.o1 rfl <| hk d9 (nq 4 rfl ns) <| hz Ag <| jn [4, 3, 0, 2, 1] (d c b hp)
 · refine tl i25 rfl fun q => hk cB (nq 1 rfl ns) <| nT [3, 7, 8] Ag (by simp) (nG ⟨_, rfl, fun gH ea => ?_⟩ (nG ⟨_, rfl, fun gI eb => ?_⟩ (nG ⟨_, rfl, fun gJ ec => ?_⟩ nU)))
   · refine tk0 (k := kMaker) u103 i133 m ⟨rfl, rfl⟩ rfl rfl rfl rfl rfl rfl fun n o c => hk ea (nq 2 rfl ns) <| nT [7, 8] Ag (by simp) (nG ⟨_, rfl, fun gK ed => ?_⟩ (nG ⟨_, rfl, fun gL ee => ?_⟩ nU))
     · exact tk0 (k := (nt .i64)) u25 i3 h ⟨rfl, rfl⟩ rfl rfl rfl rfl rfl rfl fun i j b => hk ed (nq 3 rfl ns) <| ho 8 rfl Ag fun gM ef => tl i103 rfl fun p => hk ef (nq 4 rfl ns) <| ho 10 rfl Ag fun gN eg => ts 0 m103 rfl rfl c.o1 rfl <| hk eg (nq 4 rfl ns) <| ho 11 rfl Ag fun gO eh => ts 3 m25 rfl rfl b.o1 rfl <| hk eh (nq 4 rfl ns) <| hz Ag <| jn [4, 0, 2, 3, 1] (d c b hp)
     · refine tl i103 rfl fun p => hk ee (nq 3 rfl ns) <| nT [7, 10] Ag (by simp) (nG ⟨_, rfl, fun gP ei => ?_⟩ (nG ⟨_, rfl, fun gQ ej => ?_⟩ nU))
       · exact tk0 (k := (nt .i64)) u25 i3 h ⟨rfl, rfl⟩ rfl rfl rfl rfl rfl rfl fun i j b => hk ei (nq 4 rfl ns) <| ho 10 rfl Ag fun gR ek => ts 1 m103 rfl rfl c.o1 rfl <| hk ek (nq 4 rfl ns) <| ho 11 rfl Ag fun gS el => ts 3 m25 rfl rfl b.o1 rfl <| hk el (nq 4 rfl ns) <| hz Ag <| jn [4, 1, 2, 3, 0] (d c b hp)
       · exact ts 0 m103 rfl rfl c.o1 rfl <| hk ej (nq 3 rfl ns) <| ho 7 rfl Ag fun gT em => tk0 (k := (nt .i64)) u25 i3 h ⟨rfl, rfl⟩ rfl rfl rfl rfl rfl rfl fun i j b => hk em (nq 4 rfl ns) <| ho 11 rfl Ag fun gU en => ts 3 m25 rfl rfl b.o1 rfl <| hk en (nq 4 rfl ns) <| hz Ag <| jn [4, 1, 2, 3, 0] (d c b hp)
   · refine tk0 (k := (nt .i64)) u25 i3 h ⟨rfl, rfl⟩ rfl rfl rfl rfl rfl rfl fun i j b => hk eb (nq 2 rfl ns) <| nT [3, 8] Ag (by simp) (nG ⟨_, rfl, fun gV eo => ?_⟩ (nG ⟨_, rfl, fun gW ep => ?_⟩ nU))
     · exact tk0 (k := kMaker) u103 i133 m ⟨rfl, rfl⟩ rfl rfl rfl rfl rfl rfl fun n o c => hk eo (nq 3 rfl ns) <| ho 8 rfl Ag fun gX eq => tl i103 rfl fun p => hk eq (nq 4 rfl ns) <| ho 10 rfl Ag fun gY er => ts 0 m103 rfl rfl c.o1 rfl <| hk er (nq 4 rfl ns) <| ho 11 rfl Ag fun gZ es => ts 3 m25 rfl rfl b.o1 rfl <| hk es (nq 4 rfl ns) <| hz Ag <| jn [4, 0, 1, 3, 2] (d c b hp)
     · exact tl i103 rfl fun p => hk ep (nq 3 rfl ns) <| ho 3 rfl Ag fun g0 et => tk0 (k := kMaker) u103 i133 m ⟨rfl, rfl⟩ rfl rfl rfl rfl rfl rfl fun n o c => hk et (nq 4 rfl ns) <| ho 10 rfl Ag fun g1 eu => ts 1 m103 rfl rfl c.o1 rfl <| hk eu (nq 4 rfl ns) <| ho 11 rfl Ag fun g2 ev => ts 3 m25 rfl rfl b.o1 rfl <| hk ev (nq 4 rfl ns) <| hz Ag <| jn [4, 1, 0, 3, 2] (d c b hp)
   · refine tl i103 rfl fun p => hk ec (nq 2 rfl ns) <| nT [3, 7] Ag (by simp) (nG ⟨_, rfl, fun g3 ew => ?_⟩ (nG ⟨_, rfl, fun g4 ex => ?_⟩ nU))
     · refine tk0 (k := kMaker) u103 i133 m ⟨rfl, rfl⟩ rfl rfl rfl rfl rfl rfl fun n o c => hk ew (nq 3 rfl ns) <| nT [7, 10] Ag (by simp) (nG ⟨_, rfl, fun g5 ey => ?_⟩ (nG ⟨_, rfl, fun g6 ez => ?_⟩ nU))
       · exact tk0 (k := (nt .i64)) u25 i3 h ⟨rfl, rfl⟩ rfl rfl rfl rfl rfl rfl fun i j b => hk ey (nq 4 rfl ns) <| ho 10 rfl Ag fun g7 eA => ts 2 m103 rfl rfl c.o1 rfl <| hk eA (nq 4 rfl ns) <| ho 11 rfl Ag fun g8 eB => ts 3 m25 rfl rfl b.o1 rfl <| hk eB (nq 4 rfl ns) <| hz Ag <| jn [4, 2, 1, 3, 0] (d c b hp)
       · exact ts 1 m103 rfl rfl c.o1 rfl <| hk ez (nq 3 rfl ns) <| ho 7 rfl Ag fun g9 eC => tk0 (k := (nt .i64)) u25 i3 h ⟨rfl, rfl⟩ rfl rfl rfl rfl rfl rfl fun i j b => hk eC (nq 4 rfl ns) <| ho 11 rfl Ag fun ha eD => ts 3 m25 rfl rfl b.o1 rfl <| hk eD (nq 4 rfl ns) <| hz Ag <| jn [4, 2, 1, 3, 0] (d c b hp)
     · exact tk0 (k := (nt .i64)) u25 i3 h ⟨rfl, rfl⟩ rfl rfl rfl rfl rfl rfl fun i j b => hk ex (nq 3 rfl ns) <| ho 3 rfl Ag fun hb eE => tk0 (k := kMaker) u103 i133 m ⟨rfl, rfl⟩ rfl rfl rfl rfl rfl rfl fun n o c => hk eE (nq 4 rfl ns) <| ho 10 rfl Ag fun hc eF => ts 2 m103 rfl rfl c.o1 rfl <| hk eF (nq 4 rfl ns) <| ho 11 rfl Ag fun hd eG => ts 3 m25 rfl rfl b.o1 rfl <| hk eG (nq 4 rfl ns) <| hz Ag <| jn [4, 2, 0, 3, 1] (d c b hp)
/-! ### fettle/graph.Order -/
abbrev qw.R (r : List Int) (v : Value) (A : List FP) : Prop := ∃ (w1 : Value) (a : FP), w1 = v ∧ A = [a] ∧ SlO 3 (nt .i64) r w1 a
def qw (a1 : ny) : Option (List Int) :=
  (pP a1).bind fun a =>
  some a.1
theorem t4 {E : World} {H : FP} {w : World} {a1 : ny} {v2 : Value} {a : Value} {r : List Int} (b : SlI (nt .i64) H a1.regs v2) (c : SlI nY H a1.blocks a) (hp : qw a1 = some r) (hst : St E H [] w) :
    Fn Try.prog 66 #[.agg #[.int .i64 a1.params, .int .i64 a1.result, v2, a]] w fun v w' => ∃ A, qw.R r v A ∧ St E H A w' := by
 refine fb 11 [.tmp 2] Try.func66 rfl rfl rfl rfl rfl hst <| sr <| tb [.int .i64 a1.params, .int .i64 a1.result, v2, a] rfl rfl fun g => ta rfl <| nz <| sr <| tv (lA (ds := [.int .i64 a1.params, .int .i64 a1.result, v2, a]) n8 0 rfl rfl rfl rfl) rfl <| bE hp fun h hy1 hp => tc 0 [_] rfl c73 (fun _ => tY (a1 := a1) (b.mono nw) (c.mono nw) hy1) rfl ?_
 rintro _ _ ⟨d, e, i, j, rfl, rfl, f, k⟩
 exact tm rfl <| tv (xt rfl rfl) rfl <| tv (xt rfl rfl) rfl <| ta rfl <| ta rfl <| nz <| sr <| tm rfl <| ta rfl <| nz <| nH <| rt hp [0] ⟨d, e, rfl, rfl, f⟩
/-! ### fettle/dom.ahead -/
abbrev pt.R (r : List (List Int)) (v : Value) (A : List FP) : Prop := ∃ (w1 : Value) (a : FP), w1 = v ∧ A = [a] ∧ SlO 25 (kSl 3 (nt .i64)) r w1 a
def pt.nx9  (a : List (List Int)) : Option (List (List Int)) :=
  some a
def pt.nx24 (a : Int) (b : List (List Int)) : Option (Ex (List (List Int)) (List (List Int) × Int)) :=
  some (.go (b, (w64 (a + 1))))
def pt.bd24 (e : Int) (c : List Int) (a : List (List Int)) (b : Int) : Option (Ex (List (List Int)) (List (List Int) × Int)) :=
  if b < (len c) then
    (idx c b).bind fun d =>
    (idx a d).bind fun f =>
    (cat f [e]).bind fun g =>
    some (.go ((a.set (d).toNat g), (w64 (b + 1))))
  else
    some (.ret a)
def pt.bd9 (a1 : List (List Int)) (b : List (List Int)) (a : Int) : Option (Ex (List (List Int)) (List (List Int) × Int)) :=
  if a < (len a1) then
    (idx a1 a).bind fun c =>
    (whl (fun (s : (List (List Int) × Int)) => pt.bd24 a c s.1 s.2) nD (b, 0)).bind fun z =>
    pt.nx24 a z
  else
    some (.ret b)
def pt (a1 : List (List Int)) : Option (List (List Int)) :=
  (mkl (len a1) ([] : List Int)).bind fun a =>
  (whl (fun (s : (List (List Int) × Int)) => pt.bd9 a1 s.1 s.2) nD (a, 0)).bind fun z =>
  pt.nx9 z
set_option maxHeartbeats 4000000 in
theorem wJ {E : World} {H : FP} {w : World} {a1 : List (List Int)} {v2 : Value} {r : List (List Int)} (j : SlI (kSl 3 (nt .i64)) H a1 v2) (hp : pt a1 = some r) (hst : St E H [] w) :
    Fn Try.prog 67 #[v2] w fun v w' => ∃ A, pt.R r v A ∧ St E H A w' := by
 refine fb 37 [.tmp 2] Try.func67 rfl rfl rfl rfl rfl hst <| sr <| ta rfl <| nz <| sr <| tm rfl <| tv (ln u73 j rfl) rfl <| tk (k := (kSl 3 (nt .i64))) u73 i25 hp ⟨_, rfl, SlO.nil 3⟩ rfl rfl rfl rfl rfl rfl fun aw c G I hp => ta rfl <| nz <| nv fun J K => sr <| tm rfl <| tv (ln u73 j rfl) rfl <| tm rfl <| nz <| nB <| bE hp fun M N O => ?_
 have P {l m Q} (S : SlO 25 (kSl 3 (nt .i64)) l c m) (T : l = M) : ∀ w, St E H [m] w → J (ovr Q [(3, c)]) w := by
  subst T
  replace hp : pt.nx9 l = some r := O
  exact tg K <| sr <| tm rfl <| ta rfl <| nz <| nH <| rt hp [0] ⟨c, m, rfl, rfl, S⟩
 refine lp N [0] rfl (fun s e L => ∃ d b f t, s = (d, b) ∧ SlO 25 (kSl 3 (nt .i64)) d c f ∧ e = ovr t [(3, c), (11, v2), (12, .int .i64 (len a1)), (13, .int .i64 b)] ∧ L = [f]) ⟨_, _, G, _, rfl, I, nC _ _ rfl, rfl⟩ ?_
 rintro _ _ _ ⟨d, b, f, t, rfl, u, rfl, rfl⟩ y hp U
 replace hp : pt.bd9 a1 d b = some y := hp
 refine sr <| tv (blt rfl rfl) rfl <| nz <| nv fun ax V => cD rfl hp (fun X hp => ?_) fun X hp => ?_
 · refine sk V rfl <| nv fun Y Z => nB <| sr <| tm rfl <| ti u73 i25 j hp rfl rfl rfl rfl ?_
   rintro z ay az _ hp ⟨aa, rfl, B⟩ ab
   refine tv (lr s25 sH ab 0 rfl rfl) rfl <| ta rfl <| ta rfl <| nz <| sr <| tm rfl <| tv (ln u25 B rfl) rfl <| tm rfl <| nz <| nB <| bE hp fun ac ad ae => ?_
   have af {n o ag} (ah : SlO 25 (kSl 3 (nt .i64)) n c o) (ai : n = ac) : ∀ w, St E H [o] w → Y (ovr ag [(3, c), (11, v2), (12, .int .i64 (len a1)), (13, .int .i64 b)]) w := by
    subst ai
    replace hp : pt.nx24 b n = some y := ae
    exact tg Z <| nF <| tv (bad rfl rfl) rfl <| tm rfl <| nl <| gk hp [0] ⟨_, _, o, _, rfl, ah, nC _ _ rfl, rfl⟩
   refine lp ad [0] rfl (fun s e L => ∃ g h p C, s = (g, h) ∧ SlO 25 (kSl 3 (nt .i64)) g c p ∧ e = ovr C [(3, c), (4, .int .i64 b), (11, v2), (12, .int .i64 (len a1)), (13, .int .i64 b), (18, aa), (19, .int .i64 (len z)), (20, .int .i64 h)] ∧ L = [p]) ⟨_, _, f, _, rfl, u, nC _ _ rfl, rfl⟩ ?_
   rintro _ _ _ ⟨g, h, p, C, rfl, D, rfl, rfl⟩ aj hp ak
   replace hp : pt.bd24 b z g h = some aj := hp
   refine sr <| tv (blt rfl rfl) rfl <| nz <| nv fun aA al => cD rfl hp (fun am hp => ?_) fun am hp => ?_
   · refine sk al rfl <| nv fun aB an => nB <| sr <| ti u25 i3 B hp rfl rfl rfl rfl ?_
     rintro aC aD aE _ hp rfl ao
     refine tv (lr s3 sH ao 0 rfl rfl) rfl <| ta rfl <| nz <| nF <| tm rfl <| tm rfl <| tm rfl <| tm rfl <| bE hp fun aF q hp => TL.open_ D q ?_
     rintro aG _ aH aI i ⟨aJ, rfl, ap⟩
     exact tv (pa u73 i25 rfl rfl (oM q).1 i) rfl <| tv (lr s25 (Src.at_ 0 rfl) (Hole.cells i) 0 rfl rfl) rfl <| tm rfl <| tbs [(0, .int .i64 b)] [.int .i64 b] u25 i3 Ag rfl rfl rfl rfl fun aK => tp [2, 0, 1] [_,_,_] rfl rfl <| tf 2 0 [_,_,_,_] rfl <| tp2 u25 i3 ap hp (RepL.to (RepL.cons (k := (nt .i64)) (x := b) ⟨rfl, rfl⟩ RepL.nil) rfl) rfl rfl rfl rfl rfl rfl rfl rfl rfl fun aq aL aM F hp => tv (pa u73 i25 rfl rfl (oM q).1 i) rfl <| tp [1, 0] [_,_] rfl rfl <| tsH i m25 0 rfl F.o1 rfl fun aN ar => nl <| tg an <| nF <| tv (bad rfl rfl) rfl <| tm rfl <| nl <| W.shut (a := aq) ar ⟨_, rfl, F⟩ fun au av => gk hp [0] ⟨_, _, au, _, rfl, av, nC _ _ rfl, rfl⟩
   · exact nN <| jn [0] (af D (nK hp ak))
 · exact nN <| jn [0] (P u (nK hp U))
/-! ### fettle/dom.meet -/
abbrev oT.R (r : Int) (v : Value) (A : List FP) : Prop := .int .i64 r = v ∧ A = []
def oT.nx8  (a : Int) : Option Int :=
  some a
def oT.nx31 (a : Int) (b : Int) : Option (Ex Int (Int × Int)) :=
  some (.go (a, b))
def oT.bd31 (a1 : List Int) (a4 : List Int) (b : Int) (a : Int) : Option (Ex Int Int) :=
  (idx a4 a).bind fun c =>
  (idx a4 b).bind fun d =>
  if c > d then
    (idx a1 a).bind fun e =>
    some (.go e)
  else
    some (.ret a)
def oT.nx24 (a1 : List Int) (a4 : List Int) (b : Int) (a : Int) : Option (Ex Int (Int × Int)) :=
  (whl (fun (s : Int) => oT.bd31 a1 a4 a s) nD b).bind fun z =>
  oT.nx31 a z
def oT.bd24 (a1 : List Int) (a4 : List Int) (b : Int) (a : Int) : Option (Ex Int Int) :=
  (idx a4 a).bind fun c =>
  (idx a4 b).bind fun d =>
  if c > d then
    (idx a1 a).bind fun e =>
    some (.go e)
  else
    some (.ret a)
def oT.bd8 (a1 : List Int) (a4 : List Int) (a : Int) (b : Int) : Option (Ex Int (Int × Int)) :=
  if ¬ a = b then
    (whl (fun (s : Int) => oT.bd24 a1 a4 b s) nD a).bind fun z =>
    oT.nx24 a1 a4 b z
  else
    some (.ret a)
def oT (a1 : List Int) (a4 : List Int) (a7 : Int) (a8 : Int) : Option Int :=
  (whl (fun (s : (Int × Int)) => oT.bd8 a1 a4 s.1 s.2) nD (a7, a8)).bind fun z =>
  oT.nx8 z
set_option maxHeartbeats 4000000 in
theorem wK {E : World} {H : FP} {w : World} {a1 : List Int} {a4 : List Int} {a7 : Int} {a8 : Int} {v2 : Value} {b : Value} {r : Int} (j : SlI (nt .i64) H a1 v2) (d : SlI (nt .i64) H a4 b) (hp : oT a1 a4 a7 a8 = some r) (hst : St E H [] w) :
    Fn Try.prog 68 #[v2, b, .int .i64 a7, .int .i64 a8] w fun v w' => ∃ A, oT.R r v A ∧ St E H A w' := by
 refine fb 39 [.tmp 8] Try.func68 rfl rfl rfl rfl rfl hst <| sr <| ta rfl <| nz <| nv fun n o => nB <| bE hp fun p q t => ?_
 have u {g x} (y : g = p) : ∀ w, St E H [] w → n (ovr x [(2, .int .i64 g)]) w := by
  subst y
  replace hp : oT.nx8 g = some r := t
  exact tg o <| sr <| tm rfl <| ta rfl <| nz <| nH <| rt hp [] ⟨rfl, rfl⟩
 refine lp q [] rfl (fun s e L => ∃ f a k, s = (f, a) ∧ e = ovr k [(0, v2), (1, b), (2, .int .i64 f), (3, .int .i64 a)] ∧ L = []) ⟨_, _, _, rfl, nC _ _ rfl, rfl⟩ ?_
 rintro _ _ _ ⟨f, a, k, rfl, rfl, rfl⟩ h hp z
 replace hp : oT.bd8 a1 a4 f a = some h := hp
 refine nv fun ap B => sr <| tm rfl <| tm rfl <| tv (bne rfl rfl) rfl <| nz <| cD rfl hp (fun C hp => ?_) fun C hp => ?_
 · refine sk B rfl <| qf fun D F => nB <| nv fun G I => nB <| bE hp fun J K M => ?_
   have N {c O} (P : c = J) : ∀ w, St E H [] w → G (ovr O [(0, v2), (1, b), (2, .int .i64 c), (3, .int .i64 a)]) w := by
    subst P
    replace hp : oT.nx24 a1 a4 a c = some h := M
    refine tg I <| nB <| bE hp fun Q S T => ?_
    have U {i V} (W : i = Q) : ∀ w, St E H [] w → D (ovr V [(0, v2), (1, b), (2, .int .i64 c), (3, .int .i64 i)]) w := by
     subst W
     replace hp : oT.nx31 c i = some h := T
     exact viaK F <| gk hp [] ⟨_, _, _, rfl, nC _ _ rfl, rfl⟩
    refine lp S [] rfl (fun s e L => ∃ l, e = ovr l [(0, v2), (1, b), (2, .int .i64 c), (3, .int .i64 s)] ∧ L = []) ⟨_, nC _ _ rfl, rfl⟩ ?_
    rintro X _ _ ⟨l, rfl, rfl⟩ Y hp Z
    replace hp : oT.bd31 a1 a4 c X = some Y := hp
    refine nv fun aq aa => nv fun ar ab => cq mix Ag <| qv mv rfl <| qv mv rfl <| qi u25 i3 d hp rfl rfl rfl rfl ?_
    rintro au av aw _ hp rfl ac
    refine qv (lr s3 sH ac 0 rfl rfl) rfl <| qv mv rfl <| qv mv rfl <| qi u25 i3 d hp rfl rfl rfl rfl ?_
    rintro ax ay az _ hp rfl ad
    refine qv (lr s3 sH ad 0 rfl rfl) rfl <| qv (bgt rfl rfl) rfl <| QL.nil <| tg ab <| cD rfl hp (fun ae hp => ?_) fun ae hp => ?_
    · refine sk aa rfl <| nB <| nF <| tm rfl <| tm rfl <| ti u25 i3 j hp rfl rfl rfl rfl ?_
      rintro aA aB aC _ hp rfl af
      exact tv (lr s3 sH af 0 rfl rfl) rfl <| ta rfl <| nl <| gk hp [] ⟨_, nC _ _ rfl, rfl⟩
    · exact nN <| jn [] (U (nK hp Z))
   refine lp K [] rfl (fun s e L => ∃ m, e = ovr m [(0, v2), (1, b), (2, .int .i64 s), (3, .int .i64 a)] ∧ L = []) ⟨_, nC _ _ rfl, rfl⟩ ?_
   rintro ag _ _ ⟨m, rfl, rfl⟩ ah hp ai
   replace hp : oT.bd24 a1 a4 a ag = some ah := hp
   refine nv fun aD aj => nv fun aE ak => cq mix Ag <| qv mv rfl <| qv mv rfl <| qi u25 i3 d hp rfl rfl rfl rfl ?_
   rintro aF aG aH _ hp rfl al
   refine qv (lr s3 sH al 0 rfl rfl) rfl <| qv mv rfl <| qv mv rfl <| qi u25 i3 d hp rfl rfl rfl rfl ?_
   rintro aI aJ aK _ hp rfl am
   refine qv (lr s3 sH am 0 rfl rfl) rfl <| qv (bgt rfl rfl) rfl <| QL.nil <| tg ak <| cD rfl hp (fun an hp => ?_) fun an hp => ?_
   · refine sk aj rfl <| nB <| nF <| tm rfl <| tm rfl <| ti u25 i3 j hp rfl rfl rfl rfl ?_
     rintro aL aM aN _ hp rfl ao
     exact tv (lr s3 sH ao 0 rfl rfl) rfl <| ta rfl <| nl <| gk hp [] ⟨_, nC _ _ rfl, rfl⟩
   · exact nN <| jn [] (N (nK hp ai))
 · exact nN <| jn [] (u (nK hp z))
end
section
/-! ### fettle/dom.Nearest -/
abbrev nX.R (r : List Int) (v : Value) (A : List FP) : Prop := ∃ (w1 : Value) (a : FP), w1 = v ∧ A = [a] ∧ SlO 3 (nt .i64) r w1 a
def nX.nx48  (a : List Int) : Option (List Int) :=
  (idx a 0).bind fun b =>
  some (a.set (0 : Int).toNat (-1))
def nX.nx64  (a : List Int) (b : Bool) : Option (Ex (List Int) (List Int × Bool)) :=
  some (.go (a, b))
def nX.jn74 (a : Int) (b : List Int) (c : Bool) : Option (Ex (List Int × Bool) (List Int × Bool × Int)) :=
  some (.go (b, c, (w64 (a + 1))))
def nX.nx84 (a : List Int) (e : Bool) (c : Int) (b : Int) (d : Int) : Option (Ex (List Int × Bool) (List Int × Bool × Int)) :=
  (idx a b).bind fun f =>
  if ¬ f = d then
    (idx a b).bind fun g =>
    nX.jn74 c (a.set (b).toNat d) true
  else
    nX.jn74 c a e
def nX.jn97 (a : Int) (b : Int) : Option (Ex Int (Int × Int)) :=
  some (.go (b, (w64 (a + 1))))
def nX.bd84 (f : List Int) (d : List Int) (e : List Int) (b : Int) (a : Int) : Option (Ex Int (Int × Int)) :=
  if a < (len e) then
    (idx e a).bind fun c =>
    (idx d c).bind fun g =>
    if g < 0 then
      nX.jn97 a b
    else
      if b < 0 then
        nX.jn97 a c
      else
        (oT d f c b).bind fun h =>
        nX.jn97 a h
  else
    some (.ret b)
def nX.bd64 (f : List (List Int)) (g : List Int) (c : List Int) (a : List Int) (d : Bool) (b : Int) : Option (Ex (List Int × Bool) (List Int × Bool × Int)) :=
  if b < (len c) then
    (idx c b).bind fun e =>
    (idx f e).bind fun h =>
    (whl (fun (s : (Int × Int)) => nX.bd84 g a h s.1 s.2) nD (-1, 0)).bind fun z =>
    nX.nx84 a d b e z
  else
    some (.ret (a, d))
def nX.bd48 (b : List Int) (c : List (List Int)) (d : List Int) (a : List Int) (e : Bool) : Option (Ex (List Int) (List Int × Bool)) :=
  if e = true then
    (qA b 1).bind fun f =>
    (whl (fun (s : (List Int × Bool × Int)) => nX.bd64 c d f s.1 s.2.1 s.2.2) nD (a, false, 0)).bind fun z =>
    nX.nx64 z.1 z.2
  else
    some (.ret a)
def nX.nx35 (b : List Int) (c : List (List Int)) (a : List Int) (d : List Int) : Option (List Int) :=
  if (len b) = 0 then
    some a
  else
    (idx a 0).bind fun e =>
    (whl (fun (s : (List Int × Bool)) => nX.bd48 b c d s.1 s.2) nD ((a.set (0 : Int).toNat 0), true)).bind fun z =>
    nX.nx48 z
def nX.bd35 (c : List Int) (b : List Int) (a : Int) : Option (Ex (List Int) (List Int × Int)) :=
  if a < (len c) then
    (idx c a).bind fun d =>
    (idx b d).bind fun e =>
    some (.go ((b.set (d).toNat a), (w64 (a + 1))))
  else
    some (.ret b)
def nX.nx26 (a : List Int) (b : List (List Int)) (c : List Int) (d : List Int) : Option (List Int) :=
  (whl (fun (s : (List Int × Int)) => nX.bd35 a s.1 s.2) nD (c, 0)).bind fun z =>
  nX.nx35 a b d z
def nX.bd26 (c : List Int) (b : List Int) (a : Int) : Option (Ex (List Int) (List Int × Int)) :=
  if a < (len c) then
    (idx b a).bind fun d =>
    some (.go ((b.set (a).toNat (-1)), (w64 (a + 1))))
  else
    some (.ret b)
def nX.jn18 (b : List Int) (c : List (List Int)) (a : List Int) (d : List Int) : Option (List Int) :=
  (whl (fun (s : (List Int × Int)) => nX.bd26 a s.1 s.2) nD (a, 0)).bind fun z =>
  nX.nx26 b c d z
def nX (a1 : ny) : Option (List Int) :=
  (qw a1).bind fun b =>
  (oO a1).bind fun c =>
  (pt c).bind fun a =>
  (mkl (len a) (0 : Int)).bind fun d =>
  (mkl (len a) (0 : Int)).bind fun e =>
  nX.jn18 b a d e
set_option maxHeartbeats 4000000 in
theorem t5 {E : World} {H : FP} {w : World} {a1 : ny} {v2 : Value} {l : Value} {r : List Int} (am : SlI (nt .i64) H a1.regs v2) (an : SlI nY H a1.blocks l) (hp : nX a1 = some r) (hst : St E H [] w) :
    Fn Try.prog 42 #[.agg #[.int .i64 a1.params, .int .i64 a1.result, v2, l]] w fun v w' => ∃ A, nX.R r v A ∧ St E H A w' := by
 refine fb 101 [.tmp 2] Try.func42 rfl rfl rfl rfl rfl hst <| sr <| tb [.int .i64 a1.params, .int .i64 a1.result, v2, l] rfl rfl fun ao => ta rfl <| nz <| nv fun cM aM => ch mix [bx ao 41 [.int .i64 a1.params, .int .i64 a1.result, v2, l]] (nq 0 rfl ns) <| hv 0 rfl (lAG (ds := [.int .i64 a1.params, .int .i64 a1.result, v2, l]) n8 0 rfl rfl rfl rfl) Ag rfl <| hv 2 rfl (lAG (ds := [.int .i64 a1.params, .int .i64 a1.result, v2, l]) n8 0 rfl rfl rfl rfl) Ag rfl <| ho 1 rfl Ag fun cN aN => bE hp fun p hy5 hp => tc 0 [_] rfl c66 (fun _ => t4 (a1 := a1) (am.mono nw) (an.mono nw) hy5) rfl ?_
 rintro _ _ ⟨c, d, rfl, rfl, D⟩
 refine hk aN (nq 1 rfl ns) <| ho 3 rfl Ag fun cO aO => bE hp fun aP hy9 hp => tc 0 [_,_] rfl c58 (fun _ => rJ (a1 := a1) (am.mono nw) (an.mono nw) hy9) rfl ?_
 rintro _ _ ⟨cP, aQ, rfl, rfl, aR⟩
 refine hk aO (nq 2 rfl ns) <| ho 4 rfl Ag fun cQ aS => bE hp fun x hy13 hp => tc 0 [_,_,_] rfl c67 (fun _ => wJ (a1 := aP) (aR.ro.mono (subB 0 rfl)) hy13) rfl ?_
 rintro _ _ ⟨g, f, rfl, rfl, S⟩
 refine hk aS (nq 3 rfl ns) <| hv 5 rfl sg Ag rfl <| hv 6 rfl sg Ag rfl <| hz Ag <| tg aM <| nv fun aT aU => ?_
 have ap {F T a U b y aV} (aq : SlO 3 (nt .i64) F a U) (aW : SlO 3 (nt .i64) T b y) (hp : nX.jn18 p x F T = some r) : ∀ w, St E H [d, f, U, y] w → aT (ovr aV [(3, c), (4, g), (5, a), (6, b)]) w := by
  refine tg aU <| nv fun aX aY => sr <| tm rfl <| tv (ln u25 aq.ro rfl) rfl <| tm rfl <| nz <| nB <| bE hp fun aZ a0 a2 => ?_
  have a3 {G z a5} (V : SlO 3 (nt .i64) G a z) (a6 : G = aZ) : ∀ w, St E H [d, f, z, y] w → aX (ovr a5 [(3, c), (4, g), (5, a), (6, b)]) w := by
   subst a6
   replace hp : nX.nx26 p x T G = some r := a2
   refine tg aY <| nv fun a9 ba => sr <| tm rfl <| tv (ln u25 D.ro rfl) rfl <| tm rfl <| nz <| nB <| bE hp fun bb bc be => ?_
   have bf {m i bg} (bh : SlO 3 (nt .i64) m b i) (bi : m = bb) : ∀ w, St E H [d, f, z, i] w → a9 (ovr bg [(3, c), (4, g), (5, a), (6, b)]) w := by
    subst bi
    replace hp : nX.nx35 p x G m = some r := be
    refine tg ba <| nv fun cR bj => sr <| tm rfl <| tv (ln u25 D.ro rfl) rfl <| tv (beq rfl rfl) rfl <| nz <| cD rfl hp (fun bk hp => ?_) fun bk hp => ?_
    · exact sr <| tm rfl <| ta rfl <| nz <| nH <| rt hp [2] ⟨a, z, rfl, rfl, V⟩
    · refine sk bj rfl <| sr <| tm rfl <| tO u25 i3 V hp rfl rfl rfl rfl fun cS cT cU bl hp => tp [2, 0, 1, 3] [_,_,_,_] rfl rfl <| tE V bl m3 rfl ⟨rfl, rfl⟩ w1 fun bm bn => nz <| nv fun bo bp => sr <| ta rfl <| nz <| nB <| bE hp fun bq br bs => ?_
      have bt {W ar bu} (au : SlO 3 (nt .i64) W a ar) (bv : W = bq) : ∀ w, St E H [ar] w → bo (ovr bu [(5, a)]) w := by
       subst bv
       replace hp : nX.nx48 W = some r := bs
       exact tg bp <| sr <| tm rfl <| tO u25 i3 au hp rfl rfl rfl rfl fun cV cW cX bw hp => tE au bw m3 rfl ⟨rfl, rfl⟩ w1 fun bz bA => nz <| sr <| tm rfl <| ta rfl <| nz <| nH <| rt hp [0] ⟨a, bz, rfl, rfl, bA⟩
      refine lp br [1, 2, 0, 3] rfl (fun s e L => ∃ I J K av, s = (I, J) ∧ SlO 3 (nt .i64) I a K ∧ e = ovr av [(3, c), (4, g), (5, a), (6, b), (10, .bool J)] ∧ L = [d, f, K, i]) ⟨_, _, bm, _, rfl, bn, nC _ _ rfl, rfl⟩ ?_
      rintro _ _ _ ⟨I, J, K, av, rfl, aw, rfl, rfl⟩ ax hp bB
      replace hp : nX.bd48 p x m I J = some ax := hp
      refine nv fun cY bC => sr <| tm rfl <| nz <| cB rfl hp (fun bD hp => ?_) fun bD hp => ?_
      · refine sk bC rfl <| qf fun bF bG => nB <| sr <| ta rfl <| nz <| sr <| tm rfl <| tF u25 i3 D.ro hp rfl rfl rfl rfl fun q B ay hp => tv (ln u25 ay rfl) rfl <| tm rfl <| nz <| nB <| bE hp fun bH bI bJ => ?_
        have bK {X Y Z bL} (bM : SlO 3 (nt .i64) X a Z) (bN : (X, Y) = bH) : ∀ w, St E H [d, f, Z, i] w → bF (ovr bL [(3, c), (4, g), (5, a), (6, b), (10, .bool Y)]) w := by
         subst bN
         replace hp : nX.nx64 X Y = some ax := bJ
         exact viaK bG <| gk hp [0, 1, 2, 3] ⟨_, _, Z, _, rfl, bM, nC _ _ rfl, rfl⟩
        refine lp bI [0, 1, 2, 3] rfl (fun s e L => ∃ n j h t az, s = (n, j, h) ∧ SlO 3 (nt .i64) n a t ∧ e = ovr az [(3, c), (4, g), (5, a), (6, b), (10, .bool j), (56, B), (57, .int .i64 (len q)), (58, .int .i64 h)] ∧ L = [d, f, t, i]) ⟨_, _, _, K, _, rfl, aw, nC _ _ rfl, rfl⟩ ?_
        rintro _ _ _ ⟨n, j, h, t, az, rfl, o, rfl, rfl⟩ aa hp bO
        replace hp : nX.bd64 x m q n j h = some aa := hp
        refine sr <| tv (blt rfl rfl) rfl <| nz <| nv fun cZ bP => cD rfl hp (fun bQ hp => ?_) fun bQ hp => ?_
        · refine sk bP rfl <| nv fun bR bS => ?_
          have aA {aB aC ab bT} (bU : SlO 3 (nt .i64) aB a ab) (hp : nX.jn74 h aB aC = some aa) : ∀ w, St E H [d, f, ab, i] w → bR (ovr bT [(3, c), (4, g), (5, a), (6, b), (10, .bool aC), (56, B), (57, .int .i64 (len q)), (58, .int .i64 h)]) w := by
           exact tg bS <| nF <| tv (bad rfl rfl) rfl <| tm rfl <| nl <| gk hp [0, 1, 2, 3] ⟨_, _, _, ab, _, rfl, bU, nC _ _ rfl, rfl⟩
          refine nB <| sr <| ti u25 i3 ay hp rfl rfl rfl rfl ?_
          rintro M c0 c1 _ hp rfl bV
          refine tv (lr s3 (Src.at_ 0 rfl) bV 0 rfl rfl) rfl <| ta rfl <| nz <| sr <| ta rfl <| nz <| nv fun bW bX => sr <| tm rfl <| tm rfl <| ti u73 i25 (S).ro hp rfl rfl rfl rfl ?_
          rintro ac c2 c3 _ hp ⟨aD, rfl, aE⟩ bY
          refine tv (lr s25 (Src.at_ 1 rfl) bY 0 rfl rfl) rfl <| tv (ln u25 aE rfl) rfl <| tm rfl <| nz <| nB <| bE hp fun bZ b0 b1 => ?_
          have b2 {ad b3} (b4 : ad = bZ) : ∀ w, St E H [d, f, t, i] w → bW (ovr b3 [(3, c), (4, g), (5, a), (6, b), (10, .bool j), (12, .int .i64 M), (13, .int .i64 ad), (56, B), (57, .int .i64 (len q)), (58, .int .i64 h)]) w := by
           subst b4
           replace hp : nX.nx84 n j h M ad = some aa := b1
           refine tg bX <| sr <| tm rfl <| tm rfl <| ti u25 i3 (o).ro hp rfl rfl rfl rfl ?_
           rintro c4 c5 c6 _ hp rfl b5
           refine tv (lr s3 (Src.at_ 2 rfl) b5 0 rfl rfl) rfl <| tm rfl <| tv (bne rfl rfl) rfl <| nz <| cD rfl hp (fun b6 hp => ?_) fun b6 hp => ?_
           · exact nF <| tm rfl <| tm rfl <| tm rfl <| tO u25 i3 o hp rfl rfl rfl rfl fun c7 c8 c9 b7 hp => tp [2, 0, 1, 3] [_,_,_,_] rfl rfl <| tE o b7 m3 rfl ⟨rfl, rfl⟩ w1 fun da b8 => ta rfl <| nl <| jn [1, 2, 0, 3] (aA b8 hp)
           · exact TC.skip <| jn [0, 1, 2, 3] (aA o hp)
          refine lp b0 [0, 1, 2, 3] rfl (fun s e L => ∃ C u aF, s = (C, u) ∧ e = ovr aF [(3, c), (4, g), (5, a), (6, b), (10, .bool j), (12, .int .i64 M), (13, .int .i64 C), (56, B), (57, .int .i64 (len q)), (58, .int .i64 h), (65, aD), (66, .int .i64 (len ac)), (67, .int .i64 u)] ∧ L = [d, f, t, i]) ⟨_, _, _, rfl, nC _ _ rfl, rfl⟩ ?_
          rintro _ _ _ ⟨C, u, aF, rfl, rfl, rfl⟩ aG hp b9
          replace hp : nX.bd84 m n ac C u = some aG := hp
          refine sr <| tv (blt rfl rfl) rfl <| nz <| nv fun db ca => cD rfl hp (fun cb hp => ?_) fun cb hp => ?_
          · refine sk ca rfl <| nv fun cc cd => ?_
            have ae {aH ce} (hp : nX.jn97 u aH = some aG) : ∀ w, St E H [d, f, t, i] w → cc (ovr ce [(3, c), (4, g), (5, a), (6, b), (10, .bool j), (12, .int .i64 M), (13, .int .i64 aH), (56, B), (57, .int .i64 (len q)), (58, .int .i64 h), (65, aD), (66, .int .i64 (len ac)), (67, .int .i64 u)]) w := by
             exact tg cd <| nF <| tv (bad rfl rfl) rfl <| tm rfl <| nl <| gk hp [0, 1, 2, 3] ⟨_, _, _, rfl, nC _ _ rfl, rfl⟩
            refine nB <| sr <| ti u25 i3 aE hp rfl rfl rfl rfl ?_
            rintro cf dc dd _ hp rfl cg
            refine tv (lr s3 (Src.at_ 1 rfl) cg 0 rfl rfl) rfl <| ta rfl <| nz <| nB <| sr <| tm rfl <| tm rfl <| ti u25 i3 (o).ro hp rfl rfl rfl rfl ?_
            rintro de df dg _ hp rfl ci
            refine tv (lr s3 (Src.at_ 2 rfl) ci 0 rfl rfl) rfl <| tv (blt rfl rfl) rfl <| ta rfl <| nz <| cD rfl hp (fun cj hp => ?_) fun cj hp => ?_
            · exact TC.skip <| jn [0, 1, 2, 3] (ae hp)
            · refine sr <| tm rfl <| tv (blt rfl rfl) rfl <| ta rfl <| nz <| cD rfl hp (fun ck hp => ?_) fun ck hp => ?_
              · exact nF <| tm rfl <| ta rfl <| nl <| jn [0, 1, 2, 3] (ae hp)
              · refine nF <| tm rfl <| tm rfl <| tm rfl <| tm rfl <| bE hp fun dh hy102 hp => tc 0 [_,_,_,_] rfl c68 (fun _ => wK (a1 := n) (a4 := m) (a7 := cf) (a8 := C) (o.ro.mono (subB 2 rfl)) (bh.ro.mono (subB 3 rfl)) hy102) rfl ?_
                rintro _ _ ⟨rfl, rfl⟩
                exact ta rfl <| nl <| jn [0, 1, 2, 3] (ae hp)
          · exact nN <| jn [0, 1, 2, 3] (b2 (nK hp b9))
        · exact nN <| jn [0, 1, 2, 3] (bK o (nK hp bO))
      · exact nN <| jn [2] (bt aw (nK hp bB))
   refine lp bc [0, 1, 2, 3] rfl (fun s e L => ∃ N O af aI, s = (N, O) ∧ SlO 3 (nt .i64) N b af ∧ e = ovr aI [(3, c), (4, g), (5, a), (6, b), (36, c), (37, .int .i64 (len p)), (38, .int .i64 O)] ∧ L = [d, f, z, af]) ⟨_, _, y, _, rfl, aW, nC _ _ rfl, rfl⟩ ?_
   rintro _ _ _ ⟨N, O, af, aI, rfl, ag, rfl, rfl⟩ cl hp cm
   replace hp : nX.bd35 p N O = some cl := hp
   refine sr <| tv (blt rfl rfl) rfl <| nz <| nv fun di cn => cD rfl hp (fun co hp => ?_) fun co hp => ?_
   · refine sk cn rfl <| nv fun dj cp => nB <| sr <| tm rfl <| ti u25 i3 (D).ro hp rfl rfl rfl rfl ?_
     rintro dk dl dm _ hp rfl cq
     exact tv (lr s3 (Src.at_ 0 rfl) cq 0 rfl rfl) rfl <| ta rfl <| ta rfl <| nz <| nF <| tm rfl <| tm rfl <| tm rfl <| tO u25 i3 ag hp rfl rfl rfl rfl fun dn dp dq cr hp => tp [3, 0, 1, 2] [_,_,_,_] rfl rfl <| tE ag cr m3 rfl ⟨rfl, rfl⟩ w1 fun cs ct => nl <| tg cp <| nF <| tv (bad rfl rfl) rfl <| tm rfl <| nl <| gk hp [1, 2, 3, 0] ⟨_, _, cs, _, rfl, ct, nC _ _ rfl, rfl⟩
   · exact nN <| jn [0, 1, 2, 3] (bf ag (nK hp cm))
  refine lp a0 [0, 1, 2, 3] rfl (fun s e L => ∃ P Q ah aJ, s = (P, Q) ∧ SlO 3 (nt .i64) P a ah ∧ e = ovr aJ [(3, c), (4, g), (5, a), (6, b), (28, .int .i64 (len F)), (29, .int .i64 Q)] ∧ L = [d, f, ah, y]) ⟨_, _, U, _, rfl, aq, nC _ _ rfl, rfl⟩ ?_
  rintro _ _ _ ⟨P, Q, ah, aJ, rfl, ai, rfl, rfl⟩ cu hp cv
  replace hp : nX.bd26 F P Q = some cu := hp
  refine sr <| tv (blt rfl rfl) rfl <| nz <| nv fun dr cw => cD rfl hp (fun cx hp => ?_) fun cx hp => ?_
  · exact sk cw rfl <| nv fun dt cy => nB <| sr <| tm rfl <| ta rfl <| nz <| nF <| tm rfl <| tm rfl <| tO u25 i3 ai hp rfl rfl rfl rfl fun du dv dw cz hp => tp [2, 0, 1, 3] [_,_,_,_] rfl rfl <| tE ai cz m3 rfl ⟨rfl, rfl⟩ w1 fun cA cC => nl <| tg cy <| nF <| tv (bad rfl rfl) rfl <| tm rfl <| nl <| gk hp [1, 2, 0, 3] ⟨_, _, cA, _, rfl, cC, nC _ _ rfl, rfl⟩
  · exact nN <| jn [0, 1, 2, 3] (a3 ai (nK hp cv))
 refine bE hp fun dx aK hp => bE hp fun dy aL hp => ch mix [f, aQ, d, bx ao 41 [.int .i64 a1.params, .int .i64 a1.result, v2, l]] (nq 0 rfl (nq 1 rfl (nq 2 rfl (nq 3 rfl ns)))) <| hv 0 rfl mv Ag rfl <| hv 1 rfl (ln u73 S.ro rfl) Ag rfl <| hv 3 rfl mv Ag rfl <| hv 4 rfl (ln u73 S.ro rfl) Ag rfl <| nT [2, 5] Ag (by simp) (nG ⟨_, rfl, fun dz cE => ?_⟩ (nG ⟨_, rfl, fun dA cF => ?_⟩ nU))
 · exact tk0 (k := (nt .i64)) u25 i3 aK ⟨rfl, rfl⟩ rfl rfl rfl rfl rfl rfl fun cG cH aj => hk cE (nq 1 rfl (nq 2 rfl (nq 3 rfl (nq 4 rfl ns)))) <| hv 6 rfl sg Ag rfl <| ho 5 rfl Ag fun dB cI => tk0 (k := (nt .i64)) u25 i3 aL ⟨rfl, rfl⟩ rfl rfl rfl rfl rfl rfl fun cJ cK ak => hk cI (nq 2 rfl (nq 3 rfl (nq 4 rfl (nq 5 rfl ns)))) <| hv 7 rfl sg Ag rfl <| hz Ag <| jn [4, 2, 1, 0] (ap aj ak hp)
 · exact tk0 (k := (nt .i64)) u25 i3 aL ⟨rfl, rfl⟩ rfl rfl rfl rfl rfl rfl fun cJ cK ak => hk cF (nq 1 rfl (nq 2 rfl (nq 3 rfl (nq 4 rfl ns)))) <| ho 2 rfl Ag fun dC cL => tk0 (k := (nt .i64)) u25 i3 aK ⟨rfl, rfl⟩ rfl rfl rfl rfl rfl rfl fun cG cH aj => hk cL (nq 2 rfl (nq 3 rfl (nq 4 rfl (nq 5 rfl ns)))) <| hv 6 rfl sg Ag rfl <| hv 7 rfl sg Ag rfl <| hz Ag <| jn [4, 2, 0, 1] (ap aj ak hp)
/-! ### fettle/dom.Dominates -/
abbrev oJ.R (r : List (List Bool)) (v : Value) (A : List FP) : Prop := ∃ (w1 : Value) (a : FP), w1 = v ∧ A = [a] ∧ SlO 58 (kSl 4 kBool) r w1 a
def oJ.nx28  (a : List (List Bool)) : Option (List (List Bool)) :=
  some a
def oJ.nx42 (a : Int) (b : List (List Bool)) : Option (Ex (List (List Bool)) (List (List Bool) × Int)) :=
  some (.go (b, (w64 (a + 1))))
def oJ.bd42 (e : List Int) (f : List Bool) (b : Int) (c : List (List Bool)) (a : Int) : Option (Ex (List (List Bool)) (List (List Bool) × Int)) :=
  (idx f b).bind fun g =>
  if g = true ∧ a ≥ 0 then
    (idx c a).bind fun d =>
    (idx d b).bind fun i =>
    (idx e a).bind fun h =>
    some (.go ((c.set (a).toNat (d.set (b).toNat true)), h))
  else
    some (.ret c)
def oJ.bd28 (c : List Int) (d : List Bool) (e : List (List Bool)) (b : List (List Bool)) (a : Int) : Option (Ex (List (List Bool)) (List (List Bool) × Int)) :=
  if a < (len e) then
    (whl (fun (s : (List (List Bool) × Int)) => oJ.bd42 c d a s.1 s.2) nD (b, a)).bind fun z =>
    oJ.nx42 a z
  else
    some (.ret b)
def oJ.nx19 (b : List Int) (c : List Bool) (a : List (List Bool)) : Option (List (List Bool)) :=
  (whl (fun (s : (List (List Bool) × Int)) => oJ.bd28 b c a s.1 s.2) nD (a, 0)).bind fun z =>
  oJ.nx28 z
def oJ.bd19 (c : List Int) (d : List (List Bool)) (b : List (List Bool)) (a : Int) : Option (Ex (List (List Bool)) (List (List Bool) × Int)) :=
  if a < (len d) then
    (mkl (len c) false).bind fun e =>
    (idx b a).bind fun f =>
    some (.go ((b.set (a).toNat e), (w64 (a + 1))))
  else
    some (.ret b)
def oJ (a1 : ny) : Option (List (List Bool)) :=
  (nX a1).bind fun a =>
  (ql a1).bind fun c =>
  (mkl (len a) ([] : List Bool)).bind fun b =>
  (whl (fun (s : (List (List Bool) × Int)) => oJ.bd19 a b s.1 s.2) nD (b, 0)).bind fun z =>
  oJ.nx19 a c z
set_option maxHeartbeats 4000000 in
theorem t6 {E : World} {H : FP} {w : World} {a1 : ny} {v2 : Value} {g : Value} {r : List (List Bool)} (N : SlI (nt .i64) H a1.regs v2) (O : SlI nY H a1.blocks g) (hp : oJ a1 = some r) (hst : St E H [] w) :
    Fn Try.prog 50 #[.agg #[.int .i64 a1.params, .int .i64 a1.result, v2, g]] w fun v w' => ∃ A, oJ.R r v A ∧ St E H A w' := by
 refine fb 54 [.tmp 2] Try.func50 rfl rfl rfl rfl rfl hst <| sr <| tb [.int .i64 a1.params, .int .i64 a1.result, v2, g] rfl rfl fun ag => ta rfl <| nz <| nv fun bh ah => ch mix [bx ag 41 [.int .i64 a1.params, .int .i64 a1.result, v2, g]] (nq 0 rfl ns) <| hv 0 rfl (lAG (ds := [.int .i64 a1.params, .int .i64 a1.result, v2, g]) n8 0 rfl rfl rfl rfl) Ag rfl <| hv 2 rfl (lAG (ds := [.int .i64 a1.params, .int .i64 a1.result, v2, g]) n8 0 rfl rfl rfl rfl) Ag rfl <| ho 1 rfl Ag fun bi ai => bE hp fun n hy5 hp => tc 0 [_] rfl c42 (fun _ => t5 (a1 := a1) (N.mono nw) (O.mono nw) hy5) rfl ?_
 rintro _ _ ⟨h, i, rfl, rfl, z⟩
 refine hk ai (nq 1 rfl ns) <| ho 3 rfl Ag fun bj aj => bE hp fun B hy9 hp => tc 0 [_,_] rfl c48 (fun _ => sd (a1 := a1) (N.mono nw) (O.mono nw) hy9) rfl ?_
 rintro _ _ ⟨j, l, rfl, rfl, ak⟩
 refine hk aj (nq 2 rfl ns) <| hv 4 rfl sg Ag rfl <| hv 5 rfl sg Ag rfl <| hz Ag <| tg ah <| sr <| tm rfl <| tv (ln u25 z.ro rfl) rfl <| tk (k := (kSl 4 kBool)) u85 i58 hp ⟨_, rfl, SlO.nil 4⟩ rfl rfl rfl rfl rfl rfl fun P b al Q hp => ta rfl <| nz <| nv fun am an => sr <| tm rfl <| tv (ln u85 Q.ro rfl) rfl <| tm rfl <| nz <| nB <| bE hp fun ao ap aq => ?_
 have ar {d C au} (S : SlO 58 (kSl 4 kBool) d b C) (av : d = ao) : ∀ w, St E H [i, l, C] w → am (ovr au [(3, h), (4, j), (5, b)]) w := by
  subst av
  replace hp : oJ.nx19 n B d = some r := aq
  refine tg an <| nv fun aw ax => sr <| tm rfl <| tv (ln u85 S.ro rfl) rfl <| tm rfl <| nz <| nB <| bE hp fun ay az aA => ?_
  have aB {D F aC} (aD : SlO 58 (kSl 4 kBool) D b F) (aE : D = ay) : ∀ w, St E H [F] w → aw (ovr aC [(5, b)]) w := by
   subst aE
   replace hp : oJ.nx28 D = some r := aA
   exact tg ax <| sr <| tm rfl <| ta rfl <| nz <| nH <| rt hp [0] ⟨b, F, rfl, rfl, aD⟩
  refine lp az [0, 1, 2] rfl (fun s e L => ∃ o c p T, s = (o, c) ∧ SlO 58 (kSl 4 kBool) o b p ∧ e = ovr T [(3, h), (4, j), (5, b), (29, .int .i64 (len d)), (30, .int .i64 c)] ∧ L = [i, l, p]) ⟨_, _, C, _, rfl, S, nC _ _ rfl, rfl⟩ ?_
  rintro _ _ _ ⟨o, c, p, T, rfl, U, rfl, rfl⟩ V hp aF
  replace hp : oJ.bd28 n B d o c = some V := hp
  refine sr <| tv (blt rfl rfl) rfl <| nz <| nv fun bk aG => cD rfl hp (fun aH hp => ?_) fun aH hp => ?_
  · refine sk aG rfl <| nv fun aI aJ => nB <| sr <| tm rfl <| ta rfl <| nz <| sr <| tm rfl <| ta rfl <| nz <| nB <| bE hp fun aK aL aM => ?_
    have aN {G I aO} (aP : SlO 58 (kSl 4 kBool) G b I) (aQ : G = aK) : ∀ w, St E H [i, l, I] w → aI (ovr aO [(3, h), (4, j), (5, b), (29, .int .i64 (len d)), (30, .int .i64 c)]) w := by
     subst aQ
     replace hp : oJ.nx42 c G = some V := aM
     exact tg aJ <| nF <| tv (bad rfl rfl) rfl <| tm rfl <| nl <| gk hp [0, 1, 2] ⟨_, _, I, _, rfl, aP, nC _ _ rfl, rfl⟩
    refine lp aL [0, 1, 2] rfl (fun s e L => ∃ q m t X, s = (q, m) ∧ SlO 58 (kSl 4 kBool) q b t ∧ e = ovr X [(3, h), (4, j), (5, b), (7, .int .i64 c), (8, .int .i64 m), (29, .int .i64 (len d)), (30, .int .i64 c)] ∧ L = [i, l, t]) ⟨_, _, p, _, rfl, U, nC _ _ rfl, rfl⟩ ?_
    rintro _ _ _ ⟨q, m, t, X, rfl, Y, rfl, rfl⟩ aR hp aS
    replace hp : oJ.bd42 n B c q m = some aR := hp
    refine nv fun bl aT => sr <| tm rfl <| tm rfl <| ti u58 i4 (ak).ro hp rfl rfl rfl rfl ?_
    rintro Z bm bn _ hp rfl aU
    refine tv (lr s4 (Src.at_ 1 rfl) aU 0 rfl rfl) rfl <| tm rfl <| TL.cut 3 fun aV aW => ?_
    have aa {aX} : ∀ w, St E H [i, l, t] w → aV (ovr aX [(41, .bool (decide (Z = true ∧ m ≥ 0))), (3, h), (4, j), (5, b), (7, .int .i64 c), (8, .int .i64 m), (29, .int .i64 (len d)), (30, .int .i64 c)]) w := by
     refine tlg aW <| nz <| cD rfl hp (fun aY hp => ?_) fun aY hp => ?_
     · refine sk aT rfl <| nv fun bo aZ => nB <| nF <| tm rfl <| tm rfl <| tp [2, 0, 1] [_,_,_] rfl rfl <| bE hp fun a0 ab hp => TL.open_ Y ab ?_
       rintro bp _ bq br J ⟨bs, rfl, ac⟩
       refine tv (pa u85 i58 rfl rfl (oM ab).1 J) rfl <| tv (lr s58 (Src.at_ 0 rfl) (Hole.cells J) 0 rfl rfl) rfl <| tm rfl <| tO u58 i4 ac hp rfl rfl rfl rfl fun bt bu bv a2 hp => tp [1, 0, 2, 3] [_,_,_,_] rfl rfl <| tE ac a2 m4 rfl ⟨rfl, rfl⟩ w1 fun bw a3 => nl <| tg aZ <| nF <| tm rfl <| tm rfl <| ti u25 i3 (z).ro hp rfl rfl rfl rfl ?_
       rintro bz bA bB _ hp rfl a4
       exact tv (lr s3 (Src.at_ 2 rfl) a4 0 rfl rfl) rfl <| ta rfl <| nl <| wp [1, 0, 2, 3] [_,_,_,_] rfl rfl <| W.shut (a := (a0.set (c).toNat true)) J ⟨_, rfl, a3⟩ fun a5 a6 => gk hp [1, 2, 0] ⟨_, _, a5, _, rfl, a6, nC _ _ rfl, rfl⟩
     · exact nN <| jn [0, 1, 2] (aN Y (nK hp aS))
    by_cases f : Z = true
    · exact gy rfl (bbT f) <| tm rfl <| gy rfl (bbT f) <| tv (bge rfl rfl) rfl <| tv (pT (bbT f)) rfl <| nj aa (bAt f)
    · exact gn rfl (bbF f) rfl rfl <| gn rfl (bbF f) rfl rfl <| tv (pF (bbF f)) rfl <| nj aa (bAf f)
  · exact nN <| jn [2] (aB U (nK hp aF))
 refine lp ap [2, 1, 0] rfl (fun s e L => ∃ x y K ad, s = (x, y) ∧ SlO 58 (kSl 4 kBool) x b K ∧ e = ovr ad [(3, h), (4, j), (5, b), (17, .int .i64 (len P)), (18, .int .i64 y)] ∧ L = [i, l, K]) ⟨_, _, al, _, rfl, Q, nC _ _ rfl, rfl⟩ ?_
 rintro _ _ _ ⟨x, y, K, ad, rfl, M, rfl, rfl⟩ a7 hp a8
 replace hp : oJ.bd19 n P x y = some a7 := hp
 refine sr <| tv (blt rfl rfl) rfl <| nz <| nv fun bC a9 => cD rfl hp (fun ba hp => ?_) fun ba hp => ?_
 · exact sk a9 rfl <| nv fun bD bb => nB <| sr <| tm rfl <| ta rfl <| nz <| nF <| tm rfl <| tm rfl <| tm rfl <| tv (ln u25 z.ro rfl) rfl <| tk (k := kBool) u58 i4 hp ⟨rfl, rfl⟩ rfl rfl rfl rfl rfl rfl fun bc ae bF af hp => tO u85 i58 M hp rfl rfl rfl rfl fun bG bH bI be hp => tp [3, 0, 1, 2] [_,_,_,_] rfl rfl <| TL.stE (ds := [ae]) (u := ae) (a := bc) M be m58 rfl rfl (SlO.cells af) ⟨_, rfl, af⟩ fun bf bg => nl <| tg bb <| nF <| tv (bad rfl rfl) rfl <| tm rfl <| nl <| gk hp [1, 2, 0] ⟨_, _, bf, _, rfl, bg, nC _ _ rfl, rfl⟩
 · exact nN <| jn [0, 1, 2] (ar M (nK hp a8))
/-! ### (*fettle/proper.looker).use -/
abbrev qF.R (a : Nat) (a2 : oX) (v3 : Value) (b : Value) (c : Value) (d : Value) (r : Int) (v : Value) (A : List FP) : Prop := .tuple #[] = v ∧ A = [bx a 112 [.int .i64 a2.f.params, .int .i64 a2.f.result, v3, b, c, d, .int .i64 r]]
def qF (a2 : oX) (a12 : Int) (a13 : Int) (a14 : Int) : Option Int :=
  (idx a2.makers a12).bind fun a =>
  (if a12 < a2.f.params then some true else (if a.block ≥ 0 then (if ¬ a.block = a13 then (idx a2.over a.block).bind fun b =>
  (idx b a13).bind fun c =>
  some c else some false).bind fun d =>
  some (decide (d = true ∨ (a.block = a13 ∧ a.at_ < a14))) else some false).bind fun e =>
  some e).bind fun g =>
  if (!g) = true ∧ (a2.lowest < 0 ∨ a12 < a2.lowest) then
    some a12
  else
    some a2.lowest
set_option maxHeartbeats 4000000 in
theorem sL {E : World} {H : FP} {w : World} {a2 : oX} {a12 : Int} {a13 : Int} {a14 : Int} {i : Nat} {v3 : Value} {k : Value} {l : Value} {m : Value} {r : Int} (ai : SlI (nt .i64) H a2.f.regs v3) (aj : SlI nY H a2.f.blocks k) (B : SlI kMaker H a2.makers l) (C : SlI (kSl 4 kBool) H a2.over m) (hp : qF a2 a12 a13 a14 = some r) (hst : St E H [bx i 112 [.int .i64 a2.f.params, .int .i64 a2.f.result, v3, k, l, m, .int .i64 a2.lowest]] w) :
    Fn Try.prog 75 #[.pointer (some ⟨i, 0, none⟩), .int .i64 a12, .int .i64 a13, .int .i64 a14] w fun v w' => ∃ A, qF.R i a2 v3 k l m r v A ∧ St E H A w' := by
 refine fb 81 [] Try.func75 rfl rfl rfl rfl rfl hst <| sr <| tm rfl <| tv (nE rfl) rfl <| tv (fa we rfl) rfl <| tv (lb s103 0 rfl rfl rfl) rfl <| tm rfl <| ti u103 i133 B hp rfl rfl rfl rfl ?_
 rintro e ak al _ hp rfl D
 refine tv (lR (ds := [.int .i64 e.block, .int .i64 e.at_]) wh sH D 0 rfl rfl rfl) rfl <| tl i133 rfl fun p => tS 0 m133 rfl rfl [.int .i64 e.block, .int .i64 e.at_] rfl (oc rfl (oc rfl oc0)) rfl rfl <| nz <| nv fun am F => cq mix Ag <| qv mv rfl <| qv mv rfl <| qv (nE rfl) rfl <| qv (fa sa rfl) rfl <| qv (fa po rfl) rfl <| qv (lb s3 1 rfl rfl rfl) rfl <| qv (blt rfl rfl) rfl <| qv mv rfl <| bE hp fun n ht20 hp => QL.cut 35 fun G I => ?_
 have q {J} : G (ovr J [(59, .bool n), (0, .pointer (some ⟨i, 0, none⟩)), (1, .int .i64 a12)]) := by
  refine I _ <| qv sg rfl <| QL.nil <| tg F <| sr <| tm rfl <| tv (oI rfl) rfl <| tm rfl <| TL.cut 14 fun K L => ?_
  have s {M} : ∀ w, St E H [bx p 133 [.int .i64 e.block, .int .i64 e.at_], bx i 112 [.int .i64 a2.f.params, .int .i64 a2.f.result, v3, k, l, m, .int .i64 a2.lowest]] w → K (ovr M [(76, .bool (decide ((!n) = true ∧ (a2.lowest < 0 ∨ a12 < a2.lowest)))), (0, .pointer (some ⟨i, 0, none⟩)), (1, .int .i64 a12)]) w := by
   refine tlg L <| nz <| cD rfl hp (fun N hp => ?_) fun N hp => ?_
   · exact nF <| tm rfl <| tm rfl <| tv (nE rfl) rfl <| tv (fa rA rfl) rfl <| ts 1 m3 rfl rfl w1 rfl <| nl <| rt hp [1] ⟨rfl, rfl⟩
   · exact TC.skip <| rt hp [1] ⟨rfl, rfl⟩
  by_cases c : (!n) = true
  · refine gy rfl (bbT c) <| tm rfl <| gy rfl (bbT c) <| tv (nE rfl) rfl <| gy rfl (bbT c) <| tv (fa rA rfl) rfl <| gy rfl (bbT c) <| tv (lb s3 1 rfl rfl rfl) rfl <| gy rfl (bbT c) <| tv (blt rfl rfl) rfl <| gy rfl (bbT c) <| tm rfl <| TL.cut 7 fun O P => ?_
    have t {Q} : ∀ w, St E H [bx p 133 [.int .i64 e.block, .int .i64 e.at_], bx i 112 [.int .i64 a2.f.params, .int .i64 a2.f.result, v3, k, l, m, .int .i64 a2.lowest]] w → O (ovr Q [(75, .bool (decide (a2.lowest < 0 ∨ a12 < a2.lowest))), (0, .pointer (some ⟨i, 0, none⟩)), (1, .int .i64 a12), (62, .bool (!n))]) w := by
     exact tlg P <| tv (pT (bbT c)) rfl <| nj s (bAt c)
    by_cases g : a2.lowest < 0
    · exact gn rfl (bT g) rfl rfl <| gn rfl (bT g) rfl rfl <| gn rfl (bT g) rfl rfl <| gn rfl (bT g) rfl rfl <| gn rfl (bT g) rfl rfl <| gn rfl (bT g) rfl rfl <| gy rfl (bbT c) <| tv (pT (bT g)) rfl <| nj t (bOt g)
    · exact gy rfl (bF g) <| tm rfl <| gy rfl (bF g) <| tm rfl <| gy rfl (bF g) <| tv (nE rfl) rfl <| gy rfl (bF g) <| tv (fa rA rfl) rfl <| gy rfl (bF g) <| tv (lb s3 1 rfl rfl rfl) rfl <| gy rfl (bF g) <| tv (blt rfl rfl) rfl <| gy rfl (bbT c) <| tv (pF (bF g)) rfl <| nj t (bOf g)
  · exact gn rfl (bbF c) rfl rfl <| gn rfl (bbF c) rfl rfl <| gn rfl (bbF c) rfl rfl <| gn rfl (bbF c) rfl rfl <| gn rfl (bbF c) rfl rfl <| gn rfl (bbF c) rfl rfl <| gu rfl rfl rfl <| gu rfl rfl rfl <| gu rfl rfl rfl <| gu rfl rfl rfl <| gu rfl rfl rfl <| gu rfl rfl rfl <| gn rfl (bbF c) rfl rfl <| tv (pF (bbF c)) rfl <| nj s (bAf c)
 refine ifE ht20 (fun h hp => ?_) fun h hp => ?_
 · refine qgn rfl (bT h) rfl rfl <| qgn rfl (bT h) rfl rfl <| qgn rfl (bT h) rfl rfl <| qgn rfl (bT h) rfl rfl <| qgu rfl rfl rfl <| qgu rfl rfl rfl <| qgu rfl rfl rfl <| qgu rfl rfl rfl <| qgu rfl rfl rfl <| qgu rfl rfl rfl <| qgu rfl rfl rfl <| qgu rfl rfl rfl <| qgu rfl rfl rfl <| qgu rfl rfl rfl <| qgu rfl rfl rfl <| qgu rfl rfl rfl <| qgu rfl rfl rfl <| qgu rfl rfl rfl <| qgu rfl rfl rfl <| qgu rfl rfl rfl <| qgu rfl rfl rfl <| qgu rfl rfl rfl <| qgu rfl rfl rfl <| qgu rfl rfl rfl <| qgu rfl rfl rfl <| qgu rfl rfl rfl <| qgu rfl rfl rfl <| qgu rfl rfl rfl <| qgu rfl rfl rfl <| qgu rfl rfl rfl <| qgu rfl rfl rfl <| qgu rfl rfl rfl <| qgu rfl rfl rfl <| qgn rfl (bT h) rfl rfl <| qv (pT (bT h)) rfl ?_
   obtain rfl := Option.some.inj hp
   exact qj q rfl
 · refine qgy rfl (bF h) <| qv (fa sb rfl) rfl <| qgy rfl (bF h) <| qv (lb s3 0 rfl rfl rfl) rfl <| qgy rfl (bF h) <| qv (bge rfl rfl) rfl <| qgy rfl (bF h) <| qv mv rfl <| bE hp fun S ht26 hp => QL.cut 30 fun T U => ?_
   have u {V} : T (ovr V [(58, .bool S), (0, .pointer (some ⟨i, 0, none⟩)), (1, .int .i64 a12), (24, .bool (decide (a12 < a2.f.params)))]) := by
    refine U _ <| qv (pF (bF h)) rfl ?_
    obtain rfl := Option.some.inj hp
    exact qj q rfl
   refine ifE ht26 (fun b hp => ?_) fun b hp => ?_
   · refine qgy rfl (bT b) <| qv (fa sb rfl) rfl <| qgy rfl (bT b) <| qv (lb s3 0 rfl rfl rfl) rfl <| qgy rfl (bT b) <| qv mv rfl <| qgy rfl (bT b) <| qv (bne rfl rfl) rfl <| qgy rfl (bT b) <| qv mv rfl <| bE hp fun o ht42 hp => QL.cut 12 fun W X => ?_
     have x {Y} : W (ovr Y [(45, .bool o), (0, .pointer (some ⟨i, 0, none⟩)), (1, .int .i64 a12), (2, .int .i64 a13), (3, .int .i64 a14), (8, .pointer (some ⟨p, 0, none⟩)), (24, .bool (decide (a12 < a2.f.params))), (28, .bool (decide (e.block ≥ 0)))]) := by
      refine X _ <| qgy rfl (bT b) <| qv mv rfl <| QL.cut 11 fun Z aa => ?_
      have y {ab} : Z (ovr ab [(57, .bool (decide (o = true ∨ (e.block = a13 ∧ e.at_ < a14)))), (0, .pointer (some ⟨i, 0, none⟩)), (1, .int .i64 a12), (24, .bool (decide (a12 < a2.f.params))), (28, .bool (decide (e.block ≥ 0)))]) := by
       refine aa _ <| qgy rfl (bF h) <| qv (pT (bT b)) rfl ?_
       obtain rfl := Option.some.inj hp
       exact qj u rfl
      by_cases d : o = true
      · exact qgn rfl (bbT d) rfl rfl <| qgn rfl (bbT d) rfl rfl <| qgn rfl (bbT d) rfl rfl <| qgn rfl (bbT d) rfl rfl <| qgn rfl (bbT d) rfl rfl <| qgu rfl rfl rfl <| qgu rfl rfl rfl <| qgu rfl rfl rfl <| qgu rfl rfl rfl <| qgn rfl (bbT d) rfl rfl <| qgy rfl (bT b) <| qv (pT (bbT d)) rfl <| qj y (bOt d)
      · refine qgy rfl (bbF d) <| qv (fa sb rfl) rfl <| qgy rfl (bbF d) <| qv (lb s3 0 rfl rfl rfl) rfl <| qgy rfl (bbF d) <| qv mv rfl <| qgy rfl (bbF d) <| qv (beq rfl rfl) rfl <| qgy rfl (bbF d) <| qv mv rfl <| QL.cut 5 fun ac ad => ?_
        have z {ae} : ac (ovr ae [(56, .bool (decide (e.block = a13 ∧ e.at_ < a14))), (0, .pointer (some ⟨i, 0, none⟩)), (1, .int .i64 a12), (24, .bool (decide (a12 < a2.f.params))), (28, .bool (decide (e.block ≥ 0))), (46, .bool o)]) := by
         exact ad _ <| qgy rfl (bT b) <| qv (pF (bbF d)) rfl <| qj y (bOf d)
        by_cases j : e.block = a13
        · exact qgy rfl (bT j) <| qv (fa wi rfl) rfl <| qgy rfl (bT j) <| qv (lb s3 0 rfl rfl rfl) rfl <| qgy rfl (bT j) <| qv mv rfl <| qgy rfl (bT j) <| qv (blt rfl rfl) rfl <| qgy rfl (bbF d) <| qv (pT (bT j)) rfl <| qj z (bAt j)
        · exact qgn rfl (bF j) rfl rfl <| qgn rfl (bF j) rfl rfl <| qgn rfl (bF j) rfl rfl <| qgn rfl (bF j) rfl rfl <| qgy rfl (bbF d) <| qv (pF (bF j)) rfl <| qj z (bAf j)
     refine ifE ht42 (fun a hp => ?_) fun a hp => ?_
     · refine qgy rfl (bT a) <| qv mv rfl <| qgy rfl (bT a) <| qv (nE rfl) rfl <| qgy rfl (bT a) <| qv (fa wg rfl) rfl <| qgy rfl (bT a) <| qv (lb s85 1 rfl rfl rfl) rfl <| qgy rfl (bT a) <| qv (fa sb rfl) rfl <| qgy rfl (bT a) <| qv (lb s3 0 rfl rfl rfl) rfl <| qgy rfl (bT a) <| qi u85 i58 C hp rfl rfl rfl rfl ?_
       rintro an ao ap _ hp ⟨aq, rfl, af⟩ ag
       refine qgy rfl (bT a) <| qv (lr s58 sH ag 0 rfl rfl) rfl <| qgy rfl (bT a) <| qv mv rfl <| qgy rfl (bT a) <| qi u58 i4 af hp rfl rfl rfl rfl ?_
       rintro ar au av _ hp rfl ah
       refine qgy rfl (bT a) <| qv (lr s4 sH ah 0 rfl rfl) rfl <| qgy rfl (bT b) <| qv (pT (bT a)) rfl ?_
       obtain rfl := Option.some.inj hp
       exact qj x rfl
     · refine qgn rfl (bF a) rfl rfl <| qgn rfl (bF a) rfl rfl <| qgn rfl (bF a) rfl rfl <| qgn rfl (bF a) rfl rfl <| qgn rfl (bF a) rfl rfl <| qgn rfl (bF a) rfl rfl <| qgn rfl (bF a) rfl rfl <| qgn rfl (bF a) rfl rfl <| qgn rfl (bF a) rfl rfl <| qgn rfl (bF a) rfl rfl <| qgn rfl (bF a) rfl rfl <| qgy rfl (bT b) <| qv (pF (bF a)) rfl ?_
       obtain rfl := Option.some.inj hp
       exact qj x rfl
   · refine qgn rfl (bF b) rfl rfl <| qgn rfl (bF b) rfl rfl <| qgn rfl (bF b) rfl rfl <| qgn rfl (bF b) rfl rfl <| qgn rfl (bF b) rfl rfl <| qgu rfl rfl rfl <| qgu rfl rfl rfl <| qgu rfl rfl rfl <| qgu rfl rfl rfl <| qgu rfl rfl rfl <| qgu rfl rfl rfl <| qgu rfl rfl rfl <| qgu rfl rfl rfl <| qgu rfl rfl rfl <| qgu rfl rfl rfl <| qgu rfl rfl rfl <| qgn rfl (bF b) rfl rfl <| qgn rfl (bF b) rfl rfl <| qgu rfl rfl rfl <| qgu rfl rfl rfl <| qgu rfl rfl rfl <| qgu rfl rfl rfl <| qgu rfl rfl rfl <| qgu rfl rfl rfl <| qgu rfl rfl rfl <| qgu rfl rfl rfl <| qgu rfl rfl rfl <| qgu rfl rfl rfl <| qgn rfl (bF b) rfl rfl <| qgy rfl (bF h) <| qv (pF (bF b)) rfl ?_
     obtain rfl := Option.some.inj hp
     exact qj u rfl
/-! ### (*fettle/proper.looker).all -/
abbrev od.R (a : Nat) (a2 : oX) (v3 : Value) (b : Value) (c : Value) (d : Value) (r : Int) (v : Value) (A : List FP) : Prop := .tuple #[] = v ∧ A = [bx a 112 [.int .i64 a2.f.params, .int .i64 a2.f.result, v3, b, c, d, .int .i64 r]]
def od.nx10  (a : Int) : Option Int :=
  some a
def od.jn20 (a : Int) (b : Int) : Option (Ex Int (Int × Int)) :=
  some (.go (b, (w64 (a + 1))))
def od.nx38 (a2 : oX) (a : Int) (b : nA) (c : Int) : Option (Ex Int (Int × Int)) :=
  if b.term.arg ≥ 0 then
    (qF (⟨(⟨a2.f.params, a2.f.result, a2.f.regs, a2.f.blocks⟩ : ny), a2.makers, a2.over, c⟩ : oX) b.term.arg a (len b.ins)).bind fun d =>
    od.jn20 a d
  else
    od.jn20 a c
def od.nx56 (a : Int) (b : Int) : Option (Ex Int (Int × Int)) :=
  some (.go (b, (w64 (a + 1))))
def od.bd56 (a2 : oX) (d : Int) (e : Int) (b : nL) (c : Int) (a : Int) : Option (Ex Int (Int × Int)) :=
  if a < (len b.args) then
    (idx b.args a).bind fun g =>
    (qF (⟨(⟨a2.f.params, a2.f.result, a2.f.regs, a2.f.blocks⟩ : ny), a2.makers, a2.over, c⟩ : oX) g d e).bind fun h =>
    some (.go (h, (w64 (a + 1))))
  else
    some (.ret c)
def od.bd38 (a2 : oX) (d : Int) (b : nA) (c : Int) (a : Int) : Option (Ex Int (Int × Int)) :=
  if a < (len b.ins) then
    (idx b.ins a).bind fun e =>
    (whl (fun (s : (Int × Int)) => od.bd56 a2 d a e s.1 s.2) nD (c, 0)).bind fun z =>
    od.nx56 a z
  else
    some (.ret c)
def od.nx29 (a2 : oX) (a : Int) (b : nA) (c : Int) : Option (Ex Int (Int × Int)) :=
  (whl (fun (s : (Int × Int)) => od.bd38 a2 a b s.1 s.2) nD (c, 0)).bind fun z =>
  od.nx38 a2 a b z
def od.nx85 (a : Int) (b : Int) : Option (Ex Int (Int × Int)) :=
  some (.go (b, (w64 (a + 1))))
def od.bd85 (a2 : oX) (e : List (List Int)) (g : Int) (b : PPhi) (c : Int) (a : Int) : Option (Ex Int (Int × Int)) :=
  if a < (len b.args) then
    (idx b.args a).bind fun h =>
    (idx e g).bind fun i =>
    (idx i a).bind fun d =>
    (idx a2.f.blocks d).bind fun j =>
    (qF (⟨(⟨a2.f.params, a2.f.result, a2.f.regs, a2.f.blocks⟩ : ny), a2.makers, a2.over, c⟩ : oX) h d (len j.ins)).bind fun k =>
    some (.go (k, (w64 (a + 1))))
  else
    some (.ret c)
def od.bd29 (a2 : oX) (d : List (List Int)) (e : Int) (b : nA) (c : Int) (a : Int) : Option (Ex Int (Int × Int)) :=
  if a < (len b.phis) then
    (idx b.phis a).bind fun f =>
    (whl (fun (s : (Int × Int)) => od.bd85 a2 d e f s.1 s.2) nD (c, 0)).bind fun z =>
    od.nx85 a z
  else
    some (.ret c)
def od.bd10 (a2 : oX) (d : List (List Int)) (b : Int) (a : Int) : Option (Ex Int (Int × Int)) :=
  if a < (len a2.f.blocks) then
    (idx a2.f.blocks a).bind fun c =>
    (whl (fun (s : (Int × Int)) => od.bd29 a2 d a c s.1 s.2) nD (b, 0)).bind fun z =>
    od.nx29 a2 a c z
  else
    some (.ret b)
def od (a2 : oX) : Option Int :=
  (oF a2.f).bind fun a =>
  (whl (fun (s : (Int × Int)) => od.bd10 a2 a s.1 s.2) nD (a2.lowest, 0)).bind fun z =>
  od.nx10 z
set_option maxHeartbeats 4000000 in
theorem wL {E : World} {H : FP} {w : World} {a2 : oX} {d : Nat} {v3 : Value} {c : Value} {h : Value} {i : Value} {r : Int} (y : SlI (nt .i64) H a2.f.regs v3) (q : SlI nY H a2.f.blocks c) (M : SlI kMaker H a2.makers h) (N : SlI (kSl 4 kBool) H a2.over i) (hp : od a2 = some r) (hst : St E H [bx d 112 [.int .i64 a2.f.params, .int .i64 a2.f.result, v3, c, h, i, .int .i64 a2.lowest]] w) :
    Fn Try.prog 51 #[.pointer (some ⟨d, 0, none⟩)] w fun v w' => ∃ A, od.R d a2 v3 c h i r v A ∧ St E H A w' := by
 refine fb 104 [] Try.func51 rfl rfl rfl rfl rfl hst <| sr <| tm rfl <| tv (nE rfl) rfl <| tv (fa sa rfl) rfl <| tv (lA (ds := [.int .i64 a2.f.params, .int .i64 a2.f.result, v3, c]) n8 0 rfl rfl rfl rfl) rfl <| bE hp fun O hy1 hp => tc 0 [_] rfl c27 (fun _ => qu (a1 := a2.f) (y.mono nw) (q.mono nw) hy1) rfl ?_
 rintro _ _ ⟨l, m, rfl, rfl, ai⟩
 refine ta rfl <| nz <| sr <| tm rfl <| tv (nE rfl) rfl <| tv (fa sa rfl) rfl <| tv (fa oa rfl) rfl <| tv (lb s39 1 rfl rfl rfl) rfl <| tv (ln u39 q rfl) rfl <| tm rfl <| nz <| qf fun aj ak => nB <| bE hp fun al am an => ?_
 have ao {P ap} (aq : P = al) : ∀ w, St E H [bx d 112 [.int .i64 a2.f.params, .int .i64 a2.f.result, v3, c, h, i, .int .i64 P]] w → aj (ovr ap []) w := by
  subst aq
  replace hp : od.nx10 P = some r := an
  exact viaK ak <| rt hp [0] ⟨rfl, rfl⟩
 refine lp am [1, 0] rfl (fun s e L => ∃ z b Z, s = (z, b) ∧ e = ovr Z [(0, .pointer (some ⟨d, 0, none⟩)), (2, l), (23, c), (24, .int .i64 (len a2.f.blocks)), (25, .int .i64 b)] ∧ L = [bx d 112 [.int .i64 a2.f.params, .int .i64 a2.f.result, v3, c, h, i, .int .i64 z], m]) ⟨_, _, _, rfl, nC _ _ rfl, rfl⟩ ?_
 rintro _ _ _ ⟨z, b, Z, rfl, rfl, rfl⟩ B hp ar
 replace hp : od.bd10 a2 O z b = some B := hp
 refine sr <| tv (blt rfl rfl) rfl <| nz <| nv fun bH au => cD rfl hp (fun av hp => ?_) fun av hp => ?_
 · refine sk au rfl <| nv fun aw ax => ?_
   have aa {ab ay} (hp : od.jn20 b ab = some B) : ∀ w, St E H [bx d 112 [.int .i64 a2.f.params, .int .i64 a2.f.result, v3, c, h, i, .int .i64 ab], m] w → aw (ovr ay [(0, .pointer (some ⟨d, 0, none⟩)), (2, l), (23, c), (24, .int .i64 (len a2.f.blocks)), (25, .int .i64 b)]) w := by
    exact tg ax <| nF <| tv (bad rfl rfl) rfl <| tm rfl <| nl <| gk hp [0, 1] ⟨_, _, _, rfl, nC _ _ rfl, rfl⟩
   refine nB <| sr <| tm rfl <| ti u39 i50 q hp rfl rfl rfl rfl ?_
   rintro a bI bJ _ hp ⟨j, k, n, rfl, Q, C, az⟩ aA
   refine tv (lR (ds := [j, k, .int .i64 a.term.kind, .int .i64 a.term.arg, n]) oY sH aA 0 rfl rfl rfl) rfl <| tl i50 rfl fun g => ta rfl <| tS 0 m50 rfl rfl [j, k, .int .i64 a.term.kind, .int .i64 a.term.arg, n] rfl (oc (Q).one (oc (C).one (oc rfl (oc rfl (oc (az).one oc0))))) rfl rfl <| nz <| nv fun aB aC => sr <| tv (fa oE rfl) rfl <| tv (lb s47 0 rfl rfl rfl) rfl <| tv (ln u47 Q rfl) rfl <| tm rfl <| nz <| nB <| bE hp fun aD aE aF => ?_
   have aG {S aH} (aI : S = aD) : ∀ w, St E H [bx d 112 [.int .i64 a2.f.params, .int .i64 a2.f.result, v3, c, h, i, .int .i64 S], m, bx g 50 [j, k, .int .i64 a.term.kind, .int .i64 a.term.arg, n]] w → aB (ovr aH [(0, .pointer (some ⟨d, 0, none⟩)), (2, l), (3, .int .i64 b), (4, .pointer (some ⟨g, 0, none⟩)), (23, c), (24, .int .i64 (len a2.f.blocks)), (25, .int .i64 b)]) w := by
    subst aI
    replace hp : od.nx29 a2 b a S = some B := aF
    refine tg aC <| nv fun aJ aK => sr <| tv (fa oB rfl) rfl <| tv (lb s48 2 rfl rfl rfl) rfl <| tv (ln u48 C rfl) rfl <| tm rfl <| nz <| nB <| bE hp fun aL aM aN => ?_
    have aO {D aP} (aQ : D = aL) : ∀ w, St E H [bx d 112 [.int .i64 a2.f.params, .int .i64 a2.f.result, v3, c, h, i, .int .i64 D], m, bx g 50 [j, k, .int .i64 a.term.kind, .int .i64 a.term.arg, n]] w → aJ (ovr aP [(0, .pointer (some ⟨d, 0, none⟩)), (2, l), (3, .int .i64 b), (4, .pointer (some ⟨g, 0, none⟩)), (23, c), (24, .int .i64 (len a2.f.blocks)), (25, .int .i64 b)]) w := by
     subst aQ
     replace hp : od.nx38 a2 b a D = some B := aN
     refine tg aK <| sr <| tv (fa oQ rfl) rfl <| tv (fa pp rfl) rfl <| tv (lb s3 2 rfl rfl rfl) rfl <| tv (bge rfl rfl) rfl <| nz <| cD rfl hp (fun aR hp => ?_) fun aR hp => ?_
     · refine nF <| tm rfl <| tv (fa oQ rfl) rfl <| tv (fa pp rfl) rfl <| tv (lb s3 2 rfl rfl rfl) rfl <| tm rfl <| tv (fa oB rfl) rfl <| tv (lb s48 2 rfl rfl rfl) rfl <| tv (ln u48 C rfl) rfl <| bE hp fun bK hy41 hp => tc 1 [_,_] rfl c75 (fun _ => sL (a2 := (⟨(⟨a2.f.params, a2.f.result, a2.f.regs, a2.f.blocks⟩ : ny), a2.makers, a2.over, D⟩ : oX)) (a12 := a.term.arg) (a13 := b) (a14 := (len a.ins)) (y.mono nw) (q.mono nw) (M.mono nw) (N.mono nw) hy41) rfl ?_
       rintro _ _ ⟨rfl, rfl⟩
       exact nl <| jn [0, 1] (aa hp)
     · exact TC.skip <| jn [0, 1] (aa hp)
    refine lp aM [0, 1, 2] rfl (fun s e L => ∃ F o ac, s = (F, o) ∧ e = ovr ac [(0, .pointer (some ⟨d, 0, none⟩)), (2, l), (3, .int .i64 b), (4, .pointer (some ⟨g, 0, none⟩)), (23, c), (24, .int .i64 (len a2.f.blocks)), (25, .int .i64 b), (69, k), (70, .int .i64 (len a.ins)), (71, .int .i64 o)] ∧ L = [bx d 112 [.int .i64 a2.f.params, .int .i64 a2.f.result, v3, c, h, i, .int .i64 F], m, bx g 50 [j, k, .int .i64 a.term.kind, .int .i64 a.term.arg, n]]) ⟨_, _, _, rfl, nC _ _ rfl, rfl⟩ ?_
    rintro _ _ _ ⟨F, o, ac, rfl, rfl, rfl⟩ ad hp aS
    replace hp : od.bd38 a2 b a F o = some ad := hp
    refine sr <| tv (blt rfl rfl) rfl <| nz <| nv fun bL aT => cD rfl hp (fun aU hp => ?_) fun aU hp => ?_
    · refine sk aT rfl <| nv fun aV aW => nB <| sr <| tm rfl <| ti u48 i52 C hp rfl rfl rfl rfl ?_
      rintro p bM bN _ hp ⟨T, rfl, U⟩ aX
      refine tv (lR (ds := [.int .i64 p.op, .int .i64 p.dst, T, .int .i64 p.imm, .int .i64 p.fn]) o5 sH aX 0 rfl rfl rfl) rfl <| tl i52 rfl fun bO => ta rfl <| tS 0 m52 rfl rfl [.int .i64 p.op, .int .i64 p.dst, T, .int .i64 p.imm, .int .i64 p.fn] rfl (oc rfl (oc rfl (oc (U).one (oc rfl (oc rfl oc0))))) rfl rfl <| nz <| sr <| tv (fa o6 rfl) rfl <| tv (lb s25 0 rfl rfl rfl) rfl <| tv (ln u25 U rfl) rfl <| tm rfl <| nz <| nB <| bE hp fun aY aZ a0 => ?_
      have a3 {V a4} (a5 : V = aY) : ∀ w, St E H [bx d 112 [.int .i64 a2.f.params, .int .i64 a2.f.result, v3, c, h, i, .int .i64 V], m, bx g 50 [j, k, .int .i64 a.term.kind, .int .i64 a.term.arg, n]] w → aV (ovr a4 [(0, .pointer (some ⟨d, 0, none⟩)), (2, l), (3, .int .i64 b), (4, .pointer (some ⟨g, 0, none⟩)), (23, c), (24, .int .i64 (len a2.f.blocks)), (25, .int .i64 b), (69, k), (70, .int .i64 (len a.ins)), (71, .int .i64 o)]) w := by
       subst a5
       replace hp : od.nx56 o V = some ad := a0
       exact tg aW <| nF <| tv (bad rfl rfl) rfl <| tm rfl <| nl <| gk hp [0, 1, 2] ⟨_, _, _, rfl, nC _ _ rfl, rfl⟩
      refine lp aZ [1, 2, 3] rfl (fun s e L => ∃ u G ae, s = (u, G) ∧ e = ovr ae [(0, .pointer (some ⟨d, 0, none⟩)), (2, l), (3, .int .i64 b), (4, .pointer (some ⟨g, 0, none⟩)), (10, .int .i64 o), (23, c), (24, .int .i64 (len a2.f.blocks)), (25, .int .i64 b), (69, k), (70, .int .i64 (len a.ins)), (71, .int .i64 o), (77, T), (78, .int .i64 (len p.args)), (79, .int .i64 G)] ∧ L = [bx d 112 [.int .i64 a2.f.params, .int .i64 a2.f.result, v3, c, h, i, .int .i64 u], m, bx g 50 [j, k, .int .i64 a.term.kind, .int .i64 a.term.arg, n]]) ⟨_, _, _, rfl, nC _ _ rfl, rfl⟩ ?_
      rintro _ _ _ ⟨u, G, ae, rfl, rfl, rfl⟩ a6 hp a7
      replace hp : od.bd56 a2 b o p u G = some a6 := hp
      refine sr <| tv (blt rfl rfl) rfl <| nz <| nv fun bP a8 => cD rfl hp (fun a9 hp => ?_) fun a9 hp => ?_
      · refine sk a8 rfl <| nv fun bQ ba => nB <| sr <| ti u25 i3 U hp rfl rfl rfl rfl ?_
        rintro bb bR bS _ hp rfl bc
        refine tv (lr s3 sH bc 0 rfl rfl) rfl <| ta rfl <| nz <| nF <| tm rfl <| tm rfl <| tm rfl <| tm rfl <| bE hp fun bT hy66 hp => tc 1 [_,_] rfl c75 (fun _ => sL (a2 := (⟨(⟨a2.f.params, a2.f.result, a2.f.regs, a2.f.blocks⟩ : ny), a2.makers, a2.over, u⟩ : oX)) (a12 := bb) (a13 := b) (a14 := o) (y.mono nw) (q.mono nw) (M.mono nw) (N.mono nw) hy66) rfl ?_
        rintro _ _ ⟨rfl, rfl⟩
        exact nl <| tg ba <| nF <| tv (bad rfl rfl) rfl <| tm rfl <| nl <| gk hp [0, 1, 2] ⟨_, _, _, rfl, nC _ _ rfl, rfl⟩
      · exact nN <| jn [0, 1, 2] (a3 (nK hp a7))
    · exact nN <| jn [0, 1, 2] (aO (nK hp aS))
   refine lp aE [1, 2, 0] rfl (fun s e L => ∃ I t af, s = (I, t) ∧ e = ovr af [(0, .pointer (some ⟨d, 0, none⟩)), (2, l), (3, .int .i64 b), (4, .pointer (some ⟨g, 0, none⟩)), (23, c), (24, .int .i64 (len a2.f.blocks)), (25, .int .i64 b), (31, j), (32, .int .i64 (len a.phis)), (33, .int .i64 t)] ∧ L = [bx d 112 [.int .i64 a2.f.params, .int .i64 a2.f.result, v3, c, h, i, .int .i64 I], m, bx g 50 [j, k, .int .i64 a.term.kind, .int .i64 a.term.arg, n]]) ⟨_, _, _, rfl, nC _ _ rfl, rfl⟩ ?_
   rintro _ _ _ ⟨I, t, af, rfl, rfl, rfl⟩ ag hp be
   replace hp : od.bd29 a2 O b a I t = some ag := hp
   refine sr <| tv (blt rfl rfl) rfl <| nz <| nv fun bU bf => cD rfl hp (fun bg hp => ?_) fun bg hp => ?_
   · refine sk bf rfl <| nv fun bh bi => nB <| sr <| ti u47 i70 Q hp rfl rfl rfl rfl ?_
     rintro J bV bW _ hp ⟨W, rfl, X⟩ bj
     refine tv (lR (ds := [.int .i64 J.dst, W]) p8 sH bj 0 rfl rfl rfl) rfl <| tl i70 rfl fun bX => tS 0 m70 rfl rfl [.int .i64 J.dst, W] rfl (oc rfl (oc (X).one oc0)) rfl rfl <| nz <| sr <| tv (fa py rfl) rfl <| tv (lb s25 0 rfl rfl rfl) rfl <| tv (ln u25 X rfl) rfl <| tm rfl <| nz <| nB <| bE hp fun bk bl bm => ?_
     have bn {Y bo} (bp : Y = bk) : ∀ w, St E H [bx d 112 [.int .i64 a2.f.params, .int .i64 a2.f.result, v3, c, h, i, .int .i64 Y], m, bx g 50 [j, k, .int .i64 a.term.kind, .int .i64 a.term.arg, n]] w → bh (ovr bo [(0, .pointer (some ⟨d, 0, none⟩)), (2, l), (3, .int .i64 b), (4, .pointer (some ⟨g, 0, none⟩)), (23, c), (24, .int .i64 (len a2.f.blocks)), (25, .int .i64 b), (31, j), (32, .int .i64 (len a.phis)), (33, .int .i64 t)]) w := by
      subst bp
      replace hp : od.nx85 t Y = some ag := bm
      exact tg bi <| nF <| tv (bad rfl rfl) rfl <| tm rfl <| nl <| gk hp [0, 1, 2] ⟨_, _, _, rfl, nC _ _ rfl, rfl⟩
     refine lp bl [1, 2, 3] rfl (fun s e L => ∃ x K ah, s = (x, K) ∧ e = ovr ah [(0, .pointer (some ⟨d, 0, none⟩)), (2, l), (3, .int .i64 b), (4, .pointer (some ⟨g, 0, none⟩)), (23, c), (24, .int .i64 (len a2.f.blocks)), (25, .int .i64 b), (31, j), (32, .int .i64 (len a.phis)), (33, .int .i64 t), (38, W), (39, .int .i64 (len J.args)), (40, .int .i64 K)] ∧ L = [bx d 112 [.int .i64 a2.f.params, .int .i64 a2.f.result, v3, c, h, i, .int .i64 x], m, bx g 50 [j, k, .int .i64 a.term.kind, .int .i64 a.term.arg, n]]) ⟨_, _, _, rfl, nC _ _ rfl, rfl⟩ ?_
     rintro _ _ _ ⟨x, K, ah, rfl, rfl, rfl⟩ bq hp br
     replace hp : od.bd85 a2 O b J x K = some bq := hp
     refine sr <| tv (blt rfl rfl) rfl <| nz <| nv fun bY bs => cD rfl hp (fun bt hp => ?_) fun bt hp => ?_
     · refine sk bs rfl <| nv fun bZ bu => nB <| sr <| tm rfl <| ti u25 i3 X hp rfl rfl rfl rfl ?_
       rintro bv b0 b1 _ hp rfl bw
       refine tv (lr s3 sH bw 0 rfl rfl) rfl <| ta rfl <| ta rfl <| nz <| sr <| tm rfl <| tm rfl <| ti u73 i25 (ai).ro hp rfl rfl rfl rfl ?_
       rintro b2 b3 b4 _ hp ⟨b5, rfl, bz⟩ bA
       refine tv (lr s25 (Src.at_ 1 rfl) bA 0 rfl rfl) rfl <| tm rfl <| ti u25 i3 bz hp rfl rfl rfl rfl ?_
       rintro bB b6 b7 _ hp rfl bC
       refine tv (lr s3 (Src.at_ 1 rfl) bC 0 rfl rfl) rfl <| ta rfl <| nz <| nF <| tm rfl <| tm rfl <| tm rfl <| tm rfl <| tv (nE rfl) rfl <| tv (fa sa rfl) rfl <| tv (fa oa rfl) rfl <| tv (lb s39 0 rfl rfl rfl) rfl <| tm rfl <| ti u39 i50 q hp rfl rfl rfl rfl ?_
       rintro bD b8 b9 _ hp ⟨ca, cb, cc, rfl, cd, bF, ce⟩ bG
       refine tv (fa oB rfl) rfl <| tv (lr s48 sH bG 1 rfl rfl) rfl <| tv (ln u48 bF rfl) rfl <| bE hp fun cf hy98 hp => tc 1 [_,_] rfl c75 (fun _ => sL (a2 := (⟨(⟨a2.f.params, a2.f.result, a2.f.regs, a2.f.blocks⟩ : ny), a2.makers, a2.over, x⟩ : oX)) (a12 := bv) (a13 := bB) (a14 := (len bD.ins)) (y.mono nw) (q.mono nw) (M.mono nw) (N.mono nw) hy98) rfl ?_
       rintro _ _ ⟨rfl, rfl⟩
       exact nl <| tg bu <| nF <| tv (bad rfl rfl) rfl <| tm rfl <| nl <| gk hp [0, 1, 2] ⟨_, _, _, rfl, nC _ _ rfl, rfl⟩
     · exact nN <| jn [0, 1, 2] (bn (nK hp br))
   · exact nN <| jn [0, 1, 2] (aG (nK hp be))
 · exact nN <| jn [0] (ao (nK hp ar))
end
end Go.Proofs.Ytpmcbahahjelnaa
