/- The framework, part B: the judgements TC (code) and TL (a region's operations), their rules; calls. No conditions. -/
import Derived.Test.YtpmcbahahjelnaaFwA
set_option linter.unusedVariables false
set_option linter.unusedSimpArgs false
namespace Go.Proofs.Ytpmcbahahjelnaa
open Go

/-- The program, how many slots the function has, the world's outer part. -/
structure Cx where
  P : Program
  n : Nat
  E : World

abbrev Post := Exit → Env → World → Prop
def lift (n : Nat) (Q : Post) : Exit → Act → World → Prop := fun x a w =>
  match x with
  | .panic _ => False
  | .outgrown => False
  | .goto _ => False
  | x => ∃ e, Agr n a e ∧ Q x e w

def Then (K : Env → World → Prop) (Q : Post) : Post
  | .normal, e, w => K e w
  | x, e, w => Q x e w
def InB (id : Nat) (Q : Post) : Post
  | .exit i, e, w => if i = id then Q .normal e w else Q (.exit i) e w
  | x, e, w => Q x e w

theorem lift_mono {n : Nat} {Q Q' : Post} (h : ∀ x e w, Q x e w → Q' x e w) : ∀ x a w, lift n Q x a w → lift n Q' x a w := by
  intro x a w hq
  cases x <;> first | exact hq | exact let ⟨e, ha, hk⟩ := hq; ⟨e, ha, h _ _ _ hk⟩

def WC (X : Cx) (c : Code) (Q : Post) (e : Env) (w : World) : Prop := ∀ a, Agr X.n a e → c.wp X.P (lift X.n Q) a w
def TC (X : Cx) (c : Code) (Q : Post) (H : FP) (L : List FP) (e : Env) : Prop := ∀ w, St X.E H L w → WC X c Q e w
def TL (X : Cx) (ops : Array Oper) (Q : Post) (H : FP) (L : List FP) (l : List Oper) (e : Env) : Prop :=
  ∀ w, St X.E H L w → ∀ a, Agr X.n a e → wpList X.P ops (lift X.n Q) l a w

section
variable {X : Cx} {Q : Post} {H : FP} {L : List FP} {e : Env}

theorem WC.mono {c : Code} {Q' : Post} {w : World} (h : WC X c Q e w) (hq : ∀ x e w, Q x e w → Q' x e w) : WC X c Q' e w :=
  fun a ha => wp_mono (h a ha) (lift_mono hq)

theorem TC.seq {x y : Code} (h : ∀ K : Env → World → Prop, (∀ e w, WC X y Q e w → K e w) → TC X x (Then K Q) H L e) : TC X (.seq x y) Q H L e := by
  intro w hw a ha
  refine wp_seq (wp_mono (h _ (fun e w h => h) w hw a ha) ?_)
  intro ex a w hq
  cases ex with
  | normal =>
    obtain ⟨e, ha, hk⟩ := hq
    exact hk a ha
  | exit id => exact hq
  | goto l => exact hq.elim
  | ret => exact hq
  | panic c => exact hq.elim
  | outgrown => exact hq.elim

theorem TC.cond {c : Operand} {x y : Code} (t : Bool) (hc : evO e c = .bool t) (h : TC X (if t then x else y) Q H L e) : TC X (.cond c x y) Q H L e :=
  fun w hw a ha => wp_cond (by rw [ha.eval]; exact hc) (h w hw a ha)
theorem TC.condT {c : Operand} {x y : Code} (hc : evO e c = .bool true) (h : TC X x Q H L e) : TC X (.cond c x y) Q H L e := TC.cond true hc h
theorem TC.condF {c : Operand} {x y : Code} (hc : evO e c = .bool false) (h : TC X y Q H L e) : TC X (.cond c x y) Q H L e := TC.cond false hc h

theorem TC.block {id : Nat} {c : Code} (h : TC X c (InB id Q) H L e) : TC X (.block id c) Q H L e := by
  intro w hw a ha
  refine wp_block (wp_mono (h w hw a ha) ?_)
  intro ex a w hq
  cases ex with
  | normal => exact hq
  | exit i =>
    obtain ⟨e, ha, hk⟩ := hq
    by_cases hi : i = id
    · simp only [InB, if_pos hi] at hk
      simp only [Exit.inBlock, if_pos hi]
      exact ⟨e, ha, hk⟩
    · simp only [InB, if_neg hi] at hk
      simp only [Exit.inBlock, if_neg hi]
      exact ⟨e, ha, hk⟩
  | goto l => exact hq.elim
  | ret => exact hq
  | panic c => exact hq.elim
  | outgrown => exact hq.elim

theorem TC.skip (h : ∀ w, St X.E H L w → Q .normal e w) : TC X .skip Q H L e :=
  fun w hw a ha => wp_skip ⟨e, ha, h w hw⟩
theorem TC.exit {id : Nat} (h : ∀ w, St X.E H L w → Q (.exit id) e w) : TC X (.exit id) Q H L e :=
  fun w hw a ha => wp_exit ⟨e, ha, h w hw⟩
theorem TC.ret (h : ∀ w, St X.E H L w → Q .ret e w) : TC X .ret Q H L e :=
  fun w hw a ha => wp_ret ⟨e, ha, h w hw⟩
theorem TC.region {id : Nat} {l : List Oper} (h : TL X l.toArray Q H L l e) : TC X (.region id l.toArray false) Q H L e :=
  fun w hw a ha => wp_region_lit (h w hw a ha)
theorem TL.nil {ops : Array Oper} (h : ∀ w, St X.E H L w → Q .normal e w) : TL X ops Q H L [] e :=
  fun w hw a ha => wpList_nil ⟨e, ha, h w hw⟩
theorem TL.next {ops : Array Oper} {K : Env → World → Prop} {y : Code} {Q' : Post} (hK : ∀ e w, WC X y Q' e w → K e w) (h : TC X y Q' H L e) : TL X ops (Then K Q) H L [] e :=
  TL.nil fun w hw => hK e w (h w hw)
theorem TC.next {K : Env → World → Prop} {y : Code} {Q' : Post} (hK : ∀ e w, WC X y Q' e w → K e w) (h : TC X y Q' H L e) : TC X .skip (Then K Q) H L e :=
  TC.skip fun w hw => hK e w (h w hw)

theorem TC.pick {c : Code} (is : List Nat) (h : TC X c Q H (pk L is) e) : TC X c Q H L e := fun w hw => h w (hw.pick is)
theorem TL.pick {ops : Array Oper} {l : List Oper} (is : List Nat) (h : TL X ops Q H (pk L is) l e) : TL X ops Q H L l e := fun w hw => h w (hw.pick is)
theorem TC.perm {c : Code} {L' : List FP} (hp : L'.flatten.Perm L.flatten) (h : TC X c Q H L' e) : TC X c Q H L e := fun w hw => h w (hw.perm hp)
theorem TL.perm {ops : Array Oper} {l : List Oper} {L' : List FP} (hp : L'.flatten.Perm L.flatten) (h : TL X ops Q H L' l e) : TL X ops Q H L l e := fun w hw => h w (hw.perm hp)

/-! ### Loops: by a bound on the rounds -/
/-- One round at a time. -/
def TR (X : Cx) (c : Code) (Q : Post) (k : Nat) (e : Env) (w : World) : Prop := ∀ a, Agr X.n a e → Code.rounds X.P c (lift X.n Q) k a w
theorem TR.succ {c : Code} {k : Nat} {w : World} (h : WC X c (Then (fun e w => TR X c Q k e w) Q) e w) : TR X c Q (k + 1) e w := by
  intro a ha
  rw [rounds_succ]
  refine wp_mono (h a ha) ?_
  intro ex a w hq
  cases ex with
  | normal =>
    obtain ⟨e, ha, hk⟩ := hq
    exact hk a ha
  | exit id => exact hq
  | goto l => exact hq.elim
  | ret => exact hq
  | panic c => exact hq.elim
  | outgrown => exact hq.elim
theorem TC.rounds {c : Code} (k : Nat) (h : ∀ w, St X.E H L w → TR X c Q k e w) : TC X (.loop c) Q H L e :=
  fun w hw a ha => wp_loop_rounds k (h w hw a ha)
end

/-! ### Pure loops -/
inductive Ex (ρ σ : Type) where
  | ret (r : ρ)
  | go (s : σ)
def whl {ρ σ : Type} (body : σ → Option (Ex ρ σ)) : Nat → σ → Option ρ
  | 0, _ => none
  | k + 1, s => (body s).bind fun
    | .ret r => some r
    | .go s => whl body k s
/-- A 'for' loop: I tells how slots and chunks stand for the pure state at a round's head. -/
theorem TC.loopW {X : Cx} {Q : Post} {H : FP} {c : Code} {ρ σ : Type} {body : σ → Option (Ex ρ σ)} {r : ρ} (I : σ → Env → List FP → Prop)
    (step : ∀ s e L, I s e L → ∀ x, body s = some x → (x = .ret r ∨ ∃ s', x = .go s') →
      TC X c (Then (fun e w => ∃ s' L', x = .go s' ∧ I s' e L' ∧ St X.E H L' w) Q) H L e) :
    ∀ (k : Nat) (s : σ) (e : Env) (L : List FP), whl body k s = some r → I s e L → TC X (.loop c) Q H L e := by
  have key : ∀ (k : Nat) (s : σ) (e : Env) (L : List FP), whl body k s = some r → I s e L → ∀ w, St X.E H L w → TR X c Q k e w := by
    intro k
    induction k with
    | zero => intro s e L h; simp [whl] at h
    | succ k ih =>
      intro s e L h hI w hw
      simp only [whl] at h
      obtain ⟨x, hx, h⟩ := Option.bind_eq_some_iff.1 h
      refine TR.succ ((step s e L hI x hx ?_ w hw).mono ?_)
      · cases x with
        | ret r' => simp at h; exact .inl (by rw [h])
        | go s' => exact .inr ⟨s', rfl⟩
      · intro ex e' w' hq
        cases ex with
        | normal =>
          obtain ⟨s', L', rfl, hI', hw'⟩ := hq
          exact ih s' e' L' h hI' w' hw'
        | _ => exact hq
  exact fun k s e L h hI => TC.rounds k (key k s e L h hI)

/-! ### Functions -/
/-- The call returns a value, as R says. -/
def Fn (P : Program) (f : FuncId) (args : Array Value) (w : World) (R : Value → World → Prop) : Prop :=
  Calls P f args w fun e w' => ∃ v, e = .returned v ∧ R v w'
theorem Fn.mono {P : Program} {f : FuncId} {args : Array Value} {w : World} {R R' : Value → World → Prop} (h : Fn P f args w R) (hr : ∀ v w', R v w' → R' v w') : Fn P f args w R' :=
  Calls.mono h fun _ _ ⟨v, he, hv⟩ => ⟨v, he, hr _ _ hv⟩
/-- What is handed back, as the slots stand. -/
def resE (rs : List ResultVar) (e : Env) : Value :=
  match rs with
  | [.tmp t] => e t
  | [.tmp t, .tmp u] => .tuple #[e t, e u]
  | [.tmp t, .tmp u, .tmp v] => .tuple #[e t, e u, e v]
  | _ => .tuple #[]
def resOk : List ResultVar → Bool
  | [] | [.tmp _] | [.tmp _, .tmp _] | [.tmp _, .tmp _, .tmp _] => true
  | _ => false
theorem results_E {fn : Func} {n : Nat} {a : Act} {e : Env} (ha : Agr n a e) (rs : List ResultVar) (hr : fn.results = rs.toArray) (hok : resOk rs = true) (P : Program) (w : World) :
    (results fn a.tmps).run P w = .ok (resE rs e) w := by
  unfold results
  rw [hr]
  match rs, hok with
  | [], _ => simp [resE]
  | [.tmp t], _ => simp [resE, ha.get]
  | [.tmp t, .tmp u], _ => simp [resE, ha.get]
  | [.tmp t, .tmp u, .tmp v], _ => simp [resE, ha.get]
def env0 (args : List Value) : Env := fun d => args.getD d undef
def BodyQ (rs : List ResultVar) (R : Value → World → Prop) : Post
  | .normal, e, w => R (resE rs e) w
  | .ret, e, w => R (resE rs e) w
  | _, _, _ => False
theorem Fn.body {P : Program} {f : FuncId} {fn : Func} {c : Code} {args : List Value} {w : World} {R : Value → World → Prop} (E : World) (H : FP) (L : List FP)
    (rs : List ResultVar) (n : Nat) (hf : P.funcs[f]? = some fn) (hb : fn.body = some c) (hrs : fn.results = rs.toArray) (hok : resOk rs = true) (hn : fn.ntmps = n) (hle : args.length ≤ n)
    (hst : St E H L w) (h : TC ⟨P, n, E⟩ c (BodyQ rs R) H L (env0 args)) : Fn P f args.toArray w R := by
  refine calls_of_wp hf hb (wp_mono (h w hst _ ?_) ?_)
  · subst hn
    refine ⟨by simp; omega, fun d => ?_, rfl⟩
    simp only [env0]
    rcases Nat.lt_or_ge d args.length with hd | hd
    · simp [Array.getD_eq_getD_getElem?, List.getD_eq_getElem?_getD, Array.getElem?_append, hd]
    · simp only [Array.getD_eq_getD_getElem?, List.getD_eq_getElem?_getD, Array.getElem?_append, List.size_toArray, Nat.not_lt.2 hd, if_false, List.getElem?_eq_none hd, Array.getElem?_replicate]
      split <;> rfl
  · intro ex a w' hq
    cases ex with
    | normal =>
      obtain ⟨e, ha, hk⟩ := hq
      exact ⟨ha.defers, _, results_E ha rs hrs hok P w', _, rfl, hk⟩
    | ret =>
      obtain ⟨e, ha, hk⟩ := hq
      exact ⟨ha.defers, _, results_E ha rs hrs hok P w', _, rfl, hk⟩
    | exit id => obtain ⟨e, ha, hk⟩ := hq; exact hk.elim
    | goto l => exact hq.elim
    | panic c => exact hq.elim
    | outgrown => exact hq.elim
end Go.Proofs.Ytpmcbahahjelnaa
