/- The framework, part C: what single operations come to, on slots alone. No conditions. -/
import Derived.Test.YtpmcbahahjelnaaFwB
import Derived.WalkKit
import Derived.WalkSpells
import Derived.WideLaws
import Derived.Laws.StructEq
set_option linter.unusedVariables false
set_option linter.unusedSimpArgs false
namespace Go.Proofs.Ytpmcbahahjelnaa
open Go

theorem ibeq (m n : Int) : (m == n) = decide (m = n) := by by_cases h : m = n <;> simp [h]
section
variable {X : Cx} {Q : Post} {H : FP} {L : List FP} {e : Env} {ops : Array Oper} {rest : List Oper}

/-- What an operation hands back, the world being left as it is. -/
def RV (X : Cx) (H : FP) (L : List FP) (e : Env) (op : Op) (v : Value) : Prop :=
  ∀ w, St X.E H L w → ∀ (d : Option Nat) (ty : TypeId) (pos : String) (af : Array Edge) (g : Option (Nat × Bool)), (execOp (evO e) ⟨d, op, ty, pos, af, g⟩).run X.P w = .ok (.value v) w
/-- An operation that hands back a value and leaves the world as it is. -/
theorem TL.val {o : Oper} {d : Nat} {v : Value} (hg : o.guard = none) (hd : o.dst = some d) (hdn : d < X.n)
    (hrun : ∀ w, St X.E H L w → (execOp (evO e) o).run X.P w = .ok (.value v) w) (h : TL X ops Q H L rest (upd e d v)) : TL X ops Q H L (o :: rest) e := by
  intro w hw a ha
  refine wpList_plain hg fun K hK => ?_
  unfold Oper.wp
  rw [ha.eval, hrun w hw, Oper.upon_value, hd]
  exact hK _ _ (h w hw _ (ha.put hdn v))
/-- An operation with an effect: it hands back a value. -/
theorem TL.eff {o : Oper} (hg : o.guard = none) (hdn : ∀ d, o.dst = some d → d < X.n)
    (hrun : ∀ w, St X.E H L w → ∃ v w' L', (execOp (evO e) o).run X.P w = .ok (.value v) w' ∧ St X.E H L' w' ∧ TL X ops Q H L' rest (updO e o.dst v)) : TL X ops Q H L (o :: rest) e := by
  intro w hw a ha
  obtain ⟨v, w', L', hr, hw', h⟩ := hrun w hw
  refine wpList_plain hg fun K hK => ?_
  unfold Oper.wp
  rw [ha.eval, hr, Oper.upon_value]
  exact hK _ _ (h w' hw' _ (ha.putO hdn v))
/-- An operation with an effect alone (a store). -/
theorem TL.eff0 {o : Oper} (hg : o.guard = none) (hd : o.dst = none)
    (hrun : ∀ w, St X.E H L w → ∃ w' L', (execOp (evO e) o).run X.P w = .ok .skip w' ∧ St X.E H L' w' ∧ TL X ops Q H L' rest e) : TL X ops Q H L (o :: rest) e := by
  intro w hw a ha
  obtain ⟨w', L', hr, hw', h⟩ := hrun w hw
  refine wpList_plain hg fun K hK => ?_
  unfold Oper.wp
  rw [ha.eval, hr, Oper.upon_skip, hd]
  exact hK _ _ (h w' hw' _ ha)
/-- A call. -/
theorem TL.enter {o : Oper} {f : FuncId} {args : Array Value} (hg : o.guard = none) (hdn : ∀ d, o.dst = some d → d < X.n)
    (hrun : ∀ w, (execOp (evO e) o).run X.P w = .ok (.enter f args) w)
    (hc : ∀ w, St X.E H L w → Fn X.P f args w fun v w' => ∃ L', St X.E H L' w' ∧ TL X ops Q H L' rest (updO e o.dst v)) : TL X ops Q H L (o :: rest) e := by
  intro w hw a ha
  refine wpList_plain hg fun K hK => ?_
  unfold Oper.wp
  rw [ha.eval, hrun w]
  show Calls _ _ _ _ _
  refine Calls.mono (hc w hw) ?_
  rintro en w' ⟨v, rfl, L', hw', h⟩
  exact hK _ _ (h w' hw' _ (ha.putO hdn v))

/-- An operation under a guard: it is carried out. -/
theorem TL.gyes {dst : Option Nat} {op : Op} {ty : TypeId} {pos : String} {af : Array Edge} {j : Nat} {b : Bool} (t : Bool) (hy : yieldE ops e j = some t) (ht : t = b)
    (h : TL X ops Q H L (⟨dst, op, ty, pos, af, none⟩ :: rest) e) : TL X ops Q H L (⟨dst, op, ty, pos, af, some (j, b)⟩ :: rest) e := by
  intro w hw a ha
  have h1 := h w hw a ha
  subst ht
  unfold wpList at h1 ⊢
  rw [ha.wanted] at h1 ⊢
  have hw1 : Region.wanted ⟨dst, op, ty, pos, af, some (j, t)⟩ (yieldE ops e) = true := by simp [Region.wanted, hy]
  have hw2 : Region.wanted ⟨dst, op, ty, pos, af, none⟩ (yieldE ops e) = true := rfl
  rw [if_pos hw1]
  rw [if_pos hw2] at h1
  exact h1
/-- .. it isn't. -/
theorem TL.gno {o : Oper} {j : Nat} {b : Bool} (t : Bool) (hg : o.guard = some (j, b)) (hdn : ∀ d, o.dst = some d → d < X.n) (hy : yieldE ops e j = some t) (ht : t = !b)
    (h : TL X ops Q H L rest (updO e o.dst undef)) : TL X ops Q H L (o :: rest) e := by
  intro w hw a ha
  unfold wpList
  rw [ha.wanted]
  have hw1 : ¬ Region.wanted o (yieldE ops e) = true := by
    subst ht
    simp only [Region.wanted, hg, hy]
    cases b <;> simp
  rw [if_neg hw1]
  exact h w hw _ (ha.putO hdn _)
theorem TL.v {d : Nat} {op : Op} {ty : TypeId} {pos : String} {af : Array Edge} {v : Value} (hd : d < X.n) (hv : RV X H L e op v) (h : TL X ops Q H L rest (upd e d v)) : TL X ops Q H L (⟨some d, op, ty, pos, af, none⟩ :: rest) e :=
  TL.val rfl rfl hd (fun w hw => hv w hw _ _ _ _ _) h

/-! ### Values -/
variable {d : Nat} {ty : TypeId} {pos : String} {af : Array Edge}
theorem rv_mv {x : Operand} {v : Value} (hx : evO e x = v) : RV X H L e (.move x) (v) :=
  fun w _ _ _ _ _ _ => by rw [← hx]; rfl
theorem rv_as {x : Operand} {v : Value} (hx : evO e x = v) : RV X H L e (.assign x) (v) :=
  fun w _ _ _ _ _ _ => by rw [← hx]; rfl
theorem rv_pickT {c x y : Operand} {v : Value} (t : Bool) (hc : evO e c = .bool t) (ht : t = true) (hx : evO e x = v) : RV X H L e (.pick c x y) (v) :=
  fun w _ _ _ _ _ _ => by subst ht; simp [execOp, hc, hx, asBool]
theorem rv_pickF {c x y : Operand} {v : Value} (t : Bool) (hc : evO e c = .bool t) (ht : t = false) (hx : evO e y = v) : RV X H L e (.pick c x y) (v) :=
  fun w _ _ _ _ _ _ => by subst ht; simp [execOp, hc, hx, asBool]
theorem rv_nilCheck {x : Operand} {a : Addr} (hx : evO e x = .pointer (some a)) : RV X H L e (.nilCheck x) ((.pointer (some a))) :=
  fun w _ _ _ _ _ _ => by simp [execOp, hx]
theorem rv_extract {x : Operand} {i : Nat} {vs : Array Value} {v : Value} (hx : evO e x = .tuple vs) (hi : vs[i]? = some v) : RV X H L e (.extract x i) (v) :=
  fun w _ _ _ _ _ _ => by simp [execOp, hx, Instr.extract, hi]

variable {t t' : TypeId} {x y : Operand} {m n : Int} {k : IntKind}
theorem rv_add (hx : evO e x = .int k m) (hy : evO e y = .int k n) : RV X H L e (.binOp .add t x y t') ((.int k (k.wrap (m + n)))) :=
  fun w _ _ _ _ _ _ => by simp [execOp, eqGuard, binOp, Op.intArith, hx, hy]
theorem rv_sub (hx : evO e x = .int k m) (hy : evO e y = .int k n) : RV X H L e (.binOp .sub t x y t') ((.int k (k.wrap (m - n)))) :=
  fun w _ _ _ _ _ _ => by simp [execOp, eqGuard, binOp, Op.intArith, hx, hy]
theorem rv_mul (hx : evO e x = .int k m) (hy : evO e y = .int k n) : RV X H L e (.binOp .mul t x y t') ((.int k (k.wrap (m * n)))) :=
  fun w _ _ _ _ _ _ => by simp [execOp, eqGuard, binOp, Op.intArith, hx, hy]
theorem rv_rem (hx : evO e x = .int k m) (hy : evO e y = .int k n) (hn : n ≠ 0) : RV X H L e (.binOp .rem t x y t') ((.int k (m.tmod n))) :=
  fun w _ _ _ _ _ _ => by simp [execOp, eqGuard, binOp, Op.intDiv, hx, hy, hn]
theorem rv_quo (hx : evO e x = .int k m) (hy : evO e y = .int k n) (hn : n ≠ 0) : RV X H L e (.binOp .quo t x y t') ((.int k (k.wrap (m.tdiv n)))) :=
  fun w _ _ _ _ _ _ => by simp [execOp, eqGuard, binOp, Op.intDiv, hx, hy, hn]
theorem rv_lss (hx : evO e x = .int k m) (hy : evO e y = .int k n) : RV X H L e (.binOp .lss t x y t') ((.bool (decide (m < n)))) :=
  fun w _ _ _ _ _ _ => by simp [execOp, eqGuard, binOp, Op.intCmp, hx, hy]
theorem rv_leq (hx : evO e x = .int k m) (hy : evO e y = .int k n) : RV X H L e (.binOp .leq t x y t') ((.bool (decide (m ≤ n)))) :=
  fun w _ _ _ _ _ _ => by simp [execOp, eqGuard, binOp, Op.intCmp, hx, hy]
theorem rv_gtr (hx : evO e x = .int k m) (hy : evO e y = .int k n) : RV X H L e (.binOp .gtr t x y t') ((.bool (decide (m > n)))) :=
  fun w _ _ _ _ _ _ => by simp [execOp, eqGuard, binOp, Op.intCmp, hx, hy]
theorem rv_geq (hx : evO e x = .int k m) (hy : evO e y = .int k n) : RV X H L e (.binOp .geq t x y t') ((.bool (decide (m ≥ n)))) :=
  fun w _ _ _ _ _ _ => by simp [execOp, eqGuard, binOp, Op.intCmp, hx, hy]
theorem rv_eql (hx : evO e x = .int k m) (hy : evO e y = .int k n) : RV X H L e (.binOp .eql t x y t') ((.bool (decide (m = n)))) :=
  fun w _ _ _ _ _ _ => by simp [execOp, eqGuard, binOp, Op.intCmp, hx, hy, ibeq]
theorem rv_neq (hx : evO e x = .int k m) (hy : evO e y = .int k n) : RV X H L e (.binOp .neq t x y t') ((.bool (decide (¬ m = n)))) :=
  fun w _ _ _ _ _ _ => by simp [execOp, eqGuard, binOp, Op.intCmp, hx, hy, bne, ibeq]
theorem rv_not {b : Bool} (hx : evO e x = .bool b) : RV X H L e (.unOp .not t x) ((.bool (!b))) :=
  fun w _ _ _ _ _ _ => by simp [execOp, Op.unary, hx]
theorem rv_notD {p : Prop} [Decidable p] (hx : evO e x = .bool (decide p)) : RV X H L e (.unOp .not t x) ((.bool (decide (¬ p)))) :=
  fun w _ _ _ _ _ _ => by simp [execOp, Op.unary, hx]
theorem rv_neg (hx : evO e x = .int k m) : RV X H L e (.unOp .neg t x) ((.int k (k.wrap (0 - m)))) :=
  fun w _ _ _ _ _ _ => by simp [execOp, Op.unary, Op.intArith, hx]
theorem rv_eqlB {b c : Bool} (ht : X.P.underlying t = some .bool) (hx : evO e x = .bool b) (hy : evO e y = .bool c) : RV X H L e (.binOp .eql t x y t') ((.bool (b == c))) :=
  fun w _ _ _ _ _ _ => by simp [execOp, eqGuard, hx, hy, run_eql_bool _ t b c ht]
theorem rv_neqB {b c : Bool} (ht : X.P.underlying t = some .bool) (hx : evO e x = .bool b) (hy : evO e y = .bool c) : RV X H L e (.binOp .neq t x y t') ((.bool (!(b == c)))) :=
  fun w _ _ _ _ _ _ => by simp [execOp, eqGuard, hx, hy, run_neq_bool _ t b c ht]
/-- An error held against nil. -/
def isNil : Value → Bool
  | .nilIface => true
  | _ => false
def isErr : Value → Bool
  | .nilIface | .iface _ _ => true
  | _ => false
theorem rv_eqlN {v : Value} (ht : X.P.underlying t = some (.interface (X.P.methodsAt t))) (hv : isErr v = true) (hx : evO e x = v) : RV X H L e (.binOp .eql t x (.const .nilIface) t') ((.bool (isNil v))) :=
  fun w _ _ _ _ _ _ => by
    have hc : evO e (.const .nilIface) = .nilIface := rfl
    cases v <;> simp [isErr] at hv
    · rename_i u z; simp [execOp, eqGuard, hx, hc, run_eql_held_nil _ t u z ht, isNil]
    · simp [execOp, eqGuard, hx, hc, run_eql_nil_nil _ t ht, isNil]
theorem rv_neqN {v : Value} (ht : X.P.underlying t = some (.interface (X.P.methodsAt t))) (hv : isErr v = true) (hx : evO e x = v) : RV X H L e (.binOp .neq t x (.const .nilIface) t') ((.bool (!isNil v))) :=
  fun w _ _ _ _ _ _ => by
    have hc : evO e (.const .nilIface) = .nilIface := rfl
    cases v <;> simp [isErr] at hv
    · rename_i u z; simp [execOp, eqGuard, hx, hc, run_neq_held_nil _ t u z ht, isNil]
    · simp [execOp, eqGuard, hx, hc, run_neq_nil_nil _ t ht, isNil]

/-! ### Calls -/
def callB (P : Program) (f : FuncId) : Bool := match P.funcs[f]? with
  | some fn => fn.name != "runtime.NumGoroutine" && fn.body.isSome
  | none => false
theorem run_callFunc {P : Program} {f : FuncId} (h : callB P f = true) (args : Array Value) (w : World) : (callFunc f args).run P w = .ok (.enter f args) w := by
  unfold callB at h
  cases hf : P.funcs[f]? with
  | none => simp [hf] at h
  | some fn =>
    simp only [hf, Bool.and_eq_true, bne_iff_ne, ne_eq] at h
    have hb : fn.body.isNone = false := by cases hb : fn.body <;> simp [hb] at h ⊢
    have hn : (fn.name == "runtime.NumGoroutine") = false := by simpa using h.1
    simp [callFunc, hf, h.1]
    intro hz; rw [hz] at hb; simp at hb
variable {f : FuncId} {ats : Array TypeId} {R : Value → World → Prop}
/-- A call of a function by its name. -/
theorem TL.call {xs : List Operand} {vs : List Value} (hf : callB X.P f = true) (hd : d < X.n) (hvs : xs.map (evO e) = vs)
    (hc : ∀ w, St X.E H L w → Fn X.P f vs.toArray w R)
    (h : ∀ v w', R v w' → ∃ L', St X.E H L' w' ∧ TL X ops Q H L' rest (upd e d v)) :
    TL X ops Q H L (⟨some d, .call ⟨.value (.func f), xs.toArray, ats⟩, ty, pos, af, none⟩ :: rest) e :=
  TL.enter (f := f) (args := vs.toArray) rfl (fun x hx => by cases hx; exact hd)
    (fun w => by simp [execOp, resolve, evO, Deferred.ofValue, invoke, run_callFunc hf, hvs])
    (fun w hw => (hc w hw).mono fun v w' hr => h v w' hr)
/-- A call of a function value. -/
theorem TL.callv {z : Operand} {caps : List Value} {xs : List Operand} {vs : List Value} (hf : callB X.P f = true) (hd : d < X.n) (hz : evO e z = .func (.func f) #[] caps.toArray) (hvs : xs.map (evO e) = vs)
    (hc : ∀ w, St X.E H L w → Fn X.P f (vs ++ caps).toArray w R)
    (h : ∀ v w', R v w' → ∃ L', St X.E H L' w' ∧ TL X ops Q H L' rest (upd e d v)) :
    TL X ops Q H L (⟨some d, .call ⟨.value z, xs.toArray, ats⟩, ty, pos, af, none⟩ :: rest) e :=
  TL.enter (f := f) (args := (vs ++ caps).toArray) rfl (fun x hx => by cases hx; exact hd)
    (fun w => by simp [execOp, resolve, hz, Deferred.ofValue, invoke, run_callFunc hf, hvs])
    (fun w hw => (hc w hw).mono fun v w' hr => h v w' hr)
theorem rv_makeFunc {caps : List Operand} {vs : List Value} (hvs : caps.map (evO e) = vs) : RV X H L e (.makeFunc (.func f) #[] caps.toArray) ((.func (.func f) #[] vs.toArray)) :=
  fun w _ _ _ _ _ _ => by simp [execOp, Instr.makeFunc, hvs]
theorem rv_makeIface {v : Value} {ds : TypeDesc} (ht : X.P.underlying t = some ds) (hn : ∀ ms, ds ≠ .interface ms) (hx : evO e x = v) : RV X H L e (.makeInterface t x) ((.iface t v)) :=
  fun w _ _ _ _ _ _ => by
    cases ds <;> first | exact absurd rfl (hn _) | simp [execOp, Instr.makeInterface, run_underlying ht, hx]
end
end Go.Proofs.Ytpmcbahahjelnaa
