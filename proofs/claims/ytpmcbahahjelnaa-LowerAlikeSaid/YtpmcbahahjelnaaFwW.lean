/- The framework, part W: errors: none, a number, a place with an error. No conditions. -/
import Derived.Test.YtpmcbahahjelnaaFwV
import Derived.Lib.IfaceEq
import Derived.LaidEql
set_option linter.unusedVariables false
set_option linter.unusedSimpArgs false
namespace Go.Proofs.Ytpmcbahahjelnaa
open Go

inductive GErr where
  | no
  | code (c : Int)
  | spot (at_ : Int) (e : GErr)
  deriving DecidableEq
/-- An error of the call's own: tc the numbers' type, tp the pointers', ts the places'. -/
def ErO (tc tp ts : TypeId) : GErr → Value → FP → Prop
  | .no, v, F => v = .nilIface ∧ F = []
  | .code c, v, F => v = .iface tc (.int .i64 c) ∧ F = []
  | .spot a e, v, F => ∃ b u G, v = .iface tp (.pointer (some ⟨b, 0, none⟩)) ∧ F = bx b ts [.int .i64 a, u] ++ G ∧ ErO tc tp ts e u G
section
variable {tc tp ts : TypeId} {x : GErr} {v : Value} {F : FP}
theorem ErO.shp (h : ErO tc tp ts x v F) : v = .nilIface ∨ ∃ t u, v = .iface t u := by
  cases x with
  | no => exact .inl h.1
  | code c => exact .inr ⟨_, _, h.1⟩
  | spot a e => obtain ⟨b, u, G, h, _⟩ := h; exact .inr ⟨_, _, h⟩
theorem ErO.one (h : ErO tc tp ts x v F) : v.oneCell' = true := by
  rcases h.shp with rfl | ⟨_, _, rfl⟩ <;> rfl
theorem ErO.cells (h : ErO tc tp ts x v F) : v.cells.toList = [v] := by
  rcases h.shp with rfl | ⟨_, _, rfl⟩ <;> rfl
theorem ErO.nil : ErO tc tp ts .no .nilIface [] := ⟨rfl, rfl⟩
theorem ErO.mk (c : Int) : ErO tc tp ts (.code c) (.iface tc (.int .i64 c)) [] := ⟨rfl, rfl⟩
theorem ErO.at_ (a : Int) {u : Value} {G : FP} (b : Nat) (h : ErO tc tp ts x u G) : ErO tc tp ts (.spot a x) (.iface tp (.pointer (some ⟨b, 0, none⟩))) (bx b ts [.int .i64 a, u] ++ G) := ⟨b, u, G, rfl, rfl, h⟩
end
section
variable {X : Cx} {H : FP} {L : List FP} {e : Env} {tc tp ts t t' : TypeId} {x : GErr} {v : Value} {F : FP} {o p : Operand}
theorem rv_eqlEN (ht : X.P.underlying t = some (.interface (X.P.methodsAt t))) (h : ErO tc tp ts x v F) (hx : evO e o = v) : RV X H L e (.binOp .eql t o (.const .nilIface) t') (.bool (decide (x = GErr.no))) := by
  have hv : isErr v = true := by rcases h.shp with rfl | ⟨_, _, rfl⟩ <;> rfl
  have := rv_eqlN (H := H) (L := L) (t' := t') ht hv hx
  have he : isNil v = decide (x = GErr.no) := by
    cases x with
    | no => rw [h.1]; rfl
    | code c => rw [h.1]; rfl
    | spot a e => obtain ⟨b, u, G, h, _⟩ := h; rw [h]; rfl
  rwa [he] at this
theorem rv_neqEN (ht : X.P.underlying t = some (.interface (X.P.methodsAt t))) (h : ErO tc tp ts x v F) (hx : evO e o = v) : RV X H L e (.binOp .neq t o (.const .nilIface) t') (.bool (decide (¬ x = GErr.no))) := by
  have hv : isErr v = true := by rcases h.shp with rfl | ⟨_, _, rfl⟩ <;> rfl
  have := rv_neqN (H := H) (L := L) (t' := t') ht hv hx
  have he : (!isNil v) = decide (¬ x = GErr.no) := by
    cases x with
    | no => rw [h.1]; rfl
    | code c => rw [h.1]; rfl
    | spot a e => obtain ⟨b, u, G, h, _⟩ := h; rw [h]; rfl
  rwa [he] at this
theorem eql_errs {P : Program} {ms : Array (String × TypeId)} {te : TypeId} (ht : P.underlying t = some (.interface ms)) (hc : (P.info? tc).map (·.comparable) = some true) (hi : P.underlying tc = some (.int .i64)) (hp : P.underlying tp = some (.pointer te)) (hne : tc ≠ tp)
    (h : ErO tc tp ts x v F) (c : Int) (w : World) : (binOp .eql t v (.iface tc (.int .i64 c))).run P w = .ok (.bool (decide (x = GErr.code c))) w := by
  cases x with
  | no => rw [h.1, run_eql_iface_nil_left w _ _ ht]; rfl
  | code d =>
    rw [h.1, Lib.run_eql_iface_int w d c ht hc hi]
    have : (d == c) = decide (GErr.code d = GErr.code c) := by by_cases hdc : d = c <;> simp [hdc]
    rw [this]
  | spot a e =>
    obtain ⟨b, u, G, h, _⟩ := h
    have hf : ∀ d : Nat, (Op.equalIn (d + 1) t (.iface tp (.pointer (some ⟨b, 0, none⟩))) (.iface tc (.int .i64 c))).run P w = .ok false w := fun d => by
      simp [Op.equalIn, run_underlying ht, Ne.symm hne]
    rw [h]
    simp only [binOp]
    simp [Op.equal, Op.maxDepth, hf 9999]
theorem rv_eqlEC {te : TypeId} {c : Int} (ht : X.P.underlying t = some (.interface (X.P.methodsAt t))) (hc : (X.P.info? tc).map (·.comparable) = some true) (hi : X.P.underlying tc = some (.int .i64)) (hp : X.P.underlying tp = some (.pointer te)) (hne : tc ≠ tp) (h : ErO tc tp ts x v F) (hx : evO e o = v) (hy : evO e p = .iface tc (.int .i64 c)) :
    RV X H L e (.binOp .eql t o p t') (.bool (decide (x = GErr.code c))) :=
  fun w _ _ _ _ _ _ => by
    have := eql_errs ht hc hi hp hne h c w
    cases hv : v <;> rw [hv] at this <;> first
      | (rcases h.shp with h | ⟨_, _, h⟩ <;> rw [hv] at h <;> cases h; done)
      | (rw [hv] at hx; simp [execOp, eqGuard, hx, hy, this])
theorem rv_neqEC {te : TypeId} {c : Int} (ht : X.P.underlying t = some (.interface (X.P.methodsAt t))) (hc : (X.P.info? tc).map (·.comparable) = some true) (hi : X.P.underlying tc = some (.int .i64)) (hp : X.P.underlying tp = some (.pointer te)) (hne : tc ≠ tp) (h : ErO tc tp ts x v F) (hx : evO e o = v) (hy : evO e p = .iface tc (.int .i64 c)) :
    RV X H L e (.binOp .neq t o p t') (.bool (decide (¬ x = GErr.code c))) :=
  fun w _ _ _ _ _ _ => by
    have := eql_errs ht hc hi hp hne h c w
    have hn : (binOp .neq t v (.iface tc (.int .i64 c))).run X.P w = .ok (.bool (!decide (x = GErr.code c))) w := by
      simp only [binOp] at this ⊢
      simp only [Sem.run_bind] at this ⊢
      generalize (Op.equal t v (.iface tc (.int .i64 c))).run X.P w = r at this
      cases r with
      | ok y w' => simp at this ⊢; obtain ⟨rfl, rfl⟩ := this; simp
      | halt y w' => simp at this
    have he : (!decide (x = GErr.code c)) = decide (¬ x = GErr.code c) := by by_cases h : x = GErr.code c <;> simp [h]
    rw [he] at hn
    cases hv : v <;> rw [hv] at hn <;> first
      | (rcases h.shp with h | ⟨_, _, h⟩ <;> rw [hv] at h <;> cases h; done)
      | (rw [hv] at hx; simp [execOp, eqGuard, hx, hy, hn])
end
end Go.Proofs.Ytpmcbahahjelnaa
