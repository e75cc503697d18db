/- The framework, part P: arrays of two numbers, laid as structs of two. No conditions. -/
import Derived.Test.YtpmcbahahjelnaaFwZ
set_option linter.unusedVariables false
set_option linter.unusedSimpArgs false
namespace Go.Proofs.Ytpmcbahahjelnaa
open Go
section
variable {X : Cx} {H : FP} {L : List FP} {e : Env} {t E : TypeId} {x y : Operand} {z : Value} {by_ : Nat}
/-- The j-th element of an array behind a pointer. -/
theorem ixP {b o : Nat} (j : Nat) (ht : X.P.underlying t = some (.array 2 E)) (hs : inf X.P E z 1 by_) (hj : Nat.blt j 2 = true) (hx : evO e x = .pointer (some ⟨b, o, none⟩)) (hy : evO e y = .int .i64 (j : Int)) :
    RV X H L e (.indexAddr t x y) (.pointer (some ⟨b, o + j, none⟩)) := by
  intro w _ _ _ _ _ _
  have hj2 := ltb hj
  rcases (by omega : j = 0 ∨ j = 1) with rfl | rfl <;> simp [execOp, Instr.indexAt, Instr.sureAddr, asIntOf, run_underlying ht, hs.size, hx, hy, Addr.add]
/-- .. a variable's. -/
def pget (a b k : Int) : Option Int := if k = 0 then some a else if k = 1 then some b else none
theorem pget_at {a b k q : Int} (h : pget a b k = some q) : [Value.int .i64 a, Value.int .i64 b][k.toNat]? = some (.int .i64 q) := by
  unfold pget at h
  split at h
  · rename_i hk; subst hk; cases h; rfl
  · split at h
    · rename_i hk; subst hk; cases h; rfl
    · cases h
theorem ixQ {a b k q : Int} {bk o : Nat} (ht : X.P.underlying t = some (.array 2 E)) (hs : inf X.P E z 1 by_) (hq : pget a b k = some q) (hx : evO e x = .pointer (some ⟨bk, o, none⟩)) (hy : evO e y = .int .i64 k) :
    RV X H L e (.indexAddr t x y) (.pointer (some ⟨bk, o + k.toNat, none⟩)) := by
  intro w _ _ _ _ _ _
  unfold pget at hq
  have hk : k = 0 ∨ k = 1 := by
    split at hq
    · exact .inl ‹_›
    · split at hq
      · exact .inr ‹_›
      · cases hq
  rcases hk with rfl | rfl <;> simp [execOp, Instr.indexAt, Instr.sureAddr, asIntOf, run_underlying ht, hs.size, hx, hy, Addr.add]
/-- The j-th element of an array. -/
theorem ixV {u v : Value} (j : Nat) (ht : X.P.underlying t = some (.array 2 E)) (hs : inf X.P E z 1 by_) (hsc : scB X.P E = true) (hj : Nat.blt j 2 = true) (hx : evO e x = .agg #[u, v]) (hy : evO e y = .int .i64 (j : Int)) :
    RV X H L e (.index t x y) (if j = 0 then u else v) := by
  intro w _ _ _ _ _ _
  have hj2 := ltb hj
  have h1 : (j : Int) < (2 : Int) := by omega
  have h0 : (0 : Int) ≤ j := by omega
  have ha := run_scB hsc w
  rcases (by omega : j = 0 ∨ j = 1) with rfl | rfl <;> simp [execOp, Instr.index, asIntOf, run_underlying ht, hs.size, hx, hy, part, ha]
/-- Two of them held against each other. -/
theorem eqP2 {k : IntKind} {a b c d : Int} {t' : TypeId} (ht : X.P.underlying t = some (.array 2 E)) (hi : inf X.P E z 1 by_) (hs : X.P.cellsOf E = 1) (hp : X.P.plainKey E = true) (he : X.P.underlying E = some (.int k)) (hm : X.P.eqGuardType X.P.depth t = false) (hx : evO e x = .agg #[.int k a, .int k b]) (hy : evO e y = .agg #[.int k c, .int k d]) :
    RV X H L e (.binOp .eql t x y t') (.bool (decide (a = c ∧ b = d))) := by
  intro w _ _ _ _ _ _
  obtain ⟨i, hi', _⟩ := hi.get
  have h1 := run_equalIn_array (P := X.P) w 9999 #[.int k a, .int k b] #[.int k c, .int k d] ht hi'
  have h2 := eqItems_ints (P := X.P) (d := 9998) (k := k) hs hp he [a, b] [c, d] w rfl (List.range 2) (fun j hj => by simpa using List.mem_range.1 hj)
  rw [hs] at h1
  rw [show (#[Value.int k a, Value.int k b] : Array Value) = ([a, b].map (Value.int k)).toArray from rfl, show (#[Value.int k c, Value.int k d] : Array Value) = ([c, d].map (Value.int k)).toArray from rfl, h2] at h1
  have hd : ((List.range 2).all fun i => [a, b].getD i 0 == [c, d].getD i 0) = decide (a = c ∧ b = d) := by
    rw [Bool.eq_iff_iff, decide_eq_true_eq, show List.range 2 = [0, 1] from rfl]
    simp
  rw [hd] at h1
  rw [show (#[Value.int k a, Value.int k b] : Array Value) = ([a, b].map (Value.int k)).toArray from rfl] at hx
  rw [show (#[Value.int k c, Value.int k d] : Array Value) = ([c, d].map (Value.int k)).toArray from rfl] at hy
  have hg := run_eqGuard_agg (P := X.P) w .eql t x y ([a, b].map (Value.int k)).toArray ([c, d].map (Value.int k)).toArray hm
  have hb := run_eql_struct (P := X.P) w t ([a, b].map (Value.int k)).toArray ([c, d].map (Value.int k)).toArray
  rw [h1] at hb
  generalize ([a, b].map (Value.int k)).toArray = A at hx hg hb
  generalize ([c, d].map (Value.int k)).toArray = B at hy hg hb
  simp only [execOp, Sem.run_bind, hx, hy, hg, hb, Result.andThen_ok]
  rfl
end
end Go.Proofs.Ytpmcbahahjelnaa
