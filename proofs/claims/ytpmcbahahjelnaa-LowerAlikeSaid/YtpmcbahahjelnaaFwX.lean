/- The framework, part X: rows of 64 numbers inside variables; bits, shifts, numbers turned to other kinds. No conditions. -/
import Derived.Test.YtpmcbahahjelnaaFwW
import Derived.ChangeKeysEq
set_option linter.unusedVariables false
set_option linter.unusedSimpArgs false
namespace Go.Proofs.Ytpmcbahahjelnaa
open Go

/-! ### 64 numbers -/
def A64 : Type := { l : List Int // l.length = 64 }
instance : DecidableEq A64 := inferInstanceAs (DecidableEq { l : List Int // l.length = 64 })
def A64.at_ (a : A64) (i : Nat) : Int := a.1.getD i 0
def A64.zero : A64 := ⟨List.replicate 64 0, by decide⟩
def A64.get (a : A64) (i : Int) : Option Int := idx a.1 i
def A64.put (a : A64) (i x : Int) : A64 := ⟨a.1.set i.toNat x, by rw [List.length_set]; exact a.2⟩
def arrC (a : A64) : List Value := (List.range 64).map fun i => .int .i64 (a.at_ i)
theorem arrC_map (a : A64) : arrC a = a.1.map (Value.int .i64) := by
  apply List.ext_getElem
  · simp [arrC, a.2]
  · intro i h1 h2
    simp only [List.length_map] at h2
    simp [arrC, A64.at_, h2]
theorem arrC_length (a : A64) : (arrC a).length = 64 := by simp [arrC]
theorem arr_one (a : A64) : ∀ c, c ∈ arrC a → c.oneCell' = true := by
  intro c hc
  rw [arrC_map, List.mem_map] at hc
  obtain ⟨x, _, rfl⟩ := hc; rfl
theorem one_app {l l' : List Value} (h : ∀ c, c ∈ l → c.oneCell' = true) (h' : ∀ c, c ∈ l' → c.oneCell' = true) : ∀ c, c ∈ l ++ l' → c.oneCell' = true := fun c hc => (List.mem_append.1 hc).elim (h c) (h' c)
theorem A64.get_some {a : A64} {i x : Int} (h : a.get i = some x) : 0 ≤ i ∧ i.toNat < 64 ∧ (arrC a)[i.toNat]? = some (.int .i64 x) := by
  obtain ⟨h0, h1, h2⟩ := idx_some h
  have := a.2
  refine ⟨h0, by omega, ?_⟩
  rw [arrC_map, List.getElem?_map, h2]; rfl
theorem A64.get_in {a : A64} {i : Int} (h0 : 0 ≤ i) (h1 : i < 64) : ∃ x, a.get i = some x := by
  have := a.2
  have h : i.toNat < a.1.length := by omega
  exact ⟨a.1[i.toNat], by simp only [A64.get, idx, if_pos h0]; exact List.getElem?_eq_getElem h⟩
theorem arr_at {pre post cs : List Value} {a : A64} {i x : Int} {off : Nat} (hc : cs = pre ++ (arrC a ++ post)) (hp : pre.length = off) (h : a.get i = some x) : cs[off + i.toNat]? = some (.int .i64 x) := by
  obtain ⟨_, h1, h2⟩ := A64.get_some h
  subst hc hp
  rw [List.getElem?_append_right (by omega), Nat.add_sub_cancel_left, List.getElem?_append_left (by rw [arrC_length]; exact h1)]
  exact h2
theorem arr_over {pre post cs ds : List Value} {a : A64} {i x y : Int} {off : Nat} (hc : cs = pre ++ (arrC a ++ post)) (hp : pre.length = off) (h : a.get i = some x) (hd : ds = pre ++ (arrC (a.put i y) ++ post)) : over cs (off + i.toNat) [.int .i64 y] = ds := by
  obtain ⟨_, h1, h2⟩ := A64.get_some h
  subst hc hp hd
  show (pre ++ (arrC a ++ post)).set (pre.length + i.toNat) (.int .i64 y) = _
  rw [List.set_append_right _ _ (by omega), Nat.add_sub_cancel_left, List.set_append_left _ _ (by rw [arrC_length]; exact h1)]
  congr 2
  rw [arrC_map, arrC_map, A64.put, List.map_set]
theorem over_all {cs ds : List Value} (h : ds.length = cs.length) : over cs 0 ds = ds := by
  rw [over_eq _ _ _ (by omega)]
  simp only [List.take_zero, List.nil_append, Nat.zero_add]
  rw [List.drop_eq_nil_of_le (by omega), List.append_nil]
theorem arr_fit {pre post cs : List Value} {a : A64} {i x : Int} {off : Nat} (hc : cs = pre ++ (arrC a ++ post)) (hp : pre.length = off) (h : a.get i = some x) : off + i.toNat + 1 ≤ cs.length := by
  obtain ⟨_, h1, _⟩ := A64.get_some h
  subst hc hp
  simp only [List.length_append, arrC_length]; omega
section
variable {X : Cx} {Q : Post} {H : FP} {L : List FP} {e : Env} {ops : Array Oper} {rest : List Oper} {ty : TypeId} {pos : String} {af : Array Edge} {t t' E : TypeId} {x y : Operand} {z : Value} {by_ : Nat}
/-- The place of an element. -/
theorem rv_ixA {b o : Nat} {i : Int} (ht : X.P.underlying t = some (.array 64 E)) (hs : inf X.P E z 1 by_) (hx : evO e x = .pointer (some ⟨b, o, none⟩)) (hy : evO e y = .int .i64 i) (h0 : 0 ≤ i) (h1 : i.toNat < 64) :
    RV X H L e (.indexAddr t x y) (.pointer (some ⟨b, o + i.toNat, none⟩)) := by
  intro w _ _ _ _ _ _
  have hle : i < (64 : Int) := by omega
  simp [execOp, Instr.indexAt, Instr.sureAddr, asIntOf, run_underlying ht, hs.size, hx, hy, h0, hle, Addr.add]
theorem eqItems_ints {P : Program} {d : Nat} {k k' : IntKind} (hs : P.cellsOf E = 1) (hp : P.plainKey E = true) (he : P.underlying E = some (.int k')) (xs ys : List Int) (w : World) (hl : xs.length = ys.length) : ∀ is : List Nat, (∀ i ∈ is, i < xs.length) →
    (Op.eqItems (d + 1) E 1 (xs.map (Value.int k)).toArray (ys.map (Value.int k)).toArray is).run P w = .ok (is.all fun i => xs.getD i 0 == ys.getD i 0) w
  | [], _ => by simp [Op.eqItems]
  | i :: is, h => by
    have hi := h i (by simp)
    have h1 : (xs.map (Value.int k)).toArray[i * 1]? = some (.int k (xs.getD i 0)) := by simp [List.getElem?_map, hi]
    have h2 : (ys.map (Value.int k)).toArray[i * 1]? = some (.int k (ys.getD i 0)) := by
      have : i < ys.length := by omega
      simp [List.getElem?_map, this]
    simp only [Op.eqItems, Sem.run_bind, run_part_plain w hp h1, run_part_plain w hp h2, Result.andThen_ok, run_equalIn_int w d E k k' _ _ he]
    cases hb : (xs.getD i 0 == ys.getD i 0) with
    | false => simp only [List.all_cons, hb, Bool.false_and, Bool.not_false, if_true, Sem.run_pure]
    | true => simp only [List.all_cons, hb, Bool.true_and, Bool.not_true, Bool.false_eq_true, if_false]; exact eqItems_ints hs hp he xs ys w hl is (fun j hj => h j (List.mem_cons_of_mem _ hj))
theorem rv_eqlA {k' : IntKind} {a b : A64} (ht : X.P.underlying t = some (.array 64 E)) (hi : inf X.P E z 1 by_) (hs : X.P.cellsOf E = 1) (hp : X.P.plainKey E = true) (he : X.P.underlying E = some (.int k')) (hm : X.P.eqGuardType X.P.depth t = false) (hx : evO e x = .agg (arrC a).toArray) (hy : evO e y = .agg (arrC b).toArray) :
    RV X H L e (.binOp .eql t x y t') (.bool (decide (a = b))) := by
  intro w _ _ _ _ _ _
  obtain ⟨i, hi', _⟩ := hi.get
  have h1 := run_equalIn_array (P := X.P) w 9999 (arrC a).toArray (arrC b).toArray ht hi'
  rw [hs, arrC_map, arrC_map, eqItems_ints hs hp he a.1 b.1 w (by rw [a.2, b.2]) (List.range 64) (fun j hj => by rw [a.2]; exact List.mem_range.1 hj)] at h1
  have hd : ((List.range 64).all fun i => a.1.getD i 0 == b.1.getD i 0) = decide (a = b) := by
    rw [Bool.eq_iff_iff, decide_eq_true_eq, List.all_eq_true]
    constructor
    · intro h
      apply Subtype.ext
      apply List.ext_getElem (by rw [a.2, b.2])
      intro j g1 g2
      have := h j (List.mem_range.2 (by rw [← a.2]; exact g1))
      simpa [g1, g2] using this
    · rintro rfl j _; simp
  rw [hd] at h1
  rw [arrC_map] at hx hy
  have hg := run_eqGuard_agg (P := X.P) w .eql t x y (a.1.map (Value.int .i64)).toArray (b.1.map (Value.int .i64)).toArray hm
  have hb := run_eql_struct (P := X.P) w t (a.1.map (Value.int .i64)).toArray (b.1.map (Value.int .i64)).toArray
  rw [h1] at hb
  simp [execOp, hx, hy, hg, hb]

/-! ### Bits, shifts, kinds -/
def bitw (op : BinOp) (x y : Int) : Int :=
  match op with
  | .and => IntKind.i64.wrap (((x % 18446744073709551616).toNat &&& (y % 18446744073709551616).toNat : Nat) : Int)
  | .or => IntKind.i64.wrap (((x % 18446744073709551616).toNat ||| (y % 18446744073709551616).toNat : Nat) : Int)
  | .xor => IntKind.i64.wrap (((x % 18446744073709551616).toNat ^^^ (y % 18446744073709551616).toNat : Nat) : Int)
  | _ => 0
def u64of (x : Int) : Int := IntKind.u64.wrap x
def andU (x y : Int) : Int := IntKind.u64.wrap (((x % 18446744073709551616).toNat &&& (y % 18446744073709551616).toNat : Nat) : Int)
def shlw (x y : Int) : Int := IntKind.i64.wrap (x * 2 ^ (min y.toNat 64))
def shrw (x y : Int) : Int := x.fdiv (2 ^ (min y.toNat 64))
variable {m n : Int}
theorem bv_and : (BitVec.ofInt 64 m &&& BitVec.ofInt 64 n).toNat = (m % 18446744073709551616).toNat &&& (n % 18446744073709551616).toNat := by
  rw [BitVec.toNat_and, BitVec.toNat_ofInt, BitVec.toNat_ofInt]; rfl
theorem bv_or : (BitVec.ofInt 64 m ||| BitVec.ofInt 64 n).toNat = (m % 18446744073709551616).toNat ||| (n % 18446744073709551616).toNat := by
  rw [BitVec.toNat_or, BitVec.toNat_ofInt, BitVec.toNat_ofInt]; rfl
theorem bv_xor : (BitVec.ofInt 64 m ^^^ BitVec.ofInt 64 n).toNat = (m % 18446744073709551616).toNat ^^^ (n % 18446744073709551616).toNat := by
  rw [BitVec.toNat_xor, BitVec.toNat_ofInt, BitVec.toNat_ofInt]; rfl
theorem rv_and (hx : evO e x = .int .i64 m) (hy : evO e y = .int .i64 n) : RV X H L e (.binOp .and t x y t') (.int .i64 (bitw .and m n)) :=
  fun w _ _ _ _ _ _ => by
    simp [execOp, eqGuard, binOp, Op.intBits, hx, hy, bitw, IntKind.bits]
    exact congrArg (fun (q : Nat) => IntKind.i64.wrap (q : Int)) bv_and
theorem rv_or (hx : evO e x = .int .i64 m) (hy : evO e y = .int .i64 n) : RV X H L e (.binOp .or t x y t') (.int .i64 (bitw .or m n)) :=
  fun w _ _ _ _ _ _ => by
    simp [execOp, eqGuard, binOp, Op.intBits, hx, hy, bitw, IntKind.bits]
    exact congrArg (fun (q : Nat) => IntKind.i64.wrap (q : Int)) bv_or
theorem rv_xor (hx : evO e x = .int .i64 m) (hy : evO e y = .int .i64 n) : RV X H L e (.binOp .xor t x y t') (.int .i64 (bitw .xor m n)) :=
  fun w _ _ _ _ _ _ => by
    simp [execOp, eqGuard, binOp, Op.intBits, hx, hy, bitw, IntKind.bits]
    exact congrArg (fun (q : Nat) => IntKind.i64.wrap (q : Int)) bv_xor
theorem rv_andU (hx : evO e x = .int .u64 m) (hy : evO e y = .int .u64 n) : RV X H L e (.binOp .and t x y t') (.int .u64 (andU m n)) :=
  fun w _ _ _ _ _ _ => by
    simp [execOp, eqGuard, binOp, Op.intBits, hx, hy, andU, IntKind.bits]
    exact congrArg (fun (q : Nat) => IntKind.u64.wrap (q : Int)) bv_and
theorem rv_shl {k : IntKind} (h0 : ¬ n < 0) (hx : evO e x = .int .i64 m) (hy : evO e y = .int k n) : RV X H L e (.binOp .shl t x y t') (.int .i64 (shlw m n)) :=
  fun w _ _ _ _ _ _ => by simp [execOp, eqGuard, binOp, Op.shift, hx, hy, h0, shlw, IntKind.bits]
theorem rv_shr {k : IntKind} (h0 : ¬ n < 0) (hx : evO e x = .int .i64 m) (hy : evO e y = .int k n) : RV X H L e (.binOp .shr t x y t') (.int .i64 (shrw m n)) :=
  fun w _ _ _ _ _ _ => by simp [execOp, eqGuard, binOp, Op.shift, hx, hy, h0, shrw, IntKind.bits]
theorem andU_nn (x y : Int) : ¬ andU x y < 0 := by
  unfold andU
  generalize ((x % 18446744073709551616).toNat &&& (y % 18446744073709551616).toNat : Nat) = q
  simp only [IntKind.wrap, IntKind.signed, IntKind.bits, IntKind.min]
  simp
  omega
theorem rv_toU {k : IntKind} (hs : (X.P.underlying t).isSome = true) (hd : X.P.underlying t' = some (.int .u64)) (hx : evO e x = .int k m) : RV X H L e (.convert t t' x) (.int .u64 (u64of m)) :=
  fun w _ _ _ _ _ _ => by
    have hk : X.P.intKind t' = .u64 := by simp [Program.intKind, hd]
    have := run_convert_int (P := X.P) w t t' k m hs (by rw [hd, hk])
    simp [execOp, hx, this, hk, u64of]
theorem TC.empty {c : Code} {F : FP} (h : TC X c Q H (F :: [] :: L) e) : TC X c Q H (F :: L) e := TC.perm (by simp) h
/-- A chunk spelled otherwise. -/
theorem TL.respell {l : List Oper} {b T : Nat} {cs ds : List Value} (j : Nat) (hj : L[j]? = some (bx b T cs)) (hd : cs = ds) (h : TL X ops Q H (L.set j (bx b T ds)) l e) : TL X ops Q H L l e := by
  subst hd
  have : L.set j (bx b T cs) = L := by
    obtain ⟨hl, he⟩ := List.getElem?_eq_some_iff.1 hj
    rw [← he]; exact List.set_getElem_self hl
  rwa [this] at h
end
end Go.Proofs.Ytpmcbahahjelnaa
