/- The region: deques, their operations, and the reference's operations. No conditions. -/
import Derived.Test.YtoflleabpkgdpaaTb
set_option linter.unusedVariables false
set_option linter.unusedSimpArgs false
namespace Go.Proofs.Ytoflleabpkgdpaa
open Go

structure Rgn where
  ds : List (Nat × QDeque)
  os : List (Nat × QOp)
  rs : List (Nat × POp)
def Rgn.zero : Rgn := ⟨[], [], []⟩
def dsC (x : QDeque) : List Value := arrC x.cells ++ [.int .i64 x.top, .int .i64 x.bottom, ptrV x.owner]
def osC (x : QOp) : List Value := [ptrV x.d, .int .i64 x.kind, .int .i64 x.at_, .int .i64 x.t, .int .i64 x.b, .int .i64 x.x, .int .i64 x.got]
def rsC (x : POp) : List Value := [.int .i64 x.kind, .int .i64 x.next, .int .i64 x.b, .int .i64 x.t, .int .i64 x.x, .int .i64 x.got, .bool x.won]
def rgF (R : Rgn) : FP := objs dsC 121 R.ds ++ (objs osC 123 R.os ++ objs rsC 127 R.rs)
def Rgn.names (R : Rgn) : List Nat := (rgF R).map (·.1)
def Rgn.set_ds (R : Rgn) (b : Nat) (x : QDeque) : Rgn := ⟨setL R.ds b x, R.os, R.rs⟩
def Rgn.set_os (R : Rgn) (b : Nat) (x : QOp) : Rgn := ⟨R.ds, setL R.os b x, R.rs⟩
def Rgn.set_rs (R : Rgn) (b : Nat) (x : POp) : Rgn := ⟨R.ds, R.os, setL R.rs b x⟩
def Rgn.add_ds (R : Rgn) (b : Nat) (x : QDeque) : Rgn := ⟨(b, x) :: R.ds, R.os, R.rs⟩
def Rgn.add_os (R : Rgn) (b : Nat) (x : QOp) : Rgn := ⟨R.ds, (b, x) :: R.os, R.rs⟩
def Rgn.add_rs (R : Rgn) (b : Nat) (x : POp) : Rgn := ⟨R.ds, R.os, (b, x) :: R.rs⟩
theorem spl_ds {R : Rgn} {b : Nat} {x : QDeque} (h : look R.ds b = some x) (y : QDeque) {cs cs' : List Value} (h1 : dsC x = cs) (h2 : dsC y = cs') : Spl (rgF R) (rgF (R.set_ds b y)) b 121 cs cs' := by
  subst h1 h2
  obtain ⟨A, B, e1, e2⟩ := objs_split dsC 121 R.ds h
  exact Spl.right ⟨A, B, e1, e2 y⟩ _
theorem spl_os {R : Rgn} {b : Nat} {x : QOp} (h : look R.os b = some x) (y : QOp) {cs cs' : List Value} (h1 : osC x = cs) (h2 : osC y = cs') : Spl (rgF R) (rgF (R.set_os b y)) b 123 cs cs' := by
  subst h1 h2
  obtain ⟨A, B, e1, e2⟩ := objs_split osC 123 R.os h
  exact Spl.left (Spl.right ⟨A, B, e1, e2 y⟩ _) _
theorem spl_rs {R : Rgn} {b : Nat} {x : POp} (h : look R.rs b = some x) (y : POp) {cs cs' : List Value} (h1 : rsC x = cs) (h2 : rsC y = cs') : Spl (rgF R) (rgF (R.set_rs b y)) b 127 cs cs' := by
  subst h1 h2
  obtain ⟨A, B, e1, e2⟩ := objs_split rsC 127 R.rs h
  exact Spl.left (Spl.left ⟨A, B, e1, e2 y⟩ _) _
theorem in_ds {R : Rgn} {b : Nat} {x : QDeque} (h : look R.ds b = some x) {cs : List Value} (h1 : dsC x = cs) : CellsIn (rgF R) b 0 cs := (spl_ds h x h1 rfl).cells
theorem in_os {R : Rgn} {b : Nat} {x : QOp} (h : look R.os b = some x) {cs : List Value} (h1 : osC x = cs) : CellsIn (rgF R) b 0 cs := (spl_os h x h1 rfl).cells
theorem in_rs {R : Rgn} {b : Nat} {x : POp} (h : look R.rs b = some x) {cs : List Value} (h1 : rsC x = cs) : CellsIn (rgF R) b 0 cs := (spl_rs h x h1 rfl).cells
theorem add_ds_perm (R : Rgn) (x : QDeque) {cs : List Value} (h : dsC x = cs) (b : Nat) : (rgF (R.add_ds b x)).Perm (bx b 121 cs ++ rgF R) := by subst h; exact List.Perm.refl _
theorem add_os_perm (R : Rgn) (x : QOp) {cs : List Value} (h : osC x = cs) (b : Nat) : (rgF (R.add_os b x)).Perm (bx b 123 cs ++ rgF R) := by
  subst h
  simp only [rgF, Rgn.add_os, objs, List.map_cons, bx, List.cons_append, List.nil_append]
  exact List.perm_middle
theorem add_rs_perm (R : Rgn) (x : POp) {cs : List Value} (h : rsC x = cs) (b : Nat) : (rgF (R.add_rs b x)).Perm (bx b 127 cs ++ rgF R) := by
  subst h
  simp only [rgF, Rgn.add_rs, objs, List.map_cons, bx, List.cons_append, List.nil_append, ← List.append_assoc]
  exact List.perm_middle
theorem Spl.inF {F F' : FP} {b T : Nat} {cs cs' : List Value} (h : Spl F F' b T cs cs') : InF F b := by
  obtain ⟨A, B, rfl, _⟩ := h
  exact ⟨_, _, List.mem_append_right _ (List.mem_cons_self ..)⟩
theorem eqP_some {α : Type} {l : List (Nat × α)} {p q : Option Nat} {t : Bool} (h : eqP l p q = some t) : t = decide (p = q) ∧ (∀ b, p = some b → ∃ x, look l b = some x) ∧ ∀ b, q = some b → ∃ x, look l b = some x := by
  unfold eqP at h
  split at h
  · rename_i hc
    refine ⟨(Option.some.inj h).symm, fun b hb => ?_, fun b hb => ?_⟩
    · have := hc.1; subst hb; exact Option.isSome_iff_exists.1 this
    · have := hc.2; subst hb; exact Option.isSome_iff_exists.1 this
  · cases h
theorem eq_ds {R : Rgn} {p q : Option Nat} {t : Bool} (h : eqP R.ds p q = some t) : (∀ b, p = some b → InF (rgF R) b) ∧ ∀ b, q = some b → InF (rgF R) b :=
  ⟨fun b hb => let ⟨x, hx⟩ := (eqP_some h).2.1 b hb; (spl_ds hx x rfl rfl).inF, fun b hb => let ⟨x, hx⟩ := (eqP_some h).2.2 b hb; (spl_ds hx x rfl rfl).inF⟩
theorem eq_os {R : Rgn} {p q : Option Nat} {t : Bool} (h : eqP R.os p q = some t) : (∀ b, p = some b → InF (rgF R) b) ∧ ∀ b, q = some b → InF (rgF R) b :=
  ⟨fun b hb => let ⟨x, hx⟩ := (eqP_some h).2.1 b hb; (spl_os hx x rfl rfl).inF, fun b hb => let ⟨x, hx⟩ := (eqP_some h).2.2 b hb; (spl_os hx x rfl rfl).inF⟩
theorem over_arr (a : A64) (l ds : List Value) : ∀ k, over (arrC a ++ l) (64 + k) ds = arrC a ++ over l k ds := by
  induction ds generalizing l with
  | nil => intro k; rfl
  | cons v r ih =>
    intro k
    rw [over, over, List.set_append_right _ _ (by rw [arrC_length]; omega), arrC_length, Nat.add_sub_cancel_left, Nat.add_assoc, ih]
theorem arr_ge (a : A64) (l : List Value) (k : Nat) : (arrC a ++ l)[64 + k]? = l[k]? := by
  rw [List.getElem?_append_right (by rw [arrC_length]; omega), arrC_length, Nat.add_sub_cancel_left]
theorem ds_len (a : A64) (l : List Value) : (arrC a ++ l).length = 64 + l.length := by rw [List.length_append, arrC_length]
theorem look_here {α : Type} (b : Nat) (x : α) (l : List (Nat × α)) : look ((b, x) :: l) b = some x := by simp [look]
def remO (m n : Int) : Option Int := if n = 0 then none else some (Int.tmod m n)
theorem remO_some {m n x : Int} (h : remO m n = some x) : n ≠ 0 := by
  unfold remO at h
  split at h
  · cases h
  · assumption
def in64 (i : Int) : Option Unit := if 0 ≤ i ∧ i < 64 then some () else none
theorem in64_some {i : Int} {u : Unit} (h : in64 i = some u) : 0 ≤ i ∧ i.toNat < 64 := by
  unfold in64 at h
  split at h
  · omega
  · cases h
end Go.Proofs.Ytoflleabpkgdpaa
