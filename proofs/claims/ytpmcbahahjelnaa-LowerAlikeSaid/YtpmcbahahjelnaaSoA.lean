/- By hand: what the kit's words on rows (Holds, putRow, grow) are in the framework's (St, SlO). No conditions. -/
import Derived.Test.YtpmcbahahjelnaaTb
import Derived.Sort.Grow
set_option linter.unusedVariables false
set_option linter.unusedSimpArgs false
namespace Go.Proofs.Ytpmcbahahjelnaa
open Go Go.Proofs Go.Sort

theorem holds_cells {α : Type} [Inhabited α] {enc : α → Value} {E : World} {H : FP} {L : List FP} {w : World} {b : Nat} {xs : List α} {post : List Value} {t : TypeId} {G : FP}
    (h : St E H (((b, Obj.cells (xs.map enc ++ post).toArray t (0, 0)) :: G) :: L) w) : Holds enc w b 0 xs.toArray ∧ b < w.heap.size := by
  have hb : w.heap[b]? = some (.cells (xs.map enc ++ post).toArray t (0, 0)) := h.atL (b, _) (by simp)
  refine ⟨fun j hj => ?_, (Array.getElem?_eq_some_iff.1 hb).1⟩
  have hj' : j < xs.length := by simpa using hj
  refine ⟨?_, ?_⟩
  · simp only [World.cell?, hb, Nat.zero_add, Option.isSome_none, Bool.false_eq_true, if_false, List.getElem?_toArray]
    rw [List.getElem?_append_left (by simpa using hj'), List.getElem?_map, List.getElem?_eq_getElem hj']
    simp [hj']
  · simp [World.frozen?, hb]

theorem putCells_list {α : Type} [Inhabited α] (enc : α → Value) (d : List α) (cs : List Value) (h : d.length ≤ cs.length) :
    putCells enc 0 d.toArray cs.toArray = (d.map enc ++ cs.drop d.length).toArray := by
  apply Array.ext_getElem?
  intro k
  simp only [putCells, Array.getElem?_mapIdx, List.getElem?_toArray, Nat.zero_le, true_and, Nat.zero_add, Nat.sub_zero, List.size_toArray]
  by_cases hk : k < d.length
  · rw [List.getElem?_append_left (by simpa using hk), List.getElem?_map, List.getElem?_eq_getElem hk, List.getElem?_eq_getElem (by omega : k < cs.length)]
    simp [hk]
  · rw [List.getElem?_append_right (by simpa using hk), List.length_map, List.getElem?_drop, show d.length + (k - d.length) = k by omega]
    cases cs[k]? <;> simp [hk]

/-- The row holds d, blocks were laid behind: the first chunk's first block changes so; all else stays. -/
theorem St.sorted {α : Type} [Inhabited α] {enc : α → Value} {E : World} {H : FP} {L : List FP} {w : World} {b : Nat} {cs : List Value} {t : TypeId} {G : FP}
    (h : St E H (((b, Obj.cells cs.toArray t (0, 0)) :: G) :: L) w) (n : Nat) (d : List α) (os : Array Obj) (hd : d.length ≤ cs.length) :
    St E H (((b, Obj.cells (d.map enc ++ cs.drop d.length).toArray t (0, 0)) :: G) :: L) (grow (putRow enc (Sort.ahead w n) b 0 d.toArray) os) := by
  have hb : w.heap[b]? = some (.cells cs.toArray t (0, 0)) := h.atL (b, _) (by simp)
  have key : ∀ (k : Nat) (o : Obj), w.heap[k]? = some o → (grow (putRow enc (Sort.ahead w n) b 0 d.toArray) os).heap[k]? = some (if b = k then onCells (putCells enc 0 d.toArray) o else o) := by
    intro k o hk
    have hlt : k < w.heap.size := (Array.getElem?_eq_some_iff.1 hk).1
    simp only [grow, putRow, mapBlock, Sort.ahead]
    rw [Array.getElem?_append_left (by simpa using hlt), Array.getElem?_modify]
    by_cases hbk : b = k
    · simp [hbk, hk]
    · simp [hbk, hk]
  have hn := h.nodup
  simp only [List.flatten_cons, List.cons_append, List.map_cons, List.nodup_cons] at hn
  refine ⟨h.os, h.tape, h.out, fun p hp => ?_, fun p hp => ?_, ?_, fun p hp q hq => ?_⟩
  · have : b ≠ p.1 := h.apart (b, Obj.cells cs.toArray t (0, 0)) (by simp) p hp
    rw [key _ _ (h.atH p hp), if_neg this]
  · simp only [List.flatten_cons, List.cons_append, List.mem_cons] at hp
    rcases hp with rfl | hp
    · rw [key _ _ hb, if_pos rfl]
      simp only [onCells, putCells_list enc d cs hd]
    · have : b ≠ p.1 := fun he => hn.1 (he ▸ List.mem_map_of_mem hp)
      rw [key _ _ (h.atL p (by simp only [List.flatten_cons, List.cons_append]; exact List.mem_cons_of_mem _ hp)), if_neg this]
  · simpa using hn
  · simp only [List.flatten_cons, List.cons_append, List.mem_cons] at hp
    rcases hp with rfl | hp
    · exact h.apart (b, Obj.cells cs.toArray t (0, 0)) (by simp) q hq
    · exact h.apart p (by simp only [List.flatten_cons, List.cons_append]; exact List.mem_cons_of_mem _ hp) q hq

/-! ### Rows of numbers -/
theorem repl_ints {xs : List Int} {css : List (List Value)} {G : FP} (h : RepL (kInt .i64) xs css G) : css.flatten = xs.map (Value.int .i64) ∧ G = [] := by
  induction h with
  | nil => exact ⟨rfl, rfl⟩
  | cons h _ ih => obtain ⟨rfl, rfl⟩ := h; exact ⟨by simp [ih.1], by simp [ih.2]⟩
theorem ints_repl (xs : List Int) : RepL (kInt .i64) xs (xs.map fun x => [.int .i64 x]) [] := by
  induction xs with
  | nil => exact .nil
  | cons x xs ih => exact RepL.cons (F := []) (G := []) ⟨rfl, rfl⟩ ih
theorem ints_flat (xs : List Int) : (xs.map fun x => [Value.int .i64 x]).flatten = xs.map (Value.int .i64) := by
  induction xs with
  | nil => rfl
  | cons x xs ih => simp only [List.map_cons, List.flatten_cons, ih]; rfl

/-! ### Rows of slices -/
theorem repl_sl {α : Type} {e : TypeId} {k : Kd α} {xs : List (List α)} {css : List (List Value)} {G : FP} (h : RepL (kSl e k) xs css G) :
    ∃ (vs : List Value) (Fs : List FP), css.flatten = vs ∧ G = Fs.flatten ∧ vs.length = xs.length ∧ Fs.length = xs.length ∧ ∀ (i : Nat) (x : List α) (v : Value) (F : FP), xs[i]? = some x → vs[i]? = some v → Fs[i]? = some F → SlO e k x v F := by
  induction h with
  | nil => exact ⟨[], [], rfl, rfl, rfl, rfl, fun i x v F h => by simp at h⟩
  | @cons x cs F xs css G h _ ih =>
    obtain ⟨v, rfl, hv⟩ := h
    obtain ⟨vs, Fs, h1, h2, h3, h4, h5⟩ := ih
    refine ⟨v :: vs, F :: Fs, by simp [h1], by simp [h2], by simp [h3], by simp [h4], fun i => ?_⟩
    cases i with
    | zero => intro x' v' F' e1 e2 e3; simp only [List.getElem?_cons_zero, Option.some.injEq] at e1 e2 e3; subst e1; subst e2; subst e3; exact hv
    | succ i => intro x' v' F' e1 e2 e3; exact h5 i x' v' F' (by simpa using e1) (by simpa using e2) (by simpa using e3)
theorem sl_repl {α : Type} {e : TypeId} {k : Kd α} : ∀ (xs : List (List α)) (vs : List Value) (Fs : List FP), vs.length = xs.length → Fs.length = xs.length →
    (∀ (i : Nat) (x : List α) (v : Value) (F : FP), xs[i]? = some x → vs[i]? = some v → Fs[i]? = some F → SlO e k x v F) → RepL (kSl e k) xs (vs.map fun v => [v]) Fs.flatten
  | [], [], [], _, _, _ => .nil
  | x :: xs, v :: vs, F :: Fs, h1, h2, h => by
    simp only [List.map_cons, List.flatten_cons]
    exact RepL.cons ⟨v, rfl, h 0 x v F rfl rfl rfl⟩ (sl_repl xs vs Fs (by simpa using h1) (by simpa using h2) fun i x' v' F' e1 e2 e3 => h (i + 1) x' v' F' (by simpa using e1) (by simpa using e2) (by simpa using e3))
theorem sl_flat (vs : List Value) : (vs.map fun v => [v]).flatten = vs := by
  induction vs with
  | nil => rfl
  | cons v vs ih => simp only [List.map_cons, List.flatten_cons, ih]; rfl

/-! ### Sorting -/
def ins1 (x : Int) : List Int → List Int
  | [] => [x]
  | y :: ys => if x ≤ y then x :: y :: ys else y :: ins1 x ys
def isort : List Int → List Int
  | [] => []
  | x :: xs => ins1 x (isort xs)
theorem ins1_perm (x : Int) (ys : List Int) : (ins1 x ys).Perm (x :: ys) := by
  induction ys with
  | nil => exact .refl _
  | cons y ys ih =>
    simp only [ins1]
    by_cases h : x ≤ y
    · rw [if_pos h]
    · rw [if_neg h]; exact (List.Perm.cons y ih).trans (.swap x y ys)
theorem isort_perm (xs : List Int) : (isort xs).Perm xs := by
  induction xs with
  | nil => exact .refl _
  | cons x xs ih => exact (ins1_perm x _).trans (.cons x ih)
theorem ins1_sorted (x : Int) {ys : List Int} (h : ys.Pairwise (· ≤ ·)) : (ins1 x ys).Pairwise (· ≤ ·) := by
  induction ys with
  | nil => simp [ins1]
  | cons y ys ih =>
    simp only [ins1]
    rw [List.pairwise_cons] at h
    by_cases hx : x ≤ y
    · rw [if_pos hx, List.pairwise_cons, List.pairwise_cons]
      exact ⟨fun z hz => by
        rcases List.mem_cons.1 hz with rfl | hz
        · exact hx
        · exact Int.le_trans hx (h.1 z hz), h⟩
    · rw [if_neg hx, List.pairwise_cons]
      refine ⟨fun z hz => ?_, ih h.2⟩
      rcases List.mem_cons.1 ((ins1_perm x ys).mem_iff.1 hz) with rfl | hz
      · omega
      · exact h.1 z hz
theorem isort_sorted (xs : List Int) : (isort xs).Pairwise (· ≤ ·) := by
  induction xs with
  | nil => exact .nil
  | cons x xs ih => exact ins1_sorted x ih
/-- Two sorted lists with the same elements are one. -/
theorem sorted_eq {β : Type} (f : β → Int) : ∀ {a b : List β}, a.Perm b → a.Pairwise (fun x y => f x ≤ f y) → b.Pairwise (fun x y => f x ≤ f y) → (∀ x, x ∈ a → ∀ y, y ∈ a → f x = f y → x = y) → a = b
  | [], b, h, _, _, _ => (List.nil_perm.1 h).symm
  | x :: a, [], h, _, _, _ => by simp at h
  | x :: a, y :: b, h, ha, hb, hf => by
    rw [List.pairwise_cons] at ha hb
    have hxy : x = y := by
      have hx : x ∈ y :: b := h.mem_iff.1 (List.mem_cons_self ..)
      have hy : y ∈ x :: a := h.mem_iff.2 (List.mem_cons_self ..)
      rcases List.mem_cons.1 hx with e | hx
      · exact e
      rcases List.mem_cons.1 hy with e | hy'
      · exact e.symm
      exact hf x (List.mem_cons_self ..) y hy (by have := ha.1 y hy'; have := hb.1 x hx; omega)
    subst hxy
    rw [sorted_eq f ((List.perm_cons x).1 h) ha.2 hb.2 fun z hz u hu => hf z (List.mem_cons_of_mem _ hz) u (List.mem_cons_of_mem _ hu)]
theorem isort_merge (xs : List Int) : xs.mergeSort (fun x y => decide (x ≤ y)) = isort xs := by
  refine sorted_eq id ((List.mergeSort_perm xs _).trans (isort_perm xs).symm) ?_ (isort_sorted xs) fun x _ y _ h => h
  have := List.pairwise_mergeSort (le := fun x y : Int => decide (x ≤ y)) (fun a b c => by simp; omega) (fun a b => by simp; omega) xs
  exact this.imp fun h => by simpa using h

/-! ### An element of one's own that is laid open late -/
section
variable {X : Cx} {Q : Post} {H : FP} {L : List FP} {e : Env} {ops : Array Oper} {rest l : List Oper} {d : Nat} {ty : TypeId} {pos : String} {af : Array Edge}
  {t E e' : TypeId} {x y : Operand} {α : Type} {k : Kd α} {xs : List α} {v z : Value} {G F : FP} {sz by_ b o fuel : Nat} {a : Int} {listed : Array Bool}
theorem tP {q : α} (ht : X.P.underlying t = some (.slice E)) (hs : inf X.P E z sz by_) (hv : SlO E k xs v F) (hq : idx xs a = some q) (hx : evO e x = v) (hy : evO e y = .int .i64 a)
    (hk : k.sz = sz) (hd : Nat.blt d X.n = true) (h : ∀ b o, ElAt E k xs v a.toNat b o → TL X ops Q H L rest (upd e d (.pointer (some ⟨b, o, none⟩)))) : TL X ops Q H L (⟨some d, .indexAddr t x y, ty, pos, af, none⟩ :: rest) e := by
  obtain ⟨b, o, h3, h4⟩ := rv_ixO (X := X) (H := H) (L := L) t x y ht hs hk hx hy hv (idx_some hq).1 (idx_some hq).2.1
  exact TL.v (ltb hd) h4 (h b o h3)
theorem hP {q : α} (i : Nat) (hi : ops[i]? = some ⟨some d, .indexAddr t x y, ty, pos, af, none⟩) (ht : X.P.underlying t = some (.slice E)) (hs : inf X.P E z sz by_) (hv : SlO E k xs v F) (hq : idx xs a = some q) (hx : evO e x = v) (hy : evO e y = .int .i64 a)
    (hk : k.sz = sz) (ho : hokB ops listed i = true) (hd : Nat.blt d X.n = true) (h : ∀ b o, ElAt E k xs v a.toNat b o → HL X ops G Q H L fuel (listed.setIfInBounds i true) (upd e d (.pointer (some ⟨b, o, none⟩)))) : HL X ops G Q H L (fuel + 1) listed e := by
  obtain ⟨b, o, h3, h4⟩ := rv_ixO (X := X) (H := G) (L := []) t x y ht hs hk hx hy hv (idx_some hq).1 (idx_some hq).2.1
  exact HL.v i hi trivial (hok1 ho) (hok2 ho) (hok3 ho) (ltb hd) h4 (h b o h3)
theorem tLP {xs : List (List α)} {q : List α} (hv : SlO E (kSl e' k) xs v F) (hq : idx xs a = some q) (hel : ElAt E (kSl e' k) xs v a.toNat b o) (hsc : scB X.P t = true) (hG : Src H L F) (hx : evO e x = .pointer (some ⟨b, o, none⟩)) (hd : Nat.blt d X.n = true)
    (h : ∀ u, SlI k F q u → CellsIn F b o [u] → TL X ops Q H L rest (upd e d u)) : TL X ops Q H L (⟨some d, .load t x, ty, pos, af, none⟩ :: rest) e := by
  obtain ⟨b', o', c, cs, h1, h2, h3, h4, h5⟩ := hv.ro.get hq
  obtain ⟨c', g1, g2, g3⟩ := hel
  rw [h1] at g1
  obtain ⟨rfl, rfl⟩ : b' = b ∧ o' = 0 := by simp at g1; exact g1.1
  obtain ⟨u, rfl, h6⟩ := h4
  rw [Nat.zero_add, ← g2] at h5
  exact TL.v (ltb hd) (rv_ld (j := 0) hsc hx hG h5 rfl rfl) (h u h6 h5)
theorem TL.openL {xs : List (List α)} {q : List α} {u : Value} (hv : SlO E (kSl e' k) xs v F) (hq : idx xs a = some q) (hel : ElAt E (kSl e' k) xs v a.toNat b o) (hc : CellsIn F b o [u])
    (h : ∀ Fh Fi, Hole E (kSl e' k) xs a.toNat v b [u] Fh → SlO e' k q u Fi → TL X ops Q H (Fh :: Fi :: L) l e) : TL X ops Q H (F :: L) l e := by
  intro w hw
  obtain ⟨b2, cs, Fh, Fi, h1, h2, hp⟩ := hv.open_ hq
  obtain ⟨u', rfl, h3⟩ := h2
  have hb : b2 = b := by
    obtain ⟨_, _, _, c, _, _, _, _, _, g, _⟩ := h1
    obtain ⟨c', g1, _⟩ := hel
    rw [g] at g1
    simp at g1; exact g1.1
  subst hb
  have hw' : St X.E H (Fh :: Fi :: L) w := hw.perm (by
    simp only [List.flatten_cons, ← List.append_assoc]
    exact List.Perm.append_right _ hp)
  have r1 := hw.range (G := F) (Src.at_ 0 rfl) hc 0 u rfl
  have r2 := hw'.range (G := Fh) (Src.at_ 0 rfl) h1.cells 0 u' rfl
  obtain ⟨c', _, g2, _⟩ := hel
  rw [g2] at r1
  have : u = u' := by
    have := r1.symm.trans r2
    exact Option.some.inj this
  subst this
  exact h Fh Fi h1 h3 w hw'
end

/-! ### min and max of two numbers -/
theorem bmin {X : Cx} {H : FP} {L : List FP} {e : Env} {x y : Operand} {ts : Array TypeId} {p q : Int} (hx : evO e x = .int .i64 p) (hy : evO e y = .int .i64 q) :
    RV X H L e (.call ⟨.builtin .min, #[x, y], ts⟩) (.int .i64 (if q < p then q else p)) :=
  fun w _ _ _ _ _ _ => by simp [execOp, resolve, invoke, builtin, Builtin.min_, Builtin.min2, hx, hy]
theorem bmax {X : Cx} {H : FP} {L : List FP} {e : Env} {x y : Operand} {ts : Array TypeId} {p q : Int} (hx : evO e x = .int .i64 p) (hy : evO e y = .int .i64 q) :
    RV X H L e (.call ⟨.builtin .max, #[x, y], ts⟩) (.int .i64 (if p < q then q else p)) :=
  fun w _ _ _ _ _ _ => by simp [execOp, resolve, invoke, builtin, Builtin.max_, Builtin.max2, hx, hy]
end Go.Proofs.Ytpmcbahahjelnaa
