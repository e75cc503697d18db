/- The framework, part E: operations on memory. No conditions. -/
import Derived.Test.YtpmcbahahjelnaaFwD
import Derived.KernelRfl
set_option linter.unusedVariables false
set_option linter.unusedSimpArgs false
namespace Go.Proofs.Ytpmcbahahjelnaa
open Go

/-! ### A struct or variable of one's own, its cells written out -/
def bx (b T : Nat) (cs : List Value) : FP := [(b, Obj.cells cs.toArray T (0, 0))]
theorem bx_cells (b T : Nat) (cs : List Value) : CellsIn (bx b T cs) b 0 cs :=
  ⟨_, _, _, List.mem_singleton_self _, fun j v hv => by rw [Nat.zero_add, List.getElem?_toArray]; exact hv⟩
def over (l : List Value) : Nat → List Value → List Value
  | _, [] => l
  | o, v :: r => over (l.set o v) (o + 1) r
theorem over_length (ds : List Value) : ∀ (l : List Value) (o : Nat), (over l o ds).length = l.length := by
  induction ds with
  | nil => intro l o; rfl
  | cons v r ih => intro l o; rw [over, ih, List.length_set]

def inf (P : Program) (e : TypeId) (z : Value) (sz by_ : Nat) : Prop := (P.info? e).map (fun i => (i.zero, i.size, i.bytes)) = some (some z, sz, by_)
theorem inf.get {P : Program} {e : TypeId} {z : Value} {sz by_ : Nat} (h : inf P e z sz by_) : ∃ i, P.info? e = some i ∧ i.zero = some z ∧ i.size = sz ∧ i.bytes = by_ := by
  obtain ⟨i, hi, h⟩ := Option.map_eq_some_iff.1 h
  simp only [Prod.mk.injEq] at h
  exact ⟨i, hi, h.1, h.2.1, h.2.2⟩
theorem inf.size {P : Program} {e : TypeId} {z : Value} {sz by_ : Nat} (h : inf P e z sz by_) (w : World) : (sizeOf e).run P w = .ok sz w := by
  obtain ⟨i, hi, _, hs, _⟩ := h.get
  simp [sizeOf, typeInfo, hi, hs]
theorem inf.zero {P : Program} {e : TypeId} {z : Value} {sz by_ : Nat} (h : inf P e z sz by_) (w : World) : (zeroValue e).run P w = .ok z w := by
  obtain ⟨i, hi, hz, _, _⟩ := h.get
  simp [zeroValue, typeInfo, hi, hz]

/-! ### What a step does to the chunks -/
theorem St.alloc {E : World} {H : FP} {L : List FP} {w : World} (h : St E H L w) (o : Obj) : St E H ([(w.heap.size, o)] :: L) (w.alloc o) := by
  refine ⟨h.os, h.tape, h.out, fun p hp => (heap_alloc_old w o (h.ltH hp)).trans (h.atH p hp), fun p hp => ?_, ?_, fun p hp q hq => ?_⟩
  · simp only [List.flatten_cons, List.cons_append, List.nil_append, List.mem_cons] at hp
    rcases hp with rfl | hp
    · exact heap_alloc_new w o
    · exact (heap_alloc_old w o (h.lt hp)).trans (h.atL p hp)
  · simp only [List.flatten_cons, List.cons_append, List.nil_append, List.map_cons, List.nodup_cons]
    refine ⟨fun hm => ?_, h.nodup⟩
    obtain ⟨p, hp, he⟩ := List.mem_map.1 hm
    have := h.lt hp
    omega
  · simp only [List.flatten_cons, List.cons_append, List.nil_append, List.mem_cons] at hp
    have hq' := h.ltH hq
    rcases hp with rfl | hp
    · show w.heap.size ≠ q.1; omega
    · exact h.apart p hp q hq
theorem heap_setCells {b : Nat} {t : TypeId} : ∀ (ds : List Value) (o : Nat) (cs : List Value) (w : World), w.heap[b]? = some (.cells cs.toArray t (0, 0)) →
    (w.setCells b o ds).heap[b]? = some (.cells (over cs o ds).toArray t (0, 0)) ∧ (∀ k, k ≠ b → (w.setCells b o ds).heap[k]? = w.heap[k]?) ∧
      (w.setCells b o ds).os = w.os ∧ (w.setCells b o ds).tape = w.tape ∧ (w.setCells b o ds).output = w.output := by
  intro ds
  induction ds with
  | nil => intro o cs w h; exact ⟨h, fun _ _ => rfl, rfl, rfl, rfl⟩
  | cons v r ih =>
    intro o cs w h
    have h1 := heap_setCell_same w b o _ t v h
    rw [List.setIfInBounds_toArray] at h1
    obtain ⟨g1, g2, g3, g4, g5⟩ := ih (o + 1) (cs.set o v) (w.setCell ⟨b, o, none⟩ v) h1
    exact ⟨g1, fun k hk => (g2 k hk).trans (heap_setCell_other w ⟨b, o, none⟩ k v hk), g3, g4, g5⟩
/-- Cells of the first chunk's first block are written. -/
theorem St.write {E : World} {H : FP} {L : List FP} {w : World} {b : Nat} {cs : List Value} {t : TypeId} {G : FP} (h : St E H (((b, Obj.cells cs.toArray t (0, 0)) :: G) :: L) w) (o : Nat) (ds : List Value) :
    St E H (((b, Obj.cells (over cs o ds).toArray t (0, 0)) :: G) :: L) (w.setCells b o ds) := by
  have hb : w.heap[b]? = some (.cells cs.toArray t (0, 0)) := h.atL (b, _) (by simp)
  obtain ⟨g1, g2, g3, g4, g5⟩ := heap_setCells ds o cs w hb
  have hn := h.nodup
  simp only [List.flatten_cons, List.cons_append, List.map_cons, List.nodup_cons] at hn
  refine ⟨g3.trans h.os, g4.trans h.tape, g5.trans h.out, fun p hp => ?_, fun p hp => ?_, ?_, fun p hp q hq => ?_⟩
  · have : p.1 ≠ b := fun he => h.apart (b, Obj.cells cs.toArray t (0, 0)) (by simp) p hp he.symm
    exact (g2 _ this).trans (h.atH p hp)
  · simp only [List.flatten_cons, List.cons_append, List.mem_cons] at hp
    rcases hp with rfl | hp
    · exact g1
    · have : p.1 ≠ b := fun he => hn.1 (he ▸ List.mem_map_of_mem hp)
      exact (g2 _ this).trans (h.atL p (by simp only [List.flatten_cons, List.cons_append]; exact List.mem_cons_of_mem _ hp))
  · simpa using hn
  · simp only [List.flatten_cons, List.cons_append, List.mem_cons] at hp
    rcases hp with rfl | hp
    · exact h.apart (b, Obj.cells cs.toArray t (0, 0)) (by simp) q hq
    · exact h.apart p (by simp only [List.flatten_cons, List.cons_append]; exact List.mem_cons_of_mem _ hp) q hq
theorem St.there {E : World} {H : FP} {L : List FP} {w : World} {b : Nat} {cs : List Value} {t : TypeId} {G : FP} (h : St E H (((b, Obj.cells cs.toArray t (0, 0)) :: G) :: L) w) {o n : Nat} (hl : o + n ≤ cs.length) : w.there b o n := by
  have hb : w.heap[b]? = some (.cells cs.toArray t (0, 0)) := h.atL (b, _) (by simp)
  intro j hj
  refine ⟨?_, frozen_of_row w b _ _ t hb⟩
  simp only [World.cell?, hb, Option.isSome_none, Bool.false_eq_true, if_false, List.getElem?_toArray]
  rw [List.getElem?_eq_getElem (by omega)]
  rfl

section
variable {X : Cx} {Q : Post} {H : FP} {L : List FP} {e : Env} {ops : Array Oper} {rest : List Oper} {d : Nat} {ty : TypeId} {pos : String} {af : Array Edge}
  {t E : TypeId} {x y : Operand} {α : Type} {k : Kd α} {xs : List α} {v z : Value} {G : FP} {sz by_ : Nat}

theorem rv_lenI {u : TypeId} (ht : X.P.underlying u = some (.slice E)) (hx : evO e x = v) (h : SlI k G xs v) : RV X H L e (.call ⟨.builtin .len, #[x], #[u]⟩) ((.int .i64 (len xs))) :=
  fun w _ _ _ _ _ _ => by
    obtain ⟨A, c, rfl⟩ := h.len
    simp [execOp, resolve, invoke, builtin, Builtin.len_, run_underlying ht, hx, goInt, len]

/-- The place of a field. -/
def faB (P : Program) (s i off : Nat) : Bool :=
  match P.underlying s with
  | some (.struct fs) => match fs[i]? with
    | some f => f.offset == off && (match P.info? f.type with | some j => j.size != 0 | none => false)
    | none => false
  | _ => false
theorem rv_fa {s i off b o : Nat} (hf : faB X.P s i off = true) (hx : evO e x = .pointer (some ⟨b, o, none⟩)) : RV X H L e (.fieldAddr s x i) ((.pointer (some ⟨b, o + off, none⟩))) :=
  fun w _ _ _ _ _ _ => by
    unfold faB at hf
    cases hu : X.P.underlying s with
    | none => simp [hu] at hf
    | some ds =>
      cases ds with
      | struct fs =>
        simp only [hu] at hf
        cases hfi : fs[i]? with
        | none => simp [hfi] at hf
        | some f =>
          simp only [hfi, Bool.and_eq_true, beq_iff_eq] at hf
          obtain ⟨ho, hs⟩ := hf
          cases hi : X.P.info? f.type with
          | none => simp [hi] at hs
          | some j =>
            simp only [hi, bne_iff_ne, ne_eq] at hs
            subst ho
            simp [execOp, Instr.fieldAt, run_underlying hu, hfi, hx, Instr.sureAddr, fieldPlace, sizeOf, typeInfo, hi, hs, Addr.add_mid]
      | _ => simp [hu] at hf

/-- An element's place, the slice being read. -/
theorem rv_ix (t : TypeId) (x y : Operand) {i : Int} {a : α} (ht : X.P.underlying t = some (.slice E)) (hs : inf X.P E z sz by_) (hk : k.sz = sz) (hx : evO e x = v) (hy : evO e y = .int .i64 i) (hv : SlI k G xs v) (hi : idx xs i = some a) :
    ∃ b o cs, k.ro G a cs ∧ CellsIn G b o cs ∧ RV X H L e (.indexAddr t x y) (.pointer (some ⟨b, o, none⟩)) := by
  obtain ⟨b, o, c, cs, rfl, h0, hlt, hr, hc⟩ := hv.get hi
  have hle : i < (xs.length : Int) := by omega
  refine ⟨b, o + i.toNat * k.sz, cs, hr, hc, fun w _ _ _ _ _ _ => ?_⟩
  simp [execOp, Instr.indexAt, asIntOf, run_underlying ht, hs.size, hx, hy, h0, hle, Addr.add_mid, hk]
/-- The place of an element of a slice of the call's own. -/
def ElAt (E : TypeId) (k : Kd α) (xs : List α) (v : Value) (i : Nat) (b o : Nat) : Prop := ∃ c, v = .slice (some ⟨b, 0, none⟩) xs.length c ∧ o = i * k.sz ∧ i < xs.length
theorem rv_ixO (t : TypeId) (x y : Operand) {i : Int} {F : FP} (ht : X.P.underlying t = some (.slice E)) (hs : inf X.P E z sz by_) (hk : k.sz = sz) (hx : evO e x = v) (hy : evO e y = .int .i64 i) (hv : SlO E k xs v F) (h0 : 0 ≤ i) (hlt : i.toNat < xs.length) :
    ∃ b o, ElAt E k xs v i.toNat b o ∧ RV X H L e (.indexAddr t x y) (.pointer (some ⟨b, o, none⟩)) := by
  obtain ⟨hl, ⟨rfl, rfl, rfl⟩ | ⟨b, css, post, c, G, rfl, rfl, hr, hp, hc, hm⟩⟩ := hv
  · simp at hlt
  have hle : i < (xs.length : Int) := by omega
  refine ⟨b, i.toNat * k.sz, ⟨c, rfl, rfl, hlt⟩, fun w _ _ _ _ _ _ => ?_⟩
  simp [execOp, Instr.indexAt, asIntOf, run_underlying ht, hs.size, hx, hy, h0, hle, Addr.add_mid, hk]

/-- Is a type's variable one cell, or a row of so many? -/
def scB (P : Program) (t : TypeId) : Bool := match P.underlying t with
  | some (.struct _) | some (.array _ _) | none => false
  | some _ => true
def agB (P : Program) (t : TypeId) (n : Nat) : Bool := match P.underlying t with
  | some (.struct _) | some (.array _ _) => (P.info? t).map (·.size) == some n
  | _ => false
theorem run_scB {P : Program} {t : TypeId} (h : scB P t = true) (w : World) : (isAgg t).run P w = .ok false w := by
  unfold scB at h
  cases hu : P.underlying t with
  | none => simp [hu] at h
  | some ds => cases ds <;> first | (simp [hu] at h; done) | simp [isAgg, run_underlying hu]
theorem rv_ld {b o o' j : Nat} {cs : List Value} (hsc : scB X.P t = true) (hx : evO e x = .pointer (some ⟨b, o, none⟩)) (hG : Src H L G) (hc : CellsIn G b o' cs) (ho : o' + j = o) (hj : cs[j]? = some v) : RV X H L e (.load t x) (v) :=
  fun w hw _ _ _ _ _ => by
    have := hw.range hG hc j v hj
    subst ho
    simp [execOp, Instr.loadAt, Instr.sureAddr, hx, loadVar, run_scB hsc, this]
theorem rv_lda {b o o' j n : Nat} {cs ds : List Value} (hag : agB X.P t n = true) (hx : evO e x = .pointer (some ⟨b, o, none⟩)) (hG : Src H L G) (hc : CellsIn G b o' cs) (ho : o' + j = o) (hds : (cs.drop j).take n = ds) (hl : ds.length = n) : RV X H L e (.load t x) ((.agg ds.toArray)) :=
  fun w hw _ _ _ _ _ => by
    have hr := hw.range hG hc
    have hr' : w.rangeAt b o ds := by
      intro i u hu
      subst ho hds
      rw [Nat.add_assoc]
      refine hr (j + i) u ?_
      have hlt := (List.getElem?_eq_some_iff.1 hu).1
      rw [List.getElem?_take_of_lt (by simp at hlt; omega), List.getElem?_drop] at hu
      exact hu
    unfold agB at hag
    cases hu : X.P.underlying t with
    | none => simp [hu] at hag
    | some dsc =>
      cases dsc <;> first
        | (simp [hu] at hag; done)
        | (rw [hu] at hag
           simp only [beq_iff_eq] at hag
           have := run_loadAt_mid w b o t ds _ hr' hu rfl (by rw [hag, hl])
           simp [execOp, hx, this])

theorem TL.box {T : TypeId} {cs : List Value} (hd : d < X.n) (hx : evO e x = v) (hcs : v.cells.toList = cs) (h : ∀ b, TL X ops Q H (bx b T cs :: L) rest (upd e d (.pointer (some ⟨b, 0, none⟩)))) :
    TL X ops Q H L (⟨some d, .box T x, ty, pos, af, none⟩ :: rest) e :=
  TL.eff rfl (fun x hx => by cases hx; exact hd) fun w hw => by
    refine ⟨.pointer (some ⟨w.heap.size, 0, none⟩), w.alloc (.cells v.cells T), bx w.heap.size T cs :: L, ?_, ?_, h _⟩
    · simp [execOp, Instr.box, newVar, newRow, hx]
    · have := hw.alloc (.cells v.cells T)
      rw [← hcs]
      simpa [bx] using this
theorem TL.alloc {T : TypeId} {cs : List Value} (hs : inf X.P T z sz by_) (hd : d < X.n) (hcs : z.cells.toList = cs) (h : ∀ b, TL X ops Q H (bx b T cs :: L) rest (upd e d (.pointer (some ⟨b, 0, none⟩)))) :
    TL X ops Q H L (⟨some d, .alloc T, ty, pos, af, none⟩ :: rest) e :=
  TL.eff rfl (fun x hx => by cases hx; exact hd) fun w hw => by
    refine ⟨.pointer (some ⟨w.heap.size, 0, none⟩), w.alloc (.cells z.cells T), bx w.heap.size T cs :: L, ?_, ?_, h _⟩
    · simp [execOp, Instr.alloc, newVar, newRow, hs.zero]
    · have := hw.alloc (.cells z.cells T)
      rw [← hcs]
      simpa [bx] using this

/-- Cells of the first chunk's first block are written. -/
theorem TL.st0 {b o : Nat} {cs ds : List Value} {T : TypeId} {G : FP} {u : Value} (hs : (X.P.info? t).map (·.size) = some ds.length) (hx : evO e x = .pointer (some ⟨b, o, none⟩)) (hy : evO e y = u) (hu : u.cells.toList = ds) (h1 : ∀ c, c ∈ ds → c.oneCell' = true)
    (hl : o + ds.length ≤ cs.length) (h : TL X ops Q H (((b, Obj.cells (over cs o ds).toArray T (0, 0)) :: G) :: L) rest e) :
    TL X ops Q H (((b, Obj.cells cs.toArray T (0, 0)) :: G) :: L) (⟨none, .store t x y, ty, pos, af, none⟩ :: rest) e :=
  TL.eff0 rfl rfl fun w hw => by
    refine ⟨w.setCells b o ds, _, ?_, hw.write o ds, h⟩
    have hth := hw.there hl
    obtain ⟨i, hi, his⟩ := Option.map_eq_some_iff.1 hs
    have hst := run_storeCells_cells (P := X.P) b o ds 0 w (fun j hj => by simpa using (hth j hj).1) (fun j hj => by simpa using (hth j hj).2) h1
    have hsz : u.cells.size = i.size := by rw [his, ← hu]; simp
    simp only [Nat.add_zero] at hst
    simp [execOp, Instr.storeAt, Instr.sureAddr, hx, hy, storeVar, sizeOf, typeInfo, hi, hsz, hu, hst]
end
end Go.Proofs.Ytpmcbahahjelnaa
