/- The framework, part T: results that stand in a variable, calls of function values, literals that are only read. No conditions. -/
import Derived.Test.YtpmcbahahjelnaaFwS
import Derived.Lib.SliceRun
set_option linter.unusedVariables false
set_option linter.unusedSimpArgs false
namespace Go.Proofs.Ytpmcbahahjelnaa
open Go

theorem SlI.cells {α : Type} {k : Kd α} {G : FP} {xs : List α} {v : Value} (h : SlI k G xs v) : v.cells.toList = [v] := by obtain ⟨A, c, rfl⟩ := h.len; rfl
theorem SlO.cells {α : Type} {k : Kd α} {T : TypeId} {xs : List α} {v : Value} {F : FP} (h : SlO T k xs v F) : v.cells.toList = [v] := h.ro.cells
theorem CellsIn.part {G : FP} {b o : Nat} {cs ds : List Value} (h : CellsIn G b o cs) (j : Nat) (hd : (cs.drop j).take ds.length = ds) : CellsIn G b (o + j) ds := by
  obtain ⟨c, t, fr, hm, hc⟩ := h
  refine ⟨c, t, fr, hm, fun i u hu => ?_⟩
  have hlt := (List.getElem?_eq_some_iff.1 hu).1
  rw [← hd, List.getElem?_take_of_lt hlt, List.getElem?_drop] at hu
  rw [Nat.add_assoc]
  exact hc (j + i) u hu

/-! ### Results -/
def ResW (P : Program) (fn : Func) (e : Env) (w : World) (v : Value) : Prop := ∀ t : Array Value, (∀ d, t.getD d undef = e d) → (results fn t).run P w = .ok v w
def BodyV (P : Program) (fn : Func) (R : Value → World → Prop) : Post
  | .normal, e, w => ∃ v, ResW P fn e w v ∧ R v w
  | .ret, e, w => ∃ v, ResW P fn e w v ∧ R v w
  | _, _, _ => False
theorem Fn.bodyV {P : Program} {f : FuncId} {fn : Func} {c : Code} {args : List Value} {w : World} {R : Value → World → Prop} (E : World) (H : FP) (L : List FP)
    (n : Nat) (hf : P.funcs[f]? = some fn) (hb : fn.body = some c) (hn : fn.ntmps = n) (hle : args.length ≤ n)
    (hst : St E H L w) (h : TC ⟨P, n, E⟩ c (BodyV P fn R) H L (env0 args)) : Fn P f args.toArray w R := by
  refine calls_of_wp hf hb (wp_mono (h w hst _ ?_) ?_)
  · subst hn
    refine ⟨by simp; omega, fun d => ?_, rfl⟩
    simp only [env0]
    rcases Nat.lt_or_ge d args.length with hd | hd
    · simp [Array.getD_eq_getD_getElem?, List.getD_eq_getElem?_getD, Array.getElem?_append, hd]
    · simp only [Array.getD_eq_getD_getElem?, List.getD_eq_getElem?_getD, Array.getElem?_append, List.size_toArray, Nat.not_lt.2 hd, if_false, List.getElem?_eq_none hd, Array.getElem?_replicate]
      split <;> rfl
  · intro ex a w' hq
    cases ex with
    | normal =>
      obtain ⟨e, ha, v, hv, hk⟩ := hq
      exact ⟨ha.defers, _, hv _ ha.get, _, rfl, hk⟩
    | ret =>
      obtain ⟨e, ha, v, hv, hk⟩ := hq
      exact ⟨ha.defers, _, hv _ ha.get, _, rfl, hk⟩
    | exit id => obtain ⟨e, ha, hk⟩ := hq; exact hk.elim
    | goto l => exact hq.elim
    | panic c => exact hq.elim
    | outgrown => exact hq.elim
section
variable {P : Program} {fn : Func} {E : World} {H : FP} {L : List FP} {e : Env} {w : World} {R : Value → List FP → Prop}
theorem St.lda {n b t : Nat} {cs : List Value} (hw : St E H L w) (hag : agB P t n = true) (j : Nat) (hj : L[j]? = some (bx b t cs)) (hl : cs.length = n) : (loadVar t ⟨b, 0, none⟩).run P w = .ok (.agg cs.toArray) w := by
  have hr := hw.range (Src.at_ j hj) (bx_cells b t cs)
  unfold agB at hag
  cases hu : P.underlying t with
  | none => simp [hu] at hag
  | some dsc =>
    cases dsc <;> first
      | (simp [hu] at hag; done)
      | (rw [hu] at hag
         simp only [beq_iff_eq] at hag
         exact run_loadVar_mid w b 0 t cs _ hr hu rfl (by rw [hag, hl]))
theorem retC1 {n b t d : Nat} {cs : List Value} {A : List FP} (hw : St E H L w) (hr : fn.results = #[.cell d t]) (hx : e d = .pointer (some ⟨b, 0, none⟩)) (hag : agB P t n = true) (j : Nat) (hj : L[j]? = some (bx b t cs)) (hl : cs.length = n)
    (h : R (.agg cs.toArray) A) (hs : St E H A w) : ∃ v, ResW P fn e w v ∧ ∃ A, R v A ∧ St E H A w :=
  ⟨_, fun T hT => by
    have := hw.lda hag j hj hl
    unfold results
    rw [hr]
    simp [hT, hx, asAddr, this], A, h, hs⟩
theorem retC2 {n b t d u : Nat} {cs : List Value} {y : Value} {A : List FP} (hw : St E H L w) (hr : fn.results = #[.cell d t, .tmp u]) (hx : e d = .pointer (some ⟨b, 0, none⟩)) (hy : e u = y) (hag : agB P t n = true) (j : Nat) (hj : L[j]? = some (bx b t cs)) (hl : cs.length = n)
    (h : R (.tuple #[.agg cs.toArray, y]) A) (hs : St E H A w) : ∃ v, ResW P fn e w v ∧ ∃ A, R v A ∧ St E H A w :=
  ⟨_, fun T hT => by
    have := hw.lda hag j hj hl
    unfold results
    rw [hr]
    simp [hT, hx, hy, asAddr, this], A, h, hs⟩
theorem retC3 {n b t d u u' : Nat} {cs : List Value} {y y' : Value} {A : List FP} (hw : St E H L w) (hr : fn.results = #[.cell d t, .tmp u, .tmp u']) (hx : e d = .pointer (some ⟨b, 0, none⟩)) (hy : e u = y) (hy' : e u' = y') (hag : agB P t n = true) (j : Nat) (hj : L[j]? = some (bx b t cs)) (hl : cs.length = n)
    (h : R (.tuple #[.agg cs.toArray, y, y']) A) (hs : St E H A w) : ∃ v, ResW P fn e w v ∧ ∃ A, R v A ∧ St E H A w :=
  ⟨_, fun T hT => by
    have := hw.lda hag j hj hl
    unfold results
    rw [hr]
    simp [hT, hx, hy, hy', asAddr, this], A, h, hs⟩
end

/-! ### Calls of function values -/
section
variable {X : Cx} {Q : Post} {H : FP} {L : List FP} {e : Env} {ops : Array Oper} {rest : List Oper} {d : Nat} {ty : TypeId} {pos : String} {af : Array Edge}
theorem TL.callvC {f : FuncId} {ats : Array TypeId} {z : Operand} {caps : List Value} {xs : List Operand} {vs : List Value} {R : Value → List FP → Prop} (A B : List FP) (hL : L = A ++ B) (hf : callB X.P f = true) (hd : d < X.n)
    (hz : evO e z = .func (.func f) #[] caps.toArray) (hvs : xs.map (evO e) = vs)
    (hc : ∀ w, St X.E (B.flatten ++ H) A w → Fn X.P f (vs ++ caps).toArray w fun v w' => ∃ A', R v A' ∧ St X.E (B.flatten ++ H) A' w')
    (h : ∀ v A', R v A' → TL X ops Q H (A' ++ B) rest (upd e d v)) : TL X ops Q H L (⟨some d, .call ⟨.value z, xs.toArray, ats⟩, ty, pos, af, none⟩ :: rest) e := by
  subst hL
  refine TL.callv (R := fun v w' => ∃ A', R v A' ∧ St X.E H (A' ++ B) w') hf hd hz hvs (fun w hw => (hc w hw.split).mono ?_) ?_
  · rintro v w' ⟨A', h1, h2⟩; exact ⟨A', h1, hw.join h2⟩
  · rintro v w' ⟨A', h1, h2⟩; exact ⟨_, h2, h v A' h1⟩
end

/-! ### A slice held against nil -/
theorem nilEq {P : Program} {t E : TypeId} {α : Type} {k : Kd α} {G : FP} {xs : List α} {v : Value} (ht : P.underlying t = some (.slice E)) (h : SlI k G xs v) :
    ∃ q : Bool, (q = true → xs = []) ∧ ∀ w : World, (binOp .eql t v (.slice none 0 0)).run P w = .ok (.bool q) w := by
  obtain ⟨hl, ⟨A, c, rfl, rfl⟩ | ⟨b, o, c, c', t', fr, rfl, _⟩⟩ := h
  · exact ⟨A.isNone, fun _ => rfl, fun w => Lib.run_eql_slice_nil w t E A 0 c 0 0 ht⟩
  · exact ⟨false, fun h => (by cases h), fun w => Lib.run_eql_slice_nil w t E (some ⟨b, o, none⟩) xs.length c 0 0 ht⟩
theorem rv_nil {X : Cx} {H : FP} {L : List FP} {e : Env} {t t' : TypeId} {x : Operand} {v : Value} {q : Bool} (hx : evO e x = v) (h : ∀ w : World, (binOp .eql t v (.slice none 0 0)).run X.P w = .ok (.bool q) w) :
    RV X H L e (.binOp .eql t x (.const (.slice none 0 0)) t') (.bool q) :=
  fun w _ _ _ _ _ _ => by
    have hc : evO e (.const (.slice none 0 0)) = .slice none 0 0 := rfl
    simp [execOp, eqGuard, hx, hc, h]

/-! ### Values built of slots -/
theorem p0 {e : Env} : ([] : List (Nat × Operand)).map (fun p => (p.1, evO e p.2)) = [] := rfl
theorem pc {e : Env} {i : Nat} {x : Operand} {v : Value} {xs : List (Nat × Operand)} {vs : List (Nat × Value)} (h : evO e x = v) (hs : xs.map (fun p => (p.1, evO e p.2)) = vs) : ((i, x) :: xs).map (fun p => (p.1, evO e p.2)) = (i, v) :: vs := by rw [List.map_cons, h, hs]
section
variable {X : Cx} {Q : Post} {H : FP} {L : List FP} {e : Env} {ops : Array Oper} {rest : List Oper} {d : Nat} {ty : TypeId} {pos : String} {af : Array Edge} {t E : TypeId} {z : Value} {sz by_ : Nat}
theorem rv_bv {parts : List (Nat × Operand)} {vs : List (Nat × Value)} {ds : List Value} (hv : parts.map (fun p => (p.1, evO e p.2)) = vs) (hr : ∀ w, (Instr.build t vs.toArray).run X.P w = .ok (.agg ds.toArray) w) : RV X H L e (.build t parts.toArray) (.agg ds.toArray) :=
  rv_bd (fun w => by rw [hv]; exact hr w)
theorem TL.bv {n : Nat} {parts : List (Nat × Operand)} {vs : List (Nat × Value)} {cs : List Value} (hv : parts.map (fun p => (p.1, evO e p.2)) = vs) (ht : X.P.underlying t = some (.slice E)) (hs : inf X.P E z sz by_) (hd : d < X.n) (hsm : ¬ n * sz > 2 ^ 24) (hpos : ¬ n * sz = 0)
    (hf : Instr.fill (fun i => some (i * sz, sz)) ((Array.range (n * sz)).map (z.cells[· % z.cells.size]!)) vs = some cs.toArray)
    (h : ∀ b, TL X ops Q H (bx b E cs :: L) rest (upd e d (.slice (some ⟨b, 0, none⟩) n n))) : TL X ops Q H L (⟨some d, .buildSlice t n parts.toArray, ty, pos, af, none⟩ :: rest) e :=
  TL.bs ht hs hd hsm hpos (by rw [hv]; exact hf) h
end

/-! ### Literals that are read -/
inductive RepI {α : Type} (k : Kd α) (G : FP) : List α → List (List Value) → Prop
  | nil : RepI k G [] []
  | cons {x cs xs css} : k.ro G x cs → RepI k G xs css → RepI k G (x :: xs) (cs :: css)
theorem RepI.get {α : Type} {k : Kd α} {G : FP} {xs : List α} {css : List (List Value)} (h : RepI k G xs css) : ∀ (i : Nat) (x : α), xs[i]? = some x →
    ∃ cs, k.ro G x cs ∧ ∀ j u, cs[j]? = some u → css.flatten[i * k.sz + j]? = some u := by
  induction h with
  | nil => intro i x hi; simp at hi
  | @cons x0 cs xs css h _ ih =>
    intro i x hi
    cases i with
    | zero =>
      simp at hi; subst hi
      refine ⟨cs, h, fun j u hu => ?_⟩
      rw [Nat.zero_mul, Nat.zero_add, List.flatten_cons]
      rw [List.getElem?_append_left (List.getElem?_eq_some_iff.1 hu).1]; exact hu
    | succ i =>
      obtain ⟨cs', h1, h3⟩ := ih i x (by simpa using hi)
      refine ⟨cs', h1, fun j u hu => ?_⟩
      rw [List.flatten_cons, List.getElem?_append_right (by rw [k.lenR h, Nat.add_mul]; omega), k.lenR h,
        show (i + 1) * k.sz + j - k.sz = i * k.sz + j by rw [Nat.add_mul]; omega]
      exact h3 j u hu
theorem SlI.lit {α : Type} {k : Kd α} {G : FP} {xs : List α} {css : List (List Value)} {cs : List Value} (b T n : Nat) (h : RepI k G xs css) (hcs : css.flatten = cs) (hn : xs.length = n) (hl : n < LIM) : SlI k (bx b T cs ++ G) xs (.slice (some ⟨b, 0, none⟩) n n) := by
  subst hn hcs
  refine ⟨by simp only [LIM] at hl; simp only [maxLen]; omega, .inr ⟨b, 0, _, _, T, (0, 0), rfl, Nat.le_refl _, List.mem_append_left _ (List.mem_singleton_self _), fun i x hi => ?_⟩⟩
  obtain ⟨cs, h1, h2⟩ := h.get i x hi
  refine ⟨cs, k.mono h1 fun p hp => List.mem_append_right _ hp, fun j u hu => ?_⟩
  rw [Nat.zero_add, List.getElem?_toArray]
  exact h2 j u hu
theorem subC {H : FP} {B : List FP} {F : FP} (i : Nat) (h : B[i]? = some F) : ∀ p, p ∈ F ++ H → p ∈ B.flatten ++ H := fun p hp =>
  (List.mem_append.1 hp).elim (subB i h p) (subH p)
theorem subO {F G K : FP} (h : ∀ p, p ∈ F → p ∈ K) (h' : ∀ p, p ∈ G → p ∈ K) : ∀ p, p ∈ F ++ G → p ∈ K := fun p hp => (List.mem_append.1 hp).elim (h p) (h' p)
theorem inL {F G K : FP} (h : ∀ p, p ∈ K → p ∈ F) : ∀ p, p ∈ K → p ∈ F ++ G := fun p hp => List.mem_append_left _ (h p hp)
theorem inR {F G K : FP} (h : ∀ p, p ∈ K → p ∈ G) : ∀ p, p ∈ K → p ∈ F ++ G := fun p hp => List.mem_append_right _ (h p hp)
theorem inI {F : FP} : ∀ p, p ∈ F → p ∈ F := fun _ h => h
end Go.Proofs.Ytpmcbahahjelnaa
