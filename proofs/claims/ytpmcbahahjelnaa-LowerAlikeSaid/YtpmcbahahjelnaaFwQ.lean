/- The framework, part Q: regions that draw their order. No conditions. -/
import Derived.Test.YtpmcbahahjelnaaFwG
set_option linter.unusedVariables false
set_option linter.unusedSimpArgs false
namespace Go.Proofs.Ytpmcbahahjelnaa
open Go

section
variable {X : Cx} {Q : Post} {H : FP} {L : List FP} {e : Env} {ops : Array Oper} {rest : List Oper} {d : Nat} {op : Op} {ty : TypeId} {pos : String} {af : Array Edge} {u : Value}

/-! ### All operations quiet: the text's order serves every order -/
def QL (X : Cx) (ops : Array Oper) (K : Env → Prop) (H : FP) (L : List FP) (l : List Oper) (e : Env) : Prop :=
  ∀ a, Agr X.n a e → wpQuiet X.P ops (fun w => St X.E H L w) (fun a' => ∃ e', Agr X.n a' e' ∧ K e') l a
theorem TC.quiet {id : Nat} {l : List Oper} (hm : X.P.follows .mixedOrders = true) (hB : Region.lexB .any l.toArray = true) (h : QL X l.toArray (fun e => ∀ w, St X.E H L w → Q .normal e w) H L l e) : TC X (.region id l.toArray true) Q H L e := by
  intro w hw a ha
  refine wp_region_quiet (C := fun w => St X.E H L w) hm hB (hw.drew _) ?_
  have h1 := h a ha
  have mono : ∀ (l' : List Oper) (a : Act), wpQuiet X.P l.toArray (fun w => St X.E H L w) (fun a' => ∃ e', Agr X.n a' e' ∧ ∀ w, St X.E H L w → Q .normal e' w) l' a →
      wpQuiet X.P l.toArray (fun w => St X.E H L w) (fun a' => ∀ w', St X.E H L w' → lift X.n Q .normal a' w') l' a := by
    intro l'
    induction l' with
    | nil => intro a ⟨e', ha', hk⟩ w' hw'; exact ⟨e', ha', hk w' hw'⟩
    | cons o l' ih =>
      intro a hh
      unfold wpQuiet at hh ⊢
      split
      · rename_i hw; rw [if_pos hw] at hh; exact Oper.quiet_mono ih hh
      · rename_i hw; rw [if_neg hw] at hh; exact ih _ hh
  simpa using mono l a h1
theorem QL.nil {K : Env → Prop} (h : K e) : QL X ops K H L [] e := fun a ha => wpQuiet_nil ⟨e, ha, h⟩
theorem QL.next {K : Env → World → Prop} {y : Code} {Q' : Post} (hK : ∀ e w, WC X y Q' e w → K e w) (h : TC X y Q' H L e) : QL X ops (fun e => ∀ w, St X.E H L w → Then K Q .normal e w) H L [] e :=
  QL.nil fun w hw => hK e w (h w hw)
variable {Kq : Env → Prop}
theorem QL.v (hd : d < X.n) (hv : RV X H L e op u) (h : QL X ops Kq H L rest (upd e d u)) : QL X ops Kq H L (⟨some d, op, ty, pos, af, none⟩ :: rest) e := by
  intro a ha
  refine wpQuiet_step fun K hK => ?_
  rw [if_pos (by rfl)]
  refine ⟨u, fun w hw => ?_, hK _ (h _ (ha.put hd u))⟩
  unfold Oper.quietAt
  rw [ha.eval, hv w hw _ _ _ _ _]
  exact ⟨rfl, rfl⟩
theorem QL.gyes {dst : Option Nat} {j : Nat} {b : Bool} (t : Bool) (hy : yieldE ops e j = some t) (ht : t = b)
    (h : QL X ops Kq H L (⟨dst, op, ty, pos, af, none⟩ :: rest) e) : QL X ops Kq H L (⟨dst, op, ty, pos, af, some (j, b)⟩ :: rest) e := by
  intro a ha
  have h1 := h a ha
  subst ht
  unfold wpQuiet at h1 ⊢
  rw [ha.wanted] at h1 ⊢
  have hw1 : Region.wanted ⟨dst, op, ty, pos, af, some (j, t)⟩ (yieldE ops e) = true := by simp [Region.wanted, hy]
  have hw2 : Region.wanted ⟨dst, op, ty, pos, af, none⟩ (yieldE ops e) = true := rfl
  rw [if_pos hw1]
  rw [if_pos hw2] at h1
  exact h1
theorem QL.gno {o : Oper} {j : Nat} {b : Bool} (t : Bool) (hg : o.guard = some (j, b)) (hdn : ∀ d, o.dst = some d → d < X.n) (hy : yieldE ops e j = some t) (ht : t = !b)
    (h : QL X ops Kq H L rest (updO e o.dst undef)) : QL X ops Kq H L (o :: rest) e := by
  intro a ha
  unfold wpQuiet
  rw [ha.wanted]
  have hw1 : ¬ Region.wanted o (yieldE ops e) = true := by
    subst ht
    simp only [Region.wanted, hg, hy]
    cases b <;> simp
  rw [if_neg hw1]
  exact h _ (ha.putO hdn _)
/-- A call that hands back a value fixed before, and leaves all chunks as they are. -/
theorem QL.call {f : FuncId} {ats : Array TypeId} {xs : List Operand} {vs : List Value} (v : Value) (hf : callB X.P f = true) (hd : d < X.n) (hvs : xs.map (evO e) = vs)
    (hc : ∀ w, St X.E H L w → Fn X.P f vs.toArray w fun u w' => u = v ∧ St X.E H L w') (h : QL X ops Kq H L rest (upd e d v)) :
    QL X ops Kq H L (⟨some d, .call ⟨.value (.func f), xs.toArray, ats⟩, ty, pos, af, none⟩ :: rest) e := by
  intro a ha
  refine wpQuiet_step fun K hK => ?_
  rw [if_pos (by rfl)]
  refine ⟨v, fun w hw => ?_, hK _ (h _ (ha.put hd v))⟩
  have hrun : (execOp (evO e) ⟨some d, .call ⟨.value (.func f), xs.toArray, ats⟩, ty, pos, af, none⟩).run X.P w = .ok (.enter f vs.toArray) w := by
    simp [execOp, resolve, evO, Deferred.ofValue, invoke, run_callFunc hf, hvs]
  unfold Oper.quietAt
  rw [ha.eval, hrun]
  refine ⟨rfl, Calls.mono (hc w hw) ?_⟩
  rintro en w' ⟨u, rfl, rfl, hw'⟩
  exact ⟨rfl, hw'⟩

theorem QL.v1 {β : Type} {A : β → Prop} {g : β → Value} (hd : d < X.n) (hv : ∃ b, A b ∧ RV X H L e op (g b)) (h : ∀ b, A b → QL X ops Kq H L rest (upd e d (g b))) : QL X ops Kq H L (⟨some d, op, ty, pos, af, none⟩ :: rest) e :=
  let ⟨b, h1, h2⟩ := hv; QL.v hd h2 (h b h1)
theorem QL.v2 {β γ : Type} {A : β → γ → Prop} {g : β → γ → Value} (hd : d < X.n) (hv : ∃ b c, A b c ∧ RV X H L e op (g b c)) (h : ∀ b c, A b c → QL X ops Kq H L rest (upd e d (g b c))) : QL X ops Kq H L (⟨some d, op, ty, pos, af, none⟩ :: rest) e :=
  let ⟨b, c, h1, h2⟩ := hv; QL.v hd h2 (h b c h1)
theorem QL.v3 {β γ δ : Type} {A B : β → γ → δ → Prop} {g : β → γ → δ → Value} (hd : d < X.n) (hv : ∃ b c f, A b c f ∧ B b c f ∧ RV X H L e op (g b c f)) (h : ∀ b c f, A b c f → B b c f → QL X ops Kq H L rest (upd e d (g b c f))) : QL X ops Kq H L (⟨some d, op, ty, pos, af, none⟩ :: rest) e :=
  let ⟨b, c, f, h1, h2, h3⟩ := hv; QL.v hd h3 (h b c f h1 h2)
theorem TL.v1 {β : Type} {A : β → Prop} {g : β → Value} (hd : d < X.n) (hv : ∃ b, A b ∧ RV X H L e op (g b)) (h : ∀ b, A b → TL X ops Q H L rest (upd e d (g b))) : TL X ops Q H L (⟨some d, op, ty, pos, af, none⟩ :: rest) e :=
  let ⟨b, h1, h2⟩ := hv; TL.v hd h2 (h b h1)
theorem TL.v2 {β γ : Type} {A : β → γ → Prop} {g : β → γ → Value} (hd : d < X.n) (hv : ∃ b c, A b c ∧ RV X H L e op (g b c)) (h : ∀ b c, A b c → TL X ops Q H L rest (upd e d (g b c))) : TL X ops Q H L (⟨some d, op, ty, pos, af, none⟩ :: rest) e :=
  let ⟨b, c, h1, h2⟩ := hv; TL.v hd h2 (h b c h1)
theorem TL.v3 {β γ δ : Type} {A B : β → γ → δ → Prop} {g : β → γ → δ → Value} (hd : d < X.n) (hv : ∃ b c f, A b c f ∧ B b c f ∧ RV X H L e op (g b c f)) (h : ∀ b c f, A b c f → B b c f → TL X ops Q H L rest (upd e d (g b c f))) : TL X ops Q H L (⟨some d, op, ty, pos, af, none⟩ :: rest) e :=
  let ⟨b, c, f, h1, h2, h3⟩ := hv; TL.v hd h3 (h b c f h1 h2)

/-! ### The first n operations, and what follows -/
def WL (X : Cx) (ops : Array Oper) (Q : Post) (l : List Oper) (e : Env) (w : World) : Prop := ∀ a, Agr X.n a e → wpList X.P ops (lift X.n Q) l a w
theorem wpList_append {P : Program} {Q Q' : Exit → Act → World → Prop} (l2 : List Oper) (h0 : ∀ a w, Q' .normal a w → wpList P ops Q l2 a w) (h1 : ∀ c a w, Q' (.panic c) a w → Q (.panic c) a w) (h2 : ¬ LetsOut Q') :
    ∀ (l1 : List Oper) (a : Act) (w : World), wpList P ops Q' l1 a w → wpList P ops Q (l1 ++ l2) a w
  | [], a, w, h => h0 a w h
  | o :: l1, a, w, h => by
    rw [List.cons_append]
    unfold wpList at h ⊢
    split
    · rename_i hw
      rw [if_pos hw] at h
      refine .inl ?_
      have h3 := Oper.wp_mono (K' := wpList P ops Q (l1 ++ l2)) (fun a w => wpList_append l2 h0 h1 h2 l1 a w) (h.resolve_right fun h => h2 h.2)
      unfold Oper.wp at h3 ⊢
      generalize (execOp a.eval o).run P w = r at h3 ⊢
      cases r with
      | ok nx w1 =>
        cases nx <;> simp only [Oper.upon] at h3 ⊢ <;> first
          | exact h3
          | (refine Calls.mono h3 fun en w2 h4 => ?_
             cases en with
             | returned u => exact h4
             | panicked c => exact h1 _ _ _ h4
             | outgrown => exact absurd h4 h2)
      | halt x w1 => cases x <;> simp only [Oper.upon] at h3 ⊢ <;> first | exact h3 | exact h1 _ _ _ h3
    · rename_i hw
      rw [if_neg hw] at h
      exact wpList_append l2 h0 h1 h2 l1 _ w h
theorem TL.cut {l : List Oper} (n : Nat) (h : ∀ K : Env → World → Prop, (∀ e w, WL X ops Q (l.drop n) e w → K e w) → TL X ops (Then K Q) H L (l.take n) e) : TL X ops Q H L l e := by
  intro w hw a ha
  have h1 := h (fun e w => WL X ops Q (l.drop n) e w) (fun e w h => h) w hw a ha
  have h2 := wpList_append (P := X.P) (ops := ops) (Q := lift X.n Q) (Q' := lift X.n (Then (fun e w => WL X ops Q (l.drop n) e w) Q)) (l.drop n) (fun a w hq => by obtain ⟨e', ha', hk⟩ := hq; exact hk a ha') (fun c a w h => h) (by rintro ⟨a, w, h⟩; exact h) (l.take n) a w h1
  rwa [List.take_append_drop] at h2
theorem TL.go {l : List Oper} {K : Env → World → Prop} (hK : ∀ e w, WL X ops Q l e w → K e w) (h : TL X ops Q H L l e) : ∀ w, St X.E H L w → K e w := fun w hw => hK e w (h w hw)
theorem TC.go {c : Code} {K : Env → World → Prop} (hK : ∀ e w, WC X c Q e w → K e w) (h : TC X c Q H L e) : ∀ w, St X.E H L w → K e w := fun w hw => hK e w (h w hw)
theorem QL.cut {l : List Oper} (n : Nat) (h : ∀ K : Env → Prop, (∀ e, QL X ops Kq H L (l.drop n) e → K e) → QL X ops K H L (l.take n) e) : QL X ops Kq H L l e := by
  intro a ha
  have h1 := h (fun e => QL X ops Kq H L (l.drop n) e) (fun e h => h) a ha
  have key : ∀ (l1 l2 : List Oper) (a : Act), wpQuiet X.P ops (fun w => St X.E H L w) (fun a' => ∃ e', Agr X.n a' e' ∧ QL X ops Kq H L l2 e') l1 a → wpQuiet X.P ops (fun w => St X.E H L w) (fun a' => ∃ e', Agr X.n a' e' ∧ Kq e') (l1 ++ l2) a := by
    intro l1 l2
    induction l1 with
    | nil => intro a ⟨e', ha', hk⟩; exact hk a ha'
    | cons o l1 ih =>
      intro a hh
      rw [List.cons_append]
      unfold wpQuiet at hh ⊢
      split
      · rename_i hw; rw [if_pos hw] at hh; exact Oper.quiet_mono ih hh
      · rename_i hw; rw [if_neg hw] at hh; exact ih _ hh
  have h2 := key (l.take n) (l.drop n) a h1
  rwa [List.take_append_drop] at h2

/-! ### Others: what may be taken first is taken first -/
theorem St.src {E : World} {w : World} {G : FP} (h : St E H L w) (hG : Src H L G) : St E G [] w :=
  ⟨h.os, h.tape, h.out, fun p hp => (hG p hp).elim (h.atH p) (h.atL p), fun p hp => by simp at hp, by simp, fun p hp => by simp at hp⟩
def HL (X : Cx) (ops : Array Oper) (G : FP) (Q : Post) (H : FP) (L : List FP) (fuel : Nat) (listed : Array Bool) (e : Env) : Prop :=
  ∀ w, St X.E H L w → St X.E G [] w → ∀ a, Agr X.n a e → wpAnyH X.P .any ops (lift X.n Q) (fun w => St X.E G [] w) fuel listed a w
variable {G : FP} {fuel : Nat} {listed : Array Bool}
theorem TC.held {id : Nat} {l : List Oper} (G : FP) (hm : X.P.follows .mixedOrders = true) (hG : Src H L G) (h : HL X l.toArray G Q H L l.toArray.size (Array.replicate l.toArray.size false) e) : TC X (.region id l.toArray true) Q H L e :=
  fun w hw a ha => wp_region_held hm (h _ (hw.drew _) ((hw.drew _).src hG) a ha)
theorem HL.take (i : Nat) (hi : ops[i]? = some ⟨some d, op, ty, pos, af, none⟩) (hs : Region.noSelect ops = true) (hf : Region.free .any ops listed i = true) (hr : (Region.ready .any ops listed).contains i = true) (hd : d < X.n)
    (hv : RV X G [] e op u) (h : HL X ops G Q H L fuel (listed.setIfInBounds i true) (upd e d u)) : HL X ops G Q H L (fuel + 1) listed e := by
  intro w hw hS a ha
  refine wpAnyH_take (v := u) hi hs hf hr (fun c a w h => h) (.inl ⟨rfl, fun w' hw' => ?_⟩) hS (h w hw hS _ (ha.put hd u))
  rw [ha.eval]
  exact hv w' hw' _ _ _ _ _
/-- The only one that may come up. -/
theorem HL.one (i : Nat) {o : Oper} (hi : ops[i]? = some o) (hr : Region.ready .any ops listed = [i])
    (h : ∀ K : Env → World → Prop, (∀ L' e', Src H L' G → HL X ops G Q H L' fuel (listed.setIfInBounds i true) e' → ∀ w', St X.E H L' w' → K e' w') → TL X ops (Then K Q) H L [o] e) : HL X ops G Q H L (fuel + 1) listed e := by
  intro w hw hS a ha
  refine wpAnyH_all hr (by simp) fun j hj => ?_
  simp only [List.mem_singleton] at hj
  subst hj
  have h1 := h (fun e' w' => St X.E G [] w' ∧ ∀ a', Agr X.n a' e' → wpAnyH X.P .any ops (lift X.n Q) (fun w => St X.E G [] w) fuel (listed.setIfInBounds j true) a' w')
    (fun L' e' hG hh w' hw' => ⟨hw'.src hG, fun a' ha' => hh w' hw' (hw'.src hG) a' ha'⟩) w hw a ha
  unfold wpList at h1
  unfold wpOp
  rw [hi]
  have hlet : ¬ LetsOut (lift X.n (Then (fun e' w' => St X.E G [] w' ∧ ∀ a', Agr X.n a' e' → wpAnyH X.P .any ops (lift X.n Q) (fun w => St X.E G [] w) fuel (listed.setIfInBounds j true) a' w') Q)) := by
    rintro ⟨a, w, h⟩; exact h
  have hnext : ∀ a' w', wpList X.P ops (lift X.n (Then (fun e' w' => St X.E G [] w' ∧ ∀ a', Agr X.n a' e' → wpAnyH X.P .any ops (lift X.n Q) (fun w => St X.E G [] w) fuel (listed.setIfInBounds j true) a' w') Q)) [] a' w' →
      St X.E G [] w' ∧ wpAnyH X.P .any ops (lift X.n Q) (fun w => St X.E G [] w) fuel (listed.setIfInBounds j true) a' w' := by
    intro a' w' hh
    obtain ⟨e', ha', hk1, hk2⟩ := hh
    exact ⟨hk1, hk2 a' ha'⟩
  have hpost : ∀ x a w, lift X.n (Then (fun e' w' => St X.E G [] w' ∧ ∀ a', Agr X.n a' e' → wpAnyH X.P .any ops (lift X.n Q) (fun w => St X.E G [] w) fuel (listed.setIfInBounds j true) a' w') Q) (.panic x) a w → lift X.n Q (.panic x) a w := fun _ _ _ h => h
  show (if _ then _ else _)
  split at h1
  · rename_i hwn
    rw [if_pos hwn]
    refine .inl ?_
    have h2 := h1.resolve_right (fun h => hlet h.2)
    have h3 := Oper.wp_mono (K' := fun a' w' => St X.E G [] w' ∧ wpAnyH X.P .any ops (lift X.n Q) (fun w => St X.E G [] w) fuel (listed.setIfInBounds j true) a' w') hnext h2
    unfold Oper.wp at h3 ⊢
    generalize (execOp a.eval o).run X.P w = r at h3 ⊢
    cases r with
    | ok nx w1 =>
      cases nx <;> simp only [Oper.upon] at h3 ⊢ <;> first
        | exact h3
        | (refine Calls.mono h3 fun en w2 h4 => ?_
           cases en with
           | returned u => exact h4
           | panicked c => exact h4
           | outgrown => exact absurd h4 hlet)
    | halt x w1 => cases x <;> simp only [Oper.upon] at h3 ⊢ <;> exact h3
  · rename_i hwn
    rw [if_neg hwn]
    exact hnext _ _ h1
theorem HL.done (hr : Region.ready .any ops listed = []) (h : ∀ w, St X.E H L w → Q .normal e w) : HL X ops G Q H L fuel listed e :=
  fun w hw hS a ha => wpAnyH_done hr ⟨e, ha, h w hw⟩ fuel
theorem HL.v3 {β γ δ : Type} {A B : β → γ → δ → Prop} {g : β → γ → δ → Value} (i : Nat) (hi : ops[i]? = some ⟨some d, op, ty, pos, af, none⟩) (hs : Region.noSelect ops = true) (hf : Region.free .any ops listed i = true) (hr : (Region.ready .any ops listed).contains i = true) (hd : d < X.n)
    (hv : ∃ b c f, A b c f ∧ B b c f ∧ RV X G [] e op (g b c f)) (h : ∀ b c f, A b c f → B b c f → HL X ops G Q H L fuel (listed.setIfInBounds i true) (upd e d (g b c f))) : HL X ops G Q H L (fuel + 1) listed e :=
  let ⟨b, c, f, h1, h2, h3⟩ := hv; HL.take i hi hs hf hr hd h3 (h b c f h1 h2)
theorem HL.v1 {β : Type} {A : β → Prop} {g : β → Value} (i : Nat) (hi : ops[i]? = some ⟨some d, op, ty, pos, af, none⟩) (hs : Region.noSelect ops = true) (hf : Region.free .any ops listed i = true) (hr : (Region.ready .any ops listed).contains i = true) (hd : d < X.n)
    (hv : ∃ b, A b ∧ RV X G [] e op (g b)) (h : ∀ b, A b → HL X ops G Q H L fuel (listed.setIfInBounds i true) (upd e d (g b))) : HL X ops G Q H L (fuel + 1) listed e :=
  let ⟨b, h1, h2⟩ := hv; HL.take i hi hs hf hr hd h2 (h b h1)

/-! ### Small words for printed proofs -/
theorem ltb {a b : Nat} (h : Nat.blt a b = true) : a < b := Nat.le_of_ble_eq_true h
theorem leb {a b : Nat} (h : Nat.ble a b = true) : a ≤ b := Nat.le_of_ble_eq_true h
theorem oc0 : ∀ c : Value, c ∈ ([] : List Value) → c.oneCell' = true := fun _ h => by simp at h
theorem oc {v : Value} {vs : List Value} (h : v.oneCell' = true) (hs : ∀ c, c ∈ vs → c.oneCell' = true) : ∀ c, c ∈ v :: vs → c.oneCell' = true := fun c hc => by
  rcases List.mem_cons.1 hc with rfl | hc
  · exact h
  · exact hs c hc
theorem SlI.one {α : Type} {k : Kd α} {xs : List α} {v : Value} (h : SlI k G xs v) : v.oneCell' = true := by obtain ⟨A, c, rfl⟩ := h.len; rfl
theorem SlO.one {α : Type} {k : Kd α} {E : TypeId} {xs : List α} {v : Value} {F : FP} (h : SlO E k xs v F) : v.oneCell' = true := h.ro.one
theorem tu2 {a a' b b' : Value} (h : a = a') (h' : b = b') : Value.tuple #[a, b] = .tuple #[a', b'] := by rw [h, h']
theorem tu3 {a a' b b' c c' : Value} (h : a = a') (h' : b = b') (h'' : c = c') : Value.tuple #[a, b, c] = .tuple #[a', b', c'] := by rw [h, h', h'']
theorem bT {p : Prop} [Decidable p] (h : p) : Value.bool (decide p) = .bool true := by rw [decide_eq_true h]
theorem bF {p : Prop} [Decidable p] (h : ¬ p) : Value.bool (decide p) = .bool false := by rw [decide_eq_false h]
theorem bbT {b : Bool} (h : b = true) : Value.bool b = .bool true := by rw [h]
theorem bbF {b : Bool} (h : ¬ b = true) : Value.bool b = .bool false := by rw [Bool.not_eq_true b |>.mp h]
theorem bbF' {b : Bool} (h : ¬ b = true) : b = false := by simpa using h
theorem ex_ret {ρ σ : Type} {t r : ρ} {x : Ex ρ σ} (h : some (Ex.ret t) = some x) (hx : x = .ret r ∨ ∃ s', x = .go s') : t = r := by
  obtain rfl := Option.some.inj h
  rcases hx with hx | ⟨s', hx⟩
  · exact Ex.ret.inj hx
  · cases hx
theorem TL.new0 {l : List Oper} (h : TL X ops Q H ([] :: L) l e) : TL X ops Q H L l e := TL.perm (by simp) h
theorem TC.new0 {c : Code} (h : TC X c Q H ([] :: L) e) : TC X c Q H L e := TC.perm (by simp) h
theorem TL.pk' {l : List Oper} {L' : List FP} (is : List Nat) (hL : pk L is = L') (h : TL X ops Q H L' l e) : TL X ops Q H L l e := TL.pick is (hL ▸ h)
theorem TC.pk' {c : Code} {L' : List FP} (is : List Nat) (hL : pk L is = L') (h : TC X c Q H L' e) : TC X c Q H L e := TC.pick is (hL ▸ h)
/-- What may be read by a callee: what is frozen, and the other chunks. -/
theorem subH {B : List FP} : ∀ p, p ∈ H → p ∈ B.flatten ++ H := fun _ h => List.mem_append_right _ h
theorem subB {B : List FP} {F : FP} (i : Nat) (h : B[i]? = some F) : ∀ p, p ∈ F → p ∈ B.flatten ++ H := fun p hp =>
  List.mem_append_left _ (List.mem_flatten.2 ⟨F, List.mem_of_getElem? h, hp⟩)
/-- A call under a contract: the chunks A are handed over. -/
theorem TL.callC {f : FuncId} {ats : Array TypeId} {xs : List Operand} {vs : List Value} {R : Value → List FP → Prop} (A B : List FP) (hL : L = A ++ B) (hf : callB X.P f = true) (hd : d < X.n) (hvs : xs.map (evO e) = vs)
    (hc : ∀ w, St X.E (B.flatten ++ H) A w → Fn X.P f vs.toArray w fun v w' => ∃ A', R v A' ∧ St X.E (B.flatten ++ H) A' w')
    (h : ∀ v A', R v A' → TL X ops Q H (A' ++ B) rest (upd e d v)) : TL X ops Q H L (⟨some d, .call ⟨.value (.func f), xs.toArray, ats⟩, ty, pos, af, none⟩ :: rest) e := by
  subst hL
  refine TL.call (R := fun v w' => ∃ A', R v A' ∧ St X.E H (A' ++ B) w') hf hd hvs (fun w hw => (hc w hw.split).mono ?_) ?_
  · rintro v w' ⟨A', h1, h2⟩; exact ⟨A', h1, hw.join h2⟩
  · rintro v w' ⟨A', h1, h2⟩; exact ⟨_, h2, h v A' h1⟩
theorem QL.callC {f : FuncId} {ats : Array TypeId} {xs : List Operand} {vs : List Value} {R : Value → List FP → Prop} (v : Value) (hf : callB X.P f = true) (hd : d < X.n) (hvs : xs.map (evO e) = vs)
    (hc : ∀ w, St X.E (L.flatten ++ H) [] w → Fn X.P f vs.toArray w fun v w' => ∃ A', R v A' ∧ St X.E (L.flatten ++ H) A' w') (hR : ∀ u A', R u A' → u = v ∧ A' = [])
    (h : QL X ops Kq H L rest (upd e d v)) : QL X ops Kq H L (⟨some d, .call ⟨.value (.func f), xs.toArray, ats⟩, ty, pos, af, none⟩ :: rest) e := by
  refine QL.call v hf hd hvs (fun w hw => ?_) h
  have hw' : St X.E H ([] ++ L) w := hw
  refine (hc w hw'.split).mono ?_
  rintro u w' ⟨A', h1, h2⟩
  obtain ⟨rfl, rfl⟩ := hR u A' h1
  exact ⟨rfl, hw'.join h2⟩
theorem yieldE_of {ops : Array Oper} {e : Env} {j d : Nat} {b : Bool} (hd : (ops[j]?).bind (·.dst) = some d) (h : e d = .bool b) : yieldE ops e j = some b := by
  unfold yieldE; rw [hd]; simp only [h]
theorem bAt {p q : Prop} [Decidable p] [Decidable q] (h : p) : Value.bool (decide q) = .bool (decide (p ∧ q)) := by simp [h]
theorem bAf {p q : Prop} [Decidable p] [Decidable q] (h : ¬ p) : Value.bool false = .bool (decide (p ∧ q)) := by simp [h]
theorem bOt {p q : Prop} [Decidable p] [Decidable q] (h : p) : Value.bool true = .bool (decide (p ∨ q)) := by simp [h]
theorem bOf {p q : Prop} [Decidable p] [Decidable q] (h : ¬ p) : Value.bool (decide q) = .bool (decide (p ∨ q)) := by simp [h]
theorem bAt' {p : Prop} {q : Bool} [Decidable p] (h : p) : Value.bool q = .bool (decide (p ∧ q = true)) := by simp [h]
theorem bOf' {p : Prop} {q : Bool} [Decidable p] (h : ¬ p) : Value.bool q = .bool (decide (p ∨ q = true)) := by simp [h]
theorem bDec {q : Bool} : Value.bool q = .bool (decide (q = true)) := by simp
/-- A literal taken as a slice of one's own. -/
theorem TL.litOwn {α : Type} {k : Kd α} {E : TypeId} {b n : Nat} {cs : List Value} {css : List (List Value)} {Fe : FP} {xs : List α} {l : List Oper} (hr : RepL k xs css Fe) (hcs : css.flatten = cs) (hn : xs.length = n) (hl : n < LIM)
    (h : ∀ F, SlO E k xs (.slice (some ⟨b, 0, none⟩) n n) F → TL X ops Q H (F :: L) l e) : TL X ops Q H (bx b E cs :: Fe :: L) l e :=
  TL.perm (L' := (bx b E cs ++ Fe) :: L) (by simp) (h _ (SlO.lit b n css Fe cs hcs hr hn hl))
theorem retOk {E : World} {P : List FP → Prop} {A : List FP} {w : World} (h : P A) (hs : St E H A w) : ∃ A, P A ∧ St E H A w := ⟨A, h, hs⟩
theorem goOk {E : World} {ρ σ : Type} {s : σ} {x : Ex ρ σ} {P : σ → List FP → Prop} {A : List FP} {w : World} (hx : some (Ex.go s) = some x) (h : P s A) (hs : St E H A w) : ∃ s' L', x = .go s' ∧ P s' L' ∧ St E H L' w :=
  ⟨s, A, (Option.some.inj hx).symm, h, hs⟩
theorem St.new0 {E : World} {w : World} (h : St E H L w) : St E H ([] :: L) w := h.perm (by simp)
end
end Go.Proofs.Ytpmcbahahjelnaa
