/- The framework, part S: regions that draw their order and have effects: operations under guards, several that may come up at once. No conditions. -/
import Derived.Test.YtpmcbahahjelnaaFwR
set_option linter.unusedVariables false
set_option linter.unusedSimpArgs false
namespace Go.Proofs.Ytpmcbahahjelnaa
open Go

section
variable {X : Cx} {Q : Post} {H : FP} {L : List FP} {e : Env} {ops : Array Oper} {G : FP} {fuel : Nat} {listed : Array Bool} {d : Nat} {op : Op} {ty : TypeId} {pos : String} {af : Array Edge} {u : Value} {g : Option (Nat × Bool)}

def gOk (ops : Array Oper) (e : Env) : Option (Nat × Bool) → Prop
  | none => True
  | some (j, b) => yieldE ops e j = some b
theorem gOk.wanted {a : Act} {o : Oper} (ha : Agr X.n a e) (h : gOk ops e o.guard) : Region.wanted o (yielded ops a.tmps) = true := by
  rw [ha.wanted]
  unfold Region.wanted
  cases hg : o.guard with
  | none => rfl
  | some p =>
    rw [hg] at h
    obtain ⟨j, b⟩ := p
    have h' : yieldE ops e j = some b := h
    simp [h']
theorem HL.v (i : Nat) (hi : ops[i]? = some ⟨some d, op, ty, pos, af, g⟩) (hg : gOk ops e g) (hs : Region.noSelect ops = true) (hf : Region.free .any ops listed i = true) (hr : (Region.ready .any ops listed).contains i = true) (hd : d < X.n)
    (hv : RV X G [] e op u) (h : HL X ops G Q H L fuel (listed.setIfInBounds i true) (upd e d u)) : HL X ops G Q H L (fuel + 1) listed e := by
  intro w hw hS a ha
  refine wpAnyH_take (v := u) hi hs hf hr (fun c a w h => h) (.inl ⟨gOk.wanted (o := ⟨some d, op, ty, pos, af, g⟩) ha hg, fun w' hw' => ?_⟩) hS (h w hw hS _ (ha.put hd u))
  rw [ha.eval]
  exact hv w' hw' _ _ _ _ _
theorem HL.w1 {β : Type} {A : β → Prop} {f : β → Value} (i : Nat) (hi : ops[i]? = some ⟨some d, op, ty, pos, af, g⟩) (hg : gOk ops e g) (hs : Region.noSelect ops = true) (hf : Region.free .any ops listed i = true) (hr : (Region.ready .any ops listed).contains i = true) (hd : d < X.n)
    (hv : ∃ b, A b ∧ RV X G [] e op (f b)) (h : ∀ b, A b → HL X ops G Q H L fuel (listed.setIfInBounds i true) (upd e d (f b))) : HL X ops G Q H L (fuel + 1) listed e :=
  let ⟨b, h1, h2⟩ := hv; HL.v i hi hg hs hf hr hd h2 (h b h1)
theorem HL.w2 {β γ : Type} {A : β → γ → Prop} {f : β → γ → Value} (i : Nat) (hi : ops[i]? = some ⟨some d, op, ty, pos, af, g⟩) (hg : gOk ops e g) (hs : Region.noSelect ops = true) (hf : Region.free .any ops listed i = true) (hr : (Region.ready .any ops listed).contains i = true) (hd : d < X.n)
    (hv : ∃ b c, A b c ∧ RV X G [] e op (f b c)) (h : ∀ b c, A b c → HL X ops G Q H L fuel (listed.setIfInBounds i true) (upd e d (f b c))) : HL X ops G Q H L (fuel + 1) listed e :=
  let ⟨b, c, h1, h2⟩ := hv; HL.v i hi hg hs hf hr hd h2 (h b c h1)
theorem HL.w3 {β γ δ : Type} {A B : β → γ → δ → Prop} {f : β → γ → δ → Value} (i : Nat) (hi : ops[i]? = some ⟨some d, op, ty, pos, af, g⟩) (hg : gOk ops e g) (hs : Region.noSelect ops = true) (hf : Region.free .any ops listed i = true) (hr : (Region.ready .any ops listed).contains i = true) (hd : d < X.n)
    (hv : ∃ b c z, A b c z ∧ B b c z ∧ RV X G [] e op (f b c z)) (h : ∀ b c z, A b c z → B b c z → HL X ops G Q H L fuel (listed.setIfInBounds i true) (upd e d (f b c z))) : HL X ops G Q H L (fuel + 1) listed e :=
  let ⟨b, c, z, h1, h2, h3⟩ := hv; HL.v i hi hg hs hf hr hd h3 (h b c z h1 h2)
/-- An operation whose guard says no. -/
theorem HL.gno {o : Oper} {j : Nat} {b : Bool} (i : Nat) (hi : ops[i]? = some o) (t : Bool) (hg : o.guard = some (j, b)) (hy : yieldE ops e j = some t) (ht : t = !b) (hs : Region.noSelect ops = true) (hf : Region.free .any ops listed i = true) (hr : (Region.ready .any ops listed).contains i = true)
    (hdn : ∀ d, o.dst = some d → d < X.n) (h : HL X ops G Q H L fuel (listed.setIfInBounds i true) (updO e o.dst undef)) : HL X ops G Q H L (fuel + 1) listed e := by
  intro w hw hS a ha
  refine wpAnyH_take (v := undef) hi hs hf hr (fun c a w h => h) (.inr ⟨?_, rfl⟩) hS (h w hw hS _ (ha.putO hdn undef))
  rw [ha.wanted]
  subst ht
  simp only [Region.wanted, hg, hy]
  cases b <;> simp
/-- Several may come up: each is followed. -/
theorem HL.all (rs : List Nat) (hr : Region.ready .any ops listed = rs) (hne : rs ≠ [])
    (h : ∀ i ∈ rs, ∃ o, ops[i]? = some o ∧ ∀ K : Env → World → Prop, (∀ L' e', Src H L' G → HL X ops G Q H L' fuel (listed.setIfInBounds i true) e' → ∀ w', St X.E H L' w' → K e' w') → TL X ops (Then K Q) H L [o] e) : HL X ops G Q H L (fuel + 1) listed e := by
  intro w hw hS a ha
  refine wpAnyH_all hr hne fun j hj => ?_
  obtain ⟨o, hi, h⟩ := h j hj
  have h1 := h (fun e' w' => St X.E G [] w' ∧ ∀ a', Agr X.n a' e' → wpAnyH X.P .any ops (lift X.n Q) (fun w => St X.E G [] w) fuel (listed.setIfInBounds j true) a' w')
    (fun L' e' hG hh w' hw' => ⟨hw'.src hG, fun a' ha' => hh w' hw' (hw'.src hG) a' ha'⟩) w hw a ha
  unfold wpList at h1
  unfold wpOp
  rw [hi]
  have hlet : ¬ LetsOut (lift X.n (Then (fun e' w' => St X.E G [] w' ∧ ∀ a', Agr X.n a' e' → wpAnyH X.P .any ops (lift X.n Q) (fun w => St X.E G [] w) fuel (listed.setIfInBounds j true) a' w') Q)) := by
    rintro ⟨a, w, h⟩; exact h
  have hnext : ∀ a' w', wpList X.P ops (lift X.n (Then (fun e' w' => St X.E G [] w' ∧ ∀ a', Agr X.n a' e' → wpAnyH X.P .any ops (lift X.n Q) (fun w => St X.E G [] w) fuel (listed.setIfInBounds j true) a' w') Q)) [] a' w' →
      St X.E G [] w' ∧ wpAnyH X.P .any ops (lift X.n Q) (fun w => St X.E G [] w) fuel (listed.setIfInBounds j true) a' w' := by
    intro a' w' hh
    obtain ⟨e', ha', hk1, hk2⟩ := hh
    exact ⟨hk1, hk2 a' ha'⟩
  show (if _ then _ else _)
  split at h1
  · rename_i hwn
    rw [if_pos hwn]
    refine .inl ?_
    have h2 := h1.resolve_right (fun h => hlet h.2)
    have h3 := Oper.wp_mono (K' := fun a' w' => St X.E G [] w' ∧ wpAnyH X.P .any ops (lift X.n Q) (fun w => St X.E G [] w) fuel (listed.setIfInBounds j true) a' w') hnext h2
    unfold Oper.wp at h3 ⊢
    generalize (execOp a.eval o).run X.P w = r at h3 ⊢
    cases r with
    | ok nx w1 =>
      cases nx <;> simp only [Oper.upon] at h3 ⊢ <;> first
        | exact h3
        | (refine Calls.mono h3 fun en w2 h4 => ?_
           cases en with
           | returned u => exact h4
           | panicked c => exact h4
           | outgrown => exact absurd h4 hlet)
    | halt x w1 => cases x <;> simp only [Oper.upon] at h3 ⊢ <;> exact h3
  · rename_i hwn
    rw [if_neg hwn]
    exact hnext _ _ h1
theorem HL.al0 {P : Nat → Prop} : ∀ i ∈ ([] : List Nat), P i := fun _ h => by simp at h
theorem HL.al {P : Nat → Prop} {j : Nat} {l : List Nat} (h : P j) (hs : ∀ i ∈ l, P i) : ∀ i ∈ j :: l, P i := fun i hi => by
  rcases List.mem_cons.1 hi with rfl | hi
  · exact h
  · exact hs i hi
/-- What the whole region may read: all of the given chunks, and what is frozen. -/
theorem srcG0 : Src H L (([] : List FP).flatten ++ H) := fun p hp => .inl (by simpa using hp)
theorem srcG {F : FP} {Gs : List FP} (k : Nat) (h : L[k]? = some F) (hs : Src H L (Gs.flatten ++ H)) : Src H L ((F :: Gs).flatten ++ H) := fun p hp => by
  simp only [List.flatten_cons, List.append_assoc, List.mem_append] at hp
  rcases hp with hp | hp
  · exact Src.at_ k h p hp
  · exact hs p (List.mem_append.2 hp)
theorem srcInG {Gs : List FP} {F : FP} (i : Nat) (h : Gs[i]? = some F) : Src (Gs.flatten ++ H) [] F := fun p hp => .inl (subB i h p hp)
theorem srcInH {Gs : List FP} : Src (Gs.flatten ++ H) [] H := fun p hp => .inl (subH p hp)
end
end Go.Proofs.Ytpmcbahahjelnaa
