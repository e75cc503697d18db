/- The framework, part R: small rules for printed proofs, at goals that speak of all worlds of a state. No conditions. -/
import Derived.Test.YtpmcbahahjelnaaFwQ
set_option linter.unusedVariables false
set_option linter.unusedSimpArgs false
namespace Go.Proofs.Ytpmcbahahjelnaa
open Go

section
variable {E : World} {H : FP} {L : List FP} {φ : World → Prop}
theorem W.perm {L' : List FP} (hp : L'.flatten.Perm L.flatten) (h : ∀ w, St E H L' w → φ w) : ∀ w, St E H L w → φ w := fun w hw => h w (hw.perm hp)
theorem W.pk' {L' : List FP} (is : List Nat) (hL : pk L is = L') (h : ∀ w, St E H L' w → φ w) : ∀ w, St E H L w → φ w := fun w hw => h w (hL ▸ hw.pick is)
theorem W.new0 (h : ∀ w, St E H ([] :: L) w → φ w) : ∀ w, St E H L w → φ w := fun w hw => h w hw.new0
theorem W.empty {F : FP} (h : ∀ w, St E H (F :: [] :: L) w → φ w) : ∀ w, St E H (F :: L) w → φ w := W.perm (by simp) h
theorem W.empty2 {F G : FP} (h : ∀ w, St E H (F :: G :: [] :: L) w → φ w) : ∀ w, St E H (F :: G :: L) w → φ w := W.perm (by simp) h
theorem W.litOwn {α : Type} {k : Kd α} {T : TypeId} {b n : Nat} {cs : List Value} {css : List (List Value)} {Fe : FP} {xs : List α} (hr : RepL k xs css Fe) (hcs : css.flatten = cs) (hn : xs.length = n) (hl : n < LIM)
    (h : ∀ F, SlO T k xs (.slice (some ⟨b, 0, none⟩) n n) F → ∀ w, St E H (F :: L) w → φ w) : ∀ w, St E H (bx b T cs :: Fe :: L) w → φ w :=
  W.perm (L' := (bx b T cs ++ Fe) :: L) (by simp) (h _ (SlO.lit b n css Fe cs hcs hr hn hl))
theorem W.shut {α : Type} {k : Kd α} {T : TypeId} {xs : List α} {v : Value} {F Fi : FP} {i b : Nat} {a : α} {cs : List Value} (hv : Hole T k xs i v b cs F) (ha : k.own a cs Fi) (h : ∀ F', SlO T k (xs.set i a) v F' → ∀ w, St E H (F' :: L) w → φ w) : ∀ w, St E H (F :: Fi :: L) w → φ w := by
  obtain ⟨F', h1, hp⟩ := hv.shut ha
  refine W.perm ?_ (h F' h1)
  simp only [List.flatten_cons, ← List.append_assoc]
  exact List.Perm.append_right _ hp
end
section
variable {X : Cx} {Q : Post} {H : FP} {L : List FP} {e : Env} {ops : Array Oper} {rest : List Oper}
theorem TL.empty2 {l : List Oper} {F G : FP} (h : TL X ops Q H (F :: G :: [] :: L) l e) : TL X ops Q H (F :: G :: L) l e := TL.perm (by simp) h
/-- What follows gets a name. -/
theorem TC.named {c : Code} (h : ∀ K : Env → World → Prop, (∀ e w, Q .normal e w → K e w) → TC X c (Then K Q) H L e) : TC X c Q H L e := by
  intro w hw a ha
  refine wp_mono (h (fun e w => Q .normal e w) (fun e w h => h) w hw a ha) ?_
  intro ex a w hq
  cases ex <;> exact hq
theorem viaK {E : World} {R : Env → World → Prop} {K : Env → World → Prop} (hK : ∀ e w, R e w → K e w) (h : ∀ w, St E H L w → R e w) : ∀ w, St E H L w → K e w := fun w hw => hK e w (h w hw)
theorem m0 {e : Env} : ([] : List Operand).map (evO e) = [] := rfl
theorem mc {e : Env} {x : Operand} {v : Value} {xs : List Operand} {vs : List Value} (h : evO e x = v) (hs : xs.map (evO e) = vs) : (x :: xs).map (evO e) = v :: vs := by rw [List.map_cons, h, hs]
theorem RepL.to {α : Type} {k : Kd α} {xs : List α} {css : List (List Value)} {G G' : FP} (h : RepL k xs css G) (e : G = G') : RepL k xs css G' := e ▸ h
theorem goOkI {E : World} {ρ σ : Type} {s : σ} {x : Ex ρ σ} {I : σ → Env → List FP → Prop} {A : List FP} {w : World} (hx : some (Ex.go s) = some x) (h : I s e A) (hs : St E H A w) : ∃ s' L', x = .go s' ∧ I s' e L' ∧ St E H L' w :=
  ⟨s, A, (Option.some.inj hx).symm, h, hs⟩
end
/-- So many rounds no loop over what fits into memory ever takes. -/
def FUEL : Nat := 2 ^ 200
attribute [irreducible] FUEL
end Go.Proofs.Ytpmcbahahjelnaa
