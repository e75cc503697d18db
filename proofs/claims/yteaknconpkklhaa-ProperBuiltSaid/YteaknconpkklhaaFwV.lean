/- The framework, part V: operations whose guard was never asked; more words. No conditions. -/
import Derived.Test.YteaknconpkklhaaFwT
set_option linter.unusedVariables false
set_option linter.unusedSimpArgs false
namespace Go.Proofs.Yteaknconpkklhaa
open Go
section
variable {X : Cx} {Q : Post} {H : FP} {L : List FP} {e : Env} {ops : Array Oper} {rest : List Oper} {Kq : Env → Prop}
theorem yieldE_un {ops : Array Oper} {e : Env} {j d : Nat} (h : (ops[j]?).bind (·.dst) = some d) (he : e d = undef) : yieldE ops e j = none := by
  unfold yieldE; rw [h]; simp only [he]; rfl
theorem TL.gnon {o : Oper} {j : Nat} {b : Bool} (hg : o.guard = some (j, b)) (hdn : ∀ d, o.dst = some d → d < X.n) (hy : yieldE ops e j = none)
    (h : TL X ops Q H L rest (updO e o.dst undef)) : TL X ops Q H L (o :: rest) e := by
  intro w hw a ha
  unfold wpList
  rw [ha.wanted]
  have hw1 : ¬ Region.wanted o (yieldE ops e) = true := by simp [Region.wanted, hg, hy]
  rw [if_neg hw1]
  exact h w hw _ (ha.putO hdn _)
theorem QL.gnon {o : Oper} {j : Nat} {b : Bool} (hg : o.guard = some (j, b)) (hdn : ∀ d, o.dst = some d → d < X.n) (hy : yieldE ops e j = none)
    (h : QL X ops Kq H L rest (updO e o.dst undef)) : QL X ops Kq H L (o :: rest) e := by
  intro a ha
  unfold wpQuiet
  rw [ha.wanted]
  have hw1 : ¬ Region.wanted o (yieldE ops e) = true := by simp [Region.wanted, hg, hy]
  rw [if_neg hw1]
  exact h _ (ha.putO hdn _)
variable {G : FP} {fuel : Nat} {listed : Array Bool}
theorem HL.gnon {o : Oper} {j : Nat} {b : Bool} (i : Nat) (hi : ops[i]? = some o) (hg : o.guard = some (j, b)) (hy : yieldE ops e j = none) (hs : Region.noSelect ops = true) (hf : Region.free .any ops listed i = true) (hr : (Region.ready .any ops listed).contains i = true)
    (hdn : ∀ d, o.dst = some d → d < X.n) (h : HL X ops G Q H L fuel (listed.setIfInBounds i true) (updO e o.dst undef)) : HL X ops G Q H L (fuel + 1) listed e := by
  intro w hw hS a ha
  refine wpAnyH_take (v := undef) hi hs hf hr (fun c a w h => h) (.inr ⟨?_, rfl⟩) hS (h w hw hS _ (ha.putO hdn undef))
  rw [ha.wanted]
  simp [Region.wanted, hg, hy]
end
/-! ### Rows of which elements were taken out -/
end Go.Proofs.Yteaknconpkklhaa
