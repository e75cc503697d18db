/- The framework, part V: operations whose guard was never asked; more words. No conditions. -/
import Derived.Test.YtpmcbahahjelnaaFwT
set_option linter.unusedVariables false
set_option linter.unusedSimpArgs false
namespace Go.Proofs.Ytpmcbahahjelnaa
open Go

section
variable {X : Cx} {Q : Post} {H : FP} {L : List FP} {e : Env} {ops : Array Oper} {rest : List Oper} {Kq : Env → Prop}
theorem yieldE_un {ops : Array Oper} {e : Env} {j d : Nat} (h : (ops[j]?).bind (·.dst) = some d) (he : e d = undef) : yieldE ops e j = none := by
  unfold yieldE; rw [h]; simp only [he]; rfl
theorem TL.gnon {o : Oper} {j : Nat} {b : Bool} (hg : o.guard = some (j, b)) (hdn : ∀ d, o.dst = some d → d < X.n) (hy : yieldE ops e j = none)
    (h : TL X ops Q H L rest (updO e o.dst undef)) : TL X ops Q H L (o :: rest) e := by
  intro w hw a ha
  unfold wpList
  rw [ha.wanted]
  have hw1 : ¬ Region.wanted o (yieldE ops e) = true := by simp [Region.wanted, hg, hy]
  rw [if_neg hw1]
  exact h w hw _ (ha.putO hdn _)
theorem QL.gnon {o : Oper} {j : Nat} {b : Bool} (hg : o.guard = some (j, b)) (hdn : ∀ d, o.dst = some d → d < X.n) (hy : yieldE ops e j = none)
    (h : QL X ops Kq H L rest (updO e o.dst undef)) : QL X ops Kq H L (o :: rest) e := by
  intro a ha
  unfold wpQuiet
  rw [ha.wanted]
  have hw1 : ¬ Region.wanted o (yieldE ops e) = true := by simp [Region.wanted, hg, hy]
  rw [if_neg hw1]
  exact h _ (ha.putO hdn _)
variable {G : FP} {fuel : Nat} {listed : Array Bool}
theorem HL.gnon {o : Oper} {j : Nat} {b : Bool} (i : Nat) (hi : ops[i]? = some o) (hg : o.guard = some (j, b)) (hy : yieldE ops e j = none) (hs : Region.noSelect ops = true) (hf : Region.free .any ops listed i = true) (hr : (Region.ready .any ops listed).contains i = true)
    (hdn : ∀ d, o.dst = some d → d < X.n) (h : HL X ops G Q H L fuel (listed.setIfInBounds i true) (updO e o.dst undef)) : HL X ops G Q H L (fuel + 1) listed e := by
  intro w hw hS a ha
  refine wpAnyH_take (v := undef) hi hs hf hr (fun c a w h => h) (.inr ⟨?_, rfl⟩) hS (h w hw hS _ (ha.putO hdn undef))
  rw [ha.wanted]
  simp [Region.wanted, hg, hy]
end

/-! ### Rows of which elements were taken out -/
def kOpt {α : Type} (k : Kd α) : Kd (Option α) where
  sz := k.sz
  own x cs F := match x with
    | some a => k.own a cs F
    | none => cs.length = k.sz ∧ F = [] ∧ ∀ v, v ∈ cs → v.oneCell' = true
  ro G x cs := match x with
    | some a => k.ro G a cs
    | none => cs.length = k.sz
  len {x cs F} h := by
    cases x with
    | none => exact h.1
    | some a => exact k.len h
  lenR {G x cs} h := by
    cases x with
    | none => exact h
    | some a => exact k.lenR h
  weak {x cs F G} h hs := by
    cases x with
    | none => exact h.1
    | some a => exact k.weak h hs
  mono {G G' x cs} h hs := by
    cases x with
    | none => exact h
    | some a => exact k.mono h hs
  one {x cs F} h v hv := by
    cases x with
    | none => exact h.2.2 v hv
    | some a => exact k.one h v hv
theorem RepL.toOpt {α : Type} {k : Kd α} {xs : List α} {css : List (List Value)} {G : FP} (h : RepL k xs css G) : RepL (kOpt k) (xs.map some) css G := by
  induction h with
  | nil => exact .nil
  | @cons x cs F xs css G h _ ih => exact .cons (x := some x) (show (kOpt k).own (some x) cs F from h) ih
theorem SlO.toOpt {α : Type} {k : Kd α} {e : TypeId} {xs : List α} {v : Value} {F : FP} (h : SlO e k xs v F) : SlO e (kOpt k) (xs.map some) v F := by
  obtain ⟨hl, ⟨hv, hx, hF⟩ | ⟨b, css, post, c, G, hv, hF, hr, hp, hc, hm⟩⟩ := h
  · exact ⟨by simpa using hl, .inl ⟨hv, by simp [hx], hF⟩⟩
  · exact ⟨by simpa using hl, .inr ⟨b, css, post, c, G, by simpa using hv, hF, hr.toOpt, by rw [List.length_map]; exact hp, by simpa using hc, hm⟩⟩
def idxO {α : Type} (xs : List (Option α)) (i : Int) : Option α := (idx xs i).bind id
theorem idxO_some {α : Type} {xs : List (Option α)} {i : Int} {x : α} (h : idxO xs i = some x) : idx xs i = some (some x) := by
  unfold idxO at h
  obtain ⟨y, h1, h2⟩ := bind_some' h
  rw [h1]; exact congrArg some h2
end Go.Proofs.Ytpmcbahahjelnaa
