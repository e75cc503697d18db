/- Plain laws, part H: what the reference's From marks, round by round. No conditions. -/
import Derived.Test.YtoflleabpkgdpaaQuG
set_option linter.unusedVariables false
set_option linter.unusedSimpArgs false
namespace Go.Proofs.Ytoflleabpkgdpaa
open Go

def Closed (nx : List (List Int)) (C : Nat → Prop) : Prop := ∀ (v w : Nat) (row : List Int), C v → nx[v]? = some row → (w : Int) ∈ row → C w
def sn (s : List Bool) (v : Nat) : Prop := s[v]? = some true
/-- What marking does: nothing is lost; only what is led to is won. -/
structure M (nx : List (List Int)) (s s' : List Bool) : Prop where
  len : s'.length = s.length
  mono : ∀ v, sn s v → sn s' v
  sound : ∀ C : Nat → Prop, Closed nx C → (∀ v, sn s v → C v) → ∀ v, sn s' v → C v
theorem M.refl (nx : List (List Int)) (s : List Bool) : M nx s s := ⟨rfl, fun _ h => h, fun C _ h v hv => h v hv⟩
theorem M.trans {nx : List (List Int)} {s s1 s2 : List Bool} (h : M nx s s1) (k : M nx s1 s2) : M nx s s2 :=
  ⟨k.len.trans h.len, fun v hv => k.mono v (h.mono v hv), fun C hC hs v hv => k.sound C hC (h.sound C hC hs) v hv⟩
section
end
end Go.Proofs.Ytoflleabpkgdpaa
