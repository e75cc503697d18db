/- What the arguments of the laws read as: pure values, in range. No conditions. -/
import Derived.Test.YtpmcbahahjelnaaTb
import Derived.Test.YtpmcbahahjelnaaFwU
set_option linter.unusedVariables false
set_option linter.unusedSimpArgs false
namespace Go.Proofs.Ytpmcbahahjelnaa
open Go Go.Proofs
theorem opens_3 {w : World} : Opens Try.prog w 3 (kInt .i64) inI64 := opens_int Try.underlying3
def wfPair (x : PPair) : Prop := inI64 x.a ∧ inI64 x.b
theorem trod_arr2 {H : Type} {enc : TypeId × Value → H} {P : Program} {w : World} {base : Nat} {spare : Nat → Bool} {held : Bool} {t e : TypeId} {fuel : Nat} {cs : List Value} {x : DataW H × List MemPlace} (ht : P.underlying t = some (.array 2 e)) (hs : P.cellsOf e = 1) (hs2 : P.cellsOf t = 2) (h : DataW.trod enc P w base spare held fuel t cs = some x) :
    ∃ c0 c1 y0 y1 n, cs = [c0, c1] ∧ DataW.trod enc P w base spare held n e [c0] = some y0 ∧ DataW.trod enc P w base spare held n e [c1] = some y1 := by
  cases fuel with
  | zero => simp [DataW.trod] at h
  | succ n =>
    unfold DataW.trod at h
    rw [ht] at h
    split at h <;> try (simp_all; done)
    rename_i heq
    cases heq
    split at h
    · rename_i hl
      simp only [show List.range 2 = [0, 1] from rfl, List.mapM_cons, List.mapM_nil, Option.map_eq_some_iff] at h
      obtain ⟨ys, h, _⟩ := h
      simp only [Option.bind_eq_bind, Option.bind_eq_some_iff] at h
      obtain ⟨y0, g0, z, ⟨y1, g1, _⟩, _⟩ := h
      rw [hs2] at hl
      rw [hs] at g0 g1
      obtain ⟨c0, c1, hc⟩ := len2 hl
      simp only [hc] at g0 g1
      exact ⟨c0, c1, y0, y1, n, hc, g0, g1⟩
    · cases h
theorem opens_31 {w : World} : Opens Try.prog w 31 kPair wfPair := by
  intro H enc base spare held fuel cs x h
  obtain ⟨c0, c1, y0, y1, n, rfl, g0, g1⟩ := trod_arr2 Try.underlying31 (by kernel_rfl) (by kernel_rfl) h
  obtain ⟨a, r0, w0⟩ := opens_3 _ _ _ _ _ _ _ _ g0
  obtain ⟨b, r1, w1⟩ := opens_3 _ _ _ _ _ _ _ _ g1
  have e0 : [c0] = [.int .i64 a] := r0
  have e1 : [c1] = [.int .i64 b] := r1
  simp only [List.cons.injEq, and_true] at e0 e1
  subst e0; subst e1
  exact ⟨⟨a, b⟩, rfl, w0, w1⟩
theorem opens_22 {w : World} : Opens Try.prog w 22 (kSl 31 kPair) (okL wfPair) := opens_slice Try.underlying22 (by kernel_rfl) (by decide) opens_31
theorem opens_2 {w : World} : Opens Try.prog w 2 (kInt .i64) inI64 := opens_int Try.underlying2
theorem opens_23 {w : World} : Opens Try.prog w 23 (kSl 2 (kInt .i64)) (okL inI64) := opens_slice Try.underlying23 (by kernel_rfl) (by decide) opens_2
end Go.Proofs.Ytpmcbahahjelnaa
