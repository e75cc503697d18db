/- From the row's premise on errors.errorType to the fact that errors.As needs. No conditions. -/
import Derived.Test.YtpomfbdbkejedaaGreatDoorRows
import Derived.Test.YtpomfbdbkejedaaGreatDoorAsK
import Derived.Test.YtpomfbdbkejedaaGreatDoorFwU
import Derived.LaidLaws
import Derived.ChangeSame
import Derived.ChangeVars
import Derived.JoinedOf
import Derived.RowKit
import Derived.RowKitTokens
import Derived.Stop.Joined
import Derived.LaidHandle
namespace Go.Proofs.YtpomfbdbkejedaaGreatDoor
open Go Go.ChangeShapes Go.WideShapes Go.RowKit
theorem Door.et : Tryz.prog.globalNamed "errors.errorType" = some 0 := by kernel_rfl
theorem Door.rt : (Tryz.prog.cutTypes.find? (·.1 == "internal/reflectlite.rtype")).map (·.2) = some 122 := by kernel_rfl
theorem Door.oneRow : ((List.range 205).filter fun t => Tryz.prog.rowNamed t [101, 114, 114, 111, 114]) = [29] := by kernel_rfl
theorem Door.size : Tryz.prog.types.size = 205 := by kernel_rfl
theorem handle_of_laid {W : World} (h : laidMetH Tryz.prog [("errors.errorType", Rows.laid_errors_errorType)] W) : W.cell? ⟨0, 0, none⟩ = some (.iface 122 (.agg #[.pointer (some ⟨1, 29, none⟩)])) := by
  have h' : laidMet Tryz.prog [] W ∧ handlesMet Tryz.prog [("errors.errorType", Rows.laid_errors_errorType)] W := h
  obtain ⟨name, u, ty, e1, e2, e3, e4, e5⟩ := h'.2 _ (List.mem_singleton.2 rfl)
  have en : name = [101, 114, 114, 111, 114] := (Option.some.inj e1).symm
  subst en
  obtain rfl := Option.some.inj (Door.rt.symm.trans e2)
  have hm : ty ∈ (List.range 205).filter fun t => Tryz.prog.rowNamed t [101, 114, 114, 111, 114] := List.mem_filter.2 ⟨List.mem_range.2 (by rw [← Door.size]; exact e3), e4⟩
  rw [Door.oneRow] at hm
  obtain rfl := List.mem_singleton.1 hm
  have hh : typeHandle Tryz.prog 29 = .pointer (some ⟨1, 29, none⟩) := by kernel_rfl
  rw [hh] at e5
  simpa using World.var?_cell Door.et e5 0
theorem GV.start {W : World} (h : W.cell? ⟨0, 0, none⟩ = some (.iface 122 (.agg #[.pointer (some ⟨1, 29, none⟩)]))) : GV (allB W) := fun w hw => by
  have h0 : 0 < W.heap.size := by
    rcases Nat.eq_zero_or_pos W.heap.size with e | e
    · simp [World.cell?, e] at h
    · exact e
  have h1 : w.heap[0]? = W.heap[0]? := by
    rw [Array.getElem?_eq_getElem h0]
    exact hw (0, W.heap[0]) (mem_allB.2 (Array.getElem?_eq_getElem h0))
  simp only [World.cell?, h1] at h ⊢
  exact h
noncomputable def laidWorld (os : Os) : World :=
  let w0 := World.holding Tryz.prog os ⟨#[], #[], []⟩
  { w0 with heap := w0.heap.modify 0 fun
      | .cells _ t frozen => .cells #[.iface 122 (.agg #[.pointer (some ⟨1, 29, none⟩)])] t frozen
      | o => o }
theorem laidWorld_met (os : Os) (args : Array Value) : laidMetH Tryz.prog [("errors.errorType", Rows.laid_errors_errorType)] ((laidWorld os).forCall (fun _ _ => 0) ⟨#[], args, []⟩).memory :=
  laidMetH_of_parts (laidMet_nil _ _) (by kernel_rfl)
end Go.Proofs.YtpomfbdbkejedaaGreatDoor
