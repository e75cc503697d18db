/- By hand: slices.Sort and slices.Compact at []int, by the kit's contracts; min and max. No conditions. -/
import Derived.Test.YtpomfbdbkejedaaGreatDoorShP
set_option linter.unusedVariables false
set_option linter.unusedSimpArgs false
namespace Go.Proofs.YtpomfbdbkejedaaGreatDoor
open Go Go.Proofs Go.Sort

/-! ### slices.Sort -/
abbrev slices_Sort.R (v2 : Value) (r : List Int) (v : Value) (A : List FP) : Prop := ∃ (G1 : FP), .tuple #[] = v ∧ A = [G1] ∧ SlO 3 (kInt .i64) r v2 G1
def slices_Sort (a1 : List Int) : Option (List Int) := some (isort a1)
theorem slices_Sort_ok {E : World} {H : FP} {w : World} {a1 : List Int} {v2 : Value} {F3 : FP} {r : List Int} (h4 : SlO 3 (kInt .i64) a1 v2 F3) (hp : slices_Sort a1 = some r) (hst : St E H [F3] w) :
    Fn Tryz.prog 26 #[v2] w fun v w' => ∃ A, slices_Sort.R v2 r v A ∧ St E H A w' := by
  have hr : isort a1 = r := Option.some.inj hp
  subst hr
  obtain ⟨hl, ⟨rfl, rfl, rfl⟩ | ⟨b, css, post, c, G, rfl, rfl, hrep, hpost, hc, hm⟩⟩ := h4
  · refine Calls.mono (Any.slices_Sort_int_none Tryz.laysSort none 0 w) ?_
    rintro e w' ⟨rfl, rfl⟩
    exact ⟨_, rfl, _, ⟨_, rfl, rfl, SlO.nil 3⟩, hst⟩
  · obtain ⟨hf, rfl⟩ := repl_ints hrep
    rw [hf] at hst
    obtain ⟨hH, hb⟩ := holds_cells hst
    refine Calls.mono (Any.slices_Sort_int Tryz.laysSort b 0 c a1 w hH hb (by simp only [LIM] at hl; omega)) ?_
    rintro e w' ⟨rfl, n, os, rfl⟩
    have hlen : (isort a1).length = a1.length := (isort_perm a1).length_eq
    refine ⟨_, rfl, [[(b, Obj.cells ((isort a1).map (Value.int .i64) ++ post).toArray 3 (0, 0))]], ⟨_, rfl, rfl, ?_⟩, ?_⟩
    · refine ⟨by rw [hlen]; exact hl, .inr ⟨b, (isort a1).map fun x => [.int .i64 x], post, c, [], by rw [hlen], by rw [ints_flat], ints_repl _, by rw [hlen]; exact hpost, by rw [hlen]; exact hc, hm⟩⟩
    · rw [isort_merge]
      have := St.sorted hst n (enc := Value.int .i64) (isort a1) os (by simp [hlen])
      rw [show (a1.map (Value.int .i64) ++ post).drop (isort a1).length = post by rw [hlen, List.drop_append_of_le_length (by simp), List.drop_eq_nil_of_le (by simp), List.nil_append]] at this
      exact this

/-! ### slices.Compact -/
abbrev slices_Compact.R (r : List Int) (v : Value) (A : List FP) : Prop := ∃ (w1 : Value) (G1 : FP), w1 = v ∧ A = [G1] ∧ SlO 3 (kInt .i64) r w1 G1
def slices_Compact (a1 : List Int) : Option (List Int) := some (Lib.compact a1)
theorem compact_le (a : List Int) : (Lib.compact a).length ≤ a.length := by
  unfold Lib.compact Lib.compactUpTo
  rw [List.length_map]
  exact Nat.le_trans (List.length_filter_le _ _) (by simp)
theorem slices_Compact_ok {E : World} {H : FP} {w : World} {a1 : List Int} {v2 : Value} {F3 : FP} {r : List Int} (h4 : SlO 3 (kInt .i64) a1 v2 F3) (hp : slices_Compact a1 = some r) (hst : St E H [F3] w) :
    Fn Tryz.prog 27 #[v2] w fun v w' => ∃ A, slices_Compact.R r v A ∧ St E H A w' := by
  have hr : Lib.compact a1 = r := Option.some.inj hp
  subst hr
  obtain ⟨hl, ⟨rfl, rfl, rfl⟩ | ⟨b, css, post, c, G, rfl, rfl, hrep, hpost, hc, hm⟩⟩ := h4
  · refine Calls.mono (Any.slices_Compact_int_empty Tryz.laysCompact none 0 w) ?_
    rintro e w' ⟨rfl, rfl⟩
    exact ⟨_, rfl, _, ⟨_, _, rfl, rfl, SlO.nil 3⟩, hst⟩
  · obtain ⟨hf, rfl⟩ := repl_ints hrep
    rw [hf] at hst
    obtain ⟨hH, hb⟩ := holds_cells hst
    refine Calls.mono (Any.slices_Compact_int Tryz.laysCompact b 0 c a1 w hH (by simp only [LIM] at hl; omega) hc) ?_
    rintro e w' ⟨rfl, q, rfl⟩
    have hle := compact_le a1
    have hlen : (Lib.compact a1 ++ List.replicate (a1.length - (Lib.compact a1).length) (0 : Int)).length = a1.length := by simp; omega
    refine ⟨_, rfl, [[(b, Obj.cells ((Lib.compact a1).map (Value.int .i64) ++ ((List.replicate (a1.length - (Lib.compact a1).length) (0 : Int)).map (Value.int .i64) ++ post)).toArray 3 (0, 0))]], ⟨_, _, rfl, rfl, ?_⟩, ?_⟩
    · refine ⟨by omega, .inr ⟨b, (Lib.compact a1).map fun x => [.int .i64 x], _, c, [], rfl, by rw [ints_flat], ints_repl _, ?_, by omega, hm⟩⟩
      simp only [List.length_append, List.length_map, List.length_replicate, hpost, kInt]
      omega
    · have := St.sorted hst q (enc := Value.int .i64) (Lib.compact a1 ++ List.replicate (a1.length - (Lib.compact a1).length) (0 : Int)) #[] (by rw [hlen]; simp)
      rw [show (a1.map (Value.int .i64) ++ post).drop (Lib.compact a1 ++ List.replicate (a1.length - (Lib.compact a1).length) (0 : Int)).length = post by rw [hlen, List.drop_append_of_le_length (by simp), List.drop_eq_nil_of_le (by simp), List.nil_append], List.map_append, List.append_assoc, grow_empty] at this
      exact this
end Go.Proofs.YtpomfbdbkejedaaGreatDoor
