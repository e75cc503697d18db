/- By hand: slices.Delete of one element of a row of pairs of numbers (after the kit's own walk of slices.Delete at []int). No conditions. -/
import Derived.Test.YtpmcbahahjelnaaTb
import Derived.Shelf.RegionOpenPlain
import Derived.WalkKit
import Derived.Deep.LoopGhost
import Derived.Deep.RegionLaw
import Derived.Lib.Walk
import Derived.Sort.WalkB12
import Derived.Lib.SliceRun
import Derived.Lib.SlicesDelete
set_option linter.unusedVariables false
set_option linter.unusedSimpArgs false
namespace Go.Proofs.Ytpmcbahahjelnaa
open Go Go.Proofs Go.Shelf Go.RowKit Go.Lib Go.Sort

theorem clear_pair {P : Program} (w : World) (t e ty : TypeId) (z : Int) (ht : P.underlying t = some (.slice e)) (hv : ∀ w, (zeroValue e).run P w = .ok (.agg #[.int .i64 z, .int .i64 z]) w) (b o c : Nat)
    (hc : ∀ j, j < 2 → (w.cell? ⟨b, o + j, none⟩).isSome = true) (hf : ∀ j, j < 2 → w.frozen? ⟨b, o + j, none⟩ = false) :
    (Builtin.clear_ #[t] ty #[.slice (some ⟨b, o, none⟩) 1 c]).run P w = .ok (.tuple #[]) (w.setCells b o [.int .i64 z, .int .i64 z]) := by
  have hst := run_storeCells_cells (P := P) b o [.int .i64 z, .int .i64 z] 0 w (by simpa using hc) (by simpa using hf) (by intro v hv'; simp at hv'; subst hv'; rfl)
  simp only [Nat.add_zero] at hst
  have hzc : (Builtin.zeroCells (Value.agg #[.int .i64 z, .int .i64 z]).cells 1).toList = [.int .i64 z, .int .i64 z] := by
    simp [Builtin.zeroCells, Value.cells, List.range_succ, Array.toList_ofFn]
  simp [Builtin.clear_, run_underlying ht, hv, hzc, hst]

set_option maxHeartbeats 4000000 in
set_option maxRecDepth 1000000 in
theorem delete_pair (blk cap n i j : Nat) (hji : j = i + 1) (d : Array Int) (hd : d.size = 2 * n) (w : World) (hH : Holds (Value.int .i64) w blk 0 d) (hcap : n ≤ cap) (hm : cap ≤ 9223372036854775807) (hi : i < n) :
    Calls Try.prog 24 #[.slice (some ⟨blk, 0, none⟩) n cap, .int .i64 i, .int .i64 (j : Int)] w fun e w' => e = .returned (.slice (some ⟨blk, 0, none⟩) (n - 1) cap) ∧ ∃ q, w' = putRow (Value.int .i64) (Sort.ahead w q) blk 0 (d.toList.take (2 * i) ++ d.toList.drop (2 * i + 2) ++ List.replicate 2 0).toArray := by
  have mixed : Try.prog.follows Departure.mixedOrders = true := by kernel_rfl
  have t22 := Try.underlying22; have a22 := Try.isAgg22; have z22 := Try.sizeOf22; have v22 := Try.zeroValue22
  have t3 := Try.underlying3; have a3 := Try.isAgg3; have z3 := Try.sizeOf3; have v3 := Try.zeroValue3
  have t4 := Try.underlying4; have a4 := Try.isAgg4; have z4 := Try.sizeOf4; have v4 := Try.zeroValue4
  have t31 := Try.underlying31; have a31 := Try.isAgg31; have z31 := Try.sizeOf31; have v31 := Try.zeroValue31
  obtain ⟨i0, hi0, _, hz1, _⟩ := (i31).get
  obtain ⟨news, hnews⟩ : ∃ news, news = (d.toList.drop (2 * i + 2)).map (Value.int .i64) := ⟨_, rfl⟩
  have hlen : news.length = (n - j) * 2 := by rw [hnews]; simp [hd]; omega
  have hget : ∀ t, t < (n - j) * 2 → news[t]? = some (Value.int .i64 d[2 * i + 2 + t]!) := by
    intro t ht
    rw [hnews, List.getElem?_map, List.getElem?_drop, Array.getElem?_toList, getElem!_pos d (2 * i + 2 + t) (by omega), Array.getElem?_eq_getElem (by omega)]
    rfl
  obtain ⟨A, hA, hsrc⟩ : ∃ A : Addr, (if cap = j then some (⟨blk, 0, none⟩ : Addr) else some ⟨blk, j * 2, none⟩) = some A ∧ Hid (∀ t u, news[t]? = some u → w.drew.cell? (A.add t) = some u) := by
    by_cases h : cap = j
    · refine ⟨⟨blk, 0, none⟩, by simp [h], fun t u hu => ?_⟩
      have h0 : news.length = 0 := by rw [hlen]; omega
      rw [List.length_eq_zero_iff.1 h0] at hu
      simp at hu
    · refine ⟨⟨blk, j * 2, none⟩, by simp [h], fun t u hu => ?_⟩
      have ht : t < (n - j) * 2 := by
        have := (List.getElem?_eq_some_iff.1 hu).1
        rwa [hlen] at this
      rw [hget t ht] at hu
      rw [Addr.add_lit, show j * 2 + t = 0 + (2 * i + 2 + t) by omega]
      exact (hH (2 * i + 2 + t) (by omega)).1.trans hu
  have s1 : Hid (news.length = (n - j) * 2) := hlen
  have s2 : Hid (∀ u ∈ news, u.oneCell' = true) := by
    intro u hu
    rw [hnews] at hu
    obtain ⟨x, _, rfl⟩ := List.mem_map.1 hu
    rfl
  have s3 : Hid (∀ t, t < news.length → (w.drew.cell? ⟨blk, 0 + i * 2 + t, none⟩).isSome = true ∧ w.drew.frozen? ⟨blk, 0 + i * 2 + t, none⟩ = false) := by
    intro t ht
    rw [hlen] at ht
    rw [show 0 + i * 2 + t = 0 + (2 * i + t) by omega]
    exact ⟨by show (w.cell? _).isSome = true; rw [(hH (2 * i + t) (by omega)).1]; rfl, (hH (2 * i + t) (by omega)).2⟩
  obtain ⟨W1, hW1⟩ : ∃ W1, W1 = w.drew.setCells blk (0 + i * 2) news := ⟨_, rfl⟩
  have hW1' : W1 = putRow (Value.int .i64) (Sort.ahead w 1) blk 0 (lay d (2 * i) (d.toList.drop (2 * i + 2))) := by
    rw [hW1, hnews, show 0 + i * 2 = 0 + 2 * i by omega, ← putRow_setCells (Value.int .i64) (Sort.ahead w 1) blk 0 _ d (2 * i) (by simp [hd]; omega), putRow_self (Value.int .i64) (Sort.ahead w 1) blk 0 d (holds_ahead (Value.int .i64) w 1 blk 0 d hH)]
    rfl
  have hH1 : Holds (Value.int .i64) W1 blk 0 (lay d (2 * i) (d.toList.drop (2 * i + 2))) := by rw [hW1']; exact holds_putRow (Value.int .i64) _ blk 0 d _ (holds_ahead (Value.int .i64) w 1 blk 0 d hH) (lay_size _ _ _)
  have hcl : ∀ ty, (Builtin.clear_ #[22] ty #[.slice (some ⟨blk, (i + (n - j)) * 2, none⟩) (n - (i + (n - j))) (cap - (i + (n - j)))]).run Try.prog W1 = .ok (.tuple #[]) (W1.setCells blk ((i + (n - j)) * 2) [.int .i64 0, .int .i64 0]) := fun ty => by
    have e1 : n - (i + (n - j)) = 1 := by omega
    rw [e1]
    exact clear_pair W1 22 31 ty 0 t22 v31 blk _ _ (fun t ht => by rw [show (i + (n - j)) * 2 + t = 0 + ((i + (n - j)) * 2 + t) by omega, (hH1 _ (by rw [lay_size]; omega)).1]; rfl) (fun t ht => by rw [show (i + (n - j)) * 2 + t = 0 + ((i + (n - j)) * 2 + t) by omega]; exact (hH1 _ (by rw [lay_size]; omega)).2)
  have X : Aside (W1 = putRow (Value.int .i64) (Sort.ahead w 1) blk 0 (lay d (2 * i) (d.toList.drop (2 * i + 2)))) := hW1'
  have hW : Hid (W1 = w.drew.setCells blk (0 + i * 2) news) := hW1
  have hic : i ≤ cap := by omega
  have hjc : j ≤ cap := by omega
  have hij : i ≤ j := by omega
  have hjn : j ≤ n := by omega
  have hne : ¬ i = j := by omega
  have hfin : n - 1 = i + (n - j) := by omega
  clear hW1 hW1' hH1 hH hget hnews hlen hji
  go_enter Try.func24, Try.ntmps24
  go_wp2_with fail
  go_region_law_o (refine step_append_room rfl (.tmp 22) (.tmp 25) 22 rfl 31 i0 2 t22 hi0 hz1 blk 0 i cap (by simp [Act.eval, Act.put]) A (n - j) (cap - j) news (by simp [Act.eval, Act.put]) s1.out hsrc.out s2.out (by omega) s3.out ?_; rw [← hW.out])
  go_wp2
  go_ret
  refine ⟨by rw [hfin]; rfl, 1, ?_⟩
  have hda := delete_arr d (2 * i) (2 * i + 2) 0 (by omega) (by omega)
  rw [show 2 * i + 2 - 2 * i = 2 by omega] at hda
  rw [← hda, ← putRow_setCells (Value.int .i64) _ blk 0 _ _ (2 * i + (d.size - (2 * i + 2))) (by rw [lay_size]; simp; omega), ← X.out, List.map_replicate]
  rw [show 0 + (2 * i + (d.size - (2 * i + 2))) = (i + (n - j)) * 2 by omega]
  rfl
end Go.Proofs.Ytpmcbahahjelnaa
