/- Plain laws, part x-D: the document's example; the law DequeRow. No conditions. -/
import Derived.Test.YtoflleabpkgdpaaPxC
import Derived.Test.YtoflleabpkgdpaaK5
set_option linter.unusedVariables false
set_option linter.unusedSimpArgs false
namespace Go.Proofs.Ytoflleabpkgdpaa
open Go Go.Proofs

theorem pick_spec (c n : Int) (hc : inI64 c) (hn : 0 < n) : ∃ v, fettlelaw11_pick c n = some v ∧ 0 ≤ v ∧ v < n := by
  have key : ∀ x : Int, 0 ≤ x → ∃ v, fettlelaw11_pick.jn8 n x = some v ∧ 0 ≤ v ∧ v < n := fun x hx => by
    refine ⟨Int.tmod x n, ?_, Int.tmod_nonneg n hx, Int.tmod_lt_of_pos x hn⟩
    unfold fettlelaw11_pick.jn8 remO
    rw [if_neg (by omega)]; rfl
  unfold fettlelaw11_pick
  by_cases h : c < 0
  · rw [if_pos h, w64_id (x := c + 1) ⟨by have := hc.1; omega, by omega⟩, w64_id (x := 0 - (c + 1)) ⟨by omega, by have := hc.1; omega⟩]
    exact key _ (by omega)
  · rw [if_neg h]; exact key _ (by omega)
theorem cont_zero : cont ⟨A64.zero, 0, 0, none⟩ = [] := cont_nil (Int.le_refl _)
theorem up_spec {Q : Bool → Prop} (hQ : Q true) : fettlelaw11_up Q := by
  unfold fettlelaw11_up
  refine new_spec fun bd R0 _ _ hq => ?_
  dsimp only [rD]
  rw [if_neg (by simp)]
  refine push_spec hq (by show (0 : Int) < _; omega) fun bo R1 R2 x2 d1 d2 d3 => ?_
  dsimp only [rD]
  rw [if_neg (by simp)]
  refine ⟨_, d1, ?_⟩
  unfold fettlelaw11_up.jn82
  dsimp only [rD]
  rw [if_neg (by simp)]
  rcases d3 with ⟨c1, _, _⟩ | ⟨_, q2, _, _⟩
  · exact absurd c1 (by show ¬ (0 : Int) - 0 ≥ 64; omega)
  have hcont := cont_push (y := ⟨A64.zero, 0, 0, none⟩) (v := 7) (o := none) (Int.le_refl _) (Int.le_refl _) (by show (0 : Int) - 0 < 64; omega)
  rw [cont_zero] at hcont
  refine pop_spec q2 (by show (0 : Int) < _; omega) fun bo' R3 R4 x4 y4 e1 e2 e3 _ e5 => ?_
  dsimp only [rD]
  rw [if_neg (by simp)]
  refine ⟨_, e1, ?_⟩
  unfold fettlelaw11_up.jn78
  dsimp only [rD]
  rw [if_neg (by simp)]
  refine ⟨_, result_eq e2, ?_⟩
  rw [hcont] at e5
  rcases e5 with ⟨c1, _⟩ | ⟨c1, c2, _⟩
  · simp at c1
  · obtain ⟨_, g2⟩ := List.append_inj' c2 rfl
    simp only [List.cons.injEq, and_true] at g2
    rw [← g2]
    simpa [c1] using hQ

def vals (a n : Nat) : List Int := (List.range n).map fun (k : Nat) => 100 + ((a : Int) + (k : Int))
theorem vals_succ (a n : Nat) : vals a (n + 1) = vals a n ++ [100 + ((a : Int) + (n : Int))] := by unfold vals; rw [List.range_succ, List.map_append]; rfl
theorem vals_cons (a n : Nat) : vals a (n + 1) = (100 + (a : Int)) :: vals (a + 1) n := by
  unfold vals
  rw [List.range_succ_eq_map, List.map_cons, List.map_map]
  refine List.cons_eq_cons.2 ⟨by simp, List.map_congr_left fun k _ => ?_⟩
  simp only [Function.comp, Nat.succ_eq_add_one]; omega
theorem row_left {bd : Nat} {R : Rgn} {y : QDeque} {x5 : Option Nat × Rgn} (h5 : x5.1 = some bd) (h : Qt R bd y) (hb : y.top ≤ 1000) (a n : Nat) (hn : n ≤ 100) (hc : cont y = vals a n) {Q : Bool → Prop} (hQ : Q true) : fettlelaw11_DequeRow.nx90 true x5 R (vals a n) Q := by
  unfold fettlelaw11_DequeRow.nx90
  rw [if_pos rfl, h5]
  refine left_spec h hb (vals a n) hc (by simp only [vals, List.length_map, List.length_range]; omega) fun R' => ?_
  unfold fettlelaw11_DequeRow.jn103
  exact hQ
theorem row_in {bd : Nat} {R : Rgn} {y : QDeque} {x5 : Option Nat × Rgn} (h5 : x5.1 = some bd) (h : Qt R bd y) (hb : y.top ≤ 1000) (s n : Nat) (hs : s ≤ 100) (hn : n ≤ 100) (hc : cont y = vals s (n - s)) {Q : Bool → Prop} (hQ : Q true) : fettlelaw11_DequeRow.nx68 true x5 (n : Int) (s : Int) R Q := by
  unfold fettlelaw11_DequeRow.nx68
  refine whlD_for (s0 := (([] : List Int), (s : Int))) (n - s) (fun i st => st.1 = vals s i ∧ st.2 = ((s + i : Nat) : Int)) _ (by simp only [maxLen]; omega) ?_ ?_ ⟨rfl, by simp⟩
  · rintro i ⟨l, k⟩ hi ⟨rfl, rfl⟩ P hP hg
    unfold fettlelaw11_DequeRow.bd90
    dsimp only [rD]
    rw [if_pos (by omega)]
    have hv : (vals s i).length ≤ 1000 := by simp only [vals, List.length_map, List.length_range]; omega
    refine ⟨_, cat_one hv, ?_⟩
    refine hg _ ⟨?_, ?_⟩
    · show vals s i ++ [w64 (100 + ((s + i : Nat) : Int))] = vals s (i + 1)
      rw [vals_succ, w64_id ⟨by omega, by omega⟩, show ((s + i : Nat) : Int) = (s : Int) + (i : Int) by omega]
    · show w64 (((s + i : Nat) : Int) + 1) = _
      rw [w64_id ⟨by omega, by omega⟩]; omega
  · rintro ⟨l, k⟩ ⟨rfl, rfl⟩ P hP
    unfold fettlelaw11_DequeRow.bd90
    dsimp only [rD]
    rw [if_neg (by omega)]
    exact hP _ (row_left h5 h hb s (n - s) (by omega) hc hQ)
theorem row_steals {bd : Nat} {R : Rgn} {y : QDeque} {x5 : Option Nat × Rgn} (h5 : x5.1 = some bd) (h : Qt R bd y) (ht : y.top = 0) (a2 : Int) (h2 : inI64 a2) (n : Nat) (hn : n ≤ 64) (hc : cont y = vals 0 n) {Q : Bool → Prop} (hQ : Q true) : fettlelaw11_DequeRow.jn49 a2 true x5 R (n : Int) Q := by
  unfold fettlelaw11_DequeRow.jn49
  obtain ⟨v, hv, v0, v1⟩ := pick_spec a2 70 h2 (by omega)
  obtain ⟨s, rfl⟩ : ∃ s : Nat, v = (s : Int) := ⟨v.toNat, by omega⟩
  refine ⟨_, hv, ?_⟩
  refine whlD_for (s0 := (R, (0 : Int))) s (fun i st => st.2 = (i : Int) ∧ ∃ y, Qt st.1 bd y ∧ cont y = vals i (n - i) ∧ y.top ≤ (i : Int)) _ (by simp only [maxLen]; omega) ?_ ?_ ⟨rfl, y, h, hc, by omega⟩
  · rintro i ⟨R, k⟩ hi ⟨rfl, y, hq, hcy, hyt⟩ P hP hg
    simp only at hq
    unfold fettlelaw11_DequeRow.bd68
    dsimp only [rD]
    rw [if_pos (by omega), h5]
    refine steal_spec hq (by omega) fun bo R1 R2 x2 y2 d1 d2 d3 d4 d5 => ?_
    dsimp only [rD]
    rw [if_neg (by simp)]
    refine ⟨_, d1, ?_⟩
    unfold fettlelaw11_DequeRow.jn212
    dsimp only [rD]
    rw [if_neg (by simp)]
    refine ⟨_, result_eq d2, ?_⟩
    dsimp only [rD]
    have hw : w64 (100 + (i : Int)) = 100 + (i : Int) := w64_id ⟨by omega, by omega⟩
    have hw2 : w64 ((i : Int) + 1) = ((i + 1 : Nat) : Int) := w64_succ (by omega)
    rw [hw, hw2]
    rcases Nat.lt_or_ge i n with hin | hin
    · rw [show n - i = (n - (i + 1)) + 1 by omega, vals_cons] at hcy
      rcases d5 with ⟨c1, _⟩ | ⟨c1, c2⟩
      · rw [hcy] at c1; cases c1
      rw [hcy] at c2
      simp only [List.cons.injEq] at c2
      rw [if_neg (by simp [c1, ← c2.1]; omega)]
      exact hg _ ⟨rfl, y2, d3, c2.2.symm, by show y2.top ≤ ((i + 1 : Nat) : Int); omega⟩
    · rw [show n - i = 0 by omega] at hcy
      rcases d5 with ⟨c1, c2, c3⟩ | ⟨c1, c2⟩
      · rw [if_neg (by simp [c3]; omega)]
        subst c2
        exact hg _ ⟨rfl, y2, d3, by rw [hcy, show n - (i + 1) = 0 by omega]; rfl, by show y2.top ≤ ((i + 1 : Nat) : Int); omega⟩
      · rw [hcy] at c2; cases c2
  · rintro ⟨R, k⟩ ⟨rfl, y, hq, hcy, hyt⟩ P hP
    unfold fettlelaw11_DequeRow.bd68
    dsimp only [rD]
    rw [if_neg (by omega)]
    exact hP (.go R) (row_in h5 hq (by omega) s n (by omega) (by omega) hcy hQ)
theorem row_push {bd : Nat} {R : Rgn} {y : QDeque} {x5 : Option Nat × Rgn} (h5 : x5.1 = some bd) (h : Qt R bd y) (ht : y.top = 0) (a2 : Int) (h2 : inI64 a2) (n : Nat) (hn : n ≤ 70) (hc : cont y = vals 0 (min n 64)) {Q : Bool → Prop} (hQ : Q true) : fettlelaw11_DequeRow.nx36 a2 true x5 (n : Int) R Q := by
  unfold fettlelaw11_DequeRow.nx36
  by_cases c : (n : Int) > 64
  · rw [if_pos c]
    rw [show min n 64 = 64 by omega] at hc
    exact row_steals h5 h ht a2 h2 64 (by omega) hc hQ
  · rw [if_neg c]
    rw [show min n 64 = n by omega] at hc
    exact row_steals h5 h ht a2 h2 n (by omega) hc hQ
theorem pure_dequeRow (a1 a2 : Int) (h1 : inI64 a1) (h2 : inI64 a2) : fettlelaw11_DequeRow a1 a2 (fun b => b = true) := by
  unfold fettlelaw11_DequeRow
  refine up_spec ?_
  refine new_spec fun bd R0 _ _ hq => ?_
  dsimp only [rD]
  rw [if_neg (by simp)]
  obtain ⟨v, hv, v0, v1⟩ := pick_spec a1 70 h1 (by omega)
  obtain ⟨n, rfl⟩ : ∃ n : Nat, v = (n : Int) := ⟨v.toNat, by omega⟩
  refine ⟨_, hv, ?_⟩
  refine whlD_for (s0 := (R0, (0 : Int))) n (fun i st => st.2 = (i : Int) ∧ ∃ y, Qt st.1 bd y ∧ cont y = vals 0 (min i 64) ∧ y.top = 0 ∧ y.bottom = ((min i 64 : Nat) : Int)) _ (by simp only [maxLen]; omega) ?_ ?_ ⟨rfl, _, hq, cont_zero, rfl, rfl⟩
  · rintro i ⟨R, k⟩ hi ⟨rfl, y, hq, hcy, hyt, hyb⟩ P hP hg
    simp only at hq
    unfold fettlelaw11_DequeRow.bd36
    dsimp only [rD]
    have hw : w64 (100 + (i : Int)) = 100 + (i : Int) := w64_id ⟨by omega, by omega⟩
    have hw2 : w64 ((i : Int) + 1) = ((i + 1 : Nat) : Int) := w64_succ (by omega)
    rw [if_pos (by omega), hw]
    refine push_spec hq (by omega) fun bo R1 R2 x2 d1 d2 d3 => ?_
    dsimp only [rD]
    rw [if_neg (by simp)]
    refine ⟨_, d1, ?_⟩
    unfold fettlelaw11_DequeRow.jn310
    dsimp only [rD]
    rw [if_neg (by simp)]
    refine ⟨_, result_eq d2, ?_⟩
    dsimp only [rD]
    rw [hw2]
    rcases d3 with ⟨c1, q2, c3⟩ | ⟨c1, q2, c3, c4⟩
    · rw [if_neg (by simp [c3]; omega)]
      exact hg _ ⟨rfl, y, q2, by rw [hcy]; congr 1; omega, hyt, by rw [hyb]; omega⟩
    · rw [if_neg (by simp [c3]; omega)]
      have hi64 : i < 64 := by omega
      refine hg _ ⟨rfl, _, q2, ?_, hyt, by show y.bottom + 1 = _; rw [hyb]; omega⟩
      rw [cont_push (by omega) (by rw [hyt, hyb]; omega) (by omega), hcy, show min (i + 1) 64 = i + 1 by omega, vals_succ, show min i 64 = i by omega]
      congr 2; omega
  · rintro ⟨R, k⟩ ⟨rfl, y, hq, hcy, hyt, hyb⟩ P hP
    unfold fettlelaw11_DequeRow.bd36
    dsimp only [rD]
    rw [if_neg (by omega)]
    exact hP (.go R) (row_push rfl hq hyt a2 h2 n (by omega) hcy rfl)
end Go.Proofs.Ytoflleabpkgdpaa
