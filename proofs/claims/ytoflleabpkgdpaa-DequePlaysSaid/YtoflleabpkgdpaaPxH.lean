/- Plain laws, part x-H: the law DequePlays. No conditions. -/
import Derived.Test.YtoflleabpkgdpaaPxG
import Derived.Test.YtoflleabpkgdpaaOp
set_option linter.unusedVariables false
set_option linter.unusedSimpArgs false
namespace Go.Proofs.Ytoflleabpkgdpaa
open Go Go.Proofs

theorem plays_end {x6 : Option Nat × Rgn} {bd : Nat} (h6 : x6.1 = some bd) (R : Rgn) {Q : Bool → Prop} (hQ : Q true) : fettlelaw11_DequePlays.nx54 true x6 R Q := by
  unfold fettlelaw11_DequePlays.nx54
  rw [h6]
  refine ⟨_, step_nil bd R, ?_⟩
  simpa using hQ
theorem prs_len (l : List (Nat × Nat)) : (prs l).length = l.length := by simp [prs]
theorem prs_get {l : List (Nat × Nat)} {n : Nat} {p : Nat × Nat} (h : l[n]? = some p) : idx (prs l) (n : Int) = some ⟨some p.1, some p.2⟩ := by
  rw [idx_nat, prs, List.getElem?_map, h]; rfl
theorem prs_erase (l : List (Nat × Nat)) (n : Nat) : (prs l).take n ++ (prs l).drop (n + 1) = prs (l.eraseIdx n) := by
  rw [List.eraseIdx_eq_take_drop_succ]
  simp [prs, List.map_take, List.map_drop]
theorem pure_dequePlays (s : List PDeed) (h : okL wfDeed s) : fettlelaw11_DequePlays s (fun b => b = true) := by
  unfold fettlelaw11_DequePlays
  refine up_spec ?_
  refine new_spec fun bd R0 _ hR0 hq => ?_
  refine new_spec fun bd2 R1 hnone hR1 hq2 => ?_
  dsimp only [rD]
  rw [if_neg (by simp)]
  have hne : bd ≠ bd2 := ne_of_look hnone hq.ds
  have hbd : look R1.ds bd = some ⟨A64.zero, 0, 0, none⟩ := by rw [hR1]; exact (look_add hne).trans hq.ds
  have hmk : mkl 64 (0 : Int) = some A64.zero.1 := by
    unfold mkl
    rw [if_pos ⟨by omega, by simp only [LIM]; omega⟩]; rfl
  refine ⟨⟨A64.zero.1, 0, 0, false⟩, ?_, ?_⟩
  · unfold fettleref11_New
    rw [hmk]; rfl
  have hj0 : Jn bd bd2 5 R1 A64.zero.1 0 0 false [] := by
    refine ⟨hne, ⟨_, hq2.ds⟩, ⟨_, hbd, rfl, rfl, rfl, rfl, ⟨⟨by show (-5 : Int) ≤ 0; omega, by show (0 : Int) ≤ 5; omega⟩, ⟨by show (-5 : Int) ≤ 0; omega, by show (0 : Int) ≤ 5; omega⟩⟩, (fun c hc => by cases hc), fun p hp => by simp at hp⟩, by simp, by simp⟩
  refine whlD_for (s0 := (R1, A64.zero.1, (0 : Int), (0 : Int), false, ([] : List PPair), (0 : Int))) 400 (fun i (st : Rgn × List Int × Int × Int × Bool × List PPair × Int) => st.2.2.2.2.2.2 = (i : Int) ∧ ∃ l, st.2.2.2.2.2.1 = prs l ∧ l.length ≤ 6 ∧ Jn bd bd2 (5 + (i : Int)) st.1 st.2.1 st.2.2.1 st.2.2.2.1 st.2.2.2.2.1 l) _ (by simp only [maxLen]; omega) ?_ ?_ ⟨rfl, [], rfl, by simp, by dsimp only; rw [show (5 : Int) + ((0 : Nat) : Int) = 5 by omega]; exact hj0⟩
  · rintro i ⟨R, cs, t, b, busy, pl, k⟩ hi ⟨rfl, l, rfl, hl6, hj⟩ P hP hg
    dsimp only at hj
    have hw : w64 ((i : Int) + 1) = ((i + 1 : Nat) : Int) := w64_succ (by omega)
    have hK : (5 : Int) + (i : Int) + 1 = 5 + ((i + 1 : Nat) : Int) := by omega
    unfold fettlelaw11_DequePlays.bd54
    by_cases hc : (i : Int) < len s ∧ (i : Int) < 400
    · rw [if_pos hc]
      have his : i < s.length := by have := hc.1; simp only [len] at this; omega
      obtain ⟨w1, w2, w3⟩ := h.2 _ (List.getElem_mem his)
      refine ⟨_, idx_lt his, ?_⟩
      obtain ⟨kk, hk, k0, k1⟩ := pick_spec s[i].what 6 w1 (by omega)
      refine ⟨kk, hk, ?_⟩
      by_cases h3 : kk < 3
      · dsimp only
        rw [if_pos h3]
        by_cases hlen : len (prs l) ≥ 6
        · rw [if_pos hlen]
          unfold fettlelaw11_DequePlays.jn99
          rw [hw]
          exact hg _ ⟨rfl, l, rfl, hl6, hK ▸ hj.up⟩
        · rw [if_neg hlen]
          refine begun_spec (by omega) hj kk _ k0 h3 fun P' is busy' R' hcase => ?_
          dsimp only
          rw [if_neg (by simp)]
          rcases hcase with ⟨rfl, hj'⟩ | ⟨rfl, bo, bm, rfl, hj'⟩
          · rw [if_neg (by simp)]
            unfold fettlelaw11_DequePlays.jn138 fettlelaw11_DequePlays.jn99
            dsimp only
            rw [hw]
            exact hg _ ⟨rfl, l, rfl, hl6, hK ▸ hj'.up⟩
          · rw [if_pos rfl]
            have hl5 : l.length < 6 := by simp only [len, prs_len] at hlen; omega
            refine ⟨_, cat_one (by rw [prs_len]; omega), ?_⟩
            unfold fettlelaw11_DequePlays.jn138 fettlelaw11_DequePlays.jn99
            dsimp only
            rw [hw]
            exact hg _ ⟨rfl, l ++ [(bo, bm)], by simp [prs], by simp; omega, hK ▸ hj'.up⟩
      · dsimp only
        rw [if_neg h3]
        by_cases hlen : len (prs l) = 0
        · rw [if_pos hlen]
          unfold fettlelaw11_DequePlays.jn99
          rw [hw]
          exact hg _ ⟨rfl, l, rfl, hl6, hK ▸ hj.up⟩
        · rw [if_neg hlen]
          have hpos : 0 < len (prs l) := by simp only [len, prs_len] at hlen ⊢; omega
          obtain ⟨n, hn, n0, n1⟩ := pick_spec s[i].n (len (prs l)) w3 hpos
          obtain ⟨n, rfl⟩ : ∃ m : Nat, n = (m : Int) := ⟨n.toNat, by omega⟩
          have hnl : n < l.length := by simp only [len, prs_len] at n1; omega
          have hln : l[n]? = some (l[n].1, l[n].2) := List.getElem?_eq_getElem hnl
          refine ⟨_, hn, _, prs_get hln, ?_⟩
          obtain ⟨r1, R1', R2', x', z', y', busy', r2, r3, r4, r5, r6, r7, r8, r9, r10, r11⟩ := round hj (by omega) hln
          refine ⟨_, r1, _, r2, _, r3, _, result_eq r4, _, refresult_eq r5, _, state_eq r6, ?_⟩
          dsimp only
          rw [if_neg (by
            rw [r7]
            by_cases c : x'.got = 1
            · simp [c, r8 c]
            · by_cases c0 : x'.got = 0 <;> simp [c, c0])]
          by_cases c0 : x'.got = 0
          · rw [if_neg (by simp [c0])]
            unfold fettlelaw11_DequePlays.jn99
            rw [hw]
            exact hg _ ⟨rfl, l, rfl, hl6, hK ▸ r10 c0⟩
          · rw [if_pos (by simp [c0])]
            refine ⟨_, step_done r6 r4 r9 c0, ?_⟩
            dsimp only
            rw [if_neg (by simp)]
            have hup : upto (prs l) (n : Int) = some ((prs l).take n) := by
              unfold upto
              rw [if_pos ⟨by omega, by rw [prs_len]; omega⟩, Int.toNat_natCast]
            have hw2 : w64 ((n : Int) + 1) = ((n + 1 : Nat) : Int) := w64_succ (by omega)
            have hfr : from_ (prs l) (w64 ((n : Int) + 1)) = some ((prs l).drop (n + 1)) := by
              rw [hw2]; unfold from_
              rw [if_pos ⟨by omega, by rw [prs_len]; omega⟩, Int.toNat_natCast]
            refine ⟨_, hup, _, hfr, _, cat_nil (by rw [List.length_take, prs_len]; omega), _, cat_ok (by simp only [List.length_take, List.length_drop, prs_len, LIM]; omega), ?_⟩
            unfold fettlelaw11_DequePlays.jn99
            rw [hw]
            exact hg _ ⟨rfl, l.eraseIdx n, prs_erase l n, by rw [List.length_eraseIdx]; split <;> omega, hK ▸ r11 c0⟩
    · rw [if_neg hc]
      exact hP (.go R) (plays_end rfl R rfl)
  · rintro ⟨R, cs, t, b, busy, pl, k⟩ ⟨rfl, _⟩ P hP
    unfold fettlelaw11_DequePlays.bd54
    rw [if_neg (fun hc => by have := hc.2; dsimp only at this; omega)]
    exact hP (.go R) (plays_end rfl R rfl)
end Go.Proofs.Ytoflleabpkgdpaa
