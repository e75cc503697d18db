/- Plain laws, part N: the trimmed function is all reached; trimmed once more it stays. No conditions. -/
import Derived.Test.YtoflleabpkgdpaaPuM
set_option linter.unusedVariables false
set_option linter.unusedSimpArgs false
namespace Go.Proofs.Ytoflleabpkgdpaa
open Go Go.Proofs

/-! ### Places among those that are marked -/
def rk (s : List Bool) (i : Nat) : Nat := (s.take i).count true
theorem rk_succ (s : List Bool) (n : Nat) (h : n < s.length) : rk s (n + 1) = rk s n + (if s.getD n false = true then 1 else 0) := by
  unfold rk
  rw [List.take_succ_eq_append_getElem h, List.count_append]
  have : s.getD n false = s[n] := by simp [List.getD_eq_getElem?_getD, h]
  rw [this]
  cases s[n] <;> simp
theorem rk_le (s : List Bool) : ∀ (i : Nat), i ≤ s.length → rk s i ≤ i
  | 0, _ => by simp [rk]
  | i + 1, h => by
    have := rk_le s i (by omega)
    rw [rk_succ s i (by omega)]
    split <;> omega
section
variable {β : Type} {s : List Bool} {t : Nat → Option β} (h : ∀ i, i < s.length → (t i).isSome = s.getD i false)
include h
theorem fm_len : ∀ (n : Nat), n ≤ s.length → ((List.range n).filterMap t).length = rk s n
  | 0, _ => by simp [rk]
  | n + 1, hn => by
    have ih := fm_len n (by omega)
    have hs := h n (by omega)
    rw [List.range_succ, List.filterMap_append, List.length_append, ih, rk_succ s n (by omega), ← hs]
    cases ht : t n <;> simp [ht]
theorem fm_get : ∀ (n i : Nat), n ≤ s.length → i < n → s.getD i false = true → ((List.range n).filterMap t)[rk s i]? = t i
  | 0, i, _, hi, _ => by omega
  | n + 1, i, hn, hi, hs => by
    have hl := fm_len h n (by omega)
    rw [List.range_succ, List.filterMap_append]
    rcases Nat.lt_or_ge i n with hlt | hge
    · have ih := fm_get n i (by omega) hlt hs
      have hsome := h i (by omega)
      rw [hs] at hsome
      obtain ⟨x, hx⟩ := Option.isSome_iff_exists.1 hsome
      rw [hx] at ih
      rw [List.getElem?_append_left (List.getElem?_eq_some_iff.1 ih).1, ih, hx]
    · obtain rfl : i = n := by omega
      rw [List.getElem?_append_right (by omega), hl, Nat.sub_self]
      have hsome := h i (by omega)
      rw [hs] at hsome
      obtain ⟨x, hx⟩ := Option.isSome_iff_exists.1 hsome
      simp [hx]
theorem fm_all : ∀ (n k : Nat), n ≤ s.length → k < ((List.range n).filterMap t).length → ∃ i, i < n ∧ s.getD i false = true ∧ k = rk s i
  | 0, k, _, hk => by simp at hk
  | n + 1, k, hn, hk => by
    have hl := fm_len h n (by omega)
    rw [fm_len h (n + 1) hn, rk_succ s n (by omega)] at hk
    rcases Nat.lt_or_ge k (rk s n) with hlt | hge
    · obtain ⟨i, h1, h2, h3⟩ := fm_all n k (by omega) (by omega)
      exact ⟨i, by omega, h2, h3⟩
    · by_cases hs : s.getD n false = true
      · rw [if_pos hs] at hk
        exact ⟨n, by omega, hs, by omega⟩
      · rw [if_neg hs] at hk; omega
end
theorem trimAt_some (f : PFunc) (s : List Bool) (hl : s.length = f.blocks.length) (i : Nat) (hi : i < s.length) : (trimAt f s i).isSome = s.getD i false := by
  have hi' : i < f.blocks.length := by omega
  unfold trimAt
  rw [List.getElem?_eq_getElem hi']
  cases hb : s.getD i false <;> simp
theorem trimF_len (f : PFunc) (s : List Bool) (hl : s.length = f.blocks.length) : (trimF f s).blocks.length = s.count true := by
  have := fm_len (trimAt_some f s hl) s.length (Nat.le_refl _)
  simp only [trimF, ← hl, this, rk, List.take_length]
theorem trimF_get (f : PFunc) (s : List Bool) (hl : s.length = f.blocks.length) (i : Nat) (hi : i < f.blocks.length) (hs : s.getD i false = true) :
    (trimF f s).blocks[rk s i]? = some (trimB s (preds (nexts f) i) f.blocks[i]) := by
  have := fm_get (trimAt_some f s hl) s.length i (Nat.le_refl _) (by omega) hs
  simp only [trimF, ← hl, this]
  simp only [trimAt, List.getElem?_eq_getElem hi, hs, if_true]
theorem trimF_all (f : PFunc) (s : List Bool) (hl : s.length = f.blocks.length) (k : Nat) (hk : k < (trimF f s).blocks.length) : ∃ i, i < f.blocks.length ∧ s.getD i false = true ∧ k = rk s i := by
  have := fm_all (trimAt_some f s hl) s.length k (Nat.le_refl _) (by simp only [trimF, ← hl] at hk; exact hk)
  obtain ⟨i, h1, h2, h3⟩ := this
  exact ⟨i, by omega, h2, h3⟩
theorem sn_iff {s : List Bool} {v : Nat} : sn s v ↔ v < s.length ∧ s.getD v false = true := by
  unfold sn
  rw [List.getD_eq_getElem?_getD]
  constructor
  · intro h; exact ⟨(List.getElem?_eq_some_iff.1 h).1, by rw [h]; rfl⟩
  · rintro ⟨h1, h2⟩; rw [List.getElem?_eq_getElem h1] at h2 ⊢; exact congrArg some h2
theorem renum_num (s : List Bool) (w : Nat) (h : w < s.length) (hs : s.getD w false = true) : renum (numF s) (w : Int) = (rk s w : Int) := by
  unfold renum
  rw [if_pos ⟨by omega, by rw [numF_length]; omega⟩]
  have := numF_get s w h
  have h2 : s[w] = true := by simpa [List.getD_eq_getElem?_getD, h] using hs
  rw [if_pos h2] at this
  simp only [Int.toNat_natCast, List.getD_eq_getElem?_getD, this]; rfl
theorem nexts_get (f : PFunc) (v : Nat) (h : v < f.blocks.length) : (nexts f)[v]? = some (succs f.blocks.length f.blocks[v].term.to) := by simp [nexts, h]

/-- Each block of the trimmed function is reached. -/
theorem trim_reached (f : PFunc) (hf : SmF f) {s : List Bool} {o : List Int} (hw : Walked f s o) {s' : List Bool} {o' : List Int} (hw' : Walked (trimF f s) s' o') : s' = List.replicate (trimF f s).blocks.length true := by
  obtain ⟨s1, o1, hw1, h10, h11⟩ := walked_any f hf
  obtain rfl : s1 = s := Option.some.inj (hw1.rea.symm.trans hw.rea)
  obtain ⟨s2, o2, hw2, h20, h21⟩ := walked_any (trimF f s1) (trimF_small f hf s1)
  obtain rfl : s2 = s' := Option.some.inj (hw2.rea.symm.trans hw'.rea)
  have hl := hw.len
  have hl2 := hw2.len
  rcases Nat.eq_zero_or_pos f.blocks.length with h0 | hpos
  · have : (trimF f s1).blocks.length = 0 := by simp [trimF, h0]
    rw [(h20 this).1, this]; rfl
  · obtain ⟨hV, hs0, _⟩ := h11 hpos
    have hs0' := sn_iff.1 hs0
    have hpos' : 0 < (trimF f s1).blocks.length := by
      have := trimF_get f s1 hl 0 hpos hs0'.2
      exact Nat.lt_of_le_of_lt (Nat.zero_le _) (List.getElem?_eq_some_iff.1 this).1
    obtain ⟨hV2, hs20, _⟩ := h21 hpos'
    have hfalse : ∀ (n v : Nat), v < n → (List.replicate n false)[v]? = some false := fun n v hv => by simp [hv]
    have hclos : Closed (nexts (trimF f s1)) (sn s2) := fun v w row g1 g2 g3 => hV2.clos v w row g1 (hfalse _ v (by rw [← hl2]; exact (List.getElem?_eq_some_iff.1 g1).1)) g2 g3
    have hclosf : Closed (nexts f) (sn s1) := fun v w row g1 g2 g3 => hV.clos v w row g1 (hfalse _ v (by rw [← hl]; exact (List.getElem?_eq_some_iff.1 g1).1)) g2 g3
    -- along a path
    have key : ∀ v, Reach (nexts f) 0 v → sn s1 v ∧ sn s2 (rk s1 v) := by
      intro v hr
      induction hr with
      | refl => exact ⟨hs0, by simpa [rk] using hs20⟩
      | @step v w row _ g5 g6 ih =>
        obtain ⟨ih1, ih2⟩ := ih
        have hw1 := hclosf v w row ih1 g5 g6
        refine ⟨hw1, ?_⟩
        have hv := sn_iff.1 ih1
        have hvl : v < f.blocks.length := by omega
        have hwl := sn_iff.1 hw1
        rw [nexts_get f v hvl] at g5
        cases g5
        have hg := trimF_get f s1 hl v hvl hv.2
        obtain ⟨hgl, hge⟩ := List.getElem?_eq_some_iff.1 hg
        refine hclos (rk s1 v) (rk s1 w) _ ih2 (nexts_get _ _ hgl) ?_
        rw [hge]
        have hgw := trimF_get f s1 hl w (by omega) hwl.2
        have hgwl := (List.getElem?_eq_some_iff.1 hgw).1
        rw [mem_succs]
        refine ⟨?_, by omega, by omega⟩
        simp only [trimB, List.mem_map]
        exact ⟨(w : Int), (mem_succs.1 g6).1, renum_num s1 w hwl.1 hwl.2⟩
    apply List.ext_getElem (by rw [hl2]; simp)
    intro k h1 h2
    rw [List.getElem_replicate]
    obtain ⟨i, hi, hsi, rfl⟩ := trimF_all f s1 hl k (by omega)
    have hsn : sn s1 i := sn_iff.2 ⟨by omega, hsi⟩
    obtain ⟨r, hr0, hr⟩ := hV.reach i hsn (hfalse _ i hi)
    have hr0 : r = 0 := hr0
    subst hr0
    have := (key i hr).2
    exact (List.getElem?_eq_some_iff.1 this).2
theorem rk_true (n i : Nat) (h : i ≤ n) : rk (List.replicate n true) i = i := by
  unfold rk
  rw [List.take_replicate, List.count_replicate]
  simp; omega
theorem keptF_true (args ah : List Int) (n : Nat) (h : ∀ x ∈ ah, 0 ≤ x ∧ x < (n : Int)) : keptF args ah (List.replicate n true) = args := by
  unfold keptF
  split
  · rename_i hl
    have : (args.zip ah).filter (fun p => (List.replicate n true).getD p.2.toNat false) = args.zip ah := by
      rw [List.filter_eq_self]
      intro p hp
      obtain ⟨h1, h2⟩ := h p.2 (List.of_mem_zip hp).2
      have : p.2.toNat < n := by omega
      simp [List.getD_eq_getElem?_getD, this]
    rw [this, List.map_fst_zip (by omega)]
  · rfl
theorem renum_true (n : Nat) (t : Int) : renum (numF (List.replicate n true)) t = t := by
  by_cases h : 0 ≤ t ∧ t < (n : Int)
  · obtain ⟨x, rfl⟩ : ∃ x : Nat, t = (x : Int) := ⟨t.toNat, by omega⟩
    have hx : x < n := by omega
    rw [renum_num _ x (by simpa using hx) (by simp [List.getD_eq_getElem?_getD, hx]), rk_true n x (by omega)]
  · unfold renum
    rw [numF_length, List.length_replicate, if_neg h]
theorem trimF_true (g : PFunc) : trimF g (List.replicate g.blocks.length true) = g := by
  have : (List.range g.blocks.length).filterMap (trimAt g (List.replicate g.blocks.length true)) = g.blocks := by
    have key : ∀ n, n ≤ g.blocks.length → (List.range n).filterMap (trimAt g (List.replicate g.blocks.length true)) = g.blocks.take n := by
      intro n
      induction n with
      | zero => intro _; simp
      | succ n ih =>
        intro hn
        have hn' : n < g.blocks.length := by omega
        rw [List.range_succ, List.filterMap_append, ih (by omega), List.take_succ_eq_append_getElem hn']
        congr 1
        have hB : trimB (List.replicate g.blocks.length true) (preds (nexts g) n) g.blocks[n] = g.blocks[n] := by
          unfold trimB
          have h1 : g.blocks[n].phis.map (fun p => (⟨p.dst, keptF p.args (preds (nexts g) n) (List.replicate g.blocks.length true)⟩ : PPhi)) = g.blocks[n].phis := by
            rw [List.map_congr_left (g := id)]
            · simp
            · intro p _
              rw [keptF_true _ _ _ (fun x hx => by
                simp only [preds, List.mem_map, List.mem_filter, List.mem_range] at hx
                obtain ⟨j, ⟨hj, _⟩, rfl⟩ := hx
                rw [nexts_length] at hj; omega)]
              rfl
          have h2 : g.blocks[n].term.to.map (renum (numF (List.replicate g.blocks.length true))) = g.blocks[n].term.to := by
            rw [List.map_congr_left (g := id) (fun t _ => renum_true _ t)]; simp
          rw [h1, h2]
        simp [trimAt, hn', hB]
    rw [key _ (Nat.le_refl _), List.take_length]
  unfold trimF
  rw [this]
end Go.Proofs.Ytoflleabpkgdpaa
