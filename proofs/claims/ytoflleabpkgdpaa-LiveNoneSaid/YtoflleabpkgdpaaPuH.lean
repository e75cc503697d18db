/- Plain laws, part H: what the reference's From marks, round by round. No conditions. -/
import Derived.Test.YtoflleabpkgdpaaPuG
set_option linter.unusedVariables false
set_option linter.unusedSimpArgs false
namespace Go.Proofs.Ytoflleabpkgdpaa
open Go

def Closed (nx : List (List Int)) (C : Nat → Prop) : Prop := ∀ (v w : Nat) (row : List Int), C v → nx[v]? = some row → (w : Int) ∈ row → C w
def sn (s : List Bool) (v : Nat) : Prop := s[v]? = some true
/-- What marking does: nothing is lost; only what is led to is won. -/
structure M (nx : List (List Int)) (s s' : List Bool) : Prop where
  len : s'.length = s.length
  mono : ∀ v, sn s v → sn s' v
  sound : ∀ C : Nat → Prop, Closed nx C → (∀ v, sn s v → C v) → ∀ v, sn s' v → C v
theorem M.refl (nx : List (List Int)) (s : List Bool) : M nx s s := ⟨rfl, fun _ h => h, fun C _ h v hv => h v hv⟩
theorem M.trans {nx : List (List Int)} {s s1 s2 : List Bool} (h : M nx s s1) (k : M nx s1 s2) : M nx s s2 :=
  ⟨k.len.trans h.len, fun v hv => k.mono v (h.mono v hv), fun C hC hs v hv => k.sound C hC (h.sound C hC hs) v hv⟩
theorem cnt_less {s t : List Bool} (hl : s.length = t.length) (hm : ∀ v, sn s v → sn t v) {v : Nat} (h1 : sn t v) (h2 : ¬ sn s v) : cnt t + 1 ≤ cnt s := by
  have hlt : v < s.length := by rw [hl]; exact (List.getElem?_eq_some_iff.1 h1).1
  have hf : s[v]? = some false := by
    unfold sn at h2
    rw [List.getElem?_eq_getElem hlt] at h2 ⊢
    cases hs : s[v] <;> simp_all
  have := cnt_mono (s.set v true) t (by simpa using hl) (fun u hu => by
    rw [get_set _ _ _ hlt] at hu
    split at hu
    · rename_i he; subst he; exact h1
    · exact hm u hu)
  have := cnt_set s v hf
  omega

section
/-- One block's row is marked. -/
theorem from_row (f : PFunc) (v : Nat) (row : List Int) (hrow : (nexts f)[v]? = some row) (s : List Bool) (hl : s.length = f.blocks.length) (hv : sn s v) (hr70 : row.length ≤ 70) (hin : ∀ x ∈ row, 0 ≤ x ∧ x < (f.blocks.length : Int)) :
    ∃ z, whl (fun (q : List Bool × Int) => fettleref05_From.bd121 (-1) row q.1 q.2) FUEL (s, 0) = some z ∧ M (nexts f) s z ∧ ∀ x ∈ row, ∃ w : Nat, x = w ∧ sn z w := by
  refine whl_ex (fun q : List Bool × Int => ∃ i : Nat, q.2 = i ∧ i ≤ row.length ∧ M (nexts f) s q.1 ∧ ∀ x ∈ row.take i, ∃ w : Nat, x = w ∧ sn q.1 w)
    (fun q => row.length - q.2.toNat) (fun z : List Bool => M (nexts f) s z ∧ ∀ x ∈ row, ∃ w : Nat, x = w ∧ sn z w) ?_ FUEL _ ⟨0, rfl, Nat.zero_le _, M.refl _ _, by simp⟩ (by simp; exact lt_FUEL (by simp only [maxLen]; omega))
  rintro ⟨s1, j⟩ ⟨i, rfl, hi, hM, hseen⟩
  simp only at hM hseen ⊢
  by_cases hlt : i < row.length
  · right
    have hx := hin _ (List.getElem_mem hlt)
    obtain ⟨t, htt⟩ : ∃ t : Nat, row[i] = t := ⟨(row[i]).toNat, by omega⟩
    have htl : t < s1.length := by rw [hM.len, hl]; omega
    have hne : ¬ (t : Int) = -1 := by omega
    refine ⟨(s1.set t true, ((i + 1 : Nat) : Int)), by simp [fettleref05_From.bd121, len_lt, hlt, idx_lt hlt, htt, hne, idx_lt htl, fettleref05_From.jn145, w64_at hlt (show row.length ≤ maxLen by simp only [maxLen]; omega)], ⟨i + 1, rfl, hlt, hM.trans ⟨by simp, fun u hu => ?_, fun C hC hs u hu => ?_⟩, fun x hx' => ?_⟩, by simp; omega⟩
    · unfold sn at hu ⊢; rw [get_set _ _ _ htl]; split <;> simp_all
    · unfold sn at hu; rw [get_set _ _ _ htl] at hu
      split at hu
      · rename_i he; subst he
        exact hC v t row (hs v (hM.mono v hv)) hrow (by rw [← htt]; exact List.getElem_mem hlt)
      · exact hs u hu
    · rw [List.take_succ_eq_append_getElem hlt, List.mem_append] at hx'
      rcases hx' with hx' | hx'
      · obtain ⟨w, rfl, hw⟩ := hseen x hx'
        refine ⟨w, rfl, ?_⟩
        unfold sn at hw ⊢; rw [get_set _ _ _ htl]; split <;> simp_all
      · simp only [List.mem_singleton] at hx'
        exact ⟨t, hx'.trans htt, by unfold sn; rw [get_set _ _ _ htl, if_pos rfl]⟩
  · left
    have hie : i = row.length := by omega
    exact ⟨s1, by simp [fettleref05_From.bd121, len, hie], hM, fun x hx' => hseen x (by rw [hie, List.take_length]; exact hx')⟩
/-- A round over all blocks. -/
theorem from_round (f : PFunc) (hn : f.blocks.length ≤ 70) (ht : ∀ B ∈ f.blocks, B.term.to.length ≤ 70) (s : List Bool) (hl : s.length = f.blocks.length) :
    ∃ z, whl (fun (q : List Bool × Int) => fettleref05_From.bd75 f (-1) q.1 q.2) FUEL (s, 0) = some z ∧ M (nexts f) s z ∧ ∀ (v w : Nat) (row : List Int), sn s v → (nexts f)[v]? = some row → (w : Int) ∈ row → sn z w := by
  refine whl_ex (fun q : List Bool × Int => ∃ i : Nat, q.2 = i ∧ i ≤ f.blocks.length ∧ M (nexts f) s q.1 ∧ ∀ (v w : Nat) (row : List Int), v < i → sn s v → (nexts f)[v]? = some row → (w : Int) ∈ row → sn q.1 w)
    (fun q => f.blocks.length - q.2.toNat) (fun z : List Bool => M (nexts f) s z ∧ ∀ (v w : Nat) (row : List Int), sn s v → (nexts f)[v]? = some row → (w : Int) ∈ row → sn z w) ?_ FUEL _ ⟨0, rfl, Nat.zero_le _, M.refl _ _, fun v w row h => by omega⟩ (by simp; exact lt_FUEL (by simp only [maxLen]; omega))
  rintro ⟨s1, j⟩ ⟨i, rfl, hi, hM, hdone⟩
  simp only at hM hdone ⊢
  have hl1 : s1.length = f.blocks.length := by rw [hM.len, hl]
  by_cases hlt : i < f.blocks.length
  · right
    have hlt1 : i < s1.length := by omega
    have hw := w64_at hlt (show f.blocks.length ≤ maxLen by simp only [maxLen]; omega)
    have hrow : (nexts f)[i]? = some (succs f.blocks.length (f.blocks[i]).term.to) := by simp [nexts, hlt]
    cases hs : s1[i] with
    | false =>
      refine ⟨(s1, ((i + 1 : Nat) : Int)), by simp [fettleref05_From.bd75, len_lt, hlt1, idx_lt hlt1, hs, fettleref05_From.jn96, hw], ⟨i + 1, rfl, hlt, hM, fun v w row hv h1 h2 h3 => ?_⟩, by simp; omega⟩
      rcases Nat.lt_succ_iff_lt_or_eq.1 hv with hv | hv
      · exact hdone v w row hv h1 h2 h3
      · subst hv
        have := hM.mono v h1
        unfold sn at this
        rw [List.getElem?_eq_getElem hlt1, hs] at this; cases this
    | true =>
      have hsn : sn s1 i := by unfold sn; rw [List.getElem?_eq_getElem hlt1, hs]
      have hlen := foldl_addS_length f.blocks.length (f.blocks[i]).term.to []
      have ht' := ht _ (List.getElem_mem hlt)
      obtain ⟨z, h1, h2, h3⟩ := from_row f i _ hrow s1 hl1 hsn (by simp only [List.length_nil, Nat.zero_add] at hlen; exact Nat.le_trans hlen ht') succs_in
      refine ⟨(z, ((i + 1 : Nat) : Int)), by simp [fettleref05_From.bd75, len_lt, hlt1, idx_lt hlt1, hs, refNext_eq f i hlt (by simp only [maxLen]; omega) ht', h1, fettleref05_From.nx121, fettleref05_From.jn96, hw], ⟨i + 1, rfl, hlt, hM.trans h2, fun v w row hv g1 g2 g3 => ?_⟩, by simp; omega⟩
      rcases Nat.lt_succ_iff_lt_or_eq.1 hv with hv | hv
      · exact h2.mono w (hdone v w row hv g1 g2 g3)
      · subst hv
        rw [hrow] at g2; cases g2
        obtain ⟨w', hw', g⟩ := h3 _ g3
        have : w = w' := by omega
        subst this; exact g
  · left
    have hie : i = f.blocks.length := by omega
    refine ⟨s1, by simp [fettleref05_From.bd75, len, hl1, hie], hM, fun v w row h1 h2 h3 => hdone v w row ?_ h1 h2 h3⟩
    rw [hie, ← hl]; exact (List.getElem?_eq_some_iff.1 h1).1
/-- All rounds: what is marked in the end is closed. -/
theorem from_all (f : PFunc) (hn : f.blocks.length ≤ 70) (ht : ∀ B ∈ f.blocks, B.term.to.length ≤ 70) (s : List Bool) (hl : s.length = f.blocks.length) (h0 : sn s 0) :
    ∃ z, whl (fun (q : List Bool × Int) => fettleref05_From.bd49 f (-1) q.1 q.2) FUEL (s, 0) = some z ∧ M (nexts f) s z ∧ Closed (nexts f) (sn z) := by
  have hpos : 0 < s.length := (List.getElem?_eq_some_iff.1 h0).1
  have hc0 : cnt s + 1 ≤ s.length := by
    have h1 := cnt_less (s := List.replicate s.length false) (t := s) (by simp) (fun v hv => by
      unfold sn at hv; rw [List.getElem?_replicate] at hv; split at hv <;> simp at hv) h0 (fun hv => by
      unfold sn at hv; rw [List.getElem?_replicate] at hv; split at hv <;> simp at hv)
    have h2 : cnt (List.replicate s.length false) = s.length := by simp [cnt]
    omega
  refine whl_ex (fun q : List Bool × Int => ∃ i : Nat, q.2 = i ∧ i ≤ f.blocks.length ∧ M (nexts f) s q.1 ∧ (Closed (nexts f) (sn q.1) ∨ cnt q.1 + i + 1 ≤ f.blocks.length))
    (fun q => f.blocks.length - q.2.toNat) (fun z : List Bool => M (nexts f) s z ∧ Closed (nexts f) (sn z)) ?_ FUEL _ ⟨0, rfl, Nat.zero_le _, M.refl _ _, .inr (show cnt s + 0 + 1 ≤ f.blocks.length by omega)⟩ (by simp; exact lt_FUEL (by simp only [maxLen]; omega))
  rintro ⟨s1, j⟩ ⟨i, rfl, hi, hM, hcl⟩
  simp only at hM hcl ⊢
  have hl1 : s1.length = f.blocks.length := by rw [hM.len, hl]
  by_cases hlt : i < f.blocks.length
  · right
    have hlt1 : i < s1.length := by omega
    obtain ⟨z, h1, h2, h3⟩ := from_round f hn ht s1 hl1
    have hw := w64_at hlt (show f.blocks.length ≤ maxLen by simp only [maxLen]; omega)
    refine ⟨(z, ((i + 1 : Nat) : Int)), by simp [fettleref05_From.bd49, len_lt, hlt1, h1, fettleref05_From.nx75, hw], ⟨i + 1, rfl, hlt, hM.trans h2, ?_⟩, by simp; omega⟩
    by_cases hc : Closed (nexts f) (sn s1)
    · left
      have hback : ∀ v, sn z v → sn s1 v := h2.sound _ hc (fun v hv => hv)
      exact fun v w row g1 g2 g3 => h2.mono w (hc v w row (hback v g1) g2 g3)
    · right
      rcases hcl with hcl | hcl
      · exact absurd hcl hc
      · have : ∃ v, sn z v ∧ ¬ sn s1 v := Classical.byContradiction fun hno => hc fun v w row g1 g2 g3 => Classical.byContradiction fun g4 => hno ⟨w, h3 v w row g1 g2 g3, g4⟩
        obtain ⟨v, g1, g2⟩ := this
        have := cnt_less (by rw [h2.len]) h2.mono g1 g2
        show cnt z + (i + 1) + 1 ≤ f.blocks.length
        omega
  · left
    have hie : i = f.blocks.length := by omega
    refine ⟨s1, by simp [fettleref05_From.bd49, len, hl1, hie], hM, ?_⟩
    rcases hcl with hcl | hcl
    · exact hcl
    · omega
end
end Go.Proofs.Ytoflleabpkgdpaa
