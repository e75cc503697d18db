/- Plain laws, part x-F: the law DequeOnce: lists. No conditions. -/
import Derived.Test.YtoflleabpkgdpaaPxG
import Derived.Test.YtoflleabpkgdpaaK4
import Derived.Test.YtoflleabpkgdpaaOp
set_option linter.unusedVariables false
set_option linter.unusedSimpArgs false
namespace Go.Proofs.Ytoflleabpkgdpaa
open Go Go.Proofs

theorem free_eq (l : List PUnder) (hl : l.length ≤ 1000) : ∃ b : Bool, fettlelaw11_free l = some b ∧ (b = true ↔ ∀ p ∈ l, p.kind = 2) := by
  unfold fettlelaw11_free
  rcases scan_ix l.length (le_max hl (by omega)) (fun i => ∀ p, l[i]? = some p → p.kind = 2) (fun e : Bool => e = false) (fun s => fettlelaw11_free.bd14 l s) (fun i hi => by
    simp only [fettlelaw11_free.bd14, len_lt, hi, if_true, idx_lt hi, Option.bind_some, w64_i hi hl, List.getElem?_eq_getElem hi]
    by_cases hc : l[i].kind = 2
    · exact .inr ⟨by rw [if_neg (by simpa using hc)], fun p hp => by cases hp; exact hc⟩
    · exact .inl ⟨false, by rw [if_pos hc], rfl, fun h => hc (h _ rfl)⟩) (by simp [fettlelaw11_free.bd14, len]) with ⟨e, hw, rfl, hn⟩ | ⟨hw, hall⟩
  · rw [hw]
    refine ⟨false, rfl, by simp, fun h => (hn fun i hi p hp => h p (List.mem_of_getElem? hp)).elim⟩
  · rw [hw]
    refine ⟨true, rfl, fun _ p hp => ?_, fun _ => rfl⟩
    obtain ⟨i, hi⟩ := List.getElem?_of_mem hp
    exact hall i (List.getElem?_eq_some_iff.1 hi).1 p hi
theorem without_head (v : Int) (l : List Int) (hl : (v :: l).length ≤ 1000) : fettlelaw11_without (v :: l) v = some (l, true) := by
  unfold fettlelaw11_without
  have hb : fettlelaw11_without.bd15 (v :: l) v 0 = some (.ret (.ret (l, true))) := by
    unfold fettlelaw11_without.bd15
    have h0 : idx (v :: l) 0 = some v := rfl
    have hu : upto (v :: l) 0 = some [] := by simp [upto]
    have hw : w64 ((0 : Int) + 1) = 1 := w64_id ⟨by omega, by omega⟩
    have hf : from_ (v :: l) 1 = some l := by simp [from_]
    rw [if_pos (by simp only [len, List.length_cons]; omega), h0]
    simp only [Option.bind_some, if_true, hu, hw, hf]
    rw [cat_nil (by simp)]
    simp only [Option.bind_some]
    rw [cat_nil (by simp only [List.length_cons] at hl; omega)]
    rfl
  obtain ⟨k, hk⟩ : ∃ k, FUEL = k + 1 := ⟨FUEL - 1, by have := lt_FUEL (n := 0) (by simp only [maxLen]; omega); omega⟩
  rw [hk]
  simp only [whl, hb, Option.bind_some]
theorem without_last (v : Int) (a : List Int) (hl : a.length ≤ 999) (hv : v ∉ a) : fettlelaw11_without (a ++ [v]) v = some (a, true) := by
  unfold fettlelaw11_without
  have hrun := whl_run (body := fun (s : Int) => fettlelaw11_without.bd15 (a ++ [v]) v s) (r := .ret (a, true)) a.length FUEL (fun i => (i : Int)) (fun i hi => by
    have hi' : i < (a ++ [v]).length := by simp; omega
    have hne : ¬ (a ++ [v])[i] = v := by
      rw [List.getElem_append_left hi]
      intro he
      exact hv (he ▸ List.getElem_mem hi)
    simp only [fettlelaw11_without.bd15, len_lt, hi', if_true, idx_lt hi', Option.bind_some, if_neg hne, w64_i hi (show a.length ≤ 1000 by omega)]) (by
    have hi' : a.length < (a ++ [v]).length := by simp
    have he : (a ++ [v])[a.length] = v := by simp
    have hw : w64 ((a.length : Int) + 1) = ((a.length + 1 : Nat) : Int) := w64_succ (by omega)
    have hu : upto (a ++ [v]) (a.length : Int) = some a := by simp [upto]
    have hf : from_ (a ++ [v]) ((a.length + 1 : Nat) : Int) = some [] := by
      unfold from_
      rw [if_pos ⟨by omega, by rw [Int.toNat_natCast]; simp⟩, Int.toNat_natCast]
      congr 1
      exact List.drop_eq_nil_of_le (by simp)
    simp only [fettlelaw11_without.bd15, len_lt, hi', if_true, idx_lt hi', Option.bind_some, he, hu, hw, hf]
    rw [cat_nil (by omega)]
    simp only [Option.bind_some]
    rw [cat_ok (by simp only [LIM, List.length_nil]; omega)]
    simp) (lt_FUEL (by simp only [maxLen]; omega))
  have h00 : ((0 : Nat) : Int) = (0 : Int) := rfl
  simp only [h00] at hrun
  rw [hrun]; rfl
end Go.Proofs.Ytoflleabpkgdpaa
