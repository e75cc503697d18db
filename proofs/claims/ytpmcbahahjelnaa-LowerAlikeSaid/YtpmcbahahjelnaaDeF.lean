/- By hand: slices.Delete of one element of a row of pairs of numbers, as a contract of the framework's form. No conditions. -/
import Derived.Test.YtpmcbahahjelnaaDeP
import Derived.Test.YtpmcbahahjelnaaSoA
set_option linter.unusedVariables false
set_option linter.unusedSimpArgs false
namespace Go.Proofs.Ytpmcbahahjelnaa
open Go Go.Proofs Go.Sort

def flatP : List PPair → List Int
  | [] => []
  | x :: xs => x.a :: x.b :: flatP xs
theorem flatP_length : ∀ xs, (flatP xs).length = 2 * xs.length
  | [] => rfl
  | x :: xs => by simp only [flatP, List.length_cons, flatP_length xs]; omega
theorem flatP_take : ∀ (xs : List PPair) (i : Nat), (flatP xs).take (2 * i) = flatP (xs.take i)
  | [], i => by simp [flatP]
  | x :: xs, 0 => rfl
  | x :: xs, i + 1 => by
    rw [show 2 * (i + 1) = 2 * i + 1 + 1 by omega]
    simp only [flatP, List.take_succ_cons, flatP_take xs i]
theorem flatP_drop : ∀ (xs : List PPair) (i : Nat), (flatP xs).drop (2 * i) = flatP (xs.drop i)
  | [], i => by simp [flatP]
  | x :: xs, 0 => rfl
  | x :: xs, i + 1 => by
    rw [show 2 * (i + 1) = 2 * i + 1 + 1 by omega]
    simp only [flatP, List.drop_succ_cons, flatP_drop xs i]
theorem flatP_append : ∀ (xs ys : List PPair), flatP (xs ++ ys) = flatP xs ++ flatP ys
  | [], ys => rfl
  | x :: xs, ys => by simp [flatP, flatP_append xs ys]
theorem repl_pairs {xs : List PPair} {css : List (List Value)} {G : FP} (h : RepL kPair xs css G) : css.flatten = (flatP xs).map (Value.int .i64) ∧ G = [] := by
  induction h with
  | nil => exact ⟨rfl, rfl⟩
  | cons h _ ih => obtain ⟨rfl, rfl⟩ := h; exact ⟨by simp [ih.1, flatP], by simp [ih.2]⟩
theorem pairs_repl (xs : List PPair) : RepL kPair xs (xs.map fun x => [.int .i64 x.a, .int .i64 x.b]) [] := by
  induction xs with
  | nil => exact .nil
  | cons x xs ih => exact RepL.cons (F := []) (G := []) ⟨rfl, rfl⟩ ih
theorem pairs_flat (xs : List PPair) : (xs.map fun x => [Value.int .i64 x.a, .int .i64 x.b]).flatten = (flatP xs).map (Value.int .i64) := by
  induction xs with
  | nil => rfl
  | cons x xs ih => simp only [List.map_cons, List.flatten_cons, ih, flatP]; rfl
abbrev slices_Delete_2_int_2_int.R (r : List PPair) (v : Value) (A : List FP) : Prop := ∃ (w1 : Value) (G1 : FP), w1 = v ∧ A = [G1] ∧ SlO 31 kPair r w1 G1
def slices_Delete_2_int_2_int (a1 : List PPair) (a4 a7 : Int) : Option (List PPair) := if 0 ≤ a4 ∧ a4 < (a1.length : Int) ∧ a7 = a4 + 1 then some (a1.eraseIdx a4.toNat) else none
theorem slices_Delete_2_int_2_int_ok {E : World} {H : FP} {w : World} {a1 : List PPair} {a4 a7 : Int} {v2 : Value} {F3 : FP} {r : List PPair} (h4 : SlO 31 kPair a1 v2 F3) (hp : slices_Delete_2_int_2_int a1 a4 a7 = some r) (hst : St E H [F3] w) :
    Fn Try.prog 24 #[v2, .int .i64 a4, .int .i64 a7] w fun v w' => ∃ A, slices_Delete_2_int_2_int.R r v A ∧ St E H A w' := by
  unfold slices_Delete_2_int_2_int at hp
  split at hp
  · rename_i hc
    obtain ⟨c0, c1, rfl⟩ := hc
    cases hp
    obtain ⟨i, rfl⟩ : ∃ i : Nat, a4 = i := ⟨a4.toNat, by omega⟩
    have hi : i < a1.length := by omega
    simp only [Int.toNat_natCast]
    obtain ⟨hl, ⟨_, h, _⟩ | ⟨b, css, post, c, G, rfl, rfl, hrep, hpost, hc, hm⟩⟩ := h4
    · subst h; simp at hi
    · obtain ⟨hf, rfl⟩ := repl_pairs hrep
      rw [hf] at hst
      obtain ⟨hH, hb⟩ := holds_cells hst
      have hlen := flatP_length a1
      have hl' : a1.length < 1099511627776 := hl
      have hL : LIM = 1099511627776 := rfl
      have hcall := delete_pair b c a1.length i (i + 1) rfl (flatP a1).toArray (by simpa using hlen) w hH hc (by simp only [maxLen] at hm; exact hm) hi
      refine Calls.mono hcall ?_
      rintro e w' ⟨rfl, q, rfl⟩
      have hel : (a1.eraseIdx i).length = a1.length - 1 := by rw [List.length_eraseIdx, if_pos hi]
      have hfe : (flatP a1).take (2 * i) ++ (flatP a1).drop (2 * i + 2) = flatP (a1.eraseIdx i) := by
        rw [List.eraseIdx_eq_take_drop_succ, flatP_append, flatP_take, show 2 * i + 2 = 2 * (i + 1) by omega, flatP_drop]
      refine ⟨_, rfl, [[(b, Obj.cells ((flatP (a1.eraseIdx i)).map (Value.int .i64) ++ ([Value.int .i64 0, Value.int .i64 0] ++ post)).toArray 31 (0, 0))]], ⟨_, _, rfl, rfl, ?_⟩, ?_⟩
      · refine ⟨by rw [hel]; omega, .inr ⟨b, (a1.eraseIdx i).map fun x => [.int .i64 x.a, .int .i64 x.b], _, c, [], by rw [hel], by rw [pairs_flat], pairs_repl _, ?_, by rw [hel]; omega, hm⟩⟩
        rw [hel]
        have : kPair.sz = 2 := rfl
        rw [this] at hpost ⊢
        simp only [List.length_append, List.length_cons, List.length_nil, hpost]
        have : c - (a1.length - 1) = c - a1.length + 1 := by omega
        rw [this, Nat.add_mul]
        omega
      · have h1 : (flatP a1).toArray.toList.take (2 * i) ++ (flatP a1).toArray.toList.drop (2 * i + 2) ++ List.replicate 2 0 = flatP (a1.eraseIdx i) ++ [0, 0] := by
          simp only [List.toList_toArray] at *
          rw [hfe]; rfl
        rw [h1]
        have hl2 : (flatP (a1.eraseIdx i) ++ [0, 0]).length = (flatP a1).length := by
          rw [List.length_append, flatP_length, hel, hlen]; simp; omega
        have := St.sorted hst q (enc := Value.int .i64) (flatP (a1.eraseIdx i) ++ [0, 0]) #[] (by rw [hl2]; simp)
        rw [hl2, show ((flatP a1).map (Value.int .i64) ++ post).drop (flatP a1).length = post by rw [List.drop_append_of_le_length (by simp), List.drop_eq_nil_of_le (by simp), List.nil_append], List.map_append, List.append_assoc, grow_empty] at this
        exact this
  · cases hp
end Go.Proofs.Ytpmcbahahjelnaa
