/- CallsStays, the plain law. No conditions. -/
import Derived.Test.YteaknconpkklhaaPqE
import Derived.Test.YteaknconpkklhaaOp
set_option linter.unusedVariables false
set_option linter.unusedSimpArgs false
namespace Go.Proofs.Yteaknconpkklhaa
open Go Go.Proofs

theorem up_true : fettlelaw09_up = some true := by kernel_rfl

variable {N : Nat} {C R : List (List Int)}
theorem rsort_mem {l : List (List Int)} {x : List Int} : x ∈ rsort l ↔ x ∈ l := (rsort_perm l).mem_iff
/-- What a wave holds. -/
structure WavesIn (N : Nat) (M : Nat) (wv : Nat → List (List Int)) : Prop where
  M40 : M ≤ 40
  ne : ∀ k, k < M → wv k ≠ []
  rows : ∀ k r, r ∈ wv k → r ≠ [] ∧ r.length ≤ 40 ∧ ∀ x, x ∈ r → ok N x
  len : ∀ k, (wv k).length ≤ 40
theorem WOk.in_ (hR : RingsOk N C R) (hN : N ≤ 40) {Ws : List Nat} {M : Nat} (hW : WOk C R R.length Ws M) : WavesIn N M (fun k => rsort (pickW R Ws k)) := by
  have hRl := hR.len
  refine ⟨?_, fun k hk e => ?_, fun k r hr => ?_, fun k => ?_⟩
  · rcases Nat.eq_zero_or_pos M with h | h
    · omega
    · obtain ⟨j, hj⟩ := hW.hit (M - 1) (by omega)
      have := hW.le j _ hj (Nat.le_refl _)
      have := (List.getElem?_eq_some_iff.1 hj).1
      have := hW.len
      omega
  · obtain ⟨i, hi⟩ := hW.hit k hk
    have hil := (List.getElem?_eq_some_iff.1 hi).1
    have := hW.len
    have hm : R[i] ∈ rsort (pickW R Ws k) := rsort_mem.2 ((mem_pickW hW.len.symm).2 ⟨i, List.getElem?_eq_getElem (by omega), hi⟩)
    rw [e] at hm
    simp at hm
  · have hr' : r ∈ R := (pickW_sub R Ws k).subset (rsort_mem.1 hr)
    have hro : ∀ x, x ∈ r → ok N x := fun x hx => (hR.all x).1 ⟨r, hr', hx⟩
    have := sorted_le r 0 N (hR.srt r hr') hro (by omega)
    exact ⟨hR.ne r hr', by omega, hro⟩
  · rw [(rsort_perm _).length_eq]
    have := (pickW_sub R Ws k).length_le
    omega

/-! ### Overwriting -/
def shp (T : List (List (List Int))) : List (List Nat) := T.map fun r => r.map List.length
theorem shp_set (T : List (List (List Int))) {i k j : Nat} (hi : i < T.length) (hk : k < T[i].length) (v : Int) : shp (T.set i (T[i].set k (T[i][k].set j v))) = shp T := by
  unfold shp
  rw [List.map_set, List.map_set, List.length_set]
  have h1 : (T[i].map List.length).set k T[i][k].length = T[i].map List.length := by
    apply List.ext_getElem?
    intro q
    rw [List.getElem?_set]
    by_cases e : k = q
    · subst e; rw [if_pos rfl, if_pos (by simpa using hk)]; simp [hk]
    · rw [if_neg e]
  rw [h1]
  apply List.ext_getElem?
  intro q
  rw [List.getElem?_set]
  by_cases e : i = q
  · subst e; rw [if_pos rfl, if_pos (by simpa using hi)]; simp [hi]
  · rw [if_neg e]
theorem shp_get {T T' : List (List (List Int))} (h : shp T = shp T') {i : Nat} (hi : i < T'.length) : ∃ h1 : i < T.length, T[i].length = T'[i].length ∧ ∀ k, (hk : k < T'[i].length) → ∃ h2 : k < T[i].length, T[i][k].length = T'[i][k].length := by
  have hl : T.length = T'.length := by simpa [shp] using congrArg List.length h
  have h1 : i < T.length := by omega
  have e : T[i].map List.length = T'[i].map List.length := by
    have := congrArg (fun l => l[i]?) h
    simpa [shp, h1, hi] using this
  refine ⟨h1, by simpa using congrArg List.length e, fun k hk => ?_⟩
  have h2 : k < T[i].length := by have := congrArg List.length e; simp at this; omega
  refine ⟨h2, ?_⟩
  have := congrArg (fun l => l[k]?) e
  simpa [h2, hk] using this

theorem over3 (W : List (List (List Int))) (i k : Nat) (hi : i < W.length) (hk : k < W[i].length) (hl : W[i][k].length ≤ 1000) (T : List (List (List Int))) (hT : shp T = shp W) :
    ∃ T', whl (fun (s : (List (List (List Int)) × Int)) => fettlelaw09_CallsStays.bd110 (i : Int) (k : Int) s.1 s.2) FUEL (T, 0) = some T' ∧ shp T' = shp W := by
  refine whl_for W[i][k].length (fun j s => ∃ T, s = (T, (j : Int)) ∧ shp T = shp W) _ (le_max hl (by omega)) ?_ ?_ ⟨T, rfl, hT⟩
  · rintro j s hj ⟨T, rfl, hT⟩
    obtain ⟨h1, h2, h3⟩ := shp_get hT hi
    obtain ⟨h4, h5⟩ := h3 k hk
    have hj' : j < T[i][k].length := by omega
    refine .inr ⟨(T.set i (T[i].set k (T[i][k].set j (-1))), ((j + 1 : Nat) : Int)), ?_, _, rfl, by rw [shp_set T h1 h4]; exact hT⟩
    simp only [fettlelaw09_CallsStays.bd110, idx_lt h1, idx_lt h4, Option.bind_some, len_lt, hj', if_true, idx_lt hj', Int.toNat_natCast, w64_i hj hl]
  · rintro s ⟨T, rfl, hT⟩
    obtain ⟨h1, h2, h3⟩ := shp_get hT hi
    obtain ⟨h4, h5⟩ := h3 k hk
    exact ⟨T, by simp [fettlelaw09_CallsStays.bd110, idx_lt h1, idx_lt h4, len, h5], hT⟩
theorem over2 (W : List (List (List Int))) (i : Nat) (hi : i < W.length) (hl : W[i].length ≤ 1000) (hl2 : ∀ r, r ∈ W[i] → r.length ≤ 1000) (T : List (List (List Int))) (hT : shp T = shp W) :
    ∃ T', whl (fun (s : (List (List (List Int)) × Int)) => fettlelaw09_CallsStays.bd95 (i : Int) s.1 s.2) FUEL (T, 0) = some T' ∧ shp T' = shp W := by
  refine whl_for W[i].length (fun j s => ∃ T, s = (T, (j : Int)) ∧ shp T = shp W) _ (le_max hl (by omega)) ?_ ?_ ⟨T, rfl, hT⟩
  · rintro j s hj ⟨T, rfl, hT⟩
    obtain ⟨h1, h2, h3⟩ := shp_get hT hi
    have hj' : j < T[i].length := by omega
    obtain ⟨T', g1, g2⟩ := over3 W i j hi hj (hl2 _ (List.getElem_mem _)) T hT
    refine .inr ⟨(T', ((j + 1 : Nat) : Int)), ?_, _, rfl, g2⟩
    simp only [fettlelaw09_CallsStays.bd95, idx_lt h1, Option.bind_some, len_lt, hj', if_true, g1, fettlelaw09_CallsStays.nx110, w64_i hj hl]
  · rintro s ⟨T, rfl, hT⟩
    obtain ⟨h1, h2, h3⟩ := shp_get hT hi
    exact ⟨T, by simp [fettlelaw09_CallsStays.bd95, idx_lt h1, len, h2], hT⟩
theorem over1 (W : List (List (List Int))) (hl0 : W.length ≤ 1000) (hl : ∀ w, w ∈ W → w.length ≤ 1000 ∧ ∀ r, r ∈ w → r.length ≤ 1000) :
    whl (fun (s : (List (List (List Int)) × Int)) => fettlelaw09_CallsStays.bd21 s.1 s.2) FUEL (W, 0) = some () := by
  obtain ⟨r, h, -⟩ := whl_for (body := fun (s : (List (List (List Int)) × Int)) => fettlelaw09_CallsStays.bd21 s.1 s.2) W.length (fun j s => ∃ T, s = (T, (j : Int)) ∧ shp T = shp W) (fun _ => True) (le_max hl0 (by omega)) (by
    rintro j s hj ⟨T, rfl, hT⟩
    have h1 : T.length = W.length := by simpa [shp] using congrArg List.length hT
    have hj' : j < T.length := by omega
    obtain ⟨l1, l2⟩ := hl W[j] (List.getElem_mem _)
    obtain ⟨T', g1, g2⟩ := over2 W j hj l1 l2 T hT
    refine .inr ⟨(T', ((j + 1 : Nat) : Int)), ?_, _, rfl, g2⟩
    simp only [fettlelaw09_CallsStays.bd21, len_lt, hj', if_true, Option.bind_some, g1, fettlelaw09_CallsStays.nx95, w64_i hj hl0]) (by
    rintro s ⟨T, rfl, hT⟩
    have h1 : T.length = W.length := by simpa [shp] using congrArg List.length hT
    exact ⟨(), by simp [fettlelaw09_CallsStays.bd21, len, h1], trivial⟩) (s0 := (W, 0)) ⟨W, rfl, rfl⟩
  rw [h]

theorem pure_callsStays (m : PModule) (h : wfModule m) : fettlelaw09_CallsStays m = some true := by
  unfold fettlelaw09_CallsStays
  rw [up_true, Option.bind_some]
  obtain ⟨b, hb, hbm⟩ := small_ok m
  rw [hb, Option.bind_some]
  cases b with
  | false => rfl
  | true =>
    have hm := hbm rfl
    rw [if_neg (by simp), copy_eq m hm, Option.bind_some]
    obtain ⟨R, Ws, M, hf, hR, hW, hwv⟩ := waves_eq m hm
    have hrg := rings_eq m hm hf hR
    have hin := hW.in_ hR hm.1
    have hM := hin.M40
    have hL : ((List.range M).map fun k => rsort (pickW R Ws k)).length = M := by simp
    have hov := over1 ((List.range M).map fun k => rsort (pickW R Ws k)) (by omega) (fun w hw => by
      obtain ⟨k, hk, rfl⟩ := List.mem_map.1 hw
      have h1 := hin.len k
      refine ⟨by omega, fun r hr => ?_⟩
      have := (hin.rows k r hr).2.1
      omega)
    have hchk : whl (fun (s : Int) => fettlelaw09_CallsStays.bd32 ((List.range M).map fun k => rsort (pickW R Ws k)) s) FUEL 0 = some (.go ()) := by
      obtain ⟨z, hz, rfl⟩ := whl_for (body := fun (s : Int) => fettlelaw09_CallsStays.bd32 ((List.range M).map fun k => rsort (pickW R Ws k)) s) M (fun j s => s = (j : Int)) (fun z => z = .go ()) (le_max hM (by omega)) (by
        rintro j s hj rfl
        refine .inr ⟨((j + 1 : Nat) : Int), ?_, rfl⟩
        have hne := hin.ne j hj
        have hjl : j < ((List.range M).map fun k => rsort (pickW R Ws k)).length := by rw [hL]; exact hj
        have hg : ((List.range M).map fun k => rsort (pickW R Ws k))[j] = rsort (pickW R Ws j) := by simp
        generalize hT : rsort (pickW R Ws j) = T at hne hg
        cases hTc : T with
        | nil => exact absurd hTc hne
        | cons r T' =>
          obtain ⟨r1, r2, r3⟩ := hin.rows j r (by show r ∈ rsort (pickW R Ws j); rw [hT, hTc]; exact List.mem_cons_self ..)
          cases hr : r with
          | nil => exact absurd hr r1
          | cons x r' =>
            have hx := r3 x (by rw [hr]; exact List.mem_cons_self ..)
            have e1 : ¬ ((len ((x :: r') :: T')) = 0) := by simp only [len, List.length_cons]; omega
            have e2 : ¬ ((len (x :: r')) = 0) := by simp only [len, List.length_cons]; omega
            have e3 : ¬ (x < 0) := by have := hx.1; omega
            have i1 : idx ((x :: r') :: T') 0 = some (x :: r') := rfl
            have i2 : idx (x :: r') 0 = some x := rfl
            simp only [fettlelaw09_CallsStays.bd32, len_lt, hjl, if_true, idx_lt hjl, hg, hTc, hr, Option.bind_some, e1, if_false, i1, e2, decide_false, Bool.false_eq_true, i2, e3, w64_i hj (by omega : M ≤ 1000)]) (by
        rintro s rfl
        exact ⟨.go (), by simp [fettlelaw09_CallsStays.bd32, len], rfl⟩) (s0 := (0 : Int)) rfl
      exact hz
    rw [hwv, Option.bind_some, hrg, Option.bind_some, hov, Option.bind_some]
    unfold fettlelaw09_CallsStays.nx21
    rw [hwv, Option.bind_some, hchk, Option.bind_some]
    simp only [fettlelaw09_CallsStays.nx32, if_true, same_eq m m hm, Option.bind_some, decide_true, hrg, true_and]
end Go.Proofs.Yteaknconpkklhaa
