/- Layer 9, part D: which functions call which; the rings. No conditions. -/
import Derived.Test.YteaknconpkklhaaPqC
set_option linter.unusedVariables false
set_option linter.unusedSimpArgs false
namespace Go.Proofs.Yteaknconpkklhaa
open Go Go.Proofs

/-! ### Compact of what is sorted -/
theorem compact_mem (l : List Int) (x : Int) : x ∈ Lib.compact l ↔ x ∈ l := by
  unfold Lib.compact Lib.compactUpTo
  rw [List.mem_map]
  have key : ∀ j, j < l.length → ∃ i, i ∈ (List.range l.length).filter (Lib.keeps l.toArray) ∧ l.toArray[i]! = l.toArray[j]! := by
    intro j
    induction j with
    | zero => intro hj; exact ⟨0, List.mem_filter.2 ⟨List.mem_range.2 hj, by simp [Lib.keeps]⟩, rfl⟩
    | succ j ih =>
      intro hj
      by_cases h : l.toArray[j + 1]! = l.toArray[j]!
      · obtain ⟨i, h1, h2⟩ := ih (by omega)
        exact ⟨i, h1, by rw [h2, h]⟩
      · exact ⟨j + 1, List.mem_filter.2 ⟨List.mem_range.2 hj, by simp [Lib.keeps]; simpa using h⟩, rfl⟩
  constructor
  · rintro ⟨i, hi, rfl⟩
    have := List.mem_range.1 (List.mem_filter.1 hi).1
    simp [this]
  · intro hx
    obtain ⟨j, hj, rfl⟩ := List.getElem_of_mem hx
    obtain ⟨i, h1, h2⟩ := key j hj
    exact ⟨i, h1, by rw [h2]; simp [hj]⟩
theorem compact_sorted (l : List Int) (h : l.Pairwise (· ≤ ·)) : (Lib.compact l).Pairwise (fun a b => a < b) := by
  unfold Lib.compact Lib.compactUpTo
  rw [List.pairwise_map]
  refine List.Pairwise.imp_of_mem (fun {a b} ha hb hab => ?_) ((List.pairwise_lt_range (n := l.length)).sublist List.filter_sublist)
  obtain ⟨a1, a2⟩ := List.mem_filter.1 ha
  obtain ⟨b1, b2⟩ := List.mem_filter.1 hb
  have a1 := List.mem_range.1 a1
  have b1 := List.mem_range.1 b1
  have hs := List.pairwise_iff_getElem.1 h
  simp only [Lib.keeps, decide_eq_true_eq] at b2
  have hle : l[a] ≤ l[b - 1] := by
    rcases Nat.lt_or_ge a (b - 1) with h | h
    · exact hs a (b - 1) a1 (by omega) h
    · have : a = b - 1 := by omega
      subst this; omega
  have hle2 : l[b - 1] ≤ l[b] := hs (b - 1) b (by omega) b1 (by omega)
  rcases b2 with h | h
  · omega
  · have e1 : l.toArray[b]! = l[b] := by simp [b1]
    have e2 : l.toArray[b - 1]! = l[b - 1] := by simp [show b - 1 < l.length by omega]
    have e3 : l.toArray[a]! = l[a] := by simp [a1]
    rw [e1, e2] at h
    rw [e1, e3]
    omega

/-! ### Which functions call which -/
def calF (N : Nat) (ins : List PInstr) : List Int := (ins.filter fun x => decide ((x.op = 17 ∧ x.fn ≥ 0) ∧ x.fn < (N : Int))).map fun x => x.fn
def calB (N : Nat) (f : PFunc) : List Int := f.blocks.flatMap fun B => calF N B.ins
theorem calF_len (N : Nat) (ins : List PInstr) : (calF N ins).length ≤ ins.length := by
  unfold calF; rw [List.length_map]; exact List.length_filter_le _ _
theorem mem_calB {N : Nat} {f : PFunc} {b : Int} : b ∈ calB N f ↔ ok N b ∧ ∃ B, B ∈ f.blocks ∧ ∃ x, x ∈ B.ins ∧ x.op = 17 ∧ x.fn = b := by
  unfold calB calF ok
  simp only [List.mem_flatMap, List.mem_map, List.mem_filter, decide_eq_true_eq]
  constructor
  · rintro ⟨B, hB, x, ⟨hx, ⟨h1, h2⟩, h3⟩, rfl⟩
    exact ⟨⟨h2, h3⟩, B, hB, x, hx, h1, rfl⟩
  · rintro ⟨⟨h1, h2⟩, B, hB, x, hx, h3, rfl⟩
    exact ⟨B, hB, x, ⟨hx, ⟨h3, h1⟩, h2⟩, rfl⟩
def callsL (m : PModule) : List (List Int) := m.funcs.map fun f => Lib.compact (isort (calB m.funcs.length f))
theorem flatMap_take {α β : Type} (l : List α) (g : α → List β) (i : Nat) (h : i < l.length) : (l.take (i + 1)).flatMap g = (l.take i).flatMap g ++ g l[i] := by
  rw [List.take_succ_eq_append_getElem h, List.flatMap_append]; simp
theorem calF_take (N : Nat) (ins : List PInstr) (k : Nat) (h : k < ins.length) : calF N (ins.take (k + 1)) = calF N (ins.take k) ++ calF N [ins[k]] := by
  unfold calF; rw [List.take_succ_eq_append_getElem h, List.filter_append, List.map_append]
theorem calF_sum (N : Nat) (f : PFunc) (hf : SmF f) (i : Nat) (hi : i ≤ f.blocks.length) : ((f.blocks.take i).flatMap fun B => calF N B.ins).length ≤ 300 * i := by
  induction i with
  | zero => simp
  | succ i ih =>
    rw [flatMap_take _ _ i (by omega), List.length_append]
    have := ih (by omega)
    have h1 := calF_len N f.blocks[i].ins
    have h2 := (hf.2.2.2 f.blocks[i] (List.getElem_mem _)).1
    omega

theorem callsB (a : Nat) (L : List (List Int)) (ha : a < L.length) (B : PBlock) (hB : SmB B) (r0 : List Int) (hr : r0.length ≤ 300 * 70) (hN : L.length ≤ 40) :
    whl (fun (s : (List (List Int) × Int)) => calls_Calls.bd48 (a : Int) B s.1 s.2) FUEL (L.set a r0, 0) = some (L.set a (r0 ++ calF L.length B.ins)) := by
  have hl := hB.1
  have := whl_run (body := fun (s : (List (List Int) × Int)) => calls_Calls.bd48 (a : Int) B s.1 s.2) (r := L.set a (r0 ++ calF L.length B.ins)) B.ins.length FUEL (fun k => (L.set a (r0 ++ calF L.length (B.ins.take k)), (k : Int))) (fun k hk => by
    simp only [calls_Calls.bd48, len_lt, hk, if_true, idx_lt hk, Option.bind_some, len, List.length_set]
    rw [calF_take _ _ _ hk]
    have h1 := calF_len L.length (B.ins.take k)
    have h1 : (calF L.length (B.ins.take k)).length ≤ 300 := by rw [List.length_take] at h1; omega
    by_cases hc : (B.ins[k].op = 17 ∧ B.ins[k].fn ≥ 0) ∧ B.ins[k].fn < (L.length : Int)
    · rw [if_pos hc, idx_set _ _ _ ha, Option.bind_some, cat_ok (by simp only [LIM, List.length_append, List.length_singleton]; omega)]
      simp only [Option.bind_some, calls_Calls.jn58, Int.toNat_natCast, List.set_set, w64_i hk (by omega : B.ins.length ≤ 1000)]
      simp [calF, hc]
    · rw [if_neg hc]
      simp only [calls_Calls.jn58, w64_i hk (by omega : B.ins.length ≤ 1000)]
      simp [calF, hc]) (by simp only [calls_Calls.bd48, len, List.take_length]; simp) (lt_FUEL (le_max hl (by omega)))
  simpa [calF] using this

theorem calls_eq (m : PModule) (hm : SmM m) : calls_Calls m = some (callsL m) := by
  have hN := hm.1
  unfold calls_Calls
  rw [show (len m.funcs) = (m.funcs.length : Int) from rfl, mkl_rep _ (by omega), Option.bind_some]
  have := whl_run (body := fun (s : (List (List Int) × Int)) => calls_Calls.bd9 m s.1 s.2) (r := callsL m) m.funcs.length FUEL
    (fun i => ((callsL m).take i ++ List.replicate (m.funcs.length - i) [], (i : Int))) (fun i hi => by
      have hf := hm.2 m.funcs[i] (List.getElem_mem hi)
      have hcl : (callsL m).length = m.funcs.length := by simp [callsL]
      generalize hL : (callsL m).take i ++ List.replicate (m.funcs.length - i) [] = L
      have hLl : L.length = m.funcs.length := by rw [← hL]; simp [hcl]; omega
      have hLi : L[i]? = some [] := by
        have hti : ((callsL m).take i).length = i := by rw [List.length_take, hcl]; omega
        rw [← hL, List.getElem?_append_right (by omega), hti, Nat.sub_self, List.getElem?_replicate, if_pos (by omega)]
      have hset : L.set i [] = L := by
        apply List.ext_getElem?
        intro j
        rw [List.getElem?_set]
        by_cases e : i = j
        · subst e; rw [if_pos rfl, if_pos (by omega), hLi]
        · rw [if_neg e]
      have hrun := whl_run (body := fun (s : (List (List Int) × Int)) => calls_Calls.bd26 (i : Int) m.funcs[i] s.1 s.2) (r := L.set i (calB m.funcs.length m.funcs[i])) m.funcs[i].blocks.length FUEL
        (fun k => (L.set i ((m.funcs[i].blocks.take k).flatMap fun B => calF m.funcs.length B.ins), (k : Int))) (fun k hk => by
          have h1 := calF_sum m.funcs.length m.funcs[i] hf k (by omega)
          have h2 := hf.1
          have hb := callsB i L (by omega) m.funcs[i].blocks[k] (hf.2.2.2 _ (List.getElem_mem _)) ((m.funcs[i].blocks.take k).flatMap fun B => calF m.funcs.length B.ins) (by omega) (by omega)
          rw [hLl] at hb
          simp only [calls_Calls.bd26, len_lt, hk, if_true, idx_lt hk, Option.bind_some, hb, calls_Calls.nx48, w64_i hk (by omega : m.funcs[i].blocks.length ≤ 1000)]
          rw [flatMap_take _ _ _ hk]) (by simp only [calls_Calls.bd26, len, List.take_length, calB]; simp) (lt_FUEL (le_max hf.1 (by omega)))
      have hrun' : whl (fun (s : (List (List Int) × Int)) => calls_Calls.bd26 (i : Int) m.funcs[i] s.1 s.2) FUEL (L, 0) = some (L.set i (calB m.funcs.length m.funcs[i])) := by
        have := hrun
        simp only [List.take_zero, List.flatMap_nil, hset] at this
        exact this
      simp only [calls_Calls.bd9, len_lt, hi, if_true, idx_lt hi, Option.bind_some, hrun', calls_Calls.nx26, idx_set L i _ (by omega : i < L.length), slices_Sort, slices_Compact, Int.toNat_natCast, List.set_set, w64_i hi (by omega : m.funcs.length ≤ 1000)]
      congr 3
      apply List.ext_getElem?
      intro j
      rw [List.getElem?_set]
      by_cases e : i = j
      · subst e
        rw [if_pos rfl, if_pos (by omega), List.getElem?_append_left (by simp [hcl]; omega), List.getElem?_take_of_lt (by omega)]
        simp [callsL, hi]
      · rw [if_neg e, ← hL]
        rcases Nat.lt_or_ge j i with h | h
        · rw [List.getElem?_append_left (by simp [hcl]; omega), List.getElem?_append_left (by simp [hcl]; omega), List.getElem?_take_of_lt h, List.getElem?_take_of_lt (by omega)]
        · rw [List.getElem?_append_right (by simp [hcl]; omega), List.getElem?_append_right (by simp [hcl]; omega)]
          simp only [List.getElem?_replicate, List.length_take, hcl]
          congr 1
          exact propext ⟨fun h => by omega, fun h => by omega⟩) (by
      have hcl : (callsL m).length = m.funcs.length := by simp [callsL]
      simp only [calls_Calls.bd9, len]
      simp [hcl]
      rw [List.take_of_length_le (by omega)]) (lt_FUEL (le_max hN (by omega)))
  have h0 : whl (fun (s : (List (List Int) × Int)) => calls_Calls.bd9 m s.1 s.2) FUEL (List.replicate m.funcs.length [], 0) = some (callsL m) := by simpa using this
  rw [h0]; rfl

theorem calls_len (m : PModule) : (callsL m).length = m.funcs.length := by simp [callsL]
theorem mem_cs {m : PModule} {a : Nat} (ha : a < m.funcs.length) {b : Int} : b ∈ cs (callsL m) (a : Int) ↔ b ∈ calB m.funcs.length m.funcs[a] := by
  unfold cs callsL
  simp only [Int.toNat_natCast, List.getD_eq_getElem?_getD, List.getElem?_map, List.getElem?_eq_getElem ha, Option.map_some, Option.getD_some]
  rw [compact_mem, (isort_perm _).mem_iff]
theorem cs_sorted (m : PModule) (x : Int) : (cs (callsL m) x).Pairwise (fun a b => a < b) := by
  unfold cs callsL
  simp only [List.getD_eq_getElem?_getD, List.getElem?_map]
  cases m.funcs[x.toNat]? with
  | none => simp
  | some f => exact compact_sorted _ (isort_sorted _)
theorem cs_ok {m : PModule} {x : Int} : ∀ c, c ∈ cs (callsL m) x → ok m.funcs.length c := by
  intro c hc
  unfold cs callsL at hc
  simp only [List.getD_eq_getElem?_getD, List.getElem?_map] at hc
  cases hf : m.funcs[x.toNat]? with
  | none => rw [hf] at hc; simp at hc
  | some f =>
    rw [hf] at hc
    simp only [Option.map_some, Option.getD_some] at hc
    rw [compact_mem, (isort_perm _).mem_iff] at hc
    exact (mem_calB.1 hc).1
/-- A row that ascends within bounds is no longer than these. -/
theorem sorted_le : ∀ (l : List Int) (a n : Int), l.Pairwise (fun a b => a < b) → (∀ x, x ∈ l → a ≤ x ∧ x < n) → a ≤ n → (l.length : Int) ≤ n - a
  | [], a, n, _, _, h => by simp; omega
  | x :: l, a, n, h, hx, han => by
    rw [List.pairwise_cons] at h
    have h1 := hx x (List.mem_cons_self ..)
    have := sorted_le l (x + 1) n h.2 (fun y hy => ⟨by have := h.1 y hy; omega, (hx y (List.mem_cons_of_mem _ hy)).2⟩) (by omega)
    simp only [List.length_cons]; omega
theorem cs_len {m : PModule} (hm : SmM m) (x : Int) : (cs (callsL m) x).length ≤ m.funcs.length := by
  have := sorted_le _ 0 m.funcs.length (cs_sorted m x) (fun y hy => cs_ok y hy) (by omega)
  omega

/-! ### The rings -/
structure RingsOk (N : Nat) (C : List (List Int)) (R : List (List Int)) : Prop where
  len : R.length ≤ N
  all : ∀ x, (∃ r, r ∈ R ∧ x ∈ r) ↔ ok N x
  nd : R.flatten.Nodup
  ne : ∀ r, r ∈ R → r ≠ []
  srt : ∀ r, r ∈ R → r.Pairwise (fun a b => a < b)
  closed : ∀ (i : Nat) (r : List Int), R[i]? = some r → ∀ x, x ∈ r → ∀ c, c ∈ cs C x → ∃ (j : Nat) (q : List Int), j ≤ i ∧ R[j]? = some q ∧ c ∈ q
  strong : ∀ r, r ∈ R → ∀ a, a ∈ r → ∀ b, b ∈ r → Reach C a b

theorem wc_rep (n : Nat) : wc (List.replicate n 0) = n := by
  induction n with
  | zero => rfl
  | succ n ih => rw [List.replicate_succ, wc, ih]; simp; omega

theorem found_eq (m : PModule) (hm : SmM m) : ∃ R, calls_found m = some R ∧ RingsOk m.funcs.length (callsL m) R := by
  have hN := hm.1
  generalize hNe : m.funcs.length = N at *
  have hCl : (callsL m).length = N := by rw [calls_len, hNe]
  have hCo : ∀ x, ok N x → ∀ c, c ∈ cs (callsL m) x → ok N c := fun x _ c hc => hNe ▸ cs_ok c hc
  have hrow : ∀ x, (cs (callsL m) x).length ≤ 1000 := fun x => by have := cs_len hm x; omega
  have hz : ∀ x, nu (List.replicate N 0) x = 0 := fun x => by simp [nu, List.getElem?_replicate, List.getD_eq_getElem?_getD]; split <;> rfl
  have hzb : ∀ x, gb (List.replicate N false) x = false := fun x => by simp [gb, List.getElem?_replicate, List.getD_eq_getElem?_getD]; split <;> rfl
  have hI0 : Inv N (callsL m) ⟨List.replicate N 0, List.replicate N 0, List.replicate N false, [], [], 0⟩ [] := by
    refine ⟨by simp, by simp, by simp, by simp, fun x _ => by simp [hz], by simp [wc_rep], by simp, by simp, fun x _ => by simp [hzb], by simp, by simp, fun x => by simp [hz], by simp, by simp, by simp, by simp, by simp, fun x _ h => absurd (hz x) h, by simp, by simp⟩
  obtain ⟨z, hw, S, rfl, hI, hst, hall⟩ := whl_for N (fun i s => ∃ S : Sn, s = (S.num, S.low, S.on, S.st, S.rings, S.cnt, (i : Int)) ∧ Inv N (callsL m) S [] ∧ S.st = [] ∧ ∀ x : Nat, x < i → nu S.num (x : Int) ≠ 0)
    (fun z => ∃ S : Sn, z = tup S ∧ Inv N (callsL m) S [] ∧ S.st = [] ∧ ∀ x : Nat, x < N → nu S.num (x : Int) ≠ 0)
    (body := fun (s : (List Int × List Int × List Bool × List Int × List (List Int) × Int × Int)) => calls_found.bd12 m (callsL m) s.1 s.2.1 s.2.2.1 s.2.2.2.1 s.2.2.2.2.1 s.2.2.2.2.2.1 s.2.2.2.2.2.2) (le_max hN (by omega)) (by
      rintro i s hi ⟨S, rfl, hI, hst, hall⟩
      have hio : ok N (i : Int) := ⟨by omega, by omega⟩
      have e1 := idx_nu (l := S.num) (x := (i : Int)) (by rw [hI.n1]; exact hio)
      have hlt : ((i : Int) < len m.funcs) := by simp only [len, hNe]; omega
      refine .inr ?_
      by_cases h0 : nu S.num (i : Int) = 0
      · have hw : wc S.num ≤ N := by have := hI.whites; have := hI.c0; omega
        have hF : N < FUEL := lt_FUEL (le_max hN (by omega))
        obtain ⟨S', hv, hP⟩ := visit_it (by omega) hCl hCo hrow FUEL S (i : Int) [] hI hio h0 (by omega)
        refine ⟨_, ?_, S', rfl, hP.inv, ?_, fun x hx => ?_⟩
        · have hv' : calls_finder_visit (⟨callsL m, S.num, S.low, S.on, S.st, S.rings, S.cnt⟩ : PFinder) (i : Int) = some (tup S') := hv
          simp only [calls_found.bd12, hlt, if_true, e1, h0, Option.bind_some, hv', tup, calls_found.jn22, w64_i hi (by omega : N ≤ 1000)]
        · obtain ⟨T, t1, t2, t3⟩ := hP.T
          rcases t3 with ⟨e, _⟩ | ⟨_, _, ⟨y, hy, _⟩, _⟩
          · rw [t1, hst, e]; rfl
          · rw [hst] at hy; simp at hy
        · by_cases e : x = i
          · subst e; exact hP.seen
          · have h1 := hall x (by omega)
            rw [hP.keepn (x : Int) ⟨by omega, by omega⟩ h1]; exact h1
      · refine ⟨_, ?_, S, rfl, hI, hst, fun x hx => ?_⟩
        · simp only [calls_found.bd12, hlt, if_true, e1, h0, if_false, Option.bind_some, calls_found.jn22, w64_i hi (by omega : N ≤ 1000)]
        · by_cases e : x = i
          · subst e; exact h0
          · exact hall x (by omega)) (by
      rintro s ⟨S, rfl, hI, hst, hall⟩
      exact ⟨tup S, by simp [calls_found.bd12, len, hNe, tup], S, rfl, hI, hst, hall⟩) (s0 := (List.replicate N 0, List.replicate N 0, List.replicate N false, [], [], 0, 0)) ⟨_, rfl, hI0, rfl, fun x h => by omega⟩
  refine ⟨S.rings, ?_, hI.stl.2.1, fun x => ?_, hI.rNd, hI.rNe, hI.rSrt, hI.closed, hI.strong⟩
  · unfold calls_found
    rw [calls_eq m hm, show (len m.funcs) = (N : Int) by simp only [len, hNe]]
    simp only [Option.bind_some, mkl_rep (0 : Int) (show N ≤ 70 by omega), mkl_rep false (show N ≤ 70 by omega), calls_found.jn4, hw, tup, calls_found.nx12]
  · rw [hI.rV x]
    constructor
    · exact fun h => h.1
    · intro h
      refine ⟨h, ?_, by rw [hst]; simp⟩
      have := hall x.toNat (by have := h.1; have := h.2; omega)
      rwa [show ((x.toNat : Nat) : Int) = x by have := h.1; omega] at this
end Go.Proofs.Yteaknconpkklhaa
