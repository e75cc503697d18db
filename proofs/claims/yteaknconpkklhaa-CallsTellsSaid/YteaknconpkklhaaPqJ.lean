/- CallsTells, the plain law. No conditions. -/
import Derived.Test.YteaknconpkklhaaPqI
set_option linter.unusedVariables false
set_option linter.unusedSimpArgs false
namespace Go.Proofs.Yteaknconpkklhaa
open Go Go.Proofs

theorem ints5_eq (a b : List Int) (hl : a.length ≤ maxLen) : fettlelaw05_Ints a b = some (decide (a = b)) := by
  unfold fettlelaw05_Ints
  by_cases hne : len a = len b
  · have hne' : a.length = b.length := by simp only [len] at hne; omega
    rw [if_neg (by simpa using hne), scan_dec a b hne' hl _ (fun i hi hj => by
      simp only [fettlelaw05_Ints.bd11, len_lt, hi, if_true, idx_lt hi, idx_lt hj, Option.bind_some, w64_at hi hl]
      by_cases hc : a[i] = b[i] <;> simp [hc]) (by simp [fettlelaw05_Ints.bd11, len])]
    by_cases hab : a = b
    · subst hab; simp [fettlelaw05_Ints.nx11]
    · simp [hab]
  · rw [if_pos hne]
    have : a ≠ b := fun h => hne (by rw [h])
    simp [this]
theorem w64_small {n : Nat} (h : n ≤ 9223372036854775806) : w64 ((n : Int) + 1) = ((n + 1 : Nat) : Int) := w64_succ (by omega)
theorem ints_self (a : List Int) (hl : a.length ≤ 1000) : fettlelaw05_Ints a a = some true := by rw [ints5_eq a a (le_max hl (by omega))]; simp

variable {N : Nat} {C R : List (List Int)}
/-! ### The wave of each function -/
open Classical in
noncomputable def wvx (R : List (List Int)) (Ws : List Nat) (x : Int) : Nat := if h : ∃ (u : Nat) (i : Nat) (r : List Int), R[i]? = some r ∧ Ws[i]? = some u ∧ x ∈ r then h.choose else 0
theorem wvx_is (hR : RingsOk N C R) {Ws : List Nat} {i : Nat} {r : List Int} {u : Nat} {x : Int} (hr : R[i]? = some r) (hu : Ws[i]? = some u) (hx : x ∈ r) : wvx R Ws x = u := by
  have h : ∃ (u : Nat) (i : Nat) (r : List Int), R[i]? = some r ∧ Ws[i]? = some u ∧ x ∈ r := ⟨u, i, r, hr, hu, hx⟩
  unfold wvx
  rw [dif_pos h]
  obtain ⟨j, q, h1, h2, h3⟩ := h.choose_spec
  obtain rfl := hR.one hr h1 hx h3
  rw [hu] at h2
  exact (Option.some.inj h2).symm
theorem at_ (hR : RingsOk N C R) {Ws : List Nat} (hl : Ws.length = R.length) {x : Int} (hx : ok N x) : ∃ (i : Nat) (r : List Int), R[i]? = some r ∧ Ws[i]? = some (wvx R Ws x) ∧ x ∈ r := by
  obtain ⟨r, hr, hxr⟩ := (hR.all x).2 hx
  obtain ⟨i, hi, he⟩ := List.getElem_of_mem hr
  have h1 : R[i]? = some r := by rw [List.getElem?_eq_getElem hi, he]
  have h2 : Ws[i]? = some Ws[i] := List.getElem?_eq_getElem (by omega)
  exact ⟨i, r, h1, by rw [wvx_is hR h1 h2 hxr]; exact h2, hxr⟩
theorem wv_down (hR : RingsOk N C R) {Ws : List Nat} {M : Nat} (hW : WOk C R R.length Ws M) (hC : ∀ x, ok N x → ∀ c, c ∈ cs C x → ok N c) {a b : Int} (h : Reach C a b) (ha : ok N a) :
    (∃ r, r ∈ R ∧ a ∈ r ∧ b ∈ r) ∨ wvx R Ws b + 1 ≤ wvx R Ws a := by
  induction h with
  | refl =>
    obtain ⟨r, hr, hxr⟩ := (hR.all _).2 ha
    exact .inl ⟨r, hr, hxr, hxr⟩
  | @step x c y hc hr ih =>
    have hco := hC x ha c hc
    have hyo : ok N y := Reach.closed (P := ok N) hC hr hco
    have ih' := ih hco
    obtain ⟨i, p, i1, i2, i3⟩ := at_ hR hW.len ha
    obtain ⟨j, q, j1, j2, j3⟩ := at_ hR hW.len hco
    by_cases e : j = i
    · subst e
      rw [i1] at j1; cases j1
      rcases ih' with ⟨r, r1, r2, r3⟩ | h
      · refine .inl ⟨p, List.mem_of_getElem? i1, i3, ?_⟩
        exact (hR.same (List.mem_of_getElem? i1) j3).2 ⟨hr, hR.strong r r1 y r3 c r2⟩
      · have e1 := wvx_is hR i1 i2 i3
        have e2 := wvx_is hR i1 i2 j3
        exact .inr (by omega)
    · have hup := hW.up i p _ i1 i2 x i3 c hc j q _ j1 j2 j3 e
      rcases ih' with ⟨r, r1, r2, r3⟩ | h
      · obtain ⟨k, hk, he⟩ := List.getElem_of_mem r1
        have hk1 : R[k]? = some r := by rw [List.getElem?_eq_getElem hk, he]
        obtain rfl := hR.one j1 hk1 j3 r2
        rw [j1] at hk1; cases hk1
        have := wvx_is hR j1 j2 r3
        exact .inr (by omega)
      · exact .inr (by omega)
theorem not_same (hR : RingsOk N C R) {a b : Int} (h1 : Trc C a b) (h2 : ¬ Trc C b a) : ¬ ∃ r, r ∈ R ∧ a ∈ r ∧ b ∈ r := by
  rintro ⟨r, hr, ha, hb⟩
  rcases reach_iff.1 (hR.strong r hr b hb a ha) with e | h
  · subst e; exact h2 h1
  · exact h2 h

/-! ### One wave's rings -/
theorem wave_rows (hR : RingsOk N C R) {Ws : List Nat} {M : Nat} (hW : WOk C R R.length Ws M) (n : Nat) : rsort (pickW R Ws n) = (rsort R).filter fun r => decide (wvx R Ws (byF r) = n) := by
  have hRnd : R.Nodup := hR.heads.imp fun h e => h (by rw [e])
  have hdis : dis (R.map byF) = true := dis_of _ (by rw [List.pairwise_map]; exact hR.heads)
  have h1 : (rsort (pickW R Ws n)).Nodup := (rsort_perm _).nodup_iff.2 (hRnd.sublist (pickW_sub R Ws n))
  have h2 : ((rsort R).filter fun r => decide (wvx R Ws (byF r) = n)).Nodup := ((rsort_perm _).nodup_iff.2 hRnd).sublist List.filter_sublist
  refine sorted_eq byF ((List.perm_ext_iff_of_nodup h1 h2).2 fun r => ?_) (rsort_sorted _) ((rsort_sorted R).sublist List.filter_sublist) fun x hx y hy =>
    dis_inj hdis x ((pickW_sub R Ws n).subset (rsort_mem.1 hx)) y ((pickW_sub R Ws n).subset (rsort_mem.1 hy))
  rw [rsort_mem, mem_pickW hW.len.symm, List.mem_filter, rsort_mem]
  simp only [decide_eq_true_eq]
  constructor
  · rintro ⟨i, i1, i2⟩
    have hr := List.mem_of_getElem? i1
    exact ⟨hr, wvx_is hR i1 i2 (byF_mem (hR.ne r hr)).1⟩
  · rintro ⟨hr, h⟩
    have hm := (byF_mem (hR.ne r hr)).1
    obtain ⟨i, q, i1, i2, i3⟩ := at_ hR hW.len ((hR.all _).1 ⟨r, hr, hm⟩)
    obtain ⟨j, hj, he⟩ := List.getElem_of_mem hr
    have hj1 : R[j]? = some r := by rw [List.getElem?_eq_getElem hj, he]
    obtain rfl := hR.one i1 hj1 i3 hm
    exact ⟨i, hj1, by rw [← h]; exact i2⟩

/-! ### What is held against what -/
theorem row_want (m : PModule) (hm : SmM m) (a : Nat) (ha : a < m.funcs.length) :
    whl (fun (s : (List Int × Int)) => fettlelaw09_CallsTells.bd151 m (callsL m) (a : Int) s.1 s.2) FUEL (([] : List Int), 0) = some (cs (callsL m) (a : Int)) := by
  classical
  have hN := hm.1
  have hl := calls_len m
  have hrun := whl_run (body := fun (s : (List Int × Int)) => fettlelaw09_CallsTells.bd151 m (callsL m) (a : Int) s.1 s.2) (r := (upTo m.funcs.length).filter fun b => decide (b ∈ cs (callsL m) (a : Int))) m.funcs.length FUEL
    (fun k => ((upTo k).filter (fun b => decide (b ∈ cs (callsL m) (a : Int))), (k : Int))) (fun k hk => by
      have hlt : ((k : Int) < len (callsL m)) := by simp only [len, hl]; omega
      have hlen := List.length_filter_le (fun b => decide (b ∈ cs (callsL m) (a : Int))) (upTo k)
      rw [upTo_len] at hlen
      have hrc := refCalls m hm a ha (k : Int) ⟨by omega, by omega⟩
      rw [upTo_succ, List.filter_append]
      by_cases h : (k : Int) ∈ cs (callsL m) (a : Int)
      · rw [show [(k : Int)].filter (fun b => decide (b ∈ cs (callsL m) (a : Int))) = [(k : Int)] by simp [List.filter_cons, h]]
        have hrc' : fettleref09_Calls m (a : Int) (k : Int) = some true := by rw [hrc]; simp [h]
        simp only [fettlelaw09_CallsTells.bd151, hlt, if_true, hrc', Option.bind_some, cat_one (show ((upTo k).filter (fun b => decide (b ∈ cs (callsL m) (a : Int)))).length ≤ 1000 by omega), fettlelaw09_CallsTells.jn165, w64_i hk (by omega : m.funcs.length ≤ 1000)]
      · rw [show [(k : Int)].filter (fun b => decide (b ∈ cs (callsL m) (a : Int))) = [] by simp [List.filter_cons, h], List.append_nil]
        have hrc' : fettleref09_Calls m (a : Int) (k : Int) = some false := by rw [hrc]; simp [h]
        simp only [fettlelaw09_CallsTells.bd151, hlt, if_true, hrc', Option.bind_some, Bool.false_eq_true, if_false, fettlelaw09_CallsTells.jn165, w64_i hk (by omega : m.funcs.length ≤ 1000)]) (by
      simp only [fettlelaw09_CallsTells.bd151, len, hl]; rw [if_neg (by omega)]) (lt_FUEL (le_max hN (by omega)))
  have e : ((upTo m.funcs.length).filter fun b => decide (b ∈ cs (callsL m) (a : Int))) = cs (callsL m) (a : Int) :=
    sorted_ext ((upTo_sorted _).sublist List.filter_sublist) (cs_sorted m _) fun x => by
      rw [List.mem_filter, mem_upTo]
      simp only [decide_eq_true_eq]
      exact ⟨fun h => h.2, fun h => ⟨cs_ok x h, h⟩⟩
  rw [e] at hrun
  exact hrun

theorem pure_callsTells (m : PModule) (h : wfModule m) : fettlelaw09_CallsTells m = some true := by
  unfold fettlelaw09_CallsTells
  rw [up_true, Option.bind_some]
  obtain ⟨b, hb, hbm⟩ := small_ok m
  rw [hb, Option.bind_some]
  cases b with
  | false => rfl
  | true =>
    have hm := hbm rfl
    have hN := hm.1
    have hCo : ∀ x, ok m.funcs.length x → ∀ c, c ∈ cs (callsL m) x → ok m.funcs.length c := fun x _ c hc => cs_ok c hc
    obtain ⟨R, Ws, M, hf, hR, hW, hwv⟩ := waves_eq m hm
    have hrg := rings_eq m hm hf hR
    have hlen := calls_len m
    obtain ⟨T, ht, hq, hT⟩ := to_eq m hm
    have hrr := rings_ref hN hR hq hT
    have hWl := hW.len
    have hRl := hR.len
    have hle : ∀ x, ok m.funcs.length x → wvx R Ws x < M ∧ wvx R Ws x ≤ m.funcs.length := fun x hx => by
      obtain ⟨i, r, i1, i2, i3⟩ := at_ hR hW.len hx
      have := hW.le i _ i2 (Nat.le_refl _)
      have := (List.getElem?_eq_some_iff.1 i1).1
      exact ⟨hW.lt i _ i2, by omega⟩
    have tF : ∀ x y, ok m.funcs.length x → ok m.funcs.length y → (tbl T x y = false ↔ ¬ Trc (callsL m) x y) := fun x y hx hy => by
      rw [← hT x y hx hy]; simp
    obtain ⟨wv, hwr, hwl, hwx⟩ := waves_ref (Wx := wvx R Ws) hN hq (fun a b ha hb h1 h2 => by
      have g1 := (hT a b ha hb).1 h1
      have g2 := (tF b a hb ha).1 h2
      rcases wv_down hR hW hCo (reach_iff.2 (.inr g1)) ha with g | g
      · exact absurd g (not_same hR g1 g2)
      · exact g) (fun a ha k hk => by
      obtain ⟨i, r, i1, i2, i3⟩ := at_ hR hW.len ha
      rcases hW.by_ i r _ i1 i2 with e | ⟨j, q, u, x, c, j1, j2, j3, j4, j5, j6, j7⟩
      · omega
      · have hco : ok m.funcs.length c := (hR.all c).1 ⟨q, List.mem_of_getElem? j2, j7⟩
        have hwc := wvx_is hR j2 j3 j7
        have hac : Trc (callsL m) a c := by
          have := hR.strong r (List.mem_of_getElem? i1) a i3 x j5
          rcases reach_iff.1 this with e | g
          · subst e; exact ⟨c, j6, .refl _⟩
          · exact g.trans ⟨c, j6, .refl _⟩
        refine ⟨c, hco, (hT a c ha hco).2 hac, (tF c a hco ha).2 (fun g => ?_), by omega⟩
        rcases wv_down hR hW hCo (reach_iff.2 (.inr g)) hco with ⟨r', r1, r2, r3⟩ | g'
        · obtain ⟨k', hk', he⟩ := List.getElem_of_mem r1
          have hk1 : R[k']? = some r' := by rw [List.getElem?_eq_getElem hk', he]
          have e1 := hR.one j2 hk1 j7 r2
          have e2 := hR.one i1 hk1 i3 r3
          omega
        · omega) (fun x hx => (hle x hx).2)
    have hsl : (rsort R).length = R.length := (rsort_perm R).length_eq
    have hML : M ≤ 40 := (hW.in_ hR hN).M40
    have hbF : ∀ i, (hi : i < (rsort R).length) → (rsort R)[i] ∈ R ∧ idx (rsort R)[i] 0 = some (byF (rsort R)[i]) ∧ ok m.funcs.length (byF (rsort R)[i]) ∧ (rsort R)[i].length ≤ 1000 := fun i hi => by
      have hr : (rsort R)[i] ∈ R := rsort_mem.1 (List.getElem_mem hi)
      obtain ⟨h1, h2⟩ := byF_mem (hR.ne _ hr)
      have hro : ∀ x, x ∈ (rsort R)[i] → ok m.funcs.length x := fun x hx => (hR.all x).1 ⟨_, hr, hx⟩
      have := sorted_le _ 0 m.funcs.length (hR.srt _ hr) hro (by omega)
      exact ⟨hr, h2, hro _ h1, by omega⟩
    have hnw : ∀ i, (hi : i < (rsort R).length) → idx wv (byF (rsort R)[i]) = some (wvx R Ws (byF (rsort R)[i]) : Int) := fun i hi => by
      have ho := (hbF i hi).2.2.1
      rw [idx_nu (by rw [hwl]; exact ho), hwx _ ho]
    rw [if_neg (by simp), calls_eq m hm, Option.bind_some, hrg, Option.bind_some, hwv, Option.bind_some, ht, Option.bind_some, hrr, Option.bind_some, hwr, Option.bind_some, if_neg (by simp only [len, hlen]; simp)]
    -- which functions call which
    have p1 : whl (fun (s : Int) => fettlelaw09_CallsTells.bd35 m (callsL m) s) FUEL 0 = some (.go ()) := by
      obtain ⟨z, hz, rfl⟩ := whl_for (body := fun (s : Int) => fettlelaw09_CallsTells.bd35 m (callsL m) s) m.funcs.length (fun k s => s = (k : Int)) (fun z => z = .go ()) (le_max hN (by omega)) (by
        rintro a s ha rfl
        have hlt : ((a : Int) < len (callsL m)) := by simp only [len, hlen]; omega
        have e1 := idx_cs (l := callsL m) (x := (a : Int)) (by rw [hlen]; exact ⟨by omega, by omega⟩)
        have hcl := cs_len hm (a : Int)
        refine .inr ⟨((a + 1 : Nat) : Int), ?_, rfl⟩
        simp only [fettlelaw09_CallsTells.bd35, hlt, if_true, row_want m hm a ha, Option.bind_some, fettlelaw09_CallsTells.nx151, e1, ints_self _ (show (cs (callsL m) (a : Int)).length ≤ 1000 by omega), Bool.not_true, Bool.false_eq_true, if_false, w64_i ha (by omega : m.funcs.length ≤ 1000)]) (by
        rintro s rfl
        exact ⟨.go (), by simp [fettlelaw09_CallsTells.bd35, len, hlen], rfl⟩) (s0 := (0 : Int)) rfl
      exact hz
    rw [p1, Option.bind_some]
    simp only [fettlelaw09_CallsTells.nx35]
    -- the rings, and how many waves
    have p2 : whl (fun (s : (Int × Int)) => fettlelaw09_CallsTells.bd44 (rsort R) (rsort R) wv s.1 s.2) FUEL (0, 0) = some (.go (M : Int)) := by
      obtain ⟨z, hz, q, rfl, q1, q2, q3⟩ := whl_for (body := fun (s : (Int × Int)) => fettlelaw09_CallsTells.bd44 (rsort R) (rsort R) wv s.1 s.2) (rsort R).length
        (fun k s => ∃ q : Nat, s = ((q : Int), (k : Int)) ∧ q ≤ M ∧ (∀ j, (hj : j < (rsort R).length) → j < k → wvx R Ws (byF (rsort R)[j]) + 1 ≤ q))
        (fun z => ∃ q : Nat, z = .go (q : Int) ∧ q ≤ M ∧ (∀ j, (hj : j < (rsort R).length) → wvx R Ws (byF (rsort R)[j]) + 1 ≤ q) ∧ True) (le_max (show (rsort R).length ≤ 40 by omega) (by omega)) (by
        rintro k s hk ⟨q, rfl, q1, q2⟩
        obtain ⟨b1, b2, b3, b4⟩ := hbF k hk
        have b5 := hnw k hk
        have hlw := hle _ b3
        have hw64 : w64 ((wvx R Ws (byF (rsort R)[k]) : Int) + 1) = (((wvx R Ws (byF (rsort R)[k]) + 1 : Nat)) : Int) := w64_small (by omega)
        by_cases hgt : (((wvx R Ws (byF (rsort R)[k]) + 1 : Nat)) : Int) > (q : Int)
        · refine .inr ⟨((((wvx R Ws (byF (rsort R)[k]) + 1 : Nat)) : Int), ((k + 1 : Nat) : Int)), ?_, _, rfl, by omega, fun j hj hjk => ?_⟩
          · simp only [fettlelaw09_CallsTells.bd44, len_lt, hk, if_true, idx_lt hk, Option.bind_some, ints_self _ b4, Bool.not_true, Bool.false_eq_true, if_false, b2, b5, hw64, hgt, fettlelaw09_CallsTells.jn119, w64_i hk (by omega : (rsort R).length ≤ 1000)]
          · by_cases e : j = k
            · subst e; omega
            · have := q2 j hj (by omega); omega
        · refine .inr ⟨((q : Int), ((k + 1 : Nat) : Int)), ?_, _, rfl, q1, fun j hj hjk => ?_⟩
          · simp only [fettlelaw09_CallsTells.bd44, len_lt, hk, if_true, idx_lt hk, Option.bind_some, ints_self _ b4, Bool.not_true, Bool.false_eq_true, if_false, b2, b5, hw64, hgt, fettlelaw09_CallsTells.jn119, w64_i hk (by omega : (rsort R).length ≤ 1000)]
          · by_cases e : j = k
            · subst e; omega
            · exact q2 j hj (by omega)) (by
        rintro s ⟨q, rfl, q1, q2⟩
        exact ⟨.go (q : Int), by simp [fettlelaw09_CallsTells.bd44, len], q, rfl, q1, fun j hj => q2 j hj hj, trivial⟩) (s0 := ((0 : Int), 0)) ⟨0, rfl, by omega, fun j hj h => by omega⟩
      have : q = M := by
        rcases Nat.eq_zero_or_pos M with e | e
        · omega
        · obtain ⟨i, hi⟩ := hW.hit (M - 1) (by omega)
          have hil := (List.getElem?_eq_some_iff.1 hi).1
          have hRi : R[i]? = some R[i] := List.getElem?_eq_getElem (by omega)
          have hm' : R[i] ∈ R := List.mem_of_getElem? hRi
          obtain ⟨j, hj, he⟩ := List.getElem_of_mem (rsort_mem.2 hm')
          have h1 := q2 j hj
          rw [he, wvx_is hR hRi hi (byF_mem (hR.ne _ hm')).1] at h1
          omega
      rw [hz, this]
    rw [p2, Option.bind_some]
    -- each wave
    have hgw : ∀ n, (hn : n < M) → idx ((List.range M).map fun k => rsort (pickW R Ws k)) (n : Int) = some ((rsort R).filter fun r => decide (wvx R Ws (byF r) = n)) := fun n hn => by
      rw [idx_nat]; simp [hn, wave_rows hR hW n]
    have p3 : ∀ n, n < M → whl (fun (s : (Int × Int)) => fettlelaw09_CallsTells.bd72 ((List.range M).map fun k => rsort (pickW R Ws k)) (rsort R) wv (n : Int) s.1 s.2) FUEL (0, 0) = some (.go ((((rsort R).filter fun r => decide (wvx R Ws (byF r) = n)).length : Nat) : Int)) := fun n hn => by
      have hrun := whl_run (body := fun (s : (Int × Int)) => fettlelaw09_CallsTells.bd72 ((List.range M).map fun k => rsort (pickW R Ws k)) (rsort R) wv (n : Int) s.1 s.2) (r := .go ((((rsort R).filter fun r => decide (wvx R Ws (byF r) = n)).length : Nat) : Int)) (rsort R).length FUEL
        (fun k => (((((rsort R).take k).filter fun r => decide (wvx R Ws (byF r) = n)).length : Int), (k : Int))) (fun k hk => by
          obtain ⟨b1, b2, b3, b4⟩ := hbF k hk
          have b5 := hnw k hk
          have htk : (rsort R).take (k + 1) = (rsort R).take k ++ [(rsort R)[k]] := List.take_succ_eq_append_getElem hk
          rw [htk, List.filter_append]
          by_cases he : wvx R Ws (byF (rsort R)[k]) = n
          · rw [show [(rsort R)[k]].filter (fun r => decide (wvx R Ws (byF r) = n)) = [(rsort R)[k]] by simp [List.filter_cons, he]]
            have hsplit : (rsort R).filter (fun r => decide (wvx R Ws (byF r) = n)) = ((rsort R).take k).filter (fun r => decide (wvx R Ws (byF r) = n)) ++ (rsort R)[k] :: ((rsort R).drop (k + 1)).filter (fun r => decide (wvx R Ws (byF r) = n)) := by
              conv => lhs; rw [← List.take_append_drop k (rsort R), List.drop_eq_getElem_cons hk, List.filter_append, List.filter_cons]
              rw [if_pos (by simpa using he)]
            have hlen' : (((rsort R).take k).filter (fun r => decide (wvx R Ws (byF r) = n))).length < ((rsort R).filter (fun r => decide (wvx R Ws (byF r) = n))).length := by rw [hsplit]; simp
            have hat : idx ((rsort R).filter (fun r => decide (wvx R Ws (byF r) = n))) ((((rsort R).take k).filter (fun r => decide (wvx R Ws (byF r) = n))).length : Int) = some (rsort R)[k] := by
              rw [idx_nat, hsplit, List.getElem?_append_right (Nat.le_refl _), Nat.sub_self]; rfl
            have c1 : ¬ (((((rsort R).take k).filter (fun r => decide (wvx R Ws (byF r) = n))).length : Int) ≥ len ((rsort R).filter (fun r => decide (wvx R Ws (byF r) = n)))) := by simp only [len]; omega
            have hfl := List.length_filter_le (fun r => decide (wvx R Ws (byF r) = n)) ((rsort R).take k)
            rw [List.length_take] at hfl
            have hw64 : w64 ((((rsort R).take k).filter (fun r => decide (wvx R Ws (byF r) = n))).length + 1 : Int) = (((((rsort R).take k).filter (fun r => decide (wvx R Ws (byF r) = n))).length + 1 : Nat) : Int) := w64_small (by omega)
            have c2 : ¬ ¬ ((wvx R Ws (byF (rsort R)[k]) : Int) = (n : Int)) := by simp [he]
            simp only [fettlelaw09_CallsTells.bd72, len_lt, hk, if_true, idx_lt hk, Option.bind_some, b2, b5, c2, if_false, hgw n hn, c1, hat, ints_self _ b4, Bool.not_true, Bool.false_eq_true, fettlelaw09_CallsTells.jn84, w64_i hk (by omega : (rsort R).length ≤ 1000), hw64, List.length_append, List.length_singleton]
          · rw [show [(rsort R)[k]].filter (fun r => decide (wvx R Ws (byF r) = n)) = [] by simp [List.filter_cons, he], List.append_nil]
            have c2 : ¬ ((wvx R Ws (byF (rsort R)[k]) : Int) = (n : Int)) := by omega
            simp only [fettlelaw09_CallsTells.bd72, len_lt, hk, if_true, idx_lt hk, Option.bind_some, b2, b5, c2, not_false_eq_true, fettlelaw09_CallsTells.jn84, w64_i hk (by omega : (rsort R).length ≤ 1000)]) (by
          simp only [fettlelaw09_CallsTells.bd72, len, List.take_length]; rw [if_neg (by omega)]) (lt_FUEL (le_max (show (rsort R).length ≤ 40 by omega) (by omega)))
      exact hrun
    have p4 : whl (fun (s : Int) => fettlelaw09_CallsTells.bd56 ((List.range M).map fun k => rsort (pickW R Ws k)) (rsort R) wv s) FUEL 0 = some (.go ()) := by
      obtain ⟨z, hz, rfl⟩ := whl_for (body := fun (s : Int) => fettlelaw09_CallsTells.bd56 ((List.range M).map fun k => rsort (pickW R Ws k)) (rsort R) wv s) M (fun k s => s = (k : Int)) (fun z => z = .go ()) (le_max hML (by omega)) (by
        rintro n s hn rfl
        have hlt : ((n : Int) < len ((List.range M).map fun k => rsort (pickW R Ws k))) := by simp only [len, List.length_map, List.length_range]; omega
        refine .inr ⟨((n + 1 : Nat) : Int), ?_, rfl⟩
        simp only [fettlelaw09_CallsTells.bd56, hlt, if_true, p3 n hn, Option.bind_some, fettlelaw09_CallsTells.nx72, hgw n hn, len, not_true, if_false, w64_i hn (by omega : M ≤ 1000)]) (by
        rintro s rfl
        exact ⟨.go (), by simp [fettlelaw09_CallsTells.bd56, len], rfl⟩) (s0 := (0 : Int)) rfl
      exact hz
    simp only [fettlelaw09_CallsTells.nx44]
    rw [if_neg (by simp [len]), p4]
    rfl
end Go.Proofs.Yteaknconpkklhaa
