/- CallsLie, the plain law. No conditions. -/
import Derived.Test.YteaknconpkklhaaPqF
set_option linter.unusedVariables false
set_option linter.unusedSimpArgs false
namespace Go.Proofs.Yteaknconpkklhaa
open Go Go.Proofs

theorem nodup_get {α : Type} {l : List α} (h : l.Nodup) {i j : Nat} (hi : i < l.length) (hj : j < l.length) (e : l[i] = l[j]) : i = j := by
  have hp := List.pairwise_iff_getElem.1 h
  rcases Nat.lt_trichotomy i j with g | g | g
  · exact absurd e (hp i j hi hj g)
  · exact g
  · exact absurd e.symm (hp j i hj hi g)
/-- What is noted of the rings in D, with their waves. -/
structure Noted (N : Nat) (D : List (Nat × List Int)) (wave ring : List Int) (seen : Int) : Prop where
  l1 : wave.length = N
  l2 : ring.length = N
  val : ∀ p, p ∈ D → ∀ x, x ∈ p.2 → nu wave x = (p.1 : Int) ∧ nu ring x = byF p.2
  non : ∀ x, ok N x → (∀ p, p ∈ D → x ∉ p.2) → nu ring x = -1
  sn : seen = ((D.map Prod.snd).flatten.length : Int)
  nd : (D.map Prod.snd).flatten.Nodup
  inn : ∀ p, p ∈ D → ∀ x, x ∈ p.2 → ok N x
theorem inner_ok {N : Nat} (hN : N ≤ 40) (W : List (List (List Int))) (n i : Nat) (hn : n < W.length) (hi : i < W[n].length) {D : List (Nat × List Int)} {wave ring : List Int} {seen : Int} (h : Noted N D wave ring seen)
    (hnd : (W[n][i]).Nodup) (hne : W[n][i] ≠ []) (hro : ∀ x, x ∈ W[n][i] → ok N x) (hap : ∀ x, x ∈ W[n][i] → ∀ p, p ∈ D → x ∉ p.2) (hseen : seen ≤ 1000) (hl : W[n][i].length ≤ 1000) :
    ∃ wave' ring' seen', whl (fun (s : (List Int × List Int × Int × Int)) => fettlelaw09_CallsLie.bd136 W (n : Int) (i : Int) s.1 s.2.1 s.2.2.1 s.2.2.2) FUEL (wave, ring, seen, 0) = some (.go (wave', ring', seen')) ∧ Noted N (D ++ [(n, W[n][i])]) wave' ring' seen' := by
  generalize hr : W[n][i] = r at *
  have e1 : idx W (n : Int) = some W[n] := idx_lt hn
  have e2 : idx W[n] (i : Int) = some r := by rw [idx_lt hi, hr]
  have hcv : ∀ p, p ∈ D → ∀ x, x ∈ p.2 → x ∉ r := fun p hp x hx hxr => hap x hxr p hp hx
  obtain ⟨z, hz, w', r', s', rfl, a1, a2, a3, a4, a5, a6⟩ := whl_for (body := fun (s : (List Int × List Int × Int × Int)) => fettlelaw09_CallsLie.bd136 W (n : Int) (i : Int) s.1 s.2.1 s.2.2.1 s.2.2.2) r.length
    (fun k s => ∃ (w' r' : List Int) (s' : Int), s = (w', r', s', (k : Int)) ∧ w'.length = N ∧ r'.length = N ∧ (∀ p, p ∈ D → ∀ x, x ∈ p.2 → nu w' x = (p.1 : Int) ∧ nu r' x = byF p.2) ∧ (∀ x, x ∈ r.take k → nu w' x = (n : Int) ∧ nu r' x = byF r) ∧ (∀ x, ok N x → (∀ p, p ∈ D → x ∉ p.2) → x ∉ r.take k → nu r' x = -1) ∧ s' = seen + (k : Int))
    (fun z => ∃ (w' r' : List Int) (s' : Int), z = .go (w', r', s') ∧ w'.length = N ∧ r'.length = N ∧ (∀ p, p ∈ D → ∀ x, x ∈ p.2 → nu w' x = (p.1 : Int) ∧ nu r' x = byF p.2) ∧ (∀ x, x ∈ r → nu w' x = (n : Int) ∧ nu r' x = byF r) ∧ (∀ x, ok N x → (∀ p, p ∈ D → x ∉ p.2) → x ∉ r → nu r' x = -1) ∧ s' = seen + (r.length : Int))
    (le_max hl (by omega)) (by
    rintro k s hk ⟨w', r', s', rfl, b1, b2, b3, b4, b5, b6⟩
    have hx := hro r[k] (List.getElem_mem hk)
    have hxt : r[k] ∉ r.take k := fun hm => by
      obtain ⟨j, hj, he⟩ := List.getElem_of_mem hm
      have hj' : j < k := by rw [List.length_take] at hj; omega
      rw [List.getElem_take] at he
      have := nodup_get hnd (by omega) hk he
      omega
    have hm1 := b5 r[k] hx (hap _ (List.getElem_mem hk)) hxt
    have e3 := idx_nu (l := r') (x := r[k]) (by rw [b2]; exact hx)
    have e4 := idx_nu (l := w') (x := r[k]) (by rw [b1]; exact hx)
    have e5 : idx r 0 = some (byF r) := by
      cases r with
      | nil => exact absurd rfl hne
      | cons a r => rfl
    have c1 : ¬ (r[k] < 0 ∨ r[k] ≥ len r') := by unfold ok at hx; simp only [len, b2]; omega
    have hmt : ∀ x, x ∈ r.take (k + 1) ↔ x ∈ r.take k ∨ x = r[k] := fun x => by rw [List.take_succ_eq_append_getElem hk, List.mem_append, List.mem_singleton]
    refine .inr ⟨(w'.set (r[k]).toNat (n : Int), r'.set (r[k]).toNat (byF r), w64 (s' + 1), ((k + 1 : Nat) : Int)), ?_, _, _, _, rfl, by simp [b1], by simp [b2], fun p hp x hxp => ?_, fun x hx' => ?_, fun x hxo hx1 hx2 => ?_, ?_⟩
    · simp only [fettlelaw09_CallsLie.bd136, e1, e2, Option.bind_some, len_lt, hk, if_true, idx_lt hk, c1, if_false, e3, hm1, not_true, decide_false, Bool.false_eq_true, e4, e5, w64_i hk hl]
    · have hne' : x ≠ r[k] := fun e => hcv p hp x hxp (e ▸ List.getElem_mem hk)
      have hxo := h.inn p hp x hxp
      rw [nu_set (by rw [b1]; exact hx) (by rw [b1]; exact hxo), nu_set (by rw [b2]; exact hx) (by rw [b2]; exact hxo), if_neg hne', if_neg hne']
      exact b3 p hp x hxp
    · have hxo : ok N x := hro x (List.mem_of_mem_take hx')
      rw [nu_set (by rw [b1]; exact hx) (by rw [b1]; exact hxo), nu_set (by rw [b2]; exact hx) (by rw [b2]; exact hxo)]
      by_cases e : x = r[k]
      · rw [if_pos e, if_pos e]; exact ⟨rfl, rfl⟩
      · rw [if_neg e, if_neg e]
        rcases (hmt x).1 hx' with h' | h'
        · exact b4 x h'
        · exact absurd h' e
    · rw [nu_set (by rw [b2]; exact hx) (by rw [b2]; exact hxo), if_neg (fun e : x = r[k] => hx2 ((hmt x).2 (.inr e)))]
      exact b5 x hxo hx1 (fun h' => hx2 ((hmt x).2 (.inl h')))
    · have : 0 ≤ seen := by rw [h.sn]; omega
      rw [b6, w64_id ⟨by omega, by omega⟩]; omega) (by
    rintro s ⟨w', r', s', rfl, b1, b2, b3, b4, b5, b6⟩
    rw [List.take_length] at b4 b5
    exact ⟨.go (w', r', s'), by simp [fettlelaw09_CallsLie.bd136, e1, e2, len], w', r', s', rfl, b1, b2, b3, b4, b5, b6⟩) (s0 := (wave, ring, seen, 0)) ⟨wave, ring, seen, rfl, h.l1, h.l2, h.val, by simp, fun x hx hx' _ => h.non x hx hx', by simp⟩
  refine ⟨w', r', s', hz, a1, a2, fun p hp x hx => ?_, fun x hx hx' => ?_, ?_, ?_, fun p hp x hx => ?_⟩
  · rcases List.mem_append.1 hp with hp | hp
    · exact a3 p hp x hx
    · simp at hp; subst hp; exact a4 x hx
  · exact a5 x hx (fun p hp => hx' p (List.mem_append_left _ hp)) (hx' (n, r) (List.mem_append_right _ (by simp)))
  · rw [a6, h.sn]; simp
  · simp only [List.map_append, List.map_cons, List.map_nil, List.flatten_append, List.flatten_cons, List.flatten_nil, List.append_nil]
    rw [List.nodup_append]
    refine ⟨h.nd, hnd, fun a ha b hb e => ?_⟩
    subst e
    obtain ⟨q, hq, haq⟩ := List.mem_flatten.1 ha
    obtain ⟨p, hp, rfl⟩ := List.mem_map.1 hq
    exact hap a hb p hp haq
  · rcases List.mem_append.1 hp with hp | hp
    · exact h.inn p hp x hx
    · simp at hp; subst hp; exact hro x hx

/-- A list without doubles, of all numbers below N, has N. -/
theorem nodup_len {N : Nat} {l : List Int} (h : l.Nodup) (hm : ∀ x, x ∈ l → ok N x) : l.length ≤ N := by
  have h1 : (isort l).Pairwise (fun a b => a < b) := (List.pairwise_and_iff.2 ⟨isort_sorted l, (isort_perm l).nodup_iff.2 h⟩).imp fun h => by omega
  have := sorted_le (isort l) 0 N h1 (fun x hx => hm x ((isort_perm l).mem_iff.1 hx)) (by omega)
  rw [(isort_perm l).length_eq] at this
  omega
theorem nodup_all {N : Nat} {l : List Int} (h : l.Nodup) (hm : ∀ x, x ∈ l ↔ ok N x) : l.length = N := by
  have hnd : ((List.range N).map fun i : Nat => (i : Int)).Nodup := by
    unfold List.Nodup
    rw [List.pairwise_map]
    exact List.nodup_range.imp fun h e => h (by omega)
  have := (List.perm_ext_iff_of_nodup h hnd).2 (fun x => by
    rw [hm x]
    constructor
    · rintro ⟨h0, h1⟩; exact List.mem_map.2 ⟨x.toNat, List.mem_range.2 (by omega), by omega⟩
    · intro hx
      obtain ⟨i, hi, rfl⟩ := List.mem_map.1 hx
      have := List.mem_range.1 hi
      exact ⟨by omega, by omega⟩)
  simpa using this.length_eq
theorem Noted.le {N : Nat} {D : List (Nat × List Int)} {wave ring : List Int} {seen : Int} (h : Noted N D wave ring seen) : seen ≤ N := by
  have := nodup_len h.nd (fun x hx => by
    obtain ⟨q, hq, hxq⟩ := List.mem_flatten.1 hx
    obtain ⟨p, hp, rfl⟩ := List.mem_map.1 hq
    exact h.inn p hp x hxq)
  rw [h.sn]; omega

/-- The waves as they are handed back. -/
structure Wv (N : Nat) (W : List (List (List Int))) : Prop where
  l : W.length ≤ 40
  rows : ∀ (n : Nat) (h : n < W.length), W[n].length ≤ 40 ∧ ∀ r, r ∈ W[n] → r ≠ [] ∧ r.length ≤ 40 ∧ r.Nodup ∧ ∀ x, x ∈ r → ok N x
  one : ∀ (n i n' i' : Nat) (h : n < W.length) (h' : n' < W.length) (hi : i < W[n].length) (hi' : i' < W[n'].length) (x : Int), x ∈ W[n][i] → x ∈ W[n'][i'] → n = n' ∧ i = i'
def doneW (W : List (List (List Int))) (n : Nat) : List (Nat × List Int) := (List.range n).flatMap fun k => (W.getD k []).map fun r => (k, r)
theorem mem_doneW {W : List (List (List Int))} {n : Nat} {p : Nat × List Int} : p ∈ doneW W n ↔ p.1 < n ∧ p.2 ∈ W.getD p.1 [] := by
  unfold doneW
  simp only [List.mem_flatMap, List.mem_range, List.mem_map]
  constructor
  · rintro ⟨k, hk, r, hr, rfl⟩; exact ⟨hk, hr⟩
  · rintro ⟨h1, h2⟩; exact ⟨p.1, h1, p.2, h2, rfl⟩
theorem doneW_succ (W : List (List (List Int))) (n : Nat) : doneW W (n + 1) = doneW W n ++ (W.getD n []).map fun r => (n, r) := by
  unfold doneW
  rw [List.range_succ, List.flatMap_append]; simp

theorem mid_ok {N : Nat} (hN : N ≤ 40) {W : List (List (List Int))} (hW : Wv N W) (n : Nat) (hn : n < W.length) {wave ring : List Int} {seen : Int} (h : Noted N (doneW W n) wave ring seen) :
    ∃ wave' ring' seen', whl (fun (s : (List Int × List Int × Int × Int)) => fettlelaw09_CallsLie.bd121 W (n : Int) s.1 s.2.1 s.2.2.1 s.2.2.2) FUEL (wave, ring, seen, 0) = some (.go (wave', ring', seen')) ∧ Noted N (doneW W (n + 1)) wave' ring' seen' := by
  have hr := hW.rows n hn
  have hg : W.getD n [] = W[n] := by simp [List.getD_eq_getElem?_getD, List.getElem?_eq_getElem hn]
  obtain ⟨z, hz, w', r', s', rfl, hq⟩ := whl_for (body := fun (s : (List Int × List Int × Int × Int)) => fettlelaw09_CallsLie.bd121 W (n : Int) s.1 s.2.1 s.2.2.1 s.2.2.2) W[n].length
    (fun i s => ∃ w' r' s', s = (w', r', s', (i : Int)) ∧ Noted N (doneW W n ++ (W[n].take i).map fun r => (n, r)) w' r' s')
    (fun z => ∃ w' r' s', z = .go (w', r', s') ∧ Noted N (doneW W (n + 1)) w' r' s') (le_max hr.1 (by omega)) (by
    rintro i s hi ⟨w', r', s', rfl, hq⟩
    obtain ⟨q1, q2, q3, q4⟩ := hr.2 W[n][i] (List.getElem_mem hi)
    have hs := hq.le
    obtain ⟨w2, r2, s2, g1, g2⟩ := inner_ok hN W n i hn hi hq q3 q1 q4 (fun x hx p hp hxp => by
      rcases List.mem_append.1 hp with hp | hp
      · obtain ⟨p1, p2⟩ := mem_doneW.1 hp
        have hp1 : p.1 < W.length := by omega
        rw [List.getD_eq_getElem?_getD, List.getElem?_eq_getElem hp1, Option.getD_some] at p2
        obtain ⟨j, hj, he⟩ := List.getElem_of_mem p2
        have := (hW.one n i p.1 j hn hp1 hi hj x hx (by rw [he]; exact hxp)).1
        omega
      · obtain ⟨q, hq', rfl⟩ := List.mem_map.1 hp
        obtain ⟨j, hj, he⟩ := List.getElem_of_mem hq'
        have hj' : j < i := by rw [List.length_take] at hj; omega
        rw [List.getElem_take] at he
        have := (hW.one n i n j hn hn hi (by omega) x hx (by rw [he]; exact hxp)).2
        omega) (by omega) (by omega)
    refine .inr ⟨(w2, r2, s2, ((i + 1 : Nat) : Int)), ?_, w2, r2, s2, rfl, ?_⟩
    · simp only [fettlelaw09_CallsLie.bd121, idx_lt hn, Option.bind_some, len_lt, hi, if_true, g1, fettlelaw09_CallsLie.nx136, w64_i hi (by omega : W[n].length ≤ 1000)]
    · rw [List.take_succ_eq_append_getElem hi, List.map_append, ← List.append_assoc]
      exact g2) (by
    rintro s ⟨w', r', s', rfl, hq⟩
    rw [List.take_length] at hq
    exact ⟨.go (w', r', s'), by simp [fettlelaw09_CallsLie.bd121, idx_lt hn, len], w', r', s', rfl, by rw [doneW_succ, hg]; exact hq⟩) (s0 := (wave, ring, seen, 0)) ⟨wave, ring, seen, rfl, by simpa using h⟩
  exact ⟨w', r', s', hz, hq⟩
theorem outer_ok {N : Nat} (hN : N ≤ 40) {W : List (List (List Int))} (hW : Wv N W) {wave ring : List Int} (h : Noted N [] wave ring 0) :
    ∃ wave' ring' seen', whl (fun (s : (List Int × List Int × Int × Int)) => fettlelaw09_CallsLie.bd30 W s.1 s.2.1 s.2.2.1 s.2.2.2) FUEL (wave, ring, 0, 0) = some (.go (wave', ring', seen')) ∧ Noted N (doneW W W.length) wave' ring' seen' := by
  have hl := hW.l
  obtain ⟨z, hz, w', r', s', rfl, hq⟩ := whl_for (body := fun (s : (List Int × List Int × Int × Int)) => fettlelaw09_CallsLie.bd30 W s.1 s.2.1 s.2.2.1 s.2.2.2) W.length
    (fun n s => ∃ w' r' s', s = (w', r', s', (n : Int)) ∧ Noted N (doneW W n) w' r' s') (fun z => ∃ w' r' s', z = .go (w', r', s') ∧ Noted N (doneW W W.length) w' r' s') (le_max hl (by omega)) (by
    rintro n s hn ⟨w', r', s', rfl, hq⟩
    obtain ⟨w2, r2, s2, g1, g2⟩ := mid_ok hN hW n hn hq
    refine .inr ⟨(w2, r2, s2, ((n + 1 : Nat) : Int)), ?_, w2, r2, s2, rfl, g2⟩
    simp only [fettlelaw09_CallsLie.bd30, len_lt, hn, if_true, Option.bind_some, g1, fettlelaw09_CallsLie.nx121, w64_i hn (by omega : W.length ≤ 1000)]) (by
    rintro s ⟨w', r', s', rfl, hq⟩
    exact ⟨.go (w', r', s'), by simp [fettlelaw09_CallsLie.bd30, len], w', r', s', rfl, hq⟩) (s0 := (wave, ring, 0, 0)) ⟨wave, ring, 0, rfl, h⟩
  exact ⟨w', r', s', hz, hq⟩

theorem unset_ok (l : List Int) (hl : l.length ≤ 1000) : whl (fun (s : (List Int × Int)) => fettlelaw09_CallsLie.bd21 s.1 s.2) FUEL (l, 0) = some (l.map fun _ => -1) :=
  whl_over (body := fun (s : (List Int × Int)) => fettlelaw09_CallsLie.bd21 s.1 s.2) l (fun _ => -1) (le_max hl (by omega)) (fun i hi L hL hLi he hLl => by
    have hi' : i < L.length := hLi
    simp only [fettlelaw09_CallsLie.bd21, len_lt, hi', if_true, idx_lt hi', Option.bind_some, Int.toNat_natCast, w64_i hi hl]) (by simp [fettlelaw09_CallsLie.bd21, len])

variable {N : Nat} {C R : List (List Int)}
theorem WOk.wv (hR : RingsOk N C R) (hN : N ≤ 40) {Ws : List Nat} {M : Nat} (hW : WOk C R R.length Ws M) : Wv N ((List.range M).map fun k => rsort (pickW R Ws k)) := by
  have hin := hW.in_ hR hN
  have hRnd : R.Nodup := hR.heads.imp fun h e => h (by rw [e])
  have hg : ∀ (n : Nat) (h : n < ((List.range M).map fun k => rsort (pickW R Ws k)).length), ((List.range M).map fun k => rsort (pickW R Ws k))[n] = rsort (pickW R Ws n) := fun n h => by simp
  refine ⟨by simpa using hin.M40, fun n h => ?_, fun n i n' i' h h' hi hi' x hx hx' => ?_⟩
  · rw [hg n h]
    refine ⟨hin.len n, fun r hr => ?_⟩
    obtain ⟨r1, r2, r3⟩ := hin.rows n r hr
    have hrR : r ∈ R := (pickW_sub R Ws n).subset (rsort_mem.1 hr)
    exact ⟨r1, r2, (hR.srt r hrR).imp fun h e => by omega, r3⟩
  · have m1 : ((List.range M).map fun k => rsort (pickW R Ws k))[n][i] ∈ rsort (pickW R Ws n) := by rw [← hg n h]; exact List.getElem_mem hi
    have m2 : ((List.range M).map fun k => rsort (pickW R Ws k))[n'][i'] ∈ rsort (pickW R Ws n') := by rw [← hg n' h']; exact List.getElem_mem hi'
    obtain ⟨a, a1, a2⟩ := (mem_pickW hW.len.symm).1 (rsort_mem.1 m1)
    obtain ⟨b, b1, b2⟩ := (mem_pickW hW.len.symm).1 (rsort_mem.1 m2)
    obtain rfl := hR.one a1 b1 hx hx'
    rw [a2] at b2
    cases b2
    refine ⟨rfl, ?_⟩
    have hnd : (rsort (pickW R Ws n)).Nodup := (rsort_perm _).nodup_iff.2 (hRnd.sublist (pickW_sub R Ws n))
    rw [← hg n h] at hnd
    rw [a1] at b1
    exact nodup_get hnd hi hi' (Option.some.inj b1)

/-- Which functions call which, held against what was noted. -/
theorem row_ok (cl : List (List Int)) (wave ring : List Int) (a : Nat) (ha : a < cl.length) (hw : wave.length = cl.length) (hr : ring.length = cl.length) (hl : cl[a].length ≤ 1000)
    (h : ∀ b, b ∈ cl[a] → ok cl.length b ∧ ((nu wave b < nu wave (a : Int)) ∨ (nu wave b = nu wave (a : Int) ∧ nu ring b = nu ring (a : Int)))) :
    whl (fun (s : Int) => fettlelaw09_CallsLie.bd61 cl wave ring (a : Int) s) FUEL 0 = some (.go ()) := by
  have hao : ok cl.length (a : Int) := ⟨by omega, by omega⟩
  obtain ⟨z, hz, rfl⟩ := whl_for (body := fun (s : Int) => fettlelaw09_CallsLie.bd61 cl wave ring (a : Int) s) cl[a].length (fun k s => s = (k : Int)) (fun z => z = .go ()) (le_max hl (by omega)) (by
    rintro k s hk rfl
    refine .inr ⟨((k + 1 : Nat) : Int), ?_, rfl⟩
    obtain ⟨hb, hc⟩ := h cl[a][k] (List.getElem_mem hk)
    have c1 : ¬ (cl[a][k] < 0 ∨ cl[a][k] ≥ len ring) := by unfold ok at hb; simp only [len, hr]; omega
    have e1 := idx_nu (l := wave) (x := cl[a][k]) (by rw [hw]; exact hb)
    have e2 := idx_nu (l := wave) (x := (a : Int)) (by rw [hw]; exact hao)
    have e3 := idx_nu (l := ring) (x := cl[a][k]) (by rw [hr]; exact hb)
    have e4 := idx_nu (l := ring) (x := (a : Int)) (by rw [hr]; exact hao)
    have c2 : ¬ (nu wave cl[a][k] > nu wave (a : Int)) := by omega
    rcases hc with hc | ⟨hc, hc'⟩
    · have c3 : ¬ (nu wave cl[a][k] = nu wave (a : Int)) := by omega
      simp only [fettlelaw09_CallsLie.bd61, idx_lt ha, Option.bind_some, len_lt, hk, if_true, idx_lt hk, c1, if_false, e1, e2, c2, decide_false, Bool.false_eq_true, c3, w64_i hk hl]
    · simp only [fettlelaw09_CallsLie.bd61, idx_lt ha, Option.bind_some, len_lt, hk, if_true, idx_lt hk, c1, if_false, e1, e2, c2, decide_false, Bool.false_eq_true, hc, e3, e4, hc', not_true, show ¬ (nu wave (a : Int) > nu wave (a : Int)) by omega, w64_i hk hl]) (by
    rintro s rfl
    exact ⟨.go (), by simp [fettlelaw09_CallsLie.bd61, idx_lt ha, len], rfl⟩) (s0 := (0 : Int)) rfl
  exact hz

theorem pure_callsLie (m : PModule) (h : wfModule m) : fettlelaw09_CallsLie m = some true := by
  unfold fettlelaw09_CallsLie
  rw [up_true, Option.bind_some]
  obtain ⟨b, hb, hbm⟩ := small_ok m
  rw [hb, Option.bind_some]
  cases b with
  | false => rfl
  | true =>
    have hm := hbm rfl
    have hN := hm.1
    obtain ⟨R, Ws, M, hf, hR, hW, hwv⟩ := waves_eq m hm
    have hwv' := hW.wv hR hN
    have hlen := calls_len m
    rw [if_neg (by simp), hwv, Option.bind_some, calls_eq m hm, Option.bind_some, show (len m.funcs) = (m.funcs.length : Int) from rfl, mkl_rep (0 : Int) (by omega), Option.bind_some, Option.bind_some, unset_ok _ (by simp; omega), Option.bind_some]
    have hz : ∀ x, nu (List.replicate m.funcs.length 0) x = 0 := fun x => by simp [nu, List.getElem?_replicate, List.getD_eq_getElem?_getD]; split <;> rfl
    have h0 : Noted m.funcs.length [] (List.replicate m.funcs.length 0) ((List.replicate m.funcs.length (0 : Int)).map fun _ => -1) 0 := by
      refine ⟨by simp, by simp, by simp, fun x hx _ => ?_, rfl, by simp, by simp⟩
      have hx' : x.toNat < m.funcs.length := by unfold ok at hx; omega
      simp [nu, List.getD_eq_getElem?_getD, List.getElem?_replicate, hx']
    obtain ⟨wave, ring, seen, g1, g2⟩ := outer_ok hN hwv' h0
    unfold fettlelaw09_CallsLie.nx21
    rw [g1, Option.bind_some]
    have hWl : ((List.range M).map fun k => rsort (pickW R Ws k)).length = M := by simp
    have hval : ∀ (i : Nat) (r : List Int) (w : Nat), R[i]? = some r → Ws[i]? = some w → ∀ x, x ∈ r → nu wave x = (w : Int) ∧ nu ring x = byF r := fun i r w hr hw x hx => by
      have hwM := hW.lt i w hw
      refine g2.val (w, r) (mem_doneW.2 ⟨by simpa using hwM, ?_⟩) x hx
      simp only [List.getD_eq_getElem?_getD, List.getElem?_map, List.getElem?_range hwM, Option.map_some, Option.getD_some]
      exact rsort_mem.2 ((mem_pickW hW.len.symm).2 ⟨i, hr, hw⟩)
    have hRi : ∀ x, ok m.funcs.length x → ∃ (i : Nat) (r : List Int) (w : Nat), R[i]? = some r ∧ Ws[i]? = some w ∧ x ∈ r := fun x hx => by
      obtain ⟨r, hr, hxr⟩ := (hR.all x).2 hx
      obtain ⟨i, hi, he⟩ := List.getElem_of_mem hr
      have := hW.len
      exact ⟨i, r, Ws[i], by rw [List.getElem?_eq_getElem hi, he], List.getElem?_eq_getElem (by omega), hxr⟩
    have hseen : seen = m.funcs.length := by
      rw [g2.sn]
      congr 1
      refine nodup_all g2.nd fun x => ⟨fun hx => ?_, fun hx => ?_⟩
      · obtain ⟨q, hq, hxq⟩ := List.mem_flatten.1 hx
        obtain ⟨p, hp, rfl⟩ := List.mem_map.1 hq
        exact g2.inn p hp x hxq
      · obtain ⟨i, r, w, hr, hw, hxr⟩ := hRi x hx
        have hwM := hW.lt i w hw
        refine List.mem_flatten.2 ⟨r, List.mem_map.2 ⟨(w, r), mem_doneW.2 ⟨by simpa using hwM, ?_⟩, rfl⟩, hxr⟩
        simp only [List.getD_eq_getElem?_getD, List.getElem?_map, List.getElem?_range hwM, Option.map_some, Option.getD_some]
        exact rsort_mem.2 ((mem_pickW hW.len.symm).2 ⟨i, hr, hw⟩)
    have hchk : whl (fun (s : Int) => fettlelaw09_CallsLie.bd47 (callsL m) wave ring s) FUEL 0 = some (.go ()) := by
      obtain ⟨z, hz, rfl⟩ := whl_for (body := fun (s : Int) => fettlelaw09_CallsLie.bd47 (callsL m) wave ring s) (callsL m).length (fun k s => s = (k : Int)) (fun z => z = .go ()) (le_max (show (callsL m).length ≤ 40 by omega) (by omega)) (by
        rintro a s ha rfl
        refine .inr ⟨((a + 1 : Nat) : Int), ?_, rfl⟩
        have hca : (callsL m)[a] = cs (callsL m) (a : Int) := by simp [cs, List.getD_eq_getElem?_getD, List.getElem?_eq_getElem ha]
        have hrow := row_ok (callsL m) wave ring a ha (by rw [g2.l1, hlen]) (by rw [g2.l2, hlen]) (by rw [hca]; have := cs_len hm (a : Int); omega) (fun b hb => by
          rw [hca] at hb
          have hbo := cs_ok b hb
          refine ⟨by rw [hlen]; exact hbo, ?_⟩
          obtain ⟨i, r, w, i1, i2, i3⟩ := hRi (a : Int) ⟨by omega, by omega⟩
          obtain ⟨j, q, u, j1, j2, j3⟩ := hRi b hbo
          obtain ⟨v1, v2⟩ := hval i r w i1 i2 _ i3
          obtain ⟨v3, v4⟩ := hval j q u j1 j2 _ j3
          rw [v1, v2, v3, v4]
          by_cases e : j = i
          · subst e
            rw [i1] at j1; rw [i2] at j2
            cases j1; cases j2
            exact .inr ⟨rfl, rfl⟩
          · have := hW.up i r w i1 i2 _ i3 b hb j q u j1 j2 j3 e
            exact .inl (by omega))
        simp only [fettlelaw09_CallsLie.bd47, len_lt, ha, if_true, hrow, Option.bind_some, fettlelaw09_CallsLie.nx61, w64_i ha (by omega : (callsL m).length ≤ 1000)]) (by
        rintro s rfl
        exact ⟨.go (), by simp [fettlelaw09_CallsLie.bd47, len], rfl⟩) (s0 := (0 : Int)) rfl
      exact hz
    have c1 : ¬ ((¬ seen = (len m.funcs)) ∨ (¬ (len (callsL m)) = seen)) := by simp only [len, hlen, hseen]; simp
    simp only [fettlelaw09_CallsLie.nx30, c1, if_false, hchk, Option.bind_some, fettlelaw09_CallsLie.nx47]
end Go.Proofs.Yteaknconpkklhaa
