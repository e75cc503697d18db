/- Plain laws, part x-J: the law DequeOnce: rounds. No conditions. -/
import Derived.Test.YtoflleabpkgdpaaPxI
set_option linter.unusedVariables false
set_option linter.unusedSimpArgs false
namespace Go.Proofs.Ytoflleabpkgdpaa
open Go Go.Proofs

/-! ### How many steps an operation has left, at most -/
def rank (x : QOp) : Nat :=
  if x.kind = 2 then (if x.at_ = 0 then 5 else if x.at_ = 1 then 4 else if x.at_ = 20 then 3 else if x.at_ = 30 then 2 else 1)
  else if x.at_ = 0 then 4 else if x.at_ = 1 then 3 else if x.at_ = 2 then 2 else 1
theorem rank_pos (x : QOp) : 1 ≤ rank x := by unfold rank; repeat' split
                                              all_goals omega
theorem rank_le (x : QOp) : rank x ≤ 5 := by unfold rank; repeat' split
                                             all_goals omega
theorem rank_step (y : QDeque) (x : QOp) (hg : (core y x).2.2 = 0) : rank (nxt y x) < rank x := by
  obtain ⟨d, k, a, t, b, v, g⟩ := x
  by_cases k1 : k = 1
  · subst k1
    by_cases a0 : a = 0
    · subst a0; simp [nxt, core, rank]
    by_cases a1 : a = 1
    · subst a1; simp [nxt, core, rank]
    by_cases a2 : a = 2
    · subst a2; simp [nxt, core, rank]
    · simp [core, a0, a1, a2] at hg
  by_cases k2 : k = 2
  · subst k2
    by_cases a0 : a = 0
    · subst a0; simp [nxt, core, rank]
    by_cases a1 : a = 1
    · subst a1
      by_cases c : y.top > b <;> simp [nxt, core, rank, c]
    by_cases a10 : a = 10
    · subst a10; simp [core] at hg
    by_cases a50 : a = 50
    · subst a50; simp [core] at hg
    by_cases a20 : a = 20
    · subst a20
      by_cases c : t < b
      · simp [core, c] at hg
      · simp [nxt, core, rank, c]
    by_cases a30 : a = 30
    · subst a30
      by_cases c : y.top = t <;> simp [nxt, core, rank, c]
    · simp [core, a0, a1, a10, a50, a20, a30] at hg
  · by_cases a0 : a = 0
    · subst a0; simp [nxt, core, rank, k1, k2]
    by_cases a1 : a = 1
    · subst a1; simp [nxt, core, rank, k1, k2]
    by_cases a2 : a = 2
    · subst a2; simp [nxt, core, rank, k1, k2]
    · by_cases c : y.top = t <;> simp [core, a0, a1, a2, k1, k2, c] at hg

/-! ### The owner's name doesn't matter -/
theorem Sg.own {y : QDeque} {inn : List Int} {L : Int} (h : Sg y inn L) (o : Option Nat) : Sg ⟨y.cells, y.top, y.bottom, o⟩ inn L := ⟨h.le, h.few, h.eq⟩
theorem Ph.own {y : QDeque} {inn : List Int} {M : Int} {oo : Option QOp} (h : Ph y inn M oo) (o : Option Nat) : Ph ⟨y.cells, y.top, y.bottom, o⟩ inn M oo := by
  cases h with
  | none h3 h4 => exact .none h3 (h4.own o)
  | push0 h1 h2 h3 h4 h5 => exact .push0 h1 h2 h3 (h4.own o) h5
  | push1 h1 h2 h3 h4 h5 h6 => exact .push1 h1 h2 h3 (h4.own o) h5 h6
  | push2 h1 h2 h3 h4 h5 h6 h7 => exact .push2 h1 h2 h3 (h4.own o) h5 h6 h7
  | push3 h1 h2 h3 h4 h5 h6 h7 h8 => exact .push3 h1 h2 h3 (h4.own o) h5 h6 h7 h8
  | pop0 h1 h2 h3 h4 => exact .pop0 h1 h2 h3 (h4.own o)
  | pop1 h1 h2 h3 h4 h5 => exact .pop1 h1 h2 h3 h4 (h5.own o)
  | pop10 h1 h2 h3 h4 h5 h6 => exact .pop10 h1 h2 h3 h4 h5 h6
  | pop20 h1 h2 h3 h4 h5 h6 h7 => exact .pop20 h1 h2 h3 h4 h5 h6 (h7.own o)
  | pop20e h1 h2 h3 h4 h5 h6 h7 => exact .pop20e h1 h2 h3 h4 h5 h6 (h7.own o)
  | pop30 h1 h2 h3 h4 h5 h6 h7 h8 => exact .pop30 h1 h2 h3 h4 h5 h6 h7 (h8.own o)
  | pop40 h1 h2 h3 h4 h5 h6 => exact .pop40 h1 h2 h3 h4 h5 h6
  | pop50 h1 h2 h3 h4 h5 h6 => exact .pop50 h1 h2 h3 h4 h5 h6
theorem Th.own {y : QDeque} {M : Int} {x : QOp} (h : Th y M x) (o : Option Nat) : Th ⟨y.cells, y.top, y.bottom, o⟩ M x :=
  Th.same (y := y) rfl (fun h => h) (fun _ => rfl) h
theorem sml_at {n : Int} (h : 0 ≤ n ∧ n ≤ 50) : Sml n := ⟨by omega, by omega⟩
theorem Ph.sml {y : QDeque} {inn : List Int} {M : Int} {x : QOp} (h : Ph y inn M (some x)) : Sml x.at_ := by
  generalize hx : some x = ox at h
  cases h with
  | none => cases hx
  | push0 h1 h2 | push1 h1 h2 | push2 h1 h2 | push3 h1 h2 | pop0 h1 h2 | pop1 h1 h2 | pop10 h1 h2 | pop20 h1 h2 | pop20e h1 h2 | pop30 h1 h2 | pop40 h1 h2 | pop50 h1 h2 => cases hx; exact sml_at (by omega)
theorem Th.sml {y : QDeque} {M : Int} {x : QOp} (h : Th y M x) : Sml x.at_ := by
  cases h with
  | at0 h1 => exact sml_at (by omega)
  | at1 h1 | at2 h1 | at3 h1 => exact sml_at (by omega)
theorem Ph.fresh {y : QDeque} {inn : List Int} {M : Int} {x : QOp} (h : Ph y inn M (some x)) (hk : x.kind = 1) : x.x ∉ inn := by
  generalize hx : some x = ox at h
  cases h with
  | none => cases hx
  | push0 h1 h2 h3 h4 h5 | push1 h1 h2 h3 h4 h5 | push2 h1 h2 h3 h4 h5 | push3 h1 h2 h3 h4 h5 => cases hx; exact h5
  | pop0 h1 h2 | pop1 h1 h2 | pop10 h1 h2 | pop20 h1 h2 | pop20e h1 h2 | pop30 h1 h2 | pop40 h1 h2 | pop50 h1 h2 => cases hx; omega
theorem seg_len (c : A64) (a b : Int) : (seg c a b).length = (b - a).toNat := by simp [seg]
theorem Sg.len {y : QDeque} {inn : List Int} {L : Int} (h : Sg y inn L) : inn.length ≤ 64 := by
  rw [h.eq, seg_len]; have := h.few; omega
theorem Ph.len {y : QDeque} {inn : List Int} {M : Int} {oo : Option QOp} (h : Ph y inn M oo) : inn.length ≤ 64 := by
  cases h with
  | none h3 h4 => exact h4.len
  | push0 h1 h2 h3 h4 | push1 h1 h2 h3 h4 | push2 h1 h2 h3 h4 | push3 h1 h2 h3 h4 | pop0 h1 h2 h3 h4 => exact h4.len
  | pop1 h1 h2 h3 h4 h5 => exact h5.len
  | pop20 h1 h2 h3 h4 h5 h6 h7 | pop20e h1 h2 h3 h4 h5 h6 h7 => exact h7.len
  | pop30 h1 h2 h3 h4 h5 h6 h7 h8 => exact h8.len
  | pop10 h1 h2 h3 h4 h5 h6 | pop50 h1 h2 h3 h4 h5 h6 => rw [h6]; simp
  | pop40 h1 h2 h3 h4 h5 h6 => rw [h6]; simp

/-! ### The state at a round's head -/
structure UnOk (R : Rgn) (bd : Nat) (y : QDeque) (K M : Int) (p : Nat × Int) : Prop where
  ex : ∃ x, look R.os p.1 = some x ∧ x.kind = p.2 + 1 ∧ x.d = some bd ∧ x.got = 0 ∧ BdO K x ∧ (p.2 = 2 → Th y M x)
inductive OwnR (R : Rgn) (o : Option Nat) (l : List (Nat × Int)) (K : Int) : Option QOp → Prop
  | free : o = none → (∀ p ∈ l, p.2 = 2) → OwnR R o l K none
  | busy {c : Nat} {k : Int} {x : QOp} : o = some c → (c, k) ∈ l → ¬ k = 2 → (∀ p ∈ l, ¬ p.2 = 2 → p.1 = c) → look R.os c = some x → (x.kind = 1 → x.x < K) → OwnR R o l K (some x)
def rkl (R : Rgn) (l : List (Nat × Int)) : Nat := (l.map fun p => match look R.os p.1 with | some x => rank x | none => 0).sum
structure Jo (bd : Nat) (i : Nat) (R : Rgn) (inn : List Int) (l : List (Nat × Int)) : Prop where
  ex : ∃ y M oo, look R.ds bd = some y ∧ BdY (5 + (i : Int)) y ∧ 0 ≤ y.top ∧ Ph y inn M oo ∧ OwnR R y.owner l i oo ∧ ∀ p ∈ l, UnOk R bd y (5 + (i : Int)) M p
  nd : (l.map (·.1)).Nodup
  six : l.length ≤ 6
  dist : inn.Nodup
  lt : ∀ v ∈ inn, v < (i : Int)
theorem nd_ne' {l : List (Nat × Int)} (h : (l.map (·.1)).Nodup) {i j : Nat} {p q : Nat × Int} (hi : l[i]? = some p) (hj : l[j]? = some q) (hne : i ≠ j) : p.1 ≠ q.1 := by
  intro he
  have h1 := (List.getElem?_eq_some_iff.1 hi).1
  have h2 := (List.getElem?_eq_some_iff.1 hj).1
  have := List.pairwise_iff_getElem.1 h
  rcases Nat.lt_or_gt_of_ne hne with hlt | hlt
  · exact this i j (by simpa using h1) (by simpa using h2) hlt (by simpa [(List.getElem?_eq_some_iff.1 hi).2, (List.getElem?_eq_some_iff.1 hj).2] using he)
  · exact this j i (by simpa using h2) (by simpa using h1) hlt (by simpa [(List.getElem?_eq_some_iff.1 hi).2, (List.getElem?_eq_some_iff.1 hj).2] using he.symm)
theorem erase_ne {l : List (Nat × Int)} (h : (l.map (·.1)).Nodup) {n : Nat} {q : Nat × Int} (hn : l[n]? = some q) {p : Nat × Int} (hp : p ∈ l.eraseIdx n) : p ∈ l ∧ p.1 ≠ q.1 := by
  refine ⟨List.mem_of_mem_eraseIdx hp, ?_⟩
  obtain ⟨j, hj⟩ := List.getElem?_of_mem hp
  rw [List.getElem?_eraseIdx] at hj
  split at hj
  · exact nd_ne' h hj hn (by omega)
  · exact nd_ne' h hj hn (by omega)
theorem mem_same {l : List (Nat × Int)} (h : (l.map (·.1)).Nodup) {p q : Nat × Int} (hp : p ∈ l) (hq : q ∈ l) (he : p.1 = q.1) : p = q := by
  obtain ⟨i, hi⟩ := List.getElem?_of_mem hp
  obtain ⟨j, hj⟩ := List.getElem?_of_mem hq
  by_cases hij : i = j
  · subst hij; exact Option.some.inj (hi.symm.trans hj)
  · exact absurd he (nd_ne' h hi hj hij)
theorem sum_erase {α : Type} (f : α → Nat) : ∀ (l : List α) (n : Nat) (x : α), l[n]? = some x → (l.map f).sum = ((l.eraseIdx n).map f).sum + f x
  | [], n, x, h => by simp at h
  | a :: l, 0, x, h => by simp at h; subst h; simp; omega
  | a :: l, n + 1, x, h => by
    have := sum_erase f l n x (by simpa using h)
    simp only [List.map_cons, List.sum_cons, List.eraseIdx_cons_succ, this]; omega
theorem rkl_erase {R : Rgn} {l : List (Nat × Int)} {n bo : Nat} {k : Int} {x : QOp} (hn : l[n]? = some (bo, k)) (hx : look R.os bo = some x) : rkl R l = rkl R (l.eraseIdx n) + rank x := by
  unfold rkl
  rw [sum_erase _ l n _ hn]
  simp only [hx]
theorem rkl_same {R R1 : Rgn} {l : List (Nat × Int)} (h : ∀ p ∈ l, look R1.os p.1 = look R.os p.1) : rkl R1 l = rkl R l := by
  unfold rkl
  congr 1
  apply List.map_congr_left
  intro p hp
  rw [h p hp]
theorem rkl_le {R : Rgn} : ∀ l : List (Nat × Int), rkl R l ≤ 5 * l.length
  | [] => by simp [rkl]
  | p :: l => by
    have := rkl_le (R := R) l
    unfold rkl at this ⊢
    simp only [List.map_cons, List.sum_cons, List.length_cons]
    have : (match look R.os p.1 with | some x => rank x | none => 0) ≤ 5 := by
      split
      · exact rank_le _
      · omega
    omega
theorem rkl_pos {bd i : Nat} {R : Rgn} {inn : List Int} {l : List (Nat × Int)} (h : Jo bd i R inn l) (h0 : rkl R l = 0) : l = [] := by
  cases l with
  | nil => rfl
  | cons p l =>
    obtain ⟨y, M, oo, e1, e2, e3, e4, e5, e6⟩ := h.ex
    obtain ⟨x, g1, _⟩ := (e6 p (by simp)).ex
    unfold rkl at h0
    simp only [List.map_cons, List.sum_cons, g1] at h0
    have := rank_pos x
    omega
theorem without_first {v : Int} {inn rest : List Int} (h : inn = v :: rest) (hl : inn.length ≤ 64) : fettlelaw11_without inn v = some (rest, true) := by
  subst h; exact without_head v rest (by omega)
theorem without_end {v : Int} {inn a : List Int} (h : inn = a ++ [v]) (hl : inn.length ≤ 64) (hd : inn.Nodup) : fettlelaw11_without inn v = some (a, true) := by
  subst h
  refine without_last v a (by simp at hl; omega) (fun hv => ?_)
  rw [List.nodup_append] at hd
  exact hd.2.2 v hv v (by simp) rfl

/-- What became of the list. -/
def Gone (inn inn' : List Int) (k g v : Int) : Prop := (g = 1 ∧ k = 0 ∧ inn' = inn ++ [v]) ∨ (g = 1 ∧ ¬ k = 0 ∧ fettlelaw11_without inn v = some (inn', true)) ∨ (¬ g = 1 ∧ inn' = inn)
theorem once_step {bd i : Nat} {R : Rgn} {inn : List Int} {l : List (Nat × Int)} (h : Jo bd i R inn l) (hi : i ≤ 900) {n bo : Nat} {k : Int} (hn : l[n]? = some (bo, k)) :
    ∃ R1 x1, deque_Deque_Step (some bd) (some bo) R = some (decide (¬ x1.got = 0), GErr.no, R1) ∧ look R1.os bo = some x1 ∧ inn.length ≤ 64 ∧
      (x1.got = 0 → Jo bd (i + 1) R1 inn l ∧ rkl R1 l < rkl R l) ∧
      (¬ x1.got = 0 → ∃ inn', Gone inn inn' k x1.got x1.x ∧ Jo bd (i + 1) R1 inn' (l.eraseIdx n) ∧ rkl R1 (l.eraseIdx n) < rkl R l) := by
  obtain ⟨⟨y, M, oo, hy, hby, ht0, hph, hown, hp⟩, nd, six, dist, hlt⟩ := h
  have hmem : (bo, k) ∈ l := List.mem_of_getElem? hn
  obtain ⟨x, hx, hk, hd, hg0, hbx, hth⟩ := (hp _ hmem).ex
  simp only at hx hk hth
  have hlen := hph.len
  -- what is there of the owner
  have hoex : ∀ c, y.owner = some c → ∃ z, look R.os c = some z := fun c hc => by
    cases hown with
    | free h1 => rw [h1] at hc; cases hc
    | busy h1 h2 h3 h4 h5 => rw [h1] at hc; cases hc; exact ⟨_, h5⟩
  have hat : Sml x.at_ := by
    by_cases k2 : k = 2
    · exact (hth k2).sml
    · cases hown with
      | free h1 h2 => exact absurd (h2 _ hmem) k2
      | busy h1 h2 h3 h4 h5 =>
        have := h4 _ hmem k2
        simp only at this
        subst this
        rw [hx] at h5; cases h5
        exact hph.sml
  have hs : SmS y x := ⟨⟨by have := hby.top.1; omega, by have := hby.top.2; omega⟩, ⟨by have := hby.bottom.1; omega, by have := hby.bottom.2; omega⟩, hat, ⟨by have := hbx.t.1; omega, by have := hbx.t.2; omega⟩, ⟨by have := hbx.b.1; omega, by have := hbx.b.2; omega⟩⟩
  obtain ⟨R1, s1, v1⟩ := step_eq hy hx hs hd hg0 hoex
  obtain ⟨b1, b2⟩ := stp_bd (bo := bo) hby hbx
  have hd' : (stp bo y x).2.d = some bd := (stp_d bo y x).1.trans hd
  have hk' : (stp bo y x).2.kind = k + 1 := (stp_d bo y x).2.trans hk
  have hnx : (stp bo y x).2 = nxt y x := rfl
  have hgot : (nxt y x).got = (core y x).2.2 := rfl
  have hcast : (5 : Int) + (i : Int) + 1 = 5 + ((i + 1 : Nat) : Int) := by omega
  have htop : 0 ≤ (stp bo y x).1.top := by
    have hc : (core y x).1.top = y.top ∨ (core y x).1.top = y.top + 1 := by
      unfold core
      repeat' split
      all_goals simp
    rw [(stp_cells bo y x).2.1]
    omega
  have hy1 : (stp bo y x).1 = ⟨(core y x).1.cells, (core y x).1.top, (core y x).1.bottom, (stp bo y x).1.owner⟩ := by
    unfold stp; simp only; split <;> rfl
  have hoth : ∀ (M' : Int), (∀ s, Th y M s → Th (core y x).1 M' s) → ∀ p ∈ l, p.1 ≠ bo → UnOk R1 bd (stp bo y x).1 (5 + ((i + 1 : Nat) : Int)) M' p := fun M' hM p hp1 hne => by
    obtain ⟨z, z1, z2, z3, z4, z5, z6⟩ := (hp p hp1).ex
    refine ⟨z, (v1.oso _ hne).trans z1, z2, z3, z4, hcast ▸ ⟨z5.t.up, z5.b.up⟩, fun h2 => ?_⟩
    rw [hy1]
    exact (hM z (z6 h2)).own _
  have hself : ∀ (M' : Int), (core y x).2.2 = 0 → (k = 2 → Th (core y x).1 M' (nxt y x)) → UnOk R1 bd (stp bo y x).1 (5 + ((i + 1 : Nat) : Int)) M' (bo, k) := fun M' hg hM =>
    ⟨_, v1.os, hk', hd', hg, hcast ▸ b2, fun h2 => by rw [hy1]; exact (hM h2).own _⟩
  have hall : ∀ (M' : Int), (∀ s, Th y M s → Th (core y x).1 M' s) → (core y x).2.2 = 0 → (k = 2 → Th (core y x).1 M' (nxt y x)) → ∀ p ∈ l, UnOk R1 bd (stp bo y x).1 (5 + ((i + 1 : Nat) : Int)) M' p := fun M' hM hg hS p hp1 => by
    by_cases hne : p.1 = bo
    · obtain rfl : p = (bo, k) := mem_same nd hp1 hmem hne
      exact hself M' hg hS
    · exact hoth M' hM p hp1 hne
  have hers : ∀ (M' : Int), (∀ s, Th y M s → Th (core y x).1 M' s) → ∀ p ∈ l.eraseIdx n, UnOk R1 bd (stp bo y x).1 (5 + ((i + 1 : Nat) : Int)) M' p := fun M' hM p hp1 => by
    obtain ⟨h1, h2⟩ := erase_ne nd hn hp1
    exact hoth M' hM p h1 h2
  have nd2 : ((l.eraseIdx n).map (·.1)).Nodup := List.Pairwise.sublist ((List.eraseIdx_sublist l n).map _) nd
  have six2 : (l.eraseIdx n).length ≤ 6 := by rw [List.length_eraseIdx]; split <;> omega
  have hre : rkl R1 (l.eraseIdx n) = rkl R (l.eraseIdx n) := rkl_same fun p hp1 => v1.oso _ (erase_ne nd hn hp1).2
  have hr1 : rkl R1 (l.eraseIdx n) < rkl R l := by rw [hre, rkl_erase hn hx]; have := rank_pos x; omega
  have hr2 : (core y x).2.2 = 0 → rkl R1 l < rkl R l := fun hg => by
    rw [rkl_erase hn v1.os, rkl_erase hn hx, hre]
    have := rank_step y x hg
    rw [hnx]; omega
  have hlt' : ∀ v ∈ inn, v < ((i + 1 : Nat) : Int) := fun v hv => by have := hlt v hv; omega
  refine ⟨R1, (stp bo y x).2, s1, v1.os, hlen, ?_⟩
  rw [hnx, hgot]
  by_cases k2 : k = 2
  · -- a thief
    subst k2
    have hsto : (stp bo y x).1.owner = y.owner := by
      unfold stp
      simp only [core_owner]
      rw [if_neg]
      · exact core_owner y x
      · rintro ⟨_, ho⟩
        cases hown with
        | free h1 => rw [h1] at ho; cases ho
        | busy h1 h2 h3 h4 h5 =>
          rw [h1] at ho; cases ho
          have := mem_same nd h2 hmem rfl
          simp only [Prod.mk.injEq, true_and] at this
          exact h3 this
    have hown1 : ∀ l', (∀ p, p ∈ l' → p ∈ l) → (∀ p ∈ l, ¬ p.2 = 2 → p ∈ l') → OwnR R1 (stp bo y x).1.owner l' ((i + 1 : Nat) : Int) oo := fun l' hs1 hs2 => by
      rw [hsto]
      cases hown with
      | free h1 h2 => exact .free h1 (fun p hp1 => h2 p (hs1 p hp1))
      | busy h1 h2 h3 h4 h5 h6 =>
        refine .busy h1 (hs2 _ h2 h3) h3 (fun p hp1 => h4 p (hs1 p hp1)) ((v1.oso _ (fun e => ?_)).trans h5) (fun hk1 => by have := h6 hk1; omega)
        have := mem_same nd h2 hmem e
        simp only [Prod.mk.injEq] at this
        exact h3 this.2
    have hin : ∀ p ∈ l, ¬ p.2 = 2 → p ∈ l.eraseIdx n := fun p hp1 hp2 => by
      obtain ⟨j, hj⟩ := List.getElem?_of_mem hp1
      have hjn : j ≠ n := fun e => by subst e; rw [hn] at hj; cases hj; exact hp2 rfl
      rcases Nat.lt_or_gt_of_ne hjn with hlt1 | hlt1
      · exact List.mem_of_getElem? (i := j) (by rw [List.getElem?_eraseIdx, if_pos hlt1]; exact hj)
      · exact List.mem_of_getElem? (i := j - 1) (by rw [List.getElem?_eraseIdx, if_neg (by omega), show j - 1 + 1 = j by omega]; exact hj)
    cases thief_step hph (hth rfl) (by omega) (by omega) with
    | go hg he hT =>
      have hsame : ∀ s, Th y M s → Th (core y x).1 M s := fun s hs => by rw [he]; exact hs
      refine ⟨fun _ => ⟨⟨⟨_, M, oo, v1.ds, hcast ▸ b1, htop, ?_, hown1 l (fun _ h => h) (fun _ h _ => h), hall M hsame hg (fun _ => by rw [he]; exact hT)⟩, nd, six, dist, hlt'⟩, hr2 hg⟩, fun h => absurd hg h⟩
      rw [hy1, he]; exact hph.own _
    | lost hg he =>
      have hg0 : ¬ (core y x).2.2 = 0 := by omega
      have hsame : ∀ s, Th y M s → Th (core y x).1 M s := fun s hs => by rw [he]; exact hs
      refine ⟨fun h => absurd h hg0, fun _ => ⟨inn, .inr (.inr ⟨by omega, rfl⟩), ⟨⟨_, M, oo, v1.ds, hcast ▸ b1, htop, ?_, hown1 _ (fun _ h => List.mem_of_mem_eraseIdx h) hin, hers M hsame⟩, nd2, six2, dist, hlt'⟩, hr1⟩⟩
      rw [hy1, he]; exact hph.own _
    | took rest hg he hP hT =>
      have hg0 : ¬ (core y x).2.2 = 0 := by omega
      refine ⟨fun h => absurd h hg0, fun _ => ⟨rest, .inr (.inl ⟨hg, by omega, without_first he hlen⟩), ⟨⟨_, M, oo, v1.ds, hcast ▸ b1, htop, ?_, hown1 _ (fun _ h => List.mem_of_mem_eraseIdx h) hin, hers M hT⟩, nd2, six2, ?_, fun v hv => hlt' v (by rw [he]; exact List.mem_cons_of_mem _ hv)⟩, hr1⟩⟩
      · rw [hy1]; exact hP.own _
      · rw [he] at dist; exact (List.nodup_cons.1 dist).2
  · -- the owner
    cases hown with
    | free h1 h2 => exact absurd (h2 _ hmem) k2
    | @busy c k' x' h1 h2 h3 h4 h5 h6 =>
      obtain rfl : bo = c := h4 _ hmem k2
      rw [hx] at h5
      cases h5
      have hxx : x.kind = 1 → (nxt y x).x = x.x := fun hk1 => by
        unfold nxt core
        rw [if_pos hk1]
        repeat' split
        all_goals rfl
      have hnk : (nxt y x).kind = x.kind := (core_d y x).2
      obtain ⟨M', hT, hO⟩ := own_step hph
      have hfree : ¬ (core y x).2.2 = 0 → OwnR R1 (stp bo y x).1.owner (l.eraseIdx n) ((i + 1 : Nat) : Int) none := fun hg => by
        have : (stp bo y x).1.owner = none := by
          unfold stp
          simp only [core_owner]
          rw [if_pos ⟨hg, h1⟩]
        refine .free this (fun p hp1 => ?_)
        obtain ⟨q1, q2⟩ := erase_ne nd hn hp1
        by_cases hp2 : p.2 = 2
        · exact hp2
        · exact absurd (h4 p q1 hp2) q2
      cases hO with
      | go hg hP =>
        refine ⟨fun _ => ⟨⟨⟨_, M', some (nxt y x), v1.ds, hcast ▸ b1, htop, ?_, ?_, hall M' hT hg (fun h => absurd h k2)⟩, nd, six, dist, hlt'⟩, hr2 hg⟩, fun h => absurd hg h⟩
        · rw [hy1]; exact hP.own _
        · have : (stp bo y x).1.owner = some bo := by
            unfold stp
            simp only [core_owner]
            rw [if_neg (fun h => h.1 hg), core_owner]; exact h1
          refine .busy this h2 h3 h4 v1.os (fun hk1 => ?_)
          have hk2 : x.kind = 1 := hnk ▸ hk1
          have := h6 hk2
          rw [hxx hk2]; omega
      | full e1 hg hP =>
        have hg0 : ¬ (core y x).2.2 = 0 := by omega
        refine ⟨fun h => absurd h hg0, fun _ => ⟨inn, .inr (.inr ⟨by omega, rfl⟩), ⟨⟨_, M', none, v1.ds, hcast ▸ b1, htop, ?_, hfree hg0, hers M' hT⟩, nd2, six2, dist, hlt'⟩, hr1⟩⟩
        rw [hy1]; exact hP.own _
      | put e1 hg hP =>
        have hg0 : ¬ (core y x).2.2 = 0 := by omega
        have hfx := hph.fresh e1
        have hx6 := h6 e1
        refine ⟨fun h => absurd h hg0, fun _ => ⟨_, .inl ⟨hg, by omega, rfl⟩, ⟨⟨_, M', none, v1.ds, hcast ▸ b1, htop, ?_, hfree hg0, hers M' hT⟩, nd2, six2, ?_, fun v hv => ?_⟩, hr1⟩⟩
        · rw [hy1]; exact hP.own _
        · rw [hxx e1, List.nodup_append]
          refine ⟨dist, by simp, fun u hu v hv => ?_⟩
          rw [List.mem_singleton] at hv
          subst hv
          exact fun e => hfx (e ▸ hu)
        · rcases List.mem_append.1 hv with hv | hv
          · exact hlt' v hv
          · rw [List.mem_singleton] at hv
            rw [hv, hxx e1]; omega
      | none e1 hg hP =>
        have hg0 : ¬ (core y x).2.2 = 0 := by omega
        refine ⟨fun h => absurd h hg0, fun _ => ⟨inn, .inr (.inr ⟨by omega, rfl⟩), ⟨⟨_, M', none, v1.ds, hcast ▸ b1, htop, ?_, hfree hg0, hers M' hT⟩, nd2, six2, dist, hlt'⟩, hr1⟩⟩
        rw [hy1]; exact hP.own _
      | took a e1 hg he hP =>
        have hg0 : ¬ (core y x).2.2 = 0 := by omega
        refine ⟨fun h => absurd h hg0, fun _ => ⟨a, .inr (.inl ⟨hg, by omega, without_end he hlen dist⟩), ⟨⟨_, M', none, v1.ds, hcast ▸ b1, htop, ?_, hfree hg0, hers M' hT⟩, nd2, six2, ?_, fun v hv => hlt' v (by rw [he]; exact List.mem_append_left _ hv)⟩, hr1⟩⟩
        · rw [hy1]; exact hP.own _
        · rw [he, List.nodup_append] at dist; exact dist.1
end Go.Proofs.Ytoflleabpkgdpaa
