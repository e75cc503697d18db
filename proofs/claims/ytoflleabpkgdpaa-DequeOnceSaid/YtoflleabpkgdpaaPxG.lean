/- Plain laws, part x-G: the law DequePlays. No conditions. -/
import Derived.Test.YtoflleabpkgdpaaPxE
import Derived.Test.YtoflleabpkgdpaaPxD
import Derived.Test.YtoflleabpkgdpaaK6
set_option linter.unusedVariables false
set_option linter.unusedSimpArgs false
namespace Go.Proofs.Ytoflleabpkgdpaa
open Go Go.Proofs

def Bw (K : Int) (n : Int) : Prop := -K ≤ n ∧ n ≤ K
structure BdO (K : Int) (x : QOp) : Prop where
  t : Bw K x.t
  b : Bw K x.b
structure BdY (K : Int) (y : QDeque) : Prop where
  top : Bw K y.top
  bottom : Bw K y.bottom
theorem Bw.up {K n : Int} (h : Bw K n) : Bw (K + 1) n := ⟨by have := h.1; omega, by have := h.2; omega⟩
theorem Bw.add {K n : Int} (h : Bw K n) : Bw (K + 1) (n + 1) := ⟨by have := h.1; omega, by have := h.2; omega⟩
theorem Bw.sub {K n : Int} (h : Bw K n) : Bw (K + 1) (n - 1) := ⟨by have := h.1; omega, by have := h.2; omega⟩
theorem core_bd {K : Int} {y : QDeque} {x : QOp} (hy : BdY K y) (hx : BdO K x) : BdY (K + 1) (core y x).1 ∧ BdO (K + 1) (core y x).2.1 := by
  obtain ⟨h1, h2⟩ := hy
  obtain ⟨h3, h4⟩ := hx
  unfold core
  repeat' split
  all_goals first
    | exact ⟨⟨h1.up, h2.up⟩, ⟨h3.up, h4.up⟩⟩
    | exact ⟨⟨h1.up, h2.up⟩, ⟨h3.up, h2.up⟩⟩
    | exact ⟨⟨h1.up, h2.up⟩, ⟨h1.up, h4.up⟩⟩
    | exact ⟨⟨h1.up, h4.add⟩, ⟨h3.up, h4.up⟩⟩
    | exact ⟨⟨h1.up, h2.sub⟩, ⟨h3.up, h2.sub⟩⟩
    | exact ⟨⟨h1.add, h2.up⟩, ⟨h3.up, h4.up⟩⟩
theorem stp_bd {K : Int} {bo : Nat} {y : QDeque} {x : QOp} (hy : BdY K y) (hx : BdO K x) : BdY (K + 1) (stp bo y x).1 ∧ BdO (K + 1) (stp bo y x).2 := by
  obtain ⟨g1, g2⟩ := core_bd hy hx
  obtain ⟨c1, c2, c3⟩ := stp_cells bo y x
  exact ⟨⟨by rw [c2]; exact g1.top, by rw [c3]; exact g1.bottom⟩, ⟨g2.t, g2.b⟩⟩
theorem rel_at {x : QOp} {z : POp} (h : Rel x z) : Sml x.at_ := by
  rcases h.at_ with ⟨_, _, _, _, h | h | h | h⟩ | ⟨_, ⟨h, _⟩ | ⟨_, ⟨h, _⟩ | ⟨h, _⟩ | ⟨h, _⟩ | ⟨h, _⟩ | ⟨h, _⟩ | ⟨h, _⟩⟩⟩
  all_goals rw [h]; exact ⟨by omega, by omega⟩
theorem sms_of {K : Int} (hK : K ≤ 1000) {y : QDeque} {x : QOp} {z : POp} (hy : BdY K y) (hx : BdO K x) (hr : Rel x z) : SmS y x :=
  ⟨⟨by have := hy.top.1; omega, by have := hy.top.2; omega⟩, ⟨by have := hy.bottom.1; omega, by have := hy.bottom.2; omega⟩, rel_at hr, ⟨by have := hx.t.1; omega, by have := hx.t.2; omega⟩, ⟨by have := hx.b.1; omega, by have := hx.b.2; omega⟩⟩
/-- A pair under way. -/
structure PrOk (R : Rgn) (bd : Nat) (y : QDeque) (K : Int) (bo bm : Nat) : Prop where
  ex : ∃ x z, look R.os bo = some x ∧ look R.rs bm = some z ∧ Rel x z ∧ x.d = some bd ∧ BdO K x ∧ (¬ x.kind = 3 ↔ y.owner = some bo)
structure Jn (bd bd2 : Nat) (K : Int) (R : Rgn) (cs : List Int) (t b : Int) (busy : Bool) (l : List (Nat × Nat)) : Prop where
  ne : bd ≠ bd2
  two : ∃ y2, look R.ds bd2 = some y2
  ex : ∃ y, look R.ds bd = some y ∧ cs = y.cells.1 ∧ t = y.top ∧ b = y.bottom ∧ busy = y.owner.isSome ∧ BdY K y ∧ (∀ c, y.owner = some c → ∃ z, look R.os c = some z) ∧ ∀ p ∈ l, PrOk R bd y K p.1 p.2
  nd1 : (l.map (·.1)).Nodup
  nd2 : (l.map (·.2)).Nodup
def prs (l : List (Nat × Nat)) : List PPair := l.map fun p => ⟨some p.1, some p.2⟩
theorem step_other {R : Rgn} {bd bd2 bo : Nat} {y y2 : QDeque} {x : QOp} (hy : look R.ds bd = some y) (hy2 : look R.ds bd2 = some y2) (hne : bd ≠ bd2) (hx : look R.os bo = some x) (hd : x.d = some bd) :
    deque_Deque_Step (some bd2) (some bo) R = some (false, GErr.code 1, R) := by
  unfold deque_Deque_Step
  have he : eqP R.ds (some bd) (some bd2) = some false := by
    unfold eqP okP
    simp [hy, hy2, hne]
  simp only [Option.bind_some, hx, hd, he, show ¬ (some bo = (none : Option Nat)) by simp, if_false, show ¬ (some bd = some bd2) by simpa using hne, not_false_eq_true, decide_true, if_true]
theorem step_done {R : Rgn} {bd bo : Nat} {y : QDeque} {x : QOp} (hy : look R.ds bd = some y) (hx : look R.os bo = some x) (hd : x.d = some bd) (hg : ¬ x.got = 0) :
    deque_Deque_Step (some bd) (some bo) R = some (false, GErr.code 7, R) := by
  unfold deque_Deque_Step
  have he : eqP R.ds (some bd) (some bd) = some true := by
    unfold eqP okP
    simp [hy]
  simp only [Option.bind_some, hx, hd, he, show ¬ (some bo = (none : Option Nat)) by simp, if_false, not_true, decide_false, Bool.false_eq_true, hg, not_false_eq_true, if_true]
theorem step_nil (bd : Nat) (R : Rgn) : deque_Deque_Step (some bd) none R = some (false, GErr.code 1, R) := by
  unfold deque_Deque_Step
  simp only [if_true, Option.bind_some]
theorem refresult_eq {R : Rgn} {bm : Nat} {z : POp} (h : look R.rs bm = some z) : fettleref11_Op_Result (some bm) R = some (z.got, if z.got = 1 then z.x else 0) := by
  unfold fettleref11_Op_Result
  simp only [Option.bind_some, h]
  by_cases c : z.got = 1
  · rw [if_pos c, if_pos c, c]
  · rw [if_neg c, if_neg c]
theorem state_eq {R : Rgn} {bd : Nat} {y : QDeque} (h : look R.ds bd = some y) : deque_Deque_State (some bd) R = some (y.top, y.bottom) := by
  unfold deque_Deque_State
  simp only [Option.bind_some, h]
theorem nd_ne {l : List (Nat × Nat)} {f : Nat × Nat → Nat} (h : (l.map f).Nodup) {i j : Nat} {p q : Nat × Nat} (hi : l[i]? = some p) (hj : l[j]? = some q) (hne : i ≠ j) : f p ≠ f q := by
  intro he
  have h1 := (List.getElem?_eq_some_iff.1 hi).1
  have h2 := (List.getElem?_eq_some_iff.1 hj).1
  have e1 : (l.map f)[i]? = some (f p) := by rw [List.getElem?_map, hi]; rfl
  have e2 : (l.map f)[j]? = some (f q) := by rw [List.getElem?_map, hj]; rfl
  have := List.pairwise_iff_getElem.1 h
  rcases Nat.lt_or_gt_of_ne hne with hlt | hlt
  · exact this i j (by simpa using h1) (by simpa using h2) hlt (by simpa [(List.getElem?_eq_some_iff.1 hi).2, (List.getElem?_eq_some_iff.1 hj).2] using he)
  · exact this j i (by simpa using h2) (by simpa using h1) hlt (by simpa [(List.getElem?_eq_some_iff.1 hi).2, (List.getElem?_eq_some_iff.1 hj).2] using he.symm)
theorem round {bd bd2 : Nat} {K : Int} {R : Rgn} {cs : List Int} {t b : Int} {busy : Bool} {l : List (Nat × Nat)} (h : Jn bd bd2 K R cs t b busy l) (hK : K ≤ 900) {n bo bm : Nat} (hn : l[n]? = some (bo, bm)) :
    deque_Deque_Step (some bd2) (some bo) R = some (false, GErr.code 1, R) ∧ ∃ R1 R2 x' z' y' busy', deque_Deque_Step (some bd) (some bo) R = some (decide (¬ x'.got = 0), GErr.no, R1) ∧
      fettleref11_Deque_Step (⟨cs, t, b, busy⟩ : PDeque) (some bm) R1 = some (y'.cells.1, y'.top, y'.bottom, busy', R2) ∧ look R2.os bo = some x' ∧ look R2.rs bm = some z' ∧ look R2.ds bd = some y' ∧ z'.got = x'.got ∧ (x'.got = 1 → z'.x = x'.x) ∧ x'.d = some bd ∧
      (x'.got = 0 → Jn bd bd2 (K + 1) R2 y'.cells.1 y'.top y'.bottom busy' l) ∧ (¬ x'.got = 0 → Jn bd bd2 (K + 1) R2 y'.cells.1 y'.top y'.bottom busy' (l.eraseIdx n)) := by
  obtain ⟨hne, ⟨y2, hy2⟩, ⟨y, hy, rfl, rfl, rfl, rfl, hby, ho, hp⟩, nd1, nd2⟩ := h
  have hmem : (bo, bm) ∈ l := List.mem_of_getElem? hn
  obtain ⟨x, z, hx, hz, hr, hd, hbx, hk⟩ := (hp _ hmem).ex
  simp only at hx hz hk
  have hs := sms_of (by omega) hby hbx hr
  refine ⟨step_other hy hy2 hne hx hd, ?_⟩
  obtain ⟨R1, s1, v1⟩ := step_eq hy hx hs hd hr.xgot ho
  have hz1 : look R1.rs bm = some z := by rw [v1.rs]; exact hz
  obtain ⟨R2, z', g1, g2, g3, g4, g5⟩ := ref_step (bo := bo) (busy := y.owner.isSome) hz1 hr hs
  obtain ⟨b1, b2⟩ := stp_bd (bo := bo) hby hbx
  have hd' : (stp bo y x).2.d = some bd := (stp_d bo y x).1.trans hd
  have hk' := (stp_d bo y x).2
  have hos : ∀ c, c ≠ bo → look R2.os c = look R.os c := fun c hc => by rw [g2.os]; exact v1.oso c hc
  have hrs : ∀ c, c ≠ bm → look R2.rs c = look R.rs c := fun c hc => by rw [g2.rso c hc, v1.rs]
  have hox : look R2.os bo = some (stp bo y x).2 := by rw [g2.os]; exact v1.os
  have hdy : look R2.ds bd = some (stp bo y x).1 := by rw [g2.ds]; exact v1.ds
  -- the owner behind the step
  have hown : (stp bo y x).1.owner = if ¬ (stp bo y x).2.got = 0 ∧ y.owner = some bo then none else y.owner := by
    have hco := core_owner y x
    unfold stp
    simp only [hco]
    split
    · rfl
    · exact hco
  have hbusy : (if ¬ (stp bo y x).2.got = 0 ∧ ¬ x.kind = 3 then false else y.owner.isSome) = (stp bo y x).1.owner.isSome := by
    rw [hown]
    by_cases c : ¬ (stp bo y x).2.got = 0 ∧ ¬ x.kind = 3
    · rw [if_pos c, if_pos ⟨c.1, hk.1 c.2⟩]; rfl
    · rw [if_neg c, if_neg (fun h => c ⟨h.1, hk.2 h.2⟩)]
  have hoth : ∀ (j : Nat) (q : Nat × Nat), l[j]? = some q → j ≠ n → PrOk R2 bd (stp bo y x).1 (K + 1) q.1 q.2 := fun j q hj hjn => by
    have n1 : q.1 ≠ bo := nd_ne nd1 hj hn hjn
    have n2 : q.2 ≠ bm := nd_ne nd2 hj hn hjn
    obtain ⟨xq, zq, e1, e2, e3, e4, e5, e6⟩ := (hp q (List.mem_of_getElem? hj)).ex
    refine ⟨xq, zq, (hos _ n1).trans e1, (hrs _ n2).trans e2, e3, e4, ⟨e5.t.up, e5.b.up⟩, e6.trans ?_⟩
    rw [hown]
    split
    · rename_i hc
      constructor
      · intro h2; rw [hc.2] at h2; exact absurd (Option.some.inj h2) (fun e => n1 e.symm)
      · intro h2; cases h2
    · exact Iff.rfl
  have hex : ∀ l' : List (Nat × Nat), (∀ q ∈ l', PrOk R2 bd (stp bo y x).1 (K + 1) q.1 q.2) → ∃ y0, look R2.ds bd = some y0 ∧ (stp bo y x).1.cells.1 = y0.cells.1 ∧ (stp bo y x).1.top = y0.top ∧ (stp bo y x).1.bottom = y0.bottom ∧ (if ¬ (stp bo y x).2.got = 0 ∧ ¬ x.kind = 3 then false else y.owner.isSome) = y0.owner.isSome ∧ BdY (K + 1) y0 ∧ (∀ c, y0.owner = some c → ∃ z, look R2.os c = some z) ∧ ∀ p ∈ l', PrOk R2 bd y0 (K + 1) p.1 p.2 := fun l' hl' =>
    ⟨_, hdy, rfl, rfl, rfl, hbusy, b1, fun c hc => by
      by_cases hcb : c = bo
      · subst hcb; exact ⟨_, hox⟩
      · obtain ⟨w, hw⟩ := ho c (stp_owner bo y x hc); exact ⟨w, (hos c hcb).trans hw⟩, hl'⟩
  have htwo : ∃ y2, look R2.ds bd2 = some y2 := ⟨y2, by rw [g2.ds]; exact (v1.dso bd2 (fun e => hne e.symm)).trans hy2⟩
  refine ⟨R1, R2, (stp bo y x).2, z', (stp bo y x).1, _, s1, g1, hox, g2.rs, hdy, g3, g5, hd', fun hg => ⟨hne, htwo, hex l (fun q hq => ?_), nd1, nd2⟩, fun hg => ⟨hne, htwo, hex _ (fun q hq => ?_), ?_, ?_⟩⟩
  · obtain ⟨j, hj⟩ := List.getElem?_of_mem hq
    by_cases hjn : j = n
    · subst hjn
      rw [hn] at hj
      cases hj
      refine ⟨_, z', hox, g2.rs, g4 hg, hd', b2, ?_⟩
      rw [hk', hown, if_neg (fun h => h.1 hg)]
      exact hk
    · exact hoth j q hj hjn
  · obtain ⟨j, hj⟩ := List.getElem?_of_mem hq
    rw [List.getElem?_eraseIdx] at hj
    split at hj
    · exact hoth j q hj (by omega)
    · exact hoth (j + 1) q hj (by omega)
  · exact List.Pairwise.sublist ((List.eraseIdx_sublist l n).map _) nd1
  · exact List.Pairwise.sublist ((List.eraseIdx_sublist l n).map _) nd2
theorem look_add {α : Type} {l : List (Nat × α)} {b c : Nat} {x : α} (h : c ≠ b) : look ((b, x) :: l) c = look l c := by
  simp only [look]; rw [if_neg (fun e => h e.symm)]
theorem ne_of_look {α : Type} {l : List (Nat × α)} {b c : Nat} {x : α} (h : look l b = none) (hc : look l c = some x) : c ≠ b := by
  rintro rfl; rw [h] at hc; cases hc
theorem Jn.up {bd bd2 : Nat} {K : Int} {R : Rgn} {cs : List Int} {t b : Int} {busy : Bool} {l : List (Nat × Nat)} (h : Jn bd bd2 K R cs t b busy l) : Jn bd bd2 (K + 1) R cs t b busy l := by
  obtain ⟨hne, h2, ⟨y, e1, e2, e3, e4, e5, e6, e7, e8⟩, n1, n2⟩ := h
  refine ⟨hne, h2, ⟨y, e1, e2, e3, e4, e5, ⟨e6.top.up, e6.bottom.up⟩, e7, fun p hp => ?_⟩, n1, n2⟩
  obtain ⟨x, z, g1, g2, g3, g4, g5, g6⟩ := (e8 p hp).ex
  exact ⟨x, z, g1, g2, g3, g4, ⟨g5.t.up, g5.b.up⟩, g6⟩
theorem Jn.add_os {bd bd2 : Nat} {K : Int} {R : Rgn} {cs : List Int} {t b : Int} {busy : Bool} {l : List (Nat × Nat)} (h : Jn bd bd2 K R cs t b busy l) {bo : Nat} (hb : look R.os bo = none) (x0 : QOp) : Jn bd bd2 K (R.add_os bo x0) cs t b busy l := by
  obtain ⟨hne, h2, ⟨y, e1, e2, e3, e4, e5, e6, e7, e8⟩, n1, n2⟩ := h
  refine ⟨hne, h2, ⟨y, e1, e2, e3, e4, e5, e6, fun c hc => ?_, fun p hp => ?_⟩, n1, n2⟩
  · obtain ⟨z, hz⟩ := e7 c hc; exact ⟨z, (look_add (ne_of_look hb hz)).trans hz⟩
  · obtain ⟨x, z, g1, g2, g3, g4, g5, g6⟩ := (e8 p hp).ex
    exact ⟨x, z, (look_add (ne_of_look hb g1)).trans g1, g2, g3, g4, g5, g6⟩
theorem Jn.add_rs {bd bd2 : Nat} {K : Int} {R : Rgn} {cs : List Int} {t b : Int} {busy : Bool} {l : List (Nat × Nat)} (h : Jn bd bd2 K R cs t b busy l) {bm : Nat} (hb : look R.rs bm = none) (z0 : POp) : Jn bd bd2 K (R.add_rs bm z0) cs t b busy l := by
  obtain ⟨hne, h2, ⟨y, e1, e2, e3, e4, e5, e6, e7, e8⟩, n1, n2⟩ := h
  refine ⟨hne, h2, ⟨y, e1, e2, e3, e4, e5, e6, e7, fun p hp => ?_⟩, n1, n2⟩
  obtain ⟨x, z, g1, g2, g3, g4, g5, g6⟩ := (e8 p hp).ex
  exact ⟨x, z, g1, (look_add (ne_of_look hb g2)).trans g2, g3, g4, g5, g6⟩
/-- The owner begins an operation. -/
theorem Jn.own {bd bd2 : Nat} {K : Int} {R : Rgn} {cs : List Int} {t b : Int} {l : List (Nat × Nat)} {y : QDeque} (h : Jn bd bd2 K R cs t b false l) (hy : look R.ds bd = some y) (ho : y.owner = none) {bo : Nat} {x0 : QOp} (hb : look R.os bo = some x0) (hnot : ∀ p ∈ l, p.1 ≠ bo) :
    Jn bd bd2 K (R.set_ds bd ⟨y.cells, y.top, y.bottom, some bo⟩) cs t b true l := by
  obtain ⟨hne, ⟨y2, h2⟩, ⟨y', e1, e2, e3, e4, e5, e6, e7, e8⟩, n1, n2⟩ := h
  obtain rfl : y' = y := Option.some.inj (e1.symm.trans hy)
  refine ⟨hne, ⟨y2, (look_other bd bd2 _ hne R.ds).trans h2⟩, ⟨_, look_setL _ _ _ _ hy, e2, e3, e4, rfl, ⟨e6.top, e6.bottom⟩, fun c hc => by cases hc; exact ⟨_, hb⟩, fun p hp => ?_⟩, n1, n2⟩
  obtain ⟨x, z, g1, g2, g3, g4, g5, g6⟩ := (e8 p hp).ex
  refine ⟨x, z, g1, g2, g3, g4, g5, ?_⟩
  rw [ho] at g6
  constructor
  · intro hk; exact absurd (g6.1 hk) (by simp)
  · intro hk; exact absurd (Option.some.inj hk).symm (hnot p hp)
theorem Jn.snoc {bd bd2 : Nat} {K : Int} {R : Rgn} {cs : List Int} {t b : Int} {busy : Bool} {l : List (Nat × Nat)} (h : Jn bd bd2 K R cs t b busy l) {bo bm : Nat} (h1 : ∀ p ∈ l, p.1 ≠ bo) (h2 : ∀ p ∈ l, p.2 ≠ bm)
    (hp : ∀ y, look R.ds bd = some y → PrOk R bd y K bo bm) : Jn bd bd2 K R cs t b busy (l ++ [(bo, bm)]) := by
  obtain ⟨hne, hy2, ⟨y, e1, e2, e3, e4, e5, e6, e7, e8⟩, n1, n2⟩ := h
  have nd : ∀ (L : List Nat) (a : Nat), L.Nodup → (∀ c ∈ L, c ≠ a) → (L ++ [a]).Nodup := fun L a hL ha => by
    rw [List.nodup_append]
    exact ⟨hL, by simp, fun x hx y hy => by rw [List.mem_singleton.1 hy]; exact ha x hx⟩
  refine ⟨hne, hy2, ⟨y, e1, e2, e3, e4, e5, e6, e7, fun p hp' => ?_⟩, ?_, ?_⟩
  · rcases List.mem_append.1 hp' with hm | hm
    · exact e8 p hm
    · rw [List.mem_singleton.1 hm]; exact hp y e1
  · rw [List.map_append]; exact nd _ _ n1 (fun c hc => by obtain ⟨p, hp, rfl⟩ := List.mem_map.1 hc; exact h1 p hp)
  · rw [List.map_append]; exact nd _ _ n2 (fun c hc => by obtain ⟨p, hp, rfl⟩ := List.mem_map.1 hc; exact h2 p hp)
theorem Jn.nom1 {bd bd2 : Nat} {K : Int} {R : Rgn} {cs : List Int} {t b : Int} {busy : Bool} {l : List (Nat × Nat)} (h : Jn bd bd2 K R cs t b busy l) {bo : Nat} (hb : look R.os bo = none) : ∀ p ∈ l, p.1 ≠ bo := fun p hp => by
  obtain ⟨y, _, _, _, _, _, _, _, e8⟩ := h.ex
  obtain ⟨x, z, g1, _⟩ := (e8 p hp).ex
  exact ne_of_look hb g1
theorem Jn.nom2 {bd bd2 : Nat} {K : Int} {R : Rgn} {cs : List Int} {t b : Int} {busy : Bool} {l : List (Nat × Nat)} (h : Jn bd bd2 K R cs t b busy l) {bm : Nat} (hb : look R.rs bm = none) : ∀ p ∈ l, p.2 ≠ bm := fun p hp => by
  obtain ⟨y, _, _, _, _, _, _, _, e8⟩ := h.ex
  obtain ⟨x, z, _, g2, _⟩ := (e8 p hp).ex
  exact ne_of_look hb g2
def Beg (bd bd2 : Nat) (K : Int) (cs : List Int) (t b : Int) (l : List (Nat × Nat)) (Q : PPair × Bool × Bool × Bool × Rgn → Prop) : Prop :=
  ∀ P is busy' R', ((is = false ∧ Jn bd bd2 K R' cs t b busy' l) ∨ (is = true ∧ ∃ bo bm, P = ⟨some bo, some bm⟩ ∧ Jn bd bd2 K R' cs t b busy' (l ++ [(bo, bm)]))) → Q (P, is, true, busy', R')
/-- A Push or a Pop of the owner begins. -/
theorem begun_own {bd bd2 : Nat} {K : Int} (hK : 0 ≤ K) {R : Rgn} {cs : List Int} {t b : Int} {busy : Bool} {l : List (Nat × Nat)} (h : Jn bd bd2 K R cs t b busy l) {bo : Nat} (hb : look R.os bo = none) (k v v' : Int) (hk : k = 0 ∨ k = 1) (hv : k = 0 → v' = v)
    {Q : PPair × Bool × Bool × Bool × Rgn → Prop} (hQ : Beg bd bd2 K cs t b l Q) :
    bO (deque_Deque_begin (some bd) (some bo) (R.add_os bo ⟨some bd, k + 1, 0, 0, 0, v', 0⟩)) (fun x6 => fettlelaw11_begun.jn28 (⟨cs, t, b, busy⟩ : PDeque) k v x6.2.2 x6.1 x6.2.1) Q := by
  obtain ⟨y, hy, e2, e3, e4, e5, e6, e7, e8⟩ := h.ex
  have hd : look (R.add_os bo ⟨some bd, k + 1, 0, 0, 0, v', 0⟩).ds bd = some y := hy
  have ha := h.add_os hb ⟨some bd, k + 1, 0, 0, 0, v', 0⟩
  cases ho : y.owner with
  | some c =>
    refine ⟨(none, GErr.code 7, R.add_os bo ⟨some bd, k + 1, 0, 0, 0, v', 0⟩), ?_, ?_⟩
    · unfold deque_Deque_begin
      simp only [Option.bind_some, hd, ho]
      rw [if_pos (by simp)]
    · unfold fettlelaw11_begun.jn28
      rw [ho] at e5
      have hbu : busy = true := e5
      subst hbu
      dsimp only [rD]
      rw [if_pos rfl]
      simpa using hQ _ _ _ _ (.inl ⟨rfl, ha⟩)
  | none =>
    refine ⟨_, begin_eq hd ho, ?_⟩
    unfold fettlelaw11_begun.jn28
    rw [ho] at e5
    have hbu : busy = false := e5
    subst hbu
    dsimp only [rD]
    rw [if_neg (by simp)]
    intro bm hbm
    have hnew : look (R.add_os bo ⟨some bd, k + 1, 0, 0, 0, v', 0⟩).os bo = some ⟨some bd, k + 1, 0, 0, 0, v', 0⟩ := look_here _ _ _
    have h2 := ha.own hd ho hnew (h.nom1 hb)
    have hbr := fresh_rs hbm
    have hw : w64 (k + 1) = k + 1 := w64_id ⟨by omega, by omega⟩
    have h3 := h2.add_rs hbr ⟨w64 (k + 1), 0, 0, 0, v, 0, false⟩
    have h4 := h3.snoc (bo := bo) (bm := bm) (h.nom1 hb) (h2.nom2 hbr) (fun y0 hy0 => by
      have hy1 : look (((R.add_os bo ⟨some bd, k + 1, 0, 0, 0, v', 0⟩).set_ds bd ⟨y.cells, y.top, y.bottom, some bo⟩).add_rs bm ⟨w64 (k + 1), 0, 0, 0, v, 0, false⟩).ds bd = some ⟨y.cells, y.top, y.bottom, some bo⟩ := look_setL _ _ _ _ hd
      rw [hy1] at hy0
      cases hy0
      refine ⟨_, _, hnew, look_here _ _ _, ?_, rfl, ⟨⟨by show -K ≤ 0; omega, hK⟩, ⟨by show -K ≤ 0; omega, hK⟩⟩, ?_⟩
      · refine ⟨hw, rfl, rfl, rfl, ?_⟩
        rcases hk with rfl | rfl
        · exact .inl ⟨by show ¬ (0 : Int) + 1 = 2; omega, rfl, rfl, (hv rfl).symm, .inl rfl⟩
        · exact .inr ⟨rfl, .inl ⟨rfl, rfl⟩⟩
      · exact ⟨fun _ => rfl, fun _ => by show ¬ k + 1 = 3; omega⟩)
    simpa using hQ _ _ _ _ (.inr ⟨rfl, bo, bm, rfl, h4⟩)
theorem begun_spec {bd bd2 : Nat} {K : Int} (hK : 0 ≤ K) {R : Rgn} {cs : List Int} {t b : Int} {busy : Bool} {l : List (Nat × Nat)} (h : Jn bd bd2 K R cs t b busy l) (k v : Int) (h0 : 0 ≤ k) (h3 : k < 3)
    {Q : PPair × Bool × Bool × Bool × Rgn → Prop} (hQ : Beg bd bd2 K cs t b l Q) : fettlelaw11_begun (some bd) (⟨cs, t, b, busy⟩ : PDeque) k v R Q := by
  unfold fettlelaw11_begun
  by_cases k2 : k = 2
  · rw [if_pos k2]
    intro bo hbo bm hbm
    have hb := fresh_os hbo
    have ha := h.add_os hb ⟨some bd, 3, 0, 0, 0, 0, 0⟩
    have hbr := fresh_rs hbm
    have h3' := ha.add_rs hbr ⟨3, 0, 0, 0, 0, 0, false⟩
    have hnew : look ((R.add_os bo ⟨some bd, 3, 0, 0, 0, 0, 0⟩).add_rs bm ⟨3, 0, 0, 0, 0, 0, false⟩).os bo = some ⟨some bd, 3, 0, 0, 0, 0, 0⟩ := look_here _ _ _
    have h4 := h3'.snoc (bo := bo) (bm := bm) (h.nom1 hb) (ha.nom2 hbr) (fun y0 hy0 => by
      refine ⟨_, _, hnew, look_here _ _ _, ⟨rfl, rfl, rfl, rfl, .inl ⟨by show ¬ (3 : Int) = 2; omega, rfl, rfl, rfl, .inl rfl⟩⟩, rfl, ⟨⟨by show -K ≤ 0; omega, hK⟩, ⟨by show -K ≤ 0; omega, hK⟩⟩, ⟨fun hh => absurd rfl hh, fun hh => ?_⟩⟩
      obtain ⟨y', e1, _, _, _, _, _, e7, _⟩ := h.ex
      have : y0 = y' := Option.some.inj (hy0.symm.trans e1)
      subst this
      obtain ⟨z, hz⟩ := e7 bo hh
      rw [hb] at hz; cases hz)
    simpa using hQ _ _ _ _ (.inr ⟨rfl, bo, bm, rfl, h4⟩)
  rw [if_neg k2]
  by_cases k0 : k = 0
  · rw [if_pos k0]
    subst k0
    intro bo hbo
    obtain ⟨x6, g1, g2⟩ := begun_own hK h (fresh_os hbo) 0 v v (.inl rfl) (fun _ => rfl) hQ
    exact ⟨x6, g1, g2⟩
  · rw [if_neg k0]
    obtain rfl : k = 1 := by omega
    intro bo hbo
    obtain ⟨x6, g1, g2⟩ := begun_own hK h (fresh_os hbo) 1 v 0 (.inr rfl) (fun h => by omega) hQ
    exact ⟨x6, g1, g2⟩
end Go.Proofs.Ytoflleabpkgdpaa
