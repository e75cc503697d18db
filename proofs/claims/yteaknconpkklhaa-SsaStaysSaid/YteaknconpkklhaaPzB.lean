/- Several parts in one text, the first of which: Plain laws, part y-A: what a pass over nearest ones leads to: trees of places that shrink. No conditions. -/
import Derived.Test.YteaknconpkklhaaPzA
set_option linter.unusedVariables false
set_option linter.unusedSimpArgs false
namespace Go.Proofs.Yteaknconpkklhaa
open Go Go.Proofs

inductive Anc (M : Nat → Nat) (z : Nat) : Nat → Prop
  | refl : Anc M z z
  | step {b : Nat} : b ≠ 0 → Anc M z (M b) → Anc M z b
def Dn (n : Nat) (M : Nat → Nat) : Prop := ∀ b, b ≠ 0 → b < n → M b < b
variable {n : Nat} {M M' : Nat → Nat}
theorem Anc.cases' {z b : Nat} (h : Anc M z b) : z = b ∨ (b ≠ 0 ∧ Anc M z (M b)) := by
  cases h with
  | refl => exact .inl rfl
  | step h1 h2 => exact .inr ⟨h1, h2⟩
theorem Anc.le (hM : Dn n M) {z b : Nat} (h : Anc M z b) (hb : b < n) : z ≤ b := by
  induction h with
  | refl => exact Nat.le_refl _
  | step h1 h2 ih => have := hM _ h1 hb; have := ih (by omega); omega
theorem Anc.trans {z y b : Nat} (h : Anc M z y) (h' : Anc M y b) : Anc M z b := by
  induction h' with
  | refl => exact h
  | step h1 h2 ih => exact .step h1 ih
theorem Anc.chain (hM : Dn n M) {z y b : Nat} (h : Anc M y b) (h' : Anc M z b) (hb : b < n) (hzy : z ≤ y) : Anc M z y := by
  induction h with
  | refl => exact h'
  | step h1 h2 ih =>
    have hlt := hM _ h1 hb
    have hy := h2.le hM (by omega)
    rcases h'.cases' with rfl | ⟨_, h3⟩
    · omega
    · exact ih h3 (by omega)
theorem Anc.root (hM : Dn n M) : ∀ b, b < n → Anc M 0 b := by
  intro b
  induction b using Nat.strongRecOn with
  | _ b ih =>
    intro hb
    by_cases h0 : b = 0
    · subst h0; exact .refl
    · have := hM b h0 hb
      exact .step h0 (ih (M b) this (by omega))
theorem Anc.agree (hM : Dn n M) {z b : Nat} (h : Anc M z b) (hb : b < n) (he : ∀ j, j ≤ b → M j = M' j) : Anc M' z b := by
  induction h with
  | refl => exact .refl
  | step h1 h2 ih =>
    have := hM _ h1 hb
    refine .step h1 ?_
    rw [← he _ (Nat.le_refl _)]
    exact ih (by omega) (fun j hj => he j (by omega))

def mixA (i : Nat) (A B : Nat → Nat) : Nat → Nat := fun j => if j < i then A j else B j
theorem mixA_lt {i j : Nat} {A B : Nat → Nat} (h : j < i) : mixA i A B j = A j := if_pos h
theorem mixA_ge {i j : Nat} {A B : Nat → Nat} (h : i ≤ j) : mixA i A B j = B j := if_neg (by omega)
theorem Dn.mixA {i : Nat} {A B : Nat → Nat} (hA : ∀ b, b ≠ 0 → b < i → A b < b) (hB : Dn n B) : Dn n (mixA i A B) := by
  intro b h0 hb
  unfold Go.Proofs.Yteaknconpkklhaa.mixA
  split
  · exact hA b h0 ‹_›
  · exact hB b h0 hb
theorem mixA_anc {i : Nat} {A B : Nat → Nat} (hA : Dn n A) {z b : Nat} (hb : b < i) (hn : b < n) (hX : Dn n (mixA i A B)) : Anc (mixA i A B) z b ↔ Anc A z b :=
  ⟨fun h => h.agree hX hn (fun j hj => mixA_lt (by omega)), fun h => h.agree hA hn (fun j hj => (mixA_lt (by omega)).symm)⟩
/-- Where the way up from p comes below i. -/
theorem split_at (i : Nat) {B : Nat → Nat} (hB : Dn n B) : ∀ p, i ≤ p → p < n → 0 < i → ∃ g, g < i ∧ Anc B g p ∧ (∀ y, Anc B y p → y < i → y ≤ g) ∧ ∀ A : Nat → Nat, Dn n A → ∀ z, z < i → (Anc (mixA i A B) z p ↔ Anc A z g) := by
  intro p
  induction p using Nat.strongRecOn with
  | _ p ih =>
    intro hi hp h0
    have hp0 : p ≠ 0 := by omega
    have hlt := hB p hp0 hp
    by_cases hc : B p < i
    · refine ⟨B p, hc, .step hp0 .refl, fun y hy hyi => ?_, fun A hA z hz => ?_⟩
      · rcases hy.cases' with rfl | ⟨_, h⟩
        · omega
        · exact h.le hB (by omega)
      · have hX : Dn n (mixA i A B) := Dn.mixA (fun b h0 hb => hA b h0 (by omega)) hB
        constructor
        · intro h
          rcases h.cases' with rfl | ⟨_, h⟩
          · omega
          · rw [mixA_ge hi] at h
            exact (mixA_anc hA hc (by omega) hX).1 h
        · intro h
          refine .step hp0 ?_
          rw [mixA_ge hi]
          exact (mixA_anc hA hc (by omega) hX).2 h
    · obtain ⟨g, g1, g2, g3, g4⟩ := ih (B p) hlt (by omega) (by omega) h0
      refine ⟨g, g1, .step hp0 g2, fun y hy hyi => ?_, fun A hA z hz => ?_⟩
      · rcases hy.cases' with rfl | ⟨_, h⟩
        · omega
        · exact g3 y h hyi
      · constructor
        · intro h
          rcases h.cases' with rfl | ⟨_, h⟩
          · omega
          · rw [mixA_ge hi] at h
            exact (g4 A hA z hz).1 h
        · intro h
          refine .step hp0 ?_
          rw [mixA_ge hi]
          exact (g4 A hA z hz).2 h

/-! ### Passes -/
variable {P : Nat → Nat → Prop}
/-- P p i: place p leads to place i. -/
structure Lead (n : Nat) (P : Nat → Nat → Prop) : Prop where
  lt : ∀ p i, P p i → i < n → p < n
  fwd : ∀ i, 0 < i → i < n → ∃ q, P q i ∧ q < i
def First (n : Nat) (P : Nat → Nat → Prop) (N : Nat → Nat) : Prop := ∀ i, 0 < i → i < n → ∀ z, Anc N z (N i) ↔ ∀ p, P p i → p < i → Anc N z p
def Pass (n : Nat) (P : Nat → Nat → Prop) (O N : Nat → Nat) : Prop := ∀ i, 0 < i → i < n → ∀ z, Anc N z (N i) ↔ ∀ p, P p i → Anc (mixA i N O) z p
def Fwd (n : Nat) (P : Nat → Nat → Prop) (N : Nat → Nat) : Prop := ∀ i q z, 0 < i → i < n → P q i → q < i → Anc N z i → z = i ∨ Anc N z q
theorem First.fwd {N : Nat → Nat} (h : First n P N) : Fwd n P N := fun i q z h0 hi hq hlt ha => by
  rcases ha.cases' with rfl | ⟨_, h1⟩
  · exact .inl rfl
  · exact .inr ((h i h0 hi z).1 h1 q hq hlt)
theorem Pass.fwd {O N : Nat → Nat} (h : Pass n P O N) (hO : Dn n O) (hN : Dn n N) : Fwd n P N := fun i q z h0 hi hq hlt ha => by
  rcases ha.cases' with rfl | ⟨_, h1⟩
  · exact .inl rfl
  · exact .inr ((mixA_anc hN hlt (by omega) (Dn.mixA (fun b hb hbi => hN b hb (by omega)) hO)).1 ((h i h0 hi z).1 h1 q hq))
/-- A way on, place by place. -/
inductive Way (P : Nat → Nat → Prop) (g : Nat) : Nat → Prop
  | refl : Way P g g
  | step {q p : Nat} : Way P g q → P q p → q < p → Way P g p
theorem Way.le {g p : Nat} (h : Way P g p) : g ≤ p := by
  induction h with
  | refl => exact Nat.le_refl _
  | step _ _ h3 ih => omega
theorem Way.down {N : Nat → Nat} (hN : Dn n N) (hF : Fwd n P N) {g p z : Nat} (h : Way P g p) (hp : p < n) (hz : Anc N z p) (hzg : z ≤ g) : Anc N z g ∧ g ≤ p := by
  induction h with
  | refl => exact ⟨hz, Nat.le_refl _⟩
  | @step q p h1 h2 h3 ih =>
    have hgq : g ≤ q := h1.le
    rcases hF p q z (by omega) hp h2 h3 hz with rfl | h4
    · omega
    · exact ⟨(ih (by omega) h4).1, by omega⟩
theorem Anc.way {N : Nat → Nat} (hL : Lead n P) (hN : Dn n N) (hF : Fwd n P N) {g : Nat} : ∀ p, p < n → Anc N g p → Way P g p := by
  intro p
  induction p using Nat.strongRecOn with
  | _ p ih =>
    intro hp h
    by_cases he : g = p
    · subst he; exact .refl
    · have h0 : 0 < p := by
        rcases Nat.eq_zero_or_pos p with h0 | h0
        · subst h0; have := h.le hN hp; omega
        · exact h0
      obtain ⟨q, hq, hlt⟩ := hL.fwd p h0 hp
      rcases hF p q g h0 hp hq hlt h with h1 | h1
      · exact absurd h1 he
      · exact .step (ih q hlt (by omega) h1) hq hlt
/-- What stands at a round's head behind the first pass. -/
structure Hist (n : Nat) (P : Nat → Nat → Prop) (O : Nat → Nat) : Prop where
  dn : Dn n O
  fwd : Fwd n P O
  prev : First n P O ∨ ∃ O', Dn n O' ∧ Fwd n P O' ∧ Pass n P O' O ∧ ∀ z i, i < n → Anc O z i → Anc O' z i
theorem Hist.mono {O N : Nat → Nat} (hL : Lead n P) (h : Hist n P O) (hN : Dn n N) (hp : Pass n P O N) : ∀ i, i < n → ∀ z, Anc N z i → Anc O z i := by
  intro i
  induction i using Nat.strongRecOn with
  | _ i ih =>
    intro hi z hz
    rcases hz.cases' with rfl | ⟨h0, hz1⟩
    · exact .refl
    have h0' : 0 < i := by omega
    have hlt := hN i h0 hi
    have hzi : z < i := by have := hz1.le hN (by omega); omega
    have hall := (hp i h0' hi z).1 hz1
    have hmN : Dn n (mixA i N O) := Dn.mixA (fun b hb hbi => hN b hb (by omega)) h.dn
    refine .step h0 ?_
    rcases h.prev with hf | ⟨O', d', f', p', m'⟩
    · refine (hf i h0' hi z).2 fun p hpi hplt => ?_
      exact ih p hplt (by omega) z ((mixA_anc hN hplt (by omega) hmN).1 (hall p hpi))
    · refine (p' i h0' hi z).2 fun p hpi => ?_
      have hpn := hL.lt p i hpi hi
      have hmO : Dn n (mixA i O O') := Dn.mixA (fun b hb hbi => h.dn b hb (by omega)) d'
      rcases Nat.lt_or_ge p i with hplt | hpge
      · exact (mixA_anc h.dn hplt hpn hmO).2 (ih p hplt hpn z ((mixA_anc hN hplt hpn hmN).1 (hall p hpi)))
      · obtain ⟨g, g1, g2, g3, g4⟩ := split_at i h.dn p hpge hpn h0'
        obtain ⟨g', k1, k2, k3, k4⟩ := split_at i d' p hpge hpn h0'
        have hzg : Anc N z g := (g4 N hN z hzi).1 (hall p hpi)
        have hOg : Anc O z g := ih g g1 (by omega) z hzg
        have hOp : Anc O z p := hOg.trans g2
        have hgg : g ≤ g' := k3 g (m' g p hpn g2) g1
        have hzle : z ≤ g := hzg.le hN (by omega)
        exact (k4 O h.dn z hzi).2 (Way.down h.dn h.fwd (Anc.way hL d' f' p hpn k2) hpn hOp (by omega)).1
theorem Hist.next {O N : Nat → Nat} (hL : Lead n P) (h : Hist n P O) (hN : Dn n N) (hp : Pass n P O N) : Hist n P N ∧ ∀ i, i < n → 0 < i → N i ≤ O i := by
  have hm := h.mono hL hN hp
  refine ⟨⟨hN, hp.fwd h.dn hN, .inr ⟨O, h.dn, h.fwd, hp, fun z i hi hz => hm i hi z hz⟩⟩, fun i hi h0 => ?_⟩
  have h1 : Anc O (N i) i := hm i hi (N i) (.step (by omega) .refl)
  have hlt := hN i (by omega) hi
  rcases h1.cases' with h2 | ⟨_, h2⟩
  · omega
  · exact h2.le h.dn (by have := h.dn i (by omega) hi; omega)
end Go.Proofs.Yteaknconpkklhaa
set_option linter.unusedVariables false
set_option linter.unusedSimpArgs false
namespace Go.Proofs.Yteaknconpkklhaa
open Go Go.Proofs

/-- A function all whose blocks are reached, in their order. -/
structure Full (f : PFunc) (R : List Int) : Prop where
  sm : SmF f
  pos : 0 < f.blocks.length
  ord : graph_Order f = some R
  rea : graph_Reached f = some (List.replicate f.blocks.length true)
  len : R.length = f.blocks.length
  all : ∀ i (hi : i < R.length), ∃ v : Nat, R[i] = v ∧ v < f.blocks.length
  mem : ∀ v : Nat, v < f.blocks.length → (v : Int) ∈ R
  nodup : R.Nodup
  head : R[0]? = some 0
  led : ∀ i (hi : i < R.length), 0 < i → ∃ k, ∃ hk : k < i, ∃ u : Nat, R[k]'(by omega) = (u : Int) ∧ ∃ hu : u < f.blocks.length, R[i] ∈ f.blocks[u].term.to
theorem full_of (f : PFunc) (hf : SmF f) (hpos : 0 < f.blocks.length) {s : List Bool} {o : List Int} (hw : Walked f s o) (hs : s = List.replicate f.blocks.length true) : Full f o.reverse := by
  have hO := ord_any f hf hw
  obtain ⟨s1, o1, hw1, h10, h11⟩ := walked_any f hf
  obtain rfl : s1 = s := Option.some.inj (hw1.rea.symm.trans hw.rea)
  have ho : o.reverse = o1.reverse := Option.some.inj (hw.ord.symm.trans hw1.ord)
  obtain rfl : o = o1 := by rw [← List.reverse_reverse o, ho, List.reverse_reverse]
  obtain ⟨hV, hs0, hit⟩ := h11 hpos
  obtain ⟨new, hn1, hn2, hn3⟩ := hV.app
  simp only [List.nil_append] at hn1
  subst hn1
  have hlen : o.reverse.length = f.blocks.length := by rw [hO.cnt, hs, List.count_replicate_self]
  refine ⟨hf, hpos, hw.ord, hs ▸ hw.rea, hlen, fun i hi => ?_, fun v hv => ?_, hO.nodup, ?_, hO.led⟩
  · obtain ⟨v, h1, h2, _⟩ := hO.all _ (List.getElem_mem hi)
    exact ⟨v, h1, h2⟩
  · rw [List.mem_reverse, hn3]
    exact ⟨v, rfl, by rw [hs]; simp [hv], by simp [hv]⟩
  · rcases hO.head with h | ⟨p, h⟩
    · rw [h] at hlen; simp at hlen; omega
    · rw [h]; rfl
def ob (R : List Int) (i : Nat) : Nat := (R.getD i 0).toNat
def pb (R : List Int) (b : Nat) : Nat := R.idxOf (b : Int)
section
variable {f : PFunc} {R : List Int}
theorem Full.get (h : Full f R) {i : Nat} (hi : i < f.blocks.length) : R[i]? = some ((ob R i : Nat) : Int) ∧ ob R i < f.blocks.length := by
  have hi' : i < R.length := by rw [h.len]; exact hi
  obtain ⟨v, h1, h2⟩ := h.all i hi'
  have : ob R i = v := by unfold ob; rw [List.getD_eq_getElem?_getD, List.getElem?_eq_getElem hi', h1]; rfl
  rw [this, List.getElem?_eq_getElem hi', h1]
  exact ⟨rfl, h2⟩
theorem Full.pb_ob (h : Full f R) {i : Nat} (hi : i < f.blocks.length) : pb R (ob R i) = i := by
  have hi' : i < R.length := by rw [h.len]; exact hi
  obtain ⟨h1, _⟩ := h.get hi
  rw [List.getElem?_eq_getElem hi'] at h1
  unfold pb
  rw [← Option.some.inj h1]
  exact h.nodup.idxOf_getElem i hi'
theorem Full.ob_pb (h : Full f R) {b : Nat} (hb : b < f.blocks.length) : ob R (pb R b) = b ∧ pb R b < f.blocks.length := by
  have hm := h.mem b hb
  have hlt : pb R b < R.length := List.idxOf_lt_length_of_mem hm
  refine ⟨?_, by rw [← h.len]; exact hlt⟩
  unfold ob
  rw [List.getD_eq_getElem?_getD, List.getElem?_eq_getElem hlt]
  show (R[R.idxOf (b : Int)]'hlt).toNat = b
  rw [List.getElem_idxOf hlt]; rfl
theorem Full.ob0 (h : Full f R) : ob R 0 = 0 := by
  obtain ⟨h1, _⟩ := h.get h.pos
  rw [h.head] at h1
  have := Option.some.inj h1
  omega
theorem Full.pb0 (h : Full f R) : pb R 0 = 0 := by
  have := h.pb_ob h.pos
  rwa [h.ob0] at this
theorem Full.ob_inj (h : Full f R) {i j : Nat} (hi : i < f.blocks.length) (hj : j < f.blocks.length) (he : ob R i = ob R j) : i = j := by
  rw [← h.pb_ob hi, ← h.pb_ob hj, he]

/-! ### Nearest ones as a list of blocks -/
structure Ts (f : PFunc) (R : List Int) (D : Nat → Prop) (M : Nat → Nat) (S : List Int) : Prop where
  len : S.length = f.blocks.length
  on : ∀ j, j < f.blocks.length → D j → S[ob R j]? = some ((ob R (M j) : Nat) : Int)
  off : ∀ j, j < f.blocks.length → ¬ D j → S[ob R j]? = some (-1)
  dn : Dn f.blocks.length M
  cl : ∀ j, j < f.blocks.length → D j → D (M j)
def plL (f : PFunc) (R : List Int) : List Int := (List.range f.blocks.length).map fun b => ((pb R b : Nat) : Int)
theorem plL_get {b : Nat} (hb : b < f.blocks.length) : idx (plL f R) (b : Int) = some ((pb R b : Nat) : Int) := by
  rw [idx_nat]; simp [plL, hb]
theorem Full.plL_ob (h : Full f R) {i : Nat} (hi : i < f.blocks.length) : idx (plL f R) ((ob R i : Nat) : Int) = some (i : Int) := by
  rw [plL_get (h.get hi).2, h.pb_ob hi]
variable {D : Nat → Prop} {M : Nat → Nat} {S : List Int}
theorem Ts.get (hS : Ts f R D M S) {j : Nat} (hj : j < f.blocks.length) (hD : D j) : idx S ((ob R j : Nat) : Int) = some ((ob R (M j) : Nat) : Int) := by rw [idx_nat]; exact hS.on j hj hD
theorem small_max {m : Nat} (h : m ≤ 1000000) : m < FUEL := lt_FUEL (by simp only [maxLen]; omega)
/-- Up from a until it isn't behind b. -/
theorem up_to (h : Full f R) (hS : Ts f R D M S) (β : Nat) (hβ : β < f.blocks.length) (body : Int → Option (Ex Int Int))
    (hb : ∀ α, α < f.blocks.length → D α → body ((ob R α : Nat) : Int) = some (if (α : Int) > (β : Int) then .go ((ob R (M α) : Nat) : Int) else .ret ((ob R α : Nat) : Int))) (α : Nat) (hα : α < f.blocks.length) (hD : D α) :
    ∃ α', whl body FUEL ((ob R α : Nat) : Int) = some ((ob R α' : Nat) : Int) ∧ α' < f.blocks.length ∧ D α' ∧ α' ≤ α ∧ α' ≤ β ∧ ∀ z, z ≤ β → (Anc M z α' ↔ Anc M z α) := by
  have hn := h.sm.1
  obtain ⟨r, hr, a', h1, h2⟩ := whl_ex (body := body) (fun s => ∃ a, s = ((ob R a : Nat) : Int) ∧ a < f.blocks.length ∧ D a ∧ a ≤ α ∧ ∀ z, z ≤ β → (Anc M z a ↔ Anc M z α)) (fun s => pb R s.toNat)
    (fun r => ∃ a, r = ((ob R a : Nat) : Int) ∧ a < f.blocks.length ∧ D a ∧ a ≤ α ∧ a ≤ β ∧ ∀ z, z ≤ β → (Anc M z a ↔ Anc M z α)) (by
      rintro s ⟨a, rfl, g1, g2, g3, g4⟩
      rw [hb a g1 g2]
      by_cases hc : (a : Int) > (β : Int)
      · rw [if_pos hc]
        have ha0 : a ≠ 0 := by omega
        have hlt := hS.dn a ha0 g1
        refine .inr ⟨_, rfl, ⟨M a, rfl, by omega, hS.cl a g1 g2, by omega, fun z hz => ?_⟩, ?_⟩
        · rw [← g4 z hz]
          constructor
          · exact fun k => .step ha0 k
          · intro k
            rcases k.cases' with rfl | ⟨_, k⟩
            · omega
            · exact k
        · rw [Int.toNat_natCast, Int.toNat_natCast, h.pb_ob g1, h.pb_ob (by omega)]; exact hlt
      · rw [if_neg hc]
        exact .inl ⟨_, rfl, a, rfl, g1, g2, g3, by omega, g4⟩) FUEL _ ⟨α, rfl, hα, hD, Nat.le_refl _, fun z _ => Iff.rfl⟩ (by rw [Int.toNat_natCast, h.pb_ob hα]; exact small_max (by omega))
  exact ⟨a', by rw [hr, h1], h2⟩
theorem meet_ok (h : Full f R) (hS : Ts f R D M S) (α β : Nat) (hα : α < f.blocks.length) (hβ : β < f.blocks.length) (hDa : D α) (hDb : D β) :
    ∃ κ, dom_meet S (plL f R) ((ob R α : Nat) : Int) ((ob R β : Nat) : Int) = some ((ob R κ : Nat) : Int) ∧ κ < f.blocks.length ∧ D κ ∧ ∀ z, Anc M z κ ↔ (Anc M z α ∧ Anc M z β) := by
  have hn := h.sm.1
  unfold dom_meet
  obtain ⟨r, hr, κ, h1, h2, h3, h4⟩ := whl_ex (body := fun (s : Int × Int) => dom_meet.bd8 S (plL f R) s.1 s.2)
    (fun s => ∃ a b, s = (((ob R a : Nat) : Int), ((ob R b : Nat) : Int)) ∧ a < f.blocks.length ∧ b < f.blocks.length ∧ D a ∧ D b ∧ ∀ z, (Anc M z a ∧ Anc M z b) ↔ (Anc M z α ∧ Anc M z β))
    (fun s => pb R s.1.toNat + pb R s.2.toNat) (fun r => ∃ κ, r = ((ob R κ : Nat) : Int) ∧ κ < f.blocks.length ∧ D κ ∧ ∀ z, Anc M z κ ↔ (Anc M z α ∧ Anc M z β)) (by
      rintro s ⟨a, b, rfl, ha, hb, hDa, hDb, hz⟩
      simp only [dom_meet.bd8]
      by_cases hc : ((ob R a : Nat) : Int) = ((ob R b : Nat) : Int)
      · have hab : a = b := h.ob_inj ha hb (by omega)
        subst hab
        rw [if_neg (by simp)]
        exact .inl ⟨_, rfl, a, rfl, ha, hDa, fun z => by rw [← hz z, and_self]⟩
      · rw [if_pos hc]
        obtain ⟨a', g1, g2, g3, g4, g5, g6⟩ := up_to h hS b hb (fun s => dom_meet.bd24 S (plL f R) ((ob R b : Nat) : Int) s) (fun x hx hDx => by
          simp only [dom_meet.bd24, h.plL_ob hx, h.plL_ob hb, Option.bind_some, hS.get hx hDx]
          split <;> rfl) a ha hDa
        rw [g1]
        simp only [Option.bind_some, dom_meet.nx24]
        obtain ⟨b', k1, k2, k3, k4, k5, k6⟩ := up_to h hS a' g2 (fun s => dom_meet.bd31 S (plL f R) ((ob R a' : Nat) : Int) s) (fun x hx hDx => by
          simp only [dom_meet.bd31, h.plL_ob hx, h.plL_ob g2, Option.bind_some, hS.get hx hDx]
          split <;> rfl) b hb hDb
        rw [k1]
        simp only [Option.bind_some, dom_meet.nx31]
        refine .inr ⟨_, rfl, ⟨a', b', rfl, g2, k2, g3, k3, fun z => ?_⟩, ?_⟩
        · rw [← hz z]
          constructor
          · rintro ⟨m1, m2⟩
            have l1 := m1.le hS.dn g2
            have l2 := m2.le hS.dn k2
            exact ⟨(g6 z (by omega)).1 m1, (k6 z (by omega)).1 m2⟩
          · rintro ⟨m1, m2⟩
            have l1 := m1.le hS.dn ha
            have l2 := m2.le hS.dn hb
            have m3 := (g6 z (by omega)).2 m1
            have l3 := m3.le hS.dn g2
            exact ⟨m3, (k6 z l3).2 m2⟩
        · have hne : a ≠ b := fun e => hc (by rw [e])
          simp only [Int.toNat_natCast]
          rw [h.pb_ob ha, h.pb_ob hb, h.pb_ob g2, h.pb_ob k2]
          omega) FUEL _ ⟨α, β, rfl, hα, hβ, hDa, hDb, fun z => Iff.rfl⟩ (by simp only [Int.toNat_natCast]; rw [h.pb_ob hα, h.pb_ob hβ]; exact small_max (by omega))
  exact ⟨κ, by rw [hr, h1]; rfl, h2, h3, h4⟩
end
end Go.Proofs.Yteaknconpkklhaa
set_option linter.unusedVariables false
set_option linter.unusedSimpArgs false
namespace Go.Proofs.Yteaknconpkklhaa
open Go Go.Proofs
section
variable {f : PFunc} {R : List Int}
/-- Place p leads to place i. -/
def Pl (f : PFunc) (R : List Int) (p i : Nat) : Prop := p < f.blocks.length ∧ ((ob R i : Nat) : Int) ∈ (nexts f).getD (ob R p) []
theorem mem_preds (nx : List (List Int)) (t : Nat) (x : Int) : x ∈ preds nx t ↔ ∃ j : Nat, x = j ∧ j < nx.length ∧ (t : Int) ∈ nx.getD j [] := by
  unfold preds
  simp only [List.mem_map, List.mem_filter, List.mem_range, decide_eq_true_eq]
  constructor
  · rintro ⟨j, ⟨h1, h2⟩, rfl⟩; exact ⟨j, rfl, h1, h2⟩
  · rintro ⟨j, rfl, h1, h2⟩; exact ⟨j, ⟨h1, h2⟩, rfl⟩
theorem nexts_getD (f : PFunc) {v : Nat} (h : v < f.blocks.length) : (nexts f).getD v [] = succs f.blocks.length f.blocks[v].term.to := by
  rw [List.getD_eq_getElem?_getD, nexts_get f v h]; rfl
theorem Full.lead (h : Full f R) : Lead f.blocks.length (Pl f R) := by
  refine ⟨fun p i hp _ => hp.1, fun i h0 hi => ?_⟩
  obtain ⟨k, hk, u, h1, hu, h2⟩ := h.led i (by rw [h.len]; exact hi) h0
  have hk' : k < f.blocks.length := by omega
  have hob : ob R k = u := by
    have := (h.get hk').1
    rw [List.getElem?_eq_getElem (by rw [h.len]; exact hk'), h1] at this
    have := Option.some.inj this; omega
  have hobi : R[i]'(by rw [h.len]; exact hi) = ((ob R i : Nat) : Int) := by
    have := (h.get hi).1
    rw [List.getElem?_eq_getElem (by rw [h.len]; exact hi)] at this
    exact Option.some.inj this
  refine ⟨k, ⟨hk', ?_⟩, hk⟩
  rw [hob, nexts_getD f hu, mem_succs]
  rw [hobi] at h2
  have := (h.get hi).2
  exact ⟨h2, by omega, by omega⟩
/-- The blocks that lead to the block of place i, as places. -/
theorem Full.preds (h : Full f R) {i : Nat} (hi : i < f.blocks.length) : ∀ x ∈ preds (nexts f) (ob R i), ∃ p, x = ((ob R p : Nat) : Int) ∧ p < f.blocks.length ∧ Pl f R p i := fun x hx => by
  obtain ⟨j, rfl, h1, h2⟩ := (mem_preds _ _ _).1 hx
  rw [nexts_length] at h1
  obtain ⟨g1, g2⟩ := h.ob_pb h1
  exact ⟨pb R j, by rw [g1], g2, g2, by rw [g1]; exact h2⟩
theorem Full.preds' (h : Full f R) {i p : Nat} (hp : Pl f R p i) : ((ob R p : Nat) : Int) ∈ Go.Proofs.Yteaknconpkklhaa.preds (nexts f) (ob R i) :=
  (mem_preds _ _ _).2 ⟨ob R p, rfl, by rw [nexts_length]; exact (h.get hp.1).2, hp.2⟩

/-! ### One place -/
variable {D : Nat → Prop} {M : Nat → Nat} {S : List Int}
/-- What is best, behind some of those that lead to a place. -/
def Best (f : PFunc) (R : List Int) (D : Nat → Prop) (M : Nat → Nat) (l : List Int) (b : Int) : Prop :=
  (b = -1 ∧ ∀ p, p < f.blocks.length → ((ob R p : Nat) : Int) ∈ l → ¬ D p) ∨
  ∃ κ, b = ((ob R κ : Nat) : Int) ∧ κ < f.blocks.length ∧ D κ ∧ ∀ z, Anc M z κ ↔ ∀ p, p < f.blocks.length → ((ob R p : Nat) : Int) ∈ l → D p → Anc M z p
theorem best_ok (h : Full f R) [hdec : DecidablePred D] (hS : Ts f R D M S) (l : List Int) (hl : l.length ≤ 1000) (hin : ∀ x ∈ l, ∃ p, x = ((ob R p : Nat) : Int) ∧ p < f.blocks.length)
    (hany : ∃ q, q < f.blocks.length ∧ ((ob R q : Nat) : Int) ∈ l ∧ D q) :
    ∃ κ, whl (fun (s : Int × Int) => dom_Nearest.bd84 (plL f R) S l s.1 s.2) FUEL (-1, 0) = some ((ob R κ : Nat) : Int) ∧ κ < f.blocks.length ∧ D κ ∧ ∀ z, Anc M z κ ↔ ∀ p, p < f.blocks.length → ((ob R p : Nat) : Int) ∈ l → D p → Anc M z p := by
  obtain ⟨r, hr, hb⟩ := whl_for (body := fun (s : Int × Int) => dom_Nearest.bd84 (plL f R) S l s.1 s.2) l.length
    (fun k s => s.2 = (k : Int) ∧ Best f R D M (l.take k) s.1) (fun r => Best f R D M l r) (le_max hl (by omega)) (by
      rintro k ⟨b, kk⟩ hk ⟨rfl, hb⟩
      simp only at hb
      obtain ⟨p, hp, hpn⟩ := hin _ (List.getElem_mem hk)
      have hw := w64_i hk (show l.length ≤ 1000 by omega)
      have hmem : ∀ q, q < f.blocks.length → (((ob R q : Nat) : Int) ∈ l.take (k + 1) ↔ (((ob R q : Nat) : Int) ∈ l.take k ∨ q = p)) := fun q hq => by
        rw [List.take_succ_eq_append_getElem hk, List.mem_append, List.mem_singleton, hp]
        constructor
        · rintro (h1 | h1)
          · exact .inl h1
          · exact .inr (h.ob_inj hq hpn (by omega))
        · rintro (h1 | rfl)
          · exact .inl h1
          · exact .inr rfl
      simp only [dom_Nearest.bd84, len_lt, hk, if_true, idx_lt hk, Option.bind_some, hp]
      by_cases hD : D p
      · rw [hS.get hpn hD]
        simp only [Option.bind_some]
        rw [if_neg (by omega)]
        rcases hb with ⟨rfl, hno⟩ | ⟨κ, rfl, hκ, hDκ, hz⟩
        · rw [if_pos (by omega)]
          simp only [dom_Nearest.jn97, hw]
          refine .inr ⟨_, rfl, rfl, .inr ⟨p, rfl, hpn, hD, fun z => ⟨fun hz q hq hm hDq => ?_, fun hall => hall p hpn ((hmem p hpn).2 (.inr rfl)) hD⟩⟩⟩
          rcases (hmem q hq).1 hm with h1 | rfl
          · exact absurd hDq (hno q hq h1)
          · exact hz
        · rw [if_neg (by omega)]
          obtain ⟨κ', g1, g2, g3, g4⟩ := meet_ok h hS p κ hpn hκ hD hDκ
          rw [g1]
          simp only [Option.bind_some, dom_Nearest.jn97, hw]
          refine .inr ⟨_, rfl, rfl, .inr ⟨κ', rfl, g2, g3, fun z => ?_⟩⟩
          rw [g4 z, hz z]
          constructor
          · rintro ⟨h1, h2⟩ q hq hm hDq
            rcases (hmem q hq).1 hm with h3 | rfl
            · exact h2 q hq h3 hDq
            · exact h1
          · intro hall
            exact ⟨hall p hpn ((hmem p hpn).2 (.inr rfl)) hD, fun q hq hm hDq => hall q hq ((hmem q hq).2 (.inl hm)) hDq⟩
      · rw [idx_nat, hS.off p hpn hD]
        simp only [Option.bind_some]
        rw [if_pos (by omega)]
        simp only [dom_Nearest.jn97, hw]
        refine .inr ⟨_, rfl, rfl, ?_⟩
        rcases hb with ⟨rfl, hno⟩ | ⟨κ, rfl, hκ, hDκ, hz⟩
        · refine .inl ⟨rfl, fun q hq hm => ?_⟩
          rcases (hmem q hq).1 hm with h1 | rfl
          · exact hno q hq h1
          · exact hD
        · refine .inr ⟨κ, rfl, hκ, hDκ, fun z => ?_⟩
          rw [hz z]
          constructor
          · intro hall q hq hm hDq
            rcases (hmem q hq).1 hm with h1 | rfl
            · exact hall q hq h1 hDq
            · exact absurd hDq hD
          · exact fun hall q hq hm hDq => hall q hq ((hmem q hq).2 (.inl hm)) hDq) (by
      rintro ⟨b, kk⟩ ⟨rfl, hb⟩
      simp only [List.take_length] at hb
      refine ⟨b, ?_, hb⟩
      simp [dom_Nearest.bd84, len]) (s0 := (-1, 0)) ⟨rfl, .inl ⟨rfl, fun p _ hm => by simp at hm⟩⟩
  rcases hb with ⟨rfl, hno⟩ | ⟨κ, rfl, h1⟩
  · obtain ⟨q, hq, hm, hDq⟩ := hany
    exact absurd hDq (hno q hq hm)
  · exact ⟨κ, hr, h1⟩
end
end Go.Proofs.Yteaknconpkklhaa
set_option linter.unusedVariables false
set_option linter.unusedSimpArgs false
namespace Go.Proofs.Yteaknconpkklhaa
open Go Go.Proofs
section
variable {f : PFunc} {R : List Int}
def DD (later : Bool) (i j : Nat) : Prop := later = true ∨ j < i
instance {later : Bool} {i : Nat} : DecidablePred (DD later i) := fun j => inferInstanceAs (Decidable (later = true ∨ j < i))
/-- A row of nearest ones, as places: whole. -/
structure Nr (f : PFunc) (N : Nat → Nat) : Prop where
  dn : Dn f.blocks.length N
  zero : N 0 = 0
  out : ∀ j, f.blocks.length ≤ j → N j = 0
structure In (f : PFunc) (R : List Int) (later : Bool) (O : Nat → Nat) (i : Nat) (N : Nat → Nat) (S : List Int) (chg : Bool) : Prop where
  dn : Dn f.blocks.length N
  zero : N 0 = 0
  out : ∀ j, i ≤ j → N j = 0
  ts : Ts f R (DD later i) (mixA i N O) S
  ps : ∀ j, 0 < j → j < i → ∀ z, Anc N z (N j) ↔ ∀ p, Pl f R p j → DD later j p → Anc (mixA j N O) z p
  ch1 : later = true → (chg = true ↔ ∃ j, 0 < j ∧ j < i ∧ N j ≠ O j)
  ch0 : later = false → (chg = true ∨ i = 1)
  ch2 : i = 1 → chg = false
def nup (N : Nat → Nat) (i κ : Nat) : Nat → Nat := fun x => if x = i then κ else N x
theorem nup_same (N : Nat → Nat) (i κ : Nat) : nup N i κ i = κ := if_pos rfl
theorem nup_ne (N : Nat → Nat) {i j : Nat} (κ : Nat) (h : j ≠ i) : nup N i κ j = N j := if_neg h
theorem In.next {later : Bool} {O : Nat → Nat} (h : Full f R) (hO : Nr f O) {i : Nat} {N : Nat → Nat} {S : List Int} {chg : Bool} (hi0 : 0 < i) (hi : i < f.blocks.length) (hI : In f R later O i N S chg) :
    ∃ κ S' chg' N', whl (fun (s : Int × Int) => dom_Nearest.bd84 (plL f R) S (preds (nexts f) (ob R i)) s.1 s.2) FUEL (-1, 0) = some κ ∧
      (∃ v, idx S ((ob R i : Nat) : Int) = some v ∧ ((¬ v = κ ∧ S' = S.set (ob R i) κ ∧ chg' = true) ∨ (v = κ ∧ S' = S ∧ chg' = chg))) ∧ In f R later O (i + 1) N' S' chg' := by
  obtain ⟨q, hq, hlt⟩ := h.lead.fwd i hi0 hi
  have hmem : ∀ p, p < f.blocks.length → (((ob R p : Nat) : Int) ∈ preds (nexts f) (ob R i) ↔ Pl f R p i) := fun p hp =>
    ⟨fun hm => by obtain ⟨p', e1, e2, e3⟩ := h.preds hi _ hm; rwa [h.ob_inj hp e2 (by omega)], fun hm => h.preds' hm⟩
  obtain ⟨κ, h1, h2, h3, h4⟩ := best_ok h hI.ts (preds (nexts f) (ob R i)) (by have := preds_length (nexts f) (ob R i); rw [nexts_length] at this; have := h.sm.1; omega)
    (fun x hx => by obtain ⟨p, e1, e2, _⟩ := h.preds hi x hx; exact ⟨p, e1, e2⟩) ⟨q, hq.1, (hmem q hq.1).2 hq, .inr hlt⟩
  have hκ : κ < i := by
    have := ((h4 κ).1 .refl q hq.1 ((hmem q hq.1).2 hq) (.inr hlt)).le hI.ts.dn hq.1
    omega
  have hm : ∀ j, j ≤ i → mixA j (nup N i κ) O = mixA j N O := fun j hj => by
    funext x
    unfold mixA
    split
    · rw [nup_ne _ _ (by omega)]
    · rfl
  have hdnN : Dn f.blocks.length (nup N i κ) := fun b h0 hb => by
    by_cases e : b = i
    · subst e; rw [nup_same]; exact hκ
    · rw [nup_ne _ _ e]; exact hI.dn b h0 hb
  have hagr : ∀ b, b < i → b < f.blocks.length → ∀ z, Anc (nup N i κ) z b ↔ Anc N z b := fun b hb hbn z =>
    ⟨fun k => k.agree hdnN hbn (fun j hj => nup_ne _ _ (by omega)), fun k => k.agree hI.dn hbn (fun j hj => (nup_ne _ _ (by omega)).symm)⟩
  have hM' : ∀ j, j ≠ i → mixA (i + 1) (nup N i κ) O j = mixA i N O j := fun j hj => by
    unfold mixA
    by_cases hlt : j < i
    · rw [if_pos (by omega), if_pos hlt, nup_ne _ _ hj]
    · rw [if_neg (by omega), if_neg hlt]
  have hMi : mixA (i + 1) (nup N i κ) O i = κ := by rw [mixA_lt (by omega)]; exact nup_same _ _ _
  have hlen := hI.ts.len
  obtain ⟨hgi, hobi⟩ := h.get hi
  -- the new row
  have hts : Ts f R (DD later (i + 1)) (mixA (i + 1) (nup N i κ) O) (S.set (ob R i) ((ob R κ : Nat) : Int)) := by
    refine ⟨by rw [List.length_set]; exact hlen, fun j hj hD => ?_, fun j hj hD => ?_, Dn.mixA (fun b h0 hb => hdnN b h0 (by omega)) hO.dn, fun j hj hD => ?_⟩
    · by_cases e : j = i
      · subst e; rw [hMi, List.getElem?_set_self (by rw [hlen]; exact hobi)]
      · rw [hM' j e, List.getElem?_set_ne (fun e2 => e (h.ob_inj hj hi e2.symm))]
        exact hI.ts.on j hj (hD.imp id (fun hl => by omega))
    · have e : j ≠ i := fun e => hD (.inr (by omega))
      rw [List.getElem?_set_ne (fun e2 => e (h.ob_inj hj hi e2.symm))]
      exact hI.ts.off j hj (fun hD2 => hD (hD2.imp id (fun hl => by omega)))
    · rcases hD with hl | hl
      · exact .inl hl
      · refine .inr ?_
        by_cases e : j = i
        · subst e; rw [hMi]; omega
        · rw [hM' j e, mixA_lt (by omega)]
          by_cases e0 : j = 0
          · subst e0; rw [hI.zero]; omega
          · have := hI.dn j e0 hj; omega
  have hps : ∀ j, 0 < j → j < i + 1 → ∀ z, Anc (nup N i κ) z ((nup N i κ) j) ↔ ∀ p, Pl f R p j → DD later j p → Anc (mixA j (nup N i κ) O) z p := by
    intro j hj0 hj z
    rw [hm j (by omega)]
    by_cases e : j = i
    · subst e
      rw [nup_same]
      rw [hagr κ hκ h2 z, ← mixA_anc (i := j) (B := O) hI.dn hκ h2 hI.ts.dn, h4 z]
      exact ⟨fun hall p hp hD => hall p hp.1 ((hmem p hp.1).2 hp) hD, fun hall p hp hpm hD => hall p ((hmem p hp).1 hpm) hD⟩
    · rw [nup_ne _ _ e]
      have hNj := hI.dn j (by omega) (by omega)
      rw [hagr (N j) (by omega) (by omega) z]
      exact hI.ps j hj0 (by omega) z
  -- what stood there
  have hold : ∃ v, S[ob R i]? = some v ∧ (later = true → v = ((ob R (O i) : Nat) : Int)) ∧ (later = false → v = -1) := by
    by_cases hl : later = true
    · exact ⟨_, hI.ts.on i hi (.inl hl), fun _ => by rw [mixA_ge (Nat.le_refl _)], fun e => by rw [hl] at e; cases e⟩
    · exact ⟨_, hI.ts.off i hi (fun hD => hD.elim hl (fun e => by omega)), fun e => absurd e hl, fun _ => rfl⟩
  obtain ⟨v, hv, hv1, hv2⟩ := hold
  have hout : ∀ j, i + 1 ≤ j → (nup N i κ) j = 0 := fun j hj => by
    rw [nup_ne _ _ (by omega)]; exact hI.out j (by omega)
  have hz0 : (nup N i κ) 0 = 0 := by rw [nup_ne _ _ (by omega)]; exact hI.zero
  have hchg : later = true → (¬ v = ((ob R κ : Nat) : Int) ↔ κ ≠ O i) := fun hl => by
    rw [hv1 hl]
    have hOi := hO.dn i (by omega) hi
    constructor
    · intro h5 e; exact h5 (by rw [e])
    · intro h5 e; exact h5 (h.ob_inj (by omega) (by omega) (by omega))
  by_cases hc : v = ((ob R κ : Nat) : Int)
  · refine ⟨_, S, chg, nup N i κ, h1, ⟨v, by rw [idx_nat]; exact hv, .inr ⟨hc, rfl, rfl⟩⟩, ⟨hdnN, hz0, hout, ?_, hps, fun hl => ?_, fun hl => ?_, fun hl => ?_⟩⟩
    · have : S.set (ob R i) ((ob R κ : Nat) : Int) = S := by
        apply List.ext_getElem?
        intro x
        rw [List.getElem?_set]
        by_cases e : ob R i = x
        · subst e; rw [if_pos rfl, if_pos (by rw [hlen]; exact hobi), hv, hc]
        · rw [if_neg e]
      rw [this] at hts; exact hts
    · rw [hI.ch1 hl]
      constructor
      · rintro ⟨j, j1, j2, j3⟩; exact ⟨j, j1, by omega, by rw [nup_ne _ _ (by omega)]; exact j3⟩
      · rintro ⟨j, j1, j2, j3⟩
        by_cases e : j = i
        · subst e
          rw [nup_same] at j3
          exact absurd hc ((hchg hl).2 j3)
        · exact ⟨j, j1, by omega, by rwa [nup_ne _ _ e] at j3⟩
    · rw [hv2 hl] at hc; omega
    · omega
  · refine ⟨_, _, true, nup N i κ, h1, ⟨v, by rw [idx_nat]; exact hv, .inl ⟨hc, rfl, rfl⟩⟩, ⟨hdnN, hz0, hout, hts, hps, fun hl => ⟨fun _ => ⟨i, hi0, by omega, by rw [nup_same]; exact (hchg hl).1 hc⟩, fun _ => rfl⟩, fun _ => .inl rfl, fun hl => by omega⟩⟩
/-- A whole pass. -/
theorem pass_ok {later : Bool} {O : Nat → Nat} (h : Full f R) (hO : Nr f O) {S : List Int} (hI : In f R later O 1 (fun _ => 0) S false) :
    ∃ N S' chg', whl (fun (s : List Int × Bool × Int) => dom_Nearest.bd64 (aheads (nexts f)) (plL f R) (R.drop 1) s.1 s.2.1 s.2.2) FUEL (S, false, 0) = some (S', chg') ∧ In f R later O f.blocks.length N S' chg' := by
  have hn := h.sm.1
  have hpos := h.pos
  obtain ⟨r, hr, N, hN⟩ := whl_for (body := fun (s : List Int × Bool × Int) => dom_Nearest.bd64 (aheads (nexts f)) (plL f R) (R.drop 1) s.1 s.2.1 s.2.2) (f.blocks.length - 1)
    (fun t s => s.2.2 = (t : Int) ∧ ∃ N, In f R later O (t + 1) N s.1 s.2.1) (fun r => ∃ N, In f R later O f.blocks.length N r.1 r.2) (by simp only [maxLen]; omega) (by
      rintro t ⟨S, chg, k⟩ ht ⟨rfl, N, hN⟩
      simp only at hN
      have hi : t + 1 < f.blocks.length := by omega
      have hdl : t < (R.drop 1).length := by simp [h.len]; omega
      have hob : (R.drop 1)[t] = ((ob R (t + 1) : Nat) : Int) := by
        rw [List.getElem_drop]
        have := (h.get hi).1
        rw [List.getElem?_eq_getElem (by rw [h.len]; exact hi)] at this
        have := Option.some.inj this
        simpa [Nat.add_comm] using this
      obtain ⟨κ, S', chg', N', g1, ⟨v, g2, g3⟩, g4⟩ := hN.next h hO (by omega) hi
      have hah : idx (aheads (nexts f)) ((ob R (t + 1) : Nat) : Int) = some (preds (nexts f) (ob R (t + 1))) := by
        rw [idx_nat]; exact aheads_get _ _ (by rw [nexts_length]; exact (h.get hi).2)
      have hw : w64 ((t : Int) + 1) = ((t + 1 : Nat) : Int) := w64_succ (by omega)
      simp only [dom_Nearest.bd64, len_lt, hdl, if_true, idx_lt hdl, Option.bind_some, hob, hah, g1, dom_Nearest.nx84, g2]
      rcases g3 with ⟨e1, rfl, rfl⟩ | ⟨e1, rfl, rfl⟩
      · rw [if_pos e1]
        simp only [dom_Nearest.jn74, hw, Int.toNat_natCast]
        exact .inr ⟨_, rfl, rfl, N', g4⟩
      · rw [if_neg (by simpa using e1)]
        simp only [dom_Nearest.jn74, hw]
        exact .inr ⟨_, rfl, rfl, N', g4⟩) (by
      rintro ⟨S, chg, k⟩ ⟨rfl, N, hN⟩
      simp only at hN
      refine ⟨(S, chg), ?_, N, by rwa [show f.blocks.length - 1 + 1 = f.blocks.length by omega] at hN⟩
      have : ¬ ((f.blocks.length - 1 : Nat) : Int) < len (R.drop 1) := by simp only [len, List.length_drop, h.len]; omega
      simp only [dom_Nearest.bd64]
      rw [if_neg this]) (s0 := (S, false, 0)) ⟨rfl, _, hI⟩
  exact ⟨N, r.1, r.2, hr, hN⟩
end
end Go.Proofs.Yteaknconpkklhaa
set_option linter.unusedVariables false
set_option linter.unusedSimpArgs false
namespace Go.Proofs.Yteaknconpkklhaa
open Go Go.Proofs
theorem domAhead_eq (nx : List (List Int)) (hn : nx.length ≤ 70) (hrow : ∀ row ∈ nx, row.length ≤ 70 ∧ row.Nodup ∧ ∀ x ∈ row, 0 ≤ x ∧ x < (nx.length : Int)) : dom_ahead nx = some (aheads nx) :=
  (show dom_ahead nx = graph_ahead nx from rfl).trans (ahead_eq nx hn hrow)
theorem sum_le : ∀ (n : Nat) (a b : Nat → Nat), (∀ j, j < n → a j ≤ b j) → ((List.range n).map a).sum ≤ ((List.range n).map b).sum
  | 0, a, b, _ => by simp
  | n + 1, a, b, h => by
    have := sum_le n a b (fun j hj => h j (by omega))
    have := h n (by omega)
    simp only [List.range_succ, List.map_append, List.sum_append, List.map_cons, List.map_nil, List.sum_cons, List.sum_nil]; omega
theorem sum_lt : ∀ (n : Nat) (a b : Nat → Nat), (∀ j, j < n → a j ≤ b j) → (∃ j, j < n ∧ a j < b j) → ((List.range n).map a).sum < ((List.range n).map b).sum
  | 0, a, b, _, h => by obtain ⟨j, hj, _⟩ := h; omega
  | n + 1, a, b, h, ⟨j, hj, hlt⟩ => by
    have h1 := h n (by omega)
    simp only [List.range_succ, List.map_append, List.sum_append, List.map_cons, List.map_nil, List.sum_cons, List.sum_nil]
    by_cases e : j = n
    · subst e
      have := sum_le j a b (fun j hj => h j (by omega)); omega
    · have := sum_lt n a b (fun j hj => h j (by omega)) ⟨j, by omega, hlt⟩; omega
theorem sum_max : ∀ (n m : Nat) (a : Nat → Nat), (∀ j, j < n → a j ≤ m) → ((List.range n).map a).sum ≤ n * m
  | 0, m, a, _ => by simp
  | n + 1, m, a, h => by
    have := sum_max n m a (fun j hj => h j (by omega))
    have := h n (by omega)
    simp only [List.range_succ, List.map_append, List.sum_append, List.map_cons, List.map_nil, List.sum_cons, List.sum_nil, Nat.add_mul]; omega
theorem minus_all (l : List Int) (h : l.length ≤ 70) : whl (fun (s : List Int × Int) => dom_Nearest.bd26 l s.1 s.2) FUEL (l, 0) = some (List.replicate l.length (-1)) := by
  have hrun := whl_run (body := fun (s : List Int × Int) => dom_Nearest.bd26 l s.1 s.2) (r := List.replicate l.length (-1)) l.length FUEL (fun i => (List.replicate i (-1) ++ l.drop i, (i : Int))) (fun i hi => by
    have hl : i < (List.replicate i (-1 : Int) ++ l.drop i).length := by simp; omega
    simp only [dom_Nearest.bd26, len_lt, hi, if_true, idx_lt hl, Option.bind_some, Int.toNat_natCast, w64_i hi (show l.length ≤ 1000 by omega)]
    congr 3
    rw [List.set_append_right _ _ (by simp)]
    simp only [List.length_replicate, Nat.sub_self]
    rw [List.drop_eq_getElem_cons hi, List.set_cons_zero, List.replicate_succ', List.append_assoc]; rfl) (by simp [dom_Nearest.bd26, len]) (lt_FUEL (le_max h (by omega)))
  simpa using hrun
section
variable {f : PFunc} {R : List Int}
theorem places (h : Full f R) : whl (fun (s : List Int × Int) => dom_Nearest.bd35 R s.1 s.2) FUEL (List.replicate f.blocks.length 0, 0) = some (plL f R) := by
  have hn := h.sm.1
  have hrun := whl_run (body := fun (s : List Int × Int) => dom_Nearest.bd35 R s.1 s.2) (r := plL f R) R.length FUEL (fun i => ((List.range f.blocks.length).map fun b => if pb R b < i then ((pb R b : Nat) : Int) else 0, (i : Int))) (fun i hi => by
    have hi' : i < f.blocks.length := by rw [← h.len]; exact hi
    obtain ⟨h1, h2⟩ := h.get hi'
    rw [List.getElem?_eq_getElem hi] at h1
    have h1' := Option.some.inj h1
    have hidx : idx ((List.range f.blocks.length).map fun b => if pb R b < i then ((pb R b : Nat) : Int) else 0) ((ob R i : Nat) : Int) = some (if pb R (ob R i) < i then ((pb R (ob R i) : Nat) : Int) else 0) := by
      rw [idx_nat]; simp [h2]
    simp only [dom_Nearest.bd35, len_lt, hi, if_true, idx_lt hi, Option.bind_some, h1', hidx, Int.toNat_natCast, w64_i hi (show R.length ≤ 1000 by rw [h.len]; omega)]
    congr 3
    apply List.ext_getElem (by simp)
    intro x hx1 hx2
    have hx : x < f.blocks.length := by simpa using hx2
    rw [List.getElem_set]
    simp only [List.getElem_map, List.getElem_range]
    by_cases e : ob R i = x
    · subst e
      rw [if_pos rfl, h.pb_ob hi', if_pos (by omega)]
    · rw [if_neg e]
      have : pb R x ≠ i := fun e2 => e (by rw [← e2]; exact (h.ob_pb hx).1)
      by_cases hc : pb R x < i
      · rw [if_pos hc, if_pos (by omega)]
      · rw [if_neg hc, if_neg (by omega)]) (by
    simp only [dom_Nearest.bd35]
    rw [if_neg (by simp [len])]
    congr 2
    unfold plL
    apply List.map_congr_left
    intro b hb
    rw [if_pos (by rw [h.len]; exact (h.ob_pb (List.mem_range.1 hb)).2)]) (lt_FUEL (le_max (by rw [h.len]; exact hn) (by omega)))
  have h0 : ((List.range f.blocks.length).map fun b => if pb R b < 0 then ((pb R b : Nat) : Int) else 0) = List.replicate f.blocks.length (0 : Int) := by
    apply List.ext_getElem (by simp)
    intro x h1 h2
    simp
  rw [h0] at hrun
  exact hrun
def ini (f : PFunc) : List Int := (List.replicate f.blocks.length (-1)).set 0 0
def sumS (f : PFunc) (R S : List Int) : Nat := ((List.range f.blocks.length).map fun j => pb R (S.getD (ob R j) 0).toNat).sum
theorem sumS_eq (h : Full f R) {N : Nat → Nat} (hN : Nr f N) {S : List Int} (hS : Ts f R (fun _ => True) N S) : sumS f R S = ((List.range f.blocks.length).map N).sum := by
  unfold sumS
  congr 1
  apply List.map_congr_left
  intro j hj
  have hj := List.mem_range.1 hj
  rw [List.getD_eq_getElem?_getD, hS.on j hj trivial]
  simp only [Option.getD_some, Int.toNat_natCast]
  by_cases e : j = 0
  · subst e; rw [hN.zero, h.ob0, h.pb0]
  · exact h.pb_ob (by have := hN.dn j e hj; omega)
/-- What stands at the head of a round of passes. -/
def Rd (f : PFunc) (R : List Int) (s : List Int × Bool) : Prop :=
  (s.1 = ini f ∧ s.2 = true) ∨ ∃ O, Nr f O ∧ Hist f.blocks.length (Pl f R) O ∧ Ts f R (fun _ => True) O s.1 ∧ (s.2 = false → Pass f.blocks.length (Pl f R) O O)
theorem ini_ts (h : Full f R) : In f R false (fun _ => 0) 1 (fun _ => 0) (ini f) false := by
  have hpos := h.pos
  have hmx : mixA 1 (fun _ => 0) (fun _ => 0) = fun _ => 0 := by funext x; unfold mixA; split <;> rfl
  refine ⟨fun b h0 hb => by show 0 < b; omega, rfl, fun _ _ => rfl, ?_, fun j h1 h2 => by omega, fun e => by (cases e), fun _ => .inr rfl, fun _ => rfl⟩
  rw [hmx]
  refine ⟨by simp [ini], fun j hj hD => ?_, fun j hj hD => ?_, fun b h0 hb => by show 0 < b; omega, fun j hj hD => .inr (by omega)⟩
  · have hj0 : j = 0 := by rcases hD with e | e; (· cases e); (· omega)
    subst hj0
    rw [h.ob0]
    unfold ini
    rw [List.getElem?_set_self (by simpa using hpos)]; rfl
  · have hj0 : j ≠ 0 := fun e => hD (.inr (by omega))
    have hne : ob R j ≠ 0 := fun e => hj0 (h.ob_inj hj hpos (by rw [e, h.ob0]))
    unfold ini
    rw [List.getElem?_set_ne (by omega)]
    simp [(h.get hj).2]
theorem Ts.whole {later : Bool} {O N : Nat → Nat} {S : List Int} (hN : Nr f N) (hS : Ts f R (DD later f.blocks.length) (mixA f.blocks.length N O) S) : Ts f R (fun _ => True) N S := by
  refine ⟨hS.len, fun j hj _ => ?_, fun j hj hD => absurd trivial hD, hN.dn, fun _ _ _ => trivial⟩
  rw [hS.on j hj (.inr hj), mixA_lt hj]
theorem In.nr {later : Bool} {O N : Nat → Nat} {S : List Int} {chg : Bool} (hI : In f R later O f.blocks.length N S chg) : Nr f N := ⟨hI.dn, hI.zero, hI.out⟩
theorem In.first {N : Nat → Nat} {S : List Int} {chg : Bool} (hI : In f R false (fun _ => 0) f.blocks.length N S chg) : First f.blocks.length (Pl f R) N := fun i h0 hi z => by
  rw [hI.ps i h0 hi z]
  have hX : Dn f.blocks.length (mixA i N (fun _ => 0)) := Dn.mixA (fun b hb hbi => hI.dn b hb (by omega)) (fun b hb _ => by show 0 < b; omega)
  constructor
  · intro hall p hp hlt
    exact (mixA_anc hI.dn hlt (by omega) hX).1 (hall p hp (.inr hlt))
  · intro hall p hp hD
    have hlt : p < i := by rcases hD with e | e; (· cases e); (· exact e)
    exact (mixA_anc hI.dn hlt (by omega) hX).2 (hall p hp hlt)
theorem In.pass {O N : Nat → Nat} {S : List Int} {chg : Bool} (hI : In f R true O f.blocks.length N S chg) : Pass f.blocks.length (Pl f R) O N := fun i h0 hi z => by
  rw [hI.ps i h0 hi z]
  exact ⟨fun hall p hp => hall p hp (.inl rfl), fun hall p hp _ => hall p hp⟩
theorem later_ts {O : Nat → Nat} {S : List Int} (hO : Nr f O) (hS : Ts f R (fun _ => True) O S) : In f R true O 1 (fun _ => 0) S false := by
  have hmx : mixA 1 (fun _ => 0) O = O := by
    funext x; unfold mixA; split
    · rw [show x = 0 by omega, hO.zero]
    · rfl
  refine ⟨fun b h0 hb => by show 0 < b; omega, rfl, fun _ _ => rfl, ?_, fun j h1 h2 => by omega, fun _ => ⟨fun e => by (cases e), fun ⟨j, j1, j2, _⟩ => by omega⟩, fun e => by (cases e), fun _ => rfl⟩
  rw [hmx]
  exact ⟨hS.len, fun j hj _ => hS.on j hj trivial, fun j hj hD => absurd (.inl rfl) hD, hO.dn, fun _ _ _ => .inl rfl⟩
def msr (f : PFunc) (R : List Int) (s : List Int × Bool) : Nat := if s.2 = false then 0 else if s.1 = ini f then 1000000 else 1 + sumS f R s.1
theorem Ts.not_ini (h : Full f R) {O : Nat → Nat} {S : List Int} (hO : Nr f O) (hS : Ts f R (fun _ => True) O S) (h2 : 1 < f.blocks.length) : S ≠ ini f := fun e => by
  have h1 := hS.on 1 h2 trivial
  have hne : ob R 1 ≠ 0 := fun e => by have := h.ob_inj h2 h.pos (by rw [e, h.ob0]); omega
  rw [e] at h1
  unfold ini at h1
  rw [List.getElem?_set_ne (by omega)] at h1
  simp [(h.get h2).2] at h1
theorem round_ok (h : Full f R) (s : List Int × Bool) (hs : Rd f R s) : (∃ r, dom_Nearest.bd48 R (aheads (nexts f)) (plL f R) s.1 s.2 = some (.ret r) ∧ ∃ O, Nr f O ∧ Hist f.blocks.length (Pl f R) O ∧ Ts f R (fun _ => True) O r ∧ Pass f.blocks.length (Pl f R) O O) ∨
    ∃ s', dom_Nearest.bd48 R (aheads (nexts f)) (plL f R) s.1 s.2 = some (.go s') ∧ Rd f R s' ∧ msr f R s' < msr f R s := by
  obtain ⟨S, again⟩ := s
  have hn := h.sm.1
  have hpos := h.pos
  have hfr : from_ R 1 = some (R.drop 1) := by
    unfold from_
    rw [if_pos ⟨by omega, by rw [h.len]; show 1 ≤ _; omega⟩]; rfl
  cases again with
  | false =>
    rcases hs with ⟨_, e⟩ | ⟨O, h1, h2, h3, h4⟩
    · cases e
    · exact .inl ⟨S, by simp [dom_Nearest.bd48], O, h1, h2, h3, h4 rfl⟩
  | true =>
    simp only [dom_Nearest.bd48, if_true, hfr, Option.bind_some]
    rcases hs with ⟨e, _⟩ | ⟨O, h1, h2, h3, h4⟩
    · simp only at e
      subst e
      obtain ⟨N, S', chg', g1, g2⟩ := pass_ok h ⟨fun b h0 hb => by show 0 < b; omega, rfl, fun _ _ => rfl⟩ (ini_ts h)
      rw [g1]
      simp only [Option.bind_some, dom_Nearest.nx64]
      have hS' := Ts.whole g2.nr g2.ts
      refine .inr ⟨_, rfl, .inr ⟨N, g2.nr, ⟨g2.dn, g2.first.fwd, .inl g2.first⟩, hS', fun hc => ?_⟩, ?_⟩
      · simp only at hc
        have : f.blocks.length = 1 := (g2.ch0 rfl).resolve_left (by rw [hc]; simp)
        intro i h0 hi; omega
      · unfold msr
        simp only [if_true, Bool.true_eq_false, if_false]
        cases chg' with
        | false => simp
        | true =>
          have h2' : 1 < f.blocks.length := by
            rcases Nat.lt_or_ge 1 f.blocks.length with h2 | h2
            · exact h2
            · have := g2.ch2 (by omega); cases this
          rw [if_neg (by simp), if_neg (hS'.not_ini h g2.nr h2'), sumS_eq h g2.nr hS']
          have := sum_max f.blocks.length 70 N (fun j hj => by
            by_cases e : j = 0
            · subst e; rw [g2.zero]; omega
            · have := g2.dn j e hj; omega)
          have : f.blocks.length * 70 ≤ 70 * 70 := Nat.mul_le_mul hn (Nat.le_refl _)
          omega
    · simp only at h3
      obtain ⟨N, S', chg', g1, g2⟩ := pass_ok h h1 (later_ts h1 h3)
      rw [g1]
      simp only [Option.bind_some, dom_Nearest.nx64]
      have hS' := Ts.whole g2.nr g2.ts
      obtain ⟨k1, k2⟩ := h2.next h.lead g2.dn g2.pass
      refine .inr ⟨_, rfl, .inr ⟨N, g2.nr, k1, hS', fun hc => ?_⟩, ?_⟩
      · simp only at hc
        have heq : N = O := by
          funext j
          by_cases e : j = 0
          · subst e; rw [g2.zero, h1.zero]
          · rcases Nat.lt_or_ge j f.blocks.length with hj | hj
            · rcases Nat.decEq (N j) (O j) with hne | he
              · have := (g2.ch1 rfl).2 ⟨j, by omega, hj, hne⟩
                rw [hc] at this; cases this
              · exact he
            · rw [g2.out j hj, h1.out j hj]
        have := g2.pass
        rw [heq] at this ⊢
        exact this
      · unfold msr
        simp only [if_true, Bool.true_eq_false, if_false]
        cases chg' with
        | false => rw [if_pos rfl]; split <;> omega
        | true =>
          obtain ⟨j, j1, j2, j3⟩ := (g2.ch1 rfl).1 rfl
          have h2' : 1 < f.blocks.length := by omega
          rw [if_neg (by simp), if_neg (hS'.not_ini h g2.nr h2'), if_neg (h3.not_ini h h1 h2'), sumS_eq h g2.nr hS', sumS_eq h h1 h3]
          have := sum_lt f.blocks.length N O (fun i hi => by
            by_cases e : i = 0
            · subst e; rw [g2.zero]; omega
            · exact k2 i hi (by omega)) ⟨j, j2, by have := k2 j j2 j1; omega⟩
          omega
/-- What Nearest tells. -/
structure Near (f : PFunc) (R : List Int) (N : Nat → Nat) (L : List Int) : Prop where
  nr : Nr f N
  hist : Hist f.blocks.length (Pl f R) N
  fix : Pass f.blocks.length (Pl f R) N N
  len : L.length = f.blocks.length
  first : L[0]? = some (-1)
  get : ∀ j, 0 < j → j < f.blocks.length → L[ob R j]? = some ((ob R (N j) : Nat) : Int)
theorem nearest_ok (h : Full f R) : ∃ N L, dom_Nearest f = some L ∧ Near f R N L := by
  have hn := h.sm.1
  have hpos := h.pos
  have ht : ∀ B ∈ f.blocks, B.term.to.length ≤ 70 := fun B hm => (h.sm.2.2.2 B hm).2.2.1
  have hah : dom_ahead (nexts f) = some (aheads (nexts f)) := domAhead_eq (nexts f) (by rw [nexts_length]; exact hn) (fun row hr => by
    obtain ⟨B, hB, rfl⟩ := List.mem_map.1 hr
    refine ⟨by have := foldl_addS_length f.blocks.length B.term.to []; have := ht B hB; unfold succs; simp at *; omega, succs_nodup _ _, fun x hx => by rw [nexts_length]; exact succs_in x hx⟩)
  have hmk : mkl (len (aheads (nexts f))) (0 : Int) = some (List.replicate f.blocks.length 0) := by
    have := mkl_rep (n := f.blocks.length) (0 : Int) hn
    simpa [len, aheads_length, nexts_length] using this
  obtain ⟨r, hr, O, h1, h2, h3, h4⟩ := whl_ex (body := fun (s : List Int × Bool) => dom_Nearest.bd48 R (aheads (nexts f)) (plL f R) s.1 s.2) (Rd f R) (msr f R) (fun r => ∃ O, Nr f O ∧ Hist f.blocks.length (Pl f R) O ∧ Ts f R (fun _ => True) O r ∧ Pass f.blocks.length (Pl f R) O O) (fun s hs => round_ok h s hs)
    FUEL (ini f, true) (.inl ⟨rfl, rfl⟩) (by unfold msr; simp only [Bool.true_eq_false, if_false, if_true]; exact small_max (Nat.le_refl _))
  refine ⟨O, r.set 0 (-1), ?_, h1, h2, h4, by rw [List.length_set]; exact h3.len, by rw [List.getElem?_set_self (by rw [h3.len]; exact hpos)], fun j hj hjn => ?_⟩
  · unfold dom_Nearest
    rw [h.ord, graphNext_eq f hn ht]
    simp only [Option.bind_some, hah, hmk]
    unfold dom_Nearest.jn18
    have hm := minus_all (List.replicate f.blocks.length 0) (by simpa using hn)
    simp only [List.length_replicate] at hm
    rw [hm]
    simp only [Option.bind_some, dom_Nearest.nx26]
    rw [places h]
    simp only [Option.bind_some, dom_Nearest.nx35]
    rw [if_neg (by simp only [len, h.len]; omega)]
    have h0 : idx (List.replicate f.blocks.length (-1 : Int)) 0 = some (-1) := by
      have := idx_lt (xs := List.replicate f.blocks.length (-1 : Int)) (i := 0) (by simpa using hpos)
      simpa using this
    rw [h0]
    simp only [Option.bind_some]
    have hini : (List.replicate f.blocks.length (-1 : Int)).set (0 : Int).toNat 0 = ini f := rfl
    rw [hini, hr]
    simp only [Option.bind_some, dom_Nearest.nx48]
    have h00 : idx r 0 = some (r[0]'(by rw [h3.len]; exact hpos)) := by
      have := idx_lt (xs := r) (i := 0) (by rw [h3.len]; exact hpos)
      simpa using this
    rw [h00]; rfl
  · have hne : ob R j ≠ 0 := fun e => by have := h.ob_inj hjn hpos (by rw [e, h.ob0]); omega
    rw [List.getElem?_set_ne (by omega)]
    exact h3.on j hjn trivial
end
end Go.Proofs.Yteaknconpkklhaa
set_option linter.unusedVariables false
set_option linter.unusedSimpArgs false
namespace Go.Proofs.Yteaknconpkklhaa
open Go Go.Proofs
variable {f : PFunc} {R : List Int}
theorem mkl3 {α : Type} {n : Nat} (z : α) (hn : n ≤ 1000) : mkl (n : Int) z = some (List.replicate n z) := by
  have h1 : n < LIM := by simp only [LIM]; omega
  simp [mkl, h1]
theorem ndone {n : Nat} : ¬ ((n : Int) < (n : Int)) := by omega
theorem Near.len1 {N : Nat → Nat} {L : List Int} (hN : Near f R N L) (h : Full f R) {j : Nat} (hj : j < f.blocks.length) : ∃ x : Int, idx L ((ob R j : Nat) : Int) = some x ∧ (x = -1 ∨ ∃ i, i < j ∧ x = ((ob R i : Nat) : Int)) := by
  rw [idx_nat]
  rcases Nat.eq_zero_or_pos j with rfl | h0
  · rw [h.ob0]; exact ⟨-1, hN.first, .inl rfl⟩
  · exact ⟨_, hN.get j h0 hj, .inr ⟨N j, hN.nr.dn j (by omega) hj, rfl⟩⟩
theorem above_up (h : Full f R) {N : Nat → Nat} {L : List Int} (hN : Near f R N L) (i : Nat) (hi : i < f.blocks.length) (T : List (List Bool)) (hT : Dim f.blocks.length f.blocks.length T) :
    ∃ z, whl (fun (s : (List (List Bool) × Int)) => dom_Dominates.bd42 L (List.replicate f.blocks.length true) (i : Int) s.1 s.2) FUEL (T, (i : Int)) = some z ∧ Dim f.blocks.length f.blocks.length z := by
  refine whl_ex (body := fun (s : (List (List Bool) × Int)) => dom_Dominates.bd42 L (List.replicate f.blocks.length true) (i : Int) s.1 s.2)
    (fun s => Dim f.blocks.length f.blocks.length s.1 ∧ (s.2 = -1 ∨ ∃ j, j < f.blocks.length ∧ s.2 = ((ob R j : Nat) : Int))) (fun s => if s.2 < 0 then 0 else pb R s.2.toNat + 1) (fun z => Dim f.blocks.length f.blocks.length z) (fun s hs => ?_) FUEL (T, (i : Int)) ⟨hT, .inr ⟨pb R i, (h.ob_pb hi).2, by rw [(h.ob_pb hi).1]⟩⟩ ?_
  · obtain ⟨M, a⟩ := s
    obtain ⟨h1, h2⟩ := hs
    simp only at h1 h2
    have hr : idx (List.replicate f.blocks.length true) (i : Int) = some true := by rw [idx_nat]; simp [hi]
    simp only [dom_Dominates.bd42, hr, Option.bind_some, true_and]
    rcases h2 with rfl | ⟨j, hj, rfl⟩
    · exact .inl ⟨M, by simp, h1⟩
    · right
      have hob := (h.get hj).2
      obtain ⟨row, r1, r2, r3⟩ := h1.get (b := ((ob R j : Nat) : Int)) (by omega) (by omega)
      obtain ⟨x, x1, x2⟩ := hN.len1 h hj
      have hi' : i < row.length := by omega
      rw [if_pos (by omega)]
      simp only [r1, Option.bind_some, idx_lt hi', x1]
      refine ⟨_, rfl, ⟨h1.set _ (by simp [r3]), x2.imp id fun ⟨q, q1, q2⟩ => ⟨q, by omega, q2⟩⟩, ?_⟩
      simp only
      rcases x2 with rfl | ⟨q, q1, rfl⟩
      · rw [if_pos (by omega), if_neg (by omega)]; omega
      · rw [if_neg (by omega), if_neg (by omega), Int.toNat_natCast, Int.toNat_natCast, h.pb_ob (by omega), h.pb_ob hj]; omega
  · simp only
    rw [if_neg (by omega), Int.toNat_natCast]
    have := (h.ob_pb hi).2
    have := h.sm.1
    exact small_max (by omega)
theorem dominates_ok (h : Full f R) : ∃ T, dom_Dominates f = some T ∧ Dim f.blocks.length f.blocks.length T := by
  obtain ⟨N, L, hL, hN⟩ := nearest_ok h
  have hn := h.sm.1
  have hlen : len L = (f.blocks.length : Int) := by simp [len, hN.len]
  unfold dom_Dominates
  rw [hL, h.rea]
  simp only [Option.bind_some, hlen, mkl3 (n := f.blocks.length) ([] : List Bool) (by omega)]
  obtain ⟨z, hz, hz1⟩ := whl_for (body := fun (s : (List (List Bool) × Int)) => dom_Dominates.bd19 L (List.replicate f.blocks.length []) s.1 s.2) (s0 := (List.replicate f.blocks.length [], 0)) f.blocks.length
    (fun i s => s.1.length = f.blocks.length ∧ s.2 = (i : Int) ∧ ∀ j, j < i → ∃ row, s.1[j]? = some row ∧ row.length = f.blocks.length) (fun z => Dim f.blocks.length f.blocks.length z) (le_max hn (by omega)) (fun i s hi hI => by
      obtain ⟨M, q⟩ := s
      obtain ⟨h1, rfl, h3⟩ := hI
      simp only at h1 h3
      have hi' : i < M.length := by omega
      refine .inr ⟨_, by simp only [dom_Dominates.bd19, len_lt, List.length_replicate, hi, if_true, hlen, mkl3 (n := f.blocks.length) false (by omega), Option.bind_some, idx_lt hi', Int.toNat_natCast]; rfl, by simp [h1], w64_i hi (by omega), fun j hj => ?_⟩
      simp only
      by_cases e : i = j
      · subst e
        exact ⟨_, by rw [List.getElem?_set_self hi'], by simp⟩
      · rw [List.getElem?_set_ne e]; exact h3 j (by omega)) (fun s hI => by
      obtain ⟨M, q⟩ := s
      obtain ⟨h1, rfl, h3⟩ := hI
      simp only at h1 h3
      refine ⟨M, by simp [dom_Dominates.bd19, len], h1, fun r hr => ?_⟩
      obtain ⟨j, hj, rfl⟩ := List.getElem_of_mem hr
      obtain ⟨row, r1, r2⟩ := h3 j (by omega)
      rw [List.getElem?_eq_getElem hj] at r1
      rw [Option.some.inj r1]; exact r2) ⟨by simp, rfl, fun j hj => by omega⟩
  rw [hz]
  simp only [Option.bind_some, dom_Dominates.nx19]
  have hzl : len z = (f.blocks.length : Int) := by simp [len, hz1.len]
  obtain ⟨y, hy, hy1⟩ := whl_for (body := fun (s : (List (List Bool) × Int)) => dom_Dominates.bd28 L (List.replicate f.blocks.length true) z s.1 s.2) (s0 := (z, 0)) f.blocks.length
    (fun i s => s.2 = (i : Int) ∧ Dim f.blocks.length f.blocks.length s.1) (fun z => Dim f.blocks.length f.blocks.length z) (le_max hn (by omega)) (fun i s hi hI => by
      obtain ⟨M, q⟩ := s
      obtain ⟨rfl, h3⟩ := hI
      simp only at h3
      obtain ⟨y, hy, hy1⟩ := above_up h hN i hi M h3
      refine .inr ⟨_, by simp only [dom_Dominates.bd28, hzl]; rw [if_pos (by omega), hy]; rfl, w64_i hi (by omega), hy1⟩) (fun s hI => by
      obtain ⟨M, q⟩ := s
      obtain ⟨rfl, h3⟩ := hI
      exact ⟨M, by simp [dom_Dominates.bd28, hzl], h3⟩) ⟨rfl, hz1⟩
  rw [hy]
  exact ⟨y, rfl, hy1⟩
/-- a table of n rows whose entries are below m -/
structure Bel (n c m : Nat) (T : List (List Int)) : Prop where
  len : T.length = n
  few : ∀ r ∈ T, r.length ≤ c
  mem : ∀ r ∈ T, ∀ x ∈ r, 0 ≤ x ∧ x < (m : Int)
theorem Bel.get {n c m : Nat} {T : List (List Int)} (h : Bel n c m T) {b : Int} (h0 : 0 ≤ b) (h1 : b < (n : Int)) : ∃ row, idx T b = some row ∧ T[b.toNat]? = some row ∧ row.length ≤ c ∧ ∀ x ∈ row, 0 ≤ x ∧ x < (m : Int) := by
  obtain ⟨row, h2, h3⟩ := idx_in (xs := T) h0 (by rw [h.len]; exact h1)
  exact ⟨row, h2, h3, h.few row (List.mem_of_getElem? h3), h.mem row (List.mem_of_getElem? h3)⟩
theorem Bel.set {n c m : Nat} {T : List (List Int)} (h : Bel n c m T) (i : Nat) {row : List Int} (h1 : row.length ≤ c) (h2 : ∀ x ∈ row, 0 ≤ x ∧ x < (m : Int)) : Bel n c m (T.set i row) :=
  ⟨by simp [h.len], fun r hr => (List.mem_or_eq_of_mem_set hr).elim (h.few r) (fun e => e ▸ h1), fun r hr => (List.mem_or_eq_of_mem_set hr).elim (h.mem r) (fun e => e ▸ h2)⟩
theorem Bel.mono {n c c' m : Nat} {T : List (List Int)} (h : Bel n c m T) (hc : c ≤ c') : Bel n c' m T := ⟨h.len, fun r hr => Nat.le_trans (h.few r hr) hc, h.mem⟩
theorem Bel.rep (n c m : Nat) : Bel n c m (List.replicate n []) := ⟨by simp, fun r hr => by rw [List.eq_of_mem_replicate hr]; simp, fun r hr => by rw [List.eq_of_mem_replicate hr]; simp⟩
theorem front_row (h : Full f R) {T : List (List Bool)} (hT : Dim f.blocks.length f.blocks.length T) (a : Nat) (ha : a < f.blocks.length) (row : List Bool) (hrow : row.length = f.blocks.length) (F : List (List Int)) (hF : F.length = f.blocks.length)
    (h0 : F[a]? = some []) :
    ∃ z, whl (fun (s : (List (List Int) × Int)) => dom_Frontier.bd47 (List.replicate f.blocks.length true) T (a : Int) row s.1 s.2) FUEL (F, 0) = some z ∧ z.length = f.blocks.length ∧ (∀ j, j ≠ a → z[j]? = F[j]?) ∧ ∃ l, z[a]? = some l ∧ l.length ≤ f.blocks.length ∧ ∀ x ∈ l, 0 ≤ x ∧ x < (f.blocks.length : Int) := by
  have hn := h.sm.1
  refine whl_for (body := fun (s : (List (List Int) × Int)) => dom_Frontier.bd47 (List.replicate f.blocks.length true) T (a : Int) row s.1 s.2) (s0 := (F, 0)) f.blocks.length
    (fun i s => s.2 = (i : Int) ∧ s.1.length = f.blocks.length ∧ (∀ j, j ≠ a → s.1[j]? = F[j]?) ∧ ∃ l, s.1[a]? = some l ∧ l.length ≤ i ∧ ∀ x ∈ l, 0 ≤ x ∧ x < (f.blocks.length : Int)) _ (le_max hn (by omega)) (fun i s hi hI => ?_) (fun s hI => ?_) ⟨rfl, hF, fun _ _ => rfl, [], h0, by simp, by simp⟩
  · obtain ⟨M, q⟩ := s
    obtain ⟨rfl, h1, h2, l, l1, l2, l3⟩ := hI
    simp only at h1 h2 l1
    right
    have hi' : i < row.length := by omega
    have hr : idx (List.replicate f.blocks.length true) (a : Int) = some true := by rw [idx_nat]; simp [ha]
    obtain ⟨ra, a1, a2, a3⟩ := hT.get (b := (a : Int)) (by omega) (by omega)
    have hi2 : i < ra.length := by omega
    have hla : idx M (a : Int) = some l := by rw [idx_nat]; exact l1
    have key : ∃ t : Bool, dom_Frontier.bd47 (List.replicate f.blocks.length true) T (a : Int) row M (i : Int) = if t = true then some (.go (M.set a (l ++ [(i : Int)]), ((i + 1 : Nat) : Int))) else some (.go (M, ((i + 1 : Nat) : Int))) := by
      refine ⟨row[i] && (decide ((a : Int) = (i : Int)) || !ra[i]), ?_⟩
      simp only [dom_Frontier.bd47, len_lt, hi', if_true, idx_lt hi', Option.bind_some, hr, a1, idx_lt hi2, hla, cat_one (show l.length ≤ 1000 by omega), dom_Frontier.jn57, w64_i hi (show f.blocks.length ≤ 1000 by omega), Int.toNat_natCast]
      cases row[i] <;> by_cases e : (a : Int) = (i : Int) <;> cases ra[i] <;> simp [e]
    obtain ⟨t, ht⟩ := key
    cases t with
    | false => exact ⟨_, by simpa using ht, rfl, h1, h2, l, l1, by omega, l3⟩
    | true =>
      refine ⟨_, by simpa using ht, rfl, by simp [h1], fun j hj => ?_, l ++ [(i : Int)], by simp only; rw [List.getElem?_set_self (by omega)], by simp; omega, fun x hx => ?_⟩
      · simp only; rw [List.getElem?_set_ne (fun e => hj e.symm)]; exact h2 j hj
      · rcases List.mem_append.1 hx with hx | hx
        · exact l3 x hx
        · simp at hx; omega
  · obtain ⟨M, q⟩ := s
    obtain ⟨rfl, h1, h2, l, l1, l2, l3⟩ := hI
    exact ⟨M, by simp [dom_Frontier.bd47, len, hrow], h1, h2, l, l1, l2, l3⟩
theorem front_seen (h : Full f R) {T : List (List Bool)} (hT : Dim f.blocks.length f.blocks.length T) (a : Nat) (ha : a < f.blocks.length) (row : List Bool) (hrow : row.length = f.blocks.length) :
    ∃ z, whl (fun (s : (List Bool × Int)) => dom_Frontier.bd40 (nexts f) T (a : Int) s.1 s.2) FUEL (row, 0) = some z ∧ z.length = f.blocks.length := by
  have hn := h.sm.1
  have ht : ∀ B ∈ f.blocks, B.term.to.length ≤ 70 := fun B hm => (h.sm.2.2.2 B hm).2.2.1
  obtain ⟨ra, a1, a2, a3⟩ := hT.get (b := (a : Int)) (by omega) (by omega)
  refine whl_for (body := fun (s : (List Bool × Int)) => dom_Frontier.bd40 (nexts f) T (a : Int) s.1 s.2) (s0 := (row, 0)) f.blocks.length (fun i s => s.2 = (i : Int) ∧ s.1.length = f.blocks.length) _ (le_max hn (by omega)) (fun i s hi hI => ?_) (fun s hI => ?_) ⟨rfl, hrow⟩
  · obtain ⟨M, q⟩ := s
    obtain ⟨rfl, h1⟩ := hI
    simp only at h1
    have hg := nexts_get f i hi
    obtain ⟨hr1, hr2⟩ := nexts_rows f ht i _ hg
    have hin : i < ra.length := by omega
    obtain ⟨z, hz, hz1⟩ := whl_for (body := fun (s : (List Bool × Int)) => dom_Frontier.bd99 T (a : Int) (i : Int) (succs f.blocks.length f.blocks[i].term.to) s.1 s.2) (s0 := (M, 0)) (succs f.blocks.length f.blocks[i].term.to).length (fun i s => s.2 = (i : Int) ∧ s.1.length = f.blocks.length) (fun z => z.length = f.blocks.length) (le_max hr1 (by omega)) (fun k s hk hI => by
        obtain ⟨M, q⟩ := s
        obtain ⟨rfl, h1⟩ := hI
        simp only at h1
        have hx := hr2 _ (List.getElem_mem hk)
        rw [nexts_length] at hx
        obtain ⟨y, y1, _⟩ := idx_in (xs := M) hx.1 (by rw [h1]; exact hx.2)
        refine .inr ?_
        have key : ∃ t, dom_Frontier.bd99 T (a : Int) (i : Int) (succs f.blocks.length f.blocks[i].term.to) M (k : Int) = some (.go (M.set ((succs f.blocks.length f.blocks[i].term.to)[k]).toNat t, ((k + 1 : Nat) : Int))) := by
          refine ⟨y || ra[i], ?_⟩
          simp only [dom_Frontier.bd99, len_lt, hk, if_true, idx_lt hk, Option.bind_some, y1, a1, idx_lt hin, w64_i hk (show (succs f.blocks.length f.blocks[i].term.to).length ≤ 1000 by omega)]
          cases y <;> simp
        obtain ⟨t, ht⟩ := key
        exact ⟨_, ht, rfl, by simp [h1]⟩) (fun s hI => by
        obtain ⟨M, q⟩ := s
        obtain ⟨rfl, h1⟩ := hI
        exact ⟨M, by simp [dom_Frontier.bd99, len], h1⟩) ⟨rfl, h1⟩
    have hi' : i < (nexts f).length := by rw [nexts_length]; exact hi
    have hgi : idx (nexts f) (i : Int) = some (succs f.blocks.length f.blocks[i].term.to) := by rw [idx_nat]; exact hg
    refine .inr ⟨_, by simp only [dom_Frontier.bd40, len_lt, hi', if_true, hgi, Option.bind_some, hz]; rfl, w64_i hi (by omega), hz1⟩
  · obtain ⟨M, q⟩ := s
    obtain ⟨rfl, h1⟩ := hI
    exact ⟨M, by simp [dom_Frontier.bd40, len, nexts_length], h1⟩
theorem frontier_ok (h : Full f R) : ∃ F, dom_Frontier f = some F ∧ Bel f.blocks.length f.blocks.length f.blocks.length F := by
  obtain ⟨T, hT, hT1⟩ := dominates_ok h
  have hn := h.sm.1
  have ht : ∀ B ∈ f.blocks, B.term.to.length ≤ 70 := fun B hm => (h.sm.2.2.2 B hm).2.2.1
  have hlen : len (nexts f) = (f.blocks.length : Int) := by simp [len, nexts_length]
  unfold dom_Frontier
  rw [graphNext_eq f hn ht, h.rea, hT]
  simp only [Option.bind_some, hlen, mkl3 (n := f.blocks.length) ([] : List Int) (by omega)]
  obtain ⟨z, hz, hz1⟩ := whl_for (body := fun (s : (List (List Int) × Int)) => dom_Frontier.bd23 (nexts f) (List.replicate f.blocks.length true) T (List.replicate f.blocks.length []) s.1 s.2) (s0 := (List.replicate f.blocks.length [], 0)) f.blocks.length
    (fun i s => s.2 = (i : Int) ∧ s.1.length = f.blocks.length ∧ ∀ j, j < f.blocks.length → ∃ l, s.1[j]? = some l ∧ (i ≤ j → l = []) ∧ l.length ≤ f.blocks.length ∧ ∀ x ∈ l, 0 ≤ x ∧ x < (f.blocks.length : Int)) (fun z => Bel f.blocks.length f.blocks.length f.blocks.length z) (le_max hn (by omega)) (fun i s hi hI => by
      obtain ⟨M, q⟩ := s
      obtain ⟨rfl, h1, h2⟩ := hI
      simp only at h1 h2
      obtain ⟨row, r1, r2⟩ := front_seen h hT1 i hi (List.replicate f.blocks.length false) (by simp)
      obtain ⟨l, l1, l2, _⟩ := h2 i hi
      obtain rfl := l2 (Nat.le_refl _)
      obtain ⟨F, g1, g2, g3, l, g4, g5, g6⟩ := front_row h hT1 i hi row r2 M h1 l1
      refine .inr ⟨_, by simp only [dom_Frontier.bd23, len_lt, List.length_replicate, hi, if_true, hlen, mkl3 (n := f.blocks.length) false (by omega), Option.bind_some, r1, dom_Frontier.nx40, g1]; rfl, w64_i hi (by omega), g2, fun j hj => ?_⟩
      simp only
      by_cases e : j = i
      · subst e
        exact ⟨l, g4, fun h => by omega, g5, g6⟩
      · rw [g3 j e]
        obtain ⟨l, q1, q2, q3⟩ := h2 j hj
        exact ⟨l, q1, fun h => q2 (by omega), q3⟩) (fun s hI => by
      obtain ⟨M, q⟩ := s
      obtain ⟨rfl, h1, h2⟩ := hI
      simp only at h1 h2
      have hrow : ∀ r ∈ M, r.length ≤ f.blocks.length ∧ ∀ x ∈ r, 0 ≤ x ∧ x < (f.blocks.length : Int) := fun r hr => by
        obtain ⟨j, hj, rfl⟩ := List.getElem_of_mem hr
        obtain ⟨l, q1, _, q3, q4⟩ := h2 j (by omega)
        rw [List.getElem?_eq_getElem hj] at q1
        rw [Option.some.inj q1]; exact ⟨q3, q4⟩
      exact ⟨M, by simp [dom_Frontier.bd23, len], h1, fun r hr => (hrow r hr).1, fun r hr => (hrow r hr).2⟩) ⟨rfl, by simp, fun j hj => ⟨[], by simp [hj], fun _ => rfl, by simp, by simp⟩⟩
  rw [hz]
  exact ⟨z, rfl, hz1⟩
end Go.Proofs.Yteaknconpkklhaa
set_option linter.unusedVariables false
set_option linter.unusedSimpArgs false
namespace Go.Proofs.Yteaknconpkklhaa
open Go Go.Proofs
variable {f : PFunc} {R : List Int}
theorem defines_ok (l : List PInstr) (hl : l.length ≤ 300) (r : Int) : ∃ b, slices_ContainsFunc_api_Instr_api_Instr_ssa_builder_closed_1 l r = some b := by
  unfold slices_ContainsFunc_api_Instr_api_Instr_ssa_builder_closed_1 slices_IndexFunc_api_Instr_api_Instr_ssa_builder_closed_1
  obtain ⟨z, hz, _⟩ := whl_for (body := fun (s : Int) => slices_IndexFunc_api_Instr_api_Instr_ssa_builder_closed_1.bd8 l r s) (s0 := 0) l.length (fun i s => s = (i : Int)) (fun _ => True) (le_max hl (by omega)) (fun i s hi hI => by
    subst hI
    simp only [slices_IndexFunc_api_Instr_api_Instr_ssa_builder_closed_1.bd8, len_lt, hi, if_true, idx_lt hi, Option.bind_some, ssa_builder_closed_1, w64_i hi (show l.length ≤ 1000 by omega)]
    by_cases e : l[i].dst = r
    · exact .inl ⟨.ret (i : Int), by simp [e], trivial⟩
    · exact .inr ⟨((i + 1 : Nat) : Int), by simp [e], rfl⟩) (fun s hI => by
    subst hI
    exact ⟨.go (), by simp [slices_IndexFunc_api_Instr_api_Instr_ssa_builder_closed_1.bd8, len], trivial⟩) rfl
  rw [hz]
  cases z with
  | ret r => exact ⟨_, rfl⟩
  | go p => exact ⟨_, rfl⟩
theorem closed_work {n : Nat} (hn : n ≤ 70) (F : List (List Int)) (hF : Bel n n n F) (b : PBuilder) (hb : b.front = F) (O : List Bool) (W : List Int) (hO : O.length = n) (hW : ∀ x ∈ W, 0 ≤ x ∧ x < (n : Int)) (hm : 2 * cnt O + W.length ≤ 300) :
    ∃ z, whl (fun (s : (List Bool × List Int)) => ssa_builder_closed.bd18 b s.1 s.2) FUEL (O, W) = some z ∧ z.length = n := by
  refine whl_ex (body := fun (s : (List Bool × List Int)) => ssa_builder_closed.bd18 b s.1 s.2) (fun s => s.1.length = n ∧ (∀ x ∈ s.2, 0 ≤ x ∧ x < (n : Int)) ∧ 2 * cnt s.1 + s.2.length ≤ 300) (fun s => 2 * cnt s.1 + s.2.length) (fun z => z.length = n) (fun s hs => ?_) FUEL (O, W) ⟨hO, hW, hm⟩ (small_max (by simp only; omega))
  obtain ⟨M, q⟩ := s
  obtain ⟨h1, h2, h3⟩ := hs
  simp only at h1 h2 h3
  simp only [ssa_builder_closed.bd18]
  rcases Nat.eq_zero_or_pos q.length with h0 | h0
  · exact .inl ⟨M, by rw [if_neg (by simp only [len]; omega)], h1⟩
  right
  have hw : w64 (len q - 1) = ((q.length - 1 : Nat) : Int) := by
    rw [show len q - 1 = ((q.length - 1 : Nat) : Int) by simp only [len]; omega]
    exact w64_nat (by omega)
  have hl : q.length - 1 < q.length := by omega
  have hx := h2 _ (List.getElem_mem hl)
  obtain ⟨row, r1, r2, r3, r4⟩ := hF.get hx.1 hx.2
  have hu : upto q ((q.length - 1 : Nat) : Int) = some (q.take (q.length - 1)) := by
    unfold upto; rw [if_pos ⟨by omega, by simp⟩]; simp
  obtain ⟨z, hz, hz1, hz2, hz3⟩ := whl_for (body := fun (s : (List Bool × List Int × Int)) => ssa_builder_closed.bd35 row s.1 s.2.1 s.2.2) (s0 := (M, q.take (q.length - 1), 0)) row.length
    (fun i s => s.2.2 = (i : Int) ∧ s.1.length = n ∧ (∀ x ∈ s.2.1, 0 ≤ x ∧ x < (n : Int)) ∧ 2 * cnt s.1 + s.2.1.length + 1 ≤ 2 * cnt M + q.length) (fun z => z.1.length = n ∧ (∀ x ∈ z.2, 0 ≤ x ∧ x < (n : Int)) ∧ 2 * cnt z.1 + z.2.length + 1 ≤ 2 * cnt M + q.length) (le_max (by omega) (Nat.le_refl 1000)) (fun i s hi hI => by
      obtain ⟨A, B, j⟩ := s
      obtain ⟨rfl, g1, g2, g3⟩ := hI
      simp only at g1 g2 g3
      right
      have hy := r4 _ (List.getElem_mem hi)
      obtain ⟨y, y1, y2⟩ := idx_in (xs := A) hy.1 (by rw [g1]; exact hy.2)
      simp only [ssa_builder_closed.bd35, len_lt, hi, if_true, idx_lt hi, Option.bind_some, y1, ssa_builder_closed.jn45, w64_i hi (show row.length ≤ 1000 by omega), cat_one (show B.length ≤ 1000 by omega)]
      cases y with
      | true => exact ⟨_, by simp; rfl, rfl, g1, g2, g3⟩
      | false =>
        have hc := cnt_set A _ y2
        refine ⟨_, by simp only [Bool.not_false, if_true]; rfl, rfl, by simp [g1], fun x hx => ?_, by simp only [List.length_append, List.length_singleton]; omega⟩
        rcases List.mem_append.1 hx with hx | hx
        · exact g2 x hx
        · rw [List.mem_singleton] at hx; subst hx; exact hy) (fun s hI => by
      obtain ⟨A, B, j⟩ := s
      obtain ⟨rfl, g1, g2, g3⟩ := hI
      exact ⟨(A, B), by simp [ssa_builder_closed.bd35, len], g1, g2, g3⟩) ⟨rfl, h1, fun x hx => h2 x (List.mem_of_mem_take hx), by simp only [List.length_take]; omega⟩
  refine ⟨z, ?_, ⟨hz1, hz2, by omega⟩, by omega⟩
  rw [if_pos (by simp only [len]; omega), hw, idx_lt hl]
  simp only [Option.bind_some, hu, hb, r1, hz]
  rfl
theorem closed_ok (hf : SmF f) (hpos : 0 < f.blocks.length) (b : PBuilder) (hb : b.f = f) (hF : Bel f.blocks.length f.blocks.length f.blocks.length b.front) (r : Int) : ∃ z, ssa_builder_closed b r = some z ∧ z.length = f.blocks.length := by
  have hn := hf.1
  unfold ssa_builder_closed
  obtain ⟨z, hz, hz1, hz2⟩ := whl_for (body := fun (s : (List Int × Int)) => ssa_builder_closed.bd9 b r s.1 s.2) (s0 := ([0], 0)) f.blocks.length
    (fun i s => s.2 = (i : Int) ∧ s.1.length ≤ i + 1 ∧ ∀ x ∈ s.1, 0 ≤ x ∧ x < (f.blocks.length : Int)) (fun z => z.length ≤ f.blocks.length + 1 ∧ ∀ x ∈ z, 0 ≤ x ∧ x < (f.blocks.length : Int)) (le_max hn (by omega)) (fun i s hi hI => by
      obtain ⟨A, j⟩ := s
      obtain ⟨rfl, g1, g2⟩ := hI
      simp only at g1 g2
      right
      obtain ⟨t, ht⟩ := defines_ok f.blocks[i].ins (hf.2.2.2 _ (List.getElem_mem hi)).1 r
      simp only [ssa_builder_closed.bd9, hb, len_lt, hi, if_true, idx_lt hi, Option.bind_some, ht, ssa_builder_closed.jn63, w64_i hi (show f.blocks.length ≤ 1000 by omega), cat_one (show A.length ≤ 1000 by omega)]
      cases t with
      | false => exact ⟨_, by simp; rfl, rfl, by simp only; omega, g2⟩
      | true =>
        refine ⟨_, by simp only [if_true]; rfl, rfl, by simp only [List.length_append, List.length_singleton]; omega, fun x hx => ?_⟩
        rcases List.mem_append.1 hx with hx | hx
        · exact g2 x hx
        · rw [List.mem_singleton] at hx; omega) (fun s hI => by
      obtain ⟨A, j⟩ := s
      obtain ⟨rfl, g1, g2⟩ := hI
      exact ⟨A, by simp [ssa_builder_closed.bd9, hb, len], g1, g2⟩) ⟨rfl, by simp, fun x hx => by simp at hx; omega⟩
  have hmk : mkl (len b.f.blocks) false = some (List.replicate f.blocks.length false) := by rw [hb]; exact mkl3 false (by omega)
  rw [hmk, hz]
  simp only [Option.bind_some, ssa_builder_closed.nx9]
  obtain ⟨y, hy, hy1⟩ := closed_work hn _ hF b rfl (List.replicate f.blocks.length false) z (by simp) hz2 (by unfold cnt; rw [List.count_replicate_self]; omega)
  rw [hy]
  exact ⟨y, rfl, hy1⟩
theorem place_rows (hf : SmF f) (hpos : 0 < f.blocks.length) (b : PBuilder) (hb : b.f = f) (hD : Dim f.blocks.length f.regs.length b.in_) (r : Nat) (hr : r < f.regs.length) (C : List Bool) (hC : C.length = f.blocks.length) (P : List (List Int)) (hP : Bel f.blocks.length r f.regs.length P) :
    ∃ z, whl (fun (s : (List (List Int) × Int)) => ssa_builder_place.bd29 b (r : Int) C s.1 s.2) FUEL (P, 0) = some z ∧ Bel f.blocks.length (r + 1) f.regs.length z := by
  have hn := hf.1
  have hrr := hf.2.1
  refine whl_for (body := fun (s : (List (List Int) × Int)) => ssa_builder_place.bd29 b (r : Int) C s.1 s.2) (s0 := (P, 0)) f.blocks.length
    (fun i s => s.2 = (i : Int) ∧ Bel f.blocks.length (r + 1) f.regs.length s.1 ∧ ∀ j row, i ≤ j → s.1[j]? = some row → row.length ≤ r) _ (le_max hn (by omega)) (fun i s hi hI => ?_) (fun s hI => ?_) ⟨rfl, hP.mono (by omega), fun j row _ hj => hP.few row (List.mem_of_getElem? hj)⟩
  · obtain ⟨A, j⟩ := s
    obtain ⟨rfl, g1, g2⟩ := hI
    simp only at g1 g2
    right
    have hi' : i < C.length := by omega
    obtain ⟨ro, o1, o2, o3⟩ := hD.get (b := (i : Int)) (by omega) (by omega)
    have hro : r < ro.length := by omega
    obtain ⟨row, q1, q2, q3, q4⟩ := g1.get (b := (i : Int)) (by omega) (by omega)
    have q5 := g2 i row (Nat.le_refl _) (by simpa using q2)
    have key : ∃ t : Bool, ssa_builder_place.bd29 b (r : Int) C A (i : Int) = if t = true then some (.go (A.set i (row ++ [(r : Int)]), ((i + 1 : Nat) : Int))) else some (.go (A, ((i + 1 : Nat) : Int))) := by
      refine ⟨C[i] && ro[r], ?_⟩
      simp only [ssa_builder_place.bd29, len_lt, hi', if_true, idx_lt hi', Option.bind_some, o1, idx_lt hro, q1, cat_one (show row.length ≤ 1000 by omega), ssa_builder_place.jn49, w64_i hi (show f.blocks.length ≤ 1000 by omega), Int.toNat_natCast]
      cases C[i] <;> cases ro[r] <;> simp
    obtain ⟨t, ht⟩ := key
    cases t with
    | false => exact ⟨_, by simpa using ht, rfl, g1, fun j row hj => g2 j row (by omega)⟩
    | true =>
      refine ⟨(A.set i (row ++ [(r : Int)]), ((i + 1 : Nat) : Int)), by simpa using ht, rfl, g1.set i (row := row ++ [(r : Int)]) (by simp only [List.length_append, List.length_singleton]; omega) (fun x hx => ?_), fun j row' hj hget => ?_⟩
      · rcases List.mem_append.1 hx with hx | hx
        · exact q4 x hx
        · rw [List.mem_singleton] at hx; omega
      · simp only at hget
        rw [List.getElem?_set_ne (by omega)] at hget
        exact g2 j row' (by omega) hget
  · obtain ⟨A, j⟩ := s
    obtain ⟨rfl, g1, g2⟩ := hI
    exact ⟨A, by simp [ssa_builder_place.bd29, len, hC], g1⟩
/-- the registers with a zero -/
structure Zs (c m : Nat) (l : List Int) : Prop where
  few : l.length ≤ c
  mem : ∀ x ∈ l, 0 ≤ x ∧ x < (m : Int)
theorem place_ok (hf : SmF f) (hpos : 0 < f.blocks.length) (b : PBuilder) (hb : b.f = f) (hD : Dim f.blocks.length f.regs.length b.in_) (hF : Bel f.blocks.length f.blocks.length f.blocks.length b.front) (hz0 : b.zeros = []) :
    ∃ z, ssa_builder_place b = some z ∧ Bel f.blocks.length f.regs.length f.regs.length z.1 ∧ Zs f.regs.length f.regs.length z.2 := by
  have hn := hf.1
  have hrr := hf.2.1
  unfold ssa_builder_place
  have hmk : mkl (len b.f.blocks) ([] : List Int) = some (List.replicate f.blocks.length []) := by rw [hb]; exact mkl3 [] (by omega)
  obtain ⟨z, hz, hz1⟩ := whl_for (body := fun (s : (List (List Int) × List Int × Int)) => ssa_builder_place.bd9 b s.1 s.2.1 s.2.2) (s0 := (List.replicate f.blocks.length [], [], 0)) f.regs.length
    (fun i s => s.2.2 = (i : Int) ∧ Bel f.blocks.length i f.regs.length s.1 ∧ Zs i f.regs.length s.2.1) (fun z => Bel f.blocks.length f.regs.length f.regs.length z.1 ∧ Zs f.regs.length f.regs.length z.2) (le_max hrr (by omega)) (fun r s hr hI => by
      obtain ⟨A, Z, j⟩ := s
      obtain ⟨rfl, g1, g2⟩ := hI
      simp only at g1 g2
      right
      obtain ⟨C, c1, c2⟩ := closed_ok hf hpos (⟨(⟨b.f.params, b.f.result, b.f.regs, b.f.blocks⟩ : PFunc), b.in_, b.front, b.nearest, A, Z, b.regs, b.phi, b.zero_, b.dst, b.begin, b.end_⟩ : PBuilder) (by rw [hb]) hF (r : Int)
      obtain ⟨y, y1, y2⟩ := place_rows hf hpos b hb hD r hr C c2 A g1
      obtain ⟨ro, o1, o2, o3⟩ := hD.get (b := 0) (by omega) (by omega)
      have hro : r < ro.length := by omega
      have hlt : (r : Int) < len b.f.regs := by rw [hb]; simp only [len]; omega
      have hZ := g2.few
      have key : ∃ t : Bool, ssa_builder_place.bd9 b A Z (r : Int) = if t = true then some (.go (y, Z ++ [(r : Int)], ((r + 1 : Nat) : Int))) else some (.go (y, Z, ((r + 1 : Nat) : Int))) := by
        refine ⟨decide ((r : Int) ≥ b.f.params) && ro[r], ?_⟩
        simp only [ssa_builder_place.bd9, hlt, if_true, c1, Option.bind_some, y1, ssa_builder_place.nx29, o1, idx_lt hro, cat_one (show Z.length ≤ 1000 by omega), ssa_builder_place.jn19, w64_i hr (show f.regs.length ≤ 1000 by omega)]
        by_cases e : (r : Int) ≥ b.f.params <;> cases ro[r] <;> simp [e]
      obtain ⟨t, ht⟩ := key
      cases t with
      | false => exact ⟨_, by simpa using ht, rfl, y2, ⟨by simp only; omega, g2.mem⟩⟩
      | true =>
        refine ⟨_, by simpa using ht, rfl, y2, ⟨by simp only [List.length_append, List.length_singleton]; omega, fun x hx => ?_⟩⟩
        rcases List.mem_append.1 hx with hx | hx
        · exact g2.mem x hx
        · rw [List.mem_singleton] at hx; omega) (fun s hI => by
      obtain ⟨A, Z, j⟩ := s
      obtain ⟨rfl, g1, g2⟩ := hI
      exact ⟨(A, Z), by simp [ssa_builder_place.bd9, len, hb], g1, g2⟩) ⟨rfl, Bel.rep _ _ _, by simp, by simp⟩
  rw [hmk, hz0]
  simp only [Option.bind_some, hz]
  exact ⟨z, rfl, hz1⟩
end Go.Proofs.Yteaknconpkklhaa
set_option linter.unusedVariables false
set_option linter.unusedSimpArgs false
namespace Go.Proofs.Yteaknconpkklhaa
open Go Go.Proofs
variable {f : PFunc} {R : List Int}
theorem cat_big {α : Type} {a : List α} {x : α} (h : a.length ≤ 1000000) : cat a [x] = some (a ++ [x]) := cat_ok (by simp only [LIM, List.length_singleton]; omega)
theorem fresh_ok (b : PBuilder) (hb : b.f = f) (r : Int) (h0 : 0 ≤ r) (h1 : r < (f.regs.length : Int)) (hl : b.regs.length ≤ 1000000) : ∃ x l, ssa_builder_fresh b r = some (x, l) ∧ l.length = b.regs.length + 1 ∧ 0 ≤ x := by
  obtain ⟨y, y1, _⟩ := idx_in h0 h1
  refine ⟨(b.regs.length : Int), b.regs ++ [y], ?_, by simp, by omega⟩
  unfold ssa_builder_fresh ssa_builder_fresh.jn4
  rw [hb, y1]
  simp only [Option.bind_some, cat_big hl]
  rw [show len (b.regs ++ [y]) - 1 = (b.regs.length : Int) by simp [len], w64_nat (by omega)]
theorem snoc_nn {l : List Int} {x : Int} (h : ∀ y ∈ l, 0 ≤ y) (hx : 0 ≤ x) : ∀ y ∈ l ++ [x], 0 ≤ y := fun y hy => by
  rcases List.mem_append.1 hy with hy | hy
  · exact h y hy
  · rw [List.mem_singleton] at hy; omega
theorem zeros_ok (hf : SmF f) (b : PBuilder) (hb : b.f = f) (hz : Zs f.regs.length f.regs.length b.zeros) (g : List Int) (hg : g.length ≤ 1000) :
    ∃ z, whl (fun (s : (List Int × List Int × Int)) => ssa_builder_number.bd12 b s.1 s.2.1 s.2.2) FUEL (g, [], 0) = some z ∧ z.1.length ≤ 1300 ∧ z.2.length = b.zeros.length ∧ ∀ x ∈ z.2, 0 ≤ x := by
  have hrr := hf.2.1
  have hzf := hz.few
  refine whl_for (body := fun (s : (List Int × List Int × Int)) => ssa_builder_number.bd12 b s.1 s.2.1 s.2.2) (s0 := (g, [], 0)) b.zeros.length
    (fun i s => s.2.2 = (i : Int) ∧ s.1.length ≤ 1000 + i ∧ s.2.1.length = i ∧ ∀ x ∈ s.2.1, 0 ≤ x) _ (le_max (by omega) (Nat.le_refl 1000)) (fun i s hi hI => ?_) (fun s hI => ?_) ⟨rfl, hg, rfl, by simp⟩
  · obtain ⟨A, Z, j⟩ := s
    obtain ⟨rfl, g1, g2, g3⟩ := hI
    simp only at g1 g2 g3
    right
    have hx := hz.mem _ (List.getElem_mem hi)
    obtain ⟨x, l, x1, x2, x3⟩ := fresh_ok (⟨(⟨b.f.params, b.f.result, b.f.regs, b.f.blocks⟩ : PFunc), b.in_, b.front, b.nearest, b.phis, b.zeros, A, b.phi, Z, b.dst, b.begin, b.end_⟩ : PBuilder) (by rw [hb]) b.zeros[i] hx.1 hx.2 (by simp only; omega)
    simp only at x2
    simp only [ssa_builder_number.bd12, len_lt, hi, if_true, idx_lt hi, Option.bind_some, x1, cat_one (show Z.length ≤ 1000 by omega), ssa_builder_number.jn654, w64_i hi (show b.zeros.length ≤ 1000 by omega)]
    exact ⟨_, rfl, rfl, by simp only; omega, by simp [g2], snoc_nn g3 x3⟩
  · obtain ⟨A, Z, j⟩ := s
    obtain ⟨rfl, g1, g2, g3⟩ := hI
    simp only at g1 g2 g3
    exact ⟨(A, Z), by simp [ssa_builder_number.bd12, len], by simp only; omega, g2, g3⟩
theorem numPhi_ok (hf : SmF f) (b : PBuilder) (hb : b.f = f) (z : List Int) (p d : List (List Int)) (row : List Int) (hr : row.length ≤ f.regs.length) (hm : ∀ x ∈ row, 0 ≤ x ∧ x < (f.regs.length : Int)) (g : List Int) (c : Nat) (hg : g.length ≤ c) (hc : c ≤ 500000) :
    ∃ y, whl (fun (s : (List Int × List Int × Int)) => ssa_builder_number.bd41 b z p d row s.1 s.2.1 s.2.2) FUEL (g, [], 0) = some y ∧ y.1.length ≤ c + 300 ∧ y.2.length = row.length ∧ ∀ x ∈ y.2, 0 ≤ x := by
  have hrr := hf.2.1
  refine whl_for (body := fun (s : (List Int × List Int × Int)) => ssa_builder_number.bd41 b z p d row s.1 s.2.1 s.2.2) (s0 := (g, [], 0)) row.length
    (fun i s => s.2.2 = (i : Int) ∧ s.1.length ≤ c + i ∧ s.2.1.length = i ∧ ∀ x ∈ s.2.1, 0 ≤ x) _ (le_max (by omega) (Nat.le_refl 1000)) (fun i s hi hI => ?_) (fun s hI => ?_) ⟨rfl, hg, rfl, by simp⟩
  · obtain ⟨A, Z, j⟩ := s
    obtain ⟨rfl, g1, g2, g3⟩ := hI
    simp only at g1 g2 g3
    right
    have hx := hm _ (List.getElem_mem hi)
    obtain ⟨x, l, x1, x2, x3⟩ := fresh_ok (⟨(⟨b.f.params, b.f.result, b.f.regs, b.f.blocks⟩ : PFunc), b.in_, b.front, b.nearest, b.phis, b.zeros, A, p, z, d, b.begin, b.end_⟩ : PBuilder) (by rw [hb]) row[i] hx.1 hx.2 (by simp only; omega)
    simp only at x2
    simp only [ssa_builder_number.bd41, len_lt, hi, if_true, idx_lt hi, Option.bind_some, x1, cat_one (show Z.length ≤ 1000 by omega), w64_i hi (show row.length ≤ 1000 by omega)]
    exact ⟨_, rfl, rfl, by simp only; omega, by simp [g2], snoc_nn g3 x3⟩
  · obtain ⟨A, Z, j⟩ := s
    obtain ⟨rfl, g1, g2, g3⟩ := hI
    simp only at g1 g2 g3
    exact ⟨(A, Z), by simp [ssa_builder_number.bd41, len], by simp only; omega, g2, g3⟩
/-- a block's new registers fit its instructions -/
structure Dst (B : PBlock) (row : List Int) : Prop where
  len : row.length = B.ins.length
  nn : ∀ t (ht : t < B.ins.length) (x : Int), 0 ≤ B.ins[t].dst → row[t]? = some x → 0 ≤ x
theorem numDst_ok (b : PBuilder) (hb : b.f = f) (z : List Int) (p d : List (List Int)) (B : PBlock) (hB : SmB B) (hR : RegsIn f.regs.length B) (g : List Int) (c : Nat) (hg : g.length ≤ c) (hc : c ≤ 500000) :
    ∃ y, whl (fun (s : (List Int × List Int × Int)) => ssa_builder_number.bd50 b z p d B s.1 s.2.1 s.2.2) FUEL (g, [], 0) = some y ∧ y.1.length ≤ c + 300 ∧ Dst B y.2 := by
  have hi3 := hB.1
  refine whl_for (body := fun (s : (List Int × List Int × Int)) => ssa_builder_number.bd50 b z p d B s.1 s.2.1 s.2.2) (s0 := (g, [], 0)) B.ins.length
    (fun i s => s.2.2 = (i : Int) ∧ s.1.length ≤ c + i ∧ s.2.1.length = i ∧ ∀ t (ht : t < B.ins.length) (x : Int), 0 ≤ B.ins[t].dst → s.2.1[t]? = some x → 0 ≤ x) _ (le_max (by omega) (Nat.le_refl 1000)) (fun i s hi hI => ?_) (fun s hI => ?_) ⟨rfl, hg, rfl, by simp⟩
  · obtain ⟨A, Z, j⟩ := s
    obtain ⟨rfl, g1, g2, g3⟩ := hI
    simp only at g1 g2 g3
    right
    have hx := hR.dst _ (List.getElem_mem hi)
    by_cases e : B.ins[i].dst < 0
    · simp only [ssa_builder_number.bd50, len_lt, hi, if_true, idx_lt hi, Option.bind_some, e, cat_one (show Z.length ≤ 1000 by omega), ssa_builder_number.jn622, w64_i hi (show B.ins.length ≤ 1000 by omega)]
      refine ⟨_, rfl, rfl, by simp only; omega, by simp [g2], fun t ht x h1 h2 => ?_⟩
      simp only at h2
      rcases Nat.lt_trichotomy t Z.length with h | h | h
      · rw [List.getElem?_append_left h] at h2; exact g3 t ht x h1 h2
      · obtain rfl : t = i := by omega
        omega
      · rw [List.getElem?_eq_none (by simp; omega)] at h2; cases h2
    · obtain ⟨x, l, x1, x2, x3⟩ := fresh_ok (⟨(⟨b.f.params, b.f.result, b.f.regs, b.f.blocks⟩ : PFunc), b.in_, b.front, b.nearest, b.phis, b.zeros, A, p, z, d, b.begin, b.end_⟩ : PBuilder) (by rw [hb]) B.ins[i].dst (by omega) hx (by simp only; omega)
      simp only at x2
      simp only [ssa_builder_number.bd50, len_lt, hi, if_true, idx_lt hi, Option.bind_some, e, if_false, x1, cat_one (show Z.length ≤ 1000 by omega), ssa_builder_number.jn622, w64_i hi (show B.ins.length ≤ 1000 by omega)]
      refine ⟨_, rfl, rfl, by simp only; omega, by simp [g2], fun t ht x h1 h2 => ?_⟩
      simp only at h2
      rcases Nat.lt_trichotomy t Z.length with h | h | h
      · rw [List.getElem?_append_left h] at h2; exact g3 t ht x h1 h2
      · subst h
        rw [List.getElem?_append_right (Nat.le_refl _)] at h2
        simp at h2; omega
      · rw [List.getElem?_eq_none (by simp; omega)] at h2; cases h2
  · obtain ⟨A, Z, j⟩ := s
    obtain ⟨rfl, g1, g2, g3⟩ := hI
    simp only at g1 g2 g3
    exact ⟨(A, Z), by simp [ssa_builder_number.bd50, len], by simp only; omega, g2, g3⟩
structure Num (f : PFunc) (phis : List (List Int)) (i : Nat) (p d : List (List Int)) : Prop where
  lp : p.length = i
  ld : d.length = i
  pr : ∀ j, j < i → ∃ q row, phis[j]? = some q ∧ p[j]? = some row ∧ row.length = q.length ∧ ∀ x ∈ row, 0 ≤ x
  dr : ∀ j (hj : j < f.blocks.length), j < i → ∃ row, d[j]? = some row ∧ Dst f.blocks[j] row
theorem Num.next {phis : List (List Int)} {i : Nat} {p d : List (List Int)} (h : Num f phis i p d) {q row dro : List Int} (hq : phis[i]? = some q) (h1 : row.length = q.length) (h2 : ∀ x ∈ row, 0 ≤ x) (hi : i < f.blocks.length) (h3 : Dst f.blocks[i] dro) : Num f phis (i + 1) (p ++ [row]) (d ++ [dro]) := by
  have hp := h.lp
  have hd := h.ld
  refine ⟨by simp [hp], by simp [hd], fun j hj => ?_, fun j hj hji => ?_⟩
  · by_cases e : j < i
    · obtain ⟨q, row, a, b, c⟩ := h.pr j e
      exact ⟨q, row, a, by rw [List.getElem?_append_left (by omega)]; exact b, c⟩
    · obtain rfl : j = i := by omega
      exact ⟨q, row, hq, by rw [List.getElem?_append_right (by omega), hp]; simp, h1, h2⟩
  · by_cases e : j < i
    · obtain ⟨row, a, b⟩ := h.dr j hj e
      exact ⟨row, by rw [List.getElem?_append_left (by omega)]; exact a, b⟩
    · obtain rfl : j = i := by omega
      exact ⟨dro, by rw [List.getElem?_append_right (by omega), hd]; simp, h3⟩
theorem lin1 {a c i : Nat} (h : a ≤ c + 300 + 300) (hc : c = 1300 + i * 600) : a ≤ 1300 + (i + 1) * 600 := by omega
theorem number_ok (hf : SmF f) (hR : ∀ B ∈ f.blocks, RegsIn f.regs.length B) (h0 : 0 ≤ f.params) (h1 : f.params ≤ (f.regs.length : Int)) (b : PBuilder) (hb : b.f = f) (hP : Bel f.blocks.length f.regs.length f.regs.length b.phis) (hz : Zs f.regs.length f.regs.length b.zeros) (e1 : b.phi = []) (e2 : b.zero_ = []) (e3 : b.dst = []) :
    ∃ g p z d, ssa_builder_number b = some (g, p, z, d) ∧ z.length = b.zeros.length ∧ (∀ x ∈ z, 0 ≤ x) ∧ Num f b.phis f.blocks.length p d := by
  have hn := hf.1
  have hrr := hf.2.1
  unfold ssa_builder_number ssa_builder_number.jn4
  have hu : upto b.f.regs b.f.params = some (f.regs.take f.params.toNat) := by
    rw [hb]; unfold upto; rw [if_pos ⟨h0, by omega⟩]
  rw [hu]
  simp only [Option.bind_some, clone_eq _ (show (f.regs.take f.params.toNat).length ≤ 1000 by simp; omega), e2]
  obtain ⟨y, hy, y1, y2, y3⟩ := zeros_ok hf b hb hz (f.regs.take f.params.toNat) (by simp; omega)
  rw [hy]
  simp only [Option.bind_some, ssa_builder_number.nx12, e1, e3]
  obtain ⟨w, hw, hw1⟩ := whl_for (body := fun (s : (List Int × List (List Int) × List (List Int) × Int)) => ssa_builder_number.bd21 b y.2 s.1 s.2.1 s.2.2.1 s.2.2.2) (s0 := (y.1, [], [], 0)) f.blocks.length
    (fun i s => s.2.2.2 = (i : Int) ∧ s.1.length ≤ 1300 + i * 600 ∧ Num f b.phis i s.2.1 s.2.2.1) (fun z => Num f b.phis f.blocks.length z.2.1 z.2.2) (le_max hn (by omega)) (fun i s hi hI => by
      obtain ⟨A, p, d, j⟩ := s
      obtain ⟨rfl, g1, g2⟩ := hI
      simp only at g1 g2
      right
      obtain ⟨q, q1, q2, q3, q4⟩ := hP.get (b := (i : Int)) (by omega) (by omega)
      obtain ⟨c, hc⟩ : ∃ c, c = 1300 + i * 600 := ⟨_, rfl⟩
      rw [← hc] at g1
      obtain ⟨u, u1, u2, u3, u4⟩ := numPhi_ok hf b hb y.2 p d q q3 q4 A c g1 (by omega)
      obtain ⟨v, v1, v2, v3⟩ := numDst_ok b hb y.2 p d f.blocks[i] (hf.2.2.2 _ (List.getElem_mem hi)) (hR _ (List.getElem_mem hi)) u.1 (c + 300) u2 (by omega)
      have hlp := g2.lp
      have hld := g2.ld
      simp only [ssa_builder_number.bd21, hb, len_lt, hi, if_true, idx_lt hi, Option.bind_some, q1, u1, ssa_builder_number.nx41, v1, ssa_builder_number.nx50, cat_one (show p.length ≤ 1000 by omega), cat_one (show d.length ≤ 1000 by omega), ssa_builder_number.jn31, w64_i hi (show f.blocks.length ≤ 1000 by omega)]
      have hv : v.1.length ≤ 1300 + (i + 1) * 600 := lin1 v2 hc
      exact ⟨_, rfl, rfl, hv, g2.next (by simpa using q2) u3 u4 hi v3⟩) (fun s hI => by
      obtain ⟨A, p, d, j⟩ := s
      obtain ⟨rfl, g1, g2⟩ := hI
      exact ⟨(A, p, d), by simp [ssa_builder_number.bd21, len, hb], g2⟩) ⟨rfl, by simp only; omega, ⟨rfl, rfl, fun j hj => by omega, fun j _ hj => by omega⟩⟩
  rw [hw]
  exact ⟨_, _, _, _, rfl, y2, y3, hw1⟩
theorem first_ok (hf : SmF f) (b : PBuilder) (hb : b.f = f) (hz : Zs f.regs.length f.regs.length b.zeros) (hl : b.zero_.length = b.zeros.length) : ∃ v, ssa_builder_first b = some v ∧ v.length = f.regs.length := by
  have hrr := hf.2.1
  unfold ssa_builder_first
  have hmk : mkl (len b.f.regs) (0 : Int) = some (List.replicate f.regs.length 0) := by rw [hb]; exact mkl3 0 (by omega)
  obtain ⟨w, hw, hw1⟩ := whl_for (body := fun (s : (List Int × Int)) => ssa_builder_first.bd9 b (List.replicate f.regs.length 0) s.1 s.2) (s0 := (List.replicate f.regs.length 0, 0)) f.regs.length
    (fun i s => s.2 = (i : Int) ∧ s.1.length = f.regs.length) (fun z => z.length = f.regs.length) (le_max hrr (by omega)) (fun i s hi hI => by
      obtain ⟨A, j⟩ := s
      obtain ⟨rfl, g1⟩ := hI
      simp only at g1
      right
      have hi' : i < A.length := by omega
      have hi2 : i < (A.set i (-1)).length := by simp; omega
      simp only [ssa_builder_first.bd9, len_lt, List.length_replicate, hi, if_true, idx_lt hi', Option.bind_some, Int.toNat_natCast, idx_lt hi2, ssa_builder_first.jn40, w64_i hi (show f.regs.length ≤ 1000 by omega)]
      by_cases e : (i : Int) < b.f.params
      · rw [if_pos e]; exact ⟨_, rfl, rfl, by simp [g1]⟩
      · rw [if_neg e]; exact ⟨_, rfl, rfl, by simp [g1]⟩) (fun s hI => by
      obtain ⟨A, j⟩ := s
      obtain ⟨rfl, g1⟩ := hI
      exact ⟨A, by simp [ssa_builder_first.bd9, len], g1⟩) ⟨rfl, by simp⟩
  rw [hmk]
  simp only [Option.bind_some, hw, ssa_builder_first.nx9]
  have hzf := hz.few
  obtain ⟨y, hy, hy1⟩ := whl_for (body := fun (s : (List Int × Int)) => ssa_builder_first.bd18 b s.1 s.2) (s0 := (w, 0)) b.zeros.length
    (fun i s => s.2 = (i : Int) ∧ s.1.length = f.regs.length) (fun z => z.length = f.regs.length) (le_max (by omega) (Nat.le_refl 1000)) (fun i s hi hI => by
      obtain ⟨A, j⟩ := s
      obtain ⟨rfl, g1⟩ := hI
      simp only at g1
      right
      have hi' : i < b.zero_.length := by omega
      have hx := hz.mem _ (List.getElem_mem hi)
      obtain ⟨y, y1, _⟩ := idx_in (xs := A) hx.1 (by rw [g1]; exact hx.2)
      simp only [ssa_builder_first.bd18, len_lt, hi, if_true, idx_lt hi, idx_lt hi', y1, Option.bind_some, w64_i hi (show b.zeros.length ≤ 1000 by omega)]
      exact ⟨_, rfl, rfl, by simp [g1]⟩) (fun s hI => by
      obtain ⟨A, j⟩ := s
      obtain ⟨rfl, g1⟩ := hI
      exact ⟨A, by simp [ssa_builder_first.bd18, len], g1⟩) ⟨rfl, hw1⟩
  rw [hy]
  exact ⟨y, rfl, hy1⟩
end Go.Proofs.Yteaknconpkklhaa
set_option linter.unusedVariables false
set_option linter.unusedSimpArgs false
namespace Go.Proofs.Yteaknconpkklhaa
open Go Go.Proofs
variable {f : PFunc} {R : List Int}
/-- a table of n rows, each of length k where D says so -/
structure Rw (n k : Nat) (D : Nat → Prop) (T : List (List Int)) : Prop where
  len : T.length = n
  row : ∀ v, v < n → D v → ∃ row, T[v]? = some row ∧ row.length = k
theorem Rw.get {n k : Nat} {D : Nat → Prop} {T : List (List Int)} (h : Rw n k D T) {b : Int} (h0 : 0 ≤ b) (h1 : b < (n : Int)) (hD : D b.toNat) : ∃ row, idx T b = some row ∧ T[b.toNat]? = some row ∧ row.length = k := by
  obtain ⟨row, r1, r2⟩ := h.row b.toNat (by omega) hD
  exact ⟨row, by unfold idx; rw [if_pos h0]; exact r1, r1, r2⟩
theorem Rw.set {n k : Nat} {D D' : Nat → Prop} {T : List (List Int)} (h : Rw n k D T) (v : Nat) (hv : v < n) {row : List Int} (hr : row.length = k) (hD : ∀ w, D' w → D w ∨ w = v) : Rw n k D' (T.set v row) := by
  refine ⟨by simp [h.len], fun w hw hd => ?_⟩
  by_cases e : v = w
  · subst e; exact ⟨row, by rw [List.getElem?_set_self (by rw [h.len]; exact hv)], hr⟩
  · rw [List.getElem?_set_ne e]
    rcases hD w hd with h1 | h1
    · exact h.row w hw h1
    · exact absurd h1.symm e
theorem verPhi_ok (hf : SmF f) (b : PBuilder) (i : Nat) (q row : List Int) (hq : q.length ≤ f.regs.length) (hm : ∀ x ∈ q, 0 ≤ x ∧ x < (f.regs.length : Int)) (hp : b.phi[i]? = some row) (hl : row.length = q.length) (v : List Int) (hv : v.length = f.regs.length) :
    ∃ z, whl (fun (s : (List Int × Int)) => ssa_builder_versions.bd36 b (i : Int) q s.1 s.2) FUEL (v, 0) = some z ∧ z.length = f.regs.length := by
  have hrr := hf.2.1
  refine whl_for (body := fun (s : (List Int × Int)) => ssa_builder_versions.bd36 b (i : Int) q s.1 s.2) (s0 := (v, 0)) q.length
    (fun i s => s.2 = (i : Int) ∧ s.1.length = f.regs.length) _ (le_max (by omega) (Nat.le_refl 1000)) (fun t s ht hI => ?_) (fun s hI => ?_) ⟨rfl, hv⟩
  · obtain ⟨A, j⟩ := s
    obtain ⟨rfl, g1⟩ := hI
    simp only at g1
    right
    have hx := hm _ (List.getElem_mem ht)
    obtain ⟨y, y1, _⟩ := idx_in (xs := A) hx.1 (by rw [g1]; exact hx.2)
    have hpi : idx b.phi (i : Int) = some row := by rw [idx_nat]; exact hp
    have ht' : t < row.length := by omega
    simp only [ssa_builder_versions.bd36, len_lt, ht, if_true, idx_lt ht, hpi, idx_lt ht', y1, Option.bind_some, w64_i ht (show q.length ≤ 1000 by omega)]
    exact ⟨_, rfl, rfl, by simp [g1]⟩
  · obtain ⟨A, j⟩ := s
    obtain ⟨rfl, g1⟩ := hI
    exact ⟨A, by simp [ssa_builder_versions.bd36, len], g1⟩
theorem verIns_ok (b : PBuilder) (i : Nat) (B : PBlock) (hB : SmB B) (hR : RegsIn f.regs.length B) (row : List Int) (hp : b.dst[i]? = some row) (hl : Dst B row) (v : List Int) (hv : v.length = f.regs.length) :
    ∃ z, whl (fun (s : (List Int × Int)) => ssa_builder_versions.bd55 b (i : Int) B s.1 s.2) FUEL (v, 0) = some z ∧ z.length = f.regs.length := by
  have hi3 := hB.1
  refine whl_for (body := fun (s : (List Int × Int)) => ssa_builder_versions.bd55 b (i : Int) B s.1 s.2) (s0 := (v, 0)) B.ins.length
    (fun i s => s.2 = (i : Int) ∧ s.1.length = f.regs.length) _ (le_max (by omega) (Nat.le_refl 1000)) (fun t s ht hI => ?_) (fun s hI => ?_) ⟨rfl, hv⟩
  · obtain ⟨A, j⟩ := s
    obtain ⟨rfl, g1⟩ := hI
    simp only at g1
    right
    have hx := hR.dst _ (List.getElem_mem ht)
    have hpi : idx b.dst (i : Int) = some row := by rw [idx_nat]; exact hp
    have ht' : t < row.length := by rw [hl.len]; exact ht
    by_cases e : B.ins[t].dst ≥ 0
    · obtain ⟨y, y1, _⟩ := idx_in (xs := A) e (by rw [g1]; exact hx)
      simp only [ssa_builder_versions.bd55, len_lt, ht, if_true, idx_lt ht, hpi, idx_lt ht', y1, Option.bind_some, e, ssa_builder_versions.jn66, w64_i ht (show B.ins.length ≤ 1000 by omega)]
      exact ⟨_, rfl, rfl, by simp [g1]⟩
    · simp only [ssa_builder_versions.bd55, len_lt, ht, if_true, idx_lt ht, Option.bind_some, e, if_false, ssa_builder_versions.jn66, w64_i ht (show B.ins.length ≤ 1000 by omega)]
      exact ⟨_, rfl, rfl, g1⟩
  · obtain ⟨A, j⟩ := s
    obtain ⟨rfl, g1⟩ := hI
    exact ⟨A, by simp [ssa_builder_versions.bd55, len], g1⟩
theorem version_ok (hf : SmF f) (hR : ∀ B ∈ f.blocks, RegsIn f.regs.length B) (b : PBuilder) (hb : b.f = f) (hP : Bel f.blocks.length f.regs.length f.regs.length b.phis) (hN : Num f b.phis f.blocks.length b.phi b.dst)
    (S E : List (List Int)) (t : Int) (i : Nat) (hi : i < f.blocks.length) (hS : S.length = f.blocks.length) (hE : E.length = f.blocks.length) (v : List Int) (hv : v.length = f.regs.length) :
    ∃ s e, ssa_builder_versions.jn27 b S E t (i : Int) v = some (.go (S.set i s, E.set i e, w64 (t + 1))) ∧ s.length = f.regs.length ∧ e.length = f.regs.length := by
  have hrr := hf.2.1
  obtain ⟨q, q1, q2, q3, q4⟩ := hP.get (b := (i : Int)) (by omega) (by omega)
  obtain ⟨q', row, p1, p2, p3, _⟩ := hN.pr i hi
  have hq : q' = q := by rw [Int.toNat_natCast] at q2; rw [q2] at p1; exact (Option.some.inj p1).symm
  subst hq
  obtain ⟨dr, d1, d2⟩ := hN.dr i hi hi
  obtain ⟨w, w1, w2⟩ := verPhi_ok hf b i q' row q3 q4 p2 p3 v hv
  obtain ⟨u, u1, u2⟩ := verIns_ok b i f.blocks[i] (hf.2.2.2 _ (List.getElem_mem hi)) (hR _ (List.getElem_mem hi)) dr d1 d2 w w2
  have his : i < S.length := by omega
  have hie : i < E.length := by omega
  refine ⟨w, u, ?_, w2, u2⟩
  simp only [ssa_builder_versions.jn27, q1, Option.bind_some, w1, ssa_builder_versions.nx36, clone_eq w (by omega), idx_lt his, hb, idx_lt hi, u1, ssa_builder_versions.nx55, idx_lt hie, Int.toNat_natCast]
theorem versions_ok (h : Full f R) {N : Nat → Nat} {L : List Int} (hNr : Near f R N L) (hR : ∀ B ∈ f.blocks, RegsIn f.regs.length B) (b : PBuilder) (hb : b.f = f) (hL : b.nearest = L) (hP : Bel f.blocks.length f.regs.length f.regs.length b.phis) (hN : Num f b.phis f.blocks.length b.phi b.dst)
    (hz : Zs f.regs.length f.regs.length b.zeros) (hl : b.zero_.length = b.zeros.length) :
    ∃ S E, ssa_builder_versions b = some (S, E) ∧ Rw f.blocks.length f.regs.length (fun _ => True) S ∧ Rw f.blocks.length f.regs.length (fun _ => True) E := by
  have hf := h.sm
  have hn := hf.1
  have hrr := hf.2.1
  have hpos := h.pos
  unfold ssa_builder_versions ssa_builder_versions.jn4
  have hmk : mkl (len b.f.blocks) ([] : List Int) = some (List.replicate f.blocks.length []) := by rw [hb]; exact mkl3 [] (by omega)
  rw [hmk, hb, h.ord]
  simp only [Option.bind_some]
  obtain ⟨z, hz, hz1, hz2⟩ := whl_for (body := fun (s : (List (List Int) × List (List Int) × Int)) => ssa_builder_versions.bd14 b R s.1 s.2.1 s.2.2) (s0 := (List.replicate f.blocks.length [], List.replicate f.blocks.length [], 0)) f.blocks.length
    (fun i s => s.2.2 = (i : Int) ∧ Rw f.blocks.length f.regs.length (fun v => pb R v < i) s.1 ∧ Rw f.blocks.length f.regs.length (fun v => pb R v < i) s.2.1) (fun z => Rw f.blocks.length f.regs.length (fun _ => True) z.1 ∧ Rw f.blocks.length f.regs.length (fun _ => True) z.2) (le_max hn (by omega)) (fun i s hi hI => by
      obtain ⟨S, E, j⟩ := s
      obtain ⟨rfl, g1, g2⟩ := hI
      simp only at g1 g2
      right
      obtain ⟨o1, o2⟩ := h.get hi
      have hix : idx R (i : Int) = some ((ob R i : Nat) : Int) := by rw [idx_nat]; exact o1
      have hlt : (i : Int) < len R := by simp only [len, h.len]; omega
      have key : ∃ v, v.length = f.regs.length ∧ ssa_builder_versions.bd14 b R S E (i : Int) = ssa_builder_versions.jn27 b S E (i : Int) ((ob R i : Nat) : Int) v := by
        simp only [ssa_builder_versions.bd14, hlt, if_true, hix, Option.bind_some]
        by_cases e : ((ob R i : Nat) : Int) = 0
        · obtain ⟨v, v1, v2⟩ := first_ok hf (⟨(⟨b.f.params, b.f.result, b.f.regs, b.f.blocks⟩ : PFunc), b.in_, b.front, b.nearest, b.phis, b.zeros, b.regs, b.phi, b.zero_, b.dst, S, E⟩ : PBuilder) (by rw [hb]) hz hl
          exact ⟨v, v2, by rw [if_pos e, v1]; rfl⟩
        · have h0 : 0 < i := by
            rcases Nat.eq_zero_or_pos i with rfl | h0
            · rw [h.ob0] at e; exact absurd rfl e
            · exact h0
          have hni : N i < i := hNr.nr.dn i (by omega) hi
          have hge := hNr.get i h0 hi
          have hnx : idx b.nearest ((ob R i : Nat) : Int) = some ((ob R (N i) : Nat) : Int) := by rw [hL, idx_nat]; exact hge
          have hol := (h.get (i := N i) (by omega)).2
          obtain ⟨v, v1, _, v2⟩ := g2.get (b := ((ob R (N i) : Nat) : Int)) (by omega) (by omega) (by rw [Int.toNat_natCast, h.pb_ob (by omega)]; exact hni)
          exact ⟨v, v2, by rw [if_neg e, hnx]; simp only [Option.bind_some, v1, clone_eq v (by omega)]⟩
      obtain ⟨v, v1, v2⟩ := key
      obtain ⟨s, e, j1, j2, j3⟩ := version_ok hf hR b hb hP hN S E (i : Int) (ob R i) o2 g1.len g2.len v v1
      refine ⟨_, v2.trans j1, w64_i hi (by omega), g1.set _ o2 j2 (fun w hw => ?_), g2.set _ o2 j3 (fun w hw => ?_)⟩ <;>
      · by_cases e : pb R w < i
        · exact .inl e
        · right
          have : pb R w = i := by omega
          by_cases hwn : w < f.blocks.length
          · rw [← (h.ob_pb hwn).1, this]
          · exact absurd hw (by
              have : pb R w = R.length := by
                unfold pb
                exact List.idxOf_eq_length (fun hm => by
                  obtain ⟨k, hk, hk2⟩ := List.getElem_of_mem hm
                  obtain ⟨x, x1, x2⟩ := h.all k hk
                  rw [x1] at hk2; omega)
              rw [this, h.len]; omega)) (fun s hI => by
      obtain ⟨S, E, j⟩ := s
      obtain ⟨rfl, g1, g2⟩ := hI
      exact ⟨(S, E), by simp [ssa_builder_versions.bd14, len, h.len], ⟨g1.len, fun v hv _ => g1.row v hv (h.ob_pb hv).2⟩, ⟨g2.len, fun v hv _ => g2.row v hv (h.ob_pb hv).2⟩⟩) ⟨rfl, ⟨by simp, fun v _ hv => by omega⟩, ⟨by simp, fun v _ hv => by omega⟩⟩
  rw [hz]
  exact ⟨_, _, rfl, hz1, hz2⟩
end Go.Proofs.Yteaknconpkklhaa
set_option linter.unusedVariables false
set_option linter.unusedSimpArgs false
namespace Go.Proofs.Yteaknconpkklhaa
open Go Go.Proofs
variable {f : PFunc} {R : List Int}
/-- what a builder holds when blocks are built -/
structure Bl (f : PFunc) (b : PBuilder) : Prop where
  func : b.f = f
  phis : Bel f.blocks.length f.regs.length f.regs.length b.phis
  num : Num f b.phis f.blocks.length b.phi b.dst
  zero : b.zero_.length ≤ f.regs.length
  begin : Rw f.blocks.length f.regs.length (fun _ => True) b.begin
  end_ : Rw f.blocks.length f.regs.length (fun _ => True) b.end_
theorem phiArgs_ok (hf : SmF f) (b : PBuilder) (hb : Bl f b) (ah : List Int) (ha : ah.length ≤ 70) (hm : ∀ x ∈ ah, 0 ≤ x ∧ x < (f.blocks.length : Int)) (r : Int) (h0 : 0 ≤ r) (h1 : r < (f.regs.length : Int)) :
    ∃ z, whl (fun (s : (List Int × Int)) => ssa_builder_block.bd144 b ah r s.1 s.2) FUEL ([], 0) = some z ∧ z.length = ah.length := by
  refine whl_for (body := fun (s : (List Int × Int)) => ssa_builder_block.bd144 b ah r s.1 s.2) (s0 := ([], 0)) ah.length
    (fun i s => s.2 = (i : Int) ∧ s.1.length = i) _ (le_max (by omega) (Nat.le_refl 1000)) (fun t s ht hI => ?_) (fun s hI => ?_) ⟨rfl, rfl⟩
  · obtain ⟨A, j⟩ := s
    obtain ⟨rfl, g1⟩ := hI
    simp only at g1
    right
    have hx := hm _ (List.getElem_mem ht)
    obtain ⟨row, r1, _, r2⟩ := hb.end_.get hx.1 hx.2 trivial
    obtain ⟨y, y1, _⟩ := idx_in (xs := row) h0 (by rw [r2]; exact h1)
    simp only [ssa_builder_block.bd144, len_lt, ht, if_true, idx_lt ht, r1, y1, Option.bind_some, cat_one (show A.length ≤ 1000 by omega), ssa_builder_block.jn155, w64_i ht (show ah.length ≤ 1000 by omega)]
    exact ⟨_, rfl, rfl, by simp [g1]⟩
  · obtain ⟨A, j⟩ := s
    obtain ⟨rfl, g1⟩ := hI
    exact ⟨A, by simp [ssa_builder_block.bd144, len], g1⟩
theorem blockPhis_ok (hf : SmF f) (b : PBuilder) (hb : Bl f b) (i : Nat) (hi : i < f.blocks.length) (ah : List Int) (ha : ah.length ≤ 70) (hm : ∀ x ∈ ah, 0 ≤ x ∧ x < (f.blocks.length : Int)) (q row : List Int) (hq : q.length ≤ f.regs.length) (hqm : ∀ x ∈ q, 0 ≤ x ∧ x < (f.regs.length : Int)) (hp : b.phi[i]? = some row) (hl : row.length = q.length) :
    ∃ z, whl (fun (s : (List PPhi × Int)) => ssa_builder_block.bd9 b (i : Int) ah q s.1 s.2) FUEL ([], 0) = some z ∧ z.length ≤ 300 ∧ ∀ p ∈ z, p.args.length ≤ 300 := by
  have hrr := hf.2.1
  refine whl_for (body := fun (s : (List PPhi × Int)) => ssa_builder_block.bd9 b (i : Int) ah q s.1 s.2) (s0 := ([], 0)) q.length
    (fun i s => s.2 = (i : Int) ∧ s.1.length = i ∧ ∀ p ∈ s.1, p.args.length ≤ 300) _ (le_max (by omega) (Nat.le_refl 1000)) (fun t s ht hI => ?_) (fun s hI => ?_) ⟨rfl, rfl, by simp⟩
  · obtain ⟨A, j⟩ := s
    obtain ⟨rfl, g1, g2⟩ := hI
    simp only at g1 g2
    right
    have hx := hqm _ (List.getElem_mem ht)
    obtain ⟨z, z1, z2⟩ := phiArgs_ok hf b hb ah ha hm q[t] hx.1 hx.2
    have hpi : idx b.phi (i : Int) = some row := by rw [idx_nat]; exact hp
    have ht' : t < row.length := by omega
    simp only [ssa_builder_block.bd9, len_lt, ht, if_true, idx_lt ht, hpi, idx_lt ht', z1, Option.bind_some, ssa_builder_block.nx144, cat_one (show A.length ≤ 1000 by omega), w64_i ht (show q.length ≤ 1000 by omega)]
    refine ⟨_, rfl, rfl, by simp [g1], fun p hp => ?_⟩
    rcases List.mem_append.1 hp with hp | hp
    · exact g2 p hp
    · rw [List.mem_singleton] at hp; subst hp; simp only; omega
  · obtain ⟨A, j⟩ := s
    obtain ⟨rfl, g1, g2⟩ := hI
    simp only at g1 g2
    exact ⟨A, by simp [ssa_builder_block.bd9, len], by omega, g2⟩
theorem blockZero_ok (b : PBuilder) (hl : b.zero_.length ≤ 300) :
    ∃ z, whl (fun (s : (List PInstr × Int)) => ssa_builder_block.bd114 b s.1 s.2) FUEL ([], 0) = some z ∧ z.length ≤ 300 ∧ ∀ x ∈ z, x.args.length ≤ 300 := by
  refine whl_for (body := fun (s : (List PInstr × Int)) => ssa_builder_block.bd114 b s.1 s.2) (s0 := ([], 0)) b.zero_.length
    (fun i s => s.2 = (i : Int) ∧ s.1.length = i ∧ ∀ p ∈ s.1, p.args.length ≤ 300) _ (le_max hl (by omega)) (fun t s ht hI => ?_) (fun s hI => ?_) ⟨rfl, rfl, by simp⟩
  · obtain ⟨A, j⟩ := s
    obtain ⟨rfl, g1, g2⟩ := hI
    simp only at g1 g2
    right
    simp only [ssa_builder_block.bd114, len_lt, ht, if_true, idx_lt ht, Option.bind_some, cat_one (show A.length ≤ 1000 by omega), w64_i ht (show b.zero_.length ≤ 1000 by omega)]
    refine ⟨_, rfl, rfl, by simp [g1], fun p hp => ?_⟩
    rcases List.mem_append.1 hp with hp | hp
    · exact g2 p hp
    · rw [List.mem_singleton] at hp; subst hp; simp
  · obtain ⟨A, j⟩ := s
    obtain ⟨rfl, g1, g2⟩ := hI
    simp only at g1 g2
    exact ⟨A, by simp [ssa_builder_block.bd114, len], by omega, g2⟩
theorem instrArgs_ok {k : Nat} (x : PInstr) (hx : x.args.length ≤ 300) (v : List Int) (hv : v.length = k) (hm : ∀ a ∈ x.args, 0 ≤ a ∧ a < (k : Int)) :
    ∃ z, whl (fun (s : (List Int × Int)) => ssa_builder_block.bd66 v x s.1 s.2) FUEL ([], 0) = some z ∧ z.length = x.args.length := by
  refine whl_for (body := fun (s : (List Int × Int)) => ssa_builder_block.bd66 v x s.1 s.2) (s0 := ([], 0)) x.args.length
    (fun i s => s.2 = (i : Int) ∧ s.1.length = i) _ (le_max hx (by omega)) (fun t s ht hI => ?_) (fun s hI => ?_) ⟨rfl, rfl⟩
  · obtain ⟨A, j⟩ := s
    obtain ⟨rfl, g1⟩ := hI
    simp only at g1
    right
    have hx := hm _ (List.getElem_mem ht)
    obtain ⟨y, y1, _⟩ := idx_in (xs := v) hx.1 (by rw [hv]; exact hx.2)
    simp only [ssa_builder_block.bd66, len_lt, ht, if_true, idx_lt ht, y1, Option.bind_some, cat_one (show A.length ≤ 1000 by omega), ssa_builder_block.jn83, w64_i ht (show x.args.length ≤ 1000 by omega)]
    exact ⟨_, rfl, rfl, by simp [g1]⟩
  · obtain ⟨A, j⟩ := s
    obtain ⟨rfl, g1⟩ := hI
    exact ⟨A, by simp [ssa_builder_block.bd66, len], g1⟩
theorem blockIns_ok (hf : SmF f) (b : PBuilder) (hb : Bl f b) (i : Nat) (B : PBlock) (hB : SmB B) (hR : RegsIn f.regs.length B) (dr : List Int) (hd : b.dst[i]? = some dr) (hD : Dst B dr) (P : List PInstr) (hP : P.length ≤ 300) (hP2 : ∀ x ∈ P, x.args.length ≤ 300) (v : List Int) (hv : v.length = f.regs.length) :
    ∃ z, whl (fun (s : (List PInstr × List Int × Int)) => ssa_builder_block.bd26 b (i : Int) B s.1 s.2.1 s.2.2) FUEL (P, v, 0) = some z ∧ z.2.length = f.regs.length ∧ z.1.length = P.length + B.ins.length ∧ ∀ x ∈ z.1, x.args.length ≤ 300 := by
  have hi3 := hB.1
  refine whl_for (body := fun (s : (List PInstr × List Int × Int)) => ssa_builder_block.bd26 b (i : Int) B s.1 s.2.1 s.2.2) (s0 := (P, v, 0)) B.ins.length
    (fun i s => s.2.2 = (i : Int) ∧ s.2.1.length = f.regs.length ∧ s.1.length = P.length + i ∧ ∀ x ∈ s.1, x.args.length ≤ 300) _ (le_max hi3 (by omega)) (fun t s ht hI => ?_) (fun s hI => ?_) ⟨rfl, hv, rfl, hP2⟩
  · obtain ⟨A, V, j⟩ := s
    obtain ⟨rfl, g1, g2, g3⟩ := hI
    simp only at g1 g2 g3
    right
    have hx := hR.dst _ (List.getElem_mem ht)
    have hxl := hB.2.2.2.1 _ (List.getElem_mem ht)
    obtain ⟨z, z1, z2⟩ := instrArgs_ok B.ins[t] hxl V g1 (hR.args _ (List.getElem_mem ht))
    have hdi : idx b.dst (i : Int) = some dr := by rw [idx_nat]; exact hd
    have ht' : t < dr.length := by rw [hD.len]; exact ht
    have hnew : ∀ y : PInstr, y.args.length ≤ 300 → ∀ x ∈ A ++ [y], x.args.length ≤ 300 := fun y hy x hx => by
      rcases List.mem_append.1 hx with hx | hx
      · exact g3 x hx
      · rw [List.mem_singleton] at hx; subst hx; exact hy
    by_cases e : B.ins[t].dst ≥ 0
    · obtain ⟨y, y1, _⟩ := idx_in (xs := V) e (by rw [g1]; exact hx)
      simp only [ssa_builder_block.bd26, len_lt, ht, if_true, idx_lt ht, hdi, idx_lt ht', z1, y1, Option.bind_some, ssa_builder_block.nx66, e, ssa_builder_block.jn71, cat_one (show A.length ≤ 1000 by omega), w64_i ht (show B.ins.length ≤ 1000 by omega)]
      exact ⟨_, rfl, rfl, by simp [g1], by simp only [List.length_append, List.length_singleton]; omega, hnew _ (by simp only; omega)⟩
    · simp only [ssa_builder_block.bd26, len_lt, ht, if_true, idx_lt ht, hdi, idx_lt ht', z1, Option.bind_some, ssa_builder_block.nx66, e, if_false, ssa_builder_block.jn71, cat_one (show A.length ≤ 1000 by omega), w64_i ht (show B.ins.length ≤ 1000 by omega)]
      exact ⟨_, rfl, rfl, g1, by simp only [List.length_append, List.length_singleton]; omega, hnew _ (by simp only; omega)⟩
  · obtain ⟨A, V, j⟩ := s
    obtain ⟨rfl, g1, g2, g3⟩ := hI
    simp only at g1 g2 g3
    exact ⟨(A, V), by simp [ssa_builder_block.bd26, len], g1, g2, g3⟩
/-- what a new block is like -/
structure Nb (B C : PBlock) : Prop where
  phis : C.phis.length ≤ 300
  pargs : ∀ p ∈ C.phis, p.args.length ≤ 300
  ins : C.ins.length ≤ 600
  more : B.ins.length ≤ C.ins.length
  args : ∀ x ∈ C.ins, x.args.length ≤ 300
  kind : C.term.kind = B.term.kind
  to : C.term.to = B.term.to
theorem block_rest (hf : SmF f) (hR : ∀ B ∈ f.blocks, RegsIn f.regs.length B) (b : PBuilder) (hb : Bl f b) (i : Nat) (hi : i < f.blocks.length) (ph : List PPhi) (h1 : ph.length ≤ 300) (h2 : ∀ p ∈ ph, p.args.length ≤ 300) (P : List PInstr) (hP : P.length ≤ 300) (hP2 : ∀ x ∈ P, x.args.length ≤ 300) :
    ∃ C, ssa_builder_block.jn14 b (i : Int) ph P = some C ∧ Nb f.blocks[i] C := by
  have hrr := hf.2.1
  have hB := hf.2.2.2 _ (List.getElem_mem hi)
  have hRB := hR _ (List.getElem_mem hi)
  obtain ⟨dr, d1, d2⟩ := hb.num.dr i hi hi
  obtain ⟨v, v1, _, v2⟩ := hb.begin.get (b := (i : Int)) (by omega) (by omega) trivial
  obtain ⟨z, z1, z2, z3, z4⟩ := blockIns_ok hf b hb i f.blocks[i] hB hRB dr d1 d2 P hP hP2 v v2
  have hi3 := hB.1
  have hto := hB.2.2.1
  simp only [ssa_builder_block.jn14, v1, Option.bind_some, clone_eq v (by omega), hb.func, idx_lt hi, z1, ssa_builder_block.nx26, clone_eq f.blocks[i].term.to (by omega)]
  by_cases e : f.blocks[i].term.arg ≥ 0
  · obtain ⟨y, y1, _⟩ := idx_in (xs := z.2) e (by rw [z2]; exact hRB.arg)
    rw [if_pos e, y1]
    exact ⟨_, rfl, h1, h2, by simp only; omega, by simp only; omega, z4, rfl, rfl⟩
  · rw [if_neg e]
    exact ⟨_, rfl, h1, h2, by simp only; omega, by simp only; omega, z4, rfl, rfl⟩
theorem block_ok (hf : SmF f) (hR : ∀ B ∈ f.blocks, RegsIn f.regs.length B) (b : PBuilder) (hb : Bl f b) (i : Nat) (hi : i < f.blocks.length) (ah : List Int) (ha : ah.length ≤ 70) (hm : ∀ x ∈ ah, 0 ≤ x ∧ x < (f.blocks.length : Int)) :
    ∃ C, ssa_builder_block b (i : Int) ah = some C ∧ Nb f.blocks[i] C := by
  have hrr := hf.2.1
  obtain ⟨q, q1, q2, q3, q4⟩ := hb.phis.get (b := (i : Int)) (by omega) (by omega)
  obtain ⟨q', row, p1, p2, p3, _⟩ := hb.num.pr i hi
  have hq : q' = q := by rw [Int.toNat_natCast] at q2; rw [q2] at p1; exact (Option.some.inj p1).symm
  subst hq
  obtain ⟨z, z1, z2, z3⟩ := blockPhis_ok hf b hb i hi ah ha hm q' row q3 q4 p2 p3
  obtain ⟨y, y1, y2, y3⟩ := blockZero_ok b (by have := hb.zero; omega)
  simp only [ssa_builder_block, q1, Option.bind_some, z1, ssa_builder_block.nx9]
  by_cases e : (i : Int) = 0
  · rw [if_pos e, y1]
    simp only [Option.bind_some, ssa_builder_block.nx114]
    exact block_rest hf hR b hb i hi z z2 z3 y y2 y3
  · rw [if_neg e]
    exact block_rest hf hR b hb i hi z z2 z3 [] (by simp) (by simp)
end Go.Proofs.Yteaknconpkklhaa
set_option linter.unusedVariables false
set_option linter.unusedSimpArgs false
namespace Go.Proofs.Yteaknconpkklhaa
open Go Go.Proofs
variable {f : PFunc} {R : List Int}
theorem hasPhi_ok (l : List PBlock) (hl : l.length ≤ 70) : ∃ b : Bool, slices_ContainsFunc_api_Block_api_Block_check_Plain_1 l = some b ∧ (b = false → ∀ B ∈ l, B.phis = []) := by
  unfold slices_ContainsFunc_api_Block_api_Block_check_Plain_1 slices_IndexFunc_api_Block_api_Block_check_Plain_1
  obtain ⟨z, hz, hz1⟩ := whl_for (body := fun (s : Int) => slices_IndexFunc_api_Block_api_Block_check_Plain_1.bd8 l s) (s0 := 0) l.length (fun i s => s = (i : Int) ∧ ∀ j (hj : j < l.length), j < i → l[j].phis = []) (fun z => (∃ i : Nat, z = .ret (i : Int)) ∨ (z = .go () ∧ ∀ B ∈ l, B.phis = [])) (le_max hl (by omega)) (fun i s hi hI => by
    obtain ⟨rfl, h2⟩ := hI
    simp only [slices_IndexFunc_api_Block_api_Block_check_Plain_1.bd8, len_lt, hi, if_true, idx_lt hi, Option.bind_some, check_Plain_1, w64_i hi (show l.length ≤ 1000 by omega)]
    by_cases e : len l[i].phis > 0
    · exact .inl ⟨.ret (i : Int), by rw [if_pos (decide_eq_true e)], .inl ⟨i, rfl⟩⟩
    · refine .inr ⟨((i + 1 : Nat) : Int), by rw [if_neg (by simpa using e)], rfl, fun j hj hji => ?_⟩
      by_cases e2 : j < i
      · exact h2 j hj e2
      · obtain rfl : j = i := by omega
        simp only [len] at e
        exact List.eq_nil_of_length_eq_zero (by omega)) (fun s hI => by
    obtain ⟨rfl, h2⟩ := hI
    exact ⟨.go (), by simp [slices_IndexFunc_api_Block_api_Block_check_Plain_1.bd8, len], .inr ⟨rfl, fun B hB => by
      obtain ⟨j, hj, rfl⟩ := List.getElem_of_mem hB
      exact h2 j hj hj⟩⟩) ⟨rfl, fun j _ hj => by omega⟩
  rw [hz]
  rcases hz1 with ⟨i, rfl⟩ | ⟨rfl, h⟩
  · exact ⟨true, by simp, fun h => by cases h⟩
  · exact ⟨false, by simp [slices_IndexFunc_api_Block_api_Block_check_Plain_1.nx8], fun _ => h⟩
theorem plain_ok (m : PModule) (hm : SmM m) : ∃ e, check_Plain m = some e ∧ (e = GErr.no → Proper m ∧ ∀ f ∈ m.funcs, ∀ B ∈ f.blocks, B.phis = []) := by
  obtain ⟨e, he, he2⟩ := module_says m hm
  unfold check_Plain
  rw [he]
  simp only [Option.bind_some]
  by_cases h : e = GErr.no
  · rw [if_neg (by simpa using h)]
    have hp := he2.1 h
    obtain ⟨z, hz, hz1⟩ := whl_for (body := fun (s : Int) => check_Plain.bd13 m s) (s0 := 0) m.funcs.length (fun i s => s = (i : Int) ∧ ∀ j (hj : j < m.funcs.length), j < i → ∀ B ∈ m.funcs[j].blocks, B.phis = []) (fun z => (∃ e, z = .ret e ∧ e ≠ GErr.no) ∨ (z = .go () ∧ ∀ f ∈ m.funcs, ∀ B ∈ f.blocks, B.phis = [])) (le_max hm.1 (by omega)) (fun i s hi hI => by
      obtain ⟨rfl, h2⟩ := hI
      obtain ⟨b, hb, hb2⟩ := hasPhi_ok m.funcs[i].blocks (hm.2 _ (List.getElem_mem hi)).1
      have hfew := hm.1
      simp only [check_Plain.bd13, len_lt, hi, if_true, idx_lt hi, Option.bind_some, hb, w64_i hi (show m.funcs.length ≤ 1000 by omega)]
      cases b with
      | true => exact .inl ⟨_, by simp only [if_true]; rfl, .inl ⟨_, rfl, fun h => by cases h⟩⟩
      | false =>
        refine .inr ⟨((i + 1 : Nat) : Int), by simp, rfl, fun j hj hji => ?_⟩
        by_cases e2 : j < i
        · exact h2 j hj e2
        · obtain rfl : j = i := by omega
          exact hb2 rfl) (fun s hI => by
      obtain ⟨rfl, h2⟩ := hI
      exact ⟨.go (), by simp [check_Plain.bd13, len], .inr ⟨rfl, fun f hf => by
        obtain ⟨j, hj, rfl⟩ := List.getElem_of_mem hf
        exact h2 j hj hj⟩⟩) ⟨rfl, fun j _ hj => by omega⟩
    rw [hz]
    rcases hz1 with ⟨e, rfl, h1⟩ | ⟨rfl, h1⟩
    · exact ⟨e, rfl, fun h => absurd h h1⟩
    · exact ⟨GErr.no, rfl, fun _ => ⟨hp, h1⟩⟩
  · rw [if_pos h]
    exact ⟨e, rfl, fun h' => absurd h' h⟩
structure Built (g r : PFunc) : Prop where
  params : r.params = g.params
  result : r.result = g.result
  len : r.blocks.length = g.blocks.length
  at_ : ∀ j (hj : j < g.blocks.length), ∃ C, r.blocks[j]? = some C ∧ Nb g.blocks[j] C
theorem blocks_ok (hf : SmF f) (hR : ∀ B ∈ f.blocks, RegsIn f.regs.length B) (nums : List Int) (q : List (List Bool) × List (List Bool) × GErr) (fr : List (List Int)) (ne : List Int) (pl : List (List Int) × List Int) (nu : List Int × List (List Int) × List Int × List (List Int)) (ve : List (List Int) × List (List Int))
    (hb : Bl f (⟨(⟨f.params, f.result, f.regs, f.blocks⟩ : PFunc), q.1, fr, ne, pl.1, pl.2, nu.1, nu.2.1, nu.2.2.1, nu.2.2.2, ve.1, ve.2⟩ : PBuilder)) :
    ∃ z, whl (fun (s : (List PBlock × Int × Int)) => ssa_Build.bd57 (f, nums) q fr ne pl nu ve (aheads (nexts f)) s.1 s.2.1 s.2.2) FUEL (([] : List PBlock), 0, 0) = some z ∧ z.1.length = f.blocks.length ∧ (∀ j (hj : j < f.blocks.length), ∃ C, z.1[j]? = some C ∧ Nb f.blocks[j] C) ∧ ∃ M : Nat, z.2 = (M : Int) ∧ ∀ C ∈ z.1, C.phis.length + C.ins.length ≤ M := by
  have hn := hf.1
  refine whl_for (body := fun (s : (List PBlock × Int × Int)) => ssa_Build.bd57 (f, nums) q fr ne pl nu ve (aheads (nexts f)) s.1 s.2.1 s.2.2) (s0 := ([], 0, 0)) f.blocks.length
    (fun i s => s.2.2 = (i : Int) ∧ s.1.length = i ∧ (∀ j (hj : j < f.blocks.length), j < i → ∃ C, s.1[j]? = some C ∧ Nb f.blocks[j] C) ∧ ∃ M : Nat, s.2.1 = (M : Int) ∧ M ≤ i * 1000 ∧ ∀ C ∈ s.1, C.phis.length + C.ins.length ≤ M) _ (le_max hn (by omega)) (fun i s hi hI => ?_) (fun s hI => ?_) ⟨rfl, rfl, fun j _ hj => by omega, 0, rfl, by omega, by simp⟩
  · obtain ⟨A, mm, j⟩ := s
    obtain ⟨rfl, g1, g2, M, rfl, g3, g4⟩ := hI
    simp only at g1 g2 g3 g4
    right
    have hi' : i < (aheads (nexts f)).length := by rw [aheads_length, nexts_length]; exact hi
    have hah : idx (aheads (nexts f)) (i : Int) = some (preds (nexts f) i) := by rw [idx_nat]; exact aheads_get _ _ (by rw [nexts_length]; exact hi)
    obtain ⟨C, c1, c2⟩ := block_ok hf hR _ hb i hi (preds (nexts f) i) (by have := preds_length (nexts f) i; rw [nexts_length] at this; omega) (fun x hx => by have := preds_in (nexts f) i x hx; rw [nexts_length] at this; exact this)
    have hp := c2.phis
    have hq := c2.ins
    have w1 : w64 (len C.phis + len C.ins) = ((C.phis.length + C.ins.length : Nat) : Int) := by
      rw [show len C.phis + len C.ins = ((C.phis.length + C.ins.length : Nat) : Int) by simp [len]]; exact w64_nat (by omega)
    have w2 : w64 (((C.phis.length + C.ins.length : Nat) : Int) + 1) = ((C.phis.length + C.ins.length + 1 : Nat) : Int) := w64_succ (by omega)
    have w3 : w64 ((M : Int) + ((C.phis.length + C.ins.length + 1 : Nat) : Int)) = ((M + (C.phis.length + C.ins.length + 1) : Nat) : Int) := by
      rw [show (M : Int) + ((C.phis.length + C.ins.length + 1 : Nat) : Int) = ((M + (C.phis.length + C.ins.length + 1) : Nat) : Int) by omega]; exact w64_nat (by omega)
    simp only [ssa_Build.bd57, len_lt, hi', if_true, hah, Option.bind_some, c1, cat_one (show A.length ≤ 1000 by omega), w1, w2, w3, w64_i hi (show f.blocks.length ≤ 1000 by omega)]
    refine ⟨_, rfl, rfl, by simp [g1], fun j hj hji => ?_, _, rfl, by omega, fun D hD => ?_⟩
    · simp only
      by_cases e : j < i
      · obtain ⟨D, d1, d2⟩ := g2 j hj e
        exact ⟨D, by rw [List.getElem?_append_left (by omega)]; exact d1, d2⟩
      · obtain rfl : j = i := by omega
        exact ⟨C, by rw [List.getElem?_append_right (by omega), g1]; simp, c2⟩
    · rcases List.mem_append.1 hD with hD | hD
      · have := g4 D hD; omega
      · rw [List.mem_singleton] at hD; subst hD; omega
  · obtain ⟨A, mm, j⟩ := s
    obtain ⟨rfl, g1, g2, M, rfl, g3, g4⟩ := hI
    simp only at g1 g2 g3 g4
    exact ⟨(A, (M : Int)), by simp [ssa_Build.bd57, len, aheads_length, nexts_length], g1, fun j hj => g2 j hj hj, M, rfl, g4⟩
theorem smE : SmF (⟨0, 0, ([] : List Int), ([] : List PBlock)⟩ : PFunc) := ⟨by simp, by simp, by simp, by simp⟩
theorem build_ok (m : PModule) (hm : SmM m) (a : Int) : ∃ r, ssa_Build m a = some r ∧ SmF r.1 ∧ (r.2 = GErr.no → ∃ k : Nat, a = k ∧ ∃ hk : k < m.funcs.length, ∃ s nums, graph_Trim m.funcs[k] = some (trimF m.funcs[k] s, nums) ∧ SmF (trimF m.funcs[k] s) ∧ Built (trimF m.funcs[k] s) r.1) := by
  obtain ⟨e, he, he2⟩ := plain_ok m hm
  unfold ssa_Build
  rw [he]
  simp only [Option.bind_some]
  by_cases h : e = GErr.no
  · rw [if_neg (by simpa using h)]
    obtain ⟨hp, hph⟩ := he2 h
    by_cases h2 : a < 0 ∨ a ≥ len m.funcs
    · rw [if_pos h2]
      exact ⟨_, rfl, smE, fun h => by cases h⟩
    · rw [if_neg h2]
      simp only [len] at h2
      obtain ⟨k, rfl⟩ : ∃ k : Nat, a = k := ⟨a.toNat, by omega⟩
      have hk : k < m.funcs.length := by omega
      have hf0 := hm.2 _ (List.getElem_mem hk)
      obtain ⟨s, o, hw, _⟩ := walked_any m.funcs[k] hf0
      have htr := trim_eq m.funcs[k] hf0 hw
      have hf := trimF_small m.funcs[k] hf0 s
      have hfl := hm.1
      have hcl : slices_Clone_api_Func_api_Func m.funcs = some m.funcs := by
        unfold slices_Clone_api_Func_api_Func; rw [cat_nil (by omega)]; rfl
      have hset : (m.funcs.set k (trimF m.funcs[k] s)).length = m.funcs.length := by simp
      have hm' : SmM (⟨m.funcs.set k (trimF m.funcs[k] s)⟩ : PModule) := ⟨by simp only [hset]; exact hm.1, fun g hg => (List.mem_or_eq_of_mem_set hg).elim (hm.2 g) (fun e => e ▸ hf)⟩
      simp only [idx_lt hk, Option.bind_some, htr, hcl, Int.toNat_natCast]
      obtain ⟨e3, _, hl⟩ := live_any _ hm' (k : Int)
      rcases hl with ⟨hne, h1⟩ | ⟨hno, hp', k', hk', hkl, ins, ends, h1, hLI⟩
      · rw [h1]
        simp only [Option.bind_some]
        rw [if_pos hne]
        exact ⟨_, rfl, smE, fun h => absurd h hne⟩
      · obtain rfl : k' = k := by omega
        rw [h1]
        simp only [Option.bind_some]
        rw [if_neg (by simp)]
        have hfo := hp'.funcs _ (List.getElem_mem hkl)
        have hg : (m.funcs.set k' (trimF m.funcs[k'] s))[k']'hkl = trimF m.funcs[k'] s := by simp
        simp only [hg] at hfo hLI
        obtain ⟨s', o', hw', _⟩ := walked_any _ hf
        have hs' := trim_reached m.funcs[k'] hf0 hw hw'
        have hfull := full_of _ hf (by have := hfo.small.pos; omega) hw' hs'
        have hRr : ∀ B ∈ (trimF m.funcs[k'] s).blocks, RegsIn (trimF m.funcs[k'] s).regs.length B := fun B hB => BlockOk_regs (hfo.blocks B hB)
        generalize hgg : trimF m.funcs[k'] s = g at *
        obtain ⟨F, hF, hF1⟩ := frontier_ok hfull
        obtain ⟨N, L, hL, hN⟩ := nearest_ok hfull
        rw [hF, hL]
        simp only [Option.bind_some]
        obtain ⟨pl, p1, p2, p3⟩ := place_ok hf hfull.pos (⟨(⟨g.params, g.result, g.regs, g.blocks⟩ : PFunc), ins, F, L, ([] : List (List Int)), ([] : List Int), [], [], [], [], [], []⟩ : PBuilder) rfl hLI.dimI hF1 rfl
        rw [p1]
        simp only [Option.bind_some]
        obtain ⟨nr, np, nz, nd, n1, n2, n3, n4⟩ := number_ok hf hRr hfo.typed.nn hfo.typed.le (⟨(⟨g.params, g.result, g.regs, g.blocks⟩ : PFunc), ins, F, L, pl.1, pl.2, ([] : List Int), ([] : List (List Int)), ([] : List Int), ([] : List (List Int)), [], []⟩ : PBuilder) rfl p2 p3 rfl rfl rfl
        rw [n1]
        simp only [Option.bind_some]
        obtain ⟨S, E, v1, v2, v3⟩ := versions_ok hfull hN hRr (⟨(⟨g.params, g.result, g.regs, g.blocks⟩ : PFunc), ins, F, L, pl.1, pl.2, nr, np, nz, nd, ([] : List (List Int)), ([] : List (List Int))⟩ : PBuilder) rfl rfl p2 n4 p3 n2
        rw [v1, checkAhead_eq g hf]
        simp only [Option.bind_some]
        obtain ⟨z, z1, z2, z3, M, z4, z5⟩ := blocks_ok hf hRr (numF s) (ins, ends, GErr.no) F L pl (nr, np, nz, nd) (S, E) ⟨rfl, p2, n4, by have := p3.few; simp only at n2 ⊢; omega, v2, v3⟩
        rw [z1]
        simp only [Option.bind_some, ssa_Build.nx57]
        by_cases hbig : z.2 > 256 ∨ len nr > 256
        · rw [if_pos hbig]
          exact ⟨_, rfl, smE, fun h => by cases h⟩
        · rw [if_neg hbig]
          simp only [len] at hbig
          have hn := hf.1
          refine ⟨_, rfl, ⟨by simp only; omega, by simp only; omega, hf.2.2.1, fun C hC => ?_⟩, fun _ => ⟨k', rfl, hk, s, numF s, by rw [htr, hgg], by rw [hgg]; exact hf, by rw [hgg]; exact ⟨rfl, rfl, z2, z3⟩⟩⟩
          have hCM := z5 C hC
          obtain ⟨j, hj, hjC⟩ := List.getElem_of_mem hC
          obtain ⟨D, d1, d2⟩ := z3 j (by simp only at hj; omega)
          have hDC : D = C := by
            simp only at hj hjC
            rw [List.getElem?_eq_getElem hj, hjC] at d1; exact (Option.some.inj d1).symm
          subst hDC
          exact ⟨by omega, by omega, by rw [d2.to]; exact (hf.2.2.2 _ (List.getElem_mem _)).2.2.1, d2.args, d2.pargs⟩
  · rw [if_pos h]
    exact ⟨_, rfl, smE, fun h' => absurd h' h⟩
end Go.Proofs.Yteaknconpkklhaa
set_option linter.unusedVariables false
set_option linter.unusedSimpArgs false
namespace Go.Proofs.Yteaknconpkklhaa
open Go Go.Proofs
theorem up12 : fettlelaw12_up = some true := by kernel_rfl
theorem fill_regs (L : List Int) (hl : L.length ≤ 300) : ∃ z, whl (fun (s : (List Int × Int)) => fettlelaw12_SsaStays.bd26 s.1 s.2) FUEL (L, 0) = some z ∧ True := by
  refine whl_for (s0 := (L, 0)) (body := fun (s : (List Int × Int)) => fettlelaw12_SsaStays.bd26 s.1 s.2) L.length (fun i s => s.1.length = L.length ∧ s.2 = (i : Int)) (fun _ => True) (le_max hl (by omega)) (fun i s hi hI => ?_) (fun s hI => ?_) ⟨rfl, rfl⟩
  · obtain ⟨M, k⟩ := s
    obtain ⟨h1, rfl⟩ := hI
    simp only at h1
    have hi' : i < M.length := by omega
    exact .inr ⟨_, by simp only [fettlelaw12_SsaStays.bd26, len_lt, hi', if_true, idx_lt hi', Option.bind_some]; rfl, by simp [h1], w64_i hi (by omega)⟩
  · obtain ⟨M, k⟩ := s
    obtain ⟨h1, rfl⟩ := hI
    simp only at h1
    exact ⟨M, by simp [fettlelaw12_SsaStays.bd26, len, h1], trivial⟩
/-- n small blocks, the i-th of which is B -/
structure Rs (n i : Nat) (A : List PBlock) (B : PBlock) : Prop where
  len : A.length = n
  sm : ∀ C ∈ A, SmB C
  at_ : A[i]? = some B
theorem Rs.idx {n i : Nat} {A : List PBlock} {B : PBlock} (h : Rs n i A B) : idx A (i : Int) = some B := by rw [idx_nat]; exact h.at_
theorem Rs.smB {n i : Nat} {A : List PBlock} {B : PBlock} (h : Rs n i A B) : SmB B := h.sm _ (List.mem_of_getElem? h.at_)
theorem Rs.lt {n i : Nat} {A : List PBlock} {B : PBlock} (h : Rs n i A B) : i < n := by
  have := h.at_
  rw [← h.len]
  exact (List.getElem?_eq_some_iff.1 this).1
theorem Rs.set {n i : Nat} {A : List PBlock} {B C : PBlock} (h : Rs n i A B) (hC : SmB C) : Rs n i (A.set i C) C :=
  ⟨by simp [h.len], fun D hD => (List.mem_or_eq_of_mem_set hD).elim (h.sm D) (fun e => e ▸ hC), by rw [List.getElem?_set_self (by rw [h.len]; exact h.lt)]⟩
theorem fill_to {n i : Nat} {A : List PBlock} {B : PBlock} (h : Rs n i A B) : ∃ z, whl (fun (s : (List PBlock × Int)) => fettlelaw12_SsaStays.bd74 (i : Int) s.1 s.2) FUEL (A, 0) = some z ∧ ∃ C, Rs n i z C := by
  have hto := h.smB.2.2.1
  refine whl_for (s0 := (A, 0)) (body := fun (s : (List PBlock × Int)) => fettlelaw12_SsaStays.bd74 (i : Int) s.1 s.2) B.term.to.length (fun t s => s.2 = (t : Int) ∧ ∃ C, Rs n i s.1 C ∧ C.term.to.length = B.term.to.length) (fun z => ∃ C, Rs n i z C) (le_max hto (by omega)) (fun t s ht hI => ?_) (fun s hI => ?_) ⟨rfl, B, h, rfl⟩
  · obtain ⟨M, k⟩ := s
    obtain ⟨rfl, C, h1, h2⟩ := hI
    simp only at h1
    have ht' : t < C.term.to.length := by omega
    have hs := h1.smB
    refine .inr ⟨_, by simp only [fettlelaw12_SsaStays.bd74, h1.idx, len_lt, ht', if_true, idx_lt ht', Option.bind_some]; rfl, w64_i ht (by omega), _, h1.set (C := ⟨C.phis, C.ins, (⟨C.term.kind, C.term.arg, C.term.to.set t 9⟩ : PTerm)⟩) ⟨hs.1, hs.2.1, by simp; exact hs.2.2.1, hs.2.2.2⟩, by simp [h2]⟩
  · obtain ⟨M, k⟩ := s
    obtain ⟨rfl, C, h1, h2⟩ := hI
    simp only at h1
    exact ⟨M, by simp [fettlelaw12_SsaStays.bd74, h1.idx, len, h2], C, h1⟩
theorem fill_args {n i : Nat} {A : List PBlock} {B : PBlock} (h : Rs n i A B) (j : Nat) (hj : j < B.ins.length) : ∃ z, whl (fun (s : (List PBlock × Int)) => fettlelaw12_SsaStays.bd96 (i : Int) (j : Int) s.1 s.2) FUEL (A, 0) = some z ∧ ∃ C, Rs n i z C ∧ C.ins.length = B.ins.length := by
  have hargs := h.smB.2.2.2.1 _ (List.getElem_mem hj)
  refine whl_for (s0 := (A, 0)) (body := fun (s : (List PBlock × Int)) => fettlelaw12_SsaStays.bd96 (i : Int) (j : Int) s.1 s.2) B.ins[j].args.length (fun t s => s.2 = (t : Int) ∧ ∃ C, Rs n i s.1 C ∧ C.ins.length = B.ins.length ∧ ∃ x, C.ins[j]? = some x ∧ x.args.length = B.ins[j].args.length) (fun z => ∃ C, Rs n i z C ∧ C.ins.length = B.ins.length) (le_max hargs (by omega)) (fun t s ht hI => ?_) (fun s hI => ?_) ⟨rfl, B, h, rfl, _, List.getElem?_eq_getElem hj, rfl⟩
  · obtain ⟨M, k⟩ := s
    obtain ⟨rfl, C, h1, h2, x, h3, h4⟩ := hI
    simp only at h1
    have ht' : t < x.args.length := by omega
    have hs := h1.smB
    have hx : idx C.ins (j : Int) = some x := by rw [idx_nat]; exact h3
    have hxm := hs.2.2.2.1 x (List.mem_of_getElem? h3)
    refine .inr ⟨_, by simp only [fettlelaw12_SsaStays.bd96, h1.idx, hx, len_lt, ht', if_true, idx_lt ht', Option.bind_some, Int.toNat_natCast]; rfl, w64_i ht (by omega), _, h1.set (C := ⟨C.phis, C.ins.set j (⟨x.op, x.dst, x.args.set t 9, x.imm, x.fn⟩ : PInstr), C.term⟩) ⟨by simp; exact hs.1, hs.2.1, hs.2.2.1, fun y hy => ?_, hs.2.2.2.2⟩, by simp [h2], _, by rw [List.getElem?_set_self (by omega)], by simp [h4]⟩
    exact (List.mem_or_eq_of_mem_set hy).elim (hs.2.2.2.1 y) (fun e => by subst e; simp; exact hxm)
  · obtain ⟨M, k⟩ := s
    obtain ⟨rfl, C, h1, h2, x, h3, h4⟩ := hI
    simp only at h1
    have hx : idx C.ins (j : Int) = some x := by rw [idx_nat]; exact h3
    exact ⟨M, by simp [fettlelaw12_SsaStays.bd96, h1.idx, hx, len, h4], C, h1, h2⟩
theorem fill_ins {n i : Nat} {A : List PBlock} {B : PBlock} (h : Rs n i A B) : ∃ z, whl (fun (s : (List PBlock × Int)) => fettlelaw12_SsaStays.bd81 (i : Int) s.1 s.2) FUEL (A, 0) = some z ∧ ∃ C, Rs n i z C := by
  have hto := h.smB.1
  refine whl_for (s0 := (A, 0)) (body := fun (s : (List PBlock × Int)) => fettlelaw12_SsaStays.bd81 (i : Int) s.1 s.2) B.ins.length (fun t s => s.2 = (t : Int) ∧ ∃ C, Rs n i s.1 C ∧ C.ins.length = B.ins.length) (fun z => ∃ C, Rs n i z C) (le_max hto (by omega)) (fun t s ht hI => ?_) (fun s hI => ?_) ⟨rfl, B, h, rfl⟩
  · obtain ⟨M, k⟩ := s
    obtain ⟨rfl, C, h1, h2⟩ := hI
    simp only at h1
    have ht' : t < C.ins.length := by omega
    obtain ⟨z, z1, D, z2, z3⟩ := fill_args h1 t ht'
    exact .inr ⟨_, by simp only [fettlelaw12_SsaStays.bd81, h1.idx, len_lt, ht', if_true, z1, Option.bind_some, fettlelaw12_SsaStays.nx96]; rfl, w64_i ht (by omega), D, z2, z3.trans h2⟩
  · obtain ⟨M, k⟩ := s
    obtain ⟨rfl, C, h1, h2⟩ := hI
    simp only at h1
    exact ⟨M, by simp [fettlelaw12_SsaStays.bd81, h1.idx, len, h2], C, h1⟩
theorem fill_blocks (A : List PBlock) (hl : A.length ≤ 70) (hs : ∀ B ∈ A, SmB B) : ∃ z, whl (fun (s : (List PBlock × Int)) => fettlelaw12_SsaStays.bd35 s.1 s.2) FUEL (A, 0) = some z ∧ True := by
  refine whl_for (s0 := (A, 0)) (body := fun (s : (List PBlock × Int)) => fettlelaw12_SsaStays.bd35 s.1 s.2) A.length (fun t s => s.2 = (t : Int) ∧ s.1.length = A.length ∧ ∀ B ∈ s.1, SmB B) (fun z => True) (le_max hl (by omega)) (fun t s ht hI => ?_) (fun s hI => ?_) ⟨rfl, rfl, hs⟩
  · obtain ⟨M, k⟩ := s
    obtain ⟨rfl, h1, h2⟩ := hI
    simp only at h1 h2
    have ht' : t < M.length := by omega
    obtain ⟨z, z1, C, z2⟩ := fill_to (n := A.length) (i := t) (A := M) (B := M[t]) ⟨h1, h2, List.getElem?_eq_getElem ht'⟩
    obtain ⟨y, y1, D, y2⟩ := fill_ins z2
    exact .inr ⟨_, by simp only [fettlelaw12_SsaStays.bd35, len_lt, ht', if_true, z1, Option.bind_some, fettlelaw12_SsaStays.nx74, y1, fettlelaw12_SsaStays.nx81]; rfl, w64_i ht (by omega), y2.len, y2.sm⟩
  · obtain ⟨M, k⟩ := s
    obtain ⟨rfl, h1, h2⟩ := hI
    simp only at h1
    exact ⟨(), by simp [fettlelaw12_SsaStays.bd35, len, h1], trivial⟩
theorem pure_ssaStays (m : PModule) (a : Int) (h : wfModule m) (ha : inI64 a) : fettlelaw12_SsaStays m a = some true := by
  unfold fettlelaw12_SsaStays
  rw [up12]
  obtain ⟨b, hb, hsm⟩ := small_ok m
  rw [hb]
  simp only [Option.bind_some]
  cases b with
  | false => simp
  | true =>
    have hm := hsm rfl
    obtain ⟨r, hr, hr1, _⟩ := build_ok m hm a
    obtain ⟨z, hz, _⟩ := fill_regs r.1.regs hr1.2.1
    obtain ⟨y, hy, _⟩ := fill_blocks r.1.blocks hr1.1 hr1.2.2.2
    simp only [Bool.not_true, Bool.false_eq_true, if_false, copy_eq m hm, Option.bind_some, hr, copyFunc_eq r.1 hr1, same_eq m m hm, decide_true, hz, fettlelaw12_SsaStays.nx26, hy, fettlelaw12_SsaStays.nx35, if_true, beq_self_eq_true, and_self, sameFunc_eq r.1 r.1 hr1]
end Go.Proofs.Yteaknconpkklhaa
