/- Several parts in one text, the first of which: Plain laws, part y-A: what a pass over nearest ones leads to: trees of places that shrink. No conditions. -/
import Derived.Test.YteaknconpkklhaaPzA
set_option linter.unusedVariables false
set_option linter.unusedSimpArgs false
namespace Go.Proofs.Yteaknconpkklhaa
open Go Go.Proofs
inductive Anc (M : Nat → Nat) (z : Nat) : Nat → Prop
  | refl : Anc M z z
  | step {b : Nat} : b ≠ 0 → Anc M z (M b) → Anc M z b
def Dn (n : Nat) (M : Nat → Nat) : Prop := ∀ b, b ≠ 0 → b < n → M b < b
variable {n : Nat} {M M' : Nat → Nat}
theorem Anc.cases' {z b : Nat} (h : Anc M z b) : z = b ∨ (b ≠ 0 ∧ Anc M z (M b)) := by
  cases h with
  | refl => exact .inl rfl
  | step h1 h2 => exact .inr ⟨h1, h2⟩
theorem Anc.le (hM : Dn n M) {z b : Nat} (h : Anc M z b) (hb : b < n) : z ≤ b := by
  induction h with
  | refl => exact Nat.le_refl _
  | step h1 h2 ih => have := hM _ h1 hb; have := ih (by omega); omega
theorem Anc.trans {z y b : Nat} (h : Anc M z y) (h' : Anc M y b) : Anc M z b := by
  induction h' with
  | refl => exact h
  | step h1 h2 ih => exact .step h1 ih
theorem Anc.agree (hM : Dn n M) {z b : Nat} (h : Anc M z b) (hb : b < n) (he : ∀ j, j ≤ b → M j = M' j) : Anc M' z b := by
  induction h with
  | refl => exact .refl
  | step h1 h2 ih =>
    have := hM _ h1 hb
    refine .step h1 ?_
    rw [← he _ (Nat.le_refl _)]
    exact ih (by omega) (fun j hj => he j (by omega))
def mixA (i : Nat) (A B : Nat → Nat) : Nat → Nat := fun j => if j < i then A j else B j
theorem mixA_lt {i j : Nat} {A B : Nat → Nat} (h : j < i) : mixA i A B j = A j := if_pos h
theorem mixA_ge {i j : Nat} {A B : Nat → Nat} (h : i ≤ j) : mixA i A B j = B j := if_neg (by omega)
theorem Dn.mixA {i : Nat} {A B : Nat → Nat} (hA : ∀ b, b ≠ 0 → b < i → A b < b) (hB : Dn n B) : Dn n (mixA i A B) := by
  intro b h0 hb
  unfold Go.Proofs.Yteaknconpkklhaa.mixA
  split
  · exact hA b h0 ‹_›
  · exact hB b h0 hb
theorem mixA_anc {i : Nat} {A B : Nat → Nat} (hA : Dn n A) {z b : Nat} (hb : b < i) (hn : b < n) (hX : Dn n (mixA i A B)) : Anc (mixA i A B) z b ↔ Anc A z b :=
  ⟨fun h => h.agree hX hn (fun j hj => mixA_lt (by omega)), fun h => h.agree hA hn (fun j hj => (mixA_lt (by omega)).symm)⟩
/-- Where the way up from p comes below i. -/
theorem split_at (i : Nat) {B : Nat → Nat} (hB : Dn n B) : ∀ p, i ≤ p → p < n → 0 < i → ∃ g, g < i ∧ Anc B g p ∧ (∀ y, Anc B y p → y < i → y ≤ g) ∧ ∀ A : Nat → Nat, Dn n A → ∀ z, z < i → (Anc (mixA i A B) z p ↔ Anc A z g) := by
  intro p
  induction p using Nat.strongRecOn with
  | _ p ih =>
    intro hi hp h0
    have hp0 : p ≠ 0 := by omega
    have hlt := hB p hp0 hp
    by_cases hc : B p < i
    · refine ⟨B p, hc, .step hp0 .refl, fun y hy hyi => ?_, fun A hA z hz => ?_⟩
      · rcases hy.cases' with rfl | ⟨_, h⟩
        · omega
        · exact h.le hB (by omega)
      · have hX : Dn n (mixA i A B) := Dn.mixA (fun b h0 hb => hA b h0 (by omega)) hB
        constructor
        · intro h
          rcases h.cases' with rfl | ⟨_, h⟩
          · omega
          · rw [mixA_ge hi] at h
            exact (mixA_anc hA hc (by omega) hX).1 h
        · intro h
          refine .step hp0 ?_
          rw [mixA_ge hi]
          exact (mixA_anc hA hc (by omega) hX).2 h
    · obtain ⟨g, g1, g2, g3, g4⟩ := ih (B p) hlt (by omega) (by omega) h0
      refine ⟨g, g1, .step hp0 g2, fun y hy hyi => ?_, fun A hA z hz => ?_⟩
      · rcases hy.cases' with rfl | ⟨_, h⟩
        · omega
        · exact g3 y h hyi
      · constructor
        · intro h
          rcases h.cases' with rfl | ⟨_, h⟩
          · omega
          · rw [mixA_ge hi] at h
            exact (g4 A hA z hz).1 h
        · intro h
          refine .step hp0 ?_
          rw [mixA_ge hi]
          exact (g4 A hA z hz).2 h
/-! ### Passes -/
variable {P : Nat → Nat → Prop}
/-- P p i: place p leads to place i. -/
structure Lead (n : Nat) (P : Nat → Nat → Prop) : Prop where
  lt : ∀ p i, P p i → i < n → p < n
  fwd : ∀ i, 0 < i → i < n → ∃ q, P q i ∧ q < i
def First (n : Nat) (P : Nat → Nat → Prop) (N : Nat → Nat) : Prop := ∀ i, 0 < i → i < n → ∀ z, Anc N z (N i) ↔ ∀ p, P p i → p < i → Anc N z p
def Pass (n : Nat) (P : Nat → Nat → Prop) (O N : Nat → Nat) : Prop := ∀ i, 0 < i → i < n → ∀ z, Anc N z (N i) ↔ ∀ p, P p i → Anc (mixA i N O) z p
def Fwd (n : Nat) (P : Nat → Nat → Prop) (N : Nat → Nat) : Prop := ∀ i q z, 0 < i → i < n → P q i → q < i → Anc N z i → z = i ∨ Anc N z q
theorem First.fwd {N : Nat → Nat} (h : First n P N) : Fwd n P N := fun i q z h0 hi hq hlt ha => by
  rcases ha.cases' with rfl | ⟨_, h1⟩
  · exact .inl rfl
  · exact .inr ((h i h0 hi z).1 h1 q hq hlt)
theorem Pass.fwd {O N : Nat → Nat} (h : Pass n P O N) (hO : Dn n O) (hN : Dn n N) : Fwd n P N := fun i q z h0 hi hq hlt ha => by
  rcases ha.cases' with rfl | ⟨_, h1⟩
  · exact .inl rfl
  · exact .inr ((mixA_anc hN hlt (by omega) (Dn.mixA (fun b hb hbi => hN b hb (by omega)) hO)).1 ((h i h0 hi z).1 h1 q hq))
/-- A way on, place by place. -/
inductive Way (P : Nat → Nat → Prop) (g : Nat) : Nat → Prop
  | refl : Way P g g
  | step {q p : Nat} : Way P g q → P q p → q < p → Way P g p
theorem Way.le {g p : Nat} (h : Way P g p) : g ≤ p := by
  induction h with
  | refl => exact Nat.le_refl _
  | step _ _ h3 ih => omega
theorem Way.down {N : Nat → Nat} (hN : Dn n N) (hF : Fwd n P N) {g p z : Nat} (h : Way P g p) (hp : p < n) (hz : Anc N z p) (hzg : z ≤ g) : Anc N z g ∧ g ≤ p := by
  induction h with
  | refl => exact ⟨hz, Nat.le_refl _⟩
  | @step q p h1 h2 h3 ih =>
    have hgq : g ≤ q := h1.le
    rcases hF p q z (by omega) hp h2 h3 hz with rfl | h4
    · omega
    · exact ⟨(ih (by omega) h4).1, by omega⟩
theorem Anc.way {N : Nat → Nat} (hL : Lead n P) (hN : Dn n N) (hF : Fwd n P N) {g : Nat} : ∀ p, p < n → Anc N g p → Way P g p := by
  intro p
  induction p using Nat.strongRecOn with
  | _ p ih =>
    intro hp h
    by_cases he : g = p
    · subst he; exact .refl
    · have h0 : 0 < p := by
        rcases Nat.eq_zero_or_pos p with h0 | h0
        · subst h0; have := h.le hN hp; omega
        · exact h0
      obtain ⟨q, hq, hlt⟩ := hL.fwd p h0 hp
      rcases hF p q g h0 hp hq hlt h with h1 | h1
      · exact absurd h1 he
      · exact .step (ih q hlt (by omega) h1) hq hlt
/-- Come to from place 0 without place z. -/
inductive Free (n : Nat) (P : Nat → Nat → Prop) (z : Nat) : Nat → Prop
  | base : z ≠ 0 → Free n P z 0
  | step {p i : Nat} : Free n P z p → P p i → i < n → i ≠ z → Free n P z i
/-- What dominates a place dominates what stands above it, or is it. -/
def Tru (n k : Nat) (P : Nat → Nat → Prop) (M : Nat → Nat) : Prop := ∀ i, 0 < i → i < k → ∀ z, z ≠ i → ¬ Free n P z i → ¬ Free n P z (M i)
theorem Tru.anc {k : Nat} {M : Nat → Nat} (hM : Dn k M) (hT : Tru n k P M) {z : Nat} : ∀ b, b < k → ¬ Free n P z b → Anc M z b := by
  intro b
  induction b using Nat.strongRecOn with
  | _ b ih =>
    intro hb hz
    by_cases e : z = b
    · subst e; exact .refl
    rcases Nat.eq_zero_or_pos b with h0 | h0
    · subst h0; exact absurd (.base e) hz
    · have hlt := hM b (by omega) hb
      exact .step (by omega) (ih (M b) hlt (by omega) (hT b h0 hb z e hz))
theorem Tru.mid {k : Nat} {M : Nat → Nat} (hM : Dn k M) (hT : Tru n k P M) {z κ p : Nat} (h : Anc M κ p) (hp : p < k) (hz : Anc M z κ) (hf : ¬ Free n P z p) : ¬ Free n P z κ := by
  induction h with
  | refl => exact hf
  | @step b h0 h2 ih =>
    have hlt := hM b h0 hp
    have h1 := h2.le hM (by omega)
    have h3 := hz.le hM (by omega)
    exact ih (by omega) (hT b (by omega) hp z (by omega) hf)
theorem Tru.up {X N : Nat → Nat} (hL : Lead n P) (hX : Dn n X) {i : Nat} (h0 : 0 < i) (hi : i < n) (hT : Tru n i P X) (hNi : N i < i) (hN : ∀ j, j < i → N j = X j) (h : ∀ z, Anc X z (N i) ↔ ∀ p, P p i → p < i → Anc X z p) : ∀ z, z ≠ i → ¬ Free n P z i → ¬ Free n P z (N i) := by
  intro z hz hf
  have hXi : Dn i X := fun b hb hbi => hX b hb (by omega)
  have hall : ∀ p, P p i → ¬ Free n P z p := fun p hp hfp => hf (.step hfp hp hi (Ne.symm hz))
  obtain ⟨q, hq, hlt⟩ := hL.fwd i h0 hi
  have h1 : Anc X z (N i) := (h z).2 fun p hp hpi => Tru.anc hXi hT p hpi (hall p hp)
  have h2 : Anc X (N i) q := (h (N i)).1 .refl q hq hlt
  exact Tru.mid hXi hT h2 hlt h1 (hall q hq)
theorem First.tru {N : Nat → Nat} (hL : Lead n P) (hN : Dn n N) (h : First n P N) : Tru n n P N := by
  have : ∀ k, k ≤ n → Tru n k P N := by
    intro k
    induction k with
    | zero => intro _ i _ hi; omega
    | succ k ih =>
      intro hk i h0 hi
      rcases Nat.lt_or_ge i k with hlt | hge
      · exact ih (by omega) i h0 hlt
      · obtain rfl : i = k := by omega
        exact Tru.up hL hN h0 (by omega) (ih (by omega)) (hN i (by omega) (by omega)) (fun _ _ => rfl) (h i h0 (by omega))
  exact this n (Nat.le_refl _)
theorem Pass.tru {O N : Nat → Nat} (hL : Lead n P) (hO : Dn n O) (hT : Tru n n P O) (hN : Dn n N) (h : Pass n P O N) : Tru n n P N := by
  have : ∀ k, k ≤ n → Tru n k P N := by
    intro k
    induction k with
    | zero => intro _ i _ hi; omega
    | succ k ih =>
      intro hk i h0 hi z hz hf
      rcases Nat.lt_or_ge i k with hlt | hge
      · exact ih (by omega) i h0 hlt z hz hf
      · obtain rfl : i = k := by omega
        have hX : Dn n (mixA i N O) := Dn.mixA (fun b hb hbi => hN b hb (by omega)) hO
        have hTX : Tru n n P (mixA i N O) := fun j j0 jn y hy hfy => by
          rcases Nat.lt_or_ge j i with hj | hj
          · rw [mixA_lt hj]; exact ih (by omega) j j0 hj y hy hfy
          · rw [mixA_ge hj]; exact hT j j0 jn y hy hfy
        have hall : ∀ p, P p i → ¬ Free n P z p := fun p hp hfp => hf (.step hfp hp (by omega) (Ne.symm hz))
        obtain ⟨q, hq, hlt⟩ := hL.fwd i h0 (by omega)
        have hNi := hN i (by omega) (by omega)
        have h1 : Anc N z (N i) := (h i h0 (by omega) z).2 fun p hp => Tru.anc hX hTX p (hL.lt p i hp (by omega)) (hall p hp)
        have h2 : Anc (mixA i N O) (N i) q := (h i h0 (by omega) (N i)).1 .refl q hq
        exact Tru.mid hX hTX h2 (by omega) ((mixA_anc hN hNi (by omega) hX).2 h1) (hall q hq)
  exact this n (Nat.le_refl _)
/-- A tree that a pass leaves as it is, is on all ways. -/
theorem Pass.onway {N : Nat → Nat} (hN : Dn n N) (h : Pass n P N N) (hL : Lead n P) {z b : Nat} (hf : Free n P z b) (hb : b < n) : ¬ Anc N z b := by
  induction hf with
  | base hz => intro ha; have := ha.le hN hb; omega
  | @step p i hp hpi hi hne ih =>
    intro ha
    have hpn := hL.lt p i hpi hi
    have hmx : mixA i N N = N := by funext x; unfold Go.Proofs.Yteaknconpkklhaa.mixA; split <;> rfl
    rcases ha.cases' with e | ⟨h0, h1⟩
    · exact hne e.symm
    · have := (h i (by omega) hi z).1 h1 p hpi
      rw [hmx] at this
      exact ih hpn this
/-- What stands at a round's head behind the first pass. -/
structure Hist (n : Nat) (P : Nat → Nat → Prop) (O : Nat → Nat) : Prop where
  dn : Dn n O
  fwd : Fwd n P O
  tru : Tru n n P O
  prev : First n P O ∨ ∃ O', Dn n O' ∧ Fwd n P O' ∧ Pass n P O' O ∧ ∀ z i, i < n → Anc O z i → Anc O' z i
theorem Hist.mono {O N : Nat → Nat} (hL : Lead n P) (h : Hist n P O) (hN : Dn n N) (hp : Pass n P O N) : ∀ i, i < n → ∀ z, Anc N z i → Anc O z i := by
  intro i
  induction i using Nat.strongRecOn with
  | _ i ih =>
    intro hi z hz
    rcases hz.cases' with rfl | ⟨h0, hz1⟩
    · exact .refl
    have h0' : 0 < i := by omega
    have hlt := hN i h0 hi
    have hzi : z < i := by have := hz1.le hN (by omega); omega
    have hall := (hp i h0' hi z).1 hz1
    have hmN : Dn n (mixA i N O) := Dn.mixA (fun b hb hbi => hN b hb (by omega)) h.dn
    refine .step h0 ?_
    rcases h.prev with hf | ⟨O', d', f', p', m'⟩
    · refine (hf i h0' hi z).2 fun p hpi hplt => ?_
      exact ih p hplt (by omega) z ((mixA_anc hN hplt (by omega) hmN).1 (hall p hpi))
    · refine (p' i h0' hi z).2 fun p hpi => ?_
      have hpn := hL.lt p i hpi hi
      have hmO : Dn n (mixA i O O') := Dn.mixA (fun b hb hbi => h.dn b hb (by omega)) d'
      rcases Nat.lt_or_ge p i with hplt | hpge
      · exact (mixA_anc h.dn hplt hpn hmO).2 (ih p hplt hpn z ((mixA_anc hN hplt hpn hmN).1 (hall p hpi)))
      · obtain ⟨g, g1, g2, g3, g4⟩ := split_at i h.dn p hpge hpn h0'
        obtain ⟨g', k1, k2, k3, k4⟩ := split_at i d' p hpge hpn h0'
        have hzg : Anc N z g := (g4 N hN z hzi).1 (hall p hpi)
        have hOg : Anc O z g := ih g g1 (by omega) z hzg
        have hOp : Anc O z p := hOg.trans g2
        have hgg : g ≤ g' := k3 g (m' g p hpn g2) g1
        have hzle : z ≤ g := hzg.le hN (by omega)
        exact (k4 O h.dn z hzi).2 (Way.down h.dn h.fwd (Anc.way hL d' f' p hpn k2) hpn hOp (by omega)).1
theorem Hist.next {O N : Nat → Nat} (hL : Lead n P) (h : Hist n P O) (hN : Dn n N) (hp : Pass n P O N) : Hist n P N ∧ ∀ i, i < n → 0 < i → N i ≤ O i := by
  have hm := h.mono hL hN hp
  refine ⟨⟨hN, hp.fwd h.dn hN, hp.tru hL h.dn h.tru hN, .inr ⟨O, h.dn, h.fwd, hp, fun z i hi hz => hm i hi z hz⟩⟩, fun i hi h0 => ?_⟩
  have h1 : Anc O (N i) i := hm i hi (N i) (.step (by omega) .refl)
  have hlt := hN i (by omega) hi
  rcases h1.cases' with h2 | ⟨_, h2⟩
  · omega
  · exact h2.le h.dn (by have := h.dn i (by omega) hi; omega)
end Go.Proofs.Yteaknconpkklhaa
set_option linter.unusedVariables false
set_option linter.unusedSimpArgs false
namespace Go.Proofs.Yteaknconpkklhaa
open Go Go.Proofs
/-- A function all whose blocks are reached, in their order. -/
structure Full (f : PFunc) (R : List Int) : Prop where
  sm : SmF f
  pos : 0 < f.blocks.length
  ord : graph_Order f = some R
  rea : graph_Reached f = some (List.replicate f.blocks.length true)
  len : R.length = f.blocks.length
  all : ∀ i (hi : i < R.length), ∃ v : Nat, R[i] = v ∧ v < f.blocks.length
  mem : ∀ v : Nat, v < f.blocks.length → (v : Int) ∈ R
  nodup : R.Nodup
  head : R[0]? = some 0
  led : ∀ i (hi : i < R.length), 0 < i → ∃ k, ∃ hk : k < i, ∃ u : Nat, R[k]'(by omega) = (u : Int) ∧ ∃ hu : u < f.blocks.length, R[i] ∈ f.blocks[u].term.to
theorem full_of (f : PFunc) (hf : SmF f) (hpos : 0 < f.blocks.length) {s : List Bool} {o : List Int} (hw : Walked f s o) (hs : s = List.replicate f.blocks.length true) : Full f o.reverse := by
  have hO := ord_any f hf hw
  obtain ⟨s1, o1, hw1, h10, h11⟩ := walked_any f hf
  obtain rfl : s1 = s := Option.some.inj (hw1.rea.symm.trans hw.rea)
  have ho : o.reverse = o1.reverse := Option.some.inj (hw.ord.symm.trans hw1.ord)
  obtain rfl : o = o1 := by rw [← List.reverse_reverse o, ho, List.reverse_reverse]
  obtain ⟨hV, hs0, hit⟩ := h11 hpos
  obtain ⟨new, hn1, hn2, hn3⟩ := hV.app
  simp only [List.nil_append] at hn1
  subst hn1
  have hlen : o.reverse.length = f.blocks.length := by rw [hO.cnt, hs, List.count_replicate_self]
  refine ⟨hf, hpos, hw.ord, hs ▸ hw.rea, hlen, fun i hi => ?_, fun v hv => ?_, hO.nodup, ?_, hO.led⟩
  · obtain ⟨v, h1, h2, _⟩ := hO.all _ (List.getElem_mem hi)
    exact ⟨v, h1, h2⟩
  · rw [List.mem_reverse, hn3]
    exact ⟨v, rfl, by rw [hs]; simp [hv], by simp [hv]⟩
  · rcases hO.head with h | ⟨p, h⟩
    · rw [h] at hlen; simp at hlen; omega
    · rw [h]; rfl
def ob (R : List Int) (i : Nat) : Nat := (R.getD i 0).toNat
def pb (R : List Int) (b : Nat) : Nat := R.idxOf (b : Int)
section
variable {f : PFunc} {R : List Int}
theorem Full.get (h : Full f R) {i : Nat} (hi : i < f.blocks.length) : R[i]? = some ((ob R i : Nat) : Int) ∧ ob R i < f.blocks.length := by
  have hi' : i < R.length := by rw [h.len]; exact hi
  obtain ⟨v, h1, h2⟩ := h.all i hi'
  have : ob R i = v := by unfold ob; rw [List.getD_eq_getElem?_getD, List.getElem?_eq_getElem hi', h1]; rfl
  rw [this, List.getElem?_eq_getElem hi', h1]
  exact ⟨rfl, h2⟩
theorem Full.pb_ob (h : Full f R) {i : Nat} (hi : i < f.blocks.length) : pb R (ob R i) = i := by
  have hi' : i < R.length := by rw [h.len]; exact hi
  obtain ⟨h1, _⟩ := h.get hi
  rw [List.getElem?_eq_getElem hi'] at h1
  unfold pb
  rw [← Option.some.inj h1]
  exact h.nodup.idxOf_getElem i hi'
theorem Full.ob_pb (h : Full f R) {b : Nat} (hb : b < f.blocks.length) : ob R (pb R b) = b ∧ pb R b < f.blocks.length := by
  have hm := h.mem b hb
  have hlt : pb R b < R.length := List.idxOf_lt_length_of_mem hm
  refine ⟨?_, by rw [← h.len]; exact hlt⟩
  unfold ob
  rw [List.getD_eq_getElem?_getD, List.getElem?_eq_getElem hlt]
  show (R[R.idxOf (b : Int)]'hlt).toNat = b
  rw [List.getElem_idxOf hlt]; rfl
theorem Full.ob0 (h : Full f R) : ob R 0 = 0 := by
  obtain ⟨h1, _⟩ := h.get h.pos
  rw [h.head] at h1
  have := Option.some.inj h1
  omega
theorem Full.pb0 (h : Full f R) : pb R 0 = 0 := by
  have := h.pb_ob h.pos
  rwa [h.ob0] at this
theorem Full.ob_inj (h : Full f R) {i j : Nat} (hi : i < f.blocks.length) (hj : j < f.blocks.length) (he : ob R i = ob R j) : i = j := by
  rw [← h.pb_ob hi, ← h.pb_ob hj, he]
/-! ### Nearest ones as a list of blocks -/
structure Ts (f : PFunc) (R : List Int) (D : Nat → Prop) (M : Nat → Nat) (S : List Int) : Prop where
  len : S.length = f.blocks.length
  on : ∀ j, j < f.blocks.length → D j → S[ob R j]? = some ((ob R (M j) : Nat) : Int)
  off : ∀ j, j < f.blocks.length → ¬ D j → S[ob R j]? = some (-1)
  dn : Dn f.blocks.length M
  cl : ∀ j, j < f.blocks.length → D j → D (M j)
def plL (f : PFunc) (R : List Int) : List Int := (List.range f.blocks.length).map fun b => ((pb R b : Nat) : Int)
theorem plL_get {b : Nat} (hb : b < f.blocks.length) : idx (plL f R) (b : Int) = some ((pb R b : Nat) : Int) := by
  rw [idx_nat]; simp [plL, hb]
theorem Full.plL_ob (h : Full f R) {i : Nat} (hi : i < f.blocks.length) : idx (plL f R) ((ob R i : Nat) : Int) = some (i : Int) := by
  rw [plL_get (h.get hi).2, h.pb_ob hi]
variable {D : Nat → Prop} {M : Nat → Nat} {S : List Int}
theorem Ts.get (hS : Ts f R D M S) {j : Nat} (hj : j < f.blocks.length) (hD : D j) : idx S ((ob R j : Nat) : Int) = some ((ob R (M j) : Nat) : Int) := by rw [idx_nat]; exact hS.on j hj hD
theorem small_max {m : Nat} (h : m ≤ 1000000) : m < FUEL := lt_FUEL (by simp only [maxLen]; omega)
/-- Up from a until it isn't behind b. -/
theorem up_to (h : Full f R) (hS : Ts f R D M S) (β : Nat) (hβ : β < f.blocks.length) (body : Int → Option (Ex Int Int))
    (hb : ∀ α, α < f.blocks.length → D α → body ((ob R α : Nat) : Int) = some (if (α : Int) > (β : Int) then .go ((ob R (M α) : Nat) : Int) else .ret ((ob R α : Nat) : Int))) (α : Nat) (hα : α < f.blocks.length) (hD : D α) :
    ∃ α', whl body FUEL ((ob R α : Nat) : Int) = some ((ob R α' : Nat) : Int) ∧ α' < f.blocks.length ∧ D α' ∧ α' ≤ α ∧ α' ≤ β ∧ ∀ z, z ≤ β → (Anc M z α' ↔ Anc M z α) := by
  have hn := h.sm.1
  obtain ⟨r, hr, a', h1, h2⟩ := whl_ex (body := body) (fun s => ∃ a, s = ((ob R a : Nat) : Int) ∧ a < f.blocks.length ∧ D a ∧ a ≤ α ∧ ∀ z, z ≤ β → (Anc M z a ↔ Anc M z α)) (fun s => pb R s.toNat)
    (fun r => ∃ a, r = ((ob R a : Nat) : Int) ∧ a < f.blocks.length ∧ D a ∧ a ≤ α ∧ a ≤ β ∧ ∀ z, z ≤ β → (Anc M z a ↔ Anc M z α)) (by
      rintro s ⟨a, rfl, g1, g2, g3, g4⟩
      rw [hb a g1 g2]
      by_cases hc : (a : Int) > (β : Int)
      · rw [if_pos hc]
        have ha0 : a ≠ 0 := by omega
        have hlt := hS.dn a ha0 g1
        refine .inr ⟨_, rfl, ⟨M a, rfl, by omega, hS.cl a g1 g2, by omega, fun z hz => ?_⟩, ?_⟩
        · rw [← g4 z hz]
          constructor
          · exact fun k => .step ha0 k
          · intro k
            rcases k.cases' with rfl | ⟨_, k⟩
            · omega
            · exact k
        · rw [Int.toNat_natCast, Int.toNat_natCast, h.pb_ob g1, h.pb_ob (by omega)]; exact hlt
      · rw [if_neg hc]
        exact .inl ⟨_, rfl, a, rfl, g1, g2, g3, by omega, g4⟩) FUEL _ ⟨α, rfl, hα, hD, Nat.le_refl _, fun z _ => Iff.rfl⟩ (by rw [Int.toNat_natCast, h.pb_ob hα]; exact small_max (by omega))
  exact ⟨a', by rw [hr, h1], h2⟩
theorem meet_ok (h : Full f R) (hS : Ts f R D M S) (α β : Nat) (hα : α < f.blocks.length) (hβ : β < f.blocks.length) (hDa : D α) (hDb : D β) :
    ∃ κ, dom_meet S (plL f R) ((ob R α : Nat) : Int) ((ob R β : Nat) : Int) = some ((ob R κ : Nat) : Int) ∧ κ < f.blocks.length ∧ D κ ∧ ∀ z, Anc M z κ ↔ (Anc M z α ∧ Anc M z β) := by
  have hn := h.sm.1
  unfold dom_meet
  obtain ⟨r, hr, κ, h1, h2, h3, h4⟩ := whl_ex (body := fun (s : Int × Int) => dom_meet.bd8 S (plL f R) s.1 s.2)
    (fun s => ∃ a b, s = (((ob R a : Nat) : Int), ((ob R b : Nat) : Int)) ∧ a < f.blocks.length ∧ b < f.blocks.length ∧ D a ∧ D b ∧ ∀ z, (Anc M z a ∧ Anc M z b) ↔ (Anc M z α ∧ Anc M z β))
    (fun s => pb R s.1.toNat + pb R s.2.toNat) (fun r => ∃ κ, r = ((ob R κ : Nat) : Int) ∧ κ < f.blocks.length ∧ D κ ∧ ∀ z, Anc M z κ ↔ (Anc M z α ∧ Anc M z β)) (by
      rintro s ⟨a, b, rfl, ha, hb, hDa, hDb, hz⟩
      simp only [dom_meet.bd8]
      by_cases hc : ((ob R a : Nat) : Int) = ((ob R b : Nat) : Int)
      · have hab : a = b := h.ob_inj ha hb (by omega)
        subst hab
        rw [if_neg (by simp)]
        exact .inl ⟨_, rfl, a, rfl, ha, hDa, fun z => by rw [← hz z, and_self]⟩
      · rw [if_pos hc]
        obtain ⟨a', g1, g2, g3, g4, g5, g6⟩ := up_to h hS b hb (fun s => dom_meet.bd24 S (plL f R) ((ob R b : Nat) : Int) s) (fun x hx hDx => by
          simp only [dom_meet.bd24, h.plL_ob hx, h.plL_ob hb, Option.bind_some, hS.get hx hDx]
          split <;> rfl) a ha hDa
        rw [g1]
        simp only [Option.bind_some, dom_meet.nx24]
        obtain ⟨b', k1, k2, k3, k4, k5, k6⟩ := up_to h hS a' g2 (fun s => dom_meet.bd31 S (plL f R) ((ob R a' : Nat) : Int) s) (fun x hx hDx => by
          simp only [dom_meet.bd31, h.plL_ob hx, h.plL_ob g2, Option.bind_some, hS.get hx hDx]
          split <;> rfl) b hb hDb
        rw [k1]
        simp only [Option.bind_some, dom_meet.nx31]
        refine .inr ⟨_, rfl, ⟨a', b', rfl, g2, k2, g3, k3, fun z => ?_⟩, ?_⟩
        · rw [← hz z]
          constructor
          · rintro ⟨m1, m2⟩
            have l1 := m1.le hS.dn g2
            have l2 := m2.le hS.dn k2
            exact ⟨(g6 z (by omega)).1 m1, (k6 z (by omega)).1 m2⟩
          · rintro ⟨m1, m2⟩
            have l1 := m1.le hS.dn ha
            have l2 := m2.le hS.dn hb
            have m3 := (g6 z (by omega)).2 m1
            have l3 := m3.le hS.dn g2
            exact ⟨m3, (k6 z l3).2 m2⟩
        · have hne : a ≠ b := fun e => hc (by rw [e])
          simp only [Int.toNat_natCast]
          rw [h.pb_ob ha, h.pb_ob hb, h.pb_ob g2, h.pb_ob k2]
          omega) FUEL _ ⟨α, β, rfl, hα, hβ, hDa, hDb, fun z => Iff.rfl⟩ (by simp only [Int.toNat_natCast]; rw [h.pb_ob hα, h.pb_ob hβ]; exact small_max (by omega))
  exact ⟨κ, by rw [hr, h1]; rfl, h2, h3, h4⟩
end
end Go.Proofs.Yteaknconpkklhaa
set_option linter.unusedVariables false
set_option linter.unusedSimpArgs false
namespace Go.Proofs.Yteaknconpkklhaa
open Go Go.Proofs
section
variable {f : PFunc} {R : List Int}
/-- Place p leads to place i. -/
def Pl (f : PFunc) (R : List Int) (p i : Nat) : Prop := p < f.blocks.length ∧ ((ob R i : Nat) : Int) ∈ (nexts f).getD (ob R p) []
theorem mem_preds (nx : List (List Int)) (t : Nat) (x : Int) : x ∈ preds nx t ↔ ∃ j : Nat, x = j ∧ j < nx.length ∧ (t : Int) ∈ nx.getD j [] := by
  unfold preds
  simp only [List.mem_map, List.mem_filter, List.mem_range, decide_eq_true_eq]
  constructor
  · rintro ⟨j, ⟨h1, h2⟩, rfl⟩; exact ⟨j, rfl, h1, h2⟩
  · rintro ⟨j, rfl, h1, h2⟩; exact ⟨j, ⟨h1, h2⟩, rfl⟩
theorem nexts_getD (f : PFunc) {v : Nat} (h : v < f.blocks.length) : (nexts f).getD v [] = succs f.blocks.length f.blocks[v].term.to := by
  rw [List.getD_eq_getElem?_getD, nexts_get f v h]; rfl
theorem Full.lead (h : Full f R) : Lead f.blocks.length (Pl f R) := by
  refine ⟨fun p i hp _ => hp.1, fun i h0 hi => ?_⟩
  obtain ⟨k, hk, u, h1, hu, h2⟩ := h.led i (by rw [h.len]; exact hi) h0
  have hk' : k < f.blocks.length := by omega
  have hob : ob R k = u := by
    have := (h.get hk').1
    rw [List.getElem?_eq_getElem (by rw [h.len]; exact hk'), h1] at this
    have := Option.some.inj this; omega
  have hobi : R[i]'(by rw [h.len]; exact hi) = ((ob R i : Nat) : Int) := by
    have := (h.get hi).1
    rw [List.getElem?_eq_getElem (by rw [h.len]; exact hi)] at this
    exact Option.some.inj this
  refine ⟨k, ⟨hk', ?_⟩, hk⟩
  rw [hob, nexts_getD f hu, mem_succs]
  rw [hobi] at h2
  have := (h.get hi).2
  exact ⟨h2, by omega, by omega⟩
/-- The blocks that lead to the block of place i, as places. -/
theorem Full.preds (h : Full f R) {i : Nat} (hi : i < f.blocks.length) : ∀ x ∈ preds (nexts f) (ob R i), ∃ p, x = ((ob R p : Nat) : Int) ∧ p < f.blocks.length ∧ Pl f R p i := fun x hx => by
  obtain ⟨j, rfl, h1, h2⟩ := (mem_preds _ _ _).1 hx
  rw [nexts_length] at h1
  obtain ⟨g1, g2⟩ := h.ob_pb h1
  exact ⟨pb R j, by rw [g1], g2, g2, by rw [g1]; exact h2⟩
theorem Full.preds' (h : Full f R) {i p : Nat} (hp : Pl f R p i) : ((ob R p : Nat) : Int) ∈ Go.Proofs.Yteaknconpkklhaa.preds (nexts f) (ob R i) :=
  (mem_preds _ _ _).2 ⟨ob R p, rfl, by rw [nexts_length]; exact (h.get hp.1).2, hp.2⟩
/-! ### One place -/
variable {D : Nat → Prop} {M : Nat → Nat} {S : List Int}
/-- What is best, behind some of those that lead to a place. -/
def Best (f : PFunc) (R : List Int) (D : Nat → Prop) (M : Nat → Nat) (l : List Int) (b : Int) : Prop :=
  (b = -1 ∧ ∀ p, p < f.blocks.length → ((ob R p : Nat) : Int) ∈ l → ¬ D p) ∨
  ∃ κ, b = ((ob R κ : Nat) : Int) ∧ κ < f.blocks.length ∧ D κ ∧ ∀ z, Anc M z κ ↔ ∀ p, p < f.blocks.length → ((ob R p : Nat) : Int) ∈ l → D p → Anc M z p
theorem best_ok (h : Full f R) [hdec : DecidablePred D] (hS : Ts f R D M S) (l : List Int) (hl : l.length ≤ 1000) (hin : ∀ x ∈ l, ∃ p, x = ((ob R p : Nat) : Int) ∧ p < f.blocks.length)
    (hany : ∃ q, q < f.blocks.length ∧ ((ob R q : Nat) : Int) ∈ l ∧ D q) :
    ∃ κ, whl (fun (s : Int × Int) => dom_Nearest.bd84 (plL f R) S l s.1 s.2) FUEL (-1, 0) = some ((ob R κ : Nat) : Int) ∧ κ < f.blocks.length ∧ D κ ∧ ∀ z, Anc M z κ ↔ ∀ p, p < f.blocks.length → ((ob R p : Nat) : Int) ∈ l → D p → Anc M z p := by
  obtain ⟨r, hr, hb⟩ := whl_for (body := fun (s : Int × Int) => dom_Nearest.bd84 (plL f R) S l s.1 s.2) l.length
    (fun k s => s.2 = (k : Int) ∧ Best f R D M (l.take k) s.1) (fun r => Best f R D M l r) (le_max hl (by omega)) (by
      rintro k ⟨b, kk⟩ hk ⟨rfl, hb⟩
      simp only at hb
      obtain ⟨p, hp, hpn⟩ := hin _ (List.getElem_mem hk)
      have hw := w64_i hk (show l.length ≤ 1000 by omega)
      have hmem : ∀ q, q < f.blocks.length → (((ob R q : Nat) : Int) ∈ l.take (k + 1) ↔ (((ob R q : Nat) : Int) ∈ l.take k ∨ q = p)) := fun q hq => by
        rw [List.take_succ_eq_append_getElem hk, List.mem_append, List.mem_singleton, hp]
        constructor
        · rintro (h1 | h1)
          · exact .inl h1
          · exact .inr (h.ob_inj hq hpn (by omega))
        · rintro (h1 | rfl)
          · exact .inl h1
          · exact .inr rfl
      simp only [dom_Nearest.bd84, len_lt, hk, if_true, idx_lt hk, Option.bind_some, hp]
      by_cases hD : D p
      · rw [hS.get hpn hD]
        simp only [Option.bind_some]
        rw [if_neg (by omega)]
        rcases hb with ⟨rfl, hno⟩ | ⟨κ, rfl, hκ, hDκ, hz⟩
        · rw [if_pos (by omega)]
          simp only [dom_Nearest.jn97, hw]
          refine .inr ⟨_, rfl, rfl, .inr ⟨p, rfl, hpn, hD, fun z => ⟨fun hz q hq hm hDq => ?_, fun hall => hall p hpn ((hmem p hpn).2 (.inr rfl)) hD⟩⟩⟩
          rcases (hmem q hq).1 hm with h1 | rfl
          · exact absurd hDq (hno q hq h1)
          · exact hz
        · rw [if_neg (by omega)]
          obtain ⟨κ', g1, g2, g3, g4⟩ := meet_ok h hS p κ hpn hκ hD hDκ
          rw [g1]
          simp only [Option.bind_some, dom_Nearest.jn97, hw]
          refine .inr ⟨_, rfl, rfl, .inr ⟨κ', rfl, g2, g3, fun z => ?_⟩⟩
          rw [g4 z, hz z]
          constructor
          · rintro ⟨h1, h2⟩ q hq hm hDq
            rcases (hmem q hq).1 hm with h3 | rfl
            · exact h2 q hq h3 hDq
            · exact h1
          · intro hall
            exact ⟨hall p hpn ((hmem p hpn).2 (.inr rfl)) hD, fun q hq hm hDq => hall q hq ((hmem q hq).2 (.inl hm)) hDq⟩
      · rw [idx_nat, hS.off p hpn hD]
        simp only [Option.bind_some]
        rw [if_pos (by omega)]
        simp only [dom_Nearest.jn97, hw]
        refine .inr ⟨_, rfl, rfl, ?_⟩
        rcases hb with ⟨rfl, hno⟩ | ⟨κ, rfl, hκ, hDκ, hz⟩
        · refine .inl ⟨rfl, fun q hq hm => ?_⟩
          rcases (hmem q hq).1 hm with h1 | rfl
          · exact hno q hq h1
          · exact hD
        · refine .inr ⟨κ, rfl, hκ, hDκ, fun z => ?_⟩
          rw [hz z]
          constructor
          · intro hall q hq hm hDq
            rcases (hmem q hq).1 hm with h1 | rfl
            · exact hall q hq h1 hDq
            · exact absurd hDq hD
          · exact fun hall q hq hm hDq => hall q hq ((hmem q hq).2 (.inl hm)) hDq) (by
      rintro ⟨b, kk⟩ ⟨rfl, hb⟩
      simp only [List.take_length] at hb
      refine ⟨b, ?_, hb⟩
      simp [dom_Nearest.bd84, len]) (s0 := (-1, 0)) ⟨rfl, .inl ⟨rfl, fun p _ hm => by simp at hm⟩⟩
  rcases hb with ⟨rfl, hno⟩ | ⟨κ, rfl, h1⟩
  · obtain ⟨q, hq, hm, hDq⟩ := hany
    exact absurd hDq (hno q hq hm)
  · exact ⟨κ, hr, h1⟩
end
end Go.Proofs.Yteaknconpkklhaa
set_option linter.unusedVariables false
set_option linter.unusedSimpArgs false
namespace Go.Proofs.Yteaknconpkklhaa
open Go Go.Proofs
section
variable {f : PFunc} {R : List Int}
def DD (later : Bool) (i j : Nat) : Prop := later = true ∨ j < i
instance {later : Bool} {i : Nat} : DecidablePred (DD later i) := fun j => inferInstanceAs (Decidable (later = true ∨ j < i))
/-- A row of nearest ones, as places: whole. -/
structure Nr (f : PFunc) (N : Nat → Nat) : Prop where
  dn : Dn f.blocks.length N
  zero : N 0 = 0
  out : ∀ j, f.blocks.length ≤ j → N j = 0
structure In (f : PFunc) (R : List Int) (later : Bool) (O : Nat → Nat) (i : Nat) (N : Nat → Nat) (S : List Int) (chg : Bool) : Prop where
  dn : Dn f.blocks.length N
  zero : N 0 = 0
  out : ∀ j, i ≤ j → N j = 0
  ts : Ts f R (DD later i) (mixA i N O) S
  ps : ∀ j, 0 < j → j < i → ∀ z, Anc N z (N j) ↔ ∀ p, Pl f R p j → DD later j p → Anc (mixA j N O) z p
  ch1 : later = true → (chg = true ↔ ∃ j, 0 < j ∧ j < i ∧ N j ≠ O j)
  ch0 : later = false → (chg = true ∨ i = 1)
  ch2 : i = 1 → chg = false
def nup (N : Nat → Nat) (i κ : Nat) : Nat → Nat := fun x => if x = i then κ else N x
theorem nup_same (N : Nat → Nat) (i κ : Nat) : nup N i κ i = κ := if_pos rfl
theorem nup_ne (N : Nat → Nat) {i j : Nat} (κ : Nat) (h : j ≠ i) : nup N i κ j = N j := if_neg h
theorem In.next {later : Bool} {O : Nat → Nat} (h : Full f R) (hO : Nr f O) {i : Nat} {N : Nat → Nat} {S : List Int} {chg : Bool} (hi0 : 0 < i) (hi : i < f.blocks.length) (hI : In f R later O i N S chg) :
    ∃ κ S' chg' N', whl (fun (s : Int × Int) => dom_Nearest.bd84 (plL f R) S (preds (nexts f) (ob R i)) s.1 s.2) FUEL (-1, 0) = some κ ∧
      (∃ v, idx S ((ob R i : Nat) : Int) = some v ∧ ((¬ v = κ ∧ S' = S.set (ob R i) κ ∧ chg' = true) ∨ (v = κ ∧ S' = S ∧ chg' = chg))) ∧ In f R later O (i + 1) N' S' chg' := by
  obtain ⟨q, hq, hlt⟩ := h.lead.fwd i hi0 hi
  have hmem : ∀ p, p < f.blocks.length → (((ob R p : Nat) : Int) ∈ preds (nexts f) (ob R i) ↔ Pl f R p i) := fun p hp =>
    ⟨fun hm => by obtain ⟨p', e1, e2, e3⟩ := h.preds hi _ hm; rwa [h.ob_inj hp e2 (by omega)], fun hm => h.preds' hm⟩
  obtain ⟨κ, h1, h2, h3, h4⟩ := best_ok h hI.ts (preds (nexts f) (ob R i)) (by have := preds_length (nexts f) (ob R i); rw [nexts_length] at this; have := h.sm.1; omega)
    (fun x hx => by obtain ⟨p, e1, e2, _⟩ := h.preds hi x hx; exact ⟨p, e1, e2⟩) ⟨q, hq.1, (hmem q hq.1).2 hq, .inr hlt⟩
  have hκ : κ < i := by
    have := ((h4 κ).1 .refl q hq.1 ((hmem q hq.1).2 hq) (.inr hlt)).le hI.ts.dn hq.1
    omega
  have hm : ∀ j, j ≤ i → mixA j (nup N i κ) O = mixA j N O := fun j hj => by
    funext x
    unfold mixA
    split
    · rw [nup_ne _ _ (by omega)]
    · rfl
  have hdnN : Dn f.blocks.length (nup N i κ) := fun b h0 hb => by
    by_cases e : b = i
    · subst e; rw [nup_same]; exact hκ
    · rw [nup_ne _ _ e]; exact hI.dn b h0 hb
  have hagr : ∀ b, b < i → b < f.blocks.length → ∀ z, Anc (nup N i κ) z b ↔ Anc N z b := fun b hb hbn z =>
    ⟨fun k => k.agree hdnN hbn (fun j hj => nup_ne _ _ (by omega)), fun k => k.agree hI.dn hbn (fun j hj => (nup_ne _ _ (by omega)).symm)⟩
  have hM' : ∀ j, j ≠ i → mixA (i + 1) (nup N i κ) O j = mixA i N O j := fun j hj => by
    unfold mixA
    by_cases hlt : j < i
    · rw [if_pos (by omega), if_pos hlt, nup_ne _ _ hj]
    · rw [if_neg (by omega), if_neg hlt]
  have hMi : mixA (i + 1) (nup N i κ) O i = κ := by rw [mixA_lt (by omega)]; exact nup_same _ _ _
  have hlen := hI.ts.len
  obtain ⟨hgi, hobi⟩ := h.get hi
  -- the new row
  have hts : Ts f R (DD later (i + 1)) (mixA (i + 1) (nup N i κ) O) (S.set (ob R i) ((ob R κ : Nat) : Int)) := by
    refine ⟨by rw [List.length_set]; exact hlen, fun j hj hD => ?_, fun j hj hD => ?_, Dn.mixA (fun b h0 hb => hdnN b h0 (by omega)) hO.dn, fun j hj hD => ?_⟩
    · by_cases e : j = i
      · subst e; rw [hMi, List.getElem?_set_self (by rw [hlen]; exact hobi)]
      · rw [hM' j e, List.getElem?_set_ne (fun e2 => e (h.ob_inj hj hi e2.symm))]
        exact hI.ts.on j hj (hD.imp id (fun hl => by omega))
    · have e : j ≠ i := fun e => hD (.inr (by omega))
      rw [List.getElem?_set_ne (fun e2 => e (h.ob_inj hj hi e2.symm))]
      exact hI.ts.off j hj (fun hD2 => hD (hD2.imp id (fun hl => by omega)))
    · rcases hD with hl | hl
      · exact .inl hl
      · refine .inr ?_
        by_cases e : j = i
        · subst e; rw [hMi]; omega
        · rw [hM' j e, mixA_lt (by omega)]
          by_cases e0 : j = 0
          · subst e0; rw [hI.zero]; omega
          · have := hI.dn j e0 hj; omega
  have hps : ∀ j, 0 < j → j < i + 1 → ∀ z, Anc (nup N i κ) z ((nup N i κ) j) ↔ ∀ p, Pl f R p j → DD later j p → Anc (mixA j (nup N i κ) O) z p := by
    intro j hj0 hj z
    rw [hm j (by omega)]
    by_cases e : j = i
    · subst e
      rw [nup_same]
      rw [hagr κ hκ h2 z, ← mixA_anc (i := j) (B := O) hI.dn hκ h2 hI.ts.dn, h4 z]
      exact ⟨fun hall p hp hD => hall p hp.1 ((hmem p hp.1).2 hp) hD, fun hall p hp hpm hD => hall p ((hmem p hp).1 hpm) hD⟩
    · rw [nup_ne _ _ e]
      have hNj := hI.dn j (by omega) (by omega)
      rw [hagr (N j) (by omega) (by omega) z]
      exact hI.ps j hj0 (by omega) z
  -- what stood there
  have hold : ∃ v, S[ob R i]? = some v ∧ (later = true → v = ((ob R (O i) : Nat) : Int)) ∧ (later = false → v = -1) := by
    by_cases hl : later = true
    · exact ⟨_, hI.ts.on i hi (.inl hl), fun _ => by rw [mixA_ge (Nat.le_refl _)], fun e => by rw [hl] at e; cases e⟩
    · exact ⟨_, hI.ts.off i hi (fun hD => hD.elim hl (fun e => by omega)), fun e => absurd e hl, fun _ => rfl⟩
  obtain ⟨v, hv, hv1, hv2⟩ := hold
  have hout : ∀ j, i + 1 ≤ j → (nup N i κ) j = 0 := fun j hj => by
    rw [nup_ne _ _ (by omega)]; exact hI.out j (by omega)
  have hz0 : (nup N i κ) 0 = 0 := by rw [nup_ne _ _ (by omega)]; exact hI.zero
  have hchg : later = true → (¬ v = ((ob R κ : Nat) : Int) ↔ κ ≠ O i) := fun hl => by
    rw [hv1 hl]
    have hOi := hO.dn i (by omega) hi
    constructor
    · intro h5 e; exact h5 (by rw [e])
    · intro h5 e; exact h5 (h.ob_inj (by omega) (by omega) (by omega))
  by_cases hc : v = ((ob R κ : Nat) : Int)
  · refine ⟨_, S, chg, nup N i κ, h1, ⟨v, by rw [idx_nat]; exact hv, .inr ⟨hc, rfl, rfl⟩⟩, ⟨hdnN, hz0, hout, ?_, hps, fun hl => ?_, fun hl => ?_, fun hl => ?_⟩⟩
    · have : S.set (ob R i) ((ob R κ : Nat) : Int) = S := by
        apply List.ext_getElem?
        intro x
        rw [List.getElem?_set]
        by_cases e : ob R i = x
        · subst e; rw [if_pos rfl, if_pos (by rw [hlen]; exact hobi), hv, hc]
        · rw [if_neg e]
      rw [this] at hts; exact hts
    · rw [hI.ch1 hl]
      constructor
      · rintro ⟨j, j1, j2, j3⟩; exact ⟨j, j1, by omega, by rw [nup_ne _ _ (by omega)]; exact j3⟩
      · rintro ⟨j, j1, j2, j3⟩
        by_cases e : j = i
        · subst e
          rw [nup_same] at j3
          exact absurd hc ((hchg hl).2 j3)
        · exact ⟨j, j1, by omega, by rwa [nup_ne _ _ e] at j3⟩
    · rw [hv2 hl] at hc; omega
    · omega
  · refine ⟨_, _, true, nup N i κ, h1, ⟨v, by rw [idx_nat]; exact hv, .inl ⟨hc, rfl, rfl⟩⟩, ⟨hdnN, hz0, hout, hts, hps, fun hl => ⟨fun _ => ⟨i, hi0, by omega, by rw [nup_same]; exact (hchg hl).1 hc⟩, fun _ => rfl⟩, fun _ => .inl rfl, fun hl => by omega⟩⟩
/-- A whole pass. -/
theorem pass_ok {later : Bool} {O : Nat → Nat} (h : Full f R) (hO : Nr f O) {S : List Int} (hI : In f R later O 1 (fun _ => 0) S false) :
    ∃ N S' chg', whl (fun (s : List Int × Bool × Int) => dom_Nearest.bd64 (aheads (nexts f)) (plL f R) (R.drop 1) s.1 s.2.1 s.2.2) FUEL (S, false, 0) = some (S', chg') ∧ In f R later O f.blocks.length N S' chg' := by
  have hn := h.sm.1
  have hpos := h.pos
  obtain ⟨r, hr, N, hN⟩ := whl_for (body := fun (s : List Int × Bool × Int) => dom_Nearest.bd64 (aheads (nexts f)) (plL f R) (R.drop 1) s.1 s.2.1 s.2.2) (f.blocks.length - 1)
    (fun t s => s.2.2 = (t : Int) ∧ ∃ N, In f R later O (t + 1) N s.1 s.2.1) (fun r => ∃ N, In f R later O f.blocks.length N r.1 r.2) (by simp only [maxLen]; omega) (by
      rintro t ⟨S, chg, k⟩ ht ⟨rfl, N, hN⟩
      simp only at hN
      have hi : t + 1 < f.blocks.length := by omega
      have hdl : t < (R.drop 1).length := by simp [h.len]; omega
      have hob : (R.drop 1)[t] = ((ob R (t + 1) : Nat) : Int) := by
        rw [List.getElem_drop]
        have := (h.get hi).1
        rw [List.getElem?_eq_getElem (by rw [h.len]; exact hi)] at this
        have := Option.some.inj this
        simpa [Nat.add_comm] using this
      obtain ⟨κ, S', chg', N', g1, ⟨v, g2, g3⟩, g4⟩ := hN.next h hO (by omega) hi
      have hah : idx (aheads (nexts f)) ((ob R (t + 1) : Nat) : Int) = some (preds (nexts f) (ob R (t + 1))) := by
        rw [idx_nat]; exact aheads_get _ _ (by rw [nexts_length]; exact (h.get hi).2)
      have hw : w64 ((t : Int) + 1) = ((t + 1 : Nat) : Int) := w64_succ (by omega)
      simp only [dom_Nearest.bd64, len_lt, hdl, if_true, idx_lt hdl, Option.bind_some, hob, hah, g1, dom_Nearest.nx84, g2]
      rcases g3 with ⟨e1, rfl, rfl⟩ | ⟨e1, rfl, rfl⟩
      · rw [if_pos e1]
        simp only [dom_Nearest.jn74, hw, Int.toNat_natCast]
        exact .inr ⟨_, rfl, rfl, N', g4⟩
      · rw [if_neg (by simpa using e1)]
        simp only [dom_Nearest.jn74, hw]
        exact .inr ⟨_, rfl, rfl, N', g4⟩) (by
      rintro ⟨S, chg, k⟩ ⟨rfl, N, hN⟩
      simp only at hN
      refine ⟨(S, chg), ?_, N, by rwa [show f.blocks.length - 1 + 1 = f.blocks.length by omega] at hN⟩
      have : ¬ ((f.blocks.length - 1 : Nat) : Int) < len (R.drop 1) := by simp only [len, List.length_drop, h.len]; omega
      simp only [dom_Nearest.bd64]
      rw [if_neg this]) (s0 := (S, false, 0)) ⟨rfl, _, hI⟩
  exact ⟨N, r.1, r.2, hr, hN⟩
end
end Go.Proofs.Yteaknconpkklhaa
set_option linter.unusedVariables false
set_option linter.unusedSimpArgs false
namespace Go.Proofs.Yteaknconpkklhaa
open Go Go.Proofs
theorem domAhead_eq (nx : List (List Int)) (hn : nx.length ≤ 70) (hrow : ∀ row ∈ nx, row.length ≤ 70 ∧ row.Nodup ∧ ∀ x ∈ row, 0 ≤ x ∧ x < (nx.length : Int)) : dom_ahead nx = some (aheads nx) :=
  (show dom_ahead nx = graph_ahead nx from rfl).trans (ahead_eq nx hn hrow)
theorem sum_le : ∀ (n : Nat) (a b : Nat → Nat), (∀ j, j < n → a j ≤ b j) → ((List.range n).map a).sum ≤ ((List.range n).map b).sum
  | 0, a, b, _ => by simp
  | n + 1, a, b, h => by
    have := sum_le n a b (fun j hj => h j (by omega))
    have := h n (by omega)
    simp only [List.range_succ, List.map_append, List.sum_append, List.map_cons, List.map_nil, List.sum_cons, List.sum_nil]; omega
theorem sum_lt : ∀ (n : Nat) (a b : Nat → Nat), (∀ j, j < n → a j ≤ b j) → (∃ j, j < n ∧ a j < b j) → ((List.range n).map a).sum < ((List.range n).map b).sum
  | 0, a, b, _, h => by obtain ⟨j, hj, _⟩ := h; omega
  | n + 1, a, b, h, ⟨j, hj, hlt⟩ => by
    have h1 := h n (by omega)
    simp only [List.range_succ, List.map_append, List.sum_append, List.map_cons, List.map_nil, List.sum_cons, List.sum_nil]
    by_cases e : j = n
    · subst e
      have := sum_le j a b (fun j hj => h j (by omega)); omega
    · have := sum_lt n a b (fun j hj => h j (by omega)) ⟨j, by omega, hlt⟩; omega
theorem sum_max : ∀ (n m : Nat) (a : Nat → Nat), (∀ j, j < n → a j ≤ m) → ((List.range n).map a).sum ≤ n * m
  | 0, m, a, _ => by simp
  | n + 1, m, a, h => by
    have := sum_max n m a (fun j hj => h j (by omega))
    have := h n (by omega)
    simp only [List.range_succ, List.map_append, List.sum_append, List.map_cons, List.map_nil, List.sum_cons, List.sum_nil, Nat.add_mul]; omega
theorem minus_all (l : List Int) (h : l.length ≤ 70) : whl (fun (s : List Int × Int) => dom_Nearest.bd26 l s.1 s.2) FUEL (l, 0) = some (List.replicate l.length (-1)) := by
  have hrun := whl_run (body := fun (s : List Int × Int) => dom_Nearest.bd26 l s.1 s.2) (r := List.replicate l.length (-1)) l.length FUEL (fun i => (List.replicate i (-1) ++ l.drop i, (i : Int))) (fun i hi => by
    have hl : i < (List.replicate i (-1 : Int) ++ l.drop i).length := by simp; omega
    simp only [dom_Nearest.bd26, len_lt, hi, if_true, idx_lt hl, Option.bind_some, Int.toNat_natCast, w64_i hi (show l.length ≤ 1000 by omega)]
    congr 3
    rw [List.set_append_right _ _ (by simp)]
    simp only [List.length_replicate, Nat.sub_self]
    rw [List.drop_eq_getElem_cons hi, List.set_cons_zero, List.replicate_succ', List.append_assoc]; rfl) (by simp [dom_Nearest.bd26, len]) (lt_FUEL (le_max h (by omega)))
  simpa using hrun
section
variable {f : PFunc} {R : List Int}
theorem places (h : Full f R) : whl (fun (s : List Int × Int) => dom_Nearest.bd35 R s.1 s.2) FUEL (List.replicate f.blocks.length 0, 0) = some (plL f R) := by
  have hn := h.sm.1
  have hrun := whl_run (body := fun (s : List Int × Int) => dom_Nearest.bd35 R s.1 s.2) (r := plL f R) R.length FUEL (fun i => ((List.range f.blocks.length).map fun b => if pb R b < i then ((pb R b : Nat) : Int) else 0, (i : Int))) (fun i hi => by
    have hi' : i < f.blocks.length := by rw [← h.len]; exact hi
    obtain ⟨h1, h2⟩ := h.get hi'
    rw [List.getElem?_eq_getElem hi] at h1
    have h1' := Option.some.inj h1
    have hidx : idx ((List.range f.blocks.length).map fun b => if pb R b < i then ((pb R b : Nat) : Int) else 0) ((ob R i : Nat) : Int) = some (if pb R (ob R i) < i then ((pb R (ob R i) : Nat) : Int) else 0) := by
      rw [idx_nat]; simp [h2]
    simp only [dom_Nearest.bd35, len_lt, hi, if_true, idx_lt hi, Option.bind_some, h1', hidx, Int.toNat_natCast, w64_i hi (show R.length ≤ 1000 by rw [h.len]; omega)]
    congr 3
    apply List.ext_getElem (by simp)
    intro x hx1 hx2
    have hx : x < f.blocks.length := by simpa using hx2
    rw [List.getElem_set]
    simp only [List.getElem_map, List.getElem_range]
    by_cases e : ob R i = x
    · subst e
      rw [if_pos rfl, h.pb_ob hi', if_pos (by omega)]
    · rw [if_neg e]
      have : pb R x ≠ i := fun e2 => e (by rw [← e2]; exact (h.ob_pb hx).1)
      by_cases hc : pb R x < i
      · rw [if_pos hc, if_pos (by omega)]
      · rw [if_neg hc, if_neg (by omega)]) (by
    simp only [dom_Nearest.bd35]
    rw [if_neg (by simp [len])]
    congr 2
    unfold plL
    apply List.map_congr_left
    intro b hb
    rw [if_pos (by rw [h.len]; exact (h.ob_pb (List.mem_range.1 hb)).2)]) (lt_FUEL (le_max (by rw [h.len]; exact hn) (by omega)))
  have h0 : ((List.range f.blocks.length).map fun b => if pb R b < 0 then ((pb R b : Nat) : Int) else 0) = List.replicate f.blocks.length (0 : Int) := by
    apply List.ext_getElem (by simp)
    intro x h1 h2
    simp
  rw [h0] at hrun
  exact hrun
def ini (f : PFunc) : List Int := (List.replicate f.blocks.length (-1)).set 0 0
def sumS (f : PFunc) (R S : List Int) : Nat := ((List.range f.blocks.length).map fun j => pb R (S.getD (ob R j) 0).toNat).sum
theorem sumS_eq (h : Full f R) {N : Nat → Nat} (hN : Nr f N) {S : List Int} (hS : Ts f R (fun _ => True) N S) : sumS f R S = ((List.range f.blocks.length).map N).sum := by
  unfold sumS
  congr 1
  apply List.map_congr_left
  intro j hj
  have hj := List.mem_range.1 hj
  rw [List.getD_eq_getElem?_getD, hS.on j hj trivial]
  simp only [Option.getD_some, Int.toNat_natCast]
  by_cases e : j = 0
  · subst e; rw [hN.zero, h.ob0, h.pb0]
  · exact h.pb_ob (by have := hN.dn j e hj; omega)
/-- What stands at the head of a round of passes. -/
def Rd (f : PFunc) (R : List Int) (s : List Int × Bool) : Prop :=
  (s.1 = ini f ∧ s.2 = true) ∨ ∃ O, Nr f O ∧ Hist f.blocks.length (Pl f R) O ∧ Ts f R (fun _ => True) O s.1 ∧ (s.2 = false → Pass f.blocks.length (Pl f R) O O)
theorem ini_ts (h : Full f R) : In f R false (fun _ => 0) 1 (fun _ => 0) (ini f) false := by
  have hpos := h.pos
  have hmx : mixA 1 (fun _ => 0) (fun _ => 0) = fun _ => 0 := by funext x; unfold mixA; split <;> rfl
  refine ⟨fun b h0 hb => by show 0 < b; omega, rfl, fun _ _ => rfl, ?_, fun j h1 h2 => by omega, fun e => by (cases e), fun _ => .inr rfl, fun _ => rfl⟩
  rw [hmx]
  refine ⟨by simp [ini], fun j hj hD => ?_, fun j hj hD => ?_, fun b h0 hb => by show 0 < b; omega, fun j hj hD => .inr (by omega)⟩
  · have hj0 : j = 0 := by rcases hD with e | e; (· cases e); (· omega)
    subst hj0
    rw [h.ob0]
    unfold ini
    rw [List.getElem?_set_self (by simpa using hpos)]; rfl
  · have hj0 : j ≠ 0 := fun e => hD (.inr (by omega))
    have hne : ob R j ≠ 0 := fun e => hj0 (h.ob_inj hj hpos (by rw [e, h.ob0]))
    unfold ini
    rw [List.getElem?_set_ne (by omega)]
    simp [(h.get hj).2]
theorem Ts.whole {later : Bool} {O N : Nat → Nat} {S : List Int} (hN : Nr f N) (hS : Ts f R (DD later f.blocks.length) (mixA f.blocks.length N O) S) : Ts f R (fun _ => True) N S := by
  refine ⟨hS.len, fun j hj _ => ?_, fun j hj hD => absurd trivial hD, hN.dn, fun _ _ _ => trivial⟩
  rw [hS.on j hj (.inr hj), mixA_lt hj]
theorem In.nr {later : Bool} {O N : Nat → Nat} {S : List Int} {chg : Bool} (hI : In f R later O f.blocks.length N S chg) : Nr f N := ⟨hI.dn, hI.zero, hI.out⟩
theorem In.first {N : Nat → Nat} {S : List Int} {chg : Bool} (hI : In f R false (fun _ => 0) f.blocks.length N S chg) : First f.blocks.length (Pl f R) N := fun i h0 hi z => by
  rw [hI.ps i h0 hi z]
  have hX : Dn f.blocks.length (mixA i N (fun _ => 0)) := Dn.mixA (fun b hb hbi => hI.dn b hb (by omega)) (fun b hb _ => by show 0 < b; omega)
  constructor
  · intro hall p hp hlt
    exact (mixA_anc hI.dn hlt (by omega) hX).1 (hall p hp (.inr hlt))
  · intro hall p hp hD
    have hlt : p < i := by rcases hD with e | e; (· cases e); (· exact e)
    exact (mixA_anc hI.dn hlt (by omega) hX).2 (hall p hp hlt)
theorem In.pass {O N : Nat → Nat} {S : List Int} {chg : Bool} (hI : In f R true O f.blocks.length N S chg) : Pass f.blocks.length (Pl f R) O N := fun i h0 hi z => by
  rw [hI.ps i h0 hi z]
  exact ⟨fun hall p hp => hall p hp (.inl rfl), fun hall p hp _ => hall p hp⟩
theorem later_ts {O : Nat → Nat} {S : List Int} (hO : Nr f O) (hS : Ts f R (fun _ => True) O S) : In f R true O 1 (fun _ => 0) S false := by
  have hmx : mixA 1 (fun _ => 0) O = O := by
    funext x; unfold mixA; split
    · rw [show x = 0 by omega, hO.zero]
    · rfl
  refine ⟨fun b h0 hb => by show 0 < b; omega, rfl, fun _ _ => rfl, ?_, fun j h1 h2 => by omega, fun _ => ⟨fun e => by (cases e), fun ⟨j, j1, j2, _⟩ => by omega⟩, fun e => by (cases e), fun _ => rfl⟩
  rw [hmx]
  exact ⟨hS.len, fun j hj _ => hS.on j hj trivial, fun j hj hD => absurd (.inl rfl) hD, hO.dn, fun _ _ _ => .inl rfl⟩
def msr (f : PFunc) (R : List Int) (s : List Int × Bool) : Nat := if s.2 = false then 0 else if s.1 = ini f then 1000000 else 1 + sumS f R s.1
theorem Ts.not_ini (h : Full f R) {O : Nat → Nat} {S : List Int} (hO : Nr f O) (hS : Ts f R (fun _ => True) O S) (h2 : 1 < f.blocks.length) : S ≠ ini f := fun e => by
  have h1 := hS.on 1 h2 trivial
  have hne : ob R 1 ≠ 0 := fun e => by have := h.ob_inj h2 h.pos (by rw [e, h.ob0]); omega
  rw [e] at h1
  unfold ini at h1
  rw [List.getElem?_set_ne (by omega)] at h1
  simp [(h.get h2).2] at h1
theorem round_ok (h : Full f R) (s : List Int × Bool) (hs : Rd f R s) : (∃ r, dom_Nearest.bd48 R (aheads (nexts f)) (plL f R) s.1 s.2 = some (.ret r) ∧ ∃ O, Nr f O ∧ Hist f.blocks.length (Pl f R) O ∧ Ts f R (fun _ => True) O r ∧ Pass f.blocks.length (Pl f R) O O) ∨
    ∃ s', dom_Nearest.bd48 R (aheads (nexts f)) (plL f R) s.1 s.2 = some (.go s') ∧ Rd f R s' ∧ msr f R s' < msr f R s := by
  obtain ⟨S, again⟩ := s
  have hn := h.sm.1
  have hpos := h.pos
  have hfr : from_ R 1 = some (R.drop 1) := by
    unfold from_
    rw [if_pos ⟨by omega, by rw [h.len]; show 1 ≤ _; omega⟩]; rfl
  cases again with
  | false =>
    rcases hs with ⟨_, e⟩ | ⟨O, h1, h2, h3, h4⟩
    · cases e
    · exact .inl ⟨S, by simp [dom_Nearest.bd48], O, h1, h2, h3, h4 rfl⟩
  | true =>
    simp only [dom_Nearest.bd48, if_true, hfr, Option.bind_some]
    rcases hs with ⟨e, _⟩ | ⟨O, h1, h2, h3, h4⟩
    · simp only at e
      subst e
      obtain ⟨N, S', chg', g1, g2⟩ := pass_ok h ⟨fun b h0 hb => by show 0 < b; omega, rfl, fun _ _ => rfl⟩ (ini_ts h)
      rw [g1]
      simp only [Option.bind_some, dom_Nearest.nx64]
      have hS' := Ts.whole g2.nr g2.ts
      refine .inr ⟨_, rfl, .inr ⟨N, g2.nr, ⟨g2.dn, g2.first.fwd, g2.first.tru h.lead g2.dn, .inl g2.first⟩, hS', fun hc => ?_⟩, ?_⟩
      · simp only at hc
        have : f.blocks.length = 1 := (g2.ch0 rfl).resolve_left (by rw [hc]; simp)
        intro i h0 hi; omega
      · unfold msr
        simp only [if_true, Bool.true_eq_false, if_false]
        cases chg' with
        | false => simp
        | true =>
          have h2' : 1 < f.blocks.length := by
            rcases Nat.lt_or_ge 1 f.blocks.length with h2 | h2
            · exact h2
            · have := g2.ch2 (by omega); cases this
          rw [if_neg (by simp), if_neg (hS'.not_ini h g2.nr h2'), sumS_eq h g2.nr hS']
          have := sum_max f.blocks.length 70 N (fun j hj => by
            by_cases e : j = 0
            · subst e; rw [g2.zero]; omega
            · have := g2.dn j e hj; omega)
          have : f.blocks.length * 70 ≤ 70 * 70 := Nat.mul_le_mul hn (Nat.le_refl _)
          omega
    · simp only at h3
      obtain ⟨N, S', chg', g1, g2⟩ := pass_ok h h1 (later_ts h1 h3)
      rw [g1]
      simp only [Option.bind_some, dom_Nearest.nx64]
      have hS' := Ts.whole g2.nr g2.ts
      obtain ⟨k1, k2⟩ := h2.next h.lead g2.dn g2.pass
      refine .inr ⟨_, rfl, .inr ⟨N, g2.nr, k1, hS', fun hc => ?_⟩, ?_⟩
      · simp only at hc
        have heq : N = O := by
          funext j
          by_cases e : j = 0
          · subst e; rw [g2.zero, h1.zero]
          · rcases Nat.lt_or_ge j f.blocks.length with hj | hj
            · rcases Nat.decEq (N j) (O j) with hne | he
              · have := (g2.ch1 rfl).2 ⟨j, by omega, hj, hne⟩
                rw [hc] at this; cases this
              · exact he
            · rw [g2.out j hj, h1.out j hj]
        have := g2.pass
        rw [heq] at this ⊢
        exact this
      · unfold msr
        simp only [if_true, Bool.true_eq_false, if_false]
        cases chg' with
        | false => rw [if_pos rfl]; split <;> omega
        | true =>
          obtain ⟨j, j1, j2, j3⟩ := (g2.ch1 rfl).1 rfl
          have h2' : 1 < f.blocks.length := by omega
          rw [if_neg (by simp), if_neg (hS'.not_ini h g2.nr h2'), if_neg (h3.not_ini h h1 h2'), sumS_eq h g2.nr hS', sumS_eq h h1 h3]
          have := sum_lt f.blocks.length N O (fun i hi => by
            by_cases e : i = 0
            · subst e; rw [g2.zero]; omega
            · exact k2 i hi (by omega)) ⟨j, j2, by have := k2 j j2 j1; omega⟩
          omega
/-- What Nearest tells. -/
structure Near (f : PFunc) (R : List Int) (N : Nat → Nat) (L : List Int) : Prop where
  nr : Nr f N
  hist : Hist f.blocks.length (Pl f R) N
  fix : Pass f.blocks.length (Pl f R) N N
  len : L.length = f.blocks.length
  first : L[0]? = some (-1)
  get : ∀ j, 0 < j → j < f.blocks.length → L[ob R j]? = some ((ob R (N j) : Nat) : Int)
/-- Above stands what can't be gone by. -/
theorem Near.iff (h : Full f R) {N : Nat → Nat} {L : List Int} (hN : Near f R N L) {z b : Nat} (hb : b < f.blocks.length) : Anc N z b ↔ ¬ Free f.blocks.length (Pl f R) z b :=
  ⟨fun ha hf => hN.fix.onway hN.nr.dn h.lead hf hb ha, fun hf => hN.hist.tru.anc hN.nr.dn b hb hf⟩
theorem nearest_ok (h : Full f R) : ∃ N L, dom_Nearest f = some L ∧ Near f R N L := by
  have hn := h.sm.1
  have hpos := h.pos
  have ht : ∀ B ∈ f.blocks, B.term.to.length ≤ 70 := fun B hm => (h.sm.2.2.2 B hm).2.2.1
  have hah : dom_ahead (nexts f) = some (aheads (nexts f)) := domAhead_eq (nexts f) (by rw [nexts_length]; exact hn) (fun row hr => by
    obtain ⟨B, hB, rfl⟩ := List.mem_map.1 hr
    refine ⟨by have := foldl_addS_length f.blocks.length B.term.to []; have := ht B hB; unfold succs; simp at *; omega, succs_nodup _ _, fun x hx => by rw [nexts_length]; exact succs_in x hx⟩)
  have hmk : mkl (len (aheads (nexts f))) (0 : Int) = some (List.replicate f.blocks.length 0) := by
    have := mkl_rep (n := f.blocks.length) (0 : Int) hn
    simpa [len, aheads_length, nexts_length] using this
  obtain ⟨r, hr, O, h1, h2, h3, h4⟩ := whl_ex (body := fun (s : List Int × Bool) => dom_Nearest.bd48 R (aheads (nexts f)) (plL f R) s.1 s.2) (Rd f R) (msr f R) (fun r => ∃ O, Nr f O ∧ Hist f.blocks.length (Pl f R) O ∧ Ts f R (fun _ => True) O r ∧ Pass f.blocks.length (Pl f R) O O) (fun s hs => round_ok h s hs)
    FUEL (ini f, true) (.inl ⟨rfl, rfl⟩) (by unfold msr; simp only [Bool.true_eq_false, if_false, if_true]; exact small_max (Nat.le_refl _))
  refine ⟨O, r.set 0 (-1), ?_, h1, h2, h4, by rw [List.length_set]; exact h3.len, by rw [List.getElem?_set_self (by rw [h3.len]; exact hpos)], fun j hj hjn => ?_⟩
  · unfold dom_Nearest
    rw [h.ord, graphNext_eq f hn ht]
    simp only [Option.bind_some, hah, hmk]
    unfold dom_Nearest.jn18
    have hm := minus_all (List.replicate f.blocks.length 0) (by simpa using hn)
    simp only [List.length_replicate] at hm
    rw [hm]
    simp only [Option.bind_some, dom_Nearest.nx26]
    rw [places h]
    simp only [Option.bind_some, dom_Nearest.nx35]
    rw [if_neg (by simp only [len, h.len]; omega)]
    have h0 : idx (List.replicate f.blocks.length (-1 : Int)) 0 = some (-1) := by
      have := idx_lt (xs := List.replicate f.blocks.length (-1 : Int)) (i := 0) (by simpa using hpos)
      simpa using this
    rw [h0]
    simp only [Option.bind_some]
    have hini : (List.replicate f.blocks.length (-1 : Int)).set (0 : Int).toNat 0 = ini f := rfl
    rw [hini, hr]
    simp only [Option.bind_some, dom_Nearest.nx48]
    have h00 : idx r 0 = some (r[0]'(by rw [h3.len]; exact hpos)) := by
      have := idx_lt (xs := r) (i := 0) (by rw [h3.len]; exact hpos)
      simpa using this
    rw [h00]; rfl
  · have hne : ob R j ≠ 0 := fun e => by have := h.ob_inj hjn hpos (by rw [e, h.ob0]); omega
    rw [List.getElem?_set_ne (by omega)]
    exact h3.on j hjn trivial
end
end Go.Proofs.Yteaknconpkklhaa
set_option linter.unusedVariables false
set_option linter.unusedSimpArgs false
namespace Go.Proofs.Yteaknconpkklhaa
open Go Go.Proofs
variable {f : PFunc} {R : List Int}
theorem mkl3 {α : Type} {n : Nat} (z : α) (hn : n ≤ 1000) : mkl (n : Int) z = some (List.replicate n z) := by
  have h1 : n < LIM := by simp only [LIM]; omega
  simp [mkl, h1]
/-- the table holds v over w -/
def Hold (T : List (List Bool)) (v w : Nat) : Prop := ∃ row, T[v]? = some row ∧ row[w]? = some true
theorem Hold.set {T : List (List Bool)} {a i v w : Nat} {row : List Bool} (ha : T[a]? = some row) : Hold (T.set a (row.set i true)) v w → Hold T v w ∨ (v = a ∧ w = i) := fun ⟨r, h1, h2⟩ => by
  by_cases e : a = v
  · subst e
    rw [List.getElem?_set_self (List.getElem?_eq_some_iff.1 ha).1] at h1
    cases h1
    by_cases e2 : i = w
    · exact .inr ⟨rfl, e2.symm⟩
    · rw [List.getElem?_set_ne e2] at h2
      exact .inl ⟨row, ha, h2⟩
  · rw [List.getElem?_set_ne e] at h1
    exact .inl ⟨r, h1, h2⟩
theorem Hold.keep {T : List (List Bool)} {a i v w : Nat} {row : List Bool} (ha : T[a]? = some row) : Hold T v w → Hold (T.set a (row.set i true)) v w := fun ⟨r, h1, h2⟩ => by
  by_cases e : a = v
  · subst e
    rw [ha] at h1
    cases h1
    exact ⟨_, List.getElem?_set_self (List.getElem?_eq_some_iff.1 ha).1, (Le.mark row i).le w h2⟩
  · exact ⟨r, by rw [List.getElem?_set_ne e]; exact h1, h2⟩
theorem Hold.new {T : List (List Bool)} {a i : Nat} {row : List Bool} (ha : T[a]? = some row) (hi : i < row.length) : Hold (T.set a (row.set i true)) a i :=
  ⟨_, List.getElem?_set_self (List.getElem?_eq_some_iff.1 ha).1, List.getElem?_set_self hi⟩
theorem Anc.up {M : Nat → Nat} {j x : Nat} (h : Anc M j x) (hj : j ≠ 0) : Anc M (M j) x := by
  induction h with
  | refl => exact .step hj .refl
  | step h0 _ ih => exact .step h0 ih
theorem above_up (h : Full f R) {N : Nat → Nat} {L : List Int} (hN : Near f R N L) (i : Nat) (hi : i < f.blocks.length) (T : List (List Bool)) (hT : Dim f.blocks.length f.blocks.length T) :
    ∃ z, whl (fun (s : (List (List Bool) × Int)) => dom_Dominates.bd42 L (List.replicate f.blocks.length true) (i : Int) s.1 s.2) FUEL (T, (i : Int)) = some z ∧ Dim f.blocks.length f.blocks.length z ∧
      (∀ v w, Hold z v w → Hold T v w ∨ (w = i ∧ Anc N (pb R v) (pb R i))) ∧ (∀ v w, Hold T v w → Hold z v w) ∧ ∀ v, v < f.blocks.length → Anc N (pb R v) (pb R i) → Hold z v i := by
  refine whl_ex (body := fun (s : (List (List Bool) × Int)) => dom_Dominates.bd42 L (List.replicate f.blocks.length true) (i : Int) s.1 s.2)
    (fun s => Dim f.blocks.length f.blocks.length s.1 ∧ (s.2 = -1 ∨ ∃ j, j < f.blocks.length ∧ s.2 = ((ob R j : Nat) : Int) ∧ Anc N j (pb R i)) ∧ (∀ v w, Hold s.1 v w → Hold T v w ∨ (w = i ∧ Anc N (pb R v) (pb R i))) ∧ (∀ v w, Hold T v w → Hold s.1 v w) ∧
      ∀ v, v < f.blocks.length → Anc N (pb R v) (pb R i) → Hold s.1 v i ∨ ∃ j, j < f.blocks.length ∧ s.2 = ((ob R j : Nat) : Int) ∧ Anc N (pb R v) j)
    (fun s => if s.2 < 0 then 0 else pb R s.2.toNat + 1) _ (fun s hs => ?_) FUEL (T, (i : Int)) ⟨hT, .inr ⟨pb R i, (h.ob_pb hi).2, by rw [(h.ob_pb hi).1], .refl⟩, fun _ _ h => .inl h, fun _ _ h => h, fun v hv ha => .inr ⟨pb R i, (h.ob_pb hi).2, by rw [(h.ob_pb hi).1], ha⟩⟩ ?_
  · obtain ⟨M, a⟩ := s
    obtain ⟨h1, h2, h3, h4, h5⟩ := hs
    simp only at h1 h2 h3 h4 h5
    have hr : idx (List.replicate f.blocks.length true) (i : Int) = some true := by rw [idx_nat]; simp [hi]
    simp only [dom_Dominates.bd42, hr, Option.bind_some, true_and]
    rcases h2 with rfl | ⟨j, hj, rfl, hanc⟩
    · exact .inl ⟨M, by simp, h1, h3, h4, fun v hv ha => (h5 v hv ha).resolve_right (fun ⟨j, _, e, _⟩ => by omega)⟩
    · right
      have hob := (h.get hj).2
      obtain ⟨row, r1, r2, r3⟩ := h1.get (b := ((ob R j : Nat) : Int)) (by omega) (by omega)
      rw [Int.toNat_natCast] at r2
      have hi' : i < row.length := by omega
      rw [if_pos (by omega)]
      simp only [r1, Option.bind_some, idx_lt hi']
      have hset : ∀ v w, Hold (M.set (ob R j) (row.set i true)) v w → Hold T v w ∨ (w = i ∧ Anc N (pb R v) (pb R i)) := fun v w ht => by
        rcases Hold.set r2 ht with ht | ⟨rfl, rfl⟩
        · exact h3 v w ht
        · exact .inr ⟨rfl, by rw [h.pb_ob hj]; exact hanc⟩
      have hkeep : ∀ v w, Hold T v w → Hold (M.set (ob R j) (row.set i true)) v w := fun v w ht => Hold.keep r2 (h4 v w ht)
      have hcase : ∀ v, v < f.blocks.length → Anc N (pb R v) (pb R i) → Hold (M.set (ob R j) (row.set i true)) v i ∨ (j ≠ 0 ∧ Anc N (pb R v) (N j)) := fun v hv ha => by
        rcases h5 v hv ha with ht | ⟨k, hk, e, ha2⟩
        · exact .inl (Hold.keep r2 ht)
        · obtain rfl : k = j := h.ob_inj hk hj (by omega)
          rcases ha2.cases' with e | ⟨e, ha3⟩
          · left
            have : ob R k = v := by rw [← e]; exact (h.ob_pb hv).1
            rw [this] at r2 ⊢
            exact Hold.new r2 hi'
          · exact .inr ⟨e, ha3⟩
      rcases Nat.eq_zero_or_pos j with rfl | h0
      · have hl : idx L ((ob R 0 : Nat) : Int) = some (-1) := by rw [idx_nat, h.ob0]; exact hN.first
        simp only [hl, Option.bind_some]
        refine ⟨_, rfl, ⟨h1.set _ (by simp [r3]), .inl rfl, hset, hkeep, fun v hv ha => ?_⟩, ?_⟩
        · exact (hcase v hv ha).imp id (fun h => absurd rfl h.1)
        · simp only; rw [if_pos (by omega), if_neg (by omega)]; omega
      · have hl : idx L ((ob R j : Nat) : Int) = some ((ob R (N j) : Nat) : Int) := by rw [idx_nat]; exact hN.get j h0 hj
        have hni : N j < j := hN.nr.dn j (by omega) hj
        simp only [hl, Option.bind_some]
        refine ⟨_, rfl, ⟨h1.set _ (by simp [r3]), .inr ⟨N j, by omega, rfl, hanc.up (by omega)⟩, hset, hkeep, fun v hv ha => ?_⟩, ?_⟩
        · exact (hcase v hv ha).imp id (fun h => ⟨N j, by omega, rfl, h.2⟩)
        · simp only; rw [if_neg (by omega), if_neg (by omega), Int.toNat_natCast, Int.toNat_natCast, h.pb_ob (by omega), h.pb_ob hj]; omega
  · simp only
    rw [if_neg (by omega), Int.toNat_natCast]
    have := (h.ob_pb hi).2
    have := h.sm.1
    exact small_max (by omega)
theorem dominates_ok (h : Full f R) {N : Nat → Nat} {L : List Int} (hL : dom_Nearest f = some L) (hN : Near f R N L) : ∃ T, dom_Dominates f = some T ∧ Dim f.blocks.length f.blocks.length T ∧ (∀ v w, Hold T v w → Anc N (pb R v) (pb R w)) ∧ ∀ v w, v < f.blocks.length → w < f.blocks.length → Anc N (pb R v) (pb R w) → Hold T v w := by
  have hn := h.sm.1
  have hlen : len L = (f.blocks.length : Int) := by simp [len, hN.len]
  unfold dom_Dominates
  rw [hL, h.rea]
  simp only [Option.bind_some, hlen, mkl3 (n := f.blocks.length) ([] : List Bool) (by omega)]
  obtain ⟨z, hz, hz1, hz2⟩ := whl_for (body := fun (s : (List (List Bool) × Int)) => dom_Dominates.bd19 L (List.replicate f.blocks.length []) s.1 s.2) (s0 := (List.replicate f.blocks.length [], 0)) f.blocks.length
    (fun i s => s.1.length = f.blocks.length ∧ s.2 = (i : Int) ∧ (∀ v w, ¬ Hold s.1 v w) ∧ ∀ j, j < i → ∃ row, s.1[j]? = some row ∧ row.length = f.blocks.length) (fun z => Dim f.blocks.length f.blocks.length z ∧ ∀ v w, ¬ Hold z v w) (le_max hn (by omega)) (fun i s hi hI => by
      obtain ⟨M, q⟩ := s
      obtain ⟨h1, rfl, h2, h3⟩ := hI
      simp only at h1 h2 h3
      have hi' : i < M.length := by omega
      refine .inr ⟨_, by simp only [dom_Dominates.bd19, len_lt, List.length_replicate, hi, if_true, hlen, mkl3 (n := f.blocks.length) false (by omega), Option.bind_some, idx_lt hi', Int.toNat_natCast]; rfl, by simp [h1], w64_i hi (by omega), fun v w ht => ?_, fun j hj => ?_⟩
      · obtain ⟨r, t1, t2⟩ := ht
        simp only at t1
        by_cases e : i = v
        · subst e
          rw [List.getElem?_set_self hi'] at t1
          cases t1
          rw [List.getElem?_replicate] at t2
          split at t2 <;> simp at t2
        · rw [List.getElem?_set_ne e] at t1
          exact h2 v w ⟨r, t1, t2⟩
      · simp only
        by_cases e : i = j
        · subst e
          exact ⟨_, by rw [List.getElem?_set_self hi'], by simp⟩
        · rw [List.getElem?_set_ne e]; exact h3 j (by omega)) (fun s hI => by
      obtain ⟨M, q⟩ := s
      obtain ⟨h1, rfl, h2, h3⟩ := hI
      simp only at h1 h2 h3
      refine ⟨M, by simp [dom_Dominates.bd19, len], ⟨h1, fun r hr => ?_⟩, h2⟩
      obtain ⟨j, hj, rfl⟩ := List.getElem_of_mem hr
      obtain ⟨row, r1, r2⟩ := h3 j (by omega)
      rw [List.getElem?_eq_getElem hj] at r1
      rw [Option.some.inj r1]; exact r2) ⟨by simp, rfl, fun v w ⟨r, t1, t2⟩ => by
        rw [List.getElem?_replicate] at t1
        split at t1
        · cases t1; simp at t2
        · simp at t1, fun j hj => by omega⟩
  rw [hz]
  simp only [Option.bind_some, dom_Dominates.nx19]
  have hzl : len z = (f.blocks.length : Int) := by simp [len, hz1.len]
  obtain ⟨y, hy, hy1⟩ := whl_for (body := fun (s : (List (List Bool) × Int)) => dom_Dominates.bd28 L (List.replicate f.blocks.length true) z s.1 s.2) (s0 := (z, 0)) f.blocks.length
    (fun i s => s.2 = (i : Int) ∧ Dim f.blocks.length f.blocks.length s.1 ∧ (∀ v w, Hold s.1 v w → Anc N (pb R v) (pb R w)) ∧ ∀ v w, v < f.blocks.length → w < i → Anc N (pb R v) (pb R w) → Hold s.1 v w) (fun T => Dim f.blocks.length f.blocks.length T ∧ (∀ v w, Hold T v w → Anc N (pb R v) (pb R w)) ∧ ∀ v w, v < f.blocks.length → w < f.blocks.length → Anc N (pb R v) (pb R w) → Hold T v w) (le_max hn (by omega)) (fun i s hi hI => by
      obtain ⟨M, q⟩ := s
      obtain ⟨rfl, h3, h4, h5⟩ := hI
      simp only at h3 h4 h5
      obtain ⟨y, hy, hy1, hy2, hy3, hy4⟩ := above_up h hN i hi M h3
      refine .inr ⟨_, by simp only [dom_Dominates.bd28, hzl]; rw [if_pos (by omega), hy]; rfl, w64_i hi (by omega), hy1, fun v w ht => ?_, fun v w hv hw ha => ?_⟩
      · rcases hy2 v w ht with ht | ⟨rfl, ha⟩
        · exact h4 v w ht
        · exact ha
      · by_cases e : w < i
        · exact hy3 v w (h5 v w hv e ha)
        · obtain rfl : w = i := by omega
          exact hy4 v hv ha) (fun s hI => by
      obtain ⟨M, q⟩ := s
      obtain ⟨rfl, h3⟩ := hI
      exact ⟨M, by simp [dom_Dominates.bd28, hzl], h3⟩) ⟨rfl, hz1, fun v w ht => absurd ht (hz2 v w), fun v w _ hw => by omega⟩
  rw [hy]
  exact ⟨y, rfl, hy1⟩
/-- a table of n rows whose entries are below m -/
structure Bel (n c m : Nat) (T : List (List Int)) : Prop where
  len : T.length = n
  few : ∀ r ∈ T, r.length ≤ c
  mem : ∀ r ∈ T, ∀ x ∈ r, 0 ≤ x ∧ x < (m : Int)
theorem Bel.get {n c m : Nat} {T : List (List Int)} (h : Bel n c m T) {b : Int} (h0 : 0 ≤ b) (h1 : b < (n : Int)) : ∃ row, idx T b = some row ∧ T[b.toNat]? = some row ∧ row.length ≤ c ∧ ∀ x ∈ row, 0 ≤ x ∧ x < (m : Int) := by
  obtain ⟨row, h2, h3⟩ := idx_in (xs := T) h0 (by rw [h.len]; exact h1)
  exact ⟨row, h2, h3, h.few row (List.mem_of_getElem? h3), h.mem row (List.mem_of_getElem? h3)⟩
theorem Bel.set {n c m : Nat} {T : List (List Int)} (h : Bel n c m T) (i : Nat) {row : List Int} (h1 : row.length ≤ c) (h2 : ∀ x ∈ row, 0 ≤ x ∧ x < (m : Int)) : Bel n c m (T.set i row) :=
  ⟨by simp [h.len], fun r hr => (List.mem_or_eq_of_mem_set hr).elim (h.few r) (fun e => e ▸ h1), fun r hr => (List.mem_or_eq_of_mem_set hr).elim (h.mem r) (fun e => e ▸ h2)⟩
theorem Bel.mono {n c c' m : Nat} {T : List (List Int)} (h : Bel n c m T) (hc : c ≤ c') : Bel n c' m T := ⟨h.len, fun r hr => Nat.le_trans (h.few r hr) hc, h.mem⟩
theorem Bel.rep (n c m : Nat) : Bel n c m (List.replicate n []) := ⟨by simp, fun r hr => by rw [List.eq_of_mem_replicate hr]; simp, fun r hr => by rw [List.eq_of_mem_replicate hr]; simp⟩
theorem front_row (h : Full f R) {T : List (List Bool)} (hT : Dim f.blocks.length f.blocks.length T) (a : Nat) (ha : a < f.blocks.length) (row : List Bool) (hrow : row.length = f.blocks.length) (F : List (List Int)) (hF : F.length = f.blocks.length)
    (h0 : F[a]? = some []) :
    ∃ z, whl (fun (s : (List (List Int) × Int)) => dom_Frontier.bd47 (List.replicate f.blocks.length true) T (a : Int) row s.1 s.2) FUEL (F, 0) = some z ∧ z.length = f.blocks.length ∧ (∀ j, j ≠ a → z[j]? = F[j]?) ∧ ∃ l, z[a]? = some l ∧ l.length ≤ f.blocks.length ∧ (∀ x ∈ l, 0 ≤ x ∧ x < (f.blocks.length : Int)) ∧ ∀ x : Nat, row[x]? = some true → (a = x ∨ ¬ Hold T a x) → (x : Int) ∈ l := by
  have hn := h.sm.1
  refine whl_for (body := fun (s : (List (List Int) × Int)) => dom_Frontier.bd47 (List.replicate f.blocks.length true) T (a : Int) row s.1 s.2) (s0 := (F, 0)) f.blocks.length
    (fun i s => s.2 = (i : Int) ∧ s.1.length = f.blocks.length ∧ (∀ j, j ≠ a → s.1[j]? = F[j]?) ∧ ∃ l, s.1[a]? = some l ∧ l.length ≤ i ∧ (∀ x ∈ l, 0 ≤ x ∧ x < (f.blocks.length : Int)) ∧ ∀ x : Nat, x < i → row[x]? = some true → (a = x ∨ ¬ Hold T a x) → (x : Int) ∈ l) _ (le_max hn (by omega)) (fun i s hi hI => ?_) (fun s hI => ?_) ⟨rfl, hF, fun _ _ => rfl, [], h0, by simp, by simp, fun x hx => by omega⟩
  · obtain ⟨M, q⟩ := s
    obtain ⟨rfl, h1, h2, l, l1, l2, l3, l4⟩ := hI
    simp only at h1 h2 l1
    right
    have hi' : i < row.length := by omega
    have hr : idx (List.replicate f.blocks.length true) (a : Int) = some true := by rw [idx_nat]; simp [ha]
    obtain ⟨ra, a1, a2, a3⟩ := hT.get (b := (a : Int)) (by omega) (by omega)
    have hi2 : i < ra.length := by omega
    have hla : idx M (a : Int) = some l := by rw [idx_nat]; exact l1
    rw [Int.toNat_natCast] at a2
    have key : ∃ t : Bool, (row[i] = true → (a = i ∨ ¬ Hold T a i) → t = true) ∧ dom_Frontier.bd47 (List.replicate f.blocks.length true) T (a : Int) row M (i : Int) = if t = true then some (.go (M.set a (l ++ [(i : Int)]), ((i + 1 : Nat) : Int))) else some (.go (M, ((i + 1 : Nat) : Int))) := by
      refine ⟨row[i] && (decide ((a : Int) = (i : Int)) || !ra[i]), fun q1 q2 => ?_, ?_⟩
      · rw [q1]
        rcases q2 with rfl | q2
        · simp
        · have : ra[i] = false := by
            cases hra : ra[i] with
            | false => rfl
            | true => exact absurd ⟨ra, a2, by rw [List.getElem?_eq_getElem hi2, hra]⟩ q2
          simp [this]
      simp only [dom_Frontier.bd47, len_lt, hi', if_true, idx_lt hi', Option.bind_some, hr, a1, idx_lt hi2, hla, cat_one (show l.length ≤ 1000 by omega), dom_Frontier.jn57, w64_i hi (show f.blocks.length ≤ 1000 by omega), Int.toNat_natCast]
      cases row[i] <;> by_cases e : (a : Int) = (i : Int) <;> cases ra[i] <;> simp [e]
    obtain ⟨t, htt, ht⟩ := key
    have hrow' : ∀ x : Nat, x < i + 1 → row[x]? = some true → (a = x ∨ ¬ Hold T a x) → (x : Int) ∈ l ∨ (x = i ∧ t = true) := fun x hx g1 g2 => by
      by_cases e : x < i
      · exact .inl (l4 x e g1 g2)
      · obtain rfl : x = i := by omega
        rw [List.getElem?_eq_getElem hi'] at g1
        exact .inr ⟨rfl, htt (Option.some.inj g1) g2⟩
    cases t with
    | false => exact ⟨_, by simpa using ht, rfl, h1, h2, l, l1, by omega, l3, fun x hx g1 g2 => (hrow' x hx g1 g2).resolve_right (by simp)⟩
    | true =>
      refine ⟨(M.set a (l ++ [(i : Int)]), ((i + 1 : Nat) : Int)), by simpa using ht, rfl, by simp [h1], fun j hj => ?_, l ++ [(i : Int)], by simp only; rw [List.getElem?_set_self (by omega)], by simp; omega, fun x hx => ?_, fun x hx g1 g2 => ?_⟩
      · simp only; rw [List.getElem?_set_ne (fun e => hj e.symm)]; exact h2 j hj
      · rcases List.mem_append.1 hx with hx | hx
        · exact l3 x hx
        · simp at hx; omega
      · rcases hrow' x hx g1 g2 with g | ⟨rfl, _⟩
        · exact List.mem_append_left _ g
        · exact List.mem_append_right _ (by simp)
  · obtain ⟨M, q⟩ := s
    obtain ⟨rfl, h1, h2, l, l1, l2, l3, l4⟩ := hI
    exact ⟨M, by simp [dom_Frontier.bd47, len, hrow], h1, h2, l, l1, l2, l3, fun x g1 g2 => l4 x (by have := (List.getElem?_eq_some_iff.1 g1).1; omega) g1 g2⟩
theorem front_seen (h : Full f R) {T : List (List Bool)} (hT : Dim f.blocks.length f.blocks.length T) (a : Nat) (ha : a < f.blocks.length) (row : List Bool) (hrow : row.length = f.blocks.length) :
    ∃ z, whl (fun (s : (List Bool × Int)) => dom_Frontier.bd40 (nexts f) T (a : Int) s.1 s.2) FUEL (row, 0) = some z ∧ z.length = f.blocks.length ∧ ∀ (y : Nat) (hy : y < f.blocks.length) (x : Nat), (x : Int) ∈ succs f.blocks.length f.blocks[y].term.to → Hold T a y → z[x]? = some true := by
  have hn := h.sm.1
  have ht : ∀ B ∈ f.blocks, B.term.to.length ≤ 70 := fun B hm => (h.sm.2.2.2 B hm).2.2.1
  obtain ⟨ra, a1, a2, a3⟩ := hT.get (b := (a : Int)) (by omega) (by omega)
  refine whl_for (body := fun (s : (List Bool × Int)) => dom_Frontier.bd40 (nexts f) T (a : Int) s.1 s.2) (s0 := (row, 0)) f.blocks.length (fun i s => s.2 = (i : Int) ∧ s.1.length = f.blocks.length ∧ ∀ (y : Nat) (hy : y < f.blocks.length) (x : Nat), y < i → (x : Int) ∈ succs f.blocks.length f.blocks[y].term.to → Hold T a y → s.1[x]? = some true) _ (le_max hn (by omega)) (fun i s hi hI => ?_) (fun s hI => ?_) ⟨rfl, hrow, fun y hy x h => by omega⟩
  · obtain ⟨M, q⟩ := s
    obtain ⟨rfl, h1, hM⟩ := hI
    simp only at h1 hM
    rw [Int.toNat_natCast] at a2
    have hg := nexts_get f i hi
    obtain ⟨hr1, hr2⟩ := nexts_rows f ht i _ hg
    have hin : i < ra.length := by omega
    obtain ⟨z, hz, hz1, hz2, hz3⟩ := whl_for (body := fun (s : (List Bool × Int)) => dom_Frontier.bd99 T (a : Int) (i : Int) (succs f.blocks.length f.blocks[i].term.to) s.1 s.2) (s0 := (M, 0)) (succs f.blocks.length f.blocks[i].term.to).length (fun k s => s.2 = (k : Int) ∧ s.1.length = f.blocks.length ∧ (∀ x : Nat, M[x]? = some true → s.1[x]? = some true) ∧ ∀ (q x : Nat), q < k → (succs f.blocks.length f.blocks[i].term.to)[q]? = some (x : Int) → Hold T a i → s.1[x]? = some true) (fun z => z.length = f.blocks.length ∧ (∀ x : Nat, M[x]? = some true → z[x]? = some true) ∧ ∀ x : Nat, (x : Int) ∈ succs f.blocks.length f.blocks[i].term.to → Hold T a i → z[x]? = some true) (le_max hr1 (by omega)) (fun k s hk hI => by
        obtain ⟨M', q⟩ := s
        obtain ⟨rfl, h1, h8, h9⟩ := hI
        simp only at h1 h8 h9
        have hx := hr2 _ (List.getElem_mem hk)
        rw [nexts_length] at hx
        obtain ⟨y, y1, y2⟩ := idx_in (xs := M') hx.1 (by rw [h1]; exact hx.2)
        refine .inr ?_
        have key : ∃ t, (y = true → t = true) ∧ (Hold T a i → t = true) ∧ dom_Frontier.bd99 T (a : Int) (i : Int) (succs f.blocks.length f.blocks[i].term.to) M' (k : Int) = some (.go (M'.set ((succs f.blocks.length f.blocks[i].term.to)[k]).toNat t, ((k + 1 : Nat) : Int))) := by
          refine ⟨y || ra[i], fun e => by simp [e], fun ⟨r, g1, g2⟩ => by
            rw [a2] at g1; cases g1
            rw [List.getElem?_eq_getElem hin] at g2
            simp [Option.some.inj g2], ?_⟩
          simp only [dom_Frontier.bd99, len_lt, hk, if_true, idx_lt hk, Option.bind_some, y1, a1, idx_lt hin, w64_i hk (show (succs f.blocks.length f.blocks[i].term.to).length ≤ 1000 by omega)]
          cases y <;> simp
        obtain ⟨t, ht1, ht2, ht⟩ := key
        have hlt : ((succs f.blocks.length f.blocks[i].term.to)[k]).toNat < M'.length := by omega
        have hk2 : ∀ x : Nat, M'[x]? = some true → (M'.set ((succs f.blocks.length f.blocks[i].term.to)[k]).toNat t)[x]? = some true := fun x hx => by
          by_cases e : ((succs f.blocks.length f.blocks[i].term.to)[k]).toNat = x
          · rw [e] at y2
            rw [y2] at hx
            rw [e, List.getElem?_set_self (by omega), ht1 (Option.some.inj hx)]
          · rw [List.getElem?_set_ne e]; exact hx
        refine ⟨_, ht, rfl, by simp [h1], fun x hx => hk2 x (h8 x hx), fun q x hq g1 g2 => ?_⟩
        by_cases e : q < k
        · exact hk2 x (h9 q x e g1 g2)
        · obtain rfl : q = k := by omega
          rw [List.getElem?_eq_getElem hk] at g1
          have g3 := Option.some.inj g1
          simp only
          rw [g3, Int.toNat_natCast] at hlt ⊢
          rw [List.getElem?_set_self hlt, ht2 g2]) (fun s hI => by
        obtain ⟨M', q⟩ := s
        obtain ⟨rfl, h1, h8, h9⟩ := hI
        exact ⟨M', by simp [dom_Frontier.bd99, len], h1, h8, fun x hx g => by
          obtain ⟨q, hq, e⟩ := List.getElem_of_mem hx
          exact h9 q x hq (by rw [List.getElem?_eq_getElem hq, e]) g⟩) ⟨rfl, h1, fun _ h => h, fun q x h => by omega⟩
    have hi' : i < (nexts f).length := by rw [nexts_length]; exact hi
    have hgi : idx (nexts f) (i : Int) = some (succs f.blocks.length f.blocks[i].term.to) := by rw [idx_nat]; exact hg
    refine .inr ⟨_, by simp only [dom_Frontier.bd40, len_lt, hi', if_true, hgi, Option.bind_some, hz]; rfl, w64_i hi (by omega), hz1, fun y hy x hyi g1 g2 => ?_⟩
    by_cases e : y < i
    · exact hz2 x (hM y hy x e g1 g2)
    · obtain rfl : y = i := by omega
      exact hz3 x g1 g2
  · obtain ⟨M, q⟩ := s
    obtain ⟨rfl, h1, hM⟩ := hI
    exact ⟨M, by simp [dom_Frontier.bd40, len, nexts_length], h1, fun y hy x g1 g2 => hM y hy x hy g1 g2⟩
/-- the borders hold where what stands above ends -/
def Brd (f : PFunc) (R : List Int) (N : Nat → Nat) (F : List (List Int)) : Prop := ∀ a y x : Nat, a < f.blocks.length → x < f.blocks.length → ∀ (hy : y < f.blocks.length), (x : Int) ∈ succs f.blocks.length f.blocks[y].term.to → Anc N (pb R a) (pb R y) → (a = x ∨ ¬ Anc N (pb R a) (pb R x)) → ∃ l, F[a]? = some l ∧ (x : Int) ∈ l
theorem frontier_ok (h : Full f R) {N : Nat → Nat} {L : List Int} (hL : dom_Nearest f = some L) (hN : Near f R N L) : ∃ F, dom_Frontier f = some F ∧ Bel f.blocks.length f.blocks.length f.blocks.length F ∧ Brd f R N F := by
  obtain ⟨T, hT, hT1, hT2, hT3⟩ := dominates_ok h hL hN
  have hn := h.sm.1
  have ht : ∀ B ∈ f.blocks, B.term.to.length ≤ 70 := fun B hm => (h.sm.2.2.2 B hm).2.2.1
  have hlen : len (nexts f) = (f.blocks.length : Int) := by simp [len, nexts_length]
  unfold dom_Frontier
  rw [graphNext_eq f hn ht, h.rea, hT]
  simp only [Option.bind_some, hlen, mkl3 (n := f.blocks.length) ([] : List Int) (by omega)]
  obtain ⟨z, hz, hz1⟩ := whl_for (body := fun (s : (List (List Int) × Int)) => dom_Frontier.bd23 (nexts f) (List.replicate f.blocks.length true) T (List.replicate f.blocks.length []) s.1 s.2) (s0 := (List.replicate f.blocks.length [], 0)) f.blocks.length
    (fun i s => s.2 = (i : Int) ∧ s.1.length = f.blocks.length ∧ ∀ j, j < f.blocks.length → ∃ l, s.1[j]? = some l ∧ (i ≤ j → l = []) ∧ l.length ≤ f.blocks.length ∧ (∀ x ∈ l, 0 ≤ x ∧ x < (f.blocks.length : Int)) ∧ (j < i → ∀ (y : Nat) (hy : y < f.blocks.length) (x : Nat), (x : Int) ∈ succs f.blocks.length f.blocks[y].term.to → Hold T j y → (j = x ∨ ¬ Hold T j x) → (x : Int) ∈ l)) (fun z => Bel f.blocks.length f.blocks.length f.blocks.length z ∧ Brd f R N z) (le_max hn (by omega)) (fun i s hi hI => by
      obtain ⟨M, q⟩ := s
      obtain ⟨rfl, h1, h2⟩ := hI
      simp only at h1 h2
      obtain ⟨row, r1, r2, r3⟩ := front_seen h hT1 i hi (List.replicate f.blocks.length false) (by simp)
      obtain ⟨l, l1, l2, _, _, _⟩ := h2 i hi
      obtain rfl := l2 (Nat.le_refl _)
      obtain ⟨F, g1, g2, g3, l, g4, g5, g6, g7⟩ := front_row h hT1 i hi row r2 M h1 l1
      refine .inr ⟨_, by simp only [dom_Frontier.bd23, len_lt, List.length_replicate, hi, if_true, hlen, mkl3 (n := f.blocks.length) false (by omega), Option.bind_some, r1, dom_Frontier.nx40, g1]; rfl, w64_i hi (by omega), g2, fun j hj => ?_⟩
      simp only
      by_cases e : j = i
      · subst e
        exact ⟨l, g4, fun h => by omega, g5, g6, fun _ y hy x q1 q2 q3 => g7 x (r3 y hy x q1 q2) q3⟩
      · rw [g3 j e]
        obtain ⟨l, q1, q2, q3, q4, q5⟩ := h2 j hj
        exact ⟨l, q1, fun h => q2 (by omega), q3, q4, fun h => q5 (by omega)⟩) (fun s hI => by
      obtain ⟨M, q⟩ := s
      obtain ⟨rfl, h1, h2⟩ := hI
      simp only at h1 h2
      have hrow : ∀ r ∈ M, r.length ≤ f.blocks.length ∧ ∀ x ∈ r, 0 ≤ x ∧ x < (f.blocks.length : Int) := fun r hr => by
        obtain ⟨j, hj, rfl⟩ := List.getElem_of_mem hr
        obtain ⟨l, q1, _, q3, q4, _⟩ := h2 j (by omega)
        rw [List.getElem?_eq_getElem hj] at q1
        rw [Option.some.inj q1]; exact ⟨q3, q4⟩
      refine ⟨M, by simp [dom_Frontier.bd23, len], ⟨h1, fun r hr => (hrow r hr).1, fun r hr => (hrow r hr).2⟩, fun a y x ha hx hy g1 g2 g3 => ?_⟩
      obtain ⟨l, q1, _, _, _, q5⟩ := h2 a ha
      exact ⟨l, q1, q5 ha y hy x g1 (hT3 a y ha hy g2) (g3.imp id fun h4 h5 => h4 (hT2 a x h5))⟩) ⟨rfl, by simp, fun j hj => ⟨[], by simp [hj], fun _ => rfl, by simp, by simp, fun h => by omega⟩⟩
  rw [hz]
  exact ⟨z, rfl, hz1⟩
end Go.Proofs.Yteaknconpkklhaa
set_option linter.unusedVariables false
set_option linter.unusedSimpArgs false
namespace Go.Proofs.Yteaknconpkklhaa
open Go Go.Proofs
theorem stay_row (b : Int) (row : List Bool) (E : List (List Bool)) (g : Bool) (hg : g = true) (z : List (List Bool) × Bool) (h : whl (fun (s : (List (List Bool) × Bool × Int)) => live_Live.bd122 b row s.1 s.2.1 s.2.2) FUEL (E, g, 0) = some z) : z.2 = true := by
  refine whl_inv (b := fun (s : (List (List Bool) × Bool × Int)) => live_Live.bd122 b row s.1 s.2.1 s.2.2) (fun s => s.2.1 = true) (fun z => z.2 = true) (fun s r hI hb => ?_) (fun s s' hI hb => ?_) FUEL (E, g, 0) z hg h <;>
  · obtain ⟨E', g', j⟩ := s
    simp only at hI
    subst hI
    simp only [live_Live.bd122, live_Live.jn132] at hb
    split at hb
    · obtain ⟨v, hv, hb⟩ := bind_some' hb
      obtain ⟨t, ht, hb⟩ := bind_some' hb
      split at hb
      · obtain ⟨_, _, hb⟩ := bind_some' hb
        obtain ⟨_, _, hb⟩ := bind_some' hb
        cases hb
        try rfl
      · cases hb
        try rfl
    · cases hb
      try rfl
theorem stay_next (N : List (List Bool)) (b : Int) (l : List Int) (E : List (List Bool)) (g : Bool) (hg : g = true) (z : List (List Bool) × Bool) (h : whl (fun (s : (List (List Bool) × Bool × Int)) => live_Live.bd74 N b l s.1 s.2.1 s.2.2) FUEL (E, g, 0) = some z) : z.2 = true := by
  refine whl_inv (b := fun (s : (List (List Bool) × Bool × Int)) => live_Live.bd74 N b l s.1 s.2.1 s.2.2) (fun s => s.2.1 = true) (fun z => z.2 = true) (fun s r hI hb => ?_) (fun s s' hI hb => ?_) FUEL (E, g, 0) z hg h <;>
  · obtain ⟨E', g', j⟩ := s
    simp only at hI
    subst hI
    simp only [live_Live.bd74, live_Live.nx122] at hb
    split at hb
    · obtain ⟨v, hv, hb⟩ := bind_some' hb
      obtain ⟨t, ht, hb⟩ := bind_some' hb
      obtain ⟨y, hy, hb⟩ := bind_some' hb
      cases hb
      try exact stay_row b t E' true rfl y hy
    · cases hb
      try rfl
theorem stay_in (b : Int) (bg : List Bool) (N : List (List Bool)) (g : Bool) (hg : g = true) (z : List (List Bool) × Bool) (h : whl (fun (s : (List (List Bool) × Bool × Int)) => live_Live.bd89 b bg s.1 s.2.1 s.2.2) FUEL (N, g, 0) = some z) : z.2 = true := by
  refine whl_inv (b := fun (s : (List (List Bool) × Bool × Int)) => live_Live.bd89 b bg s.1 s.2.1 s.2.2) (fun s => s.2.1 = true) (fun z => z.2 = true) (fun s r hI hb => ?_) (fun s s' hI hb => ?_) FUEL (N, g, 0) z hg h <;>
  · obtain ⟨E', g', j⟩ := s
    simp only at hI
    subst hI
    simp only [live_Live.bd89, live_Live.jn99] at hb
    split at hb
    · obtain ⟨v, hv, hb⟩ := bind_some' hb
      obtain ⟨t, ht, hb⟩ := bind_some' hb
      obtain ⟨u, hu, hb⟩ := bind_some' hb
      split at hb
      · obtain ⟨_, _, hb⟩ := bind_some' hb
        obtain ⟨_, _, hb⟩ := bind_some' hb
        cases hb
        try rfl
      · cases hb
        try rfl
    · cases hb
      try rfl
theorem end_row {E0 : List (List Bool)} {b : Nat} {re row : List Bool} (hre : E0[b]? = some re) (hrl : row.length ≤ 300) (E : List (List Bool)) (g : Bool) (hE : g = true ∨ E = E0) (z : List (List Bool) × Bool)
    (h : whl (fun (s : (List (List Bool) × Bool × Int)) => live_Live.bd122 (b : Int) row s.1 s.2.1 s.2.2) FUEL (E, g, 0) = some z) :
    z.2 = true ∨ (z.1 = E0 ∧ g = false ∧ ∀ t : Nat, row[t]? = some true → re[t]? = some true) := by
  refine whl_inv (b := fun (s : (List (List Bool) × Bool × Int)) => live_Live.bd122 (b : Int) row s.1 s.2.1 s.2.2) (fun s => s.2.1 = true ∨ (s.1 = E0 ∧ g = false ∧ ∃ i : Nat, s.2.2 = i ∧ i ≤ 300 ∧ ∀ t : Nat, t < i → row[t]? = some true → re[t]? = some true))
    (fun z => z.2 = true ∨ (z.1 = E0 ∧ g = false ∧ ∀ t : Nat, row[t]? = some true → re[t]? = some true)) (fun s r hI hb => ?_) (fun s s' hI hb => ?_) FUEL (E, g, 0) z ?_ h
  · obtain ⟨E', g', j⟩ := s
    simp only [live_Live.bd122, live_Live.jn132] at hb
    split at hb
    · exfalso
      obtain ⟨v, hv, hb⟩ := bind_some' hb
      obtain ⟨t, ht, hb⟩ := bind_some' hb
      split at hb
      · obtain ⟨_, _, hb⟩ := bind_some' hb
        obtain ⟨_, _, hb⟩ := bind_some' hb
        cases hb
      · cases hb
    · rename_i hj
      cases hb
      rcases hI with h1 | ⟨h1, h0, i, h2, _, h3⟩
      · exact .inl h1
      · refine .inr ⟨h1, h0, fun t ht => h3 t ?_ ht⟩
        simp only at h2
        subst h2
        rw [len_lt] at hj
        have := (List.getElem?_eq_some_iff.1 ht).1
        omega
  · obtain ⟨E', g', j⟩ := s
    simp only [live_Live.bd122, live_Live.jn132] at hb
    split at hb
    · rename_i hj
      obtain ⟨v, hv, hb⟩ := bind_some' hb
      obtain ⟨t, ht, hb⟩ := bind_some' hb
      split at hb
      · obtain ⟨_, _, hb⟩ := bind_some' hb
        obtain ⟨_, _, hb⟩ := bind_some' hb
        cases hb
        exact .inl rfl
      · rename_i hnt
        cases hb
        rcases hI with h1 | ⟨h1, h0, i, h2, h4, h3⟩
        · exact .inl h1
        · simp only at h1 h2
          subst h1 h2
          rw [len_lt] at hj
          refine .inr ⟨rfl, h0, i + 1, w64_i hj (by omega), by omega, fun q hq hqr => ?_⟩
          by_cases e : q < i
          · exact h3 q e hqr
          · obtain rfl : q = i := by omega
            rw [idx_nat] at hv
            rw [hv] at hqr
            cases Option.some.inj hqr
            rw [if_pos rfl] at ht
            obtain ⟨ro, r1, ht1⟩ := bind_some' ht
            obtain ⟨x, x1, ht2⟩ := bind_some' ht1
            rw [idx_nat] at r1 x1
            rw [hre] at r1
            obtain rfl := Option.some.inj r1
            obtain rfl := Option.some.inj ht2
            rw [x1]
            cases x with
            | true => rfl
            | false => exact absurd rfl hnt
    · cases hb
  · cases g with
    | true => exact .inl rfl
    | false => exact .inr ⟨hE.resolve_left (by simp), rfl, 0, rfl, by omega, fun t ht => by omega⟩
theorem end_next {E0 N : List (List Bool)} {b : Nat} {re : List Bool} (hre : E0[b]? = some re) (hN : ∀ r ∈ N, r.length ≤ 300) (l : List Int) (hl : l.length ≤ 70) (E : List (List Bool)) (g : Bool) (hE : g = true ∨ E = E0) (z : List (List Bool) × Bool)
    (h : whl (fun (s : (List (List Bool) × Bool × Int)) => live_Live.bd74 N (b : Int) l s.1 s.2.1 s.2.2) FUEL (E, g, 0) = some z) :
    z.2 = true ∨ (z.1 = E0 ∧ g = false ∧ ∀ x ∈ l, ∀ rx, idx N x = some rx → ∀ t : Nat, rx[t]? = some true → re[t]? = some true) := by
  refine whl_inv (b := fun (s : (List (List Bool) × Bool × Int)) => live_Live.bd74 N (b : Int) l s.1 s.2.1 s.2.2) (fun s => s.2.1 = true ∨ (s.1 = E0 ∧ g = false ∧ s.2.1 = false ∧ ∃ i : Nat, s.2.2 = i ∧ i ≤ 70 ∧ ∀ q : Nat, q < i → ∀ x, l[q]? = some x → ∀ rx, idx N x = some rx → ∀ t : Nat, rx[t]? = some true → re[t]? = some true))
    (fun z => z.2 = true ∨ (z.1 = E0 ∧ g = false ∧ ∀ x ∈ l, ∀ rx, idx N x = some rx → ∀ t : Nat, rx[t]? = some true → re[t]? = some true)) (fun s r hI hb => ?_) (fun s s' hI hb => ?_) FUEL (E, g, 0) z ?_ h
  · obtain ⟨E', g', j⟩ := s
    simp only [live_Live.bd74, live_Live.nx122] at hb
    split at hb
    · exfalso
      obtain ⟨v, hv, hb⟩ := bind_some' hb
      obtain ⟨t, ht, hb⟩ := bind_some' hb
      obtain ⟨y, hy, hb⟩ := bind_some' hb
      cases hb
    · rename_i hj
      cases hb
      rcases hI with h1 | ⟨h1, h0, h5, i, h2, _, h3⟩
      · exact .inl h1
      · refine .inr ⟨h1, h0, fun x hx => ?_⟩
        obtain ⟨q, hq, rfl⟩ := List.getElem_of_mem hx
        simp only at h2
        subst h2
        rw [len_lt] at hj
        exact h3 q (by omega) _ (List.getElem?_eq_getElem hq)
  · obtain ⟨E', g', j⟩ := s
    simp only [live_Live.bd74, live_Live.nx122] at hb
    split at hb
    · rename_i hj
      obtain ⟨v, hv, hb⟩ := bind_some' hb
      obtain ⟨rx, hrx, hb⟩ := bind_some' hb
      obtain ⟨y, hy, hb⟩ := bind_some' hb
      cases hb
      have hrl := hN rx (List.mem_of_getElem? (idx_some hrx).2.2)
      rcases end_row hre hrl E' g' (hI.imp id fun h => h.1) y hy with h1 | ⟨h1, h0, h3⟩
      · exact .inl h1
      · rcases hI with h5 | ⟨_, h6, h7, i, h2, h8, h9⟩
        · rw [h0] at h5; cases h5
        · simp only at h2
          subst h2
          rw [len_lt] at hj
          by_cases hy2 : y.2 = true
          · exact .inl hy2
          refine .inr ⟨h1, h6, by simpa using hy2, i + 1, w64_i hj (by omega), by omega, fun q hq x hx rx' hrx' => ?_⟩
          by_cases e : q < i
          · exact h9 q e x hx rx' hrx'
          · obtain rfl : q = i := by omega
            rw [idx_nat] at hv
            rw [hv] at hx
            cases hx
            rw [hrx] at hrx'
            cases hrx'
            exact h3
    · cases hb
  · cases g with
    | true => exact .inl rfl
    | false => exact .inr ⟨hE.resolve_left (by simp), rfl, rfl, 0, rfl, by omega, fun t ht => by omega⟩
theorem in_row {N0 : List (List Bool)} {b : Nat} {ri bg : List Bool} (hri : N0[b]? = some ri) (hbl : bg.length ≤ 300) (N : List (List Bool)) (g : Bool) (hN : g = true ∨ N = N0) (z : List (List Bool) × Bool)
    (h : whl (fun (s : (List (List Bool) × Bool × Int)) => live_Live.bd89 (b : Int) bg s.1 s.2.1 s.2.2) FUEL (N, g, 0) = some z) :
    z.2 = true ∨ (z.1 = N0 ∧ g = false ∧ ∀ t : Nat, bg[t]? = some true → ri[t]? = some true) := by
  refine whl_inv (b := fun (s : (List (List Bool) × Bool × Int)) => live_Live.bd89 (b : Int) bg s.1 s.2.1 s.2.2) (fun s => s.2.1 = true ∨ (s.1 = N0 ∧ g = false ∧ ∃ i : Nat, s.2.2 = i ∧ i ≤ 300 ∧ ∀ t : Nat, t < i → bg[t]? = some true → ri[t]? = some true))
    (fun z => z.2 = true ∨ (z.1 = N0 ∧ g = false ∧ ∀ t : Nat, bg[t]? = some true → ri[t]? = some true)) (fun s r hI hb => ?_) (fun s s' hI hb => ?_) FUEL (N, g, 0) z ?_ h
  · obtain ⟨E', g', j⟩ := s
    simp only [live_Live.bd89, live_Live.jn99] at hb
    split at hb
    · exfalso
      obtain ⟨v, hv, hb⟩ := bind_some' hb
      obtain ⟨t, ht, hb⟩ := bind_some' hb
      obtain ⟨u, hu, hb⟩ := bind_some' hb
      split at hb
      · obtain ⟨_, _, hb⟩ := bind_some' hb
        obtain ⟨_, _, hb⟩ := bind_some' hb
        cases hb
      · cases hb
    · rename_i hj
      cases hb
      rcases hI with h1 | ⟨h1, h0, i, h2, _, h3⟩
      · exact .inl h1
      · refine .inr ⟨h1, h0, fun t ht => h3 t ?_ ht⟩
        simp only at h2
        subst h2
        rw [len_lt] at hj
        have := (List.getElem?_eq_some_iff.1 ht).1
        omega
  · obtain ⟨E', g', j⟩ := s
    simp only [live_Live.bd89, live_Live.jn99] at hb
    split at hb
    · rename_i hj
      obtain ⟨v, hv, hb⟩ := bind_some' hb
      obtain ⟨t, ht, hb⟩ := bind_some' hb
      obtain ⟨u, hu, hb⟩ := bind_some' hb
      split at hb
      · obtain ⟨_, _, hb⟩ := bind_some' hb
        obtain ⟨_, _, hb⟩ := bind_some' hb
        cases hb
        exact .inl rfl
      · rename_i hne
        cases hb
        rcases hI with h1 | ⟨h1, h0, i, h2, h4, h3⟩
        · exact .inl h1
        · simp only at h1 h2
          subst h1 h2
          rw [len_lt] at hj
          refine .inr ⟨rfl, h0, i + 1, w64_i hj (by omega), by omega, fun q hq hqr => ?_⟩
          by_cases e : q < i
          · exact h3 q e hqr
          · obtain rfl : q = i := by omega
            rw [idx_nat] at hv ht hu
            rw [hv] at hqr
            rw [hri] at ht
            cases ht
            rw [hu, ← hqr]
            cases v <;> cases u <;> simp at hne ⊢
    · cases hb
  · cases g with
    | true => exact .inl rfl
    | false => exact .inr ⟨hN.resolve_left (by simp), rfl, 0, rfl, by omega, fun t ht => by omega⟩
/-- nothing more is wanted at block b -/
def Fx (f : PFunc) (N E : List (List Bool)) (b : Nat) : Prop := ∀ (hb : b < f.blocks.length) (re ri : List Bool), E[b]? = some re → N[b]? = some ri →
  (∀ x ∈ succs f.blocks.length f.blocks[b].term.to, ∀ rx, idx N x = some rx → ∀ t : Nat, rx[t]? = some true → re[t]? = some true) ∧ ∀ t : Nat, (beginF f.blocks[b] re)[t]? = some true → ri[t]? = some true
theorem round_fix (f : PFunc) (hf : LiveOk f) (N0 E0 : List (List Bool)) (hL : LI f N0 E0) (z : List (List Bool) × List (List Bool) × Bool)
    (h : whl (fun (s : (List (List Bool) × List (List Bool) × Bool × Int)) => live_Live.bd57 f (nexts f) s.1 s.2.1 s.2.2.1 s.2.2.2) FUEL (N0, E0, false, (w64 ((len f.blocks) - 1))) = some z) :
    z.2.2 = true ∨ (z.1 = N0 ∧ z.2.1 = E0 ∧ ∀ b, Fx f N0 E0 b) := by
  have hn := hf.few
  have hk := hf.sm.2.1
  have ht : ∀ B ∈ f.blocks, B.term.to.length ≤ 70 := fun B hm => (hf.sm.2.2.2 B hm).2.2.1
  have hw0 : w64 ((len f.blocks) - 1) = (f.blocks.length : Int) - 1 := by simp only [len]; exact w64_id ⟨by omega, by omega⟩
  refine whl_inv (b := fun (s : (List (List Bool) × List (List Bool) × Bool × Int)) => live_Live.bd57 f (nexts f) s.1 s.2.1 s.2.2.1 s.2.2.2)
    (fun s => s.2.2.1 = true ∨ (s.1 = N0 ∧ s.2.1 = E0 ∧ -1 ≤ s.2.2.2 ∧ s.2.2.2 < (f.blocks.length : Int) ∧ ∀ b : Nat, s.2.2.2 < (b : Int) → Fx f N0 E0 b)) (fun z => z.2.2 = true ∨ (z.1 = N0 ∧ z.2.1 = E0 ∧ ∀ b, Fx f N0 E0 b)) (fun s r hI hb => ?_) (fun s s' hI hb => ?_) FUEL _ z (.inr ⟨rfl, rfl, by simp only [hw0]; omega, by simp only [hw0]; omega, fun b hb hlt => by simp only [hw0] at hb; omega⟩) h
  · obtain ⟨N, E, g, j⟩ := s
    simp only [live_Live.bd57, live_Live.nx74, live_Live.nx89] at hb
    split at hb
    · exfalso
      obtain ⟨_, _, hb⟩ := bind_some' hb
      obtain ⟨_, _, hb⟩ := bind_some' hb
      obtain ⟨_, _, hb⟩ := bind_some' hb
      obtain ⟨_, _, hb⟩ := bind_some' hb
      obtain ⟨_, _, hb⟩ := bind_some' hb
      obtain ⟨_, _, hb⟩ := bind_some' hb
      cases hb
    · cases hb
      rcases hI with h1 | ⟨h1, h2, h3, h4, h5⟩
      · exact .inl h1
      · exact .inr ⟨h1, h2, fun b => h5 b (by simp only at *; omega)⟩
  · obtain ⟨N, E, g, j⟩ := s
    simp only [live_Live.bd57, live_Live.nx74, live_Live.nx89] at hb
    split at hb
    · rename_i hj
      obtain ⟨l, hl, hb⟩ := bind_some' hb
      obtain ⟨y, hy, hb⟩ := bind_some' hb
      obtain ⟨B, hB, hb⟩ := bind_some' hb
      obtain ⟨re, hre, hb⟩ := bind_some' hb
      obtain ⟨bg, hbg, hb⟩ := bind_some' hb
      obtain ⟨w, hw, hb⟩ := bind_some' hb
      cases hb
      by_cases hwt : w.2 = true
      · exact .inl hwt
      obtain ⟨b, rfl⟩ : ∃ b : Nat, j = b := ⟨j.toNat, by omega⟩
      rw [idx_nat] at hl hB hre
      have hbn : b < f.blocks.length := (List.getElem?_eq_some_iff.1 hB).1
      have hBe : B = f.blocks[b] := ((List.getElem?_eq_some_iff.1 hB).2).symm
      subst hBe
      rw [nexts_get f b hbn] at hl
      cases hl
      have hll := (nexts_rows f ht b _ (nexts_get f b hbn)).1
      -- rows of the tables as they were
      obtain ⟨re0, e1, e2, e3⟩ := hL.dimE.get (b := (b : Int)) (by omega) (by omega)
      obtain ⟨ri0, i1, i2, i3⟩ := hL.dimI.get (b := (b : Int)) (by omega) (by omega)
      rw [Int.toNat_natCast] at e2 i2
      rcases hI with h1 | ⟨h1, h2, h3, h4, h5⟩
      · -- again is true already: it stays so
        exfalso
        simp only at h1
        subst h1
        exact hwt (stay_in (b : Int) bg N y.2 (stay_next N (b : Int) _ E true rfl y hy) w hw)
      · simp only at h1 h2 h3 h4
        subst h1 h2
        rcases end_next e2 (fun r hr => by rw [hL.dimI.row r hr]; exact hk) _ hll E g (.inr rfl) y hy with g1 | ⟨g1, _, g2⟩
        · exact absurd (stay_in (b : Int) bg N y.2 g1 w hw) hwt
        · rw [g1, e2] at hre
          obtain rfl := Option.some.inj hre
          rw [begin_eq f.blocks[b] re0 (hf.sm.2.2.2 _ (List.getElem_mem hbn)) (by rw [e3]; exact hf.regs _ (List.getElem_mem hbn)) (by omega)] at hbg
          cases hbg
          rcases in_row i2 (by rw [beginF_length]; omega) N y.2 (.inr rfl) w hw with k1 | ⟨k1, _, k2⟩
          · exact absurd k1 hwt
          · have hw1 : w64 ((b : Int) - 1) = (b : Int) - 1 := w64_id ⟨by omega, by omega⟩
            refine .inr ⟨k1, g1, by simp only [hw1]; omega, by simp only [hw1]; omega, fun c hc => ?_⟩
            simp only [hw1] at hc
            by_cases e : (b : Int) < (c : Int)
            · exact h5 c e
            · obtain rfl : c = b := by omega
              intro hcb re ri hre hri
              rw [e2] at hre
              rw [i2] at hri
              cases hre; cases hri
              exact ⟨g2, k2⟩
    · cases hb
theorem live_rounds' (f : PFunc) (hf : LiveOk f) (ins ends : List (List Bool)) (hL : LI f ins ends) (hbig : fal ins + fal ends ≤ 1000000) :
    ∃ z, whl (fun (s : (List (List Bool) × List (List Bool) × Bool)) => live_Live.bd43 f (nexts f) s.1 s.2.1 s.2.2) FUEL (ins, ends, true) = some z ∧ LI f z.1 z.2 ∧ ∀ b, Fx f z.1 z.2 b := by
  refine whl_ex (body := fun (s : (List (List Bool) × List (List Bool) × Bool)) => live_Live.bd43 f (nexts f) s.1 s.2.1 s.2.2) (fun s => LI f s.1 s.2.1 ∧ (s.2.2 = true ∨ ∀ b, Fx f s.1 s.2.1 b)) (fun s => 2 * (fal s.1 + fal s.2.1) + (if s.2.2 = true then 1 else 0)) (fun z => LI f z.1 z.2 ∧ ∀ b, Fx f z.1 z.2 b) (fun s hI => ?_) FUEL _ ⟨hL, .inl rfl⟩ (by
    simp only [if_true]
    exact lt_FUEL (by simp only [maxLen]; omega))
  obtain ⟨N, E, g⟩ := s
  obtain ⟨hI, hX⟩ := hI
  simp only at hI hX
  cases g with
  | false => exact .inl ⟨(N, E), by simp [live_Live.bd43], hI, hX.resolve_left (by simp)⟩
  | true =>
    obtain ⟨z, hz, hz1, hz2, hz3⟩ := round_all f hf N E hI
    refine .inr ⟨(z.1, z.2.1, z.2.2), by simp only [live_Live.bd43, if_true, hz, Option.bind_some, live_Live.nx57], ⟨hz1, ?_⟩, ?_⟩
    · rcases round_fix f hf N E hI z hz with h | ⟨h1, h2, h3⟩
      · exact .inl h
      · exact .inr (by simp only [h1, h2]; exact h3)
    · simp only [if_true]
      cases hg : z.2.2 with
      | false => simp only [Bool.false_eq_true, if_false]; omega
      | true => have := hz3 hg; simp only [if_true]; omega
theorem live_any' (m : PModule) (hm : SmM m) (a : Int) : ∃ e, live_has m a = some e ∧
    ((e ≠ GErr.no ∧ live_Live m a = some ([], [], e)) ∨ (e = GErr.no ∧ Proper m ∧ ∃ k : Nat, a = k ∧ ∃ hk : k < m.funcs.length, ∃ ins ends, live_Live m a = some (ins, ends, GErr.no) ∧ LI m.funcs[k] ins ends ∧ ∀ b, Fx m.funcs[k] ins ends b)) := by
  obtain ⟨e, he1, he2⟩ := has_says m hm a
  refine ⟨e, he1, ?_⟩
  unfold live_Live
  rw [he1]
  simp only [Option.bind_some]
  by_cases h : e = GErr.no
  · right
    rw [if_neg (by simpa using h)]
    obtain ⟨hp, h0, h1⟩ := he2.1 h
    refine ⟨h, hp, a.toNat, by omega, by omega, ?_⟩
    have hk : a.toNat < m.funcs.length := by omega
    have hix : idx m.funcs a = some m.funcs[a.toNat] := by
      simp only [idx, if_pos h0]; exact List.getElem?_eq_getElem hk
    have hsm := hm.2 _ (List.getElem_mem hk)
    have hf := (hp.funcs _ (List.getElem_mem hk)).live hsm
    rw [hix]
    generalize m.funcs[a.toNat] = f at *
    have ht : ∀ B ∈ f.blocks, B.term.to.length ≤ 70 := fun B hm => (hsm.2.2.2 B hm).2.2.1
    simp only [Option.bind_some, graphNext_eq f hsm.1 ht, checkAhead_eq f hsm, table_eq f hsm]
    obtain ⟨z, hz, hz1, hz2⟩ := ends_all f hf _ ⟨Dim.rep _ _, Nm.rep _ _ _⟩
    rw [hz]
    simp only [Option.bind_some, live_Live.nx34]
    have hLI : LI f (List.replicate f.blocks.length (List.replicate f.regs.length false)) z := by
      refine ⟨Dim.rep _ _, hz1, Nm.rep _ _ _, hz2, fun b hb ri re e1 e2 => ⟨?_, fun r hr => ?_⟩⟩
      · rw [beginF_length, hz1.row re (List.mem_of_getElem? e2)]
        exact (Dim.rep _ _).row ri (List.mem_of_getElem? e1)
      · rw [List.eq_of_mem_replicate (List.mem_of_getElem? e1), List.getElem?_replicate] at hr
        split at hr <;> simp at hr
    have hn := hf.few
    have hr := hsm.2.1
    have hb : f.blocks.length * f.regs.length ≤ 64 * 300 := Nat.mul_le_mul hn hr
    obtain ⟨y, hy, hy1, hy2⟩ := live_rounds' f hf _ z hLI (by
      have a1 := fal_le _ _ _ (Dim.rep f.blocks.length f.regs.length)
      have a2 := fal_le _ _ _ hz1
      omega)
    rw [hy]
    exact ⟨y.1, y.2, rfl, hy1, hy2⟩
  · left
    rw [if_pos h]
    exact ⟨h, rfl⟩
/-! ### What a block's beginning wants -/
theorem markAll_keeps (l : List Int) : ∀ (o : List Bool) (r : Nat), o[r]? = some true → (markAll o l)[r]? = some true := by
  induction l with
  | nil => exact fun o r h => h
  | cons a l ih =>
    intro o r h
    exact ih (o.set a.toNat true) r ((Le.mark o a.toNat).le r h)
theorem stepI_keeps (o : List Bool) (x : PInstr) (r : Nat) (hx : x.dst ≠ (r : Int)) (h : o[r]? = some true) : (stepI o x)[r]? = some true := by
  unfold stepI
  refine markAll_keeps _ _ _ ?_
  split
  · rw [List.getElem?_set_ne (by omega)]; exact h
  · exact h
theorem stepsI_keeps (l : List PInstr) : ∀ (o : List Bool) (r : Nat), (∀ x ∈ l, x.dst ≠ (r : Int)) → o[r]? = some true → (l.foldl stepI o)[r]? = some true := by
  induction l with
  | nil => exact fun o r _ h => h
  | cons a l ih =>
    intro o r h1 h
    exact ih _ r (fun x hx => h1 x (List.mem_cons_of_mem _ hx)) (stepI_keeps o a r (h1 a (by simp)) h)
theorem beginF_keeps (B : PBlock) (hB : B.phis = []) (e : List Bool) (r : Nat) (hr : ∀ x ∈ B.ins, x.dst ≠ (r : Int)) (h : e[r]? = some true ∨ (B.term.arg = (r : Int) ∧ r < e.length)) : (beginF B e)[r]? = some true := by
  unfold beginF
  rw [hB]
  simp only [dropP, List.foldl_nil]
  refine stepsI_keeps _ _ _ (fun x hx => hr x (List.mem_reverse.1 hx)) ?_
  rcases h with h | ⟨h, hl⟩
  · split
    · exact (Le.mark e _).le r h
    · exact h
  · rw [if_pos (by omega), h, Int.toNat_natCast, List.getElem?_set_self hl]
end Go.Proofs.Yteaknconpkklhaa
set_option linter.unusedVariables false
set_option linter.unusedSimpArgs false
namespace Go.Proofs.Yteaknconpkklhaa
open Go Go.Proofs
variable {f : PFunc} {R : List Int}
theorem defines_ok (l : List PInstr) (hl : l.length ≤ 300) (r : Int) : ∃ b, slices_ContainsFunc_api_Instr_api_Instr_ssa_builder_closed_1 l r = some b ∧ ((∃ x ∈ l, x.dst = r) → b = true) := by
  unfold slices_ContainsFunc_api_Instr_api_Instr_ssa_builder_closed_1 slices_IndexFunc_api_Instr_api_Instr_ssa_builder_closed_1
  obtain ⟨z, hz, hz1⟩ := whl_for (body := fun (s : Int) => slices_IndexFunc_api_Instr_api_Instr_ssa_builder_closed_1.bd8 l r s) (s0 := 0) l.length (fun i s => s = (i : Int) ∧ ∀ j (hj : j < l.length), j < i → l[j].dst ≠ r) (fun z => (∃ i : Nat, z = .ret (i : Int)) ∨ ∀ x ∈ l, x.dst ≠ r) (le_max hl (by omega)) (fun i s hi hI => by
    obtain ⟨rfl, hI⟩ := hI
    simp only [slices_IndexFunc_api_Instr_api_Instr_ssa_builder_closed_1.bd8, len_lt, hi, if_true, idx_lt hi, Option.bind_some, ssa_builder_closed_1, w64_i hi (show l.length ≤ 1000 by omega)]
    by_cases e : l[i].dst = r
    · exact .inl ⟨.ret (i : Int), by simp [e], .inl ⟨i, rfl⟩⟩
    · exact .inr ⟨((i + 1 : Nat) : Int), by simp [e], rfl, fun j hj hji => by
        by_cases e2 : j < i
        · exact hI j hj e2
        · obtain rfl : j = i := by omega
          exact e⟩) (fun s hI => by
    obtain ⟨rfl, hI⟩ := hI
    exact ⟨.go (), by simp [slices_IndexFunc_api_Instr_api_Instr_ssa_builder_closed_1.bd8, len], .inr fun x hx => by
      obtain ⟨j, hj, rfl⟩ := List.getElem_of_mem hx
      exact hI j hj hj⟩) ⟨rfl, fun j _ hj => by omega⟩
  rw [hz]
  cases z with
  | ret q =>
    refine ⟨_, rfl, fun ⟨x, hx, he⟩ => ?_⟩
    rcases hz1 with ⟨i, e⟩ | h
    · cases e; simp
    · exact absurd he (h x hx)
  | go p =>
    refine ⟨_, rfl, fun ⟨x, hx, he⟩ => ?_⟩
    rcases hz1 with ⟨i, e⟩ | h
    · cases e
    · exact absurd he (h x hx)
/-- all that borders on c is in the set -/
def Dn1 (F : List (List Int)) (O : List Bool) (c : Nat) : Prop := ∀ l, F[c]? = some l → ∀ x ∈ l, O[x.toNat]? = some true
/-- the set is closed, from block 0 and all that define r on -/
def Cl (f : PFunc) (F : List (List Int)) (r : Int) (C : List Bool) : Prop := ∀ c : Nat, (c = 0 ∨ (∃ hc : c < f.blocks.length, ∃ x ∈ f.blocks[c].ins, x.dst = r) ∨ C[c]? = some true) → Dn1 F C c
theorem closed_work {n : Nat} (hn : n ≤ 70) (F : List (List Int)) (hF : Bel n n n F) (b : PBuilder) (hb : b.front = F) (O : List Bool) (W : List Int) (hO : O.length = n) (hW : ∀ x ∈ W, 0 ≤ x ∧ x < (n : Int)) (hm : 2 * cnt O + W.length ≤ 300) (hO2 : ∀ c : Nat, O[c]? ≠ some true) :
    ∃ z, whl (fun (s : (List Bool × List Int)) => ssa_builder_closed.bd18 b s.1 s.2) FUEL (O, W) = some z ∧ z.length = n ∧ ∀ c : Nat, ((c : Int) ∈ W ∨ z[c]? = some true) → Dn1 F z c := by
  refine whl_ex (body := fun (s : (List Bool × List Int)) => ssa_builder_closed.bd18 b s.1 s.2) (fun s => s.1.length = n ∧ (∀ x ∈ s.2, 0 ≤ x ∧ x < (n : Int)) ∧ 2 * cnt s.1 + s.2.length ≤ 300 ∧ ∀ c : Nat, ((c : Int) ∈ W ∨ s.1[c]? = some true) → (c : Int) ∈ s.2 ∨ Dn1 F s.1 c) (fun s => 2 * cnt s.1 + s.2.length) _ (fun s hs => ?_) FUEL (O, W) ⟨hO, hW, hm, fun c h => .inl (h.resolve_right (hO2 c))⟩ (small_max (by simp only; omega))
  obtain ⟨M, q⟩ := s
  obtain ⟨h1, h2, h3, h4⟩ := hs
  simp only at h1 h2 h3 h4
  simp only [ssa_builder_closed.bd18]
  rcases Nat.eq_zero_or_pos q.length with h0 | h0
  · exact .inl ⟨M, by rw [if_neg (by simp only [len]; omega)], h1, fun c h => (h4 c h).resolve_left (fun hm => by rw [List.eq_nil_of_length_eq_zero h0] at hm; simp at hm)⟩
  right
  have hw : w64 (len q - 1) = ((q.length - 1 : Nat) : Int) := by
    rw [show len q - 1 = ((q.length - 1 : Nat) : Int) by simp only [len]; omega]
    exact w64_nat (by omega)
  have hl : q.length - 1 < q.length := by omega
  have hx := h2 _ (List.getElem_mem hl)
  obtain ⟨row, r1, r2, r3, r4⟩ := hF.get hx.1 hx.2
  have hu : upto q ((q.length - 1 : Nat) : Int) = some (q.take (q.length - 1)) := by
    unfold upto; rw [if_pos ⟨by omega, by simp⟩]; simp
  obtain ⟨z, hz, hz1, hz2, hz3, k1, k2, k3, k4⟩ := whl_for (body := fun (s : (List Bool × List Int × Int)) => ssa_builder_closed.bd35 row s.1 s.2.1 s.2.2) (s0 := (M, q.take (q.length - 1), 0)) row.length
    (fun i s => s.2.2 = (i : Int) ∧ s.1.length = n ∧ (∀ x ∈ s.2.1, 0 ≤ x ∧ x < (n : Int)) ∧ 2 * cnt s.1 + s.2.1.length + 1 ≤ 2 * cnt M + q.length ∧ (∀ x : Nat, M[x]? = some true → s.1[x]? = some true) ∧ (∀ t (ht : t < row.length), t < i → s.1[row[t].toNat]? = some true) ∧ (∀ x ∈ q.take (q.length - 1), x ∈ s.2.1) ∧ ∀ c : Nat, s.1[c]? = some true → M[c]? = some true ∨ (c : Int) ∈ s.2.1) (fun z => z.1.length = n ∧ (∀ x ∈ z.2, 0 ≤ x ∧ x < (n : Int)) ∧ 2 * cnt z.1 + z.2.length + 1 ≤ 2 * cnt M + q.length ∧ (∀ x : Nat, M[x]? = some true → z.1[x]? = some true) ∧ (∀ x ∈ row, z.1[x.toNat]? = some true) ∧ (∀ x ∈ q.take (q.length - 1), x ∈ z.2) ∧ ∀ c : Nat, z.1[c]? = some true → M[c]? = some true ∨ (c : Int) ∈ z.2) (le_max (by omega) (Nat.le_refl 1000)) (fun i s hi hI => by
      obtain ⟨A, B, j⟩ := s
      obtain ⟨rfl, g1, g2, g3, g4, g5, g6, g7⟩ := hI
      simp only at g1 g2 g3 g4 g5 g6 g7
      right
      have hy := r4 _ (List.getElem_mem hi)
      obtain ⟨y, y1, y2⟩ := idx_in (xs := A) hy.1 (by rw [g1]; exact hy.2)
      simp only [ssa_builder_closed.bd35, len_lt, hi, if_true, idx_lt hi, Option.bind_some, y1, ssa_builder_closed.jn45, w64_i hi (show row.length ≤ 1000 by omega), cat_one (show B.length ≤ 1000 by omega)]
      cases y with
      | true => exact ⟨_, by simp; rfl, rfl, g1, g2, g3, g4, fun t ht hti => by
          by_cases e : t < i
          · exact g5 t ht e
          · obtain rfl : t = i := by omega
            exact y2, g6, g7⟩
      | false =>
        have hc := cnt_set A _ y2
        have hlt : row[i].toNat < A.length := by omega
        have hk : ∀ x : Nat, A[x]? = some true → (A.set row[i].toNat true)[x]? = some true := fun x hx => (Le.mark A _).le x hx
        refine ⟨_, by simp only [Bool.not_false, if_true]; rfl, rfl, by simp [g1], fun x hx => ?_, by simp only [List.length_append, List.length_singleton]; omega, fun x hx => hk x (g4 x hx), fun t ht hti => ?_, fun x hx => List.mem_append_left _ (g6 x hx), fun c hc => ?_⟩
        · rcases List.mem_append.1 hx with hx | hx
          · exact g2 x hx
          · rw [List.mem_singleton] at hx; subst hx; exact hy
        · by_cases e : t < i
          · exact hk _ (g5 t ht e)
          · obtain rfl : t = i := by omega
            exact List.getElem?_set_self hlt
        · simp only at hc
          by_cases e : row[i].toNat = c
          · right
            refine List.mem_append_right _ ?_
            rw [List.mem_singleton]; omega
          · rw [List.getElem?_set_ne e] at hc
            exact (g7 c hc).imp id (List.mem_append_left _)) (fun s hI => by
      obtain ⟨A, B, j⟩ := s
      obtain ⟨rfl, g1, g2, g3, g4, g5, g6, g7⟩ := hI
      exact ⟨(A, B), by simp [ssa_builder_closed.bd35, len], g1, g2, g3, g4, fun x hx => by
        obtain ⟨t, ht, rfl⟩ := List.getElem_of_mem hx
        exact g5 t ht ht, g6, g7⟩) ⟨rfl, h1, fun x hx => h2 x (List.mem_of_mem_take hx), by simp only [List.length_take]; omega, fun _ h => h, fun t _ h => by omega, fun _ h => h, fun _ h => .inl h⟩
  refine ⟨z, ?_, ⟨hz1, hz2, by omega, fun c hc => ?_⟩, by omega⟩
  rotate_left
  · have hold : (c : Int) ∈ z.2 ∨ (c : Int) ∈ q ∨ Dn1 F M c := by
      rcases hc with hc | hc
      · exact .inr (h4 c (.inl hc))
      · rcases k4 c hc with hc | hc
        · exact .inr (h4 c (.inr hc))
        · exact .inl hc
    rcases hold with h | h | h
    · exact .inl h
    · obtain ⟨t, ht, e⟩ := List.getElem_of_mem h
      by_cases et : t < q.length - 1
      · exact .inl (k3 _ (by rw [← e]; exact List.mem_take_iff_getElem.2 ⟨t, by omega, rfl⟩))
      · right
        obtain rfl : t = q.length - 1 := by omega
        intro l hl x hx
        rw [e, Int.toNat_natCast] at r2
        rw [r2] at hl
        cases hl
        exact k2 x hx
    · exact .inr fun l hl x hx => k1 _ (h l hl x hx)
  rw [if_pos (by simp only [len]; omega), hw, idx_lt hl]
  simp only [Option.bind_some, hu, hb, r1, hz]
  rfl
theorem closed_ok (hf : SmF f) (hpos : 0 < f.blocks.length) (b : PBuilder) (hb : b.f = f) (hF : Bel f.blocks.length f.blocks.length f.blocks.length b.front) (r : Int) : ∃ z, ssa_builder_closed b r = some z ∧ z.length = f.blocks.length ∧ Cl f b.front r z := by
  have hn := hf.1
  unfold ssa_builder_closed
  obtain ⟨z, hz, hz1, hz2, hz3, hz4⟩ := whl_for (body := fun (s : (List Int × Int)) => ssa_builder_closed.bd9 b r s.1 s.2) (s0 := ([0], 0)) f.blocks.length
    (fun i s => s.2 = (i : Int) ∧ s.1.length ≤ i + 1 ∧ (∀ x ∈ s.1, 0 ≤ x ∧ x < (f.blocks.length : Int)) ∧ 0 ∈ s.1 ∧ ∀ c (hc : c < f.blocks.length), c < i → (∃ x ∈ f.blocks[c].ins, x.dst = r) → (c : Int) ∈ s.1) (fun z => z.length ≤ f.blocks.length + 1 ∧ (∀ x ∈ z, 0 ≤ x ∧ x < (f.blocks.length : Int)) ∧ 0 ∈ z ∧ ∀ c (hc : c < f.blocks.length), (∃ x ∈ f.blocks[c].ins, x.dst = r) → (c : Int) ∈ z) (le_max hn (by omega)) (fun i s hi hI => by
      obtain ⟨A, j⟩ := s
      obtain ⟨rfl, g1, g2, g3, g4⟩ := hI
      simp only at g1 g2 g3 g4
      right
      obtain ⟨t, ht, ht2⟩ := defines_ok f.blocks[i].ins (hf.2.2.2 _ (List.getElem_mem hi)).1 r
      simp only [ssa_builder_closed.bd9, hb, len_lt, hi, if_true, idx_lt hi, Option.bind_some, ht, ssa_builder_closed.jn63, w64_i hi (show f.blocks.length ≤ 1000 by omega), cat_one (show A.length ≤ 1000 by omega)]
      cases t with
      | false => exact ⟨_, by simp; rfl, rfl, by simp only; omega, g2, g3, fun c hc hci hd => by
          by_cases e : c < i
          · exact g4 c hc e hd
          · obtain rfl : c = i := by omega
            exact absurd (ht2 hd) (by simp)⟩
      | true =>
        refine ⟨_, by simp only [if_true]; rfl, rfl, by simp only [List.length_append, List.length_singleton]; omega, fun x hx => ?_, List.mem_append_left _ g3, fun c hc hci hd => ?_⟩
        · rcases List.mem_append.1 hx with hx | hx
          · exact g2 x hx
          · rw [List.mem_singleton] at hx; omega
        · by_cases e : c < i
          · exact List.mem_append_left _ (g4 c hc e hd)
          · obtain rfl : c = i := by omega
            exact List.mem_append_right _ (by simp)) (fun s hI => by
      obtain ⟨A, j⟩ := s
      obtain ⟨rfl, g1, g2, g3, g4⟩ := hI
      exact ⟨A, by simp [ssa_builder_closed.bd9, hb, len], g1, g2, g3, fun c hc => g4 c hc hc⟩) ⟨rfl, by simp, fun x hx => by simp at hx; omega, by simp, fun c _ h => by omega⟩
  have hmk : mkl (len b.f.blocks) false = some (List.replicate f.blocks.length false) := by rw [hb]; exact mkl3 false (by omega)
  rw [hmk, hz]
  simp only [Option.bind_some, ssa_builder_closed.nx9]
  obtain ⟨y, hy, hy1, hy2⟩ := closed_work hn _ hF b rfl (List.replicate f.blocks.length false) z (by simp) hz2 (by unfold cnt; rw [List.count_replicate_self]; omega) (fun c h => by
    rw [List.getElem?_replicate] at h
    split at h <;> simp at h)
  rw [hy]
  refine ⟨y, rfl, hy1, fun c hc => hy2 c ?_⟩
  rcases hc with rfl | ⟨hc, hd⟩ | h
  · exact .inl hz3
  · exact .inl (hz4 c hc hd)
  · exact .inr h
/-- row i has x -/
def In1 (P : List (List Int)) (i : Nat) (x : Int) : Prop := ∃ row, P[i]? = some row ∧ x ∈ row
theorem In1.add {A : List (List Int)} {i j : Nat} {row : List Int} {x y : Int} (h : A[i]? = some row) : In1 A j x → In1 (A.set i (row ++ [y])) j x := fun ⟨q, h1, h2⟩ => by
  by_cases e : i = j
  · subst e
    rw [h] at h1; cases h1
    exact ⟨_, List.getElem?_set_self (List.getElem?_eq_some_iff.1 h).1, List.mem_append_left _ h2⟩
  · exact ⟨q, by rw [List.getElem?_set_ne e]; exact h1, h2⟩
theorem In1.inv {A : List (List Int)} {i j : Nat} {row : List Int} {x y : Int} (h : A[i]? = some row) : In1 (A.set i (row ++ [y])) j x → In1 A j x ∨ (j = i ∧ x = y) := fun ⟨q, h1, h2⟩ => by
  by_cases e : i = j
  · subst e
    rw [List.getElem?_set_self (List.getElem?_eq_some_iff.1 h).1] at h1
    cases h1
    rcases List.mem_append.1 h2 with h2 | h2
    · exact .inl ⟨row, h, h2⟩
    · exact .inr ⟨rfl, by simpa using h2⟩
  · rw [List.getElem?_set_ne e] at h1
    exact .inl ⟨q, h1, h2⟩
theorem place_rows (hf : SmF f) (hpos : 0 < f.blocks.length) (b : PBuilder) (hb : b.f = f) (hD : Dim f.blocks.length f.regs.length b.in_) (r : Nat) (hr : r < f.regs.length) (C : List Bool) (hC : C.length = f.blocks.length) (P : List (List Int)) (hP : Bel f.blocks.length r f.regs.length P) :
    ∃ z, whl (fun (s : (List (List Int) × Int)) => ssa_builder_place.bd29 b (r : Int) C s.1 s.2) FUEL (P, 0) = some z ∧ Bel f.blocks.length (r + 1) f.regs.length z ∧ (∀ i x, In1 P i x → In1 z i x) ∧ (∀ i : Nat, C[i]? = some true → Hold b.in_ i r → In1 z i (r : Int)) ∧ ∀ i x, In1 z i x → In1 P i x ∨ (x = (r : Int) ∧ Hold b.in_ i r) := by
  have hn := hf.1
  have hrr := hf.2.1
  refine whl_for (body := fun (s : (List (List Int) × Int)) => ssa_builder_place.bd29 b (r : Int) C s.1 s.2) (s0 := (P, 0)) f.blocks.length
    (fun i s => s.2 = (i : Int) ∧ Bel f.blocks.length (r + 1) f.regs.length s.1 ∧ (∀ j row, i ≤ j → s.1[j]? = some row → row.length ≤ r) ∧ (∀ i x, In1 P i x → In1 s.1 i x) ∧ (∀ j : Nat, j < i → C[j]? = some true → Hold b.in_ j r → In1 s.1 j (r : Int)) ∧ ∀ j x, In1 s.1 j x → In1 P j x ∨ (x = (r : Int) ∧ Hold b.in_ j r)) _ (le_max hn (by omega)) (fun i s hi hI => ?_) (fun s hI => ?_) ⟨rfl, hP.mono (by omega), fun j row _ hj => hP.few row (List.mem_of_getElem? hj), fun _ _ h => h, fun j h => by omega, fun _ _ h => .inl h⟩
  · obtain ⟨A, j⟩ := s
    obtain ⟨rfl, g1, g2, g3, g4, g5⟩ := hI
    simp only at g1 g2 g3 g4 g5
    right
    have hi' : i < C.length := by omega
    obtain ⟨ro, o1, o2, o3⟩ := hD.get (b := (i : Int)) (by omega) (by omega)
    have hro : r < ro.length := by omega
    obtain ⟨row, q1, q2, q3, q4⟩ := g1.get (b := (i : Int)) (by omega) (by omega)
    have q5 := g2 i row (Nat.le_refl _) (by simpa using q2)
    rw [Int.toNat_natCast] at o2 q2
    have key : ∃ t : Bool, (C[i] = true → Hold b.in_ i r → t = true) ∧ (t = true → Hold b.in_ i r) ∧ ssa_builder_place.bd29 b (r : Int) C A (i : Int) = if t = true then some (.go (A.set i (row ++ [(r : Int)]), ((i + 1 : Nat) : Int))) else some (.go (A, ((i + 1 : Nat) : Int))) := by
      refine ⟨C[i] && ro[r], fun e1 ⟨x, e2, e3⟩ => by
        rw [o2] at e2; cases e2
        rw [List.getElem?_eq_getElem hro] at e3
        simp [e1, Option.some.inj e3], fun e => ⟨ro, o2, by rw [List.getElem?_eq_getElem hro]; simp at e; simp [e.2]⟩, ?_⟩
      simp only [ssa_builder_place.bd29, len_lt, hi', if_true, idx_lt hi', Option.bind_some, o1, idx_lt hro, q1, cat_one (show row.length ≤ 1000 by omega), ssa_builder_place.jn49, w64_i hi (show f.blocks.length ≤ 1000 by omega), Int.toNat_natCast]
      cases C[i] <;> cases ro[r] <;> simp
    obtain ⟨t, ht1, ht2, ht⟩ := key
    have hnew : ∀ j : Nat, j < i + 1 → C[j]? = some true → Hold b.in_ j r → In1 A j (r : Int) ∨ (j = i ∧ t = true) := fun j hj e1 e2 => by
      by_cases e : j < i
      · exact .inl (g4 j e e1 e2)
      · obtain rfl : j = i := by omega
        rw [List.getElem?_eq_getElem hi'] at e1
        exact .inr ⟨rfl, ht1 (Option.some.inj e1) e2⟩
    cases t with
    | false => exact ⟨_, by simpa using ht, rfl, g1, fun j row hj => g2 j row (by omega), g3, fun j hj e1 e2 => (hnew j hj e1 e2).resolve_right (by simp), g5⟩
    | true =>
      refine ⟨(A.set i (row ++ [(r : Int)]), ((i + 1 : Nat) : Int)), by simpa using ht, rfl, g1.set i (row := row ++ [(r : Int)]) (by simp only [List.length_append, List.length_singleton]; omega) (fun x hx => ?_), fun j row' hj hget => ?_, fun j x h => In1.add q2 (g3 j x h), fun j hj e1 e2 => ?_, fun j x h => ?_⟩
      · rcases List.mem_append.1 hx with hx | hx
        · exact q4 x hx
        · rw [List.mem_singleton] at hx; omega
      · simp only at hget
        rw [List.getElem?_set_ne (by omega)] at hget
        exact g2 j row' (by omega) hget
      · rcases hnew j hj e1 e2 with h | ⟨rfl, _⟩
        · exact In1.add q2 h
        · exact ⟨_, List.getElem?_set_self (List.getElem?_eq_some_iff.1 q2).1, List.mem_append_right _ (by simp)⟩
      · rcases In1.inv q2 h with h | ⟨rfl, rfl⟩
        · exact g5 j x h
        · exact .inr ⟨rfl, ht2 rfl⟩
  · obtain ⟨A, j⟩ := s
    obtain ⟨rfl, g1, g2, g3, g4, g5⟩ := hI
    exact ⟨A, by simp [ssa_builder_place.bd29, len, hC], g1, g3, fun i e1 e2 => g4 i (by have := (List.getElem?_eq_some_iff.1 e1).1; omega) e1 e2, g5⟩
/-- the registers with a zero -/
structure Zs (c m : Nat) (l : List Int) : Prop where
  few : l.length ≤ c
  mem : ∀ x ∈ l, 0 ≤ x ∧ x < (m : Int)
/-- where phis and zeros are -/
structure Plc (f : PFunc) (F : List (List Int)) (ins : List (List Bool)) (P : List (List Int)) (Z : List Int) (m : Nat) : Prop where
  phi : ∀ r, r < m → ∃ C, Cl f F (r : Int) C ∧ ∀ i : Nat, C[i]? = some true → Hold ins i r → In1 P i (r : Int)
  zero : ∀ r, r < m → f.params ≤ (r : Int) → Hold ins 0 r → (r : Int) ∈ Z
  only : ∀ i x, In1 P i x → ∃ r : Nat, x = (r : Int) ∧ Hold ins i r
theorem place_ok (hf : SmF f) (hpos : 0 < f.blocks.length) (b : PBuilder) (hb : b.f = f) (hD : Dim f.blocks.length f.regs.length b.in_) (hF : Bel f.blocks.length f.blocks.length f.blocks.length b.front) (hz0 : b.zeros = []) :
    ∃ z, ssa_builder_place b = some z ∧ Bel f.blocks.length f.regs.length f.regs.length z.1 ∧ Zs f.regs.length f.regs.length z.2 ∧ Plc f b.front b.in_ z.1 z.2 f.regs.length := by
  have hn := hf.1
  have hrr := hf.2.1
  unfold ssa_builder_place
  have hmk : mkl (len b.f.blocks) ([] : List Int) = some (List.replicate f.blocks.length []) := by rw [hb]; exact mkl3 [] (by omega)
  have hbeg : ∀ i x, In1 (List.replicate f.blocks.length []) i x → ∃ r : Nat, x = (r : Int) ∧ Hold b.in_ i r := fun i x ⟨q, h1, h2⟩ => by
    rw [List.eq_of_mem_replicate (List.mem_of_getElem? h1)] at h2
    simp at h2
  obtain ⟨z, hz, hz1⟩ := whl_for (body := fun (s : (List (List Int) × List Int × Int)) => ssa_builder_place.bd9 b s.1 s.2.1 s.2.2) (s0 := (List.replicate f.blocks.length [], [], 0)) f.regs.length
    (fun i s => s.2.2 = (i : Int) ∧ Bel f.blocks.length i f.regs.length s.1 ∧ Zs i f.regs.length s.2.1 ∧ Plc f b.front b.in_ s.1 s.2.1 i) (fun z => Bel f.blocks.length f.regs.length f.regs.length z.1 ∧ Zs f.regs.length f.regs.length z.2 ∧ Plc f b.front b.in_ z.1 z.2 f.regs.length) (le_max hrr (by omega)) (fun r s hr hI => by
      obtain ⟨A, Z, j⟩ := s
      obtain ⟨rfl, g1, g2, g3⟩ := hI
      simp only at g1 g2 g3
      right
      obtain ⟨C, c1, c2, c3⟩ := closed_ok hf hpos (⟨(⟨b.f.params, b.f.result, b.f.regs, b.f.blocks⟩ : PFunc), b.in_, b.front, b.nearest, A, Z, b.regs, b.phi, b.zero_, b.dst, b.begin, b.end_⟩ : PBuilder) (by rw [hb]) hF (r : Int)
      obtain ⟨y, y1, y2, y3, y4, y5⟩ := place_rows hf hpos b hb hD r hr C c2 A g1
      obtain ⟨ro, o1, o2, o3⟩ := hD.get (b := 0) (by omega) (by omega)
      have hro : r < ro.length := by omega
      have hlt : (r : Int) < len b.f.regs := by rw [hb]; simp only [len]; omega
      have hZ := g2.few
      have o2' : b.in_[0]? = some ro := by simpa using o2
      have key : ∃ t : Bool, (f.params ≤ (r : Int) → Hold b.in_ 0 r → t = true) ∧ ssa_builder_place.bd9 b A Z (r : Int) = if t = true then some (.go (y, Z ++ [(r : Int)], ((r + 1 : Nat) : Int))) else some (.go (y, Z, ((r + 1 : Nat) : Int))) := by
        refine ⟨decide ((r : Int) ≥ b.f.params) && ro[r], fun e1 ⟨x, e2, e3⟩ => by
          rw [o2'] at e2; cases e2
          rw [List.getElem?_eq_getElem hro] at e3
          simp [hb, e1, Option.some.inj e3], ?_⟩
        simp only [ssa_builder_place.bd9, hlt, if_true, c1, Option.bind_some, y1, ssa_builder_place.nx29, o1, idx_lt hro, cat_one (show Z.length ≤ 1000 by omega), ssa_builder_place.jn19, w64_i hr (show f.regs.length ≤ 1000 by omega)]
        by_cases e : (r : Int) ≥ b.f.params <;> cases ro[r] <;> simp [e]
      obtain ⟨t, ht1, ht⟩ := key
      have hphi : ∀ q, q < r + 1 → ∃ C, Cl f b.front (q : Int) C ∧ ∀ i : Nat, C[i]? = some true → Hold b.in_ i q → In1 y i (q : Int) := fun q hq => by
        by_cases e : q < r
        · obtain ⟨D, d1, d2⟩ := g3.phi q e
          exact ⟨D, d1, fun i e1 e2 => y3 i _ (d2 i e1 e2)⟩
        · obtain rfl : q = r := by omega
          exact ⟨C, c3, y4⟩
      have honly : ∀ i x, In1 y i x → ∃ r : Nat, x = (r : Int) ∧ Hold b.in_ i r := fun i x h => by
        rcases y5 i x h with h | ⟨h1, h2⟩
        · exact g3.only i x h
        · exact ⟨r, h1, h2⟩
      cases t with
      | false => exact ⟨_, by simpa using ht, rfl, y2, ⟨by simp only; omega, g2.mem⟩, hphi, fun q hq e1 e2 => by
          by_cases e : q < r
          · exact g3.zero q e e1 e2
          · obtain rfl : q = r := by omega
            exact absurd (ht1 e1 e2) (by simp), honly⟩
      | true =>
        refine ⟨(y, Z ++ [(r : Int)], ((r + 1 : Nat) : Int)), by simpa using ht, rfl, y2, ⟨by simp only [List.length_append, List.length_singleton]; omega, fun x hx => ?_⟩, hphi, fun q hq e1 e2 => ?_, honly⟩
        · rcases List.mem_append.1 hx with hx | hx
          · exact g2.mem x hx
          · rw [List.mem_singleton] at hx; omega
        · by_cases e : q < r
          · exact List.mem_append_left _ (g3.zero q e e1 e2)
          · obtain rfl : q = r := by omega
            exact List.mem_append_right _ (by simp)) (fun s hI => by
      obtain ⟨A, Z, j⟩ := s
      obtain ⟨rfl, g1, g2, g3⟩ := hI
      exact ⟨(A, Z), by simp [ssa_builder_place.bd9, len, hb], g1, g2, g3⟩) ⟨rfl, Bel.rep _ _ _, ⟨by simp, by simp⟩, fun r h => by omega, fun r h => by omega, hbeg⟩
  rw [hmk, hz0]
  simp only [Option.bind_some, hz]
  exact ⟨z, rfl, hz1⟩
end Go.Proofs.Yteaknconpkklhaa
set_option linter.unusedVariables false
set_option linter.unusedSimpArgs false
namespace Go.Proofs.Yteaknconpkklhaa
open Go Go.Proofs
variable {f : PFunc} {R : List Int}
theorem cat_big {α : Type} {a : List α} {x : α} (h : a.length ≤ 1000000) : cat a [x] = some (a ++ [x]) := cat_ok (by simp only [LIM, List.length_singleton]; omega)
theorem fresh_eq (b : PBuilder) (hb : b.f = f) (r : Int) (h0 : 0 ≤ r) (h1 : r < (f.regs.length : Int)) (hl : b.regs.length ≤ 1000000) : ∃ y, f.regs[r.toNat]? = some y ∧ ssa_builder_fresh b r = some ((b.regs.length : Int), b.regs ++ [y]) := by
  obtain ⟨y, y1, y2⟩ := idx_in h0 h1
  refine ⟨y, y2, ?_⟩
  unfold ssa_builder_fresh ssa_builder_fresh.jn4
  rw [hb, y1]
  simp only [Option.bind_some, cat_big hl]
  rw [show len (b.regs ++ [y]) - 1 = (b.regs.length : Int) by simp [len], w64_nat (by omega)]
/-- New registers: which stands for which old one; their types. -/
structure Asg (f : PFunc) (g : List Int) (A : List (Int × Int)) : Prop where
  plen : f.params ≤ (g.length : Int)
  pre : ∀ r : Nat, (r : Int) < f.params → g[r]? = f.regs[r]?
  ty : ∀ x ∈ A, f.params ≤ x.1 ∧ 0 ≤ x.1 ∧ x.1 < (g.length : Int) ∧ 0 ≤ x.2 ∧ g[x.1.toNat]? = f.regs[x.2.toNat]?
  nd : (A.map Prod.fst).Nodup
  all : ∀ t ∈ g, t ∈ f.regs
theorem Asg.next {g : List Int} {A : List (Int × Int)} (h : Asg f g A) {r y : Int} (h0 : 0 ≤ r) (hy : f.regs[r.toNat]? = some y) : Asg f (g ++ [y]) (A ++ [((g.length : Int), r)]) := by
  have hp := h.plen
  refine ⟨by simp only [List.length_append, List.length_singleton]; omega, fun k hk => ?_, fun x hx => ?_, ?_, fun t ht => ?_⟩
  · rw [List.getElem?_append_left (by omega)]; exact h.pre k hk
  · rcases List.mem_append.1 hx with hx | hx
    · obtain ⟨a1, a2, a3, a4, a5⟩ := h.ty x hx
      refine ⟨a1, a2, by simp only [List.length_append, List.length_singleton]; omega, a4, ?_⟩
      rw [List.getElem?_append_left (by omega)]; exact a5
    · rw [List.mem_singleton] at hx
      subst hx
      refine ⟨hp, by omega, by simp only [List.length_append, List.length_singleton]; omega, h0, ?_⟩
      simp only [Int.toNat_natCast]
      rw [List.getElem?_append_right (Nat.le_refl _), hy]; simp
  · rw [List.map_append, List.nodup_append]
    refine ⟨h.nd, by simp, fun a ha b hb => ?_⟩
    obtain ⟨x, hx, rfl⟩ := List.mem_map.1 ha
    have := (h.ty x hx).2.2.1
    have hb' : b = (g.length : Int) := by simpa using hb
    omega
  · rcases List.mem_append.1 ht with ht | ht
    · exact h.all t ht
    · rw [List.mem_singleton] at ht
      subst ht; exact List.mem_of_getElem? hy
theorem zip_next {l k : List Int} {i : Nat} (hi : i < k.length) (hl : l.length = i) (x : Int) : (l ++ [x]).zip (k.take (i + 1)) = l.zip (k.take i) ++ [(x, k[i])] := by
  rw [List.take_succ_eq_append_getElem hi, List.zip_append (by rw [List.length_take]; omega)]; rfl
def dz (d : List Int) (l : List PInstr) : List (Int × Int) := ((d.zip l).filter fun p => decide (p.2.dst ≥ 0)).map fun p => (p.1, p.2.dst)
theorem dz_next {d : List Int} {l : List PInstr} {i : Nat} (hi : i < l.length) (hd : d.length = i) (x : Int) : dz (d ++ [x]) (l.take (i + 1)) = dz d (l.take i) ++ (if l[i].dst ≥ 0 then [(x, l[i].dst)] else []) := by
  unfold dz
  rw [List.take_succ_eq_append_getElem hi, List.zip_append (by rw [List.length_take]; omega), List.filter_append, List.map_append]
  congr 1
  by_cases h : l[i].dst ≥ 0
  · simp [h]
  · simp [h]
theorem dz_mem {d : List Int} {l : List PInstr} {x r : Int} (h : (x, r) ∈ dz d l) : ∃ t : Nat, ∃ o, d[t]? = some x ∧ l[t]? = some o ∧ o.dst = r ∧ 0 ≤ r := by
  unfold dz at h
  obtain ⟨⟨a, o⟩, h1, h2⟩ := List.mem_map.1 h
  obtain ⟨h3, h4⟩ := List.mem_filter.1 h1
  obtain ⟨t, ht, he⟩ := List.getElem_of_mem h3
  simp only [List.getElem_zip, Prod.mk.injEq] at he
  have h4' : o.dst ≥ 0 := by simpa using h4
  simp only [Prod.mk.injEq] at h2
  rw [List.length_zip] at ht
  exact ⟨t, o, by rw [← h2.1, ← he.1]; exact List.getElem?_eq_getElem (by omega), by rw [← he.2]; exact List.getElem?_eq_getElem (by omega), h2.2, by omega⟩
theorem mem_dz {d : List Int} {l : List PInstr} {x : Int} {t : Nat} {o : PInstr} (h1 : d[t]? = some x) (h2 : l[t]? = some o) (h3 : 0 ≤ o.dst) : (x, o.dst) ∈ dz d l := by
  unfold dz
  refine List.mem_map.2 ⟨(x, o), List.mem_filter.2 ⟨?_, by simpa using h3⟩, rfl⟩
  obtain ⟨k1, rfl⟩ := List.getElem?_eq_some_iff.1 h1
  obtain ⟨k2, rfl⟩ := List.getElem?_eq_some_iff.1 h2
  have hz : t < (d.zip l).length := by rw [List.length_zip]; omega
  have := List.getElem_mem hz
  rwa [List.getElem_zip] at this
theorem mem_zip_at {l k : List Int} {t : Nat} {x r : Int} (h1 : l[t]? = some x) (h2 : k[t]? = some r) : (x, r) ∈ l.zip k := by
  obtain ⟨k1, rfl⟩ := List.getElem?_eq_some_iff.1 h1
  obtain ⟨k2, rfl⟩ := List.getElem?_eq_some_iff.1 h2
  have hz : t < (l.zip k).length := by rw [List.length_zip]; omega
  have := List.getElem_mem hz
  rwa [List.getElem_zip] at this
theorem snoc_nn {l : List Int} {x : Int} (h : ∀ y ∈ l, 0 ≤ y) (hx : 0 ≤ x) : ∀ y ∈ l ++ [x], 0 ≤ y := fun y hy => by
  rcases List.mem_append.1 hy with hy | hy
  · exact h y hy
  · rw [List.mem_singleton] at hy; omega
theorem zeros_ok (hf : SmF f) (b : PBuilder) (hb : b.f = f) (hz : Zs f.regs.length f.regs.length b.zeros) (g : List Int) (hg : g.length ≤ 1000) (hA : Asg f g []) :
    ∃ z, whl (fun (s : (List Int × List Int × Int)) => ssa_builder_number.bd12 b s.1 s.2.1 s.2.2) FUEL (g, [], 0) = some z ∧ z.1.length ≤ 1300 ∧ z.2.length = b.zeros.length ∧ (∀ x ∈ z.2, 0 ≤ x) ∧ Asg f z.1 (z.2.zip b.zeros) := by
  have hrr := hf.2.1
  have hzf := hz.few
  refine whl_for (body := fun (s : (List Int × List Int × Int)) => ssa_builder_number.bd12 b s.1 s.2.1 s.2.2) (s0 := (g, [], 0)) b.zeros.length
    (fun i s => s.2.2 = (i : Int) ∧ s.1.length ≤ 1000 + i ∧ s.2.1.length = i ∧ (∀ x ∈ s.2.1, 0 ≤ x) ∧ Asg f s.1 (s.2.1.zip (b.zeros.take i))) _ (le_max (by omega) (Nat.le_refl 1000)) (fun i s hi hI => ?_) (fun s hI => ?_) ⟨rfl, hg, rfl, by simp, by simpa using hA⟩
  · obtain ⟨A, Z, j⟩ := s
    obtain ⟨rfl, g1, g2, g3, g4⟩ := hI
    simp only at g1 g2 g3 g4
    right
    have hx := hz.mem _ (List.getElem_mem hi)
    obtain ⟨y, y1, x1⟩ := fresh_eq (⟨(⟨b.f.params, b.f.result, b.f.regs, b.f.blocks⟩ : PFunc), b.in_, b.front, b.nearest, b.phis, b.zeros, A, b.phi, Z, b.dst, b.begin, b.end_⟩ : PBuilder) (by rw [hb]) b.zeros[i] hx.1 hx.2 (by simp only; omega)
    simp only at x1
    simp only [ssa_builder_number.bd12, len_lt, hi, if_true, idx_lt hi, Option.bind_some, x1, cat_one (show Z.length ≤ 1000 by omega), ssa_builder_number.jn654, w64_i hi (show b.zeros.length ≤ 1000 by omega)]
    exact ⟨_, rfl, rfl, by simp only [List.length_append, List.length_singleton]; omega, by simp [g2], snoc_nn g3 (by omega), by simp only; rw [zip_next hi g2]; exact g4.next hx.1 y1⟩
  · obtain ⟨A, Z, j⟩ := s
    obtain ⟨rfl, g1, g2, g3, g4⟩ := hI
    simp only at g1 g2 g3 g4
    exact ⟨(A, Z), by simp [ssa_builder_number.bd12, len], by simp only; omega, g2, g3, by simpa using g4⟩
theorem numPhi_ok (hf : SmF f) (b : PBuilder) (hb : b.f = f) (z : List Int) (p d : List (List Int)) (row : List Int) (hr : row.length ≤ f.regs.length) (hm : ∀ x ∈ row, 0 ≤ x ∧ x < (f.regs.length : Int)) (g : List Int) (c : Nat) (hg : g.length ≤ c) (hc : c ≤ 500000) {A0 : List (Int × Int)} (hA : Asg f g A0) :
    ∃ y, whl (fun (s : (List Int × List Int × Int)) => ssa_builder_number.bd41 b z p d row s.1 s.2.1 s.2.2) FUEL (g, [], 0) = some y ∧ y.1.length ≤ c + 300 ∧ y.2.length = row.length ∧ (∀ x ∈ y.2, 0 ≤ x) ∧ Asg f y.1 (A0 ++ y.2.zip row) := by
  have hrr := hf.2.1
  refine whl_for (body := fun (s : (List Int × List Int × Int)) => ssa_builder_number.bd41 b z p d row s.1 s.2.1 s.2.2) (s0 := (g, [], 0)) row.length
    (fun i s => s.2.2 = (i : Int) ∧ s.1.length ≤ c + i ∧ s.2.1.length = i ∧ (∀ x ∈ s.2.1, 0 ≤ x) ∧ Asg f s.1 (A0 ++ s.2.1.zip (row.take i))) _ (le_max (by omega) (Nat.le_refl 1000)) (fun i s hi hI => ?_) (fun s hI => ?_) ⟨rfl, hg, rfl, by simp, by simpa using hA⟩
  · obtain ⟨A, Z, j⟩ := s
    obtain ⟨rfl, g1, g2, g3, g4⟩ := hI
    simp only at g1 g2 g3 g4
    right
    have hx := hm _ (List.getElem_mem hi)
    obtain ⟨y, y1, x1⟩ := fresh_eq (⟨(⟨b.f.params, b.f.result, b.f.regs, b.f.blocks⟩ : PFunc), b.in_, b.front, b.nearest, b.phis, b.zeros, A, p, z, d, b.begin, b.end_⟩ : PBuilder) (by rw [hb]) row[i] hx.1 hx.2 (by simp only; omega)
    simp only at x1
    simp only [ssa_builder_number.bd41, len_lt, hi, if_true, idx_lt hi, Option.bind_some, x1, cat_one (show Z.length ≤ 1000 by omega), w64_i hi (show row.length ≤ 1000 by omega)]
    exact ⟨_, rfl, rfl, by simp only [List.length_append, List.length_singleton]; omega, by simp [g2], snoc_nn g3 (by omega), by simp only; rw [zip_next hi g2, ← List.append_assoc]; exact g4.next hx.1 y1⟩
  · obtain ⟨A, Z, j⟩ := s
    obtain ⟨rfl, g1, g2, g3, g4⟩ := hI
    simp only at g1 g2 g3 g4
    exact ⟨(A, Z), by simp [ssa_builder_number.bd41, len], by simp only; omega, g2, g3, by simpa using g4⟩
/-- a block's new registers fit its instructions -/
structure Dst (B : PBlock) (row : List Int) : Prop where
  len : row.length = B.ins.length
  nn : ∀ t (ht : t < B.ins.length) (x : Int), 0 ≤ B.ins[t].dst → row[t]? = some x → 0 ≤ x
  neg : ∀ t (ht : t < B.ins.length) (x : Int), B.ins[t].dst < 0 → row[t]? = some x → x = -1
theorem numDst_ok (b : PBuilder) (hb : b.f = f) (z : List Int) (p d : List (List Int)) (B : PBlock) (hB : SmB B) (hR : RegsIn f.regs.length B) (g : List Int) (c : Nat) (hg : g.length ≤ c) (hc : c ≤ 500000) {A0 : List (Int × Int)} (hA : Asg f g A0) :
    ∃ y, whl (fun (s : (List Int × List Int × Int)) => ssa_builder_number.bd50 b z p d B s.1 s.2.1 s.2.2) FUEL (g, [], 0) = some y ∧ y.1.length ≤ c + 300 ∧ Dst B y.2 ∧ Asg f y.1 (A0 ++ dz y.2 B.ins) := by
  have hi3 := hB.1
  refine whl_for (body := fun (s : (List Int × List Int × Int)) => ssa_builder_number.bd50 b z p d B s.1 s.2.1 s.2.2) (s0 := (g, [], 0)) B.ins.length
    (fun i s => s.2.2 = (i : Int) ∧ s.1.length ≤ c + i ∧ s.2.1.length = i ∧ (∀ t (ht : t < B.ins.length) (x : Int), 0 ≤ B.ins[t].dst → s.2.1[t]? = some x → 0 ≤ x) ∧ (∀ t (ht : t < B.ins.length) (x : Int), B.ins[t].dst < 0 → s.2.1[t]? = some x → x = -1) ∧ Asg f s.1 (A0 ++ dz s.2.1 (B.ins.take i))) _ (le_max (by omega) (Nat.le_refl 1000)) (fun i s hi hI => ?_) (fun s hI => ?_) ⟨rfl, hg, rfl, by simp, by simp, by simpa [dz] using hA⟩
  · obtain ⟨A, Z, j⟩ := s
    obtain ⟨rfl, g1, g2, g3, g5, g6⟩ := hI
    simp only at g1 g2 g3 g5 g6
    right
    have hx := hR.dst _ (List.getElem_mem hi)
    by_cases e : B.ins[i].dst < 0
    · simp only [ssa_builder_number.bd50, len_lt, hi, if_true, idx_lt hi, Option.bind_some, e, cat_one (show Z.length ≤ 1000 by omega), ssa_builder_number.jn622, w64_i hi (show B.ins.length ≤ 1000 by omega)]
      refine ⟨_, rfl, rfl, by simp only; omega, by simp [g2], fun t ht x h1 h2 => ?_, fun t ht x h1 h2 => ?_, by simp only; rw [dz_next hi g2, if_neg (by omega), List.append_nil]; exact g6⟩ <;> simp only at h2
      · rcases Nat.lt_trichotomy t Z.length with h | h | h
        · rw [List.getElem?_append_left h] at h2; exact g3 t ht x h1 h2
        · obtain rfl : t = i := by omega
          omega
        · rw [List.getElem?_eq_none (by simp; omega)] at h2; cases h2
      · rcases Nat.lt_trichotomy t Z.length with h | h | h
        · rw [List.getElem?_append_left h] at h2; exact g5 t ht x h1 h2
        · subst h
          rw [List.getElem?_append_right (Nat.le_refl _)] at h2
          simp at h2; omega
        · rw [List.getElem?_eq_none (by simp; omega)] at h2; cases h2
    · obtain ⟨y, y1, x1⟩ := fresh_eq (⟨(⟨b.f.params, b.f.result, b.f.regs, b.f.blocks⟩ : PFunc), b.in_, b.front, b.nearest, b.phis, b.zeros, A, p, z, d, b.begin, b.end_⟩ : PBuilder) (by rw [hb]) B.ins[i].dst (by omega) hx (by simp only; omega)
      simp only at x1
      simp only [ssa_builder_number.bd50, len_lt, hi, if_true, idx_lt hi, Option.bind_some, e, if_false, x1, cat_one (show Z.length ≤ 1000 by omega), ssa_builder_number.jn622, w64_i hi (show B.ins.length ≤ 1000 by omega)]
      refine ⟨_, rfl, rfl, by simp only [List.length_append, List.length_singleton]; omega, by simp [g2], fun t ht x h1 h2 => ?_, fun t ht x h1 h2 => ?_, by simp only; rw [dz_next hi g2, if_pos (by omega), ← List.append_assoc]; exact g6.next (by omega) y1⟩ <;> simp only at h2
      · rcases Nat.lt_trichotomy t Z.length with h | h | h
        · rw [List.getElem?_append_left h] at h2; exact g3 t ht x h1 h2
        · subst h
          rw [List.getElem?_append_right (Nat.le_refl _)] at h2
          simp at h2; omega
        · rw [List.getElem?_eq_none (by simp; omega)] at h2; cases h2
      · rcases Nat.lt_trichotomy t Z.length with h | h | h
        · rw [List.getElem?_append_left h] at h2; exact g5 t ht x h1 h2
        · obtain rfl : t = i := by omega
          omega
        · rw [List.getElem?_eq_none (by simp; omega)] at h2; cases h2
  · obtain ⟨A, Z, j⟩ := s
    obtain ⟨rfl, g1, g2, g3, g5, g6⟩ := hI
    simp only at g1 g2 g3 g5 g6
    exact ⟨(A, Z), by simp [ssa_builder_number.bd50, len], by simp only; omega, ⟨g2, g3, g5⟩, by simpa using g6⟩
/-- All pairs of new and old registers, up to a block. -/
def numA (p d P : List (List Int)) (f : PFunc) (i : Nat) : List (Int × Int) := (List.range i).flatMap fun j => (p.getD j []).zip (P.getD j []) ++ dz (d.getD j []) (f.blocks.getD j PBlock.zero).ins
theorem numA_next {p d P : List (List Int)} {i : Nat} (hp : p.length = i) (hd : d.length = i) (row dro : List Int) {q : List Int} (hq : P[i]? = some q) (hi : i < f.blocks.length) : numA (p ++ [row]) (d ++ [dro]) P f (i + 1) = numA p d P f i ++ (row.zip q ++ dz dro f.blocks[i].ins) := by
  unfold numA
  rw [List.range_succ, List.flatMap_append]
  congr 1
  · rw [List.flatMap_def, List.flatMap_def]
    congr 1
    apply List.map_congr_left
    intro j hj
    have hj := List.mem_range.1 hj
    simp only [List.getD_eq_getElem?_getD]
    rw [List.getElem?_append_left (by omega), List.getElem?_append_left (by omega)]
  · simp only [List.flatMap_cons, List.flatMap_nil, List.append_nil, List.getD_eq_getElem?_getD]
    rw [List.getElem?_append_right (by omega), List.getElem?_append_right (by omega), hp, hd, hq, List.getElem?_eq_getElem hi]
    simp
structure Num (f : PFunc) (phis : List (List Int)) (i : Nat) (p d : List (List Int)) : Prop where
  lp : p.length = i
  ld : d.length = i
  pr : ∀ j, j < i → ∃ q row, phis[j]? = some q ∧ p[j]? = some row ∧ row.length = q.length ∧ ∀ x ∈ row, 0 ≤ x
  dr : ∀ j (hj : j < f.blocks.length), j < i → ∃ row, d[j]? = some row ∧ Dst f.blocks[j] row
theorem Num.next {phis : List (List Int)} {i : Nat} {p d : List (List Int)} (h : Num f phis i p d) {q row dro : List Int} (hq : phis[i]? = some q) (h1 : row.length = q.length) (h2 : ∀ x ∈ row, 0 ≤ x) (hi : i < f.blocks.length) (h3 : Dst f.blocks[i] dro) : Num f phis (i + 1) (p ++ [row]) (d ++ [dro]) := by
  have hp := h.lp
  have hd := h.ld
  refine ⟨by simp [hp], by simp [hd], fun j hj => ?_, fun j hj hji => ?_⟩
  · by_cases e : j < i
    · obtain ⟨q, row, a, b, c⟩ := h.pr j e
      exact ⟨q, row, a, by rw [List.getElem?_append_left (by omega)]; exact b, c⟩
    · obtain rfl : j = i := by omega
      exact ⟨q, row, hq, by rw [List.getElem?_append_right (by omega), hp]; simp, h1, h2⟩
  · by_cases e : j < i
    · obtain ⟨row, a, b⟩ := h.dr j hj e
      exact ⟨row, by rw [List.getElem?_append_left (by omega)]; exact a, b⟩
    · obtain rfl : j = i := by omega
      exact ⟨dro, by rw [List.getElem?_append_right (by omega), hd]; simp, h3⟩
theorem lin1 {a c i : Nat} (h : a ≤ c + 300 + 300) (hc : c = 1300 + i * 600) : a ≤ 1300 + (i + 1) * 600 := by omega
theorem number_ok (hf : SmF f) (hR : ∀ B ∈ f.blocks, RegsIn f.regs.length B) (h0 : 0 ≤ f.params) (h1 : f.params ≤ (f.regs.length : Int)) (b : PBuilder) (hb : b.f = f) (hP : Bel f.blocks.length f.regs.length f.regs.length b.phis) (hz : Zs f.regs.length f.regs.length b.zeros) (e1 : b.phi = []) (e2 : b.zero_ = []) (e3 : b.dst = []) :
    ∃ g p z d, ssa_builder_number b = some (g, p, z, d) ∧ z.length = b.zeros.length ∧ (∀ x ∈ z, 0 ≤ x) ∧ Num f b.phis f.blocks.length p d ∧ Asg f g (z.zip b.zeros ++ numA p d b.phis f f.blocks.length) := by
  have hn := hf.1
  have hrr := hf.2.1
  unfold ssa_builder_number ssa_builder_number.jn4
  have hu : upto b.f.regs b.f.params = some (f.regs.take f.params.toNat) := by
    rw [hb]; unfold upto; rw [if_pos ⟨h0, by omega⟩]
  rw [hu]
  simp only [Option.bind_some, clone_eq _ (show (f.regs.take f.params.toNat).length ≤ 1000 by simp; omega), e2]
  have hA0 : Asg f (f.regs.take f.params.toNat) [] := ⟨by rw [List.length_take]; omega, fun r hr => by rw [List.getElem?_take_of_lt (by omega)], by simp, by simp, fun t ht => List.mem_of_mem_take ht⟩
  obtain ⟨y, hy, y1, y2, y3, y4⟩ := zeros_ok hf b hb hz (f.regs.take f.params.toNat) (by simp; omega) hA0
  rw [hy]
  simp only [Option.bind_some, ssa_builder_number.nx12, e1, e3]
  obtain ⟨w, hw, hw1⟩ := whl_for (body := fun (s : (List Int × List (List Int) × List (List Int) × Int)) => ssa_builder_number.bd21 b y.2 s.1 s.2.1 s.2.2.1 s.2.2.2) (s0 := (y.1, [], [], 0)) f.blocks.length
    (fun i s => s.2.2.2 = (i : Int) ∧ s.1.length ≤ 1300 + i * 600 ∧ Num f b.phis i s.2.1 s.2.2.1 ∧ Asg f s.1 (y.2.zip b.zeros ++ numA s.2.1 s.2.2.1 b.phis f i)) (fun z => Num f b.phis f.blocks.length z.2.1 z.2.2 ∧ Asg f z.1 (y.2.zip b.zeros ++ numA z.2.1 z.2.2 b.phis f f.blocks.length)) (le_max hn (by omega)) (fun i s hi hI => by
      obtain ⟨A, p, d, j⟩ := s
      obtain ⟨rfl, g1, g2, g3⟩ := hI
      simp only at g1 g2 g3
      right
      obtain ⟨q, q1, q2, q3, q4⟩ := hP.get (b := (i : Int)) (by omega) (by omega)
      obtain ⟨c, hc⟩ : ∃ c, c = 1300 + i * 600 := ⟨_, rfl⟩
      rw [← hc] at g1
      obtain ⟨u, u1, u2, u3, u4, u5⟩ := numPhi_ok hf b hb y.2 p d q q3 q4 A c g1 (by omega) g3
      obtain ⟨v, v1, v2, v3, v4⟩ := numDst_ok b hb y.2 p d f.blocks[i] (hf.2.2.2 _ (List.getElem_mem hi)) (hR _ (List.getElem_mem hi)) u.1 (c + 300) u2 (by omega) u5
      have hlp := g2.lp
      have hld := g2.ld
      simp only [ssa_builder_number.bd21, hb, len_lt, hi, if_true, idx_lt hi, Option.bind_some, q1, u1, ssa_builder_number.nx41, v1, ssa_builder_number.nx50, cat_one (show p.length ≤ 1000 by omega), cat_one (show d.length ≤ 1000 by omega), ssa_builder_number.jn31, w64_i hi (show f.blocks.length ≤ 1000 by omega)]
      have hv : v.1.length ≤ 1300 + (i + 1) * 600 := lin1 v2 hc
      exact ⟨_, rfl, rfl, hv, g2.next (by simpa using q2) u3 u4 hi v3, by simp only; rw [numA_next hlp hld _ _ (by simpa using q2) hi, ← List.append_assoc, ← List.append_assoc]; exact v4⟩) (fun s hI => by
      obtain ⟨A, p, d, j⟩ := s
      obtain ⟨rfl, g1, g2, g3⟩ := hI
      exact ⟨(A, p, d), by simp [ssa_builder_number.bd21, len, hb], g2, g3⟩) ⟨rfl, by simp only; omega, ⟨rfl, rfl, fun j hj => by omega, fun j _ hj => by omega⟩, by simpa [numA] using y4⟩
  rw [hw]
  exact ⟨_, _, _, _, rfl, y2, y3, hw1.1, hw1.2⟩
/-- a version is there -/
def Nn (v : List Int) (r : Nat) : Prop := ∃ x, v[r]? = some x ∧ 0 ≤ x
theorem Nn.set {v : List Int} {r i : Nat} {x : Int} (h : Nn v r) (hx : 0 ≤ x) : Nn (v.set i x) r := by
  obtain ⟨y, h1, h2⟩ := h
  by_cases e : i = r
  · subst e; exact ⟨x, List.getElem?_set_self (List.getElem?_eq_some_iff.1 h1).1, hx⟩
  · exact ⟨y, by rw [List.getElem?_set_ne e]; exact h1, h2⟩
theorem Nn.new {v : List Int} {i : Nat} {x : Int} (hi : i < v.length) (hx : 0 ≤ x) : Nn (v.set i x) i := ⟨x, List.getElem?_set_self hi, hx⟩
/-- Each version that is there is as Q says. -/
def Snd (Q : Int → Int → Prop) (v : List Int) : Prop := ∀ (r : Nat) (x : Int), v[r]? = some x → x = -1 ∨ Q x (r : Int)
theorem Snd.set {Q : Int → Int → Prop} {v : List Int} (h : Snd Q v) {i : Nat} {x : Int} (hx : Q x (i : Int)) : Snd Q (v.set i x) := fun r y hy => by
  by_cases e : i = r
  · subst e
    have hl : i < v.length := by have := (List.getElem?_eq_some_iff.1 hy).1; simpa using this
    rw [List.getElem?_set_self hl] at hy
    cases hy; exact .inr hx
  · rw [List.getElem?_set_ne e] at hy; exact h r y hy
theorem Snd.mono {Q Q' : Int → Int → Prop} {v : List Int} (h : Snd Q v) (hq : ∀ x r, Q x r → Q' x r) : Snd Q' v := fun r x hx => (h r x hx).imp id (hq x _)
def Par (f : PFunc) (x r : Int) : Prop := x = r ∧ 0 ≤ r ∧ r < f.params
theorem first_ok (hf : SmF f) (b : PBuilder) (hb : b.f = f) (hz : Zs f.regs.length f.regs.length b.zeros) (hl : b.zero_.length = b.zeros.length) (hnn : ∀ x ∈ b.zero_, 0 ≤ x) : ∃ v, ssa_builder_first b = some v ∧ v.length = f.regs.length ∧ (∀ r, r < f.regs.length → ((r : Int) < f.params ∨ (r : Int) ∈ b.zeros) → Nn v r) ∧ Snd (fun x r => Par f x r ∨ (x, r) ∈ b.zero_.zip b.zeros) v := by
  have hrr := hf.2.1
  unfold ssa_builder_first
  have hmk : mkl (len b.f.regs) (0 : Int) = some (List.replicate f.regs.length 0) := by rw [hb]; exact mkl3 0 (by omega)
  obtain ⟨w, hw, hw1, hw2, hw3⟩ := whl_for (body := fun (s : (List Int × Int)) => ssa_builder_first.bd9 b (List.replicate f.regs.length 0) s.1 s.2) (s0 := (List.replicate f.regs.length 0, 0)) f.regs.length
    (fun i s => s.2 = (i : Int) ∧ s.1.length = f.regs.length ∧ (∀ r, r < i → (r : Int) < f.params → Nn s.1 r) ∧ ∀ (r : Nat) (x : Int), r < i → s.1[r]? = some x → x = -1 ∨ Par f x (r : Int)) (fun z => z.length = f.regs.length ∧ (∀ r, r < f.regs.length → (r : Int) < f.params → Nn z r) ∧ Snd (Par f) z) (le_max hrr (by omega)) (fun i s hi hI => by
      obtain ⟨A, j⟩ := s
      obtain ⟨rfl, g1, g2, g3⟩ := hI
      simp only at g1 g2 g3
      right
      have hi' : i < A.length := by omega
      have hi2 : i < (A.set i (-1)).length := by simp; omega
      simp only [ssa_builder_first.bd9, len_lt, List.length_replicate, hi, if_true, idx_lt hi', Option.bind_some, Int.toNat_natCast, idx_lt hi2, ssa_builder_first.jn40, w64_i hi (show f.regs.length ≤ 1000 by omega)]
      by_cases e : (i : Int) < b.f.params
      · rw [if_pos e]
        refine ⟨_, rfl, rfl, by simp [g1], fun r hr hp => ?_, fun r x hr hx => ?_⟩
        · simp only
          by_cases e2 : i = r
          · subst e2; exact Nn.new (by simp; omega) (by omega)
          · obtain ⟨x, x1, x2⟩ := g2 r (by omega) hp
            exact ⟨x, by rw [List.getElem?_set_ne e2, List.getElem?_set_ne e2]; exact x1, x2⟩
        · simp only at hx
          by_cases e2 : i = r
          · subst e2
            rw [List.getElem?_set_self (by simpa using hi')] at hx
            cases hx
            exact .inr ⟨rfl, by omega, by rw [← hb]; exact e⟩
          · rw [List.getElem?_set_ne e2, List.getElem?_set_ne e2] at hx
            exact g3 r x (by omega) hx
      · rw [if_neg e]
        refine ⟨_, rfl, rfl, by simp [g1], fun r hr hp => ?_, fun r x hr hx => ?_⟩
        · simp only
          rw [hb] at e
          have e2 : i ≠ r := fun h => e (by omega)
          obtain ⟨x, x1, x2⟩ := g2 r (by omega) hp
          exact ⟨x, by rw [List.getElem?_set_ne e2]; exact x1, x2⟩
        · simp only at hx
          by_cases e2 : i = r
          · subst e2
            rw [List.getElem?_set_self hi'] at hx
            cases hx; exact .inl rfl
          · rw [List.getElem?_set_ne e2] at hx
            exact g3 r x (by omega) hx) (fun s hI => by
      obtain ⟨A, j⟩ := s
      obtain ⟨rfl, g1, g2, g3⟩ := hI
      simp only at g1
      exact ⟨A, by simp [ssa_builder_first.bd9, len], g1, g2, fun r x hx => g3 r x (by have := (List.getElem?_eq_some_iff.1 hx).1; omega) hx⟩) ⟨rfl, by simp, fun r h => by omega, fun r x h => by omega⟩
  rw [hmk]
  simp only [Option.bind_some, hw, ssa_builder_first.nx9]
  have hzf := hz.few
  obtain ⟨y, hy, hy1, hy2, hy3, hy4⟩ := whl_for (body := fun (s : (List Int × Int)) => ssa_builder_first.bd18 b s.1 s.2) (s0 := (w, 0)) b.zeros.length
    (fun i s => s.2 = (i : Int) ∧ s.1.length = f.regs.length ∧ (∀ r, Nn w r → Nn s.1 r) ∧ (∀ t (ht : t < b.zeros.length), t < i → Nn s.1 b.zeros[t].toNat) ∧ Snd (fun x r => Par f x r ∨ (x, r) ∈ b.zero_.zip b.zeros) s.1) (fun z => z.length = f.regs.length ∧ (∀ r, Nn w r → Nn z r) ∧ (∀ x ∈ b.zeros, Nn z x.toNat) ∧ Snd (fun x r => Par f x r ∨ (x, r) ∈ b.zero_.zip b.zeros) z) (le_max (by omega) (Nat.le_refl 1000)) (fun i s hi hI => by
      obtain ⟨A, j⟩ := s
      obtain ⟨rfl, g1, g2, g3, g4⟩ := hI
      simp only at g1 g2 g3 g4
      right
      have hi' : i < b.zero_.length := by omega
      have hx := hz.mem _ (List.getElem_mem hi)
      obtain ⟨y, y1, _⟩ := idx_in (xs := A) hx.1 (by rw [g1]; exact hx.2)
      simp only [ssa_builder_first.bd18, len_lt, hi, if_true, idx_lt hi, idx_lt hi', y1, Option.bind_some, w64_i hi (show b.zeros.length ≤ 1000 by omega)]
      have hz0 := hnn _ (List.getElem_mem hi')
      refine ⟨_, rfl, rfl, by simp [g1], fun r h => (g2 r h).set hz0, fun t ht hti => ?_, g4.set (.inr ?_)⟩
      · by_cases e : t < i
        · exact (g3 t ht e).set hz0
        · obtain rfl : t = i := by omega
          exact Nn.new (by omega) hz0
      · rw [Int.toNat_of_nonneg hx.1]
        exact mem_zip_at (List.getElem?_eq_getElem hi') (List.getElem?_eq_getElem hi)) (fun s hI => by
      obtain ⟨A, j⟩ := s
      obtain ⟨rfl, g1, g2, g3, g4⟩ := hI
      exact ⟨A, by simp [ssa_builder_first.bd18, len], g1, g2, fun x hx => by
        obtain ⟨t, ht, rfl⟩ := List.getElem_of_mem hx
        exact g3 t ht ht, g4⟩) ⟨rfl, hw1, fun _ h => h, fun t _ h => by omega, hw3.mono fun x r h => .inl h⟩
  rw [hy]
  refine ⟨y, rfl, hy1, fun r hr h => ?_, hy4⟩
  rcases h with h | h
  · exact hy2 r (hw2 r hr h)
  · have := hy3 _ h
    rwa [Int.toNat_natCast] at this
end Go.Proofs.Yteaknconpkklhaa
set_option linter.unusedVariables false
set_option linter.unusedSimpArgs false
namespace Go.Proofs.Yteaknconpkklhaa
open Go Go.Proofs
variable {f : PFunc} {R : List Int}
/-- a table of n rows, each of length k where D says so -/
structure Rw (n k : Nat) (D : Nat → Prop) (T : List (List Int)) : Prop where
  len : T.length = n
  row : ∀ v, v < n → D v → ∃ row, T[v]? = some row ∧ row.length = k
theorem Rw.get {n k : Nat} {D : Nat → Prop} {T : List (List Int)} (h : Rw n k D T) {b : Int} (h0 : 0 ≤ b) (h1 : b < (n : Int)) (hD : D b.toNat) : ∃ row, idx T b = some row ∧ T[b.toNat]? = some row ∧ row.length = k := by
  obtain ⟨row, r1, r2⟩ := h.row b.toNat (by omega) hD
  exact ⟨row, by unfold idx; rw [if_pos h0]; exact r1, r1, r2⟩
theorem Rw.set {n k : Nat} {D D' : Nat → Prop} {T : List (List Int)} (h : Rw n k D T) (v : Nat) (hv : v < n) {row : List Int} (hr : row.length = k) (hD : ∀ w, D' w → D w ∨ w = v) : Rw n k D' (T.set v row) := by
  refine ⟨by simp [h.len], fun w hw hd => ?_⟩
  by_cases e : v = w
  · subst e; exact ⟨row, by rw [List.getElem?_set_self (by rw [h.len]; exact hv)], hr⟩
  · rw [List.getElem?_set_ne e]
    rcases hD w hd with h1 | h1
    · exact h.row w hw h1
    · exact absurd h1.symm e
theorem verPhi_ok (hf : SmF f) (b : PBuilder) (i : Nat) (q row : List Int) (hq : q.length ≤ f.regs.length) (hm : ∀ x ∈ q, 0 ≤ x ∧ x < (f.regs.length : Int)) (hp : b.phi[i]? = some row) (hl : row.length = q.length) (hnn : ∀ x ∈ row, 0 ≤ x) (v : List Int) (hv : v.length = f.regs.length) :
    ∃ z, whl (fun (s : (List Int × Int)) => ssa_builder_versions.bd36 b (i : Int) q s.1 s.2) FUEL (v, 0) = some z ∧ z.length = f.regs.length ∧ (∀ r, Nn v r → Nn z r) ∧ (∀ x ∈ q, Nn z x.toNat) ∧ ∀ Q, Snd Q v → (∀ y ∈ row.zip q, Q y.1 y.2) → Snd Q z := by
  have hrr := hf.2.1
  refine whl_for (body := fun (s : (List Int × Int)) => ssa_builder_versions.bd36 b (i : Int) q s.1 s.2) (s0 := (v, 0)) q.length
    (fun i s => s.2 = (i : Int) ∧ s.1.length = f.regs.length ∧ (∀ r, Nn v r → Nn s.1 r) ∧ (∀ t (ht : t < q.length), t < i → Nn s.1 q[t].toNat) ∧ ∀ Q, Snd Q v → (∀ y ∈ row.zip q, Q y.1 y.2) → Snd Q s.1) _ (le_max (by omega) (Nat.le_refl 1000)) (fun t s ht hI => ?_) (fun s hI => ?_) ⟨rfl, hv, fun _ h => h, fun t _ h => by omega, fun Q h _ => h⟩
  · obtain ⟨A, j⟩ := s
    obtain ⟨rfl, g1, g2, g3, g4⟩ := hI
    simp only at g1 g2 g3 g4
    right
    have hx := hm _ (List.getElem_mem ht)
    obtain ⟨y, y1, _⟩ := idx_in (xs := A) hx.1 (by rw [g1]; exact hx.2)
    have hpi : idx b.phi (i : Int) = some row := by rw [idx_nat]; exact hp
    have ht' : t < row.length := by omega
    simp only [ssa_builder_versions.bd36, len_lt, ht, if_true, idx_lt ht, hpi, idx_lt ht', y1, Option.bind_some, w64_i ht (show q.length ≤ 1000 by omega)]
    have h0 := hnn _ (List.getElem_mem ht')
    refine ⟨_, rfl, rfl, by simp [g1], fun r h => (g2 r h).set h0, fun u hu hut => ?_, fun Q hQ hz => (g4 Q hQ hz).set ?_⟩
    · by_cases e : u < t
      · exact (g3 u hu e).set h0
      · obtain rfl : u = t := by omega
        exact Nn.new (by omega) h0
    · rw [Int.toNat_of_nonneg hx.1]
      exact hz _ (mem_zip_at (List.getElem?_eq_getElem ht') (List.getElem?_eq_getElem ht))
  · obtain ⟨A, j⟩ := s
    obtain ⟨rfl, g1, g2, g3, g4⟩ := hI
    exact ⟨A, by simp [ssa_builder_versions.bd36, len], g1, g2, fun x hx => by
      obtain ⟨t, ht, rfl⟩ := List.getElem_of_mem hx
      exact g3 t ht ht, g4⟩
theorem verIns_ok (b : PBuilder) (i : Nat) (B : PBlock) (hB : SmB B) (hR : RegsIn f.regs.length B) (row : List Int) (hp : b.dst[i]? = some row) (hl : Dst B row) (v : List Int) (hv : v.length = f.regs.length) :
    ∃ z, whl (fun (s : (List Int × Int)) => ssa_builder_versions.bd55 b (i : Int) B s.1 s.2) FUEL (v, 0) = some z ∧ z.length = f.regs.length ∧ (∀ r, Nn v r → Nn z r) ∧ (∀ x ∈ B.ins, 0 ≤ x.dst → Nn z x.dst.toNat) ∧ ∀ Q, Snd Q v → (∀ y ∈ dz row B.ins, Q y.1 y.2) → Snd Q z := by
  have hi3 := hB.1
  refine whl_for (body := fun (s : (List Int × Int)) => ssa_builder_versions.bd55 b (i : Int) B s.1 s.2) (s0 := (v, 0)) B.ins.length
    (fun i s => s.2 = (i : Int) ∧ s.1.length = f.regs.length ∧ (∀ r, Nn v r → Nn s.1 r) ∧ (∀ t (ht : t < B.ins.length), t < i → 0 ≤ B.ins[t].dst → Nn s.1 B.ins[t].dst.toNat) ∧ ∀ Q, Snd Q v → (∀ y ∈ dz row B.ins, Q y.1 y.2) → Snd Q s.1) _ (le_max (by omega) (Nat.le_refl 1000)) (fun t s ht hI => ?_) (fun s hI => ?_) ⟨rfl, hv, fun _ h => h, fun t _ h => by omega, fun Q h _ => h⟩
  · obtain ⟨A, j⟩ := s
    obtain ⟨rfl, g1, g2, g3, g4⟩ := hI
    simp only at g1 g2 g3 g4
    right
    have hx := hR.dst _ (List.getElem_mem ht)
    have hpi : idx b.dst (i : Int) = some row := by rw [idx_nat]; exact hp
    have ht' : t < row.length := by rw [hl.len]; exact ht
    by_cases e : B.ins[t].dst ≥ 0
    · obtain ⟨y, y1, _⟩ := idx_in (xs := A) e (by rw [g1]; exact hx)
      simp only [ssa_builder_versions.bd55, len_lt, ht, if_true, idx_lt ht, hpi, idx_lt ht', y1, Option.bind_some, e, ssa_builder_versions.jn66, w64_i ht (show B.ins.length ≤ 1000 by omega)]
      have h0 := hl.nn t ht _ e (List.getElem?_eq_getElem ht')
      refine ⟨_, rfl, rfl, by simp [g1], fun r h => (g2 r h).set h0, fun u hu hut hd => ?_, fun Q hQ hz => (g4 Q hQ hz).set ?_⟩
      · by_cases e : u < t
        · exact (g3 u hu e hd).set h0
        · obtain rfl : u = t := by omega
          exact Nn.new (by omega) h0
      · rw [Int.toNat_of_nonneg e]
        exact hz _ (mem_dz (List.getElem?_eq_getElem ht') (List.getElem?_eq_getElem ht) e)
    · simp only [ssa_builder_versions.bd55, len_lt, ht, if_true, idx_lt ht, Option.bind_some, e, if_false, ssa_builder_versions.jn66, w64_i ht (show B.ins.length ≤ 1000 by omega)]
      refine ⟨_, rfl, rfl, g1, g2, fun u hu hut hd => ?_, g4⟩
      by_cases e2 : u < t
      · exact g3 u hu e2 hd
      · obtain rfl : u = t := by omega
        exact absurd hd e
  · obtain ⟨A, j⟩ := s
    obtain ⟨rfl, g1, g2, g3, g4⟩ := hI
    exact ⟨A, by simp [ssa_builder_versions.bd55, len], g1, g2, fun x hx hd => by
      obtain ⟨t, ht, rfl⟩ := List.getElem_of_mem hx
      exact g3 t ht ht hd, g4⟩
theorem version_ok (hf : SmF f) (hR : ∀ B ∈ f.blocks, RegsIn f.regs.length B) (b : PBuilder) (hb : b.f = f) (hP : Bel f.blocks.length f.regs.length f.regs.length b.phis) (hN : Num f b.phis f.blocks.length b.phi b.dst)
    (S E : List (List Int)) (t : Int) (i : Nat) (hi : i < f.blocks.length) (hS : S.length = f.blocks.length) (hE : E.length = f.blocks.length) (v : List Int) (hv : v.length = f.regs.length) :
    ∃ s e, ssa_builder_versions.jn27 b S E t (i : Int) v = some (.go (S.set i s, E.set i e, w64 (t + 1))) ∧ s.length = f.regs.length ∧ e.length = f.regs.length ∧ (∀ r, Nn v r → Nn s r) ∧ (∀ x, In1 b.phis i x → Nn s x.toNat) ∧ (∀ r, Nn s r → Nn e r) ∧ (∀ x ∈ f.blocks[i].ins, 0 ≤ x.dst → Nn e x.dst.toNat) ∧ (∀ Q, Snd Q v → (∀ y ∈ (b.phi.getD i []).zip (b.phis.getD i []), Q y.1 y.2) → Snd Q s) ∧ ∀ Q, Snd Q s → (∀ y ∈ dz (b.dst.getD i []) f.blocks[i].ins, Q y.1 y.2) → Snd Q e := by
  have hrr := hf.2.1
  obtain ⟨q, q1, q2, q3, q4⟩ := hP.get (b := (i : Int)) (by omega) (by omega)
  obtain ⟨q', row, p1, p2, p3, p4⟩ := hN.pr i hi
  have hq : q' = q := by rw [Int.toNat_natCast] at q2; rw [q2] at p1; exact (Option.some.inj p1).symm
  subst hq
  obtain ⟨dr, d1, d2⟩ := hN.dr i hi hi
  obtain ⟨w, w1, w2, w3, w4, w5⟩ := verPhi_ok hf b i q' row q3 q4 p2 p3 p4 v hv
  obtain ⟨u, u1, u2, u3, u4, u5⟩ := verIns_ok b i f.blocks[i] (hf.2.2.2 _ (List.getElem_mem hi)) (hR _ (List.getElem_mem hi)) dr d1 d2 w w2
  have his : i < S.length := by omega
  have hie : i < E.length := by omega
  refine ⟨w, u, ?_, w2, u2, w3, fun x ⟨r, r1, r2⟩ => by rw [p1] at r1; cases r1; exact w4 x r2, u3, u4, fun Q hQ hz => w5 Q hQ (by simpa [List.getD_eq_getElem?_getD, p1, p2] using hz), fun Q hQ hz => u5 Q hQ (by simpa [List.getD_eq_getElem?_getD, d1] using hz)⟩
  simp only [ssa_builder_versions.jn27, q1, Option.bind_some, w1, ssa_builder_versions.nx36, clone_eq w (by omega), idx_lt his, hb, idx_lt hi, u1, ssa_builder_versions.nx55, idx_lt hie, Int.toNat_natCast]
/-- the table has a version of r at v -/
def NnT (T : List (List Int)) (v r : Nat) : Prop := ∃ row, T[v]? = some row ∧ Nn row r
theorem NnT.of {T : List (List Int)} {v r : Nat} {row : List Int} (h : T[v]? = some row) : NnT T v r → Nn row r := fun ⟨q, h1, h2⟩ => by rw [h] at h1; cases h1; exact h2
theorem NnT.ne {T : List (List Int)} {v w r : Nat} {row : List Int} (h : w ≠ v) : NnT (T.set w row) v r ↔ NnT T v r := by
  unfold NnT; rw [List.getElem?_set_ne h]
/-- Where a new register is made. -/
def Lc (f : PFunc) (b : PBuilder) (c : Nat) (x r : Int) : Prop := (x, r) ∈ (b.phi.getD c []).zip (b.phis.getD c []) ∨ (x, r) ∈ dz (b.dst.getD c []) (f.blocks.getD c PBlock.zero).ins ∨ (c = 0 ∧ (x, r) ∈ b.zero_.zip b.zeros)
/-- What a version at a block's beginning is, at position j; and at its end. -/
def Qs (f : PFunc) (R : List Int) (N : Nat → Nat) (b : PBuilder) (j : Nat) (x r : Int) : Prop := Par f x r ∨ (∃ k, k < j ∧ Anc N k j ∧ Lc f b (ob R k) x r) ∨ (x, r) ∈ (b.phi.getD (ob R j) []).zip (b.phis.getD (ob R j) []) ∨ (j = 0 ∧ (x, r) ∈ b.zero_.zip b.zeros)
def Qe (f : PFunc) (R : List Int) (N : Nat → Nat) (b : PBuilder) (j : Nat) (x r : Int) : Prop := Par f x r ∨ ∃ k, k ≤ j ∧ Anc N k j ∧ Lc f b (ob R k) x r
/-- where versions are, as far as position i -/
structure Ver (f : PFunc) (R : List Int) (N : Nat → Nat) (P : List (List Int)) (Z : List Int) (i : Nat) (S E : List (List Int)) : Prop where
  up : ∀ j, 0 < j → j < i → ∀ r, NnT E (ob R (N j)) r → NnT S (ob R j) r
  phi : ∀ j, j < i → ∀ x, In1 P (ob R j) x → NnT S (ob R j) x.toNat
  down : ∀ j, j < i → ∀ r, NnT S (ob R j) r → NnT E (ob R j) r
  defs : ∀ j, j < i → ∀ (hj : ob R j < f.blocks.length), ∀ x ∈ f.blocks[ob R j].ins, 0 ≤ x.dst → NnT E (ob R j) x.dst.toNat
  first : 0 < i → ∀ r, r < f.regs.length → ((r : Int) < f.params ∨ (r : Int) ∈ Z) → NnT S 0 r
/-- what versions are, as far as position i -/
structure VerQ (f : PFunc) (R : List Int) (N : Nat → Nat) (b : PBuilder) (i : Nat) (S E : List (List Int)) : Prop where
  qs : ∀ j, j < i → ∀ row, S[ob R j]? = some row → Snd (Qs f R N b j) row
  qe : ∀ j, j < i → ∀ row, E[ob R j]? = some row → Snd (Qe f R N b j) row
theorem versions_ok (h : Full f R) {N : Nat → Nat} {L : List Int} (hNr : Near f R N L) (hR : ∀ B ∈ f.blocks, RegsIn f.regs.length B) (b : PBuilder) (hb : b.f = f) (hL : b.nearest = L) (hP : Bel f.blocks.length f.regs.length f.regs.length b.phis) (hN : Num f b.phis f.blocks.length b.phi b.dst)
    (hz : Zs f.regs.length f.regs.length b.zeros) (hl : b.zero_.length = b.zeros.length) (hnn : ∀ x ∈ b.zero_, 0 ≤ x) :
    ∃ S E, ssa_builder_versions b = some (S, E) ∧ Rw f.blocks.length f.regs.length (fun _ => True) S ∧ Rw f.blocks.length f.regs.length (fun _ => True) E ∧ Ver f R N b.phis b.zeros f.blocks.length S E ∧ VerQ f R N b f.blocks.length S E := by
  have hf := h.sm
  have hn := hf.1
  have hrr := hf.2.1
  have hpos := h.pos
  unfold ssa_builder_versions ssa_builder_versions.jn4
  have hmk : mkl (len b.f.blocks) ([] : List Int) = some (List.replicate f.blocks.length []) := by rw [hb]; exact mkl3 [] (by omega)
  rw [hmk, hb, h.ord]
  simp only [Option.bind_some]
  obtain ⟨z, hz, hz1, hz2, hz3, hz4⟩ := whl_for (body := fun (s : (List (List Int) × List (List Int) × Int)) => ssa_builder_versions.bd14 b R s.1 s.2.1 s.2.2) (s0 := (List.replicate f.blocks.length [], List.replicate f.blocks.length [], 0)) f.blocks.length
    (fun i s => s.2.2 = (i : Int) ∧ Rw f.blocks.length f.regs.length (fun v => pb R v < i) s.1 ∧ Rw f.blocks.length f.regs.length (fun v => pb R v < i) s.2.1 ∧ Ver f R N b.phis b.zeros i s.1 s.2.1 ∧ VerQ f R N b i s.1 s.2.1) (fun z => Rw f.blocks.length f.regs.length (fun _ => True) z.1 ∧ Rw f.blocks.length f.regs.length (fun _ => True) z.2 ∧ Ver f R N b.phis b.zeros f.blocks.length z.1 z.2 ∧ VerQ f R N b f.blocks.length z.1 z.2) (le_max hn (by omega)) (fun i s hi hI => by
      obtain ⟨S, E, j⟩ := s
      obtain ⟨rfl, g1, g2, g3, g4⟩ := hI
      simp only at g1 g2 g3 g4
      right
      obtain ⟨o1, o2⟩ := h.get hi
      have hix : idx R (i : Int) = some ((ob R i : Nat) : Int) := by rw [idx_nat]; exact o1
      have hlt : (i : Int) < len R := by simp only [len, h.len]; omega
      have key : ∃ v, v.length = f.regs.length ∧ (0 < i → E[ob R (N i)]? = some v) ∧ (i = 0 → ∀ r, r < f.regs.length → ((r : Int) < f.params ∨ (r : Int) ∈ b.zeros) → Nn v r) ∧ Snd (fun x r => Par f x r ∨ (∃ k, k < i ∧ Anc N k i ∧ Lc f b (ob R k) x r) ∨ (i = 0 ∧ (x, r) ∈ b.zero_.zip b.zeros)) v ∧ ssa_builder_versions.bd14 b R S E (i : Int) = ssa_builder_versions.jn27 b S E (i : Int) ((ob R i : Nat) : Int) v := by
        simp only [ssa_builder_versions.bd14, hlt, if_true, hix, Option.bind_some]
        by_cases e : ((ob R i : Nat) : Int) = 0
        · obtain ⟨v, v1, v2, v3, v4⟩ := first_ok hf (⟨(⟨b.f.params, b.f.result, b.f.regs, b.f.blocks⟩ : PFunc), b.in_, b.front, b.nearest, b.phis, b.zeros, b.regs, b.phi, b.zero_, b.dst, S, E⟩ : PBuilder) (by rw [hb]) hz hl hnn
          have hi0 : i = 0 := by
            have : ob R i = ob R 0 := by rw [h.ob0]; omega
            exact h.ob_inj hi hpos this
          exact ⟨v, v2, fun h => by omega, fun _ => v3, v4.mono fun x r hh => hh.imp id fun hz => .inr ⟨hi0, hz⟩, by rw [if_pos e, v1]; rfl⟩
        · have h0 : 0 < i := by
            rcases Nat.eq_zero_or_pos i with rfl | h0
            · rw [h.ob0] at e; exact absurd rfl e
            · exact h0
          have hni : N i < i := hNr.nr.dn i (by omega) hi
          have hge := hNr.get i h0 hi
          have hnx : idx b.nearest ((ob R i : Nat) : Int) = some ((ob R (N i) : Nat) : Int) := by rw [hL, idx_nat]; exact hge
          have hol := (h.get (i := N i) (by omega)).2
          obtain ⟨v, v1, v3, v2⟩ := g2.get (b := ((ob R (N i) : Nat) : Int)) (by omega) (by omega) (by rw [Int.toNat_natCast, h.pb_ob (by omega)]; exact hni)
          exact ⟨v, v2, fun _ => by rw [Int.toNat_natCast] at v3; exact v3, fun h => by omega, (g4.qe (N i) hni v (by rw [Int.toNat_natCast] at v3; exact v3)).mono fun x r hh => hh.imp id fun ⟨k, k1, k2, k3⟩ => .inl ⟨k, by omega, .step (by omega) k2, k3⟩, by rw [if_neg e, hnx]; simp only [Option.bind_some, v1, clone_eq v (by omega)]⟩
      obtain ⟨v, v1, vE, vF, vQ, v2⟩ := key
      obtain ⟨s, e, j1, j2, j3, j4, j5, j6, j7, j8, j9⟩ := version_ok hf hR b hb hP hN S E (i : Int) (ob R i) o2 g1.len g2.len v v1
      refine ⟨_, v2.trans j1, w64_i hi (by omega), g1.set _ o2 j2 (fun w hw => ?_), g2.set _ o2 j3 (fun w hw => ?_), ?_⟩
      rotate_left 2
      · have hne : ∀ j, j < i → ob R i ≠ ob R j := fun j hj e => by have := h.ob_inj hi (by omega) e; omega
        have hSs : (S.set (ob R i) s)[ob R i]? = some s := List.getElem?_set_self (by rw [g1.len]; exact o2)
        have hEs : (E.set (ob R i) e)[ob R i]? = some e := List.getElem?_set_self (by rw [g2.len]; exact o2)
        have hgd : f.blocks.getD (ob R i) PBlock.zero = f.blocks[ob R i] := by rw [List.getD_eq_getElem?_getD, List.getElem?_eq_getElem o2]; rfl
        have hQs : Snd (Qs f R N b i) s := j8 _ (vQ.mono fun x r hh => by
          rcases hh with hh | hh | hh
          · exact .inl hh
          · exact .inr (.inl hh)
          · exact .inr (.inr (.inr hh))) fun y hy => .inr (.inr (.inl hy))
        have hQe : Snd (Qe f R N b i) e := j9 _ (hQs.mono fun x r hh => by
          rcases hh with hh | ⟨k, k1, k2, k3⟩ | hh | ⟨h0, hh⟩
          · exact .inl hh
          · exact .inr ⟨k, by omega, k2, k3⟩
          · exact .inr ⟨i, Nat.le_refl _, .refl, .inl hh⟩
          · exact .inr ⟨i, Nat.le_refl _, .refl, .inr (.inr ⟨by rw [h0, h.ob0], hh⟩)⟩) fun y hy => .inr ⟨i, Nat.le_refl _, .refl, .inr (.inl (by rw [hgd]; exact hy))⟩
        refine ⟨⟨fun j h0 hj r ht => ?_, fun j hj x hx => ?_, fun j hj r ht => ?_, fun j hj hjn x hx hd => ?_, fun _ r hr hz => ?_⟩, ⟨fun j hj row hrow => ?_, fun j hj row hrow => ?_⟩⟩
        rotate_left 5
        · by_cases e3 : j < i
          · rw [List.getElem?_set_ne (hne j e3)] at hrow
            exact g4.qs j e3 row hrow
          · obtain rfl : j = i := by omega
            rw [hSs] at hrow; cases hrow; exact hQs
        · by_cases e3 : j < i
          · rw [List.getElem?_set_ne (hne j e3)] at hrow
            exact g4.qe j e3 row hrow
          · obtain rfl : j = i := by omega
            rw [hEs] at hrow; cases hrow; exact hQe
        · by_cases e3 : j < i
          · have hNj : N j < j := hNr.nr.dn j (by omega) (by omega)
            rw [NnT.ne (hne (N j) (by omega))] at ht
            exact (NnT.ne (hne j e3)).2 (g3.up j h0 e3 r ht)
          · obtain rfl : j = i := by omega
            have hNj : N j < j := hNr.nr.dn j (by omega) (by omega)
            rw [NnT.ne (hne (N j) hNj)] at ht
            exact ⟨s, hSs, j4 r (ht.of (vE h0))⟩
        · by_cases e3 : j < i
          · exact (NnT.ne (hne j e3)).2 (g3.phi j e3 x hx)
          · obtain rfl : j = i := by omega
            exact ⟨s, hSs, j5 x hx⟩
        · by_cases e3 : j < i
          · exact (NnT.ne (hne j e3)).2 (g3.down j e3 r ((NnT.ne (hne j e3)).1 ht))
          · obtain rfl : j = i := by omega
            exact ⟨e, hEs, j6 r (ht.of hSs)⟩
        · by_cases e3 : j < i
          · exact (NnT.ne (hne j e3)).2 (g3.defs j e3 hjn x hx hd)
          · obtain rfl : j = i := by omega
            exact ⟨e, hEs, j7 x hx hd⟩
        · rcases Nat.eq_zero_or_pos i with rfl | h0
          · rw [h.ob0] at hSs ⊢
            exact ⟨s, hSs, j4 r (vF rfl r hr hz)⟩
          · have := hne 0 h0
            rw [h.ob0] at this
            exact (NnT.ne this).2 (g3.first h0 r hr hz)
      all_goals
        by_cases e : pb R w < i
        · exact .inl e
        · right
          have : pb R w = i := by omega
          by_cases hwn : w < f.blocks.length
          · rw [← (h.ob_pb hwn).1, this]
          · exact absurd hw (by
              have : pb R w = R.length := by
                unfold pb
                exact List.idxOf_eq_length (fun hm => by
                  obtain ⟨k, hk, hk2⟩ := List.getElem_of_mem hm
                  obtain ⟨x, x1, x2⟩ := h.all k hk
                  rw [x1] at hk2; omega)
              rw [this, h.len]; omega)) (fun s hI => by
      obtain ⟨S, E, j⟩ := s
      obtain ⟨rfl, g1, g2, g3, g4⟩ := hI
      exact ⟨(S, E), by simp [ssa_builder_versions.bd14, len, h.len], ⟨g1.len, fun v hv _ => g1.row v hv (h.ob_pb hv).2⟩, ⟨g2.len, fun v hv _ => g2.row v hv (h.ob_pb hv).2⟩, g3, g4⟩) ⟨rfl, ⟨by simp, fun v _ hv => by omega⟩, ⟨by simp, fun v _ hv => by omega⟩, ⟨fun j _ h => by omega, fun j h => by omega, fun j h => by omega, fun j h => by omega, fun h => by omega⟩, ⟨fun j h => by omega, fun j h => by omega⟩⟩
  rw [hz]
  exact ⟨_, _, rfl, hz1, hz2, hz3, hz4⟩
end Go.Proofs.Yteaknconpkklhaa
set_option linter.unusedVariables false
set_option linter.unusedSimpArgs false
namespace Go.Proofs.Yteaknconpkklhaa
open Go Go.Proofs
variable {f : PFunc} {R : List Int}
/-- what a builder holds when blocks are built -/
structure Bl (f : PFunc) (b : PBuilder) : Prop where
  func : b.f = f
  phis : Bel f.blocks.length f.regs.length f.regs.length b.phis
  num : Num f b.phis f.blocks.length b.phi b.dst
  zero : b.zero_.length ≤ f.regs.length
  begin : Rw f.blocks.length f.regs.length (fun _ => True) b.begin
  end_ : Rw f.blocks.length f.regs.length (fun _ => True) b.end_
/-- What versions are ahead of the t-th instruction of block i. -/
structure Vat (b : PBuilder) (i : Nat) (B : PBlock) (t : Nat) (V : List Int) : Prop where
  snd : ∀ Q, Snd Q (b.begin.getD i []) → (∀ u : Nat, u < t → ∀ (o : PInstr) (d : Int), B.ins[u]? = some o → 0 ≤ o.dst → (b.dst.getD i [])[u]? = some d → Q d o.dst) → Snd Q V
  nn : ∀ r : Nat, (Nn (b.begin.getD i []) r ∨ ∃ u : Nat, u < t ∧ ∃ o : PInstr, B.ins[u]? = some o ∧ o.dst = (r : Int)) → Nn V r
/-- A new instruction of an old one. -/
structure InsN (o : PInstr) (V : List Int) (d : Int) (s : PInstr) : Prop where
  op : s.op = o.op
  dst : s.dst = d
  imm : s.imm = o.imm
  fn : s.fn = o.fn
  len : s.args.length = o.args.length
  args : ∀ (k : Nat) (a : Int), o.args[k]? = some a → ∃ x, V[a.toNat]? = some x ∧ s.args[k]? = some x
/-- A phi's arguments, of old register r. -/
def PhiN (b : PBuilder) (ah : List Int) (r : Int) (l : List Int) : Prop := l.length = ah.length ∧ ∀ (k : Nat) (c : Int), ah[k]? = some c → ∃ ro x, b.end_[c.toNat]? = some ro ∧ ro[r.toNat]? = some x ∧ l[k]? = some x
theorem phiArgs_ok (hf : SmF f) (b : PBuilder) (hb : Bl f b) (ah : List Int) (ha : ah.length ≤ 70) (hm : ∀ x ∈ ah, 0 ≤ x ∧ x < (f.blocks.length : Int)) (r : Int) (h0 : 0 ≤ r) (h1 : r < (f.regs.length : Int)) :
    ∃ z, whl (fun (s : (List Int × Int)) => ssa_builder_block.bd144 b ah r s.1 s.2) FUEL ([], 0) = some z ∧ PhiN b ah r z := by
  refine whl_for (body := fun (s : (List Int × Int)) => ssa_builder_block.bd144 b ah r s.1 s.2) (s0 := ([], 0)) ah.length
    (fun i s => s.2 = (i : Int) ∧ s.1.length = i ∧ ∀ (k : Nat) (c : Int), k < i → ah[k]? = some c → ∃ ro x, b.end_[c.toNat]? = some ro ∧ ro[r.toNat]? = some x ∧ s.1[k]? = some x) _ (le_max (by omega) (Nat.le_refl 1000)) (fun t s ht hI => ?_) (fun s hI => ?_) ⟨rfl, rfl, fun k c hk => by omega⟩
  · obtain ⟨A, j⟩ := s
    obtain ⟨rfl, g1, g2⟩ := hI
    simp only at g1 g2
    right
    have hx := hm _ (List.getElem_mem ht)
    obtain ⟨row, r1, r3, r2⟩ := hb.end_.get hx.1 hx.2 trivial
    obtain ⟨y, y1, y2⟩ := idx_in (xs := row) h0 (by rw [r2]; exact h1)
    simp only [ssa_builder_block.bd144, len_lt, ht, if_true, idx_lt ht, r1, y1, Option.bind_some, cat_one (show A.length ≤ 1000 by omega), ssa_builder_block.jn155, w64_i ht (show ah.length ≤ 1000 by omega)]
    refine ⟨_, rfl, rfl, by simp [g1], fun k c hk hc => ?_⟩
    simp only
    by_cases e : k < t
    · obtain ⟨ro, x, a1, a2, a3⟩ := g2 k c e hc
      exact ⟨ro, x, a1, a2, by rw [List.getElem?_append_left (by omega)]; exact a3⟩
    · obtain rfl : k = t := by omega
      rw [List.getElem?_eq_getElem ht] at hc
      cases hc
      exact ⟨row, y, r3, y2, by rw [List.getElem?_append_right (by omega), g1]; simp⟩
  · obtain ⟨A, j⟩ := s
    obtain ⟨rfl, g1, g2⟩ := hI
    exact ⟨A, by simp [ssa_builder_block.bd144, len], g1, fun k c hc => g2 k c (List.getElem?_eq_some_iff.1 hc).1 hc⟩
theorem blockPhis_ok (hf : SmF f) (b : PBuilder) (hb : Bl f b) (i : Nat) (hi : i < f.blocks.length) (ah : List Int) (ha : ah.length ≤ 70) (hm : ∀ x ∈ ah, 0 ≤ x ∧ x < (f.blocks.length : Int)) (q row : List Int) (hq : q.length ≤ f.regs.length) (hqm : ∀ x ∈ q, 0 ≤ x ∧ x < (f.regs.length : Int)) (hp : b.phi[i]? = some row) (hl : row.length = q.length) :
    ∃ z, whl (fun (s : (List PPhi × Int)) => ssa_builder_block.bd9 b (i : Int) ah q s.1 s.2) FUEL ([], 0) = some z ∧ z.length = q.length ∧ ∀ (t : Nat) (p : PPhi), z[t]? = some p → ∃ r, q[t]? = some r ∧ row[t]? = some p.dst ∧ PhiN b ah r p.args := by
  have hrr := hf.2.1
  refine whl_for (body := fun (s : (List PPhi × Int)) => ssa_builder_block.bd9 b (i : Int) ah q s.1 s.2) (s0 := ([], 0)) q.length
    (fun i s => s.2 = (i : Int) ∧ s.1.length = i ∧ ∀ (t : Nat) (p : PPhi), s.1[t]? = some p → ∃ r, q[t]? = some r ∧ row[t]? = some p.dst ∧ PhiN b ah r p.args) _ (le_max (by omega) (Nat.le_refl 1000)) (fun t s ht hI => ?_) (fun s hI => ?_) ⟨rfl, rfl, by simp⟩
  · obtain ⟨A, j⟩ := s
    obtain ⟨rfl, g1, g2⟩ := hI
    simp only at g1 g2
    right
    have hx := hqm _ (List.getElem_mem ht)
    obtain ⟨z, z1, z2⟩ := phiArgs_ok hf b hb ah ha hm q[t] hx.1 hx.2
    have hpi : idx b.phi (i : Int) = some row := by rw [idx_nat]; exact hp
    have ht' : t < row.length := by omega
    simp only [ssa_builder_block.bd9, len_lt, ht, if_true, idx_lt ht, hpi, idx_lt ht', z1, Option.bind_some, ssa_builder_block.nx144, cat_one (show A.length ≤ 1000 by omega), w64_i ht (show q.length ≤ 1000 by omega)]
    refine ⟨_, rfl, rfl, by simp [g1], fun u p hp => ?_⟩
    simp only at hp
    rcases Nat.lt_trichotomy u A.length with h | h | h
    · rw [List.getElem?_append_left h] at hp; exact g2 u p hp
    · subst h
      rw [List.getElem?_append_right (Nat.le_refl _)] at hp
      simp only [Nat.sub_self, List.getElem?_cons_zero, Option.some.injEq] at hp
      subst hp
      exact ⟨q[t], by rw [g1]; exact List.getElem?_eq_getElem ht, by rw [g1]; exact List.getElem?_eq_getElem ht', z2⟩
    · rw [List.getElem?_eq_none (by simp; omega)] at hp; cases hp
  · obtain ⟨A, j⟩ := s
    obtain ⟨rfl, g1, g2⟩ := hI
    simp only at g1 g2
    exact ⟨A, by simp [ssa_builder_block.bd9, len], g1, g2⟩
def zI (z : List Int) : List PInstr := z.map fun d => (⟨1, d, [], 0, 0⟩ : PInstr)
theorem blockZero_ok (b : PBuilder) (hl : b.zero_.length ≤ 300) : whl (fun (s : (List PInstr × Int)) => ssa_builder_block.bd114 b s.1 s.2) FUEL ([], 0) = some (zI b.zero_) :=
  whl_map b.zero_ (fun d => (⟨1, d, [], 0, 0⟩ : PInstr)) (body := fun (s : (List PInstr × Int)) => ssa_builder_block.bd114 b s.1 s.2) (le_max hl (by omega)) (fun t ht => by
    simp only [ssa_builder_block.bd114, len_lt, ht, if_true, idx_lt ht, Option.bind_some, cat_one (show ((b.zero_.take t).map fun d => (⟨1, d, [], 0, 0⟩ : PInstr)).length ≤ 1000 by simp; omega), w64_i ht (show b.zero_.length ≤ 1000 by omega)]) (by simp [ssa_builder_block.bd114, len, zI])
theorem instrArgs_ok {k : Nat} (x : PInstr) (hx : x.args.length ≤ 300) (v : List Int) (hv : v.length = k) (hm : ∀ a ∈ x.args, 0 ≤ a ∧ a < (k : Int)) :
    ∃ z, whl (fun (s : (List Int × Int)) => ssa_builder_block.bd66 v x s.1 s.2) FUEL ([], 0) = some z ∧ z.length = x.args.length ∧ ∀ (k : Nat) (a : Int), x.args[k]? = some a → ∃ y, v[a.toNat]? = some y ∧ z[k]? = some y := by
  refine whl_for (body := fun (s : (List Int × Int)) => ssa_builder_block.bd66 v x s.1 s.2) (s0 := ([], 0)) x.args.length
    (fun i s => s.2 = (i : Int) ∧ s.1.length = i ∧ ∀ (k : Nat) (a : Int), k < i → x.args[k]? = some a → ∃ y, v[a.toNat]? = some y ∧ s.1[k]? = some y) _ (le_max hx (by omega)) (fun t s ht hI => ?_) (fun s hI => ?_) ⟨rfl, rfl, fun k a hk => by omega⟩
  · obtain ⟨A, j⟩ := s
    obtain ⟨rfl, g1, g2⟩ := hI
    simp only at g1 g2
    right
    have hx := hm _ (List.getElem_mem ht)
    obtain ⟨y, y1, y2⟩ := idx_in (xs := v) hx.1 (by rw [hv]; exact hx.2)
    simp only [ssa_builder_block.bd66, len_lt, ht, if_true, idx_lt ht, y1, Option.bind_some, cat_one (show A.length ≤ 1000 by omega), ssa_builder_block.jn83, w64_i ht (show x.args.length ≤ 1000 by omega)]
    refine ⟨_, rfl, rfl, by simp [g1], fun k a hk hc => ?_⟩
    simp only
    by_cases e : k < t
    · obtain ⟨x, a1, a2⟩ := g2 k a e hc
      exact ⟨x, a1, by rw [List.getElem?_append_left (by omega)]; exact a2⟩
    · obtain rfl : k = t := by omega
      rw [List.getElem?_eq_getElem ht] at hc
      cases hc
      exact ⟨y, y2, by rw [List.getElem?_append_right (by omega), g1]; simp⟩
  · obtain ⟨A, j⟩ := s
    obtain ⟨rfl, g1, g2⟩ := hI
    exact ⟨A, by simp [ssa_builder_block.bd66, len], g1, fun k a ha => g2 k a (List.getElem?_eq_some_iff.1 ha).1 ha⟩
theorem Vat.zero (b : PBuilder) (i : Nat) (B : PBlock) : Vat b i B 0 (b.begin.getD i []) := ⟨fun Q h _ => h, fun r h => h.elim id fun ⟨u, hu, _⟩ => by omega⟩
theorem Vat.put {b : PBuilder} {i : Nat} {B : PBlock} {t : Nat} {V : List Int} (h : Vat b i B t V) {o : PInstr} {d : Int} (ho : B.ins[t]? = some o) (hd : (b.dst.getD i [])[t]? = some d) (h0 : 0 ≤ o.dst) (hd0 : 0 ≤ d) (hl : o.dst.toNat < V.length) : Vat b i B (t + 1) (V.set o.dst.toNat d) := by
  refine ⟨fun Q hQ hz => (h.snd Q hQ fun u hu => hz u (by omega)).set (by rw [Int.toNat_of_nonneg h0]; exact hz t (by omega) o d ho h0 hd), fun r hr => ?_⟩
  rcases hr with hr | ⟨u, hu, o', ho', he⟩
  · exact (h.nn r (.inl hr)).set hd0
  · by_cases e : u < t
    · exact (h.nn r (.inr ⟨u, e, o', ho', he⟩)).set hd0
    · obtain rfl : u = t := by omega
      rw [ho] at ho'
      cases ho'
      have : o.dst.toNat = r := by omega
      subst this
      exact Nn.new hl hd0
theorem Vat.skip {b : PBuilder} {i : Nat} {B : PBlock} {t : Nat} {V : List Int} (h : Vat b i B t V) {o : PInstr} (ho : B.ins[t]? = some o) (h0 : o.dst < 0) : Vat b i B (t + 1) V := by
  refine ⟨fun Q hQ hz => h.snd Q hQ fun u hu => hz u (by omega), fun r hr => ?_⟩
  rcases hr with hr | ⟨u, hu, o', ho', he⟩
  · exact h.nn r (.inl hr)
  · by_cases e : u < t
    · exact h.nn r (.inr ⟨u, e, o', ho', he⟩)
    · obtain rfl : u = t := by omega
      rw [ho] at ho'
      cases ho'
      omega
/-- The new instructions, behind those of the zeros. -/
structure NewI (f : PFunc) (b : PBuilder) (i : Nat) (B : PBlock) (P : List PInstr) (n : Nat) (A : List PInstr) : Prop where
  len : A.length = P.length + n
  pre : ∀ u, u < P.length → A[u]? = P[u]?
  new : ∀ u, u < n → ∃ o d V s, B.ins[u]? = some o ∧ (b.dst.getD i [])[u]? = some d ∧ Vat b i B u V ∧ V.length = f.regs.length ∧ A[P.length + u]? = some s ∧ InsN o V d s
theorem blockIns_ok (hf : SmF f) (b : PBuilder) (hb : Bl f b) (i : Nat) (B : PBlock) (hB : SmB B) (hR : RegsIn f.regs.length B) (dr : List Int) (hd : b.dst[i]? = some dr) (hD : Dst B dr) (P : List PInstr) (hP : P.length ≤ 300) (hv : (b.begin.getD i []).length = f.regs.length) :
    ∃ z, whl (fun (s : (List PInstr × List Int × Int)) => ssa_builder_block.bd26 b (i : Int) B s.1 s.2.1 s.2.2) FUEL (P, b.begin.getD i [], 0) = some z ∧ z.2.length = f.regs.length ∧ Vat b i B B.ins.length z.2 ∧ NewI f b i B P B.ins.length z.1 := by
  have hi3 := hB.1
  have hdg : b.dst.getD i [] = dr := by rw [List.getD_eq_getElem?_getD, hd]; rfl
  refine whl_for (body := fun (s : (List PInstr × List Int × Int)) => ssa_builder_block.bd26 b (i : Int) B s.1 s.2.1 s.2.2) (s0 := (P, b.begin.getD i [], 0)) B.ins.length
    (fun t s => s.2.2 = (t : Int) ∧ s.2.1.length = f.regs.length ∧ Vat b i B t s.2.1 ∧ NewI f b i B P t s.1) _ (le_max hi3 (by omega)) (fun t s ht hI => ?_) (fun s hI => ?_) ⟨rfl, hv, Vat.zero b i B, ⟨by simp, fun u hu => rfl, fun u hu => by omega⟩⟩
  · obtain ⟨A, V, j⟩ := s
    obtain ⟨rfl, g1, g2, g3⟩ := hI
    simp only at g1 g2 g3
    right
    have hx := hR.dst _ (List.getElem_mem ht)
    have hxl := hB.2.2.2.1 _ (List.getElem_mem ht)
    obtain ⟨z, z1, z2, z3⟩ := instrArgs_ok B.ins[t] hxl V g1 (hR.args _ (List.getElem_mem ht))
    have hdi : idx b.dst (i : Int) = some dr := by rw [idx_nat]; exact hd
    have ht' : t < dr.length := by rw [hD.len]; exact ht
    have hAl := g3.len
    have hot := List.getElem?_eq_getElem ht
    have hdt : (b.dst.getD i [])[t]? = some dr[t] := by rw [hdg]; exact List.getElem?_eq_getElem ht'
    have hnew : NewI f b i B P (t + 1) (A ++ [(⟨B.ins[t].op, dr[t], z, B.ins[t].imm, B.ins[t].fn⟩ : PInstr)]) := by
      refine ⟨by simp only [List.length_append, List.length_singleton]; omega, fun u hu => by rw [List.getElem?_append_left (by omega)]; exact g3.pre u hu, fun u hu => ?_⟩
      by_cases e : u < t
      · obtain ⟨o, d, V', s, a1, a2, a3, a4, a5, a6⟩ := g3.new u e
        exact ⟨o, d, V', s, a1, a2, a3, a4, by rw [List.getElem?_append_left (by omega)]; exact a5, a6⟩
      · obtain rfl : u = t := by omega
        exact ⟨B.ins[u], dr[u], V, (⟨B.ins[u].op, dr[u], z, B.ins[u].imm, B.ins[u].fn⟩ : PInstr), hot, hdt, g2, g1, by rw [List.getElem?_append_right (by omega), hAl]; simp, ⟨rfl, rfl, rfl, rfl, z2, z3⟩⟩
    by_cases e : B.ins[t].dst ≥ 0
    · obtain ⟨y, y1, _⟩ := idx_in (xs := V) e (by rw [g1]; exact hx)
      simp only [ssa_builder_block.bd26, len_lt, ht, if_true, idx_lt ht, hdi, idx_lt ht', z1, y1, Option.bind_some, ssa_builder_block.nx66, e, ssa_builder_block.jn71, cat_one (show A.length ≤ 1000 by omega), w64_i ht (show B.ins.length ≤ 1000 by omega)]
      have h0 := hD.nn t ht _ e (List.getElem?_eq_getElem ht')
      exact ⟨_, rfl, rfl, by simp [g1], g2.put hot hdt e h0 (by omega), hnew⟩
    · simp only [ssa_builder_block.bd26, len_lt, ht, if_true, idx_lt ht, hdi, idx_lt ht', z1, Option.bind_some, ssa_builder_block.nx66, e, if_false, ssa_builder_block.jn71, cat_one (show A.length ≤ 1000 by omega), w64_i ht (show B.ins.length ≤ 1000 by omega)]
      exact ⟨_, rfl, rfl, g1, g2.skip hot (by omega), hnew⟩
  · obtain ⟨A, V, j⟩ := s
    obtain ⟨rfl, g1, g2, g3⟩ := hI
    simp only at g1 g2 g3
    exact ⟨(A, V), by simp [ssa_builder_block.bd26, len], g1, g2, g3⟩
/-- what a new block is -/
structure Nx (f : PFunc) (b : PBuilder) (i : Nat) (B : PBlock) (ah : List Int) (C : PBlock) : Prop where
  plen : C.phis.length = (b.phis.getD i []).length
  phis : ∀ (t : Nat) (p : PPhi), C.phis[t]? = some p → ∃ r, (b.phis.getD i [])[t]? = some r ∧ (b.phi.getD i [])[t]? = some p.dst ∧ PhiN b ah r p.args
  ins : NewI f b i B (if i = 0 then zI b.zero_ else []) B.ins.length C.ins
  kind : C.term.kind = B.term.kind
  to : C.term.to = B.term.to
  noarg : B.term.arg < 0 → C.term.arg = B.term.arg
  arg : 0 ≤ B.term.arg → ∃ V x, Vat b i B B.ins.length V ∧ V[B.term.arg.toNat]? = some x ∧ C.term.arg = x
theorem block_rest (hf : SmF f) (hR : ∀ B ∈ f.blocks, RegsIn f.regs.length B) (b : PBuilder) (hb : Bl f b) (i : Nat) (hi : i < f.blocks.length) (ah : List Int) (ph : List PPhi) (h1 : ph.length = (b.phis.getD i []).length) (h2 : ∀ (t : Nat) (p : PPhi), ph[t]? = some p → ∃ r, (b.phis.getD i [])[t]? = some r ∧ (b.phi.getD i [])[t]? = some p.dst ∧ PhiN b ah r p.args) (P : List PInstr) (hP : P.length ≤ 300) (hPe : P = if i = 0 then zI b.zero_ else []) :
    ∃ C, ssa_builder_block.jn14 b (i : Int) ph P = some C ∧ Nx f b i f.blocks[i] ah C := by
  have hrr := hf.2.1
  have hB := hf.2.2.2 _ (List.getElem_mem hi)
  have hRB := hR _ (List.getElem_mem hi)
  obtain ⟨dr, d1, d2⟩ := hb.num.dr i hi hi
  obtain ⟨v, v1, v3, v2⟩ := hb.begin.get (b := (i : Int)) (by omega) (by omega) trivial
  rw [Int.toNat_natCast] at v3
  have hvg : b.begin.getD i [] = v := by rw [List.getD_eq_getElem?_getD, v3]; rfl
  obtain ⟨z, z1, z2, z3, z4⟩ := blockIns_ok hf b hb i f.blocks[i] hB hRB dr d1 d2 P hP (by rw [hvg]; exact v2)
  rw [hvg] at z1
  have hto := hB.2.2.1
  simp only [ssa_builder_block.jn14, v1, Option.bind_some, clone_eq v (by omega), hb.func, idx_lt hi, z1, ssa_builder_block.nx26, clone_eq f.blocks[i].term.to (by omega)]
  by_cases e : f.blocks[i].term.arg ≥ 0
  · obtain ⟨y, y1, y2⟩ := idx_in (xs := z.2) e (by rw [z2]; exact hRB.arg)
    rw [if_pos e, y1]
    exact ⟨_, rfl, h1, h2, hPe ▸ z4, rfl, rfl, fun h => by omega, fun _ => ⟨z.2, y, z3, y2, rfl⟩⟩
  · rw [if_neg e]
    exact ⟨_, rfl, h1, h2, hPe ▸ z4, rfl, rfl, fun _ => rfl, fun h => absurd h e⟩
theorem block_ok (hf : SmF f) (hR : ∀ B ∈ f.blocks, RegsIn f.regs.length B) (b : PBuilder) (hb : Bl f b) (i : Nat) (hi : i < f.blocks.length) (ah : List Int) (ha : ah.length ≤ 70) (hm : ∀ x ∈ ah, 0 ≤ x ∧ x < (f.blocks.length : Int)) :
    ∃ C, ssa_builder_block b (i : Int) ah = some C ∧ Nx f b i f.blocks[i] ah C := by
  have hrr := hf.2.1
  obtain ⟨q, q1, q2, q3, q4⟩ := hb.phis.get (b := (i : Int)) (by omega) (by omega)
  rw [Int.toNat_natCast] at q2
  obtain ⟨q', row, p1, p2, p3, _⟩ := hb.num.pr i hi
  have hq : q' = q := by rw [q2] at p1; exact (Option.some.inj p1).symm
  subst hq
  have hqg : b.phis.getD i [] = q' := by rw [List.getD_eq_getElem?_getD, q2]; rfl
  have hrg : b.phi.getD i [] = row := by rw [List.getD_eq_getElem?_getD, p2]; rfl
  obtain ⟨z, z1, z2, z3⟩ := blockPhis_ok hf b hb i hi ah ha hm q' row q3 q4 p2 p3
  have hzl := hb.zero
  have y1 := blockZero_ok b (by omega)
  simp only [ssa_builder_block, q1, Option.bind_some, z1, ssa_builder_block.nx9]
  by_cases e : (i : Int) = 0
  · rw [if_pos e, y1]
    simp only [Option.bind_some, ssa_builder_block.nx114]
    exact block_rest hf hR b hb i hi ah z (by rw [hqg]; exact z2) (by rw [hqg, hrg]; exact z3) (zI b.zero_) (by simp [zI]; omega) (by rw [if_pos (by omega)])
  · rw [if_neg e]
    exact block_rest hf hR b hb i hi ah z (by rw [hqg]; exact z2) (by rw [hqg, hrg]; exact z3) [] (by simp) (by rw [if_neg (by omega)])
end Go.Proofs.Yteaknconpkklhaa
set_option linter.unusedVariables false
set_option linter.unusedSimpArgs false
namespace Go.Proofs.Yteaknconpkklhaa
open Go Go.Proofs
/-- Is a register wanted ahead of instructions, by whether it is behind them? -/
def insF : List PInstr → Int → Bool → Bool
  | [], r, v => v
  | x :: xs, r, v => if r ∈ x.args then true else if x.dst = r then false else insF xs r v
def begB (B : PBlock) (r : Int) (e : Bool) : Bool := if (B.phis.any fun p => decide (p.dst = r)) = true then false else insF B.ins r (decide (B.term.arg = r) || e)
theorem insF_cons (x : PInstr) (xs : List PInstr) (r : Int) (v : Bool) : insF (x :: xs) r v = if r ∈ x.args then true else if x.dst = r then false else insF xs r v := rfl
theorem insF_mono (xs : List PInstr) (r : Int) {v w : Bool} (h : v = true → w = true) : insF xs r v = true → insF xs r w = true := by
  induction xs with
  | nil => exact h
  | cons x xs ih =>
    rw [insF_cons, insF_cons]
    split
    · exact id
    · split
      · exact id
      · exact ih
theorem markAll_get : ∀ (l : List Int) (o : List Bool) (r : Nat), r < o.length → (∀ a ∈ l, 0 ≤ a) → (markAll o l)[r]? = if (r : Int) ∈ l then some true else o[r]?
  | [], o, r, hr, _ => by simp [markAll]
  | a :: l, o, r, hr, h0 => by
    have ih := markAll_get l (o.set a.toNat true) r (by simpa using hr) (fun b hb => h0 b (List.mem_cons_of_mem _ hb))
    have ha := h0 a List.mem_cons_self
    have e : markAll o (a :: l) = markAll (o.set a.toNat true) l := rfl
    rw [e, ih]
    by_cases h1 : (r : Int) ∈ l
    · rw [if_pos h1, if_pos (List.mem_cons_of_mem _ h1)]
    · rw [if_neg h1]
      by_cases h2 : (r : Int) = a
      · rw [if_pos (by rw [h2]; exact List.mem_cons_self), ← h2, Int.toNat_natCast, List.getElem?_set_self hr]
      · rw [if_neg (by simp [h1, h2]), List.getElem?_set_ne (by omega)]
theorem stepI_get (o : List Bool) (x : PInstr) (r : Nat) (hr : r < o.length) (h0 : ∀ a ∈ x.args, 0 ≤ a) : (stepI o x)[r]? = if (r : Int) ∈ x.args then some true else if x.dst = (r : Int) then some false else o[r]? := by
  unfold stepI
  rw [markAll_get _ _ _ (by split <;> simpa using hr) h0]
  by_cases h1 : (r : Int) ∈ x.args
  · rw [if_pos h1, if_pos h1]
  rw [if_neg h1, if_neg h1]
  by_cases h2 : x.dst = (r : Int)
  · rw [if_pos h2, if_pos (by omega), h2, Int.toNat_natCast, List.getElem?_set_self hr]
  · rw [if_neg h2]
    split
    · rw [List.getElem?_set_ne (by omega)]
    · rfl
theorem steps_get (o : List Bool) (r : Nat) (hr : r < o.length) {v : Bool} (hv : o[r]? = some v) : ∀ (xs : List PInstr), (∀ x ∈ xs, ∀ a ∈ x.args, 0 ≤ a) → (xs.reverse.foldl stepI o)[r]? = some (insF xs (r : Int) v)
  | [], _ => by simpa [insF] using hv
  | x :: xs, h0 => by
    have ih := steps_get o r hr hv xs (fun y hy => h0 y (List.mem_cons_of_mem _ hy))
    rw [List.reverse_cons, List.foldl_append, List.foldl_cons, List.foldl_nil, stepI_get _ x r (by rw [stepsI_length]; exact hr) (h0 x List.mem_cons_self), ih, insF_cons]
    by_cases h1 : (r : Int) ∈ x.args
    · simp [h1]
    · by_cases h2 : x.dst = (r : Int)
      · simp [h1, h2]
      · simp [h1, h2]
theorem dropP_get : ∀ (ps : List PPhi) (o : List Bool) (r : Nat), r < o.length → (∀ p ∈ ps, 0 ≤ p.dst) → (dropP o ps)[r]? = if (ps.any fun p => decide (p.dst = (r : Int))) = true then some false else o[r]?
  | [], o, r, hr, _ => by simp [dropP]
  | p :: ps, o, r, hr, h0 => by
    have ih := dropP_get ps (o.set p.dst.toNat false) r (by simpa using hr) (fun b hb => h0 b (List.mem_cons_of_mem _ hb))
    have hp := h0 p List.mem_cons_self
    have e : dropP o (p :: ps) = dropP (o.set p.dst.toNat false) ps := rfl
    rw [e, ih]
    by_cases h1 : (ps.any fun p => decide (p.dst = (r : Int))) = true
    · rw [if_pos h1, if_pos (by rw [List.any_cons, h1, Bool.or_true])]
    · rw [if_neg h1]
      by_cases h2 : p.dst = (r : Int)
      · rw [if_pos (by simp [h2]), h2, Int.toNat_natCast, List.getElem?_set_self hr]
      · rw [if_neg (by simpa [h2] using h1), List.getElem?_set_ne (by omega)]
theorem beginF_get (B : PBlock) (e : List Bool) (r : Nat) (hR : RegsIn e.length B) {v : Bool} (hv : e[r]? = some v) : (beginF B e)[r]? = some (begB B (r : Int) v) := by
  have hr : r < e.length := (List.getElem?_eq_some_iff.1 hv).1
  unfold beginF
  have hl : (if B.term.arg ≥ 0 then e.set B.term.arg.toNat true else e).length = e.length := by split <;> simp
  have h0 : (if B.term.arg ≥ 0 then e.set B.term.arg.toNat true else e)[r]? = some (decide (B.term.arg = (r : Int)) || v) := by
    by_cases h1 : B.term.arg = (r : Int)
    · rw [if_pos (by omega), h1, Int.toNat_natCast, List.getElem?_set_self hr]; simp
    · by_cases h2 : B.term.arg ≥ 0
      · rw [if_pos h2, List.getElem?_set_ne (by omega), hv]; simp [h1]
      · rw [if_neg h2, hv]; simp [h1]
  have h3 := steps_get _ r (by rw [hl]; exact hr) h0 B.ins (fun x hx a ha => (hR.args x hx a ha).1)
  rw [dropP_get _ _ _ (by rw [stepsI_length, hl]; exact hr) (fun p hp => (hR.phis p hp).1), h3]
  unfold begB
  split <;> rfl
theorem insF_use : ∀ (xs : List PInstr) (t : Nat) (o : PInstr) (r : Int) (v : Bool), xs[t]? = some o → r ∈ o.args → (∀ u : Nat, u < t → ∀ o' : PInstr, xs[u]? = some o' → o'.dst ≠ r) → insF xs r v = true
  | [], t, o, r, v, h, _, _ => by simp at h
  | x :: xs, 0, o, r, v, h, ha, _ => by
    rw [insF_cons]
    simp only [List.getElem?_cons_zero, Option.some.injEq] at h
    subst h
    rw [if_pos ha]
  | x :: xs, t + 1, o, r, v, h, ha, hn => by
    rw [insF_cons]
    split
    · rfl
    · rw [if_neg (hn 0 (by omega) x rfl)]
      exact insF_use xs t o r v (by simpa using h) ha (fun u hu o' ho => hn (u + 1) (by omega) o' (by simpa using ho))
theorem insF_end : ∀ (xs : List PInstr) (r : Int), (∀ (u : Nat) (o' : PInstr), xs[u]? = some o' → o'.dst ≠ r) → insF xs r true = true
  | [], r, _ => rfl
  | x :: xs, r, hn => by
    rw [insF_cons]
    split
    · rfl
    · rw [if_neg (hn 0 x rfl)]
      exact insF_end xs r (fun u o' ho => hn (u + 1) o' (by simpa using ho))
end Go.Proofs.Yteaknconpkklhaa
set_option linter.unusedVariables false
set_option linter.unusedSimpArgs false
namespace Go.Proofs.Yteaknconpkklhaa
open Go Go.Proofs
variable {f : PFunc} {R : List Int}
theorem Ver.anc {N : Nat → Nat} {P : List (List Int)} {Z : List Int} {S E : List (List Int)} (hV : Ver f R N P Z f.blocks.length S E) (hN : Nr f N) {a b r : Nat} (h : Anc N a b) (hb : b < f.blocks.length) (hE : NnT E (ob R a) r) : NnT E (ob R b) r := by
  induction h with
  | refl => exact hE
  | @step b h0 _ ih =>
    have := hN.dn b h0 hb
    exact hV.down b hb r (hV.up b (by omega) hb r (ih (by omega)))
theorem wanted (h : Full f R) {N : Nat → Nat} {L : List Int} (hNr : Near f R N L) {F : List (List Int)} (hF : Brd f R N F) {ins ends : List (List Bool)} (hL : LI f ins ends) (hX : ∀ b, Fx f ins ends b) (hph : ∀ B ∈ f.blocks, B.phis = [])
    {P : List (List Int)} {Z : List Int} (hP : Plc f F ins P Z f.regs.length) {S E : List (List Int)} (hV : Ver f R N P Z f.blocks.length S E) (r : Nat) (hr : r < f.regs.length) (C : List Bool) (hC : Cl f F (r : Int) C) (hCp : ∀ i : Nat, C[i]? = some true → Hold ins i r → In1 P i (r : Int)) :
    ∀ (m i : Nat), i < m → i < f.blocks.length → Hold ins (ob R i) r → NnT S (ob R i) r ∧ ∃ c, c < f.blocks.length ∧ (c = 0 ∨ (∃ hc : c < f.blocks.length, ∃ x ∈ f.blocks[c].ins, x.dst = (r : Int)) ∨ C[c]? = some true) ∧ NnT E c r ∧ Anc N (pb R c) i := by
  intro m
  induction m with
  | zero => intro i h; omega
  | succ m ih =>
    intro i him hi hw
    rcases Nat.eq_zero_or_pos i with rfl | h0
    · rw [h.ob0] at hw ⊢
      have hs : NnT S 0 r := hV.first h.pos r hr (by
        by_cases e : (r : Int) < f.params
        · exact .inl e
        · exact .inr (hP.zero r hr (by omega) hw))
      refine ⟨hs, 0, h.pos, .inl rfl, ?_, ?_⟩
      · have := hV.down 0 h.pos r (by rw [h.ob0]; exact hs)
        rwa [h.ob0] at this
      · rw [h.pb0]; exact .refl
    · obtain ⟨o1, o2⟩ := h.get hi
      have hiR : i < R.length := by rw [h.len]; exact hi
      obtain ⟨p, hp, u, hu, hun, hto⟩ := h.led i hiR h0
      have hpn : p < f.blocks.length := by omega
      have hup : ob R p = u := by
        obtain ⟨q1, q2⟩ := h.get hpn
        rw [List.getElem?_eq_getElem (by omega), hu] at q1
        have := Option.some.inj q1
        omega
      have hRi : R[i] = ((ob R i : Nat) : Int) := by
        rw [List.getElem?_eq_getElem hiR] at o1; exact Option.some.inj o1
      rw [hRi] at hto
      have hsu : ((ob R i : Nat) : Int) ∈ succs f.blocks.length f.blocks[u].term.to := mem_succs.2 ⟨hto, by omega, by omega⟩
      -- what stands above the block before
      obtain ⟨re, e1, e2, e3⟩ := hL.dimE.get (b := (u : Int)) (by omega) (by omega)
      obtain ⟨ri, i1, i2, i3⟩ := hL.dimI.get (b := (u : Int)) (by omega) (by omega)
      rw [Int.toNat_natCast] at e2 i2
      obtain ⟨x1, x2⟩ := hX u hun re ri e2 i2
      obtain ⟨rx, rx1, rx2⟩ := hw
      have hre : re[r]? = some true := x1 _ hsu rx (by rw [idx_nat]; exact rx1) r rx2
      have key : ∃ c, c < f.blocks.length ∧ (c = 0 ∨ (∃ hc : c < f.blocks.length, ∃ x ∈ f.blocks[c].ins, x.dst = (r : Int)) ∨ C[c]? = some true) ∧ NnT E c r ∧ Anc N (pb R c) p := by
        by_cases hd : ∃ x ∈ f.blocks[u].ins, x.dst = (r : Int)
        · obtain ⟨x, hx, hxd⟩ := hd
          refine ⟨u, hun, .inr (.inl ⟨hun, x, hx, hxd⟩), ?_, ?_⟩
          · subst hup
            have := hV.defs p hpn hun x hx (by omega)
            rw [hxd, Int.toNat_natCast] at this
            exact this
          · rw [← hup, h.pb_ob hpn]; exact .refl
        · have hb := beginF_keeps f.blocks[u] (hph _ (List.getElem_mem hun)) re r (fun x hx e => hd ⟨x, hx, e⟩) (.inl hre)
          exact (ih p (by omega) hpn ⟨ri, by rw [hup]; exact i2, x2 r hb⟩).2
      obtain ⟨c, c1, c2, c3, c4⟩ := key
      by_cases hbd : c = ob R i ∨ ¬ Anc N (pb R c) (pb R (ob R i))
      · obtain ⟨l, l1, l2⟩ := hF c u (ob R i) c1 o2 hun hsu (by rw [← hup, h.pb_ob hpn]; exact c4) hbd
        have hCx := hC c c2 l l1 _ l2
        rw [Int.toNat_natCast] at hCx
        have hin := hCp _ hCx ⟨rx, rx1, rx2⟩
        have hs := hV.phi i hi _ hin
        rw [Int.toNat_natCast] at hs
        exact ⟨hs, ob R i, o2, .inr (.inr hCx), hV.down i hi r hs, by rw [h.pb_ob hi]; exact .refl⟩
      · simp only [not_or, Classical.not_not] at hbd
        obtain ⟨b1, b2⟩ := hbd
        rw [h.pb_ob hi] at b2
        have hne : pb R c ≠ i := fun e => b1 (by rw [← e]; exact (h.ob_pb c1).1.symm)
        rcases b2.cases' with e | ⟨_, b3⟩
        · exact absurd e hne
        · have hni := hNr.nr.dn i (by omega) hi
          have hc' : NnT E (ob R (pb R c)) r := by rw [(h.ob_pb c1).1]; exact c3
          exact ⟨hV.up i h0 hi r (hV.anc hNr.nr b3 (by omega) hc'), c, c1, c2, c3, b2⟩
section
variable (h : Full f R) {N : Nat → Nat} {L : List Int} (hNr : Near f R N L) {F : List (List Int)} (hF : Brd f R N F) {ins ends : List (List Bool)} (hL : LI f ins ends) (hX : ∀ b, Fx f ins ends b) (hph : ∀ B ∈ f.blocks, B.phis = []) (hR : ∀ B ∈ f.blocks, RegsIn f.regs.length B)
    {P : List (List Int)} {Z : List Int} (hP : Plc f F ins P Z f.regs.length) {S E : List (List Int)} (hV : Ver f R N P Z f.blocks.length S E)
include h hNr hF hL hX hph hP hV
theorem phi_has (i : Nat) (hi : i < f.blocks.length) (x : Int) (hx : In1 P i x) (p : Nat) (hp : (p : Int) ∈ preds (nexts f) i) : NnT E p x.toNat := by
  obtain ⟨r, rfl, hw⟩ := hP.only i x hx
  rw [Int.toNat_natCast]
  obtain ⟨j, hj, hjl, hji⟩ := (mem_preds _ _ _).1 hp
  obtain rfl : p = j := by omega
  rw [nexts_length] at hjl
  rw [nexts_getD f hjl] at hji
  obtain ⟨re, e1, e2, e3⟩ := hL.dimE.get (b := (p : Int)) (by omega) (by omega)
  obtain ⟨ri, i1, i2, i3⟩ := hL.dimI.get (b := (p : Int)) (by omega) (by omega)
  rw [Int.toNat_natCast] at e2 i2
  obtain ⟨rx, rx1, rx2⟩ := hw
  have hr : r < f.regs.length := by
    have := (List.getElem?_eq_some_iff.1 rx2).1
    rw [hL.dimI.row rx (List.mem_of_getElem? rx1)] at this; exact this
  obtain ⟨x1, x2⟩ := hX p hjl re ri e2 i2
  have hre : re[r]? = some true := x1 _ hji rx (by rw [idx_nat]; exact rx1) r rx2
  have hop := (h.ob_pb hjl)
  by_cases hd : ∃ x ∈ f.blocks[p].ins, x.dst = (r : Int)
  · obtain ⟨x, hx, hxd⟩ := hd
    have := hV.defs (pb R p) hop.2 (by rw [hop.1]; exact hjl) x (by simpa only [hop.1] using hx) (by omega)
    rw [hop.1, hxd, Int.toNat_natCast] at this
    exact this
  · have hb := beginF_keeps f.blocks[p] (hph _ (List.getElem_mem hjl)) re r (fun x hx e => hd ⟨x, hx, e⟩) (.inl hre)
    obtain ⟨C, hC, hCp⟩ := hP.phi r hr
    have hs := (wanted h hNr hF hL hX hph hP hV r hr C hC hCp (pb R p + 1) (pb R p) (by omega) hop.2 ⟨ri, by rw [hop.1]; exact i2, x2 r hb⟩).1
    have := hV.down (pb R p) hop.2 r hs
    rwa [hop.1] at this
include hR
theorem begin_has (i : Nat) (hi : i < f.blocks.length) (r : Nat) (hr : r < f.regs.length) (hu : insF f.blocks[i].ins (r : Int) (decide (f.blocks[i].term.arg = (r : Int))) = true) : NnT S i r := by
  obtain ⟨re, e1, e2, e3⟩ := hL.dimE.get (b := (i : Int)) (by omega) (by omega)
  obtain ⟨ri, i1, i2, i3⟩ := hL.dimI.get (b := (i : Int)) (by omega) (by omega)
  rw [Int.toNat_natCast] at e2 i2
  have hre : r < re.length := by omega
  have hb := beginF_get f.blocks[i] re r (by rw [e3]; exact hR _ (List.getElem_mem hi)) (List.getElem?_eq_getElem hre)
  have hbt : begB f.blocks[i] (r : Int) re[r] = true := by
    unfold begB
    rw [hph _ (List.getElem_mem hi)]
    simp only [List.any_nil, Bool.false_eq_true, if_false]
    exact insF_mono _ _ (fun k => by rw [k]; rfl) hu
  rw [hbt] at hb
  have hw : Hold ins (ob R (pb R i)) r := ⟨ri, by rw [(h.ob_pb hi).1]; exact i2, (hX i hi re ri e2 i2).2 r hb⟩
  obtain ⟨C, hC, hCp⟩ := hP.phi r hr
  have := (wanted h hNr hF hL hX hph hP hV r hr C hC hCp (pb R i + 1) (pb R i) (by omega) (h.ob_pb hi).2 hw).1
  rwa [(h.ob_pb hi).1] at this
theorem ins_has (i : Nat) (hi : i < f.blocks.length) (t : Nat) (o : PInstr) (ho : f.blocks[i].ins[t]? = some o) (a : Nat) (ha : (a : Int) ∈ o.args) : NnT S i a ∨ ∃ u : Nat, u < t ∧ ∃ o' : PInstr, f.blocks[i].ins[u]? = some o' ∧ o'.dst = (a : Int) := by
  by_cases hd : ∃ u : Nat, u < t ∧ ∃ o' : PInstr, f.blocks[i].ins[u]? = some o' ∧ o'.dst = (a : Int)
  · exact .inr hd
  · left
    have har := (hR _ (List.getElem_mem hi)).args o (List.mem_of_getElem? ho) _ ha
    exact begin_has h hNr hF hL hX hph hR hP hV i hi a (by omega) (insF_use _ t o _ _ ho ha fun u hu o' ho' e => hd ⟨u, hu, o', ho', e⟩)
theorem arg_has (i : Nat) (hi : i < f.blocks.length) (a : Nat) (ha : f.blocks[i].term.arg = (a : Int)) : NnT S i a ∨ ∃ u : Nat, u < f.blocks[i].ins.length ∧ ∃ o' : PInstr, f.blocks[i].ins[u]? = some o' ∧ o'.dst = (a : Int) := by
  by_cases hd : ∃ u : Nat, u < f.blocks[i].ins.length ∧ ∃ o' : PInstr, f.blocks[i].ins[u]? = some o' ∧ o'.dst = (a : Int)
  · exact .inr hd
  · left
    have har := (hR _ (List.getElem_mem hi)).arg
    refine begin_has h hNr hF hL hX hph hR hP hV i hi a (by omega) ?_
    rw [decide_eq_true ha]
    exact insF_end _ _ fun u o' ho' e => hd ⟨u, (List.getElem?_eq_some_iff.1 ho').1, o', ho', e⟩
end
end Go.Proofs.Yteaknconpkklhaa
set_option linter.unusedVariables false
set_option linter.unusedSimpArgs false
namespace Go.Proofs.Yteaknconpkklhaa
open Go Go.Proofs
variable {f : PFunc} {R : List Int}
theorem hasPhi_ok (l : List PBlock) (hl : l.length ≤ 70) : ∃ b : Bool, slices_ContainsFunc_api_Block_api_Block_check_Plain_1 l = some b ∧ (b = false → ∀ B ∈ l, B.phis = []) := by
  unfold slices_ContainsFunc_api_Block_api_Block_check_Plain_1 slices_IndexFunc_api_Block_api_Block_check_Plain_1
  obtain ⟨z, hz, hz1⟩ := whl_for (body := fun (s : Int) => slices_IndexFunc_api_Block_api_Block_check_Plain_1.bd8 l s) (s0 := 0) l.length (fun i s => s = (i : Int) ∧ ∀ j (hj : j < l.length), j < i → l[j].phis = []) (fun z => (∃ i : Nat, z = .ret (i : Int)) ∨ (z = .go () ∧ ∀ B ∈ l, B.phis = [])) (le_max hl (by omega)) (fun i s hi hI => by
    obtain ⟨rfl, h2⟩ := hI
    simp only [slices_IndexFunc_api_Block_api_Block_check_Plain_1.bd8, len_lt, hi, if_true, idx_lt hi, Option.bind_some, check_Plain_1, w64_i hi (show l.length ≤ 1000 by omega)]
    by_cases e : len l[i].phis > 0
    · exact .inl ⟨.ret (i : Int), by rw [if_pos (decide_eq_true e)], .inl ⟨i, rfl⟩⟩
    · refine .inr ⟨((i + 1 : Nat) : Int), by rw [if_neg (by simpa using e)], rfl, fun j hj hji => ?_⟩
      by_cases e2 : j < i
      · exact h2 j hj e2
      · obtain rfl : j = i := by omega
        simp only [len] at e
        exact List.eq_nil_of_length_eq_zero (by omega)) (fun s hI => by
    obtain ⟨rfl, h2⟩ := hI
    exact ⟨.go (), by simp [slices_IndexFunc_api_Block_api_Block_check_Plain_1.bd8, len], .inr ⟨rfl, fun B hB => by
      obtain ⟨j, hj, rfl⟩ := List.getElem_of_mem hB
      exact h2 j hj hj⟩⟩) ⟨rfl, fun j _ hj => by omega⟩
  rw [hz]
  rcases hz1 with ⟨i, rfl⟩ | ⟨rfl, h⟩
  · exact ⟨true, by simp, fun h => by cases h⟩
  · exact ⟨false, by simp [slices_IndexFunc_api_Block_api_Block_check_Plain_1.nx8], fun _ => h⟩
theorem plain_ok (m : PModule) (hm : SmM m) : ∃ e, check_Plain m = some e ∧ (e = GErr.no → Proper m ∧ ∀ f ∈ m.funcs, ∀ B ∈ f.blocks, B.phis = []) := by
  obtain ⟨e, he, he2⟩ := module_says m hm
  unfold check_Plain
  rw [he]
  simp only [Option.bind_some]
  by_cases h : e = GErr.no
  · rw [if_neg (by simpa using h)]
    have hp := he2.1 h
    obtain ⟨z, hz, hz1⟩ := whl_for (body := fun (s : Int) => check_Plain.bd13 m s) (s0 := 0) m.funcs.length (fun i s => s = (i : Int) ∧ ∀ j (hj : j < m.funcs.length), j < i → ∀ B ∈ m.funcs[j].blocks, B.phis = []) (fun z => (∃ e, z = .ret e ∧ e ≠ GErr.no) ∨ (z = .go () ∧ ∀ f ∈ m.funcs, ∀ B ∈ f.blocks, B.phis = [])) (le_max hm.1 (by omega)) (fun i s hi hI => by
      obtain ⟨rfl, h2⟩ := hI
      obtain ⟨b, hb, hb2⟩ := hasPhi_ok m.funcs[i].blocks (hm.2 _ (List.getElem_mem hi)).1
      have hfew := hm.1
      simp only [check_Plain.bd13, len_lt, hi, if_true, idx_lt hi, Option.bind_some, hb, w64_i hi (show m.funcs.length ≤ 1000 by omega)]
      cases b with
      | true => exact .inl ⟨_, by simp only [if_true]; rfl, .inl ⟨_, rfl, fun h => by cases h⟩⟩
      | false =>
        refine .inr ⟨((i + 1 : Nat) : Int), by simp, rfl, fun j hj hji => ?_⟩
        by_cases e2 : j < i
        · exact h2 j hj e2
        · obtain rfl : j = i := by omega
          exact hb2 rfl) (fun s hI => by
      obtain ⟨rfl, h2⟩ := hI
      exact ⟨.go (), by simp [check_Plain.bd13, len], .inr ⟨rfl, fun f hf => by
        obtain ⟨j, hj, rfl⟩ := List.getElem_of_mem hf
        exact h2 j hj hj⟩⟩) ⟨rfl, fun j _ hj => by omega⟩
    rw [hz]
    rcases hz1 with ⟨e, rfl, h1⟩ | ⟨rfl, h1⟩
    · exact ⟨e, rfl, fun h => absurd h h1⟩
    · exact ⟨GErr.no, rfl, fun _ => ⟨hp, h1⟩⟩
  · rw [if_pos h]
    exact ⟨e, rfl, fun h' => absurd h' h⟩
theorem trimF_plain (f : PFunc) (s : List Bool) (h : ∀ B ∈ f.blocks, B.phis = []) : ∀ B ∈ (trimF f s).blocks, B.phis = [] := fun B hB => by
  obtain ⟨i, _, hi⟩ := List.mem_filterMap.1 hB
  unfold trimAt at hi
  split at hi
  · rename_i C hC
    split at hi
    · cases hi
      simp [trimB, h C (List.mem_of_getElem? hC)]
    · cases hi
  · cases hi
/-- A function that is built: of what, by what, and all its blocks. -/
structure Made (f r : PFunc) (R : List Int) (b : PBuilder) : Prop where
  full : Full f R
  near : ∃ N L, Near f R N L ∧ VerQ f R N b f.blocks.length b.begin b.end_
  params : r.params = f.params
  result : r.result = f.result
  len : r.blocks.length = f.blocks.length
  bl : Bl f b
  at_ : ∀ j (hj : j < f.blocks.length), ∃ C, r.blocks[j]? = some C ∧ Nx f b j f.blocks[j] (preds (nexts f) j) C
  asg : Asg f r.regs (b.zero_.zip b.zeros ++ numA b.phi b.dst b.phis f f.blocks.length)
  zlen : b.zero_.length = b.zeros.length
  plain : ∀ B ∈ f.blocks, B.phis = []
  few : (r.blocks.map fun (B : PBlock) => B.phis.length + B.ins.length + 1).sum ≤ 256
  regs : r.regs.length ≤ 256
  uins : ∀ (i : Nat) (hi : i < f.blocks.length) (t : Nat) (o : PInstr), f.blocks[i].ins[t]? = some o → ∀ a : Nat, (a : Int) ∈ o.args → NnT b.begin i a ∨ ∃ u : Nat, u < t ∧ ∃ o' : PInstr, f.blocks[i].ins[u]? = some o' ∧ o'.dst = (a : Int)
  uarg : ∀ (i : Nat) (hi : i < f.blocks.length) (a : Nat), f.blocks[i].term.arg = (a : Int) → NnT b.begin i a ∨ ∃ u : Nat, u < f.blocks[i].ins.length ∧ ∃ o' : PInstr, f.blocks[i].ins[u]? = some o' ∧ o'.dst = (a : Int)
  uphi : ∀ (i : Nat) (hi : i < f.blocks.length) (x : Int), In1 b.phis i x → ∀ p : Nat, (p : Int) ∈ preds (nexts f) i → NnT b.end_ p x.toNat
theorem Nx.sizes {b : PBuilder} {i : Nat} {B C : PBlock} {ah : List Int} (h : Nx f b i B ah C) (hb : Bl f b) (hi : i < f.blocks.length) (hf : SmF f) (hB : SmB B) (hah : ah.length ≤ 70) : C.phis.length ≤ 300 ∧ C.ins.length ≤ 600 ∧ (∀ x ∈ C.ins, x.args.length ≤ 300) ∧ ∀ p ∈ C.phis, p.args.length ≤ 300 := by
  have hrr := hf.2.1
  have hz := hb.zero
  obtain ⟨q, q1, q2, q3, q4⟩ := hb.phis.get (b := (i : Int)) (by omega) (by omega)
  rw [Int.toNat_natCast] at q2
  have hqg : b.phis.getD i [] = q := by rw [List.getD_eq_getElem?_getD, q2]; rfl
  have hpl := h.plen
  rw [hqg] at hpl
  have hPl : (if i = 0 then zI b.zero_ else []).length ≤ 300 := by
    split
    · simp [zI]; omega
    · simp
  have hil := h.ins.len
  have hBi := hB.1
  refine ⟨by omega, by omega, fun x hx => ?_, fun p hp => ?_⟩
  · obtain ⟨u, hu, rfl⟩ := List.getElem_of_mem hx
    by_cases e : u < (if i = 0 then zI b.zero_ else []).length
    · have hpre := h.ins.pre u e
      rw [List.getElem?_eq_getElem hu] at hpre
      have hm := List.mem_of_getElem? hpre.symm
      split at hm
      · obtain ⟨d, _, hd⟩ := List.mem_map.1 hm
        rw [← hd]; simp
      · simp at hm
    · obtain ⟨o, d, V, s, a1, a2, a3, a4, a5, a6⟩ := h.ins.new (u - (if i = 0 then zI b.zero_ else []).length) (by omega)
      rw [Nat.add_sub_cancel' (by omega), List.getElem?_eq_getElem hu] at a5
      rw [Option.some.inj a5, a6.len]
      exact hB.2.2.2.1 o (List.mem_of_getElem? a1)
  · obtain ⟨u, hu, rfl⟩ := List.getElem_of_mem hp
    obtain ⟨r, _, _, h3⟩ := h.phis u _ (List.getElem?_eq_getElem hu)
    rw [h3.1]; omega
theorem blocks_ok (hf : SmF f) (hR : ∀ B ∈ f.blocks, RegsIn f.regs.length B) (nums : List Int) (q : List (List Bool) × List (List Bool) × GErr) (fr : List (List Int)) (ne : List Int) (pl : List (List Int) × List Int) (nu : List Int × List (List Int) × List Int × List (List Int)) (ve : List (List Int) × List (List Int))
    (hb : Bl f (⟨(⟨f.params, f.result, f.regs, f.blocks⟩ : PFunc), q.1, fr, ne, pl.1, pl.2, nu.1, nu.2.1, nu.2.2.1, nu.2.2.2, ve.1, ve.2⟩ : PBuilder)) :
    ∃ z, whl (fun (s : (List PBlock × Int × Int)) => ssa_Build.bd57 (f, nums) q fr ne pl nu ve (aheads (nexts f)) s.1 s.2.1 s.2.2) FUEL (([] : List PBlock), 0, 0) = some z ∧ z.1.length = f.blocks.length ∧ (∀ j (hj : j < f.blocks.length), ∃ C, z.1[j]? = some C ∧ Nx f (⟨(⟨f.params, f.result, f.regs, f.blocks⟩ : PFunc), q.1, fr, ne, pl.1, pl.2, nu.1, nu.2.1, nu.2.2.1, nu.2.2.2, ve.1, ve.2⟩ : PBuilder) j f.blocks[j] (preds (nexts f) j) C) ∧ z.2 = (((z.1.map fun (B : PBlock) => B.phis.length + B.ins.length + 1).sum : Nat) : Int) := by
  have hn := hf.1
  refine whl_for (body := fun (s : (List PBlock × Int × Int)) => ssa_Build.bd57 (f, nums) q fr ne pl nu ve (aheads (nexts f)) s.1 s.2.1 s.2.2) (s0 := ([], 0, 0)) f.blocks.length
    (fun i s => s.2.2 = (i : Int) ∧ s.1.length = i ∧ (∀ j (hj : j < f.blocks.length), j < i → ∃ C, s.1[j]? = some C ∧ Nx f (⟨(⟨f.params, f.result, f.regs, f.blocks⟩ : PFunc), q.1, fr, ne, pl.1, pl.2, nu.1, nu.2.1, nu.2.2.1, nu.2.2.2, ve.1, ve.2⟩ : PBuilder) j f.blocks[j] (preds (nexts f) j) C) ∧ s.2.1 = (((s.1.map fun (B : PBlock) => B.phis.length + B.ins.length + 1).sum : Nat) : Int) ∧ (s.1.map fun (B : PBlock) => B.phis.length + B.ins.length + 1).sum ≤ i * 1000) _ (le_max hn (by omega)) (fun i s hi hI => ?_) (fun s hI => ?_) ⟨rfl, rfl, fun j _ hj => by omega, rfl, by simp⟩
  · obtain ⟨A, mm, j⟩ := s
    obtain ⟨rfl, g1, g2, g4, g3⟩ := hI
    simp only at g1 g2 g3 g4
    subst g4
    right
    have hi' : i < (aheads (nexts f)).length := by rw [aheads_length, nexts_length]; exact hi
    have hah : idx (aheads (nexts f)) (i : Int) = some (preds (nexts f) i) := by rw [idx_nat]; exact aheads_get _ _ (by rw [nexts_length]; exact hi)
    have hpl : (preds (nexts f) i).length ≤ 70 := by have := preds_length (nexts f) i; rw [nexts_length] at this; omega
    obtain ⟨C, c1, c2⟩ := block_ok hf hR _ hb i hi (preds (nexts f) i) hpl (fun x hx => by have := preds_in (nexts f) i x hx; rw [nexts_length] at this; exact this)
    obtain ⟨hp, hq, -, -⟩ := c2.sizes hb hi hf (hf.2.2.2 _ (List.getElem_mem hi)) hpl
    generalize hM : (A.map fun (B : PBlock) => B.phis.length + B.ins.length + 1).sum = M at *
    have w1 : w64 (len C.phis + len C.ins) = ((C.phis.length + C.ins.length : Nat) : Int) := by
      rw [show len C.phis + len C.ins = ((C.phis.length + C.ins.length : Nat) : Int) by simp [len]]; exact w64_nat (by omega)
    have w2 : w64 (((C.phis.length + C.ins.length : Nat) : Int) + 1) = ((C.phis.length + C.ins.length + 1 : Nat) : Int) := w64_succ (by omega)
    have w3 : w64 ((M : Int) + ((C.phis.length + C.ins.length + 1 : Nat) : Int)) = ((M + (C.phis.length + C.ins.length + 1) : Nat) : Int) := by
      rw [show (M : Int) + ((C.phis.length + C.ins.length + 1 : Nat) : Int) = ((M + (C.phis.length + C.ins.length + 1) : Nat) : Int) by omega]; exact w64_nat (by omega)
    simp only [ssa_Build.bd57, len_lt, hi', if_true, hah, Option.bind_some, c1, cat_one (show A.length ≤ 1000 by omega), w1, w2, w3, w64_i hi (show f.blocks.length ≤ 1000 by omega)]
    have hsum : ((A ++ [C]).map fun (B : PBlock) => B.phis.length + B.ins.length + 1).sum = M + (C.phis.length + C.ins.length + 1) := by
      rw [List.map_append, List.sum_append, hM]; simp
    refine ⟨_, rfl, rfl, by simp [g1], fun j hj hji => ?_, by simp only [hsum], by simp only [hsum]; omega⟩
    simp only
    by_cases e : j < i
    · obtain ⟨D, d1, d2⟩ := g2 j hj e
      exact ⟨D, by rw [List.getElem?_append_left (by omega)]; exact d1, d2⟩
    · obtain rfl : j = i := by omega
      exact ⟨C, by rw [List.getElem?_append_right (by omega), g1]; simp, c2⟩
  · obtain ⟨A, mm, j⟩ := s
    obtain ⟨rfl, g1, g2, g4, g3⟩ := hI
    simp only at g1 g2 g3 g4
    subst g4
    exact ⟨(A, (((A.map fun (B : PBlock) => B.phis.length + B.ins.length + 1).sum : Nat) : Int)), by simp [ssa_Build.bd57, len, aheads_length, nexts_length], g1, fun j hj => g2 j hj hj, rfl⟩
theorem le_sum : ∀ (l : List Nat) (x : Nat), x ∈ l → x ≤ l.sum
  | [], x, h => by simp at h
  | y :: l, x, h => by
    rw [List.sum_cons]
    rcases List.mem_cons.1 h with rfl | h
    · omega
    · have := le_sum l x h; omega
theorem smE : SmF (⟨0, 0, ([] : List Int), ([] : List PBlock)⟩ : PFunc) := ⟨by simp, by simp, by simp, by simp⟩
theorem build_ok (m : PModule) (hm : SmM m) (a : Int) : ∃ r, ssa_Build m a = some r ∧ SmF r.1 ∧ (r.2 = GErr.no → ∃ k : Nat, a = k ∧ ∃ hk : k < m.funcs.length, ∃ g R b, SmF g ∧ g.params = m.funcs[k].params ∧ g.result = m.funcs[k].result ∧ g.regs = m.funcs[k].regs ∧ Proper m ∧ FuncOk (⟨m.funcs.set k g⟩ : PModule) g ∧ Made g r.1 R b) := by
  obtain ⟨e, he, he2⟩ := plain_ok m hm
  unfold ssa_Build
  rw [he]
  simp only [Option.bind_some]
  by_cases h : e = GErr.no
  · rw [if_neg (by simpa using h)]
    obtain ⟨hp, hph⟩ := he2 h
    by_cases h2 : a < 0 ∨ a ≥ len m.funcs
    · rw [if_pos h2]
      exact ⟨_, rfl, smE, fun h => by cases h⟩
    · rw [if_neg h2]
      simp only [len] at h2
      obtain ⟨k, rfl⟩ : ∃ k : Nat, a = k := ⟨a.toNat, by omega⟩
      have hk : k < m.funcs.length := by omega
      have hf0 := hm.2 _ (List.getElem_mem hk)
      obtain ⟨s, o, hw, _⟩ := walked_any m.funcs[k] hf0
      have htr := trim_eq m.funcs[k] hf0 hw
      have hf := trimF_small m.funcs[k] hf0 s
      have hfl := hm.1
      have hcl : slices_Clone_api_Func_api_Func m.funcs = some m.funcs := by
        unfold slices_Clone_api_Func_api_Func; rw [cat_nil (by omega)]; rfl
      have hset : (m.funcs.set k (trimF m.funcs[k] s)).length = m.funcs.length := by simp
      have hm' : SmM (⟨m.funcs.set k (trimF m.funcs[k] s)⟩ : PModule) := ⟨by simp only [hset]; exact hm.1, fun g hg => (List.mem_or_eq_of_mem_set hg).elim (hm.2 g) (fun e => e ▸ hf)⟩
      simp only [idx_lt hk, Option.bind_some, htr, hcl, Int.toNat_natCast]
      obtain ⟨e3, _, hl⟩ := live_any' _ hm' (k : Int)
      rcases hl with ⟨hne, h1⟩ | ⟨hno, hp', k', hk', hkl, ins, ends, h1, hLI, hFx⟩
      · rw [h1]
        simp only [Option.bind_some]
        rw [if_pos hne]
        exact ⟨_, rfl, smE, fun h => absurd h hne⟩
      · obtain rfl : k' = k := by omega
        rw [h1]
        simp only [Option.bind_some]
        rw [if_neg (by simp)]
        have hfo := hp'.funcs _ (List.getElem_mem hkl)
        have hg : (m.funcs.set k' (trimF m.funcs[k'] s))[k']'hkl = trimF m.funcs[k'] s := by simp
        simp only [hg] at hfo hLI hFx
        obtain ⟨s', o', hw', _⟩ := walked_any _ hf
        have hs' := trim_reached m.funcs[k'] hf0 hw hw'
        have hfull := full_of _ hf (by have := hfo.small.pos; omega) hw' hs'
        have hRr : ∀ B ∈ (trimF m.funcs[k'] s).blocks, RegsIn (trimF m.funcs[k'] s).regs.length B := fun B hB => BlockOk_regs (hfo.blocks B hB)
        have hphi : ∀ B ∈ (trimF m.funcs[k'] s).blocks, B.phis = [] := trimF_plain _ s (hph _ (List.getElem_mem hk))
        generalize hgg : trimF m.funcs[k'] s = g at *
        obtain ⟨N, L, hL, hN⟩ := nearest_ok hfull
        obtain ⟨F, hF, hF1, hF2⟩ := frontier_ok hfull hL hN
        rw [hF, hL]
        simp only [Option.bind_some]
        obtain ⟨pl, p1, p2, p3, p4⟩ := place_ok hf hfull.pos (⟨(⟨g.params, g.result, g.regs, g.blocks⟩ : PFunc), ins, F, L, ([] : List (List Int)), ([] : List Int), [], [], [], [], [], []⟩ : PBuilder) rfl hLI.dimI hF1 rfl
        rw [p1]
        simp only [Option.bind_some]
        obtain ⟨nr, np, nz, nd, n1, n2, n3, n4, n5⟩ := number_ok hf hRr hfo.typed.nn hfo.typed.le (⟨(⟨g.params, g.result, g.regs, g.blocks⟩ : PFunc), ins, F, L, pl.1, pl.2, ([] : List Int), ([] : List (List Int)), ([] : List Int), ([] : List (List Int)), [], []⟩ : PBuilder) rfl p2 p3 rfl rfl rfl
        rw [n1]
        simp only [Option.bind_some]
        obtain ⟨S, E, v1, v2, v3, v4, v5⟩ := versions_ok hfull hN hRr (⟨(⟨g.params, g.result, g.regs, g.blocks⟩ : PFunc), ins, F, L, pl.1, pl.2, nr, np, nz, nd, ([] : List (List Int)), ([] : List (List Int))⟩ : PBuilder) rfl rfl p2 n4 p3 n2 n3
        rw [v1, checkAhead_eq g hf]
        simp only [Option.bind_some]
        have hBl : Bl g (⟨(⟨g.params, g.result, g.regs, g.blocks⟩ : PFunc), ins, F, L, pl.1, pl.2, nr, np, nz, nd, S, E⟩ : PBuilder) := ⟨rfl, p2, n4, by have := p3.few; simp only at n2 ⊢; omega, v2, v3⟩
        obtain ⟨z, z1, z2, z3, z4⟩ := blocks_ok hf hRr (numF s) (ins, ends, GErr.no) F L pl (nr, np, nz, nd) (S, E) hBl
        rw [z1]
        simp only [Option.bind_some, ssa_Build.nx57]
        by_cases hbig : z.2 > 256 ∨ len nr > 256
        · rw [if_pos hbig]
          exact ⟨_, rfl, smE, fun h => by cases h⟩
        · rw [if_neg hbig]
          simp only [len] at hbig
          have hn := hf.1
          have hsum : (z.1.map fun (B : PBlock) => B.phis.length + B.ins.length + 1).sum ≤ 256 := by omega
          refine ⟨_, rfl, ⟨by simp only; omega, by simp only; omega, hf.2.2.1, fun C hC => ?_⟩, fun _ => ⟨k', rfl, hk, g, _, _, hf, by rw [← hgg]; rfl, by rw [← hgg]; rfl, by rw [← hgg]; rfl, hp, hfo, ⟨hfull, ⟨N, L, hN, ⟨v5.qs, v5.qe⟩⟩, rfl, rfl, z2, hBl, z3, n5, n2, hphi, hsum, by simp only; omega, fun i hi t o ho a ha => ins_has hfull hN hF2 hLI hFx hphi hRr p4 v4 i hi t o ho a ha, fun i hi a ha => arg_has hfull hN hF2 hLI hFx hphi hRr p4 v4 i hi a ha, fun i hi x hx p hp => phi_has hfull hN hF2 hLI hFx hphi p4 v4 i hi x hx p hp⟩⟩⟩
          obtain ⟨j, hj, hjC⟩ := List.getElem_of_mem hC
          simp only at hj hjC
          obtain ⟨D, d1, d2⟩ := z3 j (by omega)
          have hDC : D = C := by
            rw [List.getElem?_eq_getElem hj, hjC] at d1; exact (Option.some.inj d1).symm
          subst hDC
          have hBj := hf.2.2.2 _ (List.getElem_mem (show j < g.blocks.length by omega))
          obtain ⟨s1, s2, s3, s4⟩ := d2.sizes hBl (by omega) hf hBj (by have := preds_length (nexts g) j; rw [nexts_length] at this; omega)
          have hle : D.phis.length + D.ins.length + 1 ≤ (z.1.map fun (B : PBlock) => B.phis.length + B.ins.length + 1).sum := le_sum _ _ (List.mem_map.2 ⟨D, hC, rfl⟩)
          exact ⟨by omega, by omega, by rw [d2.to]; exact hBj.2.2.1, s3, s4⟩
  · rw [if_pos h]
    exact ⟨_, rfl, smE, fun h' => absurd h' h⟩
end Go.Proofs.Yteaknconpkklhaa
