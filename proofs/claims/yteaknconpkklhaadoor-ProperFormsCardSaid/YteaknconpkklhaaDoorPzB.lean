/- Several parts in one text, the first of which: Plain laws, part y-A: what a pass over nearest ones leads to: trees of places that shrink. No conditions. -/
import Derived.Test.YteaknconpkklhaaDoorPzA
set_option linter.unusedVariables false
set_option linter.unusedSimpArgs false
namespace Go.Proofs.YteaknconpkklhaaDoor
open Go Go.Proofs
inductive Anc (M : Nat → Nat) (z : Nat) : Nat → Prop
  | refl : Anc M z z
  | step {b : Nat} : b ≠ 0 → Anc M z (M b) → Anc M z b
def Dn (n : Nat) (M : Nat → Nat) : Prop := ∀ b, b ≠ 0 → b < n → M b < b
variable {n : Nat} {M M' : Nat → Nat}
theorem Anc.cases' {z b : Nat} (h : Anc M z b) : z = b ∨ (b ≠ 0 ∧ Anc M z (M b)) := by
  cases h with
  | refl => exact .inl rfl
  | step h1 h2 => exact .inr ⟨h1, h2⟩
theorem Anc.le (hM : Dn n M) {z b : Nat} (h : Anc M z b) (hb : b < n) : z ≤ b := by
  induction h with
  | refl => exact Nat.le_refl _
  | step h1 h2 ih => have := hM _ h1 hb; have := ih (by omega); omega
theorem Anc.trans {z y b : Nat} (h : Anc M z y) (h' : Anc M y b) : Anc M z b := by
  induction h' with
  | refl => exact h
  | step h1 h2 ih => exact .step h1 ih
theorem Anc.agree (hM : Dn n M) {z b : Nat} (h : Anc M z b) (hb : b < n) (he : ∀ j, j ≤ b → M j = M' j) : Anc M' z b := by
  induction h with
  | refl => exact .refl
  | step h1 h2 ih =>
    have := hM _ h1 hb
    refine .step h1 ?_
    rw [← he _ (Nat.le_refl _)]
    exact ih (by omega) (fun j hj => he j (by omega))
def mixA (i : Nat) (A B : Nat → Nat) : Nat → Nat := fun j => if j < i then A j else B j
theorem mixA_lt {i j : Nat} {A B : Nat → Nat} (h : j < i) : mixA i A B j = A j := if_pos h
theorem mixA_ge {i j : Nat} {A B : Nat → Nat} (h : i ≤ j) : mixA i A B j = B j := if_neg (by omega)
theorem Dn.mixA {i : Nat} {A B : Nat → Nat} (hA : ∀ b, b ≠ 0 → b < i → A b < b) (hB : Dn n B) : Dn n (mixA i A B) := by
  intro b h0 hb
  unfold Go.Proofs.YteaknconpkklhaaDoor.mixA
  split
  · exact hA b h0 ‹_›
  · exact hB b h0 hb
theorem mixA_anc {i : Nat} {A B : Nat → Nat} (hA : Dn n A) {z b : Nat} (hb : b < i) (hn : b < n) (hX : Dn n (mixA i A B)) : Anc (mixA i A B) z b ↔ Anc A z b :=
  ⟨fun h => h.agree hX hn (fun j hj => mixA_lt (by omega)), fun h => h.agree hA hn (fun j hj => (mixA_lt (by omega)).symm)⟩
/-- Where the way up from p comes below i. -/
theorem split_at (i : Nat) {B : Nat → Nat} (hB : Dn n B) : ∀ p, i ≤ p → p < n → 0 < i → ∃ g, g < i ∧ Anc B g p ∧ (∀ y, Anc B y p → y < i → y ≤ g) ∧ ∀ A : Nat → Nat, Dn n A → ∀ z, z < i → (Anc (mixA i A B) z p ↔ Anc A z g) := by
  intro p
  induction p using Nat.strongRecOn with
  | _ p ih =>
    intro hi hp h0
    have hp0 : p ≠ 0 := by omega
    have hlt := hB p hp0 hp
    by_cases hc : B p < i
    · refine ⟨B p, hc, .step hp0 .refl, fun y hy hyi => ?_, fun A hA z hz => ?_⟩
      · rcases hy.cases' with rfl | ⟨_, h⟩
        · omega
        · exact h.le hB (by omega)
      · have hX : Dn n (mixA i A B) := Dn.mixA (fun b h0 hb => hA b h0 (by omega)) hB
        constructor
        · intro h
          rcases h.cases' with rfl | ⟨_, h⟩
          · omega
          · rw [mixA_ge hi] at h
            exact (mixA_anc hA hc (by omega) hX).1 h
        · intro h
          refine .step hp0 ?_
          rw [mixA_ge hi]
          exact (mixA_anc hA hc (by omega) hX).2 h
    · obtain ⟨g, g1, g2, g3, g4⟩ := ih (B p) hlt (by omega) (by omega) h0
      refine ⟨g, g1, .step hp0 g2, fun y hy hyi => ?_, fun A hA z hz => ?_⟩
      · rcases hy.cases' with rfl | ⟨_, h⟩
        · omega
        · exact g3 y h hyi
      · constructor
        · intro h
          rcases h.cases' with rfl | ⟨_, h⟩
          · omega
          · rw [mixA_ge hi] at h
            exact (g4 A hA z hz).1 h
        · intro h
          refine .step hp0 ?_
          rw [mixA_ge hi]
          exact (g4 A hA z hz).2 h
/-! ### Passes -/
variable {P : Nat → Nat → Prop}
/-- P p i: place p leads to place i. -/
structure Lead (n : Nat) (P : Nat → Nat → Prop) : Prop where
  lt : ∀ p i, P p i → i < n → p < n
  fwd : ∀ i, 0 < i → i < n → ∃ q, P q i ∧ q < i
def First (n : Nat) (P : Nat → Nat → Prop) (N : Nat → Nat) : Prop := ∀ i, 0 < i → i < n → ∀ z, Anc N z (N i) ↔ ∀ p, P p i → p < i → Anc N z p
def Pass (n : Nat) (P : Nat → Nat → Prop) (O N : Nat → Nat) : Prop := ∀ i, 0 < i → i < n → ∀ z, Anc N z (N i) ↔ ∀ p, P p i → Anc (mixA i N O) z p
def Fwd (n : Nat) (P : Nat → Nat → Prop) (N : Nat → Nat) : Prop := ∀ i q z, 0 < i → i < n → P q i → q < i → Anc N z i → z = i ∨ Anc N z q
theorem First.fwd {N : Nat → Nat} (h : First n P N) : Fwd n P N := fun i q z h0 hi hq hlt ha => by
  rcases ha.cases' with rfl | ⟨_, h1⟩
  · exact .inl rfl
  · exact .inr ((h i h0 hi z).1 h1 q hq hlt)
theorem Pass.fwd {O N : Nat → Nat} (h : Pass n P O N) (hO : Dn n O) (hN : Dn n N) : Fwd n P N := fun i q z h0 hi hq hlt ha => by
  rcases ha.cases' with rfl | ⟨_, h1⟩
  · exact .inl rfl
  · exact .inr ((mixA_anc hN hlt (by omega) (Dn.mixA (fun b hb hbi => hN b hb (by omega)) hO)).1 ((h i h0 hi z).1 h1 q hq))
/-- A way on, place by place. -/
inductive Way (P : Nat → Nat → Prop) (g : Nat) : Nat → Prop
  | refl : Way P g g
  | step {q p : Nat} : Way P g q → P q p → q < p → Way P g p
theorem Way.le {g p : Nat} (h : Way P g p) : g ≤ p := by
  induction h with
  | refl => exact Nat.le_refl _
  | step _ _ h3 ih => omega
theorem Way.down {N : Nat → Nat} (hN : Dn n N) (hF : Fwd n P N) {g p z : Nat} (h : Way P g p) (hp : p < n) (hz : Anc N z p) (hzg : z ≤ g) : Anc N z g ∧ g ≤ p := by
  induction h with
  | refl => exact ⟨hz, Nat.le_refl _⟩
  | @step q p h1 h2 h3 ih =>
    have hgq : g ≤ q := h1.le
    rcases hF p q z (by omega) hp h2 h3 hz with rfl | h4
    · omega
    · exact ⟨(ih (by omega) h4).1, by omega⟩
theorem Anc.way {N : Nat → Nat} (hL : Lead n P) (hN : Dn n N) (hF : Fwd n P N) {g : Nat} : ∀ p, p < n → Anc N g p → Way P g p := by
  intro p
  induction p using Nat.strongRecOn with
  | _ p ih =>
    intro hp h
    by_cases he : g = p
    · subst he; exact .refl
    · have h0 : 0 < p := by
        rcases Nat.eq_zero_or_pos p with h0 | h0
        · subst h0; have := h.le hN hp; omega
        · exact h0
      obtain ⟨q, hq, hlt⟩ := hL.fwd p h0 hp
      rcases hF p q g h0 hp hq hlt h with h1 | h1
      · exact absurd h1 he
      · exact .step (ih q hlt (by omega) h1) hq hlt
/-- Come to from place 0 without place z. -/
inductive Free (n : Nat) (P : Nat → Nat → Prop) (z : Nat) : Nat → Prop
  | base : z ≠ 0 → Free n P z 0
  | step {p i : Nat} : Free n P z p → P p i → i < n → i ≠ z → Free n P z i
/-- What dominates a place dominates what stands above it, or is it. -/
def Tru (n k : Nat) (P : Nat → Nat → Prop) (M : Nat → Nat) : Prop := ∀ i, 0 < i → i < k → ∀ z, z ≠ i → ¬ Free n P z i → ¬ Free n P z (M i)
theorem Tru.anc {k : Nat} {M : Nat → Nat} (hM : Dn k M) (hT : Tru n k P M) {z : Nat} : ∀ b, b < k → ¬ Free n P z b → Anc M z b := by
  intro b
  induction b using Nat.strongRecOn with
  | _ b ih =>
    intro hb hz
    by_cases e : z = b
    · subst e; exact .refl
    rcases Nat.eq_zero_or_pos b with h0 | h0
    · subst h0; exact absurd (.base e) hz
    · have hlt := hM b (by omega) hb
      exact .step (by omega) (ih (M b) hlt (by omega) (hT b h0 hb z e hz))
theorem Tru.mid {k : Nat} {M : Nat → Nat} (hM : Dn k M) (hT : Tru n k P M) {z κ p : Nat} (h : Anc M κ p) (hp : p < k) (hz : Anc M z κ) (hf : ¬ Free n P z p) : ¬ Free n P z κ := by
  induction h with
  | refl => exact hf
  | @step b h0 h2 ih =>
    have hlt := hM b h0 hp
    have h1 := h2.le hM (by omega)
    have h3 := hz.le hM (by omega)
    exact ih (by omega) (hT b (by omega) hp z (by omega) hf)
theorem Tru.up {X N : Nat → Nat} (hL : Lead n P) (hX : Dn n X) {i : Nat} (h0 : 0 < i) (hi : i < n) (hT : Tru n i P X) (hNi : N i < i) (hN : ∀ j, j < i → N j = X j) (h : ∀ z, Anc X z (N i) ↔ ∀ p, P p i → p < i → Anc X z p) : ∀ z, z ≠ i → ¬ Free n P z i → ¬ Free n P z (N i) := by
  intro z hz hf
  have hXi : Dn i X := fun b hb hbi => hX b hb (by omega)
  have hall : ∀ p, P p i → ¬ Free n P z p := fun p hp hfp => hf (.step hfp hp hi (Ne.symm hz))
  obtain ⟨q, hq, hlt⟩ := hL.fwd i h0 hi
  have h1 : Anc X z (N i) := (h z).2 fun p hp hpi => Tru.anc hXi hT p hpi (hall p hp)
  have h2 : Anc X (N i) q := (h (N i)).1 .refl q hq hlt
  exact Tru.mid hXi hT h2 hlt h1 (hall q hq)
theorem First.tru {N : Nat → Nat} (hL : Lead n P) (hN : Dn n N) (h : First n P N) : Tru n n P N := by
  have : ∀ k, k ≤ n → Tru n k P N := by
    intro k
    induction k with
    | zero => intro _ i _ hi; omega
    | succ k ih =>
      intro hk i h0 hi
      rcases Nat.lt_or_ge i k with hlt | hge
      · exact ih (by omega) i h0 hlt
      · obtain rfl : i = k := by omega
        exact Tru.up hL hN h0 (by omega) (ih (by omega)) (hN i (by omega) (by omega)) (fun _ _ => rfl) (h i h0 (by omega))
  exact this n (Nat.le_refl _)
theorem Pass.tru {O N : Nat → Nat} (hL : Lead n P) (hO : Dn n O) (hT : Tru n n P O) (hN : Dn n N) (h : Pass n P O N) : Tru n n P N := by
  have : ∀ k, k ≤ n → Tru n k P N := by
    intro k
    induction k with
    | zero => intro _ i _ hi; omega
    | succ k ih =>
      intro hk i h0 hi z hz hf
      rcases Nat.lt_or_ge i k with hlt | hge
      · exact ih (by omega) i h0 hlt z hz hf
      · obtain rfl : i = k := by omega
        have hX : Dn n (mixA i N O) := Dn.mixA (fun b hb hbi => hN b hb (by omega)) hO
        have hTX : Tru n n P (mixA i N O) := fun j j0 jn y hy hfy => by
          rcases Nat.lt_or_ge j i with hj | hj
          · rw [mixA_lt hj]; exact ih (by omega) j j0 hj y hy hfy
          · rw [mixA_ge hj]; exact hT j j0 jn y hy hfy
        have hall : ∀ p, P p i → ¬ Free n P z p := fun p hp hfp => hf (.step hfp hp (by omega) (Ne.symm hz))
        obtain ⟨q, hq, hlt⟩ := hL.fwd i h0 (by omega)
        have hNi := hN i (by omega) (by omega)
        have h1 : Anc N z (N i) := (h i h0 (by omega) z).2 fun p hp => Tru.anc hX hTX p (hL.lt p i hp (by omega)) (hall p hp)
        have h2 : Anc (mixA i N O) (N i) q := (h i h0 (by omega) (N i)).1 .refl q hq
        exact Tru.mid hX hTX h2 (by omega) ((mixA_anc hN hNi (by omega) hX).2 h1) (hall q hq)
  exact this n (Nat.le_refl _)
/-- A tree that a pass leaves as it is, is on all ways. -/
theorem Pass.onway {N : Nat → Nat} (hN : Dn n N) (h : Pass n P N N) (hL : Lead n P) {z b : Nat} (hf : Free n P z b) (hb : b < n) : ¬ Anc N z b := by
  induction hf with
  | base hz => intro ha; have := ha.le hN hb; omega
  | @step p i hp hpi hi hne ih =>
    intro ha
    have hpn := hL.lt p i hpi hi
    have hmx : mixA i N N = N := by funext x; unfold Go.Proofs.YteaknconpkklhaaDoor.mixA; split <;> rfl
    rcases ha.cases' with e | ⟨h0, h1⟩
    · exact hne e.symm
    · have := (h i (by omega) hi z).1 h1 p hpi
      rw [hmx] at this
      exact ih hpn this
/-- What stands at a round's head behind the first pass. -/
structure Hist (n : Nat) (P : Nat → Nat → Prop) (O : Nat → Nat) : Prop where
  dn : Dn n O
  fwd : Fwd n P O
  tru : Tru n n P O
  prev : First n P O ∨ ∃ O', Dn n O' ∧ Fwd n P O' ∧ Pass n P O' O ∧ ∀ z i, i < n → Anc O z i → Anc O' z i
theorem Hist.mono {O N : Nat → Nat} (hL : Lead n P) (h : Hist n P O) (hN : Dn n N) (hp : Pass n P O N) : ∀ i, i < n → ∀ z, Anc N z i → Anc O z i := by
  intro i
  induction i using Nat.strongRecOn with
  | _ i ih =>
    intro hi z hz
    rcases hz.cases' with rfl | ⟨h0, hz1⟩
    · exact .refl
    have h0' : 0 < i := by omega
    have hlt := hN i h0 hi
    have hzi : z < i := by have := hz1.le hN (by omega); omega
    have hall := (hp i h0' hi z).1 hz1
    have hmN : Dn n (mixA i N O) := Dn.mixA (fun b hb hbi => hN b hb (by omega)) h.dn
    refine .step h0 ?_
    rcases h.prev with hf | ⟨O', d', f', p', m'⟩
    · refine (hf i h0' hi z).2 fun p hpi hplt => ?_
      exact ih p hplt (by omega) z ((mixA_anc hN hplt (by omega) hmN).1 (hall p hpi))
    · refine (p' i h0' hi z).2 fun p hpi => ?_
      have hpn := hL.lt p i hpi hi
      have hmO : Dn n (mixA i O O') := Dn.mixA (fun b hb hbi => h.dn b hb (by omega)) d'
      rcases Nat.lt_or_ge p i with hplt | hpge
      · exact (mixA_anc h.dn hplt hpn hmO).2 (ih p hplt hpn z ((mixA_anc hN hplt hpn hmN).1 (hall p hpi)))
      · obtain ⟨g, g1, g2, g3, g4⟩ := split_at i h.dn p hpge hpn h0'
        obtain ⟨g', k1, k2, k3, k4⟩ := split_at i d' p hpge hpn h0'
        have hzg : Anc N z g := (g4 N hN z hzi).1 (hall p hpi)
        have hOg : Anc O z g := ih g g1 (by omega) z hzg
        have hOp : Anc O z p := hOg.trans g2
        have hgg : g ≤ g' := k3 g (m' g p hpn g2) g1
        have hzle : z ≤ g := hzg.le hN (by omega)
        exact (k4 O h.dn z hzi).2 (Way.down h.dn h.fwd (Anc.way hL d' f' p hpn k2) hpn hOp (by omega)).1
theorem Hist.next {O N : Nat → Nat} (hL : Lead n P) (h : Hist n P O) (hN : Dn n N) (hp : Pass n P O N) : Hist n P N ∧ ∀ i, i < n → 0 < i → N i ≤ O i := by
  have hm := h.mono hL hN hp
  refine ⟨⟨hN, hp.fwd h.dn hN, hp.tru hL h.dn h.tru hN, .inr ⟨O, h.dn, h.fwd, hp, fun z i hi hz => hm i hi z hz⟩⟩, fun i hi h0 => ?_⟩
  have h1 : Anc O (N i) i := hm i hi (N i) (.step (by omega) .refl)
  have hlt := hN i (by omega) hi
  rcases h1.cases' with h2 | ⟨_, h2⟩
  · omega
  · exact h2.le h.dn (by have := h.dn i (by omega) hi; omega)
end Go.Proofs.YteaknconpkklhaaDoor
set_option linter.unusedVariables false
set_option linter.unusedSimpArgs false
namespace Go.Proofs.YteaknconpkklhaaDoor
open Go Go.Proofs
/-- A function all whose blocks are reached, in their order. -/
structure Full (f : PFunc) (R : List Int) : Prop where
  sm : SmF f
  pos : 0 < f.blocks.length
  ord : graph_Order f = some R
  rea : graph_Reached f = some (List.replicate f.blocks.length true)
  len : R.length = f.blocks.length
  all : ∀ i (hi : i < R.length), ∃ v : Nat, R[i] = v ∧ v < f.blocks.length
  mem : ∀ v : Nat, v < f.blocks.length → (v : Int) ∈ R
  nodup : R.Nodup
  head : R[0]? = some 0
  led : ∀ i (hi : i < R.length), 0 < i → ∃ k, ∃ hk : k < i, ∃ u : Nat, R[k]'(by omega) = (u : Int) ∧ ∃ hu : u < f.blocks.length, R[i] ∈ f.blocks[u].term.to
theorem full_of (f : PFunc) (hf : SmF f) (hpos : 0 < f.blocks.length) {s : List Bool} {o : List Int} (hw : Walked f s o) (hs : s = List.replicate f.blocks.length true) : Full f o.reverse := by
  have hO := ord_any f hf hw
  obtain ⟨s1, o1, hw1, h10, h11⟩ := walked_any f hf
  obtain rfl : s1 = s := Option.some.inj (hw1.rea.symm.trans hw.rea)
  have ho : o.reverse = o1.reverse := Option.some.inj (hw.ord.symm.trans hw1.ord)
  obtain rfl : o = o1 := by rw [← List.reverse_reverse o, ho, List.reverse_reverse]
  obtain ⟨hV, hs0, hit⟩ := h11 hpos
  obtain ⟨new, hn1, hn2, hn3⟩ := hV.app
  simp only [List.nil_append] at hn1
  subst hn1
  have hlen : o.reverse.length = f.blocks.length := by rw [hO.cnt, hs, List.count_replicate_self]
  refine ⟨hf, hpos, hw.ord, hs ▸ hw.rea, hlen, fun i hi => ?_, fun v hv => ?_, hO.nodup, ?_, hO.led⟩
  · obtain ⟨v, h1, h2, _⟩ := hO.all _ (List.getElem_mem hi)
    exact ⟨v, h1, h2⟩
  · rw [List.mem_reverse, hn3]
    exact ⟨v, rfl, by rw [hs]; simp [hv], by simp [hv]⟩
  · rcases hO.head with h | ⟨p, h⟩
    · rw [h] at hlen; simp at hlen; omega
    · rw [h]; rfl
def ob (R : List Int) (i : Nat) : Nat := (R.getD i 0).toNat
def pb (R : List Int) (b : Nat) : Nat := R.idxOf (b : Int)
section
variable {f : PFunc} {R : List Int}
theorem Full.get (h : Full f R) {i : Nat} (hi : i < f.blocks.length) : R[i]? = some ((ob R i : Nat) : Int) ∧ ob R i < f.blocks.length := by
  have hi' : i < R.length := by rw [h.len]; exact hi
  obtain ⟨v, h1, h2⟩ := h.all i hi'
  have : ob R i = v := by unfold ob; rw [List.getD_eq_getElem?_getD, List.getElem?_eq_getElem hi', h1]; rfl
  rw [this, List.getElem?_eq_getElem hi', h1]
  exact ⟨rfl, h2⟩
theorem Full.pb_ob (h : Full f R) {i : Nat} (hi : i < f.blocks.length) : pb R (ob R i) = i := by
  have hi' : i < R.length := by rw [h.len]; exact hi
  obtain ⟨h1, _⟩ := h.get hi
  rw [List.getElem?_eq_getElem hi'] at h1
  unfold pb
  rw [← Option.some.inj h1]
  exact h.nodup.idxOf_getElem i hi'
theorem Full.ob_pb (h : Full f R) {b : Nat} (hb : b < f.blocks.length) : ob R (pb R b) = b ∧ pb R b < f.blocks.length := by
  have hm := h.mem b hb
  have hlt : pb R b < R.length := List.idxOf_lt_length_of_mem hm
  refine ⟨?_, by rw [← h.len]; exact hlt⟩
  unfold ob
  rw [List.getD_eq_getElem?_getD, List.getElem?_eq_getElem hlt]
  show (R[R.idxOf (b : Int)]'hlt).toNat = b
  rw [List.getElem_idxOf hlt]; rfl
theorem Full.ob0 (h : Full f R) : ob R 0 = 0 := by
  obtain ⟨h1, _⟩ := h.get h.pos
  rw [h.head] at h1
  have := Option.some.inj h1
  omega
theorem Full.pb0 (h : Full f R) : pb R 0 = 0 := by
  have := h.pb_ob h.pos
  rwa [h.ob0] at this
theorem Full.ob_inj (h : Full f R) {i j : Nat} (hi : i < f.blocks.length) (hj : j < f.blocks.length) (he : ob R i = ob R j) : i = j := by
  rw [← h.pb_ob hi, ← h.pb_ob hj, he]
/-! ### Nearest ones as a list of blocks -/
structure Ts (f : PFunc) (R : List Int) (D : Nat → Prop) (M : Nat → Nat) (S : List Int) : Prop where
  len : S.length = f.blocks.length
  on : ∀ j, j < f.blocks.length → D j → S[ob R j]? = some ((ob R (M j) : Nat) : Int)
  off : ∀ j, j < f.blocks.length → ¬ D j → S[ob R j]? = some (-1)
  dn : Dn f.blocks.length M
  cl : ∀ j, j < f.blocks.length → D j → D (M j)
def plL (f : PFunc) (R : List Int) : List Int := (List.range f.blocks.length).map fun b => ((pb R b : Nat) : Int)
theorem plL_get {b : Nat} (hb : b < f.blocks.length) : idx (plL f R) (b : Int) = some ((pb R b : Nat) : Int) := by
  rw [idx_nat]; simp [plL, hb]
theorem Full.plL_ob (h : Full f R) {i : Nat} (hi : i < f.blocks.length) : idx (plL f R) ((ob R i : Nat) : Int) = some (i : Int) := by
  rw [plL_get (h.get hi).2, h.pb_ob hi]
variable {D : Nat → Prop} {M : Nat → Nat} {S : List Int}
theorem Ts.get (hS : Ts f R D M S) {j : Nat} (hj : j < f.blocks.length) (hD : D j) : idx S ((ob R j : Nat) : Int) = some ((ob R (M j) : Nat) : Int) := by rw [idx_nat]; exact hS.on j hj hD
theorem small_max {m : Nat} (h : m ≤ 1000000) : m < FUEL := lt_FUEL (by simp only [maxLen]; omega)
/-- Up from a until it isn't behind b. -/
theorem up_to (h : Full f R) (hS : Ts f R D M S) (β : Nat) (hβ : β < f.blocks.length) (body : Int → Option (Ex Int Int))
    (hb : ∀ α, α < f.blocks.length → D α → body ((ob R α : Nat) : Int) = some (if (α : Int) > (β : Int) then .go ((ob R (M α) : Nat) : Int) else .ret ((ob R α : Nat) : Int))) (α : Nat) (hα : α < f.blocks.length) (hD : D α) :
    ∃ α', whl body FUEL ((ob R α : Nat) : Int) = some ((ob R α' : Nat) : Int) ∧ α' < f.blocks.length ∧ D α' ∧ α' ≤ α ∧ α' ≤ β ∧ ∀ z, z ≤ β → (Anc M z α' ↔ Anc M z α) := by
  have hn := h.sm.1
  obtain ⟨r, hr, a', h1, h2⟩ := whl_ex (body := body) (fun s => ∃ a, s = ((ob R a : Nat) : Int) ∧ a < f.blocks.length ∧ D a ∧ a ≤ α ∧ ∀ z, z ≤ β → (Anc M z a ↔ Anc M z α)) (fun s => pb R s.toNat)
    (fun r => ∃ a, r = ((ob R a : Nat) : Int) ∧ a < f.blocks.length ∧ D a ∧ a ≤ α ∧ a ≤ β ∧ ∀ z, z ≤ β → (Anc M z a ↔ Anc M z α)) (by
      rintro s ⟨a, rfl, g1, g2, g3, g4⟩
      rw [hb a g1 g2]
      by_cases hc : (a : Int) > (β : Int)
      · rw [if_pos hc]
        have ha0 : a ≠ 0 := by omega
        have hlt := hS.dn a ha0 g1
        refine .inr ⟨_, rfl, ⟨M a, rfl, by omega, hS.cl a g1 g2, by omega, fun z hz => ?_⟩, ?_⟩
        · rw [← g4 z hz]
          constructor
          · exact fun k => .step ha0 k
          · intro k
            rcases k.cases' with rfl | ⟨_, k⟩
            · omega
            · exact k
        · rw [Int.toNat_natCast, Int.toNat_natCast, h.pb_ob g1, h.pb_ob (by omega)]; exact hlt
      · rw [if_neg hc]
        exact .inl ⟨_, rfl, a, rfl, g1, g2, g3, by omega, g4⟩) FUEL _ ⟨α, rfl, hα, hD, Nat.le_refl _, fun z _ => Iff.rfl⟩ (by rw [Int.toNat_natCast, h.pb_ob hα]; exact small_max (by omega))
  exact ⟨a', by rw [hr, h1], h2⟩
theorem meet_ok (h : Full f R) (hS : Ts f R D M S) (α β : Nat) (hα : α < f.blocks.length) (hβ : β < f.blocks.length) (hDa : D α) (hDb : D β) :
    ∃ κ, dom_meet S (plL f R) ((ob R α : Nat) : Int) ((ob R β : Nat) : Int) = some ((ob R κ : Nat) : Int) ∧ κ < f.blocks.length ∧ D κ ∧ ∀ z, Anc M z κ ↔ (Anc M z α ∧ Anc M z β) := by
  have hn := h.sm.1
  unfold dom_meet
  obtain ⟨r, hr, κ, h1, h2, h3, h4⟩ := whl_ex (body := fun (s : Int × Int) => dom_meet.bd8 S (plL f R) s.1 s.2)
    (fun s => ∃ a b, s = (((ob R a : Nat) : Int), ((ob R b : Nat) : Int)) ∧ a < f.blocks.length ∧ b < f.blocks.length ∧ D a ∧ D b ∧ ∀ z, (Anc M z a ∧ Anc M z b) ↔ (Anc M z α ∧ Anc M z β))
    (fun s => pb R s.1.toNat + pb R s.2.toNat) (fun r => ∃ κ, r = ((ob R κ : Nat) : Int) ∧ κ < f.blocks.length ∧ D κ ∧ ∀ z, Anc M z κ ↔ (Anc M z α ∧ Anc M z β)) (by
      rintro s ⟨a, b, rfl, ha, hb, hDa, hDb, hz⟩
      simp only [dom_meet.bd8]
      by_cases hc : ((ob R a : Nat) : Int) = ((ob R b : Nat) : Int)
      · have hab : a = b := h.ob_inj ha hb (by omega)
        subst hab
        rw [if_neg (by simp)]
        exact .inl ⟨_, rfl, a, rfl, ha, hDa, fun z => by rw [← hz z, and_self]⟩
      · rw [if_pos hc]
        obtain ⟨a', g1, g2, g3, g4, g5, g6⟩ := up_to h hS b hb (fun s => dom_meet.bd24 S (plL f R) ((ob R b : Nat) : Int) s) (fun x hx hDx => by
          simp only [dom_meet.bd24, h.plL_ob hx, h.plL_ob hb, Option.bind_some, hS.get hx hDx]
          split <;> rfl) a ha hDa
        rw [g1]
        simp only [Option.bind_some, dom_meet.nx24]
        obtain ⟨b', k1, k2, k3, k4, k5, k6⟩ := up_to h hS a' g2 (fun s => dom_meet.bd31 S (plL f R) ((ob R a' : Nat) : Int) s) (fun x hx hDx => by
          simp only [dom_meet.bd31, h.plL_ob hx, h.plL_ob g2, Option.bind_some, hS.get hx hDx]
          split <;> rfl) b hb hDb
        rw [k1]
        simp only [Option.bind_some, dom_meet.nx31]
        refine .inr ⟨_, rfl, ⟨a', b', rfl, g2, k2, g3, k3, fun z => ?_⟩, ?_⟩
        · rw [← hz z]
          constructor
          · rintro ⟨m1, m2⟩
            have l1 := m1.le hS.dn g2
            have l2 := m2.le hS.dn k2
            exact ⟨(g6 z (by omega)).1 m1, (k6 z (by omega)).1 m2⟩
          · rintro ⟨m1, m2⟩
            have l1 := m1.le hS.dn ha
            have l2 := m2.le hS.dn hb
            have m3 := (g6 z (by omega)).2 m1
            have l3 := m3.le hS.dn g2
            exact ⟨m3, (k6 z l3).2 m2⟩
        · have hne : a ≠ b := fun e => hc (by rw [e])
          simp only [Int.toNat_natCast]
          rw [h.pb_ob ha, h.pb_ob hb, h.pb_ob g2, h.pb_ob k2]
          omega) FUEL _ ⟨α, β, rfl, hα, hβ, hDa, hDb, fun z => Iff.rfl⟩ (by simp only [Int.toNat_natCast]; rw [h.pb_ob hα, h.pb_ob hβ]; exact small_max (by omega))
  exact ⟨κ, by rw [hr, h1]; rfl, h2, h3, h4⟩
end
end Go.Proofs.YteaknconpkklhaaDoor
set_option linter.unusedVariables false
set_option linter.unusedSimpArgs false
namespace Go.Proofs.YteaknconpkklhaaDoor
open Go Go.Proofs
section
variable {f : PFunc} {R : List Int}
/-- Place p leads to place i. -/
def Pl (f : PFunc) (R : List Int) (p i : Nat) : Prop := p < f.blocks.length ∧ ((ob R i : Nat) : Int) ∈ (nexts f).getD (ob R p) []
theorem mem_preds (nx : List (List Int)) (t : Nat) (x : Int) : x ∈ preds nx t ↔ ∃ j : Nat, x = j ∧ j < nx.length ∧ (t : Int) ∈ nx.getD j [] := by
  unfold preds
  simp only [List.mem_map, List.mem_filter, List.mem_range, decide_eq_true_eq]
  constructor
  · rintro ⟨j, ⟨h1, h2⟩, rfl⟩; exact ⟨j, rfl, h1, h2⟩
  · rintro ⟨j, rfl, h1, h2⟩; exact ⟨j, ⟨h1, h2⟩, rfl⟩
theorem nexts_getD (f : PFunc) {v : Nat} (h : v < f.blocks.length) : (nexts f).getD v [] = succs f.blocks.length f.blocks[v].term.to := by
  rw [List.getD_eq_getElem?_getD, nexts_get f v h]; rfl
theorem Full.lead (h : Full f R) : Lead f.blocks.length (Pl f R) := by
  refine ⟨fun p i hp _ => hp.1, fun i h0 hi => ?_⟩
  obtain ⟨k, hk, u, h1, hu, h2⟩ := h.led i (by rw [h.len]; exact hi) h0
  have hk' : k < f.blocks.length := by omega
  have hob : ob R k = u := by
    have := (h.get hk').1
    rw [List.getElem?_eq_getElem (by rw [h.len]; exact hk'), h1] at this
    have := Option.some.inj this; omega
  have hobi : R[i]'(by rw [h.len]; exact hi) = ((ob R i : Nat) : Int) := by
    have := (h.get hi).1
    rw [List.getElem?_eq_getElem (by rw [h.len]; exact hi)] at this
    exact Option.some.inj this
  refine ⟨k, ⟨hk', ?_⟩, hk⟩
  rw [hob, nexts_getD f hu, mem_succs]
  rw [hobi] at h2
  have := (h.get hi).2
  exact ⟨h2, by omega, by omega⟩
/-- The blocks that lead to the block of place i, as places. -/
theorem Full.preds (h : Full f R) {i : Nat} (hi : i < f.blocks.length) : ∀ x ∈ preds (nexts f) (ob R i), ∃ p, x = ((ob R p : Nat) : Int) ∧ p < f.blocks.length ∧ Pl f R p i := fun x hx => by
  obtain ⟨j, rfl, h1, h2⟩ := (mem_preds _ _ _).1 hx
  rw [nexts_length] at h1
  obtain ⟨g1, g2⟩ := h.ob_pb h1
  exact ⟨pb R j, by rw [g1], g2, g2, by rw [g1]; exact h2⟩
theorem Full.preds' (h : Full f R) {i p : Nat} (hp : Pl f R p i) : ((ob R p : Nat) : Int) ∈ Go.Proofs.YteaknconpkklhaaDoor.preds (nexts f) (ob R i) :=
  (mem_preds _ _ _).2 ⟨ob R p, rfl, by rw [nexts_length]; exact (h.get hp.1).2, hp.2⟩
/-! ### One place -/
variable {D : Nat → Prop} {M : Nat → Nat} {S : List Int}
/-- What is best, behind some of those that lead to a place. -/
def Best (f : PFunc) (R : List Int) (D : Nat → Prop) (M : Nat → Nat) (l : List Int) (b : Int) : Prop :=
  (b = -1 ∧ ∀ p, p < f.blocks.length → ((ob R p : Nat) : Int) ∈ l → ¬ D p) ∨
  ∃ κ, b = ((ob R κ : Nat) : Int) ∧ κ < f.blocks.length ∧ D κ ∧ ∀ z, Anc M z κ ↔ ∀ p, p < f.blocks.length → ((ob R p : Nat) : Int) ∈ l → D p → Anc M z p
theorem best_ok (h : Full f R) [hdec : DecidablePred D] (hS : Ts f R D M S) (l : List Int) (hl : l.length ≤ 1000) (hin : ∀ x ∈ l, ∃ p, x = ((ob R p : Nat) : Int) ∧ p < f.blocks.length)
    (hany : ∃ q, q < f.blocks.length ∧ ((ob R q : Nat) : Int) ∈ l ∧ D q) :
    ∃ κ, whl (fun (s : Int × Int) => dom_Nearest.bd84 (plL f R) S l s.1 s.2) FUEL (-1, 0) = some ((ob R κ : Nat) : Int) ∧ κ < f.blocks.length ∧ D κ ∧ ∀ z, Anc M z κ ↔ ∀ p, p < f.blocks.length → ((ob R p : Nat) : Int) ∈ l → D p → Anc M z p := by
  obtain ⟨r, hr, hb⟩ := whl_for (body := fun (s : Int × Int) => dom_Nearest.bd84 (plL f R) S l s.1 s.2) l.length
    (fun k s => s.2 = (k : Int) ∧ Best f R D M (l.take k) s.1) (fun r => Best f R D M l r) (le_max hl (by omega)) (by
      rintro k ⟨b, kk⟩ hk ⟨rfl, hb⟩
      simp only at hb
      obtain ⟨p, hp, hpn⟩ := hin _ (List.getElem_mem hk)
      have hw := w64_i hk (show l.length ≤ 1000 by omega)
      have hmem : ∀ q, q < f.blocks.length → (((ob R q : Nat) : Int) ∈ l.take (k + 1) ↔ (((ob R q : Nat) : Int) ∈ l.take k ∨ q = p)) := fun q hq => by
        rw [List.take_succ_eq_append_getElem hk, List.mem_append, List.mem_singleton, hp]
        constructor
        · rintro (h1 | h1)
          · exact .inl h1
          · exact .inr (h.ob_inj hq hpn (by omega))
        · rintro (h1 | rfl)
          · exact .inl h1
          · exact .inr rfl
      simp only [dom_Nearest.bd84, len_lt, hk, if_true, idx_lt hk, Option.bind_some, hp]
      by_cases hD : D p
      · rw [hS.get hpn hD]
        simp only [Option.bind_some]
        rw [if_neg (by omega)]
        rcases hb with ⟨rfl, hno⟩ | ⟨κ, rfl, hκ, hDκ, hz⟩
        · rw [if_pos (by omega)]
          simp only [dom_Nearest.jn97, hw]
          refine .inr ⟨_, rfl, rfl, .inr ⟨p, rfl, hpn, hD, fun z => ⟨fun hz q hq hm hDq => ?_, fun hall => hall p hpn ((hmem p hpn).2 (.inr rfl)) hD⟩⟩⟩
          rcases (hmem q hq).1 hm with h1 | rfl
          · exact absurd hDq (hno q hq h1)
          · exact hz
        · rw [if_neg (by omega)]
          obtain ⟨κ', g1, g2, g3, g4⟩ := meet_ok h hS p κ hpn hκ hD hDκ
          rw [g1]
          simp only [Option.bind_some, dom_Nearest.jn97, hw]
          refine .inr ⟨_, rfl, rfl, .inr ⟨κ', rfl, g2, g3, fun z => ?_⟩⟩
          rw [g4 z, hz z]
          constructor
          · rintro ⟨h1, h2⟩ q hq hm hDq
            rcases (hmem q hq).1 hm with h3 | rfl
            · exact h2 q hq h3 hDq
            · exact h1
          · intro hall
            exact ⟨hall p hpn ((hmem p hpn).2 (.inr rfl)) hD, fun q hq hm hDq => hall q hq ((hmem q hq).2 (.inl hm)) hDq⟩
      · rw [idx_nat, hS.off p hpn hD]
        simp only [Option.bind_some]
        rw [if_pos (by omega)]
        simp only [dom_Nearest.jn97, hw]
        refine .inr ⟨_, rfl, rfl, ?_⟩
        rcases hb with ⟨rfl, hno⟩ | ⟨κ, rfl, hκ, hDκ, hz⟩
        · refine .inl ⟨rfl, fun q hq hm => ?_⟩
          rcases (hmem q hq).1 hm with h1 | rfl
          · exact hno q hq h1
          · exact hD
        · refine .inr ⟨κ, rfl, hκ, hDκ, fun z => ?_⟩
          rw [hz z]
          constructor
          · intro hall q hq hm hDq
            rcases (hmem q hq).1 hm with h1 | rfl
            · exact hall q hq h1 hDq
            · exact absurd hDq hD
          · exact fun hall q hq hm hDq => hall q hq ((hmem q hq).2 (.inl hm)) hDq) (by
      rintro ⟨b, kk⟩ ⟨rfl, hb⟩
      simp only [List.take_length] at hb
      refine ⟨b, ?_, hb⟩
      simp [dom_Nearest.bd84, len]) (s0 := (-1, 0)) ⟨rfl, .inl ⟨rfl, fun p _ hm => by simp at hm⟩⟩
  rcases hb with ⟨rfl, hno⟩ | ⟨κ, rfl, h1⟩
  · obtain ⟨q, hq, hm, hDq⟩ := hany
    exact absurd hDq (hno q hq hm)
  · exact ⟨κ, hr, h1⟩
end
end Go.Proofs.YteaknconpkklhaaDoor
set_option linter.unusedVariables false
set_option linter.unusedSimpArgs false
namespace Go.Proofs.YteaknconpkklhaaDoor
open Go Go.Proofs
section
variable {f : PFunc} {R : List Int}
def DD (later : Bool) (i j : Nat) : Prop := later = true ∨ j < i
instance {later : Bool} {i : Nat} : DecidablePred (DD later i) := fun j => inferInstanceAs (Decidable (later = true ∨ j < i))
/-- A row of nearest ones, as places: whole. -/
structure Nr (f : PFunc) (N : Nat → Nat) : Prop where
  dn : Dn f.blocks.length N
  zero : N 0 = 0
  out : ∀ j, f.blocks.length ≤ j → N j = 0
structure In (f : PFunc) (R : List Int) (later : Bool) (O : Nat → Nat) (i : Nat) (N : Nat → Nat) (S : List Int) (chg : Bool) : Prop where
  dn : Dn f.blocks.length N
  zero : N 0 = 0
  out : ∀ j, i ≤ j → N j = 0
  ts : Ts f R (DD later i) (mixA i N O) S
  ps : ∀ j, 0 < j → j < i → ∀ z, Anc N z (N j) ↔ ∀ p, Pl f R p j → DD later j p → Anc (mixA j N O) z p
  ch1 : later = true → (chg = true ↔ ∃ j, 0 < j ∧ j < i ∧ N j ≠ O j)
  ch0 : later = false → (chg = true ∨ i = 1)
  ch2 : i = 1 → chg = false
def nup (N : Nat → Nat) (i κ : Nat) : Nat → Nat := fun x => if x = i then κ else N x
theorem nup_same (N : Nat → Nat) (i κ : Nat) : nup N i κ i = κ := if_pos rfl
theorem nup_ne (N : Nat → Nat) {i j : Nat} (κ : Nat) (h : j ≠ i) : nup N i κ j = N j := if_neg h
theorem In.next {later : Bool} {O : Nat → Nat} (h : Full f R) (hO : Nr f O) {i : Nat} {N : Nat → Nat} {S : List Int} {chg : Bool} (hi0 : 0 < i) (hi : i < f.blocks.length) (hI : In f R later O i N S chg) :
    ∃ κ S' chg' N', whl (fun (s : Int × Int) => dom_Nearest.bd84 (plL f R) S (preds (nexts f) (ob R i)) s.1 s.2) FUEL (-1, 0) = some κ ∧
      (∃ v, idx S ((ob R i : Nat) : Int) = some v ∧ ((¬ v = κ ∧ S' = S.set (ob R i) κ ∧ chg' = true) ∨ (v = κ ∧ S' = S ∧ chg' = chg))) ∧ In f R later O (i + 1) N' S' chg' := by
  obtain ⟨q, hq, hlt⟩ := h.lead.fwd i hi0 hi
  have hmem : ∀ p, p < f.blocks.length → (((ob R p : Nat) : Int) ∈ preds (nexts f) (ob R i) ↔ Pl f R p i) := fun p hp =>
    ⟨fun hm => by obtain ⟨p', e1, e2, e3⟩ := h.preds hi _ hm; rwa [h.ob_inj hp e2 (by omega)], fun hm => h.preds' hm⟩
  obtain ⟨κ, h1, h2, h3, h4⟩ := best_ok h hI.ts (preds (nexts f) (ob R i)) (by have := preds_length (nexts f) (ob R i); rw [nexts_length] at this; have := h.sm.1; omega)
    (fun x hx => by obtain ⟨p, e1, e2, _⟩ := h.preds hi x hx; exact ⟨p, e1, e2⟩) ⟨q, hq.1, (hmem q hq.1).2 hq, .inr hlt⟩
  have hκ : κ < i := by
    have := ((h4 κ).1 .refl q hq.1 ((hmem q hq.1).2 hq) (.inr hlt)).le hI.ts.dn hq.1
    omega
  have hm : ∀ j, j ≤ i → mixA j (nup N i κ) O = mixA j N O := fun j hj => by
    funext x
    unfold mixA
    split
    · rw [nup_ne _ _ (by omega)]
    · rfl
  have hdnN : Dn f.blocks.length (nup N i κ) := fun b h0 hb => by
    by_cases e : b = i
    · subst e; rw [nup_same]; exact hκ
    · rw [nup_ne _ _ e]; exact hI.dn b h0 hb
  have hagr : ∀ b, b < i → b < f.blocks.length → ∀ z, Anc (nup N i κ) z b ↔ Anc N z b := fun b hb hbn z =>
    ⟨fun k => k.agree hdnN hbn (fun j hj => nup_ne _ _ (by omega)), fun k => k.agree hI.dn hbn (fun j hj => (nup_ne _ _ (by omega)).symm)⟩
  have hM' : ∀ j, j ≠ i → mixA (i + 1) (nup N i κ) O j = mixA i N O j := fun j hj => by
    unfold mixA
    by_cases hlt : j < i
    · rw [if_pos (by omega), if_pos hlt, nup_ne _ _ hj]
    · rw [if_neg (by omega), if_neg hlt]
  have hMi : mixA (i + 1) (nup N i κ) O i = κ := by rw [mixA_lt (by omega)]; exact nup_same _ _ _
  have hlen := hI.ts.len
  obtain ⟨hgi, hobi⟩ := h.get hi
  -- the new row
  have hts : Ts f R (DD later (i + 1)) (mixA (i + 1) (nup N i κ) O) (S.set (ob R i) ((ob R κ : Nat) : Int)) := by
    refine ⟨by rw [List.length_set]; exact hlen, fun j hj hD => ?_, fun j hj hD => ?_, Dn.mixA (fun b h0 hb => hdnN b h0 (by omega)) hO.dn, fun j hj hD => ?_⟩
    · by_cases e : j = i
      · subst e; rw [hMi, List.getElem?_set_self (by rw [hlen]; exact hobi)]
      · rw [hM' j e, List.getElem?_set_ne (fun e2 => e (h.ob_inj hj hi e2.symm))]
        exact hI.ts.on j hj (hD.imp id (fun hl => by omega))
    · have e : j ≠ i := fun e => hD (.inr (by omega))
      rw [List.getElem?_set_ne (fun e2 => e (h.ob_inj hj hi e2.symm))]
      exact hI.ts.off j hj (fun hD2 => hD (hD2.imp id (fun hl => by omega)))
    · rcases hD with hl | hl
      · exact .inl hl
      · refine .inr ?_
        by_cases e : j = i
        · subst e; rw [hMi]; omega
        · rw [hM' j e, mixA_lt (by omega)]
          by_cases e0 : j = 0
          · subst e0; rw [hI.zero]; omega
          · have := hI.dn j e0 hj; omega
  have hps : ∀ j, 0 < j → j < i + 1 → ∀ z, Anc (nup N i κ) z ((nup N i κ) j) ↔ ∀ p, Pl f R p j → DD later j p → Anc (mixA j (nup N i κ) O) z p := by
    intro j hj0 hj z
    rw [hm j (by omega)]
    by_cases e : j = i
    · subst e
      rw [nup_same]
      rw [hagr κ hκ h2 z, ← mixA_anc (i := j) (B := O) hI.dn hκ h2 hI.ts.dn, h4 z]
      exact ⟨fun hall p hp hD => hall p hp.1 ((hmem p hp.1).2 hp) hD, fun hall p hp hpm hD => hall p ((hmem p hp).1 hpm) hD⟩
    · rw [nup_ne _ _ e]
      have hNj := hI.dn j (by omega) (by omega)
      rw [hagr (N j) (by omega) (by omega) z]
      exact hI.ps j hj0 (by omega) z
  -- what stood there
  have hold : ∃ v, S[ob R i]? = some v ∧ (later = true → v = ((ob R (O i) : Nat) : Int)) ∧ (later = false → v = -1) := by
    by_cases hl : later = true
    · exact ⟨_, hI.ts.on i hi (.inl hl), fun _ => by rw [mixA_ge (Nat.le_refl _)], fun e => by rw [hl] at e; cases e⟩
    · exact ⟨_, hI.ts.off i hi (fun hD => hD.elim hl (fun e => by omega)), fun e => absurd e hl, fun _ => rfl⟩
  obtain ⟨v, hv, hv1, hv2⟩ := hold
  have hout : ∀ j, i + 1 ≤ j → (nup N i κ) j = 0 := fun j hj => by
    rw [nup_ne _ _ (by omega)]; exact hI.out j (by omega)
  have hz0 : (nup N i κ) 0 = 0 := by rw [nup_ne _ _ (by omega)]; exact hI.zero
  have hchg : later = true → (¬ v = ((ob R κ : Nat) : Int) ↔ κ ≠ O i) := fun hl => by
    rw [hv1 hl]
    have hOi := hO.dn i (by omega) hi
    constructor
    · intro h5 e; exact h5 (by rw [e])
    · intro h5 e; exact h5 (h.ob_inj (by omega) (by omega) (by omega))
  by_cases hc : v = ((ob R κ : Nat) : Int)
  · refine ⟨_, S, chg, nup N i κ, h1, ⟨v, by rw [idx_nat]; exact hv, .inr ⟨hc, rfl, rfl⟩⟩, ⟨hdnN, hz0, hout, ?_, hps, fun hl => ?_, fun hl => ?_, fun hl => ?_⟩⟩
    · have : S.set (ob R i) ((ob R κ : Nat) : Int) = S := by
        apply List.ext_getElem?
        intro x
        rw [List.getElem?_set]
        by_cases e : ob R i = x
        · subst e; rw [if_pos rfl, if_pos (by rw [hlen]; exact hobi), hv, hc]
        · rw [if_neg e]
      rw [this] at hts; exact hts
    · rw [hI.ch1 hl]
      constructor
      · rintro ⟨j, j1, j2, j3⟩; exact ⟨j, j1, by omega, by rw [nup_ne _ _ (by omega)]; exact j3⟩
      · rintro ⟨j, j1, j2, j3⟩
        by_cases e : j = i
        · subst e
          rw [nup_same] at j3
          exact absurd hc ((hchg hl).2 j3)
        · exact ⟨j, j1, by omega, by rwa [nup_ne _ _ e] at j3⟩
    · rw [hv2 hl] at hc; omega
    · omega
  · refine ⟨_, _, true, nup N i κ, h1, ⟨v, by rw [idx_nat]; exact hv, .inl ⟨hc, rfl, rfl⟩⟩, ⟨hdnN, hz0, hout, hts, hps, fun hl => ⟨fun _ => ⟨i, hi0, by omega, by rw [nup_same]; exact (hchg hl).1 hc⟩, fun _ => rfl⟩, fun _ => .inl rfl, fun hl => by omega⟩⟩
/-- A whole pass. -/
theorem pass_ok {later : Bool} {O : Nat → Nat} (h : Full f R) (hO : Nr f O) {S : List Int} (hI : In f R later O 1 (fun _ => 0) S false) :
    ∃ N S' chg', whl (fun (s : List Int × Bool × Int) => dom_Nearest.bd64 (aheads (nexts f)) (plL f R) (R.drop 1) s.1 s.2.1 s.2.2) FUEL (S, false, 0) = some (S', chg') ∧ In f R later O f.blocks.length N S' chg' := by
  have hn := h.sm.1
  have hpos := h.pos
  obtain ⟨r, hr, N, hN⟩ := whl_for (body := fun (s : List Int × Bool × Int) => dom_Nearest.bd64 (aheads (nexts f)) (plL f R) (R.drop 1) s.1 s.2.1 s.2.2) (f.blocks.length - 1)
    (fun t s => s.2.2 = (t : Int) ∧ ∃ N, In f R later O (t + 1) N s.1 s.2.1) (fun r => ∃ N, In f R later O f.blocks.length N r.1 r.2) (by simp only [maxLen]; omega) (by
      rintro t ⟨S, chg, k⟩ ht ⟨rfl, N, hN⟩
      simp only at hN
      have hi : t + 1 < f.blocks.length := by omega
      have hdl : t < (R.drop 1).length := by simp [h.len]; omega
      have hob : (R.drop 1)[t] = ((ob R (t + 1) : Nat) : Int) := by
        rw [List.getElem_drop]
        have := (h.get hi).1
        rw [List.getElem?_eq_getElem (by rw [h.len]; exact hi)] at this
        have := Option.some.inj this
        simpa [Nat.add_comm] using this
      obtain ⟨κ, S', chg', N', g1, ⟨v, g2, g3⟩, g4⟩ := hN.next h hO (by omega) hi
      have hah : idx (aheads (nexts f)) ((ob R (t + 1) : Nat) : Int) = some (preds (nexts f) (ob R (t + 1))) := by
        rw [idx_nat]; exact aheads_get _ _ (by rw [nexts_length]; exact (h.get hi).2)
      have hw : w64 ((t : Int) + 1) = ((t + 1 : Nat) : Int) := w64_succ (by omega)
      simp only [dom_Nearest.bd64, len_lt, hdl, if_true, idx_lt hdl, Option.bind_some, hob, hah, g1, dom_Nearest.nx84, g2]
      rcases g3 with ⟨e1, rfl, rfl⟩ | ⟨e1, rfl, rfl⟩
      · rw [if_pos e1]
        simp only [dom_Nearest.jn74, hw, Int.toNat_natCast]
        exact .inr ⟨_, rfl, rfl, N', g4⟩
      · rw [if_neg (by simpa using e1)]
        simp only [dom_Nearest.jn74, hw]
        exact .inr ⟨_, rfl, rfl, N', g4⟩) (by
      rintro ⟨S, chg, k⟩ ⟨rfl, N, hN⟩
      simp only at hN
      refine ⟨(S, chg), ?_, N, by rwa [show f.blocks.length - 1 + 1 = f.blocks.length by omega] at hN⟩
      have : ¬ ((f.blocks.length - 1 : Nat) : Int) < len (R.drop 1) := by simp only [len, List.length_drop, h.len]; omega
      simp only [dom_Nearest.bd64]
      rw [if_neg this]) (s0 := (S, false, 0)) ⟨rfl, _, hI⟩
  exact ⟨N, r.1, r.2, hr, hN⟩
end
end Go.Proofs.YteaknconpkklhaaDoor
set_option linter.unusedVariables false
set_option linter.unusedSimpArgs false
namespace Go.Proofs.YteaknconpkklhaaDoor
open Go Go.Proofs
theorem domAhead_eq (nx : List (List Int)) (hn : nx.length ≤ 70) (hrow : ∀ row ∈ nx, row.length ≤ 70 ∧ row.Nodup ∧ ∀ x ∈ row, 0 ≤ x ∧ x < (nx.length : Int)) : dom_ahead nx = some (aheads nx) := ahead_eq nx hn hrow
theorem sum_le : ∀ (n : Nat) (a b : Nat → Nat), (∀ j, j < n → a j ≤ b j) → ((List.range n).map a).sum ≤ ((List.range n).map b).sum
  | 0, a, b, _ => by simp
  | n + 1, a, b, h => by
    have := sum_le n a b (fun j hj => h j (by omega))
    have := h n (by omega)
    simp only [List.range_succ, List.map_append, List.sum_append, List.map_cons, List.map_nil, List.sum_cons, List.sum_nil]; omega
theorem sum_lt : ∀ (n : Nat) (a b : Nat → Nat), (∀ j, j < n → a j ≤ b j) → (∃ j, j < n ∧ a j < b j) → ((List.range n).map a).sum < ((List.range n).map b).sum
  | 0, a, b, _, h => by obtain ⟨j, hj, _⟩ := h; omega
  | n + 1, a, b, h, ⟨j, hj, hlt⟩ => by
    have h1 := h n (by omega)
    simp only [List.range_succ, List.map_append, List.sum_append, List.map_cons, List.map_nil, List.sum_cons, List.sum_nil]
    by_cases e : j = n
    · subst e
      have := sum_le j a b (fun j hj => h j (by omega)); omega
    · have := sum_lt n a b (fun j hj => h j (by omega)) ⟨j, by omega, hlt⟩; omega
theorem sum_max : ∀ (n m : Nat) (a : Nat → Nat), (∀ j, j < n → a j ≤ m) → ((List.range n).map a).sum ≤ n * m
  | 0, m, a, _ => by simp
  | n + 1, m, a, h => by
    have := sum_max n m a (fun j hj => h j (by omega))
    have := h n (by omega)
    simp only [List.range_succ, List.map_append, List.sum_append, List.map_cons, List.map_nil, List.sum_cons, List.sum_nil, Nat.add_mul]; omega
theorem minus_all (l : List Int) (h : l.length ≤ 70) : whl (fun (s : List Int × Int) => dom_Nearest.bd26 l s.1 s.2) FUEL (l, 0) = some (List.replicate l.length (-1)) := by
  have hrun := whl_run (body := fun (s : List Int × Int) => dom_Nearest.bd26 l s.1 s.2) (r := List.replicate l.length (-1)) l.length FUEL (fun i => (List.replicate i (-1) ++ l.drop i, (i : Int))) (fun i hi => by
    have hl : i < (List.replicate i (-1 : Int) ++ l.drop i).length := by simp; omega
    simp only [dom_Nearest.bd26, len_lt, hi, if_true, idx_lt hl, Option.bind_some, Int.toNat_natCast, w64_i hi (show l.length ≤ 1000 by omega)]
    congr 3
    rw [List.set_append_right _ _ (by simp)]
    simp only [List.length_replicate, Nat.sub_self]
    rw [List.drop_eq_getElem_cons hi, List.set_cons_zero, List.replicate_succ', List.append_assoc]; rfl) (by simp [dom_Nearest.bd26, len]) (lt_FUEL (le_max h (by omega)))
  simpa using hrun
section
variable {f : PFunc} {R : List Int}
theorem places (h : Full f R) : whl (fun (s : List Int × Int) => dom_Nearest.bd35 R s.1 s.2) FUEL (List.replicate f.blocks.length 0, 0) = some (plL f R) := by
  have hn := h.sm.1
  have hrun := whl_run (body := fun (s : List Int × Int) => dom_Nearest.bd35 R s.1 s.2) (r := plL f R) R.length FUEL (fun i => ((List.range f.blocks.length).map fun b => if pb R b < i then ((pb R b : Nat) : Int) else 0, (i : Int))) (fun i hi => by
    have hi' : i < f.blocks.length := by rw [← h.len]; exact hi
    obtain ⟨h1, h2⟩ := h.get hi'
    rw [List.getElem?_eq_getElem hi] at h1
    have h1' := Option.some.inj h1
    have hidx : idx ((List.range f.blocks.length).map fun b => if pb R b < i then ((pb R b : Nat) : Int) else 0) ((ob R i : Nat) : Int) = some (if pb R (ob R i) < i then ((pb R (ob R i) : Nat) : Int) else 0) := by
      rw [idx_nat]; simp [h2]
    simp only [dom_Nearest.bd35, len_lt, hi, if_true, idx_lt hi, Option.bind_some, h1', hidx, Int.toNat_natCast, w64_i hi (show R.length ≤ 1000 by rw [h.len]; omega)]
    congr 3
    apply List.ext_getElem (by simp)
    intro x hx1 hx2
    have hx : x < f.blocks.length := by simpa using hx2
    rw [List.getElem_set]
    simp only [List.getElem_map, List.getElem_range]
    by_cases e : ob R i = x
    · subst e
      rw [if_pos rfl, h.pb_ob hi', if_pos (by omega)]
    · rw [if_neg e]
      have : pb R x ≠ i := fun e2 => e (by rw [← e2]; exact (h.ob_pb hx).1)
      by_cases hc : pb R x < i
      · rw [if_pos hc, if_pos (by omega)]
      · rw [if_neg hc, if_neg (by omega)]) (by
    simp only [dom_Nearest.bd35]
    rw [if_neg (by simp [len])]
    congr 2
    unfold plL
    apply List.map_congr_left
    intro b hb
    rw [if_pos (by rw [h.len]; exact (h.ob_pb (List.mem_range.1 hb)).2)]) (lt_FUEL (le_max (by rw [h.len]; exact hn) (by omega)))
  have h0 : ((List.range f.blocks.length).map fun b => if pb R b < 0 then ((pb R b : Nat) : Int) else 0) = List.replicate f.blocks.length (0 : Int) := by
    apply List.ext_getElem (by simp)
    intro x h1 h2
    simp
  rw [h0] at hrun
  exact hrun
def ini (f : PFunc) : List Int := (List.replicate f.blocks.length (-1)).set 0 0
def sumS (f : PFunc) (R S : List Int) : Nat := ((List.range f.blocks.length).map fun j => pb R (S.getD (ob R j) 0).toNat).sum
theorem sumS_eq (h : Full f R) {N : Nat → Nat} (hN : Nr f N) {S : List Int} (hS : Ts f R (fun _ => True) N S) : sumS f R S = ((List.range f.blocks.length).map N).sum := by
  unfold sumS
  congr 1
  apply List.map_congr_left
  intro j hj
  have hj := List.mem_range.1 hj
  rw [List.getD_eq_getElem?_getD, hS.on j hj trivial]
  simp only [Option.getD_some, Int.toNat_natCast]
  by_cases e : j = 0
  · subst e; rw [hN.zero, h.ob0, h.pb0]
  · exact h.pb_ob (by have := hN.dn j e hj; omega)
/-- What stands at the head of a round of passes. -/
def Rd (f : PFunc) (R : List Int) (s : List Int × Bool) : Prop :=
  (s.1 = ini f ∧ s.2 = true) ∨ ∃ O, Nr f O ∧ Hist f.blocks.length (Pl f R) O ∧ Ts f R (fun _ => True) O s.1 ∧ (s.2 = false → Pass f.blocks.length (Pl f R) O O)
theorem ini_ts (h : Full f R) : In f R false (fun _ => 0) 1 (fun _ => 0) (ini f) false := by
  have hpos := h.pos
  have hmx : mixA 1 (fun _ => 0) (fun _ => 0) = fun _ => 0 := by funext x; unfold mixA; split <;> rfl
  refine ⟨fun b h0 hb => by show 0 < b; omega, rfl, fun _ _ => rfl, ?_, fun j h1 h2 => by omega, fun e => by (cases e), fun _ => .inr rfl, fun _ => rfl⟩
  rw [hmx]
  refine ⟨by simp [ini], fun j hj hD => ?_, fun j hj hD => ?_, fun b h0 hb => by show 0 < b; omega, fun j hj hD => .inr (by omega)⟩
  · have hj0 : j = 0 := by rcases hD with e | e; (· cases e); (· omega)
    subst hj0
    rw [h.ob0]
    unfold ini
    rw [List.getElem?_set_self (by simpa using hpos)]; rfl
  · have hj0 : j ≠ 0 := fun e => hD (.inr (by omega))
    have hne : ob R j ≠ 0 := fun e => hj0 (h.ob_inj hj hpos (by rw [e, h.ob0]))
    unfold ini
    rw [List.getElem?_set_ne (by omega)]
    simp [(h.get hj).2]
theorem Ts.whole {later : Bool} {O N : Nat → Nat} {S : List Int} (hN : Nr f N) (hS : Ts f R (DD later f.blocks.length) (mixA f.blocks.length N O) S) : Ts f R (fun _ => True) N S := by
  refine ⟨hS.len, fun j hj _ => ?_, fun j hj hD => absurd trivial hD, hN.dn, fun _ _ _ => trivial⟩
  rw [hS.on j hj (.inr hj), mixA_lt hj]
theorem In.nr {later : Bool} {O N : Nat → Nat} {S : List Int} {chg : Bool} (hI : In f R later O f.blocks.length N S chg) : Nr f N := ⟨hI.dn, hI.zero, hI.out⟩
theorem In.first {N : Nat → Nat} {S : List Int} {chg : Bool} (hI : In f R false (fun _ => 0) f.blocks.length N S chg) : First f.blocks.length (Pl f R) N := fun i h0 hi z => by
  rw [hI.ps i h0 hi z]
  have hX : Dn f.blocks.length (mixA i N (fun _ => 0)) := Dn.mixA (fun b hb hbi => hI.dn b hb (by omega)) (fun b hb _ => by show 0 < b; omega)
  constructor
  · intro hall p hp hlt
    exact (mixA_anc hI.dn hlt (by omega) hX).1 (hall p hp (.inr hlt))
  · intro hall p hp hD
    have hlt : p < i := by rcases hD with e | e; (· cases e); (· exact e)
    exact (mixA_anc hI.dn hlt (by omega) hX).2 (hall p hp hlt)
theorem In.pass {O N : Nat → Nat} {S : List Int} {chg : Bool} (hI : In f R true O f.blocks.length N S chg) : Pass f.blocks.length (Pl f R) O N := fun i h0 hi z => by
  rw [hI.ps i h0 hi z]
  exact ⟨fun hall p hp => hall p hp (.inl rfl), fun hall p hp _ => hall p hp⟩
theorem later_ts {O : Nat → Nat} {S : List Int} (hO : Nr f O) (hS : Ts f R (fun _ => True) O S) : In f R true O 1 (fun _ => 0) S false := by
  have hmx : mixA 1 (fun _ => 0) O = O := by
    funext x; unfold mixA; split
    · rw [show x = 0 by omega, hO.zero]
    · rfl
  refine ⟨fun b h0 hb => by show 0 < b; omega, rfl, fun _ _ => rfl, ?_, fun j h1 h2 => by omega, fun _ => ⟨fun e => by (cases e), fun ⟨j, j1, j2, _⟩ => by omega⟩, fun e => by (cases e), fun _ => rfl⟩
  rw [hmx]
  exact ⟨hS.len, fun j hj _ => hS.on j hj trivial, fun j hj hD => absurd (.inl rfl) hD, hO.dn, fun _ _ _ => .inl rfl⟩
def msr (f : PFunc) (R : List Int) (s : List Int × Bool) : Nat := if s.2 = false then 0 else if s.1 = ini f then 1000000 else 1 + sumS f R s.1
theorem Ts.not_ini (h : Full f R) {O : Nat → Nat} {S : List Int} (hO : Nr f O) (hS : Ts f R (fun _ => True) O S) (h2 : 1 < f.blocks.length) : S ≠ ini f := fun e => by
  have h1 := hS.on 1 h2 trivial
  have hne : ob R 1 ≠ 0 := fun e => by have := h.ob_inj h2 h.pos (by rw [e, h.ob0]); omega
  rw [e] at h1
  unfold ini at h1
  rw [List.getElem?_set_ne (by omega)] at h1
  simp [(h.get h2).2] at h1
theorem round_ok (h : Full f R) (s : List Int × Bool) (hs : Rd f R s) : (∃ r, dom_Nearest.bd48 R (aheads (nexts f)) (plL f R) s.1 s.2 = some (.ret r) ∧ ∃ O, Nr f O ∧ Hist f.blocks.length (Pl f R) O ∧ Ts f R (fun _ => True) O r ∧ Pass f.blocks.length (Pl f R) O O) ∨
    ∃ s', dom_Nearest.bd48 R (aheads (nexts f)) (plL f R) s.1 s.2 = some (.go s') ∧ Rd f R s' ∧ msr f R s' < msr f R s := by
  obtain ⟨S, again⟩ := s
  have hn := h.sm.1
  have hpos := h.pos
  have hfr : from_ R 1 = some (R.drop 1) := by
    unfold from_
    rw [if_pos ⟨by omega, by rw [h.len]; show 1 ≤ _; omega⟩]; rfl
  cases again with
  | false =>
    rcases hs with ⟨_, e⟩ | ⟨O, h1, h2, h3, h4⟩
    · cases e
    · exact .inl ⟨S, by simp [dom_Nearest.bd48], O, h1, h2, h3, h4 rfl⟩
  | true =>
    simp only [dom_Nearest.bd48, if_true, hfr, Option.bind_some]
    rcases hs with ⟨e, _⟩ | ⟨O, h1, h2, h3, h4⟩
    · simp only at e
      subst e
      obtain ⟨N, S', chg', g1, g2⟩ := pass_ok h ⟨fun b h0 hb => by show 0 < b; omega, rfl, fun _ _ => rfl⟩ (ini_ts h)
      rw [g1]
      simp only [Option.bind_some, dom_Nearest.nx64]
      have hS' := Ts.whole g2.nr g2.ts
      refine .inr ⟨_, rfl, .inr ⟨N, g2.nr, ⟨g2.dn, g2.first.fwd, g2.first.tru h.lead g2.dn, .inl g2.first⟩, hS', fun hc => ?_⟩, ?_⟩
      · simp only at hc
        have : f.blocks.length = 1 := (g2.ch0 rfl).resolve_left (by rw [hc]; simp)
        intro i h0 hi; omega
      · unfold msr
        simp only [if_true, Bool.true_eq_false, if_false]
        cases chg' with
        | false => simp
        | true =>
          have h2' : 1 < f.blocks.length := by
            rcases Nat.lt_or_ge 1 f.blocks.length with h2 | h2
            · exact h2
            · have := g2.ch2 (by omega); cases this
          rw [if_neg (by simp), if_neg (hS'.not_ini h g2.nr h2'), sumS_eq h g2.nr hS']
          have := sum_max f.blocks.length 70 N (fun j hj => by
            by_cases e : j = 0
            · subst e; rw [g2.zero]; omega
            · have := g2.dn j e hj; omega)
          have : f.blocks.length * 70 ≤ 70 * 70 := Nat.mul_le_mul hn (Nat.le_refl _)
          omega
    · simp only at h3
      obtain ⟨N, S', chg', g1, g2⟩ := pass_ok h h1 (later_ts h1 h3)
      rw [g1]
      simp only [Option.bind_some, dom_Nearest.nx64]
      have hS' := Ts.whole g2.nr g2.ts
      obtain ⟨k1, k2⟩ := h2.next h.lead g2.dn g2.pass
      refine .inr ⟨_, rfl, .inr ⟨N, g2.nr, k1, hS', fun hc => ?_⟩, ?_⟩
      · simp only at hc
        have heq : N = O := by
          funext j
          by_cases e : j = 0
          · subst e; rw [g2.zero, h1.zero]
          · rcases Nat.lt_or_ge j f.blocks.length with hj | hj
            · rcases Nat.decEq (N j) (O j) with hne | he
              · have := (g2.ch1 rfl).2 ⟨j, by omega, hj, hne⟩
                rw [hc] at this; cases this
              · exact he
            · rw [g2.out j hj, h1.out j hj]
        have := g2.pass
        rw [heq] at this ⊢
        exact this
      · unfold msr
        simp only [if_true, Bool.true_eq_false, if_false]
        cases chg' with
        | false => rw [if_pos rfl]; split <;> omega
        | true =>
          obtain ⟨j, j1, j2, j3⟩ := (g2.ch1 rfl).1 rfl
          have h2' : 1 < f.blocks.length := by omega
          rw [if_neg (by simp), if_neg (hS'.not_ini h g2.nr h2'), if_neg (h3.not_ini h h1 h2'), sumS_eq h g2.nr hS', sumS_eq h h1 h3]
          have := sum_lt f.blocks.length N O (fun i hi => by
            by_cases e : i = 0
            · subst e; rw [g2.zero]; omega
            · exact k2 i hi (by omega)) ⟨j, j2, by have := k2 j j2 j1; omega⟩
          omega
/-- What Nearest tells. -/
structure Near (f : PFunc) (R : List Int) (N : Nat → Nat) (L : List Int) : Prop where
  nr : Nr f N
  hist : Hist f.blocks.length (Pl f R) N
  fix : Pass f.blocks.length (Pl f R) N N
  len : L.length = f.blocks.length
  first : L[0]? = some (-1)
  get : ∀ j, 0 < j → j < f.blocks.length → L[ob R j]? = some ((ob R (N j) : Nat) : Int)
/-- Above stands what can't be gone by. -/
theorem Near.iff (h : Full f R) {N : Nat → Nat} {L : List Int} (hN : Near f R N L) {z b : Nat} (hb : b < f.blocks.length) : Anc N z b ↔ ¬ Free f.blocks.length (Pl f R) z b :=
  ⟨fun ha hf => hN.fix.onway hN.nr.dn h.lead hf hb ha, fun hf => hN.hist.tru.anc hN.nr.dn b hb hf⟩
theorem nearest_ok (h : Full f R) : ∃ N L, dom_Nearest f = some L ∧ Near f R N L := by
  have hn := h.sm.1
  have hpos := h.pos
  have ht : ∀ B ∈ f.blocks, B.term.to.length ≤ 70 := fun B hm => (h.sm.2.2.2 B hm).2.2.1
  have hah : dom_ahead (nexts f) = some (aheads (nexts f)) := domAhead_eq (nexts f) (by rw [nexts_length]; exact hn) (fun row hr => by
    obtain ⟨B, hB, rfl⟩ := List.mem_map.1 hr
    refine ⟨by have := foldl_addS_length f.blocks.length B.term.to []; have := ht B hB; unfold succs; simp at *; omega, succs_nodup _ _, fun x hx => by rw [nexts_length]; exact succs_in x hx⟩)
  have hmk : mkl (len (aheads (nexts f))) (0 : Int) = some (List.replicate f.blocks.length 0) := by
    have := mkl_rep (n := f.blocks.length) (0 : Int) hn
    simpa [len, aheads_length, nexts_length] using this
  obtain ⟨r, hr, O, h1, h2, h3, h4⟩ := whl_ex (body := fun (s : List Int × Bool) => dom_Nearest.bd48 R (aheads (nexts f)) (plL f R) s.1 s.2) (Rd f R) (msr f R) (fun r => ∃ O, Nr f O ∧ Hist f.blocks.length (Pl f R) O ∧ Ts f R (fun _ => True) O r ∧ Pass f.blocks.length (Pl f R) O O) (fun s hs => round_ok h s hs)
    FUEL (ini f, true) (.inl ⟨rfl, rfl⟩) (by unfold msr; simp only [Bool.true_eq_false, if_false, if_true]; exact small_max (Nat.le_refl _))
  refine ⟨O, r.set 0 (-1), ?_, h1, h2, h4, by rw [List.length_set]; exact h3.len, by rw [List.getElem?_set_self (by rw [h3.len]; exact hpos)], fun j hj hjn => ?_⟩
  · unfold dom_Nearest
    rw [h.ord, graphNext_eq f hn ht]
    simp only [Option.bind_some, hah, hmk]
    unfold dom_Nearest.jn18
    have hm := minus_all (List.replicate f.blocks.length 0) (by simpa using hn)
    simp only [List.length_replicate] at hm
    rw [hm]
    simp only [Option.bind_some, dom_Nearest.nx26]
    rw [places h]
    simp only [Option.bind_some, dom_Nearest.nx35]
    rw [if_neg (by simp only [len, h.len]; omega)]
    have h0 : idx (List.replicate f.blocks.length (-1 : Int)) 0 = some (-1) := by
      have := idx_lt (xs := List.replicate f.blocks.length (-1 : Int)) (i := 0) (by simpa using hpos)
      simpa using this
    rw [h0]
    simp only [Option.bind_some]
    have hini : (List.replicate f.blocks.length (-1 : Int)).set (0 : Int).toNat 0 = ini f := rfl
    rw [hini, hr]
    simp only [Option.bind_some, dom_Nearest.nx48]
    have h00 : idx r 0 = some (r[0]'(by rw [h3.len]; exact hpos)) := by
      have := idx_lt (xs := r) (i := 0) (by rw [h3.len]; exact hpos)
      simpa using this
    rw [h00]; rfl
  · have hne : ob R j ≠ 0 := fun e => by have := h.ob_inj hjn hpos (by rw [e, h.ob0]); omega
    rw [List.getElem?_set_ne (by omega)]
    exact h3.on j hjn trivial
end
end Go.Proofs.YteaknconpkklhaaDoor
set_option linter.unusedVariables false
set_option linter.unusedSimpArgs false
namespace Go.Proofs.YteaknconpkklhaaDoor
open Go Go.Proofs
variable {f : PFunc} {R : List Int}
theorem mkl3 {α : Type} {n : Nat} (z : α) (hn : n ≤ 1000) : mkl (n : Int) z = some (List.replicate n z) := by
  have h1 : n < LIM := by simp only [LIM]; omega
  simp [mkl, h1]
/-- the table holds v over w -/
def Hold (T : List (List Bool)) (v w : Nat) : Prop := ∃ row, T[v]? = some row ∧ row[w]? = some true
theorem Hold.set {T : List (List Bool)} {a i v w : Nat} {row : List Bool} (ha : T[a]? = some row) : Hold (T.set a (row.set i true)) v w → Hold T v w ∨ (v = a ∧ w = i) := fun ⟨r, h1, h2⟩ => by
  by_cases e : a = v
  · subst e
    rw [List.getElem?_set_self (List.getElem?_eq_some_iff.1 ha).1] at h1
    cases h1
    by_cases e2 : i = w
    · exact .inr ⟨rfl, e2.symm⟩
    · rw [List.getElem?_set_ne e2] at h2
      exact .inl ⟨row, ha, h2⟩
  · rw [List.getElem?_set_ne e] at h1
    exact .inl ⟨r, h1, h2⟩
theorem Hold.keep {T : List (List Bool)} {a i v w : Nat} {row : List Bool} (ha : T[a]? = some row) : Hold T v w → Hold (T.set a (row.set i true)) v w := fun ⟨r, h1, h2⟩ => by
  by_cases e : a = v
  · subst e
    rw [ha] at h1
    cases h1
    exact ⟨_, List.getElem?_set_self (List.getElem?_eq_some_iff.1 ha).1, (Le.mark row i).le w h2⟩
  · exact ⟨r, by rw [List.getElem?_set_ne e]; exact h1, h2⟩
theorem Hold.new {T : List (List Bool)} {a i : Nat} {row : List Bool} (ha : T[a]? = some row) (hi : i < row.length) : Hold (T.set a (row.set i true)) a i :=
  ⟨_, List.getElem?_set_self (List.getElem?_eq_some_iff.1 ha).1, List.getElem?_set_self hi⟩
theorem Anc.up {M : Nat → Nat} {j x : Nat} (h : Anc M j x) (hj : j ≠ 0) : Anc M (M j) x := by
  induction h with
  | refl => exact .step hj .refl
  | step h0 _ ih => exact .step h0 ih
theorem above_up (h : Full f R) {N : Nat → Nat} {L : List Int} (hN : Near f R N L) (i : Nat) (hi : i < f.blocks.length) (T : List (List Bool)) (hT : Dim f.blocks.length f.blocks.length T) :
    ∃ z, whl (fun (s : (List (List Bool) × Int)) => dom_Dominates.bd42 L (List.replicate f.blocks.length true) (i : Int) s.1 s.2) FUEL (T, (i : Int)) = some z ∧ Dim f.blocks.length f.blocks.length z ∧
      (∀ v w, Hold z v w → Hold T v w ∨ (w = i ∧ Anc N (pb R v) (pb R i))) ∧ (∀ v w, Hold T v w → Hold z v w) ∧ ∀ v, v < f.blocks.length → Anc N (pb R v) (pb R i) → Hold z v i := by
  refine whl_ex (body := fun (s : (List (List Bool) × Int)) => dom_Dominates.bd42 L (List.replicate f.blocks.length true) (i : Int) s.1 s.2)
    (fun s => Dim f.blocks.length f.blocks.length s.1 ∧ (s.2 = -1 ∨ ∃ j, j < f.blocks.length ∧ s.2 = ((ob R j : Nat) : Int) ∧ Anc N j (pb R i)) ∧ (∀ v w, Hold s.1 v w → Hold T v w ∨ (w = i ∧ Anc N (pb R v) (pb R i))) ∧ (∀ v w, Hold T v w → Hold s.1 v w) ∧
      ∀ v, v < f.blocks.length → Anc N (pb R v) (pb R i) → Hold s.1 v i ∨ ∃ j, j < f.blocks.length ∧ s.2 = ((ob R j : Nat) : Int) ∧ Anc N (pb R v) j)
    (fun s => if s.2 < 0 then 0 else pb R s.2.toNat + 1) _ (fun s hs => ?_) FUEL (T, (i : Int)) ⟨hT, .inr ⟨pb R i, (h.ob_pb hi).2, by rw [(h.ob_pb hi).1], .refl⟩, fun _ _ h => .inl h, fun _ _ h => h, fun v hv ha => .inr ⟨pb R i, (h.ob_pb hi).2, by rw [(h.ob_pb hi).1], ha⟩⟩ ?_
  · obtain ⟨M, a⟩ := s
    obtain ⟨h1, h2, h3, h4, h5⟩ := hs
    simp only at h1 h2 h3 h4 h5
    have hr : idx (List.replicate f.blocks.length true) (i : Int) = some true := by rw [idx_nat]; simp [hi]
    simp only [dom_Dominates.bd42, hr, Option.bind_some, true_and]
    rcases h2 with rfl | ⟨j, hj, rfl, hanc⟩
    · exact .inl ⟨M, by simp, h1, h3, h4, fun v hv ha => (h5 v hv ha).resolve_right (fun ⟨j, _, e, _⟩ => by omega)⟩
    · right
      have hob := (h.get hj).2
      obtain ⟨row, r1, r2, r3⟩ := h1.get (b := ((ob R j : Nat) : Int)) (by omega) (by omega)
      rw [Int.toNat_natCast] at r2
      have hi' : i < row.length := by omega
      rw [if_pos (by omega)]
      simp only [r1, Option.bind_some, idx_lt hi']
      have hset : ∀ v w, Hold (M.set (ob R j) (row.set i true)) v w → Hold T v w ∨ (w = i ∧ Anc N (pb R v) (pb R i)) := fun v w ht => by
        rcases Hold.set r2 ht with ht | ⟨rfl, rfl⟩
        · exact h3 v w ht
        · exact .inr ⟨rfl, by rw [h.pb_ob hj]; exact hanc⟩
      have hkeep : ∀ v w, Hold T v w → Hold (M.set (ob R j) (row.set i true)) v w := fun v w ht => Hold.keep r2 (h4 v w ht)
      have hcase : ∀ v, v < f.blocks.length → Anc N (pb R v) (pb R i) → Hold (M.set (ob R j) (row.set i true)) v i ∨ (j ≠ 0 ∧ Anc N (pb R v) (N j)) := fun v hv ha => by
        rcases h5 v hv ha with ht | ⟨k, hk, e, ha2⟩
        · exact .inl (Hold.keep r2 ht)
        · obtain rfl : k = j := h.ob_inj hk hj (by omega)
          rcases ha2.cases' with e | ⟨e, ha3⟩
          · left
            have : ob R k = v := by rw [← e]; exact (h.ob_pb hv).1
            rw [this] at r2 ⊢
            exact Hold.new r2 hi'
          · exact .inr ⟨e, ha3⟩
      rcases Nat.eq_zero_or_pos j with rfl | h0
      · have hl : idx L ((ob R 0 : Nat) : Int) = some (-1) := by rw [idx_nat, h.ob0]; exact hN.first
        simp only [hl, Option.bind_some]
        refine ⟨_, rfl, ⟨h1.set _ (by simp [r3]), .inl rfl, hset, hkeep, fun v hv ha => ?_⟩, ?_⟩
        · exact (hcase v hv ha).imp id (fun h => absurd rfl h.1)
        · simp only; rw [if_pos (by omega), if_neg (by omega)]; omega
      · have hl : idx L ((ob R j : Nat) : Int) = some ((ob R (N j) : Nat) : Int) := by rw [idx_nat]; exact hN.get j h0 hj
        have hni : N j < j := hN.nr.dn j (by omega) hj
        simp only [hl, Option.bind_some]
        refine ⟨_, rfl, ⟨h1.set _ (by simp [r3]), .inr ⟨N j, by omega, rfl, hanc.up (by omega)⟩, hset, hkeep, fun v hv ha => ?_⟩, ?_⟩
        · exact (hcase v hv ha).imp id (fun h => ⟨N j, by omega, rfl, h.2⟩)
        · simp only; rw [if_neg (by omega), if_neg (by omega), Int.toNat_natCast, Int.toNat_natCast, h.pb_ob (by omega), h.pb_ob hj]; omega
  · simp only
    rw [if_neg (by omega), Int.toNat_natCast]
    have := (h.ob_pb hi).2
    have := h.sm.1
    exact small_max (by omega)
theorem dominates_ok (h : Full f R) {N : Nat → Nat} {L : List Int} (hL : dom_Nearest f = some L) (hN : Near f R N L) : ∃ T, dom_Dominates f = some T ∧ Dim f.blocks.length f.blocks.length T ∧ (∀ v w, Hold T v w → Anc N (pb R v) (pb R w)) ∧ ∀ v w, v < f.blocks.length → w < f.blocks.length → Anc N (pb R v) (pb R w) → Hold T v w := by
  have hn := h.sm.1
  have hlen : len L = (f.blocks.length : Int) := by simp [len, hN.len]
  unfold dom_Dominates
  rw [hL, h.rea]
  simp only [Option.bind_some, hlen, mkl3 (n := f.blocks.length) ([] : List Bool) (by omega)]
  obtain ⟨z, hz, hz1, hz2⟩ := whl_for (body := fun (s : (List (List Bool) × Int)) => dom_Dominates.bd19 L (List.replicate f.blocks.length []) s.1 s.2) (s0 := (List.replicate f.blocks.length [], 0)) f.blocks.length
    (fun i s => s.1.length = f.blocks.length ∧ s.2 = (i : Int) ∧ (∀ v w, ¬ Hold s.1 v w) ∧ ∀ j, j < i → ∃ row, s.1[j]? = some row ∧ row.length = f.blocks.length) (fun z => Dim f.blocks.length f.blocks.length z ∧ ∀ v w, ¬ Hold z v w) (le_max hn (by omega)) (fun i s hi hI => by
      obtain ⟨M, q⟩ := s
      obtain ⟨h1, rfl, h2, h3⟩ := hI
      simp only at h1 h2 h3
      have hi' : i < M.length := by omega
      refine .inr ⟨_, by simp only [dom_Dominates.bd19, len_lt, List.length_replicate, hi, if_true, hlen, mkl3 (n := f.blocks.length) false (by omega), Option.bind_some, idx_lt hi', Int.toNat_natCast]; rfl, by simp [h1], w64_i hi (by omega), fun v w ht => ?_, fun j hj => ?_⟩
      · obtain ⟨r, t1, t2⟩ := ht
        simp only at t1
        by_cases e : i = v
        · subst e
          rw [List.getElem?_set_self hi'] at t1
          cases t1
          rw [List.getElem?_replicate] at t2
          split at t2 <;> simp at t2
        · rw [List.getElem?_set_ne e] at t1
          exact h2 v w ⟨r, t1, t2⟩
      · simp only
        by_cases e : i = j
        · subst e
          exact ⟨_, by rw [List.getElem?_set_self hi'], by simp⟩
        · rw [List.getElem?_set_ne e]; exact h3 j (by omega)) (fun s hI => by
      obtain ⟨M, q⟩ := s
      obtain ⟨h1, rfl, h2, h3⟩ := hI
      simp only at h1 h2 h3
      refine ⟨M, by simp [dom_Dominates.bd19, len], ⟨h1, fun r hr => ?_⟩, h2⟩
      obtain ⟨j, hj, rfl⟩ := List.getElem_of_mem hr
      obtain ⟨row, r1, r2⟩ := h3 j (by omega)
      rw [List.getElem?_eq_getElem hj] at r1
      rw [Option.some.inj r1]; exact r2) ⟨by simp, rfl, fun v w ⟨r, t1, t2⟩ => by
        rw [List.getElem?_replicate] at t1
        split at t1
        · cases t1; simp at t2
        · simp at t1, fun j hj => by omega⟩
  rw [hz]
  simp only [Option.bind_some, dom_Dominates.nx19]
  have hzl : len z = (f.blocks.length : Int) := by simp [len, hz1.len]
  obtain ⟨y, hy, hy1⟩ := whl_for (body := fun (s : (List (List Bool) × Int)) => dom_Dominates.bd28 L (List.replicate f.blocks.length true) z s.1 s.2) (s0 := (z, 0)) f.blocks.length
    (fun i s => s.2 = (i : Int) ∧ Dim f.blocks.length f.blocks.length s.1 ∧ (∀ v w, Hold s.1 v w → Anc N (pb R v) (pb R w)) ∧ ∀ v w, v < f.blocks.length → w < i → Anc N (pb R v) (pb R w) → Hold s.1 v w) (fun T => Dim f.blocks.length f.blocks.length T ∧ (∀ v w, Hold T v w → Anc N (pb R v) (pb R w)) ∧ ∀ v w, v < f.blocks.length → w < f.blocks.length → Anc N (pb R v) (pb R w) → Hold T v w) (le_max hn (by omega)) (fun i s hi hI => by
      obtain ⟨M, q⟩ := s
      obtain ⟨rfl, h3, h4, h5⟩ := hI
      simp only at h3 h4 h5
      obtain ⟨y, hy, hy1, hy2, hy3, hy4⟩ := above_up h hN i hi M h3
      refine .inr ⟨_, by simp only [dom_Dominates.bd28, hzl]; rw [if_pos (by omega), hy]; rfl, w64_i hi (by omega), hy1, fun v w ht => ?_, fun v w hv hw ha => ?_⟩
      · rcases hy2 v w ht with ht | ⟨rfl, ha⟩
        · exact h4 v w ht
        · exact ha
      · by_cases e : w < i
        · exact hy3 v w (h5 v w hv e ha)
        · obtain rfl : w = i := by omega
          exact hy4 v hv ha) (fun s hI => by
      obtain ⟨M, q⟩ := s
      obtain ⟨rfl, h3⟩ := hI
      exact ⟨M, by simp [dom_Dominates.bd28, hzl], h3⟩) ⟨rfl, hz1, fun v w ht => absurd ht (hz2 v w), fun v w _ hw => by omega⟩
  rw [hy]
  exact ⟨y, rfl, hy1⟩
/-- a table of n rows whose entries are below m -/
structure Bel (n c m : Nat) (T : List (List Int)) : Prop where
  len : T.length = n
  few : ∀ r ∈ T, r.length ≤ c
  mem : ∀ r ∈ T, ∀ x ∈ r, 0 ≤ x ∧ x < (m : Int)
theorem Bel.get {n c m : Nat} {T : List (List Int)} (h : Bel n c m T) {b : Int} (h0 : 0 ≤ b) (h1 : b < (n : Int)) : ∃ row, idx T b = some row ∧ T[b.toNat]? = some row ∧ row.length ≤ c ∧ ∀ x ∈ row, 0 ≤ x ∧ x < (m : Int) := by
  obtain ⟨row, h2, h3⟩ := idx_in (xs := T) h0 (by rw [h.len]; exact h1)
  exact ⟨row, h2, h3, h.few row (List.mem_of_getElem? h3), h.mem row (List.mem_of_getElem? h3)⟩
theorem Bel.set {n c m : Nat} {T : List (List Int)} (h : Bel n c m T) (i : Nat) {row : List Int} (h1 : row.length ≤ c) (h2 : ∀ x ∈ row, 0 ≤ x ∧ x < (m : Int)) : Bel n c m (T.set i row) :=
  ⟨by simp [h.len], fun r hr => (List.mem_or_eq_of_mem_set hr).elim (h.few r) (fun e => e ▸ h1), fun r hr => (List.mem_or_eq_of_mem_set hr).elim (h.mem r) (fun e => e ▸ h2)⟩
theorem Bel.mono {n c c' m : Nat} {T : List (List Int)} (h : Bel n c m T) (hc : c ≤ c') : Bel n c' m T := ⟨h.len, fun r hr => Nat.le_trans (h.few r hr) hc, h.mem⟩
theorem Bel.rep (n c m : Nat) : Bel n c m (List.replicate n []) := ⟨by simp, fun r hr => by rw [List.eq_of_mem_replicate hr]; simp, fun r hr => by rw [List.eq_of_mem_replicate hr]; simp⟩
end Go.Proofs.YteaknconpkklhaaDoor
