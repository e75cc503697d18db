/- Several parts in one text, the first of which: Plain laws, part y-A: what a pass over nearest ones leads to: trees of places that shrink. No conditions. -/
import Derived.Test.YteaknconpkklhaaDoorPzA
set_option linter.unusedVariables false
set_option linter.unusedSimpArgs false
namespace Go.Proofs.YteaknconpkklhaaDoor
open Go Go.Proofs
inductive Anc (M : Nat → Nat) (z : Nat) : Nat → Prop
  | refl : Anc M z z
  | step {b : Nat} : b ≠ 0 → Anc M z (M b) → Anc M z b
def Dn (n : Nat) (M : Nat → Nat) : Prop := ∀ b, b ≠ 0 → b < n → M b < b
variable {n : Nat} {M M' : Nat → Nat}
theorem Anc.cases' {z b : Nat} (h : Anc M z b) : z = b ∨ (b ≠ 0 ∧ Anc M z (M b)) := by
  cases h with
  | refl => exact .inl rfl
  | step h1 h2 => exact .inr ⟨h1, h2⟩
theorem Anc.le (hM : Dn n M) {z b : Nat} (h : Anc M z b) (hb : b < n) : z ≤ b := by
  induction h with
  | refl => exact Nat.le_refl _
  | step h1 h2 ih => have := hM _ h1 hb; have := ih (by omega); omega
theorem Anc.trans {z y b : Nat} (h : Anc M z y) (h' : Anc M y b) : Anc M z b := by
  induction h' with
  | refl => exact h
  | step h1 h2 ih => exact .step h1 ih
theorem Anc.agree (hM : Dn n M) {z b : Nat} (h : Anc M z b) (hb : b < n) (he : ∀ j, j ≤ b → M j = M' j) : Anc M' z b := by
  induction h with
  | refl => exact .refl
  | step h1 h2 ih =>
    have := hM _ h1 hb
    refine .step h1 ?_
    rw [← he _ (Nat.le_refl _)]
    exact ih (by omega) (fun j hj => he j (by omega))
def mixA (i : Nat) (A B : Nat → Nat) : Nat → Nat := fun j => if j < i then A j else B j
theorem mixA_lt {i j : Nat} {A B : Nat → Nat} (h : j < i) : mixA i A B j = A j := if_pos h
theorem mixA_ge {i j : Nat} {A B : Nat → Nat} (h : i ≤ j) : mixA i A B j = B j := if_neg (by omega)
theorem Dn.mixA {i : Nat} {A B : Nat → Nat} (hA : ∀ b, b ≠ 0 → b < i → A b < b) (hB : Dn n B) : Dn n (mixA i A B) := by
  intro b h0 hb
  unfold Go.Proofs.YteaknconpkklhaaDoor.mixA
  split
  · exact hA b h0 ‹_›
  · exact hB b h0 hb
theorem mixA_anc {i : Nat} {A B : Nat → Nat} (hA : Dn n A) {z b : Nat} (hb : b < i) (hn : b < n) (hX : Dn n (mixA i A B)) : Anc (mixA i A B) z b ↔ Anc A z b :=
  ⟨fun h => h.agree hX hn (fun j hj => mixA_lt (by omega)), fun h => h.agree hA hn (fun j hj => (mixA_lt (by omega)).symm)⟩
/-- Where the way up from p comes below i. -/
theorem split_at (i : Nat) {B : Nat → Nat} (hB : Dn n B) : ∀ p, i ≤ p → p < n → 0 < i → ∃ g, g < i ∧ Anc B g p ∧ (∀ y, Anc B y p → y < i → y ≤ g) ∧ ∀ A : Nat → Nat, Dn n A → ∀ z, z < i → (Anc (mixA i A B) z p ↔ Anc A z g) := by
  intro p
  induction p using Nat.strongRecOn with
  | _ p ih =>
    intro hi hp h0
    have hp0 : p ≠ 0 := by omega
    have hlt := hB p hp0 hp
    by_cases hc : B p < i
    · refine ⟨B p, hc, .step hp0 .refl, fun y hy hyi => ?_, fun A hA z hz => ?_⟩
      · rcases hy.cases' with rfl | ⟨_, h⟩
        · omega
        · exact h.le hB (by omega)
      · have hX : Dn n (mixA i A B) := Dn.mixA (fun b h0 hb => hA b h0 (by omega)) hB
        constructor
        · intro h
          rcases h.cases' with rfl | ⟨_, h⟩
          · omega
          · rw [mixA_ge hi] at h
            exact (mixA_anc hA hc (by omega) hX).1 h
        · intro h
          refine .step hp0 ?_
          rw [mixA_ge hi]
          exact (mixA_anc hA hc (by omega) hX).2 h
    · obtain ⟨g, g1, g2, g3, g4⟩ := ih (B p) hlt (by omega) (by omega) h0
      refine ⟨g, g1, .step hp0 g2, fun y hy hyi => ?_, fun A hA z hz => ?_⟩
      · rcases hy.cases' with rfl | ⟨_, h⟩
        · omega
        · exact g3 y h hyi
      · constructor
        · intro h
          rcases h.cases' with rfl | ⟨_, h⟩
          · omega
          · rw [mixA_ge hi] at h
            exact (g4 A hA z hz).1 h
        · intro h
          refine .step hp0 ?_
          rw [mixA_ge hi]
          exact (g4 A hA z hz).2 h
/-! ### Passes -/
variable {P : Nat → Nat → Prop}
/-- P p i: place p leads to place i. -/
structure Lead (n : Nat) (P : Nat → Nat → Prop) : Prop where
  lt : ∀ p i, P p i → i < n → p < n
  fwd : ∀ i, 0 < i → i < n → ∃ q, P q i ∧ q < i
def First (n : Nat) (P : Nat → Nat → Prop) (N : Nat → Nat) : Prop := ∀ i, 0 < i → i < n → ∀ z, Anc N z (N i) ↔ ∀ p, P p i → p < i → Anc N z p
def Pass (n : Nat) (P : Nat → Nat → Prop) (O N : Nat → Nat) : Prop := ∀ i, 0 < i → i < n → ∀ z, Anc N z (N i) ↔ ∀ p, P p i → Anc (mixA i N O) z p
def Fwd (n : Nat) (P : Nat → Nat → Prop) (N : Nat → Nat) : Prop := ∀ i q z, 0 < i → i < n → P q i → q < i → Anc N z i → z = i ∨ Anc N z q
theorem First.fwd {N : Nat → Nat} (h : First n P N) : Fwd n P N := fun i q z h0 hi hq hlt ha => by
  rcases ha.cases' with rfl | ⟨_, h1⟩
  · exact .inl rfl
  · exact .inr ((h i h0 hi z).1 h1 q hq hlt)
theorem Pass.fwd {O N : Nat → Nat} (h : Pass n P O N) (hO : Dn n O) (hN : Dn n N) : Fwd n P N := fun i q z h0 hi hq hlt ha => by
  rcases ha.cases' with rfl | ⟨_, h1⟩
  · exact .inl rfl
  · exact .inr ((mixA_anc hN hlt (by omega) (Dn.mixA (fun b hb hbi => hN b hb (by omega)) hO)).1 ((h i h0 hi z).1 h1 q hq))
/-- A way on, place by place. -/
inductive Way (P : Nat → Nat → Prop) (g : Nat) : Nat → Prop
  | refl : Way P g g
  | step {q p : Nat} : Way P g q → P q p → q < p → Way P g p
theorem Way.le {g p : Nat} (h : Way P g p) : g ≤ p := by
  induction h with
  | refl => exact Nat.le_refl _
  | step _ _ h3 ih => omega
theorem Way.down {N : Nat → Nat} (hN : Dn n N) (hF : Fwd n P N) {g p z : Nat} (h : Way P g p) (hp : p < n) (hz : Anc N z p) (hzg : z ≤ g) : Anc N z g ∧ g ≤ p := by
  induction h with
  | refl => exact ⟨hz, Nat.le_refl _⟩
  | @step q p h1 h2 h3 ih =>
    have hgq : g ≤ q := h1.le
    rcases hF p q z (by omega) hp h2 h3 hz with rfl | h4
    · omega
    · exact ⟨(ih (by omega) h4).1, by omega⟩
theorem Anc.way {N : Nat → Nat} (hL : Lead n P) (hN : Dn n N) (hF : Fwd n P N) {g : Nat} : ∀ p, p < n → Anc N g p → Way P g p := by
  intro p
  induction p using Nat.strongRecOn with
  | _ p ih =>
    intro hp h
    by_cases he : g = p
    · subst he; exact .refl
    · have h0 : 0 < p := by
        rcases Nat.eq_zero_or_pos p with h0 | h0
        · subst h0; have := h.le hN hp; omega
        · exact h0
      obtain ⟨q, hq, hlt⟩ := hL.fwd p h0 hp
      rcases hF p q g h0 hp hq hlt h with h1 | h1
      · exact absurd h1 he
      · exact .step (ih q hlt (by omega) h1) hq hlt
/-- Come to from place 0 without place z. -/
inductive Free (n : Nat) (P : Nat → Nat → Prop) (z : Nat) : Nat → Prop
  | base : z ≠ 0 → Free n P z 0
  | step {p i : Nat} : Free n P z p → P p i → i < n → i ≠ z → Free n P z i
/-- What dominates a place dominates what stands above it, or is it. -/
def Tru (n k : Nat) (P : Nat → Nat → Prop) (M : Nat → Nat) : Prop := ∀ i, 0 < i → i < k → ∀ z, z ≠ i → ¬ Free n P z i → ¬ Free n P z (M i)
theorem Tru.anc {k : Nat} {M : Nat → Nat} (hM : Dn k M) (hT : Tru n k P M) {z : Nat} : ∀ b, b < k → ¬ Free n P z b → Anc M z b := by
  intro b
  induction b using Nat.strongRecOn with
  | _ b ih =>
    intro hb hz
    by_cases e : z = b
    · subst e; exact .refl
    rcases Nat.eq_zero_or_pos b with h0 | h0
    · subst h0; exact absurd (.base e) hz
    · have hlt := hM b (by omega) hb
      exact .step (by omega) (ih (M b) hlt (by omega) (hT b h0 hb z e hz))
theorem Tru.mid {k : Nat} {M : Nat → Nat} (hM : Dn k M) (hT : Tru n k P M) {z κ p : Nat} (h : Anc M κ p) (hp : p < k) (hz : Anc M z κ) (hf : ¬ Free n P z p) : ¬ Free n P z κ := by
  induction h with
  | refl => exact hf
  | @step b h0 h2 ih =>
    have hlt := hM b h0 hp
    have h1 := h2.le hM (by omega)
    have h3 := hz.le hM (by omega)
    exact ih (by omega) (hT b (by omega) hp z (by omega) hf)
theorem Tru.up {X N : Nat → Nat} (hL : Lead n P) (hX : Dn n X) {i : Nat} (h0 : 0 < i) (hi : i < n) (hT : Tru n i P X) (hNi : N i < i) (hN : ∀ j, j < i → N j = X j) (h : ∀ z, Anc X z (N i) ↔ ∀ p, P p i → p < i → Anc X z p) : ∀ z, z ≠ i → ¬ Free n P z i → ¬ Free n P z (N i) := by
  intro z hz hf
  have hXi : Dn i X := fun b hb hbi => hX b hb (by omega)
  have hall : ∀ p, P p i → ¬ Free n P z p := fun p hp hfp => hf (.step hfp hp hi (Ne.symm hz))
  obtain ⟨q, hq, hlt⟩ := hL.fwd i h0 hi
  have h1 : Anc X z (N i) := (h z).2 fun p hp hpi => Tru.anc hXi hT p hpi (hall p hp)
  have h2 : Anc X (N i) q := (h (N i)).1 .refl q hq hlt
  exact Tru.mid hXi hT h2 hlt h1 (hall q hq)
theorem First.tru {N : Nat → Nat} (hL : Lead n P) (hN : Dn n N) (h : First n P N) : Tru n n P N := by
  have : ∀ k, k ≤ n → Tru n k P N := by
    intro k
    induction k with
    | zero => intro _ i _ hi; omega
    | succ k ih =>
      intro hk i h0 hi
      rcases Nat.lt_or_ge i k with hlt | hge
      · exact ih (by omega) i h0 hlt
      · obtain rfl : i = k := by omega
        exact Tru.up hL hN h0 (by omega) (ih (by omega)) (hN i (by omega) (by omega)) (fun _ _ => rfl) (h i h0 (by omega))
  exact this n (Nat.le_refl _)
theorem Pass.tru {O N : Nat → Nat} (hL : Lead n P) (hO : Dn n O) (hT : Tru n n P O) (hN : Dn n N) (h : Pass n P O N) : Tru n n P N := by
  have : ∀ k, k ≤ n → Tru n k P N := by
    intro k
    induction k with
    | zero => intro _ i _ hi; omega
    | succ k ih =>
      intro hk i h0 hi z hz hf
      rcases Nat.lt_or_ge i k with hlt | hge
      · exact ih (by omega) i h0 hlt z hz hf
      · obtain rfl : i = k := by omega
        have hX : Dn n (mixA i N O) := Dn.mixA (fun b hb hbi => hN b hb (by omega)) hO
        have hTX : Tru n n P (mixA i N O) := fun j j0 jn y hy hfy => by
          rcases Nat.lt_or_ge j i with hj | hj
          · rw [mixA_lt hj]; exact ih (by omega) j j0 hj y hy hfy
          · rw [mixA_ge hj]; exact hT j j0 jn y hy hfy
        have hall : ∀ p, P p i → ¬ Free n P z p := fun p hp hfp => hf (.step hfp hp (by omega) (Ne.symm hz))
        obtain ⟨q, hq, hlt⟩ := hL.fwd i h0 (by omega)
        have hNi := hN i (by omega) (by omega)
        have h1 : Anc N z (N i) := (h i h0 (by omega) z).2 fun p hp => Tru.anc hX hTX p (hL.lt p i hp (by omega)) (hall p hp)
        have h2 : Anc (mixA i N O) (N i) q := (h i h0 (by omega) (N i)).1 .refl q hq
        exact Tru.mid hX hTX h2 (by omega) ((mixA_anc hN hNi (by omega) hX).2 h1) (hall q hq)
  exact this n (Nat.le_refl _)
/-- What stands at a round's head behind the first pass. -/
structure Hist (n : Nat) (P : Nat → Nat → Prop) (O : Nat → Nat) : Prop where
  dn : Dn n O
  fwd : Fwd n P O
  tru : Tru n n P O
  prev : First n P O ∨ ∃ O', Dn n O' ∧ Fwd n P O' ∧ Pass n P O' O ∧ ∀ z i, i < n → Anc O z i → Anc O' z i
theorem Hist.mono {O N : Nat → Nat} (hL : Lead n P) (h : Hist n P O) (hN : Dn n N) (hp : Pass n P O N) : ∀ i, i < n → ∀ z, Anc N z i → Anc O z i := by
  intro i
  induction i using Nat.strongRecOn with
  | _ i ih =>
    intro hi z hz
    rcases hz.cases' with rfl | ⟨h0, hz1⟩
    · exact .refl
    have h0' : 0 < i := by omega
    have hlt := hN i h0 hi
    have hzi : z < i := by have := hz1.le hN (by omega); omega
    have hall := (hp i h0' hi z).1 hz1
    have hmN : Dn n (mixA i N O) := Dn.mixA (fun b hb hbi => hN b hb (by omega)) h.dn
    refine .step h0 ?_
    rcases h.prev with hf | ⟨O', d', f', p', m'⟩
    · refine (hf i h0' hi z).2 fun p hpi hplt => ?_
      exact ih p hplt (by omega) z ((mixA_anc hN hplt (by omega) hmN).1 (hall p hpi))
    · refine (p' i h0' hi z).2 fun p hpi => ?_
      have hpn := hL.lt p i hpi hi
      have hmO : Dn n (mixA i O O') := Dn.mixA (fun b hb hbi => h.dn b hb (by omega)) d'
      rcases Nat.lt_or_ge p i with hplt | hpge
      · exact (mixA_anc h.dn hplt hpn hmO).2 (ih p hplt hpn z ((mixA_anc hN hplt hpn hmN).1 (hall p hpi)))
      · obtain ⟨g, g1, g2, g3, g4⟩ := split_at i h.dn p hpge hpn h0'
        obtain ⟨g', k1, k2, k3, k4⟩ := split_at i d' p hpge hpn h0'
        have hzg : Anc N z g := (g4 N hN z hzi).1 (hall p hpi)
        have hOg : Anc O z g := ih g g1 (by omega) z hzg
        have hOp : Anc O z p := hOg.trans g2
        have hgg : g ≤ g' := k3 g (m' g p hpn g2) g1
        have hzle : z ≤ g := hzg.le hN (by omega)
        exact (k4 O h.dn z hzi).2 (Way.down h.dn h.fwd (Anc.way hL d' f' p hpn k2) hpn hOp (by omega)).1
theorem Hist.next {O N : Nat → Nat} (hL : Lead n P) (h : Hist n P O) (hN : Dn n N) (hp : Pass n P O N) : Hist n P N ∧ ∀ i, i < n → 0 < i → N i ≤ O i := by
  have hm := h.mono hL hN hp
  refine ⟨⟨hN, hp.fwd h.dn hN, hp.tru hL h.dn h.tru hN, .inr ⟨O, h.dn, h.fwd, hp, fun z i hi hz => hm i hi z hz⟩⟩, fun i hi h0 => ?_⟩
  have h1 : Anc O (N i) i := hm i hi (N i) (.step (by omega) .refl)
  have hlt := hN i (by omega) hi
  rcases h1.cases' with h2 | ⟨_, h2⟩
  · omega
  · exact h2.le h.dn (by have := h.dn i (by omega) hi; omega)
end Go.Proofs.YteaknconpkklhaaDoor
set_option linter.unusedVariables false
set_option linter.unusedSimpArgs false
namespace Go.Proofs.YteaknconpkklhaaDoor
open Go Go.Proofs
/-- A function all whose blocks are reached, in their order. -/
structure Full (f : PFunc) (R : List Int) : Prop where
  sm : SmF f
  pos : 0 < f.blocks.length
  ord : graph_Order f = some R
  rea : graph_Reached f = some (List.replicate f.blocks.length true)
  len : R.length = f.blocks.length
  all : ∀ i (hi : i < R.length), ∃ v : Nat, R[i] = v ∧ v < f.blocks.length
  mem : ∀ v : Nat, v < f.blocks.length → (v : Int) ∈ R
  nodup : R.Nodup
  head : R[0]? = some 0
  led : ∀ i (hi : i < R.length), 0 < i → ∃ k, ∃ hk : k < i, ∃ u : Nat, R[k]'(by omega) = (u : Int) ∧ ∃ hu : u < f.blocks.length, R[i] ∈ f.blocks[u].term.to
def ob (R : List Int) (i : Nat) : Nat := (R.getD i 0).toNat
def pb (R : List Int) (b : Nat) : Nat := R.idxOf (b : Int)
section
variable {f : PFunc} {R : List Int}
theorem Full.get (h : Full f R) {i : Nat} (hi : i < f.blocks.length) : R[i]? = some ((ob R i : Nat) : Int) ∧ ob R i < f.blocks.length := by
  have hi' : i < R.length := by rw [h.len]; exact hi
  obtain ⟨v, h1, h2⟩ := h.all i hi'
  have : ob R i = v := by unfold ob; rw [List.getD_eq_getElem?_getD, List.getElem?_eq_getElem hi', h1]; rfl
  rw [this, List.getElem?_eq_getElem hi', h1]
  exact ⟨rfl, h2⟩
theorem Full.pb_ob (h : Full f R) {i : Nat} (hi : i < f.blocks.length) : pb R (ob R i) = i := by
  have hi' : i < R.length := by rw [h.len]; exact hi
  obtain ⟨h1, _⟩ := h.get hi
  rw [List.getElem?_eq_getElem hi'] at h1
  unfold pb
  rw [← Option.some.inj h1]
  exact h.nodup.idxOf_getElem i hi'
theorem Full.ob_pb (h : Full f R) {b : Nat} (hb : b < f.blocks.length) : ob R (pb R b) = b ∧ pb R b < f.blocks.length := by
  have hm := h.mem b hb
  have hlt : pb R b < R.length := List.idxOf_lt_length_of_mem hm
  refine ⟨?_, by rw [← h.len]; exact hlt⟩
  unfold ob
  rw [List.getD_eq_getElem?_getD, List.getElem?_eq_getElem hlt]
  show (R[R.idxOf (b : Int)]'hlt).toNat = b
  rw [List.getElem_idxOf hlt]; rfl
theorem Full.ob_inj (h : Full f R) {i j : Nat} (hi : i < f.blocks.length) (hj : j < f.blocks.length) (he : ob R i = ob R j) : i = j := by
  rw [← h.pb_ob hi, ← h.pb_ob hj, he]
/-! ### Nearest ones as a list of blocks -/
structure Ts (f : PFunc) (R : List Int) (D : Nat → Prop) (M : Nat → Nat) (S : List Int) : Prop where
  len : S.length = f.blocks.length
  on : ∀ j, j < f.blocks.length → D j → S[ob R j]? = some ((ob R (M j) : Nat) : Int)
  off : ∀ j, j < f.blocks.length → ¬ D j → S[ob R j]? = some (-1)
  dn : Dn f.blocks.length M
  cl : ∀ j, j < f.blocks.length → D j → D (M j)
def plL (f : PFunc) (R : List Int) : List Int := (List.range f.blocks.length).map fun b => ((pb R b : Nat) : Int)
theorem plL_get {b : Nat} (hb : b < f.blocks.length) : idx (plL f R) (b : Int) = some ((pb R b : Nat) : Int) := by
  rw [idx_nat]; simp [plL, hb]
theorem Full.plL_ob (h : Full f R) {i : Nat} (hi : i < f.blocks.length) : idx (plL f R) ((ob R i : Nat) : Int) = some (i : Int) := by
  rw [plL_get (h.get hi).2, h.pb_ob hi]
variable {D : Nat → Prop} {M : Nat → Nat} {S : List Int}
theorem Ts.get (hS : Ts f R D M S) {j : Nat} (hj : j < f.blocks.length) (hD : D j) : idx S ((ob R j : Nat) : Int) = some ((ob R (M j) : Nat) : Int) := by rw [idx_nat]; exact hS.on j hj hD
theorem small_max {m : Nat} (h : m ≤ 1000000) : m < FUEL := lt_FUEL (by simp only [maxLen]; omega)
/-- Up from a until it isn't behind b. -/
theorem up_to (h : Full f R) (hS : Ts f R D M S) (β : Nat) (hβ : β < f.blocks.length) (body : Int → Option (Ex Int Int))
    (hb : ∀ α, α < f.blocks.length → D α → body ((ob R α : Nat) : Int) = some (if (α : Int) > (β : Int) then .go ((ob R (M α) : Nat) : Int) else .ret ((ob R α : Nat) : Int))) (α : Nat) (hα : α < f.blocks.length) (hD : D α) :
    ∃ α', whl body FUEL ((ob R α : Nat) : Int) = some ((ob R α' : Nat) : Int) ∧ α' < f.blocks.length ∧ D α' ∧ α' ≤ α ∧ α' ≤ β ∧ ∀ z, z ≤ β → (Anc M z α' ↔ Anc M z α) := by
  have hn := h.sm.1
  obtain ⟨r, hr, a', h1, h2⟩ := whl_ex (body := body) (fun s => ∃ a, s = ((ob R a : Nat) : Int) ∧ a < f.blocks.length ∧ D a ∧ a ≤ α ∧ ∀ z, z ≤ β → (Anc M z a ↔ Anc M z α)) (fun s => pb R s.toNat)
    (fun r => ∃ a, r = ((ob R a : Nat) : Int) ∧ a < f.blocks.length ∧ D a ∧ a ≤ α ∧ a ≤ β ∧ ∀ z, z ≤ β → (Anc M z a ↔ Anc M z α)) (by
      rintro s ⟨a, rfl, g1, g2, g3, g4⟩
      rw [hb a g1 g2]
      by_cases hc : (a : Int) > (β : Int)
      · rw [if_pos hc]
        have ha0 : a ≠ 0 := by omega
        have hlt := hS.dn a ha0 g1
        refine .inr ⟨_, rfl, ⟨M a, rfl, by omega, hS.cl a g1 g2, by omega, fun z hz => ?_⟩, ?_⟩
        · rw [← g4 z hz]
          constructor
          · exact fun k => .step ha0 k
          · intro k
            rcases k.cases' with rfl | ⟨_, k⟩
            · omega
            · exact k
        · rw [Int.toNat_natCast, Int.toNat_natCast, h.pb_ob g1, h.pb_ob (by omega)]; exact hlt
      · rw [if_neg hc]
        exact .inl ⟨_, rfl, a, rfl, g1, g2, g3, by omega, g4⟩) FUEL _ ⟨α, rfl, hα, hD, Nat.le_refl _, fun z _ => Iff.rfl⟩ (by rw [Int.toNat_natCast, h.pb_ob hα]; exact small_max (by omega))
  exact ⟨a', by rw [hr, h1], h2⟩
theorem meet_ok (h : Full f R) (hS : Ts f R D M S) (α β : Nat) (hα : α < f.blocks.length) (hβ : β < f.blocks.length) (hDa : D α) (hDb : D β) :
    ∃ κ, dom_meet S (plL f R) ((ob R α : Nat) : Int) ((ob R β : Nat) : Int) = some ((ob R κ : Nat) : Int) ∧ κ < f.blocks.length ∧ D κ ∧ ∀ z, Anc M z κ ↔ (Anc M z α ∧ Anc M z β) := by
  have hn := h.sm.1
  unfold dom_meet
  obtain ⟨r, hr, κ, h1, h2, h3, h4⟩ := whl_ex (body := fun (s : Int × Int) => dom_meet.bd8 S (plL f R) s.1 s.2)
    (fun s => ∃ a b, s = (((ob R a : Nat) : Int), ((ob R b : Nat) : Int)) ∧ a < f.blocks.length ∧ b < f.blocks.length ∧ D a ∧ D b ∧ ∀ z, (Anc M z a ∧ Anc M z b) ↔ (Anc M z α ∧ Anc M z β))
    (fun s => pb R s.1.toNat + pb R s.2.toNat) (fun r => ∃ κ, r = ((ob R κ : Nat) : Int) ∧ κ < f.blocks.length ∧ D κ ∧ ∀ z, Anc M z κ ↔ (Anc M z α ∧ Anc M z β)) (by
      rintro s ⟨a, b, rfl, ha, hb, hDa, hDb, hz⟩
      simp only [dom_meet.bd8]
      by_cases hc : ((ob R a : Nat) : Int) = ((ob R b : Nat) : Int)
      · have hab : a = b := h.ob_inj ha hb (by omega)
        subst hab
        rw [if_neg (by simp)]
        exact .inl ⟨_, rfl, a, rfl, ha, hDa, fun z => by rw [← hz z, and_self]⟩
      · rw [if_pos hc]
        obtain ⟨a', g1, g2, g3, g4, g5, g6⟩ := up_to h hS b hb (fun s => dom_meet.bd24 S (plL f R) ((ob R b : Nat) : Int) s) (fun x hx hDx => by
          simp only [dom_meet.bd24, h.plL_ob hx, h.plL_ob hb, Option.bind_some, hS.get hx hDx]
          split <;> rfl) a ha hDa
        rw [g1]
        simp only [Option.bind_some, dom_meet.nx24]
        obtain ⟨b', k1, k2, k3, k4, k5, k6⟩ := up_to h hS a' g2 (fun s => dom_meet.bd31 S (plL f R) ((ob R a' : Nat) : Int) s) (fun x hx hDx => by
          simp only [dom_meet.bd31, h.plL_ob hx, h.plL_ob g2, Option.bind_some, hS.get hx hDx]
          split <;> rfl) b hb hDb
        rw [k1]
        simp only [Option.bind_some, dom_meet.nx31]
        refine .inr ⟨_, rfl, ⟨a', b', rfl, g2, k2, g3, k3, fun z => ?_⟩, ?_⟩
        · rw [← hz z]
          constructor
          · rintro ⟨m1, m2⟩
            have l1 := m1.le hS.dn g2
            have l2 := m2.le hS.dn k2
            exact ⟨(g6 z (by omega)).1 m1, (k6 z (by omega)).1 m2⟩
          · rintro ⟨m1, m2⟩
            have l1 := m1.le hS.dn ha
            have l2 := m2.le hS.dn hb
            have m3 := (g6 z (by omega)).2 m1
            have l3 := m3.le hS.dn g2
            exact ⟨m3, (k6 z l3).2 m2⟩
        · have hne : a ≠ b := fun e => hc (by rw [e])
          simp only [Int.toNat_natCast]
          rw [h.pb_ob ha, h.pb_ob hb, h.pb_ob g2, h.pb_ob k2]
          omega) FUEL _ ⟨α, β, rfl, hα, hβ, hDa, hDb, fun z => Iff.rfl⟩ (by simp only [Int.toNat_natCast]; rw [h.pb_ob hα, h.pb_ob hβ]; exact small_max (by omega))
  exact ⟨κ, by rw [hr, h1]; rfl, h2, h3, h4⟩
end
end Go.Proofs.YteaknconpkklhaaDoor
set_option linter.unusedVariables false
set_option linter.unusedSimpArgs false
namespace Go.Proofs.YteaknconpkklhaaDoor
open Go Go.Proofs
section
variable {f : PFunc} {R : List Int}
/-- Place p leads to place i. -/
def Pl (f : PFunc) (R : List Int) (p i : Nat) : Prop := p < f.blocks.length ∧ ((ob R i : Nat) : Int) ∈ (nexts f).getD (ob R p) []
theorem mem_preds (nx : List (List Int)) (t : Nat) (x : Int) : x ∈ preds nx t ↔ ∃ j : Nat, x = j ∧ j < nx.length ∧ (t : Int) ∈ nx.getD j [] := by
  unfold preds
  simp only [List.mem_map, List.mem_filter, List.mem_range, decide_eq_true_eq]
  constructor
  · rintro ⟨j, ⟨h1, h2⟩, rfl⟩; exact ⟨j, rfl, h1, h2⟩
  · rintro ⟨j, rfl, h1, h2⟩; exact ⟨j, ⟨h1, h2⟩, rfl⟩
theorem nexts_getD (f : PFunc) {v : Nat} (h : v < f.blocks.length) : (nexts f).getD v [] = succs f.blocks.length f.blocks[v].term.to := by
  rw [List.getD_eq_getElem?_getD, nexts_get f v h]; rfl
theorem Full.lead (h : Full f R) : Lead f.blocks.length (Pl f R) := by
  refine ⟨fun p i hp _ => hp.1, fun i h0 hi => ?_⟩
  obtain ⟨k, hk, u, h1, hu, h2⟩ := h.led i (by rw [h.len]; exact hi) h0
  have hk' : k < f.blocks.length := by omega
  have hob : ob R k = u := by
    have := (h.get hk').1
    rw [List.getElem?_eq_getElem (by rw [h.len]; exact hk'), h1] at this
    have := Option.some.inj this; omega
  have hobi : R[i]'(by rw [h.len]; exact hi) = ((ob R i : Nat) : Int) := by
    have := (h.get hi).1
    rw [List.getElem?_eq_getElem (by rw [h.len]; exact hi)] at this
    exact Option.some.inj this
  refine ⟨k, ⟨hk', ?_⟩, hk⟩
  rw [hob, nexts_getD f hu, mem_succs]
  rw [hobi] at h2
  have := (h.get hi).2
  exact ⟨h2, by omega, by omega⟩
/-- The blocks that lead to the block of place i, as places. -/
theorem Full.preds (h : Full f R) {i : Nat} (hi : i < f.blocks.length) : ∀ x ∈ preds (nexts f) (ob R i), ∃ p, x = ((ob R p : Nat) : Int) ∧ p < f.blocks.length ∧ Pl f R p i := fun x hx => by
  obtain ⟨j, rfl, h1, h2⟩ := (mem_preds _ _ _).1 hx
  rw [nexts_length] at h1
  obtain ⟨g1, g2⟩ := h.ob_pb h1
  exact ⟨pb R j, by rw [g1], g2, g2, by rw [g1]; exact h2⟩
theorem Full.preds' (h : Full f R) {i p : Nat} (hp : Pl f R p i) : ((ob R p : Nat) : Int) ∈ Go.Proofs.YteaknconpkklhaaDoor.preds (nexts f) (ob R i) :=
  (mem_preds _ _ _).2 ⟨ob R p, rfl, by rw [nexts_length]; exact (h.get hp.1).2, hp.2⟩
/-! ### One place -/
variable {D : Nat → Prop} {M : Nat → Nat} {S : List Int}
/-- What is best, behind some of those that lead to a place. -/
def Best (f : PFunc) (R : List Int) (D : Nat → Prop) (M : Nat → Nat) (l : List Int) (b : Int) : Prop :=
  (b = -1 ∧ ∀ p, p < f.blocks.length → ((ob R p : Nat) : Int) ∈ l → ¬ D p) ∨
  ∃ κ, b = ((ob R κ : Nat) : Int) ∧ κ < f.blocks.length ∧ D κ ∧ ∀ z, Anc M z κ ↔ ∀ p, p < f.blocks.length → ((ob R p : Nat) : Int) ∈ l → D p → Anc M z p
theorem best_ok (h : Full f R) [hdec : DecidablePred D] (hS : Ts f R D M S) (l : List Int) (hl : l.length ≤ 1000) (hin : ∀ x ∈ l, ∃ p, x = ((ob R p : Nat) : Int) ∧ p < f.blocks.length)
    (hany : ∃ q, q < f.blocks.length ∧ ((ob R q : Nat) : Int) ∈ l ∧ D q) :
    ∃ κ, whl (fun (s : Int × Int) => dom_Nearest.bd84 (plL f R) S l s.1 s.2) FUEL (-1, 0) = some ((ob R κ : Nat) : Int) ∧ κ < f.blocks.length ∧ D κ ∧ ∀ z, Anc M z κ ↔ ∀ p, p < f.blocks.length → ((ob R p : Nat) : Int) ∈ l → D p → Anc M z p := by
  obtain ⟨r, hr, hb⟩ := whl_for (body := fun (s : Int × Int) => dom_Nearest.bd84 (plL f R) S l s.1 s.2) l.length
    (fun k s => s.2 = (k : Int) ∧ Best f R D M (l.take k) s.1) (fun r => Best f R D M l r) (le_max hl (by omega)) (by
      rintro k ⟨b, kk⟩ hk ⟨rfl, hb⟩
      simp only at hb
      obtain ⟨p, hp, hpn⟩ := hin _ (List.getElem_mem hk)
      have hw := w64_i hk (show l.length ≤ 1000 by omega)
      have hmem : ∀ q, q < f.blocks.length → (((ob R q : Nat) : Int) ∈ l.take (k + 1) ↔ (((ob R q : Nat) : Int) ∈ l.take k ∨ q = p)) := fun q hq => by
        rw [List.take_succ_eq_append_getElem hk, List.mem_append, List.mem_singleton, hp]
        constructor
        · rintro (h1 | h1)
          · exact .inl h1
          · exact .inr (h.ob_inj hq hpn (by omega))
        · rintro (h1 | rfl)
          · exact .inl h1
          · exact .inr rfl
      simp only [dom_Nearest.bd84, len_lt, hk, if_true, idx_lt hk, Option.bind_some, hp]
      by_cases hD : D p
      · rw [hS.get hpn hD]
        simp only [Option.bind_some]
        rw [if_neg (by omega)]
        rcases hb with ⟨rfl, hno⟩ | ⟨κ, rfl, hκ, hDκ, hz⟩
        · rw [if_pos (by omega)]
          simp only [dom_Nearest.jn97, hw]
          refine .inr ⟨_, rfl, rfl, .inr ⟨p, rfl, hpn, hD, fun z => ⟨fun hz q hq hm hDq => ?_, fun hall => hall p hpn ((hmem p hpn).2 (.inr rfl)) hD⟩⟩⟩
          rcases (hmem q hq).1 hm with h1 | rfl
          · exact absurd hDq (hno q hq h1)
          · exact hz
        · rw [if_neg (by omega)]
          obtain ⟨κ', g1, g2, g3, g4⟩ := meet_ok h hS p κ hpn hκ hD hDκ
          rw [g1]
          simp only [Option.bind_some, dom_Nearest.jn97, hw]
          refine .inr ⟨_, rfl, rfl, .inr ⟨κ', rfl, g2, g3, fun z => ?_⟩⟩
          rw [g4 z, hz z]
          constructor
          · rintro ⟨h1, h2⟩ q hq hm hDq
            rcases (hmem q hq).1 hm with h3 | rfl
            · exact h2 q hq h3 hDq
            · exact h1
          · intro hall
            exact ⟨hall p hpn ((hmem p hpn).2 (.inr rfl)) hD, fun q hq hm hDq => hall q hq ((hmem q hq).2 (.inl hm)) hDq⟩
      · rw [idx_nat, hS.off p hpn hD]
        simp only [Option.bind_some]
        rw [if_pos (by omega)]
        simp only [dom_Nearest.jn97, hw]
        refine .inr ⟨_, rfl, rfl, ?_⟩
        rcases hb with ⟨rfl, hno⟩ | ⟨κ, rfl, hκ, hDκ, hz⟩
        · refine .inl ⟨rfl, fun q hq hm => ?_⟩
          rcases (hmem q hq).1 hm with h1 | rfl
          · exact hno q hq h1
          · exact hD
        · refine .inr ⟨κ, rfl, hκ, hDκ, fun z => ?_⟩
          rw [hz z]
          constructor
          · intro hall q hq hm hDq
            rcases (hmem q hq).1 hm with h1 | rfl
            · exact hall q hq h1 hDq
            · exact absurd hDq hD
          · exact fun hall q hq hm hDq => hall q hq ((hmem q hq).2 (.inl hm)) hDq) (by
      rintro ⟨b, kk⟩ ⟨rfl, hb⟩
      simp only [List.take_length] at hb
      refine ⟨b, ?_, hb⟩
      simp [dom_Nearest.bd84, len]) (s0 := (-1, 0)) ⟨rfl, .inl ⟨rfl, fun p _ hm => by simp at hm⟩⟩
  rcases hb with ⟨rfl, hno⟩ | ⟨κ, rfl, h1⟩
  · obtain ⟨q, hq, hm, hDq⟩ := hany
    exact absurd hDq (hno q hq hm)
  · exact ⟨κ, hr, h1⟩
end
end Go.Proofs.YteaknconpkklhaaDoor
set_option linter.unusedVariables false
set_option linter.unusedSimpArgs false
namespace Go.Proofs.YteaknconpkklhaaDoor
open Go Go.Proofs
section
variable {f : PFunc} {R : List Int}
def DD (later : Bool) (i j : Nat) : Prop := later = true ∨ j < i
instance {later : Bool} {i : Nat} : DecidablePred (DD later i) := fun j => inferInstanceAs (Decidable (later = true ∨ j < i))
/-- A row of nearest ones, as places: whole. -/
structure Nr (f : PFunc) (N : Nat → Nat) : Prop where
  dn : Dn f.blocks.length N
  zero : N 0 = 0
  out : ∀ j, f.blocks.length ≤ j → N j = 0
structure In (f : PFunc) (R : List Int) (later : Bool) (O : Nat → Nat) (i : Nat) (N : Nat → Nat) (S : List Int) (chg : Bool) : Prop where
  dn : Dn f.blocks.length N
  zero : N 0 = 0
  out : ∀ j, i ≤ j → N j = 0
  ts : Ts f R (DD later i) (mixA i N O) S
  ps : ∀ j, 0 < j → j < i → ∀ z, Anc N z (N j) ↔ ∀ p, Pl f R p j → DD later j p → Anc (mixA j N O) z p
  ch1 : later = true → (chg = true ↔ ∃ j, 0 < j ∧ j < i ∧ N j ≠ O j)
  ch0 : later = false → (chg = true ∨ i = 1)
  ch2 : i = 1 → chg = false
def nup (N : Nat → Nat) (i κ : Nat) : Nat → Nat := fun x => if x = i then κ else N x
theorem nup_same (N : Nat → Nat) (i κ : Nat) : nup N i κ i = κ := if_pos rfl
theorem nup_ne (N : Nat → Nat) {i j : Nat} (κ : Nat) (h : j ≠ i) : nup N i κ j = N j := if_neg h
theorem In.next {later : Bool} {O : Nat → Nat} (h : Full f R) (hO : Nr f O) {i : Nat} {N : Nat → Nat} {S : List Int} {chg : Bool} (hi0 : 0 < i) (hi : i < f.blocks.length) (hI : In f R later O i N S chg) :
    ∃ κ S' chg' N', whl (fun (s : Int × Int) => dom_Nearest.bd84 (plL f R) S (preds (nexts f) (ob R i)) s.1 s.2) FUEL (-1, 0) = some κ ∧
      (∃ v, idx S ((ob R i : Nat) : Int) = some v ∧ ((¬ v = κ ∧ S' = S.set (ob R i) κ ∧ chg' = true) ∨ (v = κ ∧ S' = S ∧ chg' = chg))) ∧ In f R later O (i + 1) N' S' chg' := by
  obtain ⟨q, hq, hlt⟩ := h.lead.fwd i hi0 hi
  have hmem : ∀ p, p < f.blocks.length → (((ob R p : Nat) : Int) ∈ preds (nexts f) (ob R i) ↔ Pl f R p i) := fun p hp =>
    ⟨fun hm => by obtain ⟨p', e1, e2, e3⟩ := h.preds hi _ hm; rwa [h.ob_inj hp e2 (by omega)], fun hm => h.preds' hm⟩
  obtain ⟨κ, h1, h2, h3, h4⟩ := best_ok h hI.ts (preds (nexts f) (ob R i)) (by have := preds_length (nexts f) (ob R i); rw [nexts_length] at this; have := h.sm.1; omega)
    (fun x hx => by obtain ⟨p, e1, e2, _⟩ := h.preds hi x hx; exact ⟨p, e1, e2⟩) ⟨q, hq.1, (hmem q hq.1).2 hq, .inr hlt⟩
  have hκ : κ < i := by
    have := ((h4 κ).1 .refl q hq.1 ((hmem q hq.1).2 hq) (.inr hlt)).le hI.ts.dn hq.1
    omega
  have hm : ∀ j, j ≤ i → mixA j (nup N i κ) O = mixA j N O := fun j hj => by
    funext x
    unfold mixA
    split
    · rw [nup_ne _ _ (by omega)]
    · rfl
  have hdnN : Dn f.blocks.length (nup N i κ) := fun b h0 hb => by
    by_cases e : b = i
    · subst e; rw [nup_same]; exact hκ
    · rw [nup_ne _ _ e]; exact hI.dn b h0 hb
  have hagr : ∀ b, b < i → b < f.blocks.length → ∀ z, Anc (nup N i κ) z b ↔ Anc N z b := fun b hb hbn z =>
    ⟨fun k => k.agree hdnN hbn (fun j hj => nup_ne _ _ (by omega)), fun k => k.agree hI.dn hbn (fun j hj => (nup_ne _ _ (by omega)).symm)⟩
  have hM' : ∀ j, j ≠ i → mixA (i + 1) (nup N i κ) O j = mixA i N O j := fun j hj => by
    unfold mixA
    by_cases hlt : j < i
    · rw [if_pos (by omega), if_pos hlt, nup_ne _ _ hj]
    · rw [if_neg (by omega), if_neg hlt]
  have hMi : mixA (i + 1) (nup N i κ) O i = κ := by rw [mixA_lt (by omega)]; exact nup_same _ _ _
  have hlen := hI.ts.len
  obtain ⟨hgi, hobi⟩ := h.get hi
  -- the new row
  have hts : Ts f R (DD later (i + 1)) (mixA (i + 1) (nup N i κ) O) (S.set (ob R i) ((ob R κ : Nat) : Int)) := by
    refine ⟨by rw [List.length_set]; exact hlen, fun j hj hD => ?_, fun j hj hD => ?_, Dn.mixA (fun b h0 hb => hdnN b h0 (by omega)) hO.dn, fun j hj hD => ?_⟩
    · by_cases e : j = i
      · subst e; rw [hMi, List.getElem?_set_self (by rw [hlen]; exact hobi)]
      · rw [hM' j e, List.getElem?_set_ne (fun e2 => e (h.ob_inj hj hi e2.symm))]
        exact hI.ts.on j hj (hD.imp id (fun hl => by omega))
    · have e : j ≠ i := fun e => hD (.inr (by omega))
      rw [List.getElem?_set_ne (fun e2 => e (h.ob_inj hj hi e2.symm))]
      exact hI.ts.off j hj (fun hD2 => hD (hD2.imp id (fun hl => by omega)))
    · rcases hD with hl | hl
      · exact .inl hl
      · refine .inr ?_
        by_cases e : j = i
        · subst e; rw [hMi]; omega
        · rw [hM' j e, mixA_lt (by omega)]
          by_cases e0 : j = 0
          · subst e0; rw [hI.zero]; omega
          · have := hI.dn j e0 hj; omega
  have hps : ∀ j, 0 < j → j < i + 1 → ∀ z, Anc (nup N i κ) z ((nup N i κ) j) ↔ ∀ p, Pl f R p j → DD later j p → Anc (mixA j (nup N i κ) O) z p := by
    intro j hj0 hj z
    rw [hm j (by omega)]
    by_cases e : j = i
    · subst e
      rw [nup_same]
      rw [hagr κ hκ h2 z, ← mixA_anc (i := j) (B := O) hI.dn hκ h2 hI.ts.dn, h4 z]
      exact ⟨fun hall p hp hD => hall p hp.1 ((hmem p hp.1).2 hp) hD, fun hall p hp hpm hD => hall p ((hmem p hp).1 hpm) hD⟩
    · rw [nup_ne _ _ e]
      have hNj := hI.dn j (by omega) (by omega)
      rw [hagr (N j) (by omega) (by omega) z]
      exact hI.ps j hj0 (by omega) z
  -- what stood there
  have hold : ∃ v, S[ob R i]? = some v ∧ (later = true → v = ((ob R (O i) : Nat) : Int)) ∧ (later = false → v = -1) := by
    by_cases hl : later = true
    · exact ⟨_, hI.ts.on i hi (.inl hl), fun _ => by rw [mixA_ge (Nat.le_refl _)], fun e => by rw [hl] at e; cases e⟩
    · exact ⟨_, hI.ts.off i hi (fun hD => hD.elim hl (fun e => by omega)), fun e => absurd e hl, fun _ => rfl⟩
  obtain ⟨v, hv, hv1, hv2⟩ := hold
  have hout : ∀ j, i + 1 ≤ j → (nup N i κ) j = 0 := fun j hj => by
    rw [nup_ne _ _ (by omega)]; exact hI.out j (by omega)
  have hz0 : (nup N i κ) 0 = 0 := by rw [nup_ne _ _ (by omega)]; exact hI.zero
  have hchg : later = true → (¬ v = ((ob R κ : Nat) : Int) ↔ κ ≠ O i) := fun hl => by
    rw [hv1 hl]
    have hOi := hO.dn i (by omega) hi
    constructor
    · intro h5 e; exact h5 (by rw [e])
    · intro h5 e; exact h5 (h.ob_inj (by omega) (by omega) (by omega))
  by_cases hc : v = ((ob R κ : Nat) : Int)
  · refine ⟨_, S, chg, nup N i κ, h1, ⟨v, by rw [idx_nat]; exact hv, .inr ⟨hc, rfl, rfl⟩⟩, ⟨hdnN, hz0, hout, ?_, hps, fun hl => ?_, fun hl => ?_, fun hl => ?_⟩⟩
    · have : S.set (ob R i) ((ob R κ : Nat) : Int) = S := by
        apply List.ext_getElem?
        intro x
        rw [List.getElem?_set]
        by_cases e : ob R i = x
        · subst e; rw [if_pos rfl, if_pos (by rw [hlen]; exact hobi), hv, hc]
        · rw [if_neg e]
      rw [this] at hts; exact hts
    · rw [hI.ch1 hl]
      constructor
      · rintro ⟨j, j1, j2, j3⟩; exact ⟨j, j1, by omega, by rw [nup_ne _ _ (by omega)]; exact j3⟩
      · rintro ⟨j, j1, j2, j3⟩
        by_cases e : j = i
        · subst e
          rw [nup_same] at j3
          exact absurd hc ((hchg hl).2 j3)
        · exact ⟨j, j1, by omega, by rwa [nup_ne _ _ e] at j3⟩
    · rw [hv2 hl] at hc; omega
    · omega
  · refine ⟨_, _, true, nup N i κ, h1, ⟨v, by rw [idx_nat]; exact hv, .inl ⟨hc, rfl, rfl⟩⟩, ⟨hdnN, hz0, hout, hts, hps, fun hl => ⟨fun _ => ⟨i, hi0, by omega, by rw [nup_same]; exact (hchg hl).1 hc⟩, fun _ => rfl⟩, fun _ => .inl rfl, fun hl => by omega⟩⟩
end
end Go.Proofs.YteaknconpkklhaaDoor
set_option linter.unusedVariables false
set_option linter.unusedSimpArgs false
namespace Go.Proofs.YteaknconpkklhaaDoor
open Go Go.Proofs
section
variable {f : PFunc} {R : List Int}
theorem places (h : Full f R) : whl (fun (s : List Int × Int) => dom_Nearest.bd35 R s.1 s.2) FUEL (List.replicate f.blocks.length 0, 0) = some (plL f R) := by
  have hn := h.sm.1
  have hrun := whl_run (body := fun (s : List Int × Int) => dom_Nearest.bd35 R s.1 s.2) (r := plL f R) R.length FUEL (fun i => ((List.range f.blocks.length).map fun b => if pb R b < i then ((pb R b : Nat) : Int) else 0, (i : Int))) (fun i hi => by
    have hi' : i < f.blocks.length := by rw [← h.len]; exact hi
    obtain ⟨h1, h2⟩ := h.get hi'
    rw [List.getElem?_eq_getElem hi] at h1
    have h1' := Option.some.inj h1
    have hidx : idx ((List.range f.blocks.length).map fun b => if pb R b < i then ((pb R b : Nat) : Int) else 0) ((ob R i : Nat) : Int) = some (if pb R (ob R i) < i then ((pb R (ob R i) : Nat) : Int) else 0) := by
      rw [idx_nat]; simp [h2]
    simp only [dom_Nearest.bd35, len_lt, hi, if_true, idx_lt hi, Option.bind_some, h1', hidx, Int.toNat_natCast, w64_i hi (show R.length ≤ 1000 by rw [h.len]; omega)]
    congr 3
    apply List.ext_getElem (by simp)
    intro x hx1 hx2
    have hx : x < f.blocks.length := by simpa using hx2
    rw [List.getElem_set]
    simp only [List.getElem_map, List.getElem_range]
    by_cases e : ob R i = x
    · subst e
      rw [if_pos rfl, h.pb_ob hi', if_pos (by omega)]
    · rw [if_neg e]
      have : pb R x ≠ i := fun e2 => e (by rw [← e2]; exact (h.ob_pb hx).1)
      by_cases hc : pb R x < i
      · rw [if_pos hc, if_pos (by omega)]
      · rw [if_neg hc, if_neg (by omega)]) (by
    simp only [dom_Nearest.bd35]
    rw [if_neg (by simp [len])]
    congr 2
    unfold plL
    apply List.map_congr_left
    intro b hb
    rw [if_pos (by rw [h.len]; exact (h.ob_pb (List.mem_range.1 hb)).2)]) (lt_FUEL (le_max (by rw [h.len]; exact hn) (by omega)))
  have h0 : ((List.range f.blocks.length).map fun b => if pb R b < 0 then ((pb R b : Nat) : Int) else 0) = List.replicate f.blocks.length (0 : Int) := by
    apply List.ext_getElem (by simp)
    intro x h1 h2
    simp
  rw [h0] at hrun
  exact hrun
theorem Ts.whole {later : Bool} {O N : Nat → Nat} {S : List Int} (hN : Nr f N) (hS : Ts f R (DD later f.blocks.length) (mixA f.blocks.length N O) S) : Ts f R (fun _ => True) N S := by
  refine ⟨hS.len, fun j hj _ => ?_, fun j hj hD => absurd trivial hD, hN.dn, fun _ _ _ => trivial⟩
  rw [hS.on j hj (.inr hj), mixA_lt hj]
theorem In.first {N : Nat → Nat} {S : List Int} {chg : Bool} (hI : In f R false (fun _ => 0) f.blocks.length N S chg) : First f.blocks.length (Pl f R) N := fun i h0 hi z => by
  rw [hI.ps i h0 hi z]
  have hX : Dn f.blocks.length (mixA i N (fun _ => 0)) := Dn.mixA (fun b hb hbi => hI.dn b hb (by omega)) (fun b hb _ => by show 0 < b; omega)
  constructor
  · intro hall p hp hlt
    exact (mixA_anc hI.dn hlt (by omega) hX).1 (hall p hp (.inr hlt))
  · intro hall p hp hD
    have hlt : p < i := by rcases hD with e | e; (· cases e); (· exact e)
    exact (mixA_anc hI.dn hlt (by omega) hX).2 (hall p hp hlt)
theorem In.pass {O N : Nat → Nat} {S : List Int} {chg : Bool} (hI : In f R true O f.blocks.length N S chg) : Pass f.blocks.length (Pl f R) O N := fun i h0 hi z => by
  rw [hI.ps i h0 hi z]
  exact ⟨fun hall p hp => hall p hp (.inl rfl), fun hall p hp _ => hall p hp⟩
end
end Go.Proofs.YteaknconpkklhaaDoor
set_option linter.unusedVariables false
set_option linter.unusedSimpArgs false
namespace Go.Proofs.YteaknconpkklhaaDoor
open Go Go.Proofs
variable {f : PFunc} {R : List Int}
/-- the table holds v over w -/
def Hold (T : List (List Bool)) (v w : Nat) : Prop := ∃ row, T[v]? = some row ∧ row[w]? = some true
theorem Hold.set {T : List (List Bool)} {a i v w : Nat} {row : List Bool} (ha : T[a]? = some row) : Hold (T.set a (row.set i true)) v w → Hold T v w ∨ (v = a ∧ w = i) := fun ⟨r, h1, h2⟩ => by
  by_cases e : a = v
  · subst e
    rw [List.getElem?_set_self (List.getElem?_eq_some_iff.1 ha).1] at h1
    cases h1
    by_cases e2 : i = w
    · exact .inr ⟨rfl, e2.symm⟩
    · rw [List.getElem?_set_ne e2] at h2
      exact .inl ⟨row, ha, h2⟩
  · rw [List.getElem?_set_ne e] at h1
    exact .inl ⟨r, h1, h2⟩
theorem Hold.keep {T : List (List Bool)} {a i v w : Nat} {row : List Bool} (ha : T[a]? = some row) : Hold T v w → Hold (T.set a (row.set i true)) v w := fun ⟨r, h1, h2⟩ => by
  by_cases e : a = v
  · subst e
    rw [ha] at h1
    cases h1
    exact ⟨_, List.getElem?_set_self (List.getElem?_eq_some_iff.1 ha).1, (Le.mark row i).le w h2⟩
  · exact ⟨r, by rw [List.getElem?_set_ne e]; exact h1, h2⟩
theorem Hold.new {T : List (List Bool)} {a i : Nat} {row : List Bool} (ha : T[a]? = some row) (hi : i < row.length) : Hold (T.set a (row.set i true)) a i :=
  ⟨_, List.getElem?_set_self (List.getElem?_eq_some_iff.1 ha).1, List.getElem?_set_self hi⟩
theorem Anc.up {M : Nat → Nat} {j x : Nat} (h : Anc M j x) (hj : j ≠ 0) : Anc M (M j) x := by
  induction h with
  | refl => exact .step hj .refl
  | step h0 _ ih => exact .step h0 ih
/-- a table of n rows whose entries are below m -/
structure Bel (n c m : Nat) (T : List (List Int)) : Prop where
  len : T.length = n
  few : ∀ r ∈ T, r.length ≤ c
  mem : ∀ r ∈ T, ∀ x ∈ r, 0 ≤ x ∧ x < (m : Int)
theorem Bel.get {n c m : Nat} {T : List (List Int)} (h : Bel n c m T) {b : Int} (h0 : 0 ≤ b) (h1 : b < (n : Int)) : ∃ row, idx T b = some row ∧ T[b.toNat]? = some row ∧ row.length ≤ c ∧ ∀ x ∈ row, 0 ≤ x ∧ x < (m : Int) := by
  obtain ⟨row, h2, h3⟩ := idx_in (xs := T) h0 (by rw [h.len]; exact h1)
  exact ⟨row, h2, h3, h.few row (List.mem_of_getElem? h3), h.mem row (List.mem_of_getElem? h3)⟩
theorem Bel.set {n c m : Nat} {T : List (List Int)} (h : Bel n c m T) (i : Nat) {row : List Int} (h1 : row.length ≤ c) (h2 : ∀ x ∈ row, 0 ≤ x ∧ x < (m : Int)) : Bel n c m (T.set i row) :=
  ⟨by simp [h.len], fun r hr => (List.mem_or_eq_of_mem_set hr).elim (h.few r) (fun e => e ▸ h1), fun r hr => (List.mem_or_eq_of_mem_set hr).elim (h.mem r) (fun e => e ▸ h2)⟩
theorem Bel.mono {n c c' m : Nat} {T : List (List Int)} (h : Bel n c m T) (hc : c ≤ c') : Bel n c' m T := ⟨h.len, fun r hr => Nat.le_trans (h.few r hr) hc, h.mem⟩
theorem Bel.rep (n c m : Nat) : Bel n c m (List.replicate n []) := ⟨by simp, fun r hr => by rw [List.eq_of_mem_replicate hr]; simp, fun r hr => by rw [List.eq_of_mem_replicate hr]; simp⟩
end Go.Proofs.YteaknconpkklhaaDoor
set_option linter.unusedVariables false
set_option linter.unusedSimpArgs false
namespace Go.Proofs.YteaknconpkklhaaDoor
open Go Go.Proofs
theorem stay_row (b : Int) (row : List Bool) (E : List (List Bool)) (g : Bool) (hg : g = true) (z : List (List Bool) × Bool) (h : whl (fun (s : (List (List Bool) × Bool × Int)) => live_Live.bd122 b row s.1 s.2.1 s.2.2) FUEL (E, g, 0) = some z) : z.2 = true := by
  refine whl_inv (b := fun (s : (List (List Bool) × Bool × Int)) => live_Live.bd122 b row s.1 s.2.1 s.2.2) (fun s => s.2.1 = true) (fun z => z.2 = true) (fun s r hI hb => ?_) (fun s s' hI hb => ?_) FUEL (E, g, 0) z hg h <;>
  · obtain ⟨E', g', j⟩ := s
    simp only at hI
    subst hI
    simp only [live_Live.bd122, live_Live.jn132] at hb
    split at hb
    · obtain ⟨v, hv, hb⟩ := bind_some' hb
      obtain ⟨t, ht, hb⟩ := bind_some' hb
      split at hb
      · obtain ⟨_, _, hb⟩ := bind_some' hb
        obtain ⟨_, _, hb⟩ := bind_some' hb
        cases hb
        try rfl
      · cases hb
        try rfl
    · cases hb
      try rfl
theorem stay_next (N : List (List Bool)) (b : Int) (l : List Int) (E : List (List Bool)) (g : Bool) (hg : g = true) (z : List (List Bool) × Bool) (h : whl (fun (s : (List (List Bool) × Bool × Int)) => live_Live.bd74 N b l s.1 s.2.1 s.2.2) FUEL (E, g, 0) = some z) : z.2 = true := by
  refine whl_inv (b := fun (s : (List (List Bool) × Bool × Int)) => live_Live.bd74 N b l s.1 s.2.1 s.2.2) (fun s => s.2.1 = true) (fun z => z.2 = true) (fun s r hI hb => ?_) (fun s s' hI hb => ?_) FUEL (E, g, 0) z hg h <;>
  · obtain ⟨E', g', j⟩ := s
    simp only at hI
    subst hI
    simp only [live_Live.bd74, live_Live.nx122] at hb
    split at hb
    · obtain ⟨v, hv, hb⟩ := bind_some' hb
      obtain ⟨t, ht, hb⟩ := bind_some' hb
      obtain ⟨y, hy, hb⟩ := bind_some' hb
      cases hb
      try exact stay_row b t E' true rfl y hy
    · cases hb
      try rfl
theorem stay_in (b : Int) (bg : List Bool) (N : List (List Bool)) (g : Bool) (hg : g = true) (z : List (List Bool) × Bool) (h : whl (fun (s : (List (List Bool) × Bool × Int)) => live_Live.bd89 b bg s.1 s.2.1 s.2.2) FUEL (N, g, 0) = some z) : z.2 = true := by
  refine whl_inv (b := fun (s : (List (List Bool) × Bool × Int)) => live_Live.bd89 b bg s.1 s.2.1 s.2.2) (fun s => s.2.1 = true) (fun z => z.2 = true) (fun s r hI hb => ?_) (fun s s' hI hb => ?_) FUEL (N, g, 0) z hg h <;>
  · obtain ⟨E', g', j⟩ := s
    simp only at hI
    subst hI
    simp only [live_Live.bd89, live_Live.jn99] at hb
    split at hb
    · obtain ⟨v, hv, hb⟩ := bind_some' hb
      obtain ⟨t, ht, hb⟩ := bind_some' hb
      obtain ⟨u, hu, hb⟩ := bind_some' hb
      split at hb
      · obtain ⟨_, _, hb⟩ := bind_some' hb
        obtain ⟨_, _, hb⟩ := bind_some' hb
        cases hb
        try rfl
      · cases hb
        try rfl
    · cases hb
      try rfl
theorem end_row {E0 : List (List Bool)} {b : Nat} {re row : List Bool} (hre : E0[b]? = some re) (hrl : row.length ≤ 300) (E : List (List Bool)) (g : Bool) (hE : g = true ∨ E = E0) (z : List (List Bool) × Bool)
    (h : whl (fun (s : (List (List Bool) × Bool × Int)) => live_Live.bd122 (b : Int) row s.1 s.2.1 s.2.2) FUEL (E, g, 0) = some z) :
    z.2 = true ∨ (z.1 = E0 ∧ g = false ∧ ∀ t : Nat, row[t]? = some true → re[t]? = some true) := by
  refine whl_inv (b := fun (s : (List (List Bool) × Bool × Int)) => live_Live.bd122 (b : Int) row s.1 s.2.1 s.2.2) (fun s => s.2.1 = true ∨ (s.1 = E0 ∧ g = false ∧ ∃ i : Nat, s.2.2 = i ∧ i ≤ 300 ∧ ∀ t : Nat, t < i → row[t]? = some true → re[t]? = some true))
    (fun z => z.2 = true ∨ (z.1 = E0 ∧ g = false ∧ ∀ t : Nat, row[t]? = some true → re[t]? = some true)) (fun s r hI hb => ?_) (fun s s' hI hb => ?_) FUEL (E, g, 0) z ?_ h
  · obtain ⟨E', g', j⟩ := s
    simp only [live_Live.bd122, live_Live.jn132] at hb
    split at hb
    · exfalso
      obtain ⟨v, hv, hb⟩ := bind_some' hb
      obtain ⟨t, ht, hb⟩ := bind_some' hb
      split at hb
      · obtain ⟨_, _, hb⟩ := bind_some' hb
        obtain ⟨_, _, hb⟩ := bind_some' hb
        cases hb
      · cases hb
    · rename_i hj
      cases hb
      rcases hI with h1 | ⟨h1, h0, i, h2, _, h3⟩
      · exact .inl h1
      · refine .inr ⟨h1, h0, fun t ht => h3 t ?_ ht⟩
        simp only at h2
        subst h2
        rw [len_lt] at hj
        have := (List.getElem?_eq_some_iff.1 ht).1
        omega
  · obtain ⟨E', g', j⟩ := s
    simp only [live_Live.bd122, live_Live.jn132] at hb
    split at hb
    · rename_i hj
      obtain ⟨v, hv, hb⟩ := bind_some' hb
      obtain ⟨t, ht, hb⟩ := bind_some' hb
      split at hb
      · obtain ⟨_, _, hb⟩ := bind_some' hb
        obtain ⟨_, _, hb⟩ := bind_some' hb
        cases hb
        exact .inl rfl
      · rename_i hnt
        cases hb
        rcases hI with h1 | ⟨h1, h0, i, h2, h4, h3⟩
        · exact .inl h1
        · simp only at h1 h2
          subst h1 h2
          rw [len_lt] at hj
          refine .inr ⟨rfl, h0, i + 1, w64_i hj (by omega), by omega, fun q hq hqr => ?_⟩
          by_cases e : q < i
          · exact h3 q e hqr
          · obtain rfl : q = i := by omega
            rw [idx_nat] at hv
            rw [hv] at hqr
            cases Option.some.inj hqr
            rw [if_pos rfl] at ht
            obtain ⟨ro, r1, ht1⟩ := bind_some' ht
            obtain ⟨x, x1, ht2⟩ := bind_some' ht1
            rw [idx_nat] at r1 x1
            rw [hre] at r1
            obtain rfl := Option.some.inj r1
            obtain rfl := Option.some.inj ht2
            rw [x1]
            cases x with
            | true => rfl
            | false => exact absurd rfl hnt
    · cases hb
  · cases g with
    | true => exact .inl rfl
    | false => exact .inr ⟨hE.resolve_left (by simp), rfl, 0, rfl, by omega, fun t ht => by omega⟩
theorem end_next {E0 N : List (List Bool)} {b : Nat} {re : List Bool} (hre : E0[b]? = some re) (hN : ∀ r ∈ N, r.length ≤ 300) (l : List Int) (hl : l.length ≤ 70) (E : List (List Bool)) (g : Bool) (hE : g = true ∨ E = E0) (z : List (List Bool) × Bool)
    (h : whl (fun (s : (List (List Bool) × Bool × Int)) => live_Live.bd74 N (b : Int) l s.1 s.2.1 s.2.2) FUEL (E, g, 0) = some z) :
    z.2 = true ∨ (z.1 = E0 ∧ g = false ∧ ∀ x ∈ l, ∀ rx, idx N x = some rx → ∀ t : Nat, rx[t]? = some true → re[t]? = some true) := by
  refine whl_inv (b := fun (s : (List (List Bool) × Bool × Int)) => live_Live.bd74 N (b : Int) l s.1 s.2.1 s.2.2) (fun s => s.2.1 = true ∨ (s.1 = E0 ∧ g = false ∧ s.2.1 = false ∧ ∃ i : Nat, s.2.2 = i ∧ i ≤ 70 ∧ ∀ q : Nat, q < i → ∀ x, l[q]? = some x → ∀ rx, idx N x = some rx → ∀ t : Nat, rx[t]? = some true → re[t]? = some true))
    (fun z => z.2 = true ∨ (z.1 = E0 ∧ g = false ∧ ∀ x ∈ l, ∀ rx, idx N x = some rx → ∀ t : Nat, rx[t]? = some true → re[t]? = some true)) (fun s r hI hb => ?_) (fun s s' hI hb => ?_) FUEL (E, g, 0) z ?_ h
  · obtain ⟨E', g', j⟩ := s
    simp only [live_Live.bd74, live_Live.nx122] at hb
    split at hb
    · exfalso
      obtain ⟨v, hv, hb⟩ := bind_some' hb
      obtain ⟨t, ht, hb⟩ := bind_some' hb
      obtain ⟨y, hy, hb⟩ := bind_some' hb
      cases hb
    · rename_i hj
      cases hb
      rcases hI with h1 | ⟨h1, h0, h5, i, h2, _, h3⟩
      · exact .inl h1
      · refine .inr ⟨h1, h0, fun x hx => ?_⟩
        obtain ⟨q, hq, rfl⟩ := List.getElem_of_mem hx
        simp only at h2
        subst h2
        rw [len_lt] at hj
        exact h3 q (by omega) _ (List.getElem?_eq_getElem hq)
  · obtain ⟨E', g', j⟩ := s
    simp only [live_Live.bd74, live_Live.nx122] at hb
    split at hb
    · rename_i hj
      obtain ⟨v, hv, hb⟩ := bind_some' hb
      obtain ⟨rx, hrx, hb⟩ := bind_some' hb
      obtain ⟨y, hy, hb⟩ := bind_some' hb
      cases hb
      have hrl := hN rx (List.mem_of_getElem? (idx_some hrx).2.2)
      rcases end_row hre hrl E' g' (hI.imp id fun h => h.1) y hy with h1 | ⟨h1, h0, h3⟩
      · exact .inl h1
      · rcases hI with h5 | ⟨_, h6, h7, i, h2, h8, h9⟩
        · rw [h0] at h5; cases h5
        · simp only at h2
          subst h2
          rw [len_lt] at hj
          by_cases hy2 : y.2 = true
          · exact .inl hy2
          refine .inr ⟨h1, h6, by simpa using hy2, i + 1, w64_i hj (by omega), by omega, fun q hq x hx rx' hrx' => ?_⟩
          by_cases e : q < i
          · exact h9 q e x hx rx' hrx'
          · obtain rfl : q = i := by omega
            rw [idx_nat] at hv
            rw [hv] at hx
            cases hx
            rw [hrx] at hrx'
            cases hrx'
            exact h3
    · cases hb
  · cases g with
    | true => exact .inl rfl
    | false => exact .inr ⟨hE.resolve_left (by simp), rfl, rfl, 0, rfl, by omega, fun t ht => by omega⟩
theorem in_row {N0 : List (List Bool)} {b : Nat} {ri bg : List Bool} (hri : N0[b]? = some ri) (hbl : bg.length ≤ 300) (N : List (List Bool)) (g : Bool) (hN : g = true ∨ N = N0) (z : List (List Bool) × Bool)
    (h : whl (fun (s : (List (List Bool) × Bool × Int)) => live_Live.bd89 (b : Int) bg s.1 s.2.1 s.2.2) FUEL (N, g, 0) = some z) :
    z.2 = true ∨ (z.1 = N0 ∧ g = false ∧ ∀ t : Nat, bg[t]? = some true → ri[t]? = some true) := by
  refine whl_inv (b := fun (s : (List (List Bool) × Bool × Int)) => live_Live.bd89 (b : Int) bg s.1 s.2.1 s.2.2) (fun s => s.2.1 = true ∨ (s.1 = N0 ∧ g = false ∧ ∃ i : Nat, s.2.2 = i ∧ i ≤ 300 ∧ ∀ t : Nat, t < i → bg[t]? = some true → ri[t]? = some true))
    (fun z => z.2 = true ∨ (z.1 = N0 ∧ g = false ∧ ∀ t : Nat, bg[t]? = some true → ri[t]? = some true)) (fun s r hI hb => ?_) (fun s s' hI hb => ?_) FUEL (N, g, 0) z ?_ h
  · obtain ⟨E', g', j⟩ := s
    simp only [live_Live.bd89, live_Live.jn99] at hb
    split at hb
    · exfalso
      obtain ⟨v, hv, hb⟩ := bind_some' hb
      obtain ⟨t, ht, hb⟩ := bind_some' hb
      obtain ⟨u, hu, hb⟩ := bind_some' hb
      split at hb
      · obtain ⟨_, _, hb⟩ := bind_some' hb
        obtain ⟨_, _, hb⟩ := bind_some' hb
        cases hb
      · cases hb
    · rename_i hj
      cases hb
      rcases hI with h1 | ⟨h1, h0, i, h2, _, h3⟩
      · exact .inl h1
      · refine .inr ⟨h1, h0, fun t ht => h3 t ?_ ht⟩
        simp only at h2
        subst h2
        rw [len_lt] at hj
        have := (List.getElem?_eq_some_iff.1 ht).1
        omega
  · obtain ⟨E', g', j⟩ := s
    simp only [live_Live.bd89, live_Live.jn99] at hb
    split at hb
    · rename_i hj
      obtain ⟨v, hv, hb⟩ := bind_some' hb
      obtain ⟨t, ht, hb⟩ := bind_some' hb
      obtain ⟨u, hu, hb⟩ := bind_some' hb
      split at hb
      · obtain ⟨_, _, hb⟩ := bind_some' hb
        obtain ⟨_, _, hb⟩ := bind_some' hb
        cases hb
        exact .inl rfl
      · rename_i hne
        cases hb
        rcases hI with h1 | ⟨h1, h0, i, h2, h4, h3⟩
        · exact .inl h1
        · simp only at h1 h2
          subst h1 h2
          rw [len_lt] at hj
          refine .inr ⟨rfl, h0, i + 1, w64_i hj (by omega), by omega, fun q hq hqr => ?_⟩
          by_cases e : q < i
          · exact h3 q e hqr
          · obtain rfl : q = i := by omega
            rw [idx_nat] at hv ht hu
            rw [hv] at hqr
            rw [hri] at ht
            cases ht
            rw [hu, ← hqr]
            cases v <;> cases u <;> simp at hne ⊢
    · cases hb
  · cases g with
    | true => exact .inl rfl
    | false => exact .inr ⟨hN.resolve_left (by simp), rfl, 0, rfl, by omega, fun t ht => by omega⟩
/-- nothing more is wanted at block b -/
def Fx (f : PFunc) (N E : List (List Bool)) (b : Nat) : Prop := ∀ (hb : b < f.blocks.length) (re ri : List Bool), E[b]? = some re → N[b]? = some ri →
  (∀ x ∈ succs f.blocks.length f.blocks[b].term.to, ∀ rx, idx N x = some rx → ∀ t : Nat, rx[t]? = some true → re[t]? = some true) ∧ ∀ t : Nat, (beginF f.blocks[b] re)[t]? = some true → ri[t]? = some true
theorem round_fix (f : PFunc) (hf : LiveOk f) (N0 E0 : List (List Bool)) (hL : LI f N0 E0) (z : List (List Bool) × List (List Bool) × Bool)
    (h : whl (fun (s : (List (List Bool) × List (List Bool) × Bool × Int)) => live_Live.bd57 f (nexts f) s.1 s.2.1 s.2.2.1 s.2.2.2) FUEL (N0, E0, false, (w64 ((len f.blocks) - 1))) = some z) :
    z.2.2 = true ∨ (z.1 = N0 ∧ z.2.1 = E0 ∧ ∀ b, Fx f N0 E0 b) := by
  have hn := hf.few
  have hk := hf.sm.2.1
  have ht : ∀ B ∈ f.blocks, B.term.to.length ≤ 70 := fun B hm => (hf.sm.2.2.2 B hm).2.2.1
  have hw0 : w64 ((len f.blocks) - 1) = (f.blocks.length : Int) - 1 := by simp only [len]; exact w64_id ⟨by omega, by omega⟩
  refine whl_inv (b := fun (s : (List (List Bool) × List (List Bool) × Bool × Int)) => live_Live.bd57 f (nexts f) s.1 s.2.1 s.2.2.1 s.2.2.2)
    (fun s => s.2.2.1 = true ∨ (s.1 = N0 ∧ s.2.1 = E0 ∧ -1 ≤ s.2.2.2 ∧ s.2.2.2 < (f.blocks.length : Int) ∧ ∀ b : Nat, s.2.2.2 < (b : Int) → Fx f N0 E0 b)) (fun z => z.2.2 = true ∨ (z.1 = N0 ∧ z.2.1 = E0 ∧ ∀ b, Fx f N0 E0 b)) (fun s r hI hb => ?_) (fun s s' hI hb => ?_) FUEL _ z (.inr ⟨rfl, rfl, by simp only [hw0]; omega, by simp only [hw0]; omega, fun b hb hlt => by simp only [hw0] at hb; omega⟩) h
  · obtain ⟨N, E, g, j⟩ := s
    simp only [live_Live.bd57, live_Live.nx74, live_Live.nx89] at hb
    split at hb
    · exfalso
      obtain ⟨_, _, hb⟩ := bind_some' hb
      obtain ⟨_, _, hb⟩ := bind_some' hb
      obtain ⟨_, _, hb⟩ := bind_some' hb
      obtain ⟨_, _, hb⟩ := bind_some' hb
      obtain ⟨_, _, hb⟩ := bind_some' hb
      obtain ⟨_, _, hb⟩ := bind_some' hb
      cases hb
    · cases hb
      rcases hI with h1 | ⟨h1, h2, h3, h4, h5⟩
      · exact .inl h1
      · exact .inr ⟨h1, h2, fun b => h5 b (by simp only at *; omega)⟩
  · obtain ⟨N, E, g, j⟩ := s
    simp only [live_Live.bd57, live_Live.nx74, live_Live.nx89] at hb
    split at hb
    · rename_i hj
      obtain ⟨l, hl, hb⟩ := bind_some' hb
      obtain ⟨y, hy, hb⟩ := bind_some' hb
      obtain ⟨B, hB, hb⟩ := bind_some' hb
      obtain ⟨re, hre, hb⟩ := bind_some' hb
      obtain ⟨bg, hbg, hb⟩ := bind_some' hb
      obtain ⟨w, hw, hb⟩ := bind_some' hb
      cases hb
      by_cases hwt : w.2 = true
      · exact .inl hwt
      obtain ⟨b, rfl⟩ : ∃ b : Nat, j = b := ⟨j.toNat, by omega⟩
      rw [idx_nat] at hl hB hre
      have hbn : b < f.blocks.length := (List.getElem?_eq_some_iff.1 hB).1
      have hBe : B = f.blocks[b] := ((List.getElem?_eq_some_iff.1 hB).2).symm
      subst hBe
      rw [nexts_get f b hbn] at hl
      cases hl
      have hll := (nexts_rows f ht b _ (nexts_get f b hbn)).1
      -- rows of the tables as they were
      obtain ⟨re0, e1, e2, e3⟩ := hL.dimE.get (b := (b : Int)) (by omega) (by omega)
      obtain ⟨ri0, i1, i2, i3⟩ := hL.dimI.get (b := (b : Int)) (by omega) (by omega)
      rw [Int.toNat_natCast] at e2 i2
      rcases hI with h1 | ⟨h1, h2, h3, h4, h5⟩
      · -- again is true already: it stays so
        exfalso
        simp only at h1
        subst h1
        exact hwt (stay_in (b : Int) bg N y.2 (stay_next N (b : Int) _ E true rfl y hy) w hw)
      · simp only at h1 h2 h3 h4
        subst h1 h2
        rcases end_next e2 (fun r hr => by rw [hL.dimI.row r hr]; exact hk) _ hll E g (.inr rfl) y hy with g1 | ⟨g1, _, g2⟩
        · exact absurd (stay_in (b : Int) bg N y.2 g1 w hw) hwt
        · rw [g1, e2] at hre
          obtain rfl := Option.some.inj hre
          rw [begin_eq f.blocks[b] re0 (hf.sm.2.2.2 _ (List.getElem_mem hbn)) (by rw [e3]; exact hf.regs _ (List.getElem_mem hbn)) (by omega)] at hbg
          cases hbg
          rcases in_row i2 (by rw [beginF_length]; omega) N y.2 (.inr rfl) w hw with k1 | ⟨k1, _, k2⟩
          · exact absurd k1 hwt
          · have hw1 : w64 ((b : Int) - 1) = (b : Int) - 1 := w64_id ⟨by omega, by omega⟩
            refine .inr ⟨k1, g1, by simp only [hw1]; omega, by simp only [hw1]; omega, fun c hc => ?_⟩
            simp only [hw1] at hc
            by_cases e : (b : Int) < (c : Int)
            · exact h5 c e
            · obtain rfl : c = b := by omega
              intro hcb re ri hre hri
              rw [e2] at hre
              rw [i2] at hri
              cases hre; cases hri
              exact ⟨g2, k2⟩
    · cases hb
theorem live_rounds' (f : PFunc) (hf : LiveOk f) (ins ends : List (List Bool)) (hL : LI f ins ends) (hbig : fal ins + fal ends ≤ 1000000) :
    ∃ z, whl (fun (s : (List (List Bool) × List (List Bool) × Bool)) => live_Live.bd43 f (nexts f) s.1 s.2.1 s.2.2) FUEL (ins, ends, true) = some z ∧ LI f z.1 z.2 ∧ ∀ b, Fx f z.1 z.2 b := by
  refine whl_ex (body := fun (s : (List (List Bool) × List (List Bool) × Bool)) => live_Live.bd43 f (nexts f) s.1 s.2.1 s.2.2) (fun s => LI f s.1 s.2.1 ∧ (s.2.2 = true ∨ ∀ b, Fx f s.1 s.2.1 b)) (fun s => 2 * (fal s.1 + fal s.2.1) + (if s.2.2 = true then 1 else 0)) (fun z => LI f z.1 z.2 ∧ ∀ b, Fx f z.1 z.2 b) (fun s hI => ?_) FUEL _ ⟨hL, .inl rfl⟩ (by
    simp only [if_true]
    exact lt_FUEL (by simp only [maxLen]; omega))
  obtain ⟨N, E, g⟩ := s
  obtain ⟨hI, hX⟩ := hI
  simp only at hI hX
  cases g with
  | false => exact .inl ⟨(N, E), by simp [live_Live.bd43], hI, hX.resolve_left (by simp)⟩
  | true =>
    obtain ⟨z, hz, hz1, hz2, hz3⟩ := round_all f hf N E hI
    refine .inr ⟨(z.1, z.2.1, z.2.2), by simp only [live_Live.bd43, if_true, hz, Option.bind_some, live_Live.nx57], ⟨hz1, ?_⟩, ?_⟩
    · rcases round_fix f hf N E hI z hz with h | ⟨h1, h2, h3⟩
      · exact .inl h
      · exact .inr (by simp only [h1, h2]; exact h3)
    · simp only [if_true]
      cases hg : z.2.2 with
      | false => simp only [Bool.false_eq_true, if_false]; omega
      | true => have := hz3 hg; simp only [if_true]; omega
theorem live_any' (m : PModule) (hm : SmM m) (a : Int) : ∃ e, live_has m a = some e ∧
    ((e ≠ GErr.no ∧ live_Live m a = some ([], [], e)) ∨ (e = GErr.no ∧ Proper m ∧ ∃ k : Nat, a = k ∧ ∃ hk : k < m.funcs.length, ∃ ins ends, live_Live m a = some (ins, ends, GErr.no) ∧ LI m.funcs[k] ins ends ∧ ∀ b, Fx m.funcs[k] ins ends b)) := by
  obtain ⟨e, he1, he2⟩ := has_says m hm a
  refine ⟨e, he1, ?_⟩
  unfold live_Live
  rw [he1]
  simp only [Option.bind_some]
  by_cases h : e = GErr.no
  · right
    rw [if_neg (by simpa using h)]
    obtain ⟨hp, h0, h1⟩ := he2.1 h
    refine ⟨h, hp, a.toNat, by omega, by omega, ?_⟩
    have hk : a.toNat < m.funcs.length := by omega
    have hix : idx m.funcs a = some m.funcs[a.toNat] := by
      simp only [idx, if_pos h0]; exact List.getElem?_eq_getElem hk
    have hsm := hm.2 _ (List.getElem_mem hk)
    have hf := (hp.funcs _ (List.getElem_mem hk)).live hsm
    rw [hix]
    generalize m.funcs[a.toNat] = f at *
    have ht : ∀ B ∈ f.blocks, B.term.to.length ≤ 70 := fun B hm => (hsm.2.2.2 B hm).2.2.1
    simp only [Option.bind_some, graphNext_eq f hsm.1 ht, checkAhead_eq f hsm, table_eq f hsm]
    obtain ⟨z, hz, hz1, hz2⟩ := ends_all f hf _ ⟨Dim.rep _ _, Nm.rep _ _ _⟩
    rw [hz]
    simp only [Option.bind_some, live_Live.nx34]
    have hLI : LI f (List.replicate f.blocks.length (List.replicate f.regs.length false)) z := by
      refine ⟨Dim.rep _ _, hz1, Nm.rep _ _ _, hz2, fun b hb ri re e1 e2 => ⟨?_, fun r hr => ?_⟩⟩
      · rw [beginF_length, hz1.row re (List.mem_of_getElem? e2)]
        exact (Dim.rep _ _).row ri (List.mem_of_getElem? e1)
      · rw [List.eq_of_mem_replicate (List.mem_of_getElem? e1), List.getElem?_replicate] at hr
        split at hr <;> simp at hr
    have hn := hf.few
    have hr := hsm.2.1
    have hb : f.blocks.length * f.regs.length ≤ 64 * 300 := Nat.mul_le_mul hn hr
    obtain ⟨y, hy, hy1, hy2⟩ := live_rounds' f hf _ z hLI (by
      have a1 := fal_le _ _ _ (Dim.rep f.blocks.length f.regs.length)
      have a2 := fal_le _ _ _ hz1
      omega)
    rw [hy]
    exact ⟨y.1, y.2, rfl, hy1, hy2⟩
  · left
    rw [if_pos h]
    exact ⟨h, rfl⟩
/-! ### What a block's beginning wants -/
end Go.Proofs.YteaknconpkklhaaDoor
