/- Layer 9, part B: one call more, and what is found at the end. No conditions. -/
import Derived.Test.YteaknconpkklhaaPqA
set_option linter.unusedVariables false
set_option linter.unusedSimpArgs false
namespace Go.Proofs.Yteaknconpkklhaa
open Go Go.Proofs

section
variable {N : Nat} {C : List (List Int)} {S0 S S' : Sn} {gr : List Int} {v c : Int} {k : Nat}
/-- The part of the stack from v on. -/
theorem J.low_num (h : J N C S0 v gr k S) : nu S.low v ≤ nu S.num v := by
  rcases h.lo with h | ⟨h, _⟩ <;> omega
theorem J.above (h : J N C S0 v gr k S) {U : List Int} (hU : S.st = S0.st ++ v :: U) : (∀ a, a ∈ S0.st → ∀ b, b ∈ v :: U → nu S.num a < nu S.num b) ∧ (∀ b, b ∈ U → nu S.num v < nu S.num b) ∧ (v :: U).Pairwise (fun a b => nu S.num a < nu S.num b) := by
  have hs := h.inv.sSrt
  rw [hU, List.pairwise_append] at hs
  exact ⟨hs.2.2, (List.pairwise_cons.1 hs.2.1).1, hs.2.1⟩
theorem J.below (h : J N C S0 v gr k S) {U : List Int} (hU : S.st = S0.st ++ v :: U) {y : Int} (hy : y ∈ S.st) (hlt : nu S.num y < nu S.num v) : y ∈ S0.st := by
  rw [hU] at hy
  rcases List.mem_append.1 hy with hy | hy
  · exact hy
  rcases List.mem_cons.1 hy with rfl | hy
  · omega
  · have := (h.above hU).2.1 y hy; omega
theorem J.numS (h : J N C S0 v gr k S) (h0 : Inv N C S0 gr) {y : Int} (hy : y ∈ S0.st) : nu S.num y = nu S0.num y :=
  h.keepn y (h0.sOk y hy) (by have := h0.sNum y hy; omega)
/-- A lower 'low': what holds with it. -/
theorem J.lower (hj : J N C S0 v gr k S) (h0 : Inv N C S0 gr) (hv : ok N v) (hv0 : nu S0.num v = 0) (hcv : (cs C v)[k]? = some c) {m : Int} {S1 : Sn}
    (hI : Inv N C S1 (v :: gr)) (hn : ∀ x, ok N x → nu S.num x ≠ 0 → nu S1.num x = nu S.num x) (hl : ∀ x, ok N x → nu S.num x ≠ 0 → nu S1.low x = nu S.low x)
    (hnew : ∀ x, ok N x → nu S.num x = 0 → nu S1.num x ≠ 0 → S.cnt < nu S1.num x) (hcle : S.cnt ≤ S1.cnt) (hC : ∀ x, ok N x → ∀ c, c ∈ cs C x → ok N c)
    (hm : m ≤ nu S.low v) (hmm : m = nu S.low v ∨ (m < nu S.low v ∧ ∃ y, y ∈ S0.st ∧ m = nu S0.num y ∧ Reach C v y))
    (T : List Int) (hT : S1.st = S.st ++ T) (hTn : ∀ x, x ∈ T → nu S.num x = 0 ∧ Reach C v x) (hTe : ∀ x, x ∈ T → ∀ c, c ∈ cs C x → c ∈ S0.st → m ≤ nu S0.num c)
    (hc1 : nu S1.num c ≠ 0) (hc2 : c ∈ S0.st → m ≤ nu S0.num c) : J N C S0 v gr (k + 1) { S1 with low := S1.low.set v.toNat m } := by
  have hvis := hj.vis
  have hc0 := h0.c0
  have hvn : nu S.num v ≠ 0 := by omega
  have hlow : ∀ x, ok N x → nu (S1.low.set v.toNat m) x = if x = v then m else nu S1.low x := fun x hx => nu_set (by rw [hI.n2]; exact hv) (by rw [hI.n2]; exact hx)
  have hlv : nu (S1.low.set v.toNat m) v = m := by rw [hlow v hv, if_pos rfl]
  have hnv : nu S1.num v = nu S.num v := hn v hv hvn
  have hS0 : ∀ x, ok N x → nu S0.num x ≠ 0 → nu S.num x ≠ 0 := fun x hx h => by rw [hj.keepn x hx h]; exact h
  refine ⟨hI.low (by simp [hI.n2]), fun x hx hx0 => ?_, fun x hx hx0 => ?_, fun x hx hx0 hx1 => ?_, ?_, ?_, ?_, ?_, ?_⟩
  · rw [hn x hx (hS0 x hx hx0)]; exact hj.keepn x hx hx0
  · simp only [hlow x hx]
    rw [if_neg (fun e : x = v => hx0 (by rw [e]; exact hv0)), hl x hx (hS0 x hx hx0)]
    exact hj.keepl x hx hx0
  · by_cases h : nu S.num x = 0
    · have := hnew x hx h hx1; have := hj.cle; simp only; omega
    · simp only [hn x hx h]; exact hj.new x hx hx0 h
  · have := hj.cle; simp only; omega
  · simp only [hnv]; exact hvis
  · obtain ⟨U, u1, u2, u3⟩ := hj.sT
    refine ⟨U ++ T, by simp only [hT, u1, List.append_assoc, List.cons_append], fun x hx => ?_, fun x hx d hd hd0 => ?_⟩
    · rcases List.mem_append.1 hx with hx | hx
      · exact u2 x hx
      · obtain ⟨t1, t2⟩ := hTn x hx
        refine ⟨?_, t2⟩
        by_cases h : nu S0.num x = 0
        · exact h
        · have hx' : ok N x := hI.sOk x (by rw [hT]; exact List.mem_append_right _ hx)
          exact absurd t1 (hS0 x hx' h)
    · simp only [hlv]
      rcases List.mem_append.1 hx with hx | hx
      · have := u3 x hx d hd hd0; omega
      · exact hTe x hx d hd hd0
  · simp only [hlv, hnv]
    rcases hmm with e | ⟨e, y, y1, y2, y3⟩
    · rcases hj.lo with h | ⟨h, y, y1, y2, y3⟩
      · exact .inl (by omega)
      · exact .inr ⟨by omega, y, y1, by omega, y3⟩
    · have := hj.low_num
      exact .inr ⟨by omega, y, y1, y2, y3⟩
  · intro i d hi hd
    simp only [hlv]
    by_cases e : i = k
    · subst e
      rw [hcv] at hd
      cases hd
      exact ⟨hc1, hc2⟩
    · obtain ⟨d1, d2⟩ := hj.done i d (by omega) hd
      have hdo : ok N d := hC v hv d (List.mem_of_getElem? hd)
      exact ⟨by rw [hn d hdo d1]; exact d1, fun h => by have := d2 h; omega⟩

theorem J.child (hj : J N C S0 v gr k S) (h0 : Inv N C S0 gr) (hv : ok N v) (hv0 : nu S0.num v = 0) (hC : ∀ x, ok N x → ∀ c, c ∈ cs C x → ok N c) (hcv : (cs C v)[k]? = some c)
    (hc0 : nu S.num c = 0) (hP : Pst N C S c S' (v :: gr)) : J N C S0 v gr (k + 1) { S' with low := S'.low.set v.toNat (if nu S'.low c < nu S'.low v then nu S'.low c else nu S'.low v) } := by
  have hvis := hj.vis
  have hcc := h0.c0
  have hvn : nu S.num v ≠ 0 := by omega
  have hco : ok N c := hC v hv c (List.mem_of_getElem? hcv)
  have hlv : nu S'.low v = nu S.low v := hP.keepl v hv hvn
  obtain ⟨U, u1, u2, u3⟩ := hj.sT
  obtain ⟨T, t1, t2, t3⟩ := hP.T
  have hln := hj.low_num
  have hstep : Reach C v c := .step (List.mem_of_getElem? hcv) (.refl c)
  refine hj.lower h0 hv hv0 hcv (m := if nu S'.low c < nu S'.low v then nu S'.low c else nu S'.low v) hP.inv hP.keepn hP.keepl hP.new hP.cle hC (by split <;> omega) ?_ T t1 (fun x hx => ⟨(t2 x hx).1, hstep.trans (t2 x hx).2⟩) (fun x hx d hd hd0 => ?_) hP.seen (fun hm => ?_)
  · by_cases hlt : nu S'.low c < nu S'.low v
    · rw [if_pos hlt]
      rcases t3 with ⟨_, e⟩ | ⟨_, _, ⟨y, y1, y2, y3⟩, _⟩
      · have h1 := hP.new c hco hc0 hP.seen
        have h2 := (hj.inv.bnd v hv).2
        omega
      · have hy : y ∈ S0.st := hj.below u1 y1 (by omega)
        exact .inr ⟨by omega, y, hy, by rw [y2, hj.numS h0 hy], hstep.trans y3⟩
    · rw [if_neg hlt]; exact .inl hlv
  · rcases t3 with ⟨e, _⟩ | ⟨_, _, _, e⟩
    · subst e; simp at hx
    · have := e x hx d hd (by rw [u1]; exact List.mem_append_left _ hd0)
      rw [hj.numS h0 hd0] at this
      split <;> omega
  · have h1 := h0.sNum c hm
    have h2 := hj.numS h0 hm
    omega

theorem J.onStack (hj : J N C S0 v gr k S) (h0 : Inv N C S0 gr) (hv : ok N v) (hv0 : nu S0.num v = 0) (hC : ∀ x, ok N x → ∀ c, c ∈ cs C x → ok N c) (hcv : (cs C v)[k]? = some c)
    (hc0 : nu S.num c ≠ 0) (hc : c ∈ S.st) : J N C S0 v gr (k + 1) { S with low := S.low.set v.toNat (if nu S.num c < nu S.low v then nu S.num c else nu S.low v) } := by
  obtain ⟨U, u1, u2, u3⟩ := hj.sT
  have hln := hj.low_num
  refine hj.lower h0 hv hv0 hcv (m := if nu S.num c < nu S.low v then nu S.num c else nu S.low v) hj.inv (fun _ _ _ => rfl) (fun _ _ _ => rfl) (fun x _ h h' => absurd h h') (Int.le_refl _) hC (by split <;> omega) ?_ [] (by simp) (by simp) (by simp) hc0 (fun hm => ?_)
  · by_cases hlt : nu S.num c < nu S.low v
    · rw [if_pos hlt]
      have hy : c ∈ S0.st := hj.below u1 hc (by omega)
      exact .inr ⟨hlt, c, hy, hj.numS h0 hy, .step (List.mem_of_getElem? hcv) (.refl c)⟩
    · rw [if_neg hlt]; exact .inl rfl
  · rw [hj.numS h0 hm]; split <;> omega

theorem J.gone (hj : J N C S0 v gr k S) (h0 : Inv N C S0 gr) (hv : ok N v) (hcv : (cs C v)[k]? = some c) (hc0 : nu S.num c ≠ 0) (hc : c ∉ S.st) : J N C S0 v gr (k + 1) S := by
  obtain ⟨U, u1, u2, u3⟩ := hj.sT
  refine ⟨hj.inv, hj.keepn, hj.keepl, hj.new, hj.cle, hj.vis, hj.sT, hj.lo, fun i d hi hd => ?_⟩
  by_cases e : i = k
  · subst e
    rw [hcv] at hd
    cases hd
    exact ⟨hc0, fun hm => absurd (by rw [u1]; exact List.mem_append_left _ hm) hc⟩
  · exact hj.done i d (by omega) hd

/-- Nothing is found yet. -/
theorem J.stay (hj : J N C S0 v gr (cs C v).length S) (h0 : Inv N C S0 gr) (hv : ok N v) (hv0 : nu S0.num v = 0) (hne : nu S.low v ≠ nu S.num v) : Pst N C S0 v S gr := by
  have hvis := hj.vis
  have hcc := h0.c0
  obtain ⟨U, u1, u2, u3⟩ := hj.sT
  have hI := hj.inv
  obtain ⟨hlt, y, y1, y2, y3⟩ : nu S.low v < nu S.num v ∧ ∃ y, y ∈ S0.st ∧ nu S.low v = nu S0.num y ∧ Reach C v y := by
    rcases hj.lo with h | h
    · exact absurd h hne
    · exact h
  have hyn := hj.numS h0 y1
  have hdone : ∀ d, d ∈ cs C v → nu S.num d ≠ 0 ∧ (d ∈ S0.st → nu S.low v ≤ nu S0.num d) := fun d hd => by
    obtain ⟨i, hi, he⟩ := List.getElem_of_mem hd
    exact hj.done i d hi (by rw [List.getElem?_eq_getElem hi, he])
  refine ⟨⟨hI.n1, hI.n2, hI.n3, hI.c0, hI.bnd, hI.whites, hI.lens, hI.sOk, hI.sOn, hI.sNum, hI.sSrt, hI.rV, hI.rNd, hI.rNe, hI.rSrt, hI.closed, hI.strong, ?_, ?_, ?_⟩, hj.keepn, hj.keepl, hj.new, by have := hj.cle; omega, by omega, v :: U, u1, ?_, .inr ⟨List.mem_cons_self .., hlt, ⟨y, y1, y2, y3⟩, ?_⟩⟩
  · intro x hx hx0 hg d hd
    by_cases e : x = v
    · subst e; exact (hdone d hd).1
    · exact hI.fin x hx hx0 (by simp [e, hg]) d hd
  · intro x hx hg
    by_cases e : x = v
    · subst e
      exact ⟨y, by rw [u1]; exact List.mem_append_left _ y1, by omega, y3⟩
    · exact hI.back x hx (by simp [e, hg])
  · exact fun x hx => hI.grS x (List.mem_cons_of_mem _ hx)
  · intro x hx
    rcases List.mem_cons.1 hx with rfl | hx
    · exact ⟨hv0, .refl _⟩
    · exact u2 x hx
  · intro x hx d hd hd0
    rcases List.mem_cons.1 hx with rfl | hx
    · exact (hdone d hd).2 hd0
    · exact u3 x hx d hd hd0

/-- A ring is found. -/
theorem J.pop (hj : J N C S0 v gr (cs C v).length S) (h0 : Inv N C S0 gr) (hv : ok N v) (hv0 : nu S0.num v = 0) (hC : ∀ x, ok N x → ∀ c, c ∈ cs C x → ok N c) (heq : nu S.low v = nu S.num v) {U : List Int} (hU : S.st = S0.st ++ v :: U)
    {on : List Bool} (hon : on.length = N) (hon' : ∀ x, ok N x → (gb on x = true ↔ gb S.on x = true ∧ x ∉ v :: U)) :
    Pst N C S0 v ⟨S.num, S.low, on, S0.st, S.rings ++ [isort (v :: U)], S.cnt⟩ gr := by
  have hvis := hj.vis
  have hcc := h0.c0
  have hI := hj.inv
  obtain ⟨U', u1, u2, u3⟩ := hj.sT
  obtain rfl : U' = U := by
    rw [hU] at u1
    exact ((List.cons.inj (List.append_cancel_left u1)).2).symm
  obtain ⟨a1, a2, a3⟩ := hj.above hU
  have hmem : ∀ x, x ∈ isort (v :: U') ↔ x ∈ v :: U' := fun x => (isort_perm _).mem_iff
  have hin : ∀ x, x ∈ v :: U' → x ∈ S.st := fun x hx => by rw [hU]; exact List.mem_append_right _ hx
  have hin0 : ∀ x, x ∈ S0.st → x ∈ S.st := fun x hx => by rw [hU]; exact List.mem_append_left _ hx
  have hno0 : ∀ x, x ∈ v :: U' → x ∉ S0.st := fun x hx hx0 => by have := a1 x hx0 x hx; omega
  have hsp : ∀ x, x ∈ S.st → x ∈ S0.st ∨ x ∈ v :: U' := fun x hx => by rw [hU] at hx; exact List.mem_append.1 hx
  have hvU : v ∉ U' := fun h => by have := a2 v h; omega
  have hdone : ∀ d, d ∈ cs C v → nu S.num d ≠ 0 ∧ (d ∈ S0.st → nu S.low v ≤ nu S0.num d) := fun d hd => by
    obtain ⟨i, hi, he⟩ := List.getElem_of_mem hd
    exact hj.done i d hi (by rw [List.getElem?_eq_getElem hi, he])
  have hgr0 : ∀ x, x ∈ gr → x ∈ S0.st := h0.grS
  have hnum0 : ∀ x, x ∈ S.st → nu S.num x ≠ 0 := fun x hx => by have := hI.sNum x hx; omega
  have hfinU : ∀ x, x ∈ v :: U' → ∀ d, d ∈ cs C x → nu S.num d ≠ 0 ∧ (d ∈ S0.st → nu S.low v ≤ nu S0.num d) := fun x hx d hd => by
    rcases List.mem_cons.1 hx with rfl | hx'
    · exact hdone d hd
    · refine ⟨hI.fin x (hI.sOk x (hin x hx)) (hnum0 x (hin x hx)) ?_ d hd, u3 x hx' d hd⟩
      intro hm
      rcases List.mem_cons.1 hm with rfl | hm
      · exact hvU hx'
      · exact hno0 x hx (hgr0 x hm)
  have hcl : ∀ x, x ∈ v :: U' → ∀ d, d ∈ cs C x → d ∈ v :: U' ∨ ∃ r, r ∈ S.rings ∧ d ∈ r := fun x hx d hd => by
    obtain ⟨h1, h2⟩ := hfinU x hx d hd
    by_cases hds : d ∈ S.st
    · rcases hsp d hds with h | h
      · have e1 := h2 h
        have e2 := a1 d h v (List.mem_cons_self ..)
        have e3 := hj.numS h0 h
        omega
      · exact .inl h
    · exact .inr ((hI.rV d).2 ⟨hC x (hI.sOk x (hin x hx)) d hd, h1, hds⟩)
  have hR : ∀ x y, x ∈ v :: U' → Reach C x y → y ∈ v :: U' ∨ ∃ r, r ∈ S.rings ∧ y ∈ r := fun x y hx h => by
    refine Reach.closed (P := fun z => z ∈ v :: U' ∨ ∃ r, r ∈ S.rings ∧ z ∈ r) ?_ h (.inl hx)
    rintro z (hz | ⟨r, hr, hz⟩) d hd
    · exact hcl z hz d hd
    · obtain ⟨i, hi, he⟩ := List.getElem_of_mem hr
      obtain ⟨j, q, _, hq, hdq⟩ := hI.closed i r (by rw [List.getElem?_eq_getElem hi, he]) z hz d hd
      exact .inr ⟨q, List.mem_of_getElem? hq, hdq⟩
  have hback : ∀ n : Nat, ∀ x, x ∈ v :: U' → (nu S.num x).toNat ≤ n → Reach C x v := by
    intro n
    induction n with
    | zero => intro x hx hn; have := hI.sNum x (hin x hx); omega
    | succ n ih =>
      intro x hx hn
      rcases List.mem_cons.1 hx with rfl | hx'
      · exact .refl _
      · obtain ⟨y, y1, y2, y3⟩ := hI.back x (hin x hx) (fun hm => by
          rcases List.mem_cons.1 hm with rfl | hm
          · exact hvU hx'
          · exact hno0 x hx (hgr0 x hm))
        have hy : y ∈ v :: U' := by
          rcases hR x y hx y3 with h | ⟨r, hr, h⟩
          · exact h
          · exact absurd y1 ((hI.rV y).1 ⟨r, hr, h⟩).2.2
        have := hI.sNum y y1
        exact y3.trans (ih y hy (by omega))
  have hfrom : ∀ x, x ∈ v :: U' → Reach C v x := fun x hx => by
    rcases List.mem_cons.1 hx with rfl | hx
    · exact .refl _
    · exact (u2 x hx).2
  have hnd : (v :: U').Nodup := a3.imp fun h e => by subst e; omega
  refine ⟨⟨hI.n1, hI.n2, hon, hI.c0, hI.bnd, hI.whites, ?_, h0.sOk, ?_, ?_, ?_, ?_, ?_, ?_, ?_, ?_, ?_, ?_, ?_, hgr0⟩, hj.keepn, hj.keepl, hj.new, by have := hj.cle; simp only; omega, by simp only; omega, [], by simp, by simp, .inl ⟨rfl, heq⟩⟩
  · have := hI.lens
    rw [hU] at this
    simp only [List.length_append, List.length_cons, List.length_nil] at this ⊢
    omega
  · intro x hx
    rw [hon' x hx, hI.sOn x hx]
    constructor
    · rintro ⟨h1, h2⟩
      rcases hsp x h1 with h | h
      · exact h
      · exact absurd h h2
    · exact fun h => ⟨hin0 x h, fun h' => hno0 x h' h⟩
  · exact fun x hx => hI.sNum x (hin0 x hx)
  · have := hI.sSrt
    rw [hU, List.pairwise_append] at this
    exact this.1
  · intro x
    constructor
    · rintro ⟨r, hr, hx⟩
      rcases List.mem_append.1 hr with hr | hr
      · obtain ⟨r1, r2, r3⟩ := (hI.rV x).1 ⟨r, hr, hx⟩
        exact ⟨r1, r2, fun h => r3 (hin0 x h)⟩
      · simp at hr; subst hr
        have hx' := (hmem x).1 hx
        exact ⟨hI.sOk x (hin x hx'), hnum0 x (hin x hx'), hno0 x hx'⟩
    · rintro ⟨r1, r2, r3⟩
      by_cases hs : x ∈ S.st
      · rcases hsp x hs with h | h
        · exact absurd h r3
        · exact ⟨_, List.mem_append_right _ (List.mem_singleton.2 rfl), (hmem x).2 h⟩
      · obtain ⟨r, hr, hx⟩ := (hI.rV x).2 ⟨r1, r2, hs⟩
        exact ⟨r, List.mem_append_left _ hr, hx⟩
  · simp only [List.flatten_append, List.flatten_cons, List.flatten_nil, List.append_nil]
    rw [List.nodup_append]
    refine ⟨hI.rNd, (isort_perm _).nodup_iff.2 hnd, fun a ha b hb e => ?_⟩
    subst e
    obtain ⟨r, hr, har⟩ := List.mem_flatten.1 ha
    exact ((hI.rV a).1 ⟨r, hr, har⟩).2.2 (hin a ((hmem a).1 hb))
  · intro r hr
    rcases List.mem_append.1 hr with hr | hr
    · exact hI.rNe r hr
    · simp at hr; subst hr
      exact fun e => by have := (hmem v).2 (List.mem_cons_self ..); rw [e] at this; simp at this
  · intro r hr
    rcases List.mem_append.1 hr with hr | hr
    · exact hI.rSrt r hr
    · simp at hr; subst hr
      have h1 := isort_sorted (v :: U')
      have h2 : (isort (v :: U')).Nodup := (isort_perm _).nodup_iff.2 hnd
      exact (List.pairwise_and_iff.2 ⟨h1, h2⟩).imp fun h => by omega
  · intro i r hr x hx d hd
    rcases Nat.lt_or_ge i S.rings.length with hi | hi
    · rw [List.getElem?_append_left hi] at hr
      obtain ⟨j, q, q1, q2, q3⟩ := hI.closed i r hr x hx d hd
      exact ⟨j, q, q1, by rw [List.getElem?_append_left (by omega)]; exact q2, q3⟩
    · rw [List.getElem?_append_right hi] at hr
      have hi' : i = S.rings.length := by
        have := (List.getElem?_eq_some_iff.1 hr).1
        simp at this; omega
      subst hi'
      simp at hr; subst hr
      rcases hcl x ((hmem x).1 hx) d hd with h | ⟨q, hq, h⟩
      · exact ⟨S.rings.length, _, Nat.le_refl _, by simp, (hmem d).2 h⟩
      · obtain ⟨j, hj', he⟩ := List.getElem_of_mem hq
        exact ⟨j, q, by omega, by rw [List.getElem?_append_left hj', List.getElem?_eq_getElem hj', he], h⟩
  · intro r hr a ha b hb
    rcases List.mem_append.1 hr with hr | hr
    · exact hI.strong r hr a ha b hb
    · simp at hr; subst hr
      exact (hback _ a ((hmem a).1 ha) (Nat.le_refl _)).trans (hfrom b ((hmem b).1 hb))
  · intro x hx hx0 hg d hd
    by_cases e : x = v
    · subst e; exact (hdone d hd).1
    · exact hI.fin x hx hx0 (by simp [e, hg]) d hd
  · intro x hx hg
    have e : x ≠ v := fun e => hno0 v (List.mem_cons_self ..) (e ▸ hx)
    obtain ⟨y, y1, y2, y3⟩ := hI.back x (hin0 x hx) (by simp [e, hg])
    refine ⟨y, ?_, y2, y3⟩
    rcases hsp y y1 with h | h
    · exact h
    · have := a1 x hx y h; omega
end
end Go.Proofs.Yteaknconpkklhaa
