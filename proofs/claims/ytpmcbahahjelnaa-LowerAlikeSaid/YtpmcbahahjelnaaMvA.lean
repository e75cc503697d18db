/- Moves one by one do what all at once do: the law on lists. No conditions. -/
import Derived.Test.YtpmcbahahjelnaaPuB
set_option linter.unusedVariables false
set_option linter.unusedSimpArgs false
namespace Go.Proofs.Ytpmcbahahjelnaa
open Go Go.Proofs

abbrev Mv := PPair
def dsts (l : List Mv) : List Int := l.map PPair.a
def srcs (l : List Mv) : List Int := l.map PPair.b
/-- Nothing else moves from where this one goes. -/
def Free (l : List Mv) (i : Nat) (d : Int) : Prop := ∀ (j : Nat) (p : Mv), l[j]? = some p → j ≠ i → p.b ≠ d
/-- A list without doubles whose members all stand in another one that is no longer: the other one is it, in another order. -/
theorem sub_perm : ∀ (a b : List Int), a.Nodup → (∀ x, x ∈ a → x ∈ b) → b.length ≤ a.length → a.Perm b
  | [], b, _, _, hl => by
    have : b = [] := List.eq_nil_of_length_eq_zero (by simpa using hl)
    subst this; exact .refl _
  | x :: a, b, hn, hs, hl => by
    rw [List.nodup_cons] at hn
    have hx : x ∈ b := hs x (by simp)
    have h1 := List.perm_cons_erase hx
    have hlen : (b.erase x).length + 1 = b.length := by
      rw [List.length_erase_of_mem hx]
      have := List.length_pos_of_mem hx
      omega
    have h2 := sub_perm a (b.erase x) hn.2 (fun y hy => by
      have hyb := hs y (by simp [hy])
      have hne : y ≠ x := fun h => hn.1 (h ▸ hy)
      exact (List.mem_erase_of_ne hne).2 hyb) (by simp at hl; omega)
    exact (List.Perm.cons x h2).trans h1.symm
/-- Where none is free, what is moved from is what is moved to, in another order. -/
theorem stuck_perm (l : List Mv) (hn : (dsts l).Nodup) (hno : ∀ (i : Nat) (p : Mv), l[i]? = some p → ¬ Free l i p.a) : (dsts l).Perm (srcs l) := by
  refine sub_perm _ _ hn (fun x hx => ?_) (by simp [dsts, srcs])
  obtain ⟨p, hp, rfl⟩ := List.mem_map.1 hx
  obtain ⟨i, hi, rfl⟩ := List.getElem_of_mem hp
  have := hno i l[i] (List.getElem?_eq_getElem hi)
  refine Classical.byContradiction fun hc => this fun j q hj _ h => hc ?_
  exact List.mem_map.2 ⟨q, List.mem_of_getElem? hj, h⟩

/-- What registers hold. -/
def put1 (G : Int → Int) (d v : Int) : Int → Int := fun x => if x = d then v else G x
def runL (l : List Mv) (G : Int → Int) : Int → Int := l.foldl (fun G p => put1 G p.a (G p.b)) G
theorem runL_snoc (l : List Mv) (p : Mv) (G : Int → Int) : runL (l ++ [p]) G = put1 (runL l G) p.a (runL l G p.b) := by simp [runL]
def renS (r n : Int) (p : Mv) : Mv := ⟨p.a, if p.b = r then n else p.b⟩

/-- Moves under way: pairs P in all, next register n0; left is left, out is done, fresh registers are taken; b: the last one that was freed. -/
structure Und (n0 : Int) (P : List Mv) (left out : List Mv) (fresh : List Int) (b : Int) (V : Int → Int) : Prop where
  pIn : ∀ p, p ∈ P → 0 ≤ p.a ∧ p.a < n0
  nd : (dsts left).Nodup
  dIn : ∀ p, p ∈ left → 0 ≤ p.a ∧ p.a < n0
  sIn : ∀ p, p ∈ left → 0 ≤ p.b ∧ p.b < n0 + fresh.length
  ne : ∀ p, p ∈ left → p.a ≠ p.b
  want : ∀ d s, (⟨d, s⟩ : PPair) ∈ P → (d ≠ s → (∃ p, p ∈ left ∧ p.a = d ∧ runL out V p.b = V s) ∨ (d ∉ dsts left ∧ runL out V d = V s))
  keep : ∀ d, d < n0 → (d ∈ dsts left ∨ d ∉ dsts P ∨ (⟨d, d⟩ : PPair) ∈ P) → runL out V d = V d
  oIn : ∀ p, p ∈ out → (0 ≤ p.a ∧ p.a < n0 + fresh.length) ∧ (0 ≤ p.b ∧ p.b < n0 + fresh.length)
  sub : ∀ p, p ∈ left → p.a ∈ dsts P ∧ (⟨p.a, p.a⟩ : PPair) ∉ P
  fr : ∀ (p : Mv), p ∈ left → n0 ≤ p.b → p.a ≠ b
  nb : ∀ p, p ∈ left → p.b ≠ b
  cnt : out.length + left.length ≤ P.length + fresh.length
  half : 2 * fresh.length + left.length ≤ P.length + (if ∃ p, p ∈ left ∧ n0 ≤ p.b then 1 else 0) + (if b ∈ dsts left then 1 else 0)
variable {n0 b : Int} {P left out : List Mv} {fresh : List Int} {V : Int → Int}
theorem dst_uniq {P : List Mv} (hn : (dsts P).Nodup) {p q : Mv} (hp : p ∈ P) (hq : q ∈ P) (h : p.a = q.a) : p = q := by
  obtain ⟨i, hi, rfl⟩ := List.getElem_of_mem hp
  obtain ⟨j, hj, rfl⟩ := List.getElem_of_mem hq
  have : i = j := by
    have h1 : (dsts P)[i]'(by simpa [dsts] using hi) = (dsts P)[j]'(by simpa [dsts] using hj) := by simpa [dsts] using h
    exact (List.getElem_inj hn).1 h1
  subst this; rfl
theorem Und.start (hn : (dsts P).Nodup) (hd : ∀ p, p ∈ P → 0 ≤ p.a ∧ p.a < n0) (hs : ∀ p, p ∈ P → 0 ≤ p.b ∧ p.b < n0) : Und n0 P (P.filter fun p => decide (p.a ≠ p.b)) [] [] (-1) V := by
  have hsub : ∀ p, p ∈ P.filter (fun p => decide (p.a ≠ p.b)) → p ∈ P ∧ p.a ≠ p.b := fun p hp => by simpa using List.mem_filter.1 hp
  have hlen : (P.filter fun p => decide (p.a ≠ p.b)).length ≤ P.length := List.length_filter_le _ _
  refine ⟨hd, hn.sublist (List.filter_sublist.map _), fun p hp => hd p (hsub p hp).1, fun p hp => by have := hs p (hsub p hp).1; simpa using this, fun p hp => (hsub p hp).2, fun d s h hne => ?_, fun d _ _ => rfl, by simp, fun p hp => ?_, fun p hp h => ?_, fun p hp => ?_, by simpa using hlen, ?_⟩
  · exact .inl ⟨(⟨d, s⟩ : PPair), List.mem_filter.2 ⟨h, by simpa using hne⟩, rfl, rfl⟩
  · obtain ⟨h1, h2⟩ := hsub p hp
    refine ⟨List.mem_map_of_mem h1, fun h => h2 ?_⟩
    have := dst_uniq hn h h1 rfl
    exact (congrArg PPair.b this)
  · have := (hs p (hsub p hp).1).2; omega
  · have := (hs p (hsub p hp).1).1; omega
  · simp only [List.length_nil]; omega
theorem mem_eraseIdx_ne {α : Type} {l : List α} {i j : Nat} {x : α} (h : l[j]? = some x) (hne : j ≠ i) : x ∈ l.eraseIdx i := List.mem_eraseIdx_iff_getElem?.2 ⟨j, hne, h⟩
theorem Und.emit (h : Und n0 P left out fresh b V) {i : Nat} {p : Mv} (hi : left[i]? = some p) (hf : Free left i p.a) : Und n0 P (left.eraseIdx i) (out ++ [p]) fresh b V := by
  have hil : i < left.length := (List.getElem?_eq_some_iff.1 hi).1
  have hpm : p ∈ left := List.mem_of_getElem? hi
  have hsub : ∀ q, q ∈ left.eraseIdx i → q ∈ left ∧ ∃ j, j ≠ i ∧ left[j]? = some q := fun q hq => by
    obtain ⟨j, h1, h2⟩ := List.mem_eraseIdx_iff_getElem?.1 hq
    exact ⟨List.mem_of_getElem? h2, j, h1, h2⟩
  have hdne : ∀ q, q ∈ left.eraseIdx i → q.a ≠ p.a := fun q hq he => by
    obtain ⟨h1, j, h2, h3⟩ := hsub q hq
    obtain ⟨hjl, h4⟩ := List.getElem?_eq_some_iff.1 h3
    obtain ⟨_, h5⟩ := List.getElem?_eq_some_iff.1 hi
    apply h2
    have h6 : (dsts left)[j]'(by simpa [dsts] using hjl) = (dsts left)[i]'(by simpa [dsts] using hil) := by simp only [dsts, List.getElem_map]; rw [h4, h5]; exact he
    exact (List.getElem_inj h.nd).1 h6
  have hd' : ∀ d, d ∈ dsts (left.eraseIdx i) → d ∈ dsts left ∧ d ≠ p.a := fun d hd => by
    obtain ⟨q, hq, rfl⟩ := List.mem_map.1 hd
    exact ⟨List.mem_map_of_mem (hsub q hq).1, hdne q hq⟩
  have hlen : (left.eraseIdx i).length + 1 = left.length := by rw [List.length_eraseIdx]; rw [if_pos hil]; omega
  refine ⟨h.pIn, h.nd.sublist ((List.eraseIdx_sublist _ _).map _), fun q hq => h.dIn q (hsub q hq).1, fun q hq => h.sIn q (hsub q hq).1, fun q hq => h.ne q (hsub q hq).1, fun d s hds hne => ?_, fun d hdn hd => ?_, fun q hq => ?_, fun q hq => h.sub q (hsub q hq).1, fun q hq => h.fr q (hsub q hq).1, fun q hq => h.nb q (hsub q hq).1, ?_, ?_⟩
  · rw [runL_snoc]
    rcases h.want d s hds hne with ⟨q, hq, h1, h2⟩ | ⟨h1, h2⟩
    · obtain ⟨j, hj, hje⟩ := List.getElem_of_mem hq
      have hjq : left[j]? = some q := by rw [List.getElem?_eq_getElem hj, hje]
      by_cases hji : j = i
      · subst hji
        rw [hi] at hjq
        cases hjq
        right
        refine ⟨fun hd => (hd' d hd).2 h1.symm, ?_⟩
        unfold put1
        rw [if_pos h1.symm, h2]
      · left
        refine ⟨q, mem_eraseIdx_ne hjq hji, h1, ?_⟩
        unfold put1
        rw [if_neg (hf j q hjq hji), h2]
    · right
      refine ⟨fun hd => h1 (hd' d hd).1, ?_⟩
      unfold put1
      rw [if_neg (fun he => h1 (by rw [he]; exact List.mem_map_of_mem hpm)), h2]
  · rw [runL_snoc]
    have hps := h.sub p hpm
    have hne : d ≠ p.a := by
      rcases hd with hd | hd | hd
      · exact (hd' d hd).2
      · intro he; subst he; exact hd hps.1
      · intro he; subst he; exact hps.2 hd
    unfold put1
    rw [if_neg hne]
    exact h.keep d hdn (hd.imp (fun hd => (hd' d hd).1) id)
  · rcases List.mem_append.1 hq with hq | hq
    · exact h.oIn q hq
    · rw [List.mem_singleton.1 hq]
      have := h.dIn p hpm
      exact ⟨⟨this.1, by omega⟩, h.sIn p hpm⟩
  · have := h.cnt
    rw [List.length_append, List.length_singleton]; omega
  · have hh := h.half
    by_cases hp2 : n0 ≤ p.b
    · have hb := h.fr p hpm hp2
      have hw2 : (b ∈ dsts left) → b ∈ dsts (left.eraseIdx i) := fun hb' => by
        obtain ⟨q, hq, hqb⟩ := List.mem_map.1 hb'
        obtain ⟨j, hj, hje⟩ := List.getElem_of_mem hq
        have hjq : left[j]? = some q := by rw [List.getElem?_eq_getElem hj, hje]
        have hji : j ≠ i := by
          intro he; subst he
          rw [hi] at hjq
          cases hjq
          exact hb hqb
        exact List.mem_map.2 ⟨q, mem_eraseIdx_ne hjq hji, hqb⟩
      by_cases hbl : b ∈ dsts left
      · rw [if_pos hbl] at hh
        rw [if_pos (hw2 hbl)]
        split at hh <;> split <;> omega
      · rw [if_neg hbl] at hh
        split at hh <;> split <;> split <;> omega
    · have hw1 : (∃ q, q ∈ left ∧ n0 ≤ q.b) → ∃ q, q ∈ left.eraseIdx i ∧ n0 ≤ q.b := fun ⟨q, hq, hq2⟩ => by
        obtain ⟨j, hj, hje⟩ := List.getElem_of_mem hq
        have hjq : left[j]? = some q := by rw [List.getElem?_eq_getElem hj, hje]
        have hji : j ≠ i := by
          intro he; subst he
          rw [hi] at hjq
          cases hjq
          exact hp2 hq2
        exact ⟨q, mem_eraseIdx_ne hjq hji, hq2⟩
      by_cases hw : ∃ q, q ∈ left ∧ n0 ≤ q.b
      · rw [if_pos hw] at hh
        rw [if_pos (hw1 hw)]
        split at hh <;> split <;> omega
      · rw [if_neg hw] at hh
        split at hh <;> split <;> split <;> omega
theorem Und.split (h : Und n0 P left out fresh b V) (hno : ∀ (i : Nat) (p : Mv), left[i]? = some p → ¬ Free left i p.a) {p0 : Mv} (h0 : left[0]? = some p0) (hn0 : 0 ≤ n0) :
    Und n0 P (left.map (renS p0.b (n0 + fresh.length))) (out ++ [⟨n0 + fresh.length, p0.b⟩]) (fresh ++ [p0.b]) p0.b V := by
  have hperm := stuck_perm left h.nd hno
  have hp0 : p0 ∈ left := List.mem_of_getElem? h0
  have hsd : ∀ q, q ∈ left → 0 ≤ q.b ∧ q.b < n0 := fun q hq => by
    have : q.b ∈ dsts left := hperm.mem_iff.2 (List.mem_map_of_mem hq)
    obtain ⟨q', hq', he⟩ := List.mem_map.1 this
    have := h.dIn q' hq'
    rw [he] at this
    exact this
  have hr := hsd p0 hp0
  have hrd : p0.b ∈ dsts left := hperm.mem_iff.2 (List.mem_map_of_mem hp0)
  have hdst : dsts (left.map (renS p0.b (n0 + fresh.length))) = dsts left := by simp [dsts, renS, Function.comp_def]
  have hmem : ∀ q, q ∈ left.map (renS p0.b (n0 + fresh.length)) → ∃ q', q' ∈ left ∧ q = renS p0.b (n0 + fresh.length) q' := fun q hq => by
    obtain ⟨q', h1, h2⟩ := List.mem_map.1 hq
    exact ⟨q', h1, h2.symm⟩
  have hren : ∀ q : Mv, (q.b = p0.b ∧ renS p0.b (n0 + fresh.length) q = ⟨q.a, n0 + fresh.length⟩) ∨ (q.b ≠ p0.b ∧ renS p0.b (n0 + fresh.length) q = q) := fun q => by
    unfold renS
    by_cases hq : q.b = p0.b
    · exact .inl ⟨hq, by rw [if_pos hq]⟩
    · exact .inr ⟨hq, by rw [if_neg hq]⟩
  have hfl : (fresh ++ [p0.b]).length = fresh.length + 1 := by simp
  refine ⟨h.pIn, by rw [hdst]; exact h.nd, fun q hq => ?_, fun q hq => ?_, fun q hq => ?_, fun d s hds hne => ?_, fun d hdn hd => ?_, fun q hq => ?_, fun q hq => ?_, fun q hq hq2 => ?_, fun q hq => ?_, ?_, ?_⟩
  · obtain ⟨q', h1, rfl⟩ := hmem q hq
    exact h.dIn q' h1
  · obtain ⟨q', h1, rfl⟩ := hmem q hq
    have := h.sIn q' h1
    rw [hfl]
    rcases hren q' with ⟨_, e⟩ | ⟨_, e⟩ <;> rw [e]
    · show 0 ≤ n0 + (fresh.length : Int) ∧ n0 + (fresh.length : Int) < _; omega
    · omega
  · obtain ⟨q', h1, rfl⟩ := hmem q hq
    have := h.dIn q' h1
    rcases hren q' with ⟨_, e⟩ | ⟨_, e⟩ <;> rw [e]
    · show q'.a ≠ n0 + (fresh.length : Int); omega
    · exact h.ne q' h1
  · rw [runL_snoc, hdst]
    rcases h.want d s hds hne with ⟨q, hq, h1, h2⟩ | ⟨h1, h2⟩
    · left
      refine ⟨renS p0.b (n0 + fresh.length) q, List.mem_map_of_mem hq, h1, ?_⟩
      rcases hren q with ⟨e1, e⟩ | ⟨e1, e⟩ <;> rw [e]
      · show put1 _ (n0 + (fresh.length : Int)) _ (n0 + (fresh.length : Int)) = V s
        unfold put1
        rw [if_pos rfl, ← e1, h2]
      · have := (hsd q hq).2
        unfold put1
        rw [if_neg (by show ¬ q.b = n0 + (fresh.length : Int); omega), h2]
    · right
      refine ⟨h1, ?_⟩
      have hdl : d < n0 := (h.pIn (⟨d, s⟩ : PPair) hds).2
      unfold put1
      rw [if_neg (by show ¬ d = n0 + (fresh.length : Int); omega), h2]
  · rw [runL_snoc]
    rw [hdst] at hd
    unfold put1
    rw [if_neg (by show ¬ d = n0 + (fresh.length : Int); omega)]
    exact h.keep d hdn hd
  · rw [hfl]
    rcases List.mem_append.1 hq with hq | hq
    · have := h.oIn q hq; omega
    · rw [List.mem_singleton.1 hq]
      show (0 ≤ n0 + (fresh.length : Int) ∧ n0 + (fresh.length : Int) < _) ∧ 0 ≤ p0.b ∧ p0.b < _
      omega
  · obtain ⟨q', h1, rfl⟩ := hmem q hq
    exact h.sub q' h1
  · obtain ⟨q', h1, rfl⟩ := hmem q hq
    have := hsd q' h1
    rcases hren q' with ⟨e1, e⟩ | ⟨e1, e⟩
    · rw [e]
      show q'.a ≠ p0.b
      rw [← e1]; exact h.ne q' h1
    · rw [e] at hq2
      omega
  · obtain ⟨q', h1, rfl⟩ := hmem q hq
    rcases hren q' with ⟨e1, e⟩ | ⟨e1, e⟩ <;> rw [e]
    · show n0 + (fresh.length : Int) ≠ p0.b; omega
    · exact e1
  · have := h.cnt
    simp only [List.length_append, List.length_singleton, List.length_map]; omega
  · have hh := h.half
    have hw1 : ¬ ∃ q, q ∈ left ∧ n0 ≤ q.b := fun ⟨q, hq, hq2⟩ => by have := hsd q hq; omega
    have hw2 : ¬ b ∈ dsts left := fun hb => by
      have : b ∈ srcs left := hperm.mem_iff.1 hb
      obtain ⟨q, hq, hqb⟩ := List.mem_map.1 this
      exact h.nb q hq hqb
    rw [if_neg hw1, if_neg hw2] at hh
    have h1 : ∃ q, q ∈ left.map (renS p0.b (n0 + fresh.length)) ∧ n0 ≤ q.b := by
      refine ⟨_, List.mem_map_of_mem hp0, ?_⟩
      rcases hren p0 with ⟨_, e⟩ | ⟨e1, _⟩
      · rw [e]; show n0 ≤ n0 + (fresh.length : Int); omega
      · exact absurd rfl e1
    rw [if_pos h1, hdst, if_pos hrd, List.length_map, hfl]
    omega
/-- At the end. -/
theorem Und.done (h : Und n0 P [] out fresh b V) : (∀ d s, (⟨d, s⟩ : PPair) ∈ P → runL out V d = V s) ∧ (∀ d, d < n0 → d ∉ dsts P → runL out V d = V d) ∧ out.length ≤ P.length + fresh.length ∧ 2 * fresh.length ≤ P.length := by
  refine ⟨fun d s hds => ?_, fun d hd hn => h.keep d hd (.inr (.inl hn)), by have := h.cnt; simpa using this, by have := h.half; simpa [dsts] using this⟩
  by_cases hne : d = s
  · subst hne
    exact h.keep d (h.pIn _ hds).2 (.inr (.inr hds))
  · rcases h.want d s hds hne with ⟨q, hq, _⟩ | ⟨_, h2⟩
    · simp at hq
    · exact h2
end Go.Proofs.Ytpmcbahahjelnaa
