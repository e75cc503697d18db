/- Plain laws, part x-K: the law DequeOnce. No conditions. -/
import Derived.Test.YtoflleabpkgdpaaPxJ
set_option linter.unusedVariables false
set_option linter.unusedSimpArgs false
namespace Go.Proofs.Ytoflleabpkgdpaa
open Go Go.Proofs

theorem Jo.up {bd i : Nat} {R : Rgn} {inn : List Int} {l : List (Nat × Int)} (h : Jo bd i R inn l) : Jo bd (i + 1) R inn l := by
  obtain ⟨⟨y, M, oo, e1, e2, e3, e4, e5, e6⟩, nd, six, dist, lt⟩ := h
  have hc : (5 : Int) + (i : Int) + 1 = 5 + ((i + 1 : Nat) : Int) := by omega
  refine ⟨⟨y, M, oo, e1, hc ▸ ⟨e2.top.up, e2.bottom.up⟩, e3, e4, ?_, fun p hp => ?_⟩, nd, six, dist, fun v hv => by have := lt v hv; omega⟩
  · cases e5 with
    | free h1 h2 => exact .free h1 h2
    | busy h1 h2 h3 h4 h5 h6 => exact .busy h1 h2 h3 h4 h5 (fun hk => by have := h6 hk; omega)
  · obtain ⟨x, g1, g2, g3, g4, g5, g6⟩ := (e6 p hp).ex
    exact ⟨x, g1, g2, g3, g4, hc ▸ ⟨g5.t.up, g5.b.up⟩, g6⟩
theorem nd_snoc {l : List (Nat × Int)} {bo : Nat} {k : Int} (h : (l.map (·.1)).Nodup) (hn : ∀ p ∈ l, p.1 ≠ bo) : ((l ++ [(bo, k)]).map (·.1)).Nodup := by
  rw [List.map_append, List.nodup_append]
  refine ⟨h, by simp, fun a ha b hb => ?_⟩
  obtain ⟨p, hp, rfl⟩ := List.mem_map.1 ha
  simp at hb
  subst hb
  exact hn p hp
theorem bd0 {i : Nat} : Bw (5 + (i : Int)) 0 := ⟨by omega, by omega⟩
/-- A thief begins. -/
theorem begin_thief {bd i : Nat} {R : Rgn} {inn : List Int} {l : List (Nat × Int)} (h : Jo bd i R inn l) (hl : l.length < 6) {bo : Nat} (hb : look R.os bo = none) :
    Jo bd i (R.add_os bo ⟨some bd, 3, 0, 0, 0, 0, 0⟩) inn (l ++ [(bo, 2)]) := by
  obtain ⟨⟨y, M, oo, e1, e2, e3, e4, e5, e6⟩, nd, six, dist, lt⟩ := h
  have hold : ∀ c z, look R.os c = some z → look (R.add_os bo ⟨some bd, 3, 0, 0, 0, 0, 0⟩).os c = some z := fun c z hz => (look_add (ne_of_look hb hz)).trans hz
  have hnm : ∀ p ∈ l, p.1 ≠ bo := fun p hp => by obtain ⟨x, g1, _⟩ := (e6 p hp).ex; exact ne_of_look hb g1
  refine ⟨⟨y, M, oo, e1, e2, e3, e4, ?_, fun p hp => ?_⟩, nd_snoc nd hnm, by simp; omega, dist, lt⟩
  · cases e5 with
    | free h1 h2 =>
      refine .free h1 (fun p hp => ?_)
      rcases List.mem_append.1 hp with hp | hp
      · exact h2 p hp
      · rw [List.mem_singleton.1 hp]
    | busy h1 h2 h3 h4 h5 h6 =>
      refine .busy h1 (List.mem_append_left _ h2) h3 (fun p hp hp2 => ?_) (hold _ _ h5) h6
      rcases List.mem_append.1 hp with hp | hp
      · exact h4 p hp hp2
      · rw [List.mem_singleton.1 hp] at hp2; exact absurd rfl hp2
  · rcases List.mem_append.1 hp with hp | hp
    · obtain ⟨x, g1, g2⟩ := (e6 p hp).ex
      exact ⟨x, hold _ _ g1, g2⟩
    · rw [List.mem_singleton.1 hp]
      exact ⟨_, look_here _ _ _, rfl, rfl, rfl, ⟨bd0, bd0⟩, fun _ => .at0 rfl⟩
/-- The owner begins. -/
theorem begin_owner {bd i : Nat} {R : Rgn} {inn : List Int} {l : List (Nat × Int)} (h : Jo bd i R inn l) (hl : l.length < 6) (hf : ∀ p ∈ l, p.2 = 2) {bo : Nat} (hb : look R.os bo = none) (k v : Int) (hk : k = 0 ∧ v = i ∨ k = 1) :
    ∃ y, look R.ds bd = some y ∧ y.owner = none ∧ Jo bd (i + 1) ((R.add_os bo ⟨some bd, k + 1, 0, 0, 0, v, 0⟩).set_ds bd ⟨y.cells, y.top, y.bottom, some bo⟩) inn (l ++ [(bo, k)]) := by
  obtain ⟨⟨y, M, oo, e1, e2, e3, e4, e5, e6⟩, nd, six, dist, lt⟩ := h
  have hc : (5 : Int) + (i : Int) + 1 = 5 + ((i + 1 : Nat) : Int) := by omega
  have hold : ∀ c z, look R.os c = some z → look ((R.add_os bo ⟨some bd, k + 1, 0, 0, 0, v, 0⟩).set_ds bd ⟨y.cells, y.top, y.bottom, some bo⟩).os c = some z := fun c z hz => (look_add (ne_of_look hb hz)).trans hz
  have hnm : ∀ p ∈ l, p.1 ≠ bo := fun p hp => by obtain ⟨x, g1, _⟩ := (e6 p hp).ex; exact ne_of_look hb g1
  cases e5 with
  | busy h1 h2 h3 h4 h5 h6 => exact absurd (hf _ h2) h3
  | free ho h2 =>
    refine ⟨y, e1, ho, ⟨⟨⟨y.cells, y.top, y.bottom, some bo⟩, M, some ⟨some bd, k + 1, 0, 0, 0, v, 0⟩, look_setL _ _ _ _ e1, hc ▸ ⟨e2.top.up, e2.bottom.up⟩, e3, ?_, ?_, fun p hp => ?_⟩, nd_snoc nd hnm, by simp; omega, dist, fun u hu => by have := lt u hu; omega⟩⟩
    · refine Ph.own (y := y) ?_ (some bo)
      generalize hno : (none : Option QOp) = on at e4
      cases e4 with
      | none g1 g2 =>
        rcases hk with ⟨rfl, rfl⟩ | rfl
        · exact .push0 rfl rfl g1 g2 (fun hm => by have := lt _ hm; simp only at this; omega)
        · exact .pop0 rfl rfl g1 g2
      | _ => cases hno
    · refine .busy rfl (List.mem_append_right _ (List.mem_singleton_self _)) (by omega) (fun p hp hp2 => ?_) (look_here _ _ _) (fun hk1 => ?_)
      · rcases List.mem_append.1 hp with hp | hp
        · exact absurd (h2 p hp) hp2
        · rw [List.mem_singleton.1 hp]
      · simp only at hk1 ⊢
        rcases hk with ⟨rfl, rfl⟩ | rfl
        · omega
        · omega
    · rcases List.mem_append.1 hp with hp | hp
      · obtain ⟨x, g1, g2, g3, g4, g5, g6⟩ := (e6 p hp).ex
        exact ⟨x, hold _ _ g1, g2, g3, g4, hc ▸ ⟨g5.t.up, g5.b.up⟩, fun q => (g6 q).own (some bo)⟩
      · rw [List.mem_singleton.1 hp]
        exact ⟨_, look_here _ _ _, rfl, rfl, rfl, ⟨bd0, bd0⟩, fun q => by simp only at q; omega⟩
theorem begin_spec {bd i : Nat} {R : Rgn} {inn : List Int} {l : List (Nat × Int)} (h : Jo bd i R inn l) (k : Int) (h0 : 0 ≤ k) (h3 : k < 3) (hl : l.length < 6) (hf : k = 2 ∨ ∀ p ∈ l, p.2 = 2)
    {Q : Option Nat × Rgn → Prop} (hQ : ∀ bo R', Jo bd (i + 1) R' inn (l ++ [(bo, k)]) → Q (some bo, R')) : fettlelaw11_begin (some bd) k i R Q := by
  unfold fettlelaw11_begin
  by_cases k2 : k = 2
  · subst k2
    rw [if_pos rfl]
    intro bo hbo
    exact hQ bo _ (begin_thief h hl (fresh_os hbo)).up
  rw [if_neg k2]
  have hf' := hf.resolve_left k2
  by_cases k0 : k = 0
  · subst k0
    rw [if_pos rfl]
    intro bo hbo
    obtain ⟨y, hy, ho, hj⟩ := begin_owner h hl hf' (fresh_os hbo) 0 i (.inl ⟨rfl, rfl⟩)
    refine ⟨_, begin_eq (R := R.add_os bo ⟨some bd, 1, 0, 0, 0, i, 0⟩) hy ho, ?_⟩
    exact hQ bo _ hj
  · obtain rfl : k = 1 := by omega
    rw [if_neg k0]
    intro bo hbo
    obtain ⟨y, hy, ho, hj⟩ := begin_owner h hl hf' (fresh_os hbo) 1 0 (.inr rfl)
    refine ⟨_, begin_eq (R := R.add_os bo ⟨some bd, 2, 0, 0, 0, 0, 0⟩) hy ho, ?_⟩
    exact hQ bo _ hj

/-! ### The loop -/
def uns (l : List (Nat × Int)) : List PUnder := l.map fun p => ⟨some p.1, p.2⟩
theorem uns_len (l : List (Nat × Int)) : (uns l).length = l.length := by simp [uns]
theorem uns_get {l : List (Nat × Int)} {n : Nat} {p : Nat × Int} (h : l[n]? = some p) : idx (uns l) (n : Int) = some ⟨some p.1, p.2⟩ := by
  rw [idx_nat, uns, List.getElem?_map, h]; rfl
theorem uns_erase (l : List (Nat × Int)) (n : Nat) : (uns l).take n ++ (uns l).drop (n + 1) = uns (l.eraseIdx n) := by
  rw [List.eraseIdx_eq_take_drop_succ]
  simp [uns, List.map_take, List.map_drop]
theorem uns_free (l : List (Nat × Int)) (hl : l.length ≤ 6) : ∃ b : Bool, fettlelaw11_free (uns l) = some b ∧ (b = true ↔ ∀ p ∈ l, p.2 = 2) := by
  obtain ⟨b, h1, h2⟩ := free_eq (uns l) (by rw [uns_len]; omega)
  refine ⟨b, h1, h2.trans ⟨fun h p hp => h ⟨some p.1, p.2⟩ (List.mem_map.2 ⟨p, hp, rfl⟩), fun h q hq => ?_⟩⟩
  obtain ⟨p, hp, rfl⟩ := List.mem_map.1 hq
  exact h p hp
theorem pick96 : fettlelaw11_pick 9 6 = some 3 := by decide
def Late (i : Nat) (R : Rgn) (l : List (Nat × Int)) : Prop := i ≤ 400 ∨ rkl R l + i ≤ 431
theorem Late.next {i : Nat} {R R1 : Rgn} {l l1 : List (Nat × Int)} (h : Late i R l) (h6 : l.length ≤ 6) (hr : rkl R1 l1 < rkl R l) : Late (i + 1) R1 l1 := by
  have := rkl_le (R := R) l
  unfold Late at *
  omega
/-- A round that is no beginning. -/
theorem once_round {bd i : Nat} {R : Rgn} {inn : List Int} {l : List (Nat × Int)} (h : Jo bd i R inn l) (hL : Late i R l) (hi : i ≤ 431) {x6 : Option Nat × Rgn} (h6 : x6.1 = some bd) (c v m : Int) (hc : inI64 c) (hm : inI64 m)
    (hlen : ∀ k, fettlelaw11_pick c 6 = some k → k < 3 → i < 400) {P : Ex (Ex Bool (Rgn × List Int)) (Rgn × List PUnder × List Int × Int) → Prop}
    (hg : ∀ R' inn' l', Jo bd (i + 1) R' inn' l' → Late (i + 1) R' l' → P (.go (R', uns l', inn', ((i + 1 : Nat) : Int)))) (hne : ¬ i < 400 → l ≠ []) :
    fettlelaw11_DequeOnce.jn103 x6 R (uns l) inn (i : Int) c v m P := by
  have hw : w64 ((i : Int) + 1) = ((i + 1 : Nat) : Int) := w64_succ (by omega)
  obtain ⟨kk, hk, k0, k1⟩ := pick_spec c 6 hc (by omega)
  obtain ⟨b, hb, hb2⟩ := uns_free l h.six
  unfold fettlelaw11_DequeOnce.jn103
  refine ⟨_, hk, _, hb, ?_⟩
  dsimp only
  by_cases h3 : (kk < 3 ∧ len (uns l) < 6) ∧ (kk = 2 ∨ b = true)
  · rw [if_pos h3, h6]
    obtain ⟨⟨h31, h32⟩, h33⟩ := h3
    have hi4 := hlen kk hk h31
    refine begin_spec h kk k0 h31 (by simp only [len, uns_len] at h32; omega) (h33.imp id hb2.1) fun bo R' hj => ?_
    dsimp only
    rw [if_neg (by simp)]
    refine ⟨_, cat_one (by rw [uns_len]; have := h.six; omega), ?_⟩
    unfold fettlelaw11_DequeOnce.jn90
    rw [hw]
    have : uns l ++ [⟨some bo, kk⟩] = uns (l ++ [(bo, kk)]) := by simp [uns]
    rw [this]
    exact hg _ _ _ hj (.inl (by omega))
  · rw [if_neg h3]
    by_cases hl0 : len (uns l) = 0
    · rw [if_pos hl0]
      unfold fettlelaw11_DequeOnce.jn90
      rw [hw]
      have hnil : l = [] := by simp only [len, uns_len] at hl0; exact List.eq_nil_of_length_eq_zero (by omega)
      refine hg _ _ _ h.up (.inl ?_)
      by_cases h4 : i < 400
      · omega
      · exact absurd hnil (hne h4)
    · rw [if_neg hl0, if_neg (by omega)]
      have hpos : 0 < len (uns l) := by simp only [len, uns_len] at hl0 ⊢; omega
      obtain ⟨n, hn, n0, n1⟩ := pick_spec m (len (uns l)) hm hpos
      obtain ⟨n, rfl⟩ : ∃ q : Nat, n = (q : Int) := ⟨n.toNat, by omega⟩
      have hnl : n < l.length := by simp only [len, uns_len] at n1; omega
      have hln : l[n]? = some (l[n].1, l[n].2) := List.getElem?_eq_getElem hnl
      obtain ⟨R1, x1, s1, s2, s3, s4, s5⟩ := once_step h (by omega) hln
      refine ⟨_, hn, _, uns_get hln, _, by rw [h6]; exact s1, ?_⟩
      dsimp only
      rw [if_neg (by simp)]
      by_cases hg0 : x1.got = 0
      · rw [if_pos (by simp [hg0])]
        obtain ⟨j1, j2⟩ := s4 hg0
        unfold fettlelaw11_DequeOnce.jn90
        rw [hw]
        exact hg _ _ _ j1 (hL.next h.six j2)
      · rw [if_neg (by simp [hg0])]
        obtain ⟨inn', j0, j1, j2⟩ := s5 hg0
        refine ⟨_, uns_get hln, _, result_eq s2, ?_⟩
        dsimp only
        rw [if_neg hg0]
        have hend : fettlelaw11_DequeOnce.jn215 (uns l) (i : Int) (n : Int) (decide ¬ x1.got = 0, GErr.no, R1) inn' P := by
          have hup : upto (uns l) (n : Int) = some ((uns l).take n) := by
            unfold upto
            rw [if_pos ⟨by omega, by rw [uns_len]; omega⟩, Int.toNat_natCast]
          have hw2 : w64 ((n : Int) + 1) = ((n + 1 : Nat) : Int) := w64_succ (by have := h.six; omega)
          have hfr : from_ (uns l) (w64 ((n : Int) + 1)) = some ((uns l).drop (n + 1)) := by
            rw [hw2]; unfold from_
            rw [if_pos ⟨by omega, by rw [uns_len]; omega⟩, Int.toNat_natCast]
          have h6' := h.six
          unfold fettlelaw11_DequeOnce.jn215
          refine ⟨_, hup, _, hfr, _, cat_nil (by rw [List.length_take, uns_len]; omega), _, cat_ok (by simp only [List.length_take, List.length_drop, uns_len, LIM]; omega), ?_⟩
          unfold fettlelaw11_DequeOnce.jn90
          dsimp only
          rw [hw, uns_erase]
          exact hg _ _ _ j1 (hL.next h.six j2)
        rcases j0 with ⟨q1, q2, rfl⟩ | ⟨q1, q2, q3⟩ | ⟨q1, rfl⟩
        · rw [if_pos q1]
          refine ⟨_, uns_get hln, ?_⟩
          dsimp only [rD]
          unfold fettlelaw11_DequeOnce.jn259
          rw [if_pos (decide_eq_true q2), if_pos q1]
          exact ⟨_, cat_one (by omega), hend⟩
        · rw [if_pos q1]
          refine ⟨_, uns_get hln, ?_⟩
          dsimp only [rD]
          unfold fettlelaw11_DequeOnce.jn259
          rw [if_neg (by simpa using q2), if_pos q1]
          refine ⟨_, by dsimp only; rw [if_pos q1]; exact q3, ?_⟩
          dsimp only
          rw [if_neg (by simp)]
          exact hend
        · rw [if_neg q1]
          show fettlelaw11_DequeOnce.jn259 _ _ _ _ _ _ false P
          unfold fettlelaw11_DequeOnce.jn259
          rw [if_neg (by simp), if_neg q1]
          exact hend
theorem once_left {bd i : Nat} {R : Rgn} {inn : List Int} (h : Jo bd i R inn []) (hi : i ≤ 900) {x6 : Option Nat × Rgn} (h6 : x6.1 = some bd) : fettlelaw11_DequeOnce.nx46 true x6 R inn (fun b => b = true) := by
  obtain ⟨⟨y, M, oo, e1, e2, e3, e4, e5, e6⟩, nd, six, dist, lt⟩ := h
  cases e5 with
  | busy h1 h2 => simp at h2
  | free ho _ =>
    generalize hno : (none : Option QOp) = on at e4
    have hlen := e4.len
    cases e4 with
    | none g1 g2 =>
      unfold fettlelaw11_DequeOnce.nx46
      rw [if_pos rfl, h6]
      have b1 := e2.top.2
      have b2 := e2.bottom.2
      have hle := g2.le
      refine left_spec (y := y) ⟨e1, ho, ⟨e3, by omega, by omega, by omega⟩, by omega⟩ (by omega) inn ?_ (by omega) (fun R' => rfl)
      rw [g2.eq, g1]; rfl
    | _ => cases hno
theorem once_script (s : List PDeed) (h : okL wfDeed s) (hl : s.length ≤ 400) {x6 : Option Nat × Rgn} {bd : Nat} (h6 : x6.1 = some bd) (hj : Jo bd 0 x6.2 [] []) : fettlelaw11_DequeOnce.jn30 true x6 s (fun b => b = true) := by
  unfold fettlelaw11_DequeOnce.jn30
  refine whlD_for (s0 := (x6.2, ([] : List PUnder), ([] : List Int), (0 : Int))) 431 (fun i (st : Rgn × List PUnder × List Int × Int) => st.2.2.2 = (i : Int) ∧ ∃ l, st.2.1 = uns l ∧ Jo bd i st.1 st.2.2.1 l ∧ Late i st.1 l) _ (by simp only [maxLen]; omega) ?_ ?_ ⟨rfl, [], rfl, hj, .inl (by omega)⟩
  · rintro i ⟨R, pl, inn, k⟩ hi ⟨rfl, l, rfl, hj, hL⟩ P hP hg
    dsimp only at hj hL
    have hgo : ∀ R' inn' l', Jo bd (i + 1) R' inn' l' → Late (i + 1) R' l' → P (.go (R', uns l', inn', ((i + 1 : Nat) : Int))) := fun R' inn' l' h1 h2 => hg _ ⟨rfl, l', rfl, h1, h2⟩
    unfold fettlelaw11_DequeOnce.bd46
    dsimp only
    by_cases hc : (i : Int) < len s ∨ len (uns l) > 0
    · rw [if_pos hc]
      by_cases his : (i : Int) < len s
      · rw [if_pos his]
        have his' : i < s.length := by simp only [len] at his; omega
        obtain ⟨w1, w2, w3⟩ := h.2 _ (List.getElem_mem his')
        refine ⟨_, idx_lt his', ?_⟩
        exact once_round hj hL (by omega) h6 _ _ _ w1 w3 (fun _ _ _ => by omega) hgo (fun h => by omega)
      · rw [if_neg his]
        refine once_round hj hL (by omega) h6 9 0 0 ⟨by omega, by omega⟩ ⟨by omega, by omega⟩ (fun k hk h3 => ?_) hgo (fun _ hnil => ?_)
        · rw [pick96] at hk; cases hk; omega
        · subst hnil
          have := hc.resolve_left his
          simp [uns] at this
    · rw [if_neg hc]
      have hnil : l = [] := by
        have : ¬ len (uns l) > 0 := fun h => hc (.inr h)
        simp only [len, uns_len] at this
        exact List.eq_nil_of_length_eq_zero (by omega)
      subst hnil
      exact hP (.go (R, inn)) (once_left hj (by omega) h6)
  · rintro ⟨R, pl, inn, k⟩ ⟨rfl, l, rfl, hj, hL⟩ P hP
    dsimp only at hj hL
    have hr : rkl R l = 0 := by unfold Late at hL; omega
    have hnil := rkl_pos hj hr
    subst hnil
    unfold fettlelaw11_DequeOnce.bd46
    dsimp only
    rw [if_neg (by rintro (h1 | h1)
                   · simp only [len] at h1; omega
                   · simp [uns] at h1)]
    exact hP (.go (R, inn)) (once_left hj (by omega) h6)
theorem pure_dequeOnce (s : List PDeed) (h : okL wfDeed s) : fettlelaw11_DequeOnce s (fun b => b = true) := by
  unfold fettlelaw11_DequeOnce
  refine up_spec ?_
  refine new_spec fun bd R0 _ hR0 hq => ?_
  dsimp only [rD]
  rw [if_neg (by simp)]
  have hj : Jo bd 0 R0 [] [] := by
    refine ⟨⟨_, 0, none, hq.ds, ⟨bd0, bd0⟩, Int.le_refl _, .none rfl ⟨Int.le_refl _, by show (0 : Int) - 0 ≤ 64; omega, rfl⟩, .free rfl (fun p hp => by simp at hp), fun p hp => by simp at hp⟩, by simp, by simp, by simp, fun v hv => by simp at hv⟩
  by_cases hl : len s > 400
  · rw [if_pos hl]
    have hup : upto s 400 = some (s.take 400) := by
      unfold upto
      rw [if_pos ⟨by omega, by simp only [len] at hl; show 400 ≤ s.length; omega⟩]
      rfl
    refine ⟨_, hup, ?_⟩
    exact once_script (s.take 400) ⟨by rw [List.length_take]; have := h.1; omega, fun x hx => h.2 x (List.mem_of_mem_take hx)⟩ (by simp; omega) rfl hj
  · rw [if_neg hl]
    exact once_script s h (by simp only [len] at hl; omega) rfl hj
end Go.Proofs.Ytoflleabpkgdpaa
