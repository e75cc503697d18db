/- Plain laws, part x-C: what lies in a deque; operations done one after the other; the owner pops what is left. No conditions. -/
import Derived.Test.YtoflleabpkgdpaaPxB
set_option linter.unusedVariables false
set_option linter.unusedSimpArgs false
namespace Go.Proofs.Ytoflleabpkgdpaa
open Go Go.Proofs

def cont (y : QDeque) : List Int := (List.range (y.bottom - y.top).toNat).map fun (k : Nat) => cget y.cells (y.top + (k : Int))
structure Qt (R : Rgn) (bd : Nat) (y : QDeque) : Prop where
  ds : look R.ds bd = some y
  owner : y.owner = none
  few : Few y
  le : y.top ≤ y.bottom
theorem cont_nil {y : QDeque} (h : y.top ≥ y.bottom) : cont y = [] := by
  unfold cont; rw [show (y.bottom - y.top).toNat = 0 by omega]; rfl
theorem cont_len (y : QDeque) : (cont y).length = (y.bottom - y.top).toNat := by simp [cont]
theorem cont_push {y : QDeque} {v : Int} {o : Option Nat} (h0 : 0 ≤ y.top) (hle : y.top ≤ y.bottom) (h : y.bottom - y.top < 64) : cont ⟨cput y.cells y.bottom v, y.top, y.bottom + 1, o⟩ = cont y ++ [v] := by
  unfold cont
  simp only
  rw [show (y.bottom + 1 - y.top).toNat = (y.bottom - y.top).toNat + 1 by omega, List.range_succ, List.map_append]
  congr 1
  · apply List.map_congr_left
    intro k hk
    rw [List.mem_range] at hk
    rw [cget_put, if_neg (by omega)]
  · simp only [List.map_cons, List.map_nil]
    rw [cget_put, if_pos (by rw [Int.toNat_of_nonneg (by omega)]; congr 1; omega)]
theorem cont_pop {y : QDeque} {o : Option Nat} (h : y.top < y.bottom) : cont y = cont ⟨y.cells, y.top, y.bottom - 1, o⟩ ++ [cget y.cells (y.bottom - 1)] := by
  unfold cont
  simp only
  rw [show (y.bottom - y.top).toNat = (y.bottom - 1 - y.top).toNat + 1 by omega, List.range_succ, List.map_append]
  congr 1
  simp only [List.map_cons, List.map_nil]
  rw [Int.toNat_of_nonneg (by omega)]
  congr 2; omega
theorem cont_steal {y : QDeque} {o : Option Nat} (h : y.top < y.bottom) : cont y = cget y.cells y.top :: cont ⟨y.cells, y.top + 1, y.bottom, o⟩ := by
  unfold cont
  simp only
  rw [show (y.bottom - y.top).toNat = (y.bottom - (y.top + 1)).toNat + 1 by omega, List.range_succ_eq_map, List.map_cons, List.map_map]
  congr 1
  · congr 1; simp
  · apply List.map_congr_left
    intro k _
    simp only [Function.comp, Nat.succ_eq_add_one]
    congr 1; omega

/-! ### Begun and done -/
theorem begin_eq {R : Rgn} {bd bo : Nat} {y : QDeque} (h : look R.ds bd = some y) (ho : y.owner = none) : deque_Deque_begin (some bd) (some bo) R = some (some bo, GErr.no, R.set_ds bd ⟨y.cells, y.top, y.bottom, some bo⟩) := by
  unfold deque_Deque_begin
  simp only [Option.bind_some, h, ho, not_true, if_false]
theorem new_spec {R : Rgn} {Q : Option Nat × Rgn → Prop} (hQ : ∀ bd R', look R.ds bd = none → R' = R.add_ds bd ⟨A64.zero, 0, 0, none⟩ → Qt R' bd ⟨A64.zero, 0, 0, none⟩ → Q (some bd, R')) : deque_New R Q := by
  intro bd hb
  exact hQ bd _ (fresh_ds hb) rfl ⟨look_here _ _ _, rfl, ⟨Int.le_refl _, by show (0 : Int) ≤ _; omega, Int.le_refl _, by show (0 : Int) ≤ _; omega⟩, Int.le_refl _⟩
theorem push_spec {R : Rgn} {bd : Nat} {y : QDeque} {v : Int} (h : Qt R bd y) (hb : y.bottom < 100000) {Q : Option Nat × GErr × Rgn → Prop}
    (hQ : ∀ bo R1 R2 x2, fettlelaw11_done (some bd) (some bo) R1 = some (true, R2) → look R2.os bo = some x2 →
      ((y.bottom - y.top ≥ 64 ∧ Qt R2 bd y ∧ x2.got = 3) ∨ (y.bottom - y.top < 64 ∧ Qt R2 bd ⟨cput y.cells y.bottom v, y.top, y.bottom + 1, none⟩ ∧ x2.got = 1 ∧ x2.x = v)) → Q (some bo, GErr.no, R1)) : deque_Deque_Push (some bd) v R Q := by
  intro bo hbo
  refine ⟨_, begin_eq (R := R.add_os bo ⟨some bd, 1, 0, 0, 0, v, 0⟩) h.ds h.owner, ?_⟩
  have hy : look ((R.add_os bo ⟨some bd, 1, 0, 0, 0, v, 0⟩).set_ds bd ⟨y.cells, y.top, y.bottom, some bo⟩).ds bd = some ⟨y.cells, y.top, y.bottom, some bo⟩ := look_setL _ _ _ _ h.ds
  have hx : look ((R.add_os bo ⟨some bd, 1, 0, 0, 0, v, 0⟩).set_ds bd ⟨y.cells, y.top, y.bottom, some bo⟩).os bo = some ⟨some bd, 1, 0, 0, 0, v, 0⟩ := look_here _ _ _
  have hf : Few ⟨y.cells, y.top, y.bottom, some bo⟩ := ⟨h.few.t0, h.few.t1, h.few.b0, h.few.b1⟩
  obtain ⟨p1, p2⟩ := push_ends bd bo ⟨y.cells, y.top, y.bottom, some bo⟩ v hf rfl
  have ho : ∀ c, (⟨y.cells, y.top, y.bottom, some bo⟩ : QDeque).owner = some c → ∃ z, look ((R.add_os bo ⟨some bd, 1, 0, 0, 0, v, 0⟩).set_ds bd ⟨y.cells, y.top, y.bottom, some bo⟩).os c = some z := fun c hc => by cases hc; exact ⟨_, hx⟩
  have hye : (⟨y.cells, y.top, y.bottom, none⟩ : QDeque) = y := by rw [← h.owner]
  rcases Int.lt_or_le (y.bottom - y.top) 64 with hc | hc
  · obtain ⟨e1, e2, e3, e4⟩ := p2 hc
    obtain ⟨R2, d1, d2⟩ := done_run 3 (by omega) hy hx rfl ho e1
    refine hQ bo _ R2 _ d1 d2.os (.inr ⟨hc, ⟨d2.ds.trans (congrArg some e2), rfl, ⟨h.few.t0, h.few.t1, by have := h.few.b0; show 0 ≤ y.bottom + 1; omega, by show y.bottom + 1 ≤ _; omega⟩, by have := h.le; show y.top ≤ y.bottom + 1; omega⟩, e3, e4⟩)
  · obtain ⟨e1, e2, e3⟩ := p1 hc
    obtain ⟨R2, d1, d2⟩ := done_run 1 (by omega) hy hx rfl ho e1
    exact hQ bo _ R2 _ d1 d2.os (.inl ⟨hc, ⟨d2.ds.trans (congrArg some (e2.trans hye)), h.owner, h.few, h.le⟩, e3⟩)
theorem pop_spec {R : Rgn} {bd : Nat} {y : QDeque} (h : Qt R bd y) (hb : y.top < 100000) {Q : Option Nat × GErr × Rgn → Prop}
    (hQ : ∀ bo R1 R2 x2 y2, fettlelaw11_done (some bd) (some bo) R1 = some (true, R2) → look R2.os bo = some x2 → Qt R2 bd y2 → y2.top ≤ y.top + 1 →
      ((cont y = [] ∧ y2 = y ∧ x2.got = 2) ∨ (x2.got = 1 ∧ cont y = cont y2 ++ [x2.x] ∧ y2.bottom ≤ y.bottom)) → Q (some bo, GErr.no, R1)) : deque_Deque_Pop (some bd) R Q := by
  intro bo hbo
  refine ⟨_, begin_eq (R := R.add_os bo ⟨some bd, 2, 0, 0, 0, 0, 0⟩) h.ds h.owner, ?_⟩
  have hy : look ((R.add_os bo ⟨some bd, 2, 0, 0, 0, 0, 0⟩).set_ds bd ⟨y.cells, y.top, y.bottom, some bo⟩).ds bd = some ⟨y.cells, y.top, y.bottom, some bo⟩ := look_setL _ _ _ _ h.ds
  have hx : look ((R.add_os bo ⟨some bd, 2, 0, 0, 0, 0, 0⟩).set_ds bd ⟨y.cells, y.top, y.bottom, some bo⟩).os bo = some ⟨some bd, 2, 0, 0, 0, 0, 0⟩ := look_here _ _ _
  have hf : Few ⟨y.cells, y.top, y.bottom, some bo⟩ := ⟨h.few.t0, h.few.t1, h.few.b0, h.few.b1⟩
  obtain ⟨p1, p2, p3⟩ := pop_ends bd bo ⟨y.cells, y.top, y.bottom, some bo⟩ hf rfl
  have ho : ∀ c, (⟨y.cells, y.top, y.bottom, some bo⟩ : QDeque).owner = some c → ∃ z, look ((R.add_os bo ⟨some bd, 2, 0, 0, 0, 0, 0⟩).set_ds bd ⟨y.cells, y.top, y.bottom, some bo⟩).os c = some z := fun c hc => by cases hc; exact ⟨_, hx⟩
  have hye : (⟨y.cells, y.top, y.bottom, none⟩ : QDeque) = y := by rw [← h.owner]
  obtain ⟨t0, t1, b0, b1⟩ := h.few
  have hle := h.le
  rcases Int.lt_trichotomy y.top (y.bottom - 1) with hc | hc | hc
  · obtain ⟨e1, e2, e3, e4⟩ := p2 hc
    obtain ⟨R2, d1, d2⟩ := done_run 2 (by omega) hy hx rfl ho e1
    refine hQ bo _ R2 _ _ d1 d2.os ⟨d2.ds.trans (congrArg some e2), rfl, ⟨t0, t1, by show 0 ≤ y.bottom - 1; omega, by show y.bottom - 1 ≤ _; omega⟩, by show y.top ≤ y.bottom - 1; omega⟩ (by show y.top ≤ y.top + 1; omega) (.inr ⟨e3, ?_, by show y.bottom - 1 ≤ y.bottom; omega⟩)
    rw [e4]; exact cont_pop (by omega)
  · obtain ⟨e1, e2, e3, e4⟩ := p3 hc
    obtain ⟨R2, d1, d2⟩ := done_run 4 (by omega) hy hx rfl ho e1
    refine hQ bo _ R2 _ _ d1 d2.os ⟨d2.ds.trans (congrArg some e2), rfl, ⟨by show 0 ≤ y.top + 1; omega, by show y.top + 1 ≤ _; omega, b0, b1⟩, by show y.top + 1 ≤ y.bottom; omega⟩ (Int.le_refl _) (.inr ⟨e3, ?_, Int.le_refl _⟩)
    rw [e4, cont_nil (y := ⟨y.cells, y.top + 1, y.bottom, none⟩) (by show y.top + 1 ≥ y.bottom; omega), cont_pop (y := y) (o := none) (by omega), cont_nil (y := ⟨y.cells, y.top, y.bottom - 1, none⟩) (by show y.top ≥ y.bottom - 1; omega)]
  · obtain ⟨e1, e2, e3⟩ := p1 (by show y.top ≥ y.bottom; omega)
    obtain ⟨R2, d1, d2⟩ := done_run 2 (by omega) hy hx rfl ho e1
    exact hQ bo _ R2 _ y d1 d2.os ⟨d2.ds.trans (congrArg some (e2.trans hye)), h.owner, h.few, h.le⟩ (by omega) (.inl ⟨cont_nil (by omega), rfl, e3⟩)
theorem steal_spec {R : Rgn} {bd : Nat} {y : QDeque} (h : Qt R bd y) (hb : y.top < 100000) {Q : Option Nat × Rgn → Prop}
    (hQ : ∀ bo R1 R2 x2 y2, fettlelaw11_done (some bd) (some bo) R1 = some (true, R2) → look R2.os bo = some x2 → Qt R2 bd y2 → y2.top ≤ y.top + 1 →
      ((cont y = [] ∧ y2 = y ∧ x2.got = 2) ∨ (x2.got = 1 ∧ cont y = x2.x :: cont y2)) → Q (some bo, R1)) : deque_Deque_Steal (some bd) R Q := by
  intro bo hbo
  have hy : look (R.add_os bo ⟨some bd, 3, 0, 0, 0, 0, 0⟩).ds bd = some y := h.ds
  have hx : look (R.add_os bo ⟨some bd, 3, 0, 0, 0, 0, 0⟩).os bo = some ⟨some bd, 3, 0, 0, 0, 0, 0⟩ := look_here _ _ _
  obtain ⟨p1, p2⟩ := steal_ends bd bo y h.few h.owner
  have ho : ∀ c, y.owner = some c → ∃ z, look (R.add_os bo ⟨some bd, 3, 0, 0, 0, 0, 0⟩).os c = some z := fun c hc => by rw [h.owner] at hc; cases hc
  obtain ⟨t0, t1, b0, b1⟩ := h.few
  rcases Int.lt_or_le y.top y.bottom with hc | hc
  · obtain ⟨e1, e2, e3, e4⟩ := p2 hc
    obtain ⟨R2, d1, d2⟩ := done_run 3 (by omega) hy hx rfl ho e1
    refine hQ bo _ R2 _ _ d1 d2.os ⟨d2.ds.trans (congrArg some e2), rfl, ⟨by show 0 ≤ y.top + 1; omega, by show y.top + 1 ≤ _; omega, b0, b1⟩, by show y.top + 1 ≤ y.bottom; omega⟩ (Int.le_refl _) (.inr ⟨e3, ?_⟩)
    rw [e4]; exact cont_steal hc
  · obtain ⟨e1, e2, e3⟩ := p1 hc
    obtain ⟨R2, d1, d2⟩ := done_run 1 (by omega) hy hx rfl ho e1
    exact hQ bo _ R2 _ y d1 d2.os ⟨d2.ds.trans (congrArg some e2), h.owner, h.few, h.le⟩ (by omega) (.inl ⟨cont_nil hc, rfl, e3⟩)
theorem result_eq {R : Rgn} {bo : Nat} {x : QOp} (h : look R.os bo = some x) : deque_Op_Result (some bo) R = some (x.got, if x.got = 1 then x.x else 0) := by
  unfold deque_Op_Result
  simp only [Option.bind_some, h]
  by_cases c : x.got = 1
  · rw [if_neg (by simpa using c), if_pos c]
  · rw [if_pos c, if_neg c]

/-! ### What is left -/
theorem left_spec {R : Rgn} {bd : Nat} {y : QDeque} (h : Qt R bd y) (hb : y.top ≤ 1000) (inn : List Int) (hc : cont y = inn) (hl : inn.length ≤ 1000) {Q : Bool × Rgn → Prop} (hQ : ∀ R', Q (true, R')) : fettlelaw11_left (some bd) inn R Q := by
  unfold fettlelaw11_left
  refine whlD_for (s0 := (R, len inn)) inn.length (fun i s => s.2 = ((inn.length - i : Nat) : Int) ∧ ∃ y, Qt s.1 bd y ∧ cont y = inn.take (inn.length - i) ∧ y.top ≤ 1000 + (i : Int)) _ (by simp only [maxLen]; omega) ?_ ?_ ?_
  · rintro i ⟨R, k⟩ hi ⟨rfl, y, hq, hcy, hyt⟩ P hP hg
    simp only at hq
    unfold fettlelaw11_left.bd15
    rw [if_pos (by omega)]
    refine pop_spec hq (by omega) fun bo R1 R2 x2 y2 d1 d2 d3 d4 d5 => ?_
    simp only [show ¬ (some bo = (none : Option Nat)) by simp, not_true, or_self, if_false, d1]
    refine ⟨_, rfl, ?_⟩
    unfold fettlelaw11_left.jn86
    simp only [Bool.not_true, Bool.false_eq_true, if_false]
    refine ⟨_, result_eq d2, ?_⟩
    dsimp only
    rw [if_neg (show ¬ ((inn.length - i : Nat) : Int) = 0 by omega)]
    have hlen : (cont y).length = inn.length - i := by rw [hcy]; simp
    rcases d5 with ⟨c1, _, _⟩ | ⟨c1, c2, _⟩
    · rw [c1] at hlen; simp at hlen; omega
    have hk : inn.length - i - 1 < inn.length := by omega
    have h2 : inn.take (inn.length - i) = inn.take (inn.length - i - 1) ++ [inn[inn.length - i - 1]] := by
      rw [← List.take_succ_eq_append_getElem hk, show inn.length - i - 1 + 1 = inn.length - i by omega]
    have h3 : cont y2 ++ [x2.x] = inn.take (inn.length - i - 1) ++ [inn[inn.length - i - 1]] := by rw [← c2, hcy, h2]
    obtain ⟨g1, g2⟩ := List.append_inj' h3 rfl
    simp only [List.cons.injEq, and_true] at g2
    have hw : w64 (((inn.length - i : Nat) : Int) - 1) = ((inn.length - i - 1 : Nat) : Int) := by
      rw [w64_id ⟨by omega, by omega⟩]; omega
    simp only [c1, not_true, if_false, hw]
    refine ⟨_, idx_lt hk, ?_⟩
    unfold fettlelaw11_left.jn83
    simp only [if_true, g2, not_true, decide_false, Bool.false_eq_true, if_false, hw]
    exact hg _ ⟨by show ((inn.length - i - 1 : Nat) : Int) = ((inn.length - (i + 1) : Nat) : Int); omega, y2, d3, by rw [g1, show inn.length - i - 1 = inn.length - (i + 1) by omega], by show y2.top ≤ 1000 + ((i + 1 : Nat) : Int); omega⟩
  · rintro ⟨R, k⟩ ⟨rfl, y, hq, hcy, hyt⟩ P hP
    simp only at hq
    unfold fettlelaw11_left.bd15
    rw [if_pos (by omega)]
    refine pop_spec hq (by omega) fun bo R1 R2 x2 y2 d1 d2 d3 d4 d5 => ?_
    simp only [show ¬ (some bo = (none : Option Nat)) by simp, not_true, or_self, if_false, d1]
    refine ⟨_, rfl, ?_⟩
    unfold fettlelaw11_left.jn86
    simp only [Bool.not_true, Bool.false_eq_true, if_false]
    refine ⟨_, result_eq d2, ?_⟩
    dsimp only
    rw [if_pos (show ((inn.length - inn.length : Nat) : Int) = 0 by omega)]
    rcases d5 with ⟨c1, _, c3⟩ | ⟨c1, c2, _⟩
    · simp only [c3, decide_true]; exact hP (.ret (true, R2)) (hQ R2)
    · rw [hcy, Nat.sub_self] at c2
      simp at c2
  · exact ⟨by simp [len], y, h, by simp [hc], by omega⟩
end Go.Proofs.Ytoflleabpkgdpaa
