/- Plain laws, part x-I: the law DequeOnce: what lies in the deque while operations are under way. No conditions. -/
import Derived.Test.YtoflleabpkgdpaaPxF
set_option linter.unusedVariables false
set_option linter.unusedSimpArgs false
namespace Go.Proofs.Ytoflleabpkgdpaa
open Go Go.Proofs

/-! ### Cells in a row -/
def seg (c : A64) (a b : Int) : List Int := (List.range (b - a).toNat).map fun (k : Nat) => cget c (a + (k : Int))
theorem seg_nil {c : A64} {a b : Int} (h : b ≤ a) : seg c a b = [] := by unfold seg; rw [show (b - a).toNat = 0 by omega]; rfl
theorem seg_snoc {c : A64} {a b : Int} (h : a ≤ b) : seg c a (b + 1) = seg c a b ++ [cget c b] := by
  unfold seg
  rw [show (b + 1 - a).toNat = (b - a).toNat + 1 by omega, List.range_succ, List.map_append]
  congr 1
  simp only [List.map_cons, List.map_nil]
  rw [Int.toNat_of_nonneg (by omega), show a + (b - a) = b by omega]
theorem seg_cons {c : A64} {a b : Int} (h : a < b) : seg c a b = cget c a :: seg c (a + 1) b := by
  unfold seg
  rw [show (b - a).toNat = (b - (a + 1)).toNat + 1 by omega, List.range_succ_eq_map, List.map_cons, List.map_map]
  refine List.cons_eq_cons.2 ⟨by simp, List.map_congr_left fun k _ => ?_⟩
  simp only [Function.comp, Nat.succ_eq_add_one]
  congr 1; omega
theorem seg_put {c : A64} {a b n v : Int} (h : n - a < 64) (hb : b ≤ n) : seg (cput c n v) a b = seg c a b := by
  unfold seg
  apply List.map_congr_left
  intro k hk
  rw [List.mem_range] at hk
  rw [cget_put, if_neg (by omega)]

/-! ### The owner's operation, a thief -/
structure Sg (y : QDeque) (inn : List Int) (L : Int) : Prop where
  le : y.top ≤ L
  few : L - y.top ≤ 64
  eq : inn = seg y.cells y.top L
/-- What lies in the deque, by what the owner is at; below M thieves may still take. -/
inductive Ph (y : QDeque) (inn : List Int) (M : Int) : Option QOp → Prop
  | none : M = y.bottom → Sg y inn M → Ph y inn M none
  | push0 {x : QOp} : x.kind = 1 → x.at_ = 0 → M = y.bottom → Sg y inn M → x.x ∉ inn → Ph y inn M (some x)
  | push1 {x : QOp} : x.kind = 1 → x.at_ = 1 → M = y.bottom → Sg y inn M → x.x ∉ inn → x.b = M → Ph y inn M (some x)
  | push2 {x : QOp} : x.kind = 1 → x.at_ = 2 → M = y.bottom → Sg y inn M → x.x ∉ inn → x.b = M → M - y.top < 64 → Ph y inn M (some x)
  | push3 {x : QOp} : x.kind = 1 → x.at_ = 3 → M = y.bottom → Sg y inn M → x.x ∉ inn → x.b = M → M - y.top < 64 → cget y.cells M = x.x → Ph y inn M (some x)
  | pop0 {x : QOp} : x.kind = 2 → x.at_ = 0 → M = y.bottom → Sg y inn M → Ph y inn M (some x)
  | pop1 {x : QOp} : x.kind = 2 → x.at_ = 1 → M = y.bottom + 1 → x.b = y.bottom → Sg y inn M → Ph y inn M (some x)
  | pop10 {x : QOp} : x.kind = 2 → x.at_ = 10 → M = y.bottom + 1 → x.b = y.bottom → y.top = M → inn = [] → Ph y inn M (some x)
  | pop20 {x : QOp} : x.kind = 2 → x.at_ = 20 → M = y.bottom → x.b = y.bottom → x.t < x.b → y.top ≤ M → Sg y inn (M + 1) → Ph y inn M (some x)
  | pop20e {x : QOp} : x.kind = 2 → x.at_ = 20 → M = y.bottom + 1 → x.b = y.bottom → x.t = x.b → x.t ≤ y.top → Sg y inn M → Ph y inn M (some x)
  | pop30 {x : QOp} : x.kind = 2 → x.at_ = 30 → M = y.bottom + 1 → x.b = y.bottom → x.t = x.b → x.t ≤ y.top → x.x = cget y.cells x.b → Sg y inn M → Ph y inn M (some x)
  | pop40 {x : QOp} : x.kind = 2 → x.at_ = 40 → M = y.bottom + 1 → x.b = y.bottom → y.top = M → inn = [x.x] → Ph y inn M (some x)
  | pop50 {x : QOp} : x.kind = 2 → x.at_ = 50 → M = y.bottom + 1 → x.b = y.bottom → y.top = M → inn = [] → Ph y inn M (some x)
inductive Th (y : QDeque) (M : Int) (x : QOp) : Prop
  | at0 : x.at_ = 0 → Th y M x
  | at1 : x.at_ = 1 → x.t ≤ y.top → Th y M x
  | at2 : x.at_ = 2 → x.t ≤ y.top → (x.t = y.top → y.top < M) → Th y M x
  | at3 : x.at_ = 3 → x.t ≤ y.top → (x.t = y.top → y.top < M ∧ x.x = cget y.cells y.top) → Th y M x
theorem Sg.top_put {y : QDeque} {inn : List Int} {L n v : Int} {o : Option Nat} (h : Sg y inn L) (h1 : n - y.top < 64) (h2 : L ≤ n) : Sg ⟨cput y.cells n v, y.top, y.bottom, o⟩ inn L :=
  ⟨h.le, h.few, by rw [h.eq]; exact (seg_put h1 h2).symm⟩
theorem Th.same {y y1 : QDeque} {M M' : Int} {s : QOp} (ht : y1.top = y.top) (hM : y.top < M → y.top < M') (hc : y.top < M → cget y1.cells y.top = cget y.cells y.top) (h : Th y M s) : Th y1 M' s := by
  cases h with
  | at0 h => exact .at0 h
  | at1 h1 h2 => exact .at1 h1 (by rw [ht]; exact h2)
  | at2 h1 h2 h3 => exact .at2 h1 (by rw [ht]; exact h2) (fun he => by rw [ht] at he ⊢; exact hM (h3 he))
  | at3 h1 h2 h3 => exact .at3 h1 (by rw [ht]; exact h2) (fun he => by rw [ht] at he ⊢; obtain ⟨g1, g2⟩ := h3 he; exact ⟨hM g1, by rw [hc g1]; exact g2⟩)
theorem Th.more {y y1 : QDeque} {M M' : Int} {s : QOp} (ht : y1.top = y.top + 1) (h : Th y M s) : Th y1 M' s := by
  cases h with
  | at0 h => exact .at0 h
  | at1 h1 h2 => exact .at1 h1 (by omega)
  | at2 h1 h2 h3 => exact .at2 h1 (by omega) (fun he => by omega)
  | at3 h1 h2 h3 => exact .at3 h1 (by omega) (fun he => by omega)
/-- What a step of the owner's operation leads to. -/
inductive Own (inn : List Int) (M : Int) (k : Int) (y1 : QDeque) (x1 : QOp) (g : Int) : Prop
  | go : g = 0 → Ph y1 inn M (some x1) → Own inn M k y1 x1 g
  | full : k = 1 → g = 3 → Ph y1 inn M none → Own inn M k y1 x1 g
  | put : k = 1 → g = 1 → Ph y1 (inn ++ [x1.x]) M none → Own inn M k y1 x1 g
  | none : k = 2 → g = 2 → Ph y1 inn M none → Own inn M k y1 x1 g
  | took (a : List Int) : k = 2 → g = 1 → inn = a ++ [x1.x] → Ph y1 a M none → Own inn M k y1 x1 g
def nxt (y : QDeque) (x : QOp) : QOp := ⟨(core y x).2.1.d, (core y x).2.1.kind, (core y x).2.1.at_ + 1, (core y x).2.1.t, (core y x).2.1.b, (core y x).2.1.x, (core y x).2.2⟩
theorem own_step {y : QDeque} {x : QOp} {inn : List Int} {M : Int} (h : Ph y inn M (some x)) :
    ∃ M', (∀ s, Th y M s → Th (core y x).1 M' s) ∧ Own inn M' x.kind (core y x).1 (nxt y x) (core y x).2.2 := by
  obtain ⟨xd, xk, xa, xt, xb, xx, xg⟩ := x
  generalize hx : (some (⟨xd, xk, xa, xt, xb, xx, xg⟩ : QOp)) = ox at h
  cases h with
  | none => cases hx
  | push0 h1 h2 h3 h4 h5 =>
    cases hx
    simp only at h1 h2 h5
    subst h1 h2
    have hc : core y ⟨xd, 1, 0, xt, xb, xx, xg⟩ = (y, ⟨xd, 1, 0, xt, y.bottom, xx, xg⟩, 0) := by simp [core]
    simp only [nxt, hc]
    exact ⟨M, fun s hs => hs, .go rfl (.push1 rfl rfl h3 h4 h5 h3.symm)⟩
  | push1 h1 h2 h3 h4 h5 h6 =>
    cases hx
    simp only at h1 h2 h5 h6
    subst h1 h2
    by_cases c : xb - y.top ≥ 64
    · have hc : core y ⟨xd, 1, 1, xt, xb, xx, xg⟩ = (y, ⟨xd, 1, 1, y.top, xb, xx, xg⟩, 3) := by simp [core, c]
      simp only [nxt, hc]
      exact ⟨M, fun s hs => hs, .full rfl rfl (.none h3 h4)⟩
    · have hc : core y ⟨xd, 1, 1, xt, xb, xx, xg⟩ = (y, ⟨xd, 1, 1, y.top, xb, xx, xg⟩, 0) := by simp [core, c]
      simp only [nxt, hc]
      exact ⟨M, fun s hs => hs, .go rfl (.push2 rfl rfl h3 h4 h5 h6 (by omega))⟩
  | push2 h1 h2 h3 h4 h5 h6 h7 =>
    cases hx
    simp only at h1 h2 h5 h6
    subst h1 h2
    have hc : core y ⟨xd, 1, 2, xt, xb, xx, xg⟩ = (⟨cput y.cells xb xx, y.top, y.bottom, y.owner⟩, ⟨xd, 1, 2, xt, xb, xx, xg⟩, 0) := by simp [core]
    simp only [nxt, hc]
    refine ⟨M, fun s hs => Th.same (y := y) rfl (fun h => h) (fun hlt => ?_) hs, .go rfl (.push3 rfl rfl h3 (h4.top_put (by omega) (by omega)) h5 h6 h7 ?_)⟩
    · show cget (cput y.cells xb xx) y.top = _
      rw [cget_put, if_neg (by omega)]
    · show cget (cput y.cells xb xx) M = xx
      rw [cget_put, if_pos (by rw [h6])]
  | push3 h1 h2 h3 h4 h5 h6 h7 h8 =>
    cases hx
    simp only at h1 h2 h5 h6 h8
    subst h1 h2
    have hc : core y ⟨xd, 1, 3, xt, xb, xx, xg⟩ = (⟨y.cells, y.top, xb + 1, y.owner⟩, ⟨xd, 1, 3, xt, xb, xx, xg⟩, 1) := by simp [core]
    simp only [nxt, hc]
    refine ⟨M + 1, fun s hs => Th.same (y := y) rfl (fun h => by omega) (fun _ => rfl) hs, .put rfl rfl (.none (by show M + 1 = xb + 1; omega) ⟨by have := h4.le; show y.top ≤ M + 1; omega, by show M + 1 - y.top ≤ 64; omega, ?_⟩)⟩
    show inn ++ [xx] = seg y.cells y.top (M + 1)
    rw [seg_snoc h4.le, ← h4.eq, h8]
  | pop0 h1 h2 h3 h4 =>
    cases hx
    simp only at h1 h2
    subst h1 h2
    have hc : core y ⟨xd, 2, 0, xt, xb, xx, xg⟩ = (⟨y.cells, y.top, y.bottom - 1, y.owner⟩, ⟨xd, 2, 0, xt, y.bottom - 1, xx, xg⟩, 0) := by simp [core]
    simp only [nxt, hc]
    exact ⟨M, fun s hs => Th.same (y := y) rfl (fun h => h) (fun _ => rfl) hs, .go rfl (.pop1 rfl rfl (by show M = y.bottom - 1 + 1; omega) rfl ⟨h4.le, h4.few, h4.eq⟩)⟩
  | pop1 h1 h2 h3 h4 h5 =>
    cases hx
    simp only at h1 h2 h4
    subst h1 h2
    have hle := h5.le
    rcases Int.lt_trichotomy y.top xb with c | c | c
    · have c1 : ¬ y.top > xb := by omega
      have hc : core y ⟨xd, 2, 1, xt, xb, xx, xg⟩ = (y, ⟨xd, 2, 19, y.top, xb, xx, xg⟩, 0) := by simp [core, c1]
      simp only [nxt, hc]
      refine ⟨M - 1, fun s hs => Th.same (y := y) rfl (fun _ => by omega) (fun _ => rfl) hs, .go rfl (.pop20 rfl rfl (by omega) h4 c (by omega) ?_)⟩
      rw [show M - 1 + 1 = M by omega]; exact h5
    · have c1 : ¬ y.top > xb := by omega
      have hc : core y ⟨xd, 2, 1, xt, xb, xx, xg⟩ = (y, ⟨xd, 2, 19, y.top, xb, xx, xg⟩, 0) := by simp [core, c1]
      simp only [nxt, hc]
      exact ⟨M, fun s hs => hs, .go rfl (.pop20e rfl rfl h3 h4 c (Int.le_refl _) h5)⟩
    · have c1 : y.top > xb := c
      have hc : core y ⟨xd, 2, 1, xt, xb, xx, xg⟩ = (y, ⟨xd, 2, 9, y.top, xb, xx, xg⟩, 0) := by simp [core, c1]
      simp only [nxt, hc]
      exact ⟨M, fun s hs => hs, .go rfl (.pop10 rfl rfl h3 h4 (by omega) (by rw [h5.eq]; exact seg_nil (by omega)))⟩
  | pop10 h1 h2 h3 h4 h5 h6 =>
    cases hx
    simp only at h1 h2 h4
    subst h1 h2
    have hc : core y ⟨xd, 2, 10, xt, xb, xx, xg⟩ = (⟨y.cells, y.top, xb + 1, y.owner⟩, ⟨xd, 2, 10, xt, xb, xx, xg⟩, 2) := by simp [core]
    simp only [nxt, hc]
    exact ⟨M, fun s hs => Th.same (y := y) rfl (fun h => h) (fun _ => rfl) hs, .none rfl rfl (.none (by show M = xb + 1; omega) ⟨by show y.top ≤ M; omega, by show M - y.top ≤ 64; omega, by rw [h6]; exact (seg_nil (by show M ≤ y.top; omega)).symm⟩)⟩
  | pop20 h1 h2 h3 h4 h5 h6 h7 =>
    cases hx
    simp only at h1 h2 h4 h5
    subst h1 h2
    have hc : core y ⟨xd, 2, 20, xt, xb, xx, xg⟩ = (y, ⟨xd, 2, 20, xt, xb, cget y.cells xb, xg⟩, 1) := by simp [core, h5]
    simp only [nxt, hc]
    refine ⟨M, fun s hs => hs, .took (seg y.cells y.top M) rfl rfl ?_ (.none h3 ⟨h6, by have := h7.few; omega, rfl⟩)⟩
    rw [h7.eq, seg_snoc h6, show M = xb by omega]
  | pop20e h1 h2 h3 h4 h5 h6 h7 =>
    cases hx
    simp only at h1 h2 h4 h5 h6
    subst h1 h2
    have c : ¬ xt < xb := by omega
    have hc : core y ⟨xd, 2, 20, xt, xb, xx, xg⟩ = (y, ⟨xd, 2, 29, xt, xb, cget y.cells xb, xg⟩, 0) := by simp [core, c]
    simp only [nxt, hc]
    exact ⟨M, fun s hs => hs, .go rfl (.pop30 rfl rfl h3 h4 h5 h6 rfl h7)⟩
  | pop30 h1 h2 h3 h4 h5 h6 h7 h8 =>
    cases hx
    simp only at h1 h2 h4 h5 h6 h7
    subst h1 h2
    have hle := h8.le
    by_cases c : y.top = xt
    · have hc : core y ⟨xd, 2, 30, xt, xb, xx, xg⟩ = (⟨y.cells, y.top + 1, y.bottom, y.owner⟩, ⟨xd, 2, 39, xt, xb, xx, xg⟩, 0) := by simp [core, c]
      simp only [nxt, hc]
      refine ⟨M, fun s hs => Th.more (y := y) rfl hs, .go rfl (.pop40 rfl rfl h3 h4 (by show y.top + 1 = M; omega) ?_)⟩
      show inn = [xx]
      rw [h8.eq, seg_cons (by omega), seg_nil (by omega), h7, show y.top = xb by omega]
    · have hc : core y ⟨xd, 2, 30, xt, xb, xx, xg⟩ = (y, ⟨xd, 2, 49, xt, xb, xx, xg⟩, 0) := by simp [core, c]
      simp only [nxt, hc]
      refine ⟨M, fun s hs => hs, .go rfl (.pop50 rfl rfl h3 h4 (by omega) ?_)⟩
      rw [h8.eq]; exact seg_nil (by omega)
  | pop40 h1 h2 h3 h4 h5 h6 =>
    cases hx
    simp only at h1 h2 h4 h6
    subst h1 h2
    have hc : core y ⟨xd, 2, 40, xt, xb, xx, xg⟩ = (⟨y.cells, y.top, xb + 1, y.owner⟩, ⟨xd, 2, 40, xt, xb, xx, xg⟩, 1) := by simp [core]
    simp only [nxt, hc]
    exact ⟨M, fun s hs => Th.same (y := y) rfl (fun h => h) (fun _ => rfl) hs, .took [] rfl rfl (by rw [h6]; rfl) (.none (by show M = xb + 1; omega) ⟨by show y.top ≤ M; omega, by show M - y.top ≤ 64; omega, (seg_nil (by show M ≤ y.top; omega)).symm⟩)⟩
  | pop50 h1 h2 h3 h4 h5 h6 =>
    cases hx
    simp only at h1 h2 h4
    subst h1 h2
    have hc : core y ⟨xd, 2, 50, xt, xb, xx, xg⟩ = (⟨y.cells, y.top, xb + 1, y.owner⟩, ⟨xd, 2, 50, xt, xb, xx, xg⟩, 2) := by simp [core]
    simp only [nxt, hc]
    exact ⟨M, fun s hs => Th.same (y := y) rfl (fun h => h) (fun _ => rfl) hs, .none rfl rfl (.none (by show M = xb + 1; omega) ⟨by show y.top ≤ M; omega, by show M - y.top ≤ 64; omega, by rw [h6]; exact (seg_nil (by show M ≤ y.top; omega)).symm⟩)⟩
theorem Ph.ge {y : QDeque} {inn : List Int} {M : Int} {oo : Option QOp} (h : Ph y inn M oo) : y.bottom ≤ M := by
  cases h <;> omega
theorem Sg.take {y : QDeque} {inn : List Int} {L : Int} (h : Sg y inn L) (hl : y.top < L) (o : Option Nat) : ∃ rest, inn = cget y.cells y.top :: rest ∧ Sg ⟨y.cells, y.top + 1, y.bottom, o⟩ rest L :=
  ⟨seg y.cells (y.top + 1) L, by rw [h.eq, seg_cons hl], ⟨by show y.top + 1 ≤ L; omega, by have := h.few; show L - (y.top + 1) ≤ 64; omega, rfl⟩⟩
theorem Ph.take {y : QDeque} {inn : List Int} {M : Int} {oo : Option QOp} (h : Ph y inn M oo) (hl : y.top < M) (o : Option Nat) : ∃ rest, inn = cget y.cells y.top :: rest ∧ Ph ⟨y.cells, y.top + 1, y.bottom, o⟩ rest M oo := by
  cases h with
  | none h3 h4 => obtain ⟨r, e, g⟩ := h4.take hl o; exact ⟨r, e, .none h3 g⟩
  | push0 h1 h2 h3 h4 h5 => obtain ⟨r, e, g⟩ := h4.take hl o; exact ⟨r, e, .push0 h1 h2 h3 g (fun hm => h5 (by rw [e]; exact List.mem_cons_of_mem _ hm))⟩
  | push1 h1 h2 h3 h4 h5 h6 => obtain ⟨r, e, g⟩ := h4.take hl o; exact ⟨r, e, .push1 h1 h2 h3 g (fun hm => h5 (by rw [e]; exact List.mem_cons_of_mem _ hm)) h6⟩
  | push2 h1 h2 h3 h4 h5 h6 h7 => obtain ⟨r, e, g⟩ := h4.take hl o; exact ⟨r, e, .push2 h1 h2 h3 g (fun hm => h5 (by rw [e]; exact List.mem_cons_of_mem _ hm)) h6 (by show M - (y.top + 1) < 64; omega)⟩
  | push3 h1 h2 h3 h4 h5 h6 h7 h8 => obtain ⟨r, e, g⟩ := h4.take hl o; exact ⟨r, e, .push3 h1 h2 h3 g (fun hm => h5 (by rw [e]; exact List.mem_cons_of_mem _ hm)) h6 (by show M - (y.top + 1) < 64; omega) h8⟩
  | pop0 h1 h2 h3 h4 => obtain ⟨r, e, g⟩ := h4.take hl o; exact ⟨r, e, .pop0 h1 h2 h3 g⟩
  | pop1 h1 h2 h3 h4 h5 => obtain ⟨r, e, g⟩ := h5.take hl o; exact ⟨r, e, .pop1 h1 h2 h3 h4 g⟩
  | pop10 h1 h2 h3 h4 h5 h6 => omega
  | pop20 h1 h2 h3 h4 h5 h6 h7 => obtain ⟨r, e, g⟩ := h7.take (by omega) o; exact ⟨r, e, .pop20 h1 h2 h3 h4 h5 (by show y.top + 1 ≤ M; omega) g⟩
  | pop20e h1 h2 h3 h4 h5 h6 h7 => obtain ⟨r, e, g⟩ := h7.take hl o; exact ⟨r, e, .pop20e h1 h2 h3 h4 h5 (by show _ ≤ y.top + 1; omega) g⟩
  | pop30 h1 h2 h3 h4 h5 h6 h7 h8 => obtain ⟨r, e, g⟩ := h8.take hl o; exact ⟨r, e, .pop30 h1 h2 h3 h4 h5 (by show _ ≤ y.top + 1; omega) h7 g⟩
  | pop40 h1 h2 h3 h4 h5 h6 => omega
  | pop50 h1 h2 h3 h4 h5 h6 => omega
/-- What a thief's step leads to. -/
inductive Tf (y : QDeque) (inn : List Int) (M : Int) (oo : Option QOp) (y1 : QDeque) (x1 : QOp) (g : Int) : Prop
  | go : g = 0 → y1 = y → Th y M x1 → Tf y inn M oo y1 x1 g
  | lost : g = 2 ∨ g = 4 → y1 = y → Tf y inn M oo y1 x1 g
  | took (rest : List Int) : g = 1 → inn = x1.x :: rest → Ph y1 rest M oo → (∀ s, Th y M s → Th y1 M s) → Tf y inn M oo y1 x1 g
theorem thief_step {y : QDeque} {x : QOp} {inn : List Int} {M : Int} {oo : Option QOp} (h : Ph y inn M oo) (hx : Th y M x) (k1 : ¬ x.kind = 1) (k2 : ¬ x.kind = 2) : Tf y inn M oo (core y x).1 (nxt y x) (core y x).2.2 := by
  obtain ⟨xd, xk, xa, xt, xb, xx, xg⟩ := x
  simp only at k1 k2
  have hge := h.ge
  cases hx with
  | at0 h1 =>
    simp only at h1
    subst h1
    have hc : core y ⟨xd, xk, 0, xt, xb, xx, xg⟩ = (y, ⟨xd, xk, 0, y.top, xb, xx, xg⟩, 0) := by simp [core, k1, k2]
    simp only [nxt, hc]
    exact .go rfl rfl (.at1 rfl (Int.le_refl _))
  | at1 h1 h2 =>
    simp only at h1 h2
    subst h1
    by_cases c : xt ≥ y.bottom
    · have hc : core y ⟨xd, xk, 1, xt, xb, xx, xg⟩ = (y, ⟨xd, xk, 1, xt, y.bottom, xx, xg⟩, 2) := by simp [core, k1, k2, c]
      simp only [nxt, hc]
      exact .lost (.inl rfl) rfl
    · have hc : core y ⟨xd, xk, 1, xt, xb, xx, xg⟩ = (y, ⟨xd, xk, 1, xt, y.bottom, xx, xg⟩, 0) := by simp [core, k1, k2, c]
      simp only [nxt, hc]
      exact .go rfl rfl (.at2 rfl h2 (fun he => by simp only at he; omega))
  | at2 h1 h2 h3 =>
    simp only at h1 h2 h3
    subst h1
    have hc : core y ⟨xd, xk, 2, xt, xb, xx, xg⟩ = (y, ⟨xd, xk, 2, xt, xb, cget y.cells xt, xg⟩, 0) := by simp [core, k1, k2]
    simp only [nxt, hc]
    exact .go rfl rfl (.at3 rfl h2 (fun he => ⟨h3 he, by simp only at he ⊢; rw [he]⟩))
  | at3 h1 h2 h3 =>
    simp only at h1 h2 h3
    subst h1
    by_cases c : y.top = xt
    · obtain ⟨g1, g2⟩ := h3 c.symm
      have hc : core y ⟨xd, xk, 3, xt, xb, xx, xg⟩ = (⟨y.cells, y.top + 1, y.bottom, y.owner⟩, ⟨xd, xk, 3, xt, xb, xx, xg⟩, 1) := by simp [core, k1, k2, c]
      simp only [nxt, hc]
      obtain ⟨r, e, g⟩ := h.take g1 y.owner
      exact .took r rfl (by rw [e, g2]) g (fun s hs => Th.more (y := y) rfl hs)
    · have hc : core y ⟨xd, xk, 3, xt, xb, xx, xg⟩ = (y, ⟨xd, xk, 3, xt, xb, xx, xg⟩, 4) := by simp [core, k1, k2, c]
      simp only [nxt, hc]
      exact .lost (.inr rfl) rfl
end Go.Proofs.Ytoflleabpkgdpaa
