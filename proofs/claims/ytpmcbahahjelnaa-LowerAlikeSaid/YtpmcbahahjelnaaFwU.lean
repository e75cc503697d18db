/- The framework, part U: arguments that a row's reading tells: what is read lies in the blocks that stood before the call. No conditions. -/
import Derived.Test.YtpmcbahahjelnaaFwT
import Derived.Deep.Slices
import Derived.ChangeSame
import Derived.ChangeArms
import Derived.Below
set_option linter.unusedVariables false
set_option linter.unusedSimpArgs false
namespace Go.Proofs.Ytpmcbahahjelnaa
open Go Go.Deep Go.RowKit

/-- All blocks of a world. -/
def allB (w : World) : FP := (List.range w.heap.size).filterMap fun i => (w.heap[i]?).map fun o => (i, o)
theorem mem_allB {w : World} {p : Nat × Obj} : p ∈ allB w ↔ w.heap[p.1]? = some p.2 := by
  unfold allB
  simp only [List.mem_filterMap, List.mem_range, Option.map_eq_some_iff]
  constructor
  · rintro ⟨i, hi, o, ho, rfl⟩; exact ho
  · intro h
    exact ⟨p.1, (Array.getElem?_eq_some_iff.1 h).1, p.2, h, rfl⟩
theorem St.start (w : World) : St w (allB w) [] w :=
  ⟨rfl, rfl, rfl, fun p hp => mem_allB.1 hp, fun p hp => by simp at hp, by simp, fun p hp => by simp at hp⟩

theorem St.below {W w' : World} {A : List FP} (h : St W (allB W) A w') : Below W.heap.size W w' := by
  refine ⟨h.os, h.tape, h.out, ?_, fun k hk => ?_⟩
  · rcases Nat.eq_zero_or_pos W.heap.size with h0 | h0
    · omega
    · have h1 : W.heap[W.heap.size - 1]? = some W.heap[W.heap.size - 1] := Array.getElem?_eq_getElem (by omega)
      have h2 := h.atH (W.heap.size - 1, W.heap[W.heap.size - 1]) (mem_allB.2 h1)
      have h3 := (Array.getElem?_eq_some_iff.1 h2).1
      have h4 : W.heap.size - 1 < w'.heap.size := h3
      omega
  · have h1 : W.heap[k]? = some W.heap[k] := Array.getElem?_eq_getElem hk
    rw [h1]
    exact h.atH (k, W.heap[k]) (mem_allB.2 h1)
theorem len1 {α : Type} {l : List α} (h : l.length = 1) : ∃ a, l = [a] := by match l, h with | [a], _ => exact ⟨a, rfl⟩
theorem len2 {α : Type} {l : List α} (h : l.length = 2) : ∃ a b, l = [a, b] := by match l, h with | [a, b], _ => exact ⟨a, b, rfl⟩
theorem len3 {α : Type} {l : List α} (h : l.length = 3) : ∃ a b c, l = [a, b, c] := by match l, h with | [a, b, c], _ => exact ⟨a, b, c, rfl⟩
theorem len4 {α : Type} {l : List α} (h : l.length = 4) : ∃ a b c d, l = [a, b, c, d] := by match l, h with | [a, b, c, d], _ => exact ⟨a, b, c, d, rfl⟩
theorem len5 {α : Type} {l : List α} (h : l.length = 5) : ∃ a b c d e, l = [a, b, c, d, e] := by match l, h with | [a, b, c, d, e], _ => exact ⟨a, b, c, d, e, rfl⟩
theorem len6 {α : Type} {l : List α} (h : l.length = 6) : ∃ a b c d e f, l = [a, b, c, d, e, f] := by match l, h with | [a, b, c, d, e, f], _ => exact ⟨a, b, c, d, e, f, rfl⟩
theorem len7 {α : Type} {l : List α} (h : l.length = 7) : ∃ a b c d e f g, l = [a, b, c, d, e, f, g] := by match l, h with | [a, b, c, d, e, f, g], _ => exact ⟨a, b, c, d, e, f, g, rfl⟩
theorem len8 {α : Type} {l : List α} (h : l.length = 8) : ∃ a b c d e f g i, l = [a, b, c, d, e, f, g, i] := by match l, h with | [a, b, c, d, e, f, g, i], _ => exact ⟨a, b, c, d, e, f, g, i, rfl⟩
section
variable {H : Type} {enc : TypeId × Value → H} {P : Program} {w : World} {base : Nat} {spare : Nat → Bool} {held : Bool}
/-- Whatever is read as a datum of type t stands for a pure value, in range. -/
def Opens (P : Program) (w : World) (t : TypeId) {α : Type} (k : Kd α) (wf : α → Prop) : Prop :=
  ∀ (H : Type) (enc : TypeId × Value → H) (base : Nat) (spare : Nat → Bool) (held : Bool) (fuel : Nat) (cs : List Value) (x : DataW H × List MemPlace), DataW.trod enc P w base spare held fuel t cs = some x → ∃ a, k.ro (allB w) a cs ∧ wf a
def inI64 (x : Int) : Prop := -9223372036854775808 ≤ x ∧ x ≤ 9223372036854775807
def okL {α : Type} (wf : α → Prop) (xs : List α) : Prop := xs.length ≤ maxLen ∧ ∀ x, x ∈ xs → wf x
theorem opens_int {t : TypeId} (ht : P.underlying t = some (.int .i64)) : Opens P w t (kInt .i64) inI64 := by
  intro H enc base spare held fuel cs x h
  obtain ⟨n, rfl, rfl, hw⟩ := DataW.trod_int ht h
  refine ⟨n, rfl, ?_⟩
  simp only [Lit.wf, Bool.and_eq_true, decide_eq_true_eq] at hw
  simpa [inI64, IntKind.has, IntKind.min, IntKind.signed, IntKind.bits] using hw
theorem opens_bool {t : TypeId} (ht : P.underlying t = some .bool) : Opens P w t kBool (fun _ => True) := by
  intro H enc base spare held fuel cs x h
  obtain ⟨b, rfl, rfl⟩ := DataW.trod_bool ht h
  exact ⟨b, rfl, trivial⟩
theorem cells_in {b o n : Nat} {cs : List Value} {sp : Option Nat} (h : w.cells? base ⟨b, o, sp⟩ n = some cs) (hn : 0 < n) : ∃ c t fr, (b, Obj.cells c t fr) ∈ allB w ∧ sp = none ∧ cs.length = n ∧ ∀ j u, cs[j]? = some u → c[o + j]? = some u := by
  obtain ⟨hb, hlen, hcell⟩ := World.cells?_some h
  have h0 := hcell 0 (by omega)
  rw [List.getElem?_eq_getElem (by omega)] at h0
  have hspot : sp = none := by simpa [Addr.add] using World.cell?_spot h0
  subst hspot
  cases hb' : w.heap[b]? with
  | none => simp [World.cell?, Addr.add, hb'] at h0
  | some obj =>
    cases obj with
    | cells c t fr =>
      refine ⟨c, t, fr, mem_allB.2 hb', rfl, hlen, fun j u hu => ?_⟩
      have hj := (List.getElem?_eq_some_iff.1 hu).1
      have := hcell j (by omega)
      rw [hu, Addr.add_mid] at this
      simpa [World.cell?, hb'] using this
    | _ => simp [World.cell?, Addr.add, hb'] at h0
theorem opens_slice {t e : TypeId} {α : Type} {k : Kd α} {wf : α → Prop} (ht : P.underlying t = some (.slice e)) (hc : P.cellsOf e = k.sz) (hpos : 0 < k.sz) (he : Opens P w e k wf) : Opens P w t (kSl e k) (okL wf) := by
  intro H enc base spare held fuel cs x h
  rcases open_slice ht h with ⟨rfl, rfl⟩ | ⟨a, len, cap, m, n, D, Pl, rfl, hb, hl, hm, hmm, rfl, hx⟩
  · exact ⟨[], ⟨_, rfl, SlI.nil none 0⟩, by simp, fun x hx => by simp at hx⟩
  obtain ⟨b, o, sp⟩ := a
  have hle : len ≤ m := by rw [hmm]; split <;> omega
  rw [hc] at hx
  by_cases h0 : len = 0
  · subst h0
    exact ⟨[], ⟨_, rfl, SlI.nil _ _⟩, by simp, fun x hx => by simp at hx⟩
  -- one element after another
  have hsp : sp = none := by
    obtain ⟨cs', h1, _⟩ := hx 0 (by omega)
    simp only [Nat.zero_mul] at h1
    have e0 : (Addr.add ⟨b, o, sp⟩ 0) = ⟨b, o, sp⟩ := by simp [Addr.add]
    rw [e0] at h1
    exact (cells_in h1 hpos).choose_spec.choose_spec.choose_spec.2.1
  subst hsp
  have hb0 : ∃ c t fr, (b, Obj.cells c t fr) ∈ allB w := by
    obtain ⟨cs', h1, _⟩ := hx 0 (by omega)
    rw [Addr.add_mid] at h1
    obtain ⟨c, t, fr, hmem, _⟩ := cells_in h1 hpos
    exact ⟨c, t, fr, hmem⟩
  obtain ⟨c, t', fr, hmem⟩ := hb0
  have hone : ∀ i, i < len → ∃ y, (∃ cs', k.ro (allB w) y cs' ∧ ∀ j u, cs'[j]? = some u → c[o + i * k.sz + j]? = some u) ∧ wf y := by
    intro i hi
    obtain ⟨cs', h1, h2⟩ := hx i (by omega)
    rw [Addr.add_mid] at h1
    obtain ⟨c', t2, fr2, hmem2, _, _, hj⟩ := cells_in h1 hpos
    have e1 := mem_allB.1 hmem
    have e2 := mem_allB.1 hmem2
    rw [e1] at e2
    cases e2
    obtain ⟨y, hy1, hy2⟩ := he _ _ _ _ _ _ _ _ h2
    exact ⟨y, ⟨cs', hy1, hj⟩, hy2⟩
  have hlist : ∀ n, n ≤ len → ∃ xs : List α, xs.length = n ∧ (∀ i x, xs[i]? = some x → ∃ cs', k.ro (allB w) x cs' ∧ ∀ j u, cs'[j]? = some u → c[o + i * k.sz + j]? = some u) ∧ ∀ x, x ∈ xs → wf x := by
    intro n
    induction n with
    | zero => intro _; exact ⟨[], rfl, fun i x hx => by simp at hx, fun x hx => by simp at hx⟩
    | succ n ih =>
      intro hn
      obtain ⟨xs, h1, h2, h3⟩ := ih (by omega)
      obtain ⟨y, hy1, hy2⟩ := hone n (by omega)
      refine ⟨xs ++ [y], by simp [h1], fun i x hx => ?_, fun x hx => ?_⟩
      · rcases Nat.lt_or_ge i xs.length with hi | hi
        · rw [List.getElem?_append_left hi] at hx; exact h2 i x hx
        · rw [List.getElem?_append_right hi] at hx
          have : i = n := by
            have := (List.getElem?_eq_some_iff.1 hx).1
            simp at this; omega
          subst this
          simp [h1] at hx
          subst hx; exact hy1
      · rcases List.mem_append.1 hx with hx | hx
        · exact h3 x hx
        · simp at hx; subst hx; exact hy2
  obtain ⟨xs, h1, h2, h3⟩ := hlist len (Nat.le_refl _)
  refine ⟨xs, ⟨_, rfl, by omega, .inr ⟨b, o, cap, c, t', fr, by rw [h1], by omega, hmem, h2⟩⟩, by omega, h3⟩
end
end Go.Proofs.Ytpmcbahahjelnaa
