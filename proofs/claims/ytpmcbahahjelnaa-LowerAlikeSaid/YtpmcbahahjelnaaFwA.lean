/- The framework, part A: a function's slots as a function of numbers, what stands in memory as a list of blocks, rules for code and regions. No conditions. -/
import Derived.LoopN
import Derived.Tactics
import Derived.StillTail
import Derived.Deep.Quiet
import Derived.OrdersHeld
set_option linter.unusedVariables false
set_option linter.unusedSimpArgs false
namespace Go.Proofs.Ytpmcbahahjelnaa
open Go

/-! ### Slots -/
abbrev Env := Nat → Value
def upd (e : Env) (d : Nat) (v : Value) : Env := fun x => if x = d then v else e x
def updO (e : Env) (d : Option Nat) (v : Value) : Env := match d with | some d => upd e d v | none => e
def evO (e : Env) : Operand → Value
  | .tmp t => e t
  | .const v => v
  | .global g => .pointer (some ⟨g, 0, none⟩)
  | .func f => .func (.func f) #[] #[]

structure Agr (n : Nat) (a : Act) (e : Env) : Prop where
  size : a.tmps.size = n
  get : ∀ d, a.tmps.getD d undef = e d
  defers : a.defers = []

theorem Agr.eval {n : Nat} {a : Act} {e : Env} (h : Agr n a e) : a.eval = evO e := by
  funext x
  cases x <;> simp only [Act.eval, evO]
  exact h.get _

theorem Agr.put {n : Nat} {a : Act} {e : Env} (h : Agr n a e) {d : Nat} (hd : d < n) (v : Value) : Agr n (a.put (some d) v) (upd e d v) := by
  refine ⟨by simp [Act.put, h.size], fun x => ?_, h.defers⟩
  have hs := h.size
  by_cases hx : x = d
  · subst hx; simp [Act.put, upd, hs, hd]
  · have := h.get x
    simp only [Act.put, upd, if_neg hx, ← this]
    simp [Array.getD_eq_getD_getElem?, Array.getElem?_setIfInBounds_ne (Ne.symm hx)]

theorem Agr.putO {n : Nat} {a : Act} {e : Env} (h : Agr n a e) {d : Option Nat} (hd : ∀ x, d = some x → x < n) (v : Value) : Agr n (a.put d v) (updO e d v) := by
  cases d with
  | none => exact h
  | some d => exact h.put (hd d rfl) v

def yieldE (ops : Array Oper) (e : Env) (j : Nat) : Option Bool :=
  match (ops[j]?).bind (·.dst) with
  | some d => match e d with
    | .bool b => some b
    | _ => none
  | none => none

theorem Agr.yielded {n : Nat} {a : Act} {e : Env} (h : Agr n a e) (ops : Array Oper) (j : Nat) : Go.yielded ops a.tmps j = yieldE ops e j := by
  unfold Go.yielded yieldE
  cases hd : (ops[j]?).bind (·.dst) with
  | none => simp
  | some d =>
    have hg := h.get d
    simp only [Option.bind_some]
    rcases Nat.lt_or_ge d a.tmps.size with hl | hl
    · rw [Array.getElem?_eq_getElem hl]
      have he : a.tmps[d] = e d := by rw [← hg]; simp [hl]
      rw [he]; cases e d <;> rfl
    · rw [Array.getElem?_eq_none hl]
      have he : e d = undef := by rw [← hg]; simp [Nat.not_lt.2 hl]
      rw [he]; rfl

theorem Agr.wanted {n : Nat} {a : Act} {e : Env} (h : Agr n a e) (ops : Array Oper) (o : Oper) :
    Region.wanted o (Go.yielded ops a.tmps) = Region.wanted o (yieldE ops e) := by
  have : Go.yielded ops a.tmps = yieldE ops e := funext fun j => h.yielded ops j
  rw [this]

/-! ### Memory -/
/-- Blocks, by their numbers. -/
abbrev FP := List (Nat × Obj)
def At (w : World) (F : FP) : Prop := ∀ p, p ∈ F → w.heap[p.1]? = some p.2

/-- What holds of a world: the frozen blocks H, the blocks of L, all of these apart; files, tape and output as in E. -/
structure St (E : World) (H : FP) (L : List FP) (w : World) : Prop where
  os : w.os = E.os
  tape : w.tape = E.tape
  out : w.output = E.output
  atH : At w H
  atL : At w L.flatten
  nodup : (L.flatten.map (·.1)).Nodup
  apart : ∀ p, p ∈ L.flatten → ∀ q, q ∈ H → p.1 ≠ q.1

theorem St.lt {E : World} {H : FP} {L : List FP} {w : World} (h : St E H L w) {p : Nat × Obj} (hp : p ∈ L.flatten) : p.1 < w.heap.size :=
  (Array.getElem?_eq_some_iff.1 (h.atL p hp)).1
theorem St.ltH {E : World} {H : FP} {L : List FP} {w : World} (h : St E H L w) {p : Nat × Obj} (hp : p ∈ H) : p.1 < w.heap.size :=
  (Array.getElem?_eq_some_iff.1 (h.atH p hp)).1

theorem St.drew {E : World} {H : FP} {L : List FP} {w : World} (h : St E H L w) (n : Nat) : St E H L { w with drawn := n } :=
  ⟨h.os, h.tape, h.out, h.atH, h.atL, h.nodup, h.apart⟩

/-- Any list with the same blocks, or fewer. -/
theorem St.sub {E : World} {H : FP} {L L' : List FP} {w : World} (h : St E H L w) (R : FP) (hs : (L'.flatten ++ R).Perm L.flatten) : St E H L' w := by
  have hm : ∀ p, p ∈ L'.flatten → p ∈ L.flatten := fun p hp => hs.mem_iff.1 (List.mem_append_left _ hp)
  have hn : ((L'.flatten ++ R).map (·.1)).Nodup := (hs.map _).nodup_iff.2 h.nodup
  rw [List.map_append] at hn
  exact ⟨h.os, h.tape, h.out, h.atH, fun p hp => h.atL p (hm p hp), (List.nodup_append.1 hn).1, fun p hp => h.apart p (hm p hp)⟩

/-- Chunks picked one by one; each number counts in what is left. -/
def pk : List FP → List Nat → List FP
  | _, [] => []
  | L, i :: is => match L[i]? with
    | some F => F :: pk (L.eraseIdx i) is
    | none => pk L is
theorem erase_perm : ∀ (L : List FP) (i : Nat) (F : FP), L[i]? = some F → (F ++ (L.eraseIdx i).flatten).Perm L.flatten
  | [], i, F, h => by simp at h
  | G :: L, 0, F, h => by simp at h; subst h; simp
  | G :: L, i + 1, F, h => by
    have ih := erase_perm L i F (by simpa using h)
    simp only [List.eraseIdx_cons_succ, List.flatten_cons]
    refine List.Perm.trans ?_ (List.Perm.append_left G ih)
    rw [← List.append_assoc, ← List.append_assoc]
    exact List.Perm.append_right _ List.perm_append_comm
theorem pk_perm : ∀ (is : List Nat) (L : List FP), ∃ R, ((pk L is).flatten ++ R).Perm L.flatten
  | [], L => ⟨L.flatten, by simp [pk]⟩
  | i :: is, L => by
    cases h : L[i]? with
    | none => simpa [pk, h] using pk_perm is L
    | some F =>
      obtain ⟨R, hR⟩ := pk_perm is (L.eraseIdx i)
      refine ⟨R, ?_⟩
      simp only [pk, h, List.flatten_cons, List.append_assoc]
      exact (List.Perm.append_left F hR).trans (erase_perm L i F h)
theorem St.pick {E : World} {H : FP} {L : List FP} {w : World} (h : St E H L w) (is : List Nat) : St E H (pk L is) w :=
  let ⟨R, hR⟩ := pk_perm is L
  h.sub R hR
theorem St.perm {E : World} {H : FP} {L L' : List FP} {w : World} (h : St E H L w) (hp : L'.flatten.Perm L.flatten) : St E H L' w :=
  h.sub [] (by simpa using hp)

/-! ### What a callee may not touch: the other chunks are frozen for it -/
theorem St.split {E : World} {H : FP} {A B : List FP} {w : World} (h : St E H (A ++ B) w) : St E (B.flatten ++ H) A w := by
  have hn := h.nodup
  rw [List.flatten_append, List.map_append] at hn
  obtain ⟨h1, h2, h3⟩ := List.nodup_append.1 hn
  refine ⟨h.os, h.tape, h.out, fun p hp => ?_, fun p hp => h.atL p (by simp only [List.flatten_append]; exact List.mem_append_left _ hp), h1, fun p hp q hq => ?_⟩
  · rcases List.mem_append.1 hp with hp | hp
    · exact h.atL p (by simp only [List.flatten_append]; exact List.mem_append_right _ hp)
    · exact h.atH p hp
  · rcases List.mem_append.1 hq with hq | hq
    · exact h3 p.1 (List.mem_map_of_mem hp) q.1 (List.mem_map_of_mem hq)
    · exact h.apart p (by simp only [List.flatten_append]; exact List.mem_append_left _ hp) q hq
theorem St.join {E : World} {H : FP} {A A' B : List FP} {w w' : World} (h : St E H (A ++ B) w) (h' : St E (B.flatten ++ H) A' w') : St E H (A' ++ B) w' := by
  have hn := h.nodup
  rw [List.flatten_append, List.map_append] at hn
  obtain ⟨h1, h2, h3⟩ := List.nodup_append.1 hn
  refine ⟨h'.os, h'.tape, h'.out, fun p hp => h'.atH p (List.mem_append_right _ hp), fun p hp => ?_, ?_, fun p hp q hq => ?_⟩
  · rw [List.flatten_append] at hp
    rcases List.mem_append.1 hp with hp | hp
    · exact h'.atL p hp
    · exact h'.atH p (List.mem_append_left _ hp)
  · rw [List.flatten_append, List.map_append, List.nodup_append]
    refine ⟨h'.nodup, h2, fun x hx y hy => ?_⟩
    obtain ⟨p, hp, rfl⟩ := List.mem_map.1 hx
    obtain ⟨q, hq, rfl⟩ := List.mem_map.1 hy
    exact h'.apart p hp q (List.mem_append_left _ hq)
  · rw [List.flatten_append] at hp
    rcases List.mem_append.1 hp with hp | hp
    · exact h'.apart p hp q (List.mem_append_right _ hq)
    · exact h.apart p (by rw [List.flatten_append]; exact List.mem_append_right _ hp) q hq
end Go.Proofs.Ytpmcbahahjelnaa
