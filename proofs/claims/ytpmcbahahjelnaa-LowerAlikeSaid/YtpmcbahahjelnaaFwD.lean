/- The framework, part D: how pure values lie in memory; slices that are read and slices of the call's own. No conditions. -/
import Derived.Test.YtpmcbahahjelnaaFwC
import Derived.Deep.MidRow
import Derived.Maps.AppendAt
import Derived.Laws.OwnMore
set_option linter.unusedVariables false
set_option linter.unusedSimpArgs false
namespace Go.Proofs.Ytpmcbahahjelnaa
open Go

/-! ### Pure words -/
def idx {α : Type} (xs : List α) (i : Int) : Option α := if 0 ≤ i then xs[i.toNat]? else none
def LIM : Nat := 1099511627776
def snoc {α : Type} (xs : List α) (x : α) : Option (List α) := if xs.length + 1 < LIM then some (xs ++ [x]) else none
def cat {α : Type} (xs ys : List α) : Option (List α) := if xs.length + ys.length < LIM then some (xs ++ ys) else none
def mkl {α : Type} (n : Int) (z : α) : Option (List α) := if 0 ≤ n ∧ n.toNat < LIM then some (List.replicate n.toNat z) else none
def put {α : Type} (xs : List α) (i : Int) (x : α) : Option (List α) := if 0 ≤ i ∧ i.toNat < xs.length then some (xs.set i.toNat x) else none
def upto {α : Type} (xs : List α) (n : Int) : Option (List α) := if 0 ≤ n ∧ n.toNat ≤ xs.length then some (xs.take n.toNat) else none
def from_ {α : Type} (xs : List α) (n : Int) : Option (List α) := if 0 ≤ n ∧ n.toNat ≤ xs.length then some (xs.drop n.toNat) else none
abbrev len {α : Type} (xs : List α) : Int := (xs.length : Int)
abbrev w64 (x : Int) : Int := IntKind.i64.wrap x

theorem idx_some {α : Type} {xs : List α} {i : Int} {x : α} (h : idx xs i = some x) : 0 ≤ i ∧ i.toNat < xs.length ∧ xs[i.toNat]? = some x := by
  unfold idx at h
  split at h
  · exact ⟨‹_›, (List.getElem?_eq_some_iff.1 h).1, h⟩
  · cases h
theorem put_some {α : Type} {xs ys : List α} {i : Int} {x : α} (h : put xs i x = some ys) : 0 ≤ i ∧ i.toNat < xs.length ∧ ys = xs.set i.toNat x := by
  unfold put at h
  split at h
  · injection h with h; exact ⟨‹_ ∧ _›.1, ‹_ ∧ _›.2, h.symm⟩
  · cases h
theorem snoc_some {α : Type} {xs ys : List α} {x : α} (h : snoc xs x = some ys) : xs.length + 1 < LIM ∧ ys = xs ++ [x] := by
  unfold snoc at h
  split at h
  · injection h with h; exact ⟨‹_›, h.symm⟩
  · cases h
theorem cat_some {α : Type} {xs ys zs : List α} (h : cat xs ys = some zs) : xs.length + ys.length < LIM ∧ zs = xs ++ ys := by
  unfold cat at h
  split at h
  · injection h with h; exact ⟨‹_›, h.symm⟩
  · cases h
theorem mkl_some {α : Type} {n : Int} {z : α} {zs : List α} (h : mkl n z = some zs) : 0 ≤ n ∧ n.toNat < LIM ∧ zs = List.replicate n.toNat z := by
  unfold mkl at h
  split at h
  · injection h with h; exact ⟨‹_ ∧ _›.1, ‹_ ∧ _›.2, h.symm⟩
  · cases h
theorem upto_some {α : Type} {xs zs : List α} {n : Int} (h : upto xs n = some zs) : 0 ≤ n ∧ n.toNat ≤ xs.length ∧ zs = xs.take n.toNat := by
  unfold upto at h
  split at h
  · injection h with h; exact ⟨‹_ ∧ _›.1, ‹_ ∧ _›.2, h.symm⟩
  · cases h
theorem from_some {α : Type} {xs zs : List α} {n : Int} (h : from_ xs n = some zs) : 0 ≤ n ∧ n.toNat ≤ xs.length ∧ zs = xs.drop n.toNat := by
  unfold from_ at h
  split at h
  · injection h with h; exact ⟨‹_ ∧ _›.1, ‹_ ∧ _›.2, h.symm⟩
  · cases h
theorem bind_some' {α β : Type} {o : Option α} {f : α → Option β} {r : β} (h : o.bind f = some r) : ∃ x, o = some x ∧ f x = some r := Option.bind_eq_some_iff.1 h

/-! ### Cells -/
/-- From offset o on, block b has these cells. -/
def CellsIn (G : FP) (b o : Nat) (cs : List Value) : Prop := ∃ c t fr, (b, Obj.cells c t fr) ∈ G ∧ ∀ j v, cs[j]? = some v → c[o + j]? = some v
theorem CellsIn.mono {G G' : FP} {b o : Nat} {cs : List Value} (h : CellsIn G b o cs) (hs : ∀ p, p ∈ G → p ∈ G') : CellsIn G' b o cs :=
  let ⟨c, t, fr, hm, hc⟩ := h; ⟨c, t, fr, hs _ hm, hc⟩
/-- May be read: frozen, or in a chunk. -/
def Src (H : FP) (L : List FP) (G : FP) : Prop := ∀ p, p ∈ G → p ∈ H ∨ p ∈ L.flatten
theorem Src.H {H : FP} {L : List FP} : Src H L H := fun _ h => .inl h
theorem Src.at_ {H : FP} {L : List FP} {G : FP} (k : Nat) (h : L[k]? = some G) : Src H L G := fun p hp =>
  .inr (List.mem_flatten.2 ⟨G, List.mem_of_getElem? h, hp⟩)
theorem Src.both {H : FP} {L : List FP} {G G' : FP} (h : Src H L G) (h' : Src H L G') : Src H L (G ++ G') := fun p hp =>
  (List.mem_append.1 hp).elim (h p) (h' p)
theorem St.range {E : World} {H : FP} {L : List FP} {w : World} (h : St E H L w) {G : FP} (hG : Src H L G) {b o : Nat} {cs : List Value} (hc : CellsIn G b o cs) : w.rangeAt b o cs := by
  obtain ⟨c, t, fr, hm, hc⟩ := hc
  have hb : w.heap[b]? = some (.cells c t fr) := by
    rcases hG _ hm with hp | hp
    · exact h.atH _ hp
    · exact h.atL _ hp
  intro j v hv
  simp [World.cell?, hb, hc j v hv]

/-! ### Kinds -/
structure Kd (α : Type) where
  sz : Nat
  own : α → List Value → FP → Prop
  ro : FP → α → List Value → Prop
  len : ∀ {x cs F}, own x cs F → cs.length = sz
  lenR : ∀ {G x cs}, ro G x cs → cs.length = sz
  weak : ∀ {x cs F G}, own x cs F → (∀ p, p ∈ F → p ∈ G) → ro G x cs
  mono : ∀ {G G' x cs}, ro G x cs → (∀ p, p ∈ G → p ∈ G') → ro G' x cs
  one : ∀ {x cs F}, own x cs F → ∀ v, v ∈ cs → v.oneCell' = true

def kInt (k : IntKind) : Kd Int where
  sz := 1
  own x cs F := cs = [.int k x] ∧ F = []
  ro _ x cs := cs = [.int k x]
  len h := by rw [h.1]; rfl
  lenR h := by rw [h]; rfl
  weak h _ := h.1
  mono h _ := h
  one h v hv := by rw [h.1] at hv; simp at hv; subst hv; rfl
def kBool : Kd Bool where
  sz := 1
  own x cs F := cs = [.bool x] ∧ F = []
  ro _ x cs := cs = [.bool x]
  len h := by rw [h.1]; rfl
  lenR h := by rw [h]; rfl
  weak h _ := h.1
  mono h _ := h
  one h v hv := by rw [h.1] at hv; simp at hv; subst hv; rfl

/-- A slice that is read. -/
def SlI {α : Type} (k : Kd α) (G : FP) (xs : List α) (v : Value) : Prop :=
  xs.length ≤ maxLen ∧ ((∃ A c, v = .slice A 0 c ∧ xs = []) ∨
    ∃ b o c c' t fr, v = .slice (some ⟨b, o, none⟩) xs.length c ∧ xs.length ≤ c ∧ (b, Obj.cells c' t fr) ∈ G ∧ ∀ i x, xs[i]? = some x → ∃ cs, k.ro G x cs ∧ ∀ j u, cs[j]? = some u → c'[o + i * k.sz + j]? = some u)
/-- Elements of one's own, one behind the other. -/
inductive RepL {α : Type} (k : Kd α) : List α → List (List Value) → FP → Prop
  | nil : RepL k [] [] []
  | cons {x cs F xs css G} : k.own x cs F → RepL k xs css G → RepL k (x :: xs) (cs :: css) (F ++ G)
/-- A slice of the call's own. -/
def SlO {α : Type} (e : TypeId) (k : Kd α) (xs : List α) (v : Value) (F : FP) : Prop :=
  xs.length < LIM ∧ ((v = .slice none 0 0 ∧ xs = [] ∧ F = []) ∨
    ∃ b css post c G, v = .slice (some ⟨b, 0, none⟩) xs.length c ∧ F = (b, Obj.cells (css.flatten ++ post).toArray e (0, 0)) :: G ∧ RepL k xs css G ∧
      post.length = (c - xs.length) * k.sz ∧ xs.length ≤ c ∧ c ≤ maxLen)

section
variable {α : Type} {k : Kd α}
theorem SlI.mono {G G' : FP} {xs : List α} {v : Value} (h : SlI k G xs v) (hs : ∀ p, p ∈ G → p ∈ G') : SlI k G' xs v := by
  obtain ⟨hl, h | ⟨b, o, c, c', t, fr, hv, hle, hm, hx⟩⟩ := h
  · exact ⟨hl, .inl h⟩
  · exact ⟨hl, .inr ⟨b, o, c, c', t, fr, hv, hle, hs _ hm, fun i x hi => let ⟨cs, h1, h2⟩ := hx i x hi; ⟨cs, k.mono h1 hs, h2⟩⟩⟩
theorem RepL.length {xs : List α} {css : List (List Value)} {G : FP} (h : RepL k xs css G) : css.length = xs.length := by
  induction h with
  | nil => rfl
  | cons h _ ih => simp [ih]
theorem RepL.flat {xs : List α} {css : List (List Value)} {G : FP} (h : RepL k xs css G) : css.flatten.length = xs.length * k.sz := by
  induction h with
  | nil => simp
  | cons h _ ih => simp [ih, k.len h, Nat.add_mul, Nat.add_comm]
theorem RepL.one {xs : List α} {css : List (List Value)} {G : FP} (h : RepL k xs css G) : ∀ v, v ∈ css.flatten → v.oneCell' = true := by
  induction h with
  | nil => intro v hv; simp at hv
  | cons h _ ih =>
    intro v hv
    simp only [List.flatten_cons, List.mem_append] at hv
    exact hv.elim (k.one h v) (ih v)
theorem RepL.append {xs ys : List α} {css dss : List (List Value)} {G G' : FP} (h : RepL k xs css G) (h' : RepL k ys dss G') : RepL k (xs ++ ys) (css ++ dss) (G ++ G') := by
  induction h with
  | nil => simpa using h'
  | cons h _ ih => rw [List.append_assoc]; exact .cons h ih
theorem RepL.split {xs ys : List α} : ∀ {css : List (List Value)} {G : FP}, RepL k (xs ++ ys) css G → ∃ c1 c2 G1 G2, css = c1 ++ c2 ∧ G = G1 ++ G2 ∧ RepL k xs c1 G1 ∧ RepL k ys c2 G2 := by
  induction xs with
  | nil => intro css G h; exact ⟨[], css, [], G, rfl, rfl, .nil, h⟩
  | cons x xs ih =>
    intro css G h
    cases h with
    | cons h h' =>
      obtain ⟨c1, c2, G1, G2, rfl, rfl, h1, h2⟩ := ih h'
      exact ⟨_, c2, _, G2, rfl, (List.append_assoc ..).symm, .cons h h1, h2⟩
/-- The i-th one's cells. -/
theorem RepL.get {xs : List α} {css : List (List Value)} {G : FP} (h : RepL k xs css G) : ∀ (i : Nat) (x : α), xs[i]? = some x →
    ∃ cs F, k.own x cs F ∧ (∀ p, p ∈ F → p ∈ G) ∧ ∀ j u, cs[j]? = some u → css.flatten[i * k.sz + j]? = some u := by
  induction h with
  | nil => intro i x hi; simp at hi
  | @cons x0 cs F xs css G h _ ih =>
    intro i x hi
    cases i with
    | zero =>
      simp at hi; subst hi
      refine ⟨cs, F, h, fun p hp => List.mem_append_left _ hp, fun j u hu => ?_⟩
      rw [Nat.zero_mul, Nat.zero_add, List.flatten_cons]
      rw [List.getElem?_append_left (List.getElem?_eq_some_iff.1 hu).1]; exact hu
    | succ i =>
      obtain ⟨cs', F', h1, h2, h3⟩ := ih i x (by simpa using hi)
      refine ⟨cs', F', h1, fun p hp => List.mem_append_right _ (h2 p hp), fun j u hu => ?_⟩
      rw [List.flatten_cons, List.getElem?_append_right (by rw [k.len h, Nat.add_mul]; omega), k.len h,
        show (i + 1) * k.sz + j - k.sz = i * k.sz + j by rw [Nat.add_mul]; omega]
      exact h3 j u hu
/-- What is one's own can be read. -/
theorem SlO.ro {e : TypeId} {xs : List α} {v : Value} {F : FP} (h : SlO e k xs v F) : SlI k F xs v := by
  obtain ⟨hl0, ⟨hv, hx, hF⟩ | ⟨b, css, post, c, G, hv, hF, hr, hp, hc, hm⟩⟩ := h <;> have hl : xs.length ≤ maxLen := (by simp only [LIM] at hl0; simp only [maxLen]; omega)
  · exact ⟨hl, .inl ⟨none, 0, hv, hx⟩⟩
  · refine ⟨hl, .inr ⟨b, 0, c, _, e, _, hv, hc, hF ▸ List.mem_cons_self .., fun i x hi => ?_⟩⟩
    obtain ⟨cs, F', h1, h2, h3⟩ := hr.get i x hi
    refine ⟨cs, k.weak h1 (fun p hp => hF ▸ List.mem_cons_of_mem _ (h2 p hp)), fun j u hu => ?_⟩
    have := h3 j u hu
    have hlt := (List.getElem?_eq_some_iff.1 this).1
    simp only [Nat.zero_add]
    rw [List.getElem?_toArray, List.getElem?_append_left hlt]
    exact this
theorem SlI.len {G : FP} {xs : List α} {v : Value} (h : SlI k G xs v) : ∃ A c, v = .slice A xs.length c := by
  obtain ⟨hl, ⟨A, c, hv, hx⟩ | ⟨b, o, c, c', t, fr, hv, _⟩⟩ := h
  · exact ⟨A, c, by rw [hv, hx]; rfl⟩
  · exact ⟨_, c, hv⟩
theorem SlO.len {e : TypeId} {xs : List α} {v : Value} {F : FP} (h : SlO e k xs v F) : ∃ A c, v = .slice A xs.length c := h.ro.len
theorem SlI.get {G : FP} {xs : List α} {v : Value} (h : SlI k G xs v) {i : Int} {x : α} (hi : idx xs i = some x) :
    ∃ b o c cs, v = .slice (some ⟨b, o, none⟩) xs.length c ∧ 0 ≤ i ∧ i.toNat < xs.length ∧ k.ro G x cs ∧ CellsIn G b (o + i.toNat * k.sz) cs := by
  obtain ⟨h0, hlt, hx⟩ := idx_some hi
  obtain ⟨hl, ⟨A, c, hv, hn⟩ | ⟨b, o, c, c', t, fr, hv, _, hm, hr⟩⟩ := h
  · subst hn; simp at hlt
  · obtain ⟨cs, h1, h2⟩ := hr _ _ hx
    exact ⟨b, o, c, cs, hv, h0, hlt, h1, c', t, fr, hm, h2⟩
theorem SlI.nil {G : FP} (A : Option Addr) (c : Nat) : SlI k G [] (.slice A 0 c) := ⟨by simp, .inl ⟨A, c, rfl, rfl⟩⟩
theorem SlO.nil (e : TypeId) : SlO e k [] (.slice none 0 0) [] := ⟨by simp [LIM], .inl ⟨rfl, rfl, rfl⟩⟩
end

/-- Slices as kinds. -/
def kSl {α : Type} (e : TypeId) (k : Kd α) : Kd (List α) where
  sz := 1
  own xs cs F := ∃ v, cs = [v] ∧ SlO e k xs v F
  ro G xs cs := ∃ v, cs = [v] ∧ SlI k G xs v
  len h := by obtain ⟨v, rfl, _⟩ := h; rfl
  lenR h := by obtain ⟨v, rfl, _⟩ := h; rfl
  weak h hs := let ⟨v, h1, h2⟩ := h; ⟨v, h1, h2.ro.mono hs⟩
  mono h hs := let ⟨v, h1, h2⟩ := h; ⟨v, h1, h2.mono hs⟩
  one h u hu := by
    obtain ⟨v, rfl, h2⟩ := h
    obtain ⟨A, c, rfl⟩ := h2.len
    simp at hu; subst hu; rfl
end Go.Proofs.Ytpmcbahahjelnaa
