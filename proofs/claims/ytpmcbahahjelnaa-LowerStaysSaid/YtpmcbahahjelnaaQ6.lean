/- Several parts in one text, the first of which: Plain laws, part y-H: the new registers' numbers. No conditions. -/
import Derived.Test.YtpmcbahahjelnaaQ5
import Derived.KernelRfl
set_option linter.unusedVariables false
set_option linter.unusedSimpArgs false
namespace Go.Proofs.Ytpmcbahahjelnaa
open Go Go.Proofs
variable {f : nA} {R : List Int}
theorem yL {α : Type} {a : List α} {x : α} (h : a.length ≤ 1000000) : cat a [x] = some (a ++ [x]) := qP (by simp only [LIM, List.length_singleton]; omega)
theorem sZ (b : nS) (hb : b.f = f) (r : Int) (h0 : 0 ≤ r) (h1 : r < (f.regs.length : Int)) (hl : b.regs.length ≤ 1000000) : ∃ x l, qf b r = some (x, l) ∧ l.length = b.regs.length + 1 ∧ 0 ≤ x := by
  obtain ⟨y, y1, _⟩ := px h0 h1
  refine ⟨(b.regs.length : Int), b.regs ++ [y], ?_, by simp, by omega⟩
  unfold qf qf.jn4
  rw [hb, y1]
  simp only [Option.bind_some, yL hl]
  rw [show len (b.regs ++ [y]) - 1 = (b.regs.length : Int) by simp [len], qN (by omega)]
theorem uS {l : List Int} {x : Int} (h : ∀ y ∈ l, 0 ≤ y) (hx : 0 ≤ x) : ∀ y ∈ l ++ [x], 0 ≤ y := fun y hy => by
  rcases List.mem_append.1 hy with hy | hy
  · exact h y hy
  · rw [List.mem_singleton] at hy; omega
theorem yM (hf : SmF f) (b : nS) (hb : b.f = f) (hz : Zs f.regs.length f.regs.length b.zeros) (g : List Int) (hg : g.length ≤ 1000) :
    ∃ z, whl (fun (s : (List Int × List Int × Int)) => n8.bd12 b s.1 s.2.1 s.2.2) nB (g, [], 0) = some z ∧ z.1.length ≤ 1300 ∧ z.2.length = b.zeros.length ∧ ∀ x ∈ z.2, 0 ≤ x := by
  have hrr := hf.2.1
  have hzf := hz.few
  refine om (body := fun (s : (List Int × List Int × Int)) => n8.bd12 b s.1 s.2.1 s.2.2) (s0 := (g, [], 0)) b.zeros.length
    (fun i s => s.2.2 = (i : Int) ∧ s.1.length ≤ 1000 + i ∧ s.2.1.length = i ∧ ∀ x ∈ s.2.1, 0 ≤ x) _ (nQ (by omega) (Nat.le_refl 1000)) (fun i s hi hI => ?_) (fun s hI => ?_) ⟨rfl, hg, rfl, by simp⟩
  · obtain ⟨A, Z, j⟩ := s
    obtain ⟨rfl, g1, g2, g3⟩ := hI
    simp only at g1 g2 g3
    right
    have hx := hz.mem _ (List.getElem_mem hi)
    obtain ⟨x, l, x1, x2, x3⟩ := sZ (⟨(⟨b.f.params, b.f.result, b.f.regs, b.f.blocks⟩ : nA), b.in_, b.front, b.nearest, b.phis, b.zeros, A, b.phi, Z, b.dst, b.begin, b.end_⟩ : nS) (by rw [hb]) b.zeros[i] hx.1 hx.2 (by simp only; omega)
    simp only at x2
    simp only [n8.bd12, nP, hi, if_true, nI hi, Option.bind_some, x1, oQ (show Z.length ≤ 1000 by omega), n8.jn654, nR hi (show b.zeros.length ≤ 1000 by omega)]
    exact ⟨_, rfl, rfl, by simp only; omega, by simp [g2], uS g3 x3⟩
  · obtain ⟨A, Z, j⟩ := s
    obtain ⟨rfl, g1, g2, g3⟩ := hI
    simp only at g1 g2 g3
    exact ⟨(A, Z), by simp [n8.bd12, len], by simp only; omega, g2, g3⟩
theorem yN (hf : SmF f) (b : nS) (hb : b.f = f) (z : List Int) (p d : List (List Int)) (row : List Int) (hr : row.length ≤ f.regs.length) (hm : ∀ x ∈ row, 0 ≤ x ∧ x < (f.regs.length : Int)) (g : List Int) (c : Nat) (hg : g.length ≤ c) (hc : c ≤ 500000) :
    ∃ y, whl (fun (s : (List Int × List Int × Int)) => n8.bd41 b z p d row s.1 s.2.1 s.2.2) nB (g, [], 0) = some y ∧ y.1.length ≤ c + 300 ∧ y.2.length = row.length ∧ ∀ x ∈ y.2, 0 ≤ x := by
  have hrr := hf.2.1
  refine om (body := fun (s : (List Int × List Int × Int)) => n8.bd41 b z p d row s.1 s.2.1 s.2.2) (s0 := (g, [], 0)) row.length
    (fun i s => s.2.2 = (i : Int) ∧ s.1.length ≤ c + i ∧ s.2.1.length = i ∧ ∀ x ∈ s.2.1, 0 ≤ x) _ (nQ (by omega) (Nat.le_refl 1000)) (fun i s hi hI => ?_) (fun s hI => ?_) ⟨rfl, hg, rfl, by simp⟩
  · obtain ⟨A, Z, j⟩ := s
    obtain ⟨rfl, g1, g2, g3⟩ := hI
    simp only at g1 g2 g3
    right
    have hx := hm _ (List.getElem_mem hi)
    obtain ⟨x, l, x1, x2, x3⟩ := sZ (⟨(⟨b.f.params, b.f.result, b.f.regs, b.f.blocks⟩ : nA), b.in_, b.front, b.nearest, b.phis, b.zeros, A, p, z, d, b.begin, b.end_⟩ : nS) (by rw [hb]) row[i] hx.1 hx.2 (by simp only; omega)
    simp only at x2
    simp only [n8.bd41, nP, hi, if_true, nI hi, Option.bind_some, x1, oQ (show Z.length ≤ 1000 by omega), nR hi (show row.length ≤ 1000 by omega)]
    exact ⟨_, rfl, rfl, by simp only; omega, by simp [g2], uS g3 x3⟩
  · obtain ⟨A, Z, j⟩ := s
    obtain ⟨rfl, g1, g2, g3⟩ := hI
    simp only at g1 g2 g3
    exact ⟨(A, Z), by simp [n8.bd41, len], by simp only; omega, g2, g3⟩
/-- a block's new registers fit its instructions -/
structure Dst (B : ny) (row : List Int) : Prop where
  len : row.length = B.ins.length
  nn : ∀ t (ht : t < B.ins.length) (x : Int), 0 ≤ B.ins[t].dst → row[t]? = some x → 0 ≤ x
theorem yO (b : nS) (hb : b.f = f) (z : List Int) (p d : List (List Int)) (B : ny) (hB : SmB B) (hR : RegsIn f.regs.length B) (g : List Int) (c : Nat) (hg : g.length ≤ c) (hc : c ≤ 500000) :
    ∃ y, whl (fun (s : (List Int × List Int × Int)) => n8.bd50 b z p d B s.1 s.2.1 s.2.2) nB (g, [], 0) = some y ∧ y.1.length ≤ c + 300 ∧ Dst B y.2 := by
  have hi3 := hB.1
  refine om (body := fun (s : (List Int × List Int × Int)) => n8.bd50 b z p d B s.1 s.2.1 s.2.2) (s0 := (g, [], 0)) B.ins.length
    (fun i s => s.2.2 = (i : Int) ∧ s.1.length ≤ c + i ∧ s.2.1.length = i ∧ ∀ t (ht : t < B.ins.length) (x : Int), 0 ≤ B.ins[t].dst → s.2.1[t]? = some x → 0 ≤ x) _ (nQ (by omega) (Nat.le_refl 1000)) (fun i s hi hI => ?_) (fun s hI => ?_) ⟨rfl, hg, rfl, by simp⟩
  · obtain ⟨A, Z, j⟩ := s
    obtain ⟨rfl, g1, g2, g3⟩ := hI
    simp only at g1 g2 g3
    right
    have hx := hR.dst _ (List.getElem_mem hi)
    by_cases e : B.ins[i].dst < 0
    · simp only [n8.bd50, nP, hi, if_true, nI hi, Option.bind_some, e, oQ (show Z.length ≤ 1000 by omega), n8.jn622, nR hi (show B.ins.length ≤ 1000 by omega)]
      refine ⟨_, rfl, rfl, by simp only; omega, by simp [g2], fun t ht x h1 h2 => ?_⟩
      simp only at h2
      rcases Nat.lt_trichotomy t Z.length with h | h | h
      · rw [List.getElem?_append_left h] at h2; exact g3 t ht x h1 h2
      · obtain rfl : t = i := by omega
        omega
      · rw [List.getElem?_eq_none (by simp; omega)] at h2; cases h2
    · obtain ⟨x, l, x1, x2, x3⟩ := sZ (⟨(⟨b.f.params, b.f.result, b.f.regs, b.f.blocks⟩ : nA), b.in_, b.front, b.nearest, b.phis, b.zeros, A, p, z, d, b.begin, b.end_⟩ : nS) (by rw [hb]) B.ins[i].dst (by omega) hx (by simp only; omega)
      simp only at x2
      simp only [n8.bd50, nP, hi, if_true, nI hi, Option.bind_some, e, if_false, x1, oQ (show Z.length ≤ 1000 by omega), n8.jn622, nR hi (show B.ins.length ≤ 1000 by omega)]
      refine ⟨_, rfl, rfl, by simp only; omega, by simp [g2], fun t ht x h1 h2 => ?_⟩
      simp only at h2
      rcases Nat.lt_trichotomy t Z.length with h | h | h
      · rw [List.getElem?_append_left h] at h2; exact g3 t ht x h1 h2
      · subst h
        rw [List.getElem?_append_right (Nat.le_refl _)] at h2
        simp at h2; omega
      · rw [List.getElem?_eq_none (by simp; omega)] at h2; cases h2
  · obtain ⟨A, Z, j⟩ := s
    obtain ⟨rfl, g1, g2, g3⟩ := hI
    simp only at g1 g2 g3
    exact ⟨(A, Z), by simp [n8.bd50, len], by simp only; omega, g2, g3⟩
structure Num (f : nA) (phis : List (List Int)) (i : Nat) (p d : List (List Int)) : Prop where
  lp : p.length = i
  ld : d.length = i
  pr : ∀ j, j < i → ∃ q row, phis[j]? = some q ∧ p[j]? = some row ∧ row.length = q.length ∧ ∀ x ∈ row, 0 ≤ x
  dr : ∀ j (hj : j < f.blocks.length), j < i → ∃ row, d[j]? = some row ∧ Dst f.blocks[j] row
theorem Num.next {phis : List (List Int)} {i : Nat} {p d : List (List Int)} (h : Num f phis i p d) {q row dro : List Int} (hq : phis[i]? = some q) (h1 : row.length = q.length) (h2 : ∀ x ∈ row, 0 ≤ x) (hi : i < f.blocks.length) (h3 : Dst f.blocks[i] dro) : Num f phis (i + 1) (p ++ [row]) (d ++ [dro]) := by
  have hp := h.lp
  have hd := h.ld
  refine ⟨by simp [hp], by simp [hd], fun j hj => ?_, fun j hj hji => ?_⟩
  · by_cases e : j < i
    · obtain ⟨q, row, a, b, c⟩ := h.pr j e
      exact ⟨q, row, a, by rw [List.getElem?_append_left (by omega)]; exact b, c⟩
    · obtain rfl : j = i := by omega
      exact ⟨q, row, hq, by rw [List.getElem?_append_right (by omega), hp]; simp, h1, h2⟩
  · by_cases e : j < i
    · obtain ⟨row, a, b⟩ := h.dr j hj e
      exact ⟨row, by rw [List.getElem?_append_left (by omega)]; exact a, b⟩
    · obtain rfl : j = i := by omega
      exact ⟨dro, by rw [List.getElem?_append_right (by omega), hd]; simp, h3⟩
theorem lin1 {a c i : Nat} (h : a ≤ c + 300 + 300) (hc : c = 1300 + i * 600) : a ≤ 1300 + (i + 1) * 600 := by omega
theorem yP (hf : SmF f) (hR : ∀ B ∈ f.blocks, RegsIn f.regs.length B) (h0 : 0 ≤ f.params) (h1 : f.params ≤ (f.regs.length : Int)) (b : nS) (hb : b.f = f) (hP : Bel f.blocks.length f.regs.length f.regs.length b.phis) (hz : Zs f.regs.length f.regs.length b.zeros) (e1 : b.phi = []) (e2 : b.zero_ = []) (e3 : b.dst = []) :
    ∃ g p z d, n8 b = some (g, p, z, d) ∧ z.length = b.zeros.length ∧ (∀ x ∈ z, 0 ≤ x) ∧ Num f b.phis f.blocks.length p d := by
  have hn := hf.1
  have hrr := hf.2.1
  unfold n8 n8.jn4
  have hu : upto b.f.regs b.f.params = some (f.regs.take f.params.toNat) := by
    rw [hb]; unfold upto; rw [if_pos ⟨h0, by omega⟩]
  rw [hu]
  simp only [Option.bind_some, qn _ (show (f.regs.take f.params.toNat).length ≤ 1000 by simp; omega), e2]
  obtain ⟨y, hy, y1, y2, y3⟩ := yM hf b hb hz (f.regs.take f.params.toNat) (by simp; omega)
  rw [hy]
  simp only [Option.bind_some, n8.nx12, e1, e3]
  obtain ⟨w, hw, hw1⟩ := om (body := fun (s : (List Int × List (List Int) × List (List Int) × Int)) => n8.bd21 b y.2 s.1 s.2.1 s.2.2.1 s.2.2.2) (s0 := (y.1, [], [], 0)) f.blocks.length
    (fun i s => s.2.2.2 = (i : Int) ∧ s.1.length ≤ 1300 + i * 600 ∧ Num f b.phis i s.2.1 s.2.2.1) (fun z => Num f b.phis f.blocks.length z.2.1 z.2.2) (nQ hn (by omega)) (fun i s hi hI => by
      obtain ⟨A, p, d, j⟩ := s
      obtain ⟨rfl, g1, g2⟩ := hI
      simp only at g1 g2
      right
      obtain ⟨q, q1, q2, q3, q4⟩ := hP.get (b := (i : Int)) (by omega) (by omega)
      obtain ⟨c, hc⟩ : ∃ c, c = 1300 + i * 600 := ⟨_, rfl⟩
      rw [← hc] at g1
      obtain ⟨u, u1, u2, u3, u4⟩ := yN hf b hb y.2 p d q q3 q4 A c g1 (by omega)
      obtain ⟨v, v1, v2, v3⟩ := yO b hb y.2 p d f.blocks[i] (hf.2.2.2 _ (List.getElem_mem hi)) (hR _ (List.getElem_mem hi)) u.1 (c + 300) u2 (by omega)
      have hlp := g2.lp
      have hld := g2.ld
      simp only [n8.bd21, hb, nP, hi, if_true, nI hi, Option.bind_some, q1, u1, n8.nx41, v1, n8.nx50, oQ (show p.length ≤ 1000 by omega), oQ (show d.length ≤ 1000 by omega), n8.jn31, nR hi (show f.blocks.length ≤ 1000 by omega)]
      have hv : v.1.length ≤ 1300 + (i + 1) * 600 := lin1 v2 hc
      exact ⟨_, rfl, rfl, hv, g2.next (by simpa using q2) u3 u4 hi v3⟩) (fun s hI => by
      obtain ⟨A, p, d, j⟩ := s
      obtain ⟨rfl, g1, g2⟩ := hI
      exact ⟨(A, p, d), by simp [n8.bd21, len, hb], g2⟩) ⟨rfl, by simp only; omega, ⟨rfl, rfl, fun j hj => by omega, fun j _ hj => by omega⟩⟩
  rw [hw]
  exact ⟨_, _, _, _, rfl, y2, y3, hw1⟩
/-- a version is there -/
def Nn (v : List Int) (r : Nat) : Prop := ∃ x, v[r]? = some x ∧ 0 ≤ x
theorem Nn.set {v : List Int} {r i : Nat} {x : Int} (h : Nn v r) (hx : 0 ≤ x) : Nn (v.set i x) r := by
  obtain ⟨y, h1, h2⟩ := h
  by_cases e : i = r
  · subst e; exact ⟨x, List.getElem?_set_self (List.getElem?_eq_some_iff.1 h1).1, hx⟩
  · exact ⟨y, by rw [List.getElem?_set_ne e]; exact h1, h2⟩
theorem Nn.new {v : List Int} {i : Nat} {x : Int} (hi : i < v.length) (hx : 0 ≤ x) : Nn (v.set i x) i := ⟨x, List.getElem?_set_self hi, hx⟩
theorem yQ (hf : SmF f) (b : nS) (hb : b.f = f) (hz : Zs f.regs.length f.regs.length b.zeros) (hl : b.zero_.length = b.zeros.length) (hnn : ∀ x ∈ b.zero_, 0 ≤ x) : ∃ v, oZ b = some v ∧ v.length = f.regs.length ∧ ∀ r, r < f.regs.length → ((r : Int) < f.params ∨ (r : Int) ∈ b.zeros) → Nn v r := by
  have hrr := hf.2.1
  unfold oZ
  have hmk : mkl (len b.f.regs) (0 : Int) = some (List.replicate f.regs.length 0) := by rw [hb]; exact mkl3 0 (by omega)
  obtain ⟨w, hw, hw1, hw2⟩ := om (body := fun (s : (List Int × Int)) => oZ.bd9 b (List.replicate f.regs.length 0) s.1 s.2) (s0 := (List.replicate f.regs.length 0, 0)) f.regs.length
    (fun i s => s.2 = (i : Int) ∧ s.1.length = f.regs.length ∧ ∀ r, r < i → (r : Int) < f.params → Nn s.1 r) (fun z => z.length = f.regs.length ∧ ∀ r, r < f.regs.length → (r : Int) < f.params → Nn z r) (nQ hrr (by omega)) (fun i s hi hI => by
      obtain ⟨A, j⟩ := s
      obtain ⟨rfl, g1, g2⟩ := hI
      simp only at g1 g2
      right
      have hi' : i < A.length := by omega
      have hi2 : i < (A.set i (-1)).length := by simp; omega
      simp only [oZ.bd9, nP, List.length_replicate, hi, if_true, nI hi', Option.bind_some, Int.toNat_natCast, nI hi2, oZ.jn40, nR hi (show f.regs.length ≤ 1000 by omega)]
      by_cases e : (i : Int) < b.f.params
      · rw [if_pos e]
        refine ⟨_, rfl, rfl, by simp [g1], fun r hr hp => ?_⟩
        simp only
        by_cases e2 : i = r
        · subst e2; exact Nn.new (by simp; omega) (by omega)
        · obtain ⟨x, x1, x2⟩ := g2 r (by omega) hp
          exact ⟨x, by rw [List.getElem?_set_ne e2, List.getElem?_set_ne e2]; exact x1, x2⟩
      · rw [if_neg e]
        refine ⟨_, rfl, rfl, by simp [g1], fun r hr hp => ?_⟩
        simp only
        rw [hb] at e
        have e2 : i ≠ r := fun h => e (by omega)
        obtain ⟨x, x1, x2⟩ := g2 r (by omega) hp
        exact ⟨x, by rw [List.getElem?_set_ne e2]; exact x1, x2⟩) (fun s hI => by
      obtain ⟨A, j⟩ := s
      obtain ⟨rfl, g1, g2⟩ := hI
      exact ⟨A, by simp [oZ.bd9, len], g1, g2⟩) ⟨rfl, by simp, fun r h => by omega⟩
  rw [hmk]
  simp only [Option.bind_some, hw, oZ.nx9]
  have hzf := hz.few
  obtain ⟨y, hy, hy1, hy2, hy3⟩ := om (body := fun (s : (List Int × Int)) => oZ.bd18 b s.1 s.2) (s0 := (w, 0)) b.zeros.length
    (fun i s => s.2 = (i : Int) ∧ s.1.length = f.regs.length ∧ (∀ r, Nn w r → Nn s.1 r) ∧ ∀ t (ht : t < b.zeros.length), t < i → Nn s.1 b.zeros[t].toNat) (fun z => z.length = f.regs.length ∧ (∀ r, Nn w r → Nn z r) ∧ ∀ x ∈ b.zeros, Nn z x.toNat) (nQ (by omega) (Nat.le_refl 1000)) (fun i s hi hI => by
      obtain ⟨A, j⟩ := s
      obtain ⟨rfl, g1, g2, g3⟩ := hI
      simp only at g1 g2 g3
      right
      have hi' : i < b.zero_.length := by omega
      have hx := hz.mem _ (List.getElem_mem hi)
      obtain ⟨y, y1, _⟩ := px (xs := A) hx.1 (by rw [g1]; exact hx.2)
      simp only [oZ.bd18, nP, hi, if_true, nI hi, nI hi', y1, Option.bind_some, nR hi (show b.zeros.length ≤ 1000 by omega)]
      have hz0 := hnn _ (List.getElem_mem hi')
      refine ⟨_, rfl, rfl, by simp [g1], fun r h => (g2 r h).set hz0, fun t ht hti => ?_⟩
      by_cases e : t < i
      · exact (g3 t ht e).set hz0
      · obtain rfl : t = i := by omega
        exact Nn.new (by omega) hz0) (fun s hI => by
      obtain ⟨A, j⟩ := s
      obtain ⟨rfl, g1, g2, g3⟩ := hI
      exact ⟨A, by simp [oZ.bd18, len], g1, g2, fun x hx => by
        obtain ⟨t, ht, rfl⟩ := List.getElem_of_mem hx
        exact g3 t ht ht⟩) ⟨rfl, hw1, fun _ h => h, fun t _ h => by omega⟩
  rw [hy]
  refine ⟨y, rfl, hy1, fun r hr h => ?_⟩
  rcases h with h | h
  · exact hy2 r (hw2 r hr h)
  · have := hy3 _ h
    rwa [Int.toNat_natCast] at this
end Go.Proofs.Ytpmcbahahjelnaa
namespace Go.Proofs.Ytpmcbahahjelnaa
open Go Go.Proofs
variable {f : nA} {R : List Int}
/-- a table of n rows, each of length k where D says so -/
structure Rw (n k : Nat) (D : Nat → Prop) (T : List (List Int)) : Prop where
  len : T.length = n
  row : ∀ v, v < n → D v → ∃ row, T[v]? = some row ∧ row.length = k
theorem Rw.get {n k : Nat} {D : Nat → Prop} {T : List (List Int)} (h : Rw n k D T) {b : Int} (h0 : 0 ≤ b) (h1 : b < (n : Int)) (hD : D b.toNat) : ∃ row, idx T b = some row ∧ T[b.toNat]? = some row ∧ row.length = k := by
  obtain ⟨row, r1, r2⟩ := h.row b.toNat (by omega) hD
  exact ⟨row, by unfold idx; rw [if_pos h0]; exact r1, r1, r2⟩
theorem Rw.set {n k : Nat} {D D' : Nat → Prop} {T : List (List Int)} (h : Rw n k D T) (v : Nat) (hv : v < n) {row : List Int} (hr : row.length = k) (hD : ∀ w, D' w → D w ∨ w = v) : Rw n k D' (T.set v row) := by
  refine ⟨by simp [h.len], fun w hw hd => ?_⟩
  by_cases e : v = w
  · subst e; exact ⟨row, by rw [List.getElem?_set_self (by rw [h.len]; exact hv)], hr⟩
  · rw [List.getElem?_set_ne e]
    rcases hD w hd with h1 | h1
    · exact h.row w hw h1
    · exact absurd h1.symm e
theorem yR (hf : SmF f) (b : nS) (i : Nat) (q row : List Int) (hq : q.length ≤ f.regs.length) (hm : ∀ x ∈ q, 0 ≤ x ∧ x < (f.regs.length : Int)) (hp : b.phi[i]? = some row) (hl : row.length = q.length) (hnn : ∀ x ∈ row, 0 ≤ x) (v : List Int) (hv : v.length = f.regs.length) :
    ∃ z, whl (fun (s : (List Int × Int)) => oj.bd36 b (i : Int) q s.1 s.2) nB (v, 0) = some z ∧ z.length = f.regs.length ∧ (∀ r, Nn v r → Nn z r) ∧ ∀ x ∈ q, Nn z x.toNat := by
  have hrr := hf.2.1
  refine om (body := fun (s : (List Int × Int)) => oj.bd36 b (i : Int) q s.1 s.2) (s0 := (v, 0)) q.length
    (fun i s => s.2 = (i : Int) ∧ s.1.length = f.regs.length ∧ (∀ r, Nn v r → Nn s.1 r) ∧ ∀ t (ht : t < q.length), t < i → Nn s.1 q[t].toNat) _ (nQ (by omega) (Nat.le_refl 1000)) (fun t s ht hI => ?_) (fun s hI => ?_) ⟨rfl, hv, fun _ h => h, fun t _ h => by omega⟩
  · obtain ⟨A, j⟩ := s
    obtain ⟨rfl, g1, g2, g3⟩ := hI
    simp only at g1 g2 g3
    right
    have hx := hm _ (List.getElem_mem ht)
    obtain ⟨y, y1, _⟩ := px (xs := A) hx.1 (by rw [g1]; exact hx.2)
    have hpi : idx b.phi (i : Int) = some row := by rw [ox]; exact hp
    have ht' : t < row.length := by omega
    simp only [oj.bd36, nP, ht, if_true, nI ht, hpi, nI ht', y1, Option.bind_some, nR ht (show q.length ≤ 1000 by omega)]
    have h0 := hnn _ (List.getElem_mem ht')
    refine ⟨_, rfl, rfl, by simp [g1], fun r h => (g2 r h).set h0, fun u hu hut => ?_⟩
    by_cases e : u < t
    · exact (g3 u hu e).set h0
    · obtain rfl : u = t := by omega
      exact Nn.new (by omega) h0
  · obtain ⟨A, j⟩ := s
    obtain ⟨rfl, g1, g2, g3⟩ := hI
    exact ⟨A, by simp [oj.bd36, len], g1, g2, fun x hx => by
      obtain ⟨t, ht, rfl⟩ := List.getElem_of_mem hx
      exact g3 t ht ht⟩
theorem yS (b : nS) (i : Nat) (B : ny) (hB : SmB B) (hR : RegsIn f.regs.length B) (row : List Int) (hp : b.dst[i]? = some row) (hl : Dst B row) (v : List Int) (hv : v.length = f.regs.length) :
    ∃ z, whl (fun (s : (List Int × Int)) => oj.bd55 b (i : Int) B s.1 s.2) nB (v, 0) = some z ∧ z.length = f.regs.length ∧ (∀ r, Nn v r → Nn z r) ∧ ∀ x ∈ B.ins, 0 ≤ x.dst → Nn z x.dst.toNat := by
  have hi3 := hB.1
  refine om (body := fun (s : (List Int × Int)) => oj.bd55 b (i : Int) B s.1 s.2) (s0 := (v, 0)) B.ins.length
    (fun i s => s.2 = (i : Int) ∧ s.1.length = f.regs.length ∧ (∀ r, Nn v r → Nn s.1 r) ∧ ∀ t (ht : t < B.ins.length), t < i → 0 ≤ B.ins[t].dst → Nn s.1 B.ins[t].dst.toNat) _ (nQ (by omega) (Nat.le_refl 1000)) (fun t s ht hI => ?_) (fun s hI => ?_) ⟨rfl, hv, fun _ h => h, fun t _ h => by omega⟩
  · obtain ⟨A, j⟩ := s
    obtain ⟨rfl, g1, g2, g3⟩ := hI
    simp only at g1 g2 g3
    right
    have hx := hR.dst _ (List.getElem_mem ht)
    have hpi : idx b.dst (i : Int) = some row := by rw [ox]; exact hp
    have ht' : t < row.length := by rw [hl.len]; exact ht
    by_cases e : B.ins[t].dst ≥ 0
    · obtain ⟨y, y1, _⟩ := px (xs := A) e (by rw [g1]; exact hx)
      simp only [oj.bd55, nP, ht, if_true, nI ht, hpi, nI ht', y1, Option.bind_some, e, oj.jn66, nR ht (show B.ins.length ≤ 1000 by omega)]
      have h0 := hl.nn t ht _ e (List.getElem?_eq_getElem ht')
      refine ⟨_, rfl, rfl, by simp [g1], fun r h => (g2 r h).set h0, fun u hu hut hd => ?_⟩
      by_cases e : u < t
      · exact (g3 u hu e hd).set h0
      · obtain rfl : u = t := by omega
        exact Nn.new (by omega) h0
    · simp only [oj.bd55, nP, ht, if_true, nI ht, Option.bind_some, e, if_false, oj.jn66, nR ht (show B.ins.length ≤ 1000 by omega)]
      refine ⟨_, rfl, rfl, g1, g2, fun u hu hut hd => ?_⟩
      by_cases e2 : u < t
      · exact g3 u hu e2 hd
      · obtain rfl : u = t := by omega
        exact absurd hd e
  · obtain ⟨A, j⟩ := s
    obtain ⟨rfl, g1, g2, g3⟩ := hI
    exact ⟨A, by simp [oj.bd55, len], g1, g2, fun x hx hd => by
      obtain ⟨t, ht, rfl⟩ := List.getElem_of_mem hx
      exact g3 t ht ht hd⟩
theorem yT (hf : SmF f) (hR : ∀ B ∈ f.blocks, RegsIn f.regs.length B) (b : nS) (hb : b.f = f) (hP : Bel f.blocks.length f.regs.length f.regs.length b.phis) (hN : Num f b.phis f.blocks.length b.phi b.dst)
    (S E : List (List Int)) (t : Int) (i : Nat) (hi : i < f.blocks.length) (hS : S.length = f.blocks.length) (hE : E.length = f.blocks.length) (v : List Int) (hv : v.length = f.regs.length) :
    ∃ s e, oj.jn27 b S E t (i : Int) v = some (.go (S.set i s, E.set i e, w64 (t + 1))) ∧ s.length = f.regs.length ∧ e.length = f.regs.length ∧ (∀ r, Nn v r → Nn s r) ∧ (∀ x, In1 b.phis i x → Nn s x.toNat) ∧ (∀ r, Nn s r → Nn e r) ∧ ∀ x ∈ f.blocks[i].ins, 0 ≤ x.dst → Nn e x.dst.toNat := by
  have hrr := hf.2.1
  obtain ⟨q, q1, q2, q3, q4⟩ := hP.get (b := (i : Int)) (by omega) (by omega)
  obtain ⟨q', row, p1, p2, p3, p4⟩ := hN.pr i hi
  have hq : q' = q := by rw [Int.toNat_natCast] at q2; rw [q2] at p1; exact (Option.some.inj p1).symm
  subst hq
  obtain ⟨dr, d1, d2⟩ := hN.dr i hi hi
  obtain ⟨w, w1, w2, w3, w4⟩ := yR hf b i q' row q3 q4 p2 p3 p4 v hv
  obtain ⟨u, u1, u2, u3, u4⟩ := yS b i f.blocks[i] (hf.2.2.2 _ (List.getElem_mem hi)) (hR _ (List.getElem_mem hi)) dr d1 d2 w w2
  have his : i < S.length := by omega
  have hie : i < E.length := by omega
  refine ⟨w, u, ?_, w2, u2, w3, fun x ⟨r, r1, r2⟩ => by rw [p1] at r1; cases r1; exact w4 x r2, u3, u4⟩
  simp only [oj.jn27, q1, Option.bind_some, w1, oj.nx36, qn w (by omega), nI his, hb, nI hi, u1, oj.nx55, nI hie, Int.toNat_natCast]
/-- the table has a version of r at v -/
def NnT (T : List (List Int)) (v r : Nat) : Prop := ∃ row, T[v]? = some row ∧ Nn row r
theorem NnT.of {T : List (List Int)} {v r : Nat} {row : List Int} (h : T[v]? = some row) : NnT T v r → Nn row r := fun ⟨q, h1, h2⟩ => by rw [h] at h1; cases h1; exact h2
theorem NnT.ne {T : List (List Int)} {v w r : Nat} {row : List Int} (h : w ≠ v) : NnT (T.set w row) v r ↔ NnT T v r := by
  unfold NnT; rw [List.getElem?_set_ne h]
/-- where versions are, as far as position i -/
structure Ver (f : nA) (R : List Int) (N : Nat → Nat) (P : List (List Int)) (Z : List Int) (i : Nat) (S E : List (List Int)) : Prop where
  up : ∀ j, 0 < j → j < i → ∀ r, NnT E (ob R (N j)) r → NnT S (ob R j) r
  phi : ∀ j, j < i → ∀ x, In1 P (ob R j) x → NnT S (ob R j) x.toNat
  down : ∀ j, j < i → ∀ r, NnT S (ob R j) r → NnT E (ob R j) r
  defs : ∀ j, j < i → ∀ (hj : ob R j < f.blocks.length), ∀ x ∈ f.blocks[ob R j].ins, 0 ≤ x.dst → NnT E (ob R j) x.dst.toNat
  first : 0 < i → ∀ r, r < f.regs.length → ((r : Int) < f.params ∨ (r : Int) ∈ Z) → NnT S 0 r
theorem yU (h : Full f R) {N : Nat → Nat} {L : List Int} (hNr : Near f R N L) (hR : ∀ B ∈ f.blocks, RegsIn f.regs.length B) (b : nS) (hb : b.f = f) (hL : b.nearest = L) (hP : Bel f.blocks.length f.regs.length f.regs.length b.phis) (hN : Num f b.phis f.blocks.length b.phi b.dst)
    (hz : Zs f.regs.length f.regs.length b.zeros) (hl : b.zero_.length = b.zeros.length) (hnn : ∀ x ∈ b.zero_, 0 ≤ x) :
    ∃ S E, oj b = some (S, E) ∧ Rw f.blocks.length f.regs.length (fun _ => True) S ∧ Rw f.blocks.length f.regs.length (fun _ => True) E ∧ Ver f R N b.phis b.zeros f.blocks.length S E := by
  have hf := h.sm
  have hn := hf.1
  have hrr := hf.2.1
  have hpos := h.pos
  unfold oj oj.jn4
  have hmk : mkl (len b.f.blocks) ([] : List Int) = some (List.replicate f.blocks.length []) := by rw [hb]; exact mkl3 [] (by omega)
  rw [hmk, hb, h.ord]
  simp only [Option.bind_some]
  obtain ⟨z, hz, hz1, hz2, hz3⟩ := om (body := fun (s : (List (List Int) × List (List Int) × Int)) => oj.bd14 b R s.1 s.2.1 s.2.2) (s0 := (List.replicate f.blocks.length [], List.replicate f.blocks.length [], 0)) f.blocks.length
    (fun i s => s.2.2 = (i : Int) ∧ Rw f.blocks.length f.regs.length (fun v => pb R v < i) s.1 ∧ Rw f.blocks.length f.regs.length (fun v => pb R v < i) s.2.1 ∧ Ver f R N b.phis b.zeros i s.1 s.2.1) (fun z => Rw f.blocks.length f.regs.length (fun _ => True) z.1 ∧ Rw f.blocks.length f.regs.length (fun _ => True) z.2 ∧ Ver f R N b.phis b.zeros f.blocks.length z.1 z.2) (nQ hn (by omega)) (fun i s hi hI => by
      obtain ⟨S, E, j⟩ := s
      obtain ⟨rfl, g1, g2, g3⟩ := hI
      simp only at g1 g2 g3
      right
      obtain ⟨o1, o2⟩ := h.get hi
      have hix : idx R (i : Int) = some ((ob R i : Nat) : Int) := by rw [ox]; exact o1
      have hlt : (i : Int) < len R := by simp only [len, h.len]; omega
      have key : ∃ v, v.length = f.regs.length ∧ (0 < i → E[ob R (N i)]? = some v) ∧ (i = 0 → ∀ r, r < f.regs.length → ((r : Int) < f.params ∨ (r : Int) ∈ b.zeros) → Nn v r) ∧ oj.bd14 b R S E (i : Int) = oj.jn27 b S E (i : Int) ((ob R i : Nat) : Int) v := by
        simp only [oj.bd14, hlt, if_true, hix, Option.bind_some]
        by_cases e : ((ob R i : Nat) : Int) = 0
        · obtain ⟨v, v1, v2, v3⟩ := yQ hf (⟨(⟨b.f.params, b.f.result, b.f.regs, b.f.blocks⟩ : nA), b.in_, b.front, b.nearest, b.phis, b.zeros, b.regs, b.phi, b.zero_, b.dst, S, E⟩ : nS) (by rw [hb]) hz hl hnn
          have hi0 : i = 0 := by
            have : ob R i = ob R 0 := by rw [h.ob0]; omega
            exact h.ob_inj hi hpos this
          exact ⟨v, v2, fun h => by omega, fun _ => v3, by rw [if_pos e, v1]; rfl⟩
        · have h0 : 0 < i := by
            rcases Nat.eq_zero_or_pos i with rfl | h0
            · rw [h.ob0] at e; exact absurd rfl e
            · exact h0
          have hni : N i < i := hNr.nr.dn i (by omega) hi
          have hge := hNr.get i h0 hi
          have hnx : idx b.nearest ((ob R i : Nat) : Int) = some ((ob R (N i) : Nat) : Int) := by rw [hL, ox]; exact hge
          have hol := (h.get (i := N i) (by omega)).2
          obtain ⟨v, v1, v3, v2⟩ := g2.get (b := ((ob R (N i) : Nat) : Int)) (by omega) (by omega) (by rw [Int.toNat_natCast, h.pb_ob (by omega)]; exact hni)
          exact ⟨v, v2, fun _ => by rw [Int.toNat_natCast] at v3; exact v3, fun h => by omega, by rw [if_neg e, hnx]; simp only [Option.bind_some, v1, qn v (by omega)]⟩
      obtain ⟨v, v1, vE, vF, v2⟩ := key
      obtain ⟨s, e, j1, j2, j3, j4, j5, j6, j7⟩ := yT hf hR b hb hP hN S E (i : Int) (ob R i) o2 g1.len g2.len v v1
      refine ⟨_, v2.trans j1, nR hi (by omega), g1.set _ o2 j2 (fun w hw => ?_), g2.set _ o2 j3 (fun w hw => ?_), ?_⟩
      rotate_left 2
      · have hne : ∀ j, j < i → ob R i ≠ ob R j := fun j hj e => by have := h.ob_inj hi (by omega) e; omega
        have hSs : (S.set (ob R i) s)[ob R i]? = some s := List.getElem?_set_self (by rw [g1.len]; exact o2)
        have hEs : (E.set (ob R i) e)[ob R i]? = some e := List.getElem?_set_self (by rw [g2.len]; exact o2)
        refine ⟨fun j h0 hj r ht => ?_, fun j hj x hx => ?_, fun j hj r ht => ?_, fun j hj hjn x hx hd => ?_, fun _ r hr hz => ?_⟩
        · by_cases e3 : j < i
          · have hNj : N j < j := hNr.nr.dn j (by omega) (by omega)
            rw [NnT.ne (hne (N j) (by omega))] at ht
            exact (NnT.ne (hne j e3)).2 (g3.up j h0 e3 r ht)
          · obtain rfl : j = i := by omega
            have hNj : N j < j := hNr.nr.dn j (by omega) (by omega)
            rw [NnT.ne (hne (N j) hNj)] at ht
            exact ⟨s, hSs, j4 r (ht.of (vE h0))⟩
        · by_cases e3 : j < i
          · exact (NnT.ne (hne j e3)).2 (g3.phi j e3 x hx)
          · obtain rfl : j = i := by omega
            exact ⟨s, hSs, j5 x hx⟩
        · by_cases e3 : j < i
          · exact (NnT.ne (hne j e3)).2 (g3.down j e3 r ((NnT.ne (hne j e3)).1 ht))
          · obtain rfl : j = i := by omega
            exact ⟨e, hEs, j6 r (ht.of hSs)⟩
        · by_cases e3 : j < i
          · exact (NnT.ne (hne j e3)).2 (g3.defs j e3 hjn x hx hd)
          · obtain rfl : j = i := by omega
            exact ⟨e, hEs, j7 x hx hd⟩
        · rcases Nat.eq_zero_or_pos i with rfl | h0
          · rw [h.ob0] at hSs ⊢
            exact ⟨s, hSs, j4 r (vF rfl r hr hz)⟩
          · have := hne 0 h0
            rw [h.ob0] at this
            exact (NnT.ne this).2 (g3.first h0 r hr hz)
      all_goals
        by_cases e : pb R w < i
        · exact .inl e
        · right
          have : pb R w = i := by omega
          by_cases hwn : w < f.blocks.length
          · rw [← (h.ob_pb hwn).1, this]
          · exact absurd hw (by
              have : pb R w = R.length := by
                unfold pb
                exact List.idxOf_eq_length (fun hm => by
                  obtain ⟨k, hk, hk2⟩ := List.getElem_of_mem hm
                  obtain ⟨x, x1, x2⟩ := h.all k hk
                  rw [x1] at hk2; omega)
              rw [this, h.len]; omega)) (fun s hI => by
      obtain ⟨S, E, j⟩ := s
      obtain ⟨rfl, g1, g2, g3⟩ := hI
      exact ⟨(S, E), by simp [oj.bd14, len, h.len], ⟨g1.len, fun v hv _ => g1.row v hv (h.ob_pb hv).2⟩, ⟨g2.len, fun v hv _ => g2.row v hv (h.ob_pb hv).2⟩, g3⟩) ⟨rfl, ⟨by simp, fun v _ hv => by omega⟩, ⟨by simp, fun v _ hv => by omega⟩, ⟨fun j _ h => by omega, fun j h => by omega, fun j h => by omega, fun j h => by omega, fun h => by omega⟩⟩
  rw [hz]
  exact ⟨_, _, rfl, hz1, hz2, hz3⟩
end Go.Proofs.Ytpmcbahahjelnaa
namespace Go.Proofs.Ytpmcbahahjelnaa
open Go Go.Proofs
variable {f : nA} {R : List Int}
/-- what a builder holds when blocks are built -/
structure Bl (f : nA) (b : nS) : Prop where
  func : b.f = f
  phis : Bel f.blocks.length f.regs.length f.regs.length b.phis
  num : Num f b.phis f.blocks.length b.phi b.dst
  zero : b.zero_.length ≤ f.regs.length
  begin : Rw f.blocks.length f.regs.length (fun _ => True) b.begin
  end_ : Rw f.blocks.length f.regs.length (fun _ => True) b.end_
  arg : ∀ i (hi : i < f.blocks.length), 0 ≤ f.blocks[i].term.arg → NnT b.begin i f.blocks[i].term.arg.toNat ∨ ∃ x ∈ f.blocks[i].ins, x.dst = f.blocks[i].term.arg
theorem yV (hf : SmF f) (b : nS) (hb : Bl f b) (ah : List Int) (ha : ah.length ≤ 70) (hm : ∀ x ∈ ah, 0 ≤ x ∧ x < (f.blocks.length : Int)) (r : Int) (h0 : 0 ≤ r) (h1 : r < (f.regs.length : Int)) :
    ∃ z, whl (fun (s : (List Int × Int)) => nX.bd144 b ah r s.1 s.2) nB ([], 0) = some z ∧ z.length = ah.length := by
  refine om (body := fun (s : (List Int × Int)) => nX.bd144 b ah r s.1 s.2) (s0 := ([], 0)) ah.length
    (fun i s => s.2 = (i : Int) ∧ s.1.length = i) _ (nQ (by omega) (Nat.le_refl 1000)) (fun t s ht hI => ?_) (fun s hI => ?_) ⟨rfl, rfl⟩
  · obtain ⟨A, j⟩ := s
    obtain ⟨rfl, g1⟩ := hI
    simp only at g1
    right
    have hx := hm _ (List.getElem_mem ht)
    obtain ⟨row, r1, _, r2⟩ := hb.end_.get hx.1 hx.2 trivial
    obtain ⟨y, y1, _⟩ := px (xs := row) h0 (by rw [r2]; exact h1)
    simp only [nX.bd144, nP, ht, if_true, nI ht, r1, y1, Option.bind_some, oQ (show A.length ≤ 1000 by omega), nX.jn155, nR ht (show ah.length ≤ 1000 by omega)]
    exact ⟨_, rfl, rfl, by simp [g1]⟩
  · obtain ⟨A, j⟩ := s
    obtain ⟨rfl, g1⟩ := hI
    exact ⟨A, by simp [nX.bd144, len], g1⟩
theorem yW (hf : SmF f) (b : nS) (hb : Bl f b) (i : Nat) (hi : i < f.blocks.length) (ah : List Int) (ha : ah.length ≤ 70) (hm : ∀ x ∈ ah, 0 ≤ x ∧ x < (f.blocks.length : Int)) (q row : List Int) (hq : q.length ≤ f.regs.length) (hqm : ∀ x ∈ q, 0 ≤ x ∧ x < (f.regs.length : Int)) (hp : b.phi[i]? = some row) (hl : row.length = q.length) :
    ∃ z, whl (fun (s : (List PPhi × Int)) => nX.bd9 b (i : Int) ah q s.1 s.2) nB ([], 0) = some z ∧ z.length ≤ 300 ∧ ∀ p ∈ z, p.args.length ≤ 300 := by
  have hrr := hf.2.1
  refine om (body := fun (s : (List PPhi × Int)) => nX.bd9 b (i : Int) ah q s.1 s.2) (s0 := ([], 0)) q.length
    (fun i s => s.2 = (i : Int) ∧ s.1.length = i ∧ ∀ p ∈ s.1, p.args.length ≤ 300) _ (nQ (by omega) (Nat.le_refl 1000)) (fun t s ht hI => ?_) (fun s hI => ?_) ⟨rfl, rfl, by simp⟩
  · obtain ⟨A, j⟩ := s
    obtain ⟨rfl, g1, g2⟩ := hI
    simp only at g1 g2
    right
    have hx := hqm _ (List.getElem_mem ht)
    obtain ⟨z, z1, z2⟩ := yV hf b hb ah ha hm q[t] hx.1 hx.2
    have hpi : idx b.phi (i : Int) = some row := by rw [ox]; exact hp
    have ht' : t < row.length := by omega
    simp only [nX.bd9, nP, ht, if_true, nI ht, hpi, nI ht', z1, Option.bind_some, nX.nx144, oQ (show A.length ≤ 1000 by omega), nR ht (show q.length ≤ 1000 by omega)]
    refine ⟨_, rfl, rfl, by simp [g1], fun p hp => ?_⟩
    rcases List.mem_append.1 hp with hp | hp
    · exact g2 p hp
    · rw [List.mem_singleton] at hp; subst hp; simp only; omega
  · obtain ⟨A, j⟩ := s
    obtain ⟨rfl, g1, g2⟩ := hI
    simp only at g1 g2
    exact ⟨A, by simp [nX.bd9, len], by omega, g2⟩
theorem yX (b : nS) (hl : b.zero_.length ≤ 300) :
    ∃ z, whl (fun (s : (List nO × Int)) => nX.bd114 b s.1 s.2) nB ([], 0) = some z ∧ z.length ≤ 300 ∧ ∀ x ∈ z, x.args.length ≤ 300 := by
  refine om (body := fun (s : (List nO × Int)) => nX.bd114 b s.1 s.2) (s0 := ([], 0)) b.zero_.length
    (fun i s => s.2 = (i : Int) ∧ s.1.length = i ∧ ∀ p ∈ s.1, p.args.length ≤ 300) _ (nQ hl (by omega)) (fun t s ht hI => ?_) (fun s hI => ?_) ⟨rfl, rfl, by simp⟩
  · obtain ⟨A, j⟩ := s
    obtain ⟨rfl, g1, g2⟩ := hI
    simp only at g1 g2
    right
    simp only [nX.bd114, nP, ht, if_true, nI ht, Option.bind_some, oQ (show A.length ≤ 1000 by omega), nR ht (show b.zero_.length ≤ 1000 by omega)]
    refine ⟨_, rfl, rfl, by simp [g1], fun p hp => ?_⟩
    rcases List.mem_append.1 hp with hp | hp
    · exact g2 p hp
    · rw [List.mem_singleton] at hp; subst hp; simp
  · obtain ⟨A, j⟩ := s
    obtain ⟨rfl, g1, g2⟩ := hI
    simp only at g1 g2
    exact ⟨A, by simp [nX.bd114, len], by omega, g2⟩
theorem yY {k : Nat} (x : nO) (hx : x.args.length ≤ 300) (v : List Int) (hv : v.length = k) (hm : ∀ a ∈ x.args, 0 ≤ a ∧ a < (k : Int)) :
    ∃ z, whl (fun (s : (List Int × Int)) => nX.bd66 v x s.1 s.2) nB ([], 0) = some z ∧ z.length = x.args.length := by
  refine om (body := fun (s : (List Int × Int)) => nX.bd66 v x s.1 s.2) (s0 := ([], 0)) x.args.length
    (fun i s => s.2 = (i : Int) ∧ s.1.length = i) _ (nQ hx (by omega)) (fun t s ht hI => ?_) (fun s hI => ?_) ⟨rfl, rfl⟩
  · obtain ⟨A, j⟩ := s
    obtain ⟨rfl, g1⟩ := hI
    simp only at g1
    right
    have hx := hm _ (List.getElem_mem ht)
    obtain ⟨y, y1, _⟩ := px (xs := v) hx.1 (by rw [hv]; exact hx.2)
    simp only [nX.bd66, nP, ht, if_true, nI ht, y1, Option.bind_some, oQ (show A.length ≤ 1000 by omega), nX.jn83, nR ht (show x.args.length ≤ 1000 by omega)]
    exact ⟨_, rfl, rfl, by simp [g1]⟩
  · obtain ⟨A, j⟩ := s
    obtain ⟨rfl, g1⟩ := hI
    exact ⟨A, by simp [nX.bd66, len], g1⟩
theorem yZ (hf : SmF f) (b : nS) (hb : Bl f b) (i : Nat) (B : ny) (hB : SmB B) (hR : RegsIn f.regs.length B) (dr : List Int) (hd : b.dst[i]? = some dr) (hD : Dst B dr) (P : List nO) (hP : P.length ≤ 300) (hP2 : ∀ x ∈ P, x.args.length ≤ 300) (v : List Int) (hv : v.length = f.regs.length) :
    ∃ z, whl (fun (s : (List nO × List Int × Int)) => nX.bd26 b (i : Int) B s.1 s.2.1 s.2.2) nB (P, v, 0) = some z ∧ z.2.length = f.regs.length ∧ z.1.length = P.length + B.ins.length ∧ (∀ x ∈ z.1, x.args.length ≤ 300) ∧ (∀ r, Nn v r → Nn z.2 r) ∧ ∀ x ∈ B.ins, 0 ≤ x.dst → Nn z.2 x.dst.toNat := by
  have hi3 := hB.1
  refine om (body := fun (s : (List nO × List Int × Int)) => nX.bd26 b (i : Int) B s.1 s.2.1 s.2.2) (s0 := (P, v, 0)) B.ins.length
    (fun i s => s.2.2 = (i : Int) ∧ s.2.1.length = f.regs.length ∧ s.1.length = P.length + i ∧ (∀ x ∈ s.1, x.args.length ≤ 300) ∧ (∀ r, Nn v r → Nn s.2.1 r) ∧ ∀ t (ht : t < B.ins.length), t < i → 0 ≤ B.ins[t].dst → Nn s.2.1 B.ins[t].dst.toNat) _ (nQ hi3 (by omega)) (fun t s ht hI => ?_) (fun s hI => ?_) ⟨rfl, hv, rfl, hP2, fun _ h => h, fun t _ h => by omega⟩
  · obtain ⟨A, V, j⟩ := s
    obtain ⟨rfl, g1, g2, g3, g4, g5⟩ := hI
    simp only at g1 g2 g3 g4 g5
    right
    have hx := hR.dst _ (List.getElem_mem ht)
    have hxl := hB.2.2.2.1 _ (List.getElem_mem ht)
    obtain ⟨z, z1, z2⟩ := yY B.ins[t] hxl V g1 (hR.args _ (List.getElem_mem ht))
    have hdi : idx b.dst (i : Int) = some dr := by rw [ox]; exact hd
    have ht' : t < dr.length := by rw [hD.len]; exact ht
    have hnew : ∀ y : nO, y.args.length ≤ 300 → ∀ x ∈ A ++ [y], x.args.length ≤ 300 := fun y hy x hx => by
      rcases List.mem_append.1 hx with hx | hx
      · exact g3 x hx
      · rw [List.mem_singleton] at hx; subst hx; exact hy
    by_cases e : B.ins[t].dst ≥ 0
    · obtain ⟨y, y1, _⟩ := px (xs := V) e (by rw [g1]; exact hx)
      simp only [nX.bd26, nP, ht, if_true, nI ht, hdi, nI ht', z1, y1, Option.bind_some, nX.nx66, e, nX.jn71, oQ (show A.length ≤ 1000 by omega), nR ht (show B.ins.length ≤ 1000 by omega)]
      have h0 := hD.nn t ht _ e (List.getElem?_eq_getElem ht')
      refine ⟨_, rfl, rfl, by simp [g1], by simp only [List.length_append, List.length_singleton]; omega, hnew _ (by simp only; omega), fun r h => (g4 r h).set h0, fun u hu hut hd => ?_⟩
      by_cases e2 : u < t
      · exact (g5 u hu e2 hd).set h0
      · obtain rfl : u = t := by omega
        exact Nn.new (by omega) h0
    · simp only [nX.bd26, nP, ht, if_true, nI ht, hdi, nI ht', z1, Option.bind_some, nX.nx66, e, if_false, nX.jn71, oQ (show A.length ≤ 1000 by omega), nR ht (show B.ins.length ≤ 1000 by omega)]
      refine ⟨_, rfl, rfl, g1, by simp only [List.length_append, List.length_singleton]; omega, hnew _ (by simp only; omega), g4, fun u hu hut hd => ?_⟩
      by_cases e2 : u < t
      · exact g5 u hu e2 hd
      · obtain rfl : u = t := by omega
        exact absurd hd e
  · obtain ⟨A, V, j⟩ := s
    obtain ⟨rfl, g1, g2, g3, g4, g5⟩ := hI
    simp only at g1 g2 g3 g4 g5
    exact ⟨(A, V), by simp [nX.bd26, len], g1, g2, g3, g4, fun x hx hd => by
      obtain ⟨t, ht, rfl⟩ := List.getElem_of_mem hx
      exact g5 t ht ht hd⟩
/-- what a new block is like -/
structure Nb (B C : ny) : Prop where
  phis : C.phis.length ≤ 300
  pargs : ∀ p ∈ C.phis, p.args.length ≤ 300
  ins : C.ins.length ≤ 600
  more : B.ins.length ≤ C.ins.length
  args : ∀ x ∈ C.ins, x.args.length ≤ 300
  kind : C.term.kind = B.term.kind
  to : C.term.to = B.term.to
  arg : C.term.arg < 0 ↔ B.term.arg < 0
theorem uT (hf : SmF f) (hR : ∀ B ∈ f.blocks, RegsIn f.regs.length B) (b : nS) (hb : Bl f b) (i : Nat) (hi : i < f.blocks.length) (ph : List PPhi) (h1 : ph.length ≤ 300) (h2 : ∀ p ∈ ph, p.args.length ≤ 300) (P : List nO) (hP : P.length ≤ 300) (hP2 : ∀ x ∈ P, x.args.length ≤ 300) :
    ∃ C, nX.jn14 b (i : Int) ph P = some C ∧ Nb f.blocks[i] C := by
  have hrr := hf.2.1
  have hB := hf.2.2.2 _ (List.getElem_mem hi)
  have hRB := hR _ (List.getElem_mem hi)
  obtain ⟨dr, d1, d2⟩ := hb.num.dr i hi hi
  obtain ⟨v, v1, v3, v2⟩ := hb.begin.get (b := (i : Int)) (by omega) (by omega) trivial
  obtain ⟨z, z1, z2, z3, z4, z5, z6⟩ := yZ hf b hb i f.blocks[i] hB hRB dr d1 d2 P hP hP2 v v2
  have hi3 := hB.1
  have hto := hB.2.2.1
  simp only [nX.jn14, v1, Option.bind_some, qn v (by omega), hb.func, nI hi, z1, nX.nx26, qn f.blocks[i].term.to (by omega)]
  by_cases e : f.blocks[i].term.arg ≥ 0
  · obtain ⟨y, y1, y2⟩ := px (xs := z.2) e (by rw [z2]; exact hRB.arg)
    have hnn : Nn z.2 f.blocks[i].term.arg.toNat := by
      rcases hb.arg i hi e with h | ⟨x, hx, hxd⟩
      · exact z5 _ (h.of (by rw [Int.toNat_natCast] at v3; exact v3))
      · have := z6 x hx (by rw [hxd]; exact e)
        rw [hxd] at this; exact this
    obtain ⟨y', e1, e2⟩ := hnn
    rw [y2] at e1
    cases e1
    rw [if_pos e, y1]
    exact ⟨_, rfl, h1, h2, by simp only; omega, by simp only; omega, z4, rfl, rfl, by simp only; omega⟩
  · rw [if_neg e]
    exact ⟨_, rfl, h1, h2, by simp only; omega, by simp only; omega, z4, rfl, rfl, Iff.rfl⟩
theorem y5 (hf : SmF f) (hR : ∀ B ∈ f.blocks, RegsIn f.regs.length B) (b : nS) (hb : Bl f b) (i : Nat) (hi : i < f.blocks.length) (ah : List Int) (ha : ah.length ≤ 70) (hm : ∀ x ∈ ah, 0 ≤ x ∧ x < (f.blocks.length : Int)) :
    ∃ C, nX b (i : Int) ah = some C ∧ Nb f.blocks[i] C := by
  have hrr := hf.2.1
  obtain ⟨q, q1, q2, q3, q4⟩ := hb.phis.get (b := (i : Int)) (by omega) (by omega)
  obtain ⟨q', row, p1, p2, p3, _⟩ := hb.num.pr i hi
  have hq : q' = q := by rw [Int.toNat_natCast] at q2; rw [q2] at p1; exact (Option.some.inj p1).symm
  subst hq
  obtain ⟨z, z1, z2, z3⟩ := yW hf b hb i hi ah ha hm q' row q3 q4 p2 p3
  obtain ⟨y, y1, y2, y3⟩ := yX b (by have := hb.zero; omega)
  simp only [nX, q1, Option.bind_some, z1, nX.nx9]
  by_cases e : (i : Int) = 0
  · rw [if_pos e, y1]
    simp only [Option.bind_some, nX.nx114]
    exact uT hf hR b hb i hi z z2 z3 y y2 y3
  · rw [if_neg e]
    exact uT hf hR b hb i hi z z2 z3 [] (by simp) (by simp)
end Go.Proofs.Ytpmcbahahjelnaa
namespace Go.Proofs.Ytpmcbahahjelnaa
open Go Go.Proofs
theorem y6 (b : Int) (row : List Bool) (E : List (List Bool)) (g : Bool) (hg : g = true) (z : List (List Bool) × Bool) (h : whl (fun (s : (List (List Bool) × Bool × Int)) => nM.bd122 b row s.1 s.2.1 s.2.2) nB (E, g, 0) = some z) : z.2 = true := by
  refine qA (b := fun (s : (List (List Bool) × Bool × Int)) => nM.bd122 b row s.1 s.2.1 s.2.2) (fun s => s.2.1 = true) (fun z => z.2 = true) (fun s r hI hb => ?_) (fun s s' hI hb => ?_) nB (E, g, 0) z hg h <;>
  · obtain ⟨E', g', j⟩ := s
    simp only at hI
    subst hI
    simp only [nM.bd122, nM.jn132] at hb
    split at hb
    · obtain ⟨v, hv, hb⟩ := n5 hb
      obtain ⟨t, ht, hb⟩ := n5 hb
      split at hb
      · obtain ⟨_, _, hb⟩ := n5 hb
        obtain ⟨_, _, hb⟩ := n5 hb
        cases hb
        try rfl
      · cases hb
        try rfl
    · cases hb
      try rfl
theorem y7 (N : List (List Bool)) (b : Int) (l : List Int) (E : List (List Bool)) (g : Bool) (hg : g = true) (z : List (List Bool) × Bool) (h : whl (fun (s : (List (List Bool) × Bool × Int)) => nM.bd74 N b l s.1 s.2.1 s.2.2) nB (E, g, 0) = some z) : z.2 = true := by
  refine qA (b := fun (s : (List (List Bool) × Bool × Int)) => nM.bd74 N b l s.1 s.2.1 s.2.2) (fun s => s.2.1 = true) (fun z => z.2 = true) (fun s r hI hb => ?_) (fun s s' hI hb => ?_) nB (E, g, 0) z hg h <;>
  · obtain ⟨E', g', j⟩ := s
    simp only at hI
    subst hI
    simp only [nM.bd74, nM.nx122] at hb
    split at hb
    · obtain ⟨v, hv, hb⟩ := n5 hb
      obtain ⟨t, ht, hb⟩ := n5 hb
      obtain ⟨y, hy, hb⟩ := n5 hb
      cases hb
      try exact y6 b t E' true rfl y hy
    · cases hb
      try rfl
theorem uU (b : Int) (bg : List Bool) (N : List (List Bool)) (g : Bool) (hg : g = true) (z : List (List Bool) × Bool) (h : whl (fun (s : (List (List Bool) × Bool × Int)) => nM.bd89 b bg s.1 s.2.1 s.2.2) nB (N, g, 0) = some z) : z.2 = true := by
  refine qA (b := fun (s : (List (List Bool) × Bool × Int)) => nM.bd89 b bg s.1 s.2.1 s.2.2) (fun s => s.2.1 = true) (fun z => z.2 = true) (fun s r hI hb => ?_) (fun s s' hI hb => ?_) nB (N, g, 0) z hg h <;>
  · obtain ⟨E', g', j⟩ := s
    simp only at hI
    subst hI
    simp only [nM.bd89, nM.jn99] at hb
    split at hb
    · obtain ⟨v, hv, hb⟩ := n5 hb
      obtain ⟨t, ht, hb⟩ := n5 hb
      obtain ⟨u, hu, hb⟩ := n5 hb
      split at hb
      · obtain ⟨_, _, hb⟩ := n5 hb
        obtain ⟨_, _, hb⟩ := n5 hb
        cases hb
        try rfl
      · cases hb
        try rfl
    · cases hb
      try rfl
theorem y8 {E0 : List (List Bool)} {b : Nat} {re row : List Bool} (hre : E0[b]? = some re) (hrl : row.length ≤ 300) (E : List (List Bool)) (g : Bool) (hE : g = true ∨ E = E0) (z : List (List Bool) × Bool)
    (h : whl (fun (s : (List (List Bool) × Bool × Int)) => nM.bd122 (b : Int) row s.1 s.2.1 s.2.2) nB (E, g, 0) = some z) :
    z.2 = true ∨ (z.1 = E0 ∧ g = false ∧ ∀ t : Nat, row[t]? = some true → re[t]? = some true) := by
  refine qA (b := fun (s : (List (List Bool) × Bool × Int)) => nM.bd122 (b : Int) row s.1 s.2.1 s.2.2) (fun s => s.2.1 = true ∨ (s.1 = E0 ∧ g = false ∧ ∃ i : Nat, s.2.2 = i ∧ i ≤ 300 ∧ ∀ t : Nat, t < i → row[t]? = some true → re[t]? = some true))
    (fun z => z.2 = true ∨ (z.1 = E0 ∧ g = false ∧ ∀ t : Nat, row[t]? = some true → re[t]? = some true)) (fun s r hI hb => ?_) (fun s s' hI hb => ?_) nB (E, g, 0) z ?_ h
  · obtain ⟨E', g', j⟩ := s
    simp only [nM.bd122, nM.jn132] at hb
    split at hb
    · exfalso
      obtain ⟨v, hv, hb⟩ := n5 hb
      obtain ⟨t, ht, hb⟩ := n5 hb
      split at hb
      · obtain ⟨_, _, hb⟩ := n5 hb
        obtain ⟨_, _, hb⟩ := n5 hb
        cases hb
      · cases hb
    · rename_i hj
      cases hb
      rcases hI with h1 | ⟨h1, h0, i, h2, _, h3⟩
      · exact .inl h1
      · refine .inr ⟨h1, h0, fun t ht => h3 t ?_ ht⟩
        simp only at h2
        subst h2
        rw [nP] at hj
        have := (List.getElem?_eq_some_iff.1 ht).1
        omega
  · obtain ⟨E', g', j⟩ := s
    simp only [nM.bd122, nM.jn132] at hb
    split at hb
    · rename_i hj
      obtain ⟨v, hv, hb⟩ := n5 hb
      obtain ⟨t, ht, hb⟩ := n5 hb
      split at hb
      · obtain ⟨_, _, hb⟩ := n5 hb
        obtain ⟨_, _, hb⟩ := n5 hb
        cases hb
        exact .inl rfl
      · rename_i hnt
        cases hb
        rcases hI with h1 | ⟨h1, h0, i, h2, h4, h3⟩
        · exact .inl h1
        · simp only at h1 h2
          subst h1 h2
          rw [nP] at hj
          refine .inr ⟨rfl, h0, i + 1, nR hj (by omega), by omega, fun q hq hqr => ?_⟩
          by_cases e : q < i
          · exact h3 q e hqr
          · obtain rfl : q = i := by omega
            rw [ox] at hv
            rw [hv] at hqr
            cases Option.some.inj hqr
            rw [if_pos rfl] at ht
            obtain ⟨ro, r1, ht1⟩ := n5 ht
            obtain ⟨x, x1, ht2⟩ := n5 ht1
            rw [ox] at r1 x1
            rw [hre] at r1
            obtain rfl := Option.some.inj r1
            obtain rfl := Option.some.inj ht2
            rw [x1]
            cases x with
            | true => rfl
            | false => exact absurd rfl hnt
    · cases hb
  · cases g with
    | true => exact .inl rfl
    | false => exact .inr ⟨hE.resolve_left (by simp), rfl, 0, rfl, by omega, fun t ht => by omega⟩
theorem y9 {E0 N : List (List Bool)} {b : Nat} {re : List Bool} (hre : E0[b]? = some re) (hN : ∀ r ∈ N, r.length ≤ 300) (l : List Int) (hl : l.length ≤ 70) (E : List (List Bool)) (g : Bool) (hE : g = true ∨ E = E0) (z : List (List Bool) × Bool)
    (h : whl (fun (s : (List (List Bool) × Bool × Int)) => nM.bd74 N (b : Int) l s.1 s.2.1 s.2.2) nB (E, g, 0) = some z) :
    z.2 = true ∨ (z.1 = E0 ∧ g = false ∧ ∀ x ∈ l, ∀ rx, idx N x = some rx → ∀ t : Nat, rx[t]? = some true → re[t]? = some true) := by
  refine qA (b := fun (s : (List (List Bool) × Bool × Int)) => nM.bd74 N (b : Int) l s.1 s.2.1 s.2.2) (fun s => s.2.1 = true ∨ (s.1 = E0 ∧ g = false ∧ s.2.1 = false ∧ ∃ i : Nat, s.2.2 = i ∧ i ≤ 70 ∧ ∀ q : Nat, q < i → ∀ x, l[q]? = some x → ∀ rx, idx N x = some rx → ∀ t : Nat, rx[t]? = some true → re[t]? = some true))
    (fun z => z.2 = true ∨ (z.1 = E0 ∧ g = false ∧ ∀ x ∈ l, ∀ rx, idx N x = some rx → ∀ t : Nat, rx[t]? = some true → re[t]? = some true)) (fun s r hI hb => ?_) (fun s s' hI hb => ?_) nB (E, g, 0) z ?_ h
  · obtain ⟨E', g', j⟩ := s
    simp only [nM.bd74, nM.nx122] at hb
    split at hb
    · exfalso
      obtain ⟨v, hv, hb⟩ := n5 hb
      obtain ⟨t, ht, hb⟩ := n5 hb
      obtain ⟨y, hy, hb⟩ := n5 hb
      cases hb
    · rename_i hj
      cases hb
      rcases hI with h1 | ⟨h1, h0, h5, i, h2, _, h3⟩
      · exact .inl h1
      · refine .inr ⟨h1, h0, fun x hx => ?_⟩
        obtain ⟨q, hq, rfl⟩ := List.getElem_of_mem hx
        simp only at h2
        subst h2
        rw [nP] at hj
        exact h3 q (by omega) _ (List.getElem?_eq_getElem hq)
  · obtain ⟨E', g', j⟩ := s
    simp only [nM.bd74, nM.nx122] at hb
    split at hb
    · rename_i hj
      obtain ⟨v, hv, hb⟩ := n5 hb
      obtain ⟨rx, hrx, hb⟩ := n5 hb
      obtain ⟨y, hy, hb⟩ := n5 hb
      cases hb
      have hrl := hN rx (List.mem_of_getElem? (oA hrx).2.2)
      rcases y8 hre hrl E' g' (hI.imp id fun h => h.1) y hy with h1 | ⟨h1, h0, h3⟩
      · exact .inl h1
      · rcases hI with h5 | ⟨_, h6, h7, i, h2, h8, h9⟩
        · rw [h0] at h5; cases h5
        · simp only at h2
          subst h2
          rw [nP] at hj
          by_cases hy2 : y.2 = true
          · exact .inl hy2
          refine .inr ⟨h1, h6, by simpa using hy2, i + 1, nR hj (by omega), by omega, fun q hq x hx rx' hrx' => ?_⟩
          by_cases e : q < i
          · exact h9 q e x hx rx' hrx'
          · obtain rfl : q = i := by omega
            rw [ox] at hv
            rw [hv] at hx
            cases hx
            rw [hrx] at hrx'
            cases hrx'
            exact h3
    · cases hb
  · cases g with
    | true => exact .inl rfl
    | false => exact .inr ⟨hE.resolve_left (by simp), rfl, rfl, 0, rfl, by omega, fun t ht => by omega⟩
theorem za {N0 : List (List Bool)} {b : Nat} {ri bg : List Bool} (hri : N0[b]? = some ri) (hbl : bg.length ≤ 300) (N : List (List Bool)) (g : Bool) (hN : g = true ∨ N = N0) (z : List (List Bool) × Bool)
    (h : whl (fun (s : (List (List Bool) × Bool × Int)) => nM.bd89 (b : Int) bg s.1 s.2.1 s.2.2) nB (N, g, 0) = some z) :
    z.2 = true ∨ (z.1 = N0 ∧ g = false ∧ ∀ t : Nat, bg[t]? = some true → ri[t]? = some true) := by
  refine qA (b := fun (s : (List (List Bool) × Bool × Int)) => nM.bd89 (b : Int) bg s.1 s.2.1 s.2.2) (fun s => s.2.1 = true ∨ (s.1 = N0 ∧ g = false ∧ ∃ i : Nat, s.2.2 = i ∧ i ≤ 300 ∧ ∀ t : Nat, t < i → bg[t]? = some true → ri[t]? = some true))
    (fun z => z.2 = true ∨ (z.1 = N0 ∧ g = false ∧ ∀ t : Nat, bg[t]? = some true → ri[t]? = some true)) (fun s r hI hb => ?_) (fun s s' hI hb => ?_) nB (N, g, 0) z ?_ h
  · obtain ⟨E', g', j⟩ := s
    simp only [nM.bd89, nM.jn99] at hb
    split at hb
    · exfalso
      obtain ⟨v, hv, hb⟩ := n5 hb
      obtain ⟨t, ht, hb⟩ := n5 hb
      obtain ⟨u, hu, hb⟩ := n5 hb
      split at hb
      · obtain ⟨_, _, hb⟩ := n5 hb
        obtain ⟨_, _, hb⟩ := n5 hb
        cases hb
      · cases hb
    · rename_i hj
      cases hb
      rcases hI with h1 | ⟨h1, h0, i, h2, _, h3⟩
      · exact .inl h1
      · refine .inr ⟨h1, h0, fun t ht => h3 t ?_ ht⟩
        simp only at h2
        subst h2
        rw [nP] at hj
        have := (List.getElem?_eq_some_iff.1 ht).1
        omega
  · obtain ⟨E', g', j⟩ := s
    simp only [nM.bd89, nM.jn99] at hb
    split at hb
    · rename_i hj
      obtain ⟨v, hv, hb⟩ := n5 hb
      obtain ⟨t, ht, hb⟩ := n5 hb
      obtain ⟨u, hu, hb⟩ := n5 hb
      split at hb
      · obtain ⟨_, _, hb⟩ := n5 hb
        obtain ⟨_, _, hb⟩ := n5 hb
        cases hb
        exact .inl rfl
      · rename_i hne
        cases hb
        rcases hI with h1 | ⟨h1, h0, i, h2, h4, h3⟩
        · exact .inl h1
        · simp only at h1 h2
          subst h1 h2
          rw [nP] at hj
          refine .inr ⟨rfl, h0, i + 1, nR hj (by omega), by omega, fun q hq hqr => ?_⟩
          by_cases e : q < i
          · exact h3 q e hqr
          · obtain rfl : q = i := by omega
            rw [ox] at hv ht hu
            rw [hv] at hqr
            rw [hri] at ht
            cases ht
            rw [hu, ← hqr]
            cases v <;> cases u <;> simp at hne ⊢
    · cases hb
  · cases g with
    | true => exact .inl rfl
    | false => exact .inr ⟨hN.resolve_left (by simp), rfl, 0, rfl, by omega, fun t ht => by omega⟩
/-- nothing more is wanted at block b -/
def Fx (f : nA) (N E : List (List Bool)) (b : Nat) : Prop := ∀ (hb : b < f.blocks.length) (re ri : List Bool), E[b]? = some re → N[b]? = some ri →
  (∀ x ∈ succs f.blocks.length f.blocks[b].term.to, ∀ rx, idx N x = some rx → ∀ t : Nat, rx[t]? = some true → re[t]? = some true) ∧ ∀ t : Nat, (beginF f.blocks[b] re)[t]? = some true → ri[t]? = some true
theorem zb (f : nA) (hf : LiveOk f) (N0 E0 : List (List Bool)) (hL : LI f N0 E0) (z : List (List Bool) × List (List Bool) × Bool)
    (h : whl (fun (s : (List (List Bool) × List (List Bool) × Bool × Int)) => nM.bd57 f (nL f) s.1 s.2.1 s.2.2.1 s.2.2.2) nB (N0, E0, false, (w64 ((len f.blocks) - 1))) = some z) :
    z.2.2 = true ∨ (z.1 = N0 ∧ z.2.1 = E0 ∧ ∀ b, Fx f N0 E0 b) := by
  have hn := hf.few
  have hk := hf.sm.2.1
  have ht : ∀ B ∈ f.blocks, B.term.to.length ≤ 70 := fun B hm => (hf.sm.2.2.2 B hm).2.2.1
  have hw0 : w64 ((len f.blocks) - 1) = (f.blocks.length : Int) - 1 := by simp only [len]; exact qa ⟨by omega, by omega⟩
  refine qA (b := fun (s : (List (List Bool) × List (List Bool) × Bool × Int)) => nM.bd57 f (nL f) s.1 s.2.1 s.2.2.1 s.2.2.2)
    (fun s => s.2.2.1 = true ∨ (s.1 = N0 ∧ s.2.1 = E0 ∧ -1 ≤ s.2.2.2 ∧ s.2.2.2 < (f.blocks.length : Int) ∧ ∀ b : Nat, s.2.2.2 < (b : Int) → Fx f N0 E0 b)) (fun z => z.2.2 = true ∨ (z.1 = N0 ∧ z.2.1 = E0 ∧ ∀ b, Fx f N0 E0 b)) (fun s r hI hb => ?_) (fun s s' hI hb => ?_) nB _ z (.inr ⟨rfl, rfl, by simp only [hw0]; omega, by simp only [hw0]; omega, fun b hb hlt => by simp only [hw0] at hb; omega⟩) h
  · obtain ⟨N, E, g, j⟩ := s
    simp only [nM.bd57, nM.nx74, nM.nx89] at hb
    split at hb
    · exfalso
      obtain ⟨_, _, hb⟩ := n5 hb
      obtain ⟨_, _, hb⟩ := n5 hb
      obtain ⟨_, _, hb⟩ := n5 hb
      obtain ⟨_, _, hb⟩ := n5 hb
      obtain ⟨_, _, hb⟩ := n5 hb
      obtain ⟨_, _, hb⟩ := n5 hb
      cases hb
    · cases hb
      rcases hI with h1 | ⟨h1, h2, h3, h4, h5⟩
      · exact .inl h1
      · exact .inr ⟨h1, h2, fun b => h5 b (by simp only at *; omega)⟩
  · obtain ⟨N, E, g, j⟩ := s
    simp only [nM.bd57, nM.nx74, nM.nx89] at hb
    split at hb
    · rename_i hj
      obtain ⟨l, hl, hb⟩ := n5 hb
      obtain ⟨y, hy, hb⟩ := n5 hb
      obtain ⟨B, hB, hb⟩ := n5 hb
      obtain ⟨re, hre, hb⟩ := n5 hb
      obtain ⟨bg, hbg, hb⟩ := n5 hb
      obtain ⟨w, hw, hb⟩ := n5 hb
      cases hb
      by_cases hwt : w.2 = true
      · exact .inl hwt
      obtain ⟨b, rfl⟩ : ∃ b : Nat, j = b := ⟨j.toNat, by omega⟩
      rw [ox] at hl hB hre
      have hbn : b < f.blocks.length := (List.getElem?_eq_some_iff.1 hB).1
      have hBe : B = f.blocks[b] := ((List.getElem?_eq_some_iff.1 hB).2).symm
      subst hBe
      rw [qs f b hbn] at hl
      cases hl
      have hll := (rQ f ht b _ (qs f b hbn)).1
      -- rows of the tables as they were
      obtain ⟨re0, e1, e2, e3⟩ := hL.dimE.get (b := (b : Int)) (by omega) (by omega)
      obtain ⟨ri0, i1, i2, i3⟩ := hL.dimI.get (b := (b : Int)) (by omega) (by omega)
      rw [Int.toNat_natCast] at e2 i2
      rcases hI with h1 | ⟨h1, h2, h3, h4, h5⟩
      · -- again is true already: it stays so
        exfalso
        simp only at h1
        subst h1
        exact hwt (uU (b : Int) bg N y.2 (y7 N (b : Int) _ E true rfl y hy) w hw)
      · simp only at h1 h2 h3 h4
        subst h1 h2
        rcases y9 e2 (fun r hr => by rw [hL.dimI.row r hr]; exact hk) _ hll E g (.inr rfl) y hy with g1 | ⟨g1, _, g2⟩
        · exact absurd (uU (b : Int) bg N y.2 g1 w hw) hwt
        · rw [g1, e2] at hre
          obtain rfl := Option.some.inj hre
          rw [uE f.blocks[b] re0 (hf.sm.2.2.2 _ (List.getElem_mem hbn)) (by rw [e3]; exact hf.regs _ (List.getElem_mem hbn)) (by omega)] at hbg
          cases hbg
          rcases za i2 (by rw [sW]; omega) N y.2 (.inr rfl) w hw with k1 | ⟨k1, _, k2⟩
          · exact absurd k1 hwt
          · have hw1 : w64 ((b : Int) - 1) = (b : Int) - 1 := qa ⟨by omega, by omega⟩
            refine .inr ⟨k1, g1, by simp only [hw1]; omega, by simp only [hw1]; omega, fun c hc => ?_⟩
            simp only [hw1] at hc
            by_cases e : (b : Int) < (c : Int)
            · exact h5 c e
            · obtain rfl : c = b := by omega
              intro hcb re ri hre hri
              rw [e2] at hre
              rw [i2] at hri
              cases hre; cases hri
              exact ⟨g2, k2⟩
    · cases hb
theorem zc (f : nA) (hf : LiveOk f) (ins ends : List (List Bool)) (hL : LI f ins ends) (hbig : fal ins + fal ends ≤ 1000000) :
    ∃ z, whl (fun (s : (List (List Bool) × List (List Bool) × Bool)) => nM.bd43 f (nL f) s.1 s.2.1 s.2.2) nB (ins, ends, true) = some z ∧ LI f z.1 z.2 ∧ ∀ b, Fx f z.1 z.2 b := by
  refine qr (body := fun (s : (List (List Bool) × List (List Bool) × Bool)) => nM.bd43 f (nL f) s.1 s.2.1 s.2.2) (fun s => LI f s.1 s.2.1 ∧ (s.2.2 = true ∨ ∀ b, Fx f s.1 s.2.1 b)) (fun s => 2 * (fal s.1 + fal s.2.1) + (if s.2.2 = true then 1 else 0)) (fun z => LI f z.1 z.2 ∧ ∀ b, Fx f z.1 z.2 b) (fun s hI => ?_) nB _ ⟨hL, .inl rfl⟩ (by
    simp only [if_true]
    exact oY (by simp only [maxLen]; omega))
  obtain ⟨N, E, g⟩ := s
  obtain ⟨hI, hX⟩ := hI
  simp only at hI hX
  cases g with
  | false => exact .inl ⟨(N, E), by simp [nM.bd43], hI, hX.resolve_left (by simp)⟩
  | true =>
    obtain ⟨z, hz, hz1, hz2, hz3⟩ := yo f hf N E hI
    refine .inr ⟨(z.1, z.2.1, z.2.2), by simp only [nM.bd43, if_true, hz, Option.bind_some, nM.nx57], ⟨hz1, ?_⟩, ?_⟩
    · rcases zb f hf N E hI z hz with h | ⟨h1, h2, h3⟩
      · exact .inl h
      · exact .inr (by simp only [h1, h2]; exact h3)
    · simp only [if_true]
      cases hg : z.2.2 with
      | false => simp only [Bool.false_eq_true, if_false]; omega
      | true => have := hz3 hg; simp only [if_true]; omega
theorem zd (m : nT) (hm : SmM m) (a : Int) : ∃ e, qL m a = some e ∧
    ((e ≠ GErr.no ∧ nM m a = some ([], [], e)) ∨ (e = GErr.no ∧ Proper m ∧ ∃ k : Nat, a = k ∧ ∃ hk : k < m.funcs.length, ∃ ins ends, nM m a = some (ins, ends, GErr.no) ∧ LI m.funcs[k] ins ends ∧ ∀ b, Fx m.funcs[k] ins ends b)) := by
  obtain ⟨e, he1, he2⟩ := yp m hm a
  refine ⟨e, he1, ?_⟩
  unfold nM
  rw [he1]
  simp only [Option.bind_some]
  by_cases h : e = GErr.no
  · right
    rw [if_neg (by simpa using h)]
    obtain ⟨hp, h0, h1⟩ := he2.1 h
    refine ⟨h, hp, a.toNat, by omega, by omega, ?_⟩
    have hk : a.toNat < m.funcs.length := by omega
    have hix : idx m.funcs a = some m.funcs[a.toNat] := by
      simp only [idx, if_pos h0]; exact List.getElem?_eq_getElem hk
    have hsm := hm.2 _ (List.getElem_mem hk)
    have hf := (hp.funcs _ (List.getElem_mem hk)).live hsm
    rw [hix]
    generalize m.funcs[a.toNat] = f at *
    have ht : ∀ B ∈ f.blocks, B.term.to.length ≤ 70 := fun B hm => (hsm.2.2.2 B hm).2.2.1
    simp only [Option.bind_some, rg f hsm.1 ht, rS f hsm, yg f hsm]
    obtain ⟨z, hz, hz1, hz2⟩ := yj f hf _ ⟨Dim.rep _ _, Nm.rep _ _ _⟩
    rw [hz]
    simp only [Option.bind_some, nM.nx34]
    have hLI : LI f (List.replicate f.blocks.length (List.replicate f.regs.length false)) z := by
      refine ⟨Dim.rep _ _, hz1, Nm.rep _ _ _, hz2, fun b hb ri re e1 e2 => ⟨?_, fun r hr => ?_⟩⟩
      · rw [sW, hz1.row re (List.mem_of_getElem? e2)]
        exact (Dim.rep _ _).row ri (List.mem_of_getElem? e1)
      · rw [List.eq_of_mem_replicate (List.mem_of_getElem? e1), List.getElem?_replicate] at hr
        split at hr <;> simp at hr
    have hn := hf.few
    have hr := hsm.2.1
    have hb : f.blocks.length * f.regs.length ≤ 64 * 300 := Nat.mul_le_mul hn hr
    obtain ⟨y, hy, hy1, hy2⟩ := zc f hf _ z hLI (by
      have a1 := uF _ _ _ (Dim.rep f.blocks.length f.regs.length)
      have a2 := uF _ _ _ hz1
      omega)
    rw [hy]
    exact ⟨y.1, y.2, rfl, hy1, hy2⟩
  · left
    rw [if_pos h]
    exact ⟨h, rfl⟩
/-! ### What a block's beginning wants -/
theorem ze (l : List Int) : ∀ (o : List Bool) (r : Nat), o[r]? = some true → (markAll o l)[r]? = some true := by
  induction l with
  | nil => exact fun o r h => h
  | cons a l ih =>
    intro o r h
    exact ih (o.set a.toNat true) r ((Le.mark o a.toNat).le r h)
theorem zf (o : List Bool) (x : nO) (r : Nat) (hx : x.dst ≠ (r : Int)) (h : o[r]? = some true) : (stepI o x)[r]? = some true := by
  unfold stepI
  refine ze _ _ _ ?_
  split
  · rw [List.getElem?_set_ne (by omega)]; exact h
  · exact h
theorem zg (l : List nO) : ∀ (o : List Bool) (r : Nat), (∀ x ∈ l, x.dst ≠ (r : Int)) → o[r]? = some true → (l.foldl stepI o)[r]? = some true := by
  induction l with
  | nil => exact fun o r _ h => h
  | cons a l ih =>
    intro o r h1 h
    exact ih _ r (fun x hx => h1 x (List.mem_cons_of_mem _ hx)) (zf o a r (h1 a (by simp)) h)
theorem uV (B : ny) (hB : B.phis = []) (e : List Bool) (r : Nat) (hr : ∀ x ∈ B.ins, x.dst ≠ (r : Int)) (h : e[r]? = some true ∨ (B.term.arg = (r : Int) ∧ r < e.length)) : (beginF B e)[r]? = some true := by
  unfold beginF
  rw [hB]
  simp only [dropP, List.foldl_nil]
  refine zg _ _ _ (fun x hx => hr x (List.mem_reverse.1 hx)) ?_
  rcases h with h | ⟨h, hl⟩
  · split
    · exact (Le.mark e _).le r h
    · exact h
  · rw [if_pos (by omega), h, Int.toNat_natCast, List.getElem?_set_self hl]
end Go.Proofs.Ytpmcbahahjelnaa
namespace Go.Proofs.Ytpmcbahahjelnaa
open Go Go.Proofs
variable {f : nA} {R : List Int}
theorem Ver.anc {N : Nat → Nat} {P : List (List Int)} {Z : List Int} {S E : List (List Int)} (hV : Ver f R N P Z f.blocks.length S E) (hN : Nr f N) {a b r : Nat} (h : Anc N a b) (hb : b < f.blocks.length) (hE : NnT E (ob R a) r) : NnT E (ob R b) r := by
  induction h with
  | refl => exact hE
  | @step b h0 _ ih =>
    have := hN.dn b h0 hb
    exact hV.down b hb r (hV.up b (by omega) hb r (ih (by omega)))
theorem wanted (h : Full f R) {N : Nat → Nat} {L : List Int} (hNr : Near f R N L) {F : List (List Int)} (hF : Brd f R N F) {ins ends : List (List Bool)} (hL : LI f ins ends) (hX : ∀ b, Fx f ins ends b) (hph : ∀ B ∈ f.blocks, B.phis = [])
    {P : List (List Int)} {Z : List Int} (hP : Plc f F ins P Z f.regs.length) {S E : List (List Int)} (hV : Ver f R N P Z f.blocks.length S E) (r : Nat) (hr : r < f.regs.length) (C : List Bool) (hC : Cl f F (r : Int) C) (hCp : ∀ i : Nat, C[i]? = some true → Hold ins i r → In1 P i (r : Int)) :
    ∀ (m i : Nat), i < m → i < f.blocks.length → Hold ins (ob R i) r → NnT S (ob R i) r ∧ ∃ c, c < f.blocks.length ∧ (c = 0 ∨ (∃ hc : c < f.blocks.length, ∃ x ∈ f.blocks[c].ins, x.dst = (r : Int)) ∨ C[c]? = some true) ∧ NnT E c r ∧ Anc N (pb R c) i := by
  intro m
  induction m with
  | zero => intro i h; omega
  | succ m ih =>
    intro i him hi hw
    rcases Nat.eq_zero_or_pos i with rfl | h0
    · rw [h.ob0] at hw ⊢
      have hs : NnT S 0 r := hV.first h.pos r hr (by
        by_cases e : (r : Int) < f.params
        · exact .inl e
        · exact .inr (hP.zero r hr (by omega) hw))
      refine ⟨hs, 0, h.pos, .inl rfl, ?_, ?_⟩
      · have := hV.down 0 h.pos r (by rw [h.ob0]; exact hs)
        rwa [h.ob0] at this
      · rw [h.pb0]; exact .refl
    · obtain ⟨o1, o2⟩ := h.get hi
      have hiR : i < R.length := by rw [h.len]; exact hi
      obtain ⟨p, hp, u, hu, hun, hto⟩ := h.led i hiR h0
      have hpn : p < f.blocks.length := by omega
      have hup : ob R p = u := by
        obtain ⟨q1, q2⟩ := h.get hpn
        rw [List.getElem?_eq_getElem (by omega), hu] at q1
        have := Option.some.inj q1
        omega
      have hRi : R[i] = ((ob R i : Nat) : Int) := by
        rw [List.getElem?_eq_getElem hiR] at o1; exact Option.some.inj o1
      rw [hRi] at hto
      have hsu : ((ob R i : Nat) : Int) ∈ succs f.blocks.length f.blocks[u].term.to := qS.2 ⟨hto, by omega, by omega⟩
      -- what stands above the block before
      obtain ⟨re, e1, e2, e3⟩ := hL.dimE.get (b := (u : Int)) (by omega) (by omega)
      obtain ⟨ri, i1, i2, i3⟩ := hL.dimI.get (b := (u : Int)) (by omega) (by omega)
      rw [Int.toNat_natCast] at e2 i2
      obtain ⟨x1, x2⟩ := hX u hun re ri e2 i2
      obtain ⟨rx, rx1, rx2⟩ := hw
      have hre : re[r]? = some true := x1 _ hsu rx (by rw [ox]; exact rx1) r rx2
      have key : ∃ c, c < f.blocks.length ∧ (c = 0 ∨ (∃ hc : c < f.blocks.length, ∃ x ∈ f.blocks[c].ins, x.dst = (r : Int)) ∨ C[c]? = some true) ∧ NnT E c r ∧ Anc N (pb R c) p := by
        by_cases hd : ∃ x ∈ f.blocks[u].ins, x.dst = (r : Int)
        · obtain ⟨x, hx, hxd⟩ := hd
          refine ⟨u, hun, .inr (.inl ⟨hun, x, hx, hxd⟩), ?_, ?_⟩
          · subst hup
            have := hV.defs p hpn hun x hx (by omega)
            rw [hxd, Int.toNat_natCast] at this
            exact this
          · rw [← hup, h.pb_ob hpn]; exact .refl
        · have hb := uV f.blocks[u] (hph _ (List.getElem_mem hun)) re r (fun x hx e => hd ⟨x, hx, e⟩) (.inl hre)
          exact (ih p (by omega) hpn ⟨ri, by rw [hup]; exact i2, x2 r hb⟩).2
      obtain ⟨c, c1, c2, c3, c4⟩ := key
      by_cases hbd : c = ob R i ∨ ¬ Anc N (pb R c) (pb R (ob R i))
      · obtain ⟨l, l1, l2⟩ := hF c u (ob R i) c1 o2 hun hsu (by rw [← hup, h.pb_ob hpn]; exact c4) hbd
        have hCx := hC c c2 l l1 _ l2
        rw [Int.toNat_natCast] at hCx
        have hin := hCp _ hCx ⟨rx, rx1, rx2⟩
        have hs := hV.phi i hi _ hin
        rw [Int.toNat_natCast] at hs
        exact ⟨hs, ob R i, o2, .inr (.inr hCx), hV.down i hi r hs, by rw [h.pb_ob hi]; exact .refl⟩
      · simp only [not_or, Classical.not_not] at hbd
        obtain ⟨b1, b2⟩ := hbd
        rw [h.pb_ob hi] at b2
        have hne : pb R c ≠ i := fun e => b1 (by rw [← e]; exact (h.ob_pb c1).1.symm)
        rcases b2.cases' with e | ⟨_, b3⟩
        · exact absurd e hne
        · have hni := hNr.nr.dn i (by omega) hi
          have hc' : NnT E (ob R (pb R c)) r := by rw [(h.ob_pb c1).1]; exact c3
          exact ⟨hV.up i h0 hi r (hV.anc hNr.nr b3 (by omega) hc'), c, c1, c2, c3, b2⟩
theorem zh (h : Full f R) {N : Nat → Nat} {L : List Int} (hNr : Near f R N L) {F : List (List Int)} (hF : Brd f R N F) {ins ends : List (List Bool)} (hL : LI f ins ends) (hX : ∀ b, Fx f ins ends b) (hph : ∀ B ∈ f.blocks, B.phis = []) (hR : ∀ B ∈ f.blocks, RegsIn f.regs.length B)
    {P : List (List Int)} {Z : List Int} (hP : Plc f F ins P Z f.regs.length) {S E : List (List Int)} (hV : Ver f R N P Z f.blocks.length S E) (i : Nat) (hi : i < f.blocks.length) (h0 : 0 ≤ f.blocks[i].term.arg) : NnT S i f.blocks[i].term.arg.toNat ∨ ∃ x ∈ f.blocks[i].ins, x.dst = f.blocks[i].term.arg := by
  by_cases hd : ∃ x ∈ f.blocks[i].ins, x.dst = f.blocks[i].term.arg
  · exact .inr hd
  · left
    have hlt := (hR _ (List.getElem_mem hi)).arg
    obtain ⟨r, hr⟩ : ∃ r : Nat, f.blocks[i].term.arg = r := ⟨f.blocks[i].term.arg.toNat, by omega⟩
    rw [hr] at hd hlt ⊢
    rw [Int.toNat_natCast]
    have hrk : r < f.regs.length := by omega
    obtain ⟨re, e1, e2, e3⟩ := hL.dimE.get (b := (i : Int)) (by omega) (by omega)
    obtain ⟨ri, i1, i2, i3⟩ := hL.dimI.get (b := (i : Int)) (by omega) (by omega)
    rw [Int.toNat_natCast] at e2 i2
    have hb := uV f.blocks[i] (hph _ (List.getElem_mem hi)) re r (fun x hx e => hd ⟨x, hx, e⟩) (.inr ⟨hr, by omega⟩)
    have hw : Hold ins (ob R (pb R i)) r := ⟨ri, by rw [(h.ob_pb hi).1]; exact i2, (hX i hi re ri e2 i2).2 r hb⟩
    obtain ⟨C, hC, hCp⟩ := hP.phi r hrk
    have := (wanted h hNr hF hL hX hph hP hV r hrk C hC hCp (pb R i + 1) (pb R i) (by omega) (h.ob_pb hi).2 hw).1
    rwa [(h.ob_pb hi).1] at this
end Go.Proofs.Ytpmcbahahjelnaa
namespace Go.Proofs.Ytpmcbahahjelnaa
open Go Go.Proofs
variable {f : nA} {R : List Int}
theorem zi (l : List ny) (hl : l.length ≤ 70) : ∃ b : Bool, rd l = some b ∧ (b = false → ∀ B ∈ l, B.phis = []) := by
  unfold rd pX
  obtain ⟨z, hz, hz1⟩ := om (body := fun (s : Int) => pX.bd8 l s) (s0 := 0) l.length (fun i s => s = (i : Int) ∧ ∀ j (hj : j < l.length), j < i → l[j].phis = []) (fun z => (∃ i : Nat, z = .ret (i : Int)) ∨ (z = .go () ∧ ∀ B ∈ l, B.phis = [])) (nQ hl (by omega)) (fun i s hi hI => by
    obtain ⟨rfl, h2⟩ := hI
    simp only [pX.bd8, nP, hi, if_true, nI hi, Option.bind_some, rJ, nR hi (show l.length ≤ 1000 by omega)]
    by_cases e : len l[i].phis > 0
    · exact .inl ⟨.ret (i : Int), by rw [if_pos (decide_eq_true e)], .inl ⟨i, rfl⟩⟩
    · refine .inr ⟨((i + 1 : Nat) : Int), by rw [if_neg (by simpa using e)], rfl, fun j hj hji => ?_⟩
      by_cases e2 : j < i
      · exact h2 j hj e2
      · obtain rfl : j = i := by omega
        simp only [len] at e
        exact List.eq_nil_of_length_eq_zero (by omega)) (fun s hI => by
    obtain ⟨rfl, h2⟩ := hI
    exact ⟨.go (), by simp [pX.bd8, len], .inr ⟨rfl, fun B hB => by
      obtain ⟨j, hj, rfl⟩ := List.getElem_of_mem hB
      exact h2 j hj hj⟩⟩) ⟨rfl, fun j _ hj => by omega⟩
  rw [hz]
  rcases hz1 with ⟨i, rfl⟩ | ⟨rfl, h⟩
  · exact ⟨true, by simp, fun h => by cases h⟩
  · exact ⟨false, by simp [pX.nx8], fun _ => h⟩
theorem zj (m : nT) (hm : SmM m) : ∃ e, pY m = some e ∧ (e = GErr.no → Proper m ∧ ∀ f ∈ m.funcs, ∀ B ∈ f.blocks, B.phis = []) := by
  obtain ⟨e, he, he2⟩ := rT m hm
  unfold pY
  rw [he]
  simp only [Option.bind_some]
  by_cases h : e = GErr.no
  · rw [if_neg (by simpa using h)]
    have hp := he2.1 h
    obtain ⟨z, hz, hz1⟩ := om (body := fun (s : Int) => pY.bd13 m s) (s0 := 0) m.funcs.length (fun i s => s = (i : Int) ∧ ∀ j (hj : j < m.funcs.length), j < i → ∀ B ∈ m.funcs[j].blocks, B.phis = []) (fun z => (∃ e, z = .ret e ∧ e ≠ GErr.no) ∨ (z = .go () ∧ ∀ f ∈ m.funcs, ∀ B ∈ f.blocks, B.phis = [])) (nQ hm.1 (by omega)) (fun i s hi hI => by
      obtain ⟨rfl, h2⟩ := hI
      obtain ⟨b, hb, hb2⟩ := zi m.funcs[i].blocks (hm.2 _ (List.getElem_mem hi)).1
      have hfew := hm.1
      simp only [pY.bd13, nP, hi, if_true, nI hi, Option.bind_some, hb, nR hi (show m.funcs.length ≤ 1000 by omega)]
      cases b with
      | true => exact .inl ⟨_, by simp only [if_true]; rfl, .inl ⟨_, rfl, fun h => by cases h⟩⟩
      | false =>
        refine .inr ⟨((i + 1 : Nat) : Int), by simp, rfl, fun j hj hji => ?_⟩
        by_cases e2 : j < i
        · exact h2 j hj e2
        · obtain rfl : j = i := by omega
          exact hb2 rfl) (fun s hI => by
      obtain ⟨rfl, h2⟩ := hI
      exact ⟨.go (), by simp [pY.bd13, len], .inr ⟨rfl, fun f hf => by
        obtain ⟨j, hj, rfl⟩ := List.getElem_of_mem hf
        exact h2 j hj hj⟩⟩) ⟨rfl, fun j _ hj => by omega⟩
    rw [hz]
    rcases hz1 with ⟨e, rfl, h1⟩ | ⟨rfl, h1⟩
    · exact ⟨e, rfl, fun h => absurd h h1⟩
    · exact ⟨GErr.no, rfl, fun _ => ⟨hp, h1⟩⟩
  · rw [if_pos h]
    exact ⟨e, rfl, fun h' => absurd h' h⟩
theorem zk (f : nA) (s : List Bool) (h : ∀ B ∈ f.blocks, B.phis = []) : ∀ B ∈ (trimF f s).blocks, B.phis = [] := fun B hB => by
  obtain ⟨i, _, hi⟩ := List.mem_filterMap.1 hB
  unfold trimAt at hi
  split at hi
  · rename_i C hC
    split at hi
    · cases hi
      simp [trimB, h C (List.mem_of_getElem? hC)]
    · cases hi
  · cases hi
structure Built (g r : nA) : Prop where
  params : r.params = g.params
  result : r.result = g.result
  len : r.blocks.length = g.blocks.length
  at_ : ∀ j (hj : j < g.blocks.length), ∃ C, r.blocks[j]? = some C ∧ Nb g.blocks[j] C
theorem zl (hf : SmF f) (hR : ∀ B ∈ f.blocks, RegsIn f.regs.length B) (nums : List Int) (q : List (List Bool) × List (List Bool) × GErr) (fr : List (List Int)) (ne : List Int) (pl : List (List Int) × List Int) (nu : List Int × List (List Int) × List Int × List (List Int)) (ve : List (List Int) × List (List Int))
    (hb : Bl f (⟨(⟨f.params, f.result, f.regs, f.blocks⟩ : nA), q.1, fr, ne, pl.1, pl.2, nu.1, nu.2.1, nu.2.2.1, nu.2.2.2, ve.1, ve.2⟩ : nS)) :
    ∃ z, whl (fun (s : (List ny × Int × Int)) => pG.bd57 (f, nums) q fr ne pl nu ve (oz (nL f)) s.1 s.2.1 s.2.2) nB (([] : List ny), 0, 0) = some z ∧ z.1.length = f.blocks.length ∧ (∀ j (hj : j < f.blocks.length), ∃ C, z.1[j]? = some C ∧ Nb f.blocks[j] C) ∧ ∃ M : Nat, z.2 = (M : Int) ∧ ∀ C ∈ z.1, C.phis.length + C.ins.length ≤ M := by
  have hn := hf.1
  refine om (body := fun (s : (List ny × Int × Int)) => pG.bd57 (f, nums) q fr ne pl nu ve (oz (nL f)) s.1 s.2.1 s.2.2) (s0 := ([], 0, 0)) f.blocks.length
    (fun i s => s.2.2 = (i : Int) ∧ s.1.length = i ∧ (∀ j (hj : j < f.blocks.length), j < i → ∃ C, s.1[j]? = some C ∧ Nb f.blocks[j] C) ∧ ∃ M : Nat, s.2.1 = (M : Int) ∧ M ≤ i * 1000 ∧ ∀ C ∈ s.1, C.phis.length + C.ins.length ≤ M) _ (nQ hn (by omega)) (fun i s hi hI => ?_) (fun s hI => ?_) ⟨rfl, rfl, fun j _ hj => by omega, 0, rfl, by omega, by simp⟩
  · obtain ⟨A, mm, j⟩ := s
    obtain ⟨rfl, g1, g2, M, rfl, g3, g4⟩ := hI
    simp only at g1 g2 g3 g4
    right
    have hi' : i < (oz (nL f)).length := by rw [si, oU]; exact hi
    have hah : idx (oz (nL f)) (i : Int) = some (oy (nL f) i) := by rw [ox]; exact qR _ _ (by rw [oU]; exact hi)
    obtain ⟨C, c1, c2⟩ := y5 hf hR _ hb i hi (oy (nL f) i) (by have := sU (nL f) i; rw [oU] at this; omega) (fun x hx => by have := sP (nL f) i x hx; rw [oU] at this; exact this)
    have hp := c2.phis
    have hq := c2.ins
    have w1 : w64 (len C.phis + len C.ins) = ((C.phis.length + C.ins.length : Nat) : Int) := by
      rw [show len C.phis + len C.ins = ((C.phis.length + C.ins.length : Nat) : Int) by simp [len]]; exact qN (by omega)
    have w2 : w64 (((C.phis.length + C.ins.length : Nat) : Int) + 1) = ((C.phis.length + C.ins.length + 1 : Nat) : Int) := rN (by omega)
    have w3 : w64 ((M : Int) + ((C.phis.length + C.ins.length + 1 : Nat) : Int)) = ((M + (C.phis.length + C.ins.length + 1) : Nat) : Int) := by
      rw [show (M : Int) + ((C.phis.length + C.ins.length + 1 : Nat) : Int) = ((M + (C.phis.length + C.ins.length + 1) : Nat) : Int) by omega]; exact qN (by omega)
    simp only [pG.bd57, nP, hi', if_true, hah, Option.bind_some, c1, oQ (show A.length ≤ 1000 by omega), w1, w2, w3, nR hi (show f.blocks.length ≤ 1000 by omega)]
    refine ⟨_, rfl, rfl, by simp [g1], fun j hj hji => ?_, _, rfl, by omega, fun D hD => ?_⟩
    · simp only
      by_cases e : j < i
      · obtain ⟨D, d1, d2⟩ := g2 j hj e
        exact ⟨D, by rw [List.getElem?_append_left (by omega)]; exact d1, d2⟩
      · obtain rfl : j = i := by omega
        exact ⟨C, by rw [List.getElem?_append_right (by omega), g1]; simp, c2⟩
    · rcases List.mem_append.1 hD with hD | hD
      · have := g4 D hD; omega
      · rw [List.mem_singleton] at hD; subst hD; omega
  · obtain ⟨A, mm, j⟩ := s
    obtain ⟨rfl, g1, g2, M, rfl, g3, g4⟩ := hI
    simp only at g1 g2 g3 g4
    exact ⟨(A, (M : Int)), by simp [pG.bd57, len, si, oU], g1, fun j hj => g2 j hj hj, M, rfl, g4⟩
theorem smE : SmF (⟨0, 0, ([] : List Int), ([] : List ny)⟩ : nA) := ⟨by simp, by simp, by simp, by simp⟩
theorem zm (m : nT) (hm : SmM m) (a : Int) : ∃ r, pG m a = some r ∧ SmF r.1 ∧ (r.2 = GErr.no → ∃ k : Nat, a = k ∧ ∃ hk : k < m.funcs.length, ∃ s nums, nZ m.funcs[k] = some (trimF m.funcs[k] s, nums) ∧ SmF (trimF m.funcs[k] s) ∧ Built (trimF m.funcs[k] s) r.1) := by
  obtain ⟨e, he, he2⟩ := zj m hm
  unfold pG
  rw [he]
  simp only [Option.bind_some]
  by_cases h : e = GErr.no
  · rw [if_neg (by simpa using h)]
    obtain ⟨hp, hph⟩ := he2 h
    by_cases h2 : a < 0 ∨ a ≥ len m.funcs
    · rw [if_pos h2]
      exact ⟨_, rfl, smE, fun h => by cases h⟩
    · rw [if_neg h2]
      simp only [len] at h2
      obtain ⟨k, rfl⟩ : ∃ k : Nat, a = k := ⟨a.toNat, by omega⟩
      have hk : k < m.funcs.length := by omega
      have hf0 := hm.2 _ (List.getElem_mem hk)
      obtain ⟨s, o, hw, _⟩ := qH m.funcs[k] hf0
      have htr := xP m.funcs[k] hf0 hw
      have hf := uq m.funcs[k] hf0 s
      have hfl := hm.1
      have hcl : rK m.funcs = some m.funcs := by
        unfold rK; rw [qQ (by omega)]; rfl
      have hset : (m.funcs.set k (trimF m.funcs[k] s)).length = m.funcs.length := by simp
      have hm' : SmM (⟨m.funcs.set k (trimF m.funcs[k] s)⟩ : nT) := ⟨by simp only [hset]; exact hm.1, fun g hg => (List.mem_or_eq_of_mem_set hg).elim (hm.2 g) (fun e => e ▸ hf)⟩
      simp only [nI hk, Option.bind_some, htr, hcl, Int.toNat_natCast]
      obtain ⟨e3, _, hl⟩ := zd _ hm' (k : Int)
      rcases hl with ⟨hne, h1⟩ | ⟨hno, hp', k', hk', hkl, ins, ends, h1, hLI, hFx⟩
      · rw [h1]
        simp only [Option.bind_some]
        rw [if_pos hne]
        exact ⟨_, rfl, smE, fun h => absurd h hne⟩
      · obtain rfl : k' = k := by omega
        rw [h1]
        simp only [Option.bind_some]
        rw [if_neg (by simp)]
        have hfo := hp'.funcs _ (List.getElem_mem hkl)
        have hg : (m.funcs.set k' (trimF m.funcs[k'] s))[k']'hkl = trimF m.funcs[k'] s := by simp
        simp only [hg] at hfo hLI hFx
        obtain ⟨s', o', hw', _⟩ := qH _ hf
        have hs' := yr m.funcs[k'] hf0 hw hw'
        have hfull := uJ _ hf (by have := hfo.small.pos; omega) hw' hs'
        have hRr : ∀ B ∈ (trimF m.funcs[k'] s).blocks, RegsIn (trimF m.funcs[k'] s).regs.length B := fun B hB => BlockOk_regs (hfo.blocks B hB)
        have hphi : ∀ B ∈ (trimF m.funcs[k'] s).blocks, B.phis = [] := zk _ s (hph _ (List.getElem_mem hk))
        generalize hgg : trimF m.funcs[k'] s = g at *
        obtain ⟨N, L, hL, hN⟩ := uQ hfull
        obtain ⟨F, hF, hF1, hF2⟩ := yF hfull hL hN
        rw [hF, hL]
        simp only [Option.bind_some]
        obtain ⟨pl, p1, p2, p3, p4⟩ := yK hf hfull.pos (⟨(⟨g.params, g.result, g.regs, g.blocks⟩ : nA), ins, F, L, ([] : List (List Int)), ([] : List Int), [], [], [], [], [], []⟩ : nS) rfl hLI.dimI hF1 rfl
        rw [p1]
        simp only [Option.bind_some]
        obtain ⟨nr, np, nz, nd, n1, n2, n3, n4⟩ := yP hf hRr hfo.typed.nn hfo.typed.le (⟨(⟨g.params, g.result, g.regs, g.blocks⟩ : nA), ins, F, L, pl.1, pl.2, ([] : List Int), ([] : List (List Int)), ([] : List Int), ([] : List (List Int)), [], []⟩ : nS) rfl p2 p3 rfl rfl rfl
        rw [n1]
        simp only [Option.bind_some]
        obtain ⟨S, E, v1, v2, v3, v4⟩ := yU hfull hN hRr (⟨(⟨g.params, g.result, g.regs, g.blocks⟩ : nA), ins, F, L, pl.1, pl.2, nr, np, nz, nd, ([] : List (List Int)), ([] : List (List Int))⟩ : nS) rfl rfl p2 n4 p3 n2 n3
        rw [v1, rS g hf]
        simp only [Option.bind_some]
        obtain ⟨z, z1, z2, z3, M, z4, z5⟩ := zl hf hRr (numF s) (ins, ends, GErr.no) F L pl (nr, np, nz, nd) (S, E) ⟨rfl, p2, n4, by have := p3.few; simp only at n2 ⊢; omega, v2, v3, fun i hi h0 => zh hfull hN hF2 hLI hFx hphi hRr p4 v4 i hi h0⟩
        rw [z1]
        simp only [Option.bind_some, pG.nx57]
        by_cases hbig : z.2 > 256 ∨ len nr > 256
        · rw [if_pos hbig]
          exact ⟨_, rfl, smE, fun h => by cases h⟩
        · rw [if_neg hbig]
          simp only [len] at hbig
          have hn := hf.1
          refine ⟨_, rfl, ⟨by simp only; omega, by simp only; omega, hf.2.2.1, fun C hC => ?_⟩, fun _ => ⟨k', rfl, hk, s, numF s, by rw [htr, hgg], by rw [hgg]; exact hf, by rw [hgg]; exact ⟨rfl, rfl, z2, z3⟩⟩⟩
          have hCM := z5 C hC
          obtain ⟨j, hj, hjC⟩ := List.getElem_of_mem hC
          obtain ⟨D, d1, d2⟩ := z3 j (by simp only at hj; omega)
          have hDC : D = C := by
            simp only at hj hjC
            rw [List.getElem?_eq_getElem hj, hjC] at d1; exact (Option.some.inj d1).symm
          subst hDC
          exact ⟨by omega, by omega, by rw [d2.to]; exact (hf.2.2.2 _ (List.getElem_mem _)).2.2.1, d2.args, d2.pargs⟩
  · rw [if_pos h]
    exact ⟨_, rfl, smE, fun h' => absurd h' h⟩
end Go.Proofs.Ytpmcbahahjelnaa
namespace Go.Proofs.Ytpmcbahahjelnaa
open Go Go.Proofs
/-- What is made: the register, the block, the place. -/
abbrev D3 := Int × Int × Int
def mkr (L : List D3) (r : Nat) : PMaker := match L.find? (fun x => decide (x.1 = (r : Int))) with | some x => ⟨x.2.1, x.2.2⟩ | none => ⟨-1, -2⟩
def cntD (L : List D3) (r : Nat) : Nat := L.countP (fun x => decide (x.1 = (r : Int)))
def mks (n : Nat) (L : List D3) : List PMaker := (List.range n).map (mkr L)
def mns (n : Nat) (L : List D3) : List Int := (List.range n).map fun r => ((cntD L r : Nat) : Int)
theorem uW {n r : Nat} (L : List D3) (h : r < n) : idx (mks n L) (r : Int) = some (mkr L r) := by rw [ox]; simp [mks, h]
theorem sl {n r : Nat} (L : List D3) (h : r < n) : idx (mns n L) (r : Int) = some ((cntD L r : Nat) : Int) := by rw [ox]; simp [mns, h]
theorem uX (n : Nat) (L : List D3) : (mks n L).length = n := by simp [mks]
theorem uY (n : Nat) (L : List D3) : (mns n L).length = n := by simp [mns]
theorem s5 {L : List D3} {x : D3} {r : Nat} (h : x.1 ≠ (r : Int)) : mkr (L ++ [x]) r = mkr L r := by
  unfold mkr
  rw [List.find?_append]
  have : List.find? (fun x : D3 => decide (x.1 = (r : Int))) [x] = none := by simp [h]
  rw [this]
  cases List.find? (fun x : D3 => decide (x.1 = (r : Int))) L <;> rfl
theorem uZ {L : List D3} {x : D3} {r : Nat} (h : x.1 ≠ (r : Int)) : cntD (L ++ [x]) r = cntD L r := by
  unfold cntD
  rw [List.countP_append]
  simp [h]
theorem zn {L : List D3} {x : D3} {r : Nat} (h : x.1 = (r : Int)) : cntD (L ++ [x]) r = cntD L r + 1 := by
  unfold cntD
  rw [List.countP_append]
  simp [h]
theorem u0 {L : List D3} {r : Nat} (h : cntD L r = 0) : L.find? (fun x => decide (x.1 = (r : Int))) = none := by
  unfold cntD at h
  rw [List.countP_eq_zero] at h
  exact List.find?_eq_none.2 h
theorem u5 {L : List D3} {r : Nat} (h : cntD L r ≠ 0) : ∃ x, L.find? (fun x => decide (x.1 = (r : Int))) = some x ∧ x ∈ L ∧ x.1 = (r : Int) := by
  cases hf : L.find? (fun x => decide (x.1 = (r : Int))) with
  | none => exact absurd (List.countP_eq_zero.2 (List.find?_eq_none.1 hf)) h
  | some x => exact ⟨x, rfl, List.mem_of_find?_eq_some hf, by simpa using List.find?_some hf⟩
theorem zo {L : List D3} {x : D3} {r : Nat} (h : x.1 = (r : Int)) (h0 : cntD L r = 0) : mkr (L ++ [x]) r = ⟨x.2.1, x.2.2⟩ := by
  unfold mkr
  rw [List.find?_append, u0 h0]
  simp [h]
theorem zp {L : List D3} {x : D3} {r : Nat} (h0 : cntD L r ≠ 0) : mkr (L ++ [x]) r = mkr L r := by
  obtain ⟨y, hy, _⟩ := u5 h0
  unfold mkr
  rw [List.find?_append, hy]; rfl
theorem zq (L : List D3) (r : Nat) : cntD L r ≤ L.length := List.countP_le_length
theorem zr {n k : Nat} {L : List D3} {x : D3} (hk : x.1 = (k : Int)) : (if cntD L k = 0 then (mks n L).set k ⟨x.2.1, x.2.2⟩ else mks n L) = mks n (L ++ [x]) := by
  apply List.ext_getElem (by split <;> simp [mks])
  intro j h1 h2
  have hj : j < n := by simpa [mks] using h2
  by_cases e : j = k
  · subst e
    by_cases h0 : cntD L j = 0
    · simp only [h0, if_true, List.getElem_set_self]
      simp [mks, zo hk h0]
    · simp only [h0, if_false]
      simp [mks, zp h0]
  · have hne : x.1 ≠ (j : Int) := by rw [hk]; omega
    by_cases h0 : cntD L k = 0
    · simp only [h0, if_true, List.getElem_set_ne (Ne.symm e)]
      simp [mks, s5 hne]
    · simp only [h0, if_false]
      simp [mks, s5 hne]
theorem zt {n k : Nat} {L : List D3} {x : D3} (hk : x.1 = (k : Int)) : (mns n L).set k (((cntD L k + 1 : Nat) : Int)) = mns n (L ++ [x]) := by
  apply List.ext_getElem (by simp [mns])
  intro j h1 h2
  have hj : j < n := by simpa [mns] using h2
  by_cases e : j = k
  · subst e
    rw [List.getElem_set_self]
    simp [mns, zn hk]
  · have hne : x.1 ≠ (j : Int) := by rw [hk]; omega
    rw [List.getElem_set_ne (Ne.symm e)]
    simp [mns, uZ hne]
theorem u6 {n : Nat} (L : List D3) (d b a : Int) (hL : L.length ≤ 1000000) : qd d b a (mks n L) (mns n L) = some (mks n (L ++ [(d, b, a)]), mns n (L ++ [(d, b, a)])) := by
  unfold qd
  by_cases hr : d < 0 ∨ d ≥ len (mks n L)
  · rw [if_pos hr]
    simp only [len, uX] at hr
    congr 2
    · unfold mks; exact List.map_congr_left fun r hr' => (s5 (by have := List.mem_range.1 hr'; simp only; omega)).symm
    · unfold mns; exact List.map_congr_left fun r hr' => by rw [uZ (by have := List.mem_range.1 hr'; simp only; omega)]
  · rw [if_neg hr]
    simp only [len, uX, not_or] at hr
    obtain ⟨k, rfl⟩ : ∃ k : Nat, d = k := ⟨d.toNat, by omega⟩
    have hk : k < n := by omega
    have hc := zq L k
    have hw : w64 (((cntD L k : Nat) : Int) + 1) = ((cntD L k + 1 : Nat) : Int) := rN (by omega)
    have h1 := zr (n := n) (L := L) (x := ((k : Int), b, a)) rfl
    have h2 := zt (n := n) (L := L) (x := ((k : Int), b, a)) rfl
    simp only [sl L hk, uW L hk, Option.bind_some]
    by_cases h0 : cntD L k = 0
    · rw [if_pos h0] at h1
      rw [if_pos (by omega)]
      simp only [qd.jn12, sl L hk, Option.bind_some, hw, Int.toNat_natCast, h1, h2]
    · rw [if_neg h0] at h1
      rw [if_neg (by omega)]
      simp only [qd.jn12, sl L hk, Option.bind_some, hw, Int.toNat_natCast, ← h1, h2]
def defsP (i : Nat) (B : ny) : List D3 := B.phis.map fun p => (p.dst, (i : Int), -1)
def defsI (i : Nat) (B : ny) : List D3 := B.ins.zipIdx.map fun x => (x.1.dst, (i : Int), ((x.2 : Nat) : Int))
def defsB (i : Nat) (B : ny) : List D3 := defsP i B ++ defsI i B
/-- What a function's blocks make, up to one. -/
def defsTo (f : nA) (n : Nat) : List D3 := (f.blocks.take n).zipIdx.flatMap fun x => defsB x.2 x.1
def defs (f : nA) : List D3 := f.blocks.zipIdx.flatMap fun x => defsB x.2 x.1
theorem u7 (f : nA) {i : Nat} (hi : i < f.blocks.length) : defsTo f (i + 1) = defsTo f i ++ defsB i f.blocks[i] := by
  unfold defsTo
  rw [List.take_succ_eq_append_getElem hi, List.zipIdx_append, List.flatMap_append]
  simp [List.length_take, Nat.min_eq_left (Nat.le_of_lt hi)]
theorem zu (f : nA) : defsTo f f.blocks.length = defs f := by unfold defsTo defs; rw [List.take_length]
theorem zv {i : Nat} {B : ny} (h : SmB B) : (defsB i B).length ≤ 600 := by
  have := h.1; have := h.2.1
  simp [defsB, defsP, defsI]; omega
theorem u8 (f : nA) (hf : SmF f) : ∀ i, i ≤ f.blocks.length → (defsTo f i).length ≤ i * 600
  | 0, _ => by simp [defsTo]
  | i + 1, hi => by
    have h1 := u8 f hf i (by omega)
    rw [u7 f (by omega), List.length_append]
    have := zv (i := i) (hf.2.2.2 _ (List.getElem_mem (show i < f.blocks.length by omega)))
    omega
theorem zw (n : Nat) : mks n [] = List.replicate n ⟨-1, -2⟩ := by
  unfold mks
  apply List.ext_getElem (by simp)
  intro j h1 h2
  simp [mkr]
theorem zx (n : Nat) : mns n [] = List.replicate n 0 := by
  unfold mns
  apply List.ext_getElem (by simp)
  intro j h1 h2
  simp [cntD]
theorem zy {α : Type} {n : Nat} (z : α) (hn : n ≤ 1000) : mkl (n : Int) z = some (List.replicate n z) := by
  have h1 : n < LIM := by simp only [LIM]; omega
  simp [mkl, h1]
theorem zz (l : List PMaker) (h : l.length ≤ 1000) : whl (fun (s : (List PMaker × Int)) => oo.bd12 l s.1 s.2) nB (l, 0) = some (List.replicate l.length ⟨-1, -2⟩) := by
  have hrun := pe (body := fun (s : List PMaker × Int) => oo.bd12 l s.1 s.2) (r := List.replicate l.length (⟨-1, -2⟩ : PMaker)) l.length nB (fun i => (List.replicate i (⟨-1, -2⟩ : PMaker) ++ l.drop i, (i : Int))) (fun i hi => by
    have hl : i < (List.replicate i (⟨-1, -2⟩ : PMaker) ++ l.drop i).length := by simp; omega
    simp only [oo.bd12, nP, hi, if_true, nI hl, Option.bind_some, Int.toNat_natCast, nR hi (show l.length ≤ 1000 by omega)]
    congr 3
    rw [List.set_append_right _ _ (by simp)]
    simp only [List.length_replicate, Nat.sub_self]
    rw [List.drop_eq_getElem_cons hi, List.set_cons_zero, List.replicate_succ', List.append_assoc]; rfl) (by simp [oo.bd12, len]) (oY (nQ h (by omega)))
  simpa using hrun
theorem zA (f : nA) (hf : SmF f) : oo f = some (mks f.regs.length (defs f), mns f.regs.length (defs f)) := by
  have hn := hf.1
  have hr := hf.2.1
  unfold oo
  simp only [len, zy (n := f.regs.length) _ (show f.regs.length ≤ 1000 by omega), Option.bind_some]
  unfold oo.jn4
  have h0 := zz (List.replicate f.regs.length PMaker.zero) (by simpa using (show f.regs.length ≤ 1000 by omega))
  rw [List.length_replicate] at h0
  rw [h0]
  simp only [Option.bind_some, oo.nx12]
  have hrun := pe (body := fun (s : (List PMaker × List Int × Int)) => oo.bd21 f s.1 s.2.1 s.2.2) (r := (mks f.regs.length (defs f), mns f.regs.length (defs f))) f.blocks.length nB
    (fun i => (mks f.regs.length (defsTo f i), mns f.regs.length (defsTo f i), (i : Int))) (fun i hi => by
      have hB := hf.2.2.2 _ (List.getElem_mem hi)
      obtain ⟨b1, b2, _⟩ := id hB
      have hL := u8 f hf i (by omega)
      simp only [oo.bd21, nP, hi, if_true, nI hi, Option.bind_some]
      have hp := pe (body := fun (s : (List PMaker × List Int × Int)) => oo.bd40 (i : Int) f.blocks[i] s.1 s.2.1 s.2.2) (r := (mks f.regs.length (defsTo f i ++ defsP i f.blocks[i]), mns f.regs.length (defsTo f i ++ defsP i f.blocks[i]))) f.blocks[i].phis.length nB
        (fun k => (mks f.regs.length (defsTo f i ++ (defsP i f.blocks[i]).take k), mns f.regs.length (defsTo f i ++ (defsP i f.blocks[i]).take k), (k : Int))) (fun k hk => by
          have hk' : k < (defsP i f.blocks[i]).length := by simpa [defsP] using hk
          simp only [oo.bd40, nP, hk, if_true, nI hk, Option.bind_some]
          rw [u6 _ _ _ _ (by simp only [List.length_append, List.length_take]; omega)]
          simp only [Option.bind_some, nR hk (show f.blocks[i].phis.length ≤ 1000 by omega)]
          rw [List.take_succ_eq_append_getElem hk', List.append_assoc]
          simp [defsP]) (by simp [oo.bd40, len, List.take_of_length_le, defsP]) (oY (nQ b2 (by omega)))
      simp only [List.take_zero, List.append_nil] at hp
      have hz : (((0 : Nat) : Int)) = 0 := rfl
      rw [hz] at hp
      rw [hp]
      simp only [Option.bind_some, oo.nx40]
      have hq := pe (body := fun (s : (List PMaker × List Int × Int)) => oo.bd47 (i : Int) f.blocks[i] s.1 s.2.1 s.2.2) (r := (mks f.regs.length (defsTo f (i + 1)), mns f.regs.length (defsTo f (i + 1)))) f.blocks[i].ins.length nB
        (fun k => (mks f.regs.length ((defsTo f i ++ defsP i f.blocks[i]) ++ (defsI i f.blocks[i]).take k), mns f.regs.length ((defsTo f i ++ defsP i f.blocks[i]) ++ (defsI i f.blocks[i]).take k), (k : Int))) (fun k hk => by
          have hk' : k < (defsI i f.blocks[i]).length := by simpa [defsI] using hk
          have hpl : (defsP i f.blocks[i]).length ≤ 300 := by simpa [defsP] using b2
          simp only [oo.bd47, nP, hk, if_true, nI hk, Option.bind_some]
          rw [u6 _ _ _ _ (by simp only [List.length_append, List.length_take]; omega)]
          simp only [Option.bind_some, nR hk (show f.blocks[i].ins.length ≤ 1000 by omega)]
          rw [List.take_succ_eq_append_getElem hk', ← List.append_assoc]
          simp [defsI]) (by
            have : f.blocks[i].ins.length = (defsI i f.blocks[i]).length := by simp [defsI]
            simp only [oo.bd47, len]
            rw [if_neg (by omega), this, List.take_length, u7 f hi, defsB, List.append_assoc]) (oY (nQ b1 (by omega)))
      simp only [List.take_zero, List.append_nil] at hq
      rw [hz] at hq
      rw [hq]
      simp only [Option.bind_some, oo.nx47, nR hi (show f.blocks.length ≤ 1000 by omega)]) (by
        simp only [oo.bd21, len]
        rw [if_neg (by omega), zu]) (oY (nQ hn (by omega)))
  have hd0 : defsTo f 0 = [] := by simp [defsTo]
  rw [hd0, zw, zx] at hrun
  have hz : (((0 : Nat) : Int)) = 0 := rfl
  rw [hz] at hrun
  rw [hrun]; rfl
/-- A maker is in a block that is there. -/
theorem zB (f : nA) {x : D3} (h : x ∈ defs f) : ∃ i : Nat, x.2.1 = (i : Int) ∧ i < f.blocks.length := by
  unfold defs at h
  obtain ⟨⟨B, i⟩, h1, h2⟩ := List.mem_flatMap.1 h
  have hi : i < f.blocks.length := by
    have := List.snd_lt_of_mem_zipIdx h1
    simpa using this
  refine ⟨i, ?_, hi⟩
  unfold defsB defsP defsI at h2
  rcases List.mem_append.1 h2 with h3 | h3
  · obtain ⟨p, _, rfl⟩ := List.mem_map.1 h3; rfl
  · obtain ⟨p, _, rfl⟩ := List.mem_map.1 h3; rfl
theorem zC (f : nA) (r : Nat) : (mkr (defs f) r).block = -1 ∨ ∃ i : Nat, (mkr (defs f) r).block = (i : Int) ∧ i < f.blocks.length := by
  by_cases h : cntD (defs f) r = 0
  · left; unfold mkr; rw [u0 h]
  · obtain ⟨x, h1, h2, _⟩ := u5 h
    right
    obtain ⟨i, h3, h4⟩ := zB f h2
    refine ⟨i, ?_, h4⟩
    unfold mkr; rw [h1]; exact h3
end Go.Proofs.Ytpmcbahahjelnaa
namespace Go.Proofs.Ytpmcbahahjelnaa
open Go Go.Proofs
theorem rX {α σ : Type} (L : List α) (g : σ → α → σ) (s0 : σ) {body : σ × Int → Option (Ex σ (σ × Int))} (hl : L.length ≤ 1000)
    (h : ∀ k (hk : k < L.length) s, body (s, (k : Int)) = some (.go (g s L[k], ((k + 1 : Nat) : Int)))) (he : ∀ s, body (s, (L.length : Int)) = some (.ret s)) : whl body nB (s0, 0) = some (L.foldl g s0) := by
  have hrun := pe (body := body) (r := L.foldl g s0) L.length nB (fun k => ((L.take k).foldl g s0, (k : Int))) (fun k hk => by
    rw [h k hk, rO g s0 L hk]) (by rw [he, List.take_length]) (oY (nQ hl (by omega)))
  exact hrun
/-- What the table holds of two blocks. -/
def ovT (T : List (List Bool)) (a b : Int) : Bool := (T.getD a.toNat []).getD b.toNat false
theorem Dim.ovT {n k : Nat} {T : List (List Bool)} (h : Dim n k T) {a b : Int} (a0 : 0 ≤ a) (a1 : a < (n : Int)) (b0 : 0 ≤ b) (b1 : b < (k : Int)) : ∃ row, idx T a = some row ∧ idx row b = some (Go.Proofs.Ytpmcbahahjelnaa.ovT T a b) := by
  obtain ⟨row, r1, r2, r3⟩ := h.get a0 a1
  refine ⟨row, r1, ?_⟩
  obtain ⟨v, v1, v2⟩ := px (xs := row) b0 (by omega)
  rw [v1]
  unfold Go.Proofs.Ytpmcbahahjelnaa.ovT
  simp [List.getD_eq_getElem?_getD, r2, v2]
/-- A use: the register, the block, the place; is it made ahead? -/
def okU (f : nA) (T : List (List Bool)) (u : D3) : Bool :=
  decide (u.1 < f.params) || (decide ((mkr (defs f) u.1.toNat).block ≥ 0) && ((decide (¬ (mkr (defs f) u.1.toNat).block = u.2.1) && ovT T (mkr (defs f) u.1.toNat).block u.2.1) || (decide ((mkr (defs f) u.1.toNat).block = u.2.1) && decide ((mkr (defs f) u.1.toNat).at_ < u.2.2))))
def lowS (f : nA) (T : List (List Bool)) (low : Int) (u : D3) : Int := if okU f T u = false ∧ (low < 0 ∨ u.1 < low) then u.1 else low
theorem s6 (l : o4) (hm : l.makers = mks l.f.regs.length (defs l.f)) (hT : Dim l.f.blocks.length l.f.blocks.length l.over) (low r b a : Int) (hr : hasR l.f r) (hb0 : 0 ≤ b) (hb1 : b < (l.f.blocks.length : Int)) :
    qF (⟨(⟨l.f.params, l.f.result, l.f.regs, l.f.blocks⟩ : nA), l.makers, l.over, low⟩ : o4) r b a = some (lowS l.f l.over low (r, b, a)) := by
  obtain ⟨k, rfl⟩ : ∃ k : Nat, r = k := ⟨r.toNat, by have := hr.1; omega⟩
  have hk : k < l.f.regs.length := by have := hr.2; omega
  unfold qF
  simp only [hm, uW _ hk, Option.bind_some]
  have key : (if (k : Int) < l.f.params then some true else (if (mkr (defs l.f) k).block ≥ 0 then (if ¬ (mkr (defs l.f) k).block = b then (idx l.over (mkr (defs l.f) k).block).bind fun x25 =>
      (idx x25 b).bind fun x33 => some x33 else some false).bind fun t24 => some (decide (t24 = true ∨ ((mkr (defs l.f) k).block = b ∧ (mkr (defs l.f) k).at_ < a))) else some false).bind fun t23 => some t23) = some (okU l.f l.over ((k : Int), b, a)) := by
    unfold okU
    simp only [Int.toNat_natCast]
    by_cases h1 : (k : Int) < l.f.params
    · rw [if_pos h1]; simp [h1]
    rw [if_neg h1]
    rcases zC l.f k with h2 | ⟨i, h2, h3⟩
    · rw [if_neg (by omega)]; simp [h1, h2]
    rw [if_pos (by omega)]
    obtain ⟨row, r1, r2⟩ := hT.ovT (a := (mkr (defs l.f) k).block) (b := b) (by omega) (by omega) hb0 hb1
    rw [r1]
    simp only [Option.bind_some, r2]
    by_cases h4 : (mkr (defs l.f) k).block = b
    · rw [if_neg (by simpa using h4)]
      simp [h1, h4, hb0]
    · rw [if_pos h4]
      have h0 : (mkr (defs l.f) k).block ≥ 0 := by omega
      simp [h1, h4, h0]
  rw [key]
  simp only [Option.bind_some, lowS]
  cases okU l.f l.over ((k : Int), b, a) <;> simp
  split <;> simp_all
def usesP (f : nA) (i : Nat) (B : ny) : List D3 := B.phis.flatMap fun p => p.args.zipIdx.map fun x => (x.1, (oy (nL f) i).getD x.2 0, ((f.blocks.getD ((oy (nL f) i).getD x.2 0).toNat ny.zero).ins.length : Int))
def usesI (i : Nat) (B : ny) : List D3 := B.ins.zipIdx.flatMap fun x => x.1.args.map fun a => (a, (i : Int), ((x.2 : Nat) : Int))
def usesT (i : Nat) (B : ny) : List D3 := if B.term.arg ≥ 0 then [(B.term.arg, (i : Int), (B.ins.length : Int))] else []
def usesB (f : nA) (i : Nat) (B : ny) : List D3 := usesP f i B ++ usesI i B ++ usesT i B
def uses (f : nA) : List D3 := f.blocks.zipIdx.flatMap fun x => usesB f x.2 x.1
theorem zD (l : o4) {m : nT} (hf : SmF l.f) (hok : FuncOk m l.f) (hm : l.makers = mks l.f.regs.length (defs l.f)) (hT : Dim l.f.blocks.length l.f.blocks.length l.over) :
    od l = some ((uses l.f).foldl (lowS l.f l.over) l.lowest) := by
  have hn := hf.1
  unfold od
  rw [rS l.f hf]
  simp only [Option.bind_some]
  have hout := rX l.f.blocks.zipIdx (fun (low : Int) (x : ny × Nat) => (usesB l.f x.2 x.1).foldl (lowS l.f l.over) low) l.lowest (body := fun (s : (Int × Int)) => od.bd10 l (oz (nL l.f)) s.1 s.2) (by simp; omega) (fun i hi low => by
    have hi : i < l.f.blocks.length := by simpa using hi
    have hB := hf.2.2.2 _ (List.getElem_mem hi)
    have hR := BlockOk_regs (hok.blocks _ (List.getElem_mem hi))
    obtain ⟨b1, b2, b3, b4, b5⟩ := id hB
    simp only [od.bd10, nP, hi, if_true, nI hi, Option.bind_some]
    have hg : idx (oz (nL l.f)) (i : Int) = some (oy (nL l.f) i) := by rw [ox]; exact qR _ _ (by rw [oU]; exact hi)
    -- phis
    have hp := rX l.f.blocks[i].phis (fun (low : Int) (p : PPhi) => (p.args.zipIdx.map fun x => (x.1, (oy (nL l.f) i).getD x.2 0, ((l.f.blocks.getD ((oy (nL l.f) i).getD x.2 0).toNat ny.zero).ins.length : Int))).foldl (lowS l.f l.over) low) low (body := fun (s : (Int × Int)) => od.bd29 l (oz (nL l.f)) (i : Int) l.f.blocks[i] s.1 s.2) (by omega) (fun k hk low => by
      have hpm := List.getElem_mem hk
      have hl := hok.ahead i hi _ hpm
      have h5 := b5 _ hpm
      simp only [od.bd29, nP, hk, if_true, nI hk, Option.bind_some]
      have ha := rX (l.f.blocks[i].phis[k].args.zipIdx.map fun x => (x.1, (oy (nL l.f) i).getD x.2 0, ((l.f.blocks.getD ((oy (nL l.f) i).getD x.2 0).toNat ny.zero).ins.length : Int))) (lowS l.f l.over) low (body := fun (s : (Int × Int)) => od.bd85 l (oz (nL l.f)) (i : Int) l.f.blocks[i].phis[k] s.1 s.2) (by simp; omega) (fun j hj low => by
        have hj : j < l.f.blocks[i].phis[k].args.length := by simpa using hj
        have hj2 : j < (oy (nL l.f) i).length := by omega
        have hin := sP (nL l.f) i _ (List.getElem_mem hj2)
        rw [oU] at hin
        have hgd : (oy (nL l.f) i).getD j 0 = (oy (nL l.f) i)[j] := by rw [List.getD_eq_getElem?_getD, List.getElem?_eq_getElem hj2]; rfl
        obtain ⟨C, c1, c2⟩ := px (xs := l.f.blocks) hin.1 hin.2
        have hu := s6 l hm hT low l.f.blocks[i].phis[k].args[j] (oy (nL l.f) i)[j] (len C.ins) (hR.pargs _ hpm _ (List.getElem_mem hj)) hin.1 hin.2
        simp only [od.bd85, nP, hj, if_true, nI hj, Option.bind_some, hg, nI hj2, c1, hu, nR hj (show l.f.blocks[i].phis[k].args.length ≤ 1000 by omega)]
        simp [hgd, List.getD_eq_getElem?_getD, c2, len, List.getElem?_eq_getElem hj2]) (fun s => by simp [od.bd85, len])
      rw [ha]
      simp only [Option.bind_some, od.nx85, nR hk (show l.f.blocks[i].phis.length ≤ 1000 by omega)]) (fun s => by simp [od.bd29, len])
    rw [hp]
    simp only [Option.bind_some, od.nx29]
    -- instructions
    generalize hlow : List.foldl _ low l.f.blocks[i].phis = lo1
    have hI := rX l.f.blocks[i].ins.zipIdx (fun (low : Int) (x : nO × Nat) => (x.1.args.map fun a => (a, (i : Int), ((x.2 : Nat) : Int))).foldl (lowS l.f l.over) low) lo1 (body := fun (s : (Int × Int)) => od.bd38 l (i : Int) l.f.blocks[i] s.1 s.2) (by simp; omega) (fun k hk low => by
      have hk : k < l.f.blocks[i].ins.length := by simpa using hk
      have hxm := List.getElem_mem hk
      have h4 := b4 _ hxm
      simp only [od.bd38, nP, hk, if_true, nI hk, Option.bind_some]
      have ha := rX (l.f.blocks[i].ins[k].args.map fun a => (a, (i : Int), ((k : Nat) : Int))) (lowS l.f l.over) low (body := fun (s : (Int × Int)) => od.bd56 l (i : Int) (k : Int) l.f.blocks[i].ins[k] s.1 s.2) (by simp; omega) (fun j hj low => by
        have hj : j < l.f.blocks[i].ins[k].args.length := by simpa using hj
        have hu := s6 l hm hT low l.f.blocks[i].ins[k].args[j] (i : Int) (k : Int) (hR.args _ hxm _ (List.getElem_mem hj)) (by omega) (by omega)
        simp only [od.bd56, nP, hj, if_true, nI hj, Option.bind_some, hu, nR hj (show l.f.blocks[i].ins[k].args.length ≤ 1000 by omega)]
        simp) (fun s => by simp [od.bd56, len])
      rw [ha]
      simp only [Option.bind_some, od.nx56, nR hk (show l.f.blocks[i].ins.length ≤ 1000 by omega)]
      simp) (fun s => by simp [od.bd38, len])
    rw [hI]
    simp only [Option.bind_some, od.nx38]
    generalize hlow2 : List.foldl _ lo1 l.f.blocks[i].ins.zipIdx = lo2
    have hfin : (usesB l.f i l.f.blocks[i]).foldl (lowS l.f l.over) low = (usesT i l.f.blocks[i]).foldl (lowS l.f l.over) lo2 := by
      unfold usesB usesP usesI
      rw [List.foldl_append, List.foldl_append, List.foldl_flatMap, List.foldl_flatMap, hlow, hlow2]
    have hz : (l.f.blocks.zipIdx)[i]'(by simpa using hi) = (l.f.blocks[i], i) := by simp
    simp only [hz, hfin]
    by_cases ht : l.f.blocks[i].term.arg ≥ 0
    · rw [if_pos ht, s6 l hm hT lo2 l.f.blocks[i].term.arg (i : Int) (len l.f.blocks[i].ins) ⟨ht, hR.arg⟩ (by omega) (by omega)]
      simp only [Option.bind_some, od.jn20, nR hi (show l.f.blocks.length ≤ 1000 by omega), usesT, if_pos ht]
      rfl
    · rw [if_neg ht]
      simp only [od.jn20, nR hi (show l.f.blocks.length ≤ 1000 by omega), usesT, if_neg ht]
      rfl) (fun s => by simp [od.bd10, len])
  rw [hout]
  simp only [Option.bind_some, od.nx10]
  unfold uses
  rw [List.foldl_flatMap]
end Go.Proofs.Ytpmcbahahjelnaa
namespace Go.Proofs.Ytpmcbahahjelnaa
open Go Go.Proofs
/-- Made twice, or a parameter that is made. -/
def Twice (f : nA) (r : Nat) : Prop := cntD (defs f) r > 1 ∨ (cntD (defs f) r > 0 ∧ (r : Int) < f.params)
instance (f : nA) (r : Nat) : Decidable (Twice f r) := by unfold Twice; infer_instance
/-- What Form tells of a proper module's function. -/
inductive FormIs (f : nA) : GErr → Prop
  | shape {s : List Bool} {o : List Int} : Walked f s o → s ≠ List.replicate f.blocks.length true → FormIs f (.code 6)
  | twice {R : List Int} {r : Nat} : Full f R → r < f.regs.length → Twice f r → (∀ j, j < r → ¬ Twice f j) → FormIs f (.spot r (.code 7))
  | none {R : List Int} {T : List (List Bool)} : Full f R → (∀ r, r < f.regs.length → ¬ Twice f r) → oJ f = some T → Dim f.blocks.length f.blocks.length T → (uses f).foldl (lowS f T) (-1) ≥ 0 → FormIs f (.spot ((uses f).foldl (lowS f T) (-1)) (.code 4))
  | ok {R : List Int} {T : List (List Bool)} : Full f R → (∀ r, r < f.regs.length → ¬ Twice f r) → oJ f = some T → Dim f.blocks.length f.blocks.length T → (uses f).foldl (lowS f T) (-1) < 0 → FormIs f .no
theorem zE (m : nT) (hm : SmM m) (k : Nat) (hk : k < m.funcs.length) (hp : Proper m) : ∃ e, oX m (k : Int) = some e ∧ FormIs m.funcs[k] e := by
  obtain ⟨e, he, hiff⟩ := rT m hm
  have he0 : e = GErr.no := hiff.2 hp
  subst he0
  have hf := hm.2 _ (List.getElem_mem hk)
  have hok := hp.funcs _ (List.getElem_mem hk)
  unfold oX
  rw [he]
  simp only [Option.bind_some, len]
  rw [if_neg (by simp), if_neg (by omega), nI hk]
  simp only [Option.bind_some]
  generalize hff : m.funcs[k] = f at *
  obtain ⟨s, o, hw, -, hV⟩ := qH f hf
  have hn := hf.1
  have hpos : 0 < f.blocks.length := by have := hok.small.pos; omega
  rw [hw.rea]
  simp only [Option.bind_some]
  have hsl : s.length ≤ maxLen := nQ (show s.length ≤ 70 by rw [hw.len]; exact hn) (by omega)
  rcases scan0 s (fun i b => if b = true then none else some (GErr.code 6)) (fun s' => oX.bd24 s s') hsl (fun i hi => by
    simp only [oX.bd24, nP, hi, if_true, nI hi, Option.bind_some, o6 hi hsl]
    cases s[i] <;> simp) (by simp [oX.bd24, len]) with ⟨i, hi, r, h1, -, h3⟩ | ⟨hall, h3⟩
  · rw [h3]
    by_cases hb : s[i] = true
    · rw [if_pos hb] at h1; cases h1
    · rw [if_neg hb] at h1; cases h1
      refine ⟨_, rfl, .shape hw fun e => hb ?_⟩
      subst e; simp
  rw [h3]
  simp only [Option.bind_some]
  have hs : s = List.replicate f.blocks.length true := by
    apply List.ext_getElem (by simp [hw.len])
    intro i h1 h2
    have := hall i h1
    by_cases hb : s[i] = true
    · simp [hb]
    · rw [if_neg hb] at this; cases this
  have hfull := uJ f hf hpos hw hs
  unfold oX.nx24
  rw [zA f hf]
  simp only [Option.bind_some]
  have hmx : (List.range f.regs.length).length ≤ maxLen := nQ (show (List.range f.regs.length).length ≤ 300 by rw [List.length_range]; exact hf.2.1) (by omega)
  rcases scan0 (List.range f.regs.length) (fun i r => if Twice f r then some (GErr.spot (r : Int) (.code 7)) else none) (fun s' => oX.bd35 f (mks f.regs.length (defs f), mns f.regs.length (defs f)) s') hmx (fun i hi => by
    have hi' : i < f.regs.length := by simpa using hi
    have hlm : ((i : Int) < len (mns f.regs.length (defs f))) := by simp only [len, uY]; omega
    simp only [oX.bd35, hlm, if_true, sl _ hi', Option.bind_some, List.getElem_range, o6 hi hmx]
    by_cases hc : Twice f i
    · rw [if_pos hc, if_pos (by unfold Twice at hc; omega)]
    · rw [if_neg hc, if_neg (by unfold Twice at hc; omega)]) (by simp [oX.bd35, len, uY]) with ⟨i, hi, r, h1, h2, h4⟩ | ⟨hall2, h4⟩
  · rw [h4]
    have hi' : i < f.regs.length := by simpa using hi
    simp only [List.getElem_range] at h1
    by_cases hc : Twice f i
    · rw [if_pos hc] at h1; cases h1
      refine ⟨_, rfl, .twice hfull hi' hc fun j hj hcj => ?_⟩
      have := h2 j (by simpa using (show j < f.regs.length by omega)) hj
      simp only [List.getElem_range] at this
      rw [if_pos hcj] at this; cases this
    · rw [if_neg hc] at h1; cases h1
  rw [h4]
  simp only [Option.bind_some]
  have hno : ∀ r, r < f.regs.length → ¬ Twice f r := fun r hr hc => by
    have := hall2 r (by simpa using hr)
    simp only [List.getElem_range] at this
    rw [if_pos hc] at this; cases this
  unfold oX.nx35
  obtain ⟨N, L, hL, hN⟩ := uQ hfull
  obtain ⟨T, hT, hD, -⟩ := uR hfull hL hN
  rw [hT]
  simp only [Option.bind_some]
  have hall3 := zD (⟨f, mks f.regs.length (defs f), T, -1⟩ : o4) (m := m) hf hok rfl hD
  have hall4 : od (⟨(⟨f.params, f.result, f.regs, f.blocks⟩ : nA), mks f.regs.length (defs f), T, -1⟩ : o4) = some ((uses f).foldl (lowS f T) (-1)) := hall3
  rw [hall4]
  simp only [Option.bind_some]
  by_cases hc : (uses f).foldl (lowS f T) (-1) ≥ 0
  · rw [if_pos hc]; exact ⟨_, rfl, .none hfull hno hT hD hc⟩
  · rw [if_neg hc]; exact ⟨_, rfl, .ok hfull hno hT hD (by omega)⟩
theorem zF (m : nT) (hm : SmM m) (a : Int) : ∃ e, oX m a = some e := by
  obtain ⟨e, he, hiff⟩ := rT m hm
  by_cases hp : Proper m
  · by_cases ha : a < 0 ∨ a ≥ len m.funcs
    · unfold oX
      rw [he, hiff.2 hp]
      simp only [Option.bind_some]
      rw [if_neg (by simp), if_pos ha]
      exact ⟨_, rfl⟩
    · simp only [len] at ha
      obtain ⟨k, rfl⟩ : ∃ k : Nat, a = k := ⟨a.toNat, by omega⟩
      obtain ⟨e, h1, _⟩ := zE m hm k (by omega) hp
      exact ⟨e, h1⟩
  · unfold oX
    rw [he]
    simp only [Option.bind_some]
    rw [if_pos (fun h => hp (hiff.1 h))]
    exact ⟨_, rfl⟩
end Go.Proofs.Ytpmcbahahjelnaa
namespace Go.Proofs.Ytpmcbahahjelnaa
open Go Go.Proofs
abbrev Mv := nK
def dsts (l : List Mv) : List Int := l.map nK.a
def srcs (l : List Mv) : List Int := l.map nK.b
/-- Nothing else moves from where this one goes. -/
def FreeM (l : List Mv) (i : Nat) (d : Int) : Prop := ∀ (j : Nat) (p : Mv), l[j]? = some p → j ≠ i → p.b ≠ d
/-- A list without doubles whose members all stand in another one that is no longer: the other one is it, in another order. -/
theorem u9 : ∀ (a b : List Int), a.Nodup → (∀ x, x ∈ a → x ∈ b) → b.length ≤ a.length → a.Perm b
  | [], b, _, _, hl => by
    have : b = [] := List.eq_nil_of_length_eq_zero (by simpa using hl)
    subst this; exact .refl _
  | x :: a, b, hn, hs, hl => by
    rw [List.nodup_cons] at hn
    have hx : x ∈ b := hs x (by simp)
    have h1 := List.perm_cons_erase hx
    have hlen : (b.erase x).length + 1 = b.length := by
      rw [List.length_erase_of_mem hx]
      have := List.length_pos_of_mem hx
      omega
    have h2 := u9 a (b.erase x) hn.2 (fun y hy => by
      have hyb := hs y (by simp [hy])
      have hne : y ≠ x := fun h => hn.1 (h ▸ hy)
      exact (List.mem_erase_of_ne hne).2 hyb) (by simp at hl; omega)
    exact (List.Perm.cons x h2).trans h1.symm
/-- Where none is free, what is moved from is what is moved to, in another order. -/
theorem zG (l : List Mv) (hn : (dsts l).Nodup) (hno : ∀ (i : Nat) (p : Mv), l[i]? = some p → ¬ FreeM l i p.a) : (dsts l).Perm (srcs l) := by
  refine u9 _ _ hn (fun x hx => ?_) (by simp [dsts, srcs])
  obtain ⟨p, hp, rfl⟩ := List.mem_map.1 hx
  obtain ⟨i, hi, rfl⟩ := List.getElem_of_mem hp
  have := hno i l[i] (List.getElem?_eq_getElem hi)
  refine Classical.byContradiction fun hc => this fun j q hj _ h => hc ?_
  exact List.mem_map.2 ⟨q, List.mem_of_getElem? hj, h⟩
def renS (r n : Int) (p : Mv) : Mv := ⟨p.a, if p.b = r then n else p.b⟩
theorem zH (l : List nK) (hl : l.length ≤ maxLen) (r : Int) (i : Nat) : ∃ b, pQ l r (i : Int) = some b ∧ (b = false ↔ FreeM l i r) := by
  unfold pQ
  have := scan0 l (fun j p => if (¬ (j : Int) = (i : Int)) ∧ p.b = r then some true else none) (fun s => pQ.bd8 l r (i : Int) s) hl (fun j hj => by
    simp only [pQ.bd8, nP, hj, if_true, nI hj, Option.bind_some, o6 hj hl]
    split <;> rfl) (by simp [pQ.bd8, len])
  rcases this with ⟨j, hj, q, hf, _, hw⟩ | ⟨hall, hw⟩
  · split at hf
    · rename_i hc
      cases hf
      refine ⟨true, by rw [hw]; rfl, ?_⟩
      constructor
      · intro h; cases h
      · intro h
        exact absurd hc.2 (h j l[j] (List.getElem?_eq_getElem hj) (by omega))
    · cases hf
  · refine ⟨false, by rw [hw]; rfl, ?_⟩
    simp only [true_iff]
    intro j p hjp hne he
    obtain ⟨hj, rfl⟩ := List.getElem?_eq_some_iff.1 hjp
    have := hall j hj
    rw [if_pos ⟨by omega, he⟩] at this
    cases this
theorem zI (l : List nK) (hl : l.length ≤ maxLen) :
    ∃ z, whl (fun (s : Int) => n7.bd33 l s) nB 0 = some z ∧ ((∃ (i : Nat) (p : nK), z = (i : Int) ∧ l[i]? = some p ∧ FreeM l i p.a) ∨ (z = -1 ∧ ∀ (i : Nat) (p : nK), l[i]? = some p → ¬ FreeM l i p.a)) := by
  refine om (σ := Int) (s0 := 0) l.length (fun i s => s = (i : Int) ∧ ∀ (j : Nat) (p : nK), j < i → l[j]? = some p → ¬ FreeM l j p.a) (fun z => (∃ (i : Nat) (p : nK), z = (i : Int) ∧ l[i]? = some p ∧ FreeM l i p.a) ∨ (z = -1 ∧ ∀ (i : Nat) (p : nK), l[i]? = some p → ¬ FreeM l i p.a)) hl ?_ ?_ ⟨rfl, fun j p h => by omega⟩
  · rintro i s hi ⟨rfl, hI⟩
    obtain ⟨b, h1, h2⟩ := zH l hl l[i].a i
    cases b with
    | false =>
      exact .inl ⟨(i : Int), by simp only [n7.bd33, nP, hi, if_true, nI hi, Option.bind_some, h1, Bool.not_false], .inl ⟨i, l[i], rfl, List.getElem?_eq_getElem hi, h2.1 rfl⟩⟩
    | true =>
      refine .inr ⟨((i + 1 : Nat) : Int), by simp only [n7.bd33, nP, hi, if_true, nI hi, Option.bind_some, h1, Bool.not_true, Bool.false_eq_true, if_false, o6 hi hl], rfl, fun j p hj hp => ?_⟩
      rcases Nat.lt_or_ge j i with h | h
      · exact hI j p h hp
      · have : j = i := by omega
        subst this
        rw [List.getElem?_eq_getElem hi] at hp
        cases hp
        intro hf
        have := h2.2 hf
        cases this
  · rintro s ⟨rfl, hI⟩
    exact ⟨-1, by simp [n7.bd33, len], .inr ⟨rfl, fun i p hp => hI i p (List.getElem?_eq_some_iff.1 hp).1 hp⟩⟩
theorem zJ (l : List nK) (hl : l.length ≤ maxLen) (c : Int) (p0 : nK) : whl (fun (s : (List nK × Int)) => n7.bd52 c l p0 s.1 s.2) nB (l, 0) = some (l.map (renS p0.b c)) := by
  refine xB l (renS p0.b c) hl (fun i hi L hL hLl hLi hLn => ?_) (by simp [n7.bd52, len])
  simp only [n7.bd52, nP, hi, if_true, nI hLl, Option.bind_some, hLi, n7.jn62, o6 hi hl, Int.toNat_natCast]
  unfold renS
  by_cases h : l[i].b = p0.b
  · simp only [h, if_true]
  · simp only [h, if_false]
    have : L.set i ⟨l[i].a, l[i].b⟩ = L := by
      have e : (⟨l[i].a, l[i].b⟩ : nK) = L[i] := by rw [hLi]
      rw [e, List.set_getElem_self]
    rw [this]
def MayOk (P : List nK) (n0 : Int) : Prop := (dsts P).Nodup ∧ ∀ p, p ∈ P → (0 ≤ p.a ∧ p.a < n0) ∧ 0 ≤ p.b ∧ p.b < n0
theorem zK (l : List nK) (hl : l.length ≤ maxLen) (p : nK) : q6 l p = some (decide (p.a ∈ dsts l)) := by
  have H : ∃ i, pP l p = some i ∧ (i ≥ 0 ↔ p.a ∈ dsts l) := by
    unfold pP
    have := scan0 l (fun i y => if y.a = p.a then some (i : Int) else none) (fun s => pP.bd8 l p s) hl (fun i hi => by
      simp only [pP.bd8, nP, hi, if_true, nI hi, Option.bind_some, o6 hi hl, ry, decide_eq_true_eq]
      split <;> rfl) (by simp [pP.bd8, len])
    rcases this with ⟨i, hi, r, hf, _, hw⟩ | ⟨hall, hw⟩
    · split at hf
      · cases hf
        rename_i hx
        exact ⟨i, by rw [hw]; rfl, fun _ => hx ▸ List.mem_map_of_mem (List.getElem_mem hi), fun _ => by omega⟩
      · cases hf
    · refine ⟨-1, by rw [hw]; rfl, fun h => by omega, fun hx => ?_⟩
      obtain ⟨q, hq, he⟩ := List.mem_map.1 hx
      obtain ⟨i, hi, rfl⟩ := List.getElem_of_mem hq
      have := hall i hi
      simp [he] at this
  obtain ⟨i, h1, h2⟩ := H
  unfold q6
  rw [h1]
  simp only [Option.bind_some, h2]
theorem va {α : Type} {p q : α → Bool} : ∀ {l : List α}, (∀ x, x ∈ l → q x = true → p x = true) → (∃ x, x ∈ l ∧ p x = true ∧ q x = false) → l.countP q < l.countP p
  | [], _, ⟨x, hx, _⟩ => by simp at hx
  | y :: l, h, ⟨x, hx, h1, h2⟩ => by
    have hle : ∀ {l : List α}, (∀ x, x ∈ l → q x = true → p x = true) → l.countP q ≤ l.countP p := fun h => List.countP_mono_left h
    rw [List.countP_cons, List.countP_cons]
    have hl := hle (l := l) (fun z hz => h z (by simp [hz]))
    rcases List.mem_cons.1 hx with rfl | hx
    · rw [h1, h2]; simp; omega
    · have ih := va (l := l) (fun z hz => h z (by simp [hz])) ⟨x, hx, h1, h2⟩
      have := h y (by simp)
      cases hq : q y with
      | true => rw [this hq]; simp; omega
      | false => cases p y <;> simp <;> omega
theorem zL (P : List nK) (hP : P.length ≤ 300) (n0 : Int) : ∃ z, whl (fun (s : (List nK × Int)) => n7.bd8 P n0 s.1 s.2) nB (([] : List nK), 0) = some z ∧ ((¬ MayOk P n0 ∧ z = .ret ([], [], .code 1)) ∨ (MayOk P n0 ∧ z = .go (P.filter fun p => decide (p.a ≠ p.b)))) := by
  have hm := nQ hP (by omega)
  refine om (σ := List nK × Int) (s0 := ([], 0)) P.length (fun i s => s.2 = (i : Int) ∧ MayOk (P.take i) n0 ∧ s.1 = (P.take i).filter fun p => decide (p.a ≠ p.b)) (fun (z : Ex (List nK × List Int × GErr) (List nK)) => (¬ MayOk P n0 ∧ z = .ret ([], [], .code 1)) ∨ (MayOk P n0 ∧ z = .go (P.filter fun p => decide (p.a ≠ p.b)))) hm ?_ ?_ ⟨rfl, ⟨by simp [dsts], by simp⟩, by simp⟩
  · rintro i ⟨l, k⟩ hi ⟨hk, hM, hl⟩
    dsimp only at hk hM hl
    subst hk
    have hu : upto P (i : Int) = some (P.take i) := by unfold upto; rw [if_pos ⟨by omega, by simp; omega⟩]; simp
    have hcd := zK (P.take i) (nQ (by simp; omega : (P.take i).length ≤ 300) (by omega)) P[i]
    have hpm : P[i] ∈ P := List.getElem_mem hi
    have hdt : dsts (P.take (i + 1)) = dsts (P.take i) ++ [P[i].a] := by unfold dsts; rw [List.take_succ_eq_append_getElem hi, List.map_append]; rfl
    have hsub : ∀ q, q ∈ P.take i → q ∈ P := fun q hq => List.mem_of_mem_take hq
    by_cases hr : ((P[i].a < 0 ∨ P[i].b < 0) ∨ P[i].a ≥ n0) ∨ P[i].b ≥ n0
    · refine .inl ⟨_, by simp only [n7.bd8, nP, hi, if_true, nI hi, Option.bind_some, hr], .inl ⟨fun hM' => ?_, rfl⟩⟩
      have := hM'.2 _ hpm
      omega
    · by_cases hin : P[i].a ∈ dsts (P.take i)
      · refine .inl ⟨_, by simp only [n7.bd8, nP, hi, if_true, nI hi, Option.bind_some, hr, if_false, hu, hcd, hin, decide_true], .inl ⟨fun hM' => ?_, rfl⟩⟩
        have hnd : (dsts (P.take (i + 1))).Nodup := hM'.1.sublist ((List.take_sublist _ _).map _)
        rw [hdt, List.nodup_append] at hnd
        exact hnd.2.2 _ hin _ (by simp) rfl
      · have hM2 : MayOk (P.take (i + 1)) n0 := by
          refine ⟨?_, fun p hp => ?_⟩
          · rw [hdt, List.nodup_append]
            exact ⟨hM.1, by simp, fun x hx y hy hxy => by rw [List.mem_singleton.1 hy] at hxy; subst hxy; exact hin hx⟩
          · rw [List.take_succ_eq_append_getElem hi] at hp
            rcases List.mem_append.1 hp with hp | hp
            · exact hM.2 p hp
            · rw [List.mem_singleton.1 hp]; omega
        have hfl : l.length ≤ 1000 := by
          have h1 : ((P.take i).filter fun p => decide (p.a ≠ p.b)).length ≤ (P.take i).length := List.length_filter_le _ _
          have h2 : (P.take i).length ≤ P.length := by simp; omega
          rw [hl]; omega
        have hcat : cat l [P[i]] = some (l ++ [P[i]]) := oQ hfl
        by_cases hne : P[i].a = P[i].b
        · refine .inr ⟨(l, ((i + 1 : Nat) : Int)), by simp only [n7.bd8, nP, hi, if_true, nI hi, Option.bind_some, hr, if_false, hu, hcd, hin, decide_false, Bool.false_eq_true]; rw [if_neg (fun h => h hne)]; simp only [n7.jn91, o6 hi hm], rfl, hM2, ?_⟩
          dsimp only
          rw [List.take_succ_eq_append_getElem hi, List.filter_append, ← hl]
          simp [hne]
        · refine .inr ⟨(l ++ [P[i]], ((i + 1 : Nat) : Int)), by simp only [n7.bd8, nP, hi, if_true, nI hi, Option.bind_some, hr, if_false, hu, hcd, hin, decide_false, Bool.false_eq_true, hne, not_false_eq_true, hcat, n7.jn91, o6 hi hm], rfl, hM2, ?_⟩
          dsimp only
          rw [List.take_succ_eq_append_getElem hi, List.filter_append, ← hl]
          simp [hne]
  · rintro ⟨l, k⟩ ⟨hk, hM, hl⟩
    dsimp only at hk hM hl
    subst hk
    rw [List.take_length] at hM hl
    subst hl
    exact ⟨_, by simp [n7.bd8, len]; rfl, .inr ⟨hM, by simp⟩⟩
def nf (n0 : Int) (l : List nK) : Nat := l.countP fun p => decide (0 ≤ p.b ∧ p.b < n0)
/-- The next register's number, which may come round. -/
def Nxt (n0 : Int) (k : Nat) (c : Int) : Prop := (c = n0 + k ∨ c = n0 + k - 18446744073709551616) ∧ inI64 c
theorem Nxt.succ {n0 c : Int} {k : Nat} (h0 : 0 ≤ n0 ∧ n0 ≤ 9223372036854775807) (hk : k ≤ 1000) (h : Nxt n0 k c) : Nxt n0 (k + 1) (w64 (c + 1)) := by
  obtain ⟨h1, h2, h3⟩ := h
  by_cases hc : c + 1 ≤ 9223372036854775807
  · have hw : w64 (c + 1) = c + 1 := qa ⟨by omega, hc⟩
    rw [hw]
    exact ⟨by omega, by unfold inI64; omega⟩
  · have hw : w64 (c + 1) = -9223372036854775808 := by
      have : c + 1 = 9223372036854775808 := by omega
      rw [this]; rfl
    rw [hw]
    exact ⟨by omega, by unfold inI64; omega⟩
theorem Nxt.out {n0 c : Int} {k : Nat} (h0 : 0 ≤ n0 ∧ n0 ≤ 9223372036854775807) (hk : k ≤ 1000) (h : Nxt n0 k c) : ¬ (0 ≤ c ∧ c < n0) := by
  obtain ⟨h1, h2, h3⟩ := h
  omega
structure Lft (n0 : Int) (P : List nK) (c : Int) (left out : List nK) (fresh : List Int) : Prop where
  nx : Nxt n0 fresh.length c
  nd : (dsts left).Nodup
  dIn : ∀ p, p ∈ left → 0 ≤ p.a ∧ p.a < n0
  frs : ∀ r, r ∈ fresh → 0 ≤ r ∧ r < n0
  cnt : out.length + left.length ≤ P.length + fresh.length
  few : fresh.length + nf n0 left ≤ P.length
  ll : left.length ≤ P.length
theorem Lft.step {P : List nK} (hP : P.length ≤ 300) {n0 : Int} (hi : inI64 n0) (s : Int × List nK × List nK × List Int) (h : Lft n0 P s.1 s.2.1 s.2.2.1 s.2.2.2) :
    (∃ r, (fun (s : (Int × List nK × List nK × List Int)) => n7.bd17 s.1 s.2.1 s.2.2.1 s.2.2.2) s = some (.ret r) ∧ (r.1.length ≤ 600 ∧ r.2.length ≤ 300 ∧ ∀ x, x ∈ r.2 → 0 ≤ x ∧ x < n0)) ∨
    ∃ s', (fun (s : (Int × List nK × List nK × List Int)) => n7.bd17 s.1 s.2.1 s.2.2.1 s.2.2.2) s = some (.go s') ∧ Lft n0 P s'.1 s'.2.1 s'.2.2.1 s'.2.2.2 ∧ s'.2.1.length + nf n0 s'.2.1 < s.2.1.length + nf n0 s.2.1 := by
  obtain ⟨c, left, out, fresh⟩ := s
  dsimp only at h ⊢
  have hcnt := h.cnt
  have hfew := h.few
  have hll := h.ll
  have hlm : left.length ≤ maxLen := nQ (by omega : left.length ≤ 300) (by omega)
  cases hleft : left with
  | nil =>
    subst hleft
    exact .inl ⟨(out, fresh), by simp [n7.bd17, len], by dsimp only; simp at hcnt; omega, by dsimp only; omega, h.frs⟩
  | cons p0 rest =>
    rw [← hleft]
    have hp0 : p0 ∈ left := by rw [hleft]; simp
    have hn0 : 0 ≤ n0 ∧ n0 ≤ 9223372036854775807 := ⟨by have := h.dIn p0 hp0; omega, hi.2⟩
    have hpos : len left > 0 := by rw [hleft]; simp [len]
    have h0 : left[0]? = some p0 := by rw [hleft]; rfl
    have h0i : idx left 0 = some p0 := by
      have := ox left 0
      rw [h0] at this
      exact this
    obtain ⟨z, hz, hcase⟩ := zI left hlm
    right
    rcases hcase with ⟨i, p, rfl, hii, hf⟩ | ⟨rfl, hno⟩
    · have hil := (List.getElem?_eq_some_iff.1 hii).1
      have hix : idx left (i : Int) = some p := by rw [ox, hii]
      have hw1 : w64 ((i : Int) + 1) = (i : Int) + 1 := by rw [o6 hil hlm]; omega
      have hcat : cat out [p] = some (out ++ [p]) := qP (by simp only [LIM, List.length_singleton]; omega)
      have hdel : qI left (i : Int) ((i : Int) + 1) = some (left.eraseIdx i) := by
        unfold qI
        rw [if_pos ⟨by omega, by omega, rfl⟩]; simp
      have h1 : (left.eraseIdx i).length + 1 = left.length := by rw [List.length_eraseIdx, if_pos hil]; omega
      have h2 : nf n0 (left.eraseIdx i) ≤ nf n0 left := (List.eraseIdx_sublist _ _).countP_le
      refine ⟨(c, left.eraseIdx i, out ++ [p], fresh), ?_, ⟨h.nx, h.nd.sublist ((List.eraseIdx_sublist _ _).map _), fun q hq => h.dIn q (List.mem_of_mem_eraseIdx hq), h.frs, ?_, ?_, ?_⟩, ?_⟩
      · simp only [n7.bd17, hpos, if_true, hz, Option.bind_some, n7.nx33]
        rw [if_pos (by omega)]
        simp only [hix, Option.bind_some, hcat, hw1, hdel]
      · dsimp only; rw [List.length_append, List.length_singleton]; omega
      · dsimp only; omega
      · dsimp only; omega
      · show (left.eraseIdx i).length + nf n0 (left.eraseIdx i) < left.length + nf n0 left
        omega
    · have hperm := zG left h.nd hno
      have hp0n : 0 ≤ p0.b ∧ p0.b < n0 := by
        have : p0.b ∈ dsts left := hperm.mem_iff.2 (List.mem_map_of_mem hp0)
        obtain ⟨q', hq', he⟩ := List.mem_map.1 this
        have := h.dIn q' hq'
        rw [he] at this
        exact this
      have hcat : cat out [(⟨c, p0.b⟩ : nK)] = some (out ++ [⟨c, p0.b⟩]) := qP (by simp only [LIM, List.length_singleton]; omega)
      have hcat2 : cat fresh [p0.b] = some (fresh ++ [p0.b]) := qP (by simp only [LIM, List.length_singleton]; omega)
      have hren := zJ left hlm c p0
      have hco := h.nx.out hn0 (by omega)
      have hlt : nf n0 (left.map (renS p0.b c)) < nf n0 left := by
        unfold nf
        rw [List.countP_map]
        refine va (fun x hx hq => ?_) ⟨p0, hp0, by simpa using hp0n, ?_⟩
        · have hq1 : 0 ≤ (renS p0.b c x).b ∧ (renS p0.b c x).b < n0 := of_decide_eq_true hq
          have e : (renS p0.b c x).b = if x.b = p0.b then c else x.b := rfl
          rw [e] at hq1
          refine decide_eq_true ?_
          split at hq1
          · exact absurd hq1 hco
          · exact hq1
        · refine decide_eq_false ?_
          have e : (renS p0.b c p0).b = if p0.b = p0.b then c else p0.b := rfl
          rw [e, if_pos rfl]
          exact hco
      have hdst : dsts (left.map (renS p0.b c)) = dsts left := by simp [dsts, renS, Function.comp_def]
      have hfl : (fresh ++ [p0.b]).length = fresh.length + 1 := by simp
      refine ⟨(w64 (c + 1), left.map (renS p0.b c), out ++ [⟨c, p0.b⟩], fresh ++ [p0.b]), ?_, ⟨by dsimp only; rw [hfl]; exact h.nx.succ hn0 (by omega), by rw [hdst]; exact h.nd, fun q hq => ?_, fun r hr => ?_, ?_, ?_, ?_⟩, ?_⟩
      · simp only [n7.bd17, hpos, if_true, hz, Option.bind_some, n7.nx33]
        rw [if_neg (by omega)]
        simp only [h0i, Option.bind_some, hcat, hcat2, hren, n7.nx52]
      · obtain ⟨q', h1, h2⟩ := List.mem_map.1 hq
        rw [← h2]
        exact h.dIn q' h1
      · rcases List.mem_append.1 hr with hr | hr
        · exact h.frs r hr
        · rw [List.mem_singleton.1 hr]; exact hp0n
      · dsimp only; simp only [List.length_append, List.length_singleton, List.length_map]; omega
      · dsimp only; rw [hfl]; omega
      · dsimp only; rw [List.length_map]; omega
      · show (left.map (renS p0.b c)).length + nf n0 (left.map (renS p0.b c)) < left.length + nf n0 left
        rw [List.length_map]
        omega
theorem vb (P : List nK) (hP : P.length ≤ 300) (n0 : Int) (hi : inI64 n0) : ∃ z, n7 P n0 = some z ∧ z.1.length ≤ 600 ∧ z.2.1.length ≤ 300 ∧ ∀ x, x ∈ z.2.1 → 0 ≤ x ∧ x < n0 := by
  obtain ⟨z, hz, ⟨h1, rfl⟩ | ⟨h1, rfl⟩⟩ := zL P hP n0
  · exact ⟨([], [], .code 1), by simp only [n7, hz, Option.bind_some], by simp, by simp, by simp⟩
  · have hfl : (P.filter fun p => decide (p.a ≠ p.b)).length ≤ P.length := List.length_filter_le _ _
    have h2 : nf n0 (P.filter fun p => decide (p.a ≠ p.b)) ≤ (P.filter fun p => decide (p.a ≠ p.b)).length := List.countP_le_length
    have hF : (1000 : Nat) < nB := oY (by simp [maxLen])
    obtain ⟨r, hr, hr1⟩ := qr (body := fun (s : (Int × List nK × List nK × List Int)) => n7.bd17 s.1 s.2.1 s.2.2.1 s.2.2.2) (fun s => Lft n0 P s.1 s.2.1 s.2.2.1 s.2.2.2) (fun s => s.2.1.length + nf n0 s.2.1) (fun r => r.1.length ≤ 600 ∧ r.2.length ≤ 300 ∧ ∀ x, x ∈ r.2 → 0 ≤ x ∧ x < n0)
      (fun s hs => Lft.step hP hi s hs) nB (n0, P.filter (fun p => decide (p.a ≠ p.b)), ([] : List nK), ([] : List Int))
      ⟨⟨.inl (by simp), hi⟩, h1.1.sublist (List.filter_sublist.map _), fun p hp => (h1.2 p ((List.mem_filter.1 hp).1)).1, by simp, by simpa using hfl, by simp only [List.length_nil]; omega, hfl⟩
      (by show (P.filter fun p => decide (p.a ≠ p.b)).length + nf n0 (P.filter fun p => decide (p.a ≠ p.b)) < nB; omega)
    exact ⟨(r.1, r.2, .no), by simp only [n7, hz, Option.bind_some, n7.nx8, hr, n7.nx17], hr1⟩
end Go.Proofs.Ytpmcbahahjelnaa
namespace Go.Proofs.Ytpmcbahahjelnaa
open Go Go.Proofs
theorem zM (a : List Int) (x : Int) (hl : a.length ≤ maxLen) (hx : x ∈ a) : ∃ i : Nat, pn a x = some (i : Int) ∧ i < a.length := by
  unfold pn
  have := scan0 a (fun i y => if x = y then some (i : Int) else none) (fun s => pn.bd8 a x s) hl (fun i hi => by
    simp only [pn.bd8, nP, hi, if_true, nI hi, Option.bind_some, o6 hi hl]
    split <;> rfl) (by simp [pn.bd8, len])
  rcases this with ⟨i, hi, r, hf, _, hw⟩ | ⟨hall, hw⟩
  · split at hf
    · cases hf
      exact ⟨i, by rw [hw]; rfl, hi⟩
    · cases hf
  · obtain ⟨i, hi, rfl⟩ := List.getElem_of_mem hx
    have := hall i hi
    rw [if_pos rfl] at this
    cases this
theorem zN (ph : List PPhi) (place : Nat) (hl : ph.length ≤ 300) (h : ∀ p ∈ ph, place < p.args.length) : ∃ P, pW ph (place : Int) = some P ∧ P.length ≤ 300 := by
  obtain ⟨z, hz, h1⟩ := om (body := fun (s : List nK × Int) => pW.bd8 ph (place : Int) s.1 s.2) (s0 := ([], 0)) ph.length (fun i s => s.2 = (i : Int) ∧ s.1.length = i) (fun z => z.length ≤ 300) (nQ hl (by omega)) (fun i s hi hI => by
    obtain ⟨M, k⟩ := s
    obtain ⟨rfl, h1⟩ := hI
    simp only at h1
    exact .inr ⟨_, by simp only [pW.bd8, nP, hi, if_true, nI hi, nI (h _ (List.getElem_mem hi)), Option.bind_some, oQ (show M.length ≤ 1000 by omega)]; rfl, nR hi (by omega), by simp [h1]⟩) (fun s hI => by
    obtain ⟨M, k⟩ := s
    obtain ⟨rfl, h1⟩ := hI
    simp only at h1
    exact ⟨M, by simp [pW.bd8, len], by omega⟩) ⟨rfl, rfl⟩
  exact ⟨z, by unfold pW; rw [hz]; rfl, h1⟩
theorem zO (q : List nK × List Int × GErr) (R : List Int) (hq : q.2.1.length ≤ 300) (hr : ∀ x ∈ q.2.1, 0 ≤ x ∧ x < (R.length : Int)) (hR : R.length ≤ 1000000) :
    ∃ z, whl (fun (s : (List Int × Int)) => oN.bd22 q s.1 s.2) nB (R, 0) = some z ∧ z.length ≤ R.length + 300 := by
  refine om (body := fun (s : List Int × Int) => oN.bd22 q s.1 s.2) (s0 := (R, 0)) q.2.1.length (fun i s => s.2 = (i : Int) ∧ s.1.length = R.length + i) (fun z => z.length ≤ R.length + 300) (nQ hq (by omega)) (fun i s hi hI => ?_) (fun s hI => ?_) ⟨rfl, rfl⟩
  · obtain ⟨M, k⟩ := s
    obtain ⟨rfl, h1⟩ := hI
    simp only at h1
    obtain ⟨x0, x1⟩ := hr _ (List.getElem_mem hi)
    obtain ⟨j, hj⟩ : ∃ j : Nat, q.2.1[i] = (j : Int) := ⟨q.2.1[i].toNat, by omega⟩
    have hjM : j < M.length := by omega
    have hc : cat M [M[j]] = some (M ++ [M[j]]) := qP (by simp only [LIM, List.length_singleton]; omega)
    exact .inr ⟨_, by simp only [oN.bd22, nP, hi, if_true, nI hi, hj, nI hjM, Option.bind_some, hc, oN.jn128]; rfl, nR hi (by omega), by simp [h1]; omega⟩
  · obtain ⟨M, k⟩ := s
    obtain ⟨rfl, h1⟩ := hI
    simp only at h1
    exact ⟨M, by simp [oN.bd22, len], by omega⟩
/-- A block without phis, of at most N instructions. -/
def Bk (N : Nat) (B : ny) : Prop := B.phis = [] ∧ B.ins.length ≤ N ∧ B.term.to.length ≤ 70 ∧ ∀ x ∈ B.ins, x.args.length ≤ 300
theorem Bk.mono {N M : Nat} {B : ny} (h : Bk N B) (hn : N ≤ M) : Bk M B := ⟨h.1, by have := h.2.1; omega, h.2.2⟩
/-- Each block's end has as many ways as there. -/
def Same2 (A C : List ny) : Prop := ∀ (j : Nat) (B : ny), A[j]? = some B → ∃ D : ny, C[j]? = some D ∧ B.term.to.length = D.term.to.length
theorem Same2.refl (A : List ny) : Same2 A A := fun j B h => ⟨B, h, rfl⟩
theorem Same2.set {A C : List ny} (h : Same2 A C) {b : Nat} {B B' : ny} (hb : A[b]? = some B) (he : B'.term.to.length = B.term.to.length) : Same2 (A.set b B') C := fun j D hj => by
  have hbl := (List.getElem?_eq_some_iff.1 hb).1
  by_cases hjb : b = j
  · subst hjb
    rw [List.getElem?_set_self hbl] at hj
    cases hj
    obtain ⟨E, h1, h2⟩ := h b B hb
    exact ⟨E, h1, he.trans h2⟩
  · rw [List.getElem?_set_ne hjb] at hj
    exact h j D hj
theorem zP (q : List nK × List Int × GErr) (A : List ny) (N b : Nat) (hb : b < A.length) (hq : q.1.length ≤ 600) (hN : N ≤ 1000000) (hA : ∀ B ∈ A, Bk N B) :
    ∃ z, whl (fun (s : (List ny × Int)) => oN.bd31 (b : Int) q s.1 s.2) nB (A, 0) = some z ∧ z.length = A.length ∧ (∀ B ∈ z, Bk (N + 600) B) ∧ Same2 z A := by
  refine om (body := fun (s : List ny × Int) => oN.bd31 (b : Int) q s.1 s.2) (s0 := (A, 0)) q.1.length (fun i s => s.2 = (i : Int) ∧ s.1.length = A.length ∧ (∀ B ∈ s.1, Bk (N + i) B) ∧ Same2 s.1 A) (fun z => z.length = A.length ∧ (∀ B ∈ z, Bk (N + 600) B) ∧ Same2 z A) (nQ hq (by omega)) (fun i s hi hI => ?_) (fun s hI => ?_) ⟨rfl, rfl, hA, Same2.refl A⟩
  · obtain ⟨M, k⟩ := s
    obtain ⟨rfl, h1, h2, h3⟩ := hI
    simp only at h1 h2 h3
    have hbM : b < M.length := by omega
    obtain ⟨p1, p2, p3, p4⟩ := h2 _ (List.getElem_mem hbM)
    have hc : cat M[b].ins [(⟨2, q.1[i].a, [q.1[i].b], 0, 0⟩ : nO)] = some (M[b].ins ++ [(⟨2, q.1[i].a, [q.1[i].b], 0, 0⟩ : nO)]) := qP (by simp only [LIM, List.length_singleton]; omega)
    refine .inr ⟨_, by simp only [oN.bd31, nP, hi, if_true, nI hi, nI hbM, Option.bind_some, hc, oN.jn41, Int.toNat_natCast]; rfl, nR hi (by omega), by simp [h1], fun B hB => ?_, by dsimp only; exact h3.set (List.getElem?_eq_getElem hbM) (by rfl)⟩
    rcases List.mem_or_eq_of_mem_set hB with hB | rfl
    · exact (h2 B hB).mono (by omega)
    · refine ⟨p1, by simp; omega, p3, fun x hx => ?_⟩
      rcases List.mem_append.1 hx with hx | hx
      · exact p4 x hx
      · rw [List.mem_singleton.1 hx]; simp
  · obtain ⟨M, k⟩ := s
    obtain ⟨rfl, h1, h2, h3⟩ := hI
    simp only at h1 h2 h3
    exact ⟨M, by simp [oN.bd31, len], h1, fun B hB => (h2 B hB).mono (by omega), h3⟩
/-- What is lowered so far, after at most e steps. -/
structure Lw (f : nA) (e : Nat) (R : List Int) (A : List ny) : Prop where
  regs : R.length ≤ 300 + 300 * e
  len0 : f.blocks.length ≤ A.length
  len : A.length ≤ f.blocks.length + e
  bl : ∀ B ∈ A, Bk (300 + 600 * e) B
  to : ∀ i (hi : i < f.blocks.length) (B : ny), A[i]? = some B → B.term.to.length = f.blocks[i].term.to.length
theorem Lw.mono {f : nA} {e e' : Nat} {R : List Int} {A : List ny} (h : Lw f e R A) (he : e ≤ e') : Lw f e' R A :=
  ⟨by have := h.regs; omega, h.len0, by have := h.len; omega, fun B hB => (h.bl B hB).mono (by omega), h.to⟩
set_option maxRecDepth 10000 in
theorem ar1 {w R e : Nat} (h1 : w ≤ R + 300) (h2 : R ≤ 300 + 300 * e) : w ≤ 300 + 300 * (e + 1) := by rw [Nat.mul_succ]; generalize 300 * e = x at *; omega
theorem ar2 {z a n e : Nat} (h1 : z = a) (h2 : a ≤ n + e) : z ≤ n + (e + 1) := by omega
set_option maxRecDepth 10000 in
theorem ar3 (e : Nat) : 300 + 600 * e + 600 ≤ 300 + 600 * (e + 1) := by rw [Nat.mul_succ]; generalize 600 * e = x; omega
theorem zQ {f : nA} (hf : SmF f) {ah : List (List Int)} {pa re : Int} {e : Nat} {R : List Int} {A : List ny} (h : Lw f e R A) (he : e ≤ 300) (b t place : Nat) (hb : b < A.length) (ht : t < f.blocks.length) (hp : ∀ p ∈ f.blocks[t].phis, place < p.args.length) :
    ∃ z, oN (⟨(⟨f.params, f.result, f.regs, f.blocks⟩ : nA), ah, (⟨pa, re, R, A⟩ : nA)⟩ : pB) (b : Int) (t : Int) (place : Int) = some z ∧ Lw f (e + 1) z.2.1 z.2.2 := by
  have hB := hf.2.2.2 _ (List.getElem_mem ht)
  obtain ⟨P, hP, hPl⟩ := zN f.blocks[t].phis place hB.2.1 hp
  have hrl := h.regs
  have hal := h.len
  have hn := hf.1
  obtain ⟨q, hq, q1, q2, q3⟩ := vb P hPl (len R) (by unfold inI64; simp only [len]; omega)
  unfold oN
  simp only [nI ht, Option.bind_some, hP, hq]
  by_cases hc : q.2.2 = GErr.no
  · obtain ⟨w, hw, hwl⟩ := zO q R q2 q3 (by omega)
    obtain ⟨z, hz, z1, z2, z3⟩ := zP q A (300 + 600 * e) b hb q1 (by omega) h.bl
    have g1 : w.length ≤ 300 + 300 * (e + 1) := ar1 hwl hrl
    have g2 : z.length ≤ f.blocks.length + (e + 1) := ar2 z1 hal
    have g3 : f.blocks.length ≤ z.length := by rw [z1]; exact h.len0
    have g4 : 300 + 600 * e + 600 ≤ 300 + 600 * (e + 1) := ar3 e
    refine ⟨(GErr.no, w, z), ?_, ⟨g1, g3, g2, fun B hB => (z2 B hB).mono g4, fun i hi B hB => ?_⟩⟩
    · rw [if_neg (fun h => h hc), hw]
      simp only [Option.bind_some, oN.nx22]
      rw [hz]
      rfl
    obtain ⟨D, d1, d2⟩ := z3 i B hB
    exact d2.trans (h.to i hi D d1)
  · exact ⟨(q.2.2, R, A), by rw [if_pos hc], h.mono (by omega)⟩
end Go.Proofs.Ytpmcbahahjelnaa
namespace Go.Proofs.Ytpmcbahahjelnaa
open Go Go.Proofs
abbrev lwr (f : nA) (pa re : Int) (R : List Int) (A : List ny) : pB := ⟨(⟨f.params, f.result, f.regs, f.blocks⟩ : nA), oz (nL f), (⟨pa, re, R, A⟩ : nA)⟩
variable {f : nA} {m : nT} {e : Nat} {R : List Int} {A : List ny}
theorem zR (hf : SmF f) (hok : FuncOk m f) (pa re : Int) (R0 : List Int) (A0 : List ny) (h : Lw f e R A) (he : e ≤ 300) (i t b : Nat) (k : Int) (hb : b < A.length) (ht : t < f.blocks.length) (hi : i < f.blocks.length) (hx : (t : Int) ∈ f.blocks[i].term.to) :
    ∃ z, oT.jn28 (lwr f pa re R0 A0) (i : Int) R k (t : Int) A (b : Int) = some z ∧ ((∃ r, z = .ret (.ret r) ∧ r.1 ≠ GErr.no) ∨ ∃ R' A', z = .go (R', A', w64 (k + 1)) ∧ Lw f (e + 1) R' A') := by
  have hn := hf.1
  have hnl := oU f
  have hmem : (i : Int) ∈ oy (nL f) t := (sX _ _ _).2 ⟨i, rfl, by omega, by rw [uL f hi]; exact qS.2 ⟨hx, by omega, by omega⟩⟩
  have hpl := sU (nL f) t
  obtain ⟨pl, hpi, hpl2⟩ := zM (oy (nL f) t) (i : Int) (nQ (show (oy (nL f) t).length ≤ 70 by omega) (by omega)) hmem
  have hah : idx (oz (nL f)) (t : Int) = some (oy (nL f) t) := by rw [ox]; exact qR _ _ (by omega)
  obtain ⟨z, hz, hl⟩ := zQ hf (ah := oz (nL f)) (pa := pa) (re := re) h he b t pl hb ht (fun p hp => by rw [hok.ahead t ht p hp]; exact hpl2)
  unfold oT.jn28
  simp only [hah, Option.bind_some, hpi, hz]
  by_cases hc : z.1 = GErr.no
  · exact ⟨.go (z.2.1, z.2.2, w64 (k + 1)), by rw [if_neg (fun h => h hc)]; rfl, .inr ⟨_, _, rfl, hl⟩⟩
  · exact ⟨.ret (.ret (z.1, z.2.1, z.2.2)), by rw [if_pos hc], .inl ⟨_, rfl, hc⟩⟩
/-- No phis in it. -/
def NoPhi (f : nA) : Prop := ∀ B ∈ f.blocks, B.phis = []
theorem EndsOk.two {t : PTerm} (h : EndsOk f t) : t.to.length ≤ 2 := by
  rcases h.kind with ⟨_, a, h⟩ | ⟨_, a, b, h, _⟩ | ⟨_, h⟩ <;> rw [h] <;> simp
theorem zS (hf : SmF f) (hok : FuncOk m f) (pa re : Int) (h : Lw f e R A) (he : e ≤ 280) (i : Nat) (hi : i < f.blocks.length) :
    ∃ z, oT (lwr f pa re R A) (i : Int) = some z ∧ ((z.1 ≠ GErr.no ∧ ¬ NoPhi f) ∨ (z.1 = GErr.no ∧ Lw f (e + 4) z.2.1 z.2.2 ∧ (NoPhi f → z.2 = (R, A)))) := by
  have hends := hok.ends _ (List.getElem_mem hi)
  have h2 := hends.two
  have H : ∃ z, whl (fun (s : (List Int × List ny × Int)) => oT.bd9 (lwr f pa re R A) (i : Int) f.blocks[i] s.1 s.2.1 s.2.2) nB (R, A, 0) = some z ∧ ((∃ r, z = .ret r ∧ r.1 ≠ GErr.no ∧ ¬ NoPhi f) ∨ ∃ p, z = .go p ∧ Lw f (e + 4) p.1 p.2 ∧ (NoPhi f → p = (R, A))) := by
    refine om (body := fun (s : (List Int × List ny × Int)) => oT.bd9 (lwr f pa re R A) (i : Int) f.blocks[i] s.1 s.2.1 s.2.2) (s0 := (R, A, 0)) f.blocks[i].term.to.length
      (fun k s => s.2.2 = (k : Int) ∧ Lw f (e + 2 * k) s.1 s.2.1 ∧ (NoPhi f → s.1 = R ∧ s.2.1 = A)) (fun z => (∃ r, z = .ret r ∧ r.1 ≠ GErr.no ∧ ¬ NoPhi f) ∨ ∃ p, z = .go p ∧ Lw f (e + 4) p.1 p.2 ∧ (NoPhi f → p = (R, A))) (nQ h2 (by omega)) (fun k s hk hI => ?_) (fun s hI => ?_) ⟨rfl, h, fun _ => ⟨rfl, rfl⟩⟩
    · obtain ⟨R1, A1, kk⟩ := s
      obtain ⟨rfl, hL, hno⟩ := hI
      simp only at hL hno
      have hxt := List.getElem_mem hk
      obtain ⟨x0, x1⟩ := hends.to _ hxt
      obtain ⟨t, ht⟩ : ∃ t : Nat, f.blocks[i].term.to[k] = (t : Int) := ⟨f.blocks[i].term.to[k].toNat, by omega⟩
      have htn : t < f.blocks.length := by omega
      rw [ht] at hxt
      have hw := nR hk (show f.blocks[i].term.to.length ≤ 1000 by omega)
      by_cases hph : len f.blocks[t].phis = 0
      · exact .inr ⟨(R1, A1, w64 ((k : Int) + 1)), by simp only [oT.bd9, nP, hk, if_true, nI hk, ht, nI htn, Option.bind_some, hph, oT.jn19], hw, hL.mono (by omega), hno⟩
      have hnp : ¬ NoPhi f := fun h => hph (by rw [h _ (List.getElem_mem htn)]; rfl)
      have hl0 := hL.len0
      have hal := hL.len
      have hn := hf.1
      have fin : ∀ {e' : Nat} {A' : List ny} (b : Nat), Lw f e' R1 A' → e' ≤ e + 2 * k + 1 → b < A'.length → oT.bd9 (lwr f pa re R A) (i : Int) f.blocks[i] R1 A1 (k : Int) = oT.jn28 (lwr f pa re R A) (i : Int) R1 (k : Int) (t : Int) A' (b : Int) →
          (∃ r, oT.bd9 (lwr f pa re R A) (i : Int) f.blocks[i] R1 A1 (k : Int) = some (.ret r) ∧ ((∃ q, r = .ret q ∧ q.1 ≠ GErr.no ∧ ¬ NoPhi f) ∨ ∃ p, r = .go p ∧ Lw f (e + 4) p.1 p.2 ∧ (NoPhi f → p = (R, A)))) ∨
          ∃ s' : List Int × List ny × Int, oT.bd9 (lwr f pa re R A) (i : Int) f.blocks[i] R1 A1 (k : Int) = some (.go s') ∧ s'.2.2 = ((k + 1 : Nat) : Int) ∧ Lw f (e + 2 * (k + 1)) s'.1 s'.2.1 ∧ (NoPhi f → s'.1 = R ∧ s'.2.1 = A) := by
        intro e' A' b hL' he' hb hbd
        obtain ⟨z, hz, hz1⟩ := zR hf hok pa re R A hL' (by omega) i t b (k : Int) hb htn hi hxt
        rw [hbd, hz]
        rcases hz1 with ⟨r, rfl, hr⟩ | ⟨R', A'', rfl, hl⟩
        · exact .inl ⟨_, rfl, .inl ⟨r, rfl, hr, hnp⟩⟩
        · exact .inr ⟨_, rfl, hw, hl.mono (by omega), fun h => absurd h hnp⟩
      by_cases hto : len f.blocks[i].term.to > 1
      · have hiA : i < A1.length := by omega
        have hcat : cat A1 [(⟨([] : List PPhi), ([] : List nO), (⟨1, -1, [(t : Int)]⟩ : PTerm)⟩ : ny)] = some (A1 ++ [(⟨([] : List PPhi), ([] : List nO), (⟨1, -1, [(t : Int)]⟩ : PTerm)⟩ : ny)]) := oQ (by omega)
        have hget : idx (A1 ++ [(⟨([] : List PPhi), ([] : List nO), (⟨1, -1, [(t : Int)]⟩ : PTerm)⟩ : ny)]) (i : Int) = some A1[i] := by rw [ox, List.getElem?_append_left hiA, List.getElem?_eq_getElem hiA]
        have hal2 := hL.to i hi A1[i] (List.getElem?_eq_getElem hiA)
        have hkA : k < A1[i].term.to.length := by omega
        have hbk := hL.bl _ (List.getElem_mem hiA)
        refine fin (e' := e + 2 * k + 1) (A' := (A1 ++ [(⟨([] : List PPhi), ([] : List nO), (⟨1, -1, [(t : Int)]⟩ : PTerm)⟩ : ny)]).set i (⟨A1[i].phis, A1[i].ins, (⟨A1[i].term.kind, A1[i].term.arg, (A1[i].term.to.set k (len A1))⟩ : PTerm)⟩ : ny)) A1.length ?_ (by omega) (by simp) ?_
        · refine ⟨by have := hL.regs; omega, by simp; omega, by simp; omega, fun B hB => ?_, fun j hj B hB => ?_⟩
          · rcases List.mem_or_eq_of_mem_set hB with hB | rfl
            · rcases List.mem_append.1 hB with hB | hB
              · exact (hL.bl B hB).mono (by omega)
              · rw [List.mem_singleton.1 hB]
                exact ⟨rfl, by simp, by simp, by simp⟩
            · exact ⟨hbk.1, by have := hbk.2.1; simp only; omega, by simp only [List.length_set]; exact hbk.2.2.1, hbk.2.2.2⟩
          · by_cases hij : i = j
            · subst hij
              rw [List.getElem?_set_self (by simp; omega)] at hB
              cases hB
              simp only [List.length_set]; exact hal2
            · rw [List.getElem?_set_ne hij, List.getElem?_append_left (by omega)] at hB
              exact hL.to j hj B hB
        · simp only [oT.bd9, nP, hk, if_true, nI hk, ht, nI htn, Option.bind_some, hph, if_false, nI hi, hto, hcat, hget, nI hkA, Int.toNat_natCast]
      · refine fin (e' := e + 2 * k) (A' := A1) i hL (by omega) (by omega) ?_
        simp only [oT.bd9, nP, hk, if_true, nI hk, ht, nI htn, Option.bind_some, hph, if_false, nI hi, hto]
    · obtain ⟨R1, A1, kk⟩ := s
      obtain ⟨rfl, hL, hno⟩ := hI
      simp only at hL hno
      exact ⟨.go (R1, A1), by simp [oT.bd9, len], .inr ⟨(R1, A1), rfl, hL.mono (by omega), fun h => by rw [(hno h).1, (hno h).2]⟩⟩
  unfold oT
  simp only [nI hi, Option.bind_some]
  obtain ⟨z, hz, ⟨r, rfl, hr⟩ | ⟨p, rfl, hp⟩⟩ := H
  · exact ⟨r, by rw [hz]; rfl, .inl hr⟩
  · exact ⟨(GErr.no, p.1, p.2), by rw [hz]; rfl, .inr ⟨rfl, hp.1, hp.2⟩⟩
theorem zT (B : ny) (hB : SmB B) : pv B = some ⟨[], B.ins, B.term⟩ := by
  unfold pv
  rw [qn _ (show B.term.to.length ≤ 1000 by have := hB.2.2.1; omega)]
  simp only [Option.bind_some, pv.jn4]
  have := qz B.ins (fun x => x) (body := fun (s : (List nO × Int)) => pv.bd12 B s.1 s.2) (r := B.ins) (nQ hB.1 (by omega)) (fun i hi => by
    have h1 := hB.2.2.2.1 _ (List.getElem_mem hi)
    simp only [pv.bd12, nP, hi, if_true, nI hi, Option.bind_some, qn _ (show B.ins[i].args.length ≤ 1000 by omega), List.map_id']
    rw [oQ (by simp; have := hB.1; omega), nR hi (by have := hB.1; omega)]
    rfl) (by simp [pv.bd12, len])
  rw [this]
  rfl
theorem zU (hm : SmM m) (a : Int) (h : oX m a = some .no) : Proper m ∧ ∃ k : Nat, a = k ∧ k < m.funcs.length := by
  obtain ⟨e, he, hiff⟩ := rT m hm
  by_cases hp : Proper m
  · by_cases ha : a < 0 ∨ a ≥ len m.funcs
    · unfold oX at h
      rw [he, hiff.2 hp] at h
      simp only [Option.bind_some] at h
      rw [if_neg (by simp), if_pos ha] at h
      cases h
    · simp only [len] at ha
      exact ⟨hp, a.toNat, by omega, by omega⟩
  · exfalso
    unfold oX at h
    rw [he] at h
    simp only [Option.bind_some] at h
    rw [if_pos (fun h' => hp (hiff.1 h'))] at h
    exact hp (hiff.1 (Option.some.inj h))
theorem zV (A : List ny) (hl : A.length ≤ 1000) (hA : ∀ B ∈ A, B.ins.length ≤ 1000000) :
    ∃ z, whl (fun (s : (Int × Int)) => ov.bd44 A s.1 s.2) nB (0, 0) = some z ∧ ∀ B ∈ A, (B.ins.length : Int) ≤ z := by
  refine om (body := fun (s : (Int × Int)) => ov.bd44 A s.1 s.2) (s0 := (0, 0)) A.length (fun i s => s.2 = (i : Int) ∧ ∃ M : Nat, s.1 = (M : Int) ∧ M ≤ i * 2000000 ∧ ∀ B ∈ A.take i, B.ins.length ≤ M) (fun z => ∀ B ∈ A, (B.ins.length : Int) ≤ z) (nQ hl (by omega)) (fun i s hi hI => ?_) (fun s hI => ?_) ⟨rfl, 0, rfl, by omega, by simp⟩
  · obtain ⟨M0, k⟩ := s
    obtain ⟨rfl, M, hM, h1, h2⟩ := hI
    simp only at hM
    subst hM
    have hb := hA _ (List.getElem_mem hi)
    have e1 : w64 (len A[i].ins + 1) = ((A[i].ins.length + 1 : Nat) : Int) := by
      rw [show len A[i].ins + 1 = ((A[i].ins.length + 1 : Nat) : Int) by simp [len]]; exact qN (by omega)
    have e2 : w64 ((M : Int) + ((A[i].ins.length + 1 : Nat) : Int)) = ((M + (A[i].ins.length + 1) : Nat) : Int) := by
      rw [show (M : Int) + ((A[i].ins.length + 1 : Nat) : Int) = ((M + (A[i].ins.length + 1) : Nat) : Int) by omega]; exact qN (by omega)
    refine .inr ⟨_, by simp only [ov.bd44, nP, hi, if_true, nI hi, Option.bind_some, e1, e2]; rfl, nR hi hl, _, rfl, by omega, fun B hB => ?_⟩
    rw [List.take_succ_eq_append_getElem hi] at hB
    rcases List.mem_append.1 hB with hB | hB
    · have := h2 B hB; omega
    · rw [List.mem_singleton.1 hB]; omega
  · obtain ⟨M0, k⟩ := s
    obtain ⟨rfl, M, hM, h1, h2⟩ := hI
    simp only at hM
    subst hM
    rw [List.take_length] at h2
    exact ⟨(M : Int), by simp [ov.bd44, len], fun B hB => by have := h2 B hB; omega⟩
theorem s7 : SmF (⟨0, 0, ([] : List Int), ([] : List ny)⟩ : nA) := ⟨by simp, by simp, by simp, by simp⟩
theorem zW (hm : SmM m) (a : Int) : ∃ r, ov m a = some r ∧ SmF r.1 ∧ (r.2 = GErr.no → ∃ k : Nat, a = k ∧ ∃ hk : k < m.funcs.length, NoPhi m.funcs[k] → r.1 = m.funcs[k]) := by
  obtain ⟨e, he⟩ := zF m hm a
  unfold ov
  rw [he]
  simp only [Option.bind_some]
  by_cases hc : ¬ e = GErr.no
  · exact ⟨_, by rw [if_pos hc], s7, fun h => absurd h hc⟩
  obtain rfl : e = GErr.no := Classical.not_not.1 hc
  clear hc
  rw [if_neg (by simp)]
  obtain ⟨hp, k, rfl, hk⟩ := zU hm a he
  have hf := hm.2 _ (List.getElem_mem hk)
  have hok := hp.funcs _ (List.getElem_mem hk)
  rw [nI hk]
  simp only [Option.bind_some]
  suffices hs : ∀ f : nA, SmF f → FuncOk m f → ∃ r, ((oH f).bind fun x825 => (pE f.regs).bind fun x3625 => (whl (fun (s : (List ny × Int)) => ov.bd26 f s.1 s.2) nB (([] : List ny), 0)).bind fun z => ov.nx26 f x825 x3625 z) = some r ∧ SmF r.1 ∧ (r.2 = GErr.no → NoPhi f → r.1 = f) by
    obtain ⟨r, h1, h2, h3⟩ := hs _ hf hok
    exact ⟨r, h1, h2, fun h => ⟨k, rfl, hk, h3 h⟩⟩
  clear hok hf hk he hp
  intro f hf hok
  have hn := hf.1
  have hn2 := hok.small.blocks
  rw [rS f hf, qn f.regs (by have := hf.2.1; omega)]
  simp only [Option.bind_some]
  have h26 := qz f.blocks (fun B => (⟨[], B.ins, B.term⟩ : ny)) (body := fun (s : (List ny × Int)) => ov.bd26 f s.1 s.2) (r := f.blocks.map (fun B => (⟨[], B.ins, B.term⟩ : ny))) (nQ hn (by omega)) (fun i hi => by
    simp only [ov.bd26, nP, hi, if_true, nI hi, Option.bind_some, zT _ (hf.2.2.2 _ (List.getElem_mem hi))]
    rw [oQ (by simp; omega)]
    simp only [Option.bind_some, ov.jn89, nR hi (show f.blocks.length ≤ 1000 by omega)]) (by simp [ov.bd26, len])
  rw [h26]
  simp only [Option.bind_some, ov.nx26]
  generalize hA0 : f.blocks.map (fun B => (⟨[], B.ins, B.term⟩ : ny)) = A0
  have hL0 : Lw f 0 f.regs A0 := by
    subst hA0
    refine ⟨by have := hf.2.1; omega, by simp, by simp, fun B hB => ?_, fun i hi B hB => ?_⟩
    · obtain ⟨C, hC, rfl⟩ := List.mem_map.1 hB
      have := hf.2.2.2 C hC
      exact ⟨rfl, by simpa using this.1, this.2.2.1, this.2.2.2.1⟩
    · rw [List.getElem?_map, List.getElem?_eq_getElem hi] at hB
      cases hB
      rfl
  have H : ∃ z, whl (fun (s : (List Int × List ny × Int)) => ov.bd35 f (oz (nL f)) s.1 s.2.1 s.2.2) nB (f.regs, A0, 0) = some z ∧ ((∃ r : nA × GErr, z = .ret r ∧ SmF r.1 ∧ r.2 ≠ GErr.no) ∨ ∃ p, z = .go p ∧ Lw f 256 p.1 p.2 ∧ (NoPhi f → p = (f.regs, A0))) := by
    refine om (body := fun (s : (List Int × List ny × Int)) => ov.bd35 f (oz (nL f)) s.1 s.2.1 s.2.2) (s0 := (f.regs, A0, 0)) f.blocks.length
      (fun i s => s.2.2 = (i : Int) ∧ Lw f (4 * i) s.1 s.2.1 ∧ (NoPhi f → s.1 = f.regs ∧ s.2.1 = A0)) (fun z => (∃ r : nA × GErr, z = .ret r ∧ SmF r.1 ∧ r.2 ≠ GErr.no) ∨ ∃ p, z = .go p ∧ Lw f 256 p.1 p.2 ∧ (NoPhi f → p = (f.regs, A0))) (nQ hn (by omega)) (fun i s hi hI => ?_) (fun s hI => ?_) ⟨rfl, hL0, fun _ => ⟨rfl, rfl⟩⟩
    · obtain ⟨R1, A1, kk⟩ := s
      obtain ⟨rfl, hL, hno⟩ := hI
      simp only at hL hno
      obtain ⟨z, hz, hz1⟩ := zS hf hok f.params f.result hL (by omega) i hi
      simp only [ov.bd35, nP, hi, if_true, hz, Option.bind_some]
      rcases hz1 with ⟨h1, h2⟩ | ⟨h1, h2, h3⟩
      · exact .inl ⟨_, by rw [if_pos h1], .inl ⟨_, rfl, s7, h1⟩⟩
      · refine .inr ⟨(z.2.1, z.2.2, w64 ((i : Int) + 1)), by rw [if_neg (fun h => h h1)], nR hi (by omega), h2.mono (by omega), fun h => ?_⟩
        have e1 := h3 h
        rw [e1]
        exact hno h
    · obtain ⟨R1, A1, kk⟩ := s
      obtain ⟨rfl, hL, hno⟩ := hI
      simp only at hL hno
      exact ⟨.go (R1, A1), by simp [ov.bd35, len], .inr ⟨(R1, A1), rfl, hL.mono (by omega), fun h => by rw [(hno h).1, (hno h).2]⟩⟩
  obtain ⟨z, hz, ⟨r, rfl, h1, h2⟩ | ⟨⟨R1, A1⟩, rfl, hL, hno⟩⟩ := H
  · exact ⟨r, by rw [hz]; rfl, h1, fun h => absurd h h2⟩
  rw [hz]
  simp only [Option.bind_some, ov.nx35]
  simp only at hL hno
  have hal := hL.len
  obtain ⟨z, hz, hz1⟩ := zV A1 (by omega) (fun B hB => by have := (hL.bl B hB).2.1; omega)
  rw [hz]
  simp only [Option.bind_some, ov.nx44]
  by_cases hlg : (z > 256 ∨ len R1 > 256) ∨ len A1 > 64
  · exact ⟨_, by rw [if_pos hlg], s7, fun h => by cases h⟩
  · refine ⟨_, by rw [if_neg hlg], ⟨by simp only [len] at hlg ⊢; omega, by simp only [len] at hlg ⊢; omega, by have := hok.typed.few; simp only; omega, fun B hB => ?_⟩, fun _ h => ?_⟩
    · have hb := hL.bl B hB
      have := hz1 B hB
      exact ⟨by omega, by rw [hb.1]; simp, hb.2.2.1, hb.2.2.2, by rw [hb.1]; simp⟩
    · have e1 := hno h
      cases e1
      subst hA0
      have : f.blocks.map (fun B => (⟨[], B.ins, B.term⟩ : ny)) = f.blocks := by
        conv => rhs; rw [← List.map_id f.blocks]
        refine List.map_congr_left fun B hB => ?_
        have := h B hB
        cases B
        simp only at this
        subst this
        rfl
      simp only [this]
end Go.Proofs.Ytpmcbahahjelnaa
namespace Go.Proofs.Ytpmcbahahjelnaa
open Go Go.Proofs
theorem up14 : rc = some true := by kernel_rfl
theorem zX {m : nT} (hm : SmM m) (a : Int) (b : Bool) : ∃ t, qM m a b = some t ∧ SmM t := by
  obtain ⟨r, hr, hr1, _⟩ := zm m hm a
  unfold qM
  rw [hr]
  simp only [Option.bind_some]
  by_cases hc : (((!b) = true ∨ (¬ r.2 = GErr.no)) ∨ a < 0) ∨ a ≥ (len m.funcs)
  · exact ⟨m, by rw [if_pos hc], hm⟩
  · rw [if_neg hc, uc m hm]
    simp only [Option.bind_some]
    obtain ⟨k, rfl⟩ : ∃ k : Nat, a = k := ⟨a.toNat, by omega⟩
    have hk : k < m.funcs.length := by simp only [len] at hc; omega
    rw [nI hk]
    refine ⟨_, rfl, by simpa using hm.1, fun f hf => ?_⟩
    rcases List.mem_or_eq_of_mem_set hf with hf | rfl
    · exact hm.2 f hf
    · exact hr1
end Go.Proofs.Ytpmcbahahjelnaa
namespace Go.Proofs.Ytpmcbahahjelnaa
open Go Go.Proofs
/-- n small blocks, the i-th of which is B -/
structure Rs (n i : Nat) (A : List ny) (B : ny) : Prop where
  len : A.length = n
  sm : ∀ C ∈ A, SmB C
  at_ : A[i]? = some B
theorem Rs.idx {n i : Nat} {A : List ny} {B : ny} (h : Rs n i A B) : idx A (i : Int) = some B := by rw [ox]; exact h.at_
theorem Rs.smB {n i : Nat} {A : List ny} {B : ny} (h : Rs n i A B) : SmB B := h.sm _ (List.mem_of_getElem? h.at_)
theorem Rs.lt {n i : Nat} {A : List ny} {B : ny} (h : Rs n i A B) : i < n := by
  have := h.at_
  rw [← h.len]
  exact (List.getElem?_eq_some_iff.1 this).1
theorem Rs.set {n i : Nat} {A : List ny} {B C : ny} (h : Rs n i A B) (hC : SmB C) : Rs n i (A.set i C) C :=
  ⟨by simp [h.len], fun D hD => (List.mem_or_eq_of_mem_set hD).elim (h.sm D) (fun e => e ▸ hC), by rw [List.getElem?_set_self (by rw [h.len]; exact h.lt)]⟩
theorem zY {n i : Nat} {A : List ny} {B : ny} (h : Rs n i A B) : ∃ z, whl (fun (s : (List ny × Int)) => og.bd93 (i : Int) s.1 s.2) nB (A, 0) = some z ∧ ∃ C, Rs n i z C := by
  have hto := h.smB.2.2.1
  refine om (s0 := (A, 0)) (body := fun (s : (List ny × Int)) => og.bd93 (i : Int) s.1 s.2) B.term.to.length (fun t s => s.2 = (t : Int) ∧ ∃ C, Rs n i s.1 C ∧ C.term.to.length = B.term.to.length) (fun z => ∃ C, Rs n i z C) (nQ hto (by omega)) (fun t s ht hI => ?_) (fun s hI => ?_) ⟨rfl, B, h, rfl⟩
  · obtain ⟨M, k⟩ := s
    obtain ⟨rfl, C, h1, h2⟩ := hI
    simp only at h1
    have ht' : t < C.term.to.length := by omega
    have hs := h1.smB
    refine .inr ⟨_, by simp only [og.bd93, h1.idx, nP, ht', if_true, nI ht', Option.bind_some]; rfl, nR ht (by omega), _, h1.set (C := ⟨C.phis, C.ins, (⟨C.term.kind, C.term.arg, C.term.to.set t 9⟩ : PTerm)⟩) ⟨hs.1, hs.2.1, by simp; exact hs.2.2.1, hs.2.2.2⟩, by simp [h2]⟩
  · obtain ⟨M, k⟩ := s
    obtain ⟨rfl, C, h1, h2⟩ := hI
    simp only at h1
    exact ⟨M, by simp [og.bd93, h1.idx, len, h2], C, h1⟩
theorem zZ {n i : Nat} {A : List ny} {B : ny} (h : Rs n i A B) (j : Nat) (hj : j < B.ins.length) : ∃ z, whl (fun (s : (List ny × Int)) => og.bd115 (i : Int) (j : Int) s.1 s.2) nB (A, 0) = some z ∧ ∃ C, Rs n i z C ∧ C.ins.length = B.ins.length := by
  have hargs := h.smB.2.2.2.1 _ (List.getElem_mem hj)
  refine om (s0 := (A, 0)) (body := fun (s : (List ny × Int)) => og.bd115 (i : Int) (j : Int) s.1 s.2) B.ins[j].args.length (fun t s => s.2 = (t : Int) ∧ ∃ C, Rs n i s.1 C ∧ C.ins.length = B.ins.length ∧ ∃ x, C.ins[j]? = some x ∧ x.args.length = B.ins[j].args.length) (fun z => ∃ C, Rs n i z C ∧ C.ins.length = B.ins.length) (nQ hargs (by omega)) (fun t s ht hI => ?_) (fun s hI => ?_) ⟨rfl, B, h, rfl, _, List.getElem?_eq_getElem hj, rfl⟩
  · obtain ⟨M, k⟩ := s
    obtain ⟨rfl, C, h1, h2, x, h3, h4⟩ := hI
    simp only at h1
    have ht' : t < x.args.length := by omega
    have hs := h1.smB
    have hx : idx C.ins (j : Int) = some x := by rw [ox]; exact h3
    have hxm := hs.2.2.2.1 x (List.mem_of_getElem? h3)
    refine .inr ⟨_, by simp only [og.bd115, h1.idx, hx, nP, ht', if_true, nI ht', Option.bind_some, Int.toNat_natCast]; rfl, nR ht (by omega), _, h1.set (C := ⟨C.phis, C.ins.set j (⟨x.op, x.dst, x.args.set t 9, x.imm, x.fn⟩ : nO), C.term⟩) ⟨by simp; exact hs.1, hs.2.1, hs.2.2.1, fun y hy => ?_, hs.2.2.2.2⟩, by simp [h2], _, by rw [List.getElem?_set_self (by omega)], by simp [h4]⟩
    exact (List.mem_or_eq_of_mem_set hy).elim (hs.2.2.2.1 y) (fun e => by subst e; simp; exact hxm)
  · obtain ⟨M, k⟩ := s
    obtain ⟨rfl, C, h1, h2, x, h3, h4⟩ := hI
    simp only at h1
    have hx : idx C.ins (j : Int) = some x := by rw [ox]; exact h3
    exact ⟨M, by simp [og.bd115, h1.idx, hx, len, h4], C, h1, h2⟩
theorem z0 {n i : Nat} {A : List ny} {B : ny} (h : Rs n i A B) : ∃ z, whl (fun (s : (List ny × Int)) => og.bd100 (i : Int) s.1 s.2) nB (A, 0) = some z ∧ ∃ C, Rs n i z C := by
  have hto := h.smB.1
  refine om (s0 := (A, 0)) (body := fun (s : (List ny × Int)) => og.bd100 (i : Int) s.1 s.2) B.ins.length (fun t s => s.2 = (t : Int) ∧ ∃ C, Rs n i s.1 C ∧ C.ins.length = B.ins.length) (fun z => ∃ C, Rs n i z C) (nQ hto (by omega)) (fun t s ht hI => ?_) (fun s hI => ?_) ⟨rfl, B, h, rfl⟩
  · obtain ⟨M, k⟩ := s
    obtain ⟨rfl, C, h1, h2⟩ := hI
    simp only at h1
    have ht' : t < C.ins.length := by omega
    obtain ⟨z, z1, D, z2, z3⟩ := zZ h1 t ht'
    exact .inr ⟨_, by simp only [og.bd100, h1.idx, nP, ht', if_true, z1, Option.bind_some, og.nx115]; rfl, nR ht (by omega), D, z2, z3.trans h2⟩
  · obtain ⟨M, k⟩ := s
    obtain ⟨rfl, C, h1, h2⟩ := hI
    simp only at h1
    exact ⟨M, by simp [og.bd100, h1.idx, len, h2], C, h1⟩
theorem z7 (A : List ny) (hl : A.length ≤ 70) (hs : ∀ B ∈ A, SmB B) : ∃ z, whl (fun (s : (List ny × Int)) => og.bd28 s.1 s.2) nB (A, 0) = some z ∧ True := by
  refine om (s0 := (A, 0)) (body := fun (s : (List ny × Int)) => og.bd28 s.1 s.2) A.length (fun t s => s.2 = (t : Int) ∧ s.1.length = A.length ∧ ∀ B ∈ s.1, SmB B) (fun z => True) (nQ hl (by omega)) (fun t s ht hI => ?_) (fun s hI => ?_) ⟨rfl, rfl, hs⟩
  · obtain ⟨M, k⟩ := s
    obtain ⟨rfl, h1, h2⟩ := hI
    simp only at h1 h2
    have ht' : t < M.length := by omega
    obtain ⟨z, z1, C, z2⟩ := zY (n := A.length) (i := t) (A := M) (B := M[t]) ⟨h1, h2, List.getElem?_eq_getElem ht'⟩
    obtain ⟨y, y1, D, y2⟩ := z0 z2
    exact .inr ⟨_, by simp only [og.bd28, nP, ht', if_true, z1, Option.bind_some, og.nx93, y1, og.nx100]; rfl, nR ht (by omega), y2.len, y2.sm⟩
  · obtain ⟨M, k⟩ := s
    obtain ⟨rfl, h1, h2⟩ := hI
    simp only at h1
    exact ⟨(), by simp [og.bd28, len, h1], trivial⟩
theorem z8 (P : List nK) (hP : P.length ≤ 300) : whl (fun (s : Int) => og.bd42 P P s) nB 0 = some (.go ()) := by
  have hm := nQ hP (by omega)
  have := scan0 P (fun _ _ => (none : Option Bool)) (fun s => og.bd42 P P s) hm (fun i hi => by
    simp only [og.bd42, nP, hi, if_true, nI hi, Option.bind_some, not_true_eq_false, if_false, o6 hi hm]) (by simp [og.bd42, len])
  rcases this with ⟨i, hi, r, hf, _⟩ | ⟨_, hw⟩
  · cases hf
  · exact hw
theorem z9 (m : nT) (a : Int) (P : List nK) (n0 : Int) (h : wfModule m) (ha : inI64 a) (hP : okL wfPair P) (h0 : inI64 n0) : og m a P n0 = some true := by
  unfold og
  rw [up14]
  obtain ⟨b, hb, hsm⟩ := xy m
  rw [hb]
  simp only [Option.bind_some]
  by_cases hc : (!b) = true ∨ len P > 300
  · rw [if_pos hc]
  rw [if_neg hc]
  have hbt : b = true := by
    cases b with
    | true => rfl
    | false => exact absurd (.inl rfl) hc
  have hPl : P.length ≤ 300 := by
    have : ¬ len P > 300 := fun h => hc (.inr h)
    simp only [len] at this; omega
  obtain ⟨t, ht, htm⟩ := zX (hsm hbt) a true
  obtain ⟨r, hr, hr1, hr2⟩ := zW htm a
  obtain ⟨z, hz, _⟩ := z7 r.1.blocks hr1.1 hr1.2.2.2
  obtain ⟨q, hq, _⟩ := vb P hPl n0 h0
  simp only [ht, Option.bind_some, uc t htm, hr, ub r.1 hr1, hz, og.nx28, qQ (show P.length ≤ 1000 by omega), hq, z8 P hPl, og.nx42, if_true, xA t t htm, decide_true, beq_self_eq_true, and_self, ua r.1 r.1 hr1]
end Go.Proofs.Ytpmcbahahjelnaa
