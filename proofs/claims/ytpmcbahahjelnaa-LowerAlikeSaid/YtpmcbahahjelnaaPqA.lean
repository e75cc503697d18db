/- Layer 9, part A: what finding rings keeps. No conditions. -/
import Derived.Test.YtpmcbahahjelnaaPuB
set_option linter.unusedVariables false
set_option linter.unusedSimpArgs false
namespace Go.Proofs.Ytpmcbahahjelnaa
open Go Go.Proofs

def ok (N : Nat) (x : Int) : Prop := 0 ≤ x ∧ x < (N : Int)
def nu (l : List Int) (x : Int) : Int := l.getD x.toNat 0
def gb (l : List Bool) (x : Int) : Bool := l.getD x.toNat false
def cs (C : List (List Int)) (x : Int) : List Int := C.getD x.toNat []
theorem idx_nu {l : List Int} {x : Int} (h : ok l.length x) : idx l x = some (nu l x) := by
  have : x.toNat < l.length := by have := h.1; have := h.2; omega
  simp [idx, nu, h.1, List.getElem?_eq_getElem this]
theorem idx_gb {l : List Bool} {x : Int} (h : ok l.length x) : idx l x = some (gb l x) := by
  have : x.toNat < l.length := by have := h.1; have := h.2; omega
  simp [idx, gb, h.1, List.getElem?_eq_getElem this]
theorem idx_cs {l : List (List Int)} {x : Int} (h : ok l.length x) : idx l x = some (cs l x) := by
  have : x.toNat < l.length := by have := h.1; have := h.2; omega
  simp [idx, cs, h.1, List.getElem?_eq_getElem this]
theorem nu_set {l : List Int} {v x k : Int} (hv : ok l.length v) (hx : ok l.length x) : nu (l.set v.toNat k) x = if x = v then k else nu l x := by
  obtain ⟨v0, v1⟩ := hv; obtain ⟨x0, x1⟩ := hx
  simp only [nu, List.getD_eq_getElem?_getD, List.getElem?_set]
  by_cases h : x = v
  · subst h
    have : x.toNat < l.length := by omega
    simp [this]
  · rw [if_neg h, if_neg (by omega)]
theorem gb_set {l : List Bool} {v x : Int} {k : Bool} (hv : ok l.length v) (hx : ok l.length x) : gb (l.set v.toNat k) x = if x = v then k else gb l x := by
  obtain ⟨v0, v1⟩ := hv; obtain ⟨x0, x1⟩ := hx
  simp only [gb, List.getD_eq_getElem?_getD, List.getElem?_set]
  by_cases h : x = v
  · subst h
    have : x.toNat < l.length := by omega
    simp [this]
  · rw [if_neg h, if_neg (by omega)]
/-- What can be come to. -/
inductive Rch (C : List (List Int)) : Int → Int → Prop
  | refl (x : Int) : Rch C x x
  | step {x c y : Int} : c ∈ cs C x → Rch C c y → Rch C x y
theorem Rch.trans {C : List (List Int)} {x y z : Int} (h : Rch C x y) (h' : Rch C y z) : Rch C x z := by
  induction h with
  | refl => exact h'
  | step hc _ ih => exact .step hc (ih h')
theorem Rch.closed {C : List (List Int)} {P : Int → Prop} (hP : ∀ x, P x → ∀ c, c ∈ cs C x → P c) {x y : Int} (h : Rch C x y) : P x → P y := by
  induction h with
  | refl => exact id
  | step hc _ ih => exact fun hx => ih (hP _ hx _ hc)
/-- How many numbers are 0. -/
def wc : List Int → Nat
  | [] => 0
  | x :: xs => (if x = 0 then 1 else 0) + wc xs
theorem wc_set : ∀ (l : List Int) (v : Nat) (k : Int), l[v]? = some 0 → k ≠ 0 → wc (l.set v k) + 1 = wc l
  | [], v, k, h, _ => by simp at h
  | x :: xs, 0, k, h, hk => by simp at h; subst h; simp [wc, hk]; omega
  | x :: xs, v + 1, k, h, hk => by
    have := wc_set xs v k (by simpa using h) hk
    simp only [List.set_cons_succ, wc]; omega
theorem wc_pos {l : List Int} {v : Nat} (h : l[v]? = some 0) : 0 < wc l := by
  have := wc_set l v 1 h (by omega); omega

structure Sn where
  num : List Int
  low : List Int
  on : List Bool
  st : List Int
  rings : List (List Int)
  cnt : Int
structure Inv (N : Nat) (C : List (List Int)) (S : Sn) (gr : List Int) : Prop where
  n1 : S.num.length = N
  n2 : S.low.length = N
  n3 : S.on.length = N
  c0 : 0 ≤ S.cnt
  bnd : ∀ x, ok N x → 0 ≤ nu S.num x ∧ nu S.num x ≤ S.cnt
  whites : S.cnt + (wc S.num : Int) = N
  lens : (S.st.length : Int) + (S.rings.length : Int) ≤ S.cnt
  sOk : ∀ x, x ∈ S.st → ok N x
  sOn : ∀ x, ok N x → (gb S.on x = true ↔ x ∈ S.st)
  sNum : ∀ x, x ∈ S.st → 0 < nu S.num x
  sSrt : S.st.Pairwise (fun a b => nu S.num a < nu S.num b)
  rV : ∀ x, (∃ r, r ∈ S.rings ∧ x ∈ r) ↔ ok N x ∧ nu S.num x ≠ 0 ∧ x ∉ S.st
  rNd : S.rings.flatten.Nodup
  rNe : ∀ r, r ∈ S.rings → r ≠ []
  rSrt : ∀ r, r ∈ S.rings → r.Pairwise (fun a b => a < b)
  closed : ∀ (i : Nat) (r : List Int), S.rings[i]? = some r → ∀ x, x ∈ r → ∀ c, c ∈ cs C x → ∃ (j : Nat) (q : List Int), j ≤ i ∧ S.rings[j]? = some q ∧ c ∈ q
  strong : ∀ r, r ∈ S.rings → ∀ a, a ∈ r → ∀ b, b ∈ r → Rch C a b
  fin : ∀ x, ok N x → nu S.num x ≠ 0 → x ∉ gr → ∀ c, c ∈ cs C x → nu S.num c ≠ 0
  back : ∀ x, x ∈ S.st → x ∉ gr → ∃ y, y ∈ S.st ∧ nu S.num y < nu S.num x ∧ Rch C x y
  grS : ∀ x, x ∈ gr → x ∈ S.st
theorem Inv.low {N : Nat} {C : List (List Int)} {S : Sn} {gr : List Int} (h : Inv N C S gr) {l : List Int} (hl : l.length = N) : Inv N C { S with low := l } gr :=
  ⟨h.n1, hl, h.n3, h.c0, h.bnd, h.whites, h.lens, h.sOk, h.sOn, h.sNum, h.sSrt, h.rV, h.rNd, h.rNe, h.rSrt, h.closed, h.strong, h.fin, h.back, h.grS⟩
structure Pst (N : Nat) (C : List (List Int)) (S : Sn) (v : Int) (S' : Sn) (gr : List Int) : Prop where
  inv : Inv N C S' gr
  keepn : ∀ x, ok N x → nu S.num x ≠ 0 → nu S'.num x = nu S.num x
  keepl : ∀ x, ok N x → nu S.num x ≠ 0 → nu S'.low x = nu S.low x
  new : ∀ x, ok N x → nu S.num x = 0 → nu S'.num x ≠ 0 → S.cnt < nu S'.num x
  cle : S.cnt ≤ S'.cnt
  seen : nu S'.num v ≠ 0
  T : ∃ T, S'.st = S.st ++ T ∧ (∀ x, x ∈ T → nu S.num x = 0 ∧ Rch C v x) ∧ ((T = [] ∧ nu S'.low v = nu S'.num v) ∨
    (v ∈ T ∧ nu S'.low v < nu S'.num v ∧ (∃ y, y ∈ S.st ∧ nu S'.low v = nu S.num y ∧ Rch C v y) ∧ ∀ x, x ∈ T → ∀ c, c ∈ cs C x → c ∈ S.st → nu S'.low v ≤ nu S.num c))
structure J (N : Nat) (C : List (List Int)) (S0 : Sn) (v : Int) (gr : List Int) (k : Nat) (S : Sn) : Prop where
  inv : Inv N C S (v :: gr)
  keepn : ∀ x, ok N x → nu S0.num x ≠ 0 → nu S.num x = nu S0.num x
  keepl : ∀ x, ok N x → nu S0.num x ≠ 0 → nu S.low x = nu S0.low x
  new : ∀ x, ok N x → nu S0.num x = 0 → nu S.num x ≠ 0 → S0.cnt < nu S.num x
  cle : S0.cnt < S.cnt
  vis : nu S.num v = S0.cnt + 1
  sT : ∃ U, S.st = S0.st ++ v :: U ∧ (∀ x, x ∈ U → nu S0.num x = 0 ∧ Rch C v x) ∧ ∀ x, x ∈ U → ∀ c, c ∈ cs C x → c ∈ S0.st → nu S.low v ≤ nu S0.num c
  lo : nu S.low v = nu S.num v ∨ (nu S.low v < nu S.num v ∧ ∃ y, y ∈ S0.st ∧ nu S.low v = nu S0.num y ∧ Rch C v y)
  done : ∀ (i : Nat) (c : Int), i < k → (cs C v)[i]? = some c → nu S.num c ≠ 0 ∧ (c ∈ S0.st → nu S.low v ≤ nu S0.num c)

section
variable {N : Nat} {C : List (List Int)} {S0 S S' : Sn} {gr : List Int} {v c : Int} {k : Nat}
theorem Inv.start (h : Inv N C S gr) (hv : ok N v) (h0 : nu S.num v = 0) :
    J N C S v gr 0 ⟨S.num.set v.toNat (S.cnt + 1), S.low.set v.toNat (S.cnt + 1), S.on.set v.toNat true, S.st ++ [v], S.rings, S.cnt + 1⟩ := by
  have hc0 := h.c0
  have hvs : v ∉ S.st := fun hm => by have := h.sNum v hm; omega
  have hn : ∀ x, ok N x → nu (S.num.set v.toNat (S.cnt + 1)) x = if x = v then S.cnt + 1 else nu S.num x := fun x hx => nu_set (by rw [h.n1]; exact hv) (by rw [h.n1]; exact hx)
  have hlw : ∀ x, ok N x → nu (S.low.set v.toNat (S.cnt + 1)) x = if x = v then S.cnt + 1 else nu S.low x := fun x hx => nu_set (by rw [h.n2]; exact hv) (by rw [h.n2]; exact hx)
  have hns : ∀ x, x ∈ S.st → nu (S.num.set v.toNat (S.cnt + 1)) x = nu S.num x := fun x hx => by rw [hn x (h.sOk x hx), if_neg (fun e : x = v => hvs (e ▸ hx))]
  have hvn : nu (S.num.set v.toNat (S.cnt + 1)) v = S.cnt + 1 := by rw [hn v hv, if_pos rfl]
  refine ⟨⟨by simp [h.n1], by simp [h.n2], by simp [h.n3], by simp only; omega, ?_, ?_, ?_, ?_, ?_, ?_, ?_, ?_, h.rNd, h.rNe, h.rSrt, h.closed, h.strong, ?_, ?_, ?_⟩, ?_, ?_, ?_, ?_, hvn, ⟨[], rfl, by simp, by simp⟩, .inl ?_, ?_⟩
  · intro x hx
    simp only [hn x hx]
    have := h.bnd x hx
    split <;> omega
  · have hz : S.num[v.toNat]? = some 0 := by
      have hvl : v.toNat < S.num.length := by rw [h.n1]; have := hv.1; have := hv.2; omega
      rw [List.getElem?_eq_getElem hvl]
      have : nu S.num v = S.num[v.toNat] := by simp [nu, List.getElem?_eq_getElem hvl]
      rw [← this, h0]
    have := wc_set S.num v.toNat (S.cnt + 1) hz (by omega)
    have := h.whites
    simp only
    omega
  · have := h.lens
    simp only [List.length_append, List.length_singleton]; omega
  · intro x hx
    rcases List.mem_append.1 hx with hx | hx
    · exact h.sOk x hx
    · simp at hx; exact hx ▸ hv
  · intro x hx
    simp only [gb_set (k := true) (by rw [h.n3]; exact hv : ok S.on.length v) (by rw [h.n3]; exact hx : ok S.on.length x)]
    by_cases e : x = v
    · simp [e]
    · simp [e, h.sOn x hx]
  · intro x hx
    rcases List.mem_append.1 hx with hx | hx
    · simp only [hns x hx]; exact h.sNum x hx
    · simp at hx; subst hx; simp only [hvn]; omega
  · rw [List.pairwise_append]
    refine ⟨h.sSrt.imp_of_mem fun {a b} ha hb hab => by simp only [hns a ha, hns b hb]; exact hab, by simp, fun a ha b hb => ?_⟩
    simp at hb; subst hb
    simp only [hns a ha, hvn]
    have := (h.bnd a (h.sOk a ha)).2
    omega
  · intro x
    rw [h.rV x]
    by_cases e : x = v
    · subst e; simp [h0]
    · constructor
      · rintro ⟨a, b, d⟩; exact ⟨a, by simp only [hn x a, if_neg e]; exact b, by simp [e, d]⟩
      · rintro ⟨a, b, d⟩; simp only [hn x a, if_neg e] at b; exact ⟨a, b, fun hm => d (List.mem_append_left _ hm)⟩
  · intro x hx hx0 hg c hc
    have e : x ≠ v := fun e => hg (by rw [e]; exact List.mem_cons_self ..)
    simp only [hn x hx, if_neg e] at hx0
    have := h.fin x hx hx0 (fun hm => hg (List.mem_cons_of_mem _ hm)) c hc
    intro h00
    by_cases e' : c = v
    · subst e'; simp only [hvn] at h00; omega
    · apply this
      simp only [nu, List.getD_eq_getElem?_getD, List.getElem?_set] at h00 ⊢
      split at h00
      · split at h00
        · simp at h00; omega
        · rename_i hh hl; rw [List.getElem?_eq_none (by omega)]; rfl
      · exact h00
  · intro x hx hg
    have e : x ≠ v := fun e => hg (by rw [e]; exact List.mem_cons_self ..)
    have hx' : x ∈ S.st := by
      rcases List.mem_append.1 hx with hx | hx
      · exact hx
      · simp at hx; exact absurd hx e
    obtain ⟨y, y1, y2, y3⟩ := h.back x hx' (fun hm => hg (List.mem_cons_of_mem _ hm))
    exact ⟨y, List.mem_append_left _ y1, by simp only [hns x hx', hns y y1]; exact y2, y3⟩
  · intro x hx
    rcases List.mem_cons.1 hx with rfl | hx
    · exact List.mem_append_right _ (by simp)
    · exact List.mem_append_left _ (h.grS x hx)
  · intro x hx hx0
    simp only [hn x hx]
    rw [if_neg (fun e : x = v => by subst e; exact hx0 h0)]
  · intro x hx hx0
    simp only [hlw x hx]
    rw [if_neg (fun e : x = v => by subst e; exact hx0 h0)]
  · intro x hx hx0 hx1
    simp only [hn x hx] at hx1 ⊢
    split at hx1
    · rename_i e; rw [if_pos e]; omega
    · exact absurd hx0 hx1
  · simp only; omega
  · simp only [hlw v hv, hvn, if_true]
  · intro i c hi; omega
end
end Go.Proofs.Ytpmcbahahjelnaa
