/- Several parts in one text, the first of which: Layer 9, part A: what finding rings keeps. No conditions. -/
import Derived.Test.YtpomfbdbkejedaaPzP
import Derived.Test.YtpomfbdbkejedaaOp
import Derived.Test.YtpomfbdbkejedaaE14
import Derived.KernelRfl
set_option linter.unusedVariables false
set_option linter.unusedSimpArgs false
namespace Go.Proofs.Ytpomfbdbkejedaa
open Go Go.Proofs

def ok (N : Nat) (x : Int) : Prop := 0 ≤ x ∧ x < (N : Int)
def nu (l : List Int) (x : Int) : Int := l.getD x.toNat 0
def gb (l : List Bool) (x : Int) : Bool := l.getD x.toNat false
def cs (C : List (List Int)) (x : Int) : List Int := C.getD x.toNat []
theorem idx_nu {l : List Int} {x : Int} (h : ok l.length x) : idx l x = some (nu l x) := by
  have : x.toNat < l.length := by have := h.1; have := h.2; omega
  simp [idx, nu, h.1, List.getElem?_eq_getElem this]
theorem idx_gb {l : List Bool} {x : Int} (h : ok l.length x) : idx l x = some (gb l x) := by
  have : x.toNat < l.length := by have := h.1; have := h.2; omega
  simp [idx, gb, h.1, List.getElem?_eq_getElem this]
theorem idx_cs {l : List (List Int)} {x : Int} (h : ok l.length x) : idx l x = some (cs l x) := by
  have : x.toNat < l.length := by have := h.1; have := h.2; omega
  simp [idx, cs, h.1, List.getElem?_eq_getElem this]
theorem nu_set {l : List Int} {v x k : Int} (hv : ok l.length v) (hx : ok l.length x) : nu (l.set v.toNat k) x = if x = v then k else nu l x := by
  obtain ⟨v0, v1⟩ := hv; obtain ⟨x0, x1⟩ := hx
  simp only [nu, List.getD_eq_getElem?_getD, List.getElem?_set]
  by_cases h : x = v
  · subst h
    have : x.toNat < l.length := by omega
    simp [this]
  · rw [if_neg h, if_neg (by omega)]
theorem gb_set {l : List Bool} {v x : Int} {k : Bool} (hv : ok l.length v) (hx : ok l.length x) : gb (l.set v.toNat k) x = if x = v then k else gb l x := by
  obtain ⟨v0, v1⟩ := hv; obtain ⟨x0, x1⟩ := hx
  simp only [gb, List.getD_eq_getElem?_getD, List.getElem?_set]
  by_cases h : x = v
  · subst h
    have : x.toNat < l.length := by omega
    simp [this]
  · rw [if_neg h, if_neg (by omega)]
/-- What can be come to. -/
inductive Rch (C : List (List Int)) : Int → Int → Prop
  | refl (x : Int) : Rch C x x
  | step {x c y : Int} : c ∈ cs C x → Rch C c y → Rch C x y
theorem Rch.trans {C : List (List Int)} {x y z : Int} (h : Rch C x y) (h' : Rch C y z) : Rch C x z := by
  induction h with
  | refl => exact h'
  | step hc _ ih => exact .step hc (ih h')
theorem Rch.closed {C : List (List Int)} {P : Int → Prop} (hP : ∀ x, P x → ∀ c, c ∈ cs C x → P c) {x y : Int} (h : Rch C x y) : P x → P y := by
  induction h with
  | refl => exact id
  | step hc _ ih => exact fun hx => ih (hP _ hx _ hc)
/-- How many numbers are 0. -/
def wc : List Int → Nat
  | [] => 0
  | x :: xs => (if x = 0 then 1 else 0) + wc xs
theorem wc_set : ∀ (l : List Int) (v : Nat) (k : Int), l[v]? = some 0 → k ≠ 0 → wc (l.set v k) + 1 = wc l
  | [], v, k, h, _ => by simp at h
  | x :: xs, 0, k, h, hk => by simp at h; subst h; simp [wc, hk]; omega
  | x :: xs, v + 1, k, h, hk => by
    have := wc_set xs v k (by simpa using h) hk
    simp only [List.set_cons_succ, wc]; omega
theorem wc_pos {l : List Int} {v : Nat} (h : l[v]? = some 0) : 0 < wc l := by
  have := wc_set l v 1 h (by omega); omega

structure Sn where
  num : List Int
  low : List Int
  on : List Bool
  st : List Int
  rings : List (List Int)
  cnt : Int
structure Inv (N : Nat) (C : List (List Int)) (S : Sn) (gr : List Int) : Prop where
  n1 : S.num.length = N
  n2 : S.low.length = N
  n3 : S.on.length = N
  c0 : 0 ≤ S.cnt
  bnd : ∀ x, ok N x → 0 ≤ nu S.num x ∧ nu S.num x ≤ S.cnt
  whites : S.cnt + (wc S.num : Int) = N
  lens : (S.st.length : Int) + (S.rings.length : Int) ≤ S.cnt
  sOk : ∀ x, x ∈ S.st → ok N x
  sOn : ∀ x, ok N x → (gb S.on x = true ↔ x ∈ S.st)
  sNum : ∀ x, x ∈ S.st → 0 < nu S.num x
  sSrt : S.st.Pairwise (fun a b => nu S.num a < nu S.num b)
  rV : ∀ x, (∃ r, r ∈ S.rings ∧ x ∈ r) ↔ ok N x ∧ nu S.num x ≠ 0 ∧ x ∉ S.st
  rNd : S.rings.flatten.Nodup
  rNe : ∀ r, r ∈ S.rings → r ≠ []
  rSrt : ∀ r, r ∈ S.rings → r.Pairwise (fun a b => a < b)
  closed : ∀ (i : Nat) (r : List Int), S.rings[i]? = some r → ∀ x, x ∈ r → ∀ c, c ∈ cs C x → ∃ (j : Nat) (q : List Int), j ≤ i ∧ S.rings[j]? = some q ∧ c ∈ q
  strong : ∀ r, r ∈ S.rings → ∀ a, a ∈ r → ∀ b, b ∈ r → Rch C a b
  fin : ∀ x, ok N x → nu S.num x ≠ 0 → x ∉ gr → ∀ c, c ∈ cs C x → nu S.num c ≠ 0
  back : ∀ x, x ∈ S.st → x ∉ gr → ∃ y, y ∈ S.st ∧ nu S.num y < nu S.num x ∧ Rch C x y
  grS : ∀ x, x ∈ gr → x ∈ S.st
theorem Inv.low {N : Nat} {C : List (List Int)} {S : Sn} {gr : List Int} (h : Inv N C S gr) {l : List Int} (hl : l.length = N) : Inv N C { S with low := l } gr :=
  ⟨h.n1, hl, h.n3, h.c0, h.bnd, h.whites, h.lens, h.sOk, h.sOn, h.sNum, h.sSrt, h.rV, h.rNd, h.rNe, h.rSrt, h.closed, h.strong, h.fin, h.back, h.grS⟩
structure Pst (N : Nat) (C : List (List Int)) (S : Sn) (v : Int) (S' : Sn) (gr : List Int) : Prop where
  inv : Inv N C S' gr
  keepn : ∀ x, ok N x → nu S.num x ≠ 0 → nu S'.num x = nu S.num x
  keepl : ∀ x, ok N x → nu S.num x ≠ 0 → nu S'.low x = nu S.low x
  new : ∀ x, ok N x → nu S.num x = 0 → nu S'.num x ≠ 0 → S.cnt < nu S'.num x
  cle : S.cnt ≤ S'.cnt
  seen : nu S'.num v ≠ 0
  T : ∃ T, S'.st = S.st ++ T ∧ (∀ x, x ∈ T → nu S.num x = 0 ∧ Rch C v x) ∧ ((T = [] ∧ nu S'.low v = nu S'.num v) ∨
    (v ∈ T ∧ nu S'.low v < nu S'.num v ∧ (∃ y, y ∈ S.st ∧ nu S'.low v = nu S.num y ∧ Rch C v y) ∧ ∀ x, x ∈ T → ∀ c, c ∈ cs C x → c ∈ S.st → nu S'.low v ≤ nu S.num c))
structure J (N : Nat) (C : List (List Int)) (S0 : Sn) (v : Int) (gr : List Int) (k : Nat) (S : Sn) : Prop where
  inv : Inv N C S (v :: gr)
  keepn : ∀ x, ok N x → nu S0.num x ≠ 0 → nu S.num x = nu S0.num x
  keepl : ∀ x, ok N x → nu S0.num x ≠ 0 → nu S.low x = nu S0.low x
  new : ∀ x, ok N x → nu S0.num x = 0 → nu S.num x ≠ 0 → S0.cnt < nu S.num x
  cle : S0.cnt < S.cnt
  vis : nu S.num v = S0.cnt + 1
  sT : ∃ U, S.st = S0.st ++ v :: U ∧ (∀ x, x ∈ U → nu S0.num x = 0 ∧ Rch C v x) ∧ ∀ x, x ∈ U → ∀ c, c ∈ cs C x → c ∈ S0.st → nu S.low v ≤ nu S0.num c
  lo : nu S.low v = nu S.num v ∨ (nu S.low v < nu S.num v ∧ ∃ y, y ∈ S0.st ∧ nu S.low v = nu S0.num y ∧ Rch C v y)
  done : ∀ (i : Nat) (c : Int), i < k → (cs C v)[i]? = some c → nu S.num c ≠ 0 ∧ (c ∈ S0.st → nu S.low v ≤ nu S0.num c)

section
variable {N : Nat} {C : List (List Int)} {S0 S S' : Sn} {gr : List Int} {v c : Int} {k : Nat}
theorem Inv.start (h : Inv N C S gr) (hv : ok N v) (h0 : nu S.num v = 0) :
    J N C S v gr 0 ⟨S.num.set v.toNat (S.cnt + 1), S.low.set v.toNat (S.cnt + 1), S.on.set v.toNat true, S.st ++ [v], S.rings, S.cnt + 1⟩ := by
  have hc0 := h.c0
  have hvs : v ∉ S.st := fun hm => by have := h.sNum v hm; omega
  have hn : ∀ x, ok N x → nu (S.num.set v.toNat (S.cnt + 1)) x = if x = v then S.cnt + 1 else nu S.num x := fun x hx => nu_set (by rw [h.n1]; exact hv) (by rw [h.n1]; exact hx)
  have hlw : ∀ x, ok N x → nu (S.low.set v.toNat (S.cnt + 1)) x = if x = v then S.cnt + 1 else nu S.low x := fun x hx => nu_set (by rw [h.n2]; exact hv) (by rw [h.n2]; exact hx)
  have hns : ∀ x, x ∈ S.st → nu (S.num.set v.toNat (S.cnt + 1)) x = nu S.num x := fun x hx => by rw [hn x (h.sOk x hx), if_neg (fun e : x = v => hvs (e ▸ hx))]
  have hvn : nu (S.num.set v.toNat (S.cnt + 1)) v = S.cnt + 1 := by rw [hn v hv, if_pos rfl]
  refine ⟨⟨by simp [h.n1], by simp [h.n2], by simp [h.n3], by simp only; omega, ?_, ?_, ?_, ?_, ?_, ?_, ?_, ?_, h.rNd, h.rNe, h.rSrt, h.closed, h.strong, ?_, ?_, ?_⟩, ?_, ?_, ?_, ?_, hvn, ⟨[], rfl, by simp, by simp⟩, .inl ?_, ?_⟩
  · intro x hx
    simp only [hn x hx]
    have := h.bnd x hx
    split <;> omega
  · have hz : S.num[v.toNat]? = some 0 := by
      have hvl : v.toNat < S.num.length := by rw [h.n1]; have := hv.1; have := hv.2; omega
      rw [List.getElem?_eq_getElem hvl]
      have : nu S.num v = S.num[v.toNat] := by simp [nu, List.getElem?_eq_getElem hvl]
      rw [← this, h0]
    have := wc_set S.num v.toNat (S.cnt + 1) hz (by omega)
    have := h.whites
    simp only
    omega
  · have := h.lens
    simp only [List.length_append, List.length_singleton]; omega
  · intro x hx
    rcases List.mem_append.1 hx with hx | hx
    · exact h.sOk x hx
    · simp at hx; exact hx ▸ hv
  · intro x hx
    simp only [gb_set (k := true) (by rw [h.n3]; exact hv : ok S.on.length v) (by rw [h.n3]; exact hx : ok S.on.length x)]
    by_cases e : x = v
    · simp [e]
    · simp [e, h.sOn x hx]
  · intro x hx
    rcases List.mem_append.1 hx with hx | hx
    · simp only [hns x hx]; exact h.sNum x hx
    · simp at hx; subst hx; simp only [hvn]; omega
  · rw [List.pairwise_append]
    refine ⟨h.sSrt.imp_of_mem fun {a b} ha hb hab => by simp only [hns a ha, hns b hb]; exact hab, by simp, fun a ha b hb => ?_⟩
    simp at hb; subst hb
    simp only [hns a ha, hvn]
    have := (h.bnd a (h.sOk a ha)).2
    omega
  · intro x
    rw [h.rV x]
    by_cases e : x = v
    · subst e; simp [h0]
    · constructor
      · rintro ⟨a, b, d⟩; exact ⟨a, by simp only [hn x a, if_neg e]; exact b, by simp [e, d]⟩
      · rintro ⟨a, b, d⟩; simp only [hn x a, if_neg e] at b; exact ⟨a, b, fun hm => d (List.mem_append_left _ hm)⟩
  · intro x hx hx0 hg c hc
    have e : x ≠ v := fun e => hg (by rw [e]; exact List.mem_cons_self ..)
    simp only [hn x hx, if_neg e] at hx0
    have := h.fin x hx hx0 (fun hm => hg (List.mem_cons_of_mem _ hm)) c hc
    intro h00
    by_cases e' : c = v
    · subst e'; simp only [hvn] at h00; omega
    · apply this
      simp only [nu, List.getD_eq_getElem?_getD, List.getElem?_set] at h00 ⊢
      split at h00
      · split at h00
        · simp at h00; omega
        · rename_i hh hl; rw [List.getElem?_eq_none (by omega)]; rfl
      · exact h00
  · intro x hx hg
    have e : x ≠ v := fun e => hg (by rw [e]; exact List.mem_cons_self ..)
    have hx' : x ∈ S.st := by
      rcases List.mem_append.1 hx with hx | hx
      · exact hx
      · simp at hx; exact absurd hx e
    obtain ⟨y, y1, y2, y3⟩ := h.back x hx' (fun hm => hg (List.mem_cons_of_mem _ hm))
    exact ⟨y, List.mem_append_left _ y1, by simp only [hns x hx', hns y y1]; exact y2, y3⟩
  · intro x hx
    rcases List.mem_cons.1 hx with rfl | hx
    · exact List.mem_append_right _ (by simp)
    · exact List.mem_append_left _ (h.grS x hx)
  · intro x hx hx0
    simp only [hn x hx]
    rw [if_neg (fun e : x = v => by subst e; exact hx0 h0)]
  · intro x hx hx0
    simp only [hlw x hx]
    rw [if_neg (fun e : x = v => by subst e; exact hx0 h0)]
  · intro x hx hx0 hx1
    simp only [hn x hx] at hx1 ⊢
    split at hx1
    · rename_i e; rw [if_pos e]; omega
    · exact absurd hx0 hx1
  · simp only; omega
  · simp only [hlw v hv, hvn, if_true]
  · intro i c hi; omega
end
end Go.Proofs.Ytpomfbdbkejedaa
set_option linter.unusedVariables false
set_option linter.unusedSimpArgs false
namespace Go.Proofs.Ytpomfbdbkejedaa
open Go Go.Proofs

section
variable {N : Nat} {C : List (List Int)} {S0 S S' : Sn} {gr : List Int} {v c : Int} {k : Nat}
/-- The part of the stack from v on. -/
theorem J.low_num (h : J N C S0 v gr k S) : nu S.low v ≤ nu S.num v := by
  rcases h.lo with h | ⟨h, _⟩ <;> omega
theorem J.above (h : J N C S0 v gr k S) {U : List Int} (hU : S.st = S0.st ++ v :: U) : (∀ a, a ∈ S0.st → ∀ b, b ∈ v :: U → nu S.num a < nu S.num b) ∧ (∀ b, b ∈ U → nu S.num v < nu S.num b) ∧ (v :: U).Pairwise (fun a b => nu S.num a < nu S.num b) := by
  have hs := h.inv.sSrt
  rw [hU, List.pairwise_append] at hs
  exact ⟨hs.2.2, (List.pairwise_cons.1 hs.2.1).1, hs.2.1⟩
theorem J.below (h : J N C S0 v gr k S) {U : List Int} (hU : S.st = S0.st ++ v :: U) {y : Int} (hy : y ∈ S.st) (hlt : nu S.num y < nu S.num v) : y ∈ S0.st := by
  rw [hU] at hy
  rcases List.mem_append.1 hy with hy | hy
  · exact hy
  rcases List.mem_cons.1 hy with rfl | hy
  · omega
  · have := (h.above hU).2.1 y hy; omega
theorem J.numS (h : J N C S0 v gr k S) (h0 : Inv N C S0 gr) {y : Int} (hy : y ∈ S0.st) : nu S.num y = nu S0.num y :=
  h.keepn y (h0.sOk y hy) (by have := h0.sNum y hy; omega)
/-- A lower 'low': what holds with it. -/
theorem J.lower (hj : J N C S0 v gr k S) (h0 : Inv N C S0 gr) (hv : ok N v) (hv0 : nu S0.num v = 0) (hcv : (cs C v)[k]? = some c) {m : Int} {S1 : Sn}
    (hI : Inv N C S1 (v :: gr)) (hn : ∀ x, ok N x → nu S.num x ≠ 0 → nu S1.num x = nu S.num x) (hl : ∀ x, ok N x → nu S.num x ≠ 0 → nu S1.low x = nu S.low x)
    (hnew : ∀ x, ok N x → nu S.num x = 0 → nu S1.num x ≠ 0 → S.cnt < nu S1.num x) (hcle : S.cnt ≤ S1.cnt) (hC : ∀ x, ok N x → ∀ c, c ∈ cs C x → ok N c)
    (hm : m ≤ nu S.low v) (hmm : m = nu S.low v ∨ (m < nu S.low v ∧ ∃ y, y ∈ S0.st ∧ m = nu S0.num y ∧ Rch C v y))
    (T : List Int) (hT : S1.st = S.st ++ T) (hTn : ∀ x, x ∈ T → nu S.num x = 0 ∧ Rch C v x) (hTe : ∀ x, x ∈ T → ∀ c, c ∈ cs C x → c ∈ S0.st → m ≤ nu S0.num c)
    (hc1 : nu S1.num c ≠ 0) (hc2 : c ∈ S0.st → m ≤ nu S0.num c) : J N C S0 v gr (k + 1) { S1 with low := S1.low.set v.toNat m } := by
  have hvis := hj.vis
  have hc0 := h0.c0
  have hvn : nu S.num v ≠ 0 := by omega
  have hlow : ∀ x, ok N x → nu (S1.low.set v.toNat m) x = if x = v then m else nu S1.low x := fun x hx => nu_set (by rw [hI.n2]; exact hv) (by rw [hI.n2]; exact hx)
  have hlv : nu (S1.low.set v.toNat m) v = m := by rw [hlow v hv, if_pos rfl]
  have hnv : nu S1.num v = nu S.num v := hn v hv hvn
  have hS0 : ∀ x, ok N x → nu S0.num x ≠ 0 → nu S.num x ≠ 0 := fun x hx h => by rw [hj.keepn x hx h]; exact h
  refine ⟨hI.low (by simp [hI.n2]), fun x hx hx0 => ?_, fun x hx hx0 => ?_, fun x hx hx0 hx1 => ?_, ?_, ?_, ?_, ?_, ?_⟩
  · rw [hn x hx (hS0 x hx hx0)]; exact hj.keepn x hx hx0
  · simp only [hlow x hx]
    rw [if_neg (fun e : x = v => hx0 (by rw [e]; exact hv0)), hl x hx (hS0 x hx hx0)]
    exact hj.keepl x hx hx0
  · by_cases h : nu S.num x = 0
    · have := hnew x hx h hx1; have := hj.cle; simp only; omega
    · simp only [hn x hx h]; exact hj.new x hx hx0 h
  · have := hj.cle; simp only; omega
  · simp only [hnv]; exact hvis
  · obtain ⟨U, u1, u2, u3⟩ := hj.sT
    refine ⟨U ++ T, by simp only [hT, u1, List.append_assoc, List.cons_append], fun x hx => ?_, fun x hx d hd hd0 => ?_⟩
    · rcases List.mem_append.1 hx with hx | hx
      · exact u2 x hx
      · obtain ⟨t1, t2⟩ := hTn x hx
        refine ⟨?_, t2⟩
        by_cases h : nu S0.num x = 0
        · exact h
        · have hx' : ok N x := hI.sOk x (by rw [hT]; exact List.mem_append_right _ hx)
          exact absurd t1 (hS0 x hx' h)
    · simp only [hlv]
      rcases List.mem_append.1 hx with hx | hx
      · have := u3 x hx d hd hd0; omega
      · exact hTe x hx d hd hd0
  · simp only [hlv, hnv]
    rcases hmm with e | ⟨e, y, y1, y2, y3⟩
    · rcases hj.lo with h | ⟨h, y, y1, y2, y3⟩
      · exact .inl (by omega)
      · exact .inr ⟨by omega, y, y1, by omega, y3⟩
    · have := hj.low_num
      exact .inr ⟨by omega, y, y1, y2, y3⟩
  · intro i d hi hd
    simp only [hlv]
    by_cases e : i = k
    · subst e
      rw [hcv] at hd
      cases hd
      exact ⟨hc1, hc2⟩
    · obtain ⟨d1, d2⟩ := hj.done i d (by omega) hd
      have hdo : ok N d := hC v hv d (List.mem_of_getElem? hd)
      exact ⟨by rw [hn d hdo d1]; exact d1, fun h => by have := d2 h; omega⟩

theorem J.child (hj : J N C S0 v gr k S) (h0 : Inv N C S0 gr) (hv : ok N v) (hv0 : nu S0.num v = 0) (hC : ∀ x, ok N x → ∀ c, c ∈ cs C x → ok N c) (hcv : (cs C v)[k]? = some c)
    (hc0 : nu S.num c = 0) (hP : Pst N C S c S' (v :: gr)) : J N C S0 v gr (k + 1) { S' with low := S'.low.set v.toNat (if nu S'.low c < nu S'.low v then nu S'.low c else nu S'.low v) } := by
  have hvis := hj.vis
  have hcc := h0.c0
  have hvn : nu S.num v ≠ 0 := by omega
  have hco : ok N c := hC v hv c (List.mem_of_getElem? hcv)
  have hlv : nu S'.low v = nu S.low v := hP.keepl v hv hvn
  obtain ⟨U, u1, u2, u3⟩ := hj.sT
  obtain ⟨T, t1, t2, t3⟩ := hP.T
  have hln := hj.low_num
  have hstep : Rch C v c := .step (List.mem_of_getElem? hcv) (.refl c)
  refine hj.lower h0 hv hv0 hcv (m := if nu S'.low c < nu S'.low v then nu S'.low c else nu S'.low v) hP.inv hP.keepn hP.keepl hP.new hP.cle hC (by split <;> omega) ?_ T t1 (fun x hx => ⟨(t2 x hx).1, hstep.trans (t2 x hx).2⟩) (fun x hx d hd hd0 => ?_) hP.seen (fun hm => ?_)
  · by_cases hlt : nu S'.low c < nu S'.low v
    · rw [if_pos hlt]
      rcases t3 with ⟨_, e⟩ | ⟨_, _, ⟨y, y1, y2, y3⟩, _⟩
      · have h1 := hP.new c hco hc0 hP.seen
        have h2 := (hj.inv.bnd v hv).2
        omega
      · have hy : y ∈ S0.st := hj.below u1 y1 (by omega)
        exact .inr ⟨by omega, y, hy, by rw [y2, hj.numS h0 hy], hstep.trans y3⟩
    · rw [if_neg hlt]; exact .inl hlv
  · rcases t3 with ⟨e, _⟩ | ⟨_, _, _, e⟩
    · subst e; simp at hx
    · have := e x hx d hd (by rw [u1]; exact List.mem_append_left _ hd0)
      rw [hj.numS h0 hd0] at this
      split <;> omega
  · have h1 := h0.sNum c hm
    have h2 := hj.numS h0 hm
    omega

theorem J.onStack (hj : J N C S0 v gr k S) (h0 : Inv N C S0 gr) (hv : ok N v) (hv0 : nu S0.num v = 0) (hC : ∀ x, ok N x → ∀ c, c ∈ cs C x → ok N c) (hcv : (cs C v)[k]? = some c)
    (hc0 : nu S.num c ≠ 0) (hc : c ∈ S.st) : J N C S0 v gr (k + 1) { S with low := S.low.set v.toNat (if nu S.num c < nu S.low v then nu S.num c else nu S.low v) } := by
  obtain ⟨U, u1, u2, u3⟩ := hj.sT
  have hln := hj.low_num
  refine hj.lower h0 hv hv0 hcv (m := if nu S.num c < nu S.low v then nu S.num c else nu S.low v) hj.inv (fun _ _ _ => rfl) (fun _ _ _ => rfl) (fun x _ h h' => absurd h h') (Int.le_refl _) hC (by split <;> omega) ?_ [] (by simp) (by simp) (by simp) hc0 (fun hm => ?_)
  · by_cases hlt : nu S.num c < nu S.low v
    · rw [if_pos hlt]
      have hy : c ∈ S0.st := hj.below u1 hc (by omega)
      exact .inr ⟨hlt, c, hy, hj.numS h0 hy, .step (List.mem_of_getElem? hcv) (.refl c)⟩
    · rw [if_neg hlt]; exact .inl rfl
  · rw [hj.numS h0 hm]; split <;> omega

theorem J.gone (hj : J N C S0 v gr k S) (h0 : Inv N C S0 gr) (hv : ok N v) (hcv : (cs C v)[k]? = some c) (hc0 : nu S.num c ≠ 0) (hc : c ∉ S.st) : J N C S0 v gr (k + 1) S := by
  obtain ⟨U, u1, u2, u3⟩ := hj.sT
  refine ⟨hj.inv, hj.keepn, hj.keepl, hj.new, hj.cle, hj.vis, hj.sT, hj.lo, fun i d hi hd => ?_⟩
  by_cases e : i = k
  · subst e
    rw [hcv] at hd
    cases hd
    exact ⟨hc0, fun hm => absurd (by rw [u1]; exact List.mem_append_left _ hm) hc⟩
  · exact hj.done i d (by omega) hd

/-- Nothing is found yet. -/
theorem J.stay (hj : J N C S0 v gr (cs C v).length S) (h0 : Inv N C S0 gr) (hv : ok N v) (hv0 : nu S0.num v = 0) (hne : nu S.low v ≠ nu S.num v) : Pst N C S0 v S gr := by
  have hvis := hj.vis
  have hcc := h0.c0
  obtain ⟨U, u1, u2, u3⟩ := hj.sT
  have hI := hj.inv
  obtain ⟨hlt, y, y1, y2, y3⟩ : nu S.low v < nu S.num v ∧ ∃ y, y ∈ S0.st ∧ nu S.low v = nu S0.num y ∧ Rch C v y := by
    rcases hj.lo with h | h
    · exact absurd h hne
    · exact h
  have hyn := hj.numS h0 y1
  have hdone : ∀ d, d ∈ cs C v → nu S.num d ≠ 0 ∧ (d ∈ S0.st → nu S.low v ≤ nu S0.num d) := fun d hd => by
    obtain ⟨i, hi, he⟩ := List.getElem_of_mem hd
    exact hj.done i d hi (by rw [List.getElem?_eq_getElem hi, he])
  refine ⟨⟨hI.n1, hI.n2, hI.n3, hI.c0, hI.bnd, hI.whites, hI.lens, hI.sOk, hI.sOn, hI.sNum, hI.sSrt, hI.rV, hI.rNd, hI.rNe, hI.rSrt, hI.closed, hI.strong, ?_, ?_, ?_⟩, hj.keepn, hj.keepl, hj.new, by have := hj.cle; omega, by omega, v :: U, u1, ?_, .inr ⟨List.mem_cons_self .., hlt, ⟨y, y1, y2, y3⟩, ?_⟩⟩
  · intro x hx hx0 hg d hd
    by_cases e : x = v
    · subst e; exact (hdone d hd).1
    · exact hI.fin x hx hx0 (by simp [e, hg]) d hd
  · intro x hx hg
    by_cases e : x = v
    · subst e
      exact ⟨y, by rw [u1]; exact List.mem_append_left _ y1, by omega, y3⟩
    · exact hI.back x hx (by simp [e, hg])
  · exact fun x hx => hI.grS x (List.mem_cons_of_mem _ hx)
  · intro x hx
    rcases List.mem_cons.1 hx with rfl | hx
    · exact ⟨hv0, .refl _⟩
    · exact u2 x hx
  · intro x hx d hd hd0
    rcases List.mem_cons.1 hx with rfl | hx
    · exact (hdone d hd).2 hd0
    · exact u3 x hx d hd hd0

/-- A ring is found. -/
theorem J.pop (hj : J N C S0 v gr (cs C v).length S) (h0 : Inv N C S0 gr) (hv : ok N v) (hv0 : nu S0.num v = 0) (hC : ∀ x, ok N x → ∀ c, c ∈ cs C x → ok N c) (heq : nu S.low v = nu S.num v) {U : List Int} (hU : S.st = S0.st ++ v :: U)
    {on : List Bool} (hon : on.length = N) (hon' : ∀ x, ok N x → (gb on x = true ↔ gb S.on x = true ∧ x ∉ v :: U)) :
    Pst N C S0 v ⟨S.num, S.low, on, S0.st, S.rings ++ [isort (v :: U)], S.cnt⟩ gr := by
  have hvis := hj.vis
  have hcc := h0.c0
  have hI := hj.inv
  obtain ⟨U', u1, u2, u3⟩ := hj.sT
  obtain rfl : U' = U := by
    rw [hU] at u1
    exact ((List.cons.inj (List.append_cancel_left u1)).2).symm
  obtain ⟨a1, a2, a3⟩ := hj.above hU
  have hmem : ∀ x, x ∈ isort (v :: U') ↔ x ∈ v :: U' := fun x => (isort_perm _).mem_iff
  have hin : ∀ x, x ∈ v :: U' → x ∈ S.st := fun x hx => by rw [hU]; exact List.mem_append_right _ hx
  have hin0 : ∀ x, x ∈ S0.st → x ∈ S.st := fun x hx => by rw [hU]; exact List.mem_append_left _ hx
  have hno0 : ∀ x, x ∈ v :: U' → x ∉ S0.st := fun x hx hx0 => by have := a1 x hx0 x hx; omega
  have hsp : ∀ x, x ∈ S.st → x ∈ S0.st ∨ x ∈ v :: U' := fun x hx => by rw [hU] at hx; exact List.mem_append.1 hx
  have hvU : v ∉ U' := fun h => by have := a2 v h; omega
  have hdone : ∀ d, d ∈ cs C v → nu S.num d ≠ 0 ∧ (d ∈ S0.st → nu S.low v ≤ nu S0.num d) := fun d hd => by
    obtain ⟨i, hi, he⟩ := List.getElem_of_mem hd
    exact hj.done i d hi (by rw [List.getElem?_eq_getElem hi, he])
  have hgr0 : ∀ x, x ∈ gr → x ∈ S0.st := h0.grS
  have hnum0 : ∀ x, x ∈ S.st → nu S.num x ≠ 0 := fun x hx => by have := hI.sNum x hx; omega
  have hfinU : ∀ x, x ∈ v :: U' → ∀ d, d ∈ cs C x → nu S.num d ≠ 0 ∧ (d ∈ S0.st → nu S.low v ≤ nu S0.num d) := fun x hx d hd => by
    rcases List.mem_cons.1 hx with rfl | hx'
    · exact hdone d hd
    · refine ⟨hI.fin x (hI.sOk x (hin x hx)) (hnum0 x (hin x hx)) ?_ d hd, u3 x hx' d hd⟩
      intro hm
      rcases List.mem_cons.1 hm with rfl | hm
      · exact hvU hx'
      · exact hno0 x hx (hgr0 x hm)
  have hcl : ∀ x, x ∈ v :: U' → ∀ d, d ∈ cs C x → d ∈ v :: U' ∨ ∃ r, r ∈ S.rings ∧ d ∈ r := fun x hx d hd => by
    obtain ⟨h1, h2⟩ := hfinU x hx d hd
    by_cases hds : d ∈ S.st
    · rcases hsp d hds with h | h
      · have e1 := h2 h
        have e2 := a1 d h v (List.mem_cons_self ..)
        have e3 := hj.numS h0 h
        omega
      · exact .inl h
    · exact .inr ((hI.rV d).2 ⟨hC x (hI.sOk x (hin x hx)) d hd, h1, hds⟩)
  have hR : ∀ x y, x ∈ v :: U' → Rch C x y → y ∈ v :: U' ∨ ∃ r, r ∈ S.rings ∧ y ∈ r := fun x y hx h => by
    refine Rch.closed (P := fun z => z ∈ v :: U' ∨ ∃ r, r ∈ S.rings ∧ z ∈ r) ?_ h (.inl hx)
    rintro z (hz | ⟨r, hr, hz⟩) d hd
    · exact hcl z hz d hd
    · obtain ⟨i, hi, he⟩ := List.getElem_of_mem hr
      obtain ⟨j, q, _, hq, hdq⟩ := hI.closed i r (by rw [List.getElem?_eq_getElem hi, he]) z hz d hd
      exact .inr ⟨q, List.mem_of_getElem? hq, hdq⟩
  have hback : ∀ n : Nat, ∀ x, x ∈ v :: U' → (nu S.num x).toNat ≤ n → Rch C x v := by
    intro n
    induction n with
    | zero => intro x hx hn; have := hI.sNum x (hin x hx); omega
    | succ n ih =>
      intro x hx hn
      rcases List.mem_cons.1 hx with rfl | hx'
      · exact .refl _
      · obtain ⟨y, y1, y2, y3⟩ := hI.back x (hin x hx) (fun hm => by
          rcases List.mem_cons.1 hm with rfl | hm
          · exact hvU hx'
          · exact hno0 x hx (hgr0 x hm))
        have hy : y ∈ v :: U' := by
          rcases hR x y hx y3 with h | ⟨r, hr, h⟩
          · exact h
          · exact absurd y1 ((hI.rV y).1 ⟨r, hr, h⟩).2.2
        have := hI.sNum y y1
        exact y3.trans (ih y hy (by omega))
  have hfrom : ∀ x, x ∈ v :: U' → Rch C v x := fun x hx => by
    rcases List.mem_cons.1 hx with rfl | hx
    · exact .refl _
    · exact (u2 x hx).2
  have hnd : (v :: U').Nodup := a3.imp fun h e => by subst e; omega
  refine ⟨⟨hI.n1, hI.n2, hon, hI.c0, hI.bnd, hI.whites, ?_, h0.sOk, ?_, ?_, ?_, ?_, ?_, ?_, ?_, ?_, ?_, ?_, ?_, hgr0⟩, hj.keepn, hj.keepl, hj.new, by have := hj.cle; simp only; omega, by simp only; omega, [], by simp, by simp, .inl ⟨rfl, heq⟩⟩
  · have := hI.lens
    rw [hU] at this
    simp only [List.length_append, List.length_cons, List.length_nil] at this ⊢
    omega
  · intro x hx
    rw [hon' x hx, hI.sOn x hx]
    constructor
    · rintro ⟨h1, h2⟩
      rcases hsp x h1 with h | h
      · exact h
      · exact absurd h h2
    · exact fun h => ⟨hin0 x h, fun h' => hno0 x h' h⟩
  · exact fun x hx => hI.sNum x (hin0 x hx)
  · have := hI.sSrt
    rw [hU, List.pairwise_append] at this
    exact this.1
  · intro x
    constructor
    · rintro ⟨r, hr, hx⟩
      rcases List.mem_append.1 hr with hr | hr
      · obtain ⟨r1, r2, r3⟩ := (hI.rV x).1 ⟨r, hr, hx⟩
        exact ⟨r1, r2, fun h => r3 (hin0 x h)⟩
      · simp at hr; subst hr
        have hx' := (hmem x).1 hx
        exact ⟨hI.sOk x (hin x hx'), hnum0 x (hin x hx'), hno0 x hx'⟩
    · rintro ⟨r1, r2, r3⟩
      by_cases hs : x ∈ S.st
      · rcases hsp x hs with h | h
        · exact absurd h r3
        · exact ⟨_, List.mem_append_right _ (List.mem_singleton.2 rfl), (hmem x).2 h⟩
      · obtain ⟨r, hr, hx⟩ := (hI.rV x).2 ⟨r1, r2, hs⟩
        exact ⟨r, List.mem_append_left _ hr, hx⟩
  · simp only [List.flatten_append, List.flatten_cons, List.flatten_nil, List.append_nil]
    rw [List.nodup_append]
    refine ⟨hI.rNd, (isort_perm _).nodup_iff.2 hnd, fun a ha b hb e => ?_⟩
    subst e
    obtain ⟨r, hr, har⟩ := List.mem_flatten.1 ha
    exact ((hI.rV a).1 ⟨r, hr, har⟩).2.2 (hin a ((hmem a).1 hb))
  · intro r hr
    rcases List.mem_append.1 hr with hr | hr
    · exact hI.rNe r hr
    · simp at hr; subst hr
      exact fun e => by have := (hmem v).2 (List.mem_cons_self ..); rw [e] at this; simp at this
  · intro r hr
    rcases List.mem_append.1 hr with hr | hr
    · exact hI.rSrt r hr
    · simp at hr; subst hr
      have h1 := isort_sorted (v :: U')
      have h2 : (isort (v :: U')).Nodup := (isort_perm _).nodup_iff.2 hnd
      exact (List.pairwise_and_iff.2 ⟨h1, h2⟩).imp fun h => by omega
  · intro i r hr x hx d hd
    rcases Nat.lt_or_ge i S.rings.length with hi | hi
    · rw [List.getElem?_append_left hi] at hr
      obtain ⟨j, q, q1, q2, q3⟩ := hI.closed i r hr x hx d hd
      exact ⟨j, q, q1, by rw [List.getElem?_append_left (by omega)]; exact q2, q3⟩
    · rw [List.getElem?_append_right hi] at hr
      have hi' : i = S.rings.length := by
        have := (List.getElem?_eq_some_iff.1 hr).1
        simp at this; omega
      subst hi'
      simp at hr; subst hr
      rcases hcl x ((hmem x).1 hx) d hd with h | ⟨q, hq, h⟩
      · exact ⟨S.rings.length, _, Nat.le_refl _, by simp, (hmem d).2 h⟩
      · obtain ⟨j, hj', he⟩ := List.getElem_of_mem hq
        exact ⟨j, q, by omega, by rw [List.getElem?_append_left hj', List.getElem?_eq_getElem hj', he], h⟩
  · intro r hr a ha b hb
    rcases List.mem_append.1 hr with hr | hr
    · exact hI.strong r hr a ha b hb
    · simp at hr; subst hr
      exact (hback _ a ((hmem a).1 ha) (Nat.le_refl _)).trans (hfrom b ((hmem b).1 hb))
  · intro x hx hx0 hg d hd
    by_cases e : x = v
    · subst e; exact (hdone d hd).1
    · exact hI.fin x hx hx0 (by simp [e, hg]) d hd
  · intro x hx hg
    have e : x ≠ v := fun e => hno0 v (List.mem_cons_self ..) (e ▸ hx)
    obtain ⟨y, y1, y2, y3⟩ := hI.back x (hin0 x hx) (by simp [e, hg])
    refine ⟨y, ?_, y2, y3⟩
    rcases hsp y y1 with h | h
    · exact h
    · have := a1 x hx y h; omega
end
end Go.Proofs.Ytpomfbdbkejedaa
set_option linter.unusedVariables false
set_option linter.unusedSimpArgs false
namespace Go.Proofs.Ytpomfbdbkejedaa
open Go Go.Proofs

theorem index_at (a b : List Int) (x : Int) (hx : x ∉ a) (hl : (a ++ x :: b).length ≤ maxLen) : slices_Index (a ++ x :: b) x = some (a.length : Int) := by
  unfold slices_Index
  have := scan0 (a ++ x :: b) (fun i y => if x = y then some (i : Int) else none) (fun s => slices_Index.bd8 (a ++ x :: b) x s) hl (fun i hi => by
    simp only [slices_Index.bd8, len_lt, hi, if_true, idx_lt hi, Option.bind_some, w64_at hi hl]
    split <;> rfl) (by simp [slices_Index.bd8, len])
  have hat : a.length < (a ++ x :: b).length := by simp
  rcases this with ⟨i, hi, r, hf, hmin, hw⟩ | ⟨hall, hw⟩
  · split at hf
    · rename_i he
      cases hf
      rw [hw]
      simp only [Option.bind_some]
      have h1 : ¬ i < a.length := fun h => hx (by rw [he, List.getElem_append_left h]; exact List.getElem_mem h)
      rcases Nat.lt_or_ge a.length i with h | h
      · have := hmin a.length hat h
        simp at this
      · rw [show i = a.length by omega]
    · cases hf
  · have := hall a.length hat
    simp at this

theorem clear_ok {N : Nat} (ring : List Int) (on : List Bool) (hN : N ≤ 1000) (hl : ring.length ≤ 1000) (hr : ∀ x, x ∈ ring → ok N x) (hon : on.length = N) :
    ∃ o, whl (fun (s : (List Bool × Int)) => calls_finder_visit.bd43 ring s.1 s.2) FUEL (on, 0) = some o ∧ o.length = N ∧ ∀ x, ok N x → (gb o x = true ↔ gb on x = true ∧ x ∉ ring) := by
  refine whl_for ring.length (fun k s => ∃ o, s = (o, (k : Int)) ∧ o.length = N ∧ ∀ x, ok N x → (gb o x = true ↔ gb on x = true ∧ x ∉ ring.take k)) _ (le_max hl (by omega)) ?_ ?_ ⟨on, rfl, hon, fun x _ => by simp⟩
  · rintro k s hk ⟨o, rfl, ho, hx⟩
    refine .inr ⟨(o.set (ring[k]).toNat false, ((k + 1 : Nat) : Int)), ?_, _, rfl, by simp [ho], fun x hxo => ?_⟩
    · have hc := hr ring[k] (List.getElem_mem hk)
      simp only [calls_finder_visit.bd43, len_lt, hk, if_true, idx_lt hk, Option.bind_some, idx_gb (show ok o.length ring[k] by rw [ho]; exact hc), w64_i hk (by omega)]
    · have hc := hr ring[k] (List.getElem_mem hk)
      have hmt : x ∈ ring.take (k + 1) ↔ x ∈ ring.take k ∨ x = ring[k] := by rw [List.take_succ_eq_append_getElem hk, List.mem_append, List.mem_singleton]
      rw [gb_set (by rw [ho]; exact hc) (by rw [ho]; exact hxo), hmt]
      by_cases e : x = ring[k]
      · rw [if_pos e]
        exact ⟨fun h => (by cases h), fun h => absurd (Or.inr e) h.2⟩
      · rw [if_neg e, hx x hxo]
        exact ⟨fun h => ⟨h.1, fun h' => h'.elim h.2 e⟩, fun h => ⟨h.1, fun h' => h.2 (Or.inl h')⟩⟩
  · rintro s ⟨o, rfl, ho, hx⟩
    rw [List.take_length] at hx
    exact ⟨o, by simp [calls_finder_visit.bd43, len], ho, hx⟩

def tup (S : Sn) : List Int × List Int × List Bool × List Int × List (List Int) × Int := (S.num, S.low, S.on, S.st, S.rings, S.cnt)
def fnd (C : List (List Int)) (S : Sn) : PFinder := ⟨C, S.num, S.low, S.on, S.st, S.rings, S.cnt⟩

theorem Inv.stl {N : Nat} {C : List (List Int)} {S : Sn} {gr : List Int} (h : Inv N C S gr) : S.st.length ≤ N ∧ S.rings.length ≤ N ∧ S.cnt ≤ N := by
  have := h.lens; have := h.whites; omega

theorem visit_it {N : Nat} {C : List (List Int)} (hN : N ≤ 40) (hCl : C.length = N) (hC : ∀ x, ok N x → ∀ c, c ∈ cs C x → ok N c) (hrow : ∀ x, (cs C x).length ≤ 1000) :
    ∀ (n : Nat) (S0 : Sn) (v : Int) (gr : List Int), Inv N C S0 gr → ok N v → nu S0.num v = 0 → wc S0.num ≤ n → ∃ S', calls_finder_visit.it n (fnd C S0) v = some (tup S') ∧ Pst N C S0 v S' gr := by
  intro n
  induction n with
  | zero =>
    intro S0 v gr h0 hv hv0 hw
    have hvl : v.toNat < S0.num.length := by rw [h0.n1]; have := hv.1; have := hv.2; omega
    have : 0 < wc S0.num := wc_pos (v := v.toNat) (by
      rw [List.getElem?_eq_getElem hvl]
      have : nu S0.num v = S0.num[v.toNat] := by simp [nu, List.getElem?_eq_getElem hvl]
      rw [← this, hv0])
    omega
  | succ n ih =>
    intro S0 v gr h0 hv hv0 hw
    obtain ⟨l1, l2, l3⟩ := h0.stl
    have hcnt : w64 (S0.cnt + 1) = S0.cnt + 1 := w64_id ⟨by have := h0.c0; omega, by omega⟩
    have hj0 := h0.start hv hv0
    have key : ∃ z, whl (fun (s : (List Int × List Int × List Bool × List Int × List (List Int) × Int × Int)) => calls_finder_visit.bd21 (fnd C S0) v (calls_finder_visit.it n) (cs C v) s.1 s.2.1 s.2.2.1 s.2.2.2.1 s.2.2.2.2.1 s.2.2.2.2.2.1 s.2.2.2.2.2.2) FUEL
        ((S0.num.set v.toNat (S0.cnt + 1)), (S0.low.set v.toNat (S0.cnt + 1)), S0.on.set v.toNat true, S0.st ++ [v], S0.rings, S0.cnt + 1, 0) = some z ∧ ∃ S, z = tup S ∧ J N C S0 v gr (cs C v).length S := by
      refine whl_for (cs C v).length (fun k s => ∃ S, s = (S.num, S.low, S.on, S.st, S.rings, S.cnt, (k : Int)) ∧ J N C S0 v gr k S) _ (le_max (hrow v) (by omega)) ?_ ?_ ⟨_, rfl, hj0⟩
      · rintro k s hk ⟨S, rfl, hj⟩
        have hcv : (cs C v)[k]? = some (cs C v)[k] := List.getElem?_eq_getElem hk
        have hco : ok N (cs C v)[k] := hC v hv _ (List.getElem_mem hk)
        have hI := hj.inv
        have e1 := idx_nu (l := S.num) (x := (cs C v)[k]) (by rw [hI.n1]; exact hco)
        have e2 := idx_gb (l := S.on) (x := (cs C v)[k]) (by rw [hI.n3]; exact hco)
        have e3 := idx_nu (l := S.low) (x := v) (by rw [hI.n2]; exact hv)
        refine .inr ?_
        by_cases hz : nu S.num (cs C v)[k] = 0
        · have hwn : wc S.num ≤ n := by
            have := hj.cle; have := hI.whites; have := h0.whites; omega
          obtain ⟨S', hit, hP⟩ := ih S (cs C v)[k] (v :: gr) hI hco hz hwn
          have e4 := idx_nu (l := S'.low) (x := v) (by rw [hP.inv.n2]; exact hv)
          have e5 := idx_nu (l := S'.low) (x := (cs C v)[k]) (by rw [hP.inv.n2]; exact hco)
          refine ⟨_, ?_, _, rfl, hj.child h0 hv hv0 hC hcv hz hP⟩
          have hit' : calls_finder_visit.it n (⟨(fnd C S0).calls, S.num, S.low, S.on, S.st, S.rings, S.cnt⟩ : PFinder) (cs C v)[k] = some (tup S') := hit
          simp only [calls_finder_visit.bd21, len_lt, hk, if_true, idx_lt hk, Option.bind_some, e1, hz, hit', tup, e4, e5, calls_finder_visit.jn67, w64_i hk (hrow v)]
        · by_cases ho : gb S.on (cs C v)[k] = true
          · refine ⟨_, ?_, _, rfl, hj.onStack h0 hv hv0 hC hcv hz ((hI.sOn _ hco).1 ho)⟩
            simp only [calls_finder_visit.bd21, len_lt, hk, if_true, idx_lt hk, Option.bind_some, e1, hz, if_false, e2, ho, e3, calls_finder_visit.jn67, w64_i hk (hrow v)]
          · refine ⟨_, ?_, _, rfl, hj.gone h0 hv hcv hz (fun h => ho ((hI.sOn _ hco).2 h))⟩
            have ho' : gb S.on (cs C v)[k] = false := by simpa using ho
            simp only [calls_finder_visit.bd21, len_lt, hk, if_true, idx_lt hk, Option.bind_some, e1, hz, if_false, e2, ho', Bool.false_eq_true, calls_finder_visit.jn67, w64_i hk (hrow v)]
      · rintro s ⟨S, rfl, hj⟩
        exact ⟨tup S, by simp [calls_finder_visit.bd21, len, tup], S, rfl, hj⟩
    obtain ⟨z, hz, S, rfl, hj⟩ := key
    have hI := hj.inv
    have e0 := idx_nu (l := S0.num) (x := v) (by rw [h0.n1]; exact hv)
    have e1 := idx_nu (l := S0.low) (x := v) (by rw [h0.n2]; exact hv)
    have e2 := idx_gb (l := S0.on) (x := v) (by rw [h0.n3]; exact hv)
    have e3 := idx_cs (l := C) (x := v) (by rw [hCl]; exact hv)
    have e4 := idx_nu (l := S.num) (x := v) (by rw [hI.n1]; exact hv)
    have e5 := idx_nu (l := S.low) (x := v) (by rw [hI.n2]; exact hv)
    have ec : cat S0.st [v] = some (S0.st ++ [v]) := cat_one (by omega)
    have hrun : calls_finder_visit.it (n + 1) (fnd C S0) v = calls_finder_visit.nx21 v S.num S.low S.on S.st S.rings S.cnt := by
      have hz' := hz
      simp only [fnd] at hz'
      simp only [calls_finder_visit.it, calls_finder_visit.body, calls_finder_visit.jn12, fnd, e0, e1, e2, e3, ec, Option.bind_some, hcnt, hz', tup]
    rw [hrun]
    by_cases hne : nu S.low v = nu S.num v
    · obtain ⟨U, hU, -, -⟩ := hj.sT
      obtain ⟨s1, s2, s3⟩ := hI.stl
      have hv0' : v ∉ S0.st := fun h => by
        have := h0.sNum v h; omega
      have hlen : (S0.st ++ v :: U).length ≤ 40 := by rw [← hU]; omega
      have hlen' : S0.st.length + (U.length + 1) ≤ 40 := by simpa using hlen
      have hix : slices_Index S.st v = some (S0.st.length : Int) := by rw [hU]; exact index_at _ _ _ hv0' (le_max hlen (by omega))
      have hfr : from_ S.st (S0.st.length : Int) = some (v :: U) := by rw [hU]; simp [from_]
      have hup : upto S.st (S0.st.length : Int) = some S0.st := by rw [hU]; simp [upto]
      have hcl : slices_Clone (v :: U) = some (v :: U) := by
        unfold slices_Clone; rw [cat_nil (by simp; omega)]; rfl
      obtain ⟨o, ho, ho1, ho2⟩ := clear_ok (N := N) (v :: U) S.on (by omega) (by simp; omega) (fun x hx => hI.sOk x (by rw [hU]; exact List.mem_append_right _ hx)) hI.n3
      refine ⟨_, ?_, hj.pop h0 hv hv0 hC hne hU ho1 ho2⟩
      simp only [calls_finder_visit.nx21, e4, e5, Option.bind_some, hne, not_true, if_false, hix, hfr, hup, hcl, ho, calls_finder_visit.nx43, slices_Sort, cat_one (show S.rings.length ≤ 1000 by omega), tup]
    · refine ⟨S, ?_, hj.stay h0 hv hv0 hne⟩
      simp only [calls_finder_visit.nx21, e4, e5, Option.bind_some, hne, not_false_eq_true, if_true, tup]
end Go.Proofs.Ytpomfbdbkejedaa
set_option linter.unusedVariables false
set_option linter.unusedSimpArgs false
namespace Go.Proofs.Ytpomfbdbkejedaa
open Go Go.Proofs

/-! ### Compact of what is sorted -/
theorem compact_mem (l : List Int) (x : Int) : x ∈ Lib.compact l ↔ x ∈ l := by
  unfold Lib.compact Lib.compactUpTo
  rw [List.mem_map]
  have key : ∀ j, j < l.length → ∃ i, i ∈ (List.range l.length).filter (Lib.keeps l.toArray) ∧ l.toArray[i]! = l.toArray[j]! := by
    intro j
    induction j with
    | zero => intro hj; exact ⟨0, List.mem_filter.2 ⟨List.mem_range.2 hj, by simp [Lib.keeps]⟩, rfl⟩
    | succ j ih =>
      intro hj
      by_cases h : l.toArray[j + 1]! = l.toArray[j]!
      · obtain ⟨i, h1, h2⟩ := ih (by omega)
        exact ⟨i, h1, by rw [h2, h]⟩
      · exact ⟨j + 1, List.mem_filter.2 ⟨List.mem_range.2 hj, by simp [Lib.keeps]; simpa using h⟩, rfl⟩
  constructor
  · rintro ⟨i, hi, rfl⟩
    have := List.mem_range.1 (List.mem_filter.1 hi).1
    simp [this]
  · intro hx
    obtain ⟨j, hj, rfl⟩ := List.getElem_of_mem hx
    obtain ⟨i, h1, h2⟩ := key j hj
    exact ⟨i, h1, by rw [h2]; simp [hj]⟩
theorem compact_sorted (l : List Int) (h : l.Pairwise (· ≤ ·)) : (Lib.compact l).Pairwise (fun a b => a < b) := by
  unfold Lib.compact Lib.compactUpTo
  rw [List.pairwise_map]
  refine List.Pairwise.imp_of_mem (fun {a b} ha hb hab => ?_) ((List.pairwise_lt_range (n := l.length)).sublist List.filter_sublist)
  obtain ⟨a1, a2⟩ := List.mem_filter.1 ha
  obtain ⟨b1, b2⟩ := List.mem_filter.1 hb
  have a1 := List.mem_range.1 a1
  have b1 := List.mem_range.1 b1
  have hs := List.pairwise_iff_getElem.1 h
  simp only [Lib.keeps, decide_eq_true_eq] at b2
  have hle : l[a] ≤ l[b - 1] := by
    rcases Nat.lt_or_ge a (b - 1) with h | h
    · exact hs a (b - 1) a1 (by omega) h
    · have : a = b - 1 := by omega
      subst this; omega
  have hle2 : l[b - 1] ≤ l[b] := hs (b - 1) b (by omega) b1 (by omega)
  rcases b2 with h | h
  · omega
  · have e1 : l.toArray[b]! = l[b] := by simp [b1]
    have e2 : l.toArray[b - 1]! = l[b - 1] := by simp [show b - 1 < l.length by omega]
    have e3 : l.toArray[a]! = l[a] := by simp [a1]
    rw [e1, e2] at h
    rw [e1, e3]
    omega

/-! ### Which functions call which -/
def calF (N : Nat) (ins : List PInstr) : List Int := (ins.filter fun x => decide ((x.op = 17 ∧ x.fn ≥ 0) ∧ x.fn < (N : Int))).map fun x => x.fn
def calB (N : Nat) (f : PFunc) : List Int := f.blocks.flatMap fun B => calF N B.ins
theorem calF_len (N : Nat) (ins : List PInstr) : (calF N ins).length ≤ ins.length := by
  unfold calF; rw [List.length_map]; exact List.length_filter_le _ _
theorem mem_calB {N : Nat} {f : PFunc} {b : Int} : b ∈ calB N f ↔ ok N b ∧ ∃ B, B ∈ f.blocks ∧ ∃ x, x ∈ B.ins ∧ x.op = 17 ∧ x.fn = b := by
  unfold calB calF ok
  simp only [List.mem_flatMap, List.mem_map, List.mem_filter, decide_eq_true_eq]
  constructor
  · rintro ⟨B, hB, x, ⟨hx, ⟨h1, h2⟩, h3⟩, rfl⟩
    exact ⟨⟨h2, h3⟩, B, hB, x, hx, h1, rfl⟩
  · rintro ⟨⟨h1, h2⟩, B, hB, x, hx, h3, rfl⟩
    exact ⟨B, hB, x, ⟨hx, ⟨h3, h1⟩, h2⟩, rfl⟩
def callsL (m : PModule) : List (List Int) := m.funcs.map fun f => Lib.compact (isort (calB m.funcs.length f))
theorem flatMap_take {α β : Type} (l : List α) (g : α → List β) (i : Nat) (h : i < l.length) : (l.take (i + 1)).flatMap g = (l.take i).flatMap g ++ g l[i] := by
  rw [List.take_succ_eq_append_getElem h, List.flatMap_append]; simp
theorem calF_take (N : Nat) (ins : List PInstr) (k : Nat) (h : k < ins.length) : calF N (ins.take (k + 1)) = calF N (ins.take k) ++ calF N [ins[k]] := by
  unfold calF; rw [List.take_succ_eq_append_getElem h, List.filter_append, List.map_append]
theorem calF_sum (N : Nat) (f : PFunc) (hf : SmF f) (i : Nat) (hi : i ≤ f.blocks.length) : ((f.blocks.take i).flatMap fun B => calF N B.ins).length ≤ 300 * i := by
  induction i with
  | zero => simp
  | succ i ih =>
    rw [flatMap_take _ _ i (by omega), List.length_append]
    have := ih (by omega)
    have h1 := calF_len N f.blocks[i].ins
    have h2 := (hf.2.2.2 f.blocks[i] (List.getElem_mem _)).1
    omega

theorem callsB (a : Nat) (L : List (List Int)) (ha : a < L.length) (B : PBlock) (hB : SmB B) (r0 : List Int) (hr : r0.length ≤ 300 * 70) (hN : L.length ≤ 40) :
    whl (fun (s : (List (List Int) × Int)) => calls_Calls.bd48 (a : Int) B s.1 s.2) FUEL (L.set a r0, 0) = some (L.set a (r0 ++ calF L.length B.ins)) := by
  have hl := hB.1
  have := whl_run (body := fun (s : (List (List Int) × Int)) => calls_Calls.bd48 (a : Int) B s.1 s.2) (r := L.set a (r0 ++ calF L.length B.ins)) B.ins.length FUEL (fun k => (L.set a (r0 ++ calF L.length (B.ins.take k)), (k : Int))) (fun k hk => by
    simp only [calls_Calls.bd48, len_lt, hk, if_true, idx_lt hk, Option.bind_some, len, List.length_set]
    rw [calF_take _ _ _ hk]
    have h1 := calF_len L.length (B.ins.take k)
    have h1 : (calF L.length (B.ins.take k)).length ≤ 300 := by rw [List.length_take] at h1; omega
    by_cases hc : (B.ins[k].op = 17 ∧ B.ins[k].fn ≥ 0) ∧ B.ins[k].fn < (L.length : Int)
    · rw [if_pos hc, idx_set _ _ _ ha, Option.bind_some, cat_ok (by simp only [LIM, List.length_append, List.length_singleton]; omega)]
      simp only [Option.bind_some, calls_Calls.jn58, Int.toNat_natCast, List.set_set, w64_i hk (by omega : B.ins.length ≤ 1000)]
      simp [calF, hc]
    · rw [if_neg hc]
      simp only [calls_Calls.jn58, w64_i hk (by omega : B.ins.length ≤ 1000)]
      simp [calF, hc]) (by simp only [calls_Calls.bd48, len, List.take_length]; simp) (lt_FUEL (le_max hl (by omega)))
  simpa [calF] using this

theorem calls_eq (m : PModule) (hm : SmM m) : calls_Calls m = some (callsL m) := by
  have hN := hm.1
  unfold calls_Calls
  rw [show (len m.funcs) = (m.funcs.length : Int) from rfl, mkl_rep _ (by omega), Option.bind_some]
  have := whl_run (body := fun (s : (List (List Int) × Int)) => calls_Calls.bd9 m s.1 s.2) (r := callsL m) m.funcs.length FUEL
    (fun i => ((callsL m).take i ++ List.replicate (m.funcs.length - i) [], (i : Int))) (fun i hi => by
      have hf := hm.2 m.funcs[i] (List.getElem_mem hi)
      have hcl : (callsL m).length = m.funcs.length := by simp [callsL]
      generalize hL : (callsL m).take i ++ List.replicate (m.funcs.length - i) [] = L
      have hLl : L.length = m.funcs.length := by rw [← hL]; simp [hcl]; omega
      have hLi : L[i]? = some [] := by
        have hti : ((callsL m).take i).length = i := by rw [List.length_take, hcl]; omega
        rw [← hL, List.getElem?_append_right (by omega), hti, Nat.sub_self, List.getElem?_replicate, if_pos (by omega)]
      have hset : L.set i [] = L := by
        apply List.ext_getElem?
        intro j
        rw [List.getElem?_set]
        by_cases e : i = j
        · subst e; rw [if_pos rfl, if_pos (by omega), hLi]
        · rw [if_neg e]
      have hrun := whl_run (body := fun (s : (List (List Int) × Int)) => calls_Calls.bd26 (i : Int) m.funcs[i] s.1 s.2) (r := L.set i (calB m.funcs.length m.funcs[i])) m.funcs[i].blocks.length FUEL
        (fun k => (L.set i ((m.funcs[i].blocks.take k).flatMap fun B => calF m.funcs.length B.ins), (k : Int))) (fun k hk => by
          have h1 := calF_sum m.funcs.length m.funcs[i] hf k (by omega)
          have h2 := hf.1
          have hb := callsB i L (by omega) m.funcs[i].blocks[k] (hf.2.2.2 _ (List.getElem_mem _)) ((m.funcs[i].blocks.take k).flatMap fun B => calF m.funcs.length B.ins) (by omega) (by omega)
          rw [hLl] at hb
          simp only [calls_Calls.bd26, len_lt, hk, if_true, idx_lt hk, Option.bind_some, hb, calls_Calls.nx48, w64_i hk (by omega : m.funcs[i].blocks.length ≤ 1000)]
          rw [flatMap_take _ _ _ hk]) (by simp only [calls_Calls.bd26, len, List.take_length, calB]; simp) (lt_FUEL (le_max hf.1 (by omega)))
      have hrun' : whl (fun (s : (List (List Int) × Int)) => calls_Calls.bd26 (i : Int) m.funcs[i] s.1 s.2) FUEL (L, 0) = some (L.set i (calB m.funcs.length m.funcs[i])) := by
        have := hrun
        simp only [List.take_zero, List.flatMap_nil, hset] at this
        exact this
      simp only [calls_Calls.bd9, len_lt, hi, if_true, idx_lt hi, Option.bind_some, hrun', calls_Calls.nx26, idx_set L i _ (by omega : i < L.length), slices_Sort, slices_Compact, Int.toNat_natCast, List.set_set, w64_i hi (by omega : m.funcs.length ≤ 1000)]
      congr 3
      apply List.ext_getElem?
      intro j
      rw [List.getElem?_set]
      by_cases e : i = j
      · subst e
        rw [if_pos rfl, if_pos (by omega), List.getElem?_append_left (by simp [hcl]; omega), List.getElem?_take_of_lt (by omega)]
        simp [callsL, hi]
      · rw [if_neg e, ← hL]
        rcases Nat.lt_or_ge j i with h | h
        · rw [List.getElem?_append_left (by simp [hcl]; omega), List.getElem?_append_left (by simp [hcl]; omega), List.getElem?_take_of_lt h, List.getElem?_take_of_lt (by omega)]
        · rw [List.getElem?_append_right (by simp [hcl]; omega), List.getElem?_append_right (by simp [hcl]; omega)]
          simp only [List.getElem?_replicate, List.length_take, hcl]
          congr 1
          exact propext ⟨fun h => by omega, fun h => by omega⟩) (by
      have hcl : (callsL m).length = m.funcs.length := by simp [callsL]
      simp only [calls_Calls.bd9, len]
      simp [hcl]
      rw [List.take_of_length_le (by omega)]) (lt_FUEL (le_max hN (by omega)))
  have h0 : whl (fun (s : (List (List Int) × Int)) => calls_Calls.bd9 m s.1 s.2) FUEL (List.replicate m.funcs.length [], 0) = some (callsL m) := by simpa using this
  rw [h0]; rfl

theorem calls_len (m : PModule) : (callsL m).length = m.funcs.length := by simp [callsL]
theorem mem_cs {m : PModule} {a : Nat} (ha : a < m.funcs.length) {b : Int} : b ∈ cs (callsL m) (a : Int) ↔ b ∈ calB m.funcs.length m.funcs[a] := by
  unfold cs callsL
  simp only [Int.toNat_natCast, List.getD_eq_getElem?_getD, List.getElem?_map, List.getElem?_eq_getElem ha, Option.map_some, Option.getD_some]
  rw [compact_mem, (isort_perm _).mem_iff]
theorem cs_sorted (m : PModule) (x : Int) : (cs (callsL m) x).Pairwise (fun a b => a < b) := by
  unfold cs callsL
  simp only [List.getD_eq_getElem?_getD, List.getElem?_map]
  cases m.funcs[x.toNat]? with
  | none => simp
  | some f => exact compact_sorted _ (isort_sorted _)
theorem cs_ok {m : PModule} {x : Int} : ∀ c, c ∈ cs (callsL m) x → ok m.funcs.length c := by
  intro c hc
  unfold cs callsL at hc
  simp only [List.getD_eq_getElem?_getD, List.getElem?_map] at hc
  cases hf : m.funcs[x.toNat]? with
  | none => rw [hf] at hc; simp at hc
  | some f =>
    rw [hf] at hc
    simp only [Option.map_some, Option.getD_some] at hc
    rw [compact_mem, (isort_perm _).mem_iff] at hc
    exact (mem_calB.1 hc).1
/-- A row that ascends within bounds is no longer than these. -/
theorem sorted_le : ∀ (l : List Int) (a n : Int), l.Pairwise (fun a b => a < b) → (∀ x, x ∈ l → a ≤ x ∧ x < n) → a ≤ n → (l.length : Int) ≤ n - a
  | [], a, n, _, _, h => by simp; omega
  | x :: l, a, n, h, hx, han => by
    rw [List.pairwise_cons] at h
    have h1 := hx x (List.mem_cons_self ..)
    have := sorted_le l (x + 1) n h.2 (fun y hy => ⟨by have := h.1 y hy; omega, (hx y (List.mem_cons_of_mem _ hy)).2⟩) (by omega)
    simp only [List.length_cons]; omega
theorem cs_len {m : PModule} (hm : SmM m) (x : Int) : (cs (callsL m) x).length ≤ m.funcs.length := by
  have := sorted_le _ 0 m.funcs.length (cs_sorted m x) (fun y hy => cs_ok y hy) (by omega)
  omega

/-! ### The rings -/
structure RingsOk (N : Nat) (C : List (List Int)) (R : List (List Int)) : Prop where
  len : R.length ≤ N
  all : ∀ x, (∃ r, r ∈ R ∧ x ∈ r) ↔ ok N x
  nd : R.flatten.Nodup
  ne : ∀ r, r ∈ R → r ≠ []
  srt : ∀ r, r ∈ R → r.Pairwise (fun a b => a < b)
  closed : ∀ (i : Nat) (r : List Int), R[i]? = some r → ∀ x, x ∈ r → ∀ c, c ∈ cs C x → ∃ (j : Nat) (q : List Int), j ≤ i ∧ R[j]? = some q ∧ c ∈ q
  strong : ∀ r, r ∈ R → ∀ a, a ∈ r → ∀ b, b ∈ r → Rch C a b

theorem wc_rep (n : Nat) : wc (List.replicate n 0) = n := by
  induction n with
  | zero => rfl
  | succ n ih => rw [List.replicate_succ, wc, ih]; simp; omega

theorem found_eq (m : PModule) (hm : SmM m) : ∃ R, calls_found m = some R ∧ RingsOk m.funcs.length (callsL m) R := by
  have hN := hm.1
  generalize hNe : m.funcs.length = N at *
  have hCl : (callsL m).length = N := by rw [calls_len, hNe]
  have hCo : ∀ x, ok N x → ∀ c, c ∈ cs (callsL m) x → ok N c := fun x _ c hc => hNe ▸ cs_ok c hc
  have hrow : ∀ x, (cs (callsL m) x).length ≤ 1000 := fun x => by have := cs_len hm x; omega
  have hz : ∀ x, nu (List.replicate N 0) x = 0 := fun x => by simp [nu, List.getElem?_replicate, List.getD_eq_getElem?_getD]; split <;> rfl
  have hzb : ∀ x, gb (List.replicate N false) x = false := fun x => by simp [gb, List.getElem?_replicate, List.getD_eq_getElem?_getD]; split <;> rfl
  have hI0 : Inv N (callsL m) ⟨List.replicate N 0, List.replicate N 0, List.replicate N false, [], [], 0⟩ [] := by
    refine ⟨by simp, by simp, by simp, by simp, fun x _ => by simp [hz], by simp [wc_rep], by simp, by simp, fun x _ => by simp [hzb], by simp, by simp, fun x => by simp [hz], by simp, by simp, by simp, by simp, by simp, fun x _ h => absurd (hz x) h, by simp, by simp⟩
  obtain ⟨z, hw, S, rfl, hI, hst, hall⟩ := whl_for N (fun i s => ∃ S : Sn, s = (S.num, S.low, S.on, S.st, S.rings, S.cnt, (i : Int)) ∧ Inv N (callsL m) S [] ∧ S.st = [] ∧ ∀ x : Nat, x < i → nu S.num (x : Int) ≠ 0)
    (fun z => ∃ S : Sn, z = tup S ∧ Inv N (callsL m) S [] ∧ S.st = [] ∧ ∀ x : Nat, x < N → nu S.num (x : Int) ≠ 0)
    (body := fun (s : (List Int × List Int × List Bool × List Int × List (List Int) × Int × Int)) => calls_found.bd12 m (callsL m) s.1 s.2.1 s.2.2.1 s.2.2.2.1 s.2.2.2.2.1 s.2.2.2.2.2.1 s.2.2.2.2.2.2) (le_max hN (by omega)) (by
      rintro i s hi ⟨S, rfl, hI, hst, hall⟩
      have hio : ok N (i : Int) := ⟨by omega, by omega⟩
      have e1 := idx_nu (l := S.num) (x := (i : Int)) (by rw [hI.n1]; exact hio)
      have hlt : ((i : Int) < len m.funcs) := by simp only [len, hNe]; omega
      refine .inr ?_
      by_cases h0 : nu S.num (i : Int) = 0
      · have hw : wc S.num ≤ N := by have := hI.whites; have := hI.c0; omega
        have hF : N < FUEL := lt_FUEL (le_max hN (by omega))
        obtain ⟨S', hv, hP⟩ := visit_it (by omega) hCl hCo hrow FUEL S (i : Int) [] hI hio h0 (by omega)
        refine ⟨_, ?_, S', rfl, hP.inv, ?_, fun x hx => ?_⟩
        · have hv' : calls_finder_visit (⟨callsL m, S.num, S.low, S.on, S.st, S.rings, S.cnt⟩ : PFinder) (i : Int) = some (tup S') := hv
          simp only [calls_found.bd12, hlt, if_true, e1, h0, Option.bind_some, hv', tup, calls_found.jn22, w64_i hi (by omega : N ≤ 1000)]
        · obtain ⟨T, t1, t2, t3⟩ := hP.T
          rcases t3 with ⟨e, _⟩ | ⟨_, _, ⟨y, hy, _⟩, _⟩
          · rw [t1, hst, e]; rfl
          · rw [hst] at hy; simp at hy
        · by_cases e : x = i
          · subst e; exact hP.seen
          · have h1 := hall x (by omega)
            rw [hP.keepn (x : Int) ⟨by omega, by omega⟩ h1]; exact h1
      · refine ⟨_, ?_, S, rfl, hI, hst, fun x hx => ?_⟩
        · simp only [calls_found.bd12, hlt, if_true, e1, h0, if_false, Option.bind_some, calls_found.jn22, w64_i hi (by omega : N ≤ 1000)]
        · by_cases e : x = i
          · subst e; exact h0
          · exact hall x (by omega)) (by
      rintro s ⟨S, rfl, hI, hst, hall⟩
      exact ⟨tup S, by simp [calls_found.bd12, len, hNe, tup], S, rfl, hI, hst, hall⟩) (s0 := (List.replicate N 0, List.replicate N 0, List.replicate N false, [], [], 0, 0)) ⟨_, rfl, hI0, rfl, fun x h => by omega⟩
  refine ⟨S.rings, ?_, hI.stl.2.1, fun x => ?_, hI.rNd, hI.rNe, hI.rSrt, hI.closed, hI.strong⟩
  · unfold calls_found
    rw [calls_eq m hm, show (len m.funcs) = (N : Int) by simp only [len, hNe]]
    simp only [Option.bind_some, mkl_rep (0 : Int) (show N ≤ 70 by omega), mkl_rep false (show N ≤ 70 by omega), calls_found.jn4, hw, tup, calls_found.nx12]
  · rw [hI.rV x]
    constructor
    · exact fun h => h.1
    · intro h
      refine ⟨h, ?_, by rw [hst]; simp⟩
      have := hall x.toNat (by have := h.1; have := h.2; omega)
      rwa [show ((x.toNat : Nat) : Int) = x by have := h.1; omega] at this
end Go.Proofs.Ytpomfbdbkejedaa
set_option linter.unusedVariables false
set_option linter.unusedSimpArgs false
namespace Go.Proofs.Ytpomfbdbkejedaa
open Go Go.Proofs

variable {N : Nat} {C R : List (List Int)}
theorem RingsOk.heads (h : RingsOk N C R) : R.Pairwise (fun a b => byF a ≠ byF b) := by
  have hnd := h.nd
  unfold List.Nodup at hnd
  rw [List.pairwise_flatten] at hnd
  refine hnd.2.imp_of_mem fun {a b} ha hb hab => ?_
  have ha' := h.ne a ha
  have hb' := h.ne b hb
  cases a with
  | nil => exact absurd rfl ha'
  | cons x a =>
    cases b with
    | nil => exact absurd rfl hb'
    | cons y b => exact hab x (List.mem_cons_self ..) y (List.mem_cons_self ..)
theorem RingsOk.one (h : RingsOk N C R) {i j : Nat} {p q : List Int} (hi : R[i]? = some p) (hj : R[j]? = some q) {x : Int} (hp : x ∈ p) (hq : x ∈ q) : i = j := by
  have hnd := h.nd
  unfold List.Nodup at hnd
  rw [List.pairwise_flatten] at hnd
  have hw := List.pairwise_iff_getElem.1 hnd.2
  obtain ⟨i1, i2⟩ := List.getElem?_eq_some_iff.1 hi
  obtain ⟨j1, j2⟩ := List.getElem?_eq_some_iff.1 hj
  rcases Nat.lt_trichotomy i j with h | h | h
  · exact absurd rfl (hw i j i1 j1 h x (by rw [i2]; exact hp) x (by rw [j2]; exact hq))
  · exact h
  · exact absurd rfl (hw j i j1 i1 h x (by rw [j2]; exact hq) x (by rw [i2]; exact hp))
theorem dis_of : ∀ (l : List Int), l.Pairwise (fun a b => a ≠ b) → dis l = true
  | [], _ => rfl
  | x :: l, h => by
    rw [List.pairwise_cons] at h
    simp only [dis, Bool.and_eq_true, List.all_eq_true, decide_eq_true_eq]
    exact ⟨h.1, dis_of l h.2⟩
theorem sortF_eq (h : RingsOk N C R) (hN : N ≤ 40) {l : List (List Int)} (hl : l.Sublist R) : slices_SortFunc_int_int_calls_byFirst l = some (rsort l) := by
  unfold slices_SortFunc_int_int_calls_byFirst
  rw [if_pos]
  rw [Bool.and_eq_true, List.all_eq_true]
  refine ⟨fun r hr => ?_, dis_of _ (by rw [List.pairwise_map]; exact h.heads.sublist hl)⟩
  have hr' := hl.subset hr
  have hne := h.ne r hr'
  cases r with
  | nil => exact absurd rfl hne
  | cons x r =>
    have := (h.all x).1 ⟨_, hr', List.mem_cons_self ..⟩
    unfold ok at this
    simp only [okRow, Bool.and_eq_true, decide_eq_true_eq]
    omega

/-! ### A ring's wave -/
theorem contains_dec (a : List Int) (x : Int) (hl : a.length ≤ 1000) : slices_Contains a x = some (decide (x ∈ a)) := contains_eq a x (le_max hl (by omega))
/-! ### All waves -/
/-- The rings of wave k. -/
def pickW (R : List (List Int)) (Ws : List Nat) (k : Nat) : List (List Int) := ((R.zip Ws).filter fun p => decide (p.2 = k)).map Prod.fst
theorem zip_fst : ∀ (R : List (List Int)) (Ws : List Nat), ((R.zip Ws).map Prod.fst).Sublist R
  | [], _ => by simp
  | r :: R, [] => by simp
  | r :: R, w :: Ws => by
    simp only [List.zip_cons_cons, List.map_cons]
    exact (zip_fst R Ws).cons_cons r
theorem pickW_sub (R : List (List Int)) (Ws : List Nat) (k : Nat) : (pickW R Ws k).Sublist R := by
  exact (List.filter_sublist.map _).trans (zip_fst R Ws)
theorem pickW_snoc (R : List (List Int)) (Ws : List Nat) (r : List Int) (w k : Nat) (h : R.length = Ws.length) : pickW (R ++ [r]) (Ws ++ [w]) k = pickW R Ws k ++ if w = k then [r] else [] := by
  unfold pickW
  rw [List.zip_append h, List.filter_append, List.map_append]
  by_cases e : w = k <;> simp [e]
theorem mem_pickW {R : List (List Int)} {Ws : List Nat} {k : Nat} {r : List Int} (h : R.length = Ws.length) : r ∈ pickW R Ws k ↔ ∃ i : Nat, R[i]? = some r ∧ Ws[i]? = some k := by
  unfold pickW
  simp only [List.mem_map, List.mem_filter, decide_eq_true_eq]
  constructor
  · rintro ⟨⟨a, b⟩, ⟨h1, h2⟩, rfl⟩
    obtain ⟨i, hi, he⟩ := List.getElem_of_mem h1
    rw [List.getElem_zip] at he
    cases he
    simp only at h2
    refine ⟨i, List.getElem?_eq_getElem (by simp at hi; omega), ?_⟩
    rw [List.getElem?_eq_getElem (by simp at hi; omega), h2]
  · rintro ⟨i, h1, h2⟩
    obtain ⟨a1, a2⟩ := List.getElem?_eq_some_iff.1 h1
    obtain ⟨b1, b2⟩ := List.getElem?_eq_some_iff.1 h2
    refine ⟨(r, k), ⟨?_, rfl⟩, rfl⟩
    rw [List.mem_iff_getElem]
    exact ⟨i, by simp; omega, by rw [List.getElem_zip, a2, b2]⟩

/-- What waves are: after the first n rings. -/
structure WOk (C R : List (List Int)) (n : Nat) (Ws : List Nat) (M : Nat) : Prop where
  len : Ws.length = n
  lt : ∀ (i w : Nat), Ws[i]? = some w → w < M
  hit : ∀ k, k < M → ∃ i : Nat, Ws[i]? = some k
  up : ∀ (i : Nat) (r : List Int) (w : Nat), R[i]? = some r → Ws[i]? = some w → ∀ x, x ∈ r → ∀ c, c ∈ cs C x → ∀ (j : Nat) (q : List Int) (u : Nat), R[j]? = some q → Ws[j]? = some u → c ∈ q → j ≠ i → u + 1 ≤ w
  by_ : ∀ (i : Nat) (r : List Int) (w : Nat), R[i]? = some r → Ws[i]? = some w → w = 0 ∨ ∃ (j : Nat) (q : List Int) (u : Nat) (x c : Int), j < i ∧ R[j]? = some q ∧ Ws[j]? = some u ∧ u + 1 = w ∧ x ∈ r ∧ c ∈ cs C x ∧ c ∈ q
theorem WOk.le {n M : Nat} {Ws : List Nat} (h : WOk C R n Ws M) : ∀ (i w : Nat), Ws[i]? = some w → n ≤ R.length → w ≤ i := by
  intro i
  induction i using Nat.strongRecOn with
  | ind i ih =>
    intro w hw hn
    have hi := (List.getElem?_eq_some_iff.1 hw).1
    have := h.len
    rcases h.by_ i R[i] w (List.getElem?_eq_getElem (by omega)) hw with e | ⟨j, q, u, x, c, hj, h1, h2, h3, _⟩
    · omega
    · have := ih j hj u h2 hn; omega

theorem rings_eq (m : PModule) (hm : SmM m) {R : List (List Int)} (hf : calls_found m = some R) (hR : RingsOk m.funcs.length (callsL m) R) : calls_Rings m = some (rsort R) := by
  unfold calls_Rings
  rw [hf, Option.bind_some, sortF_eq hR hm.1 (List.Sublist.refl _)]; rfl
end Go.Proofs.Ytpomfbdbkejedaa
set_option linter.unusedVariables false
set_option linter.unusedSimpArgs false
namespace Go.Proofs.Ytpomfbdbkejedaa
open Go Go.Proofs

def bt (e : PEffect) (k : Nat) : Bool := match k with | 0 => e.reads | 1 => e.writes | 2 => e.outs | 3 => e.traps | _ => e.turns
theorem bt_ext {a b : PEffect} (h : ∀ k, k < 5 → bt a k = bt b k) : a = b := by
  obtain ⟨a0, a1, a2, a3, a4⟩ := a
  obtain ⟨b0, b1, b2, b3, b4⟩ := b
  have h0 := h 0 (by omega)
  have h1 := h 1 (by omega)
  have h2 := h 2 (by omega)
  have h3 := h 3 (by omega)
  have h4 := h 4 (by omega)
  simp only [bt] at h0 h1 h2 h3 h4
  simp [h0, h1, h2, h3, h4]
theorem lt5 {k : Nat} (h : k < 5) : k = 0 ∨ k = 1 ∨ k = 2 ∨ k = 3 ∨ k = 4 := by omega
theorem joined_eq (a b : PEffect) : ∃ c, effect_joined a b = some c ∧ ∀ k, k < 5 → bt c k = (bt a k || bt b k) := by
  refine ⟨_, rfl, fun k hk => ?_⟩
  rcases lt5 hk with rfl | rfl | rfl | rfl | rfl <;> simp [bt]
def insE (x : PInstr) : PEffect := ⟨decide (x.op = 15), decide (x.op = 16), decide (x.op = 18), decide (x.op = 15 ∨ x.op = 16 ∨ x.op = 11), false⟩
theorem instr_eq (x : PInstr) : effect_instr x = some (insE x) := by
  unfold effect_instr effect_instr.jn6 insE arith_Traps
  by_cases h1 : x.op = 15
  · simp [h1]
  · by_cases h2 : x.op = 16
    · simp [h2]
    · by_cases h3 : x.op = 11 <;> simp [h1, h2, h3]

theorem turnsC (row place : List Int) (b : Int) (hl : row.length ≤ maxLen) (hb : ok place.length b) (hr : ∀ x, x ∈ row → ok place.length x) :
    slices_ContainsFunc_effect_turns_1 row place b = some (decide (∃ x, x ∈ row ∧ nu place x ≤ nu place b)) := by
  have H : ∃ i, slices_IndexFunc_effect_turns_1 row place b = some i ∧ (i ≥ 0 ↔ ∃ x, x ∈ row ∧ nu place x ≤ nu place b) := by
    unfold slices_IndexFunc_effect_turns_1
    have := scan0 row (fun i y => if nu place y ≤ nu place b then some (i : Int) else none) (fun s => slices_IndexFunc_effect_turns_1.bd8 row place b s) hl (fun i hi => by
      simp only [slices_IndexFunc_effect_turns_1.bd8, len_lt, hi, if_true, idx_lt hi, Option.bind_some, w64_at hi hl, effect_turns_1, idx_nu hb, idx_nu (hr _ (List.getElem_mem hi)), decide_eq_true_eq]
      split <;> rfl) (by simp [slices_IndexFunc_effect_turns_1.bd8, len])
    rcases this with ⟨i, hi, r, hf, _, hw⟩ | ⟨hall, hw⟩
    · split at hf
      · cases hf
        rename_i hx
        exact ⟨i, by rw [hw]; rfl, fun _ => ⟨_, List.getElem_mem hi, hx⟩, fun _ => by omega⟩
      · cases hf
    · refine ⟨-1, by rw [hw]; rfl, fun h => by omega, fun ⟨x, hx, hle⟩ => ?_⟩
      obtain ⟨i, hi, he⟩ := List.getElem_of_mem hx
      have := hall i hi
      simp [he, hle] at this
  obtain ⟨i, h1, h2⟩ := H
  unfold slices_ContainsFunc_effect_turns_1
  rw [h1]
  simp only [Option.bind_some, h2]

/-- What goes round. -/
def Turns (nx : List (List Int)) (o : List Int) : Prop := ∃ place : List Int, place.length = nx.length ∧
  (∀ (i : Nat) (b : Int), o[i]? = some b → nu place b = (i : Int)) ∧ ∃ b, b ∈ o ∧ ∃ x, x ∈ cs nx b ∧ nu place x ≤ nu place b
theorem turns_eq (f : PFunc) (hf : SmF f) (o : List Int) (ho : graph_Order f = some o) (hlen : o.length ≤ 70) (hnd : o.Nodup) (hin : ∀ x, x ∈ o → ok f.blocks.length x) :
    ∃ b, effect_turns f = some b ∧ (∃ place : List Int, place.length = f.blocks.length ∧ (∀ (i : Nat) (x : Int), o[i]? = some x → nu place x = (i : Int)) ∧ (b = true ↔ ∃ y, y ∈ o ∧ ∃ x, x ∈ cs (nexts f) y ∧ nu place x ≤ nu place y)) := by
  have hn : f.blocks.length ≤ 70 := hf.1
  have ht : ∀ B ∈ f.blocks, B.term.to.length ≤ 70 := fun B hB => (hf.2.2.2 B hB).2.2.1
  have hmax : o.length ≤ maxLen := le_max hlen (by omega)
  have h1 := graphNext_eq f hn ht
  have h2 := mkl_rep (n := f.blocks.length) (0 : Int) hn
  have h3 : ∃ pl, whl (fun (s : (List Int × Int)) => effect_turns.bd14 o s.1 s.2) FUEL (List.replicate f.blocks.length 0, 0) = some pl ∧ (pl.length = f.blocks.length ∧ ∀ (j : Nat) (x : Int), j < o.length → o[j]? = some x → nu pl x = (j : Int)) := by
    refine whl_for (σ := List Int × Int) (s0 := (List.replicate f.blocks.length 0, 0)) o.length (fun i s => s.2 = (i : Int) ∧ s.1.length = f.blocks.length ∧ ∀ (j : Nat) (x : Int), j < i → o[j]? = some x → nu s.1 x = (j : Int)) (fun pl => pl.length = f.blocks.length ∧ ∀ (j : Nat) (x : Int), j < o.length → o[j]? = some x → nu pl x = (j : Int)) hmax ?_ ?_ ⟨rfl, by simp, fun j x hj => by omega⟩
    · rintro i ⟨pl, k⟩ hi ⟨hk, hl, hj⟩
      dsimp only at hk hl hj
      subst hk
      have hb := hin _ (List.getElem_mem hi)
      have hb' : ok pl.length o[i] := by rw [hl]; exact hb
      refine .inr ⟨(pl.set (o[i]).toNat i, ((i + 1 : Nat) : Int)), ?_, rfl, by simpa using hl, ?_⟩
      · simp only [effect_turns.bd14, len_lt, hi, if_true, idx_lt hi, Option.bind_some, idx_nu hb', w64_at hi hmax]
      · intro j x hji hx
        have hxm : x ∈ o := List.mem_of_getElem? hx
        show nu (pl.set (o[i]).toNat i) x = j
        rw [nu_set hb' (by rw [hl]; exact hin _ hxm)]
        split
        · rename_i he
          have hjl : j < o.length := (List.getElem?_eq_some_iff.1 hx).1
          have hx2 : o[j] = o[i] := by rw [← he]; exact (List.getElem?_eq_some_iff.1 hx).2
          have := (List.getElem_inj hnd).1 hx2
          omega
        · rename_i hne
          refine hj j x ?_ hx
          rcases Nat.lt_or_ge j i with h | h
          · exact h
          · have : j = i := by omega
            subst this
            rw [List.getElem?_eq_getElem hi] at hx
            exact absurd (Option.some.inj hx).symm hne
    · rintro ⟨pl, k⟩ ⟨hk, hl, hj⟩
      dsimp only at hk hl hj
      subst hk
      exact ⟨pl, by simp [effect_turns.bd14, len], hl, hj⟩
  obtain ⟨pl, hw, hpl, hplace⟩ := h3
  have hrow : ∀ y, y ∈ o → idx (nexts f) y = some (cs (nexts f) y) ∧ (cs (nexts f) y).length ≤ 70 ∧ ∀ x, x ∈ cs (nexts f) y → ok pl.length x := by
    intro y hy
    have hy1 := hin y hy
    have hy2 : ok (nexts f).length y := by rw [nexts_length]; exact hy1
    have hi := idx_cs hy2
    have h5 := nexts_rows f ht y.toNat (cs (nexts f) y) (by
      have := hi
      unfold idx at this
      rwa [if_pos hy2.1] at this)
    refine ⟨hi, h5.1, fun x hx => ?_⟩
    have := h5.2 x hx
    rw [nexts_length] at this
    rw [hpl]
    exact this
  have h4 := scan0 o (fun _ y => if ∃ x, x ∈ cs (nexts f) y ∧ nu pl x ≤ nu pl y then some true else none) (fun s => effect_turns.bd23 (nexts f) o pl s) hmax (fun i hi => by
    have hb := List.getElem_mem hi
    obtain ⟨e1, e2, e3⟩ := hrow _ hb
    have e4 := turnsC (cs (nexts f) o[i]) pl o[i] (le_max e2 (by omega)) (by rw [hpl]; exact hin _ hb) e3
    simp only [effect_turns.bd23, len_lt, hi, if_true, idx_lt hi, Option.bind_some, e1, e4, w64_at hi hmax, decide_eq_true_eq]
    split <;> rfl) (by simp [effect_turns.bd23, len])
  have hlen' : len f.blocks = (f.blocks.length : Int) := rfl
  rcases h4 with ⟨i, hi, r, hfi, _, hw2⟩ | ⟨hall, hw2⟩
  · split at hfi
    · cases hfi
      rename_i hx
      refine ⟨true, ?_, pl, hpl, fun i x hx => hplace i x (List.getElem?_eq_some_iff.1 hx).1 hx, fun _ => ⟨_, List.getElem_mem hi, hx⟩, fun _ => rfl⟩
      simp only [effect_turns, h1, Option.bind_some, hlen', h2, effect_turns.jn4, ho, hw, effect_turns.nx14, hw2]
    · cases hfi
  · refine ⟨false, ?_, pl, hpl, fun i x hx => hplace i x (List.getElem?_eq_some_iff.1 hx).1 hx, fun h => (by cases h), fun ⟨y, hy, hx⟩ => ?_⟩
    · simp only [effect_turns, h1, Option.bind_some, hlen', h2, effect_turns.jn4, ho, hw, effect_turns.nx14, hw2, effect_turns.nx23]
    · obtain ⟨i, hi, rfl⟩ := List.getElem_of_mem hy
      have := hall i hi
      simp [hx] at this
theorem turns_same (f g : PFunc) (hf : SmF f) (hg : SmF g) (h1 : nexts f = nexts g) (h2 : f.blocks.length = g.blocks.length) (h3 : graph_Order f = graph_Order g) : effect_turns f = effect_turns g := by
  have e1 := graphNext_eq f hf.1 (fun B hB => (hf.2.2.2 B hB).2.2.1)
  have e2 := graphNext_eq g hg.1 (fun B hB => (hg.2.2.2 B hB).2.2.1)
  have e3 : len f.blocks = len g.blocks := by simp [len, h2]
  simp only [effect_turns, e1, e2, h1, e3, effect_turns.jn4, h3]

/-- A function's instructions that are reached. -/
def RI (f : PFunc) (s : List Bool) (n : Nat) (x : PInstr) : Prop := ∃ (i : Nat) (B : PBlock), i < n ∧ s[i]? = some true ∧ f.blocks[i]? = some B ∧ x ∈ B.ins
structure OwnP (P : PInstr → Prop) (tr : Bool) (e : PEffect) (c : List Int) : Prop where
  bits : ∀ k, k < 5 → (bt e k = true ↔ (k = 4 ∧ tr = true) ∨ ∃ x, P x ∧ bt (insE x) k = true)
  calls : ∀ y, y ∈ c ↔ ∃ x, P x ∧ x.op = 17 ∧ x.fn = y
theorem OwnP.iff {P Q : PInstr → Prop} {tr : Bool} {e : PEffect} {c : List Int} (h : OwnP P tr e c) (hq : ∀ x, P x ↔ Q x) : OwnP Q tr e c :=
  ⟨fun k hk => by rw [h.bits k hk]; simp only [hq], fun y => by rw [h.calls y]; simp only [hq]⟩
theorem OwnP.add {P : PInstr → Prop} {tr : Bool} {e : PEffect} {c : List Int} (h : OwnP P tr e c) (x : PInstr) {e' : PEffect} (he : ∀ k, k < 5 → bt e' k = (bt e k || bt (insE x) k)) {c' : List Int}
    (hc : c' = if x.op = 17 then c ++ [x.fn] else c) : OwnP (fun y => P y ∨ y = x) tr e' c' := by
  refine ⟨fun k hk => ?_, fun y => ?_⟩
  · rw [he k hk, Bool.or_eq_true, h.bits k hk]
    constructor
    · rintro ((h1 | ⟨y, h1, h2⟩) | h1)
      · exact .inl h1
      · exact .inr ⟨y, .inl h1, h2⟩
      · exact .inr ⟨x, .inr rfl, h1⟩
    · rintro (h1 | ⟨y, h1 | rfl, h2⟩)
      · exact .inl (.inl h1)
      · exact .inl (.inr ⟨y, h1, h2⟩)
      · exact .inr h2
  · subst hc
    constructor
    · intro hy
      split at hy
      · rename_i ho
        rcases List.mem_append.1 hy with h1 | h1
        · obtain ⟨z, a, b, d⟩ := (h.calls y).1 h1
          exact ⟨z, .inl a, b, d⟩
        · exact ⟨x, .inr rfl, ho, (List.mem_singleton.1 h1).symm⟩
      · obtain ⟨z, a, b, d⟩ := (h.calls y).1 hy
        exact ⟨z, .inl a, b, d⟩
    · rintro ⟨z, a | rfl, b, d⟩
      · have := (h.calls y).2 ⟨z, a, b, d⟩
        split
        · exact List.mem_append.2 (.inl this)
        · exact this
      · rw [if_pos b]
        exact List.mem_append.2 (.inr (List.mem_singleton.2 d.symm))
abbrev tpE (s : Bool × Bool × Bool × Bool × Bool × List Int) : PEffect := ⟨s.1, s.2.1, s.2.2.1, s.2.2.2.1, s.2.2.2.2.1⟩
theorem ownB (B : PBlock) (hB : B.ins.length ≤ 300) (P : PInstr → Prop) (tr : Bool) (e : PEffect) (c : List Int) (hc : c.length ≤ 300 * 70) (h : OwnP P tr e c) :
    ∃ z, whl (fun (s : (Bool × Bool × Bool × Bool × Bool × List Int × Int)) => effect_own.bd33 B s.1 s.2.1 s.2.2.1 s.2.2.2.1 s.2.2.2.2.1 s.2.2.2.2.2.1 s.2.2.2.2.2.2) FUEL (e.reads, e.writes, e.outs, e.traps, e.turns, c, 0) = some z ∧
      (OwnP (fun y => P y ∨ y ∈ B.ins) tr (tpE z) z.2.2.2.2.2 ∧ z.2.2.2.2.2.length ≤ c.length + B.ins.length) := by
  have hm := le_max hB (by omega)
  refine whl_for (σ := Bool × Bool × Bool × Bool × Bool × List Int × Int) (s0 := (e.reads, e.writes, e.outs, e.traps, e.turns, c, 0)) B.ins.length (fun i s => s.2.2.2.2.2.2 = (i : Int) ∧ OwnP (fun y => P y ∨ y ∈ B.ins.take i) tr ⟨s.1, s.2.1, s.2.2.1, s.2.2.2.1, s.2.2.2.2.1⟩ s.2.2.2.2.2.1 ∧ s.2.2.2.2.2.1.length ≤ c.length + i) (fun z => OwnP (fun y => P y ∨ y ∈ B.ins) tr (tpE z) z.2.2.2.2.2 ∧ z.2.2.2.2.2.length ≤ c.length + B.ins.length) hm ?_ ?_ ⟨rfl, h.iff fun x => by simp, by simp⟩
  · rintro i ⟨q0, q1, q2, q3, q4, d, k⟩ hi ⟨hk, hO, hl⟩
    dsimp only at hk hO hl
    subst hk
    obtain ⟨e', he1, he2⟩ := joined_eq ⟨q0, q1, q2, q3, q4⟩ (insE B.ins[i])
    have hcat := cat_ok (a := d) (b := [(B.ins[i]).fn]) (by simp only [LIM, List.length_singleton]; omega)
    have hO2 := hO.add B.ins[i] he2 rfl
    have hP : ∀ y, ((P y ∨ y ∈ B.ins.take i) ∨ y = B.ins[i]) ↔ (P y ∨ y ∈ B.ins.take (i + 1)) := fun y => by
      rw [List.take_succ_eq_append_getElem hi, List.mem_append, List.mem_singleton, or_assoc]
    refine .inr ⟨(e'.reads, e'.writes, e'.outs, e'.traps, e'.turns, (if (B.ins[i]).op = 17 then d ++ [(B.ins[i]).fn] else d), ((i + 1 : Nat) : Int)), ?_, rfl, hO2.iff hP, ?_⟩
    · simp only [effect_own.bd33, len_lt, hi, if_true, idx_lt hi, Option.bind_some, instr_eq, he1, effect_own.jn48, effect_own.jn43, hcat, w64_at hi hm]
      split <;> rfl
    · dsimp only
      split
      · simp only [List.length_append, List.length_singleton]; omega
      · omega
  · rintro ⟨q0, q1, q2, q3, q4, d, k⟩ ⟨hk, hO, hl⟩
    dsimp only at hk hO hl
    subst hk
    refine ⟨(q0, q1, q2, q3, q4, d), by simp [effect_own.bd33, len], ?_, hl⟩
    rw [List.take_length] at hO
    exact hO
structure OwnOk (f : PFunc) (e : PEffect) (c : List Int) : Prop where
  own : effect_own f = some (e, c)
  len : c.length ≤ 300 * 70
  what : ∃ s tr, graph_Reached f = some s ∧ effect_turns f = some tr ∧ s.length = f.blocks.length ∧ OwnP (RI f s f.blocks.length) tr e c
theorem order_in (f : PFunc) (hf : SmF f) : ∃ s o, Walked f s o ∧ o.Nodup ∧ (∀ x, x ∈ o → ok f.blocks.length x) := by
  obtain ⟨s, o, hW, h0, h1⟩ := walked_any f hf
  refine ⟨s, o, hW, ?_⟩
  rcases Nat.eq_zero_or_pos f.blocks.length with hz | hp
  · obtain ⟨_, rfl⟩ := h0 hz
    exact ⟨List.nodup_nil, by simp⟩
  · obtain ⟨hV, _, _⟩ := h1 hp
    obtain ⟨new, h2, h3, h4⟩ := hV.app
    simp only [List.nil_append] at h2
    subst h2
    refine ⟨h3, fun x hx => ?_⟩
    obtain ⟨v, rfl, hv, _⟩ := (h4 x).1 hx
    have := (List.getElem?_eq_some_iff.1 hv).1
    rw [hW.len] at this
    exact ⟨by omega, by omega⟩
theorem own_ok (f : PFunc) (hf : SmF f) : ∃ e c, OwnOk f e c := by
  obtain ⟨s, o, hW, hnd, hin⟩ := order_in f hf
  obtain ⟨tr, htr, _⟩ := turns_eq f hf o.reverse hW.ord (by simpa using hW.few) ((List.reverse_perm o).nodup_iff.2 hnd) (fun x hx => hin x (List.mem_reverse.1 hx))
  have hn : f.blocks.length ≤ 70 := hf.1
  have hsl := hW.len
  have hm : s.length ≤ maxLen := le_max (by omega : s.length ≤ 70) (by omega)
  have H : ∃ z, whl (fun (s' : (Bool × Bool × Bool × Bool × Bool × List Int × Int)) => effect_own.bd12 f s s'.1 s'.2.1 s'.2.2.1 s'.2.2.2.1 s'.2.2.2.2.1 s'.2.2.2.2.2.1 s'.2.2.2.2.2.2) FUEL (false, false, false, false, tr, ([] : List Int), 0) = some z ∧
      (OwnP (RI f s s.length) tr (tpE z) z.2.2.2.2.2 ∧ z.2.2.2.2.2.length ≤ 300 * s.length) := by
    refine whl_for (σ := Bool × Bool × Bool × Bool × Bool × List Int × Int) (s0 := (false, false, false, false, tr, ([] : List Int), 0)) s.length (fun i s' => s'.2.2.2.2.2.2 = (i : Int) ∧ OwnP (RI f s i) tr ⟨s'.1, s'.2.1, s'.2.2.1, s'.2.2.2.1, s'.2.2.2.2.1⟩ s'.2.2.2.2.2.1 ∧ s'.2.2.2.2.2.1.length ≤ 300 * i) (fun z => OwnP (RI f s s.length) tr (tpE z) z.2.2.2.2.2 ∧ z.2.2.2.2.2.length ≤ 300 * s.length) hm ?_ ?_ ⟨rfl, ⟨fun k hk => ?_, fun y => ?_⟩, by simp⟩
    · rintro i ⟨q0, q1, q2, q3, q4, d, k⟩ hi ⟨hk, hO, hl⟩
      dsimp only at hk hO hl
      subst hk
      have hib : i < f.blocks.length := by omega
      have hnext : ∀ y, RI f s (i + 1) y ↔ RI f s i y ∨ (s[i]? = some true ∧ y ∈ (f.blocks[i]).ins) := by
        intro y
        constructor
        · rintro ⟨j, B, hj, h1, h2, h3⟩
          rcases Nat.lt_or_ge j i with h | h
          · exact .inl ⟨j, B, h, h1, h2, h3⟩
          · have : j = i := by omega
            subst this
            rw [List.getElem?_eq_getElem hib] at h2
            cases h2
            exact .inr ⟨h1, h3⟩
        · rintro (⟨j, B, hj, h⟩ | ⟨h1, h2⟩)
          · exact ⟨j, B, by omega, h⟩
          · exact ⟨i, _, by omega, h1, List.getElem?_eq_getElem hib, h2⟩
      cases hsi : s[i] with
      | false =>
        have hno : ¬ s[i]? = some true := by rw [List.getElem?_eq_getElem hi, hsi]; simp
        refine .inr ⟨(q0, q1, q2, q3, q4, d, ((i + 1 : Nat) : Int)), ?_, rfl, hO.iff fun y => ?_, by dsimp only; omega⟩
        · simp only [effect_own.bd12, len_lt, hi, if_true, idx_lt hi, Option.bind_some, hsi, Bool.not_false, effect_own.jn22, w64_at hi hm]
        · rw [hnext]; simp [hno]
      | true =>
        have hyes : s[i]? = some true := by rw [List.getElem?_eq_getElem hi, hsi]
        have hB := (hf.2.2.2 _ (List.getElem_mem hib)).1
        obtain ⟨z, hz1, hz2, hz3⟩ := ownB f.blocks[i] hB (RI f s i) tr ⟨q0, q1, q2, q3, q4⟩ d (by omega) hO
        obtain ⟨z0, z1, z2, z3, z4, z5⟩ := z
        refine .inr ⟨(z0, z1, z2, z3, z4, z5, ((i + 1 : Nat) : Int)), ?_, rfl, hz2.iff fun y => ?_, ?_⟩
        · dsimp only at hz1
          simp only [effect_own.bd12, len_lt, hi, if_true, idx_lt hi, Option.bind_some, hsi, Bool.not_true, Bool.false_eq_true, if_false, idx_lt hib, hz1, effect_own.nx33, effect_own.jn22, w64_at hi hm]
        · rw [hnext]; simp [hyes]
        · dsimp only at hz3 ⊢; omega
    · rintro ⟨q0, q1, q2, q3, q4, d, k⟩ ⟨hk, hO, hl⟩
      dsimp only at hk hO hl
      subst hk
      exact ⟨(q0, q1, q2, q3, q4, d), by simp [effect_own.bd12, len], hO, hl⟩
    · have hno : ¬ ∃ x, RI f s 0 x ∧ bt (insE x) k = true := by rintro ⟨x, ⟨j, _, hj, _⟩, _⟩; omega
      constructor
      · intro hb
        rcases lt5 hk with rfl | rfl | rfl | rfl | rfl
        · simp [bt] at hb
        · simp [bt] at hb
        · simp [bt] at hb
        · simp [bt] at hb
        · exact .inl ⟨rfl, hb⟩
      · rintro (⟨rfl, hb⟩ | hb)
        · exact hb
        · exact absurd hb hno
    · constructor
      · simp
      · rintro ⟨x, ⟨j, _, hj, _⟩, _⟩; omega
  obtain ⟨z, hz1, hz2, hz3⟩ := H
  refine ⟨tpE z, z.2.2.2.2.2, ?_, by omega, s, tr, hW.rea, htr, hsl, by rw [← hsl]; exact hz2⟩
  simp only [effect_own, htr, hW.rea, Option.bind_some, hz1, effect_own.nx12]
end Go.Proofs.Ytpomfbdbkejedaa
set_option linter.unusedVariables false
set_option linter.unusedSimpArgs false
namespace Go.Proofs.Ytpomfbdbkejedaa
open Go Go.Proofs

def eg (l : List PEffect) (x : Int) : PEffect := l.getD x.toNat PEffect.zero
theorem idx_eg {l : List PEffect} {x : Int} (h : ok l.length x) : idx l x = some (eg l x) := by
  obtain ⟨h0, h1⟩ := h
  have hx : x.toNat < l.length := by omega
  unfold idx eg
  rw [if_pos h0, List.getD_eq_getElem?_getD, List.getElem?_eq_getElem hx]; rfl
theorem eg_set {l : List PEffect} {v x : Int} {k : PEffect} (hv : ok l.length v) (hx : ok l.length x) : eg (l.set v.toNat k) x = if x = v then k else eg l x := by
  obtain ⟨h0, h1⟩ := hv
  obtain ⟨h2, h3⟩ := hx
  unfold eg
  simp only [List.getD_eq_getElem?_getD, List.getElem?_set]
  by_cases h : x = v
  · subst h
    rw [if_pos rfl, if_pos (by omega), if_pos rfl]; rfl
  · rw [if_neg (by omega), if_neg h]
theorem ok_nat {N i : Nat} (h : i < N) : ok N (i : Int) := ⟨by omega, by omega⟩
theorem ok_get {N : Nat} {x : Int} (h : ok N x) : ∃ i : Nat, x = (i : Int) ∧ i < N := ⟨x.toNat, by have := h.1; omega, by have := h.1; have := h.2; omega⟩
theorem cs_set {l : List (List Int)} {v x : Int} {k : List Int} (hv : ok l.length v) (hx : ok l.length x) : cs (l.set v.toNat k) x = if x = v then k else cs l x := by
  obtain ⟨h0, h1⟩ := hv
  obtain ⟨h2, h3⟩ := hx
  unfold cs
  simp only [List.getD_eq_getElem?_getD, List.getElem?_set]
  by_cases h : x = v
  · subst h
    rw [if_pos rfl, if_pos (by omega), if_pos rfl]; rfl
  · rw [if_neg (by omega), if_neg h]

structure Owns (m : PModule) (n : Nat) (O : List PEffect) (D : List (List Int)) : Prop where
  l1 : O.length = m.funcs.length
  l2 : D.length = m.funcs.length
  own : ∀ (i : Nat) (h : i < m.funcs.length), i < n → OwnOk m.funcs[i] (eg O (i : Int)) (cs D (i : Int))
theorem owns_ok (m : PModule) (hm : SmM m) : ∃ z, whl (fun (s : (List PEffect × List (List Int) × Int)) => effect_Effects.bd19 m s.1 s.2.1 s.2.2) FUEL (List.replicate m.funcs.length PEffect.zero, List.replicate m.funcs.length ([] : List Int), 0) = some z ∧ Owns m m.funcs.length z.1 z.2 := by
  have hN : m.funcs.length ≤ maxLen := le_max (by have := hm.1; omega : m.funcs.length ≤ 70) (by omega)
  refine whl_for (σ := List PEffect × List (List Int) × Int) (s0 := (List.replicate m.funcs.length PEffect.zero, List.replicate m.funcs.length ([] : List Int), 0)) m.funcs.length (fun i s => s.2.2 = (i : Int) ∧ Owns m i s.1 s.2.1) (fun (z : List PEffect × List (List Int)) => Owns m m.funcs.length z.1 z.2) hN ?_ ?_ ⟨rfl, by simp, by simp, fun i h hi => by omega⟩
  · rintro i ⟨O, D, k⟩ hi ⟨hk, hO⟩
    dsimp only at hk hO
    subst hk
    obtain ⟨e, c, hec⟩ := own_ok _ (hm.2 _ (List.getElem_mem hi))
    have o1 : ok O.length (i : Int) := by rw [hO.l1]; exact ok_nat hi
    have o2 : ok D.length (i : Int) := by rw [hO.l2]; exact ok_nat hi
    refine .inr ⟨(O.set (i : Int).toNat e, D.set (i : Int).toNat c, ((i + 1 : Nat) : Int)), ?_, rfl, by simpa using hO.l1, by simpa using hO.l2, fun j hj hji => ?_⟩
    · simp only [effect_Effects.bd19, len_lt, hi, if_true, idx_lt hi, Option.bind_some, hec.own, idx_eg o1, idx_cs o2, w64_at hi hN]
    · show OwnOk m.funcs[j] (eg (O.set (i : Int).toNat e) (j : Int)) (cs (D.set (i : Int).toNat c) (j : Int))
      rw [eg_set o1 (by rw [hO.l1]; exact ok_nat hj), cs_set o2 (by rw [hO.l2]; exact ok_nat hj)]
      by_cases h : j = i
      · subst h; simpa using hec
      · rw [if_neg (by omega), if_neg (by omega)]
        exact hO.own j hj (by omega)
  · rintro ⟨O, D, k⟩ ⟨hk, hO⟩
    dsimp only at hk hO
    subst hk
    exact ⟨(O, D), by simp [effect_Effects.bd19, len], hO⟩

/-- A ring that goes round. -/
def Cyc (C : List (List Int)) (r : List Int) : Prop := 1 < r.length ∨ nu r 0 ∈ cs C (nu r 0)
structure Trn (N : Nat) (O : List PEffect) (P : Int → Prop) (l : List PEffect) : Prop where
  len : l.length = N
  bits : ∀ x, ok N x → ∀ k, k < 5 → (bt (eg l x) k = true ↔ bt (eg O x) k = true ∨ (k = 4 ∧ P x))
theorem trn_row {N : Nat} (r : List Int) (hr : r.length ≤ 1000) (hin : ∀ x, x ∈ r → ok N x) {O l : List PEffect} {P : Int → Prop} (h : Trn N O P l) :
    ∃ z, whl (fun (s : (List PEffect × Int)) => effect_Effects.bd129 r s.1 s.2) FUEL (l, 0) = some z ∧ Trn N O (fun x => P x ∨ x ∈ r) z := by
  have hm := le_max hr (by omega)
  refine whl_for (σ := List PEffect × Int) (s0 := (l, 0)) r.length (fun i s => s.2 = (i : Int) ∧ Trn N O (fun x => P x ∨ x ∈ r.take i) s.1) (fun z => Trn N O (fun x => P x ∨ x ∈ r) z) hm ?_ ?_ ⟨rfl, h.len, fun x hx k hk => by rw [h.bits x hx k hk]; simp⟩
  · rintro i ⟨l, k⟩ hi ⟨hk, hT⟩
    dsimp only at hk hT
    subst hk
    have hx := hin _ (List.getElem_mem hi)
    have hx' : ok l.length r[i] := by rw [hT.len]; exact hx
    refine .inr ⟨(l.set (r[i]).toNat ⟨(eg l r[i]).reads, (eg l r[i]).writes, (eg l r[i]).outs, (eg l r[i]).traps, true⟩, ((i + 1 : Nat) : Int)), ?_, rfl, by simpa using hT.len, fun x hxo k hk => ?_⟩
    · simp only [effect_Effects.bd129, len_lt, hi, if_true, idx_lt hi, Option.bind_some, idx_eg hx', w64_at hi hm]
    · show bt (eg (l.set (r[i]).toNat _) x) k = true ↔ _
      rw [eg_set hx' (by rw [hT.len]; exact hxo), List.take_succ_eq_append_getElem hi]
      by_cases he : x = r[i]
      · subst he
        have := hT.bits _ hxo k hk
        rw [if_pos rfl]
        rcases lt5 hk with rfl | rfl | rfl | rfl | rfl
        · simp [bt] at this ⊢; exact this
        · simp [bt] at this ⊢; exact this
        · simp [bt] at this ⊢; exact this
        · simp [bt] at this ⊢; exact this
        · simp only [bt, true_iff]
          exact .inr ⟨trivial, .inr (List.mem_append.2 (.inr (List.mem_singleton.2 rfl)))⟩
      · rw [if_neg he, hT.bits x hxo k hk, List.mem_append, List.mem_singleton]
        simp [he]
  · rintro ⟨l, k⟩ ⟨hk, hT⟩
    dsimp only at hk hT
    subst hk
    rw [List.take_length] at hT
    exact ⟨l, by simp [effect_Effects.bd129, len], hT⟩
theorem Trn.iff {N : Nat} {O l : List PEffect} {P Q : Int → Prop} (h : Trn N O P l) (hq : ∀ x, P x ↔ Q x) : Trn N O Q l := ⟨h.len, fun x hx k hk => by rw [h.bits x hx k hk, hq]⟩
theorem trn_all {N : Nat} (hN : N ≤ 40) {C R : List (List Int)} (hC : C.length = N) (hCl : ∀ x, (cs C x).length ≤ 1000) (hR : R.length ≤ 40) (hr : ∀ r, r ∈ R → r ≠ [] ∧ r.length ≤ 1000 ∧ ∀ x, x ∈ r → ok N x) {O : List PEffect} (hO : O.length = N) :
    ∃ z, whl (fun (s : (List PEffect × Int)) => effect_Effects.bd30 C R s.1 s.2) FUEL (O, 0) = some z ∧ Trn N O (fun x => ∃ r, r ∈ R ∧ x ∈ r ∧ Cyc C r) z := by
  have hm := le_max hR (by omega)
  refine whl_for (σ := List PEffect × Int) (s0 := (O, 0)) R.length (fun i s => s.2 = (i : Int) ∧ Trn N O (fun x => ∃ r, r ∈ R.take i ∧ x ∈ r ∧ Cyc C r) s.1) (fun z => Trn N O (fun x => ∃ r, r ∈ R ∧ x ∈ r ∧ Cyc C r) z) hm ?_ ?_ ⟨rfl, hO, fun x hx k hk => by simp⟩
  · rintro i ⟨l, k⟩ hi ⟨hk, hT⟩
    dsimp only at hk hT
    subst hk
    obtain ⟨h1, h2, h3⟩ := hr _ (List.getElem_mem hi)
    have hp : 0 < (R[i]).length := List.length_pos_iff.2 h1
    have h0 : idx R[i] 0 = some (nu R[i] 0) := idx_nu ⟨by omega, by omega⟩
    have h0m : nu R[i] 0 ∈ R[i] := by
      have : nu R[i] 0 = (R[i])[0] := by simp [nu, List.getD_eq_getElem?_getD, hp]
      rw [this]; exact List.getElem_mem hp
    have h0o := h3 _ h0m
    have hc0 : idx C (nu R[i] 0) = some (cs C (nu R[i] 0)) := idx_cs (by rw [hC]; exact h0o)
    have hct := contains_dec (cs C (nu R[i] 0)) (nu R[i] 0) (hCl _)
    have hlen : (len R[i] > 1) ↔ 1 < (R[i]).length := by simp only [len]; omega
    have hnext : ∀ x, (∃ r, r ∈ R.take (i + 1) ∧ x ∈ r ∧ Cyc C r) ↔ ((∃ r, r ∈ R.take i ∧ x ∈ r ∧ Cyc C r) ∨ (x ∈ R[i] ∧ Cyc C R[i])) := by
      intro x
      rw [List.take_succ_eq_append_getElem hi]
      constructor
      · rintro ⟨r, a, b⟩
        rcases List.mem_append.1 a with a | a
        · exact .inl ⟨r, a, b⟩
        · rw [List.mem_singleton.1 a] at b; exact .inr b
      · rintro (⟨r, a, b⟩ | b)
        · exact ⟨r, List.mem_append.2 (.inl a), b⟩
        · exact ⟨_, List.mem_append.2 (.inr (List.mem_singleton.2 rfl)), b⟩
    by_cases hcy : Cyc C R[i]
    · obtain ⟨z, hz1, hz2⟩ := trn_row R[i] h2 h3 hT
      refine .inr ⟨(z, ((i + 1 : Nat) : Int)), ?_, rfl, hz2.iff fun x => by rw [hnext]; simp [hcy]⟩
      by_cases hb : 1 < (R[i]).length
      · simp only [effect_Effects.bd30, len_lt, hi, if_true, idx_lt hi, Option.bind_some, hlen, hb, hz1, effect_Effects.nx129, effect_Effects.jn114, w64_at hi hm]
      · have hmem : nu R[i] 0 ∈ cs C (nu R[i] 0) := hcy.resolve_left hb
        simp only [effect_Effects.bd30, len_lt, hi, if_true, idx_lt hi, Option.bind_some, hlen, hb, if_false, h0, hc0, hct, hmem, decide_true, hz1, effect_Effects.nx129, effect_Effects.jn114, w64_at hi hm]
    · refine .inr ⟨(l, ((i + 1 : Nat) : Int)), ?_, rfl, hT.iff fun x => by rw [hnext]; simp [hcy]⟩
      have hb : ¬ 1 < (R[i]).length := fun h => hcy (.inl h)
      have hmem : ¬ nu R[i] 0 ∈ cs C (nu R[i] 0) := fun h => hcy (.inr h)
      simp only [effect_Effects.bd30, len_lt, hi, if_true, idx_lt hi, Option.bind_some, hlen, hb, if_false, h0, hc0, hct, hmem, decide_false, Bool.false_eq_true, effect_Effects.jn114, w64_at hi hm]
  · rintro ⟨l, k⟩ ⟨hk, hT⟩
    dsimp only at hk hT
    subst hk
    rw [List.take_length] at hT
    exact ⟨l, by simp [effect_Effects.bd30, len], hT⟩

def nb (b : Bool) : Nat := cond b 0 1
def fal (e : PEffect) : Nat := nb e.reads + nb e.writes + nb e.outs + nb e.traps + nb e.turns
theorem nb_le {p q : Bool} (h : p = true → q = true) : nb q ≤ nb p ∧ (nb q = nb p → p = q) := by cases p <;> cases q <;> simp [nb] at h ⊢
theorem fal_le {a b : PEffect} (h : ∀ k, k < 5 → bt a k = true → bt b k = true) : fal b ≤ fal a ∧ (a ≠ b → fal b < fal a) := by
  have h0 := nb_le (h 0 (by omega))
  have h1 := nb_le (h 1 (by omega))
  have h2 := nb_le (h 2 (by omega))
  have h3 := nb_le (h 3 (by omega))
  have h4 := nb_le (h 4 (by omega))
  obtain ⟨a0, a1, a2, a3, a4⟩ := a
  obtain ⟨b0, b1, b2, b3, b4⟩ := b
  simp only [bt] at h0 h1 h2 h3 h4
  simp only [fal]
  refine ⟨by omega, fun hne => ?_⟩
  rcases Nat.lt_or_ge (nb b0 + nb b1 + nb b2 + nb b3 + nb b4) (nb a0 + nb a1 + nb a2 + nb a3 + nb a4) with h | h
  · exact h
  · exfalso; apply hne
    rw [h0.2 (by omega), h1.2 (by omega), h2.2 (by omega), h3.2 (by omega), h4.2 (by omega)]
def msr (l : List PEffect) : Nat := (l.map fal).sum
theorem msr_set : ∀ (l : List PEffect) (i : Nat) (a b : PEffect), l[i]? = some a → msr (l.set i b) + fal a = msr l + fal b
  | [], i, a, b, h => by simp at h
  | x :: xs, 0, a, b, h => by simp at h; subst h; simp [msr]; omega
  | x :: xs, i + 1, a, b, h => by
    have := msr_set xs i a b (by simpa using h)
    simp only [msr, List.set_cons_succ, List.map_cons, List.sum_cons] at this ⊢
    omega
theorem msr_le (l : List PEffect) : msr l ≤ 5 * l.length := by
  induction l with
  | nil => simp [msr]
  | cons x xs ih =>
    have : fal x ≤ 5 := by
      obtain ⟨a, b, c, d, e⟩ := x
      cases a <;> cases b <;> cases c <;> cases d <;> cases e <;> simp [fal, nb]
    simp only [msr, List.map_cons, List.sum_cons, List.length_cons] at ih ⊢
    omega
theorem eg_some {l : List PEffect} {i : Nat} (h : i < l.length) : l[i]? = some (eg l (i : Int)) := by
  simp [eg, List.getD_eq_getElem?_getD, h]
theorem set_eg {l : List PEffect} {i : Nat} (h : i < l.length) : l.set i (eg l (i : Int)) = l := by
  have : eg l (i : Int) = l[i] := by simp [eg, List.getD_eq_getElem?_getD, h]
  rw [this, List.set_getElem_self]

structure Snd (N : Nat) (D : List (List Int)) (O l : List PEffect) : Prop where
  len : l.length = N
  snd : ∀ x, ok N x → ∀ k, k < 5 → bt (eg l x) k = true → ∃ j, ok N j ∧ Rch D x j ∧ bt (eg O j) k = true
  abv : ∀ x, ok N x → ∀ k, k < 5 → bt (eg O x) k = true → bt (eg l x) k = true
/-- One function's row of calls, joined. -/
theorem row_join {N : Nat} (row : List Int) (hr : row.length ≤ 300 * 70) (hin : ∀ x, x ∈ row → ok N x) (l : List PEffect) (hl : l.length = N) (e : PEffect) :
    ∃ z, whl (fun (s : (Bool × Bool × Bool × Bool × Bool × Int)) => effect_Effects.bd71 l row s.1 s.2.1 s.2.2.1 s.2.2.2.1 s.2.2.2.2.1 s.2.2.2.2.2) FUEL (e.reads, e.writes, e.outs, e.traps, e.turns, 0) = some z ∧
      ∀ k, k < 5 → (bt ⟨z.1, z.2.1, z.2.2.1, z.2.2.2.1, z.2.2.2.2⟩ k = true ↔ bt e k = true ∨ ∃ c, c ∈ row ∧ bt (eg l c) k = true) := by
  have hm : row.length ≤ maxLen := by simp only [maxLen]; omega
  refine whl_for (σ := Bool × Bool × Bool × Bool × Bool × Int) (s0 := (e.reads, e.writes, e.outs, e.traps, e.turns, 0)) row.length (fun i s => s.2.2.2.2.2 = (i : Int) ∧ ∀ k, k < 5 → (bt ⟨s.1, s.2.1, s.2.2.1, s.2.2.2.1, s.2.2.2.2.1⟩ k = true ↔ bt e k = true ∨ ∃ c, c ∈ row.take i ∧ bt (eg l c) k = true)) (fun (z : Bool × Bool × Bool × Bool × Bool) => ∀ k, k < 5 → (bt ⟨z.1, z.2.1, z.2.2.1, z.2.2.2.1, z.2.2.2.2⟩ k = true ↔ bt e k = true ∨ ∃ c, c ∈ row ∧ bt (eg l c) k = true)) hm ?_ ?_ ⟨rfl, fun k hk => by simp⟩
  · rintro i ⟨q0, q1, q2, q3, q4, k⟩ hi ⟨hk, hT⟩
    dsimp only at hk hT
    subst hk
    have hx := hin _ (List.getElem_mem hi)
    obtain ⟨e', he1, he2⟩ := joined_eq ⟨q0, q1, q2, q3, q4⟩ (eg l row[i])
    refine .inr ⟨(e'.reads, e'.writes, e'.outs, e'.traps, e'.turns, ((i + 1 : Nat) : Int)), ?_, rfl, fun k hk => ?_⟩
    · simp only [effect_Effects.bd71, len_lt, hi, if_true, idx_lt hi, Option.bind_some, idx_eg (show ok l.length row[i] by rw [hl]; exact hx), he1, w64_at hi hm]
    · show bt e' k = true ↔ _
      rw [he2 k hk, Bool.or_eq_true, hT k hk, List.take_succ_eq_append_getElem hi]
      constructor
      · rintro ((h | ⟨c, h1, h2⟩) | h)
        · exact .inl h
        · exact .inr ⟨c, List.mem_append.2 (.inl h1), h2⟩
        · exact .inr ⟨_, List.mem_append.2 (.inr (List.mem_singleton.2 rfl)), h⟩
      · rintro (h | ⟨c, h1, h2⟩)
        · exact .inl (.inl h)
        · rcases List.mem_append.1 h1 with h1 | h1
          · exact .inl (.inr ⟨c, h1, h2⟩)
          · rw [List.mem_singleton.1 h1] at h2; exact .inr h2
  · rintro ⟨q0, q1, q2, q3, q4, k⟩ ⟨hk, hT⟩
    dsimp only at hk hT
    subst hk
    rw [List.take_length] at hT
    exact ⟨(q0, q1, q2, q3, q4), by simp [effect_Effects.bd71, len], hT⟩
def Clo (N : Nat) (D : List (List Int)) (n : Nat) (l : List PEffect) : Prop := ∀ j : Nat, j < n → ∀ c, c ∈ cs D (j : Int) → ∀ k, k < 5 → bt (eg l c) k = true → bt (eg l (j : Int)) k = true
structure Rnd (N : Nat) (D : List (List Int)) (O l0 : List PEffect) (n : Nat) (l : List PEffect) (a : Bool) : Prop where
  s : Snd N D O l
  no : a = false → l = l0 ∧ Clo N D n l0
  yes : a = true → msr l < msr l0
theorem round_ok {N : Nat} (hN : N ≤ 40) {D : List (List Int)} (hD : D.length = N) (hDl : ∀ x, ok N x → (cs D x).length ≤ 300 * 70) (hDo : ∀ x, ok N x → ∀ c, c ∈ cs D x → ok N c) {O O' l0 : List PEffect} (hO' : O'.length = N) (h : Snd N D O l0) :
    ∃ z, whl (fun (s : (List PEffect × Bool × Int)) => effect_Effects.bd53 D O' s.1 s.2.1 s.2.2) FUEL (l0, false, 0) = some z ∧ Rnd N D O l0 N z.1 z.2 := by
  have hm : N ≤ maxLen := le_max (by omega : N ≤ 70) (by omega)
  have hlo : len O' = (N : Int) := by simp [len, hO']
  refine whl_for (σ := List PEffect × Bool × Int) (s0 := (l0, false, 0)) N (fun i s => s.2.2 = (i : Int) ∧ Rnd N D O l0 i s.1 s.2.1) (fun (z : List PEffect × Bool) => Rnd N D O l0 N z.1 z.2) hm ?_ ?_ ⟨rfl, h, fun _ => ⟨rfl, fun j hj => by omega⟩, fun h => by cases h⟩
  · rintro i ⟨l, a, k⟩ hi ⟨hk, hR⟩
    dsimp only at hk hR
    subst hk
    have hio := ok_nat hi
    have hl := hR.s.len
    have hil : i < l.length := by omega
    have o1 : ok l.length (i : Int) := by rw [hl]; exact hio
    obtain ⟨z, hz1, hz2⟩ := row_join (cs D (i : Int)) (hDl _ hio) (hDo _ hio) l hl (eg l (i : Int))
    obtain ⟨z0, z1, z2, z3, z4⟩ := z
    dsimp only at hz1 hz2
    have hb1 : (i : Int) < len O' := by rw [hlo]; omega
    have hset : (l.set (i : Int).toNat ⟨z0, z1, z2, z3, z4⟩) = l.set i ⟨z0, z1, z2, z3, z4⟩ := by simp
    have hsnd : Snd N D O (l.set i ⟨z0, z1, z2, z3, z4⟩) := by
      rw [← hset]
      refine ⟨by simpa using hl, fun x hx k hk hb => ?_, fun x hx k hk hb => ?_⟩
      · rw [eg_set o1 (by rw [hl]; exact hx)] at hb
        split at hb
        · rename_i he
          subst he
          rcases (hz2 k hk).1 hb with hb | ⟨c, hc, hb⟩
          · exact hR.s.snd _ hx k hk hb
          · obtain ⟨j, h1, h2, h3⟩ := hR.s.snd c (hDo _ hio c hc) k hk hb
            exact ⟨j, h1, .step hc h2, h3⟩
        · exact hR.s.snd _ hx k hk hb
      · have := hR.s.abv x hx k hk hb
        rw [eg_set o1 (by rw [hl]; exact hx)]
        split
        · rename_i he
          subst he
          exact (hz2 k hk).2 (.inl this)
        · exact this
    have hfal := fal_le (a := eg l (i : Int)) (b := ⟨z0, z1, z2, z3, z4⟩) (fun k hk hb => (hz2 k hk).2 (.inl hb))
    have hmsr := msr_set l i _ (⟨z0, z1, z2, z3, z4⟩ : PEffect) (eg_some hil)
    by_cases heq : (⟨z0, z1, z2, z3, z4⟩ : PEffect) = eg l (i : Int)
    · refine .inr ⟨(l.set (i : Int).toNat ⟨z0, z1, z2, z3, z4⟩, a, ((i + 1 : Nat) : Int)), ?_, rfl, by rw [hset]; exact hsnd, fun ha => ?_, fun ha => ?_⟩
      · cases a <;> simp only [effect_Effects.bd53, hb1, if_true, Option.bind_some, idx_eg o1, idx_cs (show ok D.length (i : Int) by rw [hD]; exact hio), hz1, effect_Effects.nx71, heq, not_true_eq_false, decide_false, Bool.false_eq_true, if_false, w64_at hi hm]
      · obtain ⟨e1, e2⟩ := hR.no ha
        have e3 : l.set i ⟨z0, z1, z2, z3, z4⟩ = l := by rw [heq]; exact set_eg hil
        refine ⟨?_, fun j hj c hc k hk hb => ?_⟩
        · show l.set (i : Int).toNat ⟨z0, z1, z2, z3, z4⟩ = l0
          rw [hset, e3, e1]
        · rcases Nat.lt_or_ge j i with hji | hji
          · exact e2 j hji c hc k hk hb
          · have : j = i := by omega
            subst this
            rw [← e1] at hb ⊢
            rw [← heq]
            exact (hz2 k hk).2 (.inr ⟨c, hc, hb⟩)
      · show msr (l.set (i : Int).toNat ⟨z0, z1, z2, z3, z4⟩) < msr l0
        rw [hset]
        have := hR.yes ha
        rw [heq] at hmsr ⊢
        omega
    · have hf := hfal.2 (fun h => heq h.symm)
      refine .inr ⟨(l.set (i : Int).toNat ⟨z0, z1, z2, z3, z4⟩, true, ((i + 1 : Nat) : Int)), ?_, rfl, by rw [hset]; exact hsnd, fun ha => (by cases ha), fun _ => ?_⟩
      · cases a <;> simp only [effect_Effects.bd53, hb1, if_true, Option.bind_some, idx_eg o1, idx_cs (show ok D.length (i : Int) by rw [hD]; exact hio), hz1, effect_Effects.nx71, heq, not_false_eq_true, decide_true, Bool.false_eq_true, if_false, w64_at hi hm]
      · show msr (l.set (i : Int).toNat ⟨z0, z1, z2, z3, z4⟩) < msr l0
        rw [hset]
        cases a with
        | true => have := hR.yes rfl; omega
        | false => have := (hR.no rfl).1; subst this; omega
  · rintro ⟨l, a, k⟩ ⟨hk, hR⟩
    dsimp only at hk hR
    subst hk
    exact ⟨(l, a), by simp [effect_Effects.bd53, hlo], hR⟩
theorem rounds_ok {N : Nat} (hN : N ≤ 40) {D : List (List Int)} (hD : D.length = N) (hDl : ∀ x, ok N x → (cs D x).length ≤ 300 * 70) (hDo : ∀ x, ok N x → ∀ c, c ∈ cs D x → ok N c) {O : List PEffect} (hO : O.length = N) :
    ∃ l, whl (fun (s : (List PEffect × Bool)) => effect_Effects.bd39 D s.1 s.2) FUEL (O, true) = some l ∧ (l.length = N ∧ ∀ x, ok N x → ∀ k, k < 5 → (bt (eg l x) k = true ↔ ∃ j, ok N j ∧ Rch D x j ∧ bt (eg O j) k = true)) := by
  refine whl_ex (σ := List PEffect × Bool) (fun s => Snd N D O s.1 ∧ (s.2 = false → Clo N D N s.1)) (fun s => 2 * msr s.1 + (if s.2 = true then 1 else 0)) (fun l => l.length = N ∧ ∀ x, ok N x → ∀ k, k < 5 → (bt (eg l x) k = true ↔ ∃ j, ok N j ∧ Rch D x j ∧ bt (eg O j) k = true)) ?_ FUEL (O, true) ⟨⟨hO, fun x hx k hk hb => ⟨x, hx, .refl x, hb⟩, fun x hx k hk hb => hb⟩, fun h => by cases h⟩ ?_
  · rintro ⟨l, a⟩ ⟨hS, hC⟩
    dsimp only at hS hC
    cases a with
    | false =>
      refine .inl ⟨l, by simp [effect_Effects.bd39], hS.len, fun x hx k hk => ⟨hS.snd x hx k hk, ?_⟩⟩
      rintro ⟨j, hj, hr, hb⟩
      have hc := hC rfl
      induction hr with
      | refl x => exact hS.abv x hx k hk hb
      | @step x c y hcs hr ih =>
        obtain ⟨i, rfl, hi⟩ := ok_get hx
        exact hc i hi c hcs k hk (ih (hDo _ hx c hcs) hj hb)
    | true =>
      obtain ⟨z, hz1, hz2⟩ := round_ok hN hD hDl hDo hS.len hS
      refine .inr ⟨(z.1, z.2), by simp only [effect_Effects.bd39, if_true, hz1, Option.bind_some, effect_Effects.nx53], ⟨hz2.s, fun h => ?_⟩, ?_⟩
      · have := hz2.no h
        rw [this.1]; exact this.2
      · show 2 * msr z.1 + (if z.2 = true then 1 else 0) < 2 * msr l + (if true = true then 1 else 0)
        cases hb : z.2 with
        | true => have := hz2.yes hb; simp only [if_true]; omega
        | false => have := (hz2.no hb).1; rw [this]; simp
  · have := msr_le O
    show 2 * msr O + 1 < FUEL
    have hF : (1000 : Nat) < FUEL := lt_FUEL (by simp [maxLen])
    omega

theorem RingsOk.cyc {N : Nat} {C R : List (List Int)} (h : RingsOk N C R) {x : Int} (hx : ok N x) : (∃ r, r ∈ R ∧ x ∈ r ∧ Cyc C r) ↔ ∃ d, d ∈ cs C x ∧ Rch C d x := by
  have nu0 : ∀ r : List Int, (hp : 0 < r.length) → nu r 0 = r[0] := fun r hp => by simp [nu, List.getD_eq_getElem?_getD, hp]
  have hnd : ∀ r, r ∈ R → r.Nodup := fun r hr => (h.srt r hr).imp (fun hab => by omega)
  constructor
  · rintro ⟨r, hr, hxr, hc⟩
    have hpos : 0 < r.length := List.length_pos_iff.2 (h.ne r hr)
    have key : ∀ y, y ∈ r → y ≠ x → ∃ d, d ∈ cs C x ∧ Rch C d x := by
      intro y hy hne
      have h1 := h.strong r hr x hxr y hy
      have h2 := h.strong r hr y hy x hxr
      cases h1 with
      | refl => exact absurd rfl hne
      | step hc h1 => exact ⟨_, hc, h1.trans h2⟩
    rcases hc with hc | hc
    · obtain ⟨i, hi, he⟩ := List.getElem_of_mem hxr
      have hj : ∃ j, ∃ hj : j < r.length, j ≠ i := by
        rcases Nat.eq_zero_or_pos i with h | h
        · exact ⟨1, by omega, by omega⟩
        · exact ⟨0, by omega, by omega⟩
      obtain ⟨j, hj, hne⟩ := hj
      refine key r[j] (List.getElem_mem hj) (fun hh => hne ?_)
      rw [← he] at hh
      exact (List.getElem_inj (hnd r hr)).1 hh
    · rw [nu0 r hpos] at hc
      by_cases he : r[0] = x
      · rw [he] at hc; exact ⟨x, hc, .refl x⟩
      · exact key _ (List.getElem_mem hpos) he
  · rintro ⟨d, hd, hr⟩
    obtain ⟨r, hrR, hxr⟩ := (h.all x).2 hx
    refine ⟨r, hrR, hxr, ?_⟩
    rcases Nat.lt_or_ge 1 r.length with h1 | h1
    · exact .inl h1
    · right
      obtain ⟨i, hi, he⟩ := List.getElem_of_mem hxr
      have hi0 : i = 0 := by omega
      subst hi0
      rw [nu0 r hi, he]
      have hone : ∀ y, y ∈ r → y = x := by
        intro y hy
        obtain ⟨j, hj, he'⟩ := List.getElem_of_mem hy
        have : j = 0 := by omega
        subst this
        rw [← he', he]
      obtain ⟨n, hn, hnr⟩ := List.getElem_of_mem hrR
      have hn' : R[n]? = some r := by rw [List.getElem?_eq_getElem hn, hnr]
      obtain ⟨j, q, hj, hq, hdq⟩ := h.closed n r hn' x hxr d hd
      have down : ∀ {y : Int}, Rch C d y → ∃ (i : Nat) (p : List Int), i ≤ j ∧ R[i]? = some p ∧ y ∈ p := by
        intro y hy
        exact hy.closed (P := fun y => ∃ (i : Nat) (p : List Int), i ≤ j ∧ R[i]? = some p ∧ y ∈ p) (fun a ⟨i, p, h1, h2, h3⟩ c hc => by
          obtain ⟨i', p', h4, h5, h6⟩ := h.closed i p h2 a h3 c hc
          exact ⟨i', p', by omega, h5, h6⟩) ⟨j, q, Nat.le_refl _, hq, hdq⟩
      obtain ⟨i, p, hi, hp, hxp⟩ := down hr
      have hin := h.one hp hn' hxp hxr
      subst hin
      have : j = i := by omega
      subst this
      rw [hq] at hn'
      cases hn'
      have := hone d hdq
      subst this
      exact hd

/-- What effect.Effects tells of a proper module. -/
structure EffOk (m : PModule) (l : List PEffect) (O : List PEffect) (D : List (List Int)) : Prop where
  len : l.length = m.funcs.length
  own : Owns m m.funcs.length O D
  inn : ∀ x, ok m.funcs.length x → ∀ c, c ∈ cs D x → ok m.funcs.length c
  bits : ∀ x, ok m.funcs.length x → ∀ k, k < 5 → (bt (eg l x) k = true ↔ ∃ j, ok m.funcs.length j ∧ Rch D x j ∧ (bt (eg O j) k = true ∨ (k = 4 ∧ ∃ d, d ∈ cs (callsL m) j ∧ Rch (callsL m) d j)))
theorem effects_ok (m : PModule) (hm : SmM m) : (∃ e, check_Module m = some e ∧ e ≠ GErr.no ∧ ¬ Proper m ∧ effect_Effects m = some ([], e)) ∨
    (Proper m ∧ check_Module m = some GErr.no ∧ ∃ l O D, effect_Effects m = some (l, GErr.no) ∧ EffOk m l O D) := by
  obtain ⟨e, he, hP⟩ := module_says m hm
  by_cases h0 : e = GErr.no
  · subst h0
    have hPr := hP.1 rfl
    refine .inr ⟨hPr, he, ?_⟩
    have hN : m.funcs.length ≤ 40 := hm.1
    obtain ⟨⟨O, D⟩, hw1, hOw⟩ := owns_ok m hm
    dsimp only at hOw
    obtain ⟨R, hf, hR⟩ := found_eq m hm
    have hri := rings_eq m hm hf hR
    have hmem : ∀ r, r ∈ rsort R ↔ r ∈ R := fun r => (rsort_perm R).mem_iff
    have hrl : ∀ r, r ∈ R → r ≠ [] ∧ r.length ≤ 1000 ∧ ∀ x, x ∈ r → ok m.funcs.length x := by
      intro r hr
      have hin : ∀ x, x ∈ r → ok m.funcs.length x := fun x hx => (hR.all x).1 ⟨r, hr, hx⟩
      refine ⟨hR.ne r hr, ?_, hin⟩
      have := sorted_le r 0 m.funcs.length (hR.srt r hr) hin (by omega)
      omega
    obtain ⟨O', hw2, hT⟩ := trn_all hN (calls_len m) (fun x => by have := cs_len hm x; omega) (R := rsort R) (by rw [(rsort_perm R).length_eq]; have := hR.len; omega) (fun r hr => hrl r ((hmem r).1 hr)) hOw.l1
    have hDl : ∀ x, ok m.funcs.length x → (cs D x).length ≤ 300 * 70 := fun x hx => by
      obtain ⟨i, rfl, hi⟩ := ok_get hx
      exact (hOw.own i hi hi).len
    have hDo : ∀ x, ok m.funcs.length x → ∀ c, c ∈ cs D x → ok m.funcs.length c := fun x hx c hc => by
      obtain ⟨i, rfl, hi⟩ := ok_get hx
      obtain ⟨s, tr, _, _, _, hO⟩ := (hOw.own i hi hi).what
      obtain ⟨y, ⟨j, B, _, _, hB, hy⟩, hop, rfl⟩ := (hO.calls c).1 hc
      have hBm : B ∈ m.funcs[i].blocks := List.mem_of_getElem? hB
      obtain ⟨n, t, hI⟩ := ((hPr.funcs _ (List.getElem_mem hi)).blocks B hBm).ins y hy
      have har := hI.ar
      unfold arF at har
      simp only [hop] at har
      simp at har
      obtain ⟨g, hg, _⟩ := har
      unfold idx at hg
      split at hg
      · have := (List.getElem?_eq_some_iff.1 hg).1
        exact ⟨by assumption, by omega⟩
      · cases hg
    obtain ⟨l, hw3, hl, hb⟩ := rounds_ok hN hOw.l2 hDl hDo hT.len
    refine ⟨l, O, D, ?_, hl, hOw, hDo, fun x hx k hk => ?_⟩
    · have e1 : mkl (len m.funcs) PEffect.zero = some (List.replicate m.funcs.length PEffect.zero) := mkl_rep _ (by omega)
      have e2 : mkl (len m.funcs) ([] : List Int) = some (List.replicate m.funcs.length ([] : List Int)) := mkl_rep _ (by omega)
      simp only [effect_Effects, he, Option.bind_some, not_true_eq_false, if_false, e1, e2, effect_Effects.jn9, calls_eq m hm, hw1, effect_Effects.nx19, hri, hw2, effect_Effects.nx30, hw3, effect_Effects.nx39]
    · rw [hb x hx k hk]
      constructor
      · rintro ⟨j, h1, h2, h3⟩
        refine ⟨j, h1, h2, ?_⟩
        rcases (hT.bits j h1 k hk).1 h3 with h4 | ⟨h4, r, h5, h6⟩
        · exact .inl h4
        · exact .inr ⟨h4, (hR.cyc h1).1 ⟨r, (hmem r).1 h5, h6⟩⟩
      · rintro ⟨j, h1, h2, h3⟩
        refine ⟨j, h1, h2, (hT.bits j h1 k hk).2 ?_⟩
        rcases h3 with h4 | ⟨h4, h5⟩
        · exact .inl h4
        · obtain ⟨r, h6, h7⟩ := (hR.cyc h1).2 h5
          exact .inr ⟨h4, r, (hmem r).2 h6, h7⟩
  · exact .inl ⟨e, he, h0, fun h => h0 (hP.2 h), by simp only [effect_Effects, he, Option.bind_some, h0, not_false_eq_true, if_true]⟩
end Go.Proofs.Ytpomfbdbkejedaa
set_option linter.unusedVariables false
set_option linter.unusedSimpArgs false
namespace Go.Proofs.Ytpomfbdbkejedaa
open Go Go.Proofs

theorem up_true : fettlelaw15_up = some true := by kernel_rfl
def qt (e : PEffect) : Bool := !(e.writes || e.outs || e.traps || e.turns)
theorem quiet1 (e : PEffect) : effect_Quiet e = some (qt e) := by
  obtain ⟨a, b, c, d, f⟩ := e
  cases b <;> cases c <;> cases d <;> cases f <;> rfl
theorem quiet2 (e : PEffect) : fettleref15_Quiet e = some (qt e) := by
  obtain ⟨a, b, c, d, f⟩ := e
  cases b <;> cases c <;> cases d <;> cases f <;> rfl
theorem still1 (e : PEffect) : effect_Still e = some (qt e && !e.reads) := by
  unfold effect_Still
  rw [quiet1]
  cases qt e <;> cases e.reads <;> rfl
theorem still2 (e : PEffect) : fettleref15_Still e = some (qt e && !e.reads) := by
  unfold fettleref15_Still
  rw [quiet2]
  cases qt e <;> cases e.reads <;> rfl
def isA (op : Int) : Bool := decide (2 ≤ op ∧ op ≤ 14)
theorem args1 (op : Int) : ∃ n, arith_Args op = some (n, isA op) := by
  by_cases h : 2 ≤ op ∧ op ≤ 14
  · have : op = 2 ∨ op = 3 ∨ op = 4 ∨ op = 5 ∨ op = 6 ∨ op = 7 ∨ op = 8 ∨ op = 9 ∨ op = 10 ∨ op = 11 ∨ op = 12 ∨ op = 13 ∨ op = 14 := by omega
    rcases this with rfl | rfl | rfl | rfl | rfl | rfl | rfl | rfl | rfl | rfl | rfl | rfl | rfl <;> exact ⟨_, rfl⟩
  · refine ⟨0, ?_⟩
    have e : isA op = false := by simp [isA]; omega
    rw [e]
    unfold arith_Args
    simp only [show ¬ op = 2 by omega, show ¬ op = 14 by omega, show ¬ op = 3 by omega, show ¬ op = 4 by omega, show ¬ op = 5 by omega, show ¬ op = 6 by omega, show ¬ op = 7 by omega, show ¬ op = 8 by omega, show ¬ op = 9 by omega, show ¬ op = 10 by omega, show ¬ op = 11 by omega, show ¬ op = 12 by omega, show ¬ op = 13 by omega, if_false, or_self]
    try (by_cases h3 : op ≥ 3 <;> by_cases h4 : op ≤ 13 <;> simp [h3, h4] <;> omega)
theorem args2 (op : Int) : ∃ n, fettleref01_Args op = some n ∧ (n > 0 ↔ isA op = true) := by
  by_cases h : 2 ≤ op ∧ op ≤ 14
  · have : op = 2 ∨ op = 3 ∨ op = 4 ∨ op = 5 ∨ op = 6 ∨ op = 7 ∨ op = 8 ∨ op = 9 ∨ op = 10 ∨ op = 11 ∨ op = 12 ∨ op = 13 ∨ op = 14 := by omega
    rcases this with rfl | rfl | rfl | rfl | rfl | rfl | rfl | rfl | rfl | rfl | rfl | rfl | rfl <;> exact ⟨_, rfl, by decide⟩
  · refine ⟨-1, ?_, ?_⟩
    · unfold fettleref01_Args fettleref01_Args.jn6 fettleref01_Args.jn11
      simp only [show ¬ op = 2 by omega, show ¬ op = 14 by omega, show ¬ op = 3 by omega, show ¬ op = 4 by omega, show ¬ op = 5 by omega, show ¬ op = 6 by omega, show ¬ op = 7 by omega, show ¬ op = 8 by omega, show ¬ op = 9 by omega, show ¬ op = 10 by omega, show ¬ op = 11 by omega, show ¬ op = 12 by omega, show ¬ op = 13 by omega, if_false, decide_false, Bool.false_eq_true]
    · simp [isA]; omega
def plainB (op : Int) : Bool := decide (op = 1) || (isA op && !decide (op = 11))
theorem plain1 (x : PInstr) : effect_plain x = some (plainB x.op) := by
  obtain ⟨n, h⟩ := args1 x.op
  unfold effect_plain
  rw [h]
  by_cases h1 : x.op = 1
  · simp [h1, plainB]
  · cases hA : isA x.op <;> by_cases h2 : x.op = 11 <;> simp [h1, h2, hA, plainB, arith_Traps]
def callB' (x : PInstr) (l : List PEffect) (p : PEffect → Bool) : Bool := match idx l x.fn with | some e => p e | none => false
theorem idx_none {α : Type} {l : List α} {i : Int} (h : ¬ (0 ≤ i ∧ i < (l.length : Int))) : idx l i = none := by
  unfold idx
  by_cases h0 : 0 ≤ i
  · rw [if_pos h0]; exact List.getElem?_eq_none (by omega)
  · rw [if_neg h0]
theorem idx_get {α : Type} {l : List α} {i : Int} (h : 0 ≤ i ∧ i < (l.length : Int)) : ∃ e, idx l i = some e := by
  unfold idx
  rw [if_pos h.1]
  exact ⟨l[i.toNat]'(by omega), List.getElem?_eq_getElem _⟩
def remB (x : PInstr) (l : List PEffect) (st : Bool) : Bool := plainB x.op || (decide (x.op = 17) && callB' x l fun e => qt e && !(st && e.reads))
theorem rem1 (x : PInstr) (l : List PEffect) : effect_Removable x l = some (remB x l false) := by
  unfold effect_Removable
  rw [plain1, Option.bind_some]
  cases hp : plainB x.op with
  | true => simp [remB, hp]
  | false =>
    by_cases h17 : x.op = 17
    · by_cases hf : 0 ≤ x.fn ∧ x.fn < (l.length : Int)
      · obtain ⟨e, he⟩ := idx_get hf
        have hc : ((x.op = 17 ∧ x.fn ≥ 0) ∧ x.fn < (len l)) := ⟨⟨h17, hf.1⟩, hf.2⟩
        simp only [Bool.false_eq_true, if_false, if_pos hc, he, Option.bind_some, quiet1]
        simp [remB, h17, callB', he, show plainB 17 = false from rfl]
      · have hc : ¬ ((x.op = 17 ∧ x.fn ≥ 0) ∧ x.fn < (len l)) := fun h => hf ⟨h.1.2, h.2⟩
        simp only [Bool.false_eq_true, if_false, if_neg hc, Option.bind_some]
        simp [remB, hp, callB', idx_none hf]
    · have hc : ¬ ((x.op = 17 ∧ x.fn ≥ 0) ∧ x.fn < (len l)) := fun h => h17 h.1.1
      simp only [Bool.false_eq_true, if_false, if_neg hc, Option.bind_some]
      simp [remB, hp, h17]
theorem fix1 (x : PInstr) (l : List PEffect) : effect_Fixed x l = some (remB x l true) := by
  unfold effect_Fixed
  rw [plain1, Option.bind_some]
  cases hp : plainB x.op with
  | true => simp [remB, hp]
  | false =>
    by_cases h17 : x.op = 17
    · by_cases hf : 0 ≤ x.fn ∧ x.fn < (l.length : Int)
      · obtain ⟨e, he⟩ := idx_get hf
        have hc : ((x.op = 17 ∧ x.fn ≥ 0) ∧ x.fn < (len l)) := ⟨⟨h17, hf.1⟩, hf.2⟩
        simp only [Bool.false_eq_true, if_false, if_pos hc, he, Option.bind_some, still1]
        simp [remB, h17, callB', he, show plainB 17 = false from rfl]
      · have hc : ¬ ((x.op = 17 ∧ x.fn ≥ 0) ∧ x.fn < (len l)) := fun h => hf ⟨h.1.2, h.2⟩
        simp only [Bool.false_eq_true, if_false, if_neg hc, Option.bind_some]
        simp [remB, hp, callB', idx_none hf]
    · have hc : ¬ ((x.op = 17 ∧ x.fn ≥ 0) ∧ x.fn < (len l)) := fun h => h17 h.1.1
      simp only [Bool.false_eq_true, if_false, if_neg hc, Option.bind_some]
      simp [remB, hp, h17]
theorem rem2 (x : PInstr) (l : List PEffect) (st : Bool) : fettleref15_Removable x l st = some (remB x l st) := by
  unfold fettleref15_Removable
  by_cases h17 : x.op = 17
  · rw [if_pos h17]
    have hp : plainB x.op = false := by rw [h17]; rfl
    by_cases hf : 0 ≤ x.fn ∧ x.fn < (l.length : Int)
    · obtain ⟨e, he⟩ := idx_get hf
      rw [if_neg (by simp only [len]; omega), he]
      simp only [Option.bind_some, quiet2, remB, hp, h17, callB', he, decide_true, Bool.true_and, Bool.false_or]
      cases qt e <;> cases st <;> cases e.reads <;> rfl
    · rw [if_pos (by simp only [len]; omega)]
      simp [remB, hp, callB', idx_none hf]
  · rw [if_neg h17]
    obtain ⟨n, h1, h2⟩ := args2 x.op
    by_cases e1 : x.op = 1
    · simp [e1, remB, plainB]
    · by_cases e11 : x.op = 11
      · simp [e11, remB, plainB, h17]
      · rw [h1]
        have : decide (n > 0) = isA x.op := by
          by_cases hn : n > 0
          · simp [hn, h2.1 hn]
          · have : isA x.op = false := by
              cases hA : isA x.op with
              | false => rfl
              | true => exact absurd (h2.2 hA) hn
            simp [hn, this]
        simp only [if_neg e1, e11, not_false_eq_true, if_true, Option.bind_some, this]
        simp [remB, plainB, e1, e11, h17]
theorem pure_effectKinds (x : PInstr) (l : List PEffect) (e : PEffect) {p q r : Prop} (_ : p) (_ : q) (_ : r) : fettlelaw15_EffectKinds x l e = some true := by
  unfold fettlelaw15_EffectKinds
  rw [up_true, Option.bind_some]
  by_cases hc : (len l) > 100 ∨ (len x.args) > 300
  · rw [if_pos hc]
  · rw [if_neg hc]
    simp only [quiet1, quiet2, still1, still2, rem1, rem2, fix1, Option.bind_some, beq_self_eq_true, Bool.not_true, Bool.false_eq_true, if_false, if_true]
end Go.Proofs.Ytpomfbdbkejedaa
set_option linter.unusedVariables false
set_option linter.unusedSimpArgs false
namespace Go.Proofs.Ytpomfbdbkejedaa
open Go Go.Proofs

theorem index_eq (a : List Int) (x : Int) (hl : a.length ≤ maxLen) (hx : x ∈ a) : slices_Index a x = some ((a.idxOf x : Nat) : Int) := by
  unfold slices_Index
  have := scan0 a (fun i y => if x = y then some (i : Int) else none) (fun s => slices_Index.bd8 a x s) hl (fun i hi => by
    simp only [slices_Index.bd8, len_lt, hi, if_true, idx_lt hi, Option.bind_some, w64_at hi hl]
    split <;> rfl) (by simp [slices_Index.bd8, len])
  rcases this with ⟨i, hi, r, hf, hn, hw⟩ | ⟨hall, hw⟩
  · split at hf
    · rename_i hxi
      cases hf
      rw [hw]
      simp only [Option.bind_some, Option.some.injEq]
      have : a.idxOf x = i := by
        have h1 : a.idxOf x < a.length := List.idxOf_lt_length_iff.2 hx
        have h2 : a[a.idxOf x] = x := List.getElem_idxOf h1
        rcases Nat.lt_trichotomy (a.idxOf x) i with h | h | h
        · have := hn _ h1 h
          simp [h2] at this
        · exact h
        · exfalso
          have h3 := List.not_of_lt_findIdx (p := (· == x)) (xs := a) (i := i) h
          simp [← hxi] at h3
      rw [this]
    · cases hf
  · exfalso
    obtain ⟨i, hi, he⟩ := List.getElem_of_mem hx
    have := hall i hi
    simp [he] at this

/-! ### The words -/
def ahs (m : PModule) : List (List (List Int)) := m.funcs.map fun (f : PFunc) => aheads (nexts f)
def fnOf (m : PModule) (x : PFrame) : PFunc := m.funcs.getD x.f.toNat PFunc.zero
def blOf (m : PModule) (x : PFrame) : PBlock := (fnOf m x).blocks.getD x.block.toNat PBlock.zero
def rg (regs : List Int) (a : Int) : Int := regs.getD a.toNat 0
def argsF (regs : List Int) (l : List Int) : List Int := l.map (rg regs)
def phiV (regs : List Int) (phis : List PPhi) (i : Nat) : List Int := phis.map fun p => rg regs (p.args.getD i 0)
def setAll (regs : List Int) (l : List (PPhi × Int)) : List Int := l.foldl (fun rs pv => rs.set pv.1.dst.toNat pv.2) regs
/-- The registers behind an edge. -/
def edgeF (f : PFunc) (b b' : Int) (regs : List Int) : List Int :=
  let B := f.blocks.getD b'.toNat PBlock.zero
  setAll regs (B.phis.zip (phiV regs B.phis ((preds (nexts f) b'.toNat).idxOf b)))
def toF (m : PModule) (x : PFrame) (b : Int) : PFrame := ⟨x.f, edgeF (fnOf m x) x.block b x.regs, b, 0, x.dst⟩
def evalV (op : Int) (args : List Int) : Option Int := (arith_Eval op args).bind fun r => if r.2 = GErr.no then some r.1 else none
def trapF (o : POutcome) (k : Int) : POutcome := ⟨true, k, o.value, o.out, o.steps, o.memory⟩
def newF (m : PModule) (f : Int) (args : List Int) (dst : Int) : PFrame := ⟨f, cpy (List.replicate (m.funcs.getD f.toNat PFunc.zero).regs.length 0) args, 0, 0, dst⟩
def PFrame.regsTo (x : PFrame) (r : List Int) : PFrame := ⟨x.f, r, x.block, x.at_, x.dst⟩
def instrF (m : PModule) (fs : List PFrame) (x : PFrame) (o : POutcome) (i : PInstr) : List PFrame × POutcome :=
  let args := argsF x.regs i.args
  if i.op = 1 then (fs ++ [x.regsTo (x.regs.set i.dst.toNat i.imm)], o)
  else if i.op = 15 then
    if 0 ≤ args.getD 0 0 ∧ args.getD 0 0 < 64 then (fs ++ [x.regsTo (x.regs.set i.dst.toNat (o.memory.1.getD (args.getD 0 0).toNat 0))], o) else (fs ++ [x], trapF o 2)
  else if i.op = 16 then
    if 0 ≤ args.getD 0 0 ∧ args.getD 0 0 < 64 then (fs ++ [x], ⟨o.done, o.trap, o.value, o.out, o.steps, o.memory.put (args.getD 0 0) (args.getD 1 0)⟩) else (fs ++ [x], trapF o 2)
  else if i.op = 18 then (fs ++ [x], ⟨o.done, o.trap, o.value, o.out ++ [args.getD 0 0], o.steps, o.memory⟩)
  else if i.op = 17 then (fs ++ [x] ++ [newF m i.fn args i.dst], o)
  else match evalV i.op args with
    | some v => (fs ++ [x.regsTo (x.regs.set i.dst.toNat v)], o)
    | none => (fs ++ [x], trapF o 1)
def backF (fs : List PFrame) (dst v : Int) (o : POutcome) : List PFrame × POutcome :=
  match fs.getLast? with
  | none => ([], ⟨true, o.trap, v, o.out, o.steps, o.memory⟩)
  | some y => if dst ≥ 0 then (fs.dropLast ++ [y.regsTo (y.regs.set dst.toNat v)], o) else (fs, o)
def endF (m : PModule) (fs : List PFrame) (x : PFrame) (o : POutcome) (t : PTerm) : List PFrame × POutcome :=
  if t.kind = 1 then (fs ++ [toF m x (t.to.getD 0 0)], o)
  else if t.kind = 2 then
    if ¬ rg x.regs t.arg = 0 then (fs ++ [toF m x (t.to.getD 0 0)], o) else (fs ++ [toF m x (t.to.getD 1 0)], o)
  else backF fs x.dst (if t.arg ≥ 0 then rg x.regs t.arg else 0) o
def stepF (m : PModule) (fs : List PFrame) (x : PFrame) (o : POutcome) : List PFrame × POutcome :=
  if x.at_ = ((blOf m x).ins.length : Int) then endF m fs x o (blOf m x).term
  else instrF m fs ⟨x.f, x.regs, x.block, x.at_ + 1, x.dst⟩ o ((blOf m x).ins.getD x.at_.toNat PInstr.zero)

/-! ### Frames that fit -/
structure FrOk (m : PModule) (x : PFrame) : Prop where
  f0 : 0 ≤ x.f
  f1 : x.f < (m.funcs.length : Int)
  regs : x.regs.length = (fnOf m x).regs.length
  b0 : 0 ≤ x.block
  b1 : x.block < ((fnOf m x).blocks.length : Int)
  a0 : 0 ≤ x.at_
  a1 : x.at_ ≤ ((blOf m x).ins.length : Int)
theorem getD_mem {α : Type} {l : List α} {i : Nat} {d : α} (h : i < l.length) : l.getD i d ∈ l := by
  rw [List.getD_eq_getElem?_getD, List.getElem?_eq_getElem h]; exact List.getElem_mem h
theorem idx_getD {α : Type} {l : List α} {i : Int} {d : α} (h0 : 0 ≤ i) (h1 : i < (l.length : Int)) : idx l i = some (l.getD i.toNat d) := by
  have h : i.toNat < l.length := by omega
  simp only [idx, if_pos h0]
  rw [List.getD_eq_getElem?_getD, List.getElem?_eq_getElem h]; rfl
theorem FrOk.fn {m : PModule} {x : PFrame} (h : FrOk m x) : idx m.funcs x.f = some (fnOf m x) := idx_getD h.f0 h.f1
theorem FrOk.fnm {m : PModule} {x : PFrame} (h : FrOk m x) : fnOf m x ∈ m.funcs := getD_mem (by have := h.f0; have := h.f1; omega)
theorem FrOk.bl {m : PModule} {x : PFrame} (h : FrOk m x) : idx (fnOf m x).blocks x.block = some (blOf m x) := idx_getD h.b0 h.b1
theorem FrOk.blm {m : PModule} {x : PFrame} (h : FrOk m x) : blOf m x ∈ (fnOf m x).blocks := getD_mem (by have := h.b0; have := h.b1; omega)
theorem rg_some {regs : List Int} {a : Int} (h0 : 0 ≤ a) (h1 : a < (regs.length : Int)) : idx regs a = some (rg regs a) := idx_getD h0 h1
theorem setAll_length (l : List (PPhi × Int)) : ∀ regs, (setAll regs l).length = regs.length := by
  induction l with
  | nil => intro regs; rfl
  | cons a l ih => intro regs; simp only [setAll, List.foldl_cons] at ih ⊢; rw [ih]; simp
theorem edgeF_length (f : PFunc) (b b' : Int) (regs : List Int) : (edgeF f b b' regs).length = regs.length := setAll_length _ _
theorem w64_small {n : Nat} (h : n ≤ 9223372036854775806) : w64 ((n : Int) + 1) = (n : Int) + 1 := w64_id ⟨by omega, by omega⟩
theorem ahs_get (m : PModule) (x : PFrame) (h : FrOk m x) : idx (ahs m) x.f = some (aheads (nexts (fnOf m x))) := by
  have h0 := h.f0
  have h1 := h.f1
  have hlt : x.f.toNat < m.funcs.length := by omega
  simp only [idx, if_pos h0, ahs, fnOf]
  rw [List.getElem?_map, List.getElem?_eq_getElem hlt, List.getD_eq_getElem?_getD, List.getElem?_eq_getElem hlt]; rfl
theorem mem_preds {f : PFunc} {b : Nat} {t : Nat} (hb : b < f.blocks.length) (ht : t < f.blocks.length) (hm : (t : Int) ∈ f.blocks[b].term.to) : (b : Int) ∈ preds (nexts f) t := by
  simp only [preds, List.mem_map, List.mem_filter, List.mem_range, decide_eq_true_eq]
  refine ⟨b, ⟨by rw [nexts_length]; exact hb, ?_⟩, rfl⟩
  rw [List.getD_eq_getElem?_getD, nexts_get f b hb]
  exact mem_succs.2 ⟨hm, by omega, by omega⟩

/-! ### Going along an edge -/
theorem to_eq (m : PModule) (hp : Proper m) (hs : SmM m) (fs : List PFrame) (o : POutcome) (x : PFrame) (k b : Int) (h : FrOk m x) (hb : b ∈ (blOf m x).term.to) :
    run_runner_to ⟨m, ahs m, fs, o⟩ x k b = some (fs.set k.toNat (toF m x b)) := by
  have hfm := h.fnm
  have hf := hp.funcs _ hfm
  have hsf := hs.2 _ hfm
  have hbm := h.blm
  have hb0 := h.b0
  have hb1 := h.b1
  obtain ⟨t1, t2⟩ := (hf.ends _ hbm).to b hb
  have hn := hf.small.blocks
  obtain ⟨bn, rfl⟩ : ∃ n : Nat, b = (n : Int) := ⟨b.toNat, by omega⟩
  have hbl : bn < (fnOf m x).blocks.length := by omega
  have hal : idx (aheads (nexts (fnOf m x))) (bn : Int) = some (preds (nexts (fnOf m x)) bn) := by rw [idx_nat]; exact aheads_get _ _ (by rw [nexts_length]; exact hbl)
  have hxb : x.block ∈ preds (nexts (fnOf m x)) bn := by
    have hlt : x.block.toNat < (fnOf m x).blocks.length := by omega
    have := mem_preds (f := fnOf m x) (b := x.block.toNat) (t := bn) hlt hbl (by
      have : blOf m x = (fnOf m x).blocks[x.block.toNat] := by simp [blOf, List.getD_eq_getElem?_getD, hlt]
      rw [← this]; exact hb)
    rwa [Int.toNat_of_nonneg hb0] at this
  have hpl := preds_length (nexts (fnOf m x)) bn
  rw [nexts_length] at hpl
  have hil : (preds (nexts (fnOf m x)) bn).idxOf x.block < (preds (nexts (fnOf m x)) bn).length := List.idxOf_lt_length_iff.2 hxb
  unfold run_runner_to
  simp only [ahs_get m x h, Option.bind_some, hal, index_eq _ _ (le_max (show (preds (nexts (fnOf m x)) bn).length ≤ 64 by omega) (by omega)) hxb, h.fn, idx_lt hbl]
  have hreg : RegsIn x.regs.length (fnOf m x).blocks[bn] := by rw [h.regs]; exact BlockOk_regs (hf.blocks _ (List.getElem_mem hbl))
  have hah := hf.ahead bn hbl
  have h2 := (hsf.2.2.2 _ (List.getElem_mem hbl)).2.1
  generalize hq : (preds (nexts (fnOf m x)) bn).idxOf x.block = q at hil
  rw [whl_map (fnOf m x).blocks[bn].phis (fun p => rg x.regs (p.args.getD q 0)) (r := phiV x.regs (fnOf m x).blocks[bn].phis q) (le_max h2 (by omega)) (fun i hi => by
    have hpm := List.getElem_mem hi
    have hqa : q < ((fnOf m x).blocks[bn].phis[i]).args.length := by rw [hah _ hpm]; exact hil
    obtain ⟨g1, g2⟩ := hreg.pargs _ hpm _ (List.getElem_mem hqa)
    have hgd : ((fnOf m x).blocks[bn].phis[i]).args.getD q 0 = ((fnOf m x).blocks[bn].phis[i]).args[q] := by simp [List.getD_eq_getElem?_getD, hqa]
    simp only [run_runner_to.bd17, len_lt, hi, if_true, idx_lt hi, Option.bind_some, idx_lt hqa, rg_some g1 g2, hgd]
    rw [cat_one (by simp; omega)]
    simp only [Option.bind_some, w64_i hi (show (fnOf m x).blocks[bn].phis.length ≤ 1000 by omega)]) (by simp [run_runner_to.bd17, len, phiV])]
  simp only [Option.bind_some, run_runner_to.nx17]
  have hvl : (phiV x.regs (fnOf m x).blocks[bn].phis q).length = (fnOf m x).blocks[bn].phis.length := by simp [phiV]
  have hzl : ((fnOf m x).blocks[bn].phis.zip (phiV x.regs (fnOf m x).blocks[bn].phis q)).length = (fnOf m x).blocks[bn].phis.length := by simp [phiV]
  have hset := whl_run (body := fun (s : (List Int × Int)) => run_runner_to.bd26 (fnOf m x).blocks[bn] (phiV x.regs (fnOf m x).blocks[bn].phis q) s.1 s.2) (r := setAll x.regs ((fnOf m x).blocks[bn].phis.zip (phiV x.regs (fnOf m x).blocks[bn].phis q))) (fnOf m x).blocks[bn].phis.length FUEL
    (fun i => (setAll x.regs (((fnOf m x).blocks[bn].phis.zip (phiV x.regs (fnOf m x).blocks[bn].phis q)).take i), (i : Int))) (fun i hi => by
      have hiv : i < (phiV x.regs (fnOf m x).blocks[bn].phis q).length := by omega
      have hiz : i < ((fnOf m x).blocks[bn].phis.zip (phiV x.regs (fnOf m x).blocks[bn].phis q)).length := by omega
      obtain ⟨g1, g2⟩ := hreg.phis _ (List.getElem_mem hi)
      obtain ⟨y, hy, _⟩ := idx_in (xs := setAll x.regs (((fnOf m x).blocks[bn].phis.zip (phiV x.regs (fnOf m x).blocks[bn].phis q)).take i)) g1 (by rw [setAll_length]; exact g2)
      simp only [run_runner_to.bd26, len_lt, hi, if_true, idx_lt hi, idx_lt hiv, Option.bind_some, hy, w64_i hi (show (fnOf m x).blocks[bn].phis.length ≤ 1000 by omega)]
      have : setAll x.regs (((fnOf m x).blocks[bn].phis.zip (phiV x.regs (fnOf m x).blocks[bn].phis q)).take (i + 1)) = (setAll x.regs (((fnOf m x).blocks[bn].phis.zip (phiV x.regs (fnOf m x).blocks[bn].phis q)).take i)).set (fnOf m x).blocks[bn].phis[i].dst.toNat (phiV x.regs (fnOf m x).blocks[bn].phis q)[i] := by
        unfold setAll
        rw [foldl_take _ _ _ hiz, List.getElem_zip]
      rw [this]) (by rw [← hzl, List.take_length]; simp [run_runner_to.bd26, len, hzl]) (lt_FUEL (le_max h2 (by omega)))
  have h00 : (setAll x.regs (((fnOf m x).blocks[bn].phis.zip (phiV x.regs (fnOf m x).blocks[bn].phis q)).take 0), ((0 : Nat) : Int)) = (x.regs, (0 : Int)) := by simp [setAll]
  rw [h00] at hset
  rw [hset]
  simp only [Option.bind_some, run_runner_to.nx26, toF, edgeF, Int.toNat_natCast, hq]
  have : (fnOf m x).blocks.getD bn PBlock.zero = (fnOf m x).blocks[bn] := by simp [List.getD_eq_getElem?_getD, hbl]
  rw [this]
theorem toF_ok (m : PModule) (hp : Proper m) (x : PFrame) (h : FrOk m x) (b : Int) (hb : b ∈ (blOf m x).term.to) : FrOk m (toF m x b) := by
  have hf := hp.funcs _ h.fnm
  obtain ⟨t1, t2⟩ := (hf.ends _ h.blm).to b hb
  exact ⟨h.f0, h.f1, (edgeF_length _ _ _ _).trans h.regs, by show 0 ≤ b; omega, t2, Int.le_refl _, by show (0 : Int) ≤ _; omega⟩
end Go.Proofs.Ytpomfbdbkejedaa
set_option linter.unusedVariables false
set_option linter.unusedSimpArgs false
namespace Go.Proofs.Ytpomfbdbkejedaa
open Go Go.Proofs

def BIG : Nat := 10000000
theorem cat_big {α : Type} {a : List α} {x : α} (h : a.length ≤ BIG) : cat a [x] = some (a ++ [x]) := cat_ok (by simp only [BIG] at h; simp only [LIM, List.length_singleton]; omega)
theorem set_top {α : Type} (fs : List α) (x y : α) : (fs ++ [x]).set (((fs.length : Nat) : Int)).toNat y = fs ++ [y] := by
  rw [Int.toNat_natCast, List.set_append_right _ _ (Nat.le_refl _), Nat.sub_self]; rfl
theorem mem_get (a : A64) {i : Int} (h0 : 0 ≤ i) (h1 : i < 64) : A64.get a i = some (a.1.getD i.toNat 0) := idx_getD h0 (by rw [a.2]; exact h1)

/-! ### Instructions -/
theorem args_eq (regs : List Int) (x : PFrame) (hx : x.regs = regs) (i : PInstr) (hl : i.args.length ≤ 300) (ha : ∀ a ∈ i.args, 0 ≤ a ∧ a < (regs.length : Int)) :
    whl (fun (s : (List Int × Int)) => run_runner_instr.bd8 x i s.1 s.2) FUEL (([] : List Int), 0) = some (argsF regs i.args) :=
  whl_map i.args (rg regs) (r := argsF regs i.args) (le_max hl (by omega)) (fun k hk => by
    obtain ⟨g1, g2⟩ := ha _ (List.getElem_mem hk)
    simp only [run_runner_instr.bd8, len_lt, hk, if_true, idx_lt hk, Option.bind_some, hx, rg_some g1 g2]
    rw [cat_one (by simp; omega)]
    simp only [Option.bind_some, w64_i hk (show i.args.length ≤ 1000 by omega)]) (by simp [run_runner_instr.bd8, len, argsF])
theorem eval_some (m : PModule) (i : PInstr) (args : List Int) (n t : Int) (har : arF m i = some (n, t)) (hn : (args.length : Int) = n) (h1 : ¬ i.op = 1) (h15 : ¬ i.op = 15) (h16 : ¬ i.op = 16) (h17 : ¬ i.op = 17) (h18 : ¬ i.op = 18) : t = 1 ∧ ∃ v e, arith_Eval i.op args = some (v, e) := by
  unfold arF at har
  unfold arith_Eval arith_Args arith_bit
  by_cases c1 : i.op = 2 ∨ i.op = 14
  · simp only [if_pos c1, Option.some.injEq, Prod.mk.injEq] at har
    refine ⟨har.2.symm, ?_⟩
    rw [if_pos c1]
    simp only [Option.bind_some]
    rw [if_neg (by simp only [len]; simp; omega)]
    have h0 : idx args 0 = some args[0] := idx_lt (i := 0) (by omega)
    rw [h0]
    simp only [Option.bind_some]
    rcases c1 with c1 | c1
    · rw [if_pos c1]; exact ⟨_, _, rfl⟩
    · rw [if_neg (by omega), if_pos c1]; exact ⟨_, _, rfl⟩
  · rw [if_neg c1] at har
    by_cases c2 : i.op ≥ 3 ∧ i.op ≤ 13
    · simp only [if_pos c2, Option.some.injEq, Prod.mk.injEq] at har
      refine ⟨har.2.symm, ?_⟩
      rw [if_neg c1, if_pos c2]
      simp only [Option.bind_some]
      rw [if_neg (by simp only [len]; simp; omega)]
      have h0 : idx args 0 = some args[0] := idx_lt (i := 0) (by omega)
      have h1' : idx args 1 = some args[1] := idx_lt (i := 1) (by omega)
      rw [h0]
      simp only [Option.bind_some]
      rw [if_neg (by omega), if_neg (by omega), h1']
      simp only [Option.bind_some]
      have key : ∀ {c : Prop} [Decidable c] {a b : Option (Int × GErr)}, (∃ v e, a = some (v, e)) → (∃ v e, b = some (v, e)) → ∃ v e, (if c then a else b) = some (v, e) := by
        intro c _ a b ha hb; split <;> assumption
      have kb : ∀ {c : Prop} [Decidable c], ∃ v e, ((if c then some (1 : Int) else some 0).bind fun x => some (x, GErr.no)) = some (v, e) := by
        intro c _; split <;> exact ⟨_, _, rfl⟩
      repeat first | exact ⟨_, _, rfl⟩ | exact kb | refine key ?_ ?_
    · simp only [if_neg c2, if_neg h1, if_neg h15, if_neg h18, if_neg h16, if_neg h17] at har
      cases har
theorem evalV_some {op : Int} {args : List Int} {v : Int} {e : GErr} (h : arith_Eval op args = some (v, e)) : evalV op args = if e = GErr.no then some v else none := by
  unfold evalV; rw [h]; rfl
theorem instrR_eq (m : PModule) (hs : SmM m) (fs : List PFrame) (x0 x : PFrame) (o : POutcome) (i : PInstr) (n t : Int) (h : FrOk m x) (hi : InstrOk m (fnOf m x) i n t) (hl : i.args.length ≤ 300) (hf : fs.length + 1 ≤ BIG) (ho : o.out.length ≤ BIG) :
    run_runner_instr ⟨m, ahs m, fs ++ [x0], o⟩ x (fs.length : Int) i = some ((instrF m fs x o i).1, (instrF m fs x o i).2.done, (instrF m fs x o i).2.trap, (instrF m fs x o i).2.out, (instrF m fs x o i).2.memory) ∧
      (instrF m fs x o i).2.value = o.value ∧ (instrF m fs x o i).2.steps = o.steps := by
  have hargs : ∀ a ∈ i.args, 0 ≤ a ∧ a < (x.regs.length : Int) := fun a ha => by rw [h.regs]; exact hi.args a ha
  have hal : (argsF x.regs i.args).length = i.args.length := by simp [argsF]
  unfold run_runner_instr
  rw [args_eq x.regs x rfl i hl hargs]
  simp only [Option.bind_some, run_runner_instr.nx8]
  have hdst : t ≠ 0 → ∃ v, idx x.regs i.dst = some v := fun ht => by
    obtain ⟨g1, g2⟩ := hi.dst ht
    exact ⟨_, rg_some g1 (by rw [h.regs]; exact g2)⟩
  have har := hi.ar
  have hn := hi.len
  unfold instrF
  generalize hA : argsF x.regs i.args = A at hal
  by_cases c1 : i.op = 1
  · have ht : t = 1 := by simp [arF, c1] at har; omega
    obtain ⟨v, hv⟩ := hdst (by omega)
    simp only [if_pos c1, hv, Option.bind_some, set_top, PFrame.regsTo, and_self]
  simp only [if_neg c1]
  by_cases c15 : i.op = 15
  · have htn : n = 1 ∧ t = 1 := by simp [arF, c15] at har; omega
    obtain ⟨v, hv⟩ := hdst (by omega)
    have h0 : idx A 0 = some (A.getD 0 0) := idx_getD (i := 0) (by omega) (by omega)
    simp only [if_pos c15, h0, Option.bind_some, run_word]
    by_cases hc : A.getD 0 0 ≥ 0 ∧ A.getD 0 0 < 64
    · have hc' : 0 ≤ A.getD 0 0 ∧ A.getD 0 0 < 64 := ⟨hc.1, hc.2⟩
      rw [decide_eq_true hc, if_pos hc']
      simp only [Bool.not_true, Bool.false_eq_true, if_false, mem_get _ hc'.1 hc'.2, Option.bind_some, hv, set_top, PFrame.regsTo, and_self]
    · have hc' : ¬ (0 ≤ A.getD 0 0 ∧ A.getD 0 0 < 64) := fun h => hc ⟨h.1, h.2⟩
      rw [decide_eq_false hc, if_neg hc']
      simp only [Bool.not_false, if_true, run_runner_trap, Option.bind_some, set_top, trapF, and_self]
  simp only [if_neg c15]
  by_cases c16 : i.op = 16
  · have htn : n = 2 ∧ t = 0 := by simp [arF, c16] at har; omega
    have h0 : idx A 0 = some (A.getD 0 0) := idx_getD (i := 0) (by omega) (by omega)
    have h1 : idx A 1 = some (A.getD 1 0) := idx_getD (i := 1) (by omega) (by omega)
    simp only [if_pos c16, h0, h1, Option.bind_some, run_word]
    by_cases hc : A.getD 0 0 ≥ 0 ∧ A.getD 0 0 < 64
    · have hc' : 0 ≤ A.getD 0 0 ∧ A.getD 0 0 < 64 := ⟨hc.1, hc.2⟩
      rw [decide_eq_true hc, if_pos hc']
      simp only [Bool.not_true, Bool.false_eq_true, if_false, mem_get _ hc'.1 hc'.2, Option.bind_some, set_top, and_self]
    · have hc' : ¬ (0 ≤ A.getD 0 0 ∧ A.getD 0 0 < 64) := fun h => hc ⟨h.1, h.2⟩
      rw [decide_eq_false hc, if_neg hc']
      simp only [Bool.not_false, if_true, run_runner_trap, Option.bind_some, set_top, trapF, and_self]
  simp only [if_neg c16]
  by_cases c18 : i.op = 18
  · have htn : n = 1 ∧ t = 0 := by simp [arF, c18] at har; omega
    have h0 : idx A 0 = some (A.getD 0 0) := idx_getD (i := 0) (by omega) (by omega)
    simp only [if_pos c18, h0, Option.bind_some, cat_big ho, set_top, and_self]
  simp only [if_neg c18]
  by_cases c17 : i.op = 17
  · have hfn : ∃ g, idx m.funcs i.fn = some g := by
      have h6a : ¬ (i.op = 2 ∨ i.op = 14) := by omega
      have h6b : ¬ (i.op ≥ 3 ∧ i.op ≤ 13) := by omega
      simp only [arF, if_neg h6a, if_neg h6b, if_neg c1, if_neg c15, if_neg c18, if_neg c16, if_pos c17] at har
      obtain ⟨g, hg, _⟩ := Option.map_eq_some_iff.1 har
      exact ⟨g, hg⟩
    obtain ⟨g, hg⟩ := hfn
    obtain ⟨g0, g1, _⟩ := idx_some hg
    have hgd : idx m.funcs i.fn = some (m.funcs.getD i.fn.toNat PFunc.zero) := idx_getD g0 (by omega)
    have hgm : m.funcs.getD i.fn.toNat PFunc.zero ∈ m.funcs := getD_mem g1
    have hgr := (hs.2 _ hgm).2.1
    have hmk : mkl (((m.funcs.getD i.fn.toNat PFunc.zero).regs.length : Nat) : Int) (0 : Int) = some (List.replicate (m.funcs.getD i.fn.toNat PFunc.zero).regs.length 0) := by
      generalize (m.funcs.getD i.fn.toNat PFunc.zero).regs.length = q at hgr
      have h1 : q < LIM := by simp only [LIM]; omega
      simp [mkl, len, h1]
    simp only [if_pos c17, run_runner_enter, hgd, Option.bind_some, len, hmk, set_top]
    rw [cat_big (by simpa using hf)]
    simp only [Option.bind_some, newF, and_self]
  simp only [if_neg c17]
  obtain ⟨ht, v, e, he⟩ := eval_some m i A n t har (by omega) c1 c15 c16 c17 c18
  obtain ⟨u, hu⟩ := hdst (by omega)
  rw [he, evalV_some he]
  simp only [Option.bind_some]
  by_cases hc : e = GErr.no
  · subst hc
    simp only [not_true, if_false, if_true, hu, Option.bind_some, set_top, PFrame.regsTo, and_self]
  · rw [if_pos hc, if_neg hc]
    simp only [run_runner_trap, Option.bind_some, set_top, trapF, and_self]

/-! ### Ends -/
theorem end_eq (m : PModule) (hp : Proper m) (hs : SmM m) (fs : List PFrame) (x : PFrame) (o : POutcome) (h : FrOk m x) (hf : fs.length + 1 ≤ BIG) (hdst : ∀ y, fs.getLast? = some y → x.dst < (y.regs.length : Int)) :
    run_runner_end ⟨m, ahs m, fs ++ [x], o⟩ x (fs.length : Int) (blOf m x).term = some ((endF m fs x o (blOf m x).term).1, (endF m fs x o (blOf m x).term).2.done, (endF m fs x o (blOf m x).term).2.value) ∧
      (endF m fs x o (blOf m x).term).2.trap = o.trap ∧ (endF m fs x o (blOf m x).term).2.out = o.out ∧ (endF m fs x o (blOf m x).term).2.steps = o.steps ∧ (endF m fs x o (blOf m x).term).2.memory = o.memory := by
  have hfo := hp.funcs _ h.fnm
  have hend := hfo.ends _ h.blm
  have hbk := hfo.blocks _ h.blm
  have hto : ∀ b ∈ (blOf m x).term.to, run_runner_to ⟨m, ahs m, fs ++ [x], o⟩ x (fs.length : Int) b = some (fs ++ [toF m x b]) := fun b hb => by
    rw [to_eq m hp hs (fs ++ [x]) o x _ b h hb, set_top]
  unfold run_runner_end endF
  by_cases k1 : (blOf m x).term.kind = 1
  · have hex : ∃ a, (blOf m x).term.to = [a] := by
      rcases hend.kind with ⟨_, h⟩ | ⟨h, _⟩ | ⟨h, _⟩
      · exact h
      · omega
      · omega
    obtain ⟨a, ha⟩ := hex
    have h0 : idx (blOf m x).term.to 0 = some a := by rw [ha]; rfl
    have h0' : (blOf m x).term.to.getD 0 0 = a := by rw [ha]; rfl
    simp only [if_pos k1, h0, Option.bind_some, hto a (by rw [ha]; simp), h0', and_self]
  simp only [if_neg k1]
  by_cases k2 : (blOf m x).term.kind = 2
  · have hex : ∃ a b, (blOf m x).term.to = [a, b] := by
      rcases hend.kind with ⟨h, _⟩ | ⟨_, a, b, h, _⟩ | ⟨h, _⟩
      · omega
      · exact ⟨a, b, h⟩
      · omega
    obtain ⟨a, b, ha⟩ := hex
    have h0 : idx (blOf m x).term.to 0 = some a := by rw [ha]; rfl
    have h0' : (blOf m x).term.to.getD 0 0 = a := by rw [ha]; rfl
    have h1 : idx (blOf m x).term.to 1 = some b := by rw [ha]; rfl
    have h1' : (blOf m x).term.to.getD 1 0 = b := by rw [ha]; rfl
    have harg : hasR (fnOf m x) (blOf m x).term.arg := by
      have := hbk.term
      unfold EndOk at this
      rw [if_neg (by omega)] at this
      exact this.has
    simp only [if_pos k2, rg_some harg.1 (show _ < (x.regs.length : Int) by rw [h.regs]; exact harg.2), Option.bind_some, h0, h1, hto a (by rw [ha]; simp), hto b (by rw [ha]; simp), h0', h1', run_runner_end.jn11]
    by_cases hc : rg x.regs (blOf m x).term.arg = 0
    · rw [if_neg (by simpa using hc), if_neg (by simpa using hc)]; simp
    · rw [if_pos (by simpa using hc), if_pos (by simpa using hc)]; simp
  simp only [if_neg k2]
  -- the return
  have hret : ∀ v, run_runner_end.jn25 ⟨m, ahs m, fs ++ [x], o⟩ x (fs.length : Int) v = some ((backF fs x.dst v o).1, (backF fs x.dst v o).2.done, (backF fs x.dst v o).2.value) ∧ (backF fs x.dst v o).2.trap = o.trap ∧ (backF fs x.dst v o).2.out = o.out ∧ (backF fs x.dst v o).2.steps = o.steps ∧ (backF fs x.dst v o).2.memory = o.memory := by
    intro v
    unfold run_runner_end.jn25
    simp only [set_top]
    have hlen : w64 ((len (fs ++ [x])) - 1) = ((fs.length : Nat) : Int) := by
      simp only [BIG] at hf
      simp only [len, List.length_append, List.length_singleton]
      rw [w64_id ⟨by omega, by omega⟩]; omega
    have hup : upto (fs ++ [x]) ((fs.length : Nat) : Int) = some fs := by
      simp [upto]
    rw [hlen, hup]
    simp only [Option.bind_some, run_runner_end.jn29]
    unfold backF
    rcases List.eq_nil_or_concat fs with h0 | ⟨gs, y, hy⟩
    · subst h0
      simp [len]
    · rw [List.concat_eq_append] at hy
      subst hy
      have hgl : (gs ++ [y]).getLast? = some y := by simp
      have hdl : (gs ++ [y]).dropLast = gs := by simp
      have hne : ¬ len (gs ++ [y]) = 0 := by simp only [len, List.length_append, List.length_singleton]; omega
      have hw : w64 ((len (gs ++ [y])) - 1) = ((gs.length : Nat) : Int) := by
        simp only [BIG, List.length_append, List.length_singleton] at hf
        simp only [len, List.length_append, List.length_singleton]
        rw [w64_id ⟨by omega, by omega⟩]; omega
      have hix : idx (gs ++ [y]) ((gs.length : Nat) : Int) = some y := by rw [idx_nat]; simp
      rw [if_neg hne]
      simp only [hgl, hdl, hw, hix, Option.bind_some]
      by_cases hd : x.dst ≥ 0
      · have hdr := hdst y hgl
        rw [if_pos hd, if_pos hd, rg_some hd hdr]
        simp only [Option.bind_some, set_top, PFrame.regsTo, and_self]
      · rw [if_neg hd, if_neg hd]; simp
  by_cases ha : (blOf m x).term.arg ≥ 0
  · have harg : hasR (fnOf m x) (blOf m x).term.arg := by
      have := hbk.term
      unfold EndOk at this
      split at this
      · omega
      · exact this.has
    simp only [if_pos ha, rg_some harg.1 (show _ < (x.regs.length : Int) by rw [h.regs]; exact harg.2), Option.bind_some]
    exact hret _
  · simp only [if_neg ha]
    exact hret _

/-! ### Steps -/
def Link (l : List PFrame) : Prop := ∀ (i : Nat) (a b : PFrame), l[i]? = some b → l[i + 1]? = some a → a.dst < (b.regs.length : Int)
theorem Link.pre {l r : List PFrame} (h : Link (l ++ r)) : Link l := fun i a b h1 h2 => by
  have g1 := (List.getElem?_eq_some_iff.1 h1).1
  have g2 := (List.getElem?_eq_some_iff.1 h2).1
  exact h i a b (by rw [List.getElem?_append_left g1]; exact h1) (by rw [List.getElem?_append_left g2]; exact h2)
theorem Link.snoc {l : List PFrame} {x : PFrame} (h : Link l) (hx : ∀ y, l.getLast? = some y → x.dst < (y.regs.length : Int)) : Link (l ++ [x]) := fun i a b h1 h2 => by
  rcases Nat.lt_or_ge (i + 1) l.length with hi | hi
  · rw [List.getElem?_append_left hi] at h2
    rw [List.getElem?_append_left (by omega)] at h1
    exact h i a b h1 h2
  · have g2 := (List.getElem?_eq_some_iff.1 h2).1
    simp only [List.length_append, List.length_singleton] at g2
    have hil : i + 1 = l.length := by omega
    rw [List.getElem?_append_left (by omega)] at h1
    rw [List.getElem?_append_right (by omega), hil, Nat.sub_self] at h2
    simp only [List.getElem?_cons_zero, Option.some.injEq] at h2
    subst h2
    refine hx b ?_
    rw [List.getLast?_eq_getElem?, show l.length - 1 = i by omega]; exact h1
theorem Link.last {l : List PFrame} {x : PFrame} (h : Link (l ++ [x])) : ∀ y, l.getLast? = some y → x.dst < (y.regs.length : Int) := fun y hy => by
  rw [List.getLast?_eq_getElem?] at hy
  have g := (List.getElem?_eq_some_iff.1 hy).1
  refine h (l.length - 1) x y (by rw [List.getElem?_append_left g]; exact hy) ?_
  rw [show l.length - 1 + 1 = l.length by omega, List.getElem?_append_right (Nat.le_refl _), Nat.sub_self]; rfl
theorem Link.top {l : List PFrame} {x x' : PFrame} (h : Link (l ++ [x])) (hd : x'.dst = x.dst) : Link (l ++ [x']) := h.pre.snoc fun y hy => by rw [hd]; exact h.last y hy
structure Wf (m : PModule) (fs : List PFrame) (x : PFrame) : Prop where
  all : ∀ y ∈ fs, FrOk m y
  top : FrOk m x
  link : Link (fs ++ [x])
theorem regsTo_ok {m : PModule} {x : PFrame} (h : FrOk m x) {r : List Int} (hr : r.length = x.regs.length) : FrOk m (x.regsTo r) := ⟨h.f0, h.f1, hr.trans h.regs, h.b0, h.b1, h.a0, h.a1⟩
theorem newF_ok (m : PModule) (hp : Proper m) (f : Int) (h0 : 0 ≤ f) (h1 : f < (m.funcs.length : Int)) (args : List Int) (dst : Int) (hl : args.length ≤ (m.funcs.getD f.toNat PFunc.zero).regs.length) : FrOk m (newF m f args dst) := by
  have hm : m.funcs.getD f.toNat PFunc.zero ∈ m.funcs := getD_mem (by omega)
  have hf := hp.funcs _ hm
  refine ⟨h0, h1, ?_, Int.le_refl _, ?_, Int.le_refl _, ?_⟩
  · show (cpy _ args).length = _
    unfold cpy
    simp only [List.length_append, List.length_take, List.length_drop, List.length_replicate, fnOf, newF]
    omega
  · show (0 : Int) < ((fnOf m (newF m f args dst)).blocks.length : Int)
    have := hf.small.pos
    show (0 : Int) < (((m.funcs.getD f.toNat PFunc.zero).blocks.length : Nat) : Int)
    omega
  · show (0 : Int) ≤ _
    omega
theorem instrF_wf (m : PModule) (hp : Proper m) (fs : List PFrame) (x : PFrame) (o : POutcome) (i : PInstr) (n t : Int) (h : Wf m fs x) (hi : InstrOk m (fnOf m x) i n t) :
    ∃ fs' x', (instrF m fs x o i).1 = fs' ++ [x'] ∧ Wf m fs' x' ∧ fs'.length ≤ fs.length + 1 ∧ ((instrF m fs x o i).2.out = o.out ∨ ∃ v, (instrF m fs x o i).2.out = o.out ++ [v]) := by
  have same : ∀ r : List Int, r.length = x.regs.length → Wf m fs (x.regsTo r) := fun r hr => ⟨h.all, regsTo_ok h.top hr, h.link.top rfl⟩
  unfold instrF
  simp only
  by_cases c1 : i.op = 1
  · rw [if_pos c1]; exact ⟨fs, _, rfl, same _ (by simp), Nat.le_succ _, .inl rfl⟩
  rw [if_neg c1]
  by_cases c15 : i.op = 15
  · rw [if_pos c15]
    split
    · exact ⟨fs, _, rfl, same _ (by simp), Nat.le_succ _, .inl rfl⟩
    · exact ⟨fs, x, rfl, h, Nat.le_succ _, .inl rfl⟩
  rw [if_neg c15]
  by_cases c16 : i.op = 16
  · rw [if_pos c16]
    split
    · exact ⟨fs, x, rfl, h, Nat.le_succ _, .inl rfl⟩
    · exact ⟨fs, x, rfl, h, Nat.le_succ _, .inl rfl⟩
  rw [if_neg c16]
  by_cases c18 : i.op = 18
  · rw [if_pos c18]
    exact ⟨fs, x, rfl, h, Nat.le_succ _, .inr ⟨_, rfl⟩⟩
  rw [if_neg c18]
  by_cases c17 : i.op = 17
  · rw [if_pos c17]
    have hfit := hi.fits
    unfold FitsOk at hfit
    simp only [if_neg c1, show ¬ i.op = 2 by omega, if_false, show ¬ (i.op = 12 ∨ i.op = 13) by omega, show ¬ i.op = 14 by omega, show ¬ (i.op = 18 ∨ i.op = 16) by omega, if_pos c17] at hfit
    obtain ⟨g, hg⟩ := hfit
    obtain ⟨g0, g1, g2⟩ := idx_some hg.fn
    have hgd : m.funcs.getD i.fn.toNat PFunc.zero = g := by rw [List.getD_eq_getElem?_getD, g2]; rfl
    have har := hi.ar
    have h6a : ¬ (i.op = 2 ∨ i.op = 14) := by omega
    have h6b : ¬ (i.op ≥ 3 ∧ i.op ≤ 13) := by omega
    simp only [arF, if_neg h6a, if_neg h6b, if_neg c1, if_neg c15, if_neg c18, if_neg c16, if_pos c17, hg.fn, Option.map_some, Option.some.injEq, Prod.mk.injEq] at har
    have hlen := hi.len
    have hle := hg.le
    refine ⟨fs ++ [x], _, rfl, ⟨fun y hy => ?_, newF_ok m hp i.fn g0 (by omega) _ _ ?_, h.link.snoc fun y hy => ?_⟩, by simp, .inl rfl⟩
    · rcases List.mem_append.1 hy with hy | hy
      · exact h.all y hy
      · rw [List.mem_singleton.1 hy]; exact h.top
    · rw [hgd]; simp only [argsF, List.length_map]; omega
    · simp only [List.getLast?_append, List.getLast?_singleton, Option.some_or, Option.some.injEq] at hy
      subst hy
      show i.dst < _
      rw [h.top.regs]
      by_cases ht : t = 0
      · have := hi.none ht; omega
      · exact (hi.dst ht).2
  rw [if_neg c17]
  split
  · exact ⟨fs, _, rfl, same _ (by simp), Nat.le_succ _, .inl rfl⟩
  · exact ⟨fs, x, rfl, h, Nat.le_succ _, .inl rfl⟩
theorem endF_wf (m : PModule) (hp : Proper m) (fs : List PFrame) (x : PFrame) (o : POutcome) (h : Wf m fs x) :
    ((endF m fs x o (blOf m x).term).2.done = true ∨ ∃ fs' x', (endF m fs x o (blOf m x).term).1 = fs' ++ [x'] ∧ Wf m fs' x' ∧ fs'.length ≤ fs.length) := by
  have hend := (hp.funcs _ h.top.fnm).ends _ h.top.blm
  have go : ∀ b ∈ (blOf m x).term.to, Wf m fs (toF m x b) := fun b hb => ⟨h.all, toF_ok m hp x h.top b hb, h.link.top rfl⟩
  unfold endF
  by_cases k1 : (blOf m x).term.kind = 1
  · rw [if_pos k1]
    have hex : ∃ a, (blOf m x).term.to = [a] := by
      rcases hend.kind with ⟨_, h⟩ | ⟨h, _⟩ | ⟨h, _⟩
      · exact h
      · omega
      · omega
    obtain ⟨a, ha⟩ := hex
    exact .inr ⟨fs, _, rfl, go _ (by rw [ha]; simp), Nat.le_refl _⟩
  rw [if_neg k1]
  by_cases k2 : (blOf m x).term.kind = 2
  · rw [if_pos k2]
    have hex : ∃ a b, (blOf m x).term.to = [a, b] := by
      rcases hend.kind with ⟨h, _⟩ | ⟨_, a, b, h, _⟩ | ⟨h, _⟩
      · omega
      · exact ⟨a, b, h⟩
      · omega
    obtain ⟨a, b, ha⟩ := hex
    split
    · exact .inr ⟨fs, _, rfl, go _ (by rw [ha]; simp), Nat.le_refl _⟩
    · exact .inr ⟨fs, _, rfl, go _ (by rw [ha]; simp), Nat.le_refl _⟩
  rw [if_neg k2]
  unfold backF
  rcases List.eq_nil_or_concat fs with h0 | ⟨gs, y, hy⟩
  · subst h0; exact .inl rfl
  · rw [List.concat_eq_append] at hy
    subst hy
    right
    have hgl : (gs ++ [y]).getLast? = some y := by simp
    have hdl : (gs ++ [y]).dropLast = gs := by simp
    have hly := h.link.pre
    have hyo := h.all y (by simp)
    have hga : ∀ z ∈ gs, FrOk m z := fun z hz => h.all z (List.mem_append_left _ hz)
    simp only [hgl, hdl]
    split
    · exact ⟨gs, _, rfl, ⟨hga, regsTo_ok hyo (by simp), hly.top rfl⟩, by simp⟩
    · exact ⟨gs, y, rfl, ⟨hga, hyo, hly⟩, by simp⟩
theorem step_eq (m : PModule) (hp : Proper m) (hs : SmM m) (fs : List PFrame) (x : PFrame) (o : POutcome) (h : Wf m fs x) (hf : fs.length + 1 ≤ BIG) (ho : o.out.length ≤ BIG) :
    run_runner_step ⟨m, ahs m, fs ++ [x], o⟩ = some ((stepF m fs x o).1, (stepF m fs x o).2.done, (stepF m fs x o).2.trap, (stepF m fs x o).2.value, (stepF m fs x o).2.out, (stepF m fs x o).2.memory) ∧ (stepF m fs x o).2.steps = o.steps ∧
      ((stepF m fs x o).2.done = true ∨ ∃ fs' x', (stepF m fs x o).1 = fs' ++ [x'] ∧ Wf m fs' x' ∧ fs'.length ≤ fs.length + 1) ∧ ((stepF m fs x o).2.out = o.out ∨ ∃ v, (stepF m fs x o).2.out = o.out ++ [v]) := by
  have hlen : w64 ((len (fs ++ [x])) - 1) = ((fs.length : Nat) : Int) := by
    simp only [BIG] at hf
    simp only [len, List.length_append, List.length_singleton]
    rw [w64_id ⟨by omega, by omega⟩]; omega
  have hix : idx (fs ++ [x]) ((fs.length : Nat) : Int) = some x := by rw [idx_nat]; simp
  unfold run_runner_step stepF
  simp only [hlen, hix, Option.bind_some, h.top.fn, h.top.bl]
  by_cases hc : x.at_ = ((blOf m x).ins.length : Int)
  · obtain ⟨e1, e2, e3, e4, e5⟩ := end_eq m hp hs fs x o h.top hf h.link.last
    rw [if_pos hc, if_pos hc, e1]
    simp only [Option.bind_some, e2, e3, e5, e4, true_and]
    refine ⟨?_, .inl trivial⟩
    rcases endF_wf m hp fs x o h with h1 | ⟨fs', x', h1, h2, h3⟩
    · exact .inl h1
    · exact .inr ⟨fs', x', h1, h2, by omega⟩
  · have h0 := h.top.a0
    have h1 := h.top.a1
    have hfo := hp.funcs _ h.top.fnm
    have hai : x.at_ < ((blOf m x).ins.length : Int) := by omega
    have hgi : idx (blOf m x).ins x.at_ = some ((blOf m x).ins.getD x.at_.toNat PInstr.zero) := idx_getD h0 hai
    have him : (blOf m x).ins.getD x.at_.toNat PInstr.zero ∈ (blOf m x).ins := getD_mem (by omega)
    have hsb := (hs.2 _ h.top.fnm).2.2.2 _ h.top.blm
    have hw : w64 (x.at_ + 1) = x.at_ + 1 := by
      have := hsb.1
      exact w64_id ⟨by omega, by omega⟩
    obtain ⟨n, t, hin⟩ := (hfo.blocks _ h.top.blm).ins _ him
    have hx' : FrOk m ⟨x.f, x.regs, x.block, x.at_ + 1, x.dst⟩ := ⟨h.top.f0, h.top.f1, h.top.regs, h.top.b0, h.top.b1, by show 0 ≤ x.at_ + 1; omega, by show x.at_ + 1 ≤ _; exact hai⟩
    have hw' : Wf m fs ⟨x.f, x.regs, x.block, x.at_ + 1, x.dst⟩ := ⟨h.all, hx', h.link.top rfl⟩
    obtain ⟨e1, e2, e3⟩ := instrR_eq m hs fs x ⟨x.f, x.regs, x.block, x.at_ + 1, x.dst⟩ o _ n t hx' hin (hsb.2.2.2.1 _ him) hf ho
    rw [if_neg (by simpa [len] using hc), if_neg hc, hgi]
    simp only [Option.bind_some, hw, e1, e2, e3, true_and]
    obtain ⟨fs', x', g1, g2, g3, g4⟩ := instrF_wf m hp fs ⟨x.f, x.regs, x.block, x.at_ + 1, x.dst⟩ o _ n t hw' hin
    exact ⟨.inr ⟨fs', x', g1, g2, g3⟩, g4⟩
end Go.Proofs.Ytpomfbdbkejedaa
set_option linter.unusedVariables false
set_option linter.unusedSimpArgs false
namespace Go.Proofs.Ytpomfbdbkejedaa
open Go Go.Proofs

/-! ### Many steps -/
abbrev Cfg := List PFrame × POutcome
def zeroO : POutcome := ⟨false, 0, 0, [], 0, A64.zero⟩
def tick (o : POutcome) : POutcome := ⟨o.done, o.trap, o.value, o.out, o.steps + 1, o.memory⟩
def stp (m : PModule) (c : Cfg) : Cfg := if c.2.done = true then c else match c.1.getLast? with
  | some x => stepF m c.1.dropLast x (tick c.2)
  | none => c
def adv (m : PModule) : Nat → Cfg → Cfg
  | 0, c => c
  | n + 1, c => adv m n (stp m c)
theorem adv_done (m : PModule) (c : Cfg) (h : c.2.done = true) : ∀ n, adv m n c = c
  | 0 => rfl
  | n + 1 => by
    have : stp m c = c := by unfold stp; rw [if_pos h]
    rw [adv, this]; exact adv_done m c h n
theorem adv_add (m : PModule) : ∀ (a b : Nat) (c : Cfg), adv m (a + b) c = adv m b (adv m a c)
  | 0, b, c => by rw [Nat.zero_add]; rfl
  | a + 1, b, c => by rw [show a + 1 + b = (a + b) + 1 by omega, adv, adv]; exact adv_add m a b _
structure Good (m : PModule) (c : Cfg) : Prop where
  s0 : 0 ≤ c.2.steps
  out : (c.2.out.length : Int) ≤ c.2.steps
  fr : c.2.done = false → ∃ fs x, c.1 = fs ++ [x] ∧ Wf m fs x ∧ (fs.length : Int) ≤ c.2.steps
theorem stp_top (m : PModule) (fs : List PFrame) (x : PFrame) (o : POutcome) (h : o.done = false) : stp m (fs ++ [x], o) = stepF m fs x (tick o) := by
  unfold stp
  simp [h]
theorem stp_ok (m : PModule) (hp : Proper m) (hs : SmM m) (c : Cfg) (h : Good m c) (hd : c.2.done = false) (hb : c.2.steps ≤ 5000000) :
    Good m (stp m c) ∧ (stp m c).2.steps = c.2.steps + 1 ∧ c.2.out <+: (stp m c).2.out ∧
      run_runner_step ⟨m, ahs m, c.1, tick c.2⟩ = some ((stp m c).1, (stp m c).2.done, (stp m c).2.trap, (stp m c).2.value, (stp m c).2.out, (stp m c).2.memory) := by
  obtain ⟨fr, o⟩ := c
  obtain ⟨fs, x, hfx, hw, hl⟩ := h.fr hd
  have h0 := h.s0
  have ho := h.out
  simp only at hfx hl h0 ho hd hb
  subst hfx
  rw [stp_top m fs x o hd]
  obtain ⟨e1, e2, e3, e4⟩ := step_eq m hp hs fs x (tick o) hw (by simp only [BIG]; omega) (by simp only [BIG, tick]; omega)
  have es : (stepF m fs x (tick o)).2.steps = o.steps + 1 := e2
  refine ⟨⟨by rw [es]; omega, ?_, fun hnd => ?_⟩, es, ?_, e1⟩
  · rw [es]
    rcases e4 with h | ⟨v, h⟩
    · rw [h]; simp only [tick]; omega
    · rw [h]; simp only [tick, List.length_append, List.length_singleton]; omega
  · rcases e3 with h | ⟨fs', x', h1, h2, h3⟩
    · rw [h] at hnd; cases hnd
    · exact ⟨fs', x', h1, h2, by rw [es]; omega⟩
  · rcases e4 with h | ⟨v, h⟩
    · rw [h]; exact List.prefix_refl _
    · rw [h]; exact List.prefix_append _ _
theorem adv_ok (m : PModule) (hp : Proper m) (hs : SmM m) : ∀ (n : Nat) (c : Cfg), Good m c → c.2.steps + n ≤ 5000000 →
    Good m (adv m n c) ∧ c.2.steps ≤ (adv m n c).2.steps ∧ (adv m n c).2.steps ≤ c.2.steps + n ∧ ((adv m n c).2.done = false → (adv m n c).2.steps = c.2.steps + n) ∧ c.2.out <+: (adv m n c).2.out
  | 0, c, h, _ => ⟨h, Int.le_refl _, by simp [adv], fun _ => by simp [adv], List.prefix_refl _⟩
  | n + 1, c, h, hb => by
    cases hd : c.2.done with
    | true =>
      rw [adv_done m c hd]
      exact ⟨h, Int.le_refl _, by omega, (fun h2 => by rw [hd] at h2; cases h2), List.prefix_refl _⟩
    | false =>
      obtain ⟨g1, g2, g3, _⟩ := stp_ok m hp hs c h hd (by omega)
      obtain ⟨i1, i2, i3, i4, i5⟩ := adv_ok m hp hs n (stp m c) g1 (by omega)
      rw [adv]
      exact ⟨i1, by omega, by omega, fun h2 => by have := i4 h2; omega, g3.trans i5⟩
abbrev tupR (c : Cfg) : List PFrame × Bool × Int × Int × List Int × Int × A64 := (c.1, c.2.done, c.2.trap, c.2.value, c.2.out, c.2.steps, c.2.memory)
theorem run_loop (m : PModule) (hp : Proper m) (hs : SmM m) (lim : Int) (hl : lim ≤ 2000000) : ∀ (d : Nat) (c : Cfg) (k : Nat), Good m c → (lim - c.2.steps).toNat = d → d < k → c.2.steps ≤ 2000000 →
    whl (fun (s : (List PFrame × Bool × Int × Int × List Int × Int × A64)) => run_Run.bd29 m lim (ahs m) s.1 s.2.1 s.2.2.1 s.2.2.2.1 s.2.2.2.2.1 s.2.2.2.2.2.1 s.2.2.2.2.2.2) k (tupR c) = some (tupR (adv m d c)) := by
  intro d
  induction d with
  | zero =>
    intro c k h hd hk hb
    obtain ⟨k, rfl⟩ : ∃ q, k = q + 1 := ⟨k - 1, by omega⟩
    have : run_Run.bd29 m lim (ahs m) c.1 c.2.done c.2.trap c.2.value c.2.out c.2.steps c.2.memory = some (.ret (tupR c)) := by
      unfold run_Run.bd29
      rw [if_neg (by omega)]
    simp only [whl, this, Option.bind_some, adv]
  | succ d ih =>
    intro c k h hd hk hb
    obtain ⟨k, rfl⟩ : ∃ q, k = q + 1 := ⟨k - 1, by omega⟩
    cases hdn : c.2.done with
    | true =>
      have : run_Run.bd29 m lim (ahs m) c.1 c.2.done c.2.trap c.2.value c.2.out c.2.steps c.2.memory = some (.ret (tupR c)) := by
        unfold run_Run.bd29
        rw [if_neg (by rw [hdn]; simp)]
      rw [adv_done m c hdn]
      simp only [whl, this, Option.bind_some]
    | false =>
      obtain ⟨g1, g2, g3, g4⟩ := stp_ok m hp hs c h hdn (by omega)
      have h0 := h.s0
      have hw : w64 (c.2.steps + 1) = c.2.steps + 1 := w64_id ⟨by omega, by omega⟩
      have : run_Run.bd29 m lim (ahs m) c.1 c.2.done c.2.trap c.2.value c.2.out c.2.steps c.2.memory = some (.go (tupR (stp m c))) := by
        unfold run_Run.bd29
        rw [if_pos ⟨by omega, by rw [hdn]; rfl⟩, hw]
        have g4' : run_runner_step (⟨(⟨m.funcs⟩ : PModule), ahs m, c.1, (⟨c.2.done, c.2.trap, c.2.value, c.2.out, c.2.steps + 1, c.2.memory⟩ : POutcome)⟩ : PRunner) = some ((stp m c).1, (stp m c).2.done, (stp m c).2.trap, (stp m c).2.value, (stp m c).2.out, (stp m c).2.memory) := g4
        rw [g4']
        simp only [Option.bind_some, tupR, g2]
      simp only [whl, this, Option.bind_some]
      rw [ih (stp m c) k g1 (by omega) (by omega) (by omega)]; rfl

/-! ### Runs -/
structure FitsA (m : PModule) (f : Int) (args : List Int) : Prop where
  f0 : 0 ≤ f
  f1 : f < (m.funcs.length : Int)
  len : (args.length : Int) = (m.funcs.getD f.toNat PFunc.zero).params
  bools : ∀ i (hi : i < args.length), (m.funcs.getD f.toNat PFunc.zero).regs.getD i 0 = 2 → args[i] = 0 ∨ args[i] = 1
theorem fitsR_eq (m : PModule) (hp : Proper m) (f : Int) (args : List Int) (steps : Int) (hl : args.length ≤ 300) : ∃ b : Bool, run_fits m f args steps = some b ∧ (b = true ↔ FitsA m f args ∧ 0 ≤ steps ∧ steps ≤ 1048576) := by
  unfold run_fits
  by_cases h1 : f < 0 ∨ f ≥ len m.funcs
  · rw [if_pos h1]
    simp only [Option.bind_some, true_or, if_true]
    refine ⟨false, rfl, by simp, fun h => ?_⟩
    have := h.1.f0; have := h.1.f1
    simp only [len] at h1; omega
  rw [if_neg h1]
  simp only [not_or, len] at h1
  have hix : idx m.funcs f = some (m.funcs.getD f.toNat PFunc.zero) := idx_getD (by omega) (by omega)
  have hgm : m.funcs.getD f.toNat PFunc.zero ∈ m.funcs := getD_mem (by omega)
  have ht := (hp.funcs _ hgm).typed
  rw [hix]
  simp only [Option.bind_some, decide_eq_true_eq, len]
  generalize hg : m.funcs.getD f.toNat PFunc.zero = g at ht
  by_cases h2 : (¬ ((args.length : Nat) : Int) = g.params ∨ steps < 0) ∨ steps > 1048576
  · rw [if_pos h2]
    refine ⟨false, rfl, by simp, fun h => ?_⟩
    have h3 := h.1.len
    rw [hg] at h3
    omega
  rw [if_neg h2]
  simp only [not_or, Classical.not_not] at h2
  have hpr := ht.le
  rcases scan_ix args.length (le_max hl (by omega)) (fun i => ∀ a, args[i]? = some a → g.regs.getD i 0 = 2 → a = 0 ∨ a = 1) (fun e : Bool => e = false) (fun s => run_fits.bd31 m f args s) (fun i hi => by
    have hir : i < g.regs.length := by omega
    have hgr : g.regs.getD i 0 = g.regs[i] := by simp [List.getD_eq_getElem?_getD, hir]
    simp only [run_fits.bd31, len_lt, hi, if_true, idx_lt hi, hix, hg, idx_lt hir, Option.bind_some, w64_i hi (show args.length ≤ 1000 by omega)]
    by_cases hc : (g.regs[i] = 2 ∧ ¬ args[i] = 0) ∧ ¬ args[i] = 1
    · refine .inl ⟨false, by rw [if_pos hc], rfl, fun h => ?_⟩
      rcases h _ (List.getElem?_eq_getElem hi) (by rw [hgr]; exact hc.1.1) with h | h
      · exact hc.1.2 h
      · exact hc.2 h
    · refine .inr ⟨by rw [if_neg hc], fun a ha h2' => ?_⟩
      rw [List.getElem?_eq_getElem hi] at ha; cases ha
      rw [hgr] at h2'
      by_cases h0 : args[i] = 0
      · exact .inl h0
      · by_cases h1' : args[i] = 1
        · exact .inr h1'
        · exact absurd ⟨⟨h2', h0⟩, h1'⟩ hc) (by simp [run_fits.bd31, len]) with ⟨e, hw, rfl, hn⟩ | ⟨hw, hall⟩
  · rw [hw]
    refine ⟨false, rfl, by simp, fun h => (hn fun i hi a ha h2' => ?_).elim⟩
    obtain ⟨hi', he⟩ := List.getElem?_eq_some_iff.1 ha
    subst he
    exact h.1.bools i hi' (by rw [hg]; exact h2')
  · rw [hw]
    refine ⟨true, rfl, fun _ => ⟨⟨by omega, by omega, by rw [hg]; exact h2.1.1, fun i hi h3 => ?_⟩, by omega, by omega⟩, fun _ => rfl⟩
    rw [hg] at h3
    exact hall i hi _ (List.getElem?_eq_getElem hi) h3
def startC (m : PModule) (f : Int) (args : List Int) : Cfg := ([newF m f args (-1)], zeroO)
theorem start_good (m : PModule) (hp : Proper m) (f : Int) (args : List Int) (h : FitsA m f args) : Good m (startC m f args) := by
  have h0 := h.f0
  have h1 := h.f1
  have hgm : m.funcs.getD f.toNat PFunc.zero ∈ m.funcs := getD_mem (by omega)
  have hle := (hp.funcs _ hgm).typed.le
  have hlen := h.len
  refine ⟨Int.le_refl _, Int.le_refl _, fun _ => ⟨[], _, rfl, ⟨fun y hy => by simp at hy, newF_ok m hp f h0 h1 args _ (by omega), fun i a b e1 e2 => ?_⟩, Int.le_refl _⟩⟩
  have := (List.getElem?_eq_some_iff.1 e2).1
  simp at this
theorem ahs_eq (m : PModule) (hs : SmM m) : whl (fun (s : (List (List (List Int)) × Int)) => run_Run.bd18 m s.1 s.2) FUEL (([] : List (List (List Int))), 0) = some (ahs m) :=
  whl_map m.funcs (fun (f : PFunc) => aheads (nexts f)) (r := ahs m) (le_max hs.1 (by omega)) (fun i hi => by
    have hl := hs.1
    simp only [run_Run.bd18, len_lt, hi, if_true, idx_lt hi, Option.bind_some, checkAhead_eq _ (hs.2 _ (List.getElem_mem hi))]
    rw [cat_one (by simp; omega)]
    simp only [Option.bind_some, run_Run.jn53, w64_i hi (show m.funcs.length ≤ 1000 by omega)]) (by simp [run_Run.bd18, len, ahs])
theorem run_any (m : PModule) (hs : SmM m) (f : Int) (args : List Int) (steps : Int) (hl : args.length ≤ 300) :
    ∃ e, (e ≠ GErr.no ∧ run_Run m f args steps = some (zeroO, e) ∧ ¬ (Proper m ∧ FitsA m f args ∧ 0 ≤ steps ∧ steps ≤ 1048576)) ∨
      (e = GErr.no ∧ Proper m ∧ FitsA m f args ∧ 0 ≤ steps ∧ steps ≤ 1048576 ∧ run_Run m f args steps = some ((adv m steps.toNat (startC m f args)).2, GErr.no)) := by
  unfold run_Run
  obtain ⟨e, he1, he2⟩ := module_says m hs
  rw [he1]
  simp only [Option.bind_some]
  by_cases h : e = GErr.no
  · have hp := he2.1 h
    rw [if_neg (by simpa using h)]
    obtain ⟨b, hb1, hb2⟩ := fitsR_eq m hp f args steps hl
    rw [hb1]
    simp only [Option.bind_some]
    cases b with
    | false =>
      refine ⟨GErr.code 1, .inl ⟨by simp, by simp [zeroO], fun hh => ?_⟩⟩
      have := hb2.2 hh.2
      simp at this
    | true =>
      obtain ⟨hfa, h0, h1⟩ := hb2.1 rfl
      refine ⟨GErr.no, .inr ⟨rfl, hp, hfa, h0, h1, ?_⟩⟩
      simp only [Bool.not_true, Bool.false_eq_true, if_false, ahs_eq m hs, Option.bind_some, run_Run.nx18]
      have hix : idx m.funcs f = some (m.funcs.getD f.toNat PFunc.zero) := idx_getD hfa.f0 hfa.f1
      have hgm : m.funcs.getD f.toNat PFunc.zero ∈ m.funcs := getD_mem (by have := hfa.f0; have := hfa.f1; omega)
      have hgr := (hs.2 _ hgm).2.1
      have hmk : mkl (((m.funcs.getD f.toNat PFunc.zero).regs.length : Nat) : Int) (0 : Int) = some (List.replicate (m.funcs.getD f.toNat PFunc.zero).regs.length 0) := by
        generalize (m.funcs.getD f.toNat PFunc.zero).regs.length = q at hgr
        have h1 : q < LIM := by simp only [LIM]; omega
        simp [mkl, len, h1]
      have hen : run_runner_enter (⟨(⟨m.funcs⟩ : PModule), ahs m, ([] : List PFrame), (⟨false, 0, 0, [], 0, A64.zero⟩ : POutcome)⟩ : PRunner) f args (-1) = some [newF m f args (-1)] := by
        simp only [run_runner_enter, hix, Option.bind_some, len, hmk]
        rw [cat_one (by simp)]; rfl
      rw [hen]
      simp only [Option.bind_some]
      have hlp := run_loop m hp hs steps (by omega) steps.toNat (startC m f args) FUEL (start_good m hp f args hfa) (by simp [startC, zeroO]) (lt_FUEL (by simp only [maxLen]; omega)) (by simp [startC, zeroO])
      have e0 : tupR (startC m f args) = ([newF m f args (-1)], false, 0, 0, ([] : List Int), 0, A64.zero) := rfl
      rw [e0] at hlp
      rw [hlp]
      simp only [Option.bind_some, run_Run.nx29]
  · rw [if_pos h]
    exact ⟨e, .inl ⟨h, rfl, fun hh => h (he2.2 hh.1)⟩⟩

/-! ### What was put out, outcomes held against each other -/
theorem adv_out_len (m : PModule) (hp : Proper m) (hs : SmM m) (f : Int) (args : List Int) (h : FitsA m f args) (n : Nat) (hn : n ≤ 2000000) : (adv m n (startC m f args)).2.out.length ≤ 2000000 := by
  obtain ⟨g1, _, g3, _⟩ := adv_ok m hp hs n (startC m f args) (start_good m hp f args h) (by simp [startC, zeroO]; omega)
  have := g1.out
  have h0 : (startC m f args).2.steps = 0 := rfl
  omega
end Go.Proofs.Ytpomfbdbkejedaa
set_option linter.unusedVariables false
set_option linter.unusedSimpArgs false
namespace Go.Proofs.Ytpomfbdbkejedaa
open Go Go.Proofs

theorem eval_no (m : PModule) (i : PInstr) (args : List Int) (n t : Int) (har : arF m i = some (n, t)) (hn : (args.length : Int) = n) (h1 : ¬ i.op = 1) (h11 : ¬ i.op = 11) (h15 : ¬ i.op = 15) (h16 : ¬ i.op = 16) (h17 : ¬ i.op = 17) (h18 : ¬ i.op = 18) : ∃ v, arith_Eval i.op args = some (v, GErr.no) := by
  unfold arF at har
  unfold arith_Eval arith_Args arith_bit
  by_cases c1 : i.op = 2 ∨ i.op = 14
  · simp only [if_pos c1, Option.some.injEq, Prod.mk.injEq] at har
    rw [if_pos c1]
    simp only [Option.bind_some]
    rw [if_neg (by simp only [len]; simp; omega)]
    have h0 : idx args 0 = some args[0] := idx_lt (i := 0) (by omega)
    rw [h0]
    simp only [Option.bind_some]
    rcases c1 with c1 | c1
    · rw [if_pos c1]; exact ⟨_, rfl⟩
    · rw [if_neg (by omega), if_pos c1]; exact ⟨_, rfl⟩
  · rw [if_neg c1] at har
    by_cases c2 : i.op ≥ 3 ∧ i.op ≤ 13
    · simp only [if_pos c2, Option.some.injEq, Prod.mk.injEq] at har
      rw [if_neg c1, if_pos c2]
      simp only [Option.bind_some]
      rw [if_neg (by simp only [len]; simp; omega)]
      have h0 : idx args 0 = some args[0] := idx_lt (i := 0) (by omega)
      have h1' : idx args 1 = some args[1] := idx_lt (i := 1) (by omega)
      rw [h0]
      simp only [Option.bind_some]
      rw [if_neg (by omega), if_neg (by omega), h1']
      simp only [Option.bind_some]
      have kb : ∀ {c : Prop} [Decidable c], ∃ v, ((if c then some (1 : Int) else some 0).bind fun x => some (x, GErr.no)) = some (v, GErr.no) := by
        intro c _; split <;> exact ⟨_, rfl⟩
      by_cases d3 : i.op = 3
      · rw [if_pos d3]; exact ⟨_, rfl⟩
      rw [if_neg d3]
      by_cases d4 : i.op = 4
      · rw [if_pos d4]; exact ⟨_, rfl⟩
      rw [if_neg d4]
      by_cases d5 : i.op = 5
      · rw [if_pos d5]; exact ⟨_, rfl⟩
      rw [if_neg d5]
      by_cases d6 : i.op = 6
      · rw [if_pos d6]; exact ⟨_, rfl⟩
      rw [if_neg d6]
      by_cases d7 : i.op = 7
      · rw [if_pos d7]; exact ⟨_, rfl⟩
      rw [if_neg d7]
      by_cases d8 : i.op = 8
      · rw [if_pos d8]; exact ⟨_, rfl⟩
      rw [if_neg d8]
      by_cases d9 : i.op = 9
      · rw [if_pos d9]; exact ⟨_, rfl⟩
      rw [if_neg d9]
      by_cases d10 : i.op = 10
      · rw [if_pos d10]; exact ⟨_, rfl⟩
      rw [if_neg d10]
      by_cases d12 : i.op = 12
      · rw [if_pos d12]; exact kb
      rw [if_neg d12, if_pos (by omega)]
      exact kb
    · simp only [if_neg c2, if_neg h1, if_neg h15, if_neg h18, if_neg h16, if_neg h17] at har
      cases har

/-- Instructions that just reckon, or call. -/
structure Tame (x : PInstr) : Prop where
  n15 : ¬ x.op = 15
  n16 : ¬ x.op = 16
  n18 : ¬ x.op = 18
  n11 : ¬ x.op = 11
theorem instrF_q (m : PModule) (fs : List PFrame) (x : PFrame) (o : POutcome) (i : PInstr) (n t : Int) (hx : FrOk m x) (hi : InstrOk m (fnOf m x) i n t) (hq : Tame i) :
    (∃ x', instrF m fs x o i = (fs ++ [x'], o) ∧ x'.f = x.f ∧ x'.block = x.block ∧ x'.at_ = x.at_) ∨ (i.op = 17 ∧ instrF m fs x o i = (fs ++ [x] ++ [newF m i.fn (argsF x.regs i.args) i.dst], o)) := by
  unfold instrF
  simp only [if_neg hq.n15, if_neg hq.n16, if_neg hq.n18]
  by_cases c1 : i.op = 1
  · rw [if_pos c1]; exact .inl ⟨_, rfl, rfl, rfl, rfl⟩
  rw [if_neg c1]
  by_cases c17 : i.op = 17
  · rw [if_pos c17]; exact .inr ⟨c17, rfl⟩
  rw [if_neg c17]
  obtain ⟨v, hv⟩ := eval_no m i (argsF x.regs i.args) n t hi.ar (by rw [← hi.len]; simp [argsF]) c1 hq.n11 hq.n15 hq.n16 c17 hq.n18
  rw [evalV_some hv, if_pos rfl]
  exact .inl ⟨_, rfl, rfl, rfl, rfl⟩
theorem endF_q (m : PModule) (fs : List PFrame) (x : PFrame) (o : POutcome) (t : PTerm) (ht : EndsOk (fnOf m x) t) :
    (∃ b, b ∈ t.to ∧ endF m fs x o t = (fs ++ [toF m x b], o)) ∨ (fs = [] ∧ ∃ v, endF m fs x o t = ([], ⟨true, o.trap, v, o.out, o.steps, o.memory⟩)) ∨ ∃ fs' y r, fs = fs' ++ [y] ∧ endF m fs x o t = (fs' ++ [y.regsTo r], o) := by
  unfold endF
  rcases ht.kind with ⟨h1, a, h2⟩ | ⟨h1, a, b, h2, _⟩ | ⟨h1, h2⟩
  · rw [if_pos h1]
    exact .inl ⟨a, by rw [h2]; simp, by rw [h2]; rfl⟩
  · rw [if_neg (by omega), if_pos h1]
    split
    · exact .inl ⟨a, by rw [h2]; simp, by rw [h2]; rfl⟩
    · exact .inl ⟨b, by rw [h2]; simp, by rw [h2]; rfl⟩
  · rw [if_neg (by omega), if_neg (by omega)]
    right
    unfold backF
    cases hl : fs.getLast? with
    | none =>
      rw [List.getLast?_eq_none_iff] at hl
      exact .inl ⟨hl, _, rfl⟩
    | some y =>
      obtain ⟨ys, rfl⟩ := List.getLast?_eq_some_iff.1 hl
      right
      dsimp only
      rw [List.dropLast_concat]
      split
      · exact ⟨_, _, _, rfl, rfl⟩
      · exact ⟨ys, y, y.regs, rfl, rfl⟩

/-- Quiet functions Q and what of them is reached. -/
structure Qt (m : PModule) (Q : Int → Prop) (R : Int → Nat → Prop) : Prop where
  zero : ∀ f, Q f → R f 0
  next : ∀ (f : Int) (b : Nat) (B : PBlock), Q f → R f b → (m.funcs.getD f.toNat PFunc.zero).blocks[b]? = some B → ∀ t, t ∈ B.term.to → R f t.toNat
  ins : ∀ (f : Int) (b : Nat) (B : PBlock), Q f → R f b → (m.funcs.getD f.toNat PFunc.zero).blocks[b]? = some B → ∀ x, x ∈ B.ins → Tame x ∧ (x.op = 17 → Q x.fn)
structure QC (Q : Int → Prop) (R : Int → Nat → Prop) (c : Cfg) : Prop where
  trap : c.2.trap = 0
  out : c.2.out = []
  mem : c.2.memory = A64.zero
  fr : ∀ y, y ∈ c.1 → Q y.f ∧ R y.f y.block.toNat
theorem bl_get {m : PModule} {x : PFrame} (h : FrOk m x) : (m.funcs.getD x.f.toNat PFunc.zero).blocks[x.block.toNat]? = some (blOf m x) := by
  have h1 := h.b0
  have h2 := h.b1
  have : x.block.toNat < (fnOf m x).blocks.length := by omega
  show (fnOf m x).blocks[x.block.toNat]? = some ((fnOf m x).blocks.getD x.block.toNat PBlock.zero)
  rw [List.getD_eq_getElem?_getD, List.getElem?_eq_getElem this]; rfl
theorem stepF_q {m : PModule} (hp : Proper m) {Q : Int → Prop} {R : Int → Nat → Prop} (hQ : Qt m Q R) {fs : List PFrame} {x : PFrame} {o : POutcome} (hx : FrOk m x) (h : QC Q R (fs ++ [x], o)) : QC Q R (stepF m fs x o) := by
  have hxq := h.fr x (by simp)
  have hB := bl_get hx
  have hfs : ∀ y, y ∈ fs → Q y.f ∧ R y.f y.block.toNat := fun y hy => h.fr y (by simp [hy])
  unfold stepF
  split
  · have hE := (hp.funcs _ hx.fnm).ends _ hx.blm
    rcases endF_q m fs x o _ hE with ⟨b, hb, he⟩ | ⟨_, v, he⟩ | ⟨fs', y, r, hf, he⟩ <;> rw [he]
    · refine ⟨h.trap, h.out, h.mem, fun y hy => ?_⟩
      rcases List.mem_append.1 hy with hy | hy
      · exact hfs y hy
      · rw [List.mem_singleton.1 hy]
        exact ⟨hxq.1, hQ.next _ _ _ hxq.1 hxq.2 hB b hb⟩
    · exact ⟨h.trap, h.out, h.mem, fun y hy => by simp at hy⟩
    · refine ⟨h.trap, h.out, h.mem, fun z hz => ?_⟩
      rcases List.mem_append.1 hz with hz | hz
      · exact hfs z (by rw [hf]; simp [hz])
      · rw [List.mem_singleton.1 hz]
        exact hfs y (by rw [hf]; simp)
  · rename_i hne
    have ha0 := hx.a0
    have ha1 := hx.a1
    have hlt : x.at_.toNat < (blOf m x).ins.length := by omega
    have hmem : (blOf m x).ins.getD x.at_.toNat PInstr.zero ∈ (blOf m x).ins := getD_mem hlt
    obtain ⟨n, t, hi⟩ := ((hp.funcs _ hx.fnm).blocks _ hx.blm).ins _ hmem
    obtain ⟨hT, hc⟩ := hQ.ins _ _ _ hxq.1 hxq.2 hB _ hmem
    have hx1 : FrOk m ⟨x.f, x.regs, x.block, x.at_ + 1, x.dst⟩ := ⟨hx.f0, hx.f1, hx.regs, hx.b0, hx.b1, by show 0 ≤ x.at_ + 1; omega, by show x.at_ + 1 ≤ ((blOf m x).ins.length : Int); omega⟩
    rcases instrF_q m fs ⟨x.f, x.regs, x.block, x.at_ + 1, x.dst⟩ o _ n t hx1 hi hT with ⟨x', he, e1, e2, e3⟩ | ⟨h17, he⟩ <;> rw [he]
    · refine ⟨h.trap, h.out, h.mem, fun y hy => ?_⟩
      rcases List.mem_append.1 hy with hy | hy
      · exact hfs y hy
      · rw [List.mem_singleton.1 hy, e1, e2]; exact hxq
    · refine ⟨h.trap, h.out, h.mem, fun y hy => ?_⟩
      rcases List.mem_append.1 hy with hy | hy
      · rcases List.mem_append.1 hy with hy | hy
        · exact hfs y hy
        · rw [List.mem_singleton.1 hy]; exact hxq
      · rw [List.mem_singleton.1 hy]
        exact ⟨hc h17, hQ.zero _ (hc h17)⟩
theorem stp_q {m : PModule} (hp : Proper m) {Q : Int → Prop} {R : Int → Nat → Prop} (hQ : Qt m Q R) {c : Cfg} (hg : Good m c) (h : QC Q R c) : QC Q R (stp m c) := by
  cases hd : c.2.done with
  | true => unfold stp; rw [if_pos hd]; exact h
  | false =>
    obtain ⟨fs, x, hc, hW, _⟩ := hg.fr hd
    obtain ⟨c1, o⟩ := c
    dsimp only at hc hd
    subst hc
    rw [stp_top m fs x o hd]
    exact stepF_q hp hQ hW.top ⟨h.trap, h.out, h.mem, h.fr⟩
theorem adv_q {m : PModule} (hp : Proper m) (hs : SmM m) {Q : Int → Prop} {R : Int → Nat → Prop} (hQ : Qt m Q R) : ∀ (n : Nat) (c : Cfg), Good m c → c.2.steps + n ≤ 5000000 → QC Q R c → QC Q R (adv m n c)
  | 0, c, _, _, h => h
  | n + 1, c, hg, hl, h => by
    show QC Q R (adv m n (stp m c))
    have h1 := stp_q hp hQ hg h
    cases hd : c.2.done with
    | true =>
      have : stp m c = c := by unfold stp; rw [if_pos hd]
      rw [this]
      exact adv_q hp hs hQ n c hg (by omega) h
    | false =>
      obtain ⟨h2, h3, _⟩ := stp_ok m hp hs c hg hd (by omega)
      exact adv_q hp hs hQ n _ h2 (by omega) h1

/-! ### No round: how long it takes -/
structure Dag (f : PFunc) (R : Nat → Prop) (q : List Int) (pl : Int → Nat) : Prop where
  nd : q.Nodup
  inn : ∀ x, x ∈ q → ok f.blocks.length x
  at_ : ∀ b : Nat, R b → q[pl (b : Int)]? = some (b : Int)
  up : ∀ (b : Nat) (B : PBlock), R b → f.blocks[b]? = some B → ∀ t, t ∈ B.term.to → pl (b : Int) < pl t
def wt (f : PFunc) (b : Int) : Nat := (f.blocks.getD b.toNat PBlock.zero).ins.length + 1
def sofar (f : PFunc) (q : List Int) (k : Nat) : Nat := ((q.take k).map (wt f)).sum
theorem sofar_succ {f : PFunc} {q : List Int} {k : Nat} {b : Int} (h : q[k]? = some b) : sofar f q (k + 1) = sofar f q k + wt f b := by
  obtain ⟨hk, rfl⟩ := List.getElem?_eq_some_iff.1 h
  unfold sofar
  rw [List.take_succ_eq_append_getElem hk, List.map_append, List.sum_append]; simp
theorem sofar_le {f : PFunc} {q : List Int} {a b : Nat} (h : a ≤ b) : sofar f q a ≤ sofar f q b := by
  unfold sofar
  have : q.take a = (q.take b).take a := by rw [List.take_take, Nat.min_eq_left h]
  rw [this]
  conv => rhs; rw [← List.take_append_drop a (q.take b)]
  rw [List.map_append, List.sum_append]
  omega
theorem sum_ite (w : Nat → Nat) (x : Nat) : ∀ N, x < N → ((List.range N).map fun i => if i = x then w x else 0).sum = w x := by
  intro N
  induction N with
  | zero => intro h; omega
  | succ N ih =>
    intro h
    rw [List.range_succ, List.map_append, List.sum_append]
    by_cases hx : x = N
    · subst hx
      have : ∀ M, M ≤ x → ((List.range M).map fun i => if i = x then w x else 0).sum = 0 := by
        intro M
        induction M with
        | zero => intro _; rfl
        | succ M ihM => intro hM; rw [List.range_succ, List.map_append, List.sum_append, ihM (by omega)]; simp; omega
      rw [this x (Nat.le_refl _)]; simp
    · rw [ih (by omega)]; simp [Ne.symm hx]
theorem sum_add (f g : Nat → Nat) : ∀ N, ((List.range N).map fun i => f i + g i).sum = ((List.range N).map f).sum + ((List.range N).map g).sum := by
  intro N
  induction N with
  | zero => rfl
  | succ N ih => rw [List.range_succ]; simp only [List.map_append, List.sum_append, ih, List.map_cons, List.map_nil, List.sum_cons, List.sum_nil]; omega
theorem sum_le (f g : Nat → Nat) (h : ∀ i, f i ≤ g i) : ∀ N, ((List.range N).map f).sum ≤ ((List.range N).map g).sum := by
  intro N
  induction N with
  | zero => exact Nat.le_refl _
  | succ N ih => rw [List.range_succ]; simp only [List.map_append, List.sum_append, List.map_cons, List.map_nil, List.sum_cons, List.sum_nil]; have := h N; omega
theorem sum_some (w : Int → Nat) (N : Nat) : ∀ q : List Int, q.Nodup → (∀ x, x ∈ q → ok N x) → (q.map w).sum = ((List.range N).map fun i : Nat => if (i : Int) ∈ q then w (i : Int) else 0).sum
  | [], _, _ => by
    have : ((List.range N).map fun i : Nat => if (i : Int) ∈ ([] : List Int) then w (i : Int) else 0) = (List.range N).map fun _ => 0 := by simp
    rw [this]
    induction N with
    | zero => rfl
    | succ N ih => rw [List.range_succ, List.map_append, List.sum_append, ← ih (by simp) (by simp)]; rfl
  | x :: q, hn, hi => by
    rw [List.nodup_cons] at hn
    obtain ⟨k, rfl, hk⟩ := ok_get (hi x (by simp))
    rw [List.map_cons, List.sum_cons, sum_some w N q hn.2 (fun y hy => hi y (by simp [hy])), ← sum_ite (fun i => w (i : Int)) k N hk, ← sum_add]
    congr 1
    refine List.map_congr_left fun i _ => ?_
    by_cases h1 : i = k
    · subst h1
      simp [hn.1]
    · have : ¬ (i : Int) = (k : Int) := by omega
      simp [h1, this]
theorem range_getD {α β : Type} (l : List α) (d : α) (g : α → β) : (List.range l.length).map (fun i => g (l.getD i d)) = l.map g := by
  refine List.ext_getElem (by simp) fun i h1 h2 => ?_
  simp at h1
  simp [List.getD_eq_getElem?_getD, h1]
def mw (f : PFunc) : Nat := (f.blocks.map fun (B : PBlock) => B.ins.length + 1).sum
theorem sofar_mw {f : PFunc} {q : List Int} (hn : q.Nodup) (hi : ∀ x, x ∈ q → ok f.blocks.length x) (k : Nat) : sofar f q k ≤ mw f := by
  have h1 : sofar f q k ≤ (q.map (wt f)).sum := by
    conv => rhs; rw [← List.take_append_drop k q]
    rw [List.map_append, List.sum_append]
    unfold sofar
    omega
  refine Nat.le_trans h1 ?_
  rw [sum_some (wt f) f.blocks.length q hn hi]
  unfold mw
  rw [← range_getD f.blocks PBlock.zero (fun B => B.ins.length + 1)]
  refine sum_le _ _ (fun i => ?_) _
  split
  · exact Nat.le_refl _
  · exact Nat.zero_le _
/-- A run of one function alone. -/
structure Alone (m : PModule) (f : Int) (R : Nat → Prop) (q : List Int) (pl : Int → Nat) (c : Cfg) : Prop where
  on : c.2.done = false → ∃ x, c.1 = [x] ∧ FrOk m x ∧ x.f = f ∧ R x.block.toNat ∧ c.2.steps ≤ (sofar (m.funcs.getD f.toNat PFunc.zero) q (pl x.block) : Int) + x.at_
  off : c.2.done = true → c.2.steps ≤ (mw (m.funcs.getD f.toNat PFunc.zero) : Int)
theorem stp_alone {m : PModule} (hp : Proper m) {f : Int} {R : Nat → Prop} {q : List Int} {pl : Int → Nat} (hD : Dag (m.funcs.getD f.toNat PFunc.zero) R q pl)
    (hR : ∀ (b : Nat) (B : PBlock), R b → (m.funcs.getD f.toNat PFunc.zero).blocks[b]? = some B → (∀ t, t ∈ B.term.to → R t.toNat) ∧ ∀ x, x ∈ B.ins → Tame x ∧ ¬ x.op = 17)
    {c : Cfg} (h : Alone m f R q pl c) : Alone m f R q pl (stp m c) := by
  cases hd : c.2.done with
  | true =>
    have : stp m c = c := by unfold stp; rw [if_pos hd]
    rw [this]; exact h
  | false =>
    obtain ⟨x, hc, hx, rfl, hr, hle⟩ := h.on hd
    obtain ⟨c1, o⟩ := c
    dsimp only at hc hd hle
    subst hc
    have hB := bl_get hx
    obtain ⟨hto, hins⟩ := hR _ _ hr hB
    have h0 := hx.b0
    have hxb : ((x.block.toNat : Nat) : Int) = x.block := by omega
    have hat := hD.at_ _ hr
    have hwt : wt (m.funcs.getD x.f.toNat PFunc.zero) x.block = (blOf m x).ins.length + 1 := rfl
    have hsucc := sofar_succ (f := m.funcs.getD x.f.toNat PFunc.zero) hat
    rw [hxb, hwt] at hsucc
    have hst : stp m ([x], o) = stepF m [] x (tick o) := stp_top m [] x o hd
    rw [hst]
    unfold stepF
    have ht : (tick o).steps = o.steps + 1 := rfl
    have htd : (tick o).done = false := hd
    split
    · rename_i hae
      have hE := (hp.funcs _ hx.fnm).ends _ hx.blm
      rcases endF_q m [] x (tick o) _ hE with ⟨b, hb, he⟩ | ⟨_, v, he⟩ | ⟨fs', y, r, hf, he⟩ <;> (try rw [he])
      · have hup := hD.up _ _ hr hB b hb
        rw [hxb] at hup
        have hok := toF_ok m hp x hx b hb
        refine ⟨fun _ => ⟨toF m x b, rfl, hok, rfl, hto b hb, ?_⟩, fun h => by rw [htd] at h; cases h⟩
        show (tick o).steps ≤ (sofar _ q (pl b) : Int) + 0
        have := sofar_le (f := m.funcs.getD x.f.toNat PFunc.zero) (q := q) (show pl x.block + 1 ≤ pl b from hup)
        rw [ht]
        omega
      · refine ⟨fun h => (by cases h), fun _ => ?_⟩
        show (tick o).steps ≤ _
        have := sofar_mw (f := m.funcs.getD x.f.toNat PFunc.zero) hD.nd hD.inn (pl x.block + 1)
        rw [ht]
        omega
      · simp at hf
    · rename_i hne
      have ha0 := hx.a0
      have ha1 := hx.a1
      have hlt : x.at_.toNat < (blOf m x).ins.length := by omega
      have hmem : (blOf m x).ins.getD x.at_.toNat PInstr.zero ∈ (blOf m x).ins := getD_mem hlt
      obtain ⟨n, t, hi⟩ := ((hp.funcs _ hx.fnm).blocks _ hx.blm).ins _ hmem
      obtain ⟨hT, hc⟩ := hins _ hmem
      have hx1 : FrOk m ⟨x.f, x.regs, x.block, x.at_ + 1, x.dst⟩ := ⟨hx.f0, hx.f1, hx.regs, hx.b0, hx.b1, by show 0 ≤ x.at_ + 1; omega, by show x.at_ + 1 ≤ ((blOf m x).ins.length : Int); omega⟩
      rcases instrF_q m [] ⟨x.f, x.regs, x.block, x.at_ + 1, x.dst⟩ (tick o) _ n t hx1 hi hT with ⟨x', he, e1, e2, e3⟩ | ⟨h17, he⟩
      · have hW := instrF_wf m hp [] ⟨x.f, x.regs, x.block, x.at_ + 1, x.dst⟩ (tick o) _ n t ⟨by simp, hx1, fun i a b h1 h2 => by simp at h2⟩ hi
        obtain ⟨fs', y, hy, hWf, _⟩ := hW
        rw [he] at hy ⊢
        have hxy : y = x' := by
          have := congrArg List.getLast? hy
          simpa using this.symm
        subst hxy
        refine ⟨fun _ => ⟨y, rfl, hWf.top, e1, by rw [e2]; exact hr, ?_⟩, fun h => by rw [htd] at h; cases h⟩
        show (tick o).steps ≤ (sofar _ q (pl y.block) : Int) + y.at_
        rw [e2, e3, ht]
        show o.steps + 1 ≤ (sofar _ q (pl x.block) : Int) + (x.at_ + 1)
        omega
      · exact absurd h17 hc
theorem adv_alone {m : PModule} (hp : Proper m) {f : Int} {R : Nat → Prop} {q : List Int} {pl : Int → Nat} (hD : Dag (m.funcs.getD f.toNat PFunc.zero) R q pl)
    (hR : ∀ (b : Nat) (B : PBlock), R b → (m.funcs.getD f.toNat PFunc.zero).blocks[b]? = some B → (∀ t, t ∈ B.term.to → R t.toNat) ∧ ∀ x, x ∈ B.ins → Tame x ∧ ¬ x.op = 17) :
    ∀ (n : Nat) (c : Cfg), Alone m f R q pl c → Alone m f R q pl (adv m n c)
  | 0, c, h => h
  | n + 1, c, h => adv_alone hp hD hR n _ (stp_alone hp hD hR h)

/-! ### Of a module -/
theorem reached_ok (f : PFunc) (hf : SmF f) (hpos : 0 < f.blocks.length) : ∃ s q, graph_Reached f = some s ∧ s.length = f.blocks.length ∧ graph_Order f = some q ∧ q.length ≤ 70 ∧ q.Nodup ∧ (∀ x, x ∈ q ↔ ∃ v : Nat, x = v ∧ s[v]? = some true) ∧ s[0]? = some true ∧
    ∀ (v w : Nat) (row : List Int), s[v]? = some true → (nexts f)[v]? = some row → (w : Int) ∈ row → s[w]? = some true := by
  obtain ⟨s, o, hW, _, hw⟩ := walked_any f hf
  obtain ⟨hV, h0, _⟩ := hw hpos
  obtain ⟨new, h2, h3, h4⟩ := hV.app
  simp only [List.nil_append] at h2
  subst h2
  have hrep : ∀ v : Nat, s[v]? = some true → (List.replicate f.blocks.length false)[v]? = some false := fun v hv => by
    have := (List.getElem?_eq_some_iff.1 hv).1
    rw [hW.len] at this
    simp [this]
  refine ⟨s, o.reverse, hW.rea, hW.len, hW.ord, by simpa using hW.few, (List.reverse_perm o).nodup_iff.2 h3, fun x => ?_, h0, fun v w row hv hrow hm => hV.clos v w row hv (hrep v hv) hrow hm⟩
  rw [List.mem_reverse, h4]
  constructor
  · rintro ⟨v, a, b, _⟩; exact ⟨v, a, b⟩
  · rintro ⟨v, a, b⟩; exact ⟨v, a, b, hrep v b⟩
theorem to_next {m : PModule} {f : PFunc} (ho : FuncOk m f) {v : Nat} {B : PBlock} (hB : f.blocks[v]? = some B) {t : Int} (ht : t ∈ B.term.to) : ∃ row, (nexts f)[v]? = some row ∧ t ∈ row ∧ 0 ≤ t := by
  obtain ⟨hv, rfl⟩ := List.getElem?_eq_some_iff.1 hB
  have h1 := (ho.ends _ (List.getElem_mem hv)).to t ht
  exact ⟨_, nexts_get f v hv, mem_succs.2 ⟨ht, by omega, h1.2⟩, by omega⟩
def Reached (m : PModule) (f : Int) (b : Nat) : Prop := ∃ s, graph_Reached (m.funcs.getD f.toNat PFunc.zero) = some s ∧ s[b]? = some true
def Quiet (N : Nat) (l : List PEffect) (f : Int) : Prop := ok N f ∧ ∀ k, 1 ≤ k → k < 5 → bt (eg l f) k = false
theorem fn_get {m : PModule} {i : Nat} (h : i < m.funcs.length) : m.funcs.getD (i : Int).toNat PFunc.zero = m.funcs[i] := by simp [List.getD_eq_getElem?_getD, h]
theorem quiet_qt {m : PModule} (hm : SmM m) (hp : Proper m) {l O : List PEffect} {D : List (List Int)} (h : EffOk m l O D) : Qt m (Quiet m.funcs.length l) (Reached m) := by
  refine ⟨fun f hf => ?_, fun f b B hf hr hB t ht => ?_, fun f b B hf hr hB x hx => ?_⟩
  · obtain ⟨i, rfl, hi⟩ := ok_get hf.1
    have hfo := hp.funcs _ (List.getElem_mem hi)
    obtain ⟨s, q, h1, _, _, _, _, _, h2, _⟩ := reached_ok m.funcs[i] (hm.2 _ (List.getElem_mem hi)) hfo.small.pos
    exact ⟨s, by rw [fn_get hi]; exact h1, h2⟩
  · obtain ⟨i, rfl, hi⟩ := ok_get hf.1
    have hfo := hp.funcs _ (List.getElem_mem hi)
    obtain ⟨s, q, h1, _, _, _, _, _, _, h3⟩ := reached_ok m.funcs[i] (hm.2 _ (List.getElem_mem hi)) hfo.small.pos
    obtain ⟨s', h1', h2'⟩ := hr
    rw [fn_get hi] at h1' hB
    rw [h1] at h1'
    cases h1'
    obtain ⟨row, a, b', c⟩ := to_next hfo hB ht
    refine ⟨s, by rw [fn_get hi]; exact h1, h3 b t.toNat row h2' a ?_⟩
    rw [show ((t.toNat : Nat) : Int) = t by omega]; exact b'
  · obtain ⟨i, rfl, hi⟩ := ok_get hf.1
    obtain ⟨s', h1', h2'⟩ := hr
    rw [fn_get hi] at h1' hB
    obtain ⟨s, tr, a1, a2, a3, hO⟩ := (h.own.own i hi hi).what
    rw [h1'] at a1
    cases a1
    have hri : RI m.funcs[i] s' m.funcs[i].blocks.length x := ⟨b, B, (List.getElem?_eq_some_iff.1 hB).1, h2', hB, hx⟩
    have key : ∀ k, 1 ≤ k → k < 5 → bt (insE x) k = false := by
      intro k h1 h5
      cases hb : bt (insE x) k with
      | false => rfl
      | true =>
        have e1 := (hO.bits k h5).2 (.inr ⟨x, hri, hb⟩)
        have e2 := (h.bits (i : Int) hf.1 k h5).2 ⟨(i : Int), hf.1, .refl _, .inl e1⟩
        rw [hf.2 k h1 h5] at e2
        cases e2
    have k1 := key 1 (by omega) (by omega)
    have k2 := key 2 (by omega) (by omega)
    have k3 := key 3 (by omega) (by omega)
    simp only [bt, insE, decide_eq_false_iff_not] at k1 k2 k3
    refine ⟨⟨fun h => k3 (.inl h), k1, k2, fun h => k3 (.inr (.inr h))⟩, fun h17 => ?_⟩
    have hc := (hO.calls x.fn).2 ⟨x, hri, h17, rfl⟩
    have hin := h.inn (i : Int) hf.1 x.fn hc
    refine ⟨hin, fun k h1 h5 => ?_⟩
    cases hb : bt (eg l x.fn) k with
    | false => rfl
    | true =>
      obtain ⟨j, b1, b2, b3⟩ := (h.bits x.fn hin k h5).1 hb
      have e2 := (h.bits (i : Int) hf.1 k h5).2 ⟨j, b1, .step hc b2, b3⟩
      rw [hf.2 k h1 h5] at e2
      cases e2
theorem quiet_dag {m : PModule} (hm : SmM m) (hp : Proper m) {l O : List PEffect} {D : List (List Int)} (h : EffOk m l O D) {i : Nat} (hi : i < m.funcs.length) (hq : Quiet m.funcs.length l (i : Int)) :
    ∃ q pl, Dag (m.funcs.getD (i : Int).toNat PFunc.zero) (Reached m (i : Int)) q pl := by
  have hfo := hp.funcs _ (List.getElem_mem hi)
  have hsf := hm.2 _ (List.getElem_mem hi)
  obtain ⟨s, q, h1, h2, h3, h4, h5, h6, h7, h8⟩ := reached_ok m.funcs[i] hsf hfo.small.pos
  have hin : ∀ x, x ∈ q → ok m.funcs[i].blocks.length x := fun x hx => by
    obtain ⟨v, rfl, hv⟩ := (h6 x).1 hx
    have := (List.getElem?_eq_some_iff.1 hv).1
    exact ok_nat (by omega)
  obtain ⟨b, hb, place, p1, p2, p3⟩ := turns_eq m.funcs[i] hsf q h3 h4 h5 hin
  have hbf : b = false := by
    cases b with
    | false => rfl
    | true =>
      obtain ⟨s', tr, a1, a2, a3, hO⟩ := (h.own.own i hi hi).what
      rw [hb] at a2
      cases a2
      have e1 := (hO.bits 4 (by omega)).2 (.inl ⟨rfl, rfl⟩)
      have e2 := (h.bits (i : Int) hq.1 4 (by omega)).2 ⟨(i : Int), hq.1, .refl _, .inl e1⟩
      rw [hq.2 4 (by omega) (by omega)] at e2
      cases e2
  subst hbf
  have hno : ∀ y, y ∈ q → ∀ x, x ∈ cs (nexts m.funcs[i]) y → nu place y < nu place x := by
    intro y hy x hx
    rcases (by omega : nu place y < nu place x ∨ nu place x ≤ nu place y) with h | h
    · exact h
    · exact absurd (p3.2 ⟨y, hy, x, hx, h⟩) (by simp)
  have hat : ∀ v : Nat, s[v]? = some true → ∃ k : Nat, q[k]? = some (v : Int) ∧ nu place (v : Int) = (k : Int) := by
    intro v hv
    obtain ⟨k, hk, he⟩ := List.getElem_of_mem ((h6 (v : Int)).2 ⟨v, rfl, hv⟩)
    exact ⟨k, by rw [List.getElem?_eq_getElem hk, he], p2 k v (by rw [List.getElem?_eq_getElem hk, he])⟩
  have hRs : ∀ b : Nat, Reached m (i : Int) b → s[b]? = some true := by
    rintro b ⟨s', a1, a2⟩
    rw [fn_get hi, h1] at a1
    cases a1
    exact a2
  refine ⟨q, fun b => (nu place b).toNat, h5, by rw [fn_get hi]; exact hin, fun b hb => ?_, fun b B hb hB t ht => ?_⟩
  · obtain ⟨k, e1, e2⟩ := hat b (hRs b hb)
    rw [e2]
    simpa using e1
  · rw [fn_get hi] at hB
    obtain ⟨k, e1, e2⟩ := hat b (hRs b hb)
    obtain ⟨row, r1, r2, r3⟩ := to_next hfo hB ht
    have hbq : (b : Int) ∈ q := List.mem_of_getElem? e1
    have hcs : cs (nexts m.funcs[i]) (b : Int) = row := by
      unfold cs
      rw [List.getD_eq_getElem?_getD]
      simp [r1]
    have := hno _ hbq t (by rw [hcs]; exact r2)
    omega
end Go.Proofs.Ytpomfbdbkejedaa
set_option linter.unusedVariables false
set_option linter.unusedSimpArgs false
namespace Go.Proofs.Ytpomfbdbkejedaa
open Go Go.Proofs

theorem mw_le {l : List PBlock} : (l.map fun (B : PBlock) => B.ins.length + 1).sum ≤ (l.map fun (B : PBlock) => B.phis.length + B.ins.length + 1).sum := by
  induction l with
  | nil => exact Nat.le_refl _
  | cons a l ih => simp only [List.map_cons, List.sum_cons]; omega
theorem count_in (B : PBlock) (hB : B.ins.length ≤ 300) (b0 : Bool) : ∃ z, whl (fun (s : (Bool × Int)) => fettlelaw15_EffectQuiet.bd90 B s.1 s.2) FUEL (b0, 0) = some z ∧ (z = true ↔ b0 = true ∨ ∃ x, x ∈ B.ins ∧ x.op = 17) := by
  have hm := le_max hB (by omega)
  refine whl_for (σ := Bool × Int) (s0 := (b0, 0)) B.ins.length (fun i s => s.2 = (i : Int) ∧ (s.1 = true ↔ b0 = true ∨ ∃ x, x ∈ B.ins.take i ∧ x.op = 17)) (fun z => (z = true ↔ b0 = true ∨ ∃ x, x ∈ B.ins ∧ x.op = 17)) hm ?_ ?_ ⟨rfl, by simp⟩
  · rintro i ⟨b, k⟩ hi ⟨hk, hb⟩
    dsimp only at hk hb
    subst hk
    have hnext : (∃ x, x ∈ B.ins.take (i + 1) ∧ x.op = 17) ↔ (∃ x, x ∈ B.ins.take i ∧ x.op = 17) ∨ (B.ins[i]).op = 17 := by
      rw [List.take_succ_eq_append_getElem hi]
      constructor
      · rintro ⟨x, h1, h2⟩
        rcases List.mem_append.1 h1 with h1 | h1
        · exact .inl ⟨x, h1, h2⟩
        · rw [List.mem_singleton.1 h1] at h2; exact .inr h2
      · rintro (⟨x, h1, h2⟩ | h2)
        · exact ⟨x, List.mem_append.2 (.inl h1), h2⟩
        · exact ⟨_, List.mem_append.2 (.inr (List.mem_singleton.2 rfl)), h2⟩
    cases b with
    | true =>
      refine .inr ⟨(true, ((i + 1 : Nat) : Int)), by simp only [fettlelaw15_EffectQuiet.bd90, len_lt, hi, if_true, Option.bind_some, w64_at hi hm], rfl, ?_⟩
      show true = true ↔ _
      rw [hnext, ← or_assoc, ← hb]
      simp
    | false =>
      refine .inr ⟨(decide ((B.ins[i]).op = 17), ((i + 1 : Nat) : Int)), by simp only [fettlelaw15_EffectQuiet.bd90, len_lt, hi, if_true, Bool.false_eq_true, if_false, idx_lt hi, Option.bind_some, w64_at hi hm], rfl, ?_⟩
      show decide ((B.ins[i]).op = 17) = true ↔ _
      rw [hnext, ← or_assoc, ← hb]
      simp
  · rintro ⟨b, k⟩ ⟨hk, hb⟩
    dsimp only at hk hb
    subst hk
    rw [List.take_length] at hb
    exact ⟨b, by simp [fettlelaw15_EffectQuiet.bd90, len], hb⟩
theorem count_ok (m : PModule) (f : Nat) (hf : f < m.funcs.length) (hs : SmF m.funcs[f]) :
    ∃ z, whl (fun (s : (Int × Bool × Int)) => fettlelaw15_EffectQuiet.bd45 m (f : Int) s.1 s.2.1 s.2.2) FUEL (0, false, 0) = some z ∧ (z.1 = (mw m.funcs[f] : Int) ∧ (z.2 = true ↔ ∃ B, B ∈ m.funcs[f].blocks ∧ ∃ x, x ∈ B.ins ∧ x.op = 17)) := by
  have hN := hs.1
  have hm := le_max hN (by omega)
  refine whl_for (σ := Int × Bool × Int) (s0 := (0, false, 0)) m.funcs[f].blocks.length (fun i s => s.2.2 = (i : Int) ∧ (∃ n : Nat, n = ((m.funcs[f].blocks.take i).map fun (B : PBlock) => B.ins.length + 1).sum ∧ n ≤ 301 * i ∧ s.1 = (n : Int)) ∧ (s.2.1 = true ↔ ∃ B, B ∈ m.funcs[f].blocks.take i ∧ ∃ x, x ∈ B.ins ∧ x.op = 17)) (fun (z : Int × Bool) => z.1 = (mw m.funcs[f] : Int) ∧ (z.2 = true ↔ ∃ B, B ∈ m.funcs[f].blocks ∧ ∃ x, x ∈ B.ins ∧ x.op = 17)) hm ?_ ?_ ⟨rfl, ⟨0, by simp, by simp, rfl⟩, by simp⟩
  · rintro i ⟨a, b, k⟩ hi ⟨hk, ⟨n, hn, hnl, ha⟩, hb⟩
    dsimp only at hk ha hb
    subst hk ha
    have hB := (hs.2.2.2 _ (List.getElem_mem hi)).1
    obtain ⟨z, hz1, hz2⟩ := count_in m.funcs[f].blocks[i] hB b
    have w1 : w64 ((n : Int) + len m.funcs[f].blocks[i].ins) = ((n + m.funcs[f].blocks[i].ins.length : Nat) : Int) := by
      rw [show (n : Int) + len m.funcs[f].blocks[i].ins = ((n + m.funcs[f].blocks[i].ins.length : Nat) : Int) by simp [len]]
      exact w64_nat (by omega)
    have w2 : w64 (((n + m.funcs[f].blocks[i].ins.length : Nat) : Int) + 1) = ((n + m.funcs[f].blocks[i].ins.length + 1 : Nat) : Int) := w64_succ (by omega)
    refine .inr ⟨(((n + m.funcs[f].blocks[i].ins.length + 1 : Nat) : Int), z, ((i + 1 : Nat) : Int)), ?_, rfl, ⟨n + m.funcs[f].blocks[i].ins.length + 1, ?_, by omega, rfl⟩, ?_⟩
    · simp only [fettlelaw15_EffectQuiet.bd45, idx_lt hf, Option.bind_some, len_lt, hi, if_true, idx_lt hi, hz1, fettlelaw15_EffectQuiet.nx90, w1, w2, w64_at hi hm]
    · rw [List.take_succ_eq_append_getElem hi, List.map_append, List.sum_append, ← hn]; simp; omega
    · show z = true ↔ _
      rw [hz2, hb, List.take_succ_eq_append_getElem hi]
      constructor
      · rintro (⟨B, h1, h2⟩ | h2)
        · exact ⟨B, List.mem_append.2 (.inl h1), h2⟩
        · exact ⟨_, List.mem_append.2 (.inr (List.mem_singleton.2 rfl)), h2⟩
      · rintro ⟨B, h1, h2⟩
        rcases List.mem_append.1 h1 with h1 | h1
        · exact .inl ⟨B, h1, h2⟩
        · rw [List.mem_singleton.1 h1] at h2; exact .inr h2
  · rintro ⟨a, b, k⟩ ⟨hk, ⟨n, hn, hnl, ha⟩, hb⟩
    dsimp only at hk ha hb
    subst hk ha
    rw [List.take_length] at hb hn
    exact ⟨((n : Int), b), by simp [fettlelaw15_EffectQuiet.bd45, idx_lt hf, len], by rw [hn]; rfl, hb⟩
theorem pure_effectQuiet (m : PModule) (f : Int) (args : List Int) (h : wfModule m) (h1 : inI64 f) (h2 : okL inI64 args) : fettlelaw15_EffectQuiet m f args = some true := by
  obtain ⟨b, hb, hs⟩ := small_ok m
  unfold fettlelaw15_EffectQuiet
  simp only [up_true, hb, Option.bind_some]
  by_cases hc : (!b) = true ∨ len args > 20
  · rw [if_pos hc]
  rw [if_neg hc]
  have hbt : b = true := by
    cases b with
    | true => rfl
    | false => exact absurd (.inl rfl) hc
  have hm := hs hbt
  have hal : args.length ≤ 20 := by
    have : ¬ len args > 20 := fun h => hc (.inr h)
    simp only [len] at this
    omega
  rcases effects_ok m hm with ⟨e, _, he, _, hE⟩ | ⟨hPr, _, l, O, D, hE, hok⟩
  · simp only [hE, Option.bind_some, he, not_false_eq_true, true_or, if_true]
  · simp only [hE, Option.bind_some, not_true_eq_false, false_or]
    have hll : len l = (m.funcs.length : Int) := by simp [len, hok.len]
    by_cases hf : f < 0 ∨ f ≥ len l
    · rw [if_pos hf]; simp
    rw [if_neg hf]
    obtain ⟨f, rfl⟩ : ∃ k : Nat, f = k := ⟨f.toNat, by omega⟩
    have hfl : f < m.funcs.length := by omega
    have hi : idx l (f : Int) = some (eg l (f : Int)) := idx_eg (by rw [hok.len]; exact ok_nat hfl)
    simp only [hi, Option.bind_some, quiet1]
    cases hq : qt (eg l (f : Int)) with
    | false => simp
    | true =>
      simp only [Bool.not_true, Bool.false_eq_true, if_false]
      have hQ : Quiet m.funcs.length l (f : Int) := by
        refine ⟨ok_nat hfl, fun k k1 k5 => ?_⟩
        simp only [qt, Bool.not_eq_true', Bool.or_eq_false_iff] at hq
        rcases (by omega : k = 1 ∨ k = 2 ∨ k = 3 ∨ k = 4) with rfl | rfl | rfl | rfl
        · exact hq.1.1.1
        · exact hq.1.1.2
        · exact hq.1.2
        · exact hq.2
      have hqt := quiet_qt hm hPr hok
      obtain ⟨e, ⟨he, hr, _⟩ | ⟨he, _, hF, _, _, hr⟩⟩ := run_any m hm (f : Int) args 200000 (by omega)
      · simp only [hr, Option.bind_some, he, not_false_eq_true, if_true]
      · obtain ⟨n, hn⟩ : ∃ n : Nat, n = 200000 := ⟨_, rfl⟩
        have hN : (200000 : Int).toNat = n := by omega
        rw [hN] at hr
        simp only [hr, Option.bind_some, not_true_eq_false, if_false]
        have hg := start_good m hPr (f : Int) args hF
        have hz : (startC m (f : Int) args).2.steps = 0 := rfl
        have hQC : QC (Quiet m.funcs.length l) (Reached m) (startC m (f : Int) args) := by
          refine ⟨rfl, rfl, rfl, fun y hy => ?_⟩
          have : y = newF m (f : Int) args (-1) := List.mem_singleton.1 hy
          subst this
          exact ⟨hQ, hqt.zero _ hQ⟩
        have hqc := adv_q hPr hm hqt n _ hg (by rw [hz]; omega) hQC
        obtain ⟨z, hz1, hz2, hz3⟩ := count_ok m f hfl (hm.2 _ (List.getElem_mem hfl))
        obtain ⟨z1, z2⟩ := z
        dsimp only at hz2 hz3
        simp only [hz1, Option.bind_some, fettlelaw15_EffectQuiet.nx45]
        have hno : ¬ ((!z2) = true ∧ ((!(adv m n (startC m (f : Int) args)).2.done) = true ∨ (adv m n (startC m (f : Int) args)).2.steps > z1)) := by
          rintro ⟨h3, h4⟩
          have h3' : ¬ z2 = true := by cases z2 <;> simp at h3 ⊢
          obtain ⟨q, pl, hD⟩ := quiet_dag hm hPr hok hfl hQ
          have hR : ∀ (b : Nat) (B : PBlock), Reached m (f : Int) b → (m.funcs.getD (f : Int).toNat PFunc.zero).blocks[b]? = some B → (∀ t, t ∈ B.term.to → Reached m (f : Int) t.toNat) ∧ ∀ x, x ∈ B.ins → Tame x ∧ ¬ x.op = 17 := by
            intro b B hr hB
            refine ⟨hqt.next _ b B hQ hr hB, fun x hx => ⟨(hqt.ins _ b B hQ hr hB x hx).1, fun h17 => h3' (hz3.2 ?_)⟩⟩
            rw [fn_get hfl] at hB
            exact ⟨B, List.mem_of_getElem? hB, x, hx, h17⟩
          have hA : Alone m (f : Int) (Reached m (f : Int)) q pl (startC m (f : Int) args) := by
            refine ⟨fun _ => ?_, fun h => by cases h⟩
            obtain ⟨fs, x, e1, e2, _⟩ := hg.fr rfl
            have e3 : fs = [] ∧ newF m (f : Int) args (-1) = x := by
              have e4 : [newF m (f : Int) args (-1)] = fs ++ [x] := e1
              cases fs with
              | nil => exact ⟨rfl, by simpa using e4⟩
              | cons a fs => simp at e4
            obtain ⟨rfl, rfl⟩ := e3
            refine ⟨_, rfl, e2.top, rfl, hqt.zero _ hQ, ?_⟩
            show (0 : Int) ≤ ((sofar _ q _ : Nat) : Int) + 0
            omega
          have hAn := adv_alone hPr hD hR n _ hA
          have hfo := hPr.funcs _ (List.getElem_mem hfl)
          have hmwb : mw m.funcs[f] ≤ 256 := Nat.le_trans mw_le hfo.small.ins
          cases hd : (adv m n (startC m (f : Int) args)).2.done with
          | true =>
            have := hAn.off hd
            rw [fn_get hfl, ← hz2] at this
            rw [hd] at h4
            rcases h4 with h4 | h4
            · simp at h4
            · omega
          | false =>
            obtain ⟨_, _, _, h5, _⟩ := adv_ok m hPr hm n _ hg (by rw [hz]; omega)
            have h6 := h5 hd
            rw [hz] at h6
            obtain ⟨x, _, hx, hxf, _, h7⟩ := hAn.on hd
            have h8 := sofar_mw (f := m.funcs.getD (f : Int).toNat PFunc.zero) hD.nd hD.inn (pl x.block)
            rw [fn_get hfl] at h7 h8
            have h9 := hx.a1
            have h10 := (((hm.2 _ hx.fnm).2.2.2 _ hx.blm).1)
            omega
        rw [if_neg hno]
        simp [hqc.trap, hqc.out, hqc.mem, len]
end Go.Proofs.Ytpomfbdbkejedaa
