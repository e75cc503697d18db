/- The framework, part G: append of what is read, slicing, copy, elements laid open, elements written. No conditions. -/
import Derived.Test.YtpmcbahahjelnaaFwF
set_option linter.unusedVariables false
set_option linter.unusedSimpArgs false
namespace Go.Proofs.Ytpmcbahahjelnaa
open Go

/-- Kinds without anything in further blocks. -/
structure Flat {α : Type} (k : Kd α) where
  enc : α → List Value
  own : ∀ x, k.own x (enc x) []
  ro : ∀ {G x cs}, k.ro G x cs → cs = enc x
def fInt (j : IntKind) : Flat (kInt j) := ⟨fun x => [.int j x], fun _ => ⟨rfl, rfl⟩, fun h => h⟩
def fBool : Flat kBool := ⟨fun x => [.bool x], fun _ => ⟨rfl, rfl⟩, fun h => h⟩
theorem Flat.rep {α : Type} {k : Kd α} (f : Flat k) : ∀ xs : List α, RepL k xs (xs.map f.enc) []
  | [] => .nil
  | x :: xs => by have := RepL.cons (f.own x) (f.rep xs); simpa using this
theorem Flat.len {α : Type} {k : Kd α} (f : Flat k) (x : α) : (f.enc x).length = k.sz := k.len (f.own x)
theorem flat_get {α : Type} {k : Kd α} (f : Flat k) : ∀ (xs : List α) (j : Nat) (u : Value), (xs.map f.enc).flatten[j]? = some u → ∃ i x r, xs[i]? = some x ∧ (f.enc x)[r]? = some u ∧ j = i * k.sz + r
  | [], j, u, h => by simp at h
  | x :: xs, j, u, h => by
    simp only [List.map_cons, List.flatten_cons] at h
    rcases Nat.lt_or_ge j (f.enc x).length with hj | hj
    · rw [List.getElem?_append_left hj] at h
      exact ⟨0, x, j, rfl, h, by simp⟩
    · rw [List.getElem?_append_right hj] at h
      obtain ⟨i, y, r, h1, h2, h3⟩ := flat_get f xs _ u h
      rw [f.len] at h3 hj
      exact ⟨i + 1, y, r, by simpa using h1, h2, by rw [Nat.add_mul]; omega⟩
/-- The cells of a slice that is read. -/
theorem SlI.flat {α : Type} {k : Kd α} (f : Flat k) {G : FP} {xs : List α} {v : Value} (h : SlI k G xs v) : (∃ A c, v = .slice A 0 c ∧ xs = []) ∨ ∃ b o c, v = .slice (some ⟨b, o, none⟩) xs.length c ∧ CellsIn G b o (xs.map f.enc).flatten := by
  obtain ⟨hl, h | ⟨b, o, c, c', t, fr, hv, hle, hm, hx⟩⟩ := h
  · exact .inl h
  · refine .inr ⟨b, o, c, hv, c', t, fr, hm, fun j u hu => ?_⟩
    obtain ⟨i, x, r, h1, h2, rfl⟩ := flat_get f xs j u hu
    obtain ⟨cs, h3, h4⟩ := hx i x h1
    rw [f.ro h3] at h4
    rw [← Nat.add_assoc]
    exact h4 r u h2

theorem over_eq : ∀ (ds : List Value) (l : List Value) (o : Nat), o + ds.length ≤ l.length → over l o ds = l.take o ++ (ds ++ l.drop (o + ds.length))
  | [], l, o, h => by simp [over]
  | v :: r, l, o, h => by
    simp only [List.length_cons] at h
    rw [over, over_eq r _ _ (by rw [List.length_set]; omega)]
    have ho : o < l.length := by omega
    rw [List.take_set, List.drop_set_of_lt (by omega), List.take_succ_eq_append_getElem ho]
    have h1 : (l.take o ++ [l[o]]).set o v = l.take o ++ [v] := by
      rw [List.set_append_right _ _ (by simp; omega)]
      simp [Nat.min_eq_left (Nat.le_of_lt ho)]
    rw [h1]
    simp only [List.length_cons, List.append_assoc, List.cons_append, List.nil_append]
    rw [show o + 1 + r.length = o + (r.length + 1) by omega]

def cpy {α : Type} (xs ys : List α) : List α := ys.take xs.length ++ xs.drop ys.length

section
variable {X : Cx} {Q : Post} {H : FP} {L : List FP} {e : Env} {ops : Array Oper} {rest : List Oper} {d : Nat} {ty : TypeId} {pos : String} {af : Array Edge}
  {t E : TypeId} {x y : Operand} {α : Type} {k : Kd α} {xs : List α} {v z : Value} {G : FP} {sz by_ : Nat}

/-- append(v, ys...), ys being read. -/
theorem TL.appI {ys zs : List α} {F : FP} {u : Value} (f : Flat k) (ht : X.P.underlying t = some (.slice E)) (hs : inf X.P E z sz by_) (hd : d < X.n) (hk : k.sz = sz) (hz : 0 < sz) (hzs : z.cells.size = sz) (hb : by_ ≤ 128)
    (hx : evO e x = v) (hy : evO e y = u) (hv : SlO E k xs v F) (hu : SlI k G ys u) (hG : Src H (F :: L) G) (hcat : cat xs ys = some zs)
    (h : ∀ v' F', SlO E k zs v' F' → TL X ops Q H (F' :: L) rest (upd e d v')) :
    TL X ops Q H (F :: L) (⟨some d, .call ⟨.builtin .append, #[x, y], #[t, t]⟩, ty, pos, af, none⟩ :: rest) e := by
  refine TL.eff rfl (fun x hx => by cases hx; exact hd) fun w hw => ?_
  obtain ⟨hlim, rfl⟩ := cat_some hcat
  have hlim' : xs.length + ys.length < 1099511627776 := hlim
  rcases hu.flat f with ⟨A, c, rfl, rfl⟩ | ⟨b, o, c, rfl, hc⟩
  · obtain ⟨hl, hv'⟩ := hv
    refine ⟨v, w, F :: L, ?_, hw, h v F (by rw [List.append_nil]; exact ⟨hl, hv'⟩)⟩
    rcases hv' with ⟨rfl, rfl, rfl⟩ | ⟨b, css, post, c', G', rfl, rfl, hr, hp, hc', hm⟩
    · cases A <;> simp [execOp, resolve, invoke, builtin, Builtin.append_, run_underlying ht, hs.size, Builtin.lenOf, Builtin.firstCells, loadCells, loadCellsFrom, hx, hy]
    · cases A <;> simp [execOp, resolve, invoke, builtin, Builtin.append_, run_underlying ht, hs.size, Builtin.lenOf, Builtin.firstCells, loadCells, loadCellsFrom, hx, hy, hc', storeCells]
  · obtain ⟨css, G', hown, hrep, hF⟩ := hv.row hw
    obtain ⟨i, hi, hzz, his, hib⟩ := hs.get
    have hr := f.rep ys
    obtain ⟨v', w', hrun, hown', hg, _, hat⟩ := run_append_own_at (P := X.P) w 0 t ty E i z k.sz by_ ht hi hzz (by rw [his, hk]) hib (by rw [hzs, hk]) (by omega) v xs.length css.flatten hown
      ⟨b, o, none⟩ ys.length c (ys.map f.enc).flatten hr.flat (fun j u hu => by
        have := hw.range hG hc j u hu
        rwa [Addr.add_mid]) (fun u hu => hr.one u hu) (by simp only [maxLen]; omega)
      (by have : (xs.length + ys.length) * by_ ≤ 1099511627776 * 128 := Nat.mul_le_mul (by omega) hb
          omega) (Nat.zero_le _)
    have hw2 : St X.E H (F :: [] :: L) w := hw.perm (by simp)
    obtain ⟨F', hF', hst⟩ := SlO.back (E := E) hw2 hF hrep hr hown' hg hat hlim
    refine ⟨v', w', F' :: L, ?_, hst, h v' F' hF'⟩
    simp only [execOp, resolve, invoke, builtin, Sem.run_bind, Sem.run_pure, Result.andThen_ok, List.map_toArray, List.map_cons, List.map_nil, hx, hy, hrun]

/-! ### Slicing -/
theorem SlI.drop {xs : List α} {A : Option Addr} {n c l : Nat} (h : SlI k G xs (.slice A n c)) (hl : l ≤ xs.length) : SlI k G (xs.drop l) (.slice (if c = l then A else A.map (·.add (l * k.sz))) (n - l) (c - l)) := by
  obtain ⟨hlim, ⟨A', c', hv, rfl⟩ | ⟨b, o, c1, c', t, fr, hv, hle, hm, hx⟩⟩ := h
  · cases hv
    have : l = 0 := by simpa using hl
    subst this
    exact ⟨by simp, .inl ⟨_, _, rfl, rfl⟩⟩
  · cases hv
    refine ⟨by simp; omega, ?_⟩
    by_cases he : c = l
    · have hx0 : xs.drop l = [] := by
        apply List.drop_eq_nil_of_le; omega
      rw [if_pos he, hx0]
      exact .inl ⟨_, _, by congr 1; omega, rfl⟩
    · rw [if_neg he]
      refine .inr ⟨b, o + l * k.sz, c - l, c', t, fr, by simp [Addr.add_mid], by simp; omega, hm, fun i x hi => ?_⟩
      obtain ⟨cs, h1, h2⟩ := hx (l + i) x (by simpa using hi)
      refine ⟨cs, h1, fun j u hu => ?_⟩
      have := h2 j u hu
      rwa [show o + l * k.sz + i * k.sz + j = o + (l + i) * k.sz + j by rw [Nat.add_mul]; omega]
theorem SlI.take {xs : List α} {A : Option Addr} {n c m : Nat} (h : SlI k G xs (.slice A n c)) (hl : m ≤ xs.length) : SlI k G (xs.take m) (.slice A m c) := by
  obtain ⟨hlim, ⟨A', c', hv, rfl⟩ | ⟨b, o, c1, c', t, fr, hv, hle, hm, hx⟩⟩ := h
  · cases hv
    have : m = 0 := by simpa using hl
    subst this
    exact ⟨by simp, .inl ⟨_, _, rfl, rfl⟩⟩
  · cases hv
    have hlen : (xs.take m).length = m := by simp; omega
    refine ⟨by rw [hlen]; omega, .inr ⟨b, o, c, c', t, fr, by rw [hlen], by rw [hlen]; omega, hm, fun i x hi => hx i x ?_⟩⟩
    have hlt := (List.getElem?_eq_some_iff.1 hi).1
    rw [hlen] at hlt
    rwa [List.getElem?_take_of_lt hlt] at hi
theorem sliceB {P : Program} {t E : TypeId} (ht : P.underlying t = some (.slice E)) : P.underlying t = some (.slice (P.elem t)) := by
  simp [Program.elem, ht]
theorem elemB {P : Program} {t E : TypeId} (ht : P.underlying t = some (.slice E)) : P.elem t = E := by
  simp [Program.elem, ht]
theorem rv_slFrom (t : TypeId) (x y : Operand) {l : Int} {zs : List α} (ht : X.P.underlying t = some (.slice E)) (hs : inf X.P E z sz by_) (hk : k.sz = sz) (hx : evO e x = v) (hy : evO e y = .int .i64 l) (hv : SlI k G xs v) (hf : from_ xs l = some zs) :
    ∃ v', SlI k G zs v' ∧ RV X H L e (.slice t x (some y) none none) v' := by
  obtain ⟨h0, hl, rfl⟩ := from_some hf
  obtain ⟨A, c, rfl⟩ := hv.len
  refine ⟨_, hv.drop hl, fun w _ _ _ _ _ _ => ?_⟩
  have := run_slice_l (P := X.P) (w := w) t A xs.length c (sliceB ht) .i64 l h0 (by omega)
  simp only [execOp, Instr.sliceAt, Sem.run_bind, run_underlying ht, Result.andThen_ok, hx, hy, Option.map, this, elemB ht, hs.size, sliced, hk]
  rfl
theorem rv_slTo (t : TypeId) (x y : Operand) {m : Int} {zs : List α} (ht : X.P.underlying t = some (.slice E)) (hs : inf X.P E z sz by_) (hk : k.sz = sz) (hx : evO e x = v) (hy : evO e y = .int .i64 m) (hv : SlI k G xs v) (hf : upto xs m = some zs) :
    ∃ v', SlI k G zs v' ∧ RV X H L e (.slice t x none (some y) none) v' := by
  obtain ⟨h0, hl, rfl⟩ := upto_some hf
  obtain ⟨A, c, rfl⟩ := hv.len
  have hc : m ≤ (c : Int) ∨ xs = [] := by
    obtain ⟨hlim, ⟨A', c', hv', rfl⟩ | ⟨b, o, c1, c', t, fr, hv', hle, hm, hx⟩⟩ := hv
    · exact .inr rfl
    · cases hv'; exact .inl (by omega)
  have hc' : m ≤ (c : Int) := by
    rcases hc with hc | rfl
    · exact hc
    · simp at hl; omega
  refine ⟨_, hv.take hl, fun w _ _ _ _ _ _ => ?_⟩
  have := run_slice_h (P := X.P) (w := w) t A xs.length c (sliceB ht) .i64 m h0 hc'
  simp only [execOp, Instr.sliceAt, Sem.run_bind, run_underlying ht, Result.andThen_ok, hx, hy, Option.map, this, elemB ht, hs.size, sliced, hk]
  cases A <;> simp [Addr.add]
/-- One's own, cut behind. -/
theorem TL.slOwn {m : Int} {zs : List α} {F : FP} (ht : X.P.underlying t = some (.slice E)) (hs : inf X.P E z sz by_) (hk : k.sz = sz) (hd : d < X.n) (hx : evO e x = v) (hy : evO e y = .int .i64 m) (hv : SlO E k xs v F) (hf : upto xs m = some zs)
    (h : ∀ v' F', SlO E k zs v' F' → TL X ops Q H (F' :: L) rest (upd e d v')) : TL X ops Q H (F :: L) (⟨some d, .slice t x none (some y) none, ty, pos, af, none⟩ :: rest) e := by
  obtain ⟨h0, hl, rfl⟩ := upto_some hf
  obtain ⟨hlim, ⟨rfl, rfl, rfl⟩ | ⟨b, css, post, c, G, rfl, rfl, hr, hp, hc, hm⟩⟩ := hv
  · have hm0 : m = 0 := by simp at hl; omega
    subst hm0
    refine TL.val rfl rfl hd (v := .slice none 0 0) (fun w _ => ?_) (h (.slice none 0 0) [] ⟨by simp [LIM], .inl ⟨rfl, by simp, rfl⟩⟩)
    have := run_slice_h (P := X.P) (w := w) t none 0 0 (sliceB ht) .i64 0 (by omega) (by omega)
    simp [execOp, Instr.sliceAt, run_underlying ht, hx, hy, this, elemB ht, hs.size, sliced]
  · have hsp := List.take_append_drop m.toNat xs
    rw [← hsp] at hr
    obtain ⟨c1, c2, G1, G2, rfl, rfl, h1, h2⟩ := hr.split
    have hlen : (xs.take m.toNat).length = m.toNat := by simp; omega
    have hS : SlO E k (xs.take m.toNat) (.slice (some ⟨b, 0, none⟩) m.toNat c) ((b, Obj.cells (((c1 ++ c2).flatten ++ post).toArray) E (0, 0)) :: G1) := by
      refine ⟨by rw [hlen]; omega, .inr ⟨b, c1, c2.flatten ++ post, c, G1, by rw [hlen], by simp [List.append_assoc], h1, ?_, by rw [hlen]; omega, hm⟩⟩
      rw [List.length_append, h2.flat, hp, hlen, ← Nat.add_mul, List.length_drop]
      congr 1; omega
    refine TL.less (L' := (((b, Obj.cells (((c1 ++ c2).flatten ++ post).toArray) E (0, 0)) :: G1)) :: L) G2 (by
      simp only [List.flatten_cons, List.cons_append, List.append_assoc]
      refine List.Perm.cons _ (List.Perm.append_left _ List.perm_append_comm)) ?_
    refine TL.val rfl rfl hd (fun w _ => ?_) (h _ _ hS)
    have := run_slice_h (P := X.P) (w := w) t (some ⟨b, 0, none⟩) xs.length c (sliceB ht) .i64 m h0 (by omega)
    simp [execOp, Instr.sliceAt, run_underlying ht, hx, hy, this, elemB ht, hs.size, sliced, Addr.add]

/-! ### copy -/
theorem TL.copy {ys : List α} {F : FP} {u : Value} {u1 u2 : TypeId} (f : Flat k) (ht : X.P.underlying u1 = some (.slice E)) (hs : inf X.P E z sz by_) (hd : d < X.n) (hk : k.sz = sz) (h1 : sz = 1)
    (hx : evO e x = v) (hy : evO e y = u) (hv : SlO E k xs v F) (hu : SlI k G ys u) (hG : Src H (F :: L) G)
    (h : ∀ F', SlO E k (cpy xs ys) v F' → TL X ops Q H (F' :: L) rest (upd e d (.int .i64 (min (len ys) (len xs))))) :
    TL X ops Q H (F :: L) (⟨some d, .call ⟨.builtin .copy, #[x, y], #[u1, u2]⟩, ty, pos, af, none⟩ :: rest) e := by
  subst h1
  have hinf : (X.P.info? E).map (·.size) = some 1 := by
    obtain ⟨i, hi, _, his, _⟩ := hs.get
    simp [hi, his]
  obtain ⟨A, c, rfl⟩ := hv.len
  obtain ⟨A', c', rfl⟩ := hu.len
  by_cases h0 : Nat.min ys.length xs.length = 0
  · refine TL.val rfl rfl hd (v := .int .i64 (min (len ys) (len xs))) (fun w _ => ?_) (h F ?_)
    · have := run_copy_none (P := X.P) w u1 u2 ty E A A' xs.length c ys.length c' ht hinf h0
      simp only [execOp, resolve, invoke, builtin, Sem.run_bind, Sem.run_pure, Result.andThen_ok, List.map_toArray, List.map_cons, List.map_nil, hx, hy, this]
      have : (min (len ys) (len xs)) = 0 := by simp only [len]; have : min ys.length xs.length = 0 := h0; omega
      rw [this]; rfl
    · have : cpy xs ys = xs := by
        unfold cpy
        have h0' : min ys.length xs.length = 0 := h0
        rcases Nat.eq_zero_or_pos ys.length with h | h
        · rw [List.eq_nil_of_length_eq_zero h]; simp
        · have hx0 : xs = [] := List.eq_nil_of_length_eq_zero (by omega)
          subst hx0; simp
      rw [this]; exact hv
  · have h0' : ¬ min ys.length xs.length = 0 := h0
    rcases hu.flat f with ⟨A'', c'', hcon, rfl⟩ | ⟨b', o', c'', hcon, hc⟩
    · simp at h0'
    cases hcon
    obtain ⟨hlim, ⟨hcon, rfl, rfl⟩ | ⟨b, css, post, c1, G', hcon, rfl, hr, hp, hc1, hm⟩⟩ := hv
    · simp at h0'
    cases hcon
    have hflat : ∀ l : List α, (l.map f.enc).flatten.length = l.length := fun l => by rw [(f.rep l).flat, hk, Nat.mul_one]
    generalize hn : min ys.length xs.length = n at h0'
    have hnm : Nat.min ys.length xs.length = n := hn
    have hny : n ≤ ys.length := by omega
    have hnx : n ≤ xs.length := by omega
    have hty : (ys.take n).length = n := by simp; omega
    have hcp : cpy xs ys = ys.take n ++ xs.drop n := by
      unfold cpy
      rcases Nat.le_total ys.length xs.length with hle | hle
      · have : n = ys.length := by omega
        subst this
        rw [List.take_of_length_le hle, List.take_of_length_le (Nat.le_refl _)]
      · have : n = xs.length := by omega
        subst this
        rw [List.drop_eq_nil_of_le hle, List.drop_eq_nil_of_le (Nat.le_refl _)]
    have hsp := List.take_append_drop n xs
    rw [← hsp] at hr
    obtain ⟨c1', c2, G1, G2, rfl, rfl, hr1, hr2⟩ := hr.split
    have hnew := (f.rep (ys.take n)).append hr2
    rw [← hcp, List.nil_append] at hnew
    have hcl : (cpy xs ys).length = xs.length := by rw [hcp, List.length_append, hty, List.length_drop]; omega
    have hl1 : c1'.flatten.length = n := by rw [hr1.flat, hk, Nat.mul_one]; simp; omega
    have hov : over ((c1' ++ c2).flatten ++ post) 0 ((ys.take n).map f.enc).flatten = ((ys.take n).map f.enc ++ c2).flatten ++ post := by
      rw [over_eq _ _ _ (by simp only [hflat, hty, List.length_append, List.flatten_append, hl1]; omega)]
      simp only [List.take_zero, List.nil_append, Nat.zero_add, hflat, hty, List.flatten_append, List.append_assoc]
      rw [List.drop_left' hl1]
    have hS : SlO E k (cpy xs ys) (.slice (some ⟨b, 0, none⟩) xs.length c) ((b, Obj.cells (over ((c1' ++ c2).flatten ++ post) 0 ((ys.take n).map f.enc).flatten).toArray E (0, 0)) :: G2) :=
      ⟨by rw [hcl]; exact hlim, .inr ⟨b, _, post, c, G2, by rw [hcl], by rw [hov], hnew, by rw [hcl]; exact hp, by rw [hcl]; exact hc1, hm⟩⟩
    have hcc : CellsIn G b' o' ((ys.take n).map f.enc).flatten := by
      obtain ⟨cc, tt, fr, hmem, hcc⟩ := hc
      refine ⟨cc, tt, fr, hmem, fun j u hu => hcc j u ?_⟩
      rw [← List.take_append_drop n ys, List.map_append, List.flatten_append]
      rw [List.getElem?_append_left (List.getElem?_eq_some_iff.1 hu).1]; exact hu
    refine TL.eff rfl (fun x hx => by cases hx; exact hd) fun w hw => ?_
    have hw1 : St X.E H (((b, Obj.cells ((c1' ++ c2).flatten ++ post).toArray E (0, 0)) :: G2) :: G1 :: L) w := hw.perm (by
      simp only [List.flatten_cons, List.cons_append, List.append_assoc]
      refine List.Perm.cons _ ?_
      rw [← List.append_assoc, ← List.append_assoc]
      exact List.Perm.append_right _ List.perm_append_comm)
    have hw2 := hw1.write 0 ((ys.take n).map f.enc).flatten
    have hrd := hw.range hG hcc
    have hth := hw1.there (o := 0) (n := n) (by simp only [List.length_append, List.flatten_append, hl1]; omega)
    have hrun := run_copy_cells (P := X.P) w u1 u2 ty E b 0 xs.length c ⟨b', o', none⟩ ys.length c' ((ys.take n).map f.enc).flatten ht hinf (by rw [hflat, hty, hnm])
      (fun j u hu => by rw [Addr.add_mid]; exact hrd j u hu) (fun j hj => (hth j (by rw [hflat, hty] at hj; exact hj)).1) (fun j hj => (hth j (by rw [hflat, hty] at hj; exact hj)).2)
      (fun u hu => (f.rep _).one u hu)
    refine ⟨.int .i64 (min (len ys) (len xs)), _, _, ?_, hw2.sub G1 (by
      simp only [List.flatten_cons, List.cons_append, List.append_assoc]
      exact List.Perm.cons _ (List.Perm.append_left _ List.perm_append_comm)), h _ hS⟩
    have hmin : (min (len ys) (len xs)) = (((ys.take n).map f.enc).flatten.length : Int) := by rw [hflat, hty]; simp only [len]; omega
    simp only [execOp, resolve, invoke, builtin, Sem.run_bind, Sem.run_pure, Result.andThen_ok, List.map_toArray, List.map_cons, List.map_nil, hx, hy, hrun, hmin]
    rfl

/-! ### An element laid open -/
/-- The slice but element i, whose cells are cs. -/
def Hole (E : TypeId) (k : Kd α) (xs : List α) (i : Nat) (v : Value) (b : Nat) (cs : List Value) (F : FP) : Prop :=
  xs.length < LIM ∧ i < xs.length ∧ cs.length = k.sz ∧ ∃ c c1 c2 post G1 G2, v = .slice (some ⟨b, 0, none⟩) xs.length c ∧
    F = (b, Obj.cells (c1.flatten ++ (cs ++ (c2.flatten ++ post))).toArray E (0, 0)) :: (G1 ++ G2) ∧ RepL k (xs.take i) c1 G1 ∧ RepL k (xs.drop (i + 1)) c2 G2 ∧
    post.length = (c - xs.length) * k.sz ∧ xs.length ≤ c ∧ c ≤ maxLen
theorem SlO.open_ {F : FP} {i : Int} {a : α} (h : SlO E k xs v F) (hi : idx xs i = some a) : ∃ b cs Fh Fi, Hole E k xs i.toNat v b cs Fh ∧ k.own a cs Fi ∧ (Fh ++ Fi).Perm F := by
  obtain ⟨h0, hlt, ha⟩ := idx_some hi
  obtain ⟨hlim, ⟨_, rfl, _⟩ | ⟨b, css, post, c, G, rfl, rfl, hr, hp, hc, hm⟩⟩ := h
  · simp at hlt
  have hxs : xs = xs.take i.toNat ++ (a :: xs.drop (i.toNat + 1)) := by
    have h1 := List.take_append_drop i.toNat xs
    have ha' : xs[i.toNat] = a := by rw [List.getElem?_eq_getElem hlt] at ha; exact Option.some.inj ha
    rw [← ha', List.getElem_cons_drop]
    exact h1.symm
  have hr' := hr
  rw [hxs] at hr'
  obtain ⟨c1, c2, G1, G2, rfl, rfl, h1, h2⟩ := hr'.split
  cases h2 with
  | @cons _ cs Fi _ css' G2' hown hrest =>
    refine ⟨b, cs, _, Fi, ⟨hlim, hlt, k.len hown, c, c1, css', post, G1, G2', rfl, rfl, h1, hrest, hp, hc, hm⟩, hown, ?_⟩
    simp only [List.cons_append, List.flatten_append, List.flatten_cons, List.append_assoc]
    refine List.Perm.cons _ (List.Perm.append_left _ List.perm_append_comm)
theorem Hole.shut {F Fi : FP} {i b : Nat} {a : α} {cs : List Value} (h : Hole E k xs i v b cs F) (ha : k.own a cs Fi) : ∃ F', SlO E k (xs.set i a) v F' ∧ F'.Perm (F ++ Fi) := by
  obtain ⟨hlim, hlt, hcs, c, c1, c2, post, G1, G2, rfl, rfl, h1, h2, hp, hc, hm⟩ := h
  have hset : xs.set i a = xs.take i ++ (a :: xs.drop (i + 1)) := by
    rw [List.set_eq_take_append_cons_drop, if_pos hlt]
  have hlen : (xs.set i a).length = xs.length := List.length_set
  refine ⟨(b, Obj.cells ((c1 ++ (cs :: c2)).flatten ++ post).toArray E (0, 0)) :: (G1 ++ (Fi ++ G2)), ⟨by rw [hlen]; exact hlim, .inr ⟨b, _, post, c, _, by rw [hlen], rfl, ?_, by rw [hlen]; exact hp, by rw [hlen]; exact hc, hm⟩⟩, ?_⟩
  · rw [hset]; exact h1.append (.cons ha h2)
  · simp only [List.cons_append, List.flatten_append, List.flatten_cons, List.append_assoc]
    exact List.Perm.cons _ (List.Perm.append_left _ List.perm_append_comm)
theorem Hole.cells {F : FP} {i b : Nat} {cs : List Value} (h : Hole E k xs i v b cs F) : CellsIn F b (i * k.sz) cs := by
  obtain ⟨hlim, hlt, hcs, c, c1, c2, post, G1, G2, rfl, rfl, h1, h2, hp, hc, hm⟩ := h
  have hl1 : c1.flatten.length = i * k.sz := by rw [h1.flat]; congr 1; simp; omega
  refine ⟨_, _, _, List.mem_cons_self .., fun j u hu => ?_⟩
  rw [List.getElem?_toArray, List.getElem?_append_right (by omega), hl1, Nat.add_sub_cancel_left, List.getElem?_append_left (List.getElem?_eq_some_iff.1 hu).1]
  exact hu
theorem TL.open_ {l : List Oper} {F : FP} {i : Int} {a : α} (hv : SlO E k xs v F) (hi : idx xs i = some a)
    (h : ∀ b cs Fh Fi, Hole E k xs i.toNat v b cs Fh → k.own a cs Fi → TL X ops Q H (Fh :: Fi :: L) l e) : TL X ops Q H (F :: L) l e := by
  obtain ⟨b, cs, Fh, Fi, h1, h2, hp⟩ := hv.open_ hi
  refine TL.perm ?_ (h b cs Fh Fi h1 h2)
  simp only [List.flatten_cons, ← List.append_assoc]
  exact List.Perm.append_right _ hp
theorem TL.shut {l : List Oper} {F Fi : FP} {i b : Nat} {a : α} {cs : List Value} (hv : Hole E k xs i v b cs F) (ha : k.own a cs Fi) (h : ∀ F', SlO E k (xs.set i a) v F' → TL X ops Q H (F' :: L) l e) : TL X ops Q H (F :: Fi :: L) l e := by
  obtain ⟨F', h1, hp⟩ := hv.shut ha
  refine TL.perm ?_ (h F' h1)
  simp only [List.flatten_cons, ← List.append_assoc]
  exact List.Perm.append_right _ hp
theorem TC.shut {c : Code} {F Fi : FP} {i b : Nat} {a : α} {cs : List Value} (hv : Hole E k xs i v b cs F) (ha : k.own a cs Fi) (h : ∀ F', SlO E k (xs.set i a) v F' → TC X c Q H (F' :: L) e) : TC X c Q H (F :: Fi :: L) e := by
  obtain ⟨F', h1, hp⟩ := hv.shut ha
  refine TC.perm ?_ (h F' h1)
  simp only [List.flatten_cons, ← List.append_assoc]
  exact List.Perm.append_right _ hp
/-- The place of the element that is laid open. -/
theorem rv_ixH {F : FP} {i : Int} {b : Nat} {cs : List Value} (ht : X.P.underlying t = some (.slice E)) (hs : inf X.P E z sz by_) (hx : evO e x = v) (hy : evO e y = .int .i64 i) (h0 : 0 ≤ i) (hv : Hole E k xs i.toNat v b cs F) :
    RV X H L e (.indexAddr t x y) (.pointer (some ⟨b, i.toNat * sz, none⟩)) := by
  obtain ⟨hlim, hlt, hcs, c, c1, c2, post, G1, G2, rfl, rfl, h1, h2, hp, hc, hm⟩ := hv
  have hle : i < (xs.length : Int) := by omega
  intro w _ _ _ _ _ _
  simp [execOp, Instr.indexAt, asIntOf, run_underlying ht, hs.size, hx, hy, h0, hle, Addr.add_mid]
/-- It is written. -/
theorem TL.stH {F : FP} {i b o o' : Nat} {cs ds : List Value} {u : Value} (hv : Hole E k xs i v b cs F) (hs : (X.P.info? t).map (·.size) = some ds.length) (hx : evO e x = .pointer (some ⟨b, o', none⟩)) (ho : o' = i * k.sz + o) (hy : evO e y = u) (hu : u.cells.toList = ds) (h1 : ∀ c, c ∈ ds → c.oneCell' = true)
    (hl : o + ds.length ≤ cs.length) (h : ∀ F', Hole E k xs i v b (over cs o ds) F' → TL X ops Q H (F' :: L) rest e) :
    TL X ops Q H (F :: L) (⟨none, .store t x y, ty, pos, af, none⟩ :: rest) e := by
  obtain ⟨hlim, hlt, hcs, c, c1, c2, post, G1, G2, rfl, rfl, h1', h2, hp, hc, hm⟩ := hv
  have hl1 : c1.flatten.length = i * k.sz := by rw [h1'.flat]; congr 1; simp; omega
  refine TL.st0 hs hx hy hu h1 (by simp only [List.length_append]; omega) (h _ ⟨hlim, hlt, by rw [over_length]; exact hcs, c, c1, c2, post, G1, G2, rfl, ?_, h1', h2, hp, hc, hm⟩)
  congr 3
  rw [over_eq _ _ _ (by simp only [List.length_append]; omega), over_eq _ _ _ hl, ho]
  rw [List.take_append, List.drop_append]
  have e1 : c1.flatten.take (i * k.sz + o) = c1.flatten := List.take_of_length_le (by omega)
  have e2 : c1.flatten.drop (i * k.sz + o + ds.length) = [] := List.drop_eq_nil_of_le (by omega)
  rw [e1, e2, hl1, show i * k.sz + o - i * k.sz = o by omega, show i * k.sz + o + ds.length - i * k.sz = o + ds.length by omega, List.nil_append]
  rw [List.take_append_of_le_length (by omega), List.drop_append_of_le_length (by omega)]
  simp only [List.append_assoc]
/-- An element is given anew, whole. -/
theorem TL.stE {F Fi : FP} {i b o : Nat} {ds : List Value} {u : Value} {a : α} (hv : SlO E k xs v F) (hel : ElAt E k xs v i b o) (hs : (X.P.info? t).map (·.size) = some ds.length) (hx : evO e x = .pointer (some ⟨b, o, none⟩)) (hy : evO e y = u) (hu : u.cells.toList = ds) (ha : k.own a ds Fi)
    (h : ∀ F', SlO E k (xs.set i a) v F' → TL X ops Q H (F' :: L) rest e) :
    TL X ops Q H (F :: Fi :: L) (⟨none, .store t x y, ty, pos, af, none⟩ :: rest) e := by
  obtain ⟨c0, rfl, rfl, hlt⟩ := hel
  have hidx : idx xs (i : Int) = some xs[i] := by simp [idx, hlt]
  obtain ⟨b', cs, Fh, Fo, hh, hown, hp⟩ := hv.open_ hidx
  simp only [Int.toNat_natCast] at hh
  have hb : b' = b := by
    obtain ⟨_, _, _, c, _, _, _, _, _, hcon, _⟩ := hh
    cases hcon; rfl
  subst hb
  refine TL.perm (L' := Fh :: Fo :: Fi :: L) (by simp only [List.flatten_cons, ← List.append_assoc]; exact List.Perm.append_right _ (List.Perm.append_right _ hp)) ?_
  refine TL.stH (o := 0) hh hs hx (by omega) hy hu (k.one ha) (by rw [hh.2.2.1, Nat.zero_add, k.len ha]; exact Nat.le_refl _) fun F' hF' => ?_
  refine TL.less (L' := F' :: Fi :: L) Fo (by
    simp only [List.flatten_cons, List.append_assoc]
    refine List.Perm.append_left _ ?_
    rw [← List.append_assoc]
    exact List.perm_append_comm) ?_
  have hov : over cs 0 ds = ds := by
    rw [over_eq _ _ _ (by rw [hh.2.2.1, Nat.zero_add, k.len ha]; exact Nat.le_refl _)]
    simp only [List.take_zero, List.nil_append, Nat.zero_add]
    rw [List.drop_eq_nil_of_le (by rw [hh.2.2.1, k.len ha]; exact Nat.le_refl _), List.append_nil]
  rw [hov] at hF'
  exact TL.shut hF' ha h
theorem TL.stE0 {F : FP} {i b o : Nat} {ds : List Value} {u : Value} {a : α} (hv : SlO E k xs v F) (hel : ElAt E k xs v i b o) (hs : (X.P.info? t).map (·.size) = some ds.length) (hx : evO e x = .pointer (some ⟨b, o, none⟩)) (hy : evO e y = u) (hu : u.cells.toList = ds) (ha : k.own a ds [])
    (h : ∀ F', SlO E k (xs.set i a) v F' → TL X ops Q H (F' :: L) rest e) :
    TL X ops Q H (F :: L) (⟨none, .store t x y, ty, pos, af, none⟩ :: rest) e :=
  TL.empty (TL.stE hv hel hs hx hy hu ha h)
end
end Go.Proofs.Ytpmcbahahjelnaa
