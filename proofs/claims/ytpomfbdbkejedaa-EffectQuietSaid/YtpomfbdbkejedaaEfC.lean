/- By hand: append of a part of a row of one's own whose elements lead further; the elements go over. No conditions. -/
import Derived.Test.YtpomfbdbkejedaaTb
set_option linter.unusedVariables false
set_option linter.unusedSimpArgs false
namespace Go.Proofs.Ytpomfbdbkejedaa
open Go

/-- u is a part of the row os (its value vo), from lo on. -/
def Part {α : Type} (k : Kd α) (os : List α) (vo : Value) (lo : Nat) (zs : List α) (u : Value) : Prop :=
  lo + zs.length ≤ os.length ∧ zs = (os.drop lo).take zs.length ∧ ((∃ A c, u = .slice A 0 c ∧ zs = []) ∨ ∃ b c c', vo = .slice (some ⟨b, 0, none⟩) os.length c ∧ u = .slice (some ⟨b, lo * k.sz, none⟩) zs.length c')
/-- A row of which the first n elements have gone. -/
def CutO {α : Type} (E : TypeId) (k : Kd α) (os : List α) (n : Nat) (vo : Value) (F : FP) : Prop :=
  n ≤ os.length ∧ os.length < LIM ∧ ((os = [] ∧ vo = .slice none 0 0 ∧ F = []) ∨
    ∃ b c pre css post G, vo = .slice (some ⟨b, 0, none⟩) os.length c ∧ pre.length = n * k.sz ∧ F = (b, Obj.cells (pre ++ (css.flatten ++ post)).toArray E (0, 0)) :: G ∧ RepL k (os.drop n) css G ∧ os.length ≤ c)
section
variable {X : Cx} {Q : Post} {H : FP} {L : List FP} {e : Env} {ops : Array Oper} {rest : List Oper} {d : Nat} {ty : TypeId} {pos : String} {af : Array Edge}
  {t E : TypeId} {x y : Operand} {α : Type} {k : Kd α} {xs os : List α} {v vo z : Value} {G : FP} {sz by_ : Nat}
theorem SlO.cut {F : FP} (h : SlO E k os vo F) : CutO E k os 0 vo F := by
  obtain ⟨hl, ⟨rfl, rfl, rfl⟩ | ⟨b, css, post, c, G, rfl, rfl, hr, hp, hc, hm⟩⟩ := h
  · exact ⟨Nat.zero_le _, hl, .inl ⟨rfl, rfl, rfl⟩⟩
  · exact ⟨Nat.zero_le _, hl, .inr ⟨b, c, [], css, post, G, rfl, by simp, rfl, by simpa using hr, hc⟩⟩
theorem CutO.val {n : Nat} {F : FP} (h : CutO E k os n vo F) : (os = [] ∧ vo = .slice none 0 0) ∨ ∃ b c, vo = .slice (some ⟨b, 0, none⟩) os.length c ∧ os.length ≤ c := by
  obtain ⟨_, _, ⟨h1, h2, _⟩ | ⟨b, c, _, _, _, _, h1, _, _, _, h2⟩⟩ := h
  · exact .inl ⟨h1, h2⟩
  · exact .inr ⟨b, c, h1, h2⟩
/-- The part up to m. -/
theorem rvT (t : TypeId) (x y : Operand) {a : Int} {n : Nat} {F : FP} {zs : List α} (ht : X.P.underlying t = some (.slice E)) (hs : inf X.P E z sz by_) (hk : k.sz = sz) (hx : evO e x = vo) (hy : evO e y = .int .i64 a) (hv : CutO E k os n vo F) (h1 : upto os a = some zs) :
    ∃ u, (Part k os vo 0 zs u ∧ (zs.length : Int) = a) ∧ RV X H L e (.slice t x none (some y) none) u := by
  obtain ⟨h0, hl, rfl⟩ := upto_some h1
  have hlen : (os.take a.toNat).length = a.toNat := by rw [List.length_take]; omega
  rcases hv.val with ⟨rfl, rfl⟩ | ⟨b, c, rfl, hc⟩
  · have ha : a = 0 := by simp at hl; omega
    subst ha
    refine ⟨.slice none 0 0, ⟨⟨by simp, by simp, .inl ⟨none, 0, rfl, by simp⟩⟩, by simp⟩, fun w _ _ _ _ _ _ => ?_⟩
    have := run_slice_h (P := X.P) (w := w) t none 0 0 (sliceB ht) .i64 0 (by omega) (by omega)
    simp [execOp, Instr.sliceAt, run_underlying ht, hx, hy, this, elemB ht, hs.size, sliced]
  · refine ⟨.slice (some ⟨b, 0, none⟩) a.toNat c, ⟨⟨by rw [hlen]; omega, by rw [hlen]; simp, .inr ⟨b, c, c, rfl, by rw [hlen, Nat.zero_mul]⟩⟩, by rw [hlen]; omega⟩, fun w _ _ _ _ _ _ => ?_⟩
    have := run_slice_h (P := X.P) (w := w) t (some ⟨b, 0, none⟩) os.length c (sliceB ht) .i64 a h0 (by omega)
    simp only [execOp, Instr.sliceAt, Sem.run_bind, run_underlying ht, Result.andThen_ok, hx, hy, Option.map, this, elemB ht, hs.size, sliced, hk]
    simp [Addr.add]
/-- The part from l on. -/
theorem rvF (t : TypeId) (x y : Operand) {a : Int} {n : Nat} {F : FP} {zs : List α} (ht : X.P.underlying t = some (.slice E)) (hs : inf X.P E z sz by_) (hk : k.sz = sz) (hx : evO e x = vo) (hy : evO e y = .int .i64 a) (hv : CutO E k os n vo F) (h1 : from_ os a = some zs) :
    ∃ u, ∃ lo : Nat, (Part k os vo lo zs u ∧ (lo : Int) = a) ∧ RV X H L e (.slice t x (some y) none none) u := by
  obtain ⟨h0, hl, rfl⟩ := from_some h1
  have hlen : (os.drop a.toNat).length = os.length - a.toNat := by rw [List.length_drop]
  have key : ∀ A c, vo = .slice A os.length c → os.length ≤ c → RV X H L e (.slice t x (some y) none none) (.slice (if c = a.toNat then A else A.map (·.add (a.toNat * k.sz))) (os.length - a.toNat) (c - a.toNat)) := by
    intro A c hvo hc w _ _ _ _ _ _
    have := run_slice_l (P := X.P) (w := w) t A os.length c (sliceB ht) .i64 a h0 (by omega)
    simp only [execOp, Instr.sliceAt, Sem.run_bind, run_underlying ht, Result.andThen_ok, hx, hy, hvo, Option.map, this, elemB ht, hs.size, sliced, hk]
    rfl
  rcases hv.val with ⟨rfl, rfl⟩ | ⟨b, c, rfl, hc⟩
  · have ha : a = 0 := by simp at hl; omega
    subst ha
    exact ⟨_, 0, ⟨⟨by simp, by simp, .inl ⟨_, _, rfl, by simp⟩⟩, by simp⟩, key none 0 rfl (by simp)⟩
  · refine ⟨_, a.toNat, ⟨⟨by rw [hlen]; omega, by rw [hlen, ← hlen, List.take_length], ?_⟩, by omega⟩, key _ c rfl hc⟩
    by_cases he : os.length = a.toNat
    · refine .inl ⟨_, _, by rw [show os.length - a.toNat = 0 by omega], ?_⟩
      apply List.drop_eq_nil_of_le; omega
    · refine .inr ⟨b, c, c - a.toNat, rfl, ?_⟩
      rw [if_neg (by omega), hlen]
      simp [Addr.add]
      exact fun h => h.symm
theorem tcT {β : Type} {g : List α → Option β} {r : β} {a : Int} {n : Nat} {F : FP} (ht : X.P.underlying t = some (.slice E)) (hs : inf X.P E z sz by_) (hv : CutO E k os n vo F) (hp : (upto os a).bind g = some r) (hx : evO e x = vo) (hy : evO e y = .int .i64 a)
    (hk : k.sz = sz) (hd : Nat.blt d X.n = true) (h : ∀ zs u, Part k os vo 0 zs u → (zs.length : Int) = a → g zs = some r → TL X ops Q H L rest (upd e d u)) : TL X ops Q H L (⟨some d, .slice t x none (some y) none, ty, pos, af, none⟩ :: rest) e := by
  obtain ⟨q, h1, h2⟩ := bind_some' hp
  obtain ⟨u, ⟨h3, h4⟩, h5⟩ := rvT (X := X) (H := H) (L := L) t x y ht hs hk hx hy hv h1
  exact TL.v (ltb hd) h5 (h q u h3 h4 h2)
theorem tcF {β : Type} {g : List α → Option β} {r : β} {a : Int} {n : Nat} {F : FP} (ht : X.P.underlying t = some (.slice E)) (hs : inf X.P E z sz by_) (hv : CutO E k os n vo F) (hp : (from_ os a).bind g = some r) (hx : evO e x = vo) (hy : evO e y = .int .i64 a)
    (hk : k.sz = sz) (hd : Nat.blt d X.n = true) (h : ∀ zs u (lo : Nat), Part k os vo lo zs u → (lo : Int) = a → g zs = some r → TL X ops Q H L rest (upd e d u)) : TL X ops Q H L (⟨some d, .slice t x (some y) none none, ty, pos, af, none⟩ :: rest) e := by
  obtain ⟨q, h1, h2⟩ := bind_some' hp
  obtain ⟨u, lo, ⟨h3, h4⟩, h5⟩ := rvF (X := X) (H := H) (L := L) t x y ht hs hk hx hy hv h1
  exact TL.v (ltb hd) h5 (h q u lo h3 h4 h2)
theorem hcT {G : FP} {fuel : Nat} {listed : Array Bool} {β : Type} {g : List α → Option β} {r : β} {a : Int} {n : Nat} {F : FP} (i : Nat) (hi : ops[i]? = some ⟨some d, .slice t x none (some y) none, ty, pos, af, none⟩) (ht : X.P.underlying t = some (.slice E)) (hs : inf X.P E z sz by_) (hv : CutO E k os n vo F) (hp : (upto os a).bind g = some r) (hx : evO e x = vo) (hy : evO e y = .int .i64 a)
    (hk : k.sz = sz) (ho : hokB ops listed i = true) (hd : Nat.blt d X.n = true) (h : ∀ zs u, Part k os vo 0 zs u → (zs.length : Int) = a → g zs = some r → HL X ops G Q H L fuel (listed.setIfInBounds i true) (upd e d u)) : HL X ops G Q H L (fuel + 1) listed e := by
  obtain ⟨q, h1, h2⟩ := bind_some' hp
  obtain ⟨u, ⟨h3, h4⟩, h5⟩ := rvT (X := X) (H := G) (L := []) t x y ht hs hk hx hy hv h1
  exact HL.v i hi trivial (hok1 ho) (hok2 ho) (hok3 ho) (ltb hd) h5 (h q u h3 h4 h2)
theorem hcF {G : FP} {fuel : Nat} {listed : Array Bool} {β : Type} {g : List α → Option β} {r : β} {a : Int} {n : Nat} {F : FP} (i : Nat) (hi : ops[i]? = some ⟨some d, .slice t x (some y) none none, ty, pos, af, none⟩) (ht : X.P.underlying t = some (.slice E)) (hs : inf X.P E z sz by_) (hv : CutO E k os n vo F) (hp : (from_ os a).bind g = some r) (hx : evO e x = vo) (hy : evO e y = .int .i64 a)
    (hk : k.sz = sz) (ho : hokB ops listed i = true) (hd : Nat.blt d X.n = true) (h : ∀ zs u (lo : Nat), Part k os vo lo zs u → (lo : Int) = a → g zs = some r → HL X ops G Q H L fuel (listed.setIfInBounds i true) (upd e d u)) : HL X ops G Q H L (fuel + 1) listed e := by
  obtain ⟨q, h1, h2⟩ := bind_some' hp
  obtain ⟨u, lo, ⟨h3, h4⟩, h5⟩ := rvF (X := X) (H := G) (L := []) t x y ht hs hk hx hy hv h1
  exact HL.v i hi trivial (hok1 ho) (hok2 ho) (hok3 ho) (ltb hd) h5 (h q u lo h3 h4 h2)
theorem tcT0 {zs : List α} {a : Int} {n : Nat} {F : FP} (ht : X.P.underlying t = some (.slice E)) (hs : inf X.P E z sz by_) (hv : CutO E k os n vo F) (h1 : upto os a = some zs) (hx : evO e x = vo) (hy : evO e y = .int .i64 a)
    (hk : k.sz = sz) (hd : Nat.blt d X.n = true) (h : ∀ u, Part k os vo 0 zs u → (zs.length : Int) = a → TL X ops Q H L rest (upd e d u)) : TL X ops Q H L (⟨some d, .slice t x none (some y) none, ty, pos, af, none⟩ :: rest) e := by
  obtain ⟨u, ⟨h3, h4⟩, h5⟩ := rvT (X := X) (H := H) (L := L) t x y ht hs hk hx hy hv h1
  exact TL.v (ltb hd) h5 (h u h3 h4)
theorem tcF0 {zs : List α} {a : Int} {n : Nat} {F : FP} (ht : X.P.underlying t = some (.slice E)) (hs : inf X.P E z sz by_) (hv : CutO E k os n vo F) (h1 : from_ os a = some zs) (hx : evO e x = vo) (hy : evO e y = .int .i64 a)
    (hk : k.sz = sz) (hd : Nat.blt d X.n = true) (h : ∀ u (lo : Nat), Part k os vo lo zs u → (lo : Int) = a → TL X ops Q H L rest (upd e d u)) : TL X ops Q H L (⟨some d, .slice t x (some y) none none, ty, pos, af, none⟩ :: rest) e := by
  obtain ⟨u, lo, ⟨h3, h4⟩, h5⟩ := rvF (X := X) (H := H) (L := L) t x y ht hs hk hx hy hv h1
  exact TL.v (ltb hd) h5 (h u lo h3 h4)
theorem hcT0 {G : FP} {fuel : Nat} {listed : Array Bool} {zs : List α} {a : Int} {n : Nat} {F : FP} (i : Nat) (hi : ops[i]? = some ⟨some d, .slice t x none (some y) none, ty, pos, af, none⟩) (ht : X.P.underlying t = some (.slice E)) (hs : inf X.P E z sz by_) (hv : CutO E k os n vo F) (h1 : upto os a = some zs) (hx : evO e x = vo) (hy : evO e y = .int .i64 a)
    (hk : k.sz = sz) (ho : hokB ops listed i = true) (hd : Nat.blt d X.n = true) (h : ∀ u, Part k os vo 0 zs u → (zs.length : Int) = a → HL X ops G Q H L fuel (listed.setIfInBounds i true) (upd e d u)) : HL X ops G Q H L (fuel + 1) listed e := by
  obtain ⟨u, ⟨h3, h4⟩, h5⟩ := rvT (X := X) (H := G) (L := []) t x y ht hs hk hx hy hv h1
  exact HL.v i hi trivial (hok1 ho) (hok2 ho) (hok3 ho) (ltb hd) h5 (h u h3 h4)
theorem hcF0 {G : FP} {fuel : Nat} {listed : Array Bool} {zs : List α} {a : Int} {n : Nat} {F : FP} (i : Nat) (hi : ops[i]? = some ⟨some d, .slice t x (some y) none none, ty, pos, af, none⟩) (ht : X.P.underlying t = some (.slice E)) (hs : inf X.P E z sz by_) (hv : CutO E k os n vo F) (h1 : from_ os a = some zs) (hx : evO e x = vo) (hy : evO e y = .int .i64 a)
    (hk : k.sz = sz) (ho : hokB ops listed i = true) (hd : Nat.blt d X.n = true) (h : ∀ u (lo : Nat), Part k os vo lo zs u → (lo : Int) = a → HL X ops G Q H L fuel (listed.setIfInBounds i true) (upd e d u)) : HL X ops G Q H L (fuel + 1) listed e := by
  obtain ⟨u, lo, ⟨h3, h4⟩, h5⟩ := rvF (X := X) (H := G) (L := []) t x y ht hs hk hx hy hv h1
  exact HL.v i hi trivial (hok1 ho) (hok2 ho) (hok3 ho) (ltb hd) h5 (h u lo h3 h4)
/-- The elements of the part go over. -/
theorem TL.cutApp {ys zs : List α} {F Fo : FP} {n lo : Nat} {u : Value} (ht : X.P.underlying t = some (.slice E)) (hs : inf X.P E z sz by_) (hd : d < X.n) (hk : k.sz = sz) (hz : 0 < sz) (hzs : z.cells.size = sz) (hb : by_ ≤ 128)
    (hx : evO e x = v) (hy : evO e y = u) (hv : SlO E k xs v F) (hc : CutO E k os n vo Fo) (hu : Part k os vo lo ys u) (hn : n ≤ lo) (hcat : cat xs ys = some zs)
    (h : ∀ v' F' Fr, SlO E k zs v' F' → CutO E k os (lo + ys.length) vo Fr → TL X ops Q H (F' :: Fr :: L) rest (upd e d v')) :
    TL X ops Q H (F :: Fo :: L) (⟨some d, .call ⟨.builtin .append, #[x, y], #[t, t]⟩, ty, pos, af, none⟩ :: rest) e := by
  refine TL.eff rfl (fun x hx => by cases hx; exact hd) fun w hw => ?_
  obtain ⟨hlim, rfl⟩ := cat_some hcat
  have hlim' : xs.length + ys.length < 1099511627776 := hlim
  obtain ⟨hn0, hol, hc⟩ := hc
  obtain ⟨hu1, hu2, hu3⟩ := hu
  by_cases hys : ys = []
  · -- nothing goes over
    subst hys
    have hu4 : ∃ A c, u = .slice A 0 c := by
      rcases hu3 with ⟨A, c, h, _⟩ | ⟨b, c, c', _, h⟩
      · exact ⟨A, c, h⟩
      · exact ⟨_, c', h⟩
    obtain ⟨A, c, rfl⟩ := hu4
    have hcut : ∃ Fr, CutO E k os (lo + 0) vo Fr ∧ St X.E H (F :: Fr :: L) w := by
      rcases hc with ⟨rfl, rfl, rfl⟩ | ⟨b, c2, pre, css, post, G, rfl, hpre, rfl, hr, hcc⟩
      · simp at hu1
        subst hu1
        exact ⟨[], ⟨by simp, hol, .inl ⟨rfl, rfl, rfl⟩⟩, hw⟩
      · have hsp := List.take_append_drop (lo - n) (os.drop n)
        rw [← hsp] at hr
        obtain ⟨c1, c3, G1, G3, rfl, rfl, h1, h3⟩ := hr.split
        refine ⟨(b, Obj.cells (pre ++ ((c1 ++ c3).flatten ++ post)).toArray E (0, 0)) :: G3, ⟨by simpa using hu1, hol, .inr ⟨b, c2, pre ++ c1.flatten, c3, post, G3, rfl, ?_, by simp, ?_, hcc⟩⟩, hw.sub G1 ?_⟩
        · rw [List.length_append, hpre, h1.flat, List.length_take, List.length_drop, ← Nat.add_mul]
          congr 1
          simp at hu1
          omega
        · rw [List.drop_drop, show n + (lo - n) = lo + 0 by omega] at h3
          exact h3
        · simp only [List.flatten_cons, List.cons_append, List.append_assoc]
          refine List.Perm.append_left _ (.cons _ ?_)
          rw [← List.append_assoc]
          exact List.perm_append_comm
    obtain ⟨Fr, hcut, hst⟩ := hcut
    obtain ⟨hl, hv'⟩ := hv
    refine ⟨v, w, F :: Fr :: L, ?_, hst, h v F Fr (by rw [List.append_nil]; exact ⟨hl, hv'⟩) hcut⟩
    rcases hv' with ⟨rfl, rfl, rfl⟩ | ⟨b, css, post, c', G', rfl, rfl, hr, hp, hc', hm⟩
    · cases A <;> simp [execOp, resolve, invoke, builtin, Builtin.append_, run_underlying ht, hs.size, Builtin.lenOf, Builtin.firstCells, loadCells, loadCellsFrom, hx, hy]
    · cases A <;> simp [execOp, resolve, invoke, builtin, Builtin.append_, run_underlying ht, hs.size, Builtin.lenOf, Builtin.firstCells, loadCells, loadCellsFrom, hx, hy, hc', storeCells]
  · have hpos : 0 < ys.length := List.length_pos_iff.2 hys
    rcases hu3 with ⟨A, c, h, h'⟩ | ⟨b, c, c', hvo, rfl⟩
    · exact absurd h' hys
    rcases hc with ⟨rfl, _, _⟩ | ⟨b', c2, pre, css, post, G, hvo', hpre, rfl, hr, hcc⟩
    · rw [List.length_nil] at hu1; omega
    rw [hvo] at hvo'
    cases hvo'
    subst hvo
    have hsp : os.drop n = (os.drop n).take (lo - n) ++ (ys ++ os.drop (lo + ys.length)) := by
      conv => lhs; rw [← List.take_append_drop (lo - n) (os.drop n)]
      congr 1
      rw [List.drop_drop, show n + (lo - n) = lo by omega]
      conv => lhs; rw [← List.take_append_drop ys.length (os.drop lo)]
      rw [← hu2, List.drop_drop]
    rw [hsp] at hr
    obtain ⟨c1, c23, G1, G23, rfl, rfl, h1, h23⟩ := hr.split
    obtain ⟨cy, c3, Gy, G3, rfl, rfl, hyr, h3⟩ := h23.split
    have hl1 : c1.flatten.length = (lo - n) * k.sz := by
      rw [h1.flat, List.length_take, List.length_drop]
      congr 1
      omega
    have hcells : CellsIn ((b, Obj.cells (pre ++ ((c1 ++ (cy ++ c3)).flatten ++ post)).toArray E (0, 0)) :: (G1 ++ (Gy ++ G3))) b (lo * k.sz) cy.flatten := by
      refine ⟨_, _, _, List.mem_cons_self .., fun j q hj => ?_⟩
      have hjl := (List.getElem?_eq_some_iff.1 hj).1
      rw [List.getElem?_toArray]
      simp only [List.flatten_append, List.append_assoc]
      have e1 : lo * k.sz + j = pre.length + (c1.flatten.length + j) := by
        rw [hpre, hl1, ← Nat.add_assoc, ← Nat.add_mul, show n + (lo - n) = lo by omega]
      rw [e1, List.getElem?_append_right (by omega), Nat.add_sub_cancel_left, List.getElem?_append_right (by omega), Nat.add_sub_cancel_left, List.getElem?_append_left hjl]
      exact hj
    obtain ⟨css, G', hown, hrep, hF⟩ := hv.row hw
    obtain ⟨i, hi, hzz, his, hib⟩ := hs.get
    obtain ⟨v', w', hrun, hown', hg, _, hat⟩ := run_append_own_at (P := X.P) w 0 t ty E i z k.sz by_ ht hi hzz (by rw [his, hk]) hib (by rw [hzs, hk]) (by omega) v xs.length css.flatten hown
      ⟨b, lo * k.sz, none⟩ ys.length c' cy.flatten hyr.flat (fun j q hj => by
        have := hw.range (Src.at_ 1 rfl) hcells j q hj
        rwa [Addr.add_mid]) (fun q hq => hyr.one q hq) (by simp only [maxLen]; omega)
      (by have : (xs.length + ys.length) * by_ ≤ 1099511627776 * 128 := Nat.mul_le_mul (by omega) hb
          omega) (Nat.zero_le _)
    have hw2 : St X.E H (F :: Gy :: ((b, Obj.cells (pre ++ ((c1 ++ (cy ++ c3)).flatten ++ post)).toArray E (0, 0)) :: G3) :: L) w := hw.sub G1 (by
      simp only [List.flatten_cons, List.append_assoc]
      refine List.Perm.append_left _ ?_
      have := List.perm_append_comm_assoc Gy [(b, Obj.cells (pre ++ ((c1 ++ (cy ++ c3)).flatten ++ post)).toArray E (0, 0))] (G3 ++ (L.flatten ++ G1))
      refine List.Perm.trans this ?_
      simp only [List.singleton_append, List.cons_append, List.append_assoc]
      refine .cons _ ?_
      have h1 := List.perm_append_comm (l₁ := Gy ++ (G3 ++ L.flatten)) (l₂ := G1)
      simpa only [List.append_assoc, List.nil_append] using h1)
    obtain ⟨F', hF', hst⟩ := SlO.back (E := E) hw2 hF hrep hyr hown' hg hat hlim
    refine ⟨v', w', _, ?_, hst, h v' F' _ hF' ⟨hu1, hol, .inr ⟨b, _, pre ++ (c1.flatten ++ cy.flatten), c3, post, G3, rfl, ?_, by simp, h3, hcc⟩⟩⟩
    · simp only [execOp, resolve, invoke, builtin, Sem.run_bind, Sem.run_pure, Result.andThen_ok, List.map_toArray, List.map_cons, List.map_nil, hx, hy, hrun]
    · rw [List.length_append, List.length_append, hpre, hl1, hyr.flat, ← Nat.add_mul, ← Nat.add_mul]
      congr 1
      omega
theorem tcA {β : Type} {g : List α → Option β} {r : β} {ys : List α} {F Fo : FP} {u : Value} (ht : X.P.underlying t = some (.slice E)) (hs : inf X.P E z sz by_) (hv : SlO E k xs v F) (hc : CutO E k os 0 vo Fo) (hu : Part k os vo 0 ys u) (hp : (cat xs ys).bind g = some r)
    (hx : evO e x = v) (hy : evO e y = u) (hk : k.sz = sz) (hz : Nat.blt 0 sz = true) (hzs : z.cells.size = sz) (hb : Nat.ble by_ 128 = true) (hd : Nat.blt d X.n = true)
    (h : ∀ zs v' F' Fr, SlO E k zs v' F' → CutO E k os (0 + ys.length) vo Fr → g zs = some r → TL X ops Q H (F' :: Fr :: L) rest (upd e d v')) :
    TL X ops Q H (F :: Fo :: L) (⟨some d, .call ⟨.builtin .append, #[x, y], #[t, t]⟩, ty, pos, af, none⟩ :: rest) e := by
  obtain ⟨q, h1, h2⟩ := bind_some' hp
  exact TL.cutApp ht hs (ltb hd) hk (ltb hz) hzs (leb hb) hx hy hv hc hu (Nat.zero_le _) h1 fun v' F' Fr h3 h4 => h q v' F' Fr h3 h4 h2
theorem tcB {β : Type} {g : List α → Option β} {r : β} {ys : List α} {F Fo : FP} {u : Value} {n lo : Nat} {a : Int} (ht : X.P.underlying t = some (.slice E)) (hs : inf X.P E z sz by_) (hv : SlO E k xs v F) (hc : CutO E k os (0 + n) vo Fo) (hu : Part k os vo lo ys u) (hn : (n : Int) = a) (hlo : (lo : Int) = w64 (a + 1)) (hp : (cat xs ys).bind g = some r)
    (hx : evO e x = v) (hy : evO e y = u) (hk : k.sz = sz) (hz : Nat.blt 0 sz = true) (hzs : z.cells.size = sz) (hb : Nat.ble by_ 128 = true) (hd : Nat.blt d X.n = true)
    (h : ∀ zs v' F', SlO E k zs v' F' → g zs = some r → TL X ops Q H (F' :: L) rest (upd e d v')) :
    TL X ops Q H (F :: Fo :: L) (⟨some d, .call ⟨.builtin .append, #[x, y], #[t, t]⟩, ty, pos, af, none⟩ :: rest) e := by
  obtain ⟨q, h1, h2⟩ := bind_some' hp
  have hle : 0 + n ≤ lo := by
    have h3 := hc.1
    have h4 : os.length < 1099511627776 := hc.2.1
    have h5 : w64 (a + 1) = a + 1 := by
      simp only [w64, IntKind.wrap, IntKind.signed, IntKind.bits, IntKind.min, Bool.true_and, decide_eq_true_eq, ge_iff_le]
      split <;> omega
    omega
  refine TL.cutApp ht hs (ltb hd) hk (ltb hz) hzs (leb hb) hx hy hv hc hu hle h1 fun v' F' Fr h3 h4 => ?_
  have := h q v' F' h3 h2
  intro w hw
  refine this w (hw.sub Fr ?_)
  simp only [List.flatten_cons, List.append_assoc]
  exact List.Perm.append_left _ List.perm_append_comm
end
end Go.Proofs.Ytpomfbdbkejedaa
