/- The framework, part F: literals, make, append, slicing, copy; elements laid open. No conditions. -/
import Derived.Test.YtpmcbahahjelnaaFwE
import Derived.Great.BuildSlice
set_option linter.unusedVariables false
set_option linter.unusedSimpArgs false
namespace Go.Proofs.Ytpmcbahahjelnaa
open Go

theorem flatten_eq_cons {α : Type} (F : List α) (L : List (List α)) : (F :: [] :: L).flatten = (F :: L).flatten := by simp

section
variable {X : Cx} {Q : Post} {H : FP} {L : List FP} {e : Env} {ops : Array Oper} {rest : List Oper} {d : Nat} {ty : TypeId} {pos : String} {af : Array Edge}
  {t E : TypeId} {x y : Operand} {α : Type} {k : Kd α} {xs : List α} {v z : Value} {G : FP} {sz by_ : Nat}

/-! ### Chunks -/
theorem TL.norm {l : List Oper} {L' : List FP} (hL : L = L') (h : TL X ops Q H L' l e) : TL X ops Q H L l e := hL ▸ h
theorem TC.norm {c : Code} {L' : List FP} (hL : L = L') (h : TC X c Q H L' e) : TC X c Q H L e := hL ▸ h
theorem TL.less {l : List Oper} {L' : List FP} (R : FP) (hs : (L'.flatten ++ R).Perm L.flatten) (h : TL X ops Q H L' l e) : TL X ops Q H L l e := fun w hw => h w (hw.sub R hs)
theorem TC.less {c : Code} {L' : List FP} (R : FP) (hs : (L'.flatten ++ R).Perm L.flatten) (h : TC X c Q H L' e) : TC X c Q H L e := fun w hw => h w (hw.sub R hs)
theorem TL.empty {l : List Oper} {F : FP} (h : TL X ops Q H (F :: [] :: L) l e) : TL X ops Q H (F :: L) l e := TL.perm (by simp) h
theorem TL.glue {l : List Oper} {F F' : FP} (h : TL X ops Q H ((F ++ F') :: L) l e) : TL X ops Q H (F :: F' :: L) l e := TL.perm (by simp) h
theorem TL.unglue {l : List Oper} {F F' : FP} (h : TL X ops Q H (F :: F' :: L) l e) : TL X ops Q H ((F ++ F') :: L) l e := TL.perm (by simp) h
theorem set_perm : ∀ (L : List FP) (k : Nat) (F F' : FP), L[k]? = some F → (F' ++ (L.eraseIdx k).flatten).Perm (L.set k F').flatten
  | [], k, F, F', h => by simp at h
  | G :: L, 0, F, F', h => by simp
  | G :: L, k + 1, F, F', h => by
    have ih := set_perm L k F F' (by simpa using h)
    simp only [List.eraseIdx_cons_succ, List.set_cons_succ, List.flatten_cons]
    refine List.Perm.trans ?_ (List.Perm.append_left G ih)
    rw [← List.append_assoc, ← List.append_assoc]
    exact List.Perm.append_right _ List.perm_append_comm
/-- A variable or struct of one's own is written. -/
theorem TL.stB {b o T : Nat} {cs ds : List Value} {u : Value} (j : Nat) (hj : L[j]? = some (bx b T cs)) (hs : (X.P.info? t).map (·.size) = some ds.length) (hx : evO e x = .pointer (some ⟨b, o, none⟩)) (hy : evO e y = u) (hu : u.cells.toList = ds) (h1 : ∀ c, c ∈ ds → c.oneCell' = true)
    (hl : o + ds.length ≤ cs.length) (h : TL X ops Q H (L.set j (bx b T (over cs o ds))) rest e) : TL X ops Q H L (⟨none, .store t x y, ty, pos, af, none⟩ :: rest) e := by
  refine TL.perm (L' := bx b T cs :: L.eraseIdx j) (by simpa using erase_perm L j _ hj) ?_
  refine TL.st0 (G := []) hs hx hy hu h1 hl ?_
  exact TL.perm (by simpa [bx] using (set_perm L j _ (bx b T (over cs o ds)) hj).symm) h

/-! ### Literals -/
theorem TL.bs {n : Nat} {parts : List (Nat × Operand)} {cs : List Value} (ht : X.P.underlying t = some (.slice E)) (hs : inf X.P E z sz by_) (hd : d < X.n) (hsm : ¬ n * sz > 2 ^ 24) (hpos : ¬ n * sz = 0)
    (hf : Instr.fill (fun i => some (i * sz, sz)) ((Array.range (n * sz)).map (z.cells[· % z.cells.size]!)) (parts.map fun p => (p.1, evO e p.2)) = some cs.toArray)
    (h : ∀ b, TL X ops Q H (bx b E cs :: L) rest (upd e d (.slice (some ⟨b, 0, none⟩) n n))) : TL X ops Q H L (⟨some d, .buildSlice t n parts.toArray, ty, pos, af, none⟩ :: rest) e :=
  TL.eff rfl (fun x hx => by cases hx; exact hd) fun w hw => by
    refine ⟨_, w.alloc (.cells cs.toArray E), bx w.heap.size E cs :: L, ?_, hw.alloc _, h _⟩
    obtain ⟨i, hi, hz, his, _⟩ := hs.get
    subst his
    have := run_buildSlice (P := X.P) w t E n (parts.toArray.map fun p => (p.1, evO e p.2)) cs.toArray i z ht hi hz hsm hpos (by simpa using hf)
    simp only [execOp]
    rw [Sem.run_bind, this]
    rfl
theorem TL.bs0 (ht : X.P.underlying t = some (.slice E)) (hs : inf X.P E z sz by_) (hd : d < X.n)
    (h : ∀ b, TL X ops Q H (bx b E [] :: L) rest (upd e d (.slice (some ⟨b, 0, none⟩) 0 0))) : TL X ops Q H L (⟨some d, .buildSlice t 0 #[], ty, pos, af, none⟩ :: rest) e :=
  TL.eff rfl (fun x hx => by cases hx; exact hd) fun w hw => by
    refine ⟨_, w.alloc (.cells #[] E), bx w.heap.size E [] :: L, ?_, hw.alloc _, h _⟩
    simp [execOp, Instr.buildSlice, run_underlying ht, hs.size, newRow, Instr.fill, Array.range_zero']
/-- An empty literal is a slice of one's own. -/
theorem SlO.lit0 (b : Nat) : SlO E k [] (.slice (some ⟨b, 0, none⟩) 0 0) (bx b E []) :=
  ⟨by simp [LIM], .inr ⟨b, [], [], 0, [], rfl, rfl, .nil, by simp, by simp, by simp [maxLen]⟩⟩
/-- A literal's elements. -/
theorem SlO.lit (b n : Nat) (css : List (List Value)) (F : FP) (cs : List Value) (hcs : css.flatten = cs) (hr : RepL k xs css F) (hn : xs.length = n) (hl : n < LIM) : SlO E k xs (.slice (some ⟨b, 0, none⟩) n n) (bx b E cs ++ F) := by
  subst hn
  refine ⟨hl, .inr ⟨b, css, [], xs.length, F, rfl, by simp [bx, hcs], hr, by simp, Nat.le_refl _, ?_⟩⟩
  have : xs.length < 1099511627776 := hl
  simp only [maxLen]; omega
theorem rv_bd {parts : List (Nat × Operand)} {ds : List Value} (hr : ∀ w, (Instr.build t (parts.map fun p => (p.1, evO e p.2)).toArray).run X.P w = .ok (.agg ds.toArray) w) : RV X H L e (.build t parts.toArray) ((.agg ds.toArray)) :=
  fun w _ _ _ _ _ _ => by
    have := hr w
    simp only [execOp, List.map_toArray]
    rw [Sem.run_bind, this]
    rfl

/-! ### make -/
theorem flat_rep {β : Type} (l : List β) : ∀ (n j : Nat), j < n * l.length → (List.replicate n l).flatten[j]? = l[j % l.length]?
  | 0, j, h => by simp at h
  | n + 1, j, h => by
    rw [List.replicate_succ, List.flatten_cons]
    rcases Nat.lt_or_ge j l.length with hj | hj
    · rw [List.getElem?_append_left hj, Nat.mod_eq_of_lt hj]
    · rw [List.getElem?_append_right hj, flat_rep l n (j - l.length) (by rw [Nat.add_mul] at h; omega), ← Nat.mod_eq_sub_mod hj]
theorem made_flat (z : Array Value) (n : Nat) (hz : 0 < z.size) : (madeCells z (n * z.size)).toList = (List.replicate n z.toList).flatten := by
  apply List.ext_getElem?
  intro j
  rcases Nat.lt_or_ge j (n * z.size) with hj | hj
  · rw [flat_rep z.toList n j (by simpa using hj)]
    have hm : j % z.size < z.size := Nat.mod_lt _ hz
    simp [madeCells, hj, hm]
  · rw [List.getElem?_eq_none (by simp [madeCells]; omega), List.getElem?_eq_none (by simp; omega)]
theorem RepL.rep {x : α} {cs : List Value} (h : k.own x cs []) : ∀ n, RepL k (List.replicate n x) (List.replicate n cs) []
  | 0 => .nil
  | n + 1 => by
    have := RepL.cons h (RepL.rep h n)
    simpa [List.replicate_succ] using this
theorem TL.mk {n : Int} {x0 : α} {zs : List α} (ht : X.P.underlying t = some (.slice E)) (hs : inf X.P E z sz by_) (hd : d < X.n) (hz : 0 < z.cells.size) (hzs : z.cells.size = sz) (hk : k.sz = sz) (hb : by_ ≤ 128) (hx : evO e x = .int .i64 n) (hown : k.own x0 z.cells.toList []) (hm : mkl n x0 = some zs)
    (h : ∀ v F, SlO E k zs v F → TL X ops Q H (F :: L) rest (upd e d v)) : TL X ops Q H L (⟨some d, .makeSlice t x x, ty, pos, af, none⟩ :: rest) e := by
  obtain ⟨h0, hl, rfl⟩ := mkl_some hm
  have hl' : n.toNat < 1099511627776 := hl
  refine TL.eff rfl (fun x hx => by cases hx; exact hd) fun w hw => ?_
  obtain ⟨i, hi, hzz, his, hib⟩ := hs.get
  have hbn : by_ * n.toNat ≤ 128 * 1099511627776 := Nat.mul_le_mul hb (by omega)
  have hr := run_make (P := X.P) w t E i z ht hi hzz .i64 .i64 n n h0 (Int.le_refl _) (by
    rw [hib]
    have : ((by_ * n.toNat : Nat) : Int) ≤ 281474976710656 := by omega
    rw [Int.natCast_mul, Int.toNat_of_nonneg h0] at this
    exact this) (by omega)
  rw [his, ← hzs] at hr
  have hS : SlO E k (List.replicate n.toNat x0) (.slice (some ⟨w.heap.size, 0, none⟩) n.toNat n.toNat) [(w.heap.size, Obj.cells (madeCells z.cells (n.toNat * z.cells.size)) E)] :=
    ⟨by simpa using hl, .inr ⟨w.heap.size, List.replicate n.toNat z.cells.toList, [], n.toNat, [], by simp, by rw [← made_flat z.cells n.toNat hz]; simp, RepL.rep hown _, by simp, by simp, by simp only [maxLen]; omega⟩⟩
  refine ⟨_, _, _, ?_, hw.alloc (.cells (madeCells z.cells (n.toNat * z.cells.size)) E), h _ _ hS⟩
  simp only [execOp, hx]
  rw [Sem.run_bind, hr]
  rfl

/-! ### append -/
theorem SlO.row {w : World} {E0 : World} {F : FP} (hv : SlO E k xs v F) (hw : St E0 H (F :: L) w) : ∃ css G, w.ownsRow 0 E k.sz v xs.length css.flatten ∧ RepL k xs css G ∧
    ((v = .slice none 0 0 ∧ F = [] ∧ G = []) ∨ ∃ b obj c, v = .slice (some ⟨b, 0, none⟩) xs.length c ∧ F = (b, obj) :: G) := by
  obtain ⟨hl, ⟨rfl, rfl, rfl⟩ | ⟨b, css, post, c, G, rfl, rfl, hr, hp, hc, hm⟩⟩ := hv
  · exact ⟨[], [], ⟨by simp, .inl ⟨rfl, rfl⟩⟩, .nil, .inl ⟨rfl, rfl, rfl⟩⟩
  · refine ⟨css, G, ⟨hr.flat, .inr ⟨b, c, _, rfl, Nat.zero_le _, hw.atL (b, Obj.cells (css.flatten ++ post).toArray E (0, 0)) (by simp), hc, hm, ?_, ?_⟩⟩, hr, .inr ⟨b, _, c, rfl, rfl⟩⟩
    · simp only [List.size_toArray, List.length_append, hr.flat, hp, ← Nat.add_mul]
      congr 1; omega
    · simp only [← hr.flat]; exact List.take_left
/-- What append leaves: a slice of one's own again, all other chunks as they were. -/
theorem SlO.back {w w' : World} {E0 : World} {F Fe : FP} {v' : Value} {css dss : List (List Value)} {G : FP} {ys : List α} (hw : St E0 H (F :: Fe :: L) w)
    (hF : (v = .slice none 0 0 ∧ F = [] ∧ G = []) ∨ ∃ b obj c, v = .slice (some ⟨b, 0, none⟩) xs.length c ∧ F = (b, obj) :: G)
    (hr : RepL k xs css G) (hr' : RepL k ys dss Fe) (hown : w'.ownsRow 0 E k.sz v' (xs.length + ys.length) (css.flatten ++ dss.flatten)) (hg : w.grownBy w' v.ownBlock)
    (hat : v'.ownBlock = v.ownBlock ∨ v'.ownBlock = some w.heap.size) (hl : xs.length + ys.length < LIM) :
    ∃ F', SlO E k (xs ++ ys) v' F' ∧ St E0 H (F' :: L) w' := by
  have hlen : (xs ++ ys).length = xs.length + ys.length := List.length_append
  -- what isn't the slice's own block is as it was
  have hkeep : ∀ p, p ∈ G ++ (Fe ++ L.flatten) ∨ p ∈ H → w.heap[p.1]? = some p.2 ∧ v.ownBlock ≠ some p.1 := by
    intro p hp
    rcases hF with ⟨rfl, rfl, rfl⟩ | ⟨b, obj, c, rfl, rfl⟩
    · refine ⟨?_, by simp [Value.ownBlock]⟩
      rcases hp with hp | hp
      · exact hw.atL p (by simpa using hp)
      · exact hw.atH p hp
    · have hn := hw.nodup
      simp only [List.flatten_cons, List.cons_append, List.map_cons, List.nodup_cons] at hn
      rcases hp with hp | hp
      · refine ⟨hw.atL p (by simp only [List.flatten_cons, List.cons_append]; exact List.mem_cons_of_mem _ hp), fun he => ?_⟩
        simp only [Value.ownBlock, Option.some.injEq] at he
        exact hn.1 (he ▸ List.mem_map_of_mem hp)
      · refine ⟨hw.atH p hp, fun he => ?_⟩
        simp only [Value.ownBlock, Option.some.injEq] at he
        exact hw.apart (b, obj) (by simp) p hp he
  have hlt : ∀ p, p ∈ G ++ (Fe ++ L.flatten) ∨ p ∈ H → p.1 < w.heap.size := fun p hp => (Array.getElem?_eq_some_iff.1 (hkeep p hp).1).1
  have hkeep' : ∀ p, p ∈ G ++ (Fe ++ L.flatten) ∨ p ∈ H → w'.heap[p.1]? = some p.2 := fun p hp => by
    rw [hg.block p.1 (hlt p hp) (fun he => (hkeep p hp).2 he.symm)]; exact (hkeep p hp).1
  have hnod : ((G ++ (Fe ++ L.flatten)).map (·.1)).Nodup := by
    have hn := hw.nodup
    rcases hF with ⟨rfl, rfl, rfl⟩ | ⟨b, obj, c, rfl, rfl⟩
    · simpa using hn
    · simp only [List.flatten_cons, List.cons_append, List.map_cons, List.nodup_cons] at hn
      exact hn.2
  have happ : ∀ p, p ∈ G ++ (Fe ++ L.flatten) → ∀ q, q ∈ H → p.1 ≠ q.1 := by
    intro p hp
    refine hw.apart p ?_
    rcases hF with ⟨rfl, rfl, rfl⟩ | ⟨b, obj, c, rfl, rfl⟩
    · simpa using hp
    · simp only [List.flatten_cons, List.cons_append]; exact List.mem_cons_of_mem _ hp
  have hrr := hr.append hr'
  rcases hown.2 with ⟨hv', h0⟩ | ⟨g, cap, cur, hv', _, hgc, hnc, hcm, hcs, htk⟩
  · have hx : xs ++ ys = [] := List.eq_nil_of_length_eq_zero (by rw [hlen]; exact h0)
    have hxs : xs = [] := (List.append_eq_nil_iff.1 hx).1
    have hys : ys = [] := (List.append_eq_nil_iff.1 hx).2
    refine ⟨[], ⟨by rw [hlen]; exact hl, .inl ⟨hv', hx, rfl⟩⟩, ⟨hg.os.trans hw.os, hg.tape.trans hw.tape, hg.output.trans hw.out, fun p hp => hkeep' p (.inr hp), fun p hp => hkeep' p (.inl ?_), ?_, fun p hp => happ p ?_⟩⟩
    · simp only [List.flatten_cons, List.nil_append] at hp; exact List.mem_append_right _ (List.mem_append_right _ hp)
    · simp only [List.flatten_cons, List.nil_append]
      rw [List.map_append, List.map_append] at hnod
      exact (List.nodup_append.1 (List.nodup_append.1 hnod).2.1).2.1
    · simp only [List.flatten_cons, List.nil_append] at hp; exact List.mem_append_right _ (List.mem_append_right _ hp)
  · have hgb : some g = v.ownBlock ∨ g = w.heap.size := by
      rw [hv'] at hat
      simp only [Value.ownBlock, Option.some.injEq] at hat
      exact hat
    have hfresh : ∀ p, p ∈ G ++ (Fe ++ L.flatten) ∨ p ∈ H → p.1 ≠ g := fun p hp he => by
      rcases hgb with h | h
      · exact (hkeep p hp).2 (by rw [← h, he])
      · have := hlt p hp; omega
    have hcl : (css ++ dss).flatten.length = (xs.length + ys.length) * k.sz := by rw [hrr.flat, hlen]
    refine ⟨(g, Obj.cells ((css ++ dss).flatten ++ cur.toList.drop ((xs.length + ys.length) * k.sz)).toArray E (0, 0)) :: (G ++ Fe), ⟨by rw [hlen]; exact hl, .inr ⟨g, css ++ dss, cur.toList.drop ((xs.length + ys.length) * k.sz), cap, G ++ Fe, by rw [hlen]; exact hv', rfl, hrr, ?_, by rw [hlen]; exact hnc, hcm⟩⟩,
      ⟨hg.os.trans hw.os, hg.tape.trans hw.tape, hg.output.trans hw.out, fun p hp => hkeep' p (.inr hp), fun p hp => ?_, ?_, fun p hp q hq => ?_⟩⟩
    · rw [hlen, List.length_drop, Array.length_toList, hcs, Nat.sub_mul]
    · simp only [List.flatten_cons, List.cons_append, List.append_assoc, List.mem_cons] at hp
      rcases hp with rfl | hp
      · have : ((css ++ dss).flatten ++ cur.toList.drop ((xs.length + ys.length) * k.sz)).toArray = cur := by
          rw [List.flatten_append, ← htk, List.take_append_drop]
        rw [this]; exact hgc
      · exact hkeep' p (.inl hp)
    · simp only [List.flatten_cons, List.cons_append, List.append_assoc, List.map_cons, List.nodup_cons]
      refine ⟨fun hm => ?_, hnod⟩
      obtain ⟨p, hp, he⟩ := List.mem_map.1 hm
      exact hfresh p (.inl hp) he
    · simp only [List.flatten_cons, List.cons_append, List.append_assoc, List.mem_cons] at hp
      rcases hp with rfl | hp
      · exact fun he => hfresh q (.inr hq) he.symm
      · exact happ p hp q hq
/-- append(v, the elements of a literal). -/
theorem TL.app {ys zs : List α} {F Fe : FP} {b m : Nat} {cs : List Value} {dss : List (List Value)} {E' : TypeId} (ht : X.P.underlying t = some (.slice E)) (hs : inf X.P E z sz by_) (hd : d < X.n) (hk : k.sz = sz) (hz : 0 < sz) (hzs : z.cells.size = sz) (hb : by_ ≤ 128)
    (hx : evO e x = v) (hy : evO e y = .slice (some ⟨b, 0, none⟩) m m) (hv : SlO E k xs v F) (hr : RepL k ys dss Fe) (hm : ys.length = m) (hcs : dss.flatten = cs) (hcat : cat xs ys = some zs)
    (h : ∀ v' F', SlO E k zs v' F' → TL X ops Q H (F' :: L) rest (upd e d v')) :
    TL X ops Q H (F :: bx b E' cs :: Fe :: L) (⟨some d, .call ⟨.builtin .append, #[x, y], #[t, t]⟩, ty, pos, af, none⟩ :: rest) e := by
  refine TL.eff rfl (fun x hx => by cases hx; exact hd) fun w hw => ?_
  obtain ⟨hlim, rfl⟩ := cat_some hcat
  obtain ⟨css, G, hown, hrep, hF⟩ := hv.row hw
  obtain ⟨i, hi, hzz, his, hib⟩ := hs.get
  have hlim' : xs.length + ys.length < 1099511627776 := hlim
  subst hcs hm
  obtain ⟨v', w', hrun, hown', hg, _, hat⟩ := run_append_own_at (P := X.P) w 0 t ty E i z k.sz by_ ht hi hzz (by rw [his, hk]) hib (by rw [hzs, hk]) (by omega) v xs.length css.flatten hown
    ⟨b, 0, none⟩ ys.length ys.length dss.flatten hr.flat (fun j u hu => by
      have := hw.range (Src.at_ 1 rfl) (bx_cells b E' dss.flatten) j u hu
      rwa [Addr.add_mid]) (fun u hu => hr.one u hu) (by simp only [maxLen]; omega)
    (by have : (xs.length + ys.length) * by_ ≤ 1099511627776 * 128 := Nat.mul_le_mul (by omega) hb
        omega) (Nat.zero_le _)
  have hw2 : St X.E H (F :: Fe :: L) w := hw.sub (bx b E' dss.flatten) (by
    simp only [List.flatten_cons, List.append_assoc]
    refine List.Perm.append_left _ ?_
    rw [← List.append_assoc, ← List.append_assoc]
    refine List.Perm.trans ?_ (List.perm_append_comm (l₁ := Fe ++ L.flatten) (l₂ := bx b E' dss.flatten) |>.trans (by simp))
    exact List.Perm.refl _)
  obtain ⟨F', hF', hst⟩ := SlO.back (E := E) hw2 hF hrep hr hown' hg hat hlim
  refine ⟨v', w', F' :: L, ?_, hst, h v' F' hF'⟩
  simp only [execOp, resolve, invoke, builtin, Sem.run_bind, Sem.run_pure, Result.andThen_ok, List.map_toArray, List.map_cons, List.map_nil, hx, hy, hrun]
end
end Go.Proofs.Ytpmcbahahjelnaa
