/- The framework, part Z: short words for printed proofs. No conditions. -/
import Derived.Test.YtpmcbahahjelnaaFwY
set_option linter.unusedVariables false
set_option linter.unusedSimpArgs false
namespace Go.Proofs.Ytpmcbahahjelnaa
open Go

/-! ### Chunks by their numbers -/
def ndB : List Nat → Bool
  | [] => true
  | i :: is => !is.contains i && ndB is
def pkA (L : List FP) : List Nat → List FP
  | [] => []
  | i :: is => match L[i]? with
    | some F => F :: pkA L is
    | none => pkA L is
def offL : List FP → List Nat → List FP
  | L, [] => L
  | L, i :: is => offL (L.set i []) is
theorem set_nil_perm : ∀ (L : List FP) (i : Nat) (F : FP), L[i]? = some F → (F ++ (L.set i []).flatten).Perm L.flatten
  | [], i, F, h => by simp at h
  | G :: L, 0, F, h => by simp at h; subst h; simp
  | G :: L, i + 1, F, h => by
    have ih := set_nil_perm L i F (by simpa using h)
    simp only [List.set_cons_succ, List.flatten_cons]
    refine List.Perm.trans ?_ (List.Perm.append_left G ih)
    rw [← List.append_assoc, ← List.append_assoc]
    exact List.Perm.append_right _ List.perm_append_comm
theorem pkA_set {L : List FP} {i : Nat} {F : FP} : ∀ is : List Nat, is.contains i = false → pkA (L.set i F) is = pkA L is
  | [], _ => rfl
  | j :: is, h => by
    simp only [List.contains_cons, Bool.or_eq_false_iff, beq_eq_false_iff_ne, ne_eq] at h
    have hj : (L.set i F)[j]? = L[j]? := List.getElem?_set_ne (by omega)
    simp only [pkA, hj, pkA_set is h.2]
theorem pkA_perm : ∀ (is : List Nat) (L : List FP), ndB is = true → ∃ R, ((pkA L is).flatten ++ R).Perm L.flatten
  | [], L, _ => ⟨L.flatten, by simp [pkA]⟩
  | i :: is, L, h => by
    simp only [ndB, Bool.and_eq_true, Bool.not_eq_true'] at h
    cases hL : L[i]? with
    | none => simpa [pkA, hL] using pkA_perm is L h.2
    | some F =>
      obtain ⟨R, hR⟩ := pkA_perm is (L.set i []) h.2
      rw [pkA_set is h.1] at hR
      refine ⟨R, ?_⟩
      simp only [pkA, hL, List.flatten_cons, List.append_assoc]
      exact (List.Perm.append_left F hR).trans (set_nil_perm L i F hL)
theorem St.pickA {E : World} {H : FP} {L : List FP} {w : World} (h : St E H L w) (is : List Nat) (hn : ndB is = true) : St E H (pkA L is) w :=
  let ⟨R, hR⟩ := pkA_perm is L hn
  h.sub R hR

/-! ### Slots that are known -/
def ovr (g : Env) : List (Nat × Value) → Env
  | [] => g
  | (d, v) :: l => upd (ovr g l) d v
theorem ovr_eq (e : Env) : ∀ l : List (Nat × Value), l.map (fun p => e p.1) = l.map (·.2) → e = ovr e l
  | [], _ => rfl
  | (d, v) :: l, h => by
    simp only [List.map_cons, List.cons.injEq] at h
    obtain ⟨h1, h2⟩ := h
    have ih := ovr_eq e l h2
    funext x
    simp only [ovr, upd]
    split
    · rename_i hx; subst hx; exact h1
    · rw [← ih]
theorem ovr_eqD (e : Env) (d : Nat) (v : Value) (l : List (Nat × Value)) (h1 : e d = v) (h : l.map (fun p => e p.1) = l.map (·.2)) : e = ovr e ((d, v) :: l) := ovr_eq e ((d, v) :: l) (by simp only [List.map_cons, h, h1])

section
variable {X : Cx} {Q : Post} {H G : FP} {L : List FP} {e : Env} {ops : Array Oper} {rest : List Oper} {d : Nat} {op : Op} {ty : TypeId} {pos : String} {af : Array Edge} {u v z : Value} {Kq : Env → Prop}
  {α : Type} {k : Kd α} {xs : List α} {sz by_ : Nat} {t t' E : TypeId} {x y : Operand} {m n : Int} {j : IntKind} {cs : List Value} {b o T : Nat}

/-! ### Code -/
theorem sr {id : Nat} {l : List Oper} {c : Code} (h : TL X l.toArray (Then (fun e w => WC X c Q e w) Q) H L l e) : TC X (.seq (.region id l.toArray false) c) Q H L e := by
  intro w hw a ha
  refine wp_seq (wp_mono (TC.region h w hw a ha) ?_)
  intro ex a w hq
  cases ex with
  | normal =>
    obtain ⟨e, ha, hk⟩ := hq
    exact hk a ha
  | exit id => exact hq
  | goto l => exact hq.elim
  | ret => exact hq
  | panic c => exact hq.elim
  | outgrown => exact hq.elim
theorem nz {c : Code} {Q' : Post} (h : TC X c Q H L e) : TL X ops (Then (fun e w => WC X c Q e w) Q') H L [] e := TL.nil fun w hw => h w hw
theorem nl (h : ∀ w, St X.E H L w → Q .normal e w) : TL X ops Q H L [] e := TL.nil h
theorem sk {K : Env → World → Prop} {c : Code} {Q' : Post} (hK : ∀ e w, WC X c Q' e w → K e w) (hq : Q .normal = K) (h : TC X c Q' H L e) : TC X .skip Q H L e := TC.skip fun w hw => by rw [hq]; exact hK e w (h w hw)
theorem bE {β : Type} {o : Option α} {f : α → Option β} {r : β} {P : Prop} (h : o.bind f = some r) (k : ∀ x, o = some x → f x = some r → P) : P :=
  let ⟨x, h1, h2⟩ := bind_some' h; k x h1 h2
theorem ifE {β : Type} {p : Prop} [Decidable p] {a b : Option β} {r : β} {P : Prop} (hp : (if p then a else b) = some r) (h1 : p → a = some r → P) (h2 : ¬ p → b = some r → P) : P := by
  by_cases h : p
  · rw [if_pos h] at hp; exact h1 h hp
  · rw [if_neg h] at hp; exact h2 h hp
theorem cD {β : Type} {p : Prop} [Decidable p] {c : Operand} {x y : Code} {a b : Option β} {r : β} (hc : evO e c = .bool (decide p)) (hp : (if p then a else b) = some r) (h1 : p → a = some r → TC X x Q H L e) (h2 : ¬ p → b = some r → TC X y Q H L e) : TC X (.cond c x y) Q H L e := by
  by_cases h : p
  · rw [if_pos h] at hp; exact TC.condT (hc.trans (bT h)) (h1 h hp)
  · rw [if_neg h] at hp; exact TC.condF (hc.trans (bF h)) (h2 h hp)
theorem cB {β : Type} {q : Bool} {c : Operand} {x y : Code} {a b : Option β} {r : β} (hc : evO e c = .bool q) (hp : (if q = true then a else b) = some r) (h1 : q = true → a = some r → TC X x Q H L e) (h2 : ¬ q = true → b = some r → TC X y Q H L e) : TC X (.cond c x y) Q H L e := by
  by_cases h : q = true
  · rw [if_pos h] at hp; exact TC.condT (hc.trans (bbT h)) (h1 h hp)
  · rw [if_neg h] at hp; exact TC.condF (hc.trans (bbF h)) (h2 h hp)

/-! ### One operation -/
theorem tv (hv : RV X H L e op u) (hd : Nat.blt d X.n = true) (h : TL X ops Q H L rest (upd e d u)) : TL X ops Q H L (⟨some d, op, ty, pos, af, none⟩ :: rest) e := TL.v (ltb hd) hv h
theorem qv (hv : RV X H L e op u) (hd : Nat.blt d X.n = true) (h : QL X ops Kq H L rest (upd e d u)) : QL X ops Kq H L (⟨some d, op, ty, pos, af, none⟩ :: rest) e := QL.v (ltb hd) hv h
theorem tm (hd : Nat.blt d X.n = true) (h : TL X ops Q H L rest (upd e d (evO e x))) : TL X ops Q H L (⟨some d, .move x, ty, pos, af, none⟩ :: rest) e := TL.v (ltb hd) (rv_mv rfl) h
theorem ta (hd : Nat.blt d X.n = true) (h : TL X ops Q H L rest (upd e d (evO e x))) : TL X ops Q H L (⟨some d, .assign x, ty, pos, af, none⟩ :: rest) e := TL.v (ltb hd) (rv_as rfl) h
theorem mv : RV X H L e (.move x) (evO e x) := rv_mv rfl
theorem sg : RV X H L e (.assign x) (evO e x) := rv_as rfl
theorem fa {s i off b o : Nat} (hf : faB X.P s i off = true) (hx : evO e x = .pointer (some ⟨b, o, none⟩)) : RV X H L e (.fieldAddr s x i) (.pointer (some ⟨b, o + off, none⟩)) := rv_fa hf hx
/-- A cell of a variable of one's own. -/
theorem lb (hsc : scB X.P t = true) (i : Nat) (hx : evO e x = .pointer (some ⟨b, o, none⟩)) (hL : L[i]? = some (bx b T cs)) (hj : cs[o]? = some v) : RV X H L e (.load t x) v :=
  rv_ld hsc hx (Src.at_ i hL) (bx_cells b T cs) (Nat.zero_add _) hj
theorem lbG {Gs : List FP} (hsc : scB X.P t = true) (i : Nat) (hx : evO e x = .pointer (some ⟨b, o, none⟩)) (hL : Gs[i]? = some (bx b T cs)) (hj : cs[o]? = some v) : RV X (Gs.flatten ++ H) [] e (.load t x) v :=
  rv_ld hsc hx (srcInG i hL) (bx_cells b T cs) (Nat.zero_add _) hj
/-- .. of what is read. -/
theorem lr {o' : Nat} (hsc : scB X.P t = true) (hG : Src H L G) (hc : CellsIn G b o' cs) (i : Nat) (hx : evO e x = .pointer (some ⟨b, o' + i, none⟩)) (hj : cs[i]? = some v) : RV X H L e (.load t x) v :=
  rv_ld hsc hx hG hc rfl hj
/-- All cells of a variable. -/
theorem lA {n : Nat} {ds : List Value} (hag : agB X.P t n = true) (i : Nat) (hx : evO e x = .pointer (some ⟨b, o, none⟩)) (hL : L[i]? = some (bx b T cs)) (hds : (cs.drop o).take n = ds) (hl : ds.length = n) : RV X H L e (.load t x) (.agg ds.toArray) :=
  rv_lda hag hx (Src.at_ i hL) (bx_cells b T cs) (Nat.zero_add _) hds hl
theorem lAG {Gs : List FP} {n : Nat} {ds : List Value} (hag : agB X.P t n = true) (i : Nat) (hx : evO e x = .pointer (some ⟨b, o, none⟩)) (hL : Gs[i]? = some (bx b T cs)) (hds : (cs.drop o).take n = ds) (hl : ds.length = n) : RV X (Gs.flatten ++ H) [] e (.load t x) (.agg ds.toArray) :=
  rv_lda hag hx (srcInG i hL) (bx_cells b T cs) (Nat.zero_add _) hds hl
theorem lR {o' n : Nat} {ds : List Value} (hag : agB X.P t n = true) (hG : Src H L G) (hc : CellsIn G b o' cs) (i : Nat) (hx : evO e x = .pointer (some ⟨b, o' + i, none⟩)) (hds : (cs.drop i).take n = ds) (hl : ds.length = n) : RV X H L e (.load t x) (.agg ds.toArray) :=
  rv_lda hag hx hG hc rfl hds hl
theorem ln {u : TypeId} (ht : X.P.underlying u = some (.slice E)) (h : SlI k G xs v) (hx : evO e x = v) : RV X H L e (.call ⟨.builtin .len, #[x], #[u]⟩) (.int .i64 (len xs)) := rv_lenI ht hx h
theorem pT {c : Operand} (hc : evO e c = .bool true) : RV X H L e (.pick c x y) (evO e x) := rv_pickT true hc rfl rfl
theorem pF {c : Operand} (hc : evO e c = .bool false) : RV X H L e (.pick c x y) (evO e y) := rv_pickF false hc rfl rfl
theorem xt {i : Nat} {vs : Array Value} (hx : evO e x = .tuple vs) (hi : vs[i]? = some v) : RV X H L e (.extract x i) v := rv_extract hx hi
theorem mF {f : FuncId} {caps : List Operand} : RV X H L e (.makeFunc (.func f) #[] caps.toArray) (.func (.func f) #[] (caps.map (evO e)).toArray) := rv_makeFunc rfl
def ifcB : TypeDesc → Bool
  | .interface _ => true
  | _ => false
theorem mI {ds : TypeDesc} (ht : X.P.underlying t = some ds) (hn : ifcB ds = false) : RV X H L e (.makeInterface t x) (.iface t (evO e x)) :=
  rv_makeIface ht (fun ms h => by subst h; cases hn) rfl
theorem bd {parts : List (Nat × Operand)} {ds : List Value} (hr : ∀ w, (Instr.build t (parts.map fun p => (p.1, evO e p.2)).toArray).run X.P w = .ok (.agg ds.toArray) w) : RV X H L e (.build t parts.toArray) (.agg ds.toArray) := rv_bd hr

theorem bad (hx : evO e x = .int j m) (hy : evO e y = .int j n) : RV X H L e (.binOp .add t x y t') (.int j (j.wrap (m + n))) := rv_add hx hy
theorem bsu (hx : evO e x = .int j m) (hy : evO e y = .int j n) : RV X H L e (.binOp .sub t x y t') (.int j (j.wrap (m - n))) := rv_sub hx hy
theorem bmu (hx : evO e x = .int j m) (hy : evO e y = .int j n) : RV X H L e (.binOp .mul t x y t') (.int j (j.wrap (m * n))) := rv_mul hx hy
theorem bre (hx : evO e x = .int j m) (hy : evO e y = .int j n) (hn : n ≠ 0) : RV X H L e (.binOp .rem t x y t') (.int j (m.tmod n)) := rv_rem hx hy hn
theorem bqu (hx : evO e x = .int j m) (hy : evO e y = .int j n) (hn : n ≠ 0) : RV X H L e (.binOp .quo t x y t') (.int j (j.wrap (m.tdiv n))) := rv_quo hx hy hn
theorem blt (hx : evO e x = .int j m) (hy : evO e y = .int j n) : RV X H L e (.binOp .lss t x y t') (.bool (decide (m < n))) := rv_lss hx hy
theorem ble (hx : evO e x = .int j m) (hy : evO e y = .int j n) : RV X H L e (.binOp .leq t x y t') (.bool (decide (m ≤ n))) := rv_leq hx hy
theorem bgt (hx : evO e x = .int j m) (hy : evO e y = .int j n) : RV X H L e (.binOp .gtr t x y t') (.bool (decide (m > n))) := rv_gtr hx hy
theorem bge (hx : evO e x = .int j m) (hy : evO e y = .int j n) : RV X H L e (.binOp .geq t x y t') (.bool (decide (m ≥ n))) := rv_geq hx hy
theorem beq (hx : evO e x = .int j m) (hy : evO e y = .int j n) : RV X H L e (.binOp .eql t x y t') (.bool (decide (m = n))) := rv_eql hx hy
theorem bne (hx : evO e x = .int j m) (hy : evO e y = .int j n) : RV X H L e (.binOp .neq t x y t') (.bool (decide (¬ m = n))) := rv_neq hx hy

/-! ### Operations under guards -/
theorem gy {dst : Option Nat} {i d' : Nat} {c : Bool} (hd : (ops[i]?).bind (·.dst) = some d') (hy : e d' = .bool c) (h : TL X ops Q H L (⟨dst, op, ty, pos, af, none⟩ :: rest) e) : TL X ops Q H L (⟨dst, op, ty, pos, af, some (i, c)⟩ :: rest) e :=
  TL.gyes c (yieldE_of hd hy) rfl h
theorem gn {i d' : Nat} {c q : Bool} (hd : (ops[i]?).bind (·.dst) = some d') (hy : e d' = .bool q) (hq : q = !c) (hn : Nat.blt d X.n = true) (h : TL X ops Q H L rest (upd e d undef)) : TL X ops Q H L (⟨some d, op, ty, pos, af, some (i, c)⟩ :: rest) e :=
  TL.gno (o := ⟨some d, op, ty, pos, af, some (i, c)⟩) q rfl (fun d hd => by cases hd; exact ltb hn) (yieldE_of hd hy) hq h
theorem gu {i d' : Nat} {c : Bool} (hd : (ops[i]?).bind (·.dst) = some d') (hy : e d' = undef) (hn : Nat.blt d X.n = true) (h : TL X ops Q H L rest (upd e d undef)) : TL X ops Q H L (⟨some d, op, ty, pos, af, some (i, c)⟩ :: rest) e :=
  TL.gnon (o := ⟨some d, op, ty, pos, af, some (i, c)⟩) rfl (fun d hd => by cases hd; exact ltb hn) (yieldE_un hd hy) h
theorem qgy {dst : Option Nat} {i d' : Nat} {c : Bool} (hd : (ops[i]?).bind (·.dst) = some d') (hy : e d' = .bool c) (h : QL X ops Kq H L (⟨dst, op, ty, pos, af, none⟩ :: rest) e) : QL X ops Kq H L (⟨dst, op, ty, pos, af, some (i, c)⟩ :: rest) e :=
  QL.gyes c (yieldE_of hd hy) rfl h
theorem qgn {i d' : Nat} {c q : Bool} (hd : (ops[i]?).bind (·.dst) = some d') (hy : e d' = .bool q) (hq : q = !c) (hn : Nat.blt d X.n = true) (h : QL X ops Kq H L rest (upd e d undef)) : QL X ops Kq H L (⟨some d, op, ty, pos, af, some (i, c)⟩ :: rest) e :=
  QL.gno (o := ⟨some d, op, ty, pos, af, some (i, c)⟩) q rfl (fun d hd => by cases hd; exact ltb hn) (yieldE_of hd hy) hq h
theorem qgu {i d' : Nat} {c : Bool} (hd : (ops[i]?).bind (·.dst) = some d') (hy : e d' = undef) (hn : Nat.blt d X.n = true) (h : QL X ops Kq H L rest (upd e d undef)) : QL X ops Kq H L (⟨some d, op, ty, pos, af, some (i, c)⟩ :: rest) e :=
  QL.gnon (o := ⟨some d, op, ty, pos, af, some (i, c)⟩) rfl (fun d hd => by cases hd; exact ltb hn) (yieldE_un hd hy) h
theorem nj {K : Env → World → Prop} {l : List (Nat × Value)} (h : ∀ w, St X.E H L w → K (ovr e ((d, v) :: l)) w) (hd : e d = v) (he : l.map (fun p => e p.1) = l.map (·.2) := by rfl) : TL X ops (Then K Q) H L [] e :=
  TL.nil fun w hw => by
    have h1 := h w hw
    rw [← ovr_eqD e d v l hd he] at h1
    exact h1
theorem qj {K : Env → Prop} {l : List (Nat × Value)} (h : K (ovr e ((d, v) :: l))) (hd : e d = v) (he : l.map (fun p => e p.1) = l.map (·.2) := by rfl) : QL X ops K H L [] e :=
  QL.nil (by rw [ovr_eqD e d v l hd he]; exact h)
theorem jn {E : World} {K : Env → World → Prop} {l : List (Nat × Value)} (is : List Nat) (h : ∀ w, St E H (pkA L is) w → K (ovr e l) w) (he : l.map (fun p => e p.1) = l.map (·.2) := by rfl) (hn : ndB is = true := by rfl) : ∀ w, St E H L w → K e w := fun w hw => by
  have h1 := h w (hw.pickA is hn)
  rw [← ovr_eq e l he] at h1
  exact h1

theorem tg {P : Program} {n : Nat} {E : World} {c : Code} {K : Env → World → Prop} (hK : ∀ e w, WC ⟨P, n, E⟩ c Q e w → K e w) (h : TC ⟨P, n, E⟩ c Q H L e) : ∀ w, St E H L w → K e w := fun w hw => hK e w (h w hw)
theorem tlg {P : Program} {n : Nat} {E : World} {l : List Oper} {K : Env → World → Prop} (hK : ∀ e w, WL ⟨P, n, E⟩ ops Q l e w → K e w) (h : TL ⟨P, n, E⟩ ops Q H L l e) : ∀ w, St E H L w → K e w := fun w hw => hK e w (h w hw)

/-! ### Regions that draw their order -/
theorem cq {id : Nat} {l : List Oper} (hm : X.P.follows .mixedOrders = true) (hB : Region.lexB .any l.toArray = true) (h : QL X l.toArray (fun e => ∀ w, St X.E H L w → Q .normal e w) H L l e) : TC X (.region id l.toArray true) Q H L e := TC.quiet hm hB h
theorem ch {id : Nat} {l : List Oper} (hm : X.P.follows .mixedOrders = true) (Gs : List FP) (hG : Src H L (Gs.flatten ++ H)) (h : HL X l.toArray (Gs.flatten ++ H) Q H L l.toArray.size (Array.replicate l.toArray.size false) e) : TC X (.region id l.toArray true) Q H L e := TC.held _ hm hG h
variable {fuel : Nat} {listed : Array Bool}
def hokB (ops : Array Oper) (listed : Array Bool) (i : Nat) : Bool := Region.noSelect ops && (Region.free .any ops listed i && (Region.ready .any ops listed).contains i)
theorem hok1 {i : Nat} (h : hokB ops listed i = true) : Region.noSelect ops = true := by simp only [hokB, Bool.and_eq_true] at h; exact h.1
theorem hok2 {i : Nat} (h : hokB ops listed i = true) : Region.free .any ops listed i = true := by simp only [hokB, Bool.and_eq_true] at h; exact h.2.1
theorem hok3 {i : Nat} (h : hokB ops listed i = true) : (Region.ready .any ops listed).contains i = true := by simp only [hokB, Bool.and_eq_true] at h; exact h.2.2
theorem hv (i : Nat) (hi : ops[i]? = some ⟨some d, op, ty, pos, af, none⟩) (hv : RV X G [] e op u) (hk : hokB ops listed i = true) (hd : Nat.blt d X.n = true) (h : HL X ops G Q H L fuel (listed.setIfInBounds i true) (upd e d u)) : HL X ops G Q H L (fuel + 1) listed e :=
  HL.v i hi trivial (hok1 hk) (hok2 hk) (hok3 hk) (ltb hd) hv h
theorem hw (i : Nat) {r d' : Nat} {c : Bool} (hi : ops[i]? = some ⟨some d, op, ty, pos, af, some (r, c)⟩) (hg : (ops[r]?).bind (·.dst) = some d') (hy : e d' = .bool c) (hv : RV X G [] e op u) (hk : hokB ops listed i = true) (hd : Nat.blt d X.n = true) (h : HL X ops G Q H L fuel (listed.setIfInBounds i true) (upd e d u)) : HL X ops G Q H L (fuel + 1) listed e :=
  HL.v i hi (yieldE_of hg hy) (hok1 hk) (hok2 hk) (hok3 hk) (ltb hd) hv h
theorem hn (i : Nat) {r d' : Nat} {c q : Bool} (hi : ops[i]? = some ⟨some d, op, ty, pos, af, some (r, c)⟩) (hg : (ops[r]?).bind (·.dst) = some d') (hy : e d' = .bool q) (hq : q = !c) (hk : hokB ops listed i = true) (hd : Nat.blt d X.n = true) (h : HL X ops G Q H L fuel (listed.setIfInBounds i true) (upd e d undef)) : HL X ops G Q H L (fuel + 1) listed e :=
  HL.gno (o := ⟨some d, op, ty, pos, af, some (r, c)⟩) i hi q rfl (yieldE_of hg hy) hq (hok1 hk) (hok2 hk) (hok3 hk) (fun d hd' => by cases hd'; exact ltb hd) h
theorem hu (i : Nat) {r d' : Nat} {c : Bool} (hi : ops[i]? = some ⟨some d, op, ty, pos, af, some (r, c)⟩) (hg : (ops[r]?).bind (·.dst) = some d') (hy : e d' = undef) (hk : hokB ops listed i = true) (hd : Nat.blt d X.n = true) (h : HL X ops G Q H L fuel (listed.setIfInBounds i true) (upd e d undef)) : HL X ops G Q H L (fuel + 1) listed e :=
  HL.gnon (o := ⟨some d, op, ty, pos, af, some (r, c)⟩) i hi rfl (yieldE_un hg hy) (hok1 hk) (hok2 hk) (hok3 hk) (fun d hd' => by cases hd'; exact ltb hd) h
theorem ho (i : Nat) {o : Oper} (hi : ops[i]? = some o)
    (hr : Region.ready .any ops listed = [i]) (h : ∀ K : Env → World → Prop, (∀ L' e', Src H L' G → HL X ops G Q H L' fuel (listed.setIfInBounds i true) e' → ∀ w', St X.E H L' w' → K e' w') → TL X ops (Then K Q) H L [o] e) : HL X ops G Q H L (fuel + 1) listed e := HL.one i hi hr h
theorem hz (hr : Region.ready .any ops listed = []) (h : ∀ w, St X.E H L w → Q .normal e w) : HL X ops G Q H L fuel listed e := HL.done hr h
theorem hk {K : Env → World → Prop} {Q' : Post} {ops' : Array Oper} (hK : ∀ L' e', Src H L' G → HL X ops G Q' H L' fuel listed e' → ∀ w', St X.E H L' w' → K e' w') (hs : Src H L G) (h : HL X ops G Q' H L fuel listed e) : TL X ops' (Then K Q) H L [] e := TL.nil (hK _ _ hs h)

/-! ### Elements that are read -/
section
variable {β : Type} {a : Int} {f : α → Option β} {g : List α → Option β} {r : β}
theorem ti (ht : X.P.underlying t = some (.slice E)) (hs : inf X.P E z sz by_) (hv : SlI k G xs v) (hp : (idx xs a).bind f = some r) (hx : evO e x = v) (hy : evO e y = .int .i64 a)
    (hk : k.sz = sz) (hd : Nat.blt d X.n = true) (h : ∀ q b o cs, f q = some r → k.ro G q cs → CellsIn G b o cs → TL X ops Q H L rest (upd e d (.pointer (some ⟨b, o, none⟩)))) : TL X ops Q H L (⟨some d, .indexAddr t x y, ty, pos, af, none⟩ :: rest) e := by
  obtain ⟨q, h1, h2⟩ := bind_some' hp
  obtain ⟨b, o, cs, h3, h4, h5⟩ := rv_ix (X := X) (H := H) (L := L) t x y ht hs hk hx hy hv h1
  exact TL.v (ltb hd) h5 (h q b o cs h2 h3 h4)
theorem qi (ht : X.P.underlying t = some (.slice E)) (hs : inf X.P E z sz by_) (hv : SlI k G xs v) (hp : (idx xs a).bind f = some r) (hx : evO e x = v) (hy : evO e y = .int .i64 a)
    (hk : k.sz = sz) (hd : Nat.blt d X.n = true) (h : ∀ q b o cs, f q = some r → k.ro G q cs → CellsIn G b o cs → QL X ops Kq H L rest (upd e d (.pointer (some ⟨b, o, none⟩)))) : QL X ops Kq H L (⟨some d, .indexAddr t x y, ty, pos, af, none⟩ :: rest) e := by
  obtain ⟨q, h1, h2⟩ := bind_some' hp
  obtain ⟨b, o, cs, h3, h4, h5⟩ := rv_ix (X := X) (H := H) (L := L) t x y ht hs hk hx hy hv h1
  exact QL.v (ltb hd) h5 (h q b o cs h2 h3 h4)
variable {G' : FP}
theorem hi (i : Nat) (hi : ops[i]? = some ⟨some d, .indexAddr t x y, ty, pos, af, none⟩) (ht : X.P.underlying t = some (.slice E)) (hs : inf X.P E z sz by_) (hv : SlI k G' xs v) (hp : (idx xs a).bind f = some r) (hx : evO e x = v) (hy : evO e y = .int .i64 a)
    (hk : k.sz = sz) (ho : hokB ops listed i = true) (hd : Nat.blt d X.n = true) (h : ∀ q b o cs, f q = some r → k.ro G' q cs → CellsIn G' b o cs → HL X ops G Q H L fuel (listed.setIfInBounds i true) (upd e d (.pointer (some ⟨b, o, none⟩)))) : HL X ops G Q H L (fuel + 1) listed e := by
  obtain ⟨q, h1, h2⟩ := bind_some' hp
  obtain ⟨b, o, cs, h3, h4, h5⟩ := rv_ix (X := X) (H := G) (L := []) t x y ht hs hk hx hy hv h1
  exact HL.v i hi trivial (hok1 ho) (hok2 ho) (hok3 ho) (ltb hd) h5 (h q b o cs h2 h3 h4)
theorem gi (i : Nat) {n d' : Nat} {c : Bool} (hi : ops[i]? = some ⟨some d, .indexAddr t x y, ty, pos, af, some (n, c)⟩) (hg : (ops[n]?).bind (·.dst) = some d') (hc : e d' = .bool c) (ht : X.P.underlying t = some (.slice E)) (hs : inf X.P E z sz by_) (hv : SlI k G' xs v) (hp : (idx xs a).bind f = some r) (hx : evO e x = v) (hy : evO e y = .int .i64 a)
    (hk : k.sz = sz) (ho : hokB ops listed i = true) (hd : Nat.blt d X.n = true) (h : ∀ q b o cs, f q = some r → k.ro G' q cs → CellsIn G' b o cs → HL X ops G Q H L fuel (listed.setIfInBounds i true) (upd e d (.pointer (some ⟨b, o, none⟩)))) : HL X ops G Q H L (fuel + 1) listed e := by
  obtain ⟨q, h1, h2⟩ := bind_some' hp
  obtain ⟨b, o, cs, h3, h4, h5⟩ := rv_ix (X := X) (H := G) (L := []) t x y ht hs hk hx hy hv h1
  exact HL.v i hi (yieldE_of hg hc) (hok1 ho) (hok2 ho) (hok3 ho) (ltb hd) h5 (h q b o cs h2 h3 h4)
/-- The place of an element of one's own. -/
theorem tO {F : FP} (ht : X.P.underlying t = some (.slice E)) (hs : inf X.P E z sz by_) (hv : SlO E k xs v F) (hp : (idx xs a).bind f = some r) (hx : evO e x = v) (hy : evO e y = .int .i64 a)
    (hk : k.sz = sz) (hd : Nat.blt d X.n = true) (h : ∀ q b o, ElAt E k xs v a.toNat b o → f q = some r → TL X ops Q H L rest (upd e d (.pointer (some ⟨b, o, none⟩)))) : TL X ops Q H L (⟨some d, .indexAddr t x y, ty, pos, af, none⟩ :: rest) e := by
  obtain ⟨q, h1, h2⟩ := bind_some' hp
  obtain ⟨b, o, h3, h4⟩ := rv_ixO (X := X) (H := H) (L := L) t x y ht hs hk hx hy hv (idx_some h1).1 (idx_some h1).2.1
  exact TL.v (ltb hd) h4 (h q b o h3 h2)
theorem hO (i : Nat) {F : FP} (hi : ops[i]? = some ⟨some d, .indexAddr t x y, ty, pos, af, none⟩) (ht : X.P.underlying t = some (.slice E)) (hs : inf X.P E z sz by_) (hv : SlO E k xs v F) (hp : (idx xs a).bind f = some r) (hx : evO e x = v) (hy : evO e y = .int .i64 a)
    (hk : k.sz = sz) (ho : hokB ops listed i = true) (hd : Nat.blt d X.n = true) (h : ∀ q b o, ElAt E k xs v a.toNat b o → f q = some r → HL X ops G Q H L fuel (listed.setIfInBounds i true) (upd e d (.pointer (some ⟨b, o, none⟩)))) : HL X ops G Q H L (fuel + 1) listed e := by
  obtain ⟨q, h1, h2⟩ := bind_some' hp
  obtain ⟨b, o, h3, h4⟩ := rv_ixO (X := X) (H := G) (L := []) t x y ht hs hk hx hy hv (idx_some h1).1 (idx_some h1).2.1
  exact HL.v i hi trivial (hok1 ho) (hok2 ho) (hok3 ho) (ltb hd) h4 (h q b o h3 h2)
theorem gO (i : Nat) {F : FP} {n d' : Nat} {c : Bool} (hi : ops[i]? = some ⟨some d, .indexAddr t x y, ty, pos, af, some (n, c)⟩) (hg : (ops[n]?).bind (·.dst) = some d') (hc : e d' = .bool c) (ht : X.P.underlying t = some (.slice E)) (hs : inf X.P E z sz by_) (hv : SlO E k xs v F) (hp : (idx xs a).bind f = some r) (hx : evO e x = v) (hy : evO e y = .int .i64 a)
    (hk : k.sz = sz) (ho : hokB ops listed i = true) (hd : Nat.blt d X.n = true) (h : ∀ q b o, ElAt E k xs v a.toNat b o → f q = some r → HL X ops G Q H L fuel (listed.setIfInBounds i true) (upd e d (.pointer (some ⟨b, o, none⟩)))) : HL X ops G Q H L (fuel + 1) listed e := by
  obtain ⟨q, h1, h2⟩ := bind_some' hp
  obtain ⟨b, o, h3, h4⟩ := rv_ixO (X := X) (H := G) (L := []) t x y ht hs hk hx hy hv (idx_some h1).1 (idx_some h1).2.1
  exact HL.v i hi (yieldE_of hg hc) (hok1 ho) (hok2 ho) (hok3 ho) (ltb hd) h4 (h q b o h3 h2)
theorem tF (ht : X.P.underlying t = some (.slice E)) (hs : inf X.P E z sz by_) (hv : SlI k G xs v) (hp : (from_ xs a).bind g = some r) (hx : evO e x = v) (hy : evO e y = .int .i64 a)
    (hk : k.sz = sz) (hd : Nat.blt d X.n = true) (h : ∀ zs v', SlI k G zs v' → g zs = some r → TL X ops Q H L rest (upd e d v')) : TL X ops Q H L (⟨some d, .slice t x (some y) none none, ty, pos, af, none⟩ :: rest) e := by
  obtain ⟨q, h1, h2⟩ := bind_some' hp
  obtain ⟨v', h3, h4⟩ := rv_slFrom (X := X) (H := H) (L := L) t x y ht hs hk hx hy hv h1
  exact TL.v (ltb hd) h4 (h q v' h3 h2)
theorem tT (ht : X.P.underlying t = some (.slice E)) (hs : inf X.P E z sz by_) (hv : SlI k G xs v) (hp : (upto xs a).bind g = some r) (hx : evO e x = v) (hy : evO e y = .int .i64 a)
    (hk : k.sz = sz) (hd : Nat.blt d X.n = true) (h : ∀ zs v', SlI k G zs v' → g zs = some r → TL X ops Q H L rest (upd e d v')) : TL X ops Q H L (⟨some d, .slice t x none (some y) none, ty, pos, af, none⟩ :: rest) e := by
  obtain ⟨q, h1, h2⟩ := bind_some' hp
  obtain ⟨v', h3, h4⟩ := rv_slTo (X := X) (H := H) (L := L) t x y ht hs hk hx hy hv h1
  exact TL.v (ltb hd) h4 (h q v' h3 h2)
theorem qF (ht : X.P.underlying t = some (.slice E)) (hs : inf X.P E z sz by_) (hv : SlI k G xs v) (hp : (from_ xs a).bind g = some r) (hx : evO e x = v) (hy : evO e y = .int .i64 a)
    (hk : k.sz = sz) (hd : Nat.blt d X.n = true) (h : ∀ zs v', SlI k G zs v' → g zs = some r → QL X ops Kq H L rest (upd e d v')) : QL X ops Kq H L (⟨some d, .slice t x (some y) none none, ty, pos, af, none⟩ :: rest) e := by
  obtain ⟨q, h1, h2⟩ := bind_some' hp
  obtain ⟨v', h3, h4⟩ := rv_slFrom (X := X) (H := H) (L := L) t x y ht hs hk hx hy hv h1
  exact QL.v (ltb hd) h4 (h q v' h3 h2)
theorem qT (ht : X.P.underlying t = some (.slice E)) (hs : inf X.P E z sz by_) (hv : SlI k G xs v) (hp : (upto xs a).bind g = some r) (hx : evO e x = v) (hy : evO e y = .int .i64 a)
    (hk : k.sz = sz) (hd : Nat.blt d X.n = true) (h : ∀ zs v', SlI k G zs v' → g zs = some r → QL X ops Kq H L rest (upd e d v')) : QL X ops Kq H L (⟨some d, .slice t x none (some y) none, ty, pos, af, none⟩ :: rest) e := by
  obtain ⟨q, h1, h2⟩ := bind_some' hp
  obtain ⟨v', h3, h4⟩ := rv_slTo (X := X) (H := H) (L := L) t x y ht hs hk hx hy hv h1
  exact QL.v (ltb hd) h4 (h q v' h3 h2)
theorem hF (i : Nat) (hi : ops[i]? = some ⟨some d, .slice t x (some y) none none, ty, pos, af, none⟩) (ht : X.P.underlying t = some (.slice E)) (hs : inf X.P E z sz by_) (hv : SlI k G' xs v) (hp : (from_ xs a).bind g = some r) (hx : evO e x = v) (hy : evO e y = .int .i64 a)
    (hk : k.sz = sz) (ho : hokB ops listed i = true) (hd : Nat.blt d X.n = true) (h : ∀ zs v', SlI k G' zs v' → g zs = some r → HL X ops G Q H L fuel (listed.setIfInBounds i true) (upd e d v')) : HL X ops G Q H L (fuel + 1) listed e := by
  obtain ⟨q, h1, h2⟩ := bind_some' hp
  obtain ⟨v', h3, h4⟩ := rv_slFrom (X := X) (H := G) (L := []) t x y ht hs hk hx hy hv h1
  exact HL.v i hi trivial (hok1 ho) (hok2 ho) (hok3 ho) (ltb hd) h4 (h q v' h3 h2)
theorem hT (i : Nat) (hi : ops[i]? = some ⟨some d, .slice t x none (some y) none, ty, pos, af, none⟩) (ht : X.P.underlying t = some (.slice E)) (hs : inf X.P E z sz by_) (hv : SlI k G' xs v) (hp : (upto xs a).bind g = some r) (hx : evO e x = v) (hy : evO e y = .int .i64 a)
    (hk : k.sz = sz) (ho : hokB ops listed i = true) (hd : Nat.blt d X.n = true) (h : ∀ zs v', SlI k G' zs v' → g zs = some r → HL X ops G Q H L fuel (listed.setIfInBounds i true) (upd e d v')) : HL X ops G Q H L (fuel + 1) listed e := by
  obtain ⟨q, h1, h2⟩ := bind_some' hp
  obtain ⟨v', h3, h4⟩ := rv_slTo (X := X) (H := G) (L := []) t x y ht hs hk hx hy hv h1
  exact HL.v i hi trivial (hok1 ho) (hok2 ho) (hok3 ho) (ltb hd) h4 (h q v' h3 h2)

/-! ### make, append -/
theorem tk {n : Int} {x0 : α} (ht : X.P.underlying t = some (.slice E)) (hs : inf X.P E z sz by_) (hp : (mkl n x0).bind g = some r) (hown : k.own x0 z.cells.toList []) (hx : evO e x = .int .i64 n) (hz : Nat.blt 0 z.cells.size = true) (hzs : z.cells.size = sz) (hk : k.sz = sz) (hb : Nat.ble by_ 128 = true) (hd : Nat.blt d X.n = true) (h : ∀ zs v F, SlO E k zs v F → g zs = some r → TL X ops Q H (F :: L) rest (upd e d v))
 : TL X ops Q H L (⟨some d, .makeSlice t x x, ty, pos, af, none⟩ :: rest) e := by
  obtain ⟨q, h1, h2⟩ := bind_some' hp
  exact TL.mk (k := k) ht hs (ltb hd) (ltb hz) hzs hk (leb hb) hx hown h1 fun v F hf => h q v F hf h2
theorem tk0 {n : Int} {x0 : α} {zs : List α} (ht : X.P.underlying t = some (.slice E)) (hs : inf X.P E z sz by_) (hm : mkl n x0 = some zs) (hown : k.own x0 z.cells.toList [])
    (hx : evO e x = .int .i64 n) (hz : Nat.blt 0 z.cells.size = true) (hzs : z.cells.size = sz) (hk : k.sz = sz) (hb : Nat.ble by_ 128 = true) (hd : Nat.blt d X.n = true) (h : ∀ v F, SlO E k zs v F → TL X ops Q H (F :: L) rest (upd e d v)) : TL X ops Q H L (⟨some d, .makeSlice t x x, ty, pos, af, none⟩ :: rest) e :=
  TL.mk (k := k) ht hs (ltb hd) (ltb hz) hzs hk (leb hb) hx hown hm h
theorem tp2 {ys : List α} {F Fe : FP} {b m : Nat} {dss : List (List Value)} {E' : TypeId} (ht : X.P.underlying t = some (.slice E)) (hs : inf X.P E z sz by_) (hv : SlO E k xs v F) (hp : (cat xs ys).bind g = some r) (hr : RepL k ys dss Fe)
    (hx : evO e x = v) (hy : evO e y = .slice (some ⟨b, 0, none⟩) m m) (hm : ys.length = m) (hcs : dss.flatten = cs) (hk : k.sz = sz) (hz : Nat.blt 0 sz = true) (hzs : z.cells.size = sz) (hb : Nat.ble by_ 128 = true) (hd : Nat.blt d X.n = true) (h : ∀ zs v' F', SlO E k zs v' F' → g zs = some r → TL X ops Q H (F' :: L) rest (upd e d v'))
 :
    TL X ops Q H (F :: bx b E' cs :: Fe :: L) (⟨some d, .call ⟨.builtin .append, #[x, y], #[t, t]⟩, ty, pos, af, none⟩ :: rest) e := by
  obtain ⟨q, h1, h2⟩ := bind_some' hp
  exact TL.app ht hs (ltb hd) hk (ltb hz) hzs (leb hb) hx hy hv hr hm hcs h1 fun v F hf => h q v F hf h2
theorem tpI {ys : List α} {F : FP} {u : Value} (fl : Flat k) (ht : X.P.underlying t = some (.slice E)) (hs : inf X.P E z sz by_) (hv : SlO E k xs v F) (hu : SlI k G ys u) (hG : Src H (F :: L) G) (hp : (cat xs ys).bind g = some r)
    (hx : evO e x = v) (hy : evO e y = u) (hk : k.sz = sz) (hz : Nat.blt 0 sz = true) (hzs : z.cells.size = sz) (hb : Nat.ble by_ 128 = true) (hd : Nat.blt d X.n = true) (h : ∀ zs v' F', SlO E k zs v' F' → g zs = some r → TL X ops Q H (F' :: L) rest (upd e d v'))
 :
    TL X ops Q H (F :: L) (⟨some d, .call ⟨.builtin .append, #[x, y], #[t, t]⟩, ty, pos, af, none⟩ :: rest) e := by
  obtain ⟨q, h1, h2⟩ := bind_some' hp
  exact TL.appI fl ht hs (ltb hd) hk (ltb hz) hzs (leb hb) hx hy hv hu hG h1 fun v F hf => h q v F hf h2
end

/-! ### Chunks -/
theorem tp {l : List Oper} (is : List Nat) (L' : List FP) (hL : pkA L is = L') (hn : ndB is = true) (h : TL X ops Q H L' l e) : TL X ops Q H L l e := fun w hw => h w (hL ▸ hw.pickA is hn)
theorem cp {c : Code} (is : List Nat) (L' : List FP) (hL : pkA L is = L') (hn : ndB is = true) (h : TC X c Q H L' e) : TC X c Q H L e := fun w hw => h w (hL ▸ hw.pickA is hn)
theorem wp {E : World} {φ : World → Prop} (is : List Nat) (L' : List FP) (hL : pkA L is = L') (hn : ndB is = true) (h : ∀ w, St E H L' w → φ w) : ∀ w, St E H L w → φ w := fun w hw => h w (hL ▸ hw.pickA is hn)
def fusl : List FP → FP
  | [] => []
  | [F] => F
  | F :: Fs => F ++ fusl Fs
theorem fusl_eq : ∀ Fs : List FP, fusl Fs = Fs.flatten
  | [] => rfl
  | [F] => by simp [fusl]
  | F :: G :: Fs => by
    show F ++ fusl (G :: Fs) = _
    rw [fusl_eq (G :: Fs)]; rfl
def fus (n m : Nat) (L : List FP) : List FP := L.take n ++ (fusl ((L.drop n).take m) :: (L.drop n).drop m)
theorem fus_perm (n m : Nat) (L : List FP) : (fus n m L).flatten.Perm L.flatten := by
  unfold fus
  rw [List.flatten_append, List.flatten_cons, fusl_eq, ← List.flatten_append, List.take_append_drop, ← List.flatten_append, List.take_append_drop]
theorem tf {l : List Oper} (n m : Nat) (L' : List FP) (hL : fus n m L = L') (h : TL X ops Q H L' l e) : TL X ops Q H L l e := TL.perm (hL ▸ fus_perm n m L) h
theorem cf {c : Code} (n m : Nat) (L' : List FP) (hL : fus n m L = L') (h : TC X c Q H L' e) : TC X c Q H L e := TC.perm (hL ▸ fus_perm n m L) h
theorem wf {E : World} {φ : World → Prop} (n m : Nat) (L' : List FP) (hL : fus n m L = L') (h : ∀ w, St E H L' w → φ w) : ∀ w, St E H L w → φ w := W.perm (hL ▸ fus_perm n m L) h

/-! ### Variables -/
theorem tb {T : TypeId} (cs : List Value) (hcs : (evO e x).cells.toList = cs) (hd : Nat.blt d X.n = true) (h : ∀ b, TL X ops Q H (bx b T cs :: L) rest (upd e d (.pointer (some ⟨b, 0, none⟩)))) : TL X ops Q H L (⟨some d, .box T x, ty, pos, af, none⟩ :: rest) e := TL.box (ltb hd) rfl hcs h
theorem tl {T : TypeId} (hs : inf X.P T z sz by_) (hd : Nat.blt d X.n = true) (h : ∀ b, TL X ops Q H (bx b T z.cells.toList :: L) rest (upd e d (.pointer (some ⟨b, 0, none⟩)))) : TL X ops Q H L (⟨some d, .alloc T, ty, pos, af, none⟩ :: rest) e := TL.alloc hs (ltb hd) rfl h
theorem tbs {n : Nat} {parts : List (Nat × Operand)} (vs : List (Nat × Value)) (cs : List Value) (ht : X.P.underlying t = some (.slice E)) (hs : inf X.P E z sz by_)
    (hf : Instr.fill (fun i => some (i * sz, sz)) ((Array.range (n * sz)).map (z.cells[· % z.cells.size]!)) vs = some cs.toArray)
    (hv : parts.map (fun p => (p.1, evO e p.2)) = vs) (hsm : Nat.ble (n * sz) (2 ^ 24) = true) (hpos : Nat.blt 0 (n * sz) = true) (hd : Nat.blt d X.n = true) (h : ∀ b, TL X ops Q H (bx b E cs :: L) rest (upd e d (.slice (some ⟨b, 0, none⟩) n n))) : TL X ops Q H L (⟨some d, .buildSlice t n parts.toArray, ty, pos, af, none⟩ :: rest) e :=
  TL.bv hv ht hs (ltb hd) (Nat.not_lt.2 (leb hsm)) (fun h0 => by have := ltb hpos; omega) hf h
/-- One cell. -/
def One (u : Value) : Prop := u.cells.toList = [u] ∧ u.oneCell' = true
def oneB : Value → Bool
  | .int _ _ | .bool _ | .pointer _ | .slice _ _ _ | .iface _ _ | .nilIface | .func _ _ _ | .nilFunc => true
  | _ => false
theorem w1 (h : oneB u = true := by rfl) : One u := by cases u <;> first | exact ⟨rfl, rfl⟩ | cases h
theorem SlI.o1 (h : SlI k G xs v) : One v := ⟨h.cells, h.one⟩
theorem SlO.o1 {F : FP} (h : SlO E k xs v F) : One v := ⟨h.cells, h.one⟩
theorem ErO.o1 {tc tp ts : TypeId} {x : GErr} {F : FP} (h : ErO tc tp ts x v F) : One v := ⟨h.cells, h.one⟩
theorem One.all (h : One u) : ∀ c, c ∈ [u] → c.oneCell' = true := fun c hc => by rw [List.mem_singleton.1 hc]; exact h.2
theorem ts (i : Nat) (hs : (X.P.info? t).map (·.size) = some 1) (hx : evO e x = .pointer (some ⟨b, o, none⟩)) (hL : L[i]? = some (bx b T cs)) (h1 : One (evO e y)) (hl : Nat.blt o cs.length = true)
    (h : TL X ops Q H (L.set i (bx b T (cs.set o (evO e y)))) rest e) : TL X ops Q H L (⟨none, .store t x y, ty, pos, af, none⟩ :: rest) e :=
  TL.stB (ds := [evO e y]) i hL hs hx rfl h1.1 h1.all (ltb hl) h
theorem tS {n : Nat} (i : Nat) (hs : (X.P.info? t).map (·.size) = some n) (hx : evO e x = .pointer (some ⟨b, o, none⟩)) (hL : L[i]? = some (bx b T cs)) (ds : List Value) (hu : (evO e y).cells.toList = ds) (h1 : ∀ c, c ∈ ds → c.oneCell' = true) (hl : Nat.ble (o + ds.length) cs.length = true)
    (hn : ds.length = n) (h : TL X ops Q H (L.set i (bx b T (over cs o ds))) rest e) : TL X ops Q H L (⟨none, .store t x y, ty, pos, af, none⟩ :: rest) e :=
  TL.stB i hL (by rw [hn]; exact hs) hx rfl hu h1 (leb hl) h
theorem tsH {F : FP} {i b : Nat} (hv : Hole E k xs i v b cs F) (hs : (X.P.info? t).map (·.size) = some 1) (o : Nat) (hx : evO e x = .pointer (some ⟨b, i * k.sz + o, none⟩)) (h1 : One (evO e y)) (hl : Nat.blt o cs.length = true)
    (h : ∀ F', Hole E k xs i v b (cs.set o (evO e y)) F' → TL X ops Q H (F' :: L) rest e) : TL X ops Q H (F :: L) (⟨none, .store t x y, ty, pos, af, none⟩ :: rest) e :=
  TL.stH (ds := [evO e y]) hv hs hx rfl rfl h1.1 h1.all (ltb hl) h
theorem tE {F : FP} {i : Nat} {a : α} (hv : SlO E k xs v F) (hel : ElAt E k xs v i b o) (hs : (X.P.info? t).map (·.size) = some 1) (hx : evO e x = .pointer (some ⟨b, o, none⟩)) (ha : k.own a [evO e y] []) (h1 : One (evO e y))
    (h : ∀ F', SlO E k (xs.set i a) v F' → TL X ops Q H (F' :: L) rest e) : TL X ops Q H (F :: L) (⟨none, .store t x y, ty, pos, af, none⟩ :: rest) e :=
  TL.stE0 (ds := [evO e y]) hv hel hs hx rfl h1.1 ha h

/-! ### Calls -/
theorem tc {f : FuncId} {ats : Array TypeId} {xs : List Operand} {R : Value → List FP → Prop} (n : Nat) (B : List FP) (hB : L.drop n = B) (hf : callB X.P f = true)
    (hc : ∀ w, St X.E (B.flatten ++ H) (L.take n) w → Fn X.P f (xs.map (evO e)).toArray w fun v w' => ∃ A', R v A' ∧ St X.E (B.flatten ++ H) A' w')
    (hd : Nat.blt d X.n = true) (h : ∀ v A', R v A' → TL X ops Q H (A' ++ B) rest (upd e d v)) : TL X ops Q H L (⟨some d, .call ⟨.value (.func f), xs.toArray, ats⟩, ty, pos, af, none⟩ :: rest) e :=
  TL.callC (L.take n) B (by rw [← hB, List.take_append_drop]) hf (ltb hd) rfl hc h
theorem tcv {f : FuncId} {ats : Array TypeId} {z : Operand} {caps : List Value} {xs : List Operand} {R : Value → List FP → Prop} (n : Nat) (B : List FP) (hB : L.drop n = B) (hf : callB X.P f = true) (hz : evO e z = .func (.func f) #[] caps.toArray)
    (hc : ∀ w, St X.E (B.flatten ++ H) (L.take n) w → Fn X.P f (xs.map (evO e) ++ caps).toArray w fun v w' => ∃ A', R v A' ∧ St X.E (B.flatten ++ H) A' w')
    (hd : Nat.blt d X.n = true) (h : ∀ v A', R v A' → TL X ops Q H (A' ++ B) rest (upd e d v)) : TL X ops Q H L (⟨some d, .call ⟨.value z, xs.toArray, ats⟩, ty, pos, af, none⟩ :: rest) e :=
  TL.callvC (L.take n) B (by rw [← hB, List.take_append_drop]) hf (ltb hd) hz rfl hc h
theorem qc {f : FuncId} {ats : Array TypeId} {xs : List Operand} {R : Value → List FP → Prop} (v : Value) (hf : callB X.P f = true)
    (hc : ∀ w, St X.E (L.flatten ++ H) [] w → Fn X.P f (xs.map (evO e)).toArray w fun v w' => ∃ A', R v A' ∧ St X.E (L.flatten ++ H) A' w') (hR : ∀ u A', R u A' → u = v ∧ A' = [])
    (hd : Nat.blt d X.n = true) (h : QL X ops Kq H L rest (upd e d v)) : QL X ops Kq H L (⟨some d, .call ⟨.value (.func f), xs.toArray, ats⟩, ty, pos, af, none⟩ :: rest) e :=
  QL.callC v hf (ltb hd) rfl hc hR h
end

/-! ### Loops, ends -/
theorem lp {X : Cx} {Q : Post} {H : FP} {L : List FP} {e : Env} {c : Code} {ρ σ : Type} {body : σ → Option (Ex ρ σ)} {r : ρ} {s : σ} (hz : whl body FUEL s = some r) (is : List Nat) (hn : ndB is = true) (I : σ → Env → List FP → Prop) (h0 : I s e (pkA L is))
    (step : ∀ s e L, I s e L → ∀ x, body s = some x → (x = .ret r ∨ ∃ s', x = .go s') → TC X c (Then (fun e w => ∃ s' L', x = .go s' ∧ I s' e L' ∧ St X.E H L' w) Q) H L e) : TC X (.loop c) Q H L e :=
  fun w hw => TC.loopW I step FUEL s e _ hz h0 w (hw.pickA is hn)
theorem gk {E : World} {H : FP} {L : List FP} {ρ σ : Type} {s : σ} {x : Ex ρ σ} {P : σ → List FP → Prop} (hx : some (Ex.go s) = some x) (is : List Nat) (h : P s (pkA L is)) (hn : ndB is = true := by rfl) : ∀ w, St E H L w → ∃ s' L', x = .go s' ∧ P s' L' ∧ St E H L' w :=
  fun w hw => goOk hx h (hw.pickA is hn)
theorem rt {E : World} {H : FP} {L : List FP} {ρ : Type} {a r : ρ} {v : Value} {φ : ρ → Value → List FP → Prop} (hp : some a = some r) (is : List Nat) (h : φ a v (pkA L is)) (hn : ndB is = true := by rfl) : ∀ w, St E H L w → ∃ A, φ r v A ∧ St E H A w :=
  fun w hw => ⟨_, by rw [← Option.some.inj hp]; exact h, hw.pickA is hn⟩
theorem fb {P : Program} {f : FuncId} {fn : Func} {c : Code} {args : List Value} {w : World} {R : Value → World → Prop} {E : World} {H : FP} {L : List FP}
    (n : Nat) (rs : List ResultVar) (hf : P.funcs[f]? = some fn) (hb : fn.body = some c) (hrs : fn.results = rs.toArray) (hok : resOk rs = true) (hn : fn.ntmps = n) (hle : Nat.ble args.length n = true)
    (hst : St E H L w) (h : TC ⟨P, n, E⟩ c (BodyQ rs R) H L (env0 args)) : Fn P f args.toArray w R := Fn.body E H L rs n hf hb hrs hok hn (leb hle) hst h
/-! ### Rows of one's own whose elements are only read -/
def kRef {α : Type} (G : FP) (k : Kd α) : Kd α where
  sz := k.sz
  own x cs F := (k.ro G x cs ∧ ∀ v, v ∈ cs → v.oneCell' = true) ∧ F = []
  ro G' x cs := k.ro (G' ++ G) x cs
  len h := k.lenR h.1.1
  lenR h := k.lenR h
  weak h _ := k.mono h.1.1 fun p hp => List.mem_append_right _ hp
  mono h hs := k.mono h fun p hp => by
    rcases List.mem_append.1 hp with hp | hp
    · exact List.mem_append_left _ (hs p hp)
    · exact List.mem_append_right _ hp
  one h := h.1.2
section
variable {α : Type} {k : Kd α} {G G' F : FP} {xs : List α} {v : Value} {E : TypeId}
theorem RepL.refM {css : List (List Value)} (h : RepL (kRef G k) xs css F) (hs : ∀ p, p ∈ G → p ∈ G') : RepL (kRef G' k) xs css F := by
  induction h with
  | nil => exact .nil
  | @cons x cs F xs css G0 h _ ih => exact .cons (show (kRef G' k).own x cs F from ⟨⟨k.mono h.1.1 hs, h.1.2⟩, h.2⟩) ih
theorem SlO.refM (h : SlO E (kRef G k) xs v F) (hs : ∀ p, p ∈ G → p ∈ G') : SlO E (kRef G' k) xs v F := by
  obtain ⟨hl, h | ⟨b, css, post, c, G0, h1, h2, h3, h4, h5, h6⟩⟩ := h
  · exact ⟨hl, .inl h⟩
  · exact ⟨hl, .inr ⟨b, css, post, c, G0, h1, h2, h3.refM hs, h4, h5, h6⟩⟩
theorem SlO.refI (h : SlO E (kRef G k) xs v F) : SlI k (F ++ G) xs v := by
  obtain ⟨hl, h | ⟨b, o, c, c', t, fr, hv, hle, hm, hx⟩⟩ := h.ro
  · exact ⟨hl, .inl h⟩
  · exact ⟨hl, .inr ⟨b, o, c, c', t, fr, hv, hle, List.mem_append_left _ hm, hx⟩⟩
/-- The rows of a slice that is read. -/
theorem SlI.rows (hone : ∀ x cs, k.ro G x cs → ∀ v, v ∈ cs → v.oneCell' = true) (h : SlI k G xs v) : (∃ A c, v = .slice A 0 c ∧ xs = []) ∨ ∃ b o c css, v = .slice (some ⟨b, o, none⟩) xs.length c ∧ CellsIn G b o css.flatten ∧ RepL (kRef G k) xs css [] := by
  obtain ⟨hl, h | ⟨b, o, c, c', t, fr, hv, hle, hm, hx⟩⟩ := h
  · exact .inl h
  · have key : ∀ (ys : List α) (d : Nat), (∀ i x, ys[i]? = some x → xs[d + i]? = some x) → ∃ css, RepL (kRef G k) ys css [] ∧ ∀ j u, css.flatten[j]? = some u → c'[o + d * k.sz + j]? = some u := by
      intro ys
      induction ys with
      | nil => intro d _; exact ⟨[], .nil, fun j u hj => by simp at hj⟩
      | cons y ys ih =>
        intro d hd
        obtain ⟨css, h1, h2⟩ := ih (d + 1) (fun i x hi => by have := hd (i + 1) x (by simpa using hi); rwa [show d + 1 + i = d + (i + 1) by omega])
        obtain ⟨cs, h3, h4⟩ := hx d y (by have := hd 0 y (by simp); simpa using this)
        have hc := k.lenR h3
        refine ⟨cs :: css, by have := RepL.cons (k := kRef G k) (x := y) ⟨⟨h3, hone _ _ h3⟩, rfl⟩ h1; simpa using this, fun j u hj => ?_⟩
        rw [List.flatten_cons] at hj
        rcases Nat.lt_or_ge j cs.length with hlt | hge
        · rw [List.getElem?_append_left hlt] at hj; exact h4 j u hj
        · rw [List.getElem?_append_right hge] at hj
          have := h2 _ _ hj
          rwa [show o + (d + 1) * k.sz + (j - cs.length) = o + d * k.sz + j by rw [hc, Nat.add_mul]; omega] at this
    obtain ⟨css, h1, h2⟩ := key xs 0 (fun i x hi => by simpa using hi)
    exact .inr ⟨b, o, c, css, hv, ⟨c', t, fr, hm, fun j u hj => by have := h2 j u hj; simpa using this⟩, h1⟩
end
section
variable {X : Cx} {Q : Post} {H : FP} {L : List FP} {e : Env} {ops : Array Oper} {rest : List Oper} {d : Nat} {ty : TypeId} {pos : String} {af : Array Edge}
  {t E : TypeId} {x y : Operand} {α β : Type} {k : Kd α} {xs : List α} {v z : Value} {G : FP} {sz by_ : Nat} {g : List α → Option β} {r : β}
/-- append(v, ys...) to a row whose elements are only read. -/
theorem tpR {ys : List α} {F : FP} {u : Value} (hone : ∀ x cs, k.ro G x cs → ∀ v, v ∈ cs → v.oneCell' = true) (ht : X.P.underlying t = some (.slice E)) (hs : inf X.P E z sz by_) (hv : SlO E (kRef G k) xs v F) (hu : SlI k G ys u) (hG : Src H (F :: L) G) (hp : (cat xs ys).bind g = some r)
    (hx : evO e x = v) (hy : evO e y = u) (hk : k.sz = sz) (hz : Nat.blt 0 sz = true) (hzs : z.cells.size = sz) (hb : Nat.ble by_ 128 = true) (hd : Nat.blt d X.n = true)
    (h : ∀ zs v' F', SlO E (kRef G k) zs v' F' → g zs = some r → TL X ops Q H (F' :: L) rest (upd e d v')) :
    TL X ops Q H (F :: L) (⟨some d, .call ⟨.builtin .append, #[x, y], #[t, t]⟩, ty, pos, af, none⟩ :: rest) e := by
  obtain ⟨q, hcat, hq⟩ := bind_some' hp
  have hd := ltb hd
  have hz := ltb hz
  have hb := leb hb
  refine TL.eff rfl (fun x hx => by cases hx; exact hd) fun w hw => ?_
  obtain ⟨hlim, rfl⟩ := cat_some hcat
  have hlim' : xs.length + ys.length < 1099511627776 := hlim
  rcases hu.rows hone with ⟨A, c, rfl, rfl⟩ | ⟨b, o, c, dss, rfl, hc, hr⟩
  · obtain ⟨hl, hv'⟩ := hv
    refine ⟨v, w, F :: L, ?_, hw, h _ v F (by rw [List.append_nil]; exact ⟨hl, hv'⟩) hq⟩
    rcases hv' with ⟨rfl, rfl, rfl⟩ | ⟨b, css, post, c', G', rfl, rfl, hr, hp, hc', hm⟩
    · cases A <;> simp [execOp, resolve, invoke, builtin, Builtin.append_, run_underlying ht, hs.size, Builtin.lenOf, Builtin.firstCells, loadCells, loadCellsFrom, hx, hy]
    · cases A <;> simp [execOp, resolve, invoke, builtin, Builtin.append_, run_underlying ht, hs.size, Builtin.lenOf, Builtin.firstCells, loadCells, loadCellsFrom, hx, hy, hc', storeCells]
  · obtain ⟨css, G', hown, hrep, hF⟩ := hv.row hw
    obtain ⟨i, hi, hzz, his, hib⟩ := hs.get
    have hk' : (kRef G k).sz = sz := hk
    obtain ⟨v', w', hrun, hown', hg, _, hat⟩ := run_append_own_at (P := X.P) w 0 t ty E i z (kRef G k).sz by_ ht hi hzz (by rw [his, hk']) hib (by rw [hzs, hk']) (by omega) v xs.length css.flatten hown
      ⟨b, o, none⟩ ys.length c dss.flatten hr.flat (fun j u hu => by
        have := hw.range hG hc j u hu
        rwa [Addr.add_mid]) (fun u hu => hr.one u hu) (by simp only [maxLen]; omega)
      (by have : (xs.length + ys.length) * by_ ≤ 1099511627776 * 128 := Nat.mul_le_mul (by omega) hb
          omega) (Nat.zero_le _)
    have hw2 : St X.E H (F :: [] :: L) w := hw.perm (by simp)
    obtain ⟨F', hF', hst⟩ := SlO.back (E := E) hw2 hF hrep hr hown' hg hat hlim
    refine ⟨v', w', F' :: L, ?_, hst, h _ v' F' hF' hq⟩
    simp only [execOp, resolve, invoke, builtin, Sem.run_bind, Sem.run_pure, Result.andThen_ok, List.map_toArray, List.map_cons, List.map_nil, hx, hy, hrun]
end
theorem sH {H : FP} {L : List FP} : Src H L H := Src.H
end Go.Proofs.Ytpmcbahahjelnaa
