/- The framework, part Y: pointers as data, objects in a region, readings that leave open which blocks are fresh. No conditions. -/
import Derived.Test.YtpmcbahahjelnaaFwX
import Derived.LaidEqlPtr
set_option linter.unusedVariables false
set_option linter.unusedSimpArgs false
namespace Go.Proofs.Ytpmcbahahjelnaa
open Go

/-! ### Pointers as data: a block's number -/
def ptrV (p : Option Nat) : Value := .pointer (p.map fun b => ⟨b, 0, none⟩)
def kPtr : Kd (Option Nat) where
  sz := 1
  own x cs F := cs = [ptrV x] ∧ F = []
  ro _ x cs := cs = [ptrV x]
  len h := by rw [h.1]; rfl
  lenR h := by rw [h]; rfl
  weak h _ := h.1
  mono h _ := h
  one h v hv := by rw [h.1] at hv; simp at hv; subst hv; rfl
def fPtr : Flat kPtr := ⟨fun x => [ptrV x], fun _ => ⟨rfl, rfl⟩, fun h => h⟩
theorem ptrE {p : Option Nat} {b : Nat} (h : p = some b) : ptrV p = .pointer (some ⟨b, 0, none⟩) := by subst h; rfl

/-! ### Objects in a row of blocks -/
def look {α : Type} : List (Nat × α) → Nat → Option α
  | [], _ => none
  | (c, y) :: l, b => if c = b then some y else look l b
def setL {α : Type} : List (Nat × α) → Nat → α → List (Nat × α)
  | [], _, _ => []
  | (c, y) :: l, b, x => if c = b then (c, x) :: l else (c, y) :: setL l b x
theorem look_setL {α : Type} (b : Nat) (x y : α) : ∀ l : List (Nat × α), look l b = some y → look (setL l b x) b = some x
  | [], h => by simp [look] at h
  | (c, z) :: l, h => by
    simp only [look, setL] at h ⊢
    by_cases hc : c = b
    · simp [hc, look]
    · rw [if_neg hc] at h; simp only [if_neg hc, look]; exact look_setL b x y l h
theorem look_other {α : Type} (b c : Nat) (x : α) (hbc : b ≠ c) : ∀ l : List (Nat × α), look (setL l b x) c = look l c
  | [] => rfl
  | (d, z) :: l => by
    simp only [look, setL]
    by_cases hd : d = b
    · subst hd; simp [look, hbc]
    · simp only [if_neg hd, look]
      by_cases h2 : d = c
      · simp [h2]
      · simp only [if_neg h2]; exact look_other b c x hbc l
def objs {α : Type} (cf : α → List Value) (T : TypeId) (l : List (Nat × α)) : FP := l.map fun p => (p.1, Obj.cells (cf p.2).toArray T (0, 0))
theorem objs_split {α : Type} (cf : α → List Value) (T : TypeId) {b : Nat} {x : α} : ∀ (l : List (Nat × α)), look l b = some x →
    ∃ A B, objs cf T l = A ++ (b, Obj.cells (cf x).toArray T (0, 0)) :: B ∧ ∀ y, objs cf T (setL l b y) = A ++ (b, Obj.cells (cf y).toArray T (0, 0)) :: B
  | [], h => by simp [look] at h
  | (c, z) :: l, h => by
    simp only [look] at h
    by_cases hc : c = b
    · subst hc
      rw [if_pos rfl] at h
      cases h
      exact ⟨[], objs cf T l, rfl, fun y => by simp [setL, objs]⟩
    · rw [if_neg hc] at h
      obtain ⟨A, B, h1, h2⟩ := objs_split cf T l h
      refine ⟨(c, Obj.cells (cf z).toArray T (0, 0)) :: A, B, ?_, fun y => ?_⟩
      · simp only [objs, List.map_cons, List.cons_append] at h1 ⊢; rw [h1]
      · simp only [objs, setL, if_neg hc, List.map_cons, List.cons_append] at h2 ⊢; rw [h2]
/-- A block of a chunk, and what becomes of the chunk when its cells are written. -/
def Spl (F F' : FP) (b T : Nat) (cs cs' : List Value) : Prop := ∃ A B, F = A ++ (b, Obj.cells cs.toArray T (0, 0)) :: B ∧ F' = A ++ (b, Obj.cells cs'.toArray T (0, 0)) :: B
theorem Spl.cells {F F' : FP} {b T : Nat} {cs cs' : List Value} (h : Spl F F' b T cs cs') : CellsIn F b 0 cs := by
  obtain ⟨A, B, rfl, _⟩ := h
  exact ⟨_, _, _, List.mem_append_right _ (List.mem_cons_self ..), fun j v hv => by rw [Nat.zero_add, List.getElem?_toArray]; exact hv⟩
theorem Spl.left {F F' : FP} {b T : Nat} {cs cs' : List Value} (h : Spl F F' b T cs cs') (G : FP) : Spl (G ++ F) (G ++ F') b T cs cs' := by
  obtain ⟨A, B, rfl, rfl⟩ := h
  exact ⟨G ++ A, B, by simp, by simp⟩
theorem Spl.right {F F' : FP} {b T : Nat} {cs cs' : List Value} (h : Spl F F' b T cs cs') (G : FP) : Spl (F ++ G) (F' ++ G) b T cs cs' := by
  obtain ⟨A, B, rfl, rfl⟩ := h
  exact ⟨A, B ++ G, by simp, by simp⟩

section
variable {X : Cx} {Q : Post} {H : FP} {L : List FP} {e : Env} {ops : Array Oper} {rest : List Oper} {ty d : Nat} {pos : String} {af : Array Edge} {t t' E : TypeId} {x y : Operand} {v : Value}
theorem nth_perm (L : List FP) (i : Nat) (F : FP) (h : L[i]? = some F) : L.flatten.Perm (F ++ (L.eraseIdx i).flatten) := (erase_perm L i F h).symm
theorem setF_perm (L : List FP) (i : Nat) (F F' : FP) (h : L[i]? = some F) : (L.set i F').flatten.Perm (F' ++ (L.eraseIdx i).flatten) := by
  have hlt := (List.getElem?_eq_some_iff.1 h).1
  have := (erase_perm (L.set i F') i F' (by simp [hlt])).symm
  rwa [List.eraseIdx_set_eq] at this
/-- A write into an object of the region. -/
theorem TL.stR {F F' : FP} {b o : Nat} {cs ds : List Value} {T : TypeId} {u : Value} (i : Nat) (hi : L[i]? = some F) (hs : (X.P.info? t).map (·.size) = some ds.length) (hx : evO e x = .pointer (some ⟨b, o, none⟩)) (hy : evO e y = u) (hu : u.cells.toList = ds) (h1 : ∀ c, c ∈ ds → c.oneCell' = true)
    (hl : o + ds.length ≤ cs.length) (hF : Spl F F' b T cs (over cs o ds)) (h : TL X ops Q H (L.set i F') rest e) :
    TL X ops Q H L (⟨none, .store t x y, ty, pos, af, none⟩ :: rest) e := by
  obtain ⟨A, B, rfl, rfl⟩ := hF
  refine TL.perm (L' := ((b, Obj.cells cs.toArray T (0, 0)) :: (A ++ B ++ (L.eraseIdx i).flatten)) :: []) ?_ (TL.st0 hs hx hy hu h1 hl (TL.perm ?_ h))
  · refine List.Perm.trans ?_ (nth_perm L i _ hi).symm
    simp only [List.flatten_cons, List.flatten_nil, List.append_nil, List.append_assoc, List.cons_append]
    exact List.perm_middle.symm
  · refine (setF_perm L i _ _ hi).trans ?_
    simp only [List.flatten_cons, List.flatten_nil, List.append_nil, List.append_assoc, List.cons_append]
    exact List.perm_middle
/-- A fresh object of the region. -/
theorem TL.boxR {F : FP} {F' : Nat → FP} {T : TypeId} {cs : List Value} (i : Nat) (hi : L[i]? = some F) (hd : d < X.n) (hx : evO e x = v) (hcs : v.cells.toList = cs)
    (hF : ∀ b, (F' b).Perm (bx b T cs ++ F)) (h : ∀ b, b ∉ F.map (·.1) → TL X ops Q H (L.set i (F' b)) rest (upd e d (.pointer (some ⟨b, 0, none⟩)))) :
    TL X ops Q H L (⟨some d, .box T x, ty, pos, af, none⟩ :: rest) e := by
  refine TL.eff rfl (fun x hx => by cases hx; exact hd) fun w hw => ?_
  have hn : w.heap.size ∉ F.map (·.1) := fun hm => by
    obtain ⟨p, hp, he⟩ := List.mem_map.1 hm
    have := hw.lt (p := p) (List.mem_flatten.2 ⟨F, List.mem_of_getElem? hi, hp⟩)
    omega
  refine ⟨.pointer (some ⟨w.heap.size, 0, none⟩), w.alloc (.cells v.cells T), L.set i (F' w.heap.size), ?_, ?_, h _ hn⟩
  · simp [execOp, Instr.box, newVar, newRow, hx]
  · have := hw.alloc (.cells v.cells T)
    have h2 : St X.E H (bx w.heap.size T cs :: L) (w.alloc (.cells v.cells T)) := by
      rw [← hcs]; simpa [bx] using this
    refine h2.perm ?_
    refine (setF_perm L i _ _ hi).trans ?_
    simp only [List.flatten_cons]
    refine ((hF _).append_right _).trans ?_
    rw [List.append_assoc]
    exact List.Perm.append_left _ (nth_perm L i _ hi).symm
/-- Pointers held against nil. -/
theorem rv_eqlPN {p : Option Nat} (ht : X.P.underlying t = some (.pointer (X.P.pointee t))) (hx : evO e x = ptrV p) (hy : evO e y = ptrV none) : RV X H L e (.binOp .eql t x y t') (.bool (decide (p = none))) :=
  fun w _ _ _ _ _ _ => by
    have := run_eql_pointer_nil (P := X.P) w t (p.map fun b => ⟨b, 0, none⟩) ht
    cases p <;> simp_all [execOp, eqGuard, ptrV]
theorem rv_neqPN {p : Option Nat} (ht : X.P.underlying t = some (.pointer (X.P.pointee t))) (hx : evO e x = ptrV p) (hy : evO e y = ptrV none) : RV X H L e (.binOp .neq t x y t') (.bool (decide (¬ p = none))) :=
  fun w _ _ _ _ _ _ => by
    have := run_neq_pointer_nil (P := X.P) w t (p.map fun b => ⟨b, 0, none⟩) ht
    cases p <;> simp_all [execOp, eqGuard, ptrV]
/-- Two pointers into objects that are there. -/
def okP {α : Type} (l : List (Nat × α)) (p : Option Nat) : Bool := match p with
  | none => true
  | some b => (look l b).isSome
def eqP {α : Type} (l : List (Nat × α)) (p q : Option Nat) : Option Bool := if okP l p = true ∧ okP l q = true then some (decide (p = q)) else none
def InF (F : FP) (b : Nat) : Prop := ∃ c t, (b, Obj.cells c t (0, 0)) ∈ F
theorem equal_ptr {P : Program} {w : World} {p q : Option Nat} {i : TypeInfo} (ht : P.underlying t = some (.pointer E)) (hi : P.info? E = some i) (hs : i.size ≠ 0) (hp : ∀ b, p = some b → ∃ c t, w.heap[b]? = some (.cells c t (0, 0))) (hq : ∀ b, q = some b → ∃ c t, w.heap[b]? = some (.cells c t (0, 0))) :
    (Op.equal t (ptrV p) (ptrV q)).run P w = .ok (decide (p = q)) w := by
  have h : ∀ d : Nat, (Op.equalIn (d + 1) t (ptrV p) (ptrV q)).run P w = .ok (decide (p = q)) w := fun d => by
    cases q with
    | none => cases p <;> simp [ptrV, Op.equalIn, run_underlying ht]
    | some c =>
      cases p with
      | none => simp [ptrV, Op.equalIn, run_underlying ht]
      | some b =>
        by_cases hbc : b = c
        · subst hbc
          simp [ptrV, Op.equalIn, run_underlying ht, sizeOf, typeInfo, hi, run_sameAddr_same]
        · obtain ⟨c1, t1, h1⟩ := hp b rfl
          obtain ⟨c2, t2, h2⟩ := hq c rfl
          have hne : (⟨b, 0, none⟩ : Addr) ≠ ⟨c, 0, none⟩ := fun h => hbc (congrArg Addr.block h)
          simp [ptrV, Op.equalIn, run_underlying ht, sizeOf, typeInfo, hi, hs, run_sameAddr_other w hne h1 h2, hbc]
  exact h 9999
theorem inF_at {w : World} {F : FP} (hw : St X.E H L w) (hF : Src H L F) {b : Nat} (h : InF F b) : ∃ c t, w.heap[b]? = some (.cells c t (0, 0)) := by
  obtain ⟨c, t, hm⟩ := h
  rcases hF _ hm with h | h
  · exact ⟨c, t, hw.atH _ h⟩
  · exact ⟨c, t, hw.atL _ h⟩
theorem rv_eqlPP {p q : Option Nat} {F : FP} {z : Value} {sz by_ : Nat} (ht : X.P.underlying t = some (.pointer E)) (hE : inf X.P E z (sz + 1) by_) (hF : Src H L F) (hp : ∀ b, p = some b → InF F b) (hq : ∀ b, q = some b → InF F b) (hx : evO e x = ptrV p) (hy : evO e y = ptrV q) :
    RV X H L e (.binOp .eql t x y t') (.bool (decide (p = q))) := by
  intro w hw _ _ _ _ _
  obtain ⟨i, hi, _, hs, _⟩ := hE.get
  have key := equal_ptr (P := X.P) (w := w) ht hi (by omega) (fun b hb => inF_at hw hF (hp b hb)) (fun b hb => inF_at hw hF (hq b hb))
  simp only [ptrV] at hx hy key
  simp [execOp, eqGuard, hx, hy, binOp, key]
theorem rv_neqPP {p q : Option Nat} {F : FP} {z : Value} {sz by_ : Nat} (ht : X.P.underlying t = some (.pointer E)) (hE : inf X.P E z (sz + 1) by_) (hF : Src H L F) (hp : ∀ b, p = some b → InF F b) (hq : ∀ b, q = some b → InF F b) (hx : evO e x = ptrV p) (hy : evO e y = ptrV q) :
    RV X H L e (.binOp .neq t x y t') (.bool (decide (¬ p = q))) := by
  intro w hw _ _ _ _ _
  obtain ⟨i, hi, _, hs, _⟩ := hE.get
  have key := equal_ptr (P := X.P) (w := w) ht hi (by omega) (fun b hb => inF_at hw hF (hp b hb)) (fun b hb => inF_at hw hF (hq b hb))
  simp only [ptrV] at hx hy key
  simp [execOp, eqGuard, hx, hy, binOp, key]
end

/-! ### Readings that leave open which blocks are fresh -/
abbrev D (α : Type) : Type := (α → Prop) → Prop
abbrev rD {α : Type} (a : α) : D α := fun Q => Q a
abbrev bD {α β : Type} (x : D α) (k : α → D β) : D β := fun Q => x fun a => k a Q
abbrev bO {α β : Type} (x : Option α) (k : α → D β) : D β := fun Q => ∃ a, x = some a ∧ k a Q
abbrev freshD {β : Type} (names : List Nat) (k : Nat → D β) : D β := fun Q => ∀ b, b ∉ names → k b Q
def whlD {ρ σ : Type} (body : σ → D (Ex ρ σ)) : Nat → σ → D ρ
  | 0, _ => fun _ => False
  | k + 1, s => fun Q => body s fun x => match x with
    | .ret r => Q r
    | .go s' => whlD body k s' Q
theorem bO' {α β : Type} {x : Option α} {k : α → D β} {Q : β → Prop} (h : bO x k Q) : ∃ a, x = some a ∧ k a Q := h
theorem bD' {α β : Type} {x : D α} {k : α → D β} {Q : β → Prop} (h : bD x k Q) : x fun a => k a Q := h
theorem goOkD {E : World} {H : FP} {ρ σ : Type} {s : σ} {X : Ex ρ σ → Prop} {P : σ → List FP → Prop} {A : List FP} {w : World} (hx : X (Ex.go s)) (h : P s A) (hs : St E H A w) : ∃ s' L', X (.go s') ∧ P s' L' ∧ St E H L' w := ⟨s, A, hx, h, hs⟩
theorem TC.loopD {X : Cx} {Q : Post} {H : FP} {c : Code} {ρ σ : Type} {body : σ → D (Ex ρ σ)} {Kz : ρ → Prop} (I : σ → Env → List FP → Prop)
    (step : ∀ s e L, I s e L → ∀ P : Ex ρ σ → Prop, body s P → (∀ r, P (.ret r) → Kz r) →
      TC X c (Then (fun e w => ∃ s' L', P (.go s') ∧ I s' e L' ∧ St X.E H L' w) Q) H L e) :
    ∀ (k : Nat) (s : σ) (e : Env) (L : List FP), whlD body k s Kz → I s e L → TC X (.loop c) Q H L e := by
  have key : ∀ (k : Nat) (s : σ) (e : Env) (L : List FP), whlD body k s Kz → I s e L → ∀ w, St X.E H L w → TR X c Q k e w := by
    intro k
    induction k with
    | zero => intro s e L h; exact h.elim
    | succ k ih =>
      intro s e L h hI w hw
      refine TR.succ ((step s e L hI _ h (fun r hr => hr) w hw).mono ?_)
      intro ex e' w' hq
      cases ex with
      | normal =>
        obtain ⟨s', L', hg, hI', hw'⟩ := hq
        exact ih s' e' L' hg hI' w' hw'
      | _ => exact hq
  exact fun k s e L h hI => TC.rounds k (key k s e L h hI)
end Go.Proofs.Ytpmcbahahjelnaa
