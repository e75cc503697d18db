/- By hand: slices.SortFunc at [][]int with calls.byFirst, by the kit's contract. No conditions. -/
import Derived.Test.YtpomfbdbkejedaaGreatDoorSo
import Derived.Shelf.RegionOpenPlain
set_option linter.unusedVariables false
set_option linter.unusedSimpArgs false
namespace Go.Proofs.YtpomfbdbkejedaaGreatDoor
open Go Go.Proofs Go.Sort Go.RowKit

def byF (r : List Int) : Int := r.headD 0
def okRow (r : List Int) : Bool := match r with | [] => false | x :: _ => decide (0 ≤ x) && decide (x < 4611686018427387904)
def dis : List Int → Bool
  | [] => true
  | x :: xs => xs.all (fun y => decide (x ≠ y)) && dis xs
def insR (r : List Int) : List (List Int) → List (List Int)
  | [] => [r]
  | s :: t => if byF r ≤ byF s then r :: s :: t else s :: insR r t
def rsort : List (List Int) → List (List Int)
  | [] => []
  | r :: t => insR r (rsort t)
theorem insR_perm (x : List Int) (ys : List (List Int)) : (insR x ys).Perm (x :: ys) := by
  induction ys with
  | nil => exact .refl _
  | cons y ys ih =>
    simp only [insR]
    by_cases h : byF x ≤ byF y
    · rw [if_pos h]
    · rw [if_neg h]; exact (List.Perm.cons y ih).trans (.swap x y ys)
theorem rsort_perm (xs : List (List Int)) : (rsort xs).Perm xs := by
  induction xs with
  | nil => exact .refl _
  | cons x xs ih => exact (insR_perm x _).trans (.cons x ih)
theorem insR_sorted (x : List Int) {ys : List (List Int)} (h : ys.Pairwise (fun a b => byF a ≤ byF b)) : (insR x ys).Pairwise (fun a b => byF a ≤ byF b) := by
  induction ys with
  | nil => simp [insR]
  | cons y ys ih =>
    simp only [insR]
    rw [List.pairwise_cons] at h
    by_cases hx : byF x ≤ byF y
    · rw [if_pos hx, List.pairwise_cons, List.pairwise_cons]
      exact ⟨fun z hz => by
        rcases List.mem_cons.1 hz with rfl | hz
        · exact hx
        · exact Int.le_trans hx (h.1 z hz), h⟩
    · rw [if_neg hx, List.pairwise_cons]
      refine ⟨fun z hz => ?_, ih h.2⟩
      rcases List.mem_cons.1 ((insR_perm x ys).mem_iff.1 hz) with rfl | hz
      · omega
      · exact h.1 z hz
theorem rsort_sorted (xs : List (List Int)) : (rsort xs).Pairwise (fun a b => byF a ≤ byF b) := by
  induction xs with
  | nil => exact .nil
  | cons x xs ih => exact insR_sorted x ih
theorem dis_inj {xs : List (List Int)} (h : dis (xs.map byF) = true) : ∀ x, x ∈ xs → ∀ y, y ∈ xs → byF x = byF y → x = y := by
  induction xs with
  | nil => intro x hx; simp at hx
  | cons z xs ih =>
    simp only [List.map_cons, dis, Bool.and_eq_true, List.all_eq_true, decide_eq_true_eq] at h
    intro x hx y hy he
    rcases List.mem_cons.1 hx with e | hx'
    · rcases List.mem_cons.1 hy with e' | hy'
      · rw [e, e']
      · exact absurd (e ▸ he) (h.1 _ (List.mem_map_of_mem hy'))
    · rcases List.mem_cons.1 hy with e' | hy'
      · exact absurd (e' ▸ he.symm) (h.1 _ (List.mem_map_of_mem hx'))
      · exact ih h.2 x hx' y hy' he

set_option maxHeartbeats 1000000 in
theorem byFirst_call (b1 o1 n1 c1 b2 o2 n2 c2 : Nat) (x y : Int) (W : World) (h1 : 0 < n1) (h2 : 0 < n2) (hx : W.cell? ⟨b1, o1, none⟩ = some (.int .i64 x)) (hy : W.cell? ⟨b2, o2, none⟩ = some (.int .i64 y)) :
    Calls Tryz.prog 33 #[.slice (some ⟨b1, o1, none⟩) n1 c1, .slice (some ⟨b2, o2, none⟩) n2 c2] W fun e w' => e = .returned (.int .i64 (wrap64 (x - y))) ∧ ∃ q, w' = W.drewN q := by
  have mixed : Tryz.prog.follows Departure.mixedOrders = true := by kernel_rfl
  go_enter Tryz.func33, Tryz.ntmps33
  go_wp2_with fail
  go_region_o
  go_wp2
  go_ret
  exact ⟨rfl, 1, rfl⟩

abbrev slices_SortFunc_int_int_calls_byFirst.R (v2 : Value) (r : List (List Int)) (v : Value) (A : List FP) : Prop := ∃ (G1 : FP), .tuple #[] = v ∧ A = [G1] ∧ SlO 38 (kSl 3 (kInt .i64)) r v2 G1
def slices_SortFunc_int_int_calls_byFirst (a1 : List (List Int)) : Option (List (List Int)) := if a1.all okRow && dis (a1.map byF) then some (rsort a1) else none

theorem row_cell {x : List Int} {v : Value} {F : FP} (h : SlO 3 (kInt .i64) x v F) (ho : okRow x = true) :
    0 ≤ byF x ∧ byF x < 4611686018427387904 ∧ ∃ b n c, 0 < n ∧ v = .slice (some ⟨b, 0, none⟩) n c ∧ ∀ w : World, At w F → w.cell? ⟨b, 0, none⟩ = some (.int .i64 (byF x)) := by
  cases x with
  | nil => simp [okRow] at ho
  | cons a x =>
    simp only [okRow, Bool.and_eq_true, decide_eq_true_eq] at ho
    refine ⟨ho.1, ho.2, ?_⟩
    obtain ⟨hl, ⟨_, h, _⟩ | ⟨b, css, post, c, G, rfl, rfl, hrep, hpost, hc, hm⟩⟩ := h
    · simp at h
    · obtain ⟨hf, rfl⟩ := repl_ints hrep
      refine ⟨b, _, c, by simp, rfl, fun w hw => ?_⟩
      have := hw (b, Obj.cells (css.flatten ++ post).toArray 3 (0, 0)) (by simp)
      simp [World.cell?, this, hf, byF]

theorem pure_perm {α : Type} [Inhabited α] {d d' : Array α} (h : PermIn 0 d.size d d') : d'.toList.Perm d.toList := by
  have h3 := h.2.2
  rw [Array.toList_extract, Array.toList_extract] at h3
  have e1 := h.1
  simpa [List.extract_eq_take_drop, List.take_of_length_le, e1] using h3

set_option maxHeartbeats 1000000 in
theorem slices_SortFunc_int_int_calls_byFirst_ok {E : World} {H : FP} {w : World} {a1 : List (List Int)} {v2 : Value} {F3 : FP} {r : List (List Int)} (h4 : SlO 38 (kSl 3 (kInt .i64)) a1 v2 F3) (hp : slices_SortFunc_int_int_calls_byFirst a1 = some r) (hst : St E H [F3] w) :
    Fn Tryz.prog 32 #[v2, .func (.func 33) #[] #[]] w fun v w' => ∃ A, slices_SortFunc_int_int_calls_byFirst.R v2 r v A ∧ St E H A w' := by
  unfold slices_SortFunc_int_int_calls_byFirst at hp
  by_cases hok : (a1.all okRow && dis (a1.map byF)) = true
  · rw [if_pos hok] at hp
    have hr : rsort a1 = r := Option.some.inj hp
    subst hr
    rw [Bool.and_eq_true, List.all_eq_true] at hok
    obtain ⟨hall, hdis⟩ := hok
    have hlen : (rsort a1).length = a1.length := (rsort_perm a1).length_eq
    have none_ : ∀ A c, Calls Tryz.prog 32 #[.slice A 0 c, .func (.func 33) #[] #[]] w fun e w' => e = .returned (.tuple #[]) ∧ w' = w := fun A c =>
      AnyF.slices_SortFunc_none (P := Tryz.prog) (ρ := Tryz.laysSortF_ren) { Tryz.laysSortF with } A c (.func (.func 33) #[] #[]) w
    obtain ⟨hl, ⟨rfl, rfl, rfl⟩ | ⟨b, css, post, c, G, rfl, rfl, hrep, hpost, hc, hm⟩⟩ := h4
    · refine Calls.mono (none_ none 0) ?_
      rintro e w' ⟨rfl, rfl⟩
      exact ⟨_, rfl, _, ⟨_, rfl, rfl, SlO.nil 38⟩, hst⟩
    · by_cases hn : a1 = []
      · subst hn
        cases hrep
        refine Calls.mono (none_ _ c) ?_
        rintro e w' ⟨rfl, rfl⟩
        exact ⟨_, rfl, _, ⟨_, rfl, rfl, hl, .inr ⟨b, [], post, c, [], rfl, rfl, .nil, hpost, hc, hm⟩⟩, hst⟩
      · have hn0 : 0 < a1.length := List.length_pos_iff.2 hn
        obtain ⟨vs, Fs, hcs, rfl, hvl, hFl, hel⟩ := repl_sl hrep
        rw [hcs] at hst
        haveI : Inhabited (Fin a1.length) := ⟨⟨0, hn0⟩⟩
        let enc : Fin a1.length → Value := fun i => vs[i.val]'(by omega)
        let cf : Fin a1.length → Fin a1.length → Int := fun i j => byF a1[i] - byF a1[j]
        let ds : List (Fin a1.length) := List.finRange a1.length
        have hdl : ds.length = a1.length := by simp [ds]
        have henc : ds.map enc = vs := by
          apply List.ext_getElem
          · simp [hdl, hvl]
          · intro i h1 h2; simp [ds, enc]
        have hrow : ∀ i : Fin a1.length, SlO 3 (kInt .i64) a1[i] (enc i) (Fs[i.val]'(by omega)) := fun i =>
          hel i.val _ _ _ (List.getElem?_eq_getElem i.isLt) (List.getElem?_eq_getElem (by omega)) (List.getElem?_eq_getElem (by omega))
        have hokr : ∀ i : Fin a1.length, okRow a1[i] = true := fun i => hall _ (List.getElem_mem _)
        have hst' : St E H (((b, Obj.cells (ds.map enc ++ post).toArray 38 (0, 0)) :: Fs.flatten) :: []) w := by rw [henc]; exact hst
        obtain ⟨hH, hb⟩ := holds_cells hst'
        have h1 : OneCell enc := fun i => by obtain ⟨_, _, b', n', c', _, e, _⟩ := row_cell (hrow i) (hokr i); rw [e]; rfl
        have hlt : ∀ i j, ltOf cf i j = decide (byF a1[i] < byF a1[j]) := fun i j => by
          show decide (byF a1[i] - byF a1[j] < 0) = _
          congr 1
          exact propext ⟨fun h => by omega, fun h => by omega⟩
        have hO : SWO (ltOf cf) := ⟨fun x => by rw [hlt]; simp, fun x y z p q => by rw [hlt] at *; simp at *; omega, fun x y z p q => by rw [hlt] at *; simp at *; omega⟩
        have eg : ∀ args w, (callFunc 33 args).run Tryz.prog w = .ok (.enter 33 args) w := enters_of Tryz.func33 (by kernel_rfl) rfl
        have hcmp : CmpLays1 Tryz.prog 33 #[] enc cf b 0 ds.toArray.size w := by
          refine CmpReads.lays fun m os dk hs i j => ?_
          have hw' := St.sorted hst' m (enc := enc) dk.toList os (by simp at hs; simp [hs, hdl, hvl])
          have hAt : ∀ i : Fin a1.length, At (sortWorld enc w b 0 m dk os) (Fs[i.val]'(by omega)) := fun i p hp => hw'.atL p (by
            simp only [List.flatten_cons, List.flatten_nil, List.append_nil]
            exact List.mem_cons_of_mem _ (List.mem_flatten.2 ⟨_, List.getElem_mem _, hp⟩))
          obtain ⟨x1, x2, b1, n1, c1, hn1, e1, g1⟩ := row_cell (hrow i) (hokr i)
          obtain ⟨y1, y2, b2, n2, c2, hn2, e2, g2⟩ := row_cell (hrow j) (hokr j)
          rw [e1, e2]
          have := byFirst_call b1 0 n1 c1 b2 0 n2 c2 _ _ _ hn1 hn2 (g1 _ (hAt i)) (g2 _ (hAt j))
          rw [IntWalk.wrap64_in _ ⟨by omega, by omega⟩] at this
          exact this
        have hcon := Any.slices_SortFunc Tryz.laysSortF enc h1 cf hO 33 #[] b 0 c ds.toArray w eg hcmp hH hb (by simp only [LIM] at hl; simp [hdl]; omega)
        rw [show ds.toArray.size = a1.length by simp [hdl]] at hcon
        refine Calls.mono hcon ?_
        rintro e w' ⟨rfl, d', n, os, hpm, hso, rfl⟩
        have hpm' : d'.toList.Perm ds := by
          have := pure_perm (d := ds.toArray) (d' := d') (by rw [show ds.toArray.size = a1.length by simp [hdl]]; exact hpm)
          simpa using this
        have hdl' : d'.toList.length = a1.length := hpm'.length_eq.trans hdl
        have hds : ds.map (fun i => a1[i]) = a1 := by
          apply List.ext_getElem
          · simp [hdl]
          · intro i h1 h2; simp [ds]
        have hres : d'.toList.map (fun i => a1[i]) = rsort a1 := by
          have hperm : (d'.toList.map (fun i => a1[i])).Perm a1 := by
            have := hpm'.map (fun i : Fin a1.length => a1[i])
            rwa [hds] at this
          refine sorted_eq byF (hperm.trans (rsort_perm a1).symm) ?_ (rsort_sorted a1) fun x hx y hy => dis_inj hdis x (hperm.mem_iff.1 hx) y (hperm.mem_iff.1 hy)
          rw [List.pairwise_map, List.pairwise_iff_getElem]
          intro i j hi hj hij
          have := hso i j (Nat.zero_le _) hij (by omega)
          rw [hlt] at this
          simp only [Array.length_toList] at hi hj
          rw [getElem!_pos d' i hi, getElem!_pos d' j hj] at this
          simp only [decide_eq_false_iff_not] at this
          simp only [Array.getElem_toList]
          omega
        have hfl : (d'.toList.map (fun i => Fs[i.val]'(by omega))).Perm Fs := by
          have := hpm'.map (fun i : Fin a1.length => Fs[i.val]'(by omega))
          rw [show ds.map (fun i : Fin a1.length => Fs[i.val]'(by omega)) = Fs by
            apply List.ext_getElem
            · simp [hdl, hFl]
            · intro i h1 h2; simp [ds]] at this
          exact this
        have hw' := St.sorted hst' n (enc := enc) d'.toList os (by simp [hdl', hdl])
        rw [show (ds.map enc ++ post).drop d'.toList.length = post by rw [hdl', List.drop_append_of_le_length (by simp [hdl]), List.drop_eq_nil_of_le (by simp [hdl]), List.nil_append]] at hw'
        refine ⟨_, rfl, [(b, Obj.cells (d'.toList.map enc ++ post).toArray 38 (0, 0)) :: (d'.toList.map (fun i => Fs[i.val]'(by omega))).flatten], ⟨_, rfl, rfl, ?_⟩, ?_⟩
        · rw [← hres]
          refine ⟨by simp [hdl'] at *; omega, .inr ⟨b, (d'.toList.map enc).map fun v => [v], post, c, _, by simp [hdl'], by rw [sl_flat], ?_, ?_, ?_, hm⟩⟩
          · refine sl_repl _ _ _ (by simp) (by simp) fun i x v F e1 e2 e3 => ?_
            rw [List.getElem?_map] at e1 e2 e3
            cases hd : d'.toList[i]? with
            | none => rw [hd] at e1; simp at e1
            | some q =>
              rw [hd] at e1 e2 e3
              simp only [Option.map_some, Option.some.injEq] at e1 e2 e3
              subst e1; subst e2; subst e3
              exact hrow q
          · rw [List.length_map, hdl']; exact hpost
          · rw [List.length_map, hdl']; exact hc
        · refine hw'.perm ?_
          simp only [List.flatten_cons, List.flatten_nil, List.append_nil]
          exact List.Perm.cons _ hfl.flatten
  · rw [if_neg hok] at hp; simp at hp
end Go.Proofs.YtpomfbdbkejedaaGreatDoor
