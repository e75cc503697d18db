/- Plain laws, part O: each block of the order but the first one is led to by one ahead of it; the law GraphOrders. No conditions. -/
import Derived.Test.YtoflleabpkgdpaaPuN
import Derived.Test.YtoflleabpkgdpaaGc
set_option linter.unusedVariables false
set_option linter.unusedSimpArgs false
namespace Go.Proofs.Ytoflleabpkgdpaa
open Go Go.Proofs

/-- Each one is of R, or a later one leads to it. -/
def Led (nx : List (List Int)) (R : Int → Prop) (l : List Int) : Prop := ∀ p v q, l = p ++ v :: q → R v ∨ ∃ u ∈ q, ∃ row, idx nx u = some row ∧ v ∈ row
theorem Led.mono {nx : List (List Int)} {R R' : Int → Prop} {l : List Int} (h : Led nx R l) (hr : ∀ v, R v → R' v) : Led nx R' l := fun p v q he => (h p v q he).imp (hr v) id
theorem Led.append {nx : List (List Int)} {R : Int → Prop} {a b : List Int} (h : Led nx R a) (k : Led nx R b) : Led nx R (a ++ b) := by
  intro p v q he
  rcases List.append_eq_append_iff.1 he with ⟨c, h1, h2⟩ | ⟨c, h1, h2⟩
  · exact k c v q h2
  · cases c with
    | nil => simp at h2; exact k [] v q h2.symm
    | cons x c =>
      simp only [List.cons_append, List.cons.injEq] at h2
      obtain ⟨rfl, rfl⟩ := h2
      rcases h p v c h1 with h | ⟨u, hu, h⟩
      · exact .inl h
      · exact .inr ⟨u, List.mem_append_left _ hu, h⟩
theorem Led.nil (nx : List (List Int)) (R : Int → Prop) : Led nx R [] := fun p v q he => by simp at he
/-- The one that leads to all of R is put behind. -/
theorem Led.snoc {nx : List (List Int)} {l : List Int} {b : Int} {row : List Int} (h : Led nx (· ∈ row) l) (hb : idx nx b = some row) : Led nx (· = b) (l ++ [b]) := by
  intro p v q he
  rcases List.append_eq_append_iff.1 he with ⟨c, h1, h2⟩ | ⟨c, h1, h2⟩
  · cases c with
    | nil => simp at h2; exact .inl h2.1.symm
    | cons x c => simp at h2
  · cases c with
    | nil => simp at h2; exact .inl h2.1
    | cons x c =>
      simp only [List.cons_append, List.cons.injEq] at h2
      obtain ⟨rfl, rfl⟩ := h2
      rcases h p v c h1 with h | ⟨u, hu, h⟩
      · exact .inr ⟨b, by simp, row, hb, h⟩
      · exact .inr ⟨u, List.mem_append_left _ hu, h⟩
theorem it_led (nx : List (List Int)) : ∀ (k : Nat) (b : Int) (s : List Bool) (o : List Int) (z : List Bool × List Int), graph_order_1.it k b s nx o = some z → ∃ new, z.2 = o ++ new ∧ Led nx (· = b) new
  | 0, b, s, o, z, h => by simp [graph_order_1.it] at h
  | k + 1, b, s, o, z, h => by
    simp only [graph_order_1.it, graph_order_1.body] at h
    obtain ⟨x, _, h⟩ := bind_some' h
    obtain ⟨row, hrow, h⟩ := bind_some' h
    obtain ⟨q, hq, h⟩ := bind_some' h
    simp only [graph_order_1.nx21] at h
    obtain ⟨c, hc, h⟩ := bind_some' h
    cases h
    have := whl_inv (b := fun (s : List Bool × List Int × Int) => graph_order_1.bd21 nx (graph_order_1.it k) row s.1 s.2.1 s.2.2) (fun t : List Bool × List Int × Int => ∃ new, t.2.1 = o ++ new ∧ Led nx (· ∈ row) new) (fun r : List Bool × List Int => ∃ new, r.2 = o ++ new ∧ Led nx (· ∈ row) new)
      (fun t r hI hb => by
        simp only [graph_order_1.bd21] at hb
        split at hb
        · obtain ⟨y, _, hb⟩ := bind_some' hb
          obtain ⟨y2, _, hb⟩ := bind_some' hb
          split at hb
          · obtain ⟨y3, _, hb⟩ := bind_some' hb; simp [graph_order_1.jn43] at hb
          · simp [graph_order_1.jn43] at hb
        · cases hb; exact hI)
      (fun t t' hI hb => by
        simp only [graph_order_1.bd21] at hb
        split at hb
        · obtain ⟨y, hy, hb⟩ := bind_some' hb
          obtain ⟨y2, _, hb⟩ := bind_some' hb
          split at hb
          · obtain ⟨y3, hy3, hb⟩ := bind_some' hb
            simp only [graph_order_1.jn43] at hb
            cases hb
            obtain ⟨new, h1, h2⟩ := hI
            obtain ⟨new2, h3, h4⟩ := it_led nx k y t.1 t.2.1 y3 hy3
            refine ⟨new ++ new2, by simp only [h3, h1, List.append_assoc], h2.append (h4.mono fun v hv => ?_)⟩
            subst hv
            exact List.mem_of_getElem? (idx_some hy).2.2
          · simp only [graph_order_1.jn43] at hb
            cases hb
            exact hI
        · cases hb) FUEL _ _ ⟨[], by simp, Led.nil _ _⟩ hq
    obtain ⟨new, h1, h2⟩ := this
    refine ⟨new ++ [b], ?_, h2.snoc hrow⟩
    rw [(cat_some hc).2, h1, List.append_assoc]

theorem leads_eq (f : PFunc) (hf : SmF f) (a : Nat) (b : Int) (ha : a < f.blocks.length) : fettleref05_Leads f a b = some (decide (b ∈ f.blocks[a].term.to)) := by
  have ht := (hf.2.2.2 _ (List.getElem_mem ha)).2.2.1
  unfold fettleref05_Leads
  have := scan0 f.blocks[a].term.to (fun i x => if x = b then some true else none) (fun s => fettleref05_Leads.bd16 f a b s) (le_max ht (by omega)) (fun i hi => by
    simp only [fettleref05_Leads.bd16, idx_lt ha, Option.bind_some, len_lt, hi, if_true, idx_lt hi, w64_i hi (show f.blocks[a].term.to.length ≤ 1000 by omega)]
    split <;> rfl) (by simp [fettleref05_Leads.bd16, idx_lt ha, len])
  rcases this with ⟨i, hi, r, hr, _, hw⟩ | ⟨hall, hw⟩
  · rw [hw]
    split at hr
    · rename_i hx
      cases hr
      have : b ∈ f.blocks[a].term.to := hx ▸ List.getElem_mem hi
      simp [this]
    · cases hr
  · rw [hw]
    have : b ∉ f.blocks[a].term.to := by
      intro hm
      obtain ⟨i, hi, he⟩ := List.getElem_of_mem hm
      have := hall i hi
      simp [he] at this
    simp [this, fettleref05_Leads.nx16]

/-- What is known of the order. -/
structure Ord (f : PFunc) (s : List Bool) (R : List Int) : Prop where
  few : R.length ≤ 70
  cnt : R.length = s.count true
  all : ∀ x ∈ R, ∃ v : Nat, x = v ∧ v < f.blocks.length ∧ s.getD v false = true
  nodup : R.Nodup
  head : R = [] ∨ ∃ p, R = 0 :: p
  led : ∀ i (hi : i < R.length), 0 < i → ∃ k, ∃ hk : k < i, ∃ u : Nat, R[k]'(by omega) = (u : Int) ∧ ∃ hu : u < f.blocks.length, R[i] ∈ f.blocks[u].term.to
theorem ord_any (f : PFunc) (hf : SmF f) {s : List Bool} {o : List Int} (hw : Walked f s o) : Ord f s o.reverse := by
  obtain ⟨s1, o1, hw1, h10, h11⟩ := walked_any f hf
  obtain rfl : s1 = s := Option.some.inj (hw1.rea.symm.trans hw.rea)
  have ho : o.reverse = o1.reverse := Option.some.inj (hw.ord.symm.trans hw1.ord)
  obtain rfl : o = o1 := by rw [← List.reverse_reverse o, ho, List.reverse_reverse]
  have hhead : o.reverse = [] ∨ ∃ p, o.reverse = 0 :: p := (order_head f hf hw).imp (fun h => by rw [h]; rfl) id
  have hl := hw.len
  rcases Nat.eq_zero_or_pos f.blocks.length with h0 | hpos
  · obtain ⟨rfl, rfl⟩ := h10 h0
    exact ⟨by simp, by simp, by simp, by simp, hhead, fun i hi => by simp at hi⟩
  · obtain ⟨hV, hs0, hit⟩ := h11 hpos
    obtain ⟨new, hn1, hn2, hn3⟩ := hV.app
    simp only [List.nil_append] at hn1
    subst hn1
    have hfalse : ∀ v, v < f.blocks.length → (List.replicate f.blocks.length false)[v]? = some false := fun v hv => by simp [hv]
    have hmem : ∀ x, x ∈ o ↔ ∃ v : Nat, x = v ∧ v < f.blocks.length ∧ s1.getD v false = true := by
      intro x
      rw [hn3]
      constructor
      · rintro ⟨v, h1, h2, _⟩
        have := sn_iff.1 (show sn s1 v from h2)
        exact ⟨v, h1, by omega, this.2⟩
      · rintro ⟨v, h1, h2, h3⟩
        exact ⟨v, h1, sn_iff.2 ⟨by omega, h3⟩, hfalse v h2⟩
    have hcnt : o.length = s1.count true := by
      have hp : o.Perm ((List.range f.blocks.length).filterMap fun i => if s1.getD i false = true then some (i : Int) else none) := by
        rw [List.perm_ext_iff_of_nodup hn2]
        · intro x
          rw [hmem, List.mem_filterMap]
          constructor
          · rintro ⟨v, h1, h2, h3⟩
            exact ⟨v, List.mem_range.2 h2, by rw [if_pos h3, h1]⟩
          · rintro ⟨v, h1, h2⟩
            split at h2
            · cases h2; exact ⟨v, rfl, List.mem_range.1 h1, ‹_›⟩
            · cases h2
        · rw [List.Nodup, List.pairwise_filterMap]
          refine List.Pairwise.imp ?_ (List.pairwise_lt_range (n := f.blocks.length))
          intro a b hab x hx y hy
          split at hx
          · split at hy
            · cases hx; cases hy; omega
            · cases hy
          · cases hx
      rw [hp.length_eq, ← hl]
      have := fm_len (s := s1) (t := fun i => if s1.getD i false = true then some (i : Int) else none) (fun i _ => by cases s1.getD i false <;> simp) s1.length (Nat.le_refl _)
      rw [this, rk, List.take_length]
    refine ⟨by simpa using hw.few, by simpa using hcnt, fun x hx => (hmem x).1 (List.mem_reverse.1 hx), List.pairwise_reverse.2 (hn2.imp fun h => Ne.symm h), hhead, fun i hi hi0 => ?_⟩
    obtain ⟨new, hnew, hled⟩ := it_led _ _ _ _ _ _ hit
    simp only [List.nil_append] at hnew
    subst hnew
    obtain ⟨p0, hp0⟩ := it_last _ _ _ _ _ _ hit
    simp only at hp0
    have hil : i < o.length := by simpa using hi
    -- the place from the other end
    have hsplit : o = o.take (o.length - 1 - i) ++ o[o.length - 1 - i] :: o.drop (o.length - 1 - i + 1) := by
      rw [List.getElem_cons_drop, List.take_append_drop]
    have hri : o.reverse[i] = o[o.length - 1 - i] := by rw [List.getElem_reverse]
    have hdl : (o.drop (o.length - 1 - i + 1)).length = i := by simp; omega
    rcases hled _ _ _ hsplit with hv | ⟨u, hu, row, hrow, hin⟩
    · -- the first one
      exfalso
      have h1 : o[o.length - 1] = 0 := by
        have : o.length = p0.length + 1 := by rw [hp0]; simp
        have h2 : o[o.length - 1]? = some 0 := by rw [hp0]; simp
        rw [List.getElem?_eq_getElem (by omega)] at h2
        exact Option.some.inj h2
      have := (List.pairwise_iff_getElem.1 hn2) (o.length - 1 - i) (o.length - 1) (by omega) (by omega) (by omega)
      exact this (hv.trans h1.symm)
    · obtain ⟨j, hj, hje⟩ := List.getElem_of_mem hu
      rw [hdl] at hj
      rw [List.getElem_drop] at hje
      refine ⟨i - 1 - j, by omega, ?_⟩
      have hk : o.reverse[i - 1 - j]'(by simp; omega) = u := by
        rw [List.getElem_reverse, ← hje]
        congr 1
        omega
      obtain ⟨v, hv1, hv2, hv3⟩ := (hmem u).1 (by rw [← hk]; exact List.mem_reverse.1 (List.getElem_mem _))
      subst hv1
      refine ⟨v, hk, hv2, ?_⟩
      rw [idx_nat, nexts_get f v hv2] at hrow
      cases hrow
      rw [hri]
      exact (mem_succs.1 hin).1
theorem orders_led (f : PFunc) (hf : SmF f) (s : List Bool) (hs : s.length = f.blocks.length) (R : List Int) (hO : Ord f s R) (i : Nat) (hi : i < R.length) :
    whl (fun (q : (Bool × Int)) => fettlelaw05_GraphOrders.bd180 f R s (i : Int) q.1 q.2) FUEL ((decide ((i : Int) = 0)), 0) = some (.go true) := by
  have h70 := hO.few
  obtain ⟨v, hv1, hv2, hv3⟩ := hO.all _ (List.getElem_mem hi)
  obtain ⟨r, h1, h2⟩ := whl_for (body := fun (q : (Bool × Int)) => fettlelaw05_GraphOrders.bd180 f R s (i : Int) q.1 q.2) (s0 := ((decide ((i : Int) = 0)), 0)) i
    (fun (k : Nat) (q : Bool × Int) => q.2 = (k : Int) ∧ (i = 0 → q.1 = true) ∧ ∀ j (hj : j < k) (hjl : j < R.length) (u : Nat), R[j] = (u : Int) → ∀ hu : u < f.blocks.length, R[i] ∈ f.blocks[u].term.to → q.1 = true) (fun r => r = .go true) (le_max (show i ≤ 70 by omega) (by omega))
    (fun k q hk hI => by
      obtain ⟨b, j⟩ := q
      obtain ⟨rfl, g1, g2⟩ := hI
      simp only at g1 g2
      have hkl : k < R.length := by omega
      obtain ⟨u, hu1, hu2, hu3⟩ := hO.all _ (List.getElem_mem hkl)
      have hne : ¬ (u : Int) = (v : Int) := by
        intro he
        have := (List.pairwise_iff_getElem.1 hO.nodup) k i hkl hi hk
        exact this (by rw [hu1, hv1, he])
      have hsv : idx s (v : Int) = some true := by
        rw [idx_nat]
        have : sn s v := sn_iff.2 ⟨by omega, hv3⟩
        exact this
      refine .inr ⟨_, by
        simp only [fettlelaw05_GraphOrders.bd180]
        rw [if_pos (by omega)]
        simp only [idx_lt hi, idx_lt hkl, Option.bind_some, hv1, hu1]
        rw [if_neg (by omega)]
        simp only [Option.bind_some, len]
        have e1 : decide ((v : Int) ≥ (s.length : Int)) = false := by simp; omega
        rw [e1, if_neg (by simp)]
        have e2 : decide ((u : Int) = (v : Int)) = false := by simpa using hne
        simp only [Option.bind_some, e2]
        rw [if_neg (by simp)]
        simp only [Option.bind_some, hsv, leads_eq f hf u _ hu2]
        simp only [Bool.not_true, Bool.false_eq_true, if_false]
        rfl, w64_i hk (by omega), fun h0 => ?_, fun j hj hjl u' hu' hul hin => ?_⟩
      · simp [g1 h0]
      · simp only [decide_eq_true_eq, Bool.decide_or, Bool.or_eq_true]
        rcases Nat.lt_succ_iff_lt_or_eq.1 hj with h | h
        · exact .inl (g2 j h hjl u' hu' hul hin)
        · subst h
          right
          have : u' = u := by rw [hu1] at hu'; omega
          subst this
          simpa [hv1] using hin)
    (fun q hI => by
      obtain ⟨b, j⟩ := q
      obtain ⟨rfl, g1, g2⟩ := hI
      simp only at g1 g2
      have hb : b = true := by
        rcases Nat.eq_zero_or_pos i with h0 | h0
        · exact g1 h0
        · obtain ⟨k, hk, u, hu1, hu2, hu3⟩ := hO.led i hi h0
          exact g2 k hk (by omega) u hu1 hu2 hu3
      subst hb
      exact ⟨_, by simp [fettlelaw05_GraphOrders.bd180], rfl⟩)
    ⟨rfl, fun h => by simp [h], fun j hj => by omega⟩
  rw [h1, h2]
theorem pure_graphOrders (f : PFunc) (h : wfFunc f) : fettlelaw05_GraphOrders f = some true := by
  unfold fettlelaw05_GraphOrders
  rw [up05]
  obtain ⟨b, hb, hsm⟩ := small05 f
  rw [hb]
  simp only [Option.bind_some]
  cases b with
  | false => simp
  | true =>
    have hf := hsm rfl
    obtain ⟨s, o, hw, _, _⟩ := walked_any f hf
    have hO := ord_any f hf hw
    have hl := hw.len
    have hn := hf.1
    simp only [Bool.not_true, Bool.false_eq_true, if_false, hw.ord, hw.rea, Option.bind_some]
    have hc : whl (fun (q : (Int × Int)) => fettlelaw05_GraphOrders.bd43 s q.1 q.2) FUEL (0, 0) = some ((s.count true : Nat) : Int) := by
      have := whl_run (body := fun (q : (Int × Int)) => fettlelaw05_GraphOrders.bd43 s q.1 q.2) (r := ((s.count true : Nat) : Int)) s.length FUEL (fun i => ((rk s i : Nat), (i : Int))) (fun i hi => by
        have hr := rk_le s i (by omega)
        have hg : s.getD i false = s[i] := by simp [List.getD_eq_getElem?_getD, hi]
        simp only [fettlelaw05_GraphOrders.bd43, len_lt, hi, if_true, idx_lt hi, Option.bind_some]
        rw [rk_succ s i hi, hg]
        by_cases hb : s[i] = true
        · rw [if_pos hb, if_pos hb]
          simp only [fettlelaw05_GraphOrders.jn312, w64_i hi (show s.length ≤ 1000 by omega), w64_succ (n := rk s i) (by omega)]
        · rw [if_neg hb, if_neg hb]
          simp only [fettlelaw05_GraphOrders.jn312, w64_i hi (show s.length ≤ 1000 by omega), Nat.add_zero]) (by simp [fettlelaw05_GraphOrders.bd43, len, rk]) (lt_FUEL (le_max (show s.length ≤ 70 by omega) (by omega)))
      simpa [rk] using this
    rw [hc]
    simp only [Option.bind_some, fettlelaw05_GraphOrders.nx43]
    have e1 : ¬ (¬ len o.reverse = ((s.count true : Nat) : Int)) := by
      have := hO.cnt
      simp only [len]; omega
    rw [if_neg e1]
    have e2 : (if ((s.count true : Nat) : Int) > 0 then (idx o.reverse 0).bind fun x109 => some (decide (¬ x109 = 0)) else some false) = some false := by
      split
      · rename_i hpos
        rcases hO.head with h | ⟨p, hp⟩
        · have := hO.cnt
          rw [h] at this; simp at this; omega
        · rw [hp]; simp [idx]
      · rfl
    rw [e2]
    simp only [Option.bind_some, Bool.false_eq_true, if_false]
    have hlp : whl (fun (q : Int) => fettlelaw05_GraphOrders.bd83 f o.reverse s q) FUEL 0 = some (.go ()) := by
      have := whl_run (body := fun (q : Int) => fettlelaw05_GraphOrders.bd83 f o.reverse s q) (r := (.go () : Ex Bool Unit)) o.reverse.length FUEL (fun i => (i : Int)) (fun i hi => by
        simp only [fettlelaw05_GraphOrders.bd83, len_lt, hi, if_true, orders_led f hf s hl _ hO i hi, Option.bind_some, fettlelaw05_GraphOrders.nx180, Bool.not_true, Bool.false_eq_true, if_false, w64_i hi (show o.reverse.length ≤ 1000 by have := hO.few; omega)]) (by simp [fettlelaw05_GraphOrders.bd83, len]) (lt_FUEL (le_max hO.few (by omega)))
      exact this
    rw [hlp]
    simp only [Option.bind_some, fettlelaw05_GraphOrders.nx83, trim_eq f hf hw]
    have hg := trimF_small f hf s
    obtain ⟨s', o', hw', _, _⟩ := walked_any (trimF f s) hg
    have hs' := trim_reached f hf hw hw'
    simp only [trim_eq _ hg hw', Option.bind_some]
    subst hs'
    have hng := hg.1
    have hla : whl (fun (q : Int) => fettlelaw05_GraphOrders.bd111 (trimF (trimF f s) (List.replicate (trimF f s).blocks.length true), numF (List.replicate (trimF f s).blocks.length true)) q) FUEL 0 = some (.go ()) := by
      have hnl : (numF (List.replicate (trimF f s).blocks.length true)).length = (trimF f s).blocks.length := by rw [numF_length, List.length_replicate]
      have := whl_run (body := fun (q : Int) => fettlelaw05_GraphOrders.bd111 (trimF (trimF f s) (List.replicate (trimF f s).blocks.length true), numF (List.replicate (trimF f s).blocks.length true)) q) (r := (.go () : Ex Bool Unit)) (trimF f s).blocks.length FUEL (fun i => (i : Int)) (fun i hi => by
        have hi' : i < (numF (List.replicate (trimF f s).blocks.length true)).length := by omega
        have hv : (numF (List.replicate (trimF f s).blocks.length true))[i] = (i : Int) := by
          have h1 := numF_get (List.replicate (trimF f s).blocks.length true) i (by simpa using hi)
          rw [List.getElem?_eq_getElem hi'] at h1
          have h2 := Option.some.inj h1
          rw [h2, List.getElem_replicate, if_pos rfl]
          have := rk_true (trimF f s).blocks.length i (by omega)
          unfold rk at this
          rw [this]
        simp only [fettlelaw05_GraphOrders.bd111, len_lt, hi', if_true, idx_lt hi', Option.bind_some, hv, w64_i hi (show (trimF f s).blocks.length ≤ 1000 by omega)]
        simp) (by simp [fettlelaw05_GraphOrders.bd111, len, hnl]) (lt_FUEL (le_max hng (by omega)))
      exact this
    rw [hla]
    simp only [Option.bind_some, fettlelaw05_GraphOrders.nx111, trimF_true, sameFunc_eq _ _ hg, decide_true]
    have : len (trimF f s).blocks = ((s.count true : Nat) : Int) := by simp only [len]; rw [trimF_len f s hl]
    rw [if_pos ⟨trivial, this⟩]; rfl
end Go.Proofs.Ytoflleabpkgdpaa
