/- Plain laws, part J: what is small; the law GraphNext. No conditions. -/
import Derived.Test.YtoflleabpkgdpaaPuI
set_option linter.unusedVariables false
set_option linter.unusedSimpArgs false
namespace Go.Proofs.Ytoflleabpkgdpaa
open Go Go.Proofs

theorem scan_all {α : Type} (xs : List α) (hl : xs.length ≤ maxLen) (Q : α → Prop) (body : Int → Option (Ex (Ex Bool Unit) Int))
    (h : ∀ i (hi : i < xs.length), body (i : Int) = some (.ret (.ret false)) ∨ (body (i : Int) = some (.go ((i + 1 : Nat) : Int)) ∧ Q xs[i])) (he : body (xs.length : Int) = some (.ret (.go ()))) :
    whl body FUEL 0 = some (.ret false) ∨ (whl body FUEL 0 = some (.go ()) ∧ ∀ x ∈ xs, Q x) := by
  have key := whl_ex (body := body) (fun s : Int => ∃ i : Nat, s = i ∧ i ≤ xs.length ∧ ∀ x ∈ xs.take i, Q x) (fun s => xs.length - s.toNat) (fun z : Ex Bool Unit => z = .ret false ∨ (z = .go () ∧ ∀ x ∈ xs, Q x)) (by
    rintro s ⟨i, rfl, hi, hq⟩
    rcases Nat.lt_or_ge i xs.length with hlt | hge
    · rcases h i hlt with hb | ⟨hb, hx⟩
      · exact .inl ⟨_, hb, .inl rfl⟩
      · refine .inr ⟨_, hb, ⟨i + 1, rfl, hlt, fun x hx' => ?_⟩, by simp; omega⟩
        rw [List.take_succ_eq_append_getElem hlt, List.mem_append, List.mem_singleton] at hx'
        rcases hx' with hx' | rfl
        · exact hq x hx'
        · exact hx
    · have : i = xs.length := by omega
      subst this
      exact .inl ⟨_, he, .inr ⟨rfl, fun x hx => hq x (by rw [List.take_length]; exact hx)⟩⟩) FUEL 0 ⟨0, rfl, Nat.zero_le _, by simp⟩ (by simp; exact lt_FUEL hl)
  obtain ⟨r, hr, rfl | ⟨rfl, hq⟩⟩ := key
  · exact .inl hr
  · exact .inr ⟨hr, hq⟩
def SmB (B : PBlock) : Prop := B.ins.length ≤ 300 ∧ B.phis.length ≤ 300 ∧ B.term.to.length ≤ 70 ∧ (∀ i ∈ B.ins, i.args.length ≤ 300) ∧ ∀ p ∈ B.phis, p.args.length ≤ 300
def SmF (f : PFunc) : Prop := f.blocks.length ≤ 70 ∧ f.regs.length ≤ 300 ∧ f.params ≤ 1000 ∧ ∀ B ∈ f.blocks, SmB B
def SmM (m : PModule) : Prop := m.funcs.length ≤ 40 ∧ ∀ f ∈ m.funcs, SmF f
theorem le_max {n m : Nat} (h : n ≤ m) (hm : m ≤ 1000) : n ≤ maxLen := by simp only [maxLen]; omega
theorem small_phis (B : PBlock) (h : B.phis.length ≤ 300) : whl (fun s => fettleref02_Small.bd153 B s) FUEL 0 = some (.ret false) ∨ (whl (fun s => fettleref02_Small.bd153 B s) FUEL 0 = some (.go ()) ∧ ∀ p ∈ B.phis, p.args.length ≤ 300) :=
  scan_all B.phis (le_max h (by omega)) (fun p => p.args.length ≤ 300) _ (fun i hi => by
    simp only [fettleref02_Small.bd153, len_lt, hi, if_true, idx_lt hi, Option.bind_some, w64_at hi (le_max h (by omega))]
    by_cases hc : len B.phis[i].args > 300
    · exact .inl (by rw [if_pos hc])
    · exact .inr ⟨by rw [if_neg hc], by simp only [len] at hc; omega⟩) (by simp [fettleref02_Small.bd153, len])
theorem small_ins (B : PBlock) (h : B.ins.length ≤ 300) : whl (fun s => fettleref02_Small.bd133 B s) FUEL 0 = some (.ret false) ∨ (whl (fun s => fettleref02_Small.bd133 B s) FUEL 0 = some (.go ()) ∧ ∀ p ∈ B.ins, p.args.length ≤ 300) :=
  scan_all B.ins (le_max h (by omega)) (fun p => p.args.length ≤ 300) _ (fun i hi => by
    simp only [fettleref02_Small.bd133, len_lt, hi, if_true, idx_lt hi, Option.bind_some, w64_at hi (le_max h (by omega))]
    by_cases hc : len B.ins[i].args > 300
    · exact .inl (by rw [if_pos hc])
    · exact .inr ⟨by rw [if_neg hc], by simp only [len] at hc; omega⟩) (by simp [fettleref02_Small.bd133, len])
theorem small_blocks (f : PFunc) (h : f.blocks.length ≤ 70) : whl (fun s => fettleref02_Small.bd73 f s) FUEL 0 = some (.ret false) ∨ (whl (fun s => fettleref02_Small.bd73 f s) FUEL 0 = some (.go ()) ∧ ∀ B ∈ f.blocks, SmB B) :=
  scan_all f.blocks (le_max h (by omega)) SmB _ (fun i hi => by
    simp only [fettleref02_Small.bd73, len_lt, hi, if_true, idx_lt hi, Option.bind_some]
    by_cases hc : (len f.blocks[i].ins > 300 ∨ len f.blocks[i].phis > 300) ∨ len f.blocks[i].term.to > 70
    · exact .inl (by rw [if_pos hc])
    · rw [if_neg hc]
      simp only [len, not_or] at hc
      have h1 : f.blocks[i].ins.length ≤ 300 := by omega
      have h2 : f.blocks[i].phis.length ≤ 300 := by omega
      rcases small_ins f.blocks[i] h1 with hw | ⟨hw, hq⟩
      · rw [hw]; exact .inl rfl
      · rw [hw]
        simp only [Option.bind_some, fettleref02_Small.nx133]
        rcases small_phis f.blocks[i] h2 with hw' | ⟨hw', hq'⟩
        · rw [hw']; exact .inl rfl
        · rw [hw']
          exact .inr ⟨by simp only [Option.bind_some, fettleref02_Small.nx153, w64_at hi (le_max h (by omega))], h1, h2, by omega, hq, hq'⟩) (by simp [fettleref02_Small.bd73, len])
theorem small_ok (m : PModule) : ∃ b, fettleref02_Small m = some b ∧ (b = true → SmM m) := by
  unfold fettleref02_Small
  by_cases hc : len m.funcs > 40
  · exact ⟨false, by rw [if_pos hc], fun h => by cases h⟩
  rw [if_neg hc]
  have hl : m.funcs.length ≤ 40 := by simp only [len] at hc; omega
  have := scan_all m.funcs (le_max hl (by omega)) SmF (fun s => fettleref02_Small.bd21 m s) (fun i hi => by
    simp only [fettleref02_Small.bd21, len_lt, hi, if_true, idx_lt hi, Option.bind_some]
    by_cases hc : (len m.funcs[i].blocks > 70 ∨ len m.funcs[i].regs > 300) ∨ m.funcs[i].params > 1000
    · exact .inl (by rw [if_pos hc])
    · rw [if_neg hc]
      simp only [len, not_or] at hc
      have h1 : m.funcs[i].blocks.length ≤ 70 := by omega
      rcases small_blocks m.funcs[i] h1 with hw | ⟨hw, hq⟩
      · rw [hw]; exact .inl rfl
      · rw [hw]
        exact .inr ⟨by simp only [Option.bind_some, fettleref02_Small.nx73, w64_at hi (le_max hl (by omega))], h1, by omega, by omega, hq⟩) (by simp [fettleref02_Small.bd21, len])
  rcases this with hw | ⟨hw, hq⟩
  · rw [hw]; exact ⟨false, rfl, fun h => by cases h⟩
  · rw [hw]; exact ⟨true, rfl, fun _ => ⟨hl, hq⟩⟩
theorem small05 (f : PFunc) : ∃ b, fettlelaw05_small f = some b ∧ (b = true → SmF f) := by
  obtain ⟨b, h1, h2⟩ := small_ok ⟨[f]⟩
  exact ⟨b, by unfold fettlelaw05_small; rw [h1]; rfl, fun hb => (h2 hb).2 f (by simp)⟩

theorem pure_graphNext (f : PFunc) (h : wfFunc f) : fettlelaw05_GraphNext f = some true := by
  unfold fettlelaw05_GraphNext
  rw [up05]
  obtain ⟨b, hb, hsm⟩ := small05 f
  rw [hb]
  simp only [Option.bind_some]
  cases b with
  | false => simp
  | true =>
    obtain ⟨hn, _, _, hB⟩ := hsm rfl
    have ht : ∀ B ∈ f.blocks, B.term.to.length ≤ 70 := fun B hm => (hB B hm).2.2.1
    simp only [Bool.not_true, Bool.false_eq_true, if_false, graphNext_eq f hn ht, Option.bind_some]
    rcases Nat.eq_zero_or_pos f.blocks.length with h0 | hpos
    · have hbl : f.blocks = [] := List.eq_nil_of_length_eq_zero h0
      have hx : nexts f = [] := by simp [nexts, hbl]
      have hF : fettleref05_From f 0 (-1) = some [] := by
        unfold fettleref05_From
        have := mkl_rep false (n := 0) (by omega)
        simp only [List.replicate_zero] at this
        simp only [len, h0]
        rw [this]
        simp
      have hO : fettleref05_Order f = some [] := by
        unfold fettleref05_Order
        rw [if_pos (by simp only [len]; omega)]
      simp only [graph_Reached, graph_Order, order_nil f h0, Option.bind_some, hF, hx, len, List.length_nil, h0, hO, ints_eq [] [] (by simp)]
      have hw : whl (fun s => fettlelaw05_GraphNext.bd79 f [] [] [] s) FUEL 0 = some (.go ()) := by
        have := whl_run (body := fun s => fettlelaw05_GraphNext.bd79 f [] [] [] s) (r := (.go () : Ex Bool Unit)) 0 FUEL (fun i => (i : Int)) (fun i hi => by omega) (by simp [fettlelaw05_GraphNext.bd79, len]) (lt_FUEL (Nat.zero_le _))
        exact this
      simp [hw, fettlelaw05_GraphNext.nx79]
    · obtain ⟨s, o, hit, hV, hs0, ho⟩ := walked f hn ht hpos
      have hsl : s.length = f.blocks.length := by rw [hV.len]; simp
      simp only [graph_Reached, graph_Order, order_eq f hn ht hpos hit ho, Option.bind_some, from_eq f hn ht hpos hV hs0, refOrder_eq f hn ht hpos hit ho, len, nexts_length, hsl, ints_eq o.reverse o.reverse (by simp only [List.length_reverse, maxLen]; omega)]
      have hw : whl (fun t => fettlelaw05_GraphNext.bd79 f (nexts f) s s t) FUEL 0 = some (.go ()) := by
        have := whl_run (body := fun t => fettlelaw05_GraphNext.bd79 f (nexts f) s s t) (r := (.go () : Ex Bool Unit)) f.blocks.length FUEL (fun i => (i : Int)) (fun i hi => by
          have hi1 : i < (nexts f).length := by rw [nexts_length]; exact hi
          have hi2 : i < s.length := by omega
          have hr : (nexts f)[i] = succs f.blocks.length (f.blocks[i]).term.to := by simp [nexts]
          have hlen := (nexts_rows f ht i _ (List.getElem?_eq_getElem hi1)).1
          rw [hr] at hlen
          simp only [fettlelaw05_GraphNext.bd79, len_lt, hi1, if_true, idx_lt hi1, idx_lt hi2, Option.bind_some, refNext_eq f i hi (le_max hn (by omega)) (ht _ (List.getElem_mem hi)), hr, ints_eq _ _ (le_max hlen (by omega)), fettlelaw05_GraphNext.jn103, w64_at hi (le_max hn (by omega))]
          simp) (by simp [fettlelaw05_GraphNext.bd79, len, nexts_length]) (lt_FUEL (le_max hn (by omega)))
        exact this
      simp [hw, fettlelaw05_GraphNext.nx79]
end Go.Proofs.Ytoflleabpkgdpaa
