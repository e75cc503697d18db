/- Plain laws, part F: the reference walks as the program does; both orders; rows turned round. No conditions. -/
import Derived.Test.YtoflleabpkgdpaaPuE
set_option linter.unusedVariables false
set_option linter.unusedSimpArgs false
namespace Go.Proofs.Ytoflleabpkgdpaa
open Go

theorem whl_congr {ρ σ : Type} {b b' : σ → Option (Ex ρ σ)} (I : σ → Prop) (h : ∀ s, I s → b s = b' s ∧ ∀ s', b s = some (.go s') → I s') : ∀ (k : Nat) (s : σ), I s → whl b k s = whl b' k s
  | 0, s, _ => rfl
  | k + 1, s, hI => by
    obtain ⟨h1, h2⟩ := h s hI
    simp only [whl, ← h1]
    cases hb : b s with
    | none => rfl
    | some x =>
      cases x with
      | ret r => rfl
      | go s' => exact whl_congr I h k s' (h2 s' hb)
theorem whl_inv {ρ σ : Type} {b : σ → Option (Ex ρ σ)} (I : σ → Prop) (R : ρ → Prop) (h1 : ∀ s r, I s → b s = some (.ret r) → R r) (h2 : ∀ s s', I s → b s = some (.go s') → I s') :
    ∀ (k : Nat) (s : σ) (r : ρ), I s → whl b k s = some r → R r
  | 0, s, r, _, h => by simp [whl] at h
  | k + 1, s, r, hI, h => by
    simp only [whl] at h
    cases hb : b s with
    | none => rw [hb] at h; simp at h
    | some x =>
      rw [hb] at h
      cases x with
      | ret r' => simp at h; subst h; exact h1 s _ hI hb
      | go s' => exact whl_inv I R h1 h2 k s' r (h2 s s' hI hb) h

theorem it_len (nx : List (List Int)) : ∀ (k : Nat) (b : Int) (s : List Bool) (o : List Int) (z : List Bool × List Int), graph_order_1.it k b s nx o = some z → z.1.length = s.length
  | 0, b, s, o, z, h => by simp [graph_order_1.it] at h
  | k + 1, b, s, o, z, h => by
    simp only [graph_order_1.it, graph_order_1.body] at h
    obtain ⟨x, _, h⟩ := bind_some' h
    obtain ⟨row, _, h⟩ := bind_some' h
    obtain ⟨q, hq, h⟩ := bind_some' h
    have hl := whl_inv (fun t : List Bool × List Int × Int => t.1.length = s.length) (fun r : List Bool × List Int => r.1.length = s.length) (fun t r hI hb => by
      simp only [graph_order_1.bd21] at hb
      split at hb
      · obtain ⟨u, _, hb⟩ := bind_some' hb
        obtain ⟨v, _, hb⟩ := bind_some' hb
        split at hb
        · obtain ⟨w, _, hb⟩ := bind_some' hb
          simp [graph_order_1.jn43] at hb
        · simp [graph_order_1.jn43] at hb
      · simp at hb; subst hb; exact hI) (fun t t' hI hb => by
      simp only [graph_order_1.bd21] at hb
      split at hb
      · obtain ⟨u, _, hb⟩ := bind_some' hb
        obtain ⟨v, _, hb⟩ := bind_some' hb
        split at hb
        · obtain ⟨w, hw, hb⟩ := bind_some' hb
          simp [graph_order_1.jn43] at hb; subst hb
          exact (it_len nx k _ _ _ _ hw).trans hI
        · simp [graph_order_1.jn43] at hb; subst hb; exact hI
      · simp at hb) FUEL _ _ (by simp) hq
    simp only [graph_order_1.nx21] at h
    obtain ⟨u, _, h⟩ := bind_some' h
    simp at h; subst h
    exact hl
theorem done_eq (f : PFunc) (hn : f.blocks.length ≤ 70) (ht : ∀ B ∈ f.blocks, B.term.to.length ≤ 70) :
    ∀ (k : Nat) (b : Int) (s : List Bool) (o : List Int), s.length = f.blocks.length → fettleref05_done.it k f b s o = (graph_order_1.it k b s (nexts f) o).map fun z => (z.2, z.1)
  | 0, b, s, o, _ => rfl
  | k + 1, b, s, o, hl => by
    simp only [graph_order_1.it, graph_order_1.body, fettleref05_done.it, fettleref05_done.body]
    cases hb : idx s b with
    | none => rfl
    | some x =>
      obtain ⟨h0, hlt, _⟩ := idx_some hb
      obtain ⟨v, rfl⟩ : ∃ v : Nat, b = v := ⟨b.toNat, by omega⟩
      have hvl : v < f.blocks.length := by simp only [Int.toNat_natCast] at hlt; omega
      have hrow : idx (nexts f) (v : Int) = some (succs f.blocks.length (f.blocks[v]).term.to) := by
        rw [idx_lt (by rw [nexts_length]; exact hvl)]; simp [nexts]
      simp only [Option.bind_some, refNext_eq f v hvl (by simp only [maxLen]; omega) (ht _ (List.getElem_mem hvl)), hrow]
      have hw := whl_congr (b := fun (q : List Bool × List Int × Int) => fettleref05_done.bd25 f (fettleref05_done.it k) (succs f.blocks.length (f.blocks[v]).term.to) q.1 q.2.1 q.2.2)
        (b' := fun (q : List Bool × List Int × Int) => graph_order_1.bd21 (nexts f) (graph_order_1.it k) (succs f.blocks.length (f.blocks[v]).term.to) q.1 q.2.1 q.2.2) (fun q => q.1.length = f.blocks.length) (fun q hq => by
          simp only [fettleref05_done.bd25, graph_order_1.bd21]
          split
          · cases hi : idx (succs f.blocks.length (f.blocks[v]).term.to) q.2.2 with
            | none => simp
            | some t =>
              simp only [Option.bind_some]
              cases hj : idx q.1 t with
              | none => simp
              | some u =>
                simp only [Option.bind_some]
                cases u with
                | true => simp [fettleref05_done.jn48, graph_order_1.jn43]; exact hq
                | false =>
                  simp only [Bool.not_false, if_true, done_eq f hn ht k t q.1 q.2.1 hq]
                  cases hz : graph_order_1.it k t q.1 (nexts f) q.2.1 with
                  | none => simp
                  | some z =>
                    simp [fettleref05_done.jn48, graph_order_1.jn43]
                    exact (it_len _ _ _ _ _ _ hz).trans hq
          · simp) FUEL (s.set v true, o, 0) (by simpa using hl)
      simp only [Int.toNat_natCast]
      rw [hw]
      cases whl (fun (q : List Bool × List Int × Int) => graph_order_1.bd21 (nexts f) (graph_order_1.it k) (succs f.blocks.length (f.blocks[v]).term.to) q.1 q.2.1 q.2.2) FUEL (s.set v true, o, 0) with
      | none => rfl
      | some z =>
        simp only [Option.bind_some, fettleref05_done.nx25, graph_order_1.nx21]
        cases cat z.2 [(v : Int)] <;> rfl
end Go.Proofs.Ytoflleabpkgdpaa
