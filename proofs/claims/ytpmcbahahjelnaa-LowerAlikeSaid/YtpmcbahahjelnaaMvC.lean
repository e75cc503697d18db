/- LowerAlike, the plain law. No conditions. -/
import Derived.Test.YtpmcbahahjelnaaMvB
import Derived.Test.YtpmcbahahjelnaaOp
set_option linter.unusedVariables false
set_option linter.unusedSimpArgs false
namespace Go.Proofs.Ytpmcbahahjelnaa
open Go Go.Proofs

theorem up_true : fettlelaw14_up = some true := by kernel_rfl
theorem want_ok (P : List PPair) (hP : P.length ≤ 300) (V : List Int) (hM : MayOk P V.length) :
    ∃ w, whl (fun (s : (List Int × Int)) => fettlelaw14_LowerAlike.bd39 P V s.1 s.2) FUEL (V, 0) = some w ∧ (w.length = V.length ∧ ∀ x, ok V.length x → (∀ s, (⟨x, s⟩ : PPair) ∈ P → nu w x = nu V s) ∧ (x ∉ dsts P → nu w x = nu V x)) := by
  have hm := le_max hP (by omega)
  refine whl_for (σ := List Int × Int) (s0 := (V, 0)) P.length (fun i s => s.2 = (i : Int) ∧ s.1.length = V.length ∧ ∀ x, ok V.length x → (∀ s', (⟨x, s'⟩ : PPair) ∈ P.take i → nu s.1 x = nu V s') ∧ (x ∉ dsts (P.take i) → nu s.1 x = nu V x)) (fun w => w.length = V.length ∧ ∀ x, ok V.length x → (∀ s, (⟨x, s⟩ : PPair) ∈ P → nu w x = nu V s) ∧ (x ∉ dsts P → nu w x = nu V x)) hm ?_ ?_ ⟨rfl, rfl, fun x hx => ⟨fun s h => by simp at h, fun _ => rfl⟩⟩
  · rintro i ⟨w, k⟩ hi ⟨hk, hl, hI⟩
    dsimp only at hk hl hI
    subst hk
    obtain ⟨hp1, hp2⟩ := hM.2 _ (List.getElem_mem hi)
    have o1 : ok w.length P[i].a := by rw [hl]; exact hp1
    refine .inr ⟨(w.set (P[i].a).toNat (nu V P[i].b), ((i + 1 : Nat) : Int)), by simp only [fettlelaw14_LowerAlike.bd39, len_lt, hi, if_true, idx_lt hi, Option.bind_some, idx_nu (show ok V.length P[i].b from hp2), idx_nu o1, w64_at hi hm], rfl, by simpa using hl, fun x hx => ?_⟩
    dsimp only
    rw [nu_set o1 (by rw [hl]; exact hx), List.take_succ_eq_append_getElem hi]
    have hdt : dsts (P.take i ++ [P[i]]) = dsts (P.take i) ++ [P[i].a] := by unfold dsts; rw [List.map_append]; rfl
    refine ⟨fun s hs => ?_, fun hd => ?_⟩
    · rcases List.mem_append.1 hs with hs | hs
      · have hne : x ≠ P[i].a := fun he => by
          have hnd : (dsts (P.take (i + 1))).Nodup := hM.1.sublist ((List.take_sublist _ _).map _)
          rw [List.take_succ_eq_append_getElem hi, hdt, List.nodup_append] at hnd
          exact hnd.2.2 x (List.mem_map.2 ⟨_, hs, rfl⟩) _ (List.mem_singleton.2 rfl) he
        rw [if_neg hne]
        exact (hI x hx).1 s hs
      · have := List.mem_singleton.1 hs
        rw [if_pos (by rw [← this])]
        rw [← this]
    · rw [hdt, List.mem_append, List.mem_singleton] at hd
      rw [if_neg (fun h => hd (.inr h))]
      exact (hI x hx).2 (fun h => hd (.inl h))
  · rintro ⟨w, k⟩ ⟨hk, hl, hI⟩
    dsimp only at hk hl hI
    subst hk
    rw [List.take_length] at hI
    exact ⟨w, by simp [fettlelaw14_LowerAlike.bd39, len], hl, hI⟩
theorem got_ok (P out : List PPair) (fresh : List Int) (e : GErr) (V : List Int) (G : List Int) (hG : G.length = V.length + fresh.length) (hol : out.length ≤ 1000) (hO : ∀ p, p ∈ out → (0 ≤ p.a ∧ p.a < (V.length : Int) + fresh.length) ∧ (0 ≤ p.b ∧ p.b < (V.length : Int) + fresh.length)) :
    ∃ w, whl (fun (s : (List Int × Int)) => fettlelaw14_LowerAlike.bd50 (out, fresh, e) s.1 s.2) FUEL (G, 0) = some (.go w) ∧ w.length = G.length ∧ ∀ x, ok G.length x → nu w x = runL out (nu G) x := by
  have hm := le_max hol (by omega)
  obtain ⟨z, hz, w, rfl, h1, h2⟩ := whl_for (σ := List Int × Int) (s0 := (G, 0)) (body := fun s => fettlelaw14_LowerAlike.bd50 (out, fresh, e) s.1 s.2) out.length (fun i s => s.2 = (i : Int) ∧ s.1.length = G.length ∧ ∀ x, ok G.length x → nu s.1 x = runL (out.take i) (nu G) x) (fun z => ∃ w, z = .go w ∧ w.length = G.length ∧ ∀ x, ok G.length x → nu w x = runL out (nu G) x) hm (by
    rintro i ⟨w, k⟩ hi ⟨hk, hl, hI⟩
    dsimp only at hk hl hI
    subst hk
    obtain ⟨hp1, hp2⟩ := hO _ (List.getElem_mem hi)
    have g1 : ok G.length out[i].a := ⟨hp1.1, by rw [hG]; omega⟩
    have g2 : ok G.length out[i].b := ⟨hp2.1, by rw [hG]; omega⟩
    have o1 : ok w.length out[i].a := by rw [hl]; exact g1
    have o2 : ok w.length out[i].b := by rw [hl]; exact g2
    have c1 : ¬ out[i].a < 0 := by omega
    have c2 : ¬ out[i].a ≥ len w := by simp only [len]; have := o1.2; omega
    have c3 : ¬ out[i].b < 0 := by omega
    have c4 : ¬ out[i].b ≥ len w := by simp only [len]; have := o2.2; omega
    refine .inr ⟨(w.set (out[i].a).toNat (nu w out[i].b), ((i + 1 : Nat) : Int)), by simp only [fettlelaw14_LowerAlike.bd50, len_lt, hi, if_true, idx_lt hi, Option.bind_some, c1, c2, c3, c4, if_false, decide_false, Bool.false_eq_true, idx_nu o1, idx_nu o2, w64_at hi hm], rfl, by simpa using hl, fun x hx => ?_⟩
    dsimp only
    rw [nu_set o1 (by rw [hl]; exact hx), List.take_succ_eq_append_getElem hi, runL_snoc]
    unfold put1
    split
    · exact hI _ g2
    · exact hI x hx) (by
    rintro ⟨w, k⟩ ⟨hk, hl, hI⟩
    dsimp only at hk hl hI
    subst hk
    rw [List.take_length] at hI
    exact ⟨_, by simp [fettlelaw14_LowerAlike.bd50, len], w, rfl, hl, hI⟩) ⟨rfl, rfl, fun x hx => rfl⟩
  exact ⟨w, hz, h1, h2⟩
theorem pure_lowerAlike (P : List PPair) (V : List Int) (h1 : okL wfPair P) (h2 : okL inI64 V) : fettlelaw14_LowerAlike P V = some true := by
  unfold fettlelaw14_LowerAlike
  simp only [up_true, Option.bind_some]
  by_cases hc : (len P > 300 ∨ len V > 300) ∨ len V = 0
  · rw [if_pos hc]
  rw [if_neg hc]
  have hPl : P.length ≤ 300 := by
    have : ¬ len P > 300 := fun h => hc (.inl (.inl h))
    simp only [len] at this; omega
  have hVl : V.length ≤ 300 := by
    have : ¬ len V > 300 := fun h => hc (.inl (.inr h))
    simp only [len] at this; omega
  have hV0 : V.length ≠ 0 := by
    have : ¬ len V = 0 := fun h => hc (.inr h)
    simp only [len] at this; omega
  have hlenV : len V = (V.length : Int) := rfl
  obtain ⟨b, hb1, hb2⟩ := may_eq P hPl (len V)
  rcases moves_eq P hPl (len V) ⟨by rw [hlenV]; omega, by rw [hlenV]; omega⟩ with ⟨hM, hmv⟩ | ⟨hM, out, fresh, hmv, b', hU⟩
  · have hbf : b = false := by
      cases b with
      | false => rfl
      | true => exact absurd (hb2.1 rfl) hM
    subst hbf
    simp [hmv, hb1]
  · have hbt := hb2.2 hM
    subst hbt
    have hU0 := hU (fun _ => 0)
    obtain ⟨_, _, hcnt, hhalf⟩ := hU0.done
    have hcat : cat ([] : List Int) V = some V := cat_nil (by omega)
    have hVne : V ≠ [] := fun h => hV0 (by rw [h]; rfl)
    have hcz : catZ V (len fresh) = some (V ++ List.replicate fresh.length 0) := by
      unfold catZ
      rw [if_pos ⟨hVne, by simp only [len]; omega⟩]
      have : (len fresh).toNat = fresh.length := by simp [len]
      rw [this]
      exact cat_ok (by simp only [LIM, List.length_replicate]; omega)
    obtain ⟨w, hw, hwl, hww⟩ := want_ok P hPl V hM
    have hGl : (V ++ List.replicate fresh.length 0).length = V.length + fresh.length := by simp
    obtain ⟨g, hg, hgl, hgg⟩ := got_ok P out fresh .no V (V ++ List.replicate fresh.length 0) hGl (by omega) hU0.oIn
    have hUV := hU (nu (V ++ List.replicate fresh.length 0))
    obtain ⟨hd1, hd2, _, _⟩ := hUV.done
    have hnuV : ∀ x, ok V.length x → nu (V ++ List.replicate fresh.length 0) x = nu V x := fun x hx => by
      have := hx.1
      have := hx.2
      have hlt : x.toNat < V.length := by omega
      unfold nu
      rw [List.getD_eq_getElem?_getD, List.getD_eq_getElem?_getD, List.getElem?_append_left hlt]
    have heq : ∀ x, ok V.length x → nu g x = nu w x := fun x hx => by
      have hxG : ok (V ++ List.replicate fresh.length 0).length x := ⟨hx.1, by have := hx.2; rw [hGl]; omega⟩
      rw [hgg x hxG]
      by_cases hxd : x ∈ dsts P
      · obtain ⟨p, hp, rfl⟩ := List.mem_map.1 hxd
        have hps : (⟨p.a, p.b⟩ : PPair) ∈ P := hp
        rw [hd1 p.a p.b hps, (hww p.a hx).1 p.b hps]
        exact hnuV p.b ((hM.2 p hp).2)
      · rw [hd2 x hx.2 hxd, (hww x hx).2 hxd, hnuV x hx]
    have hcmp : whl (fun (s : Int) => fettlelaw14_LowerAlike.bd59 w g s) FUEL 0 = some (.go ()) := by
      have hwm := le_max (by omega : w.length ≤ 300) (by omega)
      have := scan0 w (fun _ _ => (none : Option Bool)) (fun s => fettlelaw14_LowerAlike.bd59 w g s) hwm (fun i hi => by
        have hio : ok V.length (i : Int) := ⟨by omega, by omega⟩
        have hgi : idx g (i : Int) = some (nu g (i : Int)) := idx_nu ⟨by omega, by rw [hgl, hGl]; omega⟩
        have hwi : idx w (i : Int) = some (nu w (i : Int)) := idx_nu ⟨by omega, by omega⟩
        simp only [fettlelaw14_LowerAlike.bd59, len_lt, hi, if_true, hgi, hwi, Option.bind_some, heq _ hio, not_true_eq_false, if_false, w64_at hi hwm]) (by simp [fettlelaw14_LowerAlike.bd59, len])
      rcases this with ⟨i, hi, r, hf, _⟩ | ⟨_, hw⟩
      · cases hf
      · exact hw
    have hw1 : w64 (len P + len fresh) = ((P.length + fresh.length : Nat) : Int) := by
      rw [show len P + len fresh = ((P.length + fresh.length : Nat) : Int) by simp [len]]
      exact w64_nat (by omega)
    have hw2 : w64 (Int.tdiv (len P) 2) = ((P.length / 2 : Nat) : Int) := by
      rw [show Int.tdiv (len P) 2 = ((P.length / 2 : Nat) : Int) by simp only [len]; rfl]
      exact w64_nat (by omega)
    have f1 : len out ≤ ((P.length + fresh.length : Nat) : Int) := by simp only [len]; omega
    have f2 : len fresh ≤ ((P.length / 2 : Nat) : Int) := by simp only [len]; omega
    simp only [hmv, hb1, Option.bind_some, Bool.not_true, Bool.false_eq_true, if_false, not_true_eq_false, hcat, hw, fettlelaw14_LowerAlike.nx39, hcz, hg, fettlelaw14_LowerAlike.nx50, hcmp, fettlelaw14_LowerAlike.nx59, hw1, hw2, f1, f2, and_self, decide_true]
end Go.Proofs.Ytpmcbahahjelnaa
