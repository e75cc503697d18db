/- Plain laws, part V: what Count tells; the laws LiveStays and LiveNone. No conditions. -/
import Derived.Test.YtoflleabpkgdpaaPuT
import Derived.Test.YtoflleabpkgdpaaGj
set_option linter.unusedVariables false
set_option linter.unusedSimpArgs false
namespace Go.Proofs.Ytoflleabpkgdpaa
open Go Go.Proofs

/-- Counts: so many, none above M, those of P not 0. -/
structure Ct (k M : Nat) (P : Nat → Prop) (c : List Int) : Prop where
  len : c.length = k
  bd : ∀ (r : Nat) (v : Int), c[r]? = some v → 0 ≤ v ∧ v ≤ (M : Int)
  cov : ∀ r, P r → ∃ v : Int, c[r]? = some v ∧ 1 ≤ v
theorem Ct.mono {k M M' : Nat} {P P' : Nat → Prop} {c : List Int} (h : Ct k M P c) (hM : M ≤ M') (hP : ∀ r, P' r → P r) : Ct k M' P' c :=
  ⟨h.len, fun r v hr => by have := h.bd r v hr; omega, fun r hr => h.cov r (hP r hr)⟩
theorem Ct.bump {k M : Nat} {P : Nat → Prop} {c : List Int} (h : Ct k M P c) (hM : M ≤ 100000000000) {a : Nat} {v : Int} (ha : c[a]? = some v) : Ct k (M + 1) (fun r => P r ∨ r = a) (c.set a (w64 (v + 1))) := by
  obtain ⟨g1, g2⟩ := h.bd a v ha
  have hw : w64 (v + 1) = v + 1 := w64_id ⟨by omega, by omega⟩
  have hal : a < c.length := (List.getElem?_eq_some_iff.1 ha).1
  rw [hw]
  refine ⟨by simp [h.len], fun r u hr => ?_, fun r hr => ?_⟩
  · rw [List.getElem?_set] at hr
    by_cases har : a = r
    · subst har; rw [if_pos rfl, if_pos hal] at hr; cases hr; omega
    · rw [if_neg har] at hr; have := h.bd r u hr; omega
  · rw [List.getElem?_set]
    by_cases har : a = r
    · subst har; rw [if_pos rfl, if_pos hal]; exact ⟨_, rfl, by omega⟩
    · rw [if_neg har]; exact h.cov r (hr.resolve_right fun h => har h.symm)
theorem bump_all (k M : Nat) (P : Nat → Prop) (args : List Int) (hl : args.length ≤ 300) (hM : M + 300 ≤ 100000000000) (hin : ∀ a ∈ args, 0 ≤ a ∧ a < (k : Int)) (body : List Int × Int → Option (Ex (List Int) (List Int × Int)))
    (hb : ∀ (c : List Int) (i : Nat) (hi : i < args.length) (v : Int), idx c args[i] = some v → body (c, (i : Int)) = some (.go (c.set args[i].toNat (w64 (v + 1)), w64 ((i : Int) + 1)))) (he : ∀ c : List Int, body (c, (args.length : Int)) = some (.ret c)) (c : List Int) (hc : Ct k M P c) :
    ∃ z, whl body FUEL (c, 0) = some z ∧ Ct k (M + 300) (fun r => P r ∨ (r : Int) ∈ args) z := by
  refine whl_for (body := body) args.length (fun i s => Ct k (M + i) (fun r => P r ∨ (r : Int) ∈ args.take i) s.1 ∧ s.2 = (i : Int)) (fun z => Ct k (M + 300) (fun r => P r ∨ (r : Int) ∈ args) z) (le_max hl (by omega)) (fun i s hi hI => ?_) (fun s hI => ?_) (s0 := (c, 0)) ⟨hc.mono (Nat.le_refl _) (fun r hr => by simpa using hr), rfl⟩
  · obtain ⟨d, q⟩ := s
    obtain ⟨h1, rfl⟩ := hI
    simp only at h1
    obtain ⟨g1, g2⟩ := hin _ (List.getElem_mem hi)
    obtain ⟨v, hv, hv2⟩ := idx_in (xs := d) g1 (by rw [h1.len]; exact g2)
    refine .inr ⟨_, hb d i hi v hv, (h1.bump (by omega) hv2).mono (by omega) (fun r hr => ?_), w64_i hi (by omega)⟩
    rcases hr with hr | hr
    · exact .inl (.inl hr)
    · rw [List.take_succ_eq_append_getElem hi, List.mem_append, List.mem_singleton] at hr
      rcases hr with hr | hr
      · exact .inl (.inr hr)
      · right; omega
  · obtain ⟨d, q⟩ := s
    obtain ⟨h1, rfl⟩ := hI
    simp only at h1
    exact ⟨d, he d, h1.mono (by omega) (fun r hr => by rw [List.take_length]; exact hr)⟩
theorem count_ins (k M : Nat) (P : Nat → Prop) (B : PBlock) (hB : SmB B) (hR : RegsIn k B) (hM : M + 90000 ≤ 100000000000) (c : List Int) (hc : Ct k M P c) :
    ∃ z, whl (fun (s : (List Int × Int)) => live_Count.bd97 B s.1 s.2) FUEL (c, 0) = some z ∧ Ct k (M + 90000) (fun r => P r ∨ ∃ x ∈ B.ins, (r : Int) ∈ x.args) z := by
  obtain ⟨b1, b2, b3, b4, b5⟩ := hB
  refine whl_for (s0 := (c, 0)) (body := fun (s : (List Int × Int)) => live_Count.bd97 B s.1 s.2) B.ins.length (fun i s => Ct k (M + 300 * i) (fun r => P r ∨ ∃ x ∈ B.ins.take i, (r : Int) ∈ x.args) s.1 ∧ s.2 = (i : Int)) (fun z => Ct k (M + 90000) (fun r => P r ∨ ∃ x ∈ B.ins, (r : Int) ∈ x.args) z) (le_max b1 (by omega)) (fun i s hi hI => ?_) (fun s hI => ?_) ⟨hc.mono (Nat.le_refl _) (fun r hr => by simpa using hr), rfl⟩
  · obtain ⟨d, q⟩ := s
    obtain ⟨h1, rfl⟩ := hI
    simp only at h1
    obtain ⟨z, hz, hz1⟩ := bump_all k (M + 300 * i) _ B.ins[i].args (b4 _ (List.getElem_mem hi)) (by omega) (hR.args _ (List.getElem_mem hi)) (fun (s : (List Int × Int)) => live_Count.bd139 B.ins[i] s.1 s.2) (fun c j hj v hv => by
      simp only [live_Count.bd139, len_lt, hj, if_true, idx_lt hj, Option.bind_some, hv]) (fun c => by simp [live_Count.bd139, len]) d h1
    refine .inr ⟨_, by simp only [live_Count.bd97, len_lt, hi, if_true, idx_lt hi, Option.bind_some, hz, live_Count.nx139]; rfl, hz1.mono (M' := M + 300 * (i + 1)) (by omega) (fun r hr => ?_), w64_i hi (by omega)⟩
    rcases hr with hr | ⟨x, hx, hr⟩
    · exact .inl (.inl hr)
    · rw [List.take_succ_eq_append_getElem hi, List.mem_append, List.mem_singleton] at hx
      rcases hx with hx | rfl
      · exact .inl (.inr ⟨x, hx, hr⟩)
      · exact .inr hr
  · obtain ⟨d, q⟩ := s
    obtain ⟨h1, rfl⟩ := hI
    simp only at h1
    exact ⟨d, by simp [live_Count.bd97, len], h1.mono (by omega) (fun r hr => by rw [List.take_length]; exact hr)⟩
theorem count_phis (k M : Nat) (P : Nat → Prop) (B : PBlock) (hB : SmB B) (hR : RegsIn k B) (hM : M + 90000 ≤ 100000000000) (c : List Int) (hc : Ct k M P c) :
    ∃ z, whl (fun (s : (List Int × Int)) => live_Count.bd73 B s.1 s.2) FUEL (c, 0) = some z ∧ Ct k (M + 90000) (fun r => P r ∨ ∃ x ∈ B.phis, (r : Int) ∈ x.args) z := by
  obtain ⟨b1, b2, b3, b4, b5⟩ := hB
  refine whl_for (s0 := (c, 0)) (body := fun (s : (List Int × Int)) => live_Count.bd73 B s.1 s.2) B.phis.length (fun i s => Ct k (M + 300 * i) (fun r => P r ∨ ∃ x ∈ B.phis.take i, (r : Int) ∈ x.args) s.1 ∧ s.2 = (i : Int)) (fun z => Ct k (M + 90000) (fun r => P r ∨ ∃ x ∈ B.phis, (r : Int) ∈ x.args) z) (le_max b2 (by omega)) (fun i s hi hI => ?_) (fun s hI => ?_) ⟨hc.mono (Nat.le_refl _) (fun r hr => by simpa using hr), rfl⟩
  · obtain ⟨d, q⟩ := s
    obtain ⟨h1, rfl⟩ := hI
    simp only at h1
    obtain ⟨z, hz, hz1⟩ := bump_all k (M + 300 * i) _ B.phis[i].args (b5 _ (List.getElem_mem hi)) (by omega) (hR.pargs _ (List.getElem_mem hi)) (fun (s : (List Int × Int)) => live_Count.bd195 B.phis[i] s.1 s.2) (fun c j hj v hv => by
      simp only [live_Count.bd195, len_lt, hj, if_true, idx_lt hj, Option.bind_some, hv]) (fun c => by simp [live_Count.bd195, len]) d h1
    refine .inr ⟨_, by simp only [live_Count.bd73, len_lt, hi, if_true, idx_lt hi, Option.bind_some, hz, live_Count.nx195]; rfl, hz1.mono (M' := M + 300 * (i + 1)) (by omega) (fun r hr => ?_), w64_i hi (by omega)⟩
    rcases hr with hr | ⟨x, hx, hr⟩
    · exact .inl (.inl hr)
    · rw [List.take_succ_eq_append_getElem hi, List.mem_append, List.mem_singleton] at hx
      rcases hx with hx | rfl
      · exact .inl (.inr ⟨x, hx, hr⟩)
      · exact .inr hr
  · obtain ⟨d, q⟩ := s
    obtain ⟨h1, rfl⟩ := hI
    simp only at h1
    exact ⟨d, by simp [live_Count.bd73, len], h1.mono (by omega) (fun r hr => by rw [List.take_length]; exact hr)⟩
theorem count_blocks (f : PFunc) (hf : LiveOk f) (c : List Int) (hc : Ct f.regs.length 0 (fun _ => False) c) :
    ∃ z, whl (fun (s : (List Int × Int)) => live_Count.bd33 f s.1 s.2) FUEL (c, 0) = some z ∧ Ct f.regs.length 100000000 (Named f) z := by
  have hn := hf.few
  refine whl_for (s0 := (c, 0)) (body := fun (s : (List Int × Int)) => live_Count.bd33 f s.1 s.2) f.blocks.length (fun i s => Ct f.regs.length (180001 * i) (fun r => ∃ B ∈ f.blocks.take i, (∃ p ∈ B.phis, (r : Int) ∈ p.args) ∨ (∃ x ∈ B.ins, (r : Int) ∈ x.args) ∨ B.term.arg = (r : Int)) s.1 ∧ s.2 = (i : Int)) (fun z => Ct f.regs.length 100000000 (Named f) z) (le_max hn (by omega)) (fun i s hi hI => ?_) (fun s hI => ?_) ⟨hc.mono (Nat.zero_le _) (fun r hr => by simp at hr), rfl⟩
  · obtain ⟨d, q⟩ := s
    obtain ⟨h1, rfl⟩ := hI
    simp only at h1
    have hB := hf.sm.2.2.2 _ (List.getElem_mem hi)
    have hR := hf.regs _ (List.getElem_mem hi)
    obtain ⟨z, hz, hz1⟩ := count_phis _ (180001 * i) _ f.blocks[i] hB hR (by omega) d h1
    obtain ⟨y, hy, hy1⟩ := count_ins _ (180001 * i + 90000) _ f.blocks[i] hB hR (by omega) z hz1
    refine .inr ?_
    simp only [live_Count.bd33, len_lt, hi, if_true, idx_lt hi, Option.bind_some, hz, live_Count.nx73, hy, live_Count.nx97]
    have fin : ∀ (P' : Nat → Prop), (∀ r, (∃ B ∈ f.blocks.take (i + 1), (∃ p ∈ B.phis, (r : Int) ∈ p.args) ∨ (∃ x ∈ B.ins, (r : Int) ∈ x.args) ∨ B.term.arg = (r : Int)) →
        ((∃ B ∈ f.blocks.take i, (∃ p ∈ B.phis, (r : Int) ∈ p.args) ∨ (∃ x ∈ B.ins, (r : Int) ∈ x.args) ∨ B.term.arg = (r : Int)) ∨ ∃ x ∈ f.blocks[i].phis, (r : Int) ∈ x.args) ∨ (∃ x ∈ f.blocks[i].ins, (r : Int) ∈ x.args) ∨ f.blocks[i].term.arg = (r : Int)) := by
      intro _ r hr
      obtain ⟨B, hB, h⟩ := hr
      rw [List.take_succ_eq_append_getElem hi, List.mem_append, List.mem_singleton] at hB
      rcases hB with hB | rfl
      · exact .inl (.inl ⟨B, hB, h⟩)
      · rcases h with h | h | h
        · exact .inl (.inr h)
        · exact .inr (.inl h)
        · exact .inr (.inr h)
    by_cases ha : f.blocks[i].term.arg ≥ 0
    · rw [if_pos ha]
      obtain ⟨v, hv, hv2⟩ := idx_in (xs := y) ha (by rw [hy1.len]; exact hR.arg)
      rw [hv]
      simp only [Option.bind_some, live_Count.jn52]
      refine ⟨_, rfl, (hy1.bump (by omega) hv2).mono (by omega) (fun r hr => ?_), w64_i hi (by omega)⟩
      rcases fin (fun _ => True) r hr with h | h | h
      · exact .inl (.inl h)
      · exact .inl (.inr h)
      · right; omega
    · rw [if_neg ha]
      simp only [live_Count.jn52]
      refine ⟨_, rfl, hy1.mono (by omega) (fun r hr => ?_), w64_i hi (by omega)⟩
      rcases fin (fun _ => True) r hr with h | h | h
      · exact .inl h
      · exact .inr h
      · omega
  · obtain ⟨d, q⟩ := s
    obtain ⟨h1, rfl⟩ := hI
    simp only at h1
    exact ⟨d, by simp [live_Count.bd33, len], h1.mono (by omega) (fun r hr => by rw [List.take_length]; exact hr)⟩
theorem count_any (m : PModule) (hm : SmM m) (a : Int) {e : GErr} (he : live_has m a = some e) :
    (e ≠ GErr.no ∧ live_Count m a = some ([], e)) ∨ (e = GErr.no ∧ ∃ k : Nat, a = k ∧ ∃ hk : k < m.funcs.length, ∃ c, live_Count m a = some (c, GErr.no) ∧ Ct m.funcs[k].regs.length 100000000 (Named m.funcs[k]) c) := by
  obtain ⟨e', he1, he2⟩ := has_says m hm a
  rw [he] at he1; cases he1
  unfold live_Count
  rw [he]
  simp only [Option.bind_some]
  by_cases h : e = GErr.no
  · right
    rw [if_neg (by simpa using h)]
    obtain ⟨hp, h0, h1⟩ := he2.1 h
    refine ⟨h, a.toNat, by omega, by omega, ?_⟩
    have hk : a.toNat < m.funcs.length := by omega
    have hix : idx m.funcs a = some m.funcs[a.toNat] := by
      simp only [idx, if_pos h0]; exact List.getElem?_eq_getElem hk
    have hsm := hm.2 _ (List.getElem_mem hk)
    have hf := (hp.funcs _ (List.getElem_mem hk)).live hsm
    rw [hix]
    generalize m.funcs[a.toNat] = f at *
    have hmk : mkl (len f.regs) (0 : Int) = some (List.replicate f.regs.length 0) := by
      have h1 : f.regs.length < LIM := by have := hsm.2.1; simp only [LIM]; omega
      simp [mkl, len, h1]
    simp only [Option.bind_some, hmk]
    obtain ⟨z, hz, hz1⟩ := count_blocks f hf (List.replicate f.regs.length 0) ⟨by simp, fun r v hr => by
      rw [List.getElem?_replicate] at hr; split at hr <;> simp at hr; omega, fun r hr => hr.elim⟩
    rw [hz]
    exact ⟨z, rfl, hz1⟩
  · left
    rw [if_pos h]
    exact ⟨h, rfl⟩

/-! ### Modules held against each other, copied -/
theorem copy_eq (m : PModule) (hm : SmM m) : fettleref02_Copy m = some m := by
  obtain ⟨hl, hf⟩ := hm
  unfold fettleref02_Copy
  rw [whl_map m.funcs id (r := m.funcs) (le_max hl (by omega)) (fun i hi => by
    simp only [fettleref02_Copy.bd18, len_lt, hi, if_true, idx_lt hi, Option.bind_some, copyFunc_eq _ (hf _ (List.getElem_mem hi)), List.map_id, cat_one (show (m.funcs.take i).length ≤ 1000 by simp; omega), fettleref02_Copy.jn38, w64_i hi (show m.funcs.length ≤ 1000 by omega)]; rfl) (by simp [fettleref02_Copy.bd18, len])]
  rfl
theorem same_eq (a b : PModule) (h : SmM a) : fettleref02_Same a b = some (decide (a = b)) := by
  obtain ⟨hl, hf⟩ := h
  unfold fettleref02_Same
  by_cases hc : a.funcs.length = b.funcs.length
  · rw [if_neg (by simp only [len]; omega), scan_dec a.funcs b.funcs hc (le_max hl (by omega)) _ (fun i hi hj => by
      simp only [fettleref02_Same.bd22, len_lt, hi, if_true, idx_lt hi, idx_lt hj, Option.bind_some, w64_i hi (show a.funcs.length ≤ 1000 by omega), sameFunc_eq _ _ (hf _ (List.getElem_mem hi))]
      by_cases hq : a.funcs[i] = b.funcs[i] <;> simp [hq]) (by simp [fettleref02_Same.bd22, len])]
    by_cases h2 : a.funcs = b.funcs
    · have : a = b := by cases a; cases b; simp_all
      simp [h2, this, fettleref02_Same.nx22]
    · have : a ≠ b := fun hq => h2 (by rw [hq])
      simp [h2, this]
  · rw [if_pos (by simp only [len]; omega)]
    have : a ≠ b := fun hq => hc (by rw [hq])
    simp [this]

theorem up08 : fettlelaw08_up = some true := by kernel_rfl
theorem fill_marks (n k : Nat) (L : List (List Bool)) (hn : n ≤ 70) (hk : k ≤ 300) (hL : Dim n k L) : ∃ z, whl (fun (s : (List (List Bool) × Int)) => fettlelaw08_LiveStays.bd53 s.1 s.2) FUEL (L, 0) = some z ∧ Dim n k z := by
  refine whl_for (s0 := (L, 0)) (body := fun (s : (List (List Bool) × Int)) => fettlelaw08_LiveStays.bd53 s.1 s.2) n (fun i s => Dim n k s.1 ∧ s.2 = (i : Int)) (fun z => Dim n k z) (le_max hn (by omega)) (fun i s hi hI => ?_) (fun s hI => ?_) ⟨hL, rfl⟩
  · obtain ⟨M, q⟩ := s
    obtain ⟨h1, rfl⟩ := hI
    simp only at h1
    have hi' : i < M.length := by rw [h1.len]; exact hi
    obtain ⟨z, hz, hz1⟩ := whl_for (s0 := (M, 0)) (body := fun (s : (List (List Bool) × Int)) => fettlelaw08_LiveStays.bd215 (i : Int) s.1 s.2) k (fun j s => Dim n k s.1 ∧ s.2 = (j : Int)) (fun z => Dim n k z) (le_max hk (by omega)) (fun j s hj hI => by
        obtain ⟨M', q⟩ := s
        obtain ⟨g1, rfl⟩ := hI
        simp only at g1
        obtain ⟨row, r1, r2, r3⟩ := g1.get (b := (i : Int)) (by omega) (by omega)
        have hjr : j < row.length := by omega
        refine .inr ⟨_, by simp only [fettlelaw08_LiveStays.bd215, r1, Option.bind_some, len_lt, hjr, if_true, idx_lt hjr]; rfl, ?_, w64_i hj (by omega)⟩
        exact g1.set _ (by simp [r3])) (fun s hI => by
        obtain ⟨M', q⟩ := s
        obtain ⟨g1, rfl⟩ := hI
        simp only at g1
        obtain ⟨row, r1, r2, r3⟩ := g1.get (b := (i : Int)) (by omega) (by omega)
        exact ⟨M', by simp [fettlelaw08_LiveStays.bd215, r1, len, r3], g1⟩) ⟨h1, rfl⟩
    exact .inr ⟨_, by simp only [fettlelaw08_LiveStays.bd53, len_lt, hi', if_true, hz, Option.bind_some, fettlelaw08_LiveStays.nx215]; rfl, hz1, w64_i hi (by omega)⟩
  · obtain ⟨M, q⟩ := s
    obtain ⟨h1, rfl⟩ := hI
    simp only at h1
    exact ⟨M, by simp [fettlelaw08_LiveStays.bd53, len, h1.len], h1⟩
theorem fill_counts (L : List Int) (hl : L.length ≤ 300) : ∃ z, whl (fun (s : (List Int × Int)) => fettlelaw08_LiveStays.bd85 s.1 s.2) FUEL (L, 0) = some z ∧ True := by
  refine whl_for (s0 := (L, 0)) (body := fun (s : (List Int × Int)) => fettlelaw08_LiveStays.bd85 s.1 s.2) L.length (fun i s => s.1.length = L.length ∧ s.2 = (i : Int)) (fun _ => True) (le_max hl (by omega)) (fun i s hi hI => ?_) (fun s hI => ?_) ⟨rfl, rfl⟩
  · obtain ⟨M, k⟩ := s
    obtain ⟨h1, rfl⟩ := hI
    simp only at h1
    have hi' : i < M.length := by omega
    exact .inr ⟨_, by simp only [fettlelaw08_LiveStays.bd85, len_lt, hi', if_true, idx_lt hi', Option.bind_some]; rfl, by simp [h1], w64_i hi (by omega)⟩
  · obtain ⟨M, k⟩ := s
    obtain ⟨h1, rfl⟩ := hI
    simp only at h1
    exact ⟨(), by simp [fettlelaw08_LiveStays.bd85, len, h1], trivial⟩
theorem pure_liveStays (m : PModule) (a : Int) (h : wfModule m) (ha : inI64 a) : fettlelaw08_LiveStays m a = some true := by
  unfold fettlelaw08_LiveStays
  rw [up08]
  obtain ⟨b, hb, hsm⟩ := small_ok m
  rw [hb]
  simp only [Option.bind_some]
  cases b with
  | false => simp
  | true =>
    have hm := hsm rfl
    simp only [Bool.not_true, Bool.false_eq_true, if_false, copy_eq m hm, Option.bind_some]
    obtain ⟨e, he, hl⟩ := live_any m hm a
    -- what the first calls tell
    have key : ∃ (A B : List (List Bool)) (c : List Int) (n k : Nat), live_Live m a = some (A, B, e) ∧ live_Count m a = some (c, e) ∧ n ≤ 70 ∧ k ≤ 300 ∧ Dim n k A ∧ c.length ≤ 300 := by
      rcases hl with ⟨hne, h1⟩ | ⟨hno, hp, k, hk, hkl, ins, ends, h1, hLI⟩
      · rcases count_any m hm a he with ⟨_, h2⟩ | ⟨h2, _⟩
        · exact ⟨[], [], [], 0, 0, h1, h2, by omega, by omega, ⟨rfl, by simp⟩, by simp⟩
        · exact absurd h2 hne
      · rcases count_any m hm a he with ⟨h2, _⟩ | ⟨_, k', hk', hkl', c, h2, hc⟩
        · exact absurd hno h2
        · have hsm := hm.2 _ (List.getElem_mem hkl)
          have hsm' := hm.2 _ (List.getElem_mem hkl')
          subst hno
          exact ⟨ins, ends, c, _, _, h1, h2, hsm.1, hsm.2.1, hLI.dimI, by rw [hc.len]; exact hsm'.2.1⟩
    obtain ⟨A, B, c, n, k, h1, h2, hn, hk, hA, hc⟩ := key
    simp only [h1, h2, Option.bind_some, cat_nil (show c.length ≤ 1000 by omega)]
    obtain ⟨z, hz, hz1⟩ := fill_marks n k A hn hk hA
    obtain ⟨y, hy, _⟩ := fill_counts c hc
    simp only [hz, Option.bind_some, fettlelaw08_LiveStays.nx53, hy, fettlelaw08_LiveStays.nx85, h1, h2, same_eq m m hm, decide_true, if_true]
    have hlen : len A = len z := by simp only [len, hA.len, hz1.len]
    rw [if_pos (by refine ⟨⟨⟨⟨?_, hlen⟩, ?_⟩, ?_⟩, ?_⟩ <;> simp), ints_eq c c (le_max hc (by omega))]
    simp
theorem none_row (f : PFunc) (A B : List (List Bool)) (c : List Int) (n k : Nat) (hk : k ≤ 300) (hA : Dim n k A) (hB : Dim n k B) (hc : Ct k 100000000 (Named f) c) (hnA : Nm (Named f) A) (hnB : Nm (Named f) B) (e1 e2 : GErr) (i : Nat) (hi : i < n) :
    whl (fun (s : Int) => fettlelaw08_LiveNone.bd130 (A, B, e1) (c, e2) (i : Int) s) FUEL 0 = some (.go ()) := by
  obtain ⟨ra, a1, a2, a3⟩ := hA.get (b := (i : Int)) (by omega) (by omega)
  obtain ⟨rb, b1, b2, b3⟩ := hB.get (b := (i : Int)) (by omega) (by omega)
  have hcl := hc.len
  have := whl_run (body := fun (s : Int) => fettlelaw08_LiveNone.bd130 (A, B, e1) (c, e2) (i : Int) s) (r := (.go () : Ex Bool Unit)) c.length FUEL (fun i => (i : Int)) (fun r hr => by
    have hra : r < ra.length := by omega
    have hrb : r < rb.length := by omega
    simp only [fettlelaw08_LiveNone.bd130, len_lt, hr, if_true, idx_lt hr, Option.bind_some, a1, b1, idx_lt hra, idx_lt hrb, w64_i hr (show c.length ≤ 1000 by omega)]
    by_cases h0 : c[r] = 0
    · rw [if_pos h0]
      have hno : ¬ Named f r := by
        intro hn
        obtain ⟨v, hv, hv1⟩ := hc.cov r hn
        rw [List.getElem?_eq_getElem hr] at hv
        cases hv; omega
      have ha : ra[r] = false := by
        cases hx : ra[r] with
        | false => rfl
        | true => exact (hno (hnA ra (List.mem_of_getElem? a2) r (by rw [List.getElem?_eq_getElem hra, hx]))).elim
      have hb : rb[r] = false := by
        cases hx : rb[r] with
        | false => rfl
        | true => exact (hno (hnB rb (List.mem_of_getElem? b2) r (by rw [List.getElem?_eq_getElem hrb, hx]))).elim
      simp [ha, hb]
    · rw [if_neg h0]
      simp) (by simp [fettlelaw08_LiveNone.bd130, len]) (lt_FUEL (le_max (show c.length ≤ 300 by omega) (by omega)))
  exact this
theorem pure_liveNone (m : PModule) (a : Int) (h : wfModule m) (ha : inI64 a) : fettlelaw08_LiveNone m a = some true := by
  unfold fettlelaw08_LiveNone
  rw [up08]
  obtain ⟨b, hb, hsm⟩ := small_ok m
  rw [hb]
  simp only [Option.bind_some]
  cases b with
  | false => simp
  | true =>
    have hm := hsm rfl
    simp only [Bool.not_true, Bool.false_eq_true, if_false]
    obtain ⟨e, he, hl⟩ := live_any m hm a
    rcases hl with ⟨hne, h1⟩ | ⟨hno, hp, k, hk, hkl, ins, ends, h1, hLI⟩
    · rcases count_any m hm a he with ⟨_, h2⟩ | ⟨h2, _⟩
      · simp only [h1, h2, Option.bind_some]
        rw [if_pos (.inl (.inl hne))]
        simp [hne]
      · exact absurd h2 hne
    · rcases count_any m hm a he with ⟨h2, _⟩ | ⟨_, k', hk', hkl', c, h2, hc⟩
      · exact absurd hno h2
      · obtain rfl : k = k' := by omega
        have hsm := hm.2 _ (List.getElem_mem hkl)
        simp only [h1, h2, Option.bind_some]
        have hlen : len ins = len ends := by simp only [len, hLI.dimI.len, hLI.dimE.len]
        rw [if_neg (by simp [hlen])]
        generalize m.funcs[k] = f at *
        have hw : whl (fun (s : Int) => fettlelaw08_LiveNone.bd84 (ins, ends, GErr.no) (c, GErr.no) s) FUEL 0 = some (.go ()) := by
          have := whl_run (body := fun (s : Int) => fettlelaw08_LiveNone.bd84 (ins, ends, GErr.no) (c, GErr.no) s) (r := (.go () : Ex Bool Unit)) f.blocks.length FUEL (fun i => (i : Int)) (fun i hi => by
            obtain ⟨ra, a1, a2, a3⟩ := hLI.dimI.get (b := (i : Int)) (by omega) (by omega)
            obtain ⟨rb, b1, b2, b3⟩ := hLI.dimE.get (b := (i : Int)) (by omega) (by omega)
            have hin : i < ins.length := by rw [hLI.dimI.len]; exact hi
            have e1 : len ra = len c := by simp only [len, a3, hc.len]
            have e2 : len rb = len c := by simp only [len, b3, hc.len]
            have hn := hsm.1
            simp only [fettlelaw08_LiveNone.bd84, len_lt, hin, if_true, a1, b1, Option.bind_some, e1, e2, none_row f ins ends c _ _ hsm.2.1 hLI.dimI hLI.dimE hc hLI.nmI hLI.nmE GErr.no GErr.no i hi, fettlelaw08_LiveNone.nx130, w64_i hi (show f.blocks.length ≤ 1000 by omega)]
            simp) (by simp [fettlelaw08_LiveNone.bd84, len, hLI.dimI.len]) (lt_FUEL (le_max hsm.1 (by omega)))
          exact this
        rw [hw]; rfl
end Go.Proofs.Ytoflleabpkgdpaa
