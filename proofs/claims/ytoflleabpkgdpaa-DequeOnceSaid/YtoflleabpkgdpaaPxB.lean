/- Plain laws, part x-B: an operation alone, from its beginning to its end. No conditions. -/
import Derived.Test.YtoflleabpkgdpaaPxA
import Derived.Test.YtoflleabpkgdpaaK2
set_option linter.unusedVariables false
set_option linter.unusedSimpArgs false
namespace Go.Proofs.Ytoflleabpkgdpaa
open Go Go.Proofs

/-! ### Loops whose fresh blocks are left open -/
theorem whlD_for {ρ σ : Type} (n : Nat) (I : Nat → σ → Prop) (Kz : ρ → Prop) {body : σ → D (Ex ρ σ)} (hn : n ≤ maxLen)
    (step : ∀ i s, i < n → I i s → ∀ P : Ex ρ σ → Prop, (∀ r, Kz r → P (.ret r)) → (∀ s', I (i + 1) s' → P (.go s')) → body s P)
    (done : ∀ s, I n s → ∀ P : Ex ρ σ → Prop, (∀ r, Kz r → P (.ret r)) → body s P) {s0 : σ} (h0 : I 0 s0) : whlD body FUEL s0 Kz := by
  have key : ∀ (d i k : Nat) (s : σ), i + d = n → I i s → d < k → whlD body k s Kz := by
    intro d
    induction d with
    | zero =>
      intro i k s hi hI hk
      obtain ⟨k, rfl⟩ : ∃ q, k = q + 1 := ⟨k - 1, by omega⟩
      obtain rfl : i = n := by omega
      exact done s hI _ (fun r hr => hr)
    | succ d ih =>
      intro i k s hi hI hk
      obtain ⟨k, rfl⟩ : ∃ q, k = q + 1 := ⟨k - 1, by omega⟩
      exact step i s (by omega) hI _ (fun r hr => hr) (fun s' hs' => ih (i + 1) k s' (by omega) hs' (by omega))
  exact key n 0 FUEL s0 (by omega) h0 (lt_FUEL hn)

/-! ### Fresh blocks -/
theorem look_mem {α : Type} {cf : α → List Value} {T b : Nat} : ∀ {l : List (Nat × α)}, b ∉ (objs cf T l).map (·.1) → look l b = none
  | [], _ => rfl
  | (c, y) :: l, h => by
    simp only [objs, List.map_cons, List.mem_cons, not_or] at h
    simp only [look]
    rw [if_neg (fun e => h.1 e.symm)]
    exact look_mem (cf := cf) (T := T) h.2
theorem fresh_os {R : Rgn} {b : Nat} (h : b ∉ R.names) : look R.os b = none := by
  unfold Rgn.names rgF at h
  simp only [List.map_append, List.mem_append, not_or] at h
  exact look_mem h.2.1
theorem fresh_ds {R : Rgn} {b : Nat} (h : b ∉ R.names) : look R.ds b = none := by
  unfold Rgn.names rgF at h
  simp only [List.map_append, List.mem_append, not_or] at h
  exact look_mem h.1
theorem fresh_rs {R : Rgn} {b : Nat} (h : b ∉ R.names) : look R.rs b = none := by
  unfold Rgn.names rgF at h
  simp only [List.map_append, List.mem_append, not_or] at h
  exact look_mem h.2.2

/-! ### Step by step to the end -/
theorem core_d (y : QDeque) (x : QOp) : (core y x).2.1.d = x.d ∧ (core y x).2.1.kind = x.kind := by
  unfold core
  repeat' split
  all_goals exact ⟨rfl, rfl⟩
theorem stp_d (bo : Nat) (y : QDeque) (x : QOp) : (stp bo y x).2.d = x.d ∧ (stp bo y x).2.kind = x.kind := core_d y x
theorem stp_owner (bo : Nat) (y : QDeque) (x : QOp) {c : Nat} (h : (stp bo y x).1.owner = some c) : y.owner = some c := by
  unfold stp at h
  simp only at h
  split at h
  · cases h
  · rwa [core_owner] at h
def Ends (bo : Nat) : Nat → QDeque → QOp → Prop
  | 0, y, x => SmS y x ∧ x.got = 0 ∧ ¬ (stp bo y x).2.got = 0
  | n + 1, y, x => SmS y x ∧ x.got = 0 ∧ (stp bo y x).2.got = 0 ∧ Ends bo n (stp bo y x).1 (stp bo y x).2
def its (bo : Nat) : Nat → QDeque → QOp → QDeque × QOp
  | 0, y, x => stp bo y x
  | n + 1, y, x => its bo n (stp bo y x).1 (stp bo y x).2
theorem done_go {bd bo : Nat} : ∀ (n k : Nat) (i : Nat) (R : Rgn) (y : QDeque) (x : QOp), i + n < 6 → n < k → look R.ds bd = some y → look R.os bo = some x → x.d = some bd → (∀ c, y.owner = some c → ∃ z, look R.os c = some z) → Ends bo n y x →
    ∃ R', whl (fun (s : (Rgn × Int)) => fettlelaw11_done.bd15 (some bd) (some bo) s.1 s.2) k (R, (i : Int)) = some (.ret (true, R')) ∧ Vw R R' bd bo (its bo n y x).1 (its bo n y x).2
  | 0, k, i, R, y, x, hi, hk, hy, hx, hd, ho, he => by
    obtain ⟨k, rfl⟩ : ∃ q, k = q + 1 := ⟨k - 1, by omega⟩
    obtain ⟨hs, hg, hne⟩ := he
    obtain ⟨R', h1, h2⟩ := step_eq hy hx hs hd hg ho
    refine ⟨R', ?_, h2⟩
    simp only [whl, fettlelaw11_done.bd15, show (i : Int) < 6 by omega, if_true, h1, Option.bind_some, not_true, if_false, hne, not_false_eq_true, decide_true]
  | n + 1, k, i, R, y, x, hi, hk, hy, hx, hd, ho, he => by
    obtain ⟨k, rfl⟩ : ∃ q, k = q + 1 := ⟨k - 1, by omega⟩
    obtain ⟨hs, hg, hne, hr⟩ := he
    obtain ⟨R1, h1, h2⟩ := step_eq hy hx hs hd hg ho
    obtain ⟨R', g1, g2⟩ := done_go n k (i + 1) R1 _ _ (by omega) (by omega) h2.ds h2.os ((stp_d bo y x).1.trans hd) (fun c hc => by
      obtain ⟨z, hz⟩ := ho c (stp_owner bo y x hc)
      by_cases hcb : c = bo
      · subst hcb; exact ⟨_, h2.os⟩
      · exact ⟨z, (h2.oso c hcb).trans hz⟩) hr
    refine ⟨R', ?_, h2.trans g2⟩
    simp only [whl, fettlelaw11_done.bd15, show (i : Int) < 6 by omega, if_true, h1, Option.bind_some, not_true, if_false, hne, decide_false, Bool.false_eq_true]
    rw [show w64 ((i : Int) + 1) = ((i + 1 : Nat) : Int) from w64_succ (by omega)]
    exact g1
theorem done_run {bd bo : Nat} {R : Rgn} {y : QDeque} {x : QOp} (n : Nat) (hn : n < 6) (hy : look R.ds bd = some y) (hx : look R.os bo = some x) (hd : x.d = some bd) (ho : ∀ c, y.owner = some c → ∃ z, look R.os c = some z) (he : Ends bo n y x) :
    ∃ R', fettlelaw11_done (some bd) (some bo) R = some (true, R') ∧ Vw R R' bd bo (its bo n y x).1 (its bo n y x).2 := by
  obtain ⟨R', h1, h2⟩ := done_go n FUEL 0 R y x (by omega) (lt_FUEL (by simp only [maxLen]; omega)) hy hx hd ho he
  refine ⟨R', ?_, h2⟩
  unfold fettlelaw11_done
  have h00 : (R, ((0 : Nat) : Int)) = (R, (0 : Int)) := rfl
  rw [h00] at h1
  rw [h1]; rfl
/-! ### What comes of each alone -/
structure Few (y : QDeque) : Prop where
  t0 : 0 ≤ y.top
  t1 : y.top ≤ 100000
  b0 : 0 ≤ y.bottom
  b1 : y.bottom ≤ 100000
theorem sml_of {n : Int} (h0 : -100 ≤ n) (h1 : n ≤ 200000) : Sml n := ⟨by omega, by omega⟩
theorem push_ends (bd bo : Nat) (y : QDeque) (v : Int) (hf : Few y) (ho : y.owner = some bo) :
    (y.bottom - y.top ≥ 64 → Ends bo 1 y ⟨some bd, 1, 0, 0, 0, v, 0⟩ ∧ (its bo 1 y ⟨some bd, 1, 0, 0, 0, v, 0⟩).1 = ⟨y.cells, y.top, y.bottom, none⟩ ∧ (its bo 1 y ⟨some bd, 1, 0, 0, 0, v, 0⟩).2.got = 3) ∧
    (y.bottom - y.top < 64 → Ends bo 3 y ⟨some bd, 1, 0, 0, 0, v, 0⟩ ∧ (its bo 3 y ⟨some bd, 1, 0, 0, 0, v, 0⟩).1 = ⟨cput y.cells y.bottom v, y.top, y.bottom + 1, none⟩ ∧ (its bo 3 y ⟨some bd, 1, 0, 0, 0, v, 0⟩).2.got = 1 ∧ (its bo 3 y ⟨some bd, 1, 0, 0, 0, v, 0⟩).2.x = v) := by
  obtain ⟨t0, t1, b0, b1⟩ := hf
  have s0 : Sml 0 := ⟨by omega, by omega⟩
  have s1 : Sml 1 := ⟨by omega, by omega⟩
  have s2 : Sml 2 := ⟨by omega, by omega⟩
  have s3 : Sml 3 := ⟨by omega, by omega⟩
  have st : Sml y.top := sml_of (by omega) (by omega)
  have sb : Sml y.bottom := sml_of (by omega) (by omega)
  constructor
  · intro h
    refine ⟨?_, ?_, ?_⟩
    · simp only [Ends, stp, core]
      simp [h, ho]
      exact ⟨⟨st, sb, s0, s0, s0⟩, ⟨st, sb, s1, s0, sb⟩⟩
    · simp [its, stp, core, h, ho]
    · simp [its, stp, core, h, ho]
  · intro h
    have h' : ¬ y.bottom - y.top ≥ 64 := by omega
    refine ⟨?_, ?_, ?_, ?_⟩
    · simp only [Ends, stp, core]
      simp [h', ho]
      exact ⟨⟨st, sb, s0, s0, s0⟩, ⟨st, sb, s1, s0, sb⟩, ⟨st, sb, s2, st, sb⟩, ⟨st, sb, s3, st, sb⟩⟩
    · simp [its, stp, core, h', ho]
    · simp [its, stp, core, h', ho]
    · simp [its, stp, core, h', ho]
theorem steal_ends (bd bo : Nat) (y : QDeque) (hf : Few y) (ho : y.owner = none) :
    (y.top ≥ y.bottom → Ends bo 1 y ⟨some bd, 3, 0, 0, 0, 0, 0⟩ ∧ (its bo 1 y ⟨some bd, 3, 0, 0, 0, 0, 0⟩).1 = y ∧ (its bo 1 y ⟨some bd, 3, 0, 0, 0, 0, 0⟩).2.got = 2) ∧
    (y.top < y.bottom → Ends bo 3 y ⟨some bd, 3, 0, 0, 0, 0, 0⟩ ∧ (its bo 3 y ⟨some bd, 3, 0, 0, 0, 0, 0⟩).1 = ⟨y.cells, y.top + 1, y.bottom, none⟩ ∧ (its bo 3 y ⟨some bd, 3, 0, 0, 0, 0, 0⟩).2.got = 1 ∧ (its bo 3 y ⟨some bd, 3, 0, 0, 0, 0, 0⟩).2.x = cget y.cells y.top) := by
  obtain ⟨t0, t1, b0, b1⟩ := hf
  have s0 : Sml 0 := ⟨by omega, by omega⟩
  have s1 : Sml 1 := ⟨by omega, by omega⟩
  have s2 : Sml 2 := ⟨by omega, by omega⟩
  have s3 : Sml 3 := ⟨by omega, by omega⟩
  have st : Sml y.top := sml_of (by omega) (by omega)
  have sb : Sml y.bottom := sml_of (by omega) (by omega)
  constructor
  · intro h
    refine ⟨?_, ?_, ?_⟩
    · simp only [Ends, stp, core]
      simp [h, ho]
      exact ⟨⟨st, sb, s0, s0, s0⟩, ⟨st, sb, s1, st, s0⟩⟩
    · simp [its, stp, core, h, ho]
    · simp [its, stp, core, h, ho]
  · intro h
    have h' : ¬ y.top ≥ y.bottom := by omega
    have h2 : ¬ y.bottom ≤ y.top := by omega
    refine ⟨?_, ?_, ?_, ?_⟩
    · simp only [Ends, stp, core]
      simp [h', h2, ho]
      exact ⟨⟨st, sb, s0, s0, s0⟩, ⟨st, sb, s1, st, s0⟩, ⟨st, sb, s2, st, sb⟩, ⟨st, sb, s3, st, sb⟩⟩
    · simp [its, stp, core, h', h2, ho]
    · simp [its, stp, core, h', h2, ho]
    · simp [its, stp, core, h', h2, ho]
theorem pop_ends (bd bo : Nat) (y : QDeque) (hf : Few y) (ho : y.owner = some bo) :
    (y.top ≥ y.bottom → Ends bo 2 y ⟨some bd, 2, 0, 0, 0, 0, 0⟩ ∧ (its bo 2 y ⟨some bd, 2, 0, 0, 0, 0, 0⟩).1 = ⟨y.cells, y.top, y.bottom, none⟩ ∧ (its bo 2 y ⟨some bd, 2, 0, 0, 0, 0, 0⟩).2.got = 2) ∧
    (y.top < y.bottom - 1 → Ends bo 2 y ⟨some bd, 2, 0, 0, 0, 0, 0⟩ ∧ (its bo 2 y ⟨some bd, 2, 0, 0, 0, 0, 0⟩).1 = ⟨y.cells, y.top, y.bottom - 1, none⟩ ∧ (its bo 2 y ⟨some bd, 2, 0, 0, 0, 0, 0⟩).2.got = 1 ∧ (its bo 2 y ⟨some bd, 2, 0, 0, 0, 0, 0⟩).2.x = cget y.cells (y.bottom - 1)) ∧
    (y.top = y.bottom - 1 → Ends bo 4 y ⟨some bd, 2, 0, 0, 0, 0, 0⟩ ∧ (its bo 4 y ⟨some bd, 2, 0, 0, 0, 0, 0⟩).1 = ⟨y.cells, y.top + 1, y.bottom, none⟩ ∧ (its bo 4 y ⟨some bd, 2, 0, 0, 0, 0, 0⟩).2.got = 1 ∧ (its bo 4 y ⟨some bd, 2, 0, 0, 0, 0, 0⟩).2.x = cget y.cells (y.bottom - 1)) := by
  obtain ⟨t0, t1, b0, b1⟩ := hf
  have s0 : Sml 0 := ⟨by omega, by omega⟩
  have s1 : Sml 1 := ⟨by omega, by omega⟩
  have s10 : Sml 10 := ⟨by omega, by omega⟩
  have s20 : Sml 20 := ⟨by omega, by omega⟩
  have s30 : Sml 30 := ⟨by omega, by omega⟩
  have s40 : Sml 40 := ⟨by omega, by omega⟩
  have st : Sml y.top := sml_of (by omega) (by omega)
  have st1 : Sml (y.top + 1) := sml_of (by omega) (by omega)
  have sb : Sml y.bottom := sml_of (by omega) (by omega)
  have sb1 : Sml (y.bottom - 1) := sml_of (by omega) (by omega)
  refine ⟨fun h => ?_, fun h => ?_, fun h => ?_⟩
  · have h1 : y.top > y.bottom - 1 := by omega
    have h2 : y.bottom - 1 < y.top := by omega
    refine ⟨?_, ?_, ?_⟩
    · simp only [Ends, stp, core]
      simp [h1, h2, ho]
      exact ⟨⟨st, sb, s0, s0, s0⟩, ⟨st, sb1, s1, s0, sb1⟩, ⟨st, sb1, s10, st, sb1⟩⟩
    · simp [its, stp, core, h1, h2, ho]
    · simp [its, stp, core, h1, h2, ho]
  · have h1 : ¬ y.top > y.bottom - 1 := by omega
    have h2 : ¬ y.bottom - 1 < y.top := by omega
    refine ⟨?_, ?_, ?_, ?_⟩
    · simp only [Ends, stp, core]
      simp [h, h1, h2, ho]
      exact ⟨⟨st, sb, s0, s0, s0⟩, ⟨st, sb1, s1, s0, sb1⟩, ⟨st, sb1, s20, st, sb1⟩⟩
    · simp [its, stp, core, h, h1, h2, ho]
    · simp [its, stp, core, h, h1, h2, ho]
    · simp [its, stp, core, h, h1, h2, ho]
  · have h1 : ¬ y.top > y.bottom - 1 := by omega
    have h2 : ¬ y.bottom - 1 < y.top := by omega
    have h3 : ¬ y.top < y.bottom - 1 := by omega
    refine ⟨?_, ?_, ?_, ?_⟩
    · simp only [Ends, stp, core]
      simp [h1, h2, h3, ho]
      exact ⟨⟨st, sb, s0, s0, s0⟩, ⟨st, sb1, s1, s0, sb1⟩, ⟨st, sb1, s20, st, sb1⟩, ⟨st, sb1, s30, st, sb1⟩, ⟨st1, sb1, s40, st, sb1⟩⟩
    · simp [its, stp, core, h1, h2, h3, ho]
    · simp [its, stp, core, h1, h2, h3, ho]
    · simp [its, stp, core, h1, h2, h3, ho]
end Go.Proofs.Ytoflleabpkgdpaa
