/- Plain laws, part x-E: the reference's step, beside the deque's. No conditions. -/
import Derived.Test.YtoflleabpkgdpaaPxC
import Derived.Test.YtoflleabpkgdpaaK3
set_option linter.unusedVariables false
set_option linter.unusedSimpArgs false
namespace Go.Proofs.Ytoflleabpkgdpaa
open Go Go.Proofs

theorem refcell_eq (n : Int) : fettleref11_cell n = some (n % 64) := by
  have h1 : -64 < Int.tmod n 64 ∧ Int.tmod n 64 < 64 := by
    have := Int.tmod_lt_of_pos n (show (0 : Int) < 64 by omega)
    have h2 := Int.lt_tmod_of_pos n (show (0 : Int) < 64 by omega)
    omega
  have h2 := Int.tmod_add_mul_tdiv n 64
  unfold fettleref11_cell fettleref11_cell.jn9
  by_cases h : Int.tmod n 64 < 0
  · rw [if_pos h, w64_id ⟨by omega, by omega⟩]; congr 1; omega
  · rw [if_neg h]; congr 1; omega
theorem refidx_eq (c : A64) (n : Int) : idx c.1 (n % 64) = some (cget c n) := cget_get c n
/-- The reference's operation beside the deque's, while both are under way. -/
structure Rel (x : QOp) (z : POp) : Prop where
  kind : z.kind = x.kind
  got : z.got = 0
  xgot : x.got = 0
  t : z.t = x.t
  at_ : (¬ x.kind = 2 ∧ z.next = x.at_ ∧ z.b = x.b ∧ z.x = x.x ∧ (x.at_ = 0 ∨ x.at_ = 1 ∨ x.at_ = 2 ∨ x.at_ = 3)) ∨
    (x.kind = 2 ∧ ((x.at_ = 0 ∧ z.next = 0) ∨ (z.b = x.b + 1 ∧ ((x.at_ = 1 ∧ z.next = 1) ∨ (x.at_ = 10 ∧ z.next = 2 ∧ x.t > x.b) ∨ (x.at_ = 20 ∧ z.next = 2 ∧ ¬ x.t > x.b) ∨
      (x.at_ = 30 ∧ z.next = 3 ∧ z.x = x.x) ∨ (x.at_ = 40 ∧ z.next = 4 ∧ z.won = true ∧ z.x = x.x) ∨ (x.at_ = 50 ∧ z.next = 4 ∧ z.won = false)))))
/-- The region, seen from one operation of the reference. -/
structure Vr (R0 R : Rgn) (bm : Nat) (z : POp) : Prop where
  ds : R.ds = R0.ds
  os : R.os = R0.os
  rs : look R.rs bm = some z
  rso : ∀ c, c ≠ bm → look R.rs c = look R0.rs c
theorem Vr.set {R0 R : Rgn} {bm : Nat} {z : POp} (h : Vr R0 R bm z) (z' : POp) : Vr R0 (R.set_rs bm z') bm z' :=
  ⟨h.ds, h.os, look_setL _ _ _ _ h.rs, fun c hc => (look_other bm c z' (fun e => hc e.symm) R.rs).trans (h.rso c hc)⟩
theorem Vr.refl {R : Rgn} {bm : Nat} {z : POp} (h : look R.rs bm = some z) : Vr R R bm z := ⟨rfl, rfl, h, fun _ _ => rfl⟩
/-- What is left to show when the reference's step has come to an end. -/
def Goal (R0 : Rgn) (bm bo : Nat) (y : QDeque) (x : QOp) (busy : Bool) (o : Option (List Int × Int × Int × Bool × Rgn)) : Prop :=
  ∃ R' z', o = some ((stp bo y x).1.cells.1, (stp bo y x).1.top, (stp bo y x).1.bottom, (if ¬ (stp bo y x).2.got = 0 ∧ ¬ x.kind = 3 then false else busy), R') ∧ Vr R0 R' bm z' ∧
    z'.got = (stp bo y x).2.got ∧ ((stp bo y x).2.got = 0 → Rel (stp bo y x).2 z') ∧ ((stp bo y x).2.got = 1 → z'.x = (stp bo y x).2.x)
theorem jn10_eq {R0 R : Rgn} {bm : Nat} {z : POp} {m : PDeque} (h : Vr R0 R bm z) (c : List Int) (t b : Int) :
    fettleref11_Deque_Step.jn10 m (some bm) c t b R = some (c, t, b, (if ¬ z.got = 0 ∧ ¬ z.kind = 3 then false else m.busy), R) := by
  unfold fettleref11_Deque_Step.jn10
  simp only [Option.bind_some, h.rs]
  split <;> rfl
theorem stp_cells (bo : Nat) (y : QDeque) (x : QOp) : (stp bo y x).1.cells = (core y x).1.cells ∧ (stp bo y x).1.top = (core y x).1.top ∧ (stp bo y x).1.bottom = (core y x).1.bottom := by
  unfold stp
  simp only
  split <;> exact ⟨rfl, rfl, rfl⟩
theorem fin_ {R0 R : Rgn} {bm bo : Nat} {y : QDeque} {x : QOp} {busy : Bool} {z : POp} {m : PDeque} {c : List Int} {t b : Int} (hV : Vr R0 R bm z) (hm : m.busy = busy) (hk : z.kind = x.kind)
    (hc : c = (core y x).1.cells.1) (ht : t = (core y x).1.top) (hb : b = (core y x).1.bottom) (hg : z.got = (core y x).2.2) (hr : (core y x).2.2 = 0 → Rel (stp bo y x).2 z) (hx : (core y x).2.2 = 1 → z.x = (core y x).2.1.x) :
    Goal R0 bm bo y x busy (fettleref11_Deque_Step.jn10 m (some bm) c t b R) := by
  obtain ⟨g1, g2, g3⟩ := stp_cells bo y x
  refine ⟨R, z, ?_, hV, hg, hr, hx⟩
  rw [jn10_eq hV, g1, g2, g3, hc, ht, hb, hm, hg, hk]
  rfl
theorem ref_step {R : Rgn} {bm bo : Nat} {y : QDeque} {x : QOp} {z : POp} {busy : Bool} (hz : look R.rs bm = some z) (hr : Rel x z) (hs : SmS y x) :
    Goal R bm bo y x busy (fettleref11_Deque_Step (⟨y.cells.1, y.top, y.bottom, busy⟩ : PDeque) (some bm) R) := by
  obtain ⟨xd, xk, xa, xt, xb, xx, xg⟩ := x
  obtain ⟨zk, zn, zb, zt, zx, zg, zw⟩ := z
  obtain ⟨r1, r2, r3, r4, r5⟩ := hr
  obtain ⟨s1, s2, s3, s4, s5⟩ := hs
  simp only at r1 r2 r3 r4 r5 s1 s2 s3 s4 s5
  subst r1 r2 r3 r4
  obtain ⟨n', hn'⟩ : ∃ n', n' = zn + 1 := ⟨_, rfl⟩
  have hV := (Vr.refl hz).set ⟨zk, n', zb, zt, zx, 0, zw⟩
  have hn : Sml zn := by
    rcases r5 with ⟨_, h, _⟩ | ⟨_, ⟨_, h⟩ | ⟨_, ⟨_, h⟩ | ⟨_, h, _⟩ | ⟨_, h, _⟩ | ⟨_, h, _⟩ | ⟨_, h, _⟩ | ⟨_, h, _⟩⟩⟩
    · rw [h]; exact s3
    all_goals rw [h]; exact ⟨by omega, by omega⟩
  have hw : w64 (zn + 1) = n' := by rw [hn']; exact sml_w hn 1 (by omega)
  unfold fettleref11_Deque_Step
  simp only [Option.bind_some, hz, hw]
  rcases r5 with ⟨k2, rfl, rfl, rfl, ha⟩ | ⟨rfl, hp⟩
  · by_cases k1 : zk = 1
    · -- Push
      subst k1
      have e1 : w64 (zb + 1) = zb + 1 := sml_w s5 1 (by omega)
      have e2 : w64 (zb - y.top) = zb - y.top := w64_id ⟨by have := s5.1; have := s1.2; omega, by have := s5.2; have := s1.1; omega⟩
      rw [if_pos rfl]
      unfold fettleref11_Deque_push
      simp only [Option.bind_some, hV.rs, refcell_eq, refidx_eq, e1, e2]
      rcases ha with rfl | rfl | rfl | rfl
      · obtain rfl : n' = 1 := by omega
        simp only [if_true, Option.bind_some]
        exact fin_ (hV.set _) rfl rfl rfl rfl rfl rfl (fun _ => ⟨rfl, rfl, rfl, rfl, .inl ⟨k2, rfl, rfl, rfl, .inr (.inl rfl)⟩⟩) (fun h => by simp [core] at h)
      · obtain rfl : n' = 2 := by omega
        simp only [show ¬ (2 : Int) = 1 by omega, if_true, if_false]
        by_cases c : zb - y.top ≥ 64
        · rw [if_pos c]
          simp only [Option.bind_some]
          exact fin_ ((hV.set _).set _) rfl rfl rfl rfl rfl (by simp [core, c]) (fun h => by simp [core, c] at h) (fun h => by simp [core, c] at h)
        · rw [if_neg c]
          simp only [Option.bind_some]
          exact fin_ (hV.set _) rfl rfl rfl rfl rfl (by simp [core, c]) (fun _ => ⟨rfl, rfl, by simp [stp, core, c], rfl, .inl ⟨k2, rfl, rfl, rfl, .inr (.inr (.inl rfl))⟩⟩) (fun h => by simp [core, c] at h)
      · obtain rfl : n' = 3 := by omega
        simp only [show ¬ (3 : Int) = 1 by omega, show ¬ (3 : Int) = 2 by omega, if_true, if_false, Option.bind_some]
        exact fin_ hV rfl rfl rfl rfl rfl rfl (fun _ => ⟨rfl, rfl, rfl, rfl, .inl ⟨k2, rfl, rfl, rfl, .inr (.inr (.inr rfl))⟩⟩) (fun h => by simp [core] at h)
      · obtain rfl : n' = 4 := by omega
        simp only [show ¬ (4 : Int) = 1 by omega, show ¬ (4 : Int) = 2 by omega, show ¬ (4 : Int) = 3 by omega, if_true, if_false, Option.bind_some]
        exact fin_ (hV.set _) rfl rfl rfl rfl rfl rfl (fun h => by simp [core] at h) (fun _ => rfl)
    · -- Steal
      have e1 : w64 (zt + 1) = zt + 1 := sml_w s4 1 (by omega)
      rw [if_neg k1, if_neg k2]
      unfold fettleref11_Deque_steal
      simp only [Option.bind_some, hV.rs, refcell_eq, refidx_eq, e1]
      rcases ha with rfl | rfl | rfl | rfl
      · obtain rfl : n' = 1 := by omega
        simp only [if_true, Option.bind_some]
        exact fin_ (hV.set _) rfl rfl (by simp [core, k1, k2]) (by simp [core, k1, k2]) (by simp [core, k1, k2]) (by simp [core, k1, k2]) (fun _ => ⟨by simp [stp, core, k1, k2], rfl, by simp [stp, core, k1, k2], by simp [stp, core, k1, k2], .inl (by simp [stp, core, k1, k2])⟩) (fun h => by simp [core, k1, k2] at h)
      · obtain rfl : n' = 2 := by omega
        simp only [show ¬ (2 : Int) = 1 by omega, if_true, if_false]
        by_cases c : zt ≥ y.bottom
        · rw [if_pos c]
          simp only [Option.bind_some]
          exact fin_ ((hV.set _).set _) rfl rfl (by simp [core, k1, k2]) (by simp [core, k1, k2]) (by simp [core, k1, k2]) (by simp [core, k1, k2, c]) (fun h => by simp [core, c, k1, k2] at h) (fun h => by simp [core, c, k1, k2] at h)
        · rw [if_neg c]
          simp only [Option.bind_some]
          exact fin_ (hV.set _) rfl rfl (by simp [core, k1, k2]) (by simp [core, k1, k2]) (by simp [core, k1, k2]) (by simp [core, k1, k2, c]) (fun _ => ⟨by simp [stp, core, k1, k2], rfl, by simp [stp, core, k1, k2, c], by simp [stp, core, k1, k2], .inl (by simp [stp, core, k1, k2])⟩) (fun h => by simp [core, k1, k2, c] at h)
      · obtain rfl : n' = 3 := by omega
        simp only [show ¬ (3 : Int) = 1 by omega, show ¬ (3 : Int) = 2 by omega, if_true, if_false, Option.bind_some]
        exact fin_ (hV.set _) rfl rfl (by simp [core, k1, k2]) (by simp [core, k1, k2]) (by simp [core, k1, k2]) (by simp [core, k1, k2]) (fun _ => ⟨by simp [stp, core, k1, k2], rfl, by simp [stp, core, k1, k2], by simp [stp, core, k1, k2], .inl (by simp [stp, core, k1, k2])⟩) (fun h => by simp [core, k1, k2] at h)
      · obtain rfl : n' = 4 := by omega
        simp only [show ¬ (4 : Int) = 1 by omega, show ¬ (4 : Int) = 2 by omega, show ¬ (4 : Int) = 3 by omega, if_true, if_false]
        by_cases c : y.top = zt
        · rw [if_pos c]
          simp only [Option.bind_some]
          exact fin_ ((hV.set _).set _) rfl rfl (by simp [core, k1, k2, c]) (by simp [core, k1, k2, c]) (by simp [core, k1, k2, c]) (by simp [core, k1, k2, c]) (fun h => by simp [core, c, k1, k2] at h) (fun h => by simp [core, c, k1, k2])
        · rw [if_neg c]
          simp only [Option.bind_some]
          exact fin_ (hV.set _) rfl rfl (by simp [core, k1, k2, c]) (by simp [core, k1, k2, c]) (by simp [core, k1, k2, c]) (by simp [core, k1, k2, c]) (fun h => by simp [core, c, k1, k2] at h) (fun h => by simp [core, c, k1, k2] at h)
  · -- Pop
    have e0 : w64 (y.bottom - 1) = y.bottom - 1 := sml_w s2 (-1) (by omega)
    have e3 : w64 (zt + 1) = zt + 1 := sml_w s4 1 (by omega)
    rw [if_neg (show ¬ (2 : Int) = 1 by omega), if_pos rfl]
    unfold fettleref11_Deque_pop
    simp only [Option.bind_some, hV.rs, e0, e3]
    rcases hp with ⟨rfl, rfl⟩ | ⟨rfl, hp⟩
    · obtain rfl : n' = 1 := by omega
      simp only [if_true, Option.bind_some]
      exact fin_ (hV.set _) rfl rfl rfl rfl rfl rfl (fun _ => ⟨rfl, rfl, rfl, rfl, .inr ⟨rfl, .inr ⟨by simp [stp, core], .inl ⟨rfl, rfl⟩⟩⟩⟩) (fun h => by simp [core] at h)
    have e1 : w64 (xb + 1 - 1) = xb := by rw [show xb + 1 - 1 = xb by omega]; exact w64_id ⟨by have := s5.1; omega, by have := s5.2; omega⟩
    simp only [e1, refcell_eq, refidx_eq]
    rcases hp with ⟨rfl, rfl⟩ | ⟨rfl, rfl, hc⟩ | ⟨rfl, rfl, hc⟩ | ⟨rfl, rfl, rfl⟩ | ⟨rfl, rfl, rfl, rfl⟩ | ⟨rfl, rfl, rfl⟩
    · obtain rfl : n' = 2 := by omega
      simp only [show ¬ (2 : Int) = 1 by omega, if_true, if_false, Option.bind_some]
      refine fin_ (hV.set _) rfl rfl rfl rfl rfl rfl (fun _ => ⟨rfl, rfl, rfl, rfl, .inr ⟨rfl, .inr ⟨rfl, .inr ?_⟩⟩⟩) (fun h => by simp [core] at h)
      by_cases c : y.top > xb
      · exact .inl (by simp [stp, core, c])
      · exact .inr (.inl (by simp [stp, core, c]))
    · obtain rfl : n' = 3 := by omega
      simp only [show ¬ (3 : Int) = 1 by omega, show ¬ (3 : Int) = 2 by omega, if_true, if_false, if_pos hc, Option.bind_some]
      exact fin_ (hV.set _) rfl rfl rfl rfl rfl rfl (fun h => by simp [core] at h) (fun h => by simp [core] at h)
    · obtain rfl : n' = 3 := by omega
      simp only [show ¬ (3 : Int) = 1 by omega, show ¬ (3 : Int) = 2 by omega, if_true, if_false, if_neg hc, Option.bind_some, refidx_eq]
      by_cases c : zt < xb
      · rw [if_pos c]
        simp only [Option.bind_some]
        exact fin_ ((hV.set _).set _) rfl rfl (by simp [core, c]) (by simp [core, c]) (by simp [core, c]) (by simp [core, c]) (fun h => by simp [core, c] at h) (fun _ => by simp [core, c])
      · rw [if_neg c]
        simp only [Option.bind_some]
        exact fin_ (hV.set _) rfl rfl (by simp [core, c]) (by simp [core, c]) (by simp [core, c]) (by simp [core, c]) (fun _ => ⟨by simp [stp, core, c], rfl, by simp [stp, core, c], by simp [stp, core, c], .inr ⟨by simp [stp, core, c], .inr ⟨by simp [stp, core, c], .inr (.inr (.inr (.inl (by simp [stp, core, c]))))⟩⟩⟩) (fun h => by simp [core, c] at h)
    · obtain rfl : n' = 4 := by omega
      simp only [show ¬ (4 : Int) = 1 by omega, show ¬ (4 : Int) = 2 by omega, show ¬ (4 : Int) = 3 by omega, if_true, if_false]
      by_cases c : y.top = zt
      · rw [if_pos c]
        simp only [Option.bind_some]
        exact fin_ (hV.set _) rfl rfl (by simp [core, c]) (by simp [core, c]) (by simp [core, c]) (by simp [core, c]) (fun _ => ⟨by simp [stp, core, c], rfl, by simp [stp, core, c], by simp [stp, core, c], .inr ⟨by simp [stp, core, c], .inr ⟨by simp [stp, core, c], .inr (.inr (.inr (.inr (.inl (by simp [stp, core, c])))))⟩⟩⟩) (fun h => by simp [core, c] at h)
      · rw [if_neg c]
        simp only [Option.bind_some]
        exact fin_ (hV.set _) rfl rfl (by simp [core, c]) (by simp [core, c]) (by simp [core, c]) (by simp [core, c]) (fun _ => ⟨by simp [stp, core, c], rfl, by simp [stp, core, c], by simp [stp, core, c], .inr ⟨by simp [stp, core, c], .inr ⟨by simp [stp, core, c], .inr (.inr (.inr (.inr (.inr (by simp [stp, core, c])))))⟩⟩⟩) (fun h => by simp [core, c] at h)
    · obtain rfl : n' = 5 := by omega
      simp only [show ¬ (5 : Int) = 1 by omega, show ¬ (5 : Int) = 2 by omega, show ¬ (5 : Int) = 3 by omega, show ¬ (5 : Int) = 4 by omega, if_true, if_false, Option.bind_some]
      exact fin_ ((hV.set _).set _) rfl rfl rfl rfl rfl rfl (fun h => by simp [core] at h) (fun _ => rfl)
    · obtain rfl : n' = 5 := by omega
      simp only [show ¬ (5 : Int) = 1 by omega, show ¬ (5 : Int) = 2 by omega, show ¬ (5 : Int) = 3 by omega, show ¬ (5 : Int) = 4 by omega, if_true, if_false, Bool.false_eq_true, Option.bind_some]
      exact fin_ (hV.set _) rfl rfl rfl rfl rfl rfl (fun h => by simp [core] at h) (fun h => by simp [core] at h)
end Go.Proofs.Ytoflleabpkgdpaa
