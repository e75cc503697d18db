/- Plain laws, part v-D: the law RunStays. No conditions. -/
import Derived.Test.YtoflleabpkgdpaaPvC
import Derived.Test.YtoflleabpkgdpaaR4
set_option linter.unusedVariables false
set_option linter.unusedSimpArgs false
namespace Go.Proofs.Ytoflleabpkgdpaa
open Go Go.Proofs

theorem pure_runStays (m : PModule) (f : Int) (args : List Int) (steps : Int) (h : wfModule m) (hf : inI64 f) (ha : okL inI64 args) (hs : inI64 steps) : fettlelaw04_RunStays m f args steps = some true := by
  unfold fettlelaw04_RunStays
  rw [up04]
  obtain ⟨b, hb, hsm⟩ := small_ok m
  rw [hb]
  simp only [Option.bind_some]
  by_cases hc : (!b) = true ∨ len args > 300
  · rw [if_pos hc]
  rw [if_neg hc]
  simp only [not_or, len] at hc
  have hbt : b = true := by cases b <;> simp_all
  have hsm := hsm hbt
  have hal : args.length ≤ 300 := by omega
  obtain ⟨s, hse, hs2⟩ := few_any steps
  rw [hse, copy_eq m hsm, cat_nil (by omega)]
  simp only [Option.bind_some]
  have hrun : ∃ o e, run_Run m f args s = some (o, e) ∧ o.out.length ≤ 1000000 := by
    obtain ⟨e, h1 | h1⟩ := run_any m hsm f args s hal
    · exact ⟨zeroO, e, h1.2.1, by simp [zeroO]⟩
    · obtain ⟨_, hp, hfa, h0, hle, hr⟩ := h1
      refine ⟨_, _, hr, ?_⟩
      have := hs2 hle h0
      have g := adv_ok m hp hsm s.toNat (startC m f args) (start_good m hp f args hfa) (by have : (startC m f args).2.steps = 0 := rfl; omega)
      have g1 := g.1.out
      have g2 := g.2.2.1
      have : (startC m f args).2.steps = 0 := rfl
      omega
  obtain ⟨o, e, hr, hol⟩ := hrun
  rw [hr]
  simp only [Option.bind_some]
  have hw1 : whl (fun (s : Int) => fettlelaw04_RunStays.bd63 args args s) FUEL 0 = some (.go ()) := by
    rcases scan_ix args.length (le_max hal (by omega)) (fun i => True) (fun e : Bool => False) (fun s => fettlelaw04_RunStays.bd63 args args s) (fun i hi => by
      refine .inr ⟨?_, trivial⟩
      simp only [fettlelaw04_RunStays.bd63, len_lt, hi, if_true, idx_lt hi, Option.bind_some, not_true, if_false, w64_i hi (show args.length ≤ 1000 by omega)]) (by simp [fettlelaw04_RunStays.bd63, len]) with ⟨e, _, hf, _⟩ | ⟨hw, _⟩
    · exact hf.elim
    · exact hw
  rw [hw1]
  simp only [Option.bind_some, fettlelaw04_RunStays.nx63]
  rw [cat_ok (show ([] : List Int).length + o.out.length < LIM by simp only [LIM, List.length_nil]; omega)]
  simp only [Option.bind_some, List.nil_append]
  obtain ⟨r, hw2, _⟩ := whl_for (body := fun (s : (List Int × Int)) => fettlelaw04_RunStays.bd95 s.1 s.2) (s0 := (o.out, 0)) o.out.length (fun i s => s.2 = (i : Int) ∧ s.1.length = o.out.length) (fun _ => True) (by simp only [maxLen]; omega)
    (fun i s hi hI => by
      obtain ⟨l, k⟩ := s
      obtain ⟨rfl, hl⟩ := hI
      have hi' : i < l.length := by simpa [hl] using hi
      refine .inr ⟨(l.set ((i : Int)).toNat (w64 (l[i] + 1)), ((i + 1 : Nat) : Int)), ?_, ?_⟩
      · simp only [fettlelaw04_RunStays.bd95, len_lt, hi', if_true, idx_lt hi', Option.bind_some, w64_at hi (show o.out.length ≤ maxLen by simp only [maxLen]; omega)]
      · exact ⟨rfl, by simpa using hl⟩)
    (fun s hI => by
      obtain ⟨l, k⟩ := s
      obtain ⟨rfl, hl⟩ := hI
      exact ⟨l, by simp only [fettlelaw04_RunStays.bd95, len]; rw [if_neg (by simp at hl; omega)], trivial⟩) ⟨rfl, rfl⟩
  rw [hw2]
  simp only [Option.bind_some, fettlelaw04_RunStays.nx95, hr, if_true, same_eq m m hsm, alike_eq o.out o.out (by simp only [maxLen]; omega), decide_true, beq_self_eq_true, and_self]
end Go.Proofs.Ytoflleabpkgdpaa
