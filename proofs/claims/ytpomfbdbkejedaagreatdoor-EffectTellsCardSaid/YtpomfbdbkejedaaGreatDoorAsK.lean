/- errors.As as a contract of the framework's form: the error's own place is told, all else stays. No conditions. -/
import Derived.Test.YtpomfbdbkejedaaGreatDoorAsC
import Derived.Test.YtpomfbdbkejedaaGreatDoorFwW
set_option linter.unusedVariables false
set_option linter.unusedSimpArgs false
namespace Go.Proofs.YtpomfbdbkejedaaGreatDoor
open Go Go.Proofs
/-- the frozen blocks hold errors.errorType -/
def GV (H : FP) : Prop := ∀ w, At w H → w.cell? ⟨0, 0, none⟩ = some (.iface 122 (.agg #[.pointer (some ⟨1, 29, none⟩)]))
theorem GV.more {H : FP} (h : GV H) (F : FP) : GV (F ++ H) := fun w hw => h w fun p hp => hw p (List.mem_append_right _ hp)
/-- where a Spot is -/
def spotV : GErr → Value → Value
  | .spot _ _, .iface _ p => p
  | _, _ => .pointer none
def isSpot : GErr → Bool
  | .spot _ _ => true
  | _ => false
theorem as_ok {E : World} {H : FP} {L : List FP} {w : World} {x : GErr} {v : Value} {F : FP} {b : Nat} (hg : GV H) (he : ErO 73 60 65 x v F) (hst : St E H (bx b 60 [.pointer none] :: L) w) :
    Fn Tryz.prog 18 #[v, .iface 62 (.pointer (some ⟨b, 0, none⟩))] w fun r w' => r = .bool (isSpot x) ∧ St E H (bx b 60 [spotV x v] :: L) w' := by
  have hgw := hg w hst.atH
  have hb : w.heap[b]? = some (.cells [Value.pointer none].toArray 60 (0, 0)) := hst.atL (b, _) (by simp [bx])
  have hcell : w.cell? ⟨b, 0, none⟩ = some (.pointer none) := by simp [World.cell?, hb]
  have hfr : w.frozen? ⟨b, 0, none⟩ = false := by simp [World.frozen?, hb]
  have drop3 : ∀ {o1 o2 o3 : Obj}, St E H (bx b 60 [.pointer none] :: L) (((w.alloc o1).alloc o2).alloc o3) := fun {o1 o2 o3} => by
    have := ((hst.alloc o1).alloc o2).alloc o3
    exact this.sub ([(((w.alloc o1).alloc o2).heap.size, o3)] ++ ([((w.alloc o1).heap.size, o2)] ++ [(w.heap.size, o1)])) (by
      simp only [List.flatten_cons]
      refine List.perm_append_comm.trans ?_
      simp)
  match x, he with
  | .no, he =>
    obtain ⟨rfl, rfl⟩ := he
    exact Calls.mono (as_nil _ w) fun e w' ⟨h1, h2⟩ => ⟨.bool false, h1, rfl, by subst h2; exact hst⟩
  | .code c, he =>
    obtain ⟨rfl, rfl⟩ := he
    refine Calls.mono (as_code c ⟨b, 0, none⟩ _ w hgw hcell) fun e w' ⟨h1, h2⟩ => ⟨.bool false, h1, rfl, ?_⟩
    subst h2
    exact drop3
  | .spot a e, he =>
    obtain ⟨b', u, G, rfl, rfl, _⟩ := he
    refine Calls.mono (as_hit ⟨b', 0, none⟩ ⟨b, 0, none⟩ _ w hgw hcell hfr) fun e w' ⟨h1, h2⟩ => ⟨.bool true, h1, rfl, ?_⟩
    subst h2
    have h4 := drop3 (o1 := .cells #[.pointer (some ⟨b, 0, none⟩)] 62) (o2 := .cells #[.pointer (some ⟨1, 62, none⟩), .pointer (some ⟨w.heap.size, 0, none⟩), .int .u64 150] 86) (o3 := .cells #[.pointer (some ⟨1, 62, none⟩), .pointer (some ⟨w.heap.size, 0, none⟩), .int .u64 150] 86)
    have h5 := (h4.alloc (.cells #[.pointer (some ⟨b', 0, none⟩)] 60)).sub (L' := bx b 60 [.pointer none] :: L) _ (by
      rw [List.flatten_cons (l := [_])]
      exact List.perm_append_comm)
    exact St.write (cs := [.pointer none]) (G := []) h5 0 [.pointer (some ⟨b', 0, none⟩)]
end Go.Proofs.YtpomfbdbkejedaaGreatDoor
