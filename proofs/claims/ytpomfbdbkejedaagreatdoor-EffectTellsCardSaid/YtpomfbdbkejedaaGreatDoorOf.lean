/- fettlelaw00.Of as a contract: which number an error tells of, and at which place. No conditions. -/
import Derived.Test.YtpomfbdbkejedaaGreatDoorAsK
import Derived.Test.YtpomfbdbkejedaaGreatDoorC1
set_option linter.unusedVariables false
set_option linter.unusedSimpArgs false
namespace Go.Proofs.YtpomfbdbkejedaaGreatDoor
open Go Go.Proofs
theorem c18 : callB Tryz.prog 18 = true := by kernel_rfl
def fettlelaw00_Of : GErr → Option (Int × Int)
  | .spot a e => (fettlelaw00_Code e).bind fun c => some (c, a)
  | x => (fettlelaw00_Code x).bind fun c => some (c, -1)
abbrev fettlelaw00_Of.R (r : Int × Int) (v : Value) (A : List FP) : Prop := .tuple #[.int .i64 r.1, .int .i64 r.2] = v ∧ A = []
theorem Of_plain {E : World} {H : FP} {w : World} {x : GErr} {v : Value} {F : FP} {r : Int × Int} (hg : GV H) (he : ErO 73 60 65 x v F) (hs : isSpot x = false) (hp : ((fettlelaw00_Code x).bind fun c => some (c, (-1 : Int))) = some r) (hst : St E H [] w) :
    Fn Tryz.prog 7 #[v] w fun v w' => ∃ A, fettlelaw00_Of.R r v A ∧ St E H A w' := by
  refine fb 26 [.tmp 2, .tmp 3] Tryz.func7 rfl rfl rfl rfl rfl hst <| sr <| ta rfl <| ta rfl <| nz <| sr <| tl i60 rfl fun b => nz <| sr <| tm rfl <| tv (mI u62 rfl) rfl <| tc (R := fun v' A' => v' = .bool (isSpot x) ∧ A' = [bx b 60 [spotV x v]]) 1 [] rfl c18 (fun w h => Fn.mono (as_ok (L := []) (hg.more _) he h) fun v w' ⟨h1, h2⟩ => ⟨_, ⟨h1, rfl⟩, h2⟩) rfl fun v1 A1 h1 => ?_
  obtain ⟨rfl, rfl⟩ := h1
  rw [hs]
  refine ta rfl <| nz <| TC.seq fun K2 k2 => sr <| tm rfl <| tv (rv_not rfl) rfl <| tm rfl <| gn rfl rfl rfl rfl <| gn rfl rfl rfl rfl <| tv (pT rfl) rfl <| nz <| TC.condT rfl <| sr <| tm rfl <| bE hp fun c hc hp => tc 0 _ rfl c19 (fun w h => fettlelaw00_Code_ok he hc h) rfl fun v2 A2 h2 => ?_
  obtain ⟨h3, rfl⟩ := h2
  subst h3
  exact ta rfl <| ta rfl <| nz <| TC.ret <| rt hp [] ⟨rfl, rfl⟩
theorem Of_spot {E : World} {H : FP} {w : World} {a : Int} {x : GErr} {b' : Nat} {u : Value} {G : FP} {r : Int × Int} (hg : GV H) (he : ErO 73 60 65 x u G) (hF : ∀ p ∈ bx b' 65 [.int .i64 a, u], p ∈ H) (hp : ((fettlelaw00_Code x).bind fun c => some (c, a)) = some r) (hst : St E H [] w) :
    Fn Tryz.prog 7 #[.iface 60 (.pointer (some ⟨b', 0, none⟩))] w fun v w' => ∃ A, fettlelaw00_Of.R r v A ∧ St E H A w' := by
  have hc : CellsIn H b' 0 [.int .i64 a, u] := (bx_cells b' 65 _).mono hF
  refine fb 26 [.tmp 2, .tmp 3] Tryz.func7 rfl rfl rfl rfl rfl hst <| sr <| ta rfl <| ta rfl <| nz <| sr <| tl i60 rfl fun b => nz <| sr <| tm rfl <| tv (mI u62 rfl) rfl <| tc (R := fun v' A' => v' = .bool true ∧ A' = [bx b 60 [.pointer (some ⟨b', 0, none⟩)]]) 1 [] rfl c18 (fun w h => Fn.mono (as_ok (x := .spot a x) (L := []) (hg.more _) (ErO.at_ a b' he) h) fun v w' ⟨h1, h2⟩ => ⟨_, ⟨h1, rfl⟩, h2⟩) rfl fun v1 A1 h1 => ?_
  obtain ⟨rfl, rfl⟩ := h1
  refine ta rfl <| nz <| TC.seq fun K2 k2 => sr <| tm rfl <| tv (rv_not rfl) rfl <| tm rfl <| gy rfl rfl <| tv (lb s60 0 rfl rfl rfl) rfl <| gy rfl rfl <| tv (rv_eqlPN (p := some b') (by kernel_rfl) rfl rfl) rfl <| tv (pF rfl) rfl <| nz <| TC.condF rfl <| sk k2 rfl <| ?_
  refine bE hp fun c hcc hp => TC.seq fun K3 k3 => cq mix (by kernel_rfl) <| qv (lb s60 0 rfl rfl rfl) rfl <| qv (rv_nilCheck rfl) rfl <| qv (fa f65_1 rfl) rfl <| qv (lr s29 sH hc 1 rfl rfl) rfl <| qc (R := fettlelaw00_Code.R c) (.int .i64 c) c19 (fun w h => fettlelaw00_Code_ok he hcc h) (fun v A h => ⟨h.1.symm, h.2⟩) rfl <| qv (lb s60 0 rfl rfl rfl) rfl <| qv (rv_nilCheck rfl) rfl <| qv (fa f65_0 rfl) rfl <| qv (lr s3 sH hc 0 rfl rfl) rfl <| qv (rv_as rfl) rfl <| qv (rv_as rfl) rfl <| QL.nil fun w hw => ?_
  exact tg k3 (TC.ret <| rt hp [] ⟨rfl, rfl⟩) w hw
theorem fettlelaw00_Of_ok {E : World} {H : FP} {w : World} {x : GErr} {v : Value} {F : FP} {r : Int × Int} (hg : GV H) (hF : ∀ p ∈ F, p ∈ H) (he : ErO 73 60 65 x v F) (hp : fettlelaw00_Of x = some r) (hst : St E H [] w) :
    Fn Tryz.prog 7 #[v] w fun v w' => ∃ A, fettlelaw00_Of.R r v A ∧ St E H A w' := by
  match x, he, hp with
  | .no, he, hp => exact Of_plain hg he rfl hp hst
  | .code c, he, hp => exact Of_plain hg he rfl hp hst
  | .spot a e, he, hp =>
    obtain ⟨b', u, G, rfl, rfl, h1⟩ := he
    exact Of_spot hg h1 (fun p hp => hF p (List.mem_append_left _ hp)) hp hst
end Go.Proofs.YtpomfbdbkejedaaGreatDoor
