/-
  DERIVED. GIVEN WITH THE SEED: THE CARDS: each row of YtpomfbdbkejedaaGreatDoorRows.lean that lists a variable, with what it lists TIED to the program's text (the seventh form; the later family's looks); each row that meets fmt, with fmt's text TOLD by the authors' own Lean function (tested against real Go, not proved from fmt's source: count such statements apart). THE CARD IS WHAT COUNTS. Prove the row's statement (the work); the ties are given (YtpomfbdbkejedaaGreatDoorTie.lean); close each card by the builder's one call (the guide's Derived/Test/ToyasCard.lean, 'card_holds'). Laid BY PROGRAM, IN A SANDBOX (cutbox-door.mjs). By AI agents, Wed Nov 11 2026. No macro, syntax, notation, axiom, sorry.
-/
import Derived.Test.YtpomfbdbkejedaaGreatDoorRows
import GoSem.ClaimSeven
namespace Go.Proofs.YtpomfbdbkejedaaGreatDoor
namespace Rows

/-- THE TIED CARD OF 'fettlelaw15.EffectTells'. -/
def effectTellsCard : Claim7 := { stood := { row := effectTellsRow, standIns := [], harness := (true, "b35968b79bded393e3404e36e3c8d4982604eb27f772a006298ca404df05df6f"), looks := true }, kinds := [], alts := [], laidByText := true, laidKinds := [.handle], laidTests := true, laidLooks := .later }
def EffectTellsCardSaid : Prop := Claim7.holds Tryz.pinned (.plain (OpenSpec.ofChange effectTellsSpec)) effectTellsCard

/-- THE SECOND FORM's CARD OF 'fettlelaw15.EffectTells'. -/
def effectTellsUptoCard : Claim7 := { stood := { row := effectTellsUptoRow, standIns := [], harness := (true, "b35968b79bded393e3404e36e3c8d4982604eb27f772a006298ca404df05df6f"), looks := true }, kinds := [], alts := [], laidByText := true, laidKinds := [.handle], laidTests := true, laidLooks := .later }
def EffectTellsUptoCardSaid : Prop := Claim7.holds Tryz.pinned (.plain (OpenSpec.upto effectTellsSpec)) effectTellsUptoCard
end Rows
end Go.Proofs.YtpomfbdbkejedaaGreatDoor
