/-
  DERIVED. GIVEN WITH THE SEED: THE CARDS: each row of YteaknconpkklhaaDoorRows.lean that lists a variable, with what it lists TIED to the program's text (the seventh form; the later family's looks); each row that meets fmt, with fmt's text TOLD by the authors' own Lean function (tested against real Go, not proved from fmt's source: count such statements apart). THE CARD IS WHAT COUNTS. Prove the row's statement (the work); the ties are given (YteaknconpkklhaaDoorTie.lean); close each card by the builder's one call (the guide's Derived/Test/ToyasCard.lean, 'card_holds'). Laid BY PROGRAM, IN A SANDBOX (cutbox-door.mjs). By AI agents, Wed Nov 11 2026. No macro, syntax, notation, axiom, sorry.
-/
import Derived.Test.YteaknconpkklhaaDoorRows
import GoSem.ClaimSeven
namespace Go.Proofs.YteaknconpkklhaaDoor
namespace Rows

/-- THE TIED CARD OF 'fettlelaw08.LiveTells'. -/
def liveTellsCard : Claim7 := { stood := { row := liveTellsRow, standIns := [], harness := (true, "edc16b0b45627f10d19092fd0e39bf2e39e63476285a8902f27bf5b6a50e1f5c"), looks := true }, kinds := [], alts := [], laidByText := true, laidKinds := [.handle], laidTests := true, laidLooks := .later }
def LiveTellsCardSaid : Prop := Claim7.holds Tryd.pinned (.plain (OpenSpec.ofChange liveTellsSpec)) liveTellsCard

/-- THE TIED CARD OF 'fettlelaw13.ProperForms'. -/
def properFormsCard : Claim7 := { stood := { row := properFormsRow, standIns := [], harness := (true, "edc16b0b45627f10d19092fd0e39bf2e39e63476285a8902f27bf5b6a50e1f5c"), looks := true }, kinds := [], alts := [], laidByText := true, laidKinds := [.handle], laidTests := true, laidLooks := .later }
def ProperFormsCardSaid : Prop := Claim7.holds Tryd.pinned (.plain (OpenSpec.ofChange properFormsSpec)) properFormsCard

/-- THE TIED CARD OF 'fettlelaw13.ProperStays'. -/
def properStaysCard : Claim7 := { stood := { row := properStaysRow, standIns := [], harness := (true, "edc16b0b45627f10d19092fd0e39bf2e39e63476285a8902f27bf5b6a50e1f5c"), looks := true }, kinds := [], alts := [], laidByText := true, laidKinds := [.handle], laidTests := true, laidLooks := .later }
def ProperStaysCardSaid : Prop := Claim7.holds Tryd.pinned (.plain (OpenSpec.ofChange properStaysSpec)) properStaysCard

/-- THE SECOND FORM's CARD OF 'fettlelaw08.LiveTells'. -/
def liveTellsUptoCard : Claim7 := { stood := { row := liveTellsUptoRow, standIns := [], harness := (true, "edc16b0b45627f10d19092fd0e39bf2e39e63476285a8902f27bf5b6a50e1f5c"), looks := true }, kinds := [], alts := [], laidByText := true, laidKinds := [.handle], laidTests := true, laidLooks := .later }
def LiveTellsUptoCardSaid : Prop := Claim7.holds Tryd.pinned (.plain (OpenSpec.upto liveTellsSpec)) liveTellsUptoCard

/-- THE SECOND FORM's CARD OF 'fettlelaw13.ProperForms'. -/
def properFormsUptoCard : Claim7 := { stood := { row := properFormsUptoRow, standIns := [], harness := (true, "edc16b0b45627f10d19092fd0e39bf2e39e63476285a8902f27bf5b6a50e1f5c"), looks := true }, kinds := [], alts := [], laidByText := true, laidKinds := [.handle], laidTests := true, laidLooks := .later }
def ProperFormsUptoCardSaid : Prop := Claim7.holds Tryd.pinned (.plain (OpenSpec.upto properFormsSpec)) properFormsUptoCard

/-- THE SECOND FORM's CARD OF 'fettlelaw13.ProperStays'. -/
def properStaysUptoCard : Claim7 := { stood := { row := properStaysUptoRow, standIns := [], harness := (true, "edc16b0b45627f10d19092fd0e39bf2e39e63476285a8902f27bf5b6a50e1f5c"), looks := true }, kinds := [], alts := [], laidByText := true, laidKinds := [.handle], laidTests := true, laidLooks := .later }
def ProperStaysUptoCardSaid : Prop := Claim7.holds Tryd.pinned (.plain (OpenSpec.upto properStaysSpec)) properStaysUptoCard
end Rows
end Go.Proofs.YteaknconpkklhaaDoor
