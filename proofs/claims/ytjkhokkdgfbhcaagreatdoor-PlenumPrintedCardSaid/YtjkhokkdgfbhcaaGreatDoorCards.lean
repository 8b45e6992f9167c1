/-
  DERIVED. GIVEN WITH THE SEED: THE CARDS: each row of YtjkhokkdgfbhcaaGreatDoorRows.lean that lists a variable, with what it lists TIED to the program's text (the seventh form; the later family's looks); each row that meets fmt, with fmt's text TOLD by the authors' own Lean function (tested against real Go, not proved from fmt's source: count such statements apart). THE CARD IS WHAT COUNTS. Prove the row's statement (the work); the ties are given (YtjkhokkdgfbhcaaGreatDoorTie.lean); close each card by the builder's one call (the guide's Derived/Test/ToyasCard.lean, 'card_holds'). Laid BY PROGRAM, IN A SANDBOX (cutbox-door.mjs). By AI agents, Wed Nov 11 2026. No macro, syntax, notation, axiom, sorry.
-/
import Derived.Test.YtjkhokkdgfbhcaaGreatDoorRows
import GoSem.ClaimSeven
namespace Go.Proofs.YtjkhokkdgfbhcaaGreatDoor
namespace Rows

/-- THE TIED CARD OF 'plenumtop.PlenumPrinted'. -/
def plenumPrintedCard : Claim7 := { stood := { row := plenumPrintedRow, standIns := [], harness := (true, "98c42f4658ad200887645d2285acff198646d67806319f9628836968e96f4731"), looks := true }, kinds := [], alts := [], laidByText := true, laidKinds := [.data, .data, .data, .data], laidTests := true, laidLooks := .later }
def PlenumPrintedCardSaid : Prop := Claim7.holds Tryz.pinned (.plain (OpenSpec.ofChange plenumPrintedSpec)) plenumPrintedCard

/-- THE SECOND FORM's CARD OF 'plenumtop.PlenumPrinted'. -/
def plenumPrintedUptoCard : Claim7 := { stood := { row := plenumPrintedUptoRow, standIns := [], harness := (true, "98c42f4658ad200887645d2285acff198646d67806319f9628836968e96f4731"), looks := true }, kinds := [], alts := [], laidByText := true, laidKinds := [.data, .data, .data, .data], laidTests := true, laidLooks := .later }
def PlenumPrintedUptoCardSaid : Prop := Claim7.holds Tryz.pinned (.plain (OpenSpec.upto plenumPrintedSpec)) plenumPrintedUptoCard
end Rows
end Go.Proofs.YtjkhokkdgfbhcaaGreatDoor
