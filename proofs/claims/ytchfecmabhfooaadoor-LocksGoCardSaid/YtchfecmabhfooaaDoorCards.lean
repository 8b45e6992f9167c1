/-
  DERIVED. GIVEN WITH THE SEED: THE CARDS: each row of YtchfecmabhfooaaDoorRows.lean that lists a variable, with what it lists TIED to the program's text (the seventh form; the later family's looks); each row that meets fmt, with fmt's text TOLD by the authors' own Lean function (tested against real Go, not proved from fmt's source: count such statements apart). THE CARD IS WHAT COUNTS. Prove the row's statement (the work); the ties are given (YtchfecmabhfooaaDoorTie.lean); close each card by the builder's one call (the guide's Derived/Test/ToyasCard.lean, 'card_holds'). Laid BY PROGRAM, IN A SANDBOX (cutbox-door.mjs). By AI agents, Wed Nov 11 2026. No macro, syntax, notation, axiom, sorry.
-/
import Derived.Test.YtchfecmabhfooaaDoorRows
import GoSem.ClaimSeven
namespace Go.Proofs.YtchfecmabhfooaaDoor
namespace Rows

/-- THE TIED CARD OF 'plenumlaw23.ClashPairs'. -/
def clashPairsCard : Claim7 := { stood := { row := clashPairsRow, standIns := [], harness := (true, "d68675bc6f422237e054277e6523f0ca3e5c6234c593a2594cee87a1e756db72"), looks := false }, kinds := [], alts := [], laidByText := true, laidKinds := [.data], laidTests := true, laidLooks := .later }
def ClashPairsCardSaid : Prop := Claim7.holds Tryd.pinned (.plain (OpenSpec.ofChange clashPairsSpec)) clashPairsCard

/-- THE TIED CARD OF 'plenumlaw23.ClashLists'. -/
def clashListsCard : Claim7 := { stood := { row := clashListsRow, standIns := [], harness := (true, "d68675bc6f422237e054277e6523f0ca3e5c6234c593a2594cee87a1e756db72"), looks := false }, kinds := [], alts := [], laidByText := true, laidKinds := [.data], laidTests := true, laidLooks := .later }
def ClashListsCardSaid : Prop := Claim7.holds Tryd.pinned (.plain (OpenSpec.ofChange clashListsSpec)) clashListsCard

/-- THE TIED CARD OF 'plenumlaw23.ClashRanks'. -/
def clashRanksCard : Claim7 := { stood := { row := clashRanksRow, standIns := [], harness := (true, "d68675bc6f422237e054277e6523f0ca3e5c6234c593a2594cee87a1e756db72"), looks := false }, kinds := [], alts := [], laidByText := true, laidKinds := [.data], laidTests := true, laidLooks := .later }
def ClashRanksCardSaid : Prop := Claim7.holds Tryd.pinned (.plain (OpenSpec.ofChange clashRanksSpec)) clashRanksCard

/-- THE TIED CARD OF 'plenumlaw24.LocksPlay'. -/
def locksPlayCard : Claim7 := { stood := { row := locksPlayRow, standIns := [], harness := (true, "d68675bc6f422237e054277e6523f0ca3e5c6234c593a2594cee87a1e756db72"), looks := false }, kinds := [], alts := [], laidByText := true, laidKinds := [.data], laidTests := true, laidLooks := .later }
def LocksPlayCardSaid : Prop := Claim7.holds Tryd.pinned (.plain (OpenSpec.ofChange locksPlaySpec)) locksPlayCard

/-- THE TIED CARD OF 'plenumlaw24.LocksGo'. -/
def locksGoCard : Claim7 := { stood := { row := locksGoRow, standIns := [], harness := (true, "d68675bc6f422237e054277e6523f0ca3e5c6234c593a2594cee87a1e756db72"), looks := false }, kinds := [], alts := [], laidByText := true, laidKinds := [.data], laidTests := true, laidLooks := .later }
def LocksGoCardSaid : Prop := Claim7.holds Tryd.pinned (.plain (OpenSpec.ofChange locksGoSpec)) locksGoCard

/-- THE TIED CARD OF 'plenumlaw08.KeyForms'. -/
def keyFormsCard : Claim7 := { stood := { row := keyFormsRow, standIns := [], harness := (true, "d68675bc6f422237e054277e6523f0ca3e5c6234c593a2594cee87a1e756db72"), looks := false }, kinds := [], alts := [], laidByText := true, laidKinds := [.data], laidTests := true, laidLooks := .later }
def KeyFormsCardSaid : Prop := Claim7.holds Tryd.pinned (.plain (OpenSpec.ofChange keyFormsSpec)) keyFormsCard

/-- THE TIED CARD OF 'plenumlaw08.KeyRanges'. -/
def keyRangesCard : Claim7 := { stood := { row := keyRangesRow, standIns := [], harness := (true, "d68675bc6f422237e054277e6523f0ca3e5c6234c593a2594cee87a1e756db72"), looks := false }, kinds := [], alts := [], laidByText := true, laidKinds := [.data], laidTests := true, laidLooks := .later }
def KeyRangesCardSaid : Prop := Claim7.holds Tryd.pinned (.plain (OpenSpec.ofChange keyRangesSpec)) keyRangesCard

/-- THE TIED CARD OF 'plenumlaw08.KeyMeets'. -/
def keyMeetsCard : Claim7 := { stood := { row := keyMeetsRow, standIns := [], harness := (true, "d68675bc6f422237e054277e6523f0ca3e5c6234c593a2594cee87a1e756db72"), looks := false }, kinds := [], alts := [], laidByText := true, laidKinds := [.data], laidTests := true, laidLooks := .later }
def KeyMeetsCardSaid : Prop := Claim7.holds Tryd.pinned (.plain (OpenSpec.ofChange keyMeetsSpec)) keyMeetsCard

/-- THE TIED CARD OF 'plenumlaw08.KeyUnder'. -/
def keyUnderCard : Claim7 := { stood := { row := keyUnderRow, standIns := [], harness := (true, "d68675bc6f422237e054277e6523f0ca3e5c6234c593a2594cee87a1e756db72"), looks := false }, kinds := [], alts := [], laidByText := true, laidKinds := [.data], laidTests := true, laidLooks := .later }
def KeyUnderCardSaid : Prop := Claim7.holds Tryd.pinned (.plain (OpenSpec.ofChange keyUnderSpec)) keyUnderCard

/-- THE TIED CARD OF 'plenumlaw08.KeyParts'. -/
def keyPartsCard : Claim7 := { stood := { row := keyPartsRow, standIns := [], harness := (true, "d68675bc6f422237e054277e6523f0ca3e5c6234c593a2594cee87a1e756db72"), looks := false }, kinds := [], alts := [], laidByText := true, laidKinds := [.data], laidTests := true, laidLooks := .later }
def KeyPartsCardSaid : Prop := Claim7.holds Tryd.pinned (.plain (OpenSpec.ofChange keyPartsSpec)) keyPartsCard

/-- THE SECOND FORM's CARD OF 'plenumlaw23.ClashPairs'. -/
def clashPairsUptoCard : Claim7 := { stood := { row := clashPairsUptoRow, standIns := [], harness := (true, "d68675bc6f422237e054277e6523f0ca3e5c6234c593a2594cee87a1e756db72"), looks := false }, kinds := [], alts := [], laidByText := true, laidKinds := [.data], laidTests := true, laidLooks := .later }
def ClashPairsUptoCardSaid : Prop := Claim7.holds Tryd.pinned (.plain (OpenSpec.upto clashPairsSpec)) clashPairsUptoCard

/-- THE SECOND FORM's CARD OF 'plenumlaw23.ClashLists'. -/
def clashListsUptoCard : Claim7 := { stood := { row := clashListsUptoRow, standIns := [], harness := (true, "d68675bc6f422237e054277e6523f0ca3e5c6234c593a2594cee87a1e756db72"), looks := false }, kinds := [], alts := [], laidByText := true, laidKinds := [.data], laidTests := true, laidLooks := .later }
def ClashListsUptoCardSaid : Prop := Claim7.holds Tryd.pinned (.plain (OpenSpec.upto clashListsSpec)) clashListsUptoCard

/-- THE SECOND FORM's CARD OF 'plenumlaw23.ClashRanks'. -/
def clashRanksUptoCard : Claim7 := { stood := { row := clashRanksUptoRow, standIns := [], harness := (true, "d68675bc6f422237e054277e6523f0ca3e5c6234c593a2594cee87a1e756db72"), looks := false }, kinds := [], alts := [], laidByText := true, laidKinds := [.data], laidTests := true, laidLooks := .later }
def ClashRanksUptoCardSaid : Prop := Claim7.holds Tryd.pinned (.plain (OpenSpec.upto clashRanksSpec)) clashRanksUptoCard

/-- THE SECOND FORM's CARD OF 'plenumlaw24.LocksPlay'. -/
def locksPlayUptoCard : Claim7 := { stood := { row := locksPlayUptoRow, standIns := [], harness := (true, "d68675bc6f422237e054277e6523f0ca3e5c6234c593a2594cee87a1e756db72"), looks := false }, kinds := [], alts := [], laidByText := true, laidKinds := [.data], laidTests := true, laidLooks := .later }
def LocksPlayUptoCardSaid : Prop := Claim7.holds Tryd.pinned (.plain (OpenSpec.upto locksPlaySpec)) locksPlayUptoCard

/-- THE SECOND FORM's CARD OF 'plenumlaw24.LocksGo'. -/
def locksGoUptoCard : Claim7 := { stood := { row := locksGoUptoRow, standIns := [], harness := (true, "d68675bc6f422237e054277e6523f0ca3e5c6234c593a2594cee87a1e756db72"), looks := false }, kinds := [], alts := [], laidByText := true, laidKinds := [.data], laidTests := true, laidLooks := .later }
def LocksGoUptoCardSaid : Prop := Claim7.holds Tryd.pinned (.plain (OpenSpec.upto locksGoSpec)) locksGoUptoCard

/-- THE SECOND FORM's CARD OF 'plenumlaw08.KeyForms'. -/
def keyFormsUptoCard : Claim7 := { stood := { row := keyFormsUptoRow, standIns := [], harness := (true, "d68675bc6f422237e054277e6523f0ca3e5c6234c593a2594cee87a1e756db72"), looks := false }, kinds := [], alts := [], laidByText := true, laidKinds := [.data], laidTests := true, laidLooks := .later }
def KeyFormsUptoCardSaid : Prop := Claim7.holds Tryd.pinned (.plain (OpenSpec.upto keyFormsSpec)) keyFormsUptoCard

/-- THE SECOND FORM's CARD OF 'plenumlaw08.KeyRanges'. -/
def keyRangesUptoCard : Claim7 := { stood := { row := keyRangesUptoRow, standIns := [], harness := (true, "d68675bc6f422237e054277e6523f0ca3e5c6234c593a2594cee87a1e756db72"), looks := false }, kinds := [], alts := [], laidByText := true, laidKinds := [.data], laidTests := true, laidLooks := .later }
def KeyRangesUptoCardSaid : Prop := Claim7.holds Tryd.pinned (.plain (OpenSpec.upto keyRangesSpec)) keyRangesUptoCard

/-- THE SECOND FORM's CARD OF 'plenumlaw08.KeyMeets'. -/
def keyMeetsUptoCard : Claim7 := { stood := { row := keyMeetsUptoRow, standIns := [], harness := (true, "d68675bc6f422237e054277e6523f0ca3e5c6234c593a2594cee87a1e756db72"), looks := false }, kinds := [], alts := [], laidByText := true, laidKinds := [.data], laidTests := true, laidLooks := .later }
def KeyMeetsUptoCardSaid : Prop := Claim7.holds Tryd.pinned (.plain (OpenSpec.upto keyMeetsSpec)) keyMeetsUptoCard

/-- THE SECOND FORM's CARD OF 'plenumlaw08.KeyUnder'. -/
def keyUnderUptoCard : Claim7 := { stood := { row := keyUnderUptoRow, standIns := [], harness := (true, "d68675bc6f422237e054277e6523f0ca3e5c6234c593a2594cee87a1e756db72"), looks := false }, kinds := [], alts := [], laidByText := true, laidKinds := [.data], laidTests := true, laidLooks := .later }
def KeyUnderUptoCardSaid : Prop := Claim7.holds Tryd.pinned (.plain (OpenSpec.upto keyUnderSpec)) keyUnderUptoCard

/-- THE SECOND FORM's CARD OF 'plenumlaw08.KeyParts'. -/
def keyPartsUptoCard : Claim7 := { stood := { row := keyPartsUptoRow, standIns := [], harness := (true, "d68675bc6f422237e054277e6523f0ca3e5c6234c593a2594cee87a1e756db72"), looks := false }, kinds := [], alts := [], laidByText := true, laidKinds := [.data], laidTests := true, laidLooks := .later }
def KeyPartsUptoCardSaid : Prop := Claim7.holds Tryd.pinned (.plain (OpenSpec.upto keyPartsSpec)) keyPartsUptoCard
end Rows
end Go.Proofs.YtchfecmabhfooaaDoor
