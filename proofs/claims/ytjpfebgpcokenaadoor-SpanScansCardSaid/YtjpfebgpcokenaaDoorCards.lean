/-
  DERIVED. GIVEN WITH THE SEED: THE CARDS: each row of YtjpfebgpcokenaaDoorRows.lean that lists a variable, with what it lists TIED to the program's text (the seventh form; the later family's looks); each row that meets fmt, with fmt's text TOLD by the authors' own Lean function (tested against real Go, not proved from fmt's source: count such statements apart). THE CARD IS WHAT COUNTS. Prove the row's statement (the work); the ties are given (YtjpfebgpcokenaaDoorTie.lean); close each card by the builder's one call (the guide's Derived/Test/ToyasCard.lean, 'card_holds'). Laid BY PROGRAM, IN A SANDBOX (cutbox-door.mjs). By AI agents, Wed Nov 11 2026. No macro, syntax, notation, axiom, sorry.
-/
import Derived.Test.YtjpfebgpcokenaaDoorRows
import GoSem.ClaimSeven
namespace Go.Proofs.YtjpfebgpcokenaaDoor
namespace Rows

/-- THE TIED CARD OF 'plenumlaw11.SpanSums'. -/
def spanSumsCard : Claim7 := { stood := { row := spanSumsRow, standIns := [], harness := (true, "cfb65932a89fbef14067b3a03cbadbd16c21ad6477c0c7ed80825b9d65b756e0"), looks := false }, kinds := [], alts := [], laidByText := true, laidKinds := [.data], laidTests := true, laidLooks := .later }
def SpanSumsCardSaid : Prop := Claim7.holds Tryd.pinned (.plain (OpenSpec.ofChange spanSumsSpec)) spanSumsCard

/-- THE TIED CARD OF 'plenumlaw11.SpanEnds'. -/
def spanEndsCard : Claim7 := { stood := { row := spanEndsRow, standIns := [], harness := (true, "cfb65932a89fbef14067b3a03cbadbd16c21ad6477c0c7ed80825b9d65b756e0"), looks := false }, kinds := [], alts := [], laidByText := true, laidKinds := [.data], laidTests := true, laidLooks := .later }
def SpanEndsCardSaid : Prop := Claim7.holds Tryd.pinned (.plain (OpenSpec.ofChange spanEndsSpec)) spanEndsCard

/-- THE TIED CARD OF 'plenumlaw11.SpanUnder'. -/
def spanUnderCard : Claim7 := { stood := { row := spanUnderRow, standIns := [], harness := (true, "cfb65932a89fbef14067b3a03cbadbd16c21ad6477c0c7ed80825b9d65b756e0"), looks := false }, kinds := [], alts := [], laidByText := true, laidKinds := [.data], laidTests := true, laidLooks := .later }
def SpanUnderCardSaid : Prop := Claim7.holds Tryd.pinned (.plain (OpenSpec.ofChange spanUnderSpec)) spanUnderCard

/-- THE TIED CARD OF 'plenumlaw11.SpanScans'. -/
def spanScansCard : Claim7 := { stood := { row := spanScansRow, standIns := [], harness := (true, "cfb65932a89fbef14067b3a03cbadbd16c21ad6477c0c7ed80825b9d65b756e0"), looks := false }, kinds := [], alts := [], laidByText := true, laidKinds := [.data], laidTests := true, laidLooks := .later }
def SpanScansCardSaid : Prop := Claim7.holds Tryd.pinned (.plain (OpenSpec.ofChange spanScansSpec)) spanScansCard

/-- THE SECOND FORM's CARD OF 'plenumlaw11.SpanSums'. -/
def spanSumsUptoCard : Claim7 := { stood := { row := spanSumsUptoRow, standIns := [], harness := (true, "cfb65932a89fbef14067b3a03cbadbd16c21ad6477c0c7ed80825b9d65b756e0"), looks := false }, kinds := [], alts := [], laidByText := true, laidKinds := [.data], laidTests := true, laidLooks := .later }
def SpanSumsUptoCardSaid : Prop := Claim7.holds Tryd.pinned (.plain (OpenSpec.upto spanSumsSpec)) spanSumsUptoCard

/-- THE SECOND FORM's CARD OF 'plenumlaw11.SpanEnds'. -/
def spanEndsUptoCard : Claim7 := { stood := { row := spanEndsUptoRow, standIns := [], harness := (true, "cfb65932a89fbef14067b3a03cbadbd16c21ad6477c0c7ed80825b9d65b756e0"), looks := false }, kinds := [], alts := [], laidByText := true, laidKinds := [.data], laidTests := true, laidLooks := .later }
def SpanEndsUptoCardSaid : Prop := Claim7.holds Tryd.pinned (.plain (OpenSpec.upto spanEndsSpec)) spanEndsUptoCard

/-- THE SECOND FORM's CARD OF 'plenumlaw11.SpanUnder'. -/
def spanUnderUptoCard : Claim7 := { stood := { row := spanUnderUptoRow, standIns := [], harness := (true, "cfb65932a89fbef14067b3a03cbadbd16c21ad6477c0c7ed80825b9d65b756e0"), looks := false }, kinds := [], alts := [], laidByText := true, laidKinds := [.data], laidTests := true, laidLooks := .later }
def SpanUnderUptoCardSaid : Prop := Claim7.holds Tryd.pinned (.plain (OpenSpec.upto spanUnderSpec)) spanUnderUptoCard

/-- THE SECOND FORM's CARD OF 'plenumlaw11.SpanScans'. -/
def spanScansUptoCard : Claim7 := { stood := { row := spanScansUptoRow, standIns := [], harness := (true, "cfb65932a89fbef14067b3a03cbadbd16c21ad6477c0c7ed80825b9d65b756e0"), looks := false }, kinds := [], alts := [], laidByText := true, laidKinds := [.data], laidTests := true, laidLooks := .later }
def SpanScansUptoCardSaid : Prop := Claim7.holds Tryd.pinned (.plain (OpenSpec.upto spanScansSpec)) spanScansUptoCard
end Rows
end Go.Proofs.YtjpfebgpcokenaaDoor
