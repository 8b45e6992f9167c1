/-
  No cell of these rows narrows 'for every input' (looked for: loops, veiled, ifaces, maps, wideKeys, modest, calm, conditions, laid).
  DERIVED. THE GIVEN ROWS OF THIS SEAT. 4 by the template 'for every input the law returns true; each argument reads behind the call as it read before'; 0 by the template 'total and deterministic' (their statements: YthclmpbgehkgeaaTotals.lean).
  GIVEN WITH THE SEED: the statements are not yours to turn. If you find one false, say at which input.
  Laid BY PROGRAM, IN A SANDBOX (cutbox-rows.mjs): the forced cells as the released guide's own fill.sh prints them over the translation e9473b5780abe264… (all of the seat's roots in one cut). By AI agents, Wed Nov 11 2026. No macro, syntax, notation, axiom, sorry.
-/
import Derived.Test.YthclmpbgehkgeaaChecked
import GoSem.Claim
import GoSem.ClaimJoined
import GoSem.ClaimMapViews
import Derived.JoinedTies
import Derived.KernelRfl
namespace Go.Proofs.Ythclmpbgehkgeaa
/- THE CELL 'sum', in the pinned program and in every row, IS THE sha256 OF THE DUMP (.gsa) THAT YthclmpbgehkgeaaProg.lean LOADS. Nothing in Lean hashes anything: it is a label: what it is worth is what the hold of that sum in a sandbox is worth. -/
noncomputable def Try.pinned : Pinned := { name := "ythclmpbgehkgeaa", sum := "e9473b5780abe2644830abd21d1942030dd684692861f3d501651008451e9e0e", checked := Try.checked }
namespace Rows
def none {H : Type} : Left H := { results := [], args := [] }

/-- 'plenumlaw03.SipTags': WHATEVER THE INPUT: true; the input reads as it did. -/
def sipTagsSpec : ChangeSpec := { name := "sipTags", fn := fun _ => fun
  | [d1, d2, d3] => { results := [.lit (.bool true)], args := [d1, d2, d3] }
  | _ => none }
def sipTagsRow : OpenClaim := { program := "ythclmpbgehkgeaa", sum := "e9473b5780abe2644830abd21d1942030dd684692861f3d501651008451e9e0e", func := "plenum/plenumlaw03.SipTags", spec := "sipTags", apart := false }
def SipTagsSaid : Prop := sipTagsRow.holds Try.pinned (OpenSpec.ofChange sipTagsSpec)

/-- ITS FALSE NEIGHBOUR: 'it returns false'. Refute it at one input. -/
def sipTagsWrong : ChangeSpec := { name := "sipTags", fn := fun _ => fun
  | [d1, d2, d3] => { results := [.lit (.bool false)], args := [d1, d2, d3] }
  | _ => none }
def SipTagsWrongFalsely : Prop := sipTagsRow.holds Try.pinned (OpenSpec.ofChange sipTagsWrong)

/-- 'plenumlaw03.SipPieces': WHATEVER THE INPUT: true; the input reads as it did. -/
def sipPiecesSpec : ChangeSpec := { name := "sipPieces", fn := fun _ => fun
  | [d1, d2] => { results := [.lit (.bool true)], args := [d1, d2] }
  | _ => none }
def sipPiecesRow : OpenClaim := { program := "ythclmpbgehkgeaa", sum := "e9473b5780abe2644830abd21d1942030dd684692861f3d501651008451e9e0e", func := "plenum/plenumlaw03.SipPieces", spec := "sipPieces", apart := false }
def SipPiecesSaid : Prop := sipPiecesRow.holds Try.pinned (OpenSpec.ofChange sipPiecesSpec)

/-- ITS FALSE NEIGHBOUR: 'it returns false'. Refute it at one input. -/
def sipPiecesWrong : ChangeSpec := { name := "sipPieces", fn := fun _ => fun
  | [d1, d2] => { results := [.lit (.bool false)], args := [d1, d2] }
  | _ => none }
def SipPiecesWrongFalsely : Prop := sipPiecesRow.holds Try.pinned (OpenSpec.ofChange sipPiecesWrong)

/-- 'plenumlaw03.SipParts': WHATEVER THE INPUT: true; the input reads as it did. -/
def sipPartsSpec : ChangeSpec := { name := "sipParts", fn := fun _ => fun
  | [d1, d2, d3] => { results := [.lit (.bool true)], args := [d1, d2, d3] }
  | _ => none }
def sipPartsRow : OpenClaim := { program := "ythclmpbgehkgeaa", sum := "e9473b5780abe2644830abd21d1942030dd684692861f3d501651008451e9e0e", func := "plenum/plenumlaw03.SipParts", spec := "sipParts", apart := false }
def SipPartsSaid : Prop := sipPartsRow.holds Try.pinned (OpenSpec.ofChange sipPartsSpec)

/-- ITS FALSE NEIGHBOUR: 'it returns false'. Refute it at one input. -/
def sipPartsWrong : ChangeSpec := { name := "sipParts", fn := fun _ => fun
  | [d1, d2, d3] => { results := [.lit (.bool false)], args := [d1, d2, d3] }
  | _ => none }
def SipPartsWrongFalsely : Prop := sipPartsRow.holds Try.pinned (OpenSpec.ofChange sipPartsWrong)

/-- 'plenumlaw03.SipPairs': WHATEVER THE INPUT: true; the input reads as it did. -/
def sipPairsSpec : ChangeSpec := { name := "sipPairs", fn := fun _ => fun
  | [d1, d2, d3] => { results := [.lit (.bool true)], args := [d1, d2, d3] }
  | _ => none }
def sipPairsRow : OpenClaim := { program := "ythclmpbgehkgeaa", sum := "e9473b5780abe2644830abd21d1942030dd684692861f3d501651008451e9e0e", func := "plenum/plenumlaw03.SipPairs", spec := "sipPairs", apart := false }
def SipPairsSaid : Prop := sipPairsRow.holds Try.pinned (OpenSpec.ofChange sipPairsSpec)

/-- ITS FALSE NEIGHBOUR: 'it returns false'. Refute it at one input. -/
def sipPairsWrong : ChangeSpec := { name := "sipPairs", fn := fun _ => fun
  | [d1, d2, d3] => { results := [.lit (.bool false)], args := [d1, d2, d3] }
  | _ => none }
def SipPairsWrongFalsely : Prop := sipPairsRow.holds Try.pinned (OpenSpec.ofChange sipPairsWrong)

/- THE SECOND FORM. 'bulk': how many values and letters a reading holds, each counted each time it is reached (what is shared counts as often as it is met; a slice's spare places count too). A statement '..UptoSaid' is the law's where the arguments, and the package variables that the reading takes, are together of bulk at most 1048576: NARROWER than '..Said'. Prove '..Said' where nothing that the law and all that it calls make is longer than what came in: it says more and counts as full. Else prove '..UptoSaid'. A law counts once. -/
mutual
def uptoBulk {H : Type} : DataW H → Nat
  | .lit (.string bytes) => bytes.length + 1
  | .lit _ => 1
  | .nil => 1
  | .ptr d => uptoBulk d + 1
  | .slice elems spare => uptoBulkAll elems + uptoBulkAll spare + 1
  | .agg parts => uptoBulkAll parts + 1
  | .iface _ d => uptoBulk d + 1
  | .map entries => uptoBulkEntries entries + 1
  | .held _ => 1
def uptoBulkAll {H : Type} : List (DataW H) → Nat
  | [] => 0
  | d :: r => uptoBulk d + uptoBulkAll r
def uptoBulkEntries {H : Type} : List (Lit × DataW H) → Nat
  | [] => 0
  | x :: r => uptoBulkEntry x + uptoBulkEntries r
def uptoBulkEntry {H : Type} : Lit × DataW H → Nat
  | (.string bytes, d) => bytes.length + uptoBulk d + 1
  | (_, d) => uptoBulk d + 1
 end
def uptoSmall : (H : Type) → List (DataW H) → Bool := fun _ ds => decide (uptoBulkAll ds ≤ 1048576)
def OpenSpec.upto (s : _root_.Go.ChangeSpec) : _root_.Go.OpenSpec := { _root_.Go.OpenSpec.ofChange s with cond := some uptoSmall }

/-- 'plenumlaw03.SipTags', WHERE WHAT IT READS IS OF BULK AT MOST 1048576: true; the input reads as it did. -/
def sipTagsUptoRow : OpenClaim := { program := "ythclmpbgehkgeaa", sum := "e9473b5780abe2644830abd21d1942030dd684692861f3d501651008451e9e0e", func := "plenum/plenumlaw03.SipTags", spec := "sipTags", apart := false, narrowed := true }
def SipTagsUptoSaid : Prop := sipTagsUptoRow.holds Try.pinned (OpenSpec.upto sipTagsSpec)

/-- 'plenumlaw03.SipPieces', WHERE WHAT IT READS IS OF BULK AT MOST 1048576: true; the input reads as it did. -/
def sipPiecesUptoRow : OpenClaim := { program := "ythclmpbgehkgeaa", sum := "e9473b5780abe2644830abd21d1942030dd684692861f3d501651008451e9e0e", func := "plenum/plenumlaw03.SipPieces", spec := "sipPieces", apart := false, narrowed := true }
def SipPiecesUptoSaid : Prop := sipPiecesUptoRow.holds Try.pinned (OpenSpec.upto sipPiecesSpec)

/-- 'plenumlaw03.SipParts', WHERE WHAT IT READS IS OF BULK AT MOST 1048576: true; the input reads as it did. -/
def sipPartsUptoRow : OpenClaim := { program := "ythclmpbgehkgeaa", sum := "e9473b5780abe2644830abd21d1942030dd684692861f3d501651008451e9e0e", func := "plenum/plenumlaw03.SipParts", spec := "sipParts", apart := false, narrowed := true }
def SipPartsUptoSaid : Prop := sipPartsUptoRow.holds Try.pinned (OpenSpec.upto sipPartsSpec)

/-- 'plenumlaw03.SipPairs', WHERE WHAT IT READS IS OF BULK AT MOST 1048576: true; the input reads as it did. -/
def sipPairsUptoRow : OpenClaim := { program := "ythclmpbgehkgeaa", sum := "e9473b5780abe2644830abd21d1942030dd684692861f3d501651008451e9e0e", func := "plenum/plenumlaw03.SipPairs", spec := "sipPairs", apart := false, narrowed := true }
def SipPairsUptoSaid : Prop := sipPairsUptoRow.holds Try.pinned (OpenSpec.upto sipPairsSpec)

end Rows
end Go.Proofs.Ythclmpbgehkgeaa
