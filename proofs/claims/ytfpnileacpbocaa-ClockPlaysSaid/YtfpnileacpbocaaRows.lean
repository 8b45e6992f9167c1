/-
  No cell of these rows narrows 'for every input' (looked for: loops, veiled, ifaces, maps, wideKeys, modest, calm, conditions, laid).
  DERIVED. THE GIVEN ROWS OF THIS SEAT. 5 by the template 'for every input the law returns true; each argument reads behind the call as it read before'; 0 by the template 'total and deterministic' (their statements: YtfpnileacpbocaaTotals.lean).
  GIVEN WITH THE SEED: the statements are not yours to turn. If you find one false, say at which input.
  Laid BY PROGRAM, IN A SANDBOX (cutbox-rows.mjs): the forced cells as the released guide's own fill.sh prints them over the translation 2f33fa081c22be15… (all of the seat's roots in one cut). By AI agents, Wed Nov 11 2026. No macro, syntax, notation, axiom, sorry.
-/
import Derived.Test.YtfpnileacpbocaaChecked
import GoSem.Claim
import GoSem.ClaimJoined
import GoSem.ClaimMapViews
import Derived.JoinedTies
import Derived.KernelRfl
namespace Go.Proofs.Ytfpnileacpbocaa
/- THE CELL 'sum', in the pinned program and in every row, IS THE sha256 OF THE DUMP (.gsa) THAT YtfpnileacpbocaaProg.lean LOADS. Nothing in Lean hashes anything: it is a label: what it is worth is what the hold of that sum in a sandbox is worth. -/
noncomputable def Try.pinned : Pinned := { name := "ytfpnileacpbocaa", sum := "2f33fa081c22be1528901185cfde7de1f30eafe791ddfd4b47c6368eb28533be", checked := Try.checked }
namespace Rows
def none {H : Type} : Left H := { results := [], args := [] }

/-- 'plenumlaw06.ClockNews': WHATEVER THE INPUT: true; the input reads as it did. -/
def clockNewsSpec : ChangeSpec := { name := "clockNews", fn := fun _ => fun
  | [d1, d2, d3] => { results := [.lit (.bool true)], args := [d1, d2, d3] }
  | _ => none }
def clockNewsRow : OpenClaim := { program := "ytfpnileacpbocaa", sum := "2f33fa081c22be1528901185cfde7de1f30eafe791ddfd4b47c6368eb28533be", func := "plenum/plenumlaw06.ClockNews", spec := "clockNews", unfollowed := true, recurses := true, apart := false }
def ClockNewsSaid : Prop := clockNewsRow.holds Try.pinned (OpenSpec.ofChange clockNewsSpec)

/-- ITS FALSE NEIGHBOUR: 'it returns false'. Refute it at one input. -/
def clockNewsWrong : ChangeSpec := { name := "clockNews", fn := fun _ => fun
  | [d1, d2, d3] => { results := [.lit (.bool false)], args := [d1, d2, d3] }
  | _ => none }
def ClockNewsWrongFalsely : Prop := clockNewsRow.holds Try.pinned (OpenSpec.ofChange clockNewsWrong)

/-- 'plenumlaw06.ClockRings': WHATEVER THE INPUT: true; the input reads as it did. -/
def clockRingsSpec : ChangeSpec := { name := "clockRings", fn := fun _ => fun
  | [d] => { results := [.lit (.bool true)], args := [d] }
  | _ => none }
def clockRingsRow : OpenClaim := { program := "ytfpnileacpbocaa", sum := "2f33fa081c22be1528901185cfde7de1f30eafe791ddfd4b47c6368eb28533be", func := "plenum/plenumlaw06.ClockRings", spec := "clockRings", unfollowed := true, recurses := true, apart := false }
def ClockRingsSaid : Prop := clockRingsRow.holds Try.pinned (OpenSpec.ofChange clockRingsSpec)

/-- ITS FALSE NEIGHBOUR: 'it returns false'. Refute it at one input. -/
def clockRingsWrong : ChangeSpec := { name := "clockRings", fn := fun _ => fun
  | [d] => { results := [.lit (.bool false)], args := [d] }
  | _ => none }
def ClockRingsWrongFalsely : Prop := clockRingsRow.holds Try.pinned (OpenSpec.ofChange clockRingsWrong)

/-- 'plenumlaw06.ClockWaits': WHATEVER THE INPUT: true; the input reads as it did. -/
def clockWaitsSpec : ChangeSpec := { name := "clockWaits", fn := fun _ => fun
  | [d1, d2] => { results := [.lit (.bool true)], args := [d1, d2] }
  | _ => none }
def clockWaitsRow : OpenClaim := { program := "ytfpnileacpbocaa", sum := "2f33fa081c22be1528901185cfde7de1f30eafe791ddfd4b47c6368eb28533be", func := "plenum/plenumlaw06.ClockWaits", spec := "clockWaits", unfollowed := true, recurses := true, apart := false }
def ClockWaitsSaid : Prop := clockWaitsRow.holds Try.pinned (OpenSpec.ofChange clockWaitsSpec)

/-- ITS FALSE NEIGHBOUR: 'it returns false'. Refute it at one input. -/
def clockWaitsWrong : ChangeSpec := { name := "clockWaits", fn := fun _ => fun
  | [d1, d2] => { results := [.lit (.bool false)], args := [d1, d2] }
  | _ => none }
def ClockWaitsWrongFalsely : Prop := clockWaitsRow.holds Try.pinned (OpenSpec.ofChange clockWaitsWrong)

/-- 'plenumlaw06.ClockDoes': WHATEVER THE INPUT: true; the input reads as it did. -/
def clockDoesSpec : ChangeSpec := { name := "clockDoes", fn := fun _ => fun
  | [d] => { results := [.lit (.bool true)], args := [d] }
  | _ => none }
def clockDoesRow : OpenClaim := { program := "ytfpnileacpbocaa", sum := "2f33fa081c22be1528901185cfde7de1f30eafe791ddfd4b47c6368eb28533be", func := "plenum/plenumlaw06.ClockDoes", spec := "clockDoes", unfollowed := true, recurses := true, apart := false }
def ClockDoesSaid : Prop := clockDoesRow.holds Try.pinned (OpenSpec.ofChange clockDoesSpec)

/-- ITS FALSE NEIGHBOUR: 'it returns false'. Refute it at one input. -/
def clockDoesWrong : ChangeSpec := { name := "clockDoes", fn := fun _ => fun
  | [d] => { results := [.lit (.bool false)], args := [d] }
  | _ => none }
def ClockDoesWrongFalsely : Prop := clockDoesRow.holds Try.pinned (OpenSpec.ofChange clockDoesWrong)

/-- 'plenumlaw06.ClockPlays': WHATEVER THE INPUT: true; the input reads as it did. -/
def clockPlaysSpec : ChangeSpec := { name := "clockPlays", fn := fun _ => fun
  | [d1, d2, d3] => { results := [.lit (.bool true)], args := [d1, d2, d3] }
  | _ => none }
def clockPlaysRow : OpenClaim := { program := "ytfpnileacpbocaa", sum := "2f33fa081c22be1528901185cfde7de1f30eafe791ddfd4b47c6368eb28533be", func := "plenum/plenumlaw06.ClockPlays", spec := "clockPlays", unfollowed := true, recurses := true, apart := false }
def ClockPlaysSaid : Prop := clockPlaysRow.holds Try.pinned (OpenSpec.ofChange clockPlaysSpec)

/-- ITS FALSE NEIGHBOUR: 'it returns false'. Refute it at one input. -/
def clockPlaysWrong : ChangeSpec := { name := "clockPlays", fn := fun _ => fun
  | [d1, d2, d3] => { results := [.lit (.bool false)], args := [d1, d2, d3] }
  | _ => none }
def ClockPlaysWrongFalsely : Prop := clockPlaysRow.holds Try.pinned (OpenSpec.ofChange clockPlaysWrong)

/- THE SECOND FORM. 'bulk': how many values and letters a reading holds, each counted each time it is reached (what is shared counts as often as it is met; a slice's spare places count too). A statement '..UptoSaid' is the law's where the arguments, and the package variables that the reading takes, are together of bulk at most 1048576: NARROWER than '..Said'. Prove '..Said' where nothing that the law and all that it calls make is longer than what came in: it says more and counts as full. Else prove '..UptoSaid'. A law counts once. -/
mutual
def uptoBulk {H : Type} : DataW H → Nat
  | .lit (.string bytes) => bytes.length + 1
  | .lit _ => 1
  | .nil => 1
  | .ptr d => uptoBulk d + 1
  | .slice elems spare => uptoBulkAll elems + uptoBulkAll spare + 1
  | .agg parts => uptoBulkAll parts + 1
  | .iface _ d => uptoBulk d + 1
  | .map entries => uptoBulkEntries entries + 1
  | .held _ => 1
def uptoBulkAll {H : Type} : List (DataW H) → Nat
  | [] => 0
  | d :: r => uptoBulk d + uptoBulkAll r
def uptoBulkEntries {H : Type} : List (Lit × DataW H) → Nat
  | [] => 0
  | x :: r => uptoBulkEntry x + uptoBulkEntries r
def uptoBulkEntry {H : Type} : Lit × DataW H → Nat
  | (.string bytes, d) => bytes.length + uptoBulk d + 1
  | (_, d) => uptoBulk d + 1
 end
def uptoSmall : (H : Type) → List (DataW H) → Bool := fun _ ds => decide (uptoBulkAll ds ≤ 1048576)
def OpenSpec.upto (s : _root_.Go.ChangeSpec) : _root_.Go.OpenSpec := { _root_.Go.OpenSpec.ofChange s with cond := some uptoSmall }

/-- 'plenumlaw06.ClockNews', WHERE WHAT IT READS IS OF BULK AT MOST 1048576: true; the input reads as it did. -/
def clockNewsUptoRow : OpenClaim := { program := "ytfpnileacpbocaa", sum := "2f33fa081c22be1528901185cfde7de1f30eafe791ddfd4b47c6368eb28533be", func := "plenum/plenumlaw06.ClockNews", spec := "clockNews", unfollowed := true, recurses := true, apart := false, narrowed := true }
def ClockNewsUptoSaid : Prop := clockNewsUptoRow.holds Try.pinned (OpenSpec.upto clockNewsSpec)

/-- 'plenumlaw06.ClockRings', WHERE WHAT IT READS IS OF BULK AT MOST 1048576: true; the input reads as it did. -/
def clockRingsUptoRow : OpenClaim := { program := "ytfpnileacpbocaa", sum := "2f33fa081c22be1528901185cfde7de1f30eafe791ddfd4b47c6368eb28533be", func := "plenum/plenumlaw06.ClockRings", spec := "clockRings", unfollowed := true, recurses := true, apart := false, narrowed := true }
def ClockRingsUptoSaid : Prop := clockRingsUptoRow.holds Try.pinned (OpenSpec.upto clockRingsSpec)

/-- 'plenumlaw06.ClockWaits', WHERE WHAT IT READS IS OF BULK AT MOST 1048576: true; the input reads as it did. -/
def clockWaitsUptoRow : OpenClaim := { program := "ytfpnileacpbocaa", sum := "2f33fa081c22be1528901185cfde7de1f30eafe791ddfd4b47c6368eb28533be", func := "plenum/plenumlaw06.ClockWaits", spec := "clockWaits", unfollowed := true, recurses := true, apart := false, narrowed := true }
def ClockWaitsUptoSaid : Prop := clockWaitsUptoRow.holds Try.pinned (OpenSpec.upto clockWaitsSpec)

/-- 'plenumlaw06.ClockDoes', WHERE WHAT IT READS IS OF BULK AT MOST 1048576: true; the input reads as it did. -/
def clockDoesUptoRow : OpenClaim := { program := "ytfpnileacpbocaa", sum := "2f33fa081c22be1528901185cfde7de1f30eafe791ddfd4b47c6368eb28533be", func := "plenum/plenumlaw06.ClockDoes", spec := "clockDoes", unfollowed := true, recurses := true, apart := false, narrowed := true }
def ClockDoesUptoSaid : Prop := clockDoesUptoRow.holds Try.pinned (OpenSpec.upto clockDoesSpec)

/-- 'plenumlaw06.ClockPlays', WHERE WHAT IT READS IS OF BULK AT MOST 1048576: true; the input reads as it did. -/
def clockPlaysUptoRow : OpenClaim := { program := "ytfpnileacpbocaa", sum := "2f33fa081c22be1528901185cfde7de1f30eafe791ddfd4b47c6368eb28533be", func := "plenum/plenumlaw06.ClockPlays", spec := "clockPlays", unfollowed := true, recurses := true, apart := false, narrowed := true }
def ClockPlaysUptoSaid : Prop := clockPlaysUptoRow.holds Try.pinned (OpenSpec.upto clockPlaysSpec)

end Rows
end Go.Proofs.Ytfpnileacpbocaa
