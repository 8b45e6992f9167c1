/-
  NARROWER THAN 'FOR EVERY INPUT', by the rows' own cells (each row's printed sentence says how): ClashPairs: laid · ClashLists: laid · ClashRanks: laid · LocksPlay: laid · LocksGo: laid · KeyForms: laid · KeyRanges: laid · KeyMeets: laid · KeyUnder: laid · KeyParts: laid.
  DERIVED. THE GIVEN ROWS OF THIS SEAT. 10 by the template 'for every input the law returns true; each argument reads behind the call as it read before'; 0 by the template 'total and deterministic' (their statements: YtchfecmabhfooaaDoorTotals.lean).
  GIVEN WITH THE SEED: the statements are not yours to turn. If you find one false, say at which input.
  Laid BY PROGRAM, IN A SANDBOX (cutbox-rows.mjs): the forced cells as the released guide's own fill.sh prints them over the translation 5149dff53c9beabc… (all of the seat's roots in one cut). By AI agents, Wed Nov 11 2026. No macro, syntax, notation, axiom, sorry.
-/
import Derived.Test.YtchfecmabhfooaaDoorChecked
import GoSem.Claim
import GoSem.ClaimJoined
import GoSem.ClaimMapViews
import Derived.JoinedTies
import Derived.KernelRfl
namespace Go.Proofs.YtchfecmabhfooaaDoor
/- THE CELL 'sum', in the pinned program and in every row, IS THE sha256 OF THE DUMP (.gsa) THAT YtchfecmabhfooaaDoorProg.lean LOADS. Nothing in Lean hashes anything: it is a label: what it is worth is what the hold of that sum in a sandbox is worth. -/
noncomputable def Tryd.pinned : Pinned := { name := "ytchfecmabhfooaadoor", sum := "5149dff53c9beabcd0d1fef823c44ff5ef46d011666987a7220022ed153d947f", checked := Tryd.checked }
namespace Rows
def none {H : Type} : Left H := { results := [], args := [] }

/- WHAT THE LISTED PACKAGE-LEVEL VARIABLES READ AS WHEN THE CALL BEGINS. Each datum BY PROGRAM (the guide's laid-datum.mjs) off the statement by which the dump's own 'gosem.cut.vars' lays the variable. In a bare row this is a premise. The card (YtchfecmabhfooaaDoorCards.lean) ties it to the program's text. -/
def laid_plenum_key_signs {H : Type} : DataW H := .agg [.lit (.int .u64 288195191779622912), .lit (.int .u64 576460745860972544)]

/-- 'plenumlaw23.ClashPairs': WHATEVER THE INPUT: true; the input reads as it did. -/
def clashPairsSpec : ChangeSpec := { name := "clashPairs", fn := fun _ => fun
  | [d1, d2] => { results := [.lit (.bool true)], args := [d1, d2] }
  | _ => none }
def clashPairsRow : OpenClaim := { program := "ytchfecmabhfooaadoor", sum := "5149dff53c9beabcd0d1fef823c44ff5ef46d011666987a7220022ed153d947f", func := "plenum/plenumlaw23.ClashPairs", spec := "clashPairs", unfollowed := true, recurses := true, named := ["plenum/key.signs"], apart := false, laid := [("plenum/key.signs", laid_plenum_key_signs)] }
def ClashPairsSaid : Prop := clashPairsRow.holds Tryd.pinned (OpenSpec.ofChange clashPairsSpec)

/-- ITS FALSE NEIGHBOUR: 'it returns false'. Refute it at one input. -/
def clashPairsWrong : ChangeSpec := { name := "clashPairs", fn := fun _ => fun
  | [d1, d2] => { results := [.lit (.bool false)], args := [d1, d2] }
  | _ => none }
def ClashPairsWrongFalsely : Prop := clashPairsRow.holds Tryd.pinned (OpenSpec.ofChange clashPairsWrong)

/-- 'plenumlaw23.ClashLists': WHATEVER THE INPUT: true; the input reads as it did. -/
def clashListsSpec : ChangeSpec := { name := "clashLists", fn := fun _ => fun
  | [d] => { results := [.lit (.bool true)], args := [d] }
  | _ => none }
def clashListsRow : OpenClaim := { program := "ytchfecmabhfooaadoor", sum := "5149dff53c9beabcd0d1fef823c44ff5ef46d011666987a7220022ed153d947f", func := "plenum/plenumlaw23.ClashLists", spec := "clashLists", unfollowed := true, recurses := true, named := ["plenum/key.signs"], apart := false, laid := [("plenum/key.signs", laid_plenum_key_signs)] }
def ClashListsSaid : Prop := clashListsRow.holds Tryd.pinned (OpenSpec.ofChange clashListsSpec)

/-- ITS FALSE NEIGHBOUR: 'it returns false'. Refute it at one input. -/
def clashListsWrong : ChangeSpec := { name := "clashLists", fn := fun _ => fun
  | [d] => { results := [.lit (.bool false)], args := [d] }
  | _ => none }
def ClashListsWrongFalsely : Prop := clashListsRow.holds Tryd.pinned (OpenSpec.ofChange clashListsWrong)

/-- 'plenumlaw23.ClashRanks': WHATEVER THE INPUT: true; the input reads as it did. -/
def clashRanksSpec : ChangeSpec := { name := "clashRanks", fn := fun _ => fun
  | [d] => { results := [.lit (.bool true)], args := [d] }
  | _ => none }
def clashRanksRow : OpenClaim := { program := "ytchfecmabhfooaadoor", sum := "5149dff53c9beabcd0d1fef823c44ff5ef46d011666987a7220022ed153d947f", func := "plenum/plenumlaw23.ClashRanks", spec := "clashRanks", unfollowed := true, recurses := true, named := ["plenum/key.signs"], apart := false, laid := [("plenum/key.signs", laid_plenum_key_signs)] }
def ClashRanksSaid : Prop := clashRanksRow.holds Tryd.pinned (OpenSpec.ofChange clashRanksSpec)

/-- ITS FALSE NEIGHBOUR: 'it returns false'. Refute it at one input. -/
def clashRanksWrong : ChangeSpec := { name := "clashRanks", fn := fun _ => fun
  | [d] => { results := [.lit (.bool false)], args := [d] }
  | _ => none }
def ClashRanksWrongFalsely : Prop := clashRanksRow.holds Tryd.pinned (OpenSpec.ofChange clashRanksWrong)

/-- 'plenumlaw24.LocksPlay': WHATEVER THE INPUT: true; the input reads as it did. -/
def locksPlaySpec : ChangeSpec := { name := "locksPlay", fn := fun _ => fun
  | [d1, d2] => { results := [.lit (.bool true)], args := [d1, d2] }
  | _ => none }
def locksPlayRow : OpenClaim := { program := "ytchfecmabhfooaadoor", sum := "5149dff53c9beabcd0d1fef823c44ff5ef46d011666987a7220022ed153d947f", func := "plenum/plenumlaw24.LocksPlay", spec := "locksPlay", unfollowed := true, recurses := true, named := ["plenum/key.signs"], apart := false, laid := [("plenum/key.signs", laid_plenum_key_signs)] }
def LocksPlaySaid : Prop := locksPlayRow.holds Tryd.pinned (OpenSpec.ofChange locksPlaySpec)

/-- ITS FALSE NEIGHBOUR: 'it returns false'. Refute it at one input. -/
def locksPlayWrong : ChangeSpec := { name := "locksPlay", fn := fun _ => fun
  | [d1, d2] => { results := [.lit (.bool false)], args := [d1, d2] }
  | _ => none }
def LocksPlayWrongFalsely : Prop := locksPlayRow.holds Tryd.pinned (OpenSpec.ofChange locksPlayWrong)

/-- 'plenumlaw24.LocksGo': WHATEVER THE INPUT: true; the input reads as it did. -/
def locksGoSpec : ChangeSpec := { name := "locksGo", fn := fun _ => fun
  | [d1, d2] => { results := [.lit (.bool true)], args := [d1, d2] }
  | _ => none }
def locksGoRow : OpenClaim := { program := "ytchfecmabhfooaadoor", sum := "5149dff53c9beabcd0d1fef823c44ff5ef46d011666987a7220022ed153d947f", func := "plenum/plenumlaw24.LocksGo", spec := "locksGo", unfollowed := true, recurses := true, named := ["plenum/key.signs"], apart := false, laid := [("plenum/key.signs", laid_plenum_key_signs)] }
def LocksGoSaid : Prop := locksGoRow.holds Tryd.pinned (OpenSpec.ofChange locksGoSpec)

/-- ITS FALSE NEIGHBOUR: 'it returns false'. Refute it at one input. -/
def locksGoWrong : ChangeSpec := { name := "locksGo", fn := fun _ => fun
  | [d1, d2] => { results := [.lit (.bool false)], args := [d1, d2] }
  | _ => none }
def LocksGoWrongFalsely : Prop := locksGoRow.holds Tryd.pinned (OpenSpec.ofChange locksGoWrong)

/-- 'plenumlaw08.KeyForms': WHATEVER THE INPUT: true; the input reads as it did. -/
def keyFormsSpec : ChangeSpec := { name := "keyForms", fn := fun _ => fun
  | [d1, d2] => { results := [.lit (.bool true)], args := [d1, d2] }
  | _ => none }
def keyFormsRow : OpenClaim := { program := "ytchfecmabhfooaadoor", sum := "5149dff53c9beabcd0d1fef823c44ff5ef46d011666987a7220022ed153d947f", func := "plenum/plenumlaw08.KeyForms", spec := "keyForms", inPlace := ["internal/bytealg.IndexByteString", "internal/bytealg.IndexString"], unfollowed := true, recurses := true, named := ["plenum/key.signs", "internal/bytealg.MaxLen"], apart := false, laid := [("plenum/key.signs", laid_plenum_key_signs)] }
def KeyFormsSaid : Prop := keyFormsRow.holds Tryd.pinned (OpenSpec.ofChange keyFormsSpec)

/-- ITS FALSE NEIGHBOUR: 'it returns false'. Refute it at one input. -/
def keyFormsWrong : ChangeSpec := { name := "keyForms", fn := fun _ => fun
  | [d1, d2] => { results := [.lit (.bool false)], args := [d1, d2] }
  | _ => none }
def KeyFormsWrongFalsely : Prop := keyFormsRow.holds Tryd.pinned (OpenSpec.ofChange keyFormsWrong)

/-- 'plenumlaw08.KeyRanges': WHATEVER THE INPUT: true; the input reads as it did. -/
def keyRangesSpec : ChangeSpec := { name := "keyRanges", fn := fun _ => fun
  | [d1, d2, d3] => { results := [.lit (.bool true)], args := [d1, d2, d3] }
  | _ => none }
def keyRangesRow : OpenClaim := { program := "ytchfecmabhfooaadoor", sum := "5149dff53c9beabcd0d1fef823c44ff5ef46d011666987a7220022ed153d947f", func := "plenum/plenumlaw08.KeyRanges", spec := "keyRanges", inPlace := ["internal/bytealg.IndexByteString", "internal/bytealg.IndexString"], unfollowed := true, recurses := true, named := ["plenum/key.signs", "internal/bytealg.MaxLen"], apart := false, laid := [("plenum/key.signs", laid_plenum_key_signs)] }
def KeyRangesSaid : Prop := keyRangesRow.holds Tryd.pinned (OpenSpec.ofChange keyRangesSpec)

/-- ITS FALSE NEIGHBOUR: 'it returns false'. Refute it at one input. -/
def keyRangesWrong : ChangeSpec := { name := "keyRanges", fn := fun _ => fun
  | [d1, d2, d3] => { results := [.lit (.bool false)], args := [d1, d2, d3] }
  | _ => none }
def KeyRangesWrongFalsely : Prop := keyRangesRow.holds Tryd.pinned (OpenSpec.ofChange keyRangesWrong)

/-- 'plenumlaw08.KeyMeets': WHATEVER THE INPUT: true; the input reads as it did. -/
def keyMeetsSpec : ChangeSpec := { name := "keyMeets", fn := fun _ => fun
  | [d1, d2, d3] => { results := [.lit (.bool true)], args := [d1, d2, d3] }
  | _ => none }
def keyMeetsRow : OpenClaim := { program := "ytchfecmabhfooaadoor", sum := "5149dff53c9beabcd0d1fef823c44ff5ef46d011666987a7220022ed153d947f", func := "plenum/plenumlaw08.KeyMeets", spec := "keyMeets", inPlace := ["internal/bytealg.IndexByteString", "internal/bytealg.IndexString"], unfollowed := true, recurses := true, named := ["plenum/key.signs", "internal/bytealg.MaxLen"], apart := false, laid := [("plenum/key.signs", laid_plenum_key_signs)] }
def KeyMeetsSaid : Prop := keyMeetsRow.holds Tryd.pinned (OpenSpec.ofChange keyMeetsSpec)

/-- ITS FALSE NEIGHBOUR: 'it returns false'. Refute it at one input. -/
def keyMeetsWrong : ChangeSpec := { name := "keyMeets", fn := fun _ => fun
  | [d1, d2, d3] => { results := [.lit (.bool false)], args := [d1, d2, d3] }
  | _ => none }
def KeyMeetsWrongFalsely : Prop := keyMeetsRow.holds Tryd.pinned (OpenSpec.ofChange keyMeetsWrong)

/-- 'plenumlaw08.KeyUnder': WHATEVER THE INPUT: true; the input reads as it did. -/
def keyUnderSpec : ChangeSpec := { name := "keyUnder", fn := fun _ => fun
  | [d] => { results := [.lit (.bool true)], args := [d] }
  | _ => none }
def keyUnderRow : OpenClaim := { program := "ytchfecmabhfooaadoor", sum := "5149dff53c9beabcd0d1fef823c44ff5ef46d011666987a7220022ed153d947f", func := "plenum/plenumlaw08.KeyUnder", spec := "keyUnder", inPlace := ["internal/bytealg.IndexByteString", "internal/bytealg.IndexString"], unfollowed := true, recurses := true, named := ["plenum/key.signs", "internal/bytealg.MaxLen"], apart := false, laid := [("plenum/key.signs", laid_plenum_key_signs)] }
def KeyUnderSaid : Prop := keyUnderRow.holds Tryd.pinned (OpenSpec.ofChange keyUnderSpec)

/-- ITS FALSE NEIGHBOUR: 'it returns false'. Refute it at one input. -/
def keyUnderWrong : ChangeSpec := { name := "keyUnder", fn := fun _ => fun
  | [d] => { results := [.lit (.bool false)], args := [d] }
  | _ => none }
def KeyUnderWrongFalsely : Prop := keyUnderRow.holds Tryd.pinned (OpenSpec.ofChange keyUnderWrong)

/-- 'plenumlaw08.KeyParts': WHATEVER THE INPUT: true; the input reads as it did. -/
def keyPartsSpec : ChangeSpec := { name := "keyParts", fn := fun _ => fun
  | [d1, d2] => { results := [.lit (.bool true)], args := [d1, d2] }
  | _ => none }
def keyPartsRow : OpenClaim := { program := "ytchfecmabhfooaadoor", sum := "5149dff53c9beabcd0d1fef823c44ff5ef46d011666987a7220022ed153d947f", func := "plenum/plenumlaw08.KeyParts", spec := "keyParts", inPlace := ["internal/abi.NoEscape", "internal/bytealg.MakeNoZero", "internal/bytealg.IndexByteString", "internal/bytealg.IndexString"], unfollowed := true, recurses := true, named := ["plenum/key.signs", "internal/bytealg.MaxLen"], apart := false, laid := [("plenum/key.signs", laid_plenum_key_signs)] }
def KeyPartsSaid : Prop := keyPartsRow.holds Tryd.pinned (OpenSpec.ofChange keyPartsSpec)

/-- ITS FALSE NEIGHBOUR: 'it returns false'. Refute it at one input. -/
def keyPartsWrong : ChangeSpec := { name := "keyParts", fn := fun _ => fun
  | [d1, d2] => { results := [.lit (.bool false)], args := [d1, d2] }
  | _ => none }
def KeyPartsWrongFalsely : Prop := keyPartsRow.holds Tryd.pinned (OpenSpec.ofChange keyPartsWrong)

/- THE SECOND FORM. 'bulk': how many values and letters a reading holds, each counted each time it is reached (what is shared counts as often as it is met; a slice's spare places count too). A statement '..UptoSaid' is the law's where the arguments, and the package variables that the reading takes, are together of bulk at most 1048576: NARROWER than '..Said'. Prove '..Said' where nothing that the law and all that it calls make is longer than what came in: it says more and counts as full. Else prove '..UptoSaid'. A law counts once. -/
mutual
def uptoBulk {H : Type} : DataW H → Nat
  | .lit (.string bytes) => bytes.length + 1
  | .lit _ => 1
  | .nil => 1
  | .ptr d => uptoBulk d + 1
  | .slice elems spare => uptoBulkAll elems + uptoBulkAll spare + 1
  | .agg parts => uptoBulkAll parts + 1
  | .iface _ d => uptoBulk d + 1
  | .map entries => uptoBulkEntries entries + 1
  | .held _ => 1
def uptoBulkAll {H : Type} : List (DataW H) → Nat
  | [] => 0
  | d :: r => uptoBulk d + uptoBulkAll r
def uptoBulkEntries {H : Type} : List (Lit × DataW H) → Nat
  | [] => 0
  | x :: r => uptoBulkEntry x + uptoBulkEntries r
def uptoBulkEntry {H : Type} : Lit × DataW H → Nat
  | (.string bytes, d) => bytes.length + uptoBulk d + 1
  | (_, d) => uptoBulk d + 1
 end
def uptoSmall : (H : Type) → List (DataW H) → Bool := fun _ ds => decide (uptoBulkAll ds ≤ 1048576)
def OpenSpec.upto (s : _root_.Go.ChangeSpec) : _root_.Go.OpenSpec := { _root_.Go.OpenSpec.ofChange s with cond := some uptoSmall }

/-- 'plenumlaw23.ClashPairs', WHERE WHAT IT READS IS OF BULK AT MOST 1048576: true; the input reads as it did. -/
def clashPairsUptoRow : OpenClaim := { program := "ytchfecmabhfooaadoor", sum := "5149dff53c9beabcd0d1fef823c44ff5ef46d011666987a7220022ed153d947f", func := "plenum/plenumlaw23.ClashPairs", spec := "clashPairs", unfollowed := true, recurses := true, named := ["plenum/key.signs"], apart := false, laid := [("plenum/key.signs", laid_plenum_key_signs)], narrowed := true }
def ClashPairsUptoSaid : Prop := clashPairsUptoRow.holds Tryd.pinned (OpenSpec.upto clashPairsSpec)

/-- 'plenumlaw23.ClashLists', WHERE WHAT IT READS IS OF BULK AT MOST 1048576: true; the input reads as it did. -/
def clashListsUptoRow : OpenClaim := { program := "ytchfecmabhfooaadoor", sum := "5149dff53c9beabcd0d1fef823c44ff5ef46d011666987a7220022ed153d947f", func := "plenum/plenumlaw23.ClashLists", spec := "clashLists", unfollowed := true, recurses := true, named := ["plenum/key.signs"], apart := false, laid := [("plenum/key.signs", laid_plenum_key_signs)], narrowed := true }
def ClashListsUptoSaid : Prop := clashListsUptoRow.holds Tryd.pinned (OpenSpec.upto clashListsSpec)

/-- 'plenumlaw23.ClashRanks', WHERE WHAT IT READS IS OF BULK AT MOST 1048576: true; the input reads as it did. -/
def clashRanksUptoRow : OpenClaim := { program := "ytchfecmabhfooaadoor", sum := "5149dff53c9beabcd0d1fef823c44ff5ef46d011666987a7220022ed153d947f", func := "plenum/plenumlaw23.ClashRanks", spec := "clashRanks", unfollowed := true, recurses := true, named := ["plenum/key.signs"], apart := false, laid := [("plenum/key.signs", laid_plenum_key_signs)], narrowed := true }
def ClashRanksUptoSaid : Prop := clashRanksUptoRow.holds Tryd.pinned (OpenSpec.upto clashRanksSpec)

/-- 'plenumlaw24.LocksPlay', WHERE WHAT IT READS IS OF BULK AT MOST 1048576: true; the input reads as it did. -/
def locksPlayUptoRow : OpenClaim := { program := "ytchfecmabhfooaadoor", sum := "5149dff53c9beabcd0d1fef823c44ff5ef46d011666987a7220022ed153d947f", func := "plenum/plenumlaw24.LocksPlay", spec := "locksPlay", unfollowed := true, recurses := true, named := ["plenum/key.signs"], apart := false, laid := [("plenum/key.signs", laid_plenum_key_signs)], narrowed := true }
def LocksPlayUptoSaid : Prop := locksPlayUptoRow.holds Tryd.pinned (OpenSpec.upto locksPlaySpec)

/-- 'plenumlaw24.LocksGo', WHERE WHAT IT READS IS OF BULK AT MOST 1048576: true; the input reads as it did. -/
def locksGoUptoRow : OpenClaim := { program := "ytchfecmabhfooaadoor", sum := "5149dff53c9beabcd0d1fef823c44ff5ef46d011666987a7220022ed153d947f", func := "plenum/plenumlaw24.LocksGo", spec := "locksGo", unfollowed := true, recurses := true, named := ["plenum/key.signs"], apart := false, laid := [("plenum/key.signs", laid_plenum_key_signs)], narrowed := true }
def LocksGoUptoSaid : Prop := locksGoUptoRow.holds Tryd.pinned (OpenSpec.upto locksGoSpec)

/-- 'plenumlaw08.KeyForms', WHERE WHAT IT READS IS OF BULK AT MOST 1048576: true; the input reads as it did. -/
def keyFormsUptoRow : OpenClaim := { program := "ytchfecmabhfooaadoor", sum := "5149dff53c9beabcd0d1fef823c44ff5ef46d011666987a7220022ed153d947f", func := "plenum/plenumlaw08.KeyForms", spec := "keyForms", inPlace := ["internal/bytealg.IndexByteString", "internal/bytealg.IndexString"], unfollowed := true, recurses := true, named := ["plenum/key.signs", "internal/bytealg.MaxLen"], apart := false, laid := [("plenum/key.signs", laid_plenum_key_signs)], narrowed := true }
def KeyFormsUptoSaid : Prop := keyFormsUptoRow.holds Tryd.pinned (OpenSpec.upto keyFormsSpec)

/-- 'plenumlaw08.KeyRanges', WHERE WHAT IT READS IS OF BULK AT MOST 1048576: true; the input reads as it did. -/
def keyRangesUptoRow : OpenClaim := { program := "ytchfecmabhfooaadoor", sum := "5149dff53c9beabcd0d1fef823c44ff5ef46d011666987a7220022ed153d947f", func := "plenum/plenumlaw08.KeyRanges", spec := "keyRanges", inPlace := ["internal/bytealg.IndexByteString", "internal/bytealg.IndexString"], unfollowed := true, recurses := true, named := ["plenum/key.signs", "internal/bytealg.MaxLen"], apart := false, laid := [("plenum/key.signs", laid_plenum_key_signs)], narrowed := true }
def KeyRangesUptoSaid : Prop := keyRangesUptoRow.holds Tryd.pinned (OpenSpec.upto keyRangesSpec)

/-- 'plenumlaw08.KeyMeets', WHERE WHAT IT READS IS OF BULK AT MOST 1048576: true; the input reads as it did. -/
def keyMeetsUptoRow : OpenClaim := { program := "ytchfecmabhfooaadoor", sum := "5149dff53c9beabcd0d1fef823c44ff5ef46d011666987a7220022ed153d947f", func := "plenum/plenumlaw08.KeyMeets", spec := "keyMeets", inPlace := ["internal/bytealg.IndexByteString", "internal/bytealg.IndexString"], unfollowed := true, recurses := true, named := ["plenum/key.signs", "internal/bytealg.MaxLen"], apart := false, laid := [("plenum/key.signs", laid_plenum_key_signs)], narrowed := true }
def KeyMeetsUptoSaid : Prop := keyMeetsUptoRow.holds Tryd.pinned (OpenSpec.upto keyMeetsSpec)

/-- 'plenumlaw08.KeyUnder', WHERE WHAT IT READS IS OF BULK AT MOST 1048576: true; the input reads as it did. -/
def keyUnderUptoRow : OpenClaim := { program := "ytchfecmabhfooaadoor", sum := "5149dff53c9beabcd0d1fef823c44ff5ef46d011666987a7220022ed153d947f", func := "plenum/plenumlaw08.KeyUnder", spec := "keyUnder", inPlace := ["internal/bytealg.IndexByteString", "internal/bytealg.IndexString"], unfollowed := true, recurses := true, named := ["plenum/key.signs", "internal/bytealg.MaxLen"], apart := false, laid := [("plenum/key.signs", laid_plenum_key_signs)], narrowed := true }
def KeyUnderUptoSaid : Prop := keyUnderUptoRow.holds Tryd.pinned (OpenSpec.upto keyUnderSpec)

/-- 'plenumlaw08.KeyParts', WHERE WHAT IT READS IS OF BULK AT MOST 1048576: true; the input reads as it did. -/
def keyPartsUptoRow : OpenClaim := { program := "ytchfecmabhfooaadoor", sum := "5149dff53c9beabcd0d1fef823c44ff5ef46d011666987a7220022ed153d947f", func := "plenum/plenumlaw08.KeyParts", spec := "keyParts", inPlace := ["internal/abi.NoEscape", "internal/bytealg.MakeNoZero", "internal/bytealg.IndexByteString", "internal/bytealg.IndexString"], unfollowed := true, recurses := true, named := ["plenum/key.signs", "internal/bytealg.MaxLen"], apart := false, laid := [("plenum/key.signs", laid_plenum_key_signs)], narrowed := true }
def KeyPartsUptoSaid : Prop := keyPartsUptoRow.holds Tryd.pinned (OpenSpec.upto keyPartsSpec)

end Rows
end Go.Proofs.YtchfecmabhfooaaDoor
