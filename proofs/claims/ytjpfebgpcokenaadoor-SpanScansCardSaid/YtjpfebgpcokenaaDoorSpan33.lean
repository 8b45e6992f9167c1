/-
  The chapter's examples. No condition of its own.
-/
import Derived.Test.YtjpfebgpcokenaaDoorSpan32
set_option linter.unusedSimpArgs false
set_option linter.unusedVariables false
namespace Go.Proofs.YtjpfebgpcokenaaDoor
open Go.RowKit
attribute [local irreducible] cwp lwp Exit.then Exit.inBlock Exit.noGoto wpQuiet Calls fin At AtQ Again endQ RQ
def xB : Itm := ⟨[98], 2, 2, [], 0⟩
def xA : Itm := ⟨[97], 2, 1, [], 0⟩
def xQ : Itm := ⟨[113], 2, 3, [], 0⟩
def fsA : List (List Itm) := [xB, xA, xQ].foldl stepF nilFs
def vsA : List Int := [xB, xA, xQ].foldl stepV nilVs
def y1 : Itm := ⟨[120, 47, 49, 47, 97], 2, 2, [], 0⟩
def y2 : Itm := ⟨[120, 47, 50], 2, 1, [], 0⟩
def y3 : Itm := ⟨[120, 47, 49, 47, 98], 2, 3, [], 0⟩
def fsB : List (List Itm) := [y1, y2, y3].foldl stepF nilFs
def vsB : List Int := [y1, y2, y3].foldl stepV nilVs
theorem okA : okL nilFs nilVs [xB, xA, xQ] = true := by decide +kernel
theorem okB : okL nilFs nilVs [y1, y2, y3] = true := by decide +kernel
theorem smallA : smallB fsA = true := by decide +kernel
theorem smallB' : smallB fsB = true := by decide +kernel
theorem lenA : vsA.length = 16 := by decide +kernel
theorem lenB : vsB.length = 16 := by decide +kernel
theorem errA : errW fsA vsA [] [] = 0 := by decide +kernel
theorem errA1 : errW fsA vsA [98, 47] [] = 0 := by decide +kernel
theorem errB1 : errW fsB vsB [120, 47] [120, 47] = 0 := by decide +kernel
theorem scanA : scanR 9 fsA vsA [] [] = [xA, xB, xQ] := by decide +kernel
theorem backA : backR 2 fsA vsA [] [] = [xQ, xB] := by decide +kernel
theorem sumA : sumW fsA vsA [] [] = (6, 0) := by decide +kernel
theorem allA : ∀ x ∈ allR fsA vsA [] [], I64 x.num := by
  have : allR fsA vsA [] [] = [xA, xB, xQ] := by decide +kernel
  rw [this]
  intro x hx
  simp only [List.mem_cons, List.mem_nil_iff, or_false] at hx
  rcases hx with rfl | rfl | rfl <;> decide
theorem firstA : scanR 1 fsA vsA [98, 47] [] = [xQ] := by decide +kernel
theorem lastA : backR 1 fsA vsA [] [] = [xQ] := by decide +kernel
theorem namesB : namesR [120, 47] (underR fsB vsB [120, 47]) = [[49], [50]] := by decide +kernel
theorem trA {w : World} {ls : List Value} (hG : Glob w) (hT : TrunkV w Nof ls fsA) : Tr w ls vsA fsA := ⟨hG, hT, lenA, small_of smallA⟩
theorem trB {w : World} {ls : List Value} (hG : Glob w) (hT : TrunkV w Nof ls fsB) : Tr w ls vsB fsB := ⟨hG, hT, lenB, small_of smallB'⟩
end Go.Proofs.YtjpfebgpcokenaaDoor
