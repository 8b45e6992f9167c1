/-
  The library's function that is laid off the shelf: strings.Join. No condition of its own.
-/
import Derived.Shelf.Strings.OnBuilder
import Derived.Test.YtchfecmabhfooaaDoorProg
set_option linter.unusedSimpArgs false
set_option linter.unusedVariables false
namespace Go.Proofs
open Go.Shelf Go.Lib Go.RowKit
def Tryd.lays156_ren : Go.Shelf.Ren := ⟨fun | 156 => 83 | 165 => 95 | 166 => 96 | 169 => 97 | 240 => 103 | 241 => 104 | 276 => 106 | 277 => 107 | n => n, fun | 31 => 22 | 9 => 9 | 3 => 3 | 4 => 4 | 0 => 0 | 20 => 20 | 72 => 101 | 76 => 105 | 70 => 99 | 37 => 58 | 75 => 104 | 127 => 116 | 164 => 117 | 5 => 5 | 80 => 107 | n => n, fun | n => n⟩
theorem Tryd.lays156 : Go.Proofs.Lays.n156 Tryd.prog Tryd.lays156_ren := {
  mixed := by kernel_rfl,
  f156 := Tryd.func83.trans (congrArg some (by kernel_rfl)),
  f165 := Tryd.func95.trans (congrArg some (by kernel_rfl)),
  f166 := Tryd.func96.trans (congrArg some (by kernel_rfl)),
  f169 := Tryd.func97.trans (congrArg some (by kernel_rfl)),
  f240 := Tryd.func103.trans (congrArg some (by kernel_rfl)),
  f241 := Tryd.func104.trans (congrArg some (by kernel_rfl)),
  f276 := Tryd.func106.trans (congrArg some (by kernel_rfl)),
  f277 := Tryd.func107.trans (congrArg some (by kernel_rfl)),
  t0 := Tryd.underlying0,
  a0 := Tryd.isAgg0,
  z0 := Tryd.sizeOf0,
  v0 := Tryd.zeroValue0,
  t3 := Tryd.underlying3,
  a3 := Tryd.isAgg3,
  z3 := Tryd.sizeOf3,
  v3 := Tryd.zeroValue3,
  t4 := Tryd.underlying4,
  a4 := Tryd.isAgg4,
  z4 := Tryd.sizeOf4,
  v4 := Tryd.zeroValue4,
  t9 := Tryd.underlying9,
  a9 := Tryd.isAgg9,
  z9 := Tryd.sizeOf9,
  v9 := Tryd.zeroValue9,
  t20 := Tryd.underlying20,
  a20 := Tryd.isAgg20,
  z20 := Tryd.sizeOf20,
  v20 := Tryd.zeroValue20,
  t31 := Tryd.underlying22,
  a31 := Tryd.isAgg22,
  z31 := Tryd.sizeOf22,
  v31 := Tryd.zeroValue22,
  t37 := Tryd.underlying58,
  a37 := Tryd.isAgg58,
  z37 := Tryd.sizeOf58,
  v37 := Tryd.zeroValue58,
  t70 := Tryd.underlying99,
  a70 := Tryd.isAgg99,
  z70 := Tryd.sizeOf99,
  v70 := Tryd.zeroValue99,
  t72 := Tryd.underlying101,
  a72 := Tryd.isAgg101,
  z72 := Tryd.sizeOf101,
  v72 := Tryd.zeroValue101,
  t75 := Tryd.underlying104,
  a75 := Tryd.isAgg104,
  z75 := Tryd.sizeOf104,
  v75 := Tryd.zeroValue104,
  t76 := Tryd.underlying105,
  a76 := Tryd.isAgg105,
  z76 := Tryd.sizeOf105,
  v76 := Tryd.zeroValue105,
  t127 := Tryd.underlying116,
  a127 := Tryd.isAgg116,
  z127 := Tryd.sizeOf116,
  v127 := Tryd.zeroValue116,
  t164 := Tryd.underlying117,
  a164 := Tryd.isAgg117,
  z164 := Tryd.sizeOf117,
  v164 := Tryd.zeroValue117 }
theorem Tryd.builder156 : Builder.Extra Tryd.prog Tryd.lays156_ren := {
  sizeBuilder := by kernel_rfl,
  liesBuilder := by kernel_rfl,
  t5 := Tryd.underlying5,
  a5 := Tryd.isAgg5,
  z5 := Tryd.sizeOf5,
  v5 := Tryd.zeroValue5,
  infoByte := by kernel_rfl,
  cellsByte := by kernel_rfl,
  sizeByte := by kernel_rfl,
  neB5 := by decide }
theorem Tryd.join0 (a : Option Addr) (c : Nat) (sep : ByteArray) (w : World) :
    Calls Tryd.prog 83 #[.slice a 0 c, .string sep] w fun e w' => e = .returned (.string ⟨#[]⟩) ∧ w' = w := Any.strings_Join_none Tryd.lays156 Tryd.builder156 a c sep w
theorem Tryd.join (bk o c : Nat) (xs : List ByteArray) (sep : ByteArray) (w : World)
    (hcells : ∀ (j : Nat) x, xs[j]? = some x → w.cell? ⟨bk, o + j, none⟩ = some (.string x))
    (hbk : bk < w.heap.size) (hN : xs.length ≤ 140737488355328) (hcap : xs.length ≤ c)
    (hlen : (Lib.join (xs.map (·.data.toList)) sep.data.toList).length ≤ 140737488355328) :
    Calls Tryd.prog 83 #[.slice (some ⟨bk, o, none⟩) xs.length c, .string sep] w fun e w' => e = .returned (.string ⟨(Lib.join (xs.map (·.data.toList)) sep.data.toList).toArray⟩) ∧ Below w.heap.size w w' :=
  Any.strings_Join Tryd.lays156 Tryd.builder156 bk o c xs sep w hcells hbk hN hcap hlen
end Go.Proofs
