/-
  The library's function that is laid off the shelf: strings.Cut, at a sign of one byte. No condition of its own.
-/
import Derived.Shelf.Strings.Cut
import Derived.Test.YtchfecmabhfooaaDoorProg
set_option linter.unusedSimpArgs false
set_option linter.unusedVariables false
namespace Go.Proofs
open Go.Shelf Go.Lib
def Tryd.lays145_ren : Go.Shelf.Ren := ⟨fun | 145 => 99 | 220 => 105 | 219 => 108 | 217 => 109 | 225 => 110 | 224 => 111 | 267 => 112 | 266 => 113 | 314 => 114 | n => n, fun | 9 => 9 | 4 => 4 | 59 => 108 | 3 => 3 | 5 => 5 | 46 => 115 | 146 => 124 | 51 => 123 | n => n, fun | 1 => 1 | n => n⟩
theorem Tryd.lays145 : Go.Proofs.Lays.n145 Tryd.prog Tryd.lays145_ren := {
  mixed := by kernel_rfl,
  f145 := Tryd.func99.trans (congrArg some (by kernel_rfl)),
  f217 := Tryd.func109.trans (congrArg some (by kernel_rfl)),
  f219 := Tryd.func108.trans (congrArg some (by kernel_rfl)),
  f220 := Tryd.func105.trans (congrArg some (by kernel_rfl)),
  f224 := Tryd.func111.trans (congrArg some (by kernel_rfl)),
  f225 := Tryd.func110.trans (congrArg some (by kernel_rfl)),
  f266 := Tryd.func113.trans (congrArg some (by kernel_rfl)),
  f267 := Tryd.func112.trans (congrArg some (by kernel_rfl)),
  f314 := Tryd.func114.trans (congrArg some (by kernel_rfl)),
  t3 := Tryd.underlying3,
  a3 := Tryd.isAgg3,
  z3 := Tryd.sizeOf3,
  v3 := Tryd.zeroValue3,
  t4 := Tryd.underlying4,
  a4 := Tryd.isAgg4,
  z4 := Tryd.sizeOf4,
  v4 := Tryd.zeroValue4,
  t5 := Tryd.underlying5,
  a5 := Tryd.isAgg5,
  z5 := Tryd.sizeOf5,
  v5 := Tryd.zeroValue5,
  t9 := Tryd.underlying9,
  a9 := Tryd.isAgg9,
  z9 := Tryd.sizeOf9,
  v9 := Tryd.zeroValue9,
  t46 := Tryd.underlying115,
  a46 := Tryd.isAgg115,
  z46 := Tryd.sizeOf115,
  v46 := Tryd.zeroValue115,
  t51 := Tryd.underlying123,
  a51 := Tryd.isAgg123,
  z51 := Tryd.sizeOf123,
  v51 := Tryd.zeroValue123,
  t59 := Tryd.underlying108,
  a59 := Tryd.isAgg108,
  z59 := Tryd.sizeOf108,
  v59 := Tryd.zeroValue108,
  t146 := Tryd.underlying124,
  a146 := Tryd.isAgg124,
  z146 := Tryd.sizeOf124,
  v146 := Tryd.zeroValue124,
  g1 := by kernel_rfl }
theorem Tryd.cut (s sep : ByteArray) (m : Int) (w : World) (hs : s.size < 4294967281) (hm : w.cell? ⟨1, 0, none⟩ = some (.int .i64 m)) :
    Calls Tryd.prog 99 #[.string s, .string sep] w fun e w' => e = .returned (.tuple #[.string ⟨(Lib.cut s.data.toList sep.data.toList).1.toArray⟩, .string ⟨(Lib.cut s.data.toList sep.data.toList).2.1.toArray⟩, .bool (Lib.cut s.data.toList sep.data.toList).2.2]) ∧ ∃ n, w' = w.drewN n :=
  Any.strings_Cut Tryd.lays145 s sep m w hs hm
end Go.Proofs
