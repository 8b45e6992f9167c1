/-
  What the listed variable holds, and that the library's variable holds some number, for the walks. No condition of its own.
-/
import Derived.Test.YtjpfebgpcokenaaDoorLift
import Derived.Test.YtjpfebgpcokenaaDoorNShelf
import Derived.Shelf.Vars
set_option linter.unusedSimpArgs false
set_option linter.unusedVariables false
namespace Go.Proofs.YtjpfebgpcokenaaDoor
open Go.ChangeShapes Go.WideShapes Go.ChangeAt Go.RowKit

abbrev laidL : List (String × DataW Unit) := Rows.spanSumsRow.laid
def signsName : String := match Rows.spanSumsRow.laid with
  | p :: _ => p.1
  | [] => default
theorem own : ownKnob Tryd.prog.godebug = none := by kernel_rfl
theorem laidOut : laidOutB Tryd.prog = true := by kernel_rfl
set_option maxRecDepth 100000 in
theorem glob_of {W : World} (h : laidMetH Tryd.prog laidL W) : Glob W := by
  rw [MakeChecks.laidMetH_plain _ _ _ (by kernel_rfl)] at h
  obtain ⟨ps, ⟨g, t, cs, fuel, p, q, hg, ht, hv, hd, _, _⟩, _, _⟩ := h
  obtain rfl := Option.some.inj ((show Tryd.prog.globalNamed signsName = some 1 by kernel_rfl).symm.trans hg)
  obtain rfl := Option.some.inj ((show (Tryd.prog.globals[1]?).map (·.type) = some 133 by kernel_rfl).symm.trans ht)
  obtain ⟨xs, m, _, ex, _, hl, hel⟩ := DataW.trod_array Tryd.underlying133 hd
  have c5 : Tryd.prog.cellsOf 93 = 1 := by kernel_rfl
  have ex1 := DataW.agg.inj (Prod.mk.inj ex).1
  match xs, hl, ex1 with
  | [x0, x1], _, ex1 =>
    have h0 := hel 0 (by omega)
    have h1 := hel 1 (by omega)
    rw [c5] at h0 h1
    obtain ⟨z0, e1, e2, _⟩ := DataW.trod_int Tryd.underlying93 h0
    obtain ⟨z1, f1, f2, _⟩ := DataW.trod_int Tryd.underlying93 h1
    simp at e1 f1 e2 f2
    simp [e2, f2] at ex1
    obtain ⟨rfl, rfl⟩ := ex1
    constructor
    · rw [World.var?_cell hg hv 0]
      have : cs.toList[0]? = some (.int .u64 288195191779622912) := by
        have := congrArg (fun l => l[0]?) e1
        simpa using this
      simpa using this
    · rw [World.var?_cell hg hv 1]
      have : cs.toList[1]? = some (.int .u64 576460745860972544) := by
        have := congrArg (fun l => l[0]?) f1
        simpa using this
      simpa using this
theorem maxl_of {W : World} (h : W.ShapedOpen Tryd.prog) : Maxl W :=
  cell_of_shapedOpen_int (g := 0) (t := 3) (zero := #[.int .i64 0]) (k := .i64) h (of_decide_eq_true (by kernel_rfl)) (by kernel_rfl) rfl (by kernel_rfl) (by kernel_rfl) Tryd.underlying3
theorem door_met (os : Os) (args : Array Value) : laidMetH Tryd.prog laidL ((World.laidAll Tryd.prog os laidL).forCall (fun _ _ => 0) ⟨#[], args, []⟩).memory := by
  rw [MakeChecks.laidMetH_plain _ _ _ (by kernel_rfl)]; exact laidMet_laidAll _ (by kernel_rfl) (by kernel_rfl)
theorem bs_data' (s : ByteArray) : s = bs s.data.toList := rfl
end Go.Proofs.YtjpfebgpcokenaaDoor
