/-
  A clock that comes in by value, opened. No condition of its own.
-/
import Derived.Test.YtfpnileacpbocaaClock1
import Derived.Deep.Slices
import Derived.Deep.Fields
namespace Go.Proofs.Ytfpnileacpbocaa
open Go.ChangeShapes Go.WideShapes Go.ChangeAt Go.RowKit Go.Deep

theorem array6 {α : Type} {cs : Array α} (h : cs.size = 6) : ∃ c0 c1 c2 c3 c4 c5, cs = #[c0, c1, c2, c3, c4, c5] := by
  obtain ⟨l⟩ := cs
  match l, h with
  | [c0, c1, c2, c3, c4, c5], _ => exact ⟨c0, c1, c2, c3, c4, c5, rfl⟩

theorem i64_bounds {n : Int} (h : (Lit.int .i64 n).wf = true) : -9223372036854775808 ≤ n ∧ n ≤ 9223372036854775807 := by
  simp [Lit.wf, IntKind.min, IntKind.max, IntKind.signed, IntKind.bits] at h
  omega

section
variable {H : Type} {enc : TypeId × Value → H} {w : World} {base : Nat} {spare : Nat → Bool} {held : Bool}
theorem open_clock {r : Reach} {b0 : Nat} {v : Value} {d : DataW H} {p : List MemPlace} (hv : Value.okWide Try.prog w r b0 23 v) (h : DataW.Trod enc Try.prog w base spare held 23 v d p) :
    ∃ (now wait base cap : Int) (on : Bool) (due : Int), v = ck now wait base cap on due ∧ (Lit.int .i64 now).wf = true ∧ (Lit.int .i64 wait).wf = true ∧ (Lit.int .i64 base).wf = true ∧ (Lit.int .i64 cap).wf = true ∧ (Lit.int .i64 due).wf = true := by
  obtain ⟨cs, rfl, hsz⟩ := okWide_struct Try.underlying23 hv
  have hC : Try.prog.cellsOf 23 = 6 := by kernel_rfl
  obtain ⟨c0, c1, c2, c3, c4, c5, rfl⟩ := array6 (hsz.trans hC)
  obtain ⟨fuel, hf⟩ := h
  obtain ⟨xs, n, _, hx, _, hlen, hg⟩ := DataW.trod_struct Try.underlying23 hf
  have k3 : Try.prog.cellsOf 3 = 1 := by kernel_rfl
  have k4 : Try.prog.cellsOf 4 = 1 := by kernel_rfl
  have g0 := hg 0 _ rfl
  have g1 := hg 1 _ rfl
  have g2 := hg 2 _ rfl
  have g3 := hg 3 _ rfl
  have g4 := hg 4 _ rfl
  have g5 := hg 5 _ rfl
  simp [Value.cells, k3, k4] at g0 g1 g2 g3 g4 g5
  match xs, hlen with
  | [y0, y1, y2, y3, y4, y5], _ =>
    obtain ⟨a0, e0, _, u0⟩ := DataW.trod_int Try.underlying3 g0
    obtain ⟨a1, e1, _, u1⟩ := DataW.trod_int Try.underlying3 g1
    obtain ⟨a2, e2, _, u2⟩ := DataW.trod_int Try.underlying3 g2
    obtain ⟨a3, e3, _, u3⟩ := DataW.trod_int Try.underlying3 g3
    obtain ⟨a4, e4, _⟩ := DataW.trod_bool Try.underlying4 g4
    obtain ⟨a5, e5, _, u5⟩ := DataW.trod_int Try.underlying3 g5
    simp only [List.cons.injEq, and_true] at e0 e1 e2 e3 e4 e5
    subst e0 e1 e2 e3 e4 e5
    exact ⟨a0, a1, a2, a3, a4, a5, rfl, u0, u1, u2, u3, u5⟩
end
end Go.Proofs.Ytfpnileacpbocaa
