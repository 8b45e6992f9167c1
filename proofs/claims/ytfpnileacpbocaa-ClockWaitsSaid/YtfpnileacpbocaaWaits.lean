/-
  ClockWaits: at every input it returns true, and each argument reads as it read. No condition of its own.
-/
import Derived.Test.YtfpnileacpbocaaClock9
import Derived.Test.YtfpnileacpbocaaOpen
namespace Go.Proofs.Ytfpnileacpbocaa
open Go.ChangeShapes Go.WideShapes Go.ChangeAt Go.RowKit

theorem own : ownKnob Try.prog.godebug = none := by kernel_rfl
theorem laidOut : laidOutB Try.prog = true := by kernel_rfl

set_option maxRecDepth 100000 in
theorem waits_lifted (os : Os) (started : os.Started) (H : Type) (enc : TypeId × Value → H) :
    ReturnsInHanded {} Try.checked os 5 .any (Rows.clockWaitsSpec.pre6 enc Try.prog Try.f5 Rows.clockWaitsRow.domain false) (Rows.clockWaitsSpec.post enc Try.prog Try.f5 false true false false) := by
  refine law_lift (C := Try.checked) own started (by kernel_rfl) Try.func5 rfl (by kernel_rfl) Try.underlying4 laidOut (by kernel_rfl) ?_
    (ChangeSpec.witness6 (enc := enc) (C := Try.checked) false ⟨#[], #[ck 0 0 0 0 false 0, .int .u8 0], []⟩ 8 (by kernel_rfl) (by kernel_rfl) (by kernel_rfl) (by kernel_rfl)) ?_
  · intro ds h
    match ds, h with
    | [_, _], _ => rfl
  · intro W base args ds before hval0 hA0 _ _
    have hval : ∀ (j : Nat) t v, Try.f5.params[j]? = some t → args[j]? = some v → Value.okWide Try.prog W .any base t v := hval0
    have hA : DataW.TrodAll enc Try.prog W 0 (fun _ => true) true Try.f5.params.toList args.toList ds before := hA0
    rw [Try.params5] at hA hval
    obtain ⟨v0, v1, d0, d1, p0, p1, rfl, rfl, rfl, h0, h1⟩ := trodAll_two hA
    obtain ⟨now, wait, base', cap, on, due, rfl, _, _, _, _, _⟩ := open_clock (hval 0 23 v0 rfl rfl) h0
    obtain ⟨n, rfl, rfl, rfl, wn⟩ := open_int Try.underlying5 (hval 1 5 v1 rfl rfl) h1
    have hn : 0 ≤ n ∧ n ≤ 255 := by
      simp [Lit.wf, IntKind.min, IntKind.max, IntKind.signed, IntKind.bits] at wn
      omega
    exact waits_walk now wait base' cap on due n W hn.1 hn.2

theorem waits_holds : Rows.ClockWaitsSaid :=
  OpenClaim.holds_of_wide 5 Try.f5 rfl rfl rfl rfl rfl rfl rfl ⟨rfl, rfl, rfl, rfl, rfl⟩ rfl rfl rfl rfl rfl (by kernel_rfl) Try.func5 (by kernel_rfl)
    (of_decide_eq_true (by kernel_rfl)) (by unfold Func.isWrapper; rw [if_neg (of_decide_eq_false (by kernel_rfl))]; exact ⟨rfl, rfl⟩)
    (fun os started H enc _ => waits_lifted os started H enc)
#print axioms waits_holds
end Go.Proofs.Ytfpnileacpbocaa
