/-
  ClockRings: at every input it returns true, and each argument reads as it read. No condition of its own.
-/
import Derived.Test.YtfpnileacpbocaaClock8
import Derived.Test.YtfpnileacpbocaaOpen
namespace Go.Proofs.Ytfpnileacpbocaa
open Go.ChangeShapes Go.WideShapes Go.ChangeAt Go.RowKit

theorem own : ownKnob Try.prog.godebug = none := by kernel_rfl
theorem laidOut : laidOutB Try.prog = true := by kernel_rfl

set_option maxRecDepth 100000 in
theorem rings_lifted (os : Os) (started : os.Started) (H : Type) (enc : TypeId × Value → H) :
    ReturnsInHanded {} Try.checked os 4 .any (Rows.clockRingsSpec.pre6 enc Try.prog Try.f4 Rows.clockRingsRow.domain false) (Rows.clockRingsSpec.post enc Try.prog Try.f4 false true false false) := by
  refine law_lift (C := Try.checked) own started (by kernel_rfl) Try.func4 rfl (by kernel_rfl) Try.underlying4 laidOut (by kernel_rfl) ?_
    (ChangeSpec.witness6 (enc := enc) (C := Try.checked) false ⟨#[], #[ck 0 0 0 0 false 0], []⟩ 8 (by kernel_rfl) (by kernel_rfl) (by kernel_rfl) (by kernel_rfl)) ?_
  · intro ds h
    match ds, h with
    | [_], _ => rfl
  · intro W base args ds before hval0 hA0 _ _
    have hval : ∀ (j : Nat) t v, Try.f4.params[j]? = some t → args[j]? = some v → Value.okWide Try.prog W .any base t v := hval0
    have hA : DataW.TrodAll enc Try.prog W 0 (fun _ => true) true Try.f4.params.toList args.toList ds before := hA0
    rw [Try.params4] at hA hval
    obtain ⟨v0, d0, rfl, rfl, h0⟩ := trodAll_one hA
    obtain ⟨now, wait, base', cap, on, due, rfl, _, _, _, _, u⟩ := open_clock (hval 0 23 v0 rfl rfl) h0
    obtain ⟨u1, u2⟩ := i64_bounds u
    exact rings_walk now wait base' cap on due W

theorem rings_holds : Rows.ClockRingsSaid :=
  OpenClaim.holds_of_wide 4 Try.f4 rfl rfl rfl rfl rfl rfl rfl ⟨rfl, rfl, rfl, rfl, rfl⟩ rfl rfl rfl rfl rfl (by kernel_rfl) Try.func4 (by kernel_rfl)
    (of_decide_eq_true (by kernel_rfl)) (by unfold Func.isWrapper; rw [if_neg (of_decide_eq_false (by kernel_rfl))]; exact ⟨rfl, rfl⟩)
    (fun os started H enc _ => rings_lifted os started H enc)
#print axioms rings_holds
end Go.Proofs.Ytfpnileacpbocaa
