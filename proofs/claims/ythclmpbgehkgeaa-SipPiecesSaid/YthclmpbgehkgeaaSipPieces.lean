/-
  SipPieces: at every input it returns true, and each argument reads as it read. No condition of its own.
-/
import Derived.Test.YthclmpbgehkgeaaSipOpen
namespace Go.Proofs.Ythclmpbgehkgeaa
open Go.ChangeShapes Go.WideShapes Go.ChangeAt Go.RowKit Go.Deep

set_option maxRecDepth 100000 in
theorem sipPieces_lifted (os : Os) (started : os.Started) (H : Type) (enc : TypeId × Value → H) :
    ReturnsInHanded {} Try.checked os 4 .any (Rows.sipPiecesSpec.pre6 enc Try.prog Try.f4 Rows.sipPiecesRow.domain false) (Rows.sipPiecesSpec.post enc Try.prog Try.f4 false true false false) := by
  refine law_lift (C := Try.checked) own started (by kernel_rfl) Try.func4 rfl (by kernel_rfl) Try.underlying4 laidOut (by kernel_rfl) ?_
    (ChangeSpec.witness6 (enc := enc) (C := Try.checked) false ⟨#[], #[.agg #[.int .u64 0, .int .u64 0], .slice none 0 0], []⟩ 8 (by kernel_rfl) (by kernel_rfl) (by kernel_rfl) (by kernel_rfl)) ?_
  · intro ds h
    match ds, h with
    | [_, _], _ => rfl
  · intro W base args ds before hval0 hA0 _ _
    have hval : ∀ (j : Nat) t v, Try.f4.params[j]? = some t → args[j]? = some v → Value.okWide Try.prog W .any base t v := hval0
    have hA : DataW.TrodAll enc Try.prog W 0 (fun _ => true) true Try.f4.params.toList args.toList ds before := hA0
    rw [Try.params4] at hA hval
    obtain ⟨v0, v1, d0, d1, p0, p1, rfl, rfl, rfl, h0, h1⟩ := trodAll_two hA
    obtain ⟨k0, k1, rfl, w0, w1⟩ := open_sec (hval 0 24 v0 rfl rfl) h0
    obtain ⟨A, m, c, rfl, hm, hP⟩ := open_pieces (hval 1 30 v1 rfl rfl) h1
    exact K.law_SipPieces k0 k1 A m c W w0 w1 hm hP

theorem sipPieces_holds : Rows.SipPiecesSaid :=
  OpenClaim.holds_of_wide 4 Try.f4 rfl rfl rfl rfl rfl rfl rfl ⟨rfl, rfl, rfl, rfl, rfl⟩ rfl rfl rfl rfl rfl (by kernel_rfl) Try.func4 (by kernel_rfl)
    (of_decide_eq_true (by kernel_rfl)) (by unfold Func.isWrapper; rw [if_neg (of_decide_eq_false (by kernel_rfl))]; exact ⟨rfl, rfl⟩)
    (fun os started H enc _ => sipPieces_lifted os started H enc)
#print axioms sipPieces_holds
end Go.Proofs.Ythclmpbgehkgeaa
