/-
  SpanSums: at every input it returns true, and each argument reads as it read; the table of signs starts as the program's text lays it, and the card ties it to that text. No other condition.
-/
import Derived.Test.YtjpfebgpcokenaaDoorSpan35
import Derived.Test.YtjpfebgpcokenaaDoorSpanVars
import Derived.Test.YtjpfebgpcokenaaDoorTie
import Derived.Test.YtjpfebgpcokenaaDoorCards
namespace Go.Proofs.YtjpfebgpcokenaaDoor
open Go.ChangeShapes Go.WideShapes Go.ChangeAt Go.RowKit Go.ChangeMaps

set_option maxRecDepth 100000 in
theorem spanSums_lifted (os : Os) (started : os.Started) (H : Type) (enc : TypeId × Value → H) :
    ReturnsInHanded {} Tryd.checked os 3 .any (fun w args => (Rows.spanSumsSpec.pre enc Tryd.prog Tryd.f3 Rows.spanSumsRow.domain false w args ∧ laidMetH Tryd.prog laidL w) ∧ sizedMet enc Tryd.prog Tryd.f3 (OpenSpec.ofChange Rows.spanSumsSpec) false w args) (Rows.spanSumsSpec.post enc Tryd.prog Tryd.f3 false true false false) := by
  refine law_lift_laid (C := Tryd.checked) laidL own started (by kernel_rfl) Tryd.func3 rfl (by kernel_rfl) Tryd.underlying4 laidOut (by kernel_rfl) ?_
    (ChangeSpec.witness_shaped (enc := enc) (C := Tryd.checked) (os := os) (X := fun w _ => laidMetH Tryd.prog laidL w) false (World.laidAll Tryd.prog os laidL) #[.agg #[.slice none 0 0, .slice none 0 0, .slice none 0 0, .slice none 0 0, .slice none 0 0, .slice none 0 0, .slice none 0 0, .slice none 0 0, .slice none 0 0, .slice none 0 0, .slice none 0 0, .slice none 0 0, .slice none 0 0, .slice none 0 0, .slice none 0 0, .slice none 0 0, .int .i64 0, .int .i64 0, .int .i64 0, .int .i64 0, .int .i64 0, .int .i64 0, .int .i64 0, .int .i64 0, .int .i64 0, .int .i64 0, .int .i64 0, .int .i64 0, .int .i64 0, .int .i64 0, .int .i64 0, .int .i64 0, .string ⟨#[]⟩, .string ⟨#[]⟩, .int .i64 0]] 8 (World.laidAll_os _ _ _)
      (World.shaped_of_ZipB (by kernel_rfl) (by kernel_rfl)) (by kernel_rfl) (by kernel_rfl) (by kernel_rfl) (door_met os _)) ?_
  · intro ds h
    match ds, h with
    | [_], _ => rfl
  · intro W base args ds before hval0 hA0 _ _ hL hsh
    have hval : ∀ (j : Nat) t v, Tryd.f3.params[j]? = some t → args[j]? = some v → Value.okWide Tryd.prog W .any base t v := hval0
    have hA : DataW.TrodAll enc Tryd.prog W 0 (fun _ => true) true Tryd.f3.params.toList args.toList ds before := hA0
    rw [Tryd.params3] at hA hval
    obtain ⟨v0, d0, rfl, rfl, h0⟩ := trodAll_one hA
    obtain ⟨ls, vr, fs, f, t, m, rfl, hI⟩ := open_asked (hval 0 28 v0 rfl rfl) h0
    exact law_SpanSums ls vr fs f t m W (glob_of hL) (maxl_of hsh) hI

theorem spanSums_row : Rows.SpanSumsSaid :=
  OpenClaim.holds_of_wide 3 Tryd.f3 rfl rfl rfl rfl rfl rfl rfl ⟨rfl, rfl, rfl, rfl, rfl⟩ rfl rfl rfl rfl rfl (by kernel_rfl) Tryd.func3 (by kernel_rfl)
    (of_decide_eq_true (by kernel_rfl)) (by unfold Func.isWrapper; rw [if_neg (of_decide_eq_false (by kernel_rfl))]; exact ⟨rfl, rfl⟩)
    (fun os started H enc _ => spanSums_lifted os started H enc)
theorem spanSums_holds : Rows.SpanSumsCardSaid :=
  Claim7.holds_tied_plain_at .later [] [.data] true (true, "cfb65932a89fbef14067b3a03cbadbd16c21ad6477c0c7ed80825b9d65b756e0") false
    spanSums_row (fun _ h => by cases h) (by kernel_rfl) (fun _ h => by cases h) spanSums_row_tie rfl ⟨rfl, rfl⟩ (by kernel_rfl) rfl
    (fun f fn hf hfn => by
      obtain rfl : f = 3 := Option.some.inj ((show Tryd.prog.funcNamed Tryd.f3.name = some 3 by kernel_rfl).symm.trans hf) |>.symm
      obtain rfl : fn = Tryd.f3 := (Option.some.inj (Tryd.func3.symm.trans hfn)).symm
      exact ⟨by kernel_rfl, fun j t ht => by
        rw [Tryd.params3] at ht
        have hm : t ∈ [28] := by simpa using Array.mem_of_getElem? ht
        have hall : ([28].all fun u => !Tryd.prog.wantsStandIn u) = true := by kernel_rfl
        exact (show Tryd.prog.wantsStandIn t = false by simpa using List.all_eq_true.1 hall t hm)⟩)
    (by kernel_rfl)
#print axioms spanSums_holds
end Go.Proofs.YtjpfebgpcokenaaDoor
