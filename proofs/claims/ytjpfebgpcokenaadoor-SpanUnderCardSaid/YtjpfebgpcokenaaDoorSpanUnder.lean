/-
  SpanUnder: at every input it returns true, and each argument reads as it read; the table of signs starts as the program's text lays it, and the card ties it to that text. No other condition.
-/
import Derived.Test.YtjpfebgpcokenaaDoorSpan37
import Derived.Test.YtjpfebgpcokenaaDoorSpanVars
import Derived.Test.YtjpfebgpcokenaaDoorTie
import Derived.Test.YtjpfebgpcokenaaDoorCards
namespace Go.Proofs.YtjpfebgpcokenaaDoor
open Go.ChangeShapes Go.WideShapes Go.ChangeAt Go.RowKit Go.ChangeMaps

set_option maxRecDepth 100000 in
theorem spanUnder_lifted (os : Os) (started : os.Started) (H : Type) (enc : TypeId × Value → H) :
    ReturnsInHanded {} Tryd.checked os 5 .any (fun w args => (Rows.spanUnderSpec.pre enc Tryd.prog Tryd.f5 Rows.spanUnderRow.domain false w args ∧ laidMetH Tryd.prog laidL w) ∧ sizedMet enc Tryd.prog Tryd.f5 (OpenSpec.ofChange Rows.spanUnderSpec) false w args) (Rows.spanUnderSpec.post enc Tryd.prog Tryd.f5 false true false false) := by
  refine law_lift_laid (C := Tryd.checked) laidL own started (by kernel_rfl) Tryd.func5 rfl (by kernel_rfl) Tryd.underlying4 laidOut (by kernel_rfl) ?_
    (ChangeSpec.witness_shaped (enc := enc) (C := Tryd.checked) (os := os) (X := fun w _ => laidMetH Tryd.prog laidL w) false (World.laidAll Tryd.prog os laidL) #[.agg #[.slice none 0 0, .slice none 0 0, .slice none 0 0, .slice none 0 0, .slice none 0 0, .slice none 0 0, .slice none 0 0, .slice none 0 0, .slice none 0 0, .slice none 0 0, .slice none 0 0, .slice none 0 0, .slice none 0 0, .slice none 0 0, .slice none 0 0, .slice none 0 0, .int .i64 0, .int .i64 0, .int .i64 0, .int .i64 0, .int .i64 0, .int .i64 0, .int .i64 0, .int .i64 0, .int .i64 0, .int .i64 0, .int .i64 0, .int .i64 0, .int .i64 0, .int .i64 0, .int .i64 0, .int .i64 0], .string ⟨#[]⟩] 8 (World.laidAll_os _ _ _)
      (World.shaped_of_ZipB (by kernel_rfl) (by kernel_rfl)) (by kernel_rfl) (by kernel_rfl) (by kernel_rfl) (door_met os _)) ?_
  · intro ds h
    match ds, h with
    | [_, _], _ => rfl
  · intro W base args ds before hval0 hA0 _ _ hL hsh
    have hval : ∀ (j : Nat) t v, Tryd.f5.params[j]? = some t → args[j]? = some v → Value.okWide Tryd.prog W .any base t v := hval0
    have hA : DataW.TrodAll enc Tryd.prog W 0 (fun _ => true) true Tryd.f5.params.toList args.toList ds before := hA0
    rw [Tryd.params5] at hA hval
    obtain ⟨v0, v1, d0, d1, y0, y1, rfl, rfl, rfl, h0, h1⟩ := trodAll_two hA
    obtain ⟨ls, vr, fs, rfl, hI⟩ := open_trunk (hval 0 26 v0 rfl rfl) h0
    obtain ⟨s1, rfl, _, _, _⟩ := open_string Tryd.underlying9 (hval 1 9 v1 rfl rfl) h1
    exact law_SpanUnder ls vr fs s1.data.toList W (glob_of hL) (maxl_of hsh) hI

theorem spanUnder_row : Rows.SpanUnderSaid :=
  OpenClaim.holds_of_wide 5 Tryd.f5 rfl rfl rfl rfl rfl rfl rfl ⟨rfl, rfl, rfl, rfl, rfl⟩ rfl rfl rfl rfl rfl (by kernel_rfl) Tryd.func5 (by kernel_rfl)
    (of_decide_eq_true (by kernel_rfl)) (by unfold Func.isWrapper; rw [if_neg (of_decide_eq_false (by kernel_rfl))]; exact ⟨rfl, rfl⟩)
    (fun os started H enc _ => spanUnder_lifted os started H enc)
theorem spanUnder_holds : Rows.SpanUnderCardSaid :=
  Claim7.holds_tied_plain_at .later [] [.data] true (true, "cfb65932a89fbef14067b3a03cbadbd16c21ad6477c0c7ed80825b9d65b756e0") false
    spanUnder_row (fun _ h => by cases h) (by kernel_rfl) (fun _ h => by cases h) spanUnder_row_tie rfl ⟨rfl, rfl⟩ (by kernel_rfl) rfl
    (fun f fn hf hfn => by
      obtain rfl : f = 5 := Option.some.inj ((show Tryd.prog.funcNamed Tryd.f5.name = some 5 by kernel_rfl).symm.trans hf) |>.symm
      obtain rfl : fn = Tryd.f5 := (Option.some.inj (Tryd.func5.symm.trans hfn)).symm
      exact ⟨by kernel_rfl, fun j t ht => by
        rw [Tryd.params5] at ht
        have hm : t ∈ [26, 9] := by simpa using Array.mem_of_getElem? ht
        have hall : ([26, 9].all fun u => !Tryd.prog.wantsStandIn u) = true := by kernel_rfl
        exact (show Tryd.prog.wantsStandIn t = false by simpa using List.all_eq_true.1 hall t hm)⟩)
    (by kernel_rfl)
#print axioms spanUnder_holds
end Go.Proofs.YtjpfebgpcokenaaDoor
