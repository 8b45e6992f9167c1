/-
  KeyMeets: at every input it returns true, and each argument reads as it read; the table of signs starts as the program's text lays it, and the card ties it to that text. No other condition.
-/
import Derived.Test.YtchfecmabhfooaaDoorKey5
import Derived.Test.YtchfecmabhfooaaDoorVars
import Derived.Test.YtchfecmabhfooaaDoorTie
import Derived.Test.YtchfecmabhfooaaDoorCards
import Derived.ChangeMaps5
namespace Go.Proofs.YtchfecmabhfooaaDoor
open Go.ChangeShapes Go.WideShapes Go.ChangeAt Go.RowKit Go.ChangeMaps

set_option maxRecDepth 100000 in
theorem keyMeets_lifted (os : Os) (started : os.Started) (H : Type) (enc : TypeId × Value → H) :
    ReturnsInHanded {} Tryd.checked os 10 .any (fun w args => (Rows.keyMeetsSpec.pre enc Tryd.prog Tryd.f10 Rows.keyMeetsRow.domain false w args ∧ laidMetH Tryd.prog laidL w) ∧ sizedMet enc Tryd.prog Tryd.f10 (OpenSpec.ofChange Rows.keyMeetsSpec) false w args) (Rows.keyMeetsSpec.post enc Tryd.prog Tryd.f10 false true false false) := by
  refine law_lift_laid (C := Tryd.checked) laidL own started (by kernel_rfl) Tryd.func10 rfl (by kernel_rfl) Tryd.underlying4 laidOut (by kernel_rfl) ?_
    (ChangeSpec.witness_shaped (enc := enc) (C := Tryd.checked) (os := os) (X := fun w _ => laidMetH Tryd.prog laidL w) false (World.laidAll Tryd.prog os laidL) #[.string ⟨#[]⟩, .string ⟨#[]⟩, .string ⟨#[]⟩] 8 (World.laidAll_os _ _ _)
      (World.shaped_of_ZipB (by kernel_rfl) (by kernel_rfl)) (by kernel_rfl) (by kernel_rfl) (by kernel_rfl) (door_met os _)) ?_
  · intro ds h
    match ds, h with
    | [_, _, _], _ => rfl
  · intro W base args ds before hval0 hA0 _ _ hL hsh
    have hval : ∀ (j : Nat) t v, Tryd.f10.params[j]? = some t → args[j]? = some v → Value.okWide Tryd.prog W .any base t v := hval0
    have hA : DataW.TrodAll enc Tryd.prog W 0 (fun _ => true) true Tryd.f10.params.toList args.toList ds before := hA0
    rw [Tryd.params10] at hA hval
    obtain ⟨v0, v1, v2, d0, d1, d2, p0, p1, p2, rfl, rfl, rfl, h0, h1, h2⟩ := trodAll_three hA
    obtain ⟨s0, rfl, rfl, rfl, w0⟩ := open_string Tryd.underlying9 (hval 0 9 v0 rfl rfl) h0
    obtain ⟨s1, rfl, rfl, rfl, w1⟩ := open_string Tryd.underlying9 (hval 1 9 v1 rfl rfl) h1
    obtain ⟨s2, rfl, rfl, rfl, w2⟩ := open_string Tryd.underlying9 (hval 2 9 v2 rfl rfl) h2
    exact law_KeyMeets s0.data.toList s1.data.toList s2.data.toList W (glob_of hL) (maxl_of hsh)

theorem keyMeets_row : Rows.KeyMeetsSaid :=
  OpenClaim.holds_of_wide 10 Tryd.f10 rfl rfl rfl rfl rfl rfl rfl ⟨rfl, rfl, rfl, rfl, rfl⟩ rfl rfl rfl rfl rfl (by kernel_rfl) Tryd.func10 (by kernel_rfl)
    (of_decide_eq_true (by kernel_rfl)) (by unfold Func.isWrapper; rw [if_neg (of_decide_eq_false (by kernel_rfl))]; exact ⟨rfl, rfl⟩)
    (fun os started H enc _ => keyMeets_lifted os started H enc)
theorem keyMeets_holds : Rows.KeyMeetsCardSaid :=
  Claim7.holds_tied_plain_at .later [] [.data] true (true, "d68675bc6f422237e054277e6523f0ca3e5c6234c593a2594cee87a1e756db72") false
    keyMeets_row (fun _ h => by cases h) (by kernel_rfl) (fun _ h => by cases h) keyMeets_row_tie rfl ⟨rfl, rfl⟩ (by kernel_rfl) rfl
    (fun f fn hf hfn => by
      obtain rfl : f = 10 := Option.some.inj ((show Tryd.prog.funcNamed Tryd.f10.name = some 10 by kernel_rfl).symm.trans hf) |>.symm
      obtain rfl : fn = Tryd.f10 := (Option.some.inj (Tryd.func10.symm.trans hfn)).symm
      exact ⟨by kernel_rfl, fun j t ht => by
        rw [Tryd.params10] at ht
        have hm : t ∈ [9, 9, 9] := by simpa using Array.mem_of_getElem? ht
        have hall : ([9, 9, 9].all fun u => !Tryd.prog.wantsStandIn u) = true := by kernel_rfl
        exact (show Tryd.prog.wantsStandIn t = false by simpa using List.all_eq_true.1 hall t hm)⟩)
    (by kernel_rfl)
#print axioms keyMeets_holds
end Go.Proofs.YtchfecmabhfooaaDoor
