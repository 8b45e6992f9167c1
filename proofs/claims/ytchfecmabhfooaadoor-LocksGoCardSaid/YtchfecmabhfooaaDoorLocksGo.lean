/-
  LocksGo: at every input it returns true, and each argument reads as it read; the table of signs starts as the program's text lays it, and the card ties it to that text. No other condition.
-/
import Derived.Test.YtchfecmabhfooaaDoorLocks10
import Derived.Test.YtchfecmabhfooaaDoorTie
import Derived.Test.YtchfecmabhfooaaDoorCards
namespace Go.Proofs.YtchfecmabhfooaaDoor
open Go.ChangeShapes Go.WideShapes Go.ChangeAt Go.RowKit Go.ChangeMaps

set_option maxRecDepth 100000 in
theorem locksGo_lifted (os : Os) (started : os.Started) (H : Type) (enc : TypeId × Value → H) :
    ReturnsInHanded {} Tryd.checked os 7 .any (fun w args => (Rows.locksGoSpec.pre enc Tryd.prog Tryd.f7 Rows.locksGoRow.domain false w args ∧ laidMetH Tryd.prog laidL w) ∧ sizedMet enc Tryd.prog Tryd.f7 (OpenSpec.ofChange Rows.locksGoSpec) false w args) (Rows.locksGoSpec.post enc Tryd.prog Tryd.f7 false true false false) := by
  refine law_lift_laid (C := Tryd.checked) laidL own started (by kernel_rfl) Tryd.func7 rfl (by kernel_rfl) Tryd.underlying4 laidOut (by kernel_rfl) ?_
    (ChangeSpec.witness_shaped (enc := enc) (C := Tryd.checked) (os := os) (X := fun w _ => laidMetH Tryd.prog laidL w) false (World.laidAll Tryd.prog os laidL) #[.slice none 0 0, .slice none 0 0] 8 (World.laidAll_os _ _ _)
      (World.shaped_of_ZipB (by kernel_rfl) (by kernel_rfl)) (by kernel_rfl) (by kernel_rfl) (by kernel_rfl) (door_met os _)) ?_
  · intro ds h
    match ds, h with
    | [_, _], _ => rfl
  · intro W base args ds before hval0 hA0 _ _ hL hsh
    have hval : ∀ (j : Nat) t v, Tryd.f7.params[j]? = some t → args[j]? = some v → Value.okWide Tryd.prog W .any base t v := hval0
    have hA : DataW.TrodAll enc Tryd.prog W 0 (fun _ => true) true Tryd.f7.params.toList args.toList ds before := hA0
    rw [Tryd.params7] at hA hval
    obtain ⟨v0, v1, d0, d1, y0, y1, rfl, rfl, rfl, h0, h1⟩ := trodAll_two hA
    obtain ⟨L, hWL, hWn⟩ := open_wants (hval 0 28 v0 rfl rfl) h0
    obtain ⟨picks, hPL, hPn⟩ := open_picks (hval 1 58 v1 rfl rfl) h1
    exact law_LocksGo _ L _ picks W (glob_of hL) hWL hWn hPL hPn

theorem locksGo_row : Rows.LocksGoSaid :=
  OpenClaim.holds_of_wide 7 Tryd.f7 rfl rfl rfl rfl rfl rfl rfl ⟨rfl, rfl, rfl, rfl, rfl⟩ rfl rfl rfl rfl rfl (by kernel_rfl) Tryd.func7 (by kernel_rfl)
    (of_decide_eq_true (by kernel_rfl)) (by unfold Func.isWrapper; rw [if_neg (of_decide_eq_false (by kernel_rfl))]; exact ⟨rfl, rfl⟩)
    (fun os started H enc _ => locksGo_lifted os started H enc)
theorem locksGo_holds : Rows.LocksGoCardSaid :=
  Claim7.holds_tied_plain_at .later [] [.data] true (true, "d68675bc6f422237e054277e6523f0ca3e5c6234c593a2594cee87a1e756db72") false
    locksGo_row (fun _ h => by cases h) (by kernel_rfl) (fun _ h => by cases h) locksGo_row_tie rfl ⟨rfl, rfl⟩ (by kernel_rfl) rfl
    (fun f fn hf hfn => by
      obtain rfl : f = 7 := Option.some.inj ((show Tryd.prog.funcNamed Tryd.f7.name = some 7 by kernel_rfl).symm.trans hf) |>.symm
      obtain rfl : fn = Tryd.f7 := (Option.some.inj (Tryd.func7.symm.trans hfn)).symm
      exact ⟨by kernel_rfl, fun j t ht => by
        rw [Tryd.params7] at ht
        have hm : t ∈ [28, 58] := by simpa using Array.mem_of_getElem? ht
        have hall : ([28, 58].all fun u => !Tryd.prog.wantsStandIn u) = true := by kernel_rfl
        exact (show Tryd.prog.wantsStandIn t = false by simpa using List.all_eq_true.1 hall t hm)⟩)
    (by kernel_rfl)
#print axioms locksGo_holds
end Go.Proofs.YtchfecmabhfooaaDoor
