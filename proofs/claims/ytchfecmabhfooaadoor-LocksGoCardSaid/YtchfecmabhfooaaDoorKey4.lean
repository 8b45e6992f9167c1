/-
  The chapter's examples on keys come out true. No condition of its own.
-/
import Derived.Test.YtchfecmabhfooaaDoorKey3
set_option linter.unusedSimpArgs false
set_option linter.unusedVariables false
namespace Go.Proofs.YtchfecmabhfooaaDoor
open Go.RowKit
attribute [local irreducible] cwp lwp Exit.then Exit.inBlock Exit.noGoto wpQuiet Calls fin At AtQ Again endQ RQ

theorem parts_ex : partsK [97, 47, 47, 98] = [[97], [], [98]] := by decide
set_option maxRecDepth 100000 in
theorem law_awake (w : World) (hG : Glob w) (hM : Maxl w) : Calls Tryd.prog 48 #[] w fun e w' => e = .returned (.bool true) ∧ Below w.heap.size w w' := by
  refine calls_plain Tryd.func48 rfl Tryd.ntmps48 rfl ?_
  refine at_seq ?_
  refine at_region ?_
  refine at_do (does_assign rfl) rfl rfl ?_
  refine at_nil ?_
  refine at_then ?_
  refine at_seq ?_
  refine at_region ?_
  rotate_left
  refine at_callrow (e := 9) (sz := 1) (m := 3) (xs := strs [[97], [], [98]]) (enters_fn (by kernel_rfl) rfl) (fun w ho => (key_Parts [97, 47, 47, 98] (by decide) w (ho.glob hG id) (ho.maxl hM id)).mono fun e w' h => by rw [parts_ex] at h; exact h) rfl rfl (fun v => ?_)
  refine at_openrow (i := 0) rfl ?_
  rintro ⟨_, ⟨_, h0⟩ | ⟨g, c, rfl⟩⟩
  · cases h0
  refine at_do (does_assign rfl) rfl rfl ?_
  refine at_nil ?_
  refine at_then ?_
  refine at_seq ?_
  refine at_region ?_
  refine at_callv (f := 49) (enters_fn (by kernel_rfl) rfl) (fun w ho => key_Range _ w (ho.glob hG id) (by decide)) rfl rfl ?_
  refine at_do (does_move rfl) rfl rfl ?_
  refine at_do (does_extract rfl rfl) rfl rfl ?_
  refine at_do (does_extract rfl rfl) rfl rfl ?_
  refine at_do (does_extract rfl rfl) rfl rfl ?_
  refine at_do (does_assign rfl) rfl rfl ?_
  refine at_do (does_assign rfl) rfl rfl ?_
  refine at_do (does_assign rfl) rfl rfl ?_
  refine at_nil ?_
  refine at_then ?_
  refine at_seq ?_
  refine at_region ?_
  refine at_callv (f := 44) (enters_fn (by kernel_rfl) rfl) (fun w ho => key_Is _ w (ho.glob hG id)) rfl rfl ?_
  refine at_do (does_move rfl) rfl rfl ?_
  refine at_know (t := 12) (d := true) rfl (by decide) ?_
  refine at_on rfl rfl ?_
  refine at_callv (f := 44) (enters_fn (by kernel_rfl) rfl) (fun w ho => key_Is _ w (ho.glob hG id)) rfl rfl ?_
  refine at_on rfl rfl ?_
  refine at_do (does_not rfl) rfl rfl ?_
  refine at_do (does_pick_true rfl rfl) rfl rfl ?_
  refine at_do (does_move rfl) rfl rfl ?_
  refine at_know (t := 16) (d := true) rfl (by decide) ?_
  refine at_on rfl rfl ?_
  refine at_callv (f := 46) (enters_fn (by kernel_rfl) rfl) (fun w ho => key_Under _ _ w (ho.glob hG id)) rfl rfl ?_
  refine at_do (does_pick_true rfl rfl) rfl rfl ?_
  refine at_do (does_move rfl) rfl rfl ?_
  refine at_know (t := 19) (d := true) rfl (by decide) ?_
  refine at_on rfl rfl ?_
  refine at_callv (f := 47) (enters_fn (by kernel_rfl) rfl) (fun w ho => key_Bucket _ w (ho.glob hG id)) rfl rfl ?_
  refine at_on rfl rfl ?_
  refine at_do (does_eql rfl rfl) rfl rfl ?_
  refine at_do (does_pick_true rfl rfl) rfl rfl ?_
  refine at_do (does_move rfl) rfl rfl ?_
  refine at_know (t := 23) (d := true) rfl (decide_eq_true (by decide)) ?_
  refine at_on rfl rfl ?_
  refine at_callv (f := 47) (enters_fn (by kernel_rfl) rfl) (fun w ho => key_Bucket _ w (ho.glob hG id)) rfl rfl ?_
  refine at_on rfl rfl ?_
  refine at_do (does_eql rfl rfl) rfl rfl ?_
  refine at_do (does_pick_true rfl rfl) rfl rfl ?_
  refine at_do (does_move rfl) rfl rfl ?_
  refine at_know (t := 27) (d := true) rfl (decide_eq_true (by decide)) ?_
  refine at_on rfl rfl ?_
  refine at_do (does_move rfl) rfl rfl ?_
  refine at_on rfl rfl ?_
  refine at_do (does_len (by kernel_rfl) rfl) rfl rfl ?_
  refine at_on rfl rfl ?_
  refine at_do (does_eql rfl rfl) rfl rfl ?_
  refine at_do (does_pick_true rfl rfl) rfl rfl ?_
  refine at_do (does_move rfl) rfl rfl ?_
  refine at_know (t := 32) (d := true) rfl (decide_eq_true (by decide)) ?_
  refine at_on rfl rfl ?_
  refine at_do (does_move rfl) rfl rfl ?_
  refine at_on rfl rfl ?_
  refine at_do (does_indexAddr1 (j := 1) (by kernel_rfl) rfl rfl (by decide)) rfl rfl ?_
  refine at_on rfl rfl ?_
  refine at_do (does_rowload (i := 0) (j := 0 + 1) (sz := 1) (m := 3) (u := .string (bs [])) (by kernel_rfl) rfl rfl (by decide) rfl) rfl rfl ?_
  refine at_on rfl rfl ?_
  refine at_do (does_seql rfl rfl) rfl rfl ?_
  refine at_do (does_pick_true rfl rfl) rfl rfl ?_
  refine at_do (does_move rfl) rfl rfl ?_
  refine at_know (t := 38) (d := true) rfl (decide_eq_true (by decide)) ?_
  refine at_on rfl rfl ?_
  refine at_do (does_move rfl) rfl rfl ?_
  refine at_on rfl rfl ?_
  refine at_do (does_indexAddr1 (j := 2) (by kernel_rfl) rfl rfl (by decide)) rfl rfl ?_
  refine at_on rfl rfl ?_
  refine at_do (does_rowload (i := 0) (j := 0 + 2) (sz := 1) (m := 3) (u := .string (bs [98])) (by kernel_rfl) rfl rfl (by decide) rfl) rfl rfl ?_
  refine at_on rfl rfl ?_
  refine at_do (does_seql rfl rfl) rfl rfl ?_
  refine at_do (does_pick_true rfl rfl) rfl rfl ?_
  refine at_do (does_move rfl) rfl rfl ?_
  refine at_know (t := 44) (d := true) rfl (decide_eq_true (by decide)) ?_
  refine at_on rfl rfl ?_
  refine at_do (does_move rfl) rfl rfl ?_
  refine at_on rfl rfl ?_
  refine at_do (does_seql rfl rfl) rfl rfl ?_
  refine at_do (does_pick_true rfl rfl) rfl rfl ?_
  refine at_do (does_move rfl) rfl rfl ?_
  refine at_know (t := 48) (d := true) rfl (decide_eq_true (by decide)) ?_
  refine at_on rfl rfl ?_
  refine at_do (does_move rfl) rfl rfl ?_
  refine at_on rfl rfl ?_
  refine at_do (does_seql rfl rfl) rfl rfl ?_
  refine at_do (does_pick_true rfl rfl) rfl rfl ?_
  refine at_do (does_move rfl) rfl rfl ?_
  refine at_know (t := 52) (d := true) rfl (decide_eq_true (by decide)) ?_
  refine at_on rfl rfl ?_
  refine at_do (does_move rfl) rfl rfl ?_
  refine at_on rfl rfl ?_
  refine at_do (does_eql rfl rfl) rfl rfl ?_
  refine at_do (does_pick_true rfl rfl) rfl rfl ?_
  refine at_do (does_move rfl) rfl rfl ?_
  refine at_know (t := 56) (d := true) rfl (decide_eq_true (by decide)) ?_
  refine at_on rfl rfl ?_
  refine at_callv (f := 54) (enters_fn (by kernel_rfl) rfl) (fun w ho => key_Meet _ _ w (ho.glob hG id)) rfl rfl ?_
  refine at_do (does_pick_true rfl rfl) rfl rfl ?_
  refine at_do (does_move rfl) rfl rfl ?_
  refine at_know (t := 59) (d := true) rfl (by decide) ?_
  refine at_on rfl rfl ?_
  refine at_callv (f := 54) (enters_fn (by kernel_rfl) rfl) (fun w ho => key_Meet _ _ w (ho.glob hG id)) rfl rfl ?_
  refine at_on rfl rfl ?_
  refine at_do (does_not rfl) rfl rfl ?_
  refine at_do (does_pick_true rfl rfl) rfl rfl ?_
  refine at_do (does_move rfl) rfl rfl ?_
  refine at_do (does_pickb rfl rfl rfl) rfl rfl ?_
  refine at_do (does_move rfl) rfl rfl ?_
  refine at_do (does_pickb rfl rfl rfl) rfl rfl ?_
  refine at_do (does_assign rfl) rfl rfl ?_
  refine at_nil ?_
  refine at_then ?_
  refine at_ret ?_
  refine at_ret1 rfl rfl rfl (fun w9 ho9 => ?_)
  rotate_left
  exact ⟨ret_bool (by decide), ho9.plain⟩
end Go.Proofs.YtchfecmabhfooaaDoor
