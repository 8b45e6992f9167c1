/-
  The statements on keys, walked: KeyForms, KeyRanges, KeyMeets, KeyUnder come out true. No condition of its own.
-/
import Derived.Test.YtchfecmabhfooaaDoorKey4
import Derived.Test.YtchfecmabhfooaaDoorKeyLaw
set_option linter.unusedSimpArgs false
set_option linter.unusedVariables false
namespace Go.Proofs.YtchfecmabhfooaaDoor
open Go.RowKit
attribute [local irreducible] cwp lwp Exit.then Exit.inBlock Exit.noGoto wpQuiet Calls fin At AtQ Again endQ RQ

theorem key_Range_t (p : List UInt8) (w : World) (hG : Glob w) (hl : p.length ≤ 100000) (h : keyOk p = true) : Calls Tryd.prog 49 #[.string (bs p)] w fun e w' => e = .returned (.tuple #[.string (bs p), .string (bs (endK p)), .int .i64 0]) ∧ Below w.heap.size w w' := by
  have := key_Range p w hG hl
  rwa [if_pos h] at this
theorem key_Range_f (p : List UInt8) (w : World) (hG : Glob w) (hl : p.length ≤ 100000) (h : keyOk p = false) : Calls Tryd.prog 49 #[.string (bs p)] w fun e w' => e = .returned (.tuple #[.string (bs []), .string (bs []), .int .i64 3]) ∧ Below w.heap.size w w' := by
  have := key_Range p w hG hl
  rwa [if_neg (by simp [h])] at this
theorem take60 (l : List UInt8) : (l.take 60).length ≤ 60 := by simp; omega
set_option maxRecDepth 100000 in
theorem law_KeyForms (k p : List UInt8) (w : World) (hG : Glob w) (hM : Maxl w) : Calls Tryd.prog 8 #[.string (bs k), .string (bs p)] w fun e w' => e = .returned (.bool true) ∧ Below w.heap.size w w' := by
  refine calls_plain Tryd.func8 rfl Tryd.ntmps8 rfl ?_
  have hk := take60 k
  have hp := take60 p
  have hr := byt_range (k.take 60) 0
  have hbk : isK (k.take 60) = true → bucket (k.take 60) = byt (k.take 60) (Int.toNat 0) % 16 := fun h => by simp [bucket, h]
  refine at_seq ?_
  refine at_region ?_
  refine at_do (does_assign rfl) rfl rfl ?_
  refine at_nil ?_
  refine at_then ?_
  refine at_seq ?_
  refine at_region ?_
  refine at_do (does_move rfl) rfl rfl ?_
  refine at_callv (f := 40) (enters_fn (by kernel_rfl) rfl) (fun w ho => law_few _ w) rfl rfl ?_
  refine at_do (does_move rfl) rfl rfl ?_
  refine at_callv (f := 40) (enters_fn (by kernel_rfl) rfl) (fun w ho => law_few _ w) rfl rfl ?_
  refine at_do (does_assign rfl) rfl rfl ?_
  refine at_do (does_assign rfl) rfl rfl ?_
  refine at_nil ?_
  refine at_then ?_
  refine at_seq ?_
  refine at_region ?_
  refine at_do (does_assign rfl) rfl rfl ?_
  refine at_nil ?_
  refine at_then ?_
  refine at_seq ?_
  refine at_seq ?_
  refine at_region ?_
  refine at_do (does_move rfl) rfl rfl ?_
  refine at_callv (f := 41) (enters_fn (by kernel_rfl) rfl) (fun w ho => ref_Is _ w (by omega)) rfl rfl ?_
  refine at_nil ?_
  refine at_then ?_
  refine at_cond rfl (fun z0 => ?_) (fun z0 => ?_)
  refine at_region ?_
  refine at_do (does_move rfl) rfl rfl ?_
  refine at_do (does_sidx (by kernel_rfl) rfl rfl (by (first | omega | (have := isK_pos (by assumption); omega) | (simp only [Int.toNat_zero]; omega)))) rfl rfl ?_
  refine at_do (does_conv8 (by kernel_rfl) (by kernel_rfl) rfl (by (first | omega | (have := isK_pos (by assumption); omega) | (simp only [Int.toNat_zero]; omega)))) rfl rfl ?_
  refine at_do (does_remi rfl rfl (by (first | omega | (have := isK_pos (by assumption); omega) | (simp only [Int.toNat_zero]; omega)))) rfl rfl ?_
  refine at_do (does_assign rfl) rfl rfl ?_
  refine at_nil ?_
  refine at_then ?_
  refine at_seq ?_
  refine at_region ?_
  refine at_do (does_move rfl) rfl rfl ?_
  refine at_callv (f := 41) (enters_fn (by kernel_rfl) rfl) (fun w ho => ref_Is _ w (by omega)) rfl rfl ?_
  refine at_do (does_move rfl) rfl rfl ?_
  refine at_know (t := 19) (d := true) rfl (by simp [*]) ?_
  refine at_on rfl rfl ?_
  refine at_do (does_move rfl) rfl rfl ?_
  refine at_on rfl rfl ?_
  refine at_callv (f := 42) (enters_fn (by kernel_rfl) rfl) (fun w ho => ref_Pattern _ w (by omega)) rfl rfl ?_
  refine at_do (does_pick_true rfl rfl) rfl rfl ?_
  refine at_do (does_move rfl) rfl rfl ?_
  refine at_guard rfl rfl (fun z1 => ?_) (fun z1 => ?_)
  refine at_on rfl rfl ?_
  refine at_do (does_move rfl) rfl rfl ?_
  refine at_on rfl rfl ?_
  refine at_do (does_move rfl) rfl rfl ?_
  refine at_on rfl rfl ?_
  refine at_callv (f := 43) (enters_fn (by kernel_rfl) rfl) (fun w ho => ref_Begins _ _ w) rfl rfl ?_
  refine at_do (does_pick_true rfl rfl) rfl rfl ?_
  refine at_do (does_assign rfl) rfl rfl ?_
  refine at_nil ?_
  refine at_then ?_
  refine at_seq ?_
  refine at_region ?_
  refine at_do (does_move rfl) rfl rfl ?_
  refine at_callv (f := 44) (enters_fn (by kernel_rfl) rfl) (fun w ho => key_Is _ w (ho.glob hG id)) rfl rfl ?_
  refine at_do (does_move rfl) rfl rfl ?_
  refine at_callv (f := 41) (enters_fn (by kernel_rfl) rfl) (fun w ho => ref_Is _ w (by omega)) rfl rfl ?_
  refine at_do (does_beql (by kernel_rfl) rfl rfl) rfl rfl ?_
  refine at_do (does_move rfl) rfl rfl ?_
  refine at_know (t := 33) (d := true) rfl (by simp) ?_
  refine at_on rfl rfl ?_
  refine at_do (does_move rfl) rfl rfl ?_
  refine at_on rfl rfl ?_
  refine at_callv (f := 45) (enters_fn (by kernel_rfl) rfl) (fun w ho => key_Pattern _ w (ho.glob hG id)) rfl rfl ?_
  refine at_on rfl rfl ?_
  refine at_do (does_move rfl) rfl rfl ?_
  refine at_on rfl rfl ?_
  refine at_callv (f := 42) (enters_fn (by kernel_rfl) rfl) (fun w ho => ref_Pattern _ w (by omega)) rfl rfl ?_
  refine at_on rfl rfl ?_
  refine at_do (does_beql (by kernel_rfl) rfl rfl) rfl rfl ?_
  refine at_do (does_pick_true rfl rfl) rfl rfl ?_
  refine at_do (does_move rfl) rfl rfl ?_
  refine at_know (t := 40) (d := true) rfl (by simp) ?_
  refine at_on rfl rfl ?_
  refine at_do (does_move rfl) rfl rfl ?_
  refine at_on rfl rfl ?_
  refine at_do (does_move rfl) rfl rfl ?_
  refine at_on rfl rfl ?_
  refine at_callv (f := 46) (enters_fn (by kernel_rfl) rfl) (fun w ho => key_Under _ _ w (ho.glob hG id)) rfl rfl ?_
  refine at_on rfl rfl ?_
  refine at_do (does_move rfl) rfl rfl ?_
  refine at_on rfl rfl ?_
  refine at_do (does_beql (by kernel_rfl) rfl rfl) rfl rfl ?_
  refine at_do (does_pick_true rfl rfl) rfl rfl ?_
  refine at_do (does_move rfl) rfl rfl ?_
  refine at_know (t := 47) (d := true) rfl (by (simp [*, under])) ?_
  refine at_on rfl rfl ?_
  refine at_do (does_move rfl) rfl rfl ?_
  refine at_on rfl rfl ?_
  refine at_callv (f := 47) (enters_fn (by kernel_rfl) rfl) (fun w ho => key_Bucket _ w (ho.glob hG id)) rfl rfl ?_
  refine at_on rfl rfl ?_
  refine at_do (does_move rfl) rfl rfl ?_
  refine at_on rfl rfl ?_
  refine at_do (does_eql rfl rfl) rfl rfl ?_
  refine at_do (does_pick_true rfl rfl) rfl rfl ?_
  refine at_do (does_move rfl) rfl rfl ?_
  refine at_know (t := 53) (d := true) rfl (decide_eq_true (by simp [*])) ?_
  refine at_on rfl rfl ?_
  refine at_callv (f := 48) (enters_fn (by kernel_rfl) rfl) (fun w ho => law_awake w (ho.glob hG id) (ho.maxl hM id)) rfl rfl ?_
  refine at_do (does_pick_true rfl rfl) rfl rfl ?_
  refine at_do (does_assign rfl) rfl rfl ?_
  refine at_nil ?_
  refine at_then ?_
  refine at_ret ?_
  refine at_ret1 rfl rfl rfl (fun w9 ho9 => ?_)
  rotate_left
  refine at_no rfl rfl rfl rfl ?_
  refine at_no rfl rfl rfl rfl ?_
  refine at_no rfl rfl rfl rfl ?_
  refine at_do (does_pick_false rfl rfl) rfl rfl ?_
  refine at_do (does_assign rfl) rfl rfl ?_
  refine at_nil ?_
  refine at_then ?_
  refine at_seq ?_
  refine at_region ?_
  refine at_do (does_move rfl) rfl rfl ?_
  refine at_callv (f := 44) (enters_fn (by kernel_rfl) rfl) (fun w ho => key_Is _ w (ho.glob hG id)) rfl rfl ?_
  refine at_do (does_move rfl) rfl rfl ?_
  refine at_callv (f := 41) (enters_fn (by kernel_rfl) rfl) (fun w ho => ref_Is _ w (by omega)) rfl rfl ?_
  refine at_do (does_beql (by kernel_rfl) rfl rfl) rfl rfl ?_
  refine at_do (does_move rfl) rfl rfl ?_
  refine at_know (t := 33) (d := true) rfl (by simp) ?_
  refine at_on rfl rfl ?_
  refine at_do (does_move rfl) rfl rfl ?_
  refine at_on rfl rfl ?_
  refine at_callv (f := 45) (enters_fn (by kernel_rfl) rfl) (fun w ho => key_Pattern _ w (ho.glob hG id)) rfl rfl ?_
  refine at_on rfl rfl ?_
  refine at_do (does_move rfl) rfl rfl ?_
  refine at_on rfl rfl ?_
  refine at_callv (f := 42) (enters_fn (by kernel_rfl) rfl) (fun w ho => ref_Pattern _ w (by omega)) rfl rfl ?_
  refine at_on rfl rfl ?_
  refine at_do (does_beql (by kernel_rfl) rfl rfl) rfl rfl ?_
  refine at_do (does_pick_true rfl rfl) rfl rfl ?_
  refine at_do (does_move rfl) rfl rfl ?_
  refine at_know (t := 40) (d := true) rfl (by simp) ?_
  refine at_on rfl rfl ?_
  refine at_do (does_move rfl) rfl rfl ?_
  refine at_on rfl rfl ?_
  refine at_do (does_move rfl) rfl rfl ?_
  refine at_on rfl rfl ?_
  refine at_callv (f := 46) (enters_fn (by kernel_rfl) rfl) (fun w ho => key_Under _ _ w (ho.glob hG id)) rfl rfl ?_
  refine at_on rfl rfl ?_
  refine at_do (does_move rfl) rfl rfl ?_
  refine at_on rfl rfl ?_
  refine at_do (does_beql (by kernel_rfl) rfl rfl) rfl rfl ?_
  refine at_do (does_pick_true rfl rfl) rfl rfl ?_
  refine at_do (does_move rfl) rfl rfl ?_
  refine at_know (t := 47) (d := true) rfl (by (simp [*, under])) ?_
  refine at_on rfl rfl ?_
  refine at_do (does_move rfl) rfl rfl ?_
  refine at_on rfl rfl ?_
  refine at_callv (f := 47) (enters_fn (by kernel_rfl) rfl) (fun w ho => key_Bucket _ w (ho.glob hG id)) rfl rfl ?_
  refine at_on rfl rfl ?_
  refine at_do (does_move rfl) rfl rfl ?_
  refine at_on rfl rfl ?_
  refine at_do (does_eql rfl rfl) rfl rfl ?_
  refine at_do (does_pick_true rfl rfl) rfl rfl ?_
  refine at_do (does_move rfl) rfl rfl ?_
  refine at_know (t := 53) (d := true) rfl (decide_eq_true (by simp [*])) ?_
  refine at_on rfl rfl ?_
  refine at_callv (f := 48) (enters_fn (by kernel_rfl) rfl) (fun w ho => law_awake w (ho.glob hG id) (ho.maxl hM id)) rfl rfl ?_
  refine at_do (does_pick_true rfl rfl) rfl rfl ?_
  refine at_do (does_assign rfl) rfl rfl ?_
  refine at_nil ?_
  refine at_then ?_
  refine at_ret ?_
  refine at_ret1 rfl rfl rfl (fun w9 ho9 => ?_)
  rotate_left
  refine at_skip ?_
  refine at_then ?_
  refine at_seq ?_
  refine at_region ?_
  refine at_do (does_move rfl) rfl rfl ?_
  refine at_callv (f := 41) (enters_fn (by kernel_rfl) rfl) (fun w ho => ref_Is _ w (by omega)) rfl rfl ?_
  refine at_do (does_move rfl) rfl rfl ?_
  refine at_know (t := 19) (d := false) rfl (by simp [*]) ?_
  refine at_no rfl rfl rfl rfl ?_
  refine at_no rfl rfl rfl rfl ?_
  refine at_do (does_pick_false rfl rfl) rfl rfl ?_
  refine at_do (does_move rfl) rfl rfl ?_
  refine at_no rfl rfl rfl rfl ?_
  refine at_no rfl rfl rfl rfl ?_
  refine at_no rfl rfl rfl rfl ?_
  refine at_do (does_pick_false rfl rfl) rfl rfl ?_
  refine at_do (does_assign rfl) rfl rfl ?_
  refine at_nil ?_
  refine at_then ?_
  refine at_seq ?_
  refine at_region ?_
  refine at_do (does_move rfl) rfl rfl ?_
  refine at_callv (f := 44) (enters_fn (by kernel_rfl) rfl) (fun w ho => key_Is _ w (ho.glob hG id)) rfl rfl ?_
  refine at_do (does_move rfl) rfl rfl ?_
  refine at_callv (f := 41) (enters_fn (by kernel_rfl) rfl) (fun w ho => ref_Is _ w (by omega)) rfl rfl ?_
  refine at_do (does_beql (by kernel_rfl) rfl rfl) rfl rfl ?_
  refine at_do (does_move rfl) rfl rfl ?_
  refine at_know (t := 33) (d := true) rfl (by simp) ?_
  refine at_on rfl rfl ?_
  refine at_do (does_move rfl) rfl rfl ?_
  refine at_on rfl rfl ?_
  refine at_callv (f := 45) (enters_fn (by kernel_rfl) rfl) (fun w ho => key_Pattern _ w (ho.glob hG id)) rfl rfl ?_
  refine at_on rfl rfl ?_
  refine at_do (does_move rfl) rfl rfl ?_
  refine at_on rfl rfl ?_
  refine at_callv (f := 42) (enters_fn (by kernel_rfl) rfl) (fun w ho => ref_Pattern _ w (by omega)) rfl rfl ?_
  refine at_on rfl rfl ?_
  refine at_do (does_beql (by kernel_rfl) rfl rfl) rfl rfl ?_
  refine at_do (does_pick_true rfl rfl) rfl rfl ?_
  refine at_do (does_move rfl) rfl rfl ?_
  refine at_know (t := 40) (d := true) rfl (by simp) ?_
  refine at_on rfl rfl ?_
  refine at_do (does_move rfl) rfl rfl ?_
  refine at_on rfl rfl ?_
  refine at_do (does_move rfl) rfl rfl ?_
  refine at_on rfl rfl ?_
  refine at_callv (f := 46) (enters_fn (by kernel_rfl) rfl) (fun w ho => key_Under _ _ w (ho.glob hG id)) rfl rfl ?_
  refine at_on rfl rfl ?_
  refine at_do (does_move rfl) rfl rfl ?_
  refine at_on rfl rfl ?_
  refine at_do (does_beql (by kernel_rfl) rfl rfl) rfl rfl ?_
  refine at_do (does_pick_true rfl rfl) rfl rfl ?_
  refine at_do (does_move rfl) rfl rfl ?_
  refine at_know (t := 47) (d := true) rfl (by (simp [*, under])) ?_
  refine at_on rfl rfl ?_
  refine at_do (does_move rfl) rfl rfl ?_
  refine at_on rfl rfl ?_
  refine at_callv (f := 47) (enters_fn (by kernel_rfl) rfl) (fun w ho => key_Bucket _ w (ho.glob hG id)) rfl rfl ?_
  refine at_on rfl rfl ?_
  refine at_do (does_move rfl) rfl rfl ?_
  refine at_on rfl rfl ?_
  refine at_do (does_eql rfl rfl) rfl rfl ?_
  refine at_do (does_pick_true rfl rfl) rfl rfl ?_
  refine at_do (does_move rfl) rfl rfl ?_
  refine at_know (t := 53) (d := true) rfl (decide_eq_true (by (simp [*, bucket]))) ?_
  refine at_on rfl rfl ?_
  refine at_callv (f := 48) (enters_fn (by kernel_rfl) rfl) (fun w ho => law_awake w (ho.glob hG id) (ho.maxl hM id)) rfl rfl ?_
  refine at_do (does_pick_true rfl rfl) rfl rfl ?_
  refine at_do (does_assign rfl) rfl rfl ?_
  refine at_nil ?_
  refine at_then ?_
  refine at_ret ?_
  refine at_ret1 rfl rfl rfl (fun w9 ho9 => ?_)
  rotate_left
  all_goals exact ⟨rfl, ho9.plain⟩
set_option maxRecDepth 100000 in
theorem law_KeyRanges (k a b : List UInt8) (w : World) (hG : Glob w) (hM : Maxl w) : Calls Tryd.prog 9 #[.string (bs k), .string (bs a), .string (bs b)] w fun e w' => e = .returned (.bool true) ∧ Below w.heap.size w w' := by
  refine calls_plain Tryd.func9 rfl Tryd.ntmps9 rfl ?_
  have hk := take60 k
  have ha := take60 a
  have hb := take60 b
  cases hka : keyOk (a.take 60)
  · refine at_seq ?_
    refine at_region ?_
    refine at_do (does_assign rfl) rfl rfl ?_
    refine at_nil ?_
    refine at_then ?_
    refine at_seq ?_
    refine at_region ?_
    refine at_do (does_move rfl) rfl rfl ?_
    refine at_callv (f := 40) (enters_fn (by kernel_rfl) rfl) (fun w ho => law_few _ w) rfl rfl ?_
    refine at_do (does_move rfl) rfl rfl ?_
    refine at_callv (f := 40) (enters_fn (by kernel_rfl) rfl) (fun w ho => law_few _ w) rfl rfl ?_
    refine at_do (does_move rfl) rfl rfl ?_
    refine at_callv (f := 40) (enters_fn (by kernel_rfl) rfl) (fun w ho => law_few _ w) rfl rfl ?_
    refine at_do (does_assign rfl) rfl rfl ?_
    refine at_do (does_assign rfl) rfl rfl ?_
    refine at_do (does_assign rfl) rfl rfl ?_
    refine at_nil ?_
    refine at_then ?_
    refine at_seq ?_
    refine at_region ?_
    refine at_do (does_move rfl) rfl rfl ?_
    refine at_callv (f := 49) (enters_fn (by kernel_rfl) rfl) (fun w ho => key_Range_f _ w (ho.glob hG id) (by omega) hka) rfl rfl ?_
    refine at_do (does_move rfl) rfl rfl ?_
    refine at_do (does_extract rfl rfl) rfl rfl ?_
    refine at_do (does_extract rfl rfl) rfl rfl ?_
    refine at_do (does_extract rfl rfl) rfl rfl ?_
    refine at_do (does_assign rfl) rfl rfl ?_
    refine at_do (does_assign rfl) rfl rfl ?_
    refine at_do (does_assign rfl) rfl rfl ?_
    refine at_nil ?_
    refine at_then ?_
    refine at_seq ?_
    refine at_seq ?_
    refine at_region ?_
    refine at_do (does_move rfl) rfl rfl ?_
    refine at_callv (f := 42) (enters_fn (by kernel_rfl) rfl) (fun w ho => ref_Pattern _ w (by omega)) rfl rfl ?_
    refine at_nil ?_
    refine at_then ?_
    refine at_cond_f rfl (by simp [*]) ?_
    refine at_seq ?_
    refine at_region ?_
    refine at_do (does_move rfl) rfl rfl ?_
    refine at_do (does_sneq rfl rfl) rfl rfl ?_
    refine at_do (does_move rfl) rfl rfl ?_
    refine at_know (t := 40) (d := false) rfl (decide_eq_false (by simp)) ?_
    refine at_on rfl rfl ?_
    refine at_do (does_move rfl) rfl rfl ?_
    refine at_on rfl rfl ?_
    refine at_do (does_sneq rfl rfl) rfl rfl ?_
    refine at_do (does_pick_false rfl rfl) rfl rfl ?_
    refine at_do (does_move rfl) rfl rfl ?_
    refine at_know (t := 44) (d := false) rfl (decide_eq_false (by simp)) ?_
    refine at_on rfl rfl ?_
    refine at_do (does_move rfl) rfl rfl ?_
    refine at_on rfl rfl ?_
    refine at_do (does_neq rfl rfl) rfl rfl ?_
    refine at_do (does_pick_false rfl rfl) rfl rfl ?_
    refine at_nil ?_
    refine at_then ?_
    refine at_cond_f rfl (decide_eq_false (by simp)) ?_
    refine at_skip ?_
    refine at_then ?_
    refine at_seq ?_
    refine at_region ?_
    refine at_do (does_assign rfl) rfl rfl ?_
    refine at_nil ?_
    refine at_then ?_
    refine at_seq ?_
    refine at_seq ?_
    refine at_region ?_
    refine at_do (does_move rfl) rfl rfl ?_
    refine at_callv (f := 41) (enters_fn (by kernel_rfl) rfl) (fun w ho => ref_Is _ w (by omega)) rfl rfl ?_
    refine at_nil ?_
    refine at_then ?_
    refine at_cond rfl (fun z0 => ?_) (fun z0 => ?_)
    refine at_region ?_
    refine at_do (does_move rfl) rfl rfl ?_
    refine at_do (does_sadd (m := [0]) rfl rfl (by simp; omega)) rfl rfl ?_
    refine at_do (does_assign rfl) rfl rfl ?_
    refine at_nil ?_
    refine at_then ?_
    refine at_seq ?_
    refine at_region ?_
    refine at_do (does_move rfl) rfl rfl ?_
    refine at_do (does_move rfl) rfl rfl ?_
    refine at_do (does_move rfl) rfl rfl ?_
    refine at_callv (f := 51) (enters_fn (by kernel_rfl) rfl) (fun w ho => key_In _ _ _ w (ho.glob hG id)) rfl rfl ?_
    refine at_do (does_move rfl) rfl rfl ?_
    refine at_do (does_move rfl) rfl rfl ?_
    refine at_do (does_move rfl) rfl rfl ?_
    refine at_callv (f := 52) (enters_fn (by kernel_rfl) rfl) (fun w ho => ref_In _ _ _ w (by omega) (by omega) (by omega)) rfl rfl ?_
    refine at_do (does_beql (by kernel_rfl) rfl rfl) rfl rfl ?_
    refine at_do (does_move rfl) rfl rfl ?_
    refine at_know (t := 61) (d := true) rfl (by simp) ?_
    refine at_on rfl rfl ?_
    refine at_do (does_move rfl) rfl rfl ?_
    refine at_on rfl rfl ?_
    refine at_callv (f := 53) (enters_fn (by kernel_rfl) rfl) (fun w ho => key_After _ w (ho.glob hG id) (by omega)) rfl rfl ?_
    refine at_on rfl rfl ?_
    refine at_do (does_move rfl) rfl rfl ?_
    refine at_on rfl rfl ?_
    refine at_do (does_seql rfl rfl) rfl rfl ?_
    refine at_do (does_pick_true rfl rfl) rfl rfl ?_
    refine at_do (does_move rfl) rfl rfl ?_
    refine at_know (t := 67) (d := true) rfl (decide_eq_true (by simp [*])) ?_
    refine at_on rfl rfl ?_
    refine at_callv (f := 48) (enters_fn (by kernel_rfl) rfl) (fun w ho => law_awake w (ho.glob hG id) (ho.maxl hM id)) rfl rfl ?_
    refine at_do (does_pick_true rfl rfl) rfl rfl ?_
    refine at_do (does_assign rfl) rfl rfl ?_
    refine at_nil ?_
    refine at_then ?_
    refine at_ret ?_
    refine at_ret1 rfl rfl rfl (fun w9 ho9 => ?_)
    rotate_left
    refine at_skip ?_
    refine at_then ?_
    refine at_seq ?_
    refine at_region ?_
    refine at_do (does_move rfl) rfl rfl ?_
    refine at_do (does_move rfl) rfl rfl ?_
    refine at_do (does_move rfl) rfl rfl ?_
    refine at_callv (f := 51) (enters_fn (by kernel_rfl) rfl) (fun w ho => key_In _ _ _ w (ho.glob hG id)) rfl rfl ?_
    refine at_do (does_move rfl) rfl rfl ?_
    refine at_do (does_move rfl) rfl rfl ?_
    refine at_do (does_move rfl) rfl rfl ?_
    refine at_callv (f := 52) (enters_fn (by kernel_rfl) rfl) (fun w ho => ref_In _ _ _ w (by omega) (by omega) (by omega)) rfl rfl ?_
    refine at_do (does_beql (by kernel_rfl) rfl rfl) rfl rfl ?_
    refine at_do (does_move rfl) rfl rfl ?_
    refine at_know (t := 61) (d := true) rfl (by simp) ?_
    refine at_on rfl rfl ?_
    refine at_do (does_move rfl) rfl rfl ?_
    refine at_on rfl rfl ?_
    refine at_callv (f := 53) (enters_fn (by kernel_rfl) rfl) (fun w ho => key_After _ w (ho.glob hG id) (by omega)) rfl rfl ?_
    refine at_on rfl rfl ?_
    refine at_do (does_move rfl) rfl rfl ?_
    refine at_on rfl rfl ?_
    refine at_do (does_seql rfl rfl) rfl rfl ?_
    refine at_do (does_pick_true rfl rfl) rfl rfl ?_
    refine at_do (does_move rfl) rfl rfl ?_
    refine at_know (t := 67) (d := true) rfl (decide_eq_true (by simp [*])) ?_
    refine at_on rfl rfl ?_
    refine at_callv (f := 48) (enters_fn (by kernel_rfl) rfl) (fun w ho => law_awake w (ho.glob hG id) (ho.maxl hM id)) rfl rfl ?_
    refine at_do (does_pick_true rfl rfl) rfl rfl ?_
    refine at_do (does_assign rfl) rfl rfl ?_
    refine at_nil ?_
    refine at_then ?_
    refine at_ret ?_
    refine at_ret1 rfl rfl rfl (fun w9 ho9 => ?_)
    rotate_left
    all_goals exact ⟨rfl, ho9.plain⟩
  · refine at_seq ?_
    refine at_region ?_
    refine at_do (does_assign rfl) rfl rfl ?_
    refine at_nil ?_
    refine at_then ?_
    refine at_seq ?_
    refine at_region ?_
    refine at_do (does_move rfl) rfl rfl ?_
    refine at_callv (f := 40) (enters_fn (by kernel_rfl) rfl) (fun w ho => law_few _ w) rfl rfl ?_
    refine at_do (does_move rfl) rfl rfl ?_
    refine at_callv (f := 40) (enters_fn (by kernel_rfl) rfl) (fun w ho => law_few _ w) rfl rfl ?_
    refine at_do (does_move rfl) rfl rfl ?_
    refine at_callv (f := 40) (enters_fn (by kernel_rfl) rfl) (fun w ho => law_few _ w) rfl rfl ?_
    refine at_do (does_assign rfl) rfl rfl ?_
    refine at_do (does_assign rfl) rfl rfl ?_
    refine at_do (does_assign rfl) rfl rfl ?_
    refine at_nil ?_
    refine at_then ?_
    refine at_seq ?_
    refine at_region ?_
    refine at_do (does_move rfl) rfl rfl ?_
    refine at_callv (f := 49) (enters_fn (by kernel_rfl) rfl) (fun w ho => key_Range_t _ w (ho.glob hG id) (by omega) hka) rfl rfl ?_
    refine at_do (does_move rfl) rfl rfl ?_
    refine at_do (does_extract rfl rfl) rfl rfl ?_
    refine at_do (does_extract rfl rfl) rfl rfl ?_
    refine at_do (does_extract rfl rfl) rfl rfl ?_
    refine at_do (does_assign rfl) rfl rfl ?_
    refine at_do (does_assign rfl) rfl rfl ?_
    refine at_do (does_assign rfl) rfl rfl ?_
    refine at_nil ?_
    refine at_then ?_
    refine at_seq ?_
    refine at_seq ?_
    refine at_region ?_
    refine at_do (does_move rfl) rfl rfl ?_
    refine at_callv (f := 42) (enters_fn (by kernel_rfl) rfl) (fun w ho => ref_Pattern _ w (by omega)) rfl rfl ?_
    refine at_nil ?_
    refine at_then ?_
    refine at_cond_t rfl (by simp [*]) ?_
    refine at_seq ?_
    refine at_region ?_
    refine at_do (does_move rfl) rfl rfl ?_
    refine at_do (does_move rfl) rfl rfl ?_
    refine at_do (does_sneq rfl rfl) rfl rfl ?_
    refine at_do (does_move rfl) rfl rfl ?_
    refine at_know (t := 28) (d := false) rfl (decide_eq_false (by simp)) ?_
    refine at_on rfl rfl ?_
    refine at_do (does_move rfl) rfl rfl ?_
    refine at_on rfl rfl ?_
    refine at_do (does_move rfl) rfl rfl ?_
    refine at_on rfl rfl ?_
    refine at_callv (f := 50) (enters_fn (by kernel_rfl) rfl) (fun w ho => ref_End _ w (by omega)) rfl rfl ?_
    refine at_on rfl rfl ?_
    refine at_do (does_sneq rfl rfl) rfl rfl ?_
    refine at_do (does_pick_false rfl rfl) rfl rfl ?_
    refine at_do (does_move rfl) rfl rfl ?_
    refine at_know (t := 34) (d := false) rfl (decide_eq_false (by simp)) ?_
    refine at_on rfl rfl ?_
    refine at_do (does_move rfl) rfl rfl ?_
    refine at_on rfl rfl ?_
    refine at_do (does_neq rfl rfl) rfl rfl ?_
    refine at_do (does_pick_false rfl rfl) rfl rfl ?_
    refine at_nil ?_
    refine at_then ?_
    refine at_cond_f rfl (decide_eq_false (by simp)) ?_
    refine at_skip ?_
    refine at_then ?_
    refine at_seq ?_
    refine at_region ?_
    refine at_do (does_assign rfl) rfl rfl ?_
    refine at_nil ?_
    refine at_then ?_
    refine at_seq ?_
    refine at_seq ?_
    refine at_region ?_
    refine at_do (does_move rfl) rfl rfl ?_
    refine at_callv (f := 41) (enters_fn (by kernel_rfl) rfl) (fun w ho => ref_Is _ w (by omega)) rfl rfl ?_
    refine at_nil ?_
    refine at_then ?_
    refine at_cond rfl (fun z0 => ?_) (fun z0 => ?_)
    refine at_region ?_
    refine at_do (does_move rfl) rfl rfl ?_
    refine at_do (does_sadd (m := [0]) rfl rfl (by simp; omega)) rfl rfl ?_
    refine at_do (does_assign rfl) rfl rfl ?_
    refine at_nil ?_
    refine at_then ?_
    refine at_seq ?_
    refine at_region ?_
    refine at_do (does_move rfl) rfl rfl ?_
    refine at_do (does_move rfl) rfl rfl ?_
    refine at_do (does_move rfl) rfl rfl ?_
    refine at_callv (f := 51) (enters_fn (by kernel_rfl) rfl) (fun w ho => key_In _ _ _ w (ho.glob hG id)) rfl rfl ?_
    refine at_do (does_move rfl) rfl rfl ?_
    refine at_do (does_move rfl) rfl rfl ?_
    refine at_do (does_move rfl) rfl rfl ?_
    refine at_callv (f := 52) (enters_fn (by kernel_rfl) rfl) (fun w ho => ref_In _ _ _ w (by omega) (by omega) (by omega)) rfl rfl ?_
    refine at_do (does_beql (by kernel_rfl) rfl rfl) rfl rfl ?_
    refine at_do (does_move rfl) rfl rfl ?_
    refine at_know (t := 61) (d := true) rfl (by simp) ?_
    refine at_on rfl rfl ?_
    refine at_do (does_move rfl) rfl rfl ?_
    refine at_on rfl rfl ?_
    refine at_callv (f := 53) (enters_fn (by kernel_rfl) rfl) (fun w ho => key_After _ w (ho.glob hG id) (by omega)) rfl rfl ?_
    refine at_on rfl rfl ?_
    refine at_do (does_move rfl) rfl rfl ?_
    refine at_on rfl rfl ?_
    refine at_do (does_seql rfl rfl) rfl rfl ?_
    refine at_do (does_pick_true rfl rfl) rfl rfl ?_
    refine at_do (does_move rfl) rfl rfl ?_
    refine at_know (t := 67) (d := true) rfl (decide_eq_true (by simp [*])) ?_
    refine at_on rfl rfl ?_
    refine at_callv (f := 48) (enters_fn (by kernel_rfl) rfl) (fun w ho => law_awake w (ho.glob hG id) (ho.maxl hM id)) rfl rfl ?_
    refine at_do (does_pick_true rfl rfl) rfl rfl ?_
    refine at_do (does_assign rfl) rfl rfl ?_
    refine at_nil ?_
    refine at_then ?_
    refine at_ret ?_
    refine at_ret1 rfl rfl rfl (fun w9 ho9 => ?_)
    rotate_left
    refine at_skip ?_
    refine at_then ?_
    refine at_seq ?_
    refine at_region ?_
    refine at_do (does_move rfl) rfl rfl ?_
    refine at_do (does_move rfl) rfl rfl ?_
    refine at_do (does_move rfl) rfl rfl ?_
    refine at_callv (f := 51) (enters_fn (by kernel_rfl) rfl) (fun w ho => key_In _ _ _ w (ho.glob hG id)) rfl rfl ?_
    refine at_do (does_move rfl) rfl rfl ?_
    refine at_do (does_move rfl) rfl rfl ?_
    refine at_do (does_move rfl) rfl rfl ?_
    refine at_callv (f := 52) (enters_fn (by kernel_rfl) rfl) (fun w ho => ref_In _ _ _ w (by omega) (by omega) (by omega)) rfl rfl ?_
    refine at_do (does_beql (by kernel_rfl) rfl rfl) rfl rfl ?_
    refine at_do (does_move rfl) rfl rfl ?_
    refine at_know (t := 61) (d := true) rfl (by simp) ?_
    refine at_on rfl rfl ?_
    refine at_do (does_move rfl) rfl rfl ?_
    refine at_on rfl rfl ?_
    refine at_callv (f := 53) (enters_fn (by kernel_rfl) rfl) (fun w ho => key_After _ w (ho.glob hG id) (by omega)) rfl rfl ?_
    refine at_on rfl rfl ?_
    refine at_do (does_move rfl) rfl rfl ?_
    refine at_on rfl rfl ?_
    refine at_do (does_seql rfl rfl) rfl rfl ?_
    refine at_do (does_pick_true rfl rfl) rfl rfl ?_
    refine at_do (does_move rfl) rfl rfl ?_
    refine at_know (t := 67) (d := true) rfl (decide_eq_true (by simp [*])) ?_
    refine at_on rfl rfl ?_
    refine at_callv (f := 48) (enters_fn (by kernel_rfl) rfl) (fun w ho => law_awake w (ho.glob hG id) (ho.maxl hM id)) rfl rfl ?_
    refine at_do (does_pick_true rfl rfl) rfl rfl ?_
    refine at_do (does_assign rfl) rfl rfl ?_
    refine at_nil ?_
    refine at_then ?_
    refine at_ret ?_
    refine at_ret1 rfl rfl rfl (fun w9 ho9 => ?_)
    rotate_left
    all_goals exact ⟨rfl, ho9.plain⟩
set_option maxRecDepth 100000 in
theorem law_KeyMeets (a b t : List UInt8) (w : World) (hG : Glob w) (hM : Maxl w) : Calls Tryd.prog 10 #[.string (bs a), .string (bs b), .string (bs t)] w fun e w' => e = .returned (.bool true) ∧ Below w.heap.size w w' := by
  refine calls_plain Tryd.func10 rfl Tryd.ntmps10 rfl ?_
  have hk := take60 a
  have ha := take60 b
  have hb := take60 t
  refine at_seq ?_
  refine at_region ?_
  refine at_do (does_assign rfl) rfl rfl ?_
  refine at_nil ?_
  refine at_then ?_
  refine at_seq ?_
  refine at_region ?_
  refine at_do (does_move rfl) rfl rfl ?_
  refine at_callv (f := 40) (enters_fn (by kernel_rfl) rfl) (fun w ho => law_few _ w) rfl rfl ?_
  refine at_do (does_move rfl) rfl rfl ?_
  refine at_callv (f := 40) (enters_fn (by kernel_rfl) rfl) (fun w ho => law_few _ w) rfl rfl ?_
  refine at_do (does_move rfl) rfl rfl ?_
  refine at_callv (f := 40) (enters_fn (by kernel_rfl) rfl) (fun w ho => law_few _ w) rfl rfl ?_
  refine at_do (does_assign rfl) rfl rfl ?_
  refine at_do (does_assign rfl) rfl rfl ?_
  refine at_do (does_assign rfl) rfl rfl ?_
  refine at_nil ?_
  refine at_then ?_
  refine at_seq ?_
  refine at_region ?_
  refine at_do (does_move rfl) rfl rfl ?_
  refine at_callv (f := 42) (enters_fn (by kernel_rfl) rfl) (fun w ho => ref_Pattern _ w (by omega)) rfl rfl ?_
  refine at_do (does_move rfl) rfl rfl ?_
  refine at_guard rfl rfl (fun z0 => ?_) (fun z0 => ?_)
  refine at_on rfl rfl ?_
  refine at_do (does_move rfl) rfl rfl ?_
  refine at_on rfl rfl ?_
  refine at_callv (f := 42) (enters_fn (by kernel_rfl) rfl) (fun w ho => ref_Pattern _ w (by omega)) rfl rfl ?_
  refine at_do (does_pick_true rfl rfl) rfl rfl ?_
  refine at_do (does_move rfl) rfl rfl ?_
  refine at_guard rfl rfl (fun z1 => ?_) (fun z1 => ?_)
  refine at_on rfl rfl ?_
  refine at_do (does_move rfl) rfl rfl ?_
  refine at_on rfl rfl ?_
  refine at_do (does_move rfl) rfl rfl ?_
  refine at_on rfl rfl ?_
  refine at_callv (f := 43) (enters_fn (by kernel_rfl) rfl) (fun w ho => ref_Begins _ _ w) rfl rfl ?_
  refine at_on rfl rfl ?_
  refine at_do (does_move rfl) rfl rfl ?_
  refine at_guard rfl rfl (fun z2 => ?_) (fun z2 => ?_)
  refine at_no rfl rfl rfl rfl ?_
  refine at_no rfl rfl rfl rfl ?_
  refine at_no rfl rfl rfl rfl ?_
  refine at_on rfl rfl ?_
  refine at_do (does_pick_true rfl rfl) rfl rfl ?_
  refine at_do (does_pick_true rfl rfl) rfl rfl ?_
  refine at_do (does_assign rfl) rfl rfl ?_
  refine at_nil ?_
  refine at_then ?_
  refine at_seq ?_
  refine at_region ?_
  refine at_do (does_move rfl) rfl rfl ?_
  refine at_do (does_move rfl) rfl rfl ?_
  refine at_callv (f := 54) (enters_fn (by kernel_rfl) rfl) (fun w ho => key_Meet _ _ w (ho.glob hG id)) rfl rfl ?_
  refine at_do (does_move rfl) rfl rfl ?_
  refine at_do (does_beql (by kernel_rfl) rfl rfl) rfl rfl ?_
  refine at_do (does_move rfl) rfl rfl ?_
  refine at_know (t := 35) (d := true) rfl (by simp [*]) ?_
  refine at_on rfl rfl ?_
  refine at_do (does_move rfl) rfl rfl ?_
  refine at_on rfl rfl ?_
  refine at_do (does_move rfl) rfl rfl ?_
  refine at_on rfl rfl ?_
  refine at_callv (f := 54) (enters_fn (by kernel_rfl) rfl) (fun w ho => key_Meet _ _ w (ho.glob hG id)) rfl rfl ?_
  refine at_on rfl rfl ?_
  refine at_do (does_move rfl) rfl rfl ?_
  refine at_on rfl rfl ?_
  refine at_do (does_beql (by kernel_rfl) rfl rfl) rfl rfl ?_
  refine at_do (does_pick_true rfl rfl) rfl rfl ?_
  refine at_do (does_move rfl) rfl rfl ?_
  refine at_know (t := 42) (d := true) rfl (by simp [*]) ?_
  refine at_on rfl rfl ?_
  refine at_do (does_move rfl) rfl rfl ?_
  refine at_on rfl rfl ?_
  refine at_do (does_move rfl) rfl rfl ?_
  refine at_on rfl rfl ?_
  refine at_do (does_move rfl) rfl rfl ?_
  refine at_on rfl rfl ?_
  refine at_callv (f := 55) (enters_fn (by kernel_rfl) rfl) (fun w ho => key_Overlap _ _ _ w (ho.glob hG id) (by omega) (by omega)) rfl rfl ?_
  refine at_on rfl rfl ?_
  refine at_do (does_move rfl) rfl rfl ?_
  refine at_on rfl rfl ?_
  refine at_do (does_move rfl) rfl rfl ?_
  refine at_on rfl rfl ?_
  refine at_do (does_move rfl) rfl rfl ?_
  refine at_on rfl rfl ?_
  refine at_callv (f := 56) (enters_fn (by kernel_rfl) rfl) (fun w ho => ref_Overlap _ _ _ w (by omega) (by omega) (by omega)) rfl rfl ?_
  refine at_on rfl rfl ?_
  refine at_do (does_beql (by kernel_rfl) rfl rfl) rfl rfl ?_
  refine at_do (does_pick_true rfl rfl) rfl rfl ?_
  refine at_do (does_move rfl) rfl rfl ?_
  refine at_know (t := 53) (d := true) rfl (by simp) ?_
  refine at_on rfl rfl ?_
  refine at_callv (f := 48) (enters_fn (by kernel_rfl) rfl) (fun w ho => law_awake w (ho.glob hG id) (ho.maxl hM id)) rfl rfl ?_
  refine at_do (does_pick_true rfl rfl) rfl rfl ?_
  refine at_do (does_assign rfl) rfl rfl ?_
  refine at_nil ?_
  refine at_then ?_
  refine at_ret ?_
  refine at_ret1 rfl rfl rfl (fun w9 ho9 => ?_)
  rotate_left
  refine at_on rfl rfl ?_
  refine at_do (does_move rfl) rfl rfl ?_
  refine at_on rfl rfl ?_
  refine at_do (does_move rfl) rfl rfl ?_
  refine at_on rfl rfl ?_
  refine at_callv (f := 43) (enters_fn (by kernel_rfl) rfl) (fun w ho => ref_Begins _ _ w) rfl rfl ?_
  refine at_on rfl rfl ?_
  refine at_do (does_pick_false rfl rfl) rfl rfl ?_
  refine at_do (does_pick_true rfl rfl) rfl rfl ?_
  refine at_do (does_assign rfl) rfl rfl ?_
  refine at_nil ?_
  refine at_then ?_
  refine at_seq ?_
  refine at_region ?_
  refine at_do (does_move rfl) rfl rfl ?_
  refine at_do (does_move rfl) rfl rfl ?_
  refine at_callv (f := 54) (enters_fn (by kernel_rfl) rfl) (fun w ho => key_Meet _ _ w (ho.glob hG id)) rfl rfl ?_
  refine at_do (does_move rfl) rfl rfl ?_
  refine at_do (does_beql (by kernel_rfl) rfl rfl) rfl rfl ?_
  refine at_do (does_move rfl) rfl rfl ?_
  refine at_know (t := 35) (d := true) rfl (by simp [*]) ?_
  refine at_on rfl rfl ?_
  refine at_do (does_move rfl) rfl rfl ?_
  refine at_on rfl rfl ?_
  refine at_do (does_move rfl) rfl rfl ?_
  refine at_on rfl rfl ?_
  refine at_callv (f := 54) (enters_fn (by kernel_rfl) rfl) (fun w ho => key_Meet _ _ w (ho.glob hG id)) rfl rfl ?_
  refine at_on rfl rfl ?_
  refine at_do (does_move rfl) rfl rfl ?_
  refine at_on rfl rfl ?_
  refine at_do (does_beql (by kernel_rfl) rfl rfl) rfl rfl ?_
  refine at_do (does_pick_true rfl rfl) rfl rfl ?_
  refine at_do (does_move rfl) rfl rfl ?_
  refine at_know (t := 42) (d := true) rfl (by simp [*]) ?_
  refine at_on rfl rfl ?_
  refine at_do (does_move rfl) rfl rfl ?_
  refine at_on rfl rfl ?_
  refine at_do (does_move rfl) rfl rfl ?_
  refine at_on rfl rfl ?_
  refine at_do (does_move rfl) rfl rfl ?_
  refine at_on rfl rfl ?_
  refine at_callv (f := 55) (enters_fn (by kernel_rfl) rfl) (fun w ho => key_Overlap _ _ _ w (ho.glob hG id) (by omega) (by omega)) rfl rfl ?_
  refine at_on rfl rfl ?_
  refine at_do (does_move rfl) rfl rfl ?_
  refine at_on rfl rfl ?_
  refine at_do (does_move rfl) rfl rfl ?_
  refine at_on rfl rfl ?_
  refine at_do (does_move rfl) rfl rfl ?_
  refine at_on rfl rfl ?_
  refine at_callv (f := 56) (enters_fn (by kernel_rfl) rfl) (fun w ho => ref_Overlap _ _ _ w (by omega) (by omega) (by omega)) rfl rfl ?_
  refine at_on rfl rfl ?_
  refine at_do (does_beql (by kernel_rfl) rfl rfl) rfl rfl ?_
  refine at_do (does_pick_true rfl rfl) rfl rfl ?_
  refine at_do (does_move rfl) rfl rfl ?_
  refine at_know (t := 53) (d := true) rfl (by simp) ?_
  refine at_on rfl rfl ?_
  refine at_callv (f := 48) (enters_fn (by kernel_rfl) rfl) (fun w ho => law_awake w (ho.glob hG id) (ho.maxl hM id)) rfl rfl ?_
  refine at_do (does_pick_true rfl rfl) rfl rfl ?_
  refine at_do (does_assign rfl) rfl rfl ?_
  refine at_nil ?_
  refine at_then ?_
  refine at_ret ?_
  refine at_ret1 rfl rfl rfl (fun w9 ho9 => ?_)
  rotate_left
  refine at_no rfl rfl rfl rfl ?_
  refine at_no rfl rfl rfl rfl ?_
  refine at_no rfl rfl rfl rfl ?_
  refine at_no rfl rfl rfl rfl ?_
  refine at_no rfl rfl rfl rfl ?_
  refine at_no rfl rfl rfl rfl ?_
  refine at_no rfl rfl rfl rfl ?_
  refine at_no rfl rfl rfl rfl ?_
  refine at_do (does_pick_false rfl rfl) rfl rfl ?_
  refine at_do (does_assign rfl) rfl rfl ?_
  refine at_nil ?_
  refine at_then ?_
  refine at_seq ?_
  refine at_region ?_
  refine at_do (does_move rfl) rfl rfl ?_
  refine at_do (does_move rfl) rfl rfl ?_
  refine at_callv (f := 54) (enters_fn (by kernel_rfl) rfl) (fun w ho => key_Meet _ _ w (ho.glob hG id)) rfl rfl ?_
  refine at_do (does_move rfl) rfl rfl ?_
  refine at_do (does_beql (by kernel_rfl) rfl rfl) rfl rfl ?_
  refine at_do (does_move rfl) rfl rfl ?_
  refine at_know (t := 35) (d := true) rfl (by simp [*]) ?_
  refine at_on rfl rfl ?_
  refine at_do (does_move rfl) rfl rfl ?_
  refine at_on rfl rfl ?_
  refine at_do (does_move rfl) rfl rfl ?_
  refine at_on rfl rfl ?_
  refine at_callv (f := 54) (enters_fn (by kernel_rfl) rfl) (fun w ho => key_Meet _ _ w (ho.glob hG id)) rfl rfl ?_
  refine at_on rfl rfl ?_
  refine at_do (does_move rfl) rfl rfl ?_
  refine at_on rfl rfl ?_
  refine at_do (does_beql (by kernel_rfl) rfl rfl) rfl rfl ?_
  refine at_do (does_pick_true rfl rfl) rfl rfl ?_
  refine at_do (does_move rfl) rfl rfl ?_
  refine at_know (t := 42) (d := true) rfl (by simp [*]) ?_
  refine at_on rfl rfl ?_
  refine at_do (does_move rfl) rfl rfl ?_
  refine at_on rfl rfl ?_
  refine at_do (does_move rfl) rfl rfl ?_
  refine at_on rfl rfl ?_
  refine at_do (does_move rfl) rfl rfl ?_
  refine at_on rfl rfl ?_
  refine at_callv (f := 55) (enters_fn (by kernel_rfl) rfl) (fun w ho => key_Overlap _ _ _ w (ho.glob hG id) (by omega) (by omega)) rfl rfl ?_
  refine at_on rfl rfl ?_
  refine at_do (does_move rfl) rfl rfl ?_
  refine at_on rfl rfl ?_
  refine at_do (does_move rfl) rfl rfl ?_
  refine at_on rfl rfl ?_
  refine at_do (does_move rfl) rfl rfl ?_
  refine at_on rfl rfl ?_
  refine at_callv (f := 56) (enters_fn (by kernel_rfl) rfl) (fun w ho => ref_Overlap _ _ _ w (by omega) (by omega) (by omega)) rfl rfl ?_
  refine at_on rfl rfl ?_
  refine at_do (does_beql (by kernel_rfl) rfl rfl) rfl rfl ?_
  refine at_do (does_pick_true rfl rfl) rfl rfl ?_
  refine at_do (does_move rfl) rfl rfl ?_
  refine at_know (t := 53) (d := true) rfl (by simp) ?_
  refine at_on rfl rfl ?_
  refine at_callv (f := 48) (enters_fn (by kernel_rfl) rfl) (fun w ho => law_awake w (ho.glob hG id) (ho.maxl hM id)) rfl rfl ?_
  refine at_do (does_pick_true rfl rfl) rfl rfl ?_
  refine at_do (does_assign rfl) rfl rfl ?_
  refine at_nil ?_
  refine at_then ?_
  refine at_ret ?_
  refine at_ret1 rfl rfl rfl (fun w9 ho9 => ?_)
  rotate_left
  refine at_no rfl rfl rfl rfl ?_
  refine at_no rfl rfl rfl rfl ?_
  refine at_do (does_pick_false rfl rfl) rfl rfl ?_
  refine at_do (does_move rfl) rfl rfl ?_
  refine at_no rfl rfl rfl rfl ?_
  refine at_no rfl rfl rfl rfl ?_
  refine at_no rfl rfl rfl rfl ?_
  refine at_no rfl rfl rfl rfl ?_
  refine at_no rfl rfl rfl rfl ?_
  refine at_no rfl rfl rfl rfl ?_
  refine at_no rfl rfl rfl rfl ?_
  refine at_no rfl rfl rfl rfl ?_
  refine at_do (does_pick_false rfl rfl) rfl rfl ?_
  refine at_do (does_assign rfl) rfl rfl ?_
  refine at_nil ?_
  refine at_then ?_
  refine at_seq ?_
  refine at_region ?_
  refine at_do (does_move rfl) rfl rfl ?_
  refine at_do (does_move rfl) rfl rfl ?_
  refine at_callv (f := 54) (enters_fn (by kernel_rfl) rfl) (fun w ho => key_Meet _ _ w (ho.glob hG id)) rfl rfl ?_
  refine at_do (does_move rfl) rfl rfl ?_
  refine at_do (does_beql (by kernel_rfl) rfl rfl) rfl rfl ?_
  refine at_do (does_move rfl) rfl rfl ?_
  refine at_know (t := 35) (d := true) rfl (by simp [*]) ?_
  refine at_on rfl rfl ?_
  refine at_do (does_move rfl) rfl rfl ?_
  refine at_on rfl rfl ?_
  refine at_do (does_move rfl) rfl rfl ?_
  refine at_on rfl rfl ?_
  refine at_callv (f := 54) (enters_fn (by kernel_rfl) rfl) (fun w ho => key_Meet _ _ w (ho.glob hG id)) rfl rfl ?_
  refine at_on rfl rfl ?_
  refine at_do (does_move rfl) rfl rfl ?_
  refine at_on rfl rfl ?_
  refine at_do (does_beql (by kernel_rfl) rfl rfl) rfl rfl ?_
  refine at_do (does_pick_true rfl rfl) rfl rfl ?_
  refine at_do (does_move rfl) rfl rfl ?_
  refine at_know (t := 42) (d := true) rfl (by simp [*]) ?_
  refine at_on rfl rfl ?_
  refine at_do (does_move rfl) rfl rfl ?_
  refine at_on rfl rfl ?_
  refine at_do (does_move rfl) rfl rfl ?_
  refine at_on rfl rfl ?_
  refine at_do (does_move rfl) rfl rfl ?_
  refine at_on rfl rfl ?_
  refine at_callv (f := 55) (enters_fn (by kernel_rfl) rfl) (fun w ho => key_Overlap _ _ _ w (ho.glob hG id) (by omega) (by omega)) rfl rfl ?_
  refine at_on rfl rfl ?_
  refine at_do (does_move rfl) rfl rfl ?_
  refine at_on rfl rfl ?_
  refine at_do (does_move rfl) rfl rfl ?_
  refine at_on rfl rfl ?_
  refine at_do (does_move rfl) rfl rfl ?_
  refine at_on rfl rfl ?_
  refine at_callv (f := 56) (enters_fn (by kernel_rfl) rfl) (fun w ho => ref_Overlap _ _ _ w (by omega) (by omega) (by omega)) rfl rfl ?_
  refine at_on rfl rfl ?_
  refine at_do (does_beql (by kernel_rfl) rfl rfl) rfl rfl ?_
  refine at_do (does_pick_true rfl rfl) rfl rfl ?_
  refine at_do (does_move rfl) rfl rfl ?_
  refine at_know (t := 53) (d := true) rfl (by simp) ?_
  refine at_on rfl rfl ?_
  refine at_callv (f := 48) (enters_fn (by kernel_rfl) rfl) (fun w ho => law_awake w (ho.glob hG id) (ho.maxl hM id)) rfl rfl ?_
  refine at_do (does_pick_true rfl rfl) rfl rfl ?_
  refine at_do (does_assign rfl) rfl rfl ?_
  refine at_nil ?_
  refine at_then ?_
  refine at_ret ?_
  refine at_ret1 rfl rfl rfl (fun w9 ho9 => ?_)
  rotate_left
  all_goals exact ⟨rfl, ho9.plain⟩
set_option maxRecDepth 100000 in
theorem law_KeyUnder (k a b f t : List UInt8) (w : World) (hG : Glob w) (hM : Maxl w) : Calls Tryd.prog 11 #[.agg #[.string (bs k), .string (bs a), .string (bs b), .string (bs f), .string (bs t)]] w fun e w' => e = .returned (.bool true) ∧ Below w.heap.size w w' := by
  refine calls_plain Tryd.func11 rfl Tryd.ntmps11 rfl ?_
  have hk := take60 k
  have ha := take60 a
  have hb := take60 b
  have hf := take60 f
  have ht := take60 t
  have q1 := under_meet (k := k.take 60) (a := a.take 60) (b := b.take 60)
  have hu : under (k.take 60) (a.take 60) = (isK (k.take 60) && keyOk (a.take 60) && beg (k.take 60) (a.take 60)) := rfl
  have q2 := under_over (k := k.take 60) (a := a.take 60) (f := f.take 60) (t := t.take 60)
  cases hka : keyOk (a.take 60)
  · refine at_seq ?_
    refine at_region ?_
    refine at_boxagg rfl rfl fun gz0 => ?_
    refine at_do (does_assign rfl) rfl rfl ?_
    refine at_nil ?_
    refine at_then ?_
    refine at_seq ?_
    refine at_draw (by kernel_rfl) (by kernel_rfl) ?_
    refine atq_do (does_fieldAddr (o := 0) (by kernel_rfl) rfl) rfl rfl ?_
    refine atq_do (does_load (i := 0) (by kernel_rfl) rfl rfl rfl) rfl rfl ?_
    refine atq_callv (f := 40) (enters_fn (by kernel_rfl) rfl) (fun w ho => law_few _ w) rfl rfl ?_
    refine atq_do (does_fieldAddr (o := 1) (by kernel_rfl) rfl) rfl rfl ?_
    refine atq_do (does_load (i := 0) (by kernel_rfl) rfl rfl rfl) rfl rfl ?_
    refine atq_callv (f := 40) (enters_fn (by kernel_rfl) rfl) (fun w ho => law_few _ w) rfl rfl ?_
    refine atq_do (does_fieldAddr (o := 2) (by kernel_rfl) rfl) rfl rfl ?_
    refine atq_do (does_load (i := 0) (by kernel_rfl) rfl rfl rfl) rfl rfl ?_
    refine atq_callv (f := 40) (enters_fn (by kernel_rfl) rfl) (fun w ho => law_few _ w) rfl rfl ?_
    refine atq_do (does_fieldAddr (o := 3) (by kernel_rfl) rfl) rfl rfl ?_
    refine atq_do (does_load (i := 0) (by kernel_rfl) rfl rfl rfl) rfl rfl ?_
    refine atq_callv (f := 40) (enters_fn (by kernel_rfl) rfl) (fun w ho => law_few _ w) rfl rfl ?_
    refine atq_do (does_fieldAddr (o := 4) (by kernel_rfl) rfl) rfl rfl ?_
    refine atq_do (does_load (i := 0) (by kernel_rfl) rfl rfl rfl) rfl rfl ?_
    refine atq_callv (f := 40) (enters_fn (by kernel_rfl) rfl) (fun w ho => law_few _ w) rfl rfl ?_
    refine atq_do (does_assign rfl) rfl rfl ?_
    refine atq_do (does_assign rfl) rfl rfl ?_
    refine atq_do (does_assign rfl) rfl rfl ?_
    refine atq_do (does_assign rfl) rfl rfl ?_
    refine atq_do (does_assign rfl) rfl rfl ?_
    refine atq_nil ?_
    refine at_then ?_
    refine at_seq ?_
    refine at_region ?_
    refine at_do (does_move rfl) rfl rfl ?_
    refine at_callv (f := 49) (enters_fn (by kernel_rfl) rfl) (fun w ho => key_Range_f _ w (ho.glob hG id) (by omega) hka) rfl rfl ?_
    refine at_do (does_move rfl) rfl rfl ?_
    refine at_do (does_extract rfl rfl) rfl rfl ?_
    refine at_do (does_extract rfl rfl) rfl rfl ?_
    refine at_do (does_extract rfl rfl) rfl rfl ?_
    refine at_do (does_assign rfl) rfl rfl ?_
    refine at_do (does_assign rfl) rfl rfl ?_
    refine at_do (does_assign rfl) rfl rfl ?_
    refine at_nil ?_
    refine at_then ?_
    refine at_seq ?_
    refine at_seq ?_
    refine at_region ?_
    refine at_do (does_move rfl) rfl rfl ?_
    refine at_do (does_eql rfl rfl) rfl rfl ?_
    refine at_do (does_move rfl) rfl rfl ?_
    refine at_know (t := 35) (d := false) rfl (decide_eq_false (by simp)) ?_
    refine at_no rfl rfl rfl rfl ?_
    refine at_no rfl rfl rfl rfl ?_
    refine at_do (does_pick_false rfl rfl) rfl rfl ?_
    refine at_nil ?_
    refine at_then ?_
    refine at_cond_false rfl ?_
    refine at_skip ?_
    refine at_then ?_
    refine at_seq ?_
    refine at_seq ?_
    refine at_region ?_
    refine at_do (does_move rfl) rfl rfl ?_
    refine at_do (does_move rfl) rfl rfl ?_
    refine at_callv (f := 46) (enters_fn (by kernel_rfl) rfl) (fun w ho => key_Under _ _ w (ho.glob hG id)) rfl rfl ?_
    refine at_do (does_move rfl) rfl rfl ?_
    refine at_know (t := 59) (d := false) rfl (by simp [*]) ?_
    refine at_no rfl rfl rfl rfl ?_
    refine at_no rfl rfl rfl rfl ?_
    refine at_no rfl rfl rfl rfl ?_
    refine at_do (does_pick_false rfl rfl) rfl rfl ?_
    refine at_do (does_move rfl) rfl rfl ?_
    refine at_no rfl rfl rfl rfl ?_
    refine at_no rfl rfl rfl rfl ?_
    refine at_no rfl rfl rfl rfl ?_
    refine at_no rfl rfl rfl rfl ?_
    refine at_do (does_pick_false rfl rfl) rfl rfl ?_
    refine at_nil ?_
    refine at_then ?_
    refine at_cond_false rfl ?_
    refine at_skip ?_
    refine at_then ?_
    refine at_seq ?_
    refine at_region ?_
    refine at_do (does_move rfl) rfl rfl ?_
    refine at_do (does_move rfl) rfl rfl ?_
    refine at_callv (f := 46) (enters_fn (by kernel_rfl) rfl) (fun w ho => key_Under _ _ w (ho.glob hG id)) rfl rfl ?_
    refine at_do (does_not rfl) rfl rfl ?_
    refine at_do (does_move rfl) rfl rfl ?_
    refine at_know (t := 74) (d := true) rfl (by simp [*]) ?_
    refine at_no rfl rfl rfl rfl ?_
    refine at_no rfl rfl rfl rfl ?_
    refine at_no rfl rfl rfl rfl ?_
    refine at_no rfl rfl rfl rfl ?_
    refine at_no rfl rfl rfl rfl ?_
    refine at_do (does_pick_true rfl rfl) rfl rfl ?_
    refine at_do (does_move rfl) rfl rfl ?_
    refine at_no rfl rfl rfl rfl ?_
    refine at_no rfl rfl rfl rfl ?_
    refine at_no rfl rfl rfl rfl ?_
    refine at_no rfl rfl rfl rfl ?_
    refine at_do (does_pick_true rfl rfl) rfl rfl ?_
    refine at_do (does_move rfl) rfl rfl ?_
    refine at_on rfl rfl ?_
    refine at_callv (f := 48) (enters_fn (by kernel_rfl) rfl) (fun w ho => law_awake w (ho.glob hG id) (ho.maxl hM id)) rfl rfl ?_
    refine at_do (does_pick_true rfl rfl) rfl rfl ?_
    refine at_do (does_assign rfl) rfl rfl ?_
    refine at_nil ?_
    refine at_then ?_
    refine at_ret ?_
    refine at_ret1 rfl rfl rfl (fun w9 ho9 => ?_)
    rotate_left
    all_goals exact ⟨rfl, ho9.plain⟩
  · have q3 := beg_range (k := k.take 60) hka
    refine at_seq ?_
    refine at_region ?_
    refine at_boxagg rfl rfl fun gz0 => ?_
    refine at_do (does_assign rfl) rfl rfl ?_
    refine at_nil ?_
    refine at_then ?_
    refine at_seq ?_
    refine at_draw (by kernel_rfl) (by kernel_rfl) ?_
    refine atq_do (does_fieldAddr (o := 0) (by kernel_rfl) rfl) rfl rfl ?_
    refine atq_do (does_load (i := 0) (by kernel_rfl) rfl rfl rfl) rfl rfl ?_
    refine atq_callv (f := 40) (enters_fn (by kernel_rfl) rfl) (fun w ho => law_few _ w) rfl rfl ?_
    refine atq_do (does_fieldAddr (o := 1) (by kernel_rfl) rfl) rfl rfl ?_
    refine atq_do (does_load (i := 0) (by kernel_rfl) rfl rfl rfl) rfl rfl ?_
    refine atq_callv (f := 40) (enters_fn (by kernel_rfl) rfl) (fun w ho => law_few _ w) rfl rfl ?_
    refine atq_do (does_fieldAddr (o := 2) (by kernel_rfl) rfl) rfl rfl ?_
    refine atq_do (does_load (i := 0) (by kernel_rfl) rfl rfl rfl) rfl rfl ?_
    refine atq_callv (f := 40) (enters_fn (by kernel_rfl) rfl) (fun w ho => law_few _ w) rfl rfl ?_
    refine atq_do (does_fieldAddr (o := 3) (by kernel_rfl) rfl) rfl rfl ?_
    refine atq_do (does_load (i := 0) (by kernel_rfl) rfl rfl rfl) rfl rfl ?_
    refine atq_callv (f := 40) (enters_fn (by kernel_rfl) rfl) (fun w ho => law_few _ w) rfl rfl ?_
    refine atq_do (does_fieldAddr (o := 4) (by kernel_rfl) rfl) rfl rfl ?_
    refine atq_do (does_load (i := 0) (by kernel_rfl) rfl rfl rfl) rfl rfl ?_
    refine atq_callv (f := 40) (enters_fn (by kernel_rfl) rfl) (fun w ho => law_few _ w) rfl rfl ?_
    refine atq_do (does_assign rfl) rfl rfl ?_
    refine atq_do (does_assign rfl) rfl rfl ?_
    refine atq_do (does_assign rfl) rfl rfl ?_
    refine atq_do (does_assign rfl) rfl rfl ?_
    refine atq_do (does_assign rfl) rfl rfl ?_
    refine atq_nil ?_
    refine at_then ?_
    refine at_seq ?_
    refine at_region ?_
    refine at_do (does_move rfl) rfl rfl ?_
    refine at_callv (f := 49) (enters_fn (by kernel_rfl) rfl) (fun w ho => key_Range_t _ w (ho.glob hG id) (by omega) hka) rfl rfl ?_
    refine at_do (does_move rfl) rfl rfl ?_
    refine at_do (does_extract rfl rfl) rfl rfl ?_
    refine at_do (does_extract rfl rfl) rfl rfl ?_
    refine at_do (does_extract rfl rfl) rfl rfl ?_
    refine at_do (does_assign rfl) rfl rfl ?_
    refine at_do (does_assign rfl) rfl rfl ?_
    refine at_do (does_assign rfl) rfl rfl ?_
    refine at_nil ?_
    refine at_then ?_
    refine at_seq ?_
    refine at_seq ?_
    refine at_region ?_
    refine at_do (does_move rfl) rfl rfl ?_
    refine at_do (does_eql rfl rfl) rfl rfl ?_
    refine at_do (does_move rfl) rfl rfl ?_
    refine at_know (t := 35) (d := true) rfl (decide_eq_true (by simp)) ?_
    refine at_on rfl rfl ?_
    refine at_do (does_move rfl) rfl rfl ?_
    refine at_on rfl rfl ?_
    refine at_callv (f := 44) (enters_fn (by kernel_rfl) rfl) (fun w ho => key_Is _ w (ho.glob hG id)) rfl rfl ?_
    refine at_do (does_pick_true rfl rfl) rfl rfl ?_
    refine at_nil ?_
    refine at_then ?_
    refine at_cond rfl (fun z1 => ?_) (fun z1 => ?_)
    refine at_seq ?_
    refine at_region ?_
    refine at_do (does_move rfl) rfl rfl ?_
    refine at_do (does_move rfl) rfl rfl ?_
    refine at_do (does_sgeq rfl rfl) rfl rfl ?_
    refine at_do (does_move rfl) rfl rfl ?_
    refine at_guardN rfl rfl (fun z2 => ?_) (fun z2 => ?_)
    refine at_on rfl rfl ?_
    refine at_do (does_move rfl) rfl rfl ?_
    refine at_on rfl rfl ?_
    refine at_do (does_seql rfl rfl) rfl rfl ?_
    refine at_on rfl rfl ?_
    refine at_do (does_move rfl) rfl rfl ?_
    refine at_guardD rfl rfl (fun z3 => ?_) (fun z3 => ?_)
    refine at_no rfl rfl rfl rfl ?_
    refine at_no rfl rfl rfl rfl ?_
    refine at_no rfl rfl rfl rfl ?_
    refine at_on rfl rfl ?_
    refine at_do (does_pick_true rfl rfl) rfl rfl ?_
    refine at_do (does_pick_true rfl rfl) rfl rfl ?_
    refine at_do (does_assign rfl) rfl rfl ?_
    refine at_nil ?_
    refine at_then ?_
    refine at_seq ?_
    refine at_region ?_
    refine at_do (does_move rfl) rfl rfl ?_
    refine at_do (does_move rfl) rfl rfl ?_
    refine at_do (does_move rfl) rfl rfl ?_
    refine at_callv (f := 46) (enters_fn (by kernel_rfl) rfl) (fun w ho => key_Under _ _ w (ho.glob hG id)) rfl rfl ?_
    refine at_do (does_bneq (by kernel_rfl) rfl rfl) rfl rfl ?_
    refine at_nil ?_
    refine at_then ?_
    refine at_cond_f rfl (by simp [*]) ?_
    refine at_skip ?_
    refine at_then ?_
    refine at_seq ?_
    refine at_seq ?_
    refine at_region ?_
    refine at_do (does_move rfl) rfl rfl ?_
    refine at_do (does_move rfl) rfl rfl ?_
    refine at_callv (f := 46) (enters_fn (by kernel_rfl) rfl) (fun w ho => key_Under _ _ w (ho.glob hG id)) rfl rfl ?_
    refine at_do (does_move rfl) rfl rfl ?_
    refine at_know (t := 59) (d := true) rfl (by simp [*]) ?_
    refine at_on rfl rfl ?_
    refine at_do (does_move rfl) rfl rfl ?_
    refine at_on rfl rfl ?_
    refine at_do (does_move rfl) rfl rfl ?_
    refine at_on rfl rfl ?_
    refine at_callv (f := 46) (enters_fn (by kernel_rfl) rfl) (fun w ho => key_Under _ _ w (ho.glob hG id)) rfl rfl ?_
    refine at_do (does_pick_true rfl rfl) rfl rfl ?_
    refine at_do (does_move rfl) rfl rfl ?_
    refine at_guard rfl rfl (fun z4 => ?_) (fun z4 => ?_)
    refine at_on rfl rfl ?_
    refine at_do (does_move rfl) rfl rfl ?_
    refine at_on rfl rfl ?_
    refine at_do (does_move rfl) rfl rfl ?_
    refine at_on rfl rfl ?_
    refine at_callv (f := 54) (enters_fn (by kernel_rfl) rfl) (fun w ho => key_Meet _ _ w (ho.glob hG id)) rfl rfl ?_
    refine at_on rfl rfl ?_
    refine at_do (does_not rfl) rfl rfl ?_
    refine at_do (does_pick_true rfl rfl) rfl rfl ?_
    refine at_nil ?_
    refine at_then ?_
    refine at_condN rfl (fun z5 => ?_) (fun z5 => ?_)
    refine at_seq ?_
    refine at_region ?_
    refine at_do (does_assign rfl) rfl rfl ?_
    refine at_nil ?_
    refine at_then ?_
    refine at_ret ?_
    refine at_then_ret ?_
    refine at_ret1 rfl rfl rfl (fun w9 ho9 => ?_)
    rotate_left
    refine at_skip ?_
    refine at_then ?_
    refine at_seq ?_
    refine at_region ?_
    refine at_do (does_move rfl) rfl rfl ?_
    refine at_do (does_move rfl) rfl rfl ?_
    refine at_callv (f := 46) (enters_fn (by kernel_rfl) rfl) (fun w ho => key_Under _ _ w (ho.glob hG id)) rfl rfl ?_
    refine at_do (does_not rfl) rfl rfl ?_
    refine at_do (does_move rfl) rfl rfl ?_
    refine at_know (t := 74) (d := false) rfl (by simp [*]) ?_
    refine at_on rfl rfl ?_
    refine at_do (does_move rfl) rfl rfl ?_
    refine at_on rfl rfl ?_
    refine at_do (does_move rfl) rfl rfl ?_
    refine at_on rfl rfl ?_
    refine at_do (does_move rfl) rfl rfl ?_
    refine at_on rfl rfl ?_
    refine at_callv (f := 51) (enters_fn (by kernel_rfl) rfl) (fun w ho => key_In _ _ _ w (ho.glob hG id)) rfl rfl ?_
    refine at_on rfl rfl ?_
    refine at_do (does_not rfl) rfl rfl ?_
    refine at_do (does_pick_false rfl rfl) rfl rfl ?_
    refine at_do (does_move rfl) rfl rfl ?_
    refine at_guardN rfl rfl (fun z6 => ?_) (fun z6 => ?_)
    refine at_no rfl rfl rfl rfl ?_
    refine at_no rfl rfl rfl rfl ?_
    refine at_no rfl rfl rfl rfl ?_
    refine at_no rfl rfl rfl rfl ?_
    refine at_do (does_pick_true rfl rfl) rfl rfl ?_
    refine at_do (does_move rfl) rfl rfl ?_
    refine at_on rfl rfl ?_
    refine at_callv (f := 48) (enters_fn (by kernel_rfl) rfl) (fun w ho => law_awake w (ho.glob hG id) (ho.maxl hM id)) rfl rfl ?_
    refine at_do (does_pick_true rfl rfl) rfl rfl ?_
    refine at_do (does_assign rfl) rfl rfl ?_
    refine at_nil ?_
    refine at_then ?_
    refine at_ret ?_
    refine at_ret1 rfl rfl rfl (fun w9 ho9 => ?_)
    rotate_left
    refine at_on rfl rfl ?_
    refine at_do (does_move rfl) rfl rfl ?_
    refine at_on rfl rfl ?_
    refine at_do (does_move rfl) rfl rfl ?_
    refine at_on rfl rfl ?_
    refine at_do (does_move rfl) rfl rfl ?_
    refine at_on rfl rfl ?_
    refine at_callv (f := 55) (enters_fn (by kernel_rfl) rfl) (fun w ho => key_Overlap _ _ _ w (ho.glob hG id) (by omega) (by omega)) rfl rfl ?_
    refine at_do (does_pick_false rfl rfl) rfl rfl ?_
    refine at_do (does_move rfl) rfl rfl ?_
    refine at_know (t := 87) (d := true) rfl (by simp [*]) ?_
    refine at_on rfl rfl ?_
    refine at_callv (f := 48) (enters_fn (by kernel_rfl) rfl) (fun w ho => law_awake w (ho.glob hG id) (ho.maxl hM id)) rfl rfl ?_
    refine at_do (does_pick_true rfl rfl) rfl rfl ?_
    refine at_do (does_assign rfl) rfl rfl ?_
    refine at_nil ?_
    refine at_then ?_
    refine at_ret ?_
    refine at_ret1 rfl rfl rfl (fun w9 ho9 => ?_)
    rotate_left
    refine at_no rfl rfl rfl rfl ?_
    refine at_no rfl rfl rfl rfl ?_
    refine at_no rfl rfl rfl rfl ?_
    refine at_no rfl rfl rfl rfl ?_
    refine at_do (does_pick_false rfl rfl) rfl rfl ?_
    refine at_nil ?_
    refine at_then ?_
    refine at_cond_false rfl ?_
    refine at_skip ?_
    refine at_then ?_
    refine at_seq ?_
    refine at_region ?_
    refine at_do (does_move rfl) rfl rfl ?_
    refine at_do (does_move rfl) rfl rfl ?_
    refine at_callv (f := 46) (enters_fn (by kernel_rfl) rfl) (fun w ho => key_Under _ _ w (ho.glob hG id)) rfl rfl ?_
    refine at_do (does_not rfl) rfl rfl ?_
    refine at_do (does_move rfl) rfl rfl ?_
    refine at_know (t := 74) (d := false) rfl (by simp [*]) ?_
    refine at_on rfl rfl ?_
    refine at_do (does_move rfl) rfl rfl ?_
    refine at_on rfl rfl ?_
    refine at_do (does_move rfl) rfl rfl ?_
    refine at_on rfl rfl ?_
    refine at_do (does_move rfl) rfl rfl ?_
    refine at_on rfl rfl ?_
    refine at_callv (f := 51) (enters_fn (by kernel_rfl) rfl) (fun w ho => key_In _ _ _ w (ho.glob hG id)) rfl rfl ?_
    refine at_on rfl rfl ?_
    refine at_do (does_not rfl) rfl rfl ?_
    refine at_do (does_pick_false rfl rfl) rfl rfl ?_
    refine at_do (does_move rfl) rfl rfl ?_
    refine at_guardN rfl rfl (fun z7 => ?_) (fun z7 => ?_)
    refine at_no rfl rfl rfl rfl ?_
    refine at_no rfl rfl rfl rfl ?_
    refine at_no rfl rfl rfl rfl ?_
    refine at_no rfl rfl rfl rfl ?_
    refine at_do (does_pick_true rfl rfl) rfl rfl ?_
    refine at_do (does_move rfl) rfl rfl ?_
    refine at_on rfl rfl ?_
    refine at_callv (f := 48) (enters_fn (by kernel_rfl) rfl) (fun w ho => law_awake w (ho.glob hG id) (ho.maxl hM id)) rfl rfl ?_
    refine at_do (does_pick_true rfl rfl) rfl rfl ?_
    refine at_do (does_assign rfl) rfl rfl ?_
    refine at_nil ?_
    refine at_then ?_
    refine at_ret ?_
    refine at_ret1 rfl rfl rfl (fun w9 ho9 => ?_)
    rotate_left
    refine at_on rfl rfl ?_
    refine at_do (does_move rfl) rfl rfl ?_
    refine at_on rfl rfl ?_
    refine at_do (does_move rfl) rfl rfl ?_
    refine at_on rfl rfl ?_
    refine at_do (does_move rfl) rfl rfl ?_
    refine at_on rfl rfl ?_
    refine at_callv (f := 55) (enters_fn (by kernel_rfl) rfl) (fun w ho => key_Overlap _ _ _ w (ho.glob hG id) (by omega) (by omega)) rfl rfl ?_
    refine at_do (does_pick_false rfl rfl) rfl rfl ?_
    refine at_do (does_move rfl) rfl rfl ?_
    refine at_know (t := 87) (d := true) rfl (by simp [*]) ?_
    refine at_on rfl rfl ?_
    refine at_callv (f := 48) (enters_fn (by kernel_rfl) rfl) (fun w ho => law_awake w (ho.glob hG id) (ho.maxl hM id)) rfl rfl ?_
    refine at_do (does_pick_true rfl rfl) rfl rfl ?_
    refine at_do (does_assign rfl) rfl rfl ?_
    refine at_nil ?_
    refine at_then ?_
    refine at_ret ?_
    refine at_ret1 rfl rfl rfl (fun w9 ho9 => ?_)
    rotate_left
    refine at_on rfl rfl ?_
    refine at_do (does_move rfl) rfl rfl ?_
    refine at_on rfl rfl ?_
    refine at_do (does_move rfl) rfl rfl ?_
    refine at_on rfl rfl ?_
    refine at_do (does_slss rfl rfl) rfl rfl ?_
    refine at_on rfl rfl ?_
    refine at_do (does_pick_false rfl rfl) rfl rfl ?_
    refine at_do (does_pick_true rfl rfl) rfl rfl ?_
    refine at_do (does_assign rfl) rfl rfl ?_
    refine at_nil ?_
    refine at_then ?_
    refine at_seq ?_
    refine at_region ?_
    refine at_do (does_move rfl) rfl rfl ?_
    refine at_do (does_move rfl) rfl rfl ?_
    refine at_do (does_move rfl) rfl rfl ?_
    refine at_callv (f := 46) (enters_fn (by kernel_rfl) rfl) (fun w ho => key_Under _ _ w (ho.glob hG id)) rfl rfl ?_
    refine at_do (does_bneq (by kernel_rfl) rfl rfl) rfl rfl ?_
    refine at_nil ?_
    refine at_then ?_
    refine at_cond_f rfl (by simp [*]) ?_
    refine at_skip ?_
    refine at_then ?_
    refine at_seq ?_
    refine at_seq ?_
    refine at_region ?_
    refine at_do (does_move rfl) rfl rfl ?_
    refine at_do (does_move rfl) rfl rfl ?_
    refine at_callv (f := 46) (enters_fn (by kernel_rfl) rfl) (fun w ho => key_Under _ _ w (ho.glob hG id)) rfl rfl ?_
    refine at_do (does_move rfl) rfl rfl ?_
    refine at_guard rfl rfl (fun z8 => ?_) (fun z8 => ?_)
    refine at_on rfl rfl ?_
    refine at_do (does_move rfl) rfl rfl ?_
    refine at_on rfl rfl ?_
    refine at_do (does_move rfl) rfl rfl ?_
    refine at_on rfl rfl ?_
    refine at_callv (f := 46) (enters_fn (by kernel_rfl) rfl) (fun w ho => key_Under _ _ w (ho.glob hG id)) rfl rfl ?_
    refine at_do (does_pick_true rfl rfl) rfl rfl ?_
    refine at_do (does_move rfl) rfl rfl ?_
    refine at_guard rfl rfl (fun z9 => ?_) (fun z9 => ?_)
    refine at_on rfl rfl ?_
    refine at_do (does_move rfl) rfl rfl ?_
    refine at_on rfl rfl ?_
    refine at_do (does_move rfl) rfl rfl ?_
    refine at_on rfl rfl ?_
    refine at_callv (f := 54) (enters_fn (by kernel_rfl) rfl) (fun w ho => key_Meet _ _ w (ho.glob hG id)) rfl rfl ?_
    refine at_on rfl rfl ?_
    refine at_do (does_not rfl) rfl rfl ?_
    refine at_do (does_pick_true rfl rfl) rfl rfl ?_
    refine at_nil ?_
    refine at_then ?_
    refine at_condN rfl (fun z10 => ?_) (fun z10 => ?_)
    refine at_seq ?_
    refine at_region ?_
    refine at_do (does_assign rfl) rfl rfl ?_
    refine at_nil ?_
    refine at_then ?_
    refine at_ret ?_
    refine at_then_ret ?_
    refine at_ret1 rfl rfl rfl (fun w9 ho9 => ?_)
    rotate_left
    refine at_skip ?_
    refine at_then ?_
    refine at_seq ?_
    refine at_region ?_
    refine at_do (does_move rfl) rfl rfl ?_
    refine at_do (does_move rfl) rfl rfl ?_
    refine at_callv (f := 46) (enters_fn (by kernel_rfl) rfl) (fun w ho => key_Under _ _ w (ho.glob hG id)) rfl rfl ?_
    refine at_do (does_not rfl) rfl rfl ?_
    refine at_do (does_move rfl) rfl rfl ?_
    refine at_know (t := 74) (d := false) rfl (by (simp_all [under])) ?_
    refine at_on rfl rfl ?_
    refine at_do (does_move rfl) rfl rfl ?_
    refine at_on rfl rfl ?_
    refine at_do (does_move rfl) rfl rfl ?_
    refine at_on rfl rfl ?_
    refine at_do (does_move rfl) rfl rfl ?_
    refine at_on rfl rfl ?_
    refine at_callv (f := 51) (enters_fn (by kernel_rfl) rfl) (fun w ho => key_In _ _ _ w (ho.glob hG id)) rfl rfl ?_
    refine at_on rfl rfl ?_
    refine at_do (does_not rfl) rfl rfl ?_
    refine at_do (does_pick_false rfl rfl) rfl rfl ?_
    refine at_do (does_move rfl) rfl rfl ?_
    refine at_guardN rfl rfl (fun z11 => ?_) (fun z11 => ?_)
    refine at_no rfl rfl rfl rfl ?_
    refine at_no rfl rfl rfl rfl ?_
    refine at_no rfl rfl rfl rfl ?_
    refine at_no rfl rfl rfl rfl ?_
    refine at_do (does_pick_true rfl rfl) rfl rfl ?_
    refine at_do (does_move rfl) rfl rfl ?_
    refine at_on rfl rfl ?_
    refine at_callv (f := 48) (enters_fn (by kernel_rfl) rfl) (fun w ho => law_awake w (ho.glob hG id) (ho.maxl hM id)) rfl rfl ?_
    refine at_do (does_pick_true rfl rfl) rfl rfl ?_
    refine at_do (does_assign rfl) rfl rfl ?_
    refine at_nil ?_
    refine at_then ?_
    refine at_ret ?_
    refine at_ret1 rfl rfl rfl (fun w9 ho9 => ?_)
    rotate_left
    refine at_on rfl rfl ?_
    refine at_do (does_move rfl) rfl rfl ?_
    refine at_on rfl rfl ?_
    refine at_do (does_move rfl) rfl rfl ?_
    refine at_on rfl rfl ?_
    refine at_do (does_move rfl) rfl rfl ?_
    refine at_on rfl rfl ?_
    refine at_callv (f := 55) (enters_fn (by kernel_rfl) rfl) (fun w ho => key_Overlap _ _ _ w (ho.glob hG id) (by omega) (by omega)) rfl rfl ?_
    refine at_do (does_pick_false rfl rfl) rfl rfl ?_
    refine at_do (does_move rfl) rfl rfl ?_
    refine at_know (t := 87) (d := true) rfl (by (simp_all [under])) ?_
    refine at_on rfl rfl ?_
    refine at_callv (f := 48) (enters_fn (by kernel_rfl) rfl) (fun w ho => law_awake w (ho.glob hG id) (ho.maxl hM id)) rfl rfl ?_
    refine at_do (does_pick_true rfl rfl) rfl rfl ?_
    refine at_do (does_assign rfl) rfl rfl ?_
    refine at_nil ?_
    refine at_then ?_
    refine at_ret ?_
    refine at_ret1 rfl rfl rfl (fun w9 ho9 => ?_)
    rotate_left
    refine at_no rfl rfl rfl rfl ?_
    refine at_no rfl rfl rfl rfl ?_
    refine at_no rfl rfl rfl rfl ?_
    refine at_no rfl rfl rfl rfl ?_
    refine at_do (does_pick_false rfl rfl) rfl rfl ?_
    refine at_nil ?_
    refine at_then ?_
    refine at_cond_false rfl ?_
    refine at_skip ?_
    refine at_then ?_
    refine at_seq ?_
    refine at_region ?_
    refine at_do (does_move rfl) rfl rfl ?_
    refine at_do (does_move rfl) rfl rfl ?_
    refine at_callv (f := 46) (enters_fn (by kernel_rfl) rfl) (fun w ho => key_Under _ _ w (ho.glob hG id)) rfl rfl ?_
    refine at_do (does_not rfl) rfl rfl ?_
    refine at_do (does_move rfl) rfl rfl ?_
    refine at_know (t := 74) (d := false) rfl (by (simp_all [under])) ?_
    refine at_on rfl rfl ?_
    refine at_do (does_move rfl) rfl rfl ?_
    refine at_on rfl rfl ?_
    refine at_do (does_move rfl) rfl rfl ?_
    refine at_on rfl rfl ?_
    refine at_do (does_move rfl) rfl rfl ?_
    refine at_on rfl rfl ?_
    refine at_callv (f := 51) (enters_fn (by kernel_rfl) rfl) (fun w ho => key_In _ _ _ w (ho.glob hG id)) rfl rfl ?_
    refine at_on rfl rfl ?_
    refine at_do (does_not rfl) rfl rfl ?_
    refine at_do (does_pick_false rfl rfl) rfl rfl ?_
    refine at_do (does_move rfl) rfl rfl ?_
    refine at_guardN rfl rfl (fun z12 => ?_) (fun z12 => ?_)
    refine at_no rfl rfl rfl rfl ?_
    refine at_no rfl rfl rfl rfl ?_
    refine at_no rfl rfl rfl rfl ?_
    refine at_no rfl rfl rfl rfl ?_
    refine at_do (does_pick_true rfl rfl) rfl rfl ?_
    refine at_do (does_move rfl) rfl rfl ?_
    refine at_on rfl rfl ?_
    refine at_callv (f := 48) (enters_fn (by kernel_rfl) rfl) (fun w ho => law_awake w (ho.glob hG id) (ho.maxl hM id)) rfl rfl ?_
    refine at_do (does_pick_true rfl rfl) rfl rfl ?_
    refine at_do (does_assign rfl) rfl rfl ?_
    refine at_nil ?_
    refine at_then ?_
    refine at_ret ?_
    refine at_ret1 rfl rfl rfl (fun w9 ho9 => ?_)
    rotate_left
    refine at_on rfl rfl ?_
    refine at_do (does_move rfl) rfl rfl ?_
    refine at_on rfl rfl ?_
    refine at_do (does_move rfl) rfl rfl ?_
    refine at_on rfl rfl ?_
    refine at_do (does_move rfl) rfl rfl ?_
    refine at_on rfl rfl ?_
    refine at_callv (f := 55) (enters_fn (by kernel_rfl) rfl) (fun w ho => key_Overlap _ _ _ w (ho.glob hG id) (by omega) (by omega)) rfl rfl ?_
    refine at_do (does_pick_false rfl rfl) rfl rfl ?_
    refine at_do (does_move rfl) rfl rfl ?_
    refine at_know (t := 87) (d := true) rfl (by (simp_all [under])) ?_
    refine at_on rfl rfl ?_
    refine at_callv (f := 48) (enters_fn (by kernel_rfl) rfl) (fun w ho => law_awake w (ho.glob hG id) (ho.maxl hM id)) rfl rfl ?_
    refine at_do (does_pick_true rfl rfl) rfl rfl ?_
    refine at_do (does_assign rfl) rfl rfl ?_
    refine at_nil ?_
    refine at_then ?_
    refine at_ret ?_
    refine at_ret1 rfl rfl rfl (fun w9 ho9 => ?_)
    rotate_left
    refine at_no rfl rfl rfl rfl ?_
    refine at_no rfl rfl rfl rfl ?_
    refine at_no rfl rfl rfl rfl ?_
    refine at_do (does_pick_false rfl rfl) rfl rfl ?_
    refine at_do (does_move rfl) rfl rfl ?_
    refine at_no rfl rfl rfl rfl ?_
    refine at_no rfl rfl rfl rfl ?_
    refine at_no rfl rfl rfl rfl ?_
    refine at_no rfl rfl rfl rfl ?_
    refine at_do (does_pick_false rfl rfl) rfl rfl ?_
    refine at_nil ?_
    refine at_then ?_
    refine at_cond_false rfl ?_
    refine at_skip ?_
    refine at_then ?_
    refine at_seq ?_
    refine at_region ?_
    refine at_do (does_move rfl) rfl rfl ?_
    refine at_do (does_move rfl) rfl rfl ?_
    refine at_callv (f := 46) (enters_fn (by kernel_rfl) rfl) (fun w ho => key_Under _ _ w (ho.glob hG id)) rfl rfl ?_
    refine at_do (does_not rfl) rfl rfl ?_
    refine at_do (does_move rfl) rfl rfl ?_
    refine at_know (t := 74) (d := true) rfl (by (simp_all [under])) ?_
    refine at_no rfl rfl rfl rfl ?_
    refine at_no rfl rfl rfl rfl ?_
    refine at_no rfl rfl rfl rfl ?_
    refine at_no rfl rfl rfl rfl ?_
    refine at_no rfl rfl rfl rfl ?_
    refine at_do (does_pick_true rfl rfl) rfl rfl ?_
    refine at_do (does_move rfl) rfl rfl ?_
    refine at_no rfl rfl rfl rfl ?_
    refine at_no rfl rfl rfl rfl ?_
    refine at_no rfl rfl rfl rfl ?_
    refine at_no rfl rfl rfl rfl ?_
    refine at_do (does_pick_true rfl rfl) rfl rfl ?_
    refine at_do (does_move rfl) rfl rfl ?_
    refine at_on rfl rfl ?_
    refine at_callv (f := 48) (enters_fn (by kernel_rfl) rfl) (fun w ho => law_awake w (ho.glob hG id) (ho.maxl hM id)) rfl rfl ?_
    refine at_do (does_pick_true rfl rfl) rfl rfl ?_
    refine at_do (does_assign rfl) rfl rfl ?_
    refine at_nil ?_
    refine at_then ?_
    refine at_ret ?_
    refine at_ret1 rfl rfl rfl (fun w9 ho9 => ?_)
    rotate_left
    refine at_no rfl rfl rfl rfl ?_
    refine at_no rfl rfl rfl rfl ?_
    refine at_no rfl rfl rfl rfl ?_
    refine at_no rfl rfl rfl rfl ?_
    refine at_no rfl rfl rfl rfl ?_
    refine at_no rfl rfl rfl rfl ?_
    refine at_no rfl rfl rfl rfl ?_
    refine at_do (does_pick_false rfl rfl) rfl rfl ?_
    refine at_do (does_assign rfl) rfl rfl ?_
    refine at_nil ?_
    refine at_then ?_
    refine at_seq ?_
    refine at_region ?_
    refine at_do (does_move rfl) rfl rfl ?_
    refine at_do (does_move rfl) rfl rfl ?_
    refine at_do (does_move rfl) rfl rfl ?_
    refine at_callv (f := 46) (enters_fn (by kernel_rfl) rfl) (fun w ho => key_Under _ _ w (ho.glob hG id)) rfl rfl ?_
    refine at_do (does_bneq (by kernel_rfl) rfl rfl) rfl rfl ?_
    refine at_nil ?_
    refine at_then ?_
    refine at_cond_f rfl (by simp [*]) ?_
    refine at_skip ?_
    refine at_then ?_
    refine at_seq ?_
    refine at_seq ?_
    refine at_region ?_
    refine at_do (does_move rfl) rfl rfl ?_
    refine at_do (does_move rfl) rfl rfl ?_
    refine at_callv (f := 46) (enters_fn (by kernel_rfl) rfl) (fun w ho => key_Under _ _ w (ho.glob hG id)) rfl rfl ?_
    refine at_do (does_move rfl) rfl rfl ?_
    refine at_know (t := 59) (d := false) rfl (by simp [*]) ?_
    refine at_no rfl rfl rfl rfl ?_
    refine at_no rfl rfl rfl rfl ?_
    refine at_no rfl rfl rfl rfl ?_
    refine at_do (does_pick_false rfl rfl) rfl rfl ?_
    refine at_do (does_move rfl) rfl rfl ?_
    refine at_no rfl rfl rfl rfl ?_
    refine at_no rfl rfl rfl rfl ?_
    refine at_no rfl rfl rfl rfl ?_
    refine at_no rfl rfl rfl rfl ?_
    refine at_do (does_pick_false rfl rfl) rfl rfl ?_
    refine at_nil ?_
    refine at_then ?_
    refine at_cond_false rfl ?_
    refine at_skip ?_
    refine at_then ?_
    refine at_seq ?_
    refine at_region ?_
    refine at_do (does_move rfl) rfl rfl ?_
    refine at_do (does_move rfl) rfl rfl ?_
    refine at_callv (f := 46) (enters_fn (by kernel_rfl) rfl) (fun w ho => key_Under _ _ w (ho.glob hG id)) rfl rfl ?_
    refine at_do (does_not rfl) rfl rfl ?_
    refine at_do (does_move rfl) rfl rfl ?_
    refine at_know (t := 74) (d := true) rfl (by simp [*]) ?_
    refine at_no rfl rfl rfl rfl ?_
    refine at_no rfl rfl rfl rfl ?_
    refine at_no rfl rfl rfl rfl ?_
    refine at_no rfl rfl rfl rfl ?_
    refine at_no rfl rfl rfl rfl ?_
    refine at_do (does_pick_true rfl rfl) rfl rfl ?_
    refine at_do (does_move rfl) rfl rfl ?_
    refine at_no rfl rfl rfl rfl ?_
    refine at_no rfl rfl rfl rfl ?_
    refine at_no rfl rfl rfl rfl ?_
    refine at_no rfl rfl rfl rfl ?_
    refine at_do (does_pick_true rfl rfl) rfl rfl ?_
    refine at_do (does_move rfl) rfl rfl ?_
    refine at_on rfl rfl ?_
    refine at_callv (f := 48) (enters_fn (by kernel_rfl) rfl) (fun w ho => law_awake w (ho.glob hG id) (ho.maxl hM id)) rfl rfl ?_
    refine at_do (does_pick_true rfl rfl) rfl rfl ?_
    refine at_do (does_assign rfl) rfl rfl ?_
    refine at_nil ?_
    refine at_then ?_
    refine at_ret ?_
    refine at_ret1 rfl rfl rfl (fun w9 ho9 => ?_)
    rotate_left
    refine at_skip ?_
    refine at_then ?_
    refine at_seq ?_
    refine at_seq ?_
    refine at_region ?_
    refine at_do (does_move rfl) rfl rfl ?_
    refine at_do (does_move rfl) rfl rfl ?_
    refine at_callv (f := 46) (enters_fn (by kernel_rfl) rfl) (fun w ho => key_Under _ _ w (ho.glob hG id)) rfl rfl ?_
    refine at_do (does_move rfl) rfl rfl ?_
    refine at_know (t := 59) (d := false) rfl (by simp [*]) ?_
    refine at_no rfl rfl rfl rfl ?_
    refine at_no rfl rfl rfl rfl ?_
    refine at_no rfl rfl rfl rfl ?_
    refine at_do (does_pick_false rfl rfl) rfl rfl ?_
    refine at_do (does_move rfl) rfl rfl ?_
    refine at_no rfl rfl rfl rfl ?_
    refine at_no rfl rfl rfl rfl ?_
    refine at_no rfl rfl rfl rfl ?_
    refine at_no rfl rfl rfl rfl ?_
    refine at_do (does_pick_false rfl rfl) rfl rfl ?_
    refine at_nil ?_
    refine at_then ?_
    refine at_cond_false rfl ?_
    refine at_skip ?_
    refine at_then ?_
    refine at_seq ?_
    refine at_region ?_
    refine at_do (does_move rfl) rfl rfl ?_
    refine at_do (does_move rfl) rfl rfl ?_
    refine at_callv (f := 46) (enters_fn (by kernel_rfl) rfl) (fun w ho => key_Under _ _ w (ho.glob hG id)) rfl rfl ?_
    refine at_do (does_not rfl) rfl rfl ?_
    refine at_do (does_move rfl) rfl rfl ?_
    refine at_know (t := 74) (d := true) rfl (by simp [*]) ?_
    refine at_no rfl rfl rfl rfl ?_
    refine at_no rfl rfl rfl rfl ?_
    refine at_no rfl rfl rfl rfl ?_
    refine at_no rfl rfl rfl rfl ?_
    refine at_no rfl rfl rfl rfl ?_
    refine at_do (does_pick_true rfl rfl) rfl rfl ?_
    refine at_do (does_move rfl) rfl rfl ?_
    refine at_no rfl rfl rfl rfl ?_
    refine at_no rfl rfl rfl rfl ?_
    refine at_no rfl rfl rfl rfl ?_
    refine at_no rfl rfl rfl rfl ?_
    refine at_do (does_pick_true rfl rfl) rfl rfl ?_
    refine at_do (does_move rfl) rfl rfl ?_
    refine at_on rfl rfl ?_
    refine at_callv (f := 48) (enters_fn (by kernel_rfl) rfl) (fun w ho => law_awake w (ho.glob hG id) (ho.maxl hM id)) rfl rfl ?_
    refine at_do (does_pick_true rfl rfl) rfl rfl ?_
    refine at_do (does_assign rfl) rfl rfl ?_
    refine at_nil ?_
    refine at_then ?_
    refine at_ret ?_
    refine at_ret1 rfl rfl rfl (fun w9 ho9 => ?_)
    rotate_left
    all_goals first
      | exact ⟨rfl, ho9.plain⟩
      | exact absurd (q1 (by first | assumption | (rw [hu, q3]; simp [*])) (by assumption)) (by rw [Bool.not_eq_true]; assumption)
end Go.Proofs.YtchfecmabhfooaaDoor
