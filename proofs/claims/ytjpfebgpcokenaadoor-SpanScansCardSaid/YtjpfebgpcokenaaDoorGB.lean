/-
  Which values and items may be, as the package and the reference say. No condition of its own.
  Which lists are leaves, which trunks may be, as the package and the reference say. No condition of its own.
  Which lists are leaves of a bucket, which trunks may be, as the package and the reference say. No condition of its own.
  Which trunks may be, as the package and the reference say. No condition of its own.
  The bucket whose leaf has the least key next; a trunk's items in order. No condition of its own.
  A trunk's items in order, handed to whoever ranges over them. No condition of its own.
-/
import Derived.Test.YtjpfebgpcokenaaDoorGA
import Derived.Test.YtjpfebgpcokenaaDoorRange2
set_option linter.unusedSimpArgs false
set_option linter.unusedVariables false
namespace Go.Proofs.YtjpfebgpcokenaaDoor
open Go.RowKit
attribute [local irreducible] cwp lwp Exit.then Exit.inBlock Exit.noGoto wpQuiet Calls fin At AtQ Again endQ RQ

def valC (k n : Int) (t : List UInt8) : Array Value := #[.int .i64 k, .int .i64 n, .string (bs t)]
def mayV (k n : Int) (t : List UInt8) : Bool := (decide (k = 3) && decide (n = 0) && decide (t.length ≤ 64)) || (decide (k = 0) && decide (n = 0) && decide (t = [])) || (decide (k = 1) && (decide (n = 0) || decide (n = 1)) && decide (t = [])) || (decide (k = 2) && decide (t = []))
theorem value_May (k n : Int) (t : List UInt8) (w : World) : Calls Tryd.prog 71 #[.agg (valC k n t)] w fun e w' => e = .returned (.bool (mayV k n t)) ∧ Below w.heap.size w w' := by
  refine calls_plain Tryd.func71 rfl Tryd.ntmps71 rfl ?_
  refine at_seq ?_
  refine at_region ?_
  refine at_boxagg rfl rfl fun gz0 => ?_
  refine at_do (does_assign rfl) rfl rfl ?_
  refine at_nil ?_
  refine at_then ?_
  refine at_seq ?_
  refine at_seq ?_
  refine at_region ?_
  refine at_do (does_fieldAddr (o := 0) (by kernel_rfl) rfl) rfl rfl ?_
  refine at_do (does_load (i := 0) (by kernel_rfl) rfl rfl rfl) rfl rfl ?_
  refine at_nil ?_
  refine at_then ?_
  refine at_block ?_
  refine at_seq ?_
  refine at_block ?_
  refine at_seq ?_
  refine at_block ?_
  refine at_seq ?_
  refine at_block ?_
  refine at_seq ?_
  refine at_block ?_
  refine at_seq ?_
  refine at_seq ?_
  refine at_seq ?_
  refine at_region ?_
  refine at_do (does_eql rfl rfl) rfl rfl ?_
  refine at_do (does_assign rfl) rfl rfl ?_
  refine at_nil ?_
  refine at_then ?_
  refine at_condD rfl (fun z1 => ?_) (fun z1 => ?_)
  refine at_exit ?_
  refine at_then_exit ?_
  refine at_then_exit ?_
  refine at_inb_here ?_
  refine at_then ?_
  refine at_seq ?_
  refine at_seq ?_
  refine at_region ?_
  refine at_do (does_fieldAddr (o := 1) (by kernel_rfl) rfl) rfl rfl ?_
  refine at_do (does_load (i := 0) (by kernel_rfl) rfl rfl rfl) rfl rfl ?_
  refine at_do (does_eql rfl rfl) rfl rfl ?_
  refine at_do (does_move rfl) rfl rfl ?_
  refine at_guardD rfl rfl (fun z2 => ?_) (fun z2 => ?_)
  refine at_on rfl rfl ?_
  refine at_do (does_fieldAddr (o := 2) (by kernel_rfl) rfl) rfl rfl ?_
  refine at_on rfl rfl ?_
  refine at_do (does_load (i := 0) (by kernel_rfl) rfl rfl rfl) rfl rfl ?_
  refine at_on rfl rfl ?_
  refine at_do (does_slen (by kernel_rfl) rfl) rfl rfl ?_
  refine at_on rfl rfl ?_
  refine at_do (does_leq rfl rfl) rfl rfl ?_
  refine at_do (does_pick_true rfl rfl) rfl rfl ?_
  refine at_do (does_assign rfl) rfl rfl ?_
  refine at_nil ?_
  refine at_then ?_
  refine at_ret ?_
  refine at_then_ret ?_
  refine at_inb_ret ?_
  refine at_then_ret ?_
  refine at_inb_ret ?_
  refine at_then_ret ?_
  refine at_inb_ret ?_
  refine at_then_ret ?_
  refine at_inb_ret ?_
  refine at_then_ret ?_
  refine at_ret1 rfl rfl rfl (fun w9 ho9 => ?_)
  rotate_left
  refine at_no rfl rfl rfl rfl ?_
  refine at_no rfl rfl rfl rfl ?_
  refine at_no rfl rfl rfl rfl ?_
  refine at_no rfl rfl rfl rfl ?_
  refine at_do (does_pick_false rfl rfl) rfl rfl ?_
  refine at_do (does_assign rfl) rfl rfl ?_
  refine at_nil ?_
  refine at_then ?_
  refine at_ret ?_
  refine at_then_ret ?_
  refine at_inb_ret ?_
  refine at_then_ret ?_
  refine at_inb_ret ?_
  refine at_then_ret ?_
  refine at_inb_ret ?_
  refine at_then_ret ?_
  refine at_inb_ret ?_
  refine at_then_ret ?_
  refine at_ret1 rfl rfl rfl (fun w9 ho9 => ?_)
  rotate_left
  refine at_skip ?_
  refine at_then ?_
  refine at_seq ?_
  refine at_seq ?_
  refine at_region ?_
  refine at_do (does_eql rfl rfl) rfl rfl ?_
  refine at_do (does_assign rfl) rfl rfl ?_
  refine at_nil ?_
  refine at_then ?_
  refine at_condD rfl (fun z3 => ?_) (fun z3 => ?_)
  refine at_exit ?_
  refine at_then_exit ?_
  refine at_then_exit ?_
  refine at_inb_far rfl ?_
  refine at_then_exit ?_
  refine at_inb_here ?_
  refine at_then ?_
  refine at_seq ?_
  refine at_region ?_
  refine at_do (does_fieldAddr (o := 1) (by kernel_rfl) rfl) rfl rfl ?_
  refine at_do (does_load (i := 0) (by kernel_rfl) rfl rfl rfl) rfl rfl ?_
  refine at_do (does_neq rfl rfl) rfl rfl ?_
  refine at_nil ?_
  refine at_then ?_
  refine at_condD rfl (fun z4 => ?_) (fun z4 => ?_)
  refine at_seq ?_
  refine at_region ?_
  refine at_do (does_assign rfl) rfl rfl ?_
  refine at_nil ?_
  refine at_then ?_
  refine at_ret ?_
  refine at_inb_ret ?_
  refine at_then_ret ?_
  refine at_inb_ret ?_
  refine at_then_ret ?_
  refine at_inb_ret ?_
  refine at_then_ret ?_
  refine at_ret1 rfl rfl rfl (fun w9 ho9 => ?_)
  rotate_left
  refine at_skip ?_
  refine at_inb ?_
  refine at_then ?_
  refine at_seq ?_
  refine at_region ?_
  refine at_do (does_fieldAddr (o := 1) (by kernel_rfl) rfl) rfl rfl ?_
  refine at_do (does_load (i := 0) (by kernel_rfl) rfl rfl rfl) rfl rfl ?_
  refine at_do (does_neq rfl rfl) rfl rfl ?_
  refine at_do (does_move rfl) rfl rfl ?_
  refine at_know (t := 28) (d := false) rfl (decide_eq_false (by assumption)) ?_
  refine at_no rfl rfl rfl rfl ?_
  refine at_no rfl rfl rfl rfl ?_
  refine at_no rfl rfl rfl rfl ?_
  refine at_do (does_pick_false rfl rfl) rfl rfl ?_
  refine at_nil ?_
  refine at_then ?_
  refine at_cond_false rfl ?_
  refine at_skip ?_
  refine at_inb ?_
  refine at_then ?_
  refine at_seq ?_
  refine at_seq ?_
  refine at_region ?_
  refine at_do (does_fieldAddr (o := 2) (by kernel_rfl) rfl) rfl rfl ?_
  refine at_do (does_load (i := 0) (by kernel_rfl) rfl rfl rfl) rfl rfl ?_
  refine at_do (does_seql rfl rfl) rfl rfl ?_
  refine at_do (does_assign rfl) rfl rfl ?_
  refine at_nil ?_
  refine at_then ?_
  refine at_ret ?_
  refine at_then_ret ?_
  refine at_inb_ret ?_
  refine at_then_ret ?_
  refine at_ret1 rfl rfl rfl (fun w9 ho9 => ?_)
  rotate_left
  refine at_skip ?_
  refine at_then ?_
  refine at_seq ?_
  refine at_seq ?_
  refine at_region ?_
  refine at_do (does_eql rfl rfl) rfl rfl ?_
  refine at_do (does_assign rfl) rfl rfl ?_
  refine at_nil ?_
  refine at_then ?_
  refine at_condD rfl (fun z5 => ?_) (fun z5 => ?_)
  refine at_exit ?_
  refine at_then_exit ?_
  refine at_then_exit ?_
  refine at_inb_far rfl ?_
  refine at_then_exit ?_
  refine at_inb_far rfl ?_
  refine at_then_exit ?_
  refine at_inb_here ?_
  refine at_then ?_
  refine at_seq ?_
  refine at_region ?_
  refine at_do (does_fieldAddr (o := 1) (by kernel_rfl) rfl) rfl rfl ?_
  refine at_do (does_load (i := 0) (by kernel_rfl) rfl rfl rfl) rfl rfl ?_
  refine at_do (does_neq rfl rfl) rfl rfl ?_
  refine at_do (does_move rfl) rfl rfl ?_
  refine at_guardD rfl rfl (fun z6 => ?_) (fun z6 => ?_)
  refine at_on rfl rfl ?_
  refine at_do (does_fieldAddr (o := 1) (by kernel_rfl) rfl) rfl rfl ?_
  refine at_on rfl rfl ?_
  refine at_do (does_load (i := 0) (by kernel_rfl) rfl rfl rfl) rfl rfl ?_
  refine at_on rfl rfl ?_
  refine at_do (does_neq rfl rfl) rfl rfl ?_
  refine at_do (does_pick_true rfl rfl) rfl rfl ?_
  refine at_nil ?_
  refine at_then ?_
  refine at_condD rfl (fun z7 => ?_) (fun z7 => ?_)
  refine at_seq ?_
  refine at_region ?_
  refine at_do (does_assign rfl) rfl rfl ?_
  refine at_nil ?_
  refine at_then ?_
  refine at_ret ?_
  refine at_inb_ret ?_
  refine at_then_ret ?_
  refine at_inb_ret ?_
  refine at_then_ret ?_
  refine at_ret1 rfl rfl rfl (fun w9 ho9 => ?_)
  rotate_left
  refine at_skip ?_
  refine at_inb ?_
  refine at_then ?_
  refine at_seq ?_
  refine at_seq ?_
  refine at_region ?_
  refine at_do (does_fieldAddr (o := 2) (by kernel_rfl) rfl) rfl rfl ?_
  refine at_do (does_load (i := 0) (by kernel_rfl) rfl rfl rfl) rfl rfl ?_
  refine at_do (does_seql rfl rfl) rfl rfl ?_
  refine at_do (does_assign rfl) rfl rfl ?_
  refine at_nil ?_
  refine at_then ?_
  refine at_ret ?_
  refine at_then_ret ?_
  refine at_inb_ret ?_
  refine at_then_ret ?_
  refine at_ret1 rfl rfl rfl (fun w9 ho9 => ?_)
  rotate_left
  refine at_no rfl rfl rfl rfl ?_
  refine at_no rfl rfl rfl rfl ?_
  refine at_no rfl rfl rfl rfl ?_
  refine at_do (does_pick_false rfl rfl) rfl rfl ?_
  refine at_nil ?_
  refine at_then ?_
  refine at_cond_false rfl ?_
  refine at_skip ?_
  refine at_inb ?_
  refine at_then ?_
  refine at_seq ?_
  refine at_seq ?_
  refine at_region ?_
  refine at_do (does_fieldAddr (o := 2) (by kernel_rfl) rfl) rfl rfl ?_
  refine at_do (does_load (i := 0) (by kernel_rfl) rfl rfl rfl) rfl rfl ?_
  refine at_do (does_seql rfl rfl) rfl rfl ?_
  refine at_do (does_assign rfl) rfl rfl ?_
  refine at_nil ?_
  refine at_then ?_
  refine at_ret ?_
  refine at_then_ret ?_
  refine at_inb_ret ?_
  refine at_then_ret ?_
  refine at_ret1 rfl rfl rfl (fun w9 ho9 => ?_)
  rotate_left
  refine at_skip ?_
  refine at_then ?_
  refine at_seq ?_
  refine at_region ?_
  refine at_do (does_eql rfl rfl) rfl rfl ?_
  refine at_do (does_assign rfl) rfl rfl ?_
  refine at_nil ?_
  refine at_then ?_
  refine at_condD rfl (fun z8 => ?_) (fun z8 => ?_)
  refine at_exit ?_
  refine at_then_exit ?_
  refine at_inb_far rfl ?_
  refine at_then_exit ?_
  refine at_inb_far rfl ?_
  refine at_then_exit ?_
  refine at_inb_far rfl ?_
  refine at_then_exit ?_
  refine at_inb_here ?_
  refine at_then ?_
  refine at_seq ?_
  refine at_seq ?_
  refine at_region ?_
  refine at_do (does_fieldAddr (o := 2) (by kernel_rfl) rfl) rfl rfl ?_
  refine at_do (does_load (i := 0) (by kernel_rfl) rfl rfl rfl) rfl rfl ?_
  refine at_do (does_seql rfl rfl) rfl rfl ?_
  refine at_do (does_assign rfl) rfl rfl ?_
  refine at_nil ?_
  refine at_then ?_
  refine at_ret ?_
  refine at_then_ret ?_
  refine at_inb_ret ?_
  refine at_then_ret ?_
  refine at_ret1 rfl rfl rfl (fun w9 ho9 => ?_)
  rotate_left
  refine at_skip ?_
  refine at_then ?_
  refine at_exit ?_
  refine at_inb_far rfl ?_
  refine at_then_exit ?_
  refine at_inb_far rfl ?_
  refine at_then_exit ?_
  refine at_inb_far rfl ?_
  refine at_then_exit ?_
  refine at_inb_far rfl ?_
  refine at_then_exit ?_
  refine at_inb_here ?_
  refine at_then ?_
  refine at_seq ?_
  refine at_region ?_
  refine at_do (does_assign rfl) rfl rfl ?_
  refine at_nil ?_
  refine at_then ?_
  refine at_ret ?_
  refine at_ret1 rfl rfl rfl (fun w9 ho9 => ?_)
  rotate_left
  all_goals
    refine ⟨ret_bool ?_, ho9.plain⟩
    rw [Bool.eq_iff_iff]
    first | (simp_all [mayV]; done) | (simp_all [mayV]; omega)
theorem refv_May (k n : Int) (t : List UInt8) (w : World) : Calls Tryd.prog 54 #[.agg (valC k n t)] w fun e w' => e = .returned (.bool (mayV k n t)) ∧ Below w.heap.size w w' := by
  refine calls_plain Tryd.func54 rfl Tryd.ntmps54 rfl ?_
  by_cases h0 : k = 0
  · subst h0
    refine at_seq ?_
    refine at_region ?_
    refine at_boxagg rfl rfl fun gz0 => ?_
    refine at_do (does_assign rfl) rfl rfl ?_
    refine at_nil ?_
    refine at_then ?_
    refine at_seq ?_
    refine at_region ?_
    refine at_do (does_fieldAddr (o := 0) (by kernel_rfl) rfl) rfl rfl ?_
    refine at_do (does_load (i := 0) (by kernel_rfl) rfl rfl rfl) rfl rfl ?_
    refine at_do (does_eql rfl rfl) rfl rfl ?_
    refine at_do (does_move rfl) rfl rfl ?_
    refine at_know (t := 8) (d := true) rfl (decide_eq_true (by decide)) ?_
    refine at_on rfl rfl ?_
    refine at_do (does_fieldAddr (o := 1) (by kernel_rfl) rfl) rfl rfl ?_
    refine at_on rfl rfl ?_
    refine at_do (does_load (i := 0) (by kernel_rfl) rfl rfl rfl) rfl rfl ?_
    refine at_on rfl rfl ?_
    refine at_do (does_eql rfl rfl) rfl rfl ?_
    refine at_do (does_pick_true rfl rfl) rfl rfl ?_
    refine at_do (does_move rfl) rfl rfl ?_
    refine at_guardD rfl rfl (fun z1 => ?_) (fun z1 => ?_)
    refine at_on rfl rfl ?_
    refine at_do (does_fieldAddr (o := 2) (by kernel_rfl) rfl) rfl rfl ?_
    refine at_on rfl rfl ?_
    refine at_do (does_load (i := 0) (by kernel_rfl) rfl rfl rfl) rfl rfl ?_
    refine at_on rfl rfl ?_
    refine at_do (does_seql rfl rfl) rfl rfl ?_
    refine at_do (does_pick_true rfl rfl) rfl rfl ?_
    refine at_do (does_assign rfl) rfl rfl ?_
    refine at_nil ?_
    refine at_then ?_
    refine at_seq ?_
    refine at_region ?_
    refine at_do (does_fieldAddr (o := 0) (by kernel_rfl) rfl) rfl rfl ?_
    refine at_do (does_load (i := 0) (by kernel_rfl) rfl rfl rfl) rfl rfl ?_
    refine at_do (does_eql rfl rfl) rfl rfl ?_
    refine at_do (does_move rfl) rfl rfl ?_
    refine at_know (t := 21) (d := false) rfl (decide_eq_false (by decide)) ?_
    refine at_no rfl rfl rfl rfl ?_
    refine at_no rfl rfl rfl rfl ?_
    refine at_no rfl rfl rfl rfl ?_
    refine at_no rfl rfl rfl rfl ?_
    refine at_no rfl rfl rfl rfl ?_
    refine at_no rfl rfl rfl rfl ?_
    refine at_no rfl rfl rfl rfl ?_
    refine at_no rfl rfl rfl rfl ?_
    refine at_do (does_pick_false rfl rfl) rfl rfl ?_
    refine at_do (does_move rfl) rfl rfl ?_
    refine at_no rfl rfl rfl rfl ?_
    refine at_no rfl rfl rfl rfl ?_
    refine at_no rfl rfl rfl rfl ?_
    refine at_do (does_pick_false rfl rfl) rfl rfl ?_
    refine at_do (does_assign rfl) rfl rfl ?_
    refine at_nil ?_
    refine at_then ?_
    refine at_seq ?_
    refine at_region ?_
    refine at_do (does_move rfl) rfl rfl ?_
    refine at_do (does_move rfl) rfl rfl ?_
    refine at_guardD rfl rfl (fun z2 => ?_) (fun z2 => ?_)
    refine at_no rfl rfl rfl rfl ?_
    refine at_do (does_pick_true rfl rfl) rfl rfl ?_
    refine at_do (does_move rfl) rfl rfl ?_
    refine at_no rfl rfl rfl rfl ?_
    refine at_no rfl rfl rfl rfl ?_
    refine at_no rfl rfl rfl rfl ?_
    refine at_no rfl rfl rfl rfl ?_
    refine at_no rfl rfl rfl rfl ?_
    refine at_no rfl rfl rfl rfl ?_
    refine at_no rfl rfl rfl rfl ?_
    refine at_no rfl rfl rfl rfl ?_
    refine at_do (does_pick_true rfl rfl) rfl rfl ?_
    refine at_do (does_move rfl) rfl rfl ?_
    refine at_no rfl rfl rfl rfl ?_
    refine at_no rfl rfl rfl rfl ?_
    refine at_no rfl rfl rfl rfl ?_
    refine at_no rfl rfl rfl rfl ?_
    refine at_no rfl rfl rfl rfl ?_
    refine at_no rfl rfl rfl rfl ?_
    refine at_no rfl rfl rfl rfl ?_
    refine at_no rfl rfl rfl rfl ?_
    refine at_no rfl rfl rfl rfl ?_
    refine at_no rfl rfl rfl rfl ?_
    refine at_no rfl rfl rfl rfl ?_
    refine at_no rfl rfl rfl rfl ?_
    refine at_no rfl rfl rfl rfl ?_
    refine at_no rfl rfl rfl rfl ?_
    refine at_do (does_pick_true rfl rfl) rfl rfl ?_
    refine at_do (does_assign rfl) rfl rfl ?_
    refine at_nil ?_
    refine at_then ?_
    refine at_ret ?_
    refine at_ret1 rfl rfl rfl (fun w9 ho9 => ?_)
    rotate_left
    refine at_on rfl rfl ?_
    refine at_do (does_move rfl) rfl rfl ?_
    refine at_do (does_pick_false rfl rfl) rfl rfl ?_
    refine at_do (does_move rfl) rfl rfl ?_
    refine at_on rfl rfl ?_
    refine at_do (does_fieldAddr (o := 0) (by kernel_rfl) rfl) rfl rfl ?_
    refine at_on rfl rfl ?_
    refine at_do (does_load (i := 0) (by kernel_rfl) rfl rfl rfl) rfl rfl ?_
    refine at_on rfl rfl ?_
    refine at_do (does_eql rfl rfl) rfl rfl ?_
    refine at_on rfl rfl ?_
    refine at_do (does_move rfl) rfl rfl ?_
    refine at_know (t := 44) (d := false) rfl (decide_eq_false (by decide)) ?_
    refine at_no rfl rfl rfl rfl ?_
    refine at_no rfl rfl rfl rfl ?_
    refine at_no rfl rfl rfl rfl ?_
    refine at_on rfl rfl ?_
    refine at_do (does_pick_false rfl rfl) rfl rfl ?_
    refine at_do (does_pick_false rfl rfl) rfl rfl ?_
    refine at_do (does_move rfl) rfl rfl ?_
    refine at_on rfl rfl ?_
    refine at_do (does_fieldAddr (o := 0) (by kernel_rfl) rfl) rfl rfl ?_
    refine at_on rfl rfl ?_
    refine at_do (does_load (i := 0) (by kernel_rfl) rfl rfl rfl) rfl rfl ?_
    refine at_on rfl rfl ?_
    refine at_do (does_eql rfl rfl) rfl rfl ?_
    refine at_on rfl rfl ?_
    refine at_do (does_move rfl) rfl rfl ?_
    refine at_know (t := 54) (d := false) rfl (decide_eq_false (by decide)) ?_
    refine at_no rfl rfl rfl rfl ?_
    refine at_no rfl rfl rfl rfl ?_
    refine at_no rfl rfl rfl rfl ?_
    refine at_on rfl rfl ?_
    refine at_do (does_pick_false rfl rfl) rfl rfl ?_
    refine at_on rfl rfl ?_
    refine at_do (does_move rfl) rfl rfl ?_
    refine at_no rfl rfl rfl rfl ?_
    refine at_no rfl rfl rfl rfl ?_
    refine at_no rfl rfl rfl rfl ?_
    refine at_no rfl rfl rfl rfl ?_
    refine at_on rfl rfl ?_
    refine at_do (does_pick_false rfl rfl) rfl rfl ?_
    refine at_do (does_pick_false rfl rfl) rfl rfl ?_
    refine at_do (does_assign rfl) rfl rfl ?_
    refine at_nil ?_
    refine at_then ?_
    refine at_ret ?_
    refine at_ret1 rfl rfl rfl (fun w9 ho9 => ?_)
    rotate_left
    refine at_no rfl rfl rfl rfl ?_
    refine at_no rfl rfl rfl rfl ?_
    refine at_no rfl rfl rfl rfl ?_
    refine at_do (does_pick_false rfl rfl) rfl rfl ?_
    refine at_do (does_assign rfl) rfl rfl ?_
    refine at_nil ?_
    refine at_then ?_
    refine at_seq ?_
    refine at_region ?_
    refine at_do (does_fieldAddr (o := 0) (by kernel_rfl) rfl) rfl rfl ?_
    refine at_do (does_load (i := 0) (by kernel_rfl) rfl rfl rfl) rfl rfl ?_
    refine at_do (does_eql rfl rfl) rfl rfl ?_
    refine at_do (does_move rfl) rfl rfl ?_
    refine at_know (t := 21) (d := false) rfl (decide_eq_false (by decide)) ?_
    refine at_no rfl rfl rfl rfl ?_
    refine at_no rfl rfl rfl rfl ?_
    refine at_no rfl rfl rfl rfl ?_
    refine at_no rfl rfl rfl rfl ?_
    refine at_no rfl rfl rfl rfl ?_
    refine at_no rfl rfl rfl rfl ?_
    refine at_no rfl rfl rfl rfl ?_
    refine at_no rfl rfl rfl rfl ?_
    refine at_do (does_pick_false rfl rfl) rfl rfl ?_
    refine at_do (does_move rfl) rfl rfl ?_
    refine at_no rfl rfl rfl rfl ?_
    refine at_no rfl rfl rfl rfl ?_
    refine at_no rfl rfl rfl rfl ?_
    refine at_do (does_pick_false rfl rfl) rfl rfl ?_
    refine at_do (does_assign rfl) rfl rfl ?_
    refine at_nil ?_
    refine at_then ?_
    refine at_seq ?_
    refine at_region ?_
    refine at_do (does_move rfl) rfl rfl ?_
    refine at_do (does_move rfl) rfl rfl ?_
    refine at_on rfl rfl ?_
    refine at_do (does_move rfl) rfl rfl ?_
    refine at_do (does_pick_false rfl rfl) rfl rfl ?_
    refine at_do (does_move rfl) rfl rfl ?_
    refine at_on rfl rfl ?_
    refine at_do (does_fieldAddr (o := 0) (by kernel_rfl) rfl) rfl rfl ?_
    refine at_on rfl rfl ?_
    refine at_do (does_load (i := 0) (by kernel_rfl) rfl rfl rfl) rfl rfl ?_
    refine at_on rfl rfl ?_
    refine at_do (does_eql rfl rfl) rfl rfl ?_
    refine at_on rfl rfl ?_
    refine at_do (does_move rfl) rfl rfl ?_
    refine at_know (t := 44) (d := false) rfl (decide_eq_false (by decide)) ?_
    refine at_no rfl rfl rfl rfl ?_
    refine at_no rfl rfl rfl rfl ?_
    refine at_no rfl rfl rfl rfl ?_
    refine at_on rfl rfl ?_
    refine at_do (does_pick_false rfl rfl) rfl rfl ?_
    refine at_do (does_pick_false rfl rfl) rfl rfl ?_
    refine at_do (does_move rfl) rfl rfl ?_
    refine at_on rfl rfl ?_
    refine at_do (does_fieldAddr (o := 0) (by kernel_rfl) rfl) rfl rfl ?_
    refine at_on rfl rfl ?_
    refine at_do (does_load (i := 0) (by kernel_rfl) rfl rfl rfl) rfl rfl ?_
    refine at_on rfl rfl ?_
    refine at_do (does_eql rfl rfl) rfl rfl ?_
    refine at_on rfl rfl ?_
    refine at_do (does_move rfl) rfl rfl ?_
    refine at_know (t := 54) (d := false) rfl (decide_eq_false (by decide)) ?_
    refine at_no rfl rfl rfl rfl ?_
    refine at_no rfl rfl rfl rfl ?_
    refine at_no rfl rfl rfl rfl ?_
    refine at_on rfl rfl ?_
    refine at_do (does_pick_false rfl rfl) rfl rfl ?_
    refine at_on rfl rfl ?_
    refine at_do (does_move rfl) rfl rfl ?_
    refine at_no rfl rfl rfl rfl ?_
    refine at_no rfl rfl rfl rfl ?_
    refine at_no rfl rfl rfl rfl ?_
    refine at_no rfl rfl rfl rfl ?_
    refine at_on rfl rfl ?_
    refine at_do (does_pick_false rfl rfl) rfl rfl ?_
    refine at_do (does_pick_false rfl rfl) rfl rfl ?_
    refine at_do (does_assign rfl) rfl rfl ?_
    refine at_nil ?_
    refine at_then ?_
    refine at_ret ?_
    refine at_ret1 rfl rfl rfl (fun w9 ho9 => ?_)
    rotate_left
    all_goals
      refine ⟨ret_bool ?_, ho9.plain⟩
      rw [Bool.eq_iff_iff]
      first | (simp_all [mayV]; done) | (simp_all [mayV]; omega)
  by_cases h1 : k = 1
  · subst h1
    refine at_seq ?_
    refine at_region ?_
    refine at_boxagg rfl rfl fun gz0 => ?_
    refine at_do (does_assign rfl) rfl rfl ?_
    refine at_nil ?_
    refine at_then ?_
    refine at_seq ?_
    refine at_region ?_
    refine at_do (does_fieldAddr (o := 0) (by kernel_rfl) rfl) rfl rfl ?_
    refine at_do (does_load (i := 0) (by kernel_rfl) rfl rfl rfl) rfl rfl ?_
    refine at_do (does_eql rfl rfl) rfl rfl ?_
    refine at_do (does_move rfl) rfl rfl ?_
    refine at_know (t := 8) (d := false) rfl (decide_eq_false (by decide)) ?_
    refine at_no rfl rfl rfl rfl ?_
    refine at_no rfl rfl rfl rfl ?_
    refine at_no rfl rfl rfl rfl ?_
    refine at_do (does_pick_false rfl rfl) rfl rfl ?_
    refine at_do (does_move rfl) rfl rfl ?_
    refine at_no rfl rfl rfl rfl ?_
    refine at_no rfl rfl rfl rfl ?_
    refine at_no rfl rfl rfl rfl ?_
    refine at_do (does_pick_false rfl rfl) rfl rfl ?_
    refine at_do (does_assign rfl) rfl rfl ?_
    refine at_nil ?_
    refine at_then ?_
    refine at_seq ?_
    refine at_region ?_
    refine at_do (does_fieldAddr (o := 0) (by kernel_rfl) rfl) rfl rfl ?_
    refine at_do (does_load (i := 0) (by kernel_rfl) rfl rfl rfl) rfl rfl ?_
    refine at_do (does_eql rfl rfl) rfl rfl ?_
    refine at_do (does_move rfl) rfl rfl ?_
    refine at_know (t := 21) (d := true) rfl (decide_eq_true (by decide)) ?_
    refine at_on rfl rfl ?_
    refine at_do (does_fieldAddr (o := 1) (by kernel_rfl) rfl) rfl rfl ?_
    refine at_on rfl rfl ?_
    refine at_do (does_load (i := 0) (by kernel_rfl) rfl rfl rfl) rfl rfl ?_
    refine at_on rfl rfl ?_
    refine at_do (does_eql rfl rfl) rfl rfl ?_
    refine at_on rfl rfl ?_
    refine at_do (does_move rfl) rfl rfl ?_
    refine at_guardD rfl rfl (fun z1 => ?_) (fun z1 => ?_)
    refine at_no rfl rfl rfl rfl ?_
    refine at_no rfl rfl rfl rfl ?_
    refine at_no rfl rfl rfl rfl ?_
    refine at_on rfl rfl ?_
    refine at_do (does_pick_true rfl rfl) rfl rfl ?_
    refine at_do (does_pick_true rfl rfl) rfl rfl ?_
    refine at_do (does_move rfl) rfl rfl ?_
    refine at_on rfl rfl ?_
    refine at_do (does_fieldAddr (o := 2) (by kernel_rfl) rfl) rfl rfl ?_
    refine at_on rfl rfl ?_
    refine at_do (does_load (i := 0) (by kernel_rfl) rfl rfl rfl) rfl rfl ?_
    refine at_on rfl rfl ?_
    refine at_do (does_seql rfl rfl) rfl rfl ?_
    refine at_do (does_pick_true rfl rfl) rfl rfl ?_
    refine at_do (does_assign rfl) rfl rfl ?_
    refine at_nil ?_
    refine at_then ?_
    refine at_seq ?_
    refine at_region ?_
    refine at_do (does_move rfl) rfl rfl ?_
    refine at_do (does_move rfl) rfl rfl ?_
    refine at_on rfl rfl ?_
    refine at_do (does_move rfl) rfl rfl ?_
    refine at_do (does_pick_false rfl rfl) rfl rfl ?_
    refine at_do (does_move rfl) rfl rfl ?_
    refine at_guardD rfl rfl (fun z2 => ?_) (fun z2 => ?_)
    refine at_no rfl rfl rfl rfl ?_
    refine at_no rfl rfl rfl rfl ?_
    refine at_no rfl rfl rfl rfl ?_
    refine at_no rfl rfl rfl rfl ?_
    refine at_no rfl rfl rfl rfl ?_
    refine at_no rfl rfl rfl rfl ?_
    refine at_no rfl rfl rfl rfl ?_
    refine at_no rfl rfl rfl rfl ?_
    refine at_do (does_pick_true rfl rfl) rfl rfl ?_
    refine at_do (does_move rfl) rfl rfl ?_
    refine at_no rfl rfl rfl rfl ?_
    refine at_no rfl rfl rfl rfl ?_
    refine at_no rfl rfl rfl rfl ?_
    refine at_no rfl rfl rfl rfl ?_
    refine at_no rfl rfl rfl rfl ?_
    refine at_no rfl rfl rfl rfl ?_
    refine at_no rfl rfl rfl rfl ?_
    refine at_no rfl rfl rfl rfl ?_
    refine at_no rfl rfl rfl rfl ?_
    refine at_no rfl rfl rfl rfl ?_
    refine at_no rfl rfl rfl rfl ?_
    refine at_no rfl rfl rfl rfl ?_
    refine at_no rfl rfl rfl rfl ?_
    refine at_no rfl rfl rfl rfl ?_
    refine at_do (does_pick_true rfl rfl) rfl rfl ?_
    refine at_do (does_assign rfl) rfl rfl ?_
    refine at_nil ?_
    refine at_then ?_
    refine at_ret ?_
    refine at_ret1 rfl rfl rfl (fun w9 ho9 => ?_)
    rotate_left
    refine at_on rfl rfl ?_
    refine at_do (does_fieldAddr (o := 0) (by kernel_rfl) rfl) rfl rfl ?_
    refine at_on rfl rfl ?_
    refine at_do (does_load (i := 0) (by kernel_rfl) rfl rfl rfl) rfl rfl ?_
    refine at_on rfl rfl ?_
    refine at_do (does_eql rfl rfl) rfl rfl ?_
    refine at_on rfl rfl ?_
    refine at_do (does_move rfl) rfl rfl ?_
    refine at_know (t := 44) (d := false) rfl (decide_eq_false (by decide)) ?_
    refine at_no rfl rfl rfl rfl ?_
    refine at_no rfl rfl rfl rfl ?_
    refine at_no rfl rfl rfl rfl ?_
    refine at_on rfl rfl ?_
    refine at_do (does_pick_false rfl rfl) rfl rfl ?_
    refine at_do (does_pick_false rfl rfl) rfl rfl ?_
    refine at_do (does_move rfl) rfl rfl ?_
    refine at_on rfl rfl ?_
    refine at_do (does_fieldAddr (o := 0) (by kernel_rfl) rfl) rfl rfl ?_
    refine at_on rfl rfl ?_
    refine at_do (does_load (i := 0) (by kernel_rfl) rfl rfl rfl) rfl rfl ?_
    refine at_on rfl rfl ?_
    refine at_do (does_eql rfl rfl) rfl rfl ?_
    refine at_on rfl rfl ?_
    refine at_do (does_move rfl) rfl rfl ?_
    refine at_know (t := 54) (d := false) rfl (decide_eq_false (by decide)) ?_
    refine at_no rfl rfl rfl rfl ?_
    refine at_no rfl rfl rfl rfl ?_
    refine at_no rfl rfl rfl rfl ?_
    refine at_on rfl rfl ?_
    refine at_do (does_pick_false rfl rfl) rfl rfl ?_
    refine at_on rfl rfl ?_
    refine at_do (does_move rfl) rfl rfl ?_
    refine at_no rfl rfl rfl rfl ?_
    refine at_no rfl rfl rfl rfl ?_
    refine at_no rfl rfl rfl rfl ?_
    refine at_no rfl rfl rfl rfl ?_
    refine at_on rfl rfl ?_
    refine at_do (does_pick_false rfl rfl) rfl rfl ?_
    refine at_do (does_pick_false rfl rfl) rfl rfl ?_
    refine at_do (does_assign rfl) rfl rfl ?_
    refine at_nil ?_
    refine at_then ?_
    refine at_ret ?_
    refine at_ret1 rfl rfl rfl (fun w9 ho9 => ?_)
    rotate_left
    refine at_on rfl rfl ?_
    refine at_do (does_fieldAddr (o := 1) (by kernel_rfl) rfl) rfl rfl ?_
    refine at_on rfl rfl ?_
    refine at_do (does_load (i := 0) (by kernel_rfl) rfl rfl rfl) rfl rfl ?_
    refine at_on rfl rfl ?_
    refine at_do (does_eql rfl rfl) rfl rfl ?_
    refine at_on rfl rfl ?_
    refine at_do (does_pick_false rfl rfl) rfl rfl ?_
    refine at_do (does_pick_true rfl rfl) rfl rfl ?_
    refine at_do (does_move rfl) rfl rfl ?_
    refine at_guardD rfl rfl (fun z3 => ?_) (fun z3 => ?_)
    refine at_on rfl rfl ?_
    refine at_do (does_fieldAddr (o := 2) (by kernel_rfl) rfl) rfl rfl ?_
    refine at_on rfl rfl ?_
    refine at_do (does_load (i := 0) (by kernel_rfl) rfl rfl rfl) rfl rfl ?_
    refine at_on rfl rfl ?_
    refine at_do (does_seql rfl rfl) rfl rfl ?_
    refine at_do (does_pick_true rfl rfl) rfl rfl ?_
    refine at_do (does_assign rfl) rfl rfl ?_
    refine at_nil ?_
    refine at_then ?_
    refine at_seq ?_
    refine at_region ?_
    refine at_do (does_move rfl) rfl rfl ?_
    refine at_do (does_move rfl) rfl rfl ?_
    refine at_on rfl rfl ?_
    refine at_do (does_move rfl) rfl rfl ?_
    refine at_do (does_pick_false rfl rfl) rfl rfl ?_
    refine at_do (does_move rfl) rfl rfl ?_
    refine at_guardD rfl rfl (fun z4 => ?_) (fun z4 => ?_)
    refine at_no rfl rfl rfl rfl ?_
    refine at_no rfl rfl rfl rfl ?_
    refine at_no rfl rfl rfl rfl ?_
    refine at_no rfl rfl rfl rfl ?_
    refine at_no rfl rfl rfl rfl ?_
    refine at_no rfl rfl rfl rfl ?_
    refine at_no rfl rfl rfl rfl ?_
    refine at_no rfl rfl rfl rfl ?_
    refine at_do (does_pick_true rfl rfl) rfl rfl ?_
    refine at_do (does_move rfl) rfl rfl ?_
    refine at_no rfl rfl rfl rfl ?_
    refine at_no rfl rfl rfl rfl ?_
    refine at_no rfl rfl rfl rfl ?_
    refine at_no rfl rfl rfl rfl ?_
    refine at_no rfl rfl rfl rfl ?_
    refine at_no rfl rfl rfl rfl ?_
    refine at_no rfl rfl rfl rfl ?_
    refine at_no rfl rfl rfl rfl ?_
    refine at_no rfl rfl rfl rfl ?_
    refine at_no rfl rfl rfl rfl ?_
    refine at_no rfl rfl rfl rfl ?_
    refine at_no rfl rfl rfl rfl ?_
    refine at_no rfl rfl rfl rfl ?_
    refine at_no rfl rfl rfl rfl ?_
    refine at_do (does_pick_true rfl rfl) rfl rfl ?_
    refine at_do (does_assign rfl) rfl rfl ?_
    refine at_nil ?_
    refine at_then ?_
    refine at_ret ?_
    refine at_ret1 rfl rfl rfl (fun w9 ho9 => ?_)
    rotate_left
    refine at_on rfl rfl ?_
    refine at_do (does_fieldAddr (o := 0) (by kernel_rfl) rfl) rfl rfl ?_
    refine at_on rfl rfl ?_
    refine at_do (does_load (i := 0) (by kernel_rfl) rfl rfl rfl) rfl rfl ?_
    refine at_on rfl rfl ?_
    refine at_do (does_eql rfl rfl) rfl rfl ?_
    refine at_on rfl rfl ?_
    refine at_do (does_move rfl) rfl rfl ?_
    refine at_know (t := 44) (d := false) rfl (decide_eq_false (by decide)) ?_
    refine at_no rfl rfl rfl rfl ?_
    refine at_no rfl rfl rfl rfl ?_
    refine at_no rfl rfl rfl rfl ?_
    refine at_on rfl rfl ?_
    refine at_do (does_pick_false rfl rfl) rfl rfl ?_
    refine at_do (does_pick_false rfl rfl) rfl rfl ?_
    refine at_do (does_move rfl) rfl rfl ?_
    refine at_on rfl rfl ?_
    refine at_do (does_fieldAddr (o := 0) (by kernel_rfl) rfl) rfl rfl ?_
    refine at_on rfl rfl ?_
    refine at_do (does_load (i := 0) (by kernel_rfl) rfl rfl rfl) rfl rfl ?_
    refine at_on rfl rfl ?_
    refine at_do (does_eql rfl rfl) rfl rfl ?_
    refine at_on rfl rfl ?_
    refine at_do (does_move rfl) rfl rfl ?_
    refine at_know (t := 54) (d := false) rfl (decide_eq_false (by decide)) ?_
    refine at_no rfl rfl rfl rfl ?_
    refine at_no rfl rfl rfl rfl ?_
    refine at_no rfl rfl rfl rfl ?_
    refine at_on rfl rfl ?_
    refine at_do (does_pick_false rfl rfl) rfl rfl ?_
    refine at_on rfl rfl ?_
    refine at_do (does_move rfl) rfl rfl ?_
    refine at_no rfl rfl rfl rfl ?_
    refine at_no rfl rfl rfl rfl ?_
    refine at_no rfl rfl rfl rfl ?_
    refine at_no rfl rfl rfl rfl ?_
    refine at_on rfl rfl ?_
    refine at_do (does_pick_false rfl rfl) rfl rfl ?_
    refine at_do (does_pick_false rfl rfl) rfl rfl ?_
    refine at_do (does_assign rfl) rfl rfl ?_
    refine at_nil ?_
    refine at_then ?_
    refine at_ret ?_
    refine at_ret1 rfl rfl rfl (fun w9 ho9 => ?_)
    rotate_left
    refine at_no rfl rfl rfl rfl ?_
    refine at_no rfl rfl rfl rfl ?_
    refine at_no rfl rfl rfl rfl ?_
    refine at_do (does_pick_false rfl rfl) rfl rfl ?_
    refine at_do (does_assign rfl) rfl rfl ?_
    refine at_nil ?_
    refine at_then ?_
    refine at_seq ?_
    refine at_region ?_
    refine at_do (does_move rfl) rfl rfl ?_
    refine at_do (does_move rfl) rfl rfl ?_
    refine at_on rfl rfl ?_
    refine at_do (does_move rfl) rfl rfl ?_
    refine at_do (does_pick_false rfl rfl) rfl rfl ?_
    refine at_do (does_move rfl) rfl rfl ?_
    refine at_on rfl rfl ?_
    refine at_do (does_fieldAddr (o := 0) (by kernel_rfl) rfl) rfl rfl ?_
    refine at_on rfl rfl ?_
    refine at_do (does_load (i := 0) (by kernel_rfl) rfl rfl rfl) rfl rfl ?_
    refine at_on rfl rfl ?_
    refine at_do (does_eql rfl rfl) rfl rfl ?_
    refine at_on rfl rfl ?_
    refine at_do (does_move rfl) rfl rfl ?_
    refine at_know (t := 44) (d := false) rfl (decide_eq_false (by decide)) ?_
    refine at_no rfl rfl rfl rfl ?_
    refine at_no rfl rfl rfl rfl ?_
    refine at_no rfl rfl rfl rfl ?_
    refine at_on rfl rfl ?_
    refine at_do (does_pick_false rfl rfl) rfl rfl ?_
    refine at_do (does_pick_false rfl rfl) rfl rfl ?_
    refine at_do (does_move rfl) rfl rfl ?_
    refine at_on rfl rfl ?_
    refine at_do (does_fieldAddr (o := 0) (by kernel_rfl) rfl) rfl rfl ?_
    refine at_on rfl rfl ?_
    refine at_do (does_load (i := 0) (by kernel_rfl) rfl rfl rfl) rfl rfl ?_
    refine at_on rfl rfl ?_
    refine at_do (does_eql rfl rfl) rfl rfl ?_
    refine at_on rfl rfl ?_
    refine at_do (does_move rfl) rfl rfl ?_
    refine at_know (t := 54) (d := false) rfl (decide_eq_false (by decide)) ?_
    refine at_no rfl rfl rfl rfl ?_
    refine at_no rfl rfl rfl rfl ?_
    refine at_no rfl rfl rfl rfl ?_
    refine at_on rfl rfl ?_
    refine at_do (does_pick_false rfl rfl) rfl rfl ?_
    refine at_on rfl rfl ?_
    refine at_do (does_move rfl) rfl rfl ?_
    refine at_no rfl rfl rfl rfl ?_
    refine at_no rfl rfl rfl rfl ?_
    refine at_no rfl rfl rfl rfl ?_
    refine at_no rfl rfl rfl rfl ?_
    refine at_on rfl rfl ?_
    refine at_do (does_pick_false rfl rfl) rfl rfl ?_
    refine at_do (does_pick_false rfl rfl) rfl rfl ?_
    refine at_do (does_assign rfl) rfl rfl ?_
    refine at_nil ?_
    refine at_then ?_
    refine at_ret ?_
    refine at_ret1 rfl rfl rfl (fun w9 ho9 => ?_)
    rotate_left
    all_goals
      refine ⟨ret_bool ?_, ho9.plain⟩
      rw [Bool.eq_iff_iff]
      first | (simp_all [mayV]; done) | (simp_all [mayV]; omega)
  by_cases h2 : k = 2
  · subst h2
    refine at_seq ?_
    refine at_region ?_
    refine at_boxagg rfl rfl fun gz0 => ?_
    refine at_do (does_assign rfl) rfl rfl ?_
    refine at_nil ?_
    refine at_then ?_
    refine at_seq ?_
    refine at_region ?_
    refine at_do (does_fieldAddr (o := 0) (by kernel_rfl) rfl) rfl rfl ?_
    refine at_do (does_load (i := 0) (by kernel_rfl) rfl rfl rfl) rfl rfl ?_
    refine at_do (does_eql rfl rfl) rfl rfl ?_
    refine at_do (does_move rfl) rfl rfl ?_
    refine at_know (t := 8) (d := false) rfl (decide_eq_false (by decide)) ?_
    refine at_no rfl rfl rfl rfl ?_
    refine at_no rfl rfl rfl rfl ?_
    refine at_no rfl rfl rfl rfl ?_
    refine at_do (does_pick_false rfl rfl) rfl rfl ?_
    refine at_do (does_move rfl) rfl rfl ?_
    refine at_no rfl rfl rfl rfl ?_
    refine at_no rfl rfl rfl rfl ?_
    refine at_no rfl rfl rfl rfl ?_
    refine at_do (does_pick_false rfl rfl) rfl rfl ?_
    refine at_do (does_assign rfl) rfl rfl ?_
    refine at_nil ?_
    refine at_then ?_
    refine at_seq ?_
    refine at_region ?_
    refine at_do (does_fieldAddr (o := 0) (by kernel_rfl) rfl) rfl rfl ?_
    refine at_do (does_load (i := 0) (by kernel_rfl) rfl rfl rfl) rfl rfl ?_
    refine at_do (does_eql rfl rfl) rfl rfl ?_
    refine at_do (does_move rfl) rfl rfl ?_
    refine at_know (t := 21) (d := false) rfl (decide_eq_false (by decide)) ?_
    refine at_no rfl rfl rfl rfl ?_
    refine at_no rfl rfl rfl rfl ?_
    refine at_no rfl rfl rfl rfl ?_
    refine at_no rfl rfl rfl rfl ?_
    refine at_no rfl rfl rfl rfl ?_
    refine at_no rfl rfl rfl rfl ?_
    refine at_no rfl rfl rfl rfl ?_
    refine at_no rfl rfl rfl rfl ?_
    refine at_do (does_pick_false rfl rfl) rfl rfl ?_
    refine at_do (does_move rfl) rfl rfl ?_
    refine at_no rfl rfl rfl rfl ?_
    refine at_no rfl rfl rfl rfl ?_
    refine at_no rfl rfl rfl rfl ?_
    refine at_do (does_pick_false rfl rfl) rfl rfl ?_
    refine at_do (does_assign rfl) rfl rfl ?_
    refine at_nil ?_
    refine at_then ?_
    refine at_seq ?_
    refine at_region ?_
    refine at_do (does_move rfl) rfl rfl ?_
    refine at_do (does_move rfl) rfl rfl ?_
    refine at_on rfl rfl ?_
    refine at_do (does_move rfl) rfl rfl ?_
    refine at_do (does_pick_false rfl rfl) rfl rfl ?_
    refine at_do (does_move rfl) rfl rfl ?_
    refine at_on rfl rfl ?_
    refine at_do (does_fieldAddr (o := 0) (by kernel_rfl) rfl) rfl rfl ?_
    refine at_on rfl rfl ?_
    refine at_do (does_load (i := 0) (by kernel_rfl) rfl rfl rfl) rfl rfl ?_
    refine at_on rfl rfl ?_
    refine at_do (does_eql rfl rfl) rfl rfl ?_
    refine at_on rfl rfl ?_
    refine at_do (does_move rfl) rfl rfl ?_
    refine at_know (t := 44) (d := true) rfl (decide_eq_true (by decide)) ?_
    refine at_on rfl rfl ?_
    refine at_do (does_fieldAddr (o := 2) (by kernel_rfl) rfl) rfl rfl ?_
    refine at_on rfl rfl ?_
    refine at_do (does_load (i := 0) (by kernel_rfl) rfl rfl rfl) rfl rfl ?_
    refine at_on rfl rfl ?_
    refine at_do (does_seql rfl rfl) rfl rfl ?_
    refine at_on rfl rfl ?_
    refine at_do (does_pick_true rfl rfl) rfl rfl ?_
    refine at_do (does_pick_false rfl rfl) rfl rfl ?_
    refine at_do (does_move rfl) rfl rfl ?_
    refine at_guardD rfl rfl (fun z1 => ?_) (fun z1 => ?_)
    refine at_no rfl rfl rfl rfl ?_
    refine at_no rfl rfl rfl rfl ?_
    refine at_no rfl rfl rfl rfl ?_
    refine at_no rfl rfl rfl rfl ?_
    refine at_no rfl rfl rfl rfl ?_
    refine at_no rfl rfl rfl rfl ?_
    refine at_no rfl rfl rfl rfl ?_
    refine at_no rfl rfl rfl rfl ?_
    refine at_no rfl rfl rfl rfl ?_
    refine at_no rfl rfl rfl rfl ?_
    refine at_no rfl rfl rfl rfl ?_
    refine at_no rfl rfl rfl rfl ?_
    refine at_no rfl rfl rfl rfl ?_
    refine at_no rfl rfl rfl rfl ?_
    refine at_do (does_pick_true rfl rfl) rfl rfl ?_
    refine at_do (does_assign rfl) rfl rfl ?_
    refine at_nil ?_
    refine at_then ?_
    refine at_ret ?_
    refine at_ret1 rfl rfl rfl (fun w9 ho9 => ?_)
    rotate_left
    refine at_on rfl rfl ?_
    refine at_do (does_fieldAddr (o := 0) (by kernel_rfl) rfl) rfl rfl ?_
    refine at_on rfl rfl ?_
    refine at_do (does_load (i := 0) (by kernel_rfl) rfl rfl rfl) rfl rfl ?_
    refine at_on rfl rfl ?_
    refine at_do (does_eql rfl rfl) rfl rfl ?_
    refine at_on rfl rfl ?_
    refine at_do (does_move rfl) rfl rfl ?_
    refine at_know (t := 54) (d := false) rfl (decide_eq_false (by decide)) ?_
    refine at_no rfl rfl rfl rfl ?_
    refine at_no rfl rfl rfl rfl ?_
    refine at_no rfl rfl rfl rfl ?_
    refine at_on rfl rfl ?_
    refine at_do (does_pick_false rfl rfl) rfl rfl ?_
    refine at_on rfl rfl ?_
    refine at_do (does_move rfl) rfl rfl ?_
    refine at_no rfl rfl rfl rfl ?_
    refine at_no rfl rfl rfl rfl ?_
    refine at_no rfl rfl rfl rfl ?_
    refine at_no rfl rfl rfl rfl ?_
    refine at_on rfl rfl ?_
    refine at_do (does_pick_false rfl rfl) rfl rfl ?_
    refine at_do (does_pick_false rfl rfl) rfl rfl ?_
    refine at_do (does_assign rfl) rfl rfl ?_
    refine at_nil ?_
    refine at_then ?_
    refine at_ret ?_
    refine at_ret1 rfl rfl rfl (fun w9 ho9 => ?_)
    rotate_left
    all_goals
      refine ⟨ret_bool ?_, ho9.plain⟩
      rw [Bool.eq_iff_iff]
      first | (simp_all [mayV]; done) | (simp_all [mayV]; omega)
  by_cases h3 : k = 3
  · subst h3
    refine at_seq ?_
    refine at_region ?_
    refine at_boxagg rfl rfl fun gz0 => ?_
    refine at_do (does_assign rfl) rfl rfl ?_
    refine at_nil ?_
    refine at_then ?_
    refine at_seq ?_
    refine at_region ?_
    refine at_do (does_fieldAddr (o := 0) (by kernel_rfl) rfl) rfl rfl ?_
    refine at_do (does_load (i := 0) (by kernel_rfl) rfl rfl rfl) rfl rfl ?_
    refine at_do (does_eql rfl rfl) rfl rfl ?_
    refine at_do (does_move rfl) rfl rfl ?_
    refine at_know (t := 8) (d := false) rfl (decide_eq_false (by decide)) ?_
    refine at_no rfl rfl rfl rfl ?_
    refine at_no rfl rfl rfl rfl ?_
    refine at_no rfl rfl rfl rfl ?_
    refine at_do (does_pick_false rfl rfl) rfl rfl ?_
    refine at_do (does_move rfl) rfl rfl ?_
    refine at_no rfl rfl rfl rfl ?_
    refine at_no rfl rfl rfl rfl ?_
    refine at_no rfl rfl rfl rfl ?_
    refine at_do (does_pick_false rfl rfl) rfl rfl ?_
    refine at_do (does_assign rfl) rfl rfl ?_
    refine at_nil ?_
    refine at_then ?_
    refine at_seq ?_
    refine at_region ?_
    refine at_do (does_fieldAddr (o := 0) (by kernel_rfl) rfl) rfl rfl ?_
    refine at_do (does_load (i := 0) (by kernel_rfl) rfl rfl rfl) rfl rfl ?_
    refine at_do (does_eql rfl rfl) rfl rfl ?_
    refine at_do (does_move rfl) rfl rfl ?_
    refine at_know (t := 21) (d := false) rfl (decide_eq_false (by decide)) ?_
    refine at_no rfl rfl rfl rfl ?_
    refine at_no rfl rfl rfl rfl ?_
    refine at_no rfl rfl rfl rfl ?_
    refine at_no rfl rfl rfl rfl ?_
    refine at_no rfl rfl rfl rfl ?_
    refine at_no rfl rfl rfl rfl ?_
    refine at_no rfl rfl rfl rfl ?_
    refine at_no rfl rfl rfl rfl ?_
    refine at_do (does_pick_false rfl rfl) rfl rfl ?_
    refine at_do (does_move rfl) rfl rfl ?_
    refine at_no rfl rfl rfl rfl ?_
    refine at_no rfl rfl rfl rfl ?_
    refine at_no rfl rfl rfl rfl ?_
    refine at_do (does_pick_false rfl rfl) rfl rfl ?_
    refine at_do (does_assign rfl) rfl rfl ?_
    refine at_nil ?_
    refine at_then ?_
    refine at_seq ?_
    refine at_region ?_
    refine at_do (does_move rfl) rfl rfl ?_
    refine at_do (does_move rfl) rfl rfl ?_
    refine at_on rfl rfl ?_
    refine at_do (does_move rfl) rfl rfl ?_
    refine at_do (does_pick_false rfl rfl) rfl rfl ?_
    refine at_do (does_move rfl) rfl rfl ?_
    refine at_on rfl rfl ?_
    refine at_do (does_fieldAddr (o := 0) (by kernel_rfl) rfl) rfl rfl ?_
    refine at_on rfl rfl ?_
    refine at_do (does_load (i := 0) (by kernel_rfl) rfl rfl rfl) rfl rfl ?_
    refine at_on rfl rfl ?_
    refine at_do (does_eql rfl rfl) rfl rfl ?_
    refine at_on rfl rfl ?_
    refine at_do (does_move rfl) rfl rfl ?_
    refine at_know (t := 44) (d := false) rfl (decide_eq_false (by decide)) ?_
    refine at_no rfl rfl rfl rfl ?_
    refine at_no rfl rfl rfl rfl ?_
    refine at_no rfl rfl rfl rfl ?_
    refine at_on rfl rfl ?_
    refine at_do (does_pick_false rfl rfl) rfl rfl ?_
    refine at_do (does_pick_false rfl rfl) rfl rfl ?_
    refine at_do (does_move rfl) rfl rfl ?_
    refine at_on rfl rfl ?_
    refine at_do (does_fieldAddr (o := 0) (by kernel_rfl) rfl) rfl rfl ?_
    refine at_on rfl rfl ?_
    refine at_do (does_load (i := 0) (by kernel_rfl) rfl rfl rfl) rfl rfl ?_
    refine at_on rfl rfl ?_
    refine at_do (does_eql rfl rfl) rfl rfl ?_
    refine at_on rfl rfl ?_
    refine at_do (does_move rfl) rfl rfl ?_
    refine at_know (t := 54) (d := true) rfl (decide_eq_true (by decide)) ?_
    refine at_on rfl rfl ?_
    refine at_do (does_fieldAddr (o := 1) (by kernel_rfl) rfl) rfl rfl ?_
    refine at_on rfl rfl ?_
    refine at_do (does_load (i := 0) (by kernel_rfl) rfl rfl rfl) rfl rfl ?_
    refine at_on rfl rfl ?_
    refine at_do (does_eql rfl rfl) rfl rfl ?_
    refine at_on rfl rfl ?_
    refine at_do (does_pick_true rfl rfl) rfl rfl ?_
    refine at_on rfl rfl ?_
    refine at_do (does_move rfl) rfl rfl ?_
    refine at_guardD rfl rfl (fun z1 => ?_) (fun z1 => ?_)
    refine at_on rfl rfl ?_
    refine at_do (does_fieldAddr (o := 2) (by kernel_rfl) rfl) rfl rfl ?_
    refine at_on rfl rfl ?_
    refine at_do (does_load (i := 0) (by kernel_rfl) rfl rfl rfl) rfl rfl ?_
    refine at_on rfl rfl ?_
    refine at_do (does_slen (by kernel_rfl) rfl) rfl rfl ?_
    refine at_on rfl rfl ?_
    refine at_do (does_leq rfl rfl) rfl rfl ?_
    refine at_on rfl rfl ?_
    refine at_do (does_pick_true rfl rfl) rfl rfl ?_
    refine at_do (does_pick_false rfl rfl) rfl rfl ?_
    refine at_do (does_assign rfl) rfl rfl ?_
    refine at_nil ?_
    refine at_then ?_
    refine at_ret ?_
    refine at_ret1 rfl rfl rfl (fun w9 ho9 => ?_)
    rotate_left
    refine at_no rfl rfl rfl rfl ?_
    refine at_no rfl rfl rfl rfl ?_
    refine at_no rfl rfl rfl rfl ?_
    refine at_no rfl rfl rfl rfl ?_
    refine at_on rfl rfl ?_
    refine at_do (does_pick_false rfl rfl) rfl rfl ?_
    refine at_do (does_pick_false rfl rfl) rfl rfl ?_
    refine at_do (does_assign rfl) rfl rfl ?_
    refine at_nil ?_
    refine at_then ?_
    refine at_ret ?_
    refine at_ret1 rfl rfl rfl (fun w9 ho9 => ?_)
    rotate_left
    all_goals
      refine ⟨ret_bool ?_, ho9.plain⟩
      rw [Bool.eq_iff_iff]
      first | (simp_all [mayV]; done) | (simp_all [mayV]; omega)
  refine at_seq ?_
  refine at_region ?_
  refine at_boxagg rfl rfl fun gz0 => ?_
  refine at_do (does_assign rfl) rfl rfl ?_
  refine at_nil ?_
  refine at_then ?_
  refine at_seq ?_
  refine at_region ?_
  refine at_do (does_fieldAddr (o := 0) (by kernel_rfl) rfl) rfl rfl ?_
  refine at_do (does_load (i := 0) (by kernel_rfl) rfl rfl rfl) rfl rfl ?_
  refine at_do (does_eql rfl rfl) rfl rfl ?_
  refine at_do (does_move rfl) rfl rfl ?_
  refine at_know (t := 8) (d := false) rfl (decide_eq_false (by assumption)) ?_
  refine at_no rfl rfl rfl rfl ?_
  refine at_no rfl rfl rfl rfl ?_
  refine at_no rfl rfl rfl rfl ?_
  refine at_do (does_pick_false rfl rfl) rfl rfl ?_
  refine at_do (does_move rfl) rfl rfl ?_
  refine at_no rfl rfl rfl rfl ?_
  refine at_no rfl rfl rfl rfl ?_
  refine at_no rfl rfl rfl rfl ?_
  refine at_do (does_pick_false rfl rfl) rfl rfl ?_
  refine at_do (does_assign rfl) rfl rfl ?_
  refine at_nil ?_
  refine at_then ?_
  refine at_seq ?_
  refine at_region ?_
  refine at_do (does_fieldAddr (o := 0) (by kernel_rfl) rfl) rfl rfl ?_
  refine at_do (does_load (i := 0) (by kernel_rfl) rfl rfl rfl) rfl rfl ?_
  refine at_do (does_eql rfl rfl) rfl rfl ?_
  refine at_do (does_move rfl) rfl rfl ?_
  refine at_know (t := 21) (d := false) rfl (decide_eq_false (by assumption)) ?_
  refine at_no rfl rfl rfl rfl ?_
  refine at_no rfl rfl rfl rfl ?_
  refine at_no rfl rfl rfl rfl ?_
  refine at_no rfl rfl rfl rfl ?_
  refine at_no rfl rfl rfl rfl ?_
  refine at_no rfl rfl rfl rfl ?_
  refine at_no rfl rfl rfl rfl ?_
  refine at_no rfl rfl rfl rfl ?_
  refine at_do (does_pick_false rfl rfl) rfl rfl ?_
  refine at_do (does_move rfl) rfl rfl ?_
  refine at_no rfl rfl rfl rfl ?_
  refine at_no rfl rfl rfl rfl ?_
  refine at_no rfl rfl rfl rfl ?_
  refine at_do (does_pick_false rfl rfl) rfl rfl ?_
  refine at_do (does_assign rfl) rfl rfl ?_
  refine at_nil ?_
  refine at_then ?_
  refine at_seq ?_
  refine at_region ?_
  refine at_do (does_move rfl) rfl rfl ?_
  refine at_do (does_move rfl) rfl rfl ?_
  refine at_on rfl rfl ?_
  refine at_do (does_move rfl) rfl rfl ?_
  refine at_do (does_pick_false rfl rfl) rfl rfl ?_
  refine at_do (does_move rfl) rfl rfl ?_
  refine at_on rfl rfl ?_
  refine at_do (does_fieldAddr (o := 0) (by kernel_rfl) rfl) rfl rfl ?_
  refine at_on rfl rfl ?_
  refine at_do (does_load (i := 0) (by kernel_rfl) rfl rfl rfl) rfl rfl ?_
  refine at_on rfl rfl ?_
  refine at_do (does_eql rfl rfl) rfl rfl ?_
  refine at_on rfl rfl ?_
  refine at_do (does_move rfl) rfl rfl ?_
  refine at_know (t := 44) (d := false) rfl (decide_eq_false (by assumption)) ?_
  refine at_no rfl rfl rfl rfl ?_
  refine at_no rfl rfl rfl rfl ?_
  refine at_no rfl rfl rfl rfl ?_
  refine at_on rfl rfl ?_
  refine at_do (does_pick_false rfl rfl) rfl rfl ?_
  refine at_do (does_pick_false rfl rfl) rfl rfl ?_
  refine at_do (does_move rfl) rfl rfl ?_
  refine at_on rfl rfl ?_
  refine at_do (does_fieldAddr (o := 0) (by kernel_rfl) rfl) rfl rfl ?_
  refine at_on rfl rfl ?_
  refine at_do (does_load (i := 0) (by kernel_rfl) rfl rfl rfl) rfl rfl ?_
  refine at_on rfl rfl ?_
  refine at_do (does_eql rfl rfl) rfl rfl ?_
  refine at_on rfl rfl ?_
  refine at_do (does_move rfl) rfl rfl ?_
  refine at_know (t := 54) (d := false) rfl (decide_eq_false (by assumption)) ?_
  refine at_no rfl rfl rfl rfl ?_
  refine at_no rfl rfl rfl rfl ?_
  refine at_no rfl rfl rfl rfl ?_
  refine at_on rfl rfl ?_
  refine at_do (does_pick_false rfl rfl) rfl rfl ?_
  refine at_on rfl rfl ?_
  refine at_do (does_move rfl) rfl rfl ?_
  refine at_no rfl rfl rfl rfl ?_
  refine at_no rfl rfl rfl rfl ?_
  refine at_no rfl rfl rfl rfl ?_
  refine at_no rfl rfl rfl rfl ?_
  refine at_on rfl rfl ?_
  refine at_do (does_pick_false rfl rfl) rfl rfl ?_
  refine at_do (does_pick_false rfl rfl) rfl rfl ?_
  refine at_do (does_assign rfl) rfl rfl ?_
  refine at_nil ?_
  refine at_then ?_
  refine at_ret ?_
  refine at_ret1 rfl rfl rfl (fun w9 ho9 => ?_)
  rotate_left
  all_goals
    refine ⟨ret_bool ?_, ho9.plain⟩
    rw [Bool.eq_iff_iff]
    first | (simp_all [mayV]; done) | (simp_all [mayV]; omega)
theorem shapeVal : shapeOf Tryd.prog 41 = some ([.int .i64 0, .int .i64 0, .string (bs [])], [(0, 1), (1, 1), (2, 1)]) := by kernel_rfl
theorem value_Int (n : Int) (w : World) : Calls Tryd.prog 29 #[.int .i64 n] w fun e w' => e = .returned (.agg (valC 2 n [])) ∧ Below w.heap.size w w' := by
  refine calls_plain Tryd.func29 rfl Tryd.ntmps29 rfl ?_
  refine at_seq ?_
  refine at_region ?_
  refine at_allocagg Tryd.zeroValue41 rfl fun gz0 => ?_
  refine at_nil ?_
  refine at_then ?_
  refine at_seq ?_
  refine at_region ?_
  refine at_do (does_move rfl) rfl rfl ?_
  refine at_do (does_build (cs := [.int .i64 2, .int .i64 n, .string (bs [])]) shapeVal rfl rfl) rfl rfl ?_
  refine at_storeagg (i := 0) (by kernel_rfl) rfl rfl rfl rfl rfl ?_
  refine at_nil ?_
  refine at_then ?_
  refine at_ret ?_
  refine at_retagg (i := 0) rfl rfl rfl (by kernel_rfl) rfl (fun w9 ho9 => ?_)
  rotate_left
  exact ⟨rfl, ho9.plain⟩
theorem ref_Int (n : Int) (w : World) : Calls Tryd.prog 34 #[.int .i64 n] w fun e w' => e = .returned (.agg (valC 2 n [])) ∧ Below w.heap.size w w' := by
  refine calls_plain Tryd.func34 rfl Tryd.ntmps34 rfl ?_
  refine at_seq ?_
  refine at_region ?_
  refine at_allocagg Tryd.zeroValue41 rfl fun gz0 => ?_
  refine at_nil ?_
  refine at_then ?_
  refine at_seq ?_
  refine at_region ?_
  refine at_do (does_move rfl) rfl rfl ?_
  refine at_do (does_build (cs := [.int .i64 2, .int .i64 n, .string (bs [])]) shapeVal rfl rfl) rfl rfl ?_
  refine at_storeagg (i := 0) (by kernel_rfl) rfl rfl rfl rfl rfl ?_
  refine at_nil ?_
  refine at_then ?_
  refine at_ret ?_
  refine at_retagg (i := 0) rfl rfl rfl (by kernel_rfl) rfl (fun w9 ho9 => ?_)
  rotate_left
  exact ⟨rfl, ho9.plain⟩
def mayI (x : Itm) : Bool := isK x.key && mayV x.kind x.num x.txt && decide (x.kind ≠ 0) && decide (0 ≤ x.ver) && decide (x.ver ≤ 2147483647)
theorem leaf_may (x : Itm) (w : World) (hG : Glob w) : Calls Tryd.prog 106 #[itmA x] w fun e w' => e = .returned (.bool (mayI x)) ∧ Below w.heap.size w w' := by
  refine calls_plain Tryd.func106 rfl Tryd.ntmps106 rfl ?_
  cases h1 : isK x.key
  · refine at_seq ?_
    refine at_region ?_
    refine at_boxagg rfl rfl fun gz0 => ?_
    refine at_do (does_assign rfl) rfl rfl ?_
    refine at_nil ?_
    refine at_then ?_
    refine at_seq ?_
    refine at_region ?_
    refine at_do (does_fieldAddr (o := 0) (by kernel_rfl) rfl) rfl rfl ?_
    refine at_do (does_load (i := 0) (by kernel_rfl) rfl rfl rfl) rfl rfl ?_
    refine at_callv (f := 107) (enters_fn (by kernel_rfl) rfl) (fun w ho => key_Is x.key w (ho.glob hG id)) rfl rfl ?_
    refine at_do (does_move rfl) rfl rfl ?_
    refine at_know (t := 6) (d := false) rfl (by exact h1) ?_
    refine at_no rfl rfl rfl rfl ?_
    refine at_no rfl rfl rfl rfl ?_
    refine at_no rfl rfl rfl rfl ?_
    refine at_do (does_pick_false rfl rfl) rfl rfl ?_
    refine at_do (does_move rfl) rfl rfl ?_
    refine at_no rfl rfl rfl rfl ?_
    refine at_no rfl rfl rfl rfl ?_
    refine at_no rfl rfl rfl rfl ?_
    refine at_no rfl rfl rfl rfl ?_
    refine at_do (does_pick_false rfl rfl) rfl rfl ?_
    refine at_do (does_move rfl) rfl rfl ?_
    refine at_no rfl rfl rfl rfl ?_
    refine at_no rfl rfl rfl rfl ?_
    refine at_no rfl rfl rfl rfl ?_
    refine at_do (does_pick_false rfl rfl) rfl rfl ?_
    refine at_do (does_move rfl) rfl rfl ?_
    refine at_no rfl rfl rfl rfl ?_
    refine at_no rfl rfl rfl rfl ?_
    refine at_no rfl rfl rfl rfl ?_
    refine at_do (does_pick_false rfl rfl) rfl rfl ?_
    refine at_do (does_assign rfl) rfl rfl ?_
    refine at_nil ?_
    refine at_then ?_
    refine at_ret ?_
    refine at_ret1 rfl rfl rfl (fun w9 ho9 => ?_)
    rotate_left
    exact ⟨ret_bool (by simp [mayI, h1]), ho9.plain⟩
  cases h2 : mayV x.kind x.num x.txt
  · refine at_seq ?_
    refine at_region ?_
    refine at_boxagg rfl rfl fun gz0 => ?_
    refine at_do (does_assign rfl) rfl rfl ?_
    refine at_nil ?_
    refine at_then ?_
    refine at_seq ?_
    refine at_region ?_
    refine at_do (does_fieldAddr (o := 0) (by kernel_rfl) rfl) rfl rfl ?_
    refine at_do (does_load (i := 0) (by kernel_rfl) rfl rfl rfl) rfl rfl ?_
    refine at_callv (f := 107) (enters_fn (by kernel_rfl) rfl) (fun w ho => key_Is x.key w (ho.glob hG id)) rfl rfl ?_
    refine at_do (does_move rfl) rfl rfl ?_
    refine at_know (t := 6) (d := true) rfl (by exact h1) ?_
    refine at_on rfl rfl ?_
    refine at_do (does_fieldAddr (o := 1) (by kernel_rfl) rfl) rfl rfl ?_
    refine at_on rfl rfl ?_
    refine at_do (does_loadpart (i := 0) (j := 0 + 1) (vs := [.int .i64 x.kind, .int .i64 x.num, .string (bs x.txt)]) (by kernel_rfl) rfl rfl rfl) rfl rfl ?_
    refine at_on rfl rfl ?_
    refine at_callv (f := 71) (enters_fn (by kernel_rfl) rfl) (fun w ho => value_May x.kind x.num x.txt w) rfl rfl ?_
    refine at_do (does_pick_true rfl rfl) rfl rfl ?_
    refine at_do (does_move rfl) rfl rfl ?_
    refine at_know (t := 11) (d := false) rfl (by exact h2) ?_
    refine at_no rfl rfl rfl rfl ?_
    refine at_no rfl rfl rfl rfl ?_
    refine at_no rfl rfl rfl rfl ?_
    refine at_no rfl rfl rfl rfl ?_
    refine at_do (does_pick_false rfl rfl) rfl rfl ?_
    refine at_do (does_move rfl) rfl rfl ?_
    refine at_no rfl rfl rfl rfl ?_
    refine at_no rfl rfl rfl rfl ?_
    refine at_no rfl rfl rfl rfl ?_
    refine at_do (does_pick_false rfl rfl) rfl rfl ?_
    refine at_do (does_move rfl) rfl rfl ?_
    refine at_no rfl rfl rfl rfl ?_
    refine at_no rfl rfl rfl rfl ?_
    refine at_no rfl rfl rfl rfl ?_
    refine at_do (does_pick_false rfl rfl) rfl rfl ?_
    refine at_do (does_assign rfl) rfl rfl ?_
    refine at_nil ?_
    refine at_then ?_
    refine at_ret ?_
    refine at_ret1 rfl rfl rfl (fun w9 ho9 => ?_)
    rotate_left
    exact ⟨ret_bool (by simp [mayI, h1, h2]), ho9.plain⟩
  refine at_seq ?_
  refine at_region ?_
  refine at_boxagg rfl rfl fun gz0 => ?_
  refine at_do (does_assign rfl) rfl rfl ?_
  refine at_nil ?_
  refine at_then ?_
  refine at_seq ?_
  refine at_region ?_
  refine at_do (does_fieldAddr (o := 0) (by kernel_rfl) rfl) rfl rfl ?_
  refine at_do (does_load (i := 0) (by kernel_rfl) rfl rfl rfl) rfl rfl ?_
  refine at_callv (f := 107) (enters_fn (by kernel_rfl) rfl) (fun w ho => key_Is x.key w (ho.glob hG id)) rfl rfl ?_
  refine at_do (does_move rfl) rfl rfl ?_
  refine at_know (t := 6) (d := true) rfl (by exact h1) ?_
  refine at_on rfl rfl ?_
  refine at_do (does_fieldAddr (o := 1) (by kernel_rfl) rfl) rfl rfl ?_
  refine at_on rfl rfl ?_
  refine at_do (does_loadpart (i := 0) (j := 0 + 1) (vs := [.int .i64 x.kind, .int .i64 x.num, .string (bs x.txt)]) (by kernel_rfl) rfl rfl rfl) rfl rfl ?_
  refine at_on rfl rfl ?_
  refine at_callv (f := 71) (enters_fn (by kernel_rfl) rfl) (fun w ho => value_May x.kind x.num x.txt w) rfl rfl ?_
  refine at_do (does_pick_true rfl rfl) rfl rfl ?_
  refine at_do (does_move rfl) rfl rfl ?_
  refine at_know (t := 11) (d := true) rfl (by exact h2) ?_
  refine at_on rfl rfl ?_
  refine at_do (does_fieldAddr (o := 1) (by kernel_rfl) rfl) rfl rfl ?_
  refine at_on rfl rfl ?_
  refine at_do (does_fieldAddr (o := 0) (by kernel_rfl) rfl) rfl rfl ?_
  refine at_on rfl rfl ?_
  refine at_do (does_load (i := 0) (by kernel_rfl) rfl rfl rfl) rfl rfl ?_
  refine at_on rfl rfl ?_
  refine at_do (does_neq rfl rfl) rfl rfl ?_
  refine at_do (does_pick_true rfl rfl) rfl rfl ?_
  refine at_do (does_move rfl) rfl rfl ?_
  refine at_guardD rfl rfl (fun z1 => ?_) (fun z1 => ?_)
  refine at_on rfl rfl ?_
  refine at_do (does_fieldAddr (o := 4) (by kernel_rfl) rfl) rfl rfl ?_
  refine at_on rfl rfl ?_
  refine at_do (does_load (i := 0) (by kernel_rfl) rfl rfl rfl) rfl rfl ?_
  refine at_on rfl rfl ?_
  refine at_do (does_geq rfl rfl) rfl rfl ?_
  refine at_do (does_pick_true rfl rfl) rfl rfl ?_
  refine at_do (does_move rfl) rfl rfl ?_
  refine at_guardD rfl rfl (fun z2 => ?_) (fun z2 => ?_)
  refine at_on rfl rfl ?_
  refine at_do (does_fieldAddr (o := 4) (by kernel_rfl) rfl) rfl rfl ?_
  refine at_on rfl rfl ?_
  refine at_do (does_load (i := 0) (by kernel_rfl) rfl rfl rfl) rfl rfl ?_
  refine at_on rfl rfl ?_
  refine at_do (does_leq rfl rfl) rfl rfl ?_
  refine at_do (does_pick_true rfl rfl) rfl rfl ?_
  refine at_do (does_assign rfl) rfl rfl ?_
  refine at_nil ?_
  refine at_then ?_
  refine at_ret ?_
  refine at_ret1 rfl rfl rfl (fun w9 ho9 => ?_)
  rotate_left
  refine at_no rfl rfl rfl rfl ?_
  refine at_no rfl rfl rfl rfl ?_
  refine at_no rfl rfl rfl rfl ?_
  refine at_do (does_pick_false rfl rfl) rfl rfl ?_
  refine at_do (does_assign rfl) rfl rfl ?_
  refine at_nil ?_
  refine at_then ?_
  refine at_ret ?_
  refine at_ret1 rfl rfl rfl (fun w9 ho9 => ?_)
  rotate_left
  refine at_no rfl rfl rfl rfl ?_
  refine at_no rfl rfl rfl rfl ?_
  refine at_no rfl rfl rfl rfl ?_
  refine at_do (does_pick_false rfl rfl) rfl rfl ?_
  refine at_do (does_move rfl) rfl rfl ?_
  refine at_no rfl rfl rfl rfl ?_
  refine at_no rfl rfl rfl rfl ?_
  refine at_no rfl rfl rfl rfl ?_
  refine at_do (does_pick_false rfl rfl) rfl rfl ?_
  refine at_do (does_assign rfl) rfl rfl ?_
  refine at_nil ?_
  refine at_then ?_
  refine at_ret ?_
  refine at_ret1 rfl rfl rfl (fun w9 ho9 => ?_)
  rotate_left
  all_goals
    refine ⟨ret_bool ?_, ho9.plain⟩
    rw [Bool.eq_iff_iff]
    first | (simp_all [mayI]; done) | (simp_all [mayI]; omega)
theorem ref_may (x : Itm) (w : World) (hk : x.key.length ≤ 100000) : Calls Tryd.prog 105 #[itmA x] w fun e w' => e = .returned (.bool (mayI x)) ∧ Below w.heap.size w w' := by
  refine calls_plain Tryd.func105 rfl Tryd.ntmps105 rfl ?_
  cases h1 : isK x.key
  · refine at_seq ?_
    refine at_region ?_
    refine at_boxagg rfl rfl fun gz0 => ?_
    refine at_do (does_assign rfl) rfl rfl ?_
    refine at_nil ?_
    refine at_then ?_
    refine at_seq ?_
    refine at_region ?_
    refine at_do (does_fieldAddr (o := 0) (by kernel_rfl) rfl) rfl rfl ?_
    refine at_do (does_load (i := 0) (by kernel_rfl) rfl rfl rfl) rfl rfl ?_
    refine at_callv (f := 60) (enters_fn (by kernel_rfl) rfl) (fun w ho => ref_Is x.key w hk) rfl rfl ?_
    refine at_do (does_move rfl) rfl rfl ?_
    refine at_know (t := 6) (d := false) rfl (by exact h1) ?_
    refine at_no rfl rfl rfl rfl ?_
    refine at_no rfl rfl rfl rfl ?_
    refine at_no rfl rfl rfl rfl ?_
    refine at_do (does_pick_false rfl rfl) rfl rfl ?_
    refine at_do (does_move rfl) rfl rfl ?_
    refine at_no rfl rfl rfl rfl ?_
    refine at_no rfl rfl rfl rfl ?_
    refine at_no rfl rfl rfl rfl ?_
    refine at_no rfl rfl rfl rfl ?_
    refine at_do (does_pick_false rfl rfl) rfl rfl ?_
    refine at_do (does_move rfl) rfl rfl ?_
    refine at_no rfl rfl rfl rfl ?_
    refine at_no rfl rfl rfl rfl ?_
    refine at_no rfl rfl rfl rfl ?_
    refine at_do (does_pick_false rfl rfl) rfl rfl ?_
    refine at_do (does_move rfl) rfl rfl ?_
    refine at_no rfl rfl rfl rfl ?_
    refine at_no rfl rfl rfl rfl ?_
    refine at_no rfl rfl rfl rfl ?_
    refine at_do (does_pick_false rfl rfl) rfl rfl ?_
    refine at_do (does_assign rfl) rfl rfl ?_
    refine at_nil ?_
    refine at_then ?_
    refine at_ret ?_
    refine at_ret1 rfl rfl rfl (fun w9 ho9 => ?_)
    rotate_left
    exact ⟨ret_bool (by simp [mayI, h1]), ho9.plain⟩
  cases h2 : mayV x.kind x.num x.txt
  · refine at_seq ?_
    refine at_region ?_
    refine at_boxagg rfl rfl fun gz0 => ?_
    refine at_do (does_assign rfl) rfl rfl ?_
    refine at_nil ?_
    refine at_then ?_
    refine at_seq ?_
    refine at_region ?_
    refine at_do (does_fieldAddr (o := 0) (by kernel_rfl) rfl) rfl rfl ?_
    refine at_do (does_load (i := 0) (by kernel_rfl) rfl rfl rfl) rfl rfl ?_
    refine at_callv (f := 60) (enters_fn (by kernel_rfl) rfl) (fun w ho => ref_Is x.key w hk) rfl rfl ?_
    refine at_do (does_move rfl) rfl rfl ?_
    refine at_know (t := 6) (d := true) rfl (by exact h1) ?_
    refine at_on rfl rfl ?_
    refine at_do (does_fieldAddr (o := 1) (by kernel_rfl) rfl) rfl rfl ?_
    refine at_on rfl rfl ?_
    refine at_do (does_loadpart (i := 0) (j := 0 + 1) (vs := [.int .i64 x.kind, .int .i64 x.num, .string (bs x.txt)]) (by kernel_rfl) rfl rfl rfl) rfl rfl ?_
    refine at_on rfl rfl ?_
    refine at_callv (f := 54) (enters_fn (by kernel_rfl) rfl) (fun w ho => refv_May x.kind x.num x.txt w) rfl rfl ?_
    refine at_do (does_pick_true rfl rfl) rfl rfl ?_
    refine at_do (does_move rfl) rfl rfl ?_
    refine at_know (t := 11) (d := false) rfl (by exact h2) ?_
    refine at_no rfl rfl rfl rfl ?_
    refine at_no rfl rfl rfl rfl ?_
    refine at_no rfl rfl rfl rfl ?_
    refine at_no rfl rfl rfl rfl ?_
    refine at_do (does_pick_false rfl rfl) rfl rfl ?_
    refine at_do (does_move rfl) rfl rfl ?_
    refine at_no rfl rfl rfl rfl ?_
    refine at_no rfl rfl rfl rfl ?_
    refine at_no rfl rfl rfl rfl ?_
    refine at_do (does_pick_false rfl rfl) rfl rfl ?_
    refine at_do (does_move rfl) rfl rfl ?_
    refine at_no rfl rfl rfl rfl ?_
    refine at_no rfl rfl rfl rfl ?_
    refine at_no rfl rfl rfl rfl ?_
    refine at_do (does_pick_false rfl rfl) rfl rfl ?_
    refine at_do (does_assign rfl) rfl rfl ?_
    refine at_nil ?_
    refine at_then ?_
    refine at_ret ?_
    refine at_ret1 rfl rfl rfl (fun w9 ho9 => ?_)
    rotate_left
    exact ⟨ret_bool (by simp [mayI, h1, h2]), ho9.plain⟩
  refine at_seq ?_
  refine at_region ?_
  refine at_boxagg rfl rfl fun gz0 => ?_
  refine at_do (does_assign rfl) rfl rfl ?_
  refine at_nil ?_
  refine at_then ?_
  refine at_seq ?_
  refine at_region ?_
  refine at_do (does_fieldAddr (o := 0) (by kernel_rfl) rfl) rfl rfl ?_
  refine at_do (does_load (i := 0) (by kernel_rfl) rfl rfl rfl) rfl rfl ?_
  refine at_callv (f := 60) (enters_fn (by kernel_rfl) rfl) (fun w ho => ref_Is x.key w hk) rfl rfl ?_
  refine at_do (does_move rfl) rfl rfl ?_
  refine at_know (t := 6) (d := true) rfl (by exact h1) ?_
  refine at_on rfl rfl ?_
  refine at_do (does_fieldAddr (o := 1) (by kernel_rfl) rfl) rfl rfl ?_
  refine at_on rfl rfl ?_
  refine at_do (does_loadpart (i := 0) (j := 0 + 1) (vs := [.int .i64 x.kind, .int .i64 x.num, .string (bs x.txt)]) (by kernel_rfl) rfl rfl rfl) rfl rfl ?_
  refine at_on rfl rfl ?_
  refine at_callv (f := 54) (enters_fn (by kernel_rfl) rfl) (fun w ho => refv_May x.kind x.num x.txt w) rfl rfl ?_
  refine at_do (does_pick_true rfl rfl) rfl rfl ?_
  refine at_do (does_move rfl) rfl rfl ?_
  refine at_know (t := 11) (d := true) rfl (by exact h2) ?_
  refine at_on rfl rfl ?_
  refine at_do (does_fieldAddr (o := 1) (by kernel_rfl) rfl) rfl rfl ?_
  refine at_on rfl rfl ?_
  refine at_do (does_fieldAddr (o := 0) (by kernel_rfl) rfl) rfl rfl ?_
  refine at_on rfl rfl ?_
  refine at_do (does_load (i := 0) (by kernel_rfl) rfl rfl rfl) rfl rfl ?_
  refine at_on rfl rfl ?_
  refine at_do (does_neq rfl rfl) rfl rfl ?_
  refine at_do (does_pick_true rfl rfl) rfl rfl ?_
  refine at_do (does_move rfl) rfl rfl ?_
  refine at_guardD rfl rfl (fun z1 => ?_) (fun z1 => ?_)
  refine at_on rfl rfl ?_
  refine at_do (does_fieldAddr (o := 4) (by kernel_rfl) rfl) rfl rfl ?_
  refine at_on rfl rfl ?_
  refine at_do (does_load (i := 0) (by kernel_rfl) rfl rfl rfl) rfl rfl ?_
  refine at_on rfl rfl ?_
  refine at_do (does_leq rfl rfl) rfl rfl ?_
  refine at_do (does_pick_true rfl rfl) rfl rfl ?_
  refine at_do (does_move rfl) rfl rfl ?_
  refine at_guardD rfl rfl (fun z2 => ?_) (fun z2 => ?_)
  refine at_on rfl rfl ?_
  refine at_do (does_fieldAddr (o := 4) (by kernel_rfl) rfl) rfl rfl ?_
  refine at_on rfl rfl ?_
  refine at_do (does_load (i := 0) (by kernel_rfl) rfl rfl rfl) rfl rfl ?_
  refine at_on rfl rfl ?_
  refine at_do (does_leq rfl rfl) rfl rfl ?_
  refine at_do (does_pick_true rfl rfl) rfl rfl ?_
  refine at_do (does_assign rfl) rfl rfl ?_
  refine at_nil ?_
  refine at_then ?_
  refine at_ret ?_
  refine at_ret1 rfl rfl rfl (fun w9 ho9 => ?_)
  rotate_left
  refine at_no rfl rfl rfl rfl ?_
  refine at_no rfl rfl rfl rfl ?_
  refine at_no rfl rfl rfl rfl ?_
  refine at_do (does_pick_false rfl rfl) rfl rfl ?_
  refine at_do (does_assign rfl) rfl rfl ?_
  refine at_nil ?_
  refine at_then ?_
  refine at_ret ?_
  refine at_ret1 rfl rfl rfl (fun w9 ho9 => ?_)
  rotate_left
  refine at_no rfl rfl rfl rfl ?_
  refine at_no rfl rfl rfl rfl ?_
  refine at_no rfl rfl rfl rfl ?_
  refine at_do (does_pick_false rfl rfl) rfl rfl ?_
  refine at_do (does_move rfl) rfl rfl ?_
  refine at_no rfl rfl rfl rfl ?_
  refine at_no rfl rfl rfl rfl ?_
  refine at_no rfl rfl rfl rfl ?_
  refine at_do (does_pick_false rfl rfl) rfl rfl ?_
  refine at_do (does_assign rfl) rfl rfl ?_
  refine at_nil ?_
  refine at_then ?_
  refine at_ret ?_
  refine at_ret1 rfl rfl rfl (fun w9 ho9 => ?_)
  rotate_left
  all_goals
    refine ⟨ret_bool ?_, ho9.plain⟩
    rw [Bool.eq_iff_iff]
    first | (simp_all [mayI]; done) | (simp_all [mayI]; omega)
end Go.Proofs.YtjpfebgpcokenaaDoor
set_option linter.unusedSimpArgs false
set_option linter.unusedVariables false
namespace Go.Proofs.YtjpfebgpcokenaaDoor
open Go.RowKit
attribute [local irreducible] cwp lwp Exit.then Exit.inBlock Exit.noGoto wpQuiet Calls fin At AtQ Again endQ RQ

def behind (xs : List Itm) (i : Nat) : Bool := decide (i = 0) || Op.bytesLess (xs.getD (i - 1) default).key (xs.getD i default).key
def leafOk (xs : List Itm) : Bool := decide (xs.length ≤ 64) && xs.all mayI && (List.range xs.length).all (behind xs)
theorem getD_at (xs : List Itm) (i : Nat) (h : i < xs.length) : xs.getD i default = xs[i] := by simp [List.getD_eq_getElem?_getD, h]
theorem leafOk_no0 {xs : List Itm} (h : 64 < xs.length) : leafOk xs = false := by
  rw [leafOk, decide_eq_false (by omega)]; rfl
theorem leafOk_no1 {xs : List Itm} {i : Nat} (h : i < xs.length) (hm : mayI xs[i] = false) : leafOk xs = false := by
  have : xs.all mayI = false := List.all_eq_false.2 ⟨xs[i], List.getElem_mem h, by simp [hm]⟩
  rw [leafOk, this]; simp
theorem leafOk_no2 {xs : List Itm} {i : Nat} (h : i < xs.length) (hb : behind xs i = false) : leafOk xs = false := by
  have : (List.range xs.length).all (behind xs) = false := List.all_eq_false.2 ⟨i, List.mem_range.2 h, by simp [hb]⟩
  rw [leafOk, this]; simp
theorem leafOk_yes {xs : List Itm} (h : xs.length ≤ 64) (hg : ∀ j (hj : j < xs.length), mayI xs[j] = true ∧ behind xs j = true) : leafOk xs = true := by
  have h1 : xs.all mayI = true := List.all_eq_true.2 fun x hx => by
    obtain ⟨j, hj, rfl⟩ := List.getElem_of_mem hx
    exact (hg j hj).1
  have h2 : (List.range xs.length).all (behind xs) = true := List.all_eq_true.2 fun j hj => (hg j (List.mem_range.1 hj)).2
  rw [leafOk, h1, h2, decide_eq_true h]; rfl
def ChkR (xs : List Itm) (v : Value) (_ : World) : Prop := ∃ e i : Int, v = .tuple #[.int .i64 e, .int .i64 i] ∧ decide (e = 0) = leafOk xs
def zeroI : Array Value := #[.string (bs []), .int .i64 0, .int .i64 0, .string (bs []), .int .i64 0]
theorem itm_all (x : Itm) : ((itmV x).toArray.toList.all (·.oneCell')) = true := by
  rw [List.all_eq_true]; exact fun u hu => itmV_one x u (by simpa using hu)
set_option maxHeartbeats 4000000 in
theorem leaf_Check (arg : Value) (xs : List Itm) (w : World) (hG : Glob w) (hV : ItemsAt w arg xs) (hn : xs.length ≤ 1000) :
    Calls Tryd.prog 92 #[arg] w fun e w' => ∃ v, e = .returned v ∧ Below w.heap.size w w' ∧ ChkR xs v w' := by
  obtain ⟨A0, c0, rfl⟩ := hV.len
  refine calls_plain Tryd.func92 rfl Tryd.ntmps92 rfl ?_
  by_cases h64 : 64 < xs.length
  · refine at_seq ?_
    refine at_region ?_
    refine at_do (does_assign rfl) rfl rfl ?_
    refine at_do (does_assign rfl) rfl rfl ?_
    refine at_nil ?_
    refine at_then ?_
    refine at_seq ?_
    refine at_seq ?_
    refine at_region ?_
    refine at_do (does_move rfl) rfl rfl ?_
    refine at_do (does_len (by kernel_rfl) rfl) rfl rfl ?_
    refine at_do (does_gtr rfl rfl) rfl rfl ?_
    refine at_nil ?_
    refine at_then ?_
    refine at_cond_t rfl (decide_eq_true (by omega)) ?_
    refine at_seq ?_
    refine at_region ?_
    refine at_do (does_assign rfl) rfl rfl ?_
    refine at_do (does_assign rfl) rfl rfl ?_
    refine at_nil ?_
    refine at_then ?_
    refine at_ret ?_
    refine at_then_ret ?_
    refine at_ret2 rfl rfl rfl rfl (fun w9 ho9 => ?_)
    rotate_left
    exact ⟨_, rfl, ho9.plain, 5, 64, rfl, (leafOk_no0 h64).symm⟩
  refine at_seq ?_
  refine at_region ?_
  refine at_do (does_assign rfl) rfl rfl ?_
  refine at_do (does_assign rfl) rfl rfl ?_
  refine at_nil ?_
  refine at_then ?_
  refine at_seq ?_
  refine at_seq ?_
  refine at_region ?_
  refine at_do (does_move rfl) rfl rfl ?_
  refine at_do (does_len (by kernel_rfl) rfl) rfl rfl ?_
  refine at_do (does_gtr rfl rfl) rfl rfl ?_
  refine at_nil ?_
  refine at_then ?_
  refine at_cond_f rfl (decide_eq_false (by omega)) ?_
  refine at_skip ?_
  refine at_then ?_
  refine at_seq ?_
  refine at_seq ?_
  refine at_region ?_
  refine at_do (does_move rfl) rfl rfl ?_
  refine at_do (does_len (by kernel_rfl) rfl) rfl rfl ?_
  refine at_do (does_move rfl) rfl rfl ?_
  refine at_nil ?_
  refine at_then ?_
  refine at_block ?_
  rotate_left
  refine at_loop0 (fun i : Nat => i ≤ xs.length ∧ ∀ j (hj : j < xs.length), j < i → mayI xs[j] = true ∧ behind xs j = true) (fun i => [(0, .slice A0 xs.length c0), (9, .slice A0 xs.length c0), (10, .int .i64 xs.length), (11, .int .i64 i)]) (fun i => xs.length - i) 0 ⟨Nat.zero_le _, fun j _ h => absurd h (by omega)⟩ ⟨rfl, rfl, rfl, rfl, trivial⟩ ?_
  rintro i ⟨hi, hI⟩
  by_cases hil : i < xs.length
  · obtain ⟨gb, o, c1, hv, hc, hlt, hce⟩ := hV.form (by omega)
    simp only [Value.slice.injEq, true_and] at hv
    obtain ⟨rfl, rfl⟩ := hv
    have hx := hce i hil
    have hno1 := leafOk_no1 hil
    have hbe : behind xs i = (decide (i = 0) || Op.bytesLess (xs.getD (i - 1) default).key xs[i].key) := by rw [behind, getD_at xs i hil]
    have hno2 := leafOk_no2 hil
    have hstep : mayI xs[i] = true → behind xs i = true → ∀ j (hj : j < xs.length), j < i + 1 → mayI xs[j] = true ∧ behind xs j = true := fun h1 h2 j hj hji => by
      by_cases e : j = i
      · subst e; exact ⟨h1, h2⟩
      · exact hI j hj (by omega)
    generalize xs[i] = x at hx hno1 hbe hstep
    cases hm : mayI x
    · refine at_seq ?_
      refine at_region ?_
      refine at_do (does_lss rfl rfl) rfl rfl ?_
      refine at_nil ?_
      refine at_then ?_
      refine at_seq ?_
      refine at_cond_t rfl (decide_eq_true (by omega)) ?_
      refine at_skip ?_
      refine at_then ?_
      refine at_seq ?_
      refine at_block ?_
      refine at_seq ?_
      refine at_region ?_
      refine at_do (does_move rfl) rfl rfl ?_
      refine at_do (does_indexAddrk (k := 5) (j := i) (by kernel_rfl) rfl rfl hil) rfl rfl ?_
      refine at_do (does_loadagg_mem (vs := itmV x) (by kernel_rfl) rfl (fun w' ho => (hx.keep ho.plain).agg)) rfl rfl ?_
      refine at_allocagg Tryd.zeroValue43 rfl fun gz0 => ?_
      refine at_do (does_assign rfl) rfl rfl ?_
      refine at_storeagg (i := 0) (by kernel_rfl) rfl rfl rfl rfl rfl ?_
      refine at_nil ?_
      refine at_then ?_
      refine at_block ?_
      refine at_seq ?_
      refine at_region ?_
      refine at_do (does_loadagg (i := 0) (k := 5) (by kernel_rfl) rfl rfl rfl) rfl rfl ?_
      refine at_callv (f := 106) (enters_fn (by kernel_rfl) rfl) (fun w ho => leaf_may x w (ho.glob hG id)) rfl rfl ?_
      refine at_do (does_not rfl) rfl rfl ?_
      refine at_do (does_assign rfl) rfl rfl ?_
      refine at_nil ?_
      refine at_then ?_
      refine at_cond_t rfl (by simp [*]) ?_
      refine at_seq ?_
      refine at_region ?_
      refine at_do (does_move rfl) rfl rfl ?_
      refine at_do (does_assign rfl) rfl rfl ?_
      refine at_do (does_assign rfl) rfl rfl ?_
      refine at_nil ?_
      refine at_then ?_
      refine at_ret ?_
      refine at_inb_ret ?_
      refine at_inb_ret ?_
      refine at_then_ret ?_
      refine at_then_ret ?_
      refine at_inb_ret ?_
      refine at_then_ret ?_
      refine at_ret2 rfl rfl rfl rfl (fun w9 ho9 => ?_)
      rotate_left
      exact ⟨_, rfl, ho9.plain, 1, i, rfl, (hno1 hm).symm⟩
    by_cases h0 : i = 0
    · subst h0
      refine at_seq ?_
      refine at_region ?_
      refine at_do (does_lss rfl rfl) rfl rfl ?_
      refine at_nil ?_
      refine at_then ?_
      refine at_seq ?_
      refine at_cond_t rfl (decide_eq_true (by omega)) ?_
      refine at_skip ?_
      refine at_then ?_
      refine at_seq ?_
      refine at_block ?_
      refine at_seq ?_
      refine at_region ?_
      refine at_do (does_move rfl) rfl rfl ?_
      refine at_do (does_indexAddrk (k := 5) (j := 0) (by kernel_rfl) rfl rfl hil) rfl rfl ?_
      refine at_do (does_loadagg_mem (vs := itmV x) (by kernel_rfl) rfl (fun w' ho => (hx.keep ho.plain).agg)) rfl rfl ?_
      refine at_allocagg Tryd.zeroValue43 rfl fun gz0 => ?_
      refine at_do (does_assign rfl) rfl rfl ?_
      refine at_storeagg (i := 0) (by kernel_rfl) rfl rfl rfl rfl rfl ?_
      refine at_nil ?_
      refine at_then ?_
      refine at_block ?_
      refine at_seq ?_
      refine at_region ?_
      refine at_do (does_loadagg (i := 0) (k := 5) (by kernel_rfl) rfl rfl rfl) rfl rfl ?_
      refine at_callv (f := 106) (enters_fn (by kernel_rfl) rfl) (fun w ho => leaf_may x w (ho.glob hG id)) rfl rfl ?_
      refine at_do (does_not rfl) rfl rfl ?_
      refine at_do (does_assign rfl) rfl rfl ?_
      refine at_nil ?_
      refine at_then ?_
      refine at_cond_f rfl (by simp [*]) ?_
      refine at_seq ?_
      refine at_draw (by kernel_rfl) (by kernel_rfl) ?_
      refine atq_do (does_move rfl) rfl rfl ?_
      refine atq_do (does_gtr rfl rfl) rfl rfl ?_
      refine atq_do (does_move rfl) rfl rfl ?_
      refine atq_know (t := 24) (d := false) rfl (decide_eq_false (by omega)) ?_
      refine atq_no rfl rfl rfl rfl ?_
      refine atq_no rfl rfl rfl rfl ?_
      refine atq_no rfl rfl rfl rfl ?_
      refine atq_no rfl rfl rfl rfl ?_
      refine atq_no rfl rfl rfl rfl ?_
      refine atq_no rfl rfl rfl rfl ?_
      refine atq_no rfl rfl rfl rfl ?_
      refine atq_no rfl rfl rfl rfl ?_
      refine atq_no rfl rfl rfl rfl ?_
      refine atq_do (does_pick_false rfl rfl) rfl rfl ?_
      refine atq_do (does_assign rfl) rfl rfl ?_
      refine atq_nil ?_
      refine at_then ?_
      refine at_cond_false rfl ?_
      refine at_skip ?_
      refine at_inb ?_
      refine at_inb ?_
      refine at_then ?_
      refine at_region ?_
      refine at_do (does_addi rfl rfl (by omega)) rfl rfl ?_
      refine at_do (does_move rfl) rfl rfl ?_
      refine at_nil ?_
      refine at_then ?_
      rotate_left
      refine at_againw fun w ho => ⟨1, ⟨by omega, hstep hm (by rw [hbe]; rfl)⟩, by omega, ⟨rfl, rfl, rfl, rfl, trivial⟩, rfl, ho.sublist (List.nil_sublist _)⟩
    · have hy := hce (i - 1) (by omega)
      rw [← getD_at xs (i - 1) (by omega)] at hy
      generalize xs.getD (i - 1) default = y at hy hbe
      have hi1 : (i : Int) - 1 = ((i - 1 : Nat) : Int) := by omega
      have hbe2 : behind xs i = Op.bytesLess y.key x.key := by rw [hbe, decide_eq_false h0]; rfl
      have hle : (Op.bytesLess x.key y.key || decide (x.key = y.key)) = !Op.bytesLess y.key x.key := by rw [less_tot y.key x.key]; simp
      cases hl : Op.bytesLess y.key x.key
      · refine at_seq ?_
        refine at_region ?_
        refine at_do (does_lss rfl rfl) rfl rfl ?_
        refine at_nil ?_
        refine at_then ?_
        refine at_seq ?_
        refine at_cond_t rfl (decide_eq_true (by omega)) ?_
        refine at_skip ?_
        refine at_then ?_
        refine at_seq ?_
        refine at_block ?_
        refine at_seq ?_
        refine at_region ?_
        refine at_do (does_move rfl) rfl rfl ?_
        refine at_do (does_indexAddrk (k := 5) (j := i) (by kernel_rfl) rfl rfl hil) rfl rfl ?_
        refine at_do (does_loadagg_mem (vs := itmV x) (by kernel_rfl) rfl (fun w' ho => (hx.keep ho.plain).agg)) rfl rfl ?_
        refine at_allocagg Tryd.zeroValue43 rfl fun gz0 => ?_
        refine at_do (does_assign rfl) rfl rfl ?_
        refine at_storeagg (i := 0) (by kernel_rfl) rfl rfl rfl rfl rfl ?_
        refine at_nil ?_
        refine at_then ?_
        refine at_block ?_
        refine at_seq ?_
        refine at_region ?_
        refine at_do (does_loadagg (i := 0) (k := 5) (by kernel_rfl) rfl rfl rfl) rfl rfl ?_
        refine at_callv (f := 106) (enters_fn (by kernel_rfl) rfl) (fun w ho => leaf_may x w (ho.glob hG id)) rfl rfl ?_
        refine at_do (does_not rfl) rfl rfl ?_
        refine at_do (does_assign rfl) rfl rfl ?_
        refine at_nil ?_
        refine at_then ?_
        refine at_cond_f rfl (by simp [*]) ?_
        refine at_seq ?_
        refine at_draw (by kernel_rfl) (by kernel_rfl) ?_
        refine atq_do (does_move rfl) rfl rfl ?_
        refine atq_do (does_gtr rfl rfl) rfl rfl ?_
        refine atq_do (does_move rfl) rfl rfl ?_
        refine atq_know (t := 24) (d := true) rfl (decide_eq_true (by omega)) ?_
        refine atq_on rfl rfl ?_
        refine atq_do (does_fieldAddr (o := 0) (by kernel_rfl) rfl) rfl rfl ?_
        refine atq_on rfl rfl ?_
        refine atq_do (does_load (i := 0) (by kernel_rfl) rfl rfl rfl) rfl rfl ?_
        refine atq_on rfl rfl ?_
        refine atq_do (does_move rfl) rfl rfl ?_
        refine atq_on rfl rfl ?_
        refine atq_do (does_move rfl) rfl rfl ?_
        refine atq_on rfl rfl ?_
        refine atq_do (hi1 ▸ does_subi rfl rfl (by omega)) rfl rfl ?_
        refine atq_on rfl rfl ?_
        refine atq_do (does_indexAddrk (k := 5) (j := i - 1) (by kernel_rfl) rfl rfl (by omega)) rfl rfl ?_
        refine atq_on rfl rfl ?_
        refine atq_do (does_fieldAddr (o := 0) (by kernel_rfl) rfl) rfl rfl ?_
        refine atq_on rfl rfl ?_
        refine atq_do (does_load_mem (by kernel_rfl) rfl (fun w' ho => (hy.keep ho.plain).key)) rfl rfl ?_
        refine atq_on rfl rfl ?_
        refine atq_do (does_sleq rfl rfl) rfl rfl ?_
        refine atq_do (does_pick_true rfl rfl) rfl rfl ?_
        refine atq_do (does_assign rfl) rfl rfl ?_
        refine atq_nil ?_
        refine at_then ?_
        refine at_cond_t rfl (by (rw [hle, hl]; rfl)) ?_
        refine at_seq ?_
        refine at_region ?_
        refine at_do (does_move rfl) rfl rfl ?_
        refine at_do (does_assign rfl) rfl rfl ?_
        refine at_do (does_assign rfl) rfl rfl ?_
        refine at_nil ?_
        refine at_then ?_
        refine at_ret ?_
        refine at_inb_ret ?_
        refine at_inb_ret ?_
        refine at_then_ret ?_
        refine at_then_ret ?_
        refine at_inb_ret ?_
        refine at_then_ret ?_
        refine at_ret2 rfl rfl rfl rfl (fun w9 ho9 => ?_)
        rotate_left
        exact ⟨_, rfl, ho9.plain, 3, i, rfl, (hno2 (hbe2.trans hl)).symm⟩
      · refine at_seq ?_
        refine at_region ?_
        refine at_do (does_lss rfl rfl) rfl rfl ?_
        refine at_nil ?_
        refine at_then ?_
        refine at_seq ?_
        refine at_cond_t rfl (decide_eq_true (by omega)) ?_
        refine at_skip ?_
        refine at_then ?_
        refine at_seq ?_
        refine at_block ?_
        refine at_seq ?_
        refine at_region ?_
        refine at_do (does_move rfl) rfl rfl ?_
        refine at_do (does_indexAddrk (k := 5) (j := i) (by kernel_rfl) rfl rfl hil) rfl rfl ?_
        refine at_do (does_loadagg_mem (vs := itmV x) (by kernel_rfl) rfl (fun w' ho => (hx.keep ho.plain).agg)) rfl rfl ?_
        refine at_allocagg Tryd.zeroValue43 rfl fun gz0 => ?_
        refine at_do (does_assign rfl) rfl rfl ?_
        refine at_storeagg (i := 0) (by kernel_rfl) rfl rfl rfl rfl rfl ?_
        refine at_nil ?_
        refine at_then ?_
        refine at_block ?_
        refine at_seq ?_
        refine at_region ?_
        refine at_do (does_loadagg (i := 0) (k := 5) (by kernel_rfl) rfl rfl rfl) rfl rfl ?_
        refine at_callv (f := 106) (enters_fn (by kernel_rfl) rfl) (fun w ho => leaf_may x w (ho.glob hG id)) rfl rfl ?_
        refine at_do (does_not rfl) rfl rfl ?_
        refine at_do (does_assign rfl) rfl rfl ?_
        refine at_nil ?_
        refine at_then ?_
        refine at_cond_f rfl (by simp [*]) ?_
        refine at_seq ?_
        refine at_draw (by kernel_rfl) (by kernel_rfl) ?_
        refine atq_do (does_move rfl) rfl rfl ?_
        refine atq_do (does_gtr rfl rfl) rfl rfl ?_
        refine atq_do (does_move rfl) rfl rfl ?_
        refine atq_know (t := 24) (d := true) rfl (decide_eq_true (by omega)) ?_
        refine atq_on rfl rfl ?_
        refine atq_do (does_fieldAddr (o := 0) (by kernel_rfl) rfl) rfl rfl ?_
        refine atq_on rfl rfl ?_
        refine atq_do (does_load (i := 0) (by kernel_rfl) rfl rfl rfl) rfl rfl ?_
        refine atq_on rfl rfl ?_
        refine atq_do (does_move rfl) rfl rfl ?_
        refine atq_on rfl rfl ?_
        refine atq_do (does_move rfl) rfl rfl ?_
        refine atq_on rfl rfl ?_
        refine atq_do (hi1 ▸ does_subi rfl rfl (by omega)) rfl rfl ?_
        refine atq_on rfl rfl ?_
        refine atq_do (does_indexAddrk (k := 5) (j := i - 1) (by kernel_rfl) rfl rfl (by omega)) rfl rfl ?_
        refine atq_on rfl rfl ?_
        refine atq_do (does_fieldAddr (o := 0) (by kernel_rfl) rfl) rfl rfl ?_
        refine atq_on rfl rfl ?_
        refine atq_do (does_load_mem (by kernel_rfl) rfl (fun w' ho => (hy.keep ho.plain).key)) rfl rfl ?_
        refine atq_on rfl rfl ?_
        refine atq_do (does_sleq rfl rfl) rfl rfl ?_
        refine atq_do (does_pick_true rfl rfl) rfl rfl ?_
        refine atq_do (does_assign rfl) rfl rfl ?_
        refine atq_nil ?_
        refine at_then ?_
        refine at_cond_f rfl (by (rw [hle, hl]; rfl)) ?_
        refine at_skip ?_
        refine at_inb ?_
        refine at_inb ?_
        refine at_then ?_
        refine at_region ?_
        refine at_do (does_addi rfl rfl (by omega)) rfl rfl ?_
        refine at_do (does_move rfl) rfl rfl ?_
        refine at_nil ?_
        refine at_then ?_
        rotate_left
        refine at_againw fun w ho => ⟨i + 1, ⟨by omega, hstep hm (hbe2.trans hl)⟩, by omega, ⟨rfl, rfl, rfl, rfl, trivial⟩, rfl, ho.sublist (List.nil_sublist _)⟩
  · obtain rfl : i = xs.length := by omega
    refine at_seq ?_
    refine at_region ?_
    refine at_do (does_lss rfl rfl) rfl rfl ?_
    refine at_nil ?_
    refine at_then ?_
    refine at_seq ?_
    refine at_cond_f rfl (decide_eq_false (by omega)) ?_
    refine at_exit ?_
    refine at_then_exit ?_
    refine at_then_exit ?_
    refine at_inb_here ?_
    refine at_then ?_
    refine at_seq ?_
    refine at_region ?_
    refine at_do (does_assign rfl) rfl rfl ?_
    refine at_do (does_assign rfl) rfl rfl ?_
    refine at_nil ?_
    refine at_then ?_
    refine at_ret ?_
    refine at_ret2 rfl rfl rfl rfl (fun w9 ho9 => ?_)
    rotate_left
    exact ⟨_, rfl, ho9.plain, 0, 0, rfl, (leafOk_yes (by omega) fun j hj => hI j hj hj).symm⟩
end Go.Proofs.YtjpfebgpcokenaaDoor
set_option linter.unusedSimpArgs false
set_option linter.unusedVariables false
namespace Go.Proofs.YtjpfebgpcokenaaDoor
open Go.RowKit
attribute [local irreducible] cwp lwp Exit.then Exit.inBlock Exit.noGoto wpQuiet Calls fin At AtQ Again endQ RQ

set_option maxHeartbeats 4000000 in
theorem refl_Check (arg : Value) (xs : List Itm) (w : World) (hV : ItemsAt w arg xs) (hn : xs.length ≤ 1000) (hk : ∀ x ∈ xs, x.key.length ≤ 1000) :
    Calls Tryd.prog 90 #[arg] w fun e w' => ∃ v, e = .returned v ∧ Below w.heap.size w w' ∧ ChkR xs v w' := by
  obtain ⟨A0, c0, rfl⟩ := hV.len
  refine calls_plain Tryd.func90 rfl Tryd.ntmps90 rfl ?_
  by_cases h64 : 64 < xs.length
  · refine at_seq ?_
    refine at_region ?_
    refine at_do (does_assign rfl) rfl rfl ?_
    refine at_do (does_assign rfl) rfl rfl ?_
    refine at_nil ?_
    refine at_then ?_
    refine at_seq ?_
    refine at_seq ?_
    refine at_region ?_
    refine at_do (does_move rfl) rfl rfl ?_
    refine at_do (does_len (by kernel_rfl) rfl) rfl rfl ?_
    refine at_do (does_gtr rfl rfl) rfl rfl ?_
    refine at_nil ?_
    refine at_then ?_
    refine at_cond_t rfl (decide_eq_true (by omega)) ?_
    refine at_seq ?_
    refine at_region ?_
    refine at_do (does_assign rfl) rfl rfl ?_
    refine at_do (does_assign rfl) rfl rfl ?_
    refine at_nil ?_
    refine at_then ?_
    refine at_ret ?_
    refine at_then_ret ?_
    refine at_ret2 rfl rfl rfl rfl (fun w9 ho9 => ?_)
    rotate_left
    exact ⟨_, rfl, ho9.plain, 5, 64, rfl, (leafOk_no0 h64).symm⟩
  refine at_seq ?_
  refine at_region ?_
  refine at_do (does_assign rfl) rfl rfl ?_
  refine at_do (does_assign rfl) rfl rfl ?_
  refine at_nil ?_
  refine at_then ?_
  refine at_seq ?_
  refine at_seq ?_
  refine at_region ?_
  refine at_do (does_move rfl) rfl rfl ?_
  refine at_do (does_len (by kernel_rfl) rfl) rfl rfl ?_
  refine at_do (does_gtr rfl rfl) rfl rfl ?_
  refine at_nil ?_
  refine at_then ?_
  refine at_cond_f rfl (decide_eq_false (by omega)) ?_
  refine at_skip ?_
  refine at_then ?_
  refine at_seq ?_
  refine at_seq ?_
  refine at_region ?_
  refine at_do (does_assign rfl) rfl rfl ?_
  refine at_nil ?_
  refine at_then ?_
  refine at_block ?_
  rotate_left
  refine at_loop0 (fun i : Nat => i ≤ xs.length ∧ ∀ j (hj : j < xs.length), j < i → mayI xs[j] = true ∧ behind xs j = true) (fun i => [(0, .slice A0 xs.length c0), (4, .int .i64 i)]) (fun i => xs.length - i) 0 ⟨Nat.zero_le _, fun j _ h => absurd h (by omega)⟩ ⟨rfl, rfl, trivial⟩ ?_
  rintro i ⟨hi, hI⟩
  by_cases hil : i < xs.length
  · obtain ⟨gb, o, c1, hv, hc, hlt, hce⟩ := hV.form (by omega)
    simp only [Value.slice.injEq, true_and] at hv
    obtain ⟨rfl, rfl⟩ := hv
    have hx := hce i hil
    have hno1 := leafOk_no1 hil
    have hbe : behind xs i = (decide (i = 0) || Op.bytesLess (xs.getD (i - 1) default).key xs[i].key) := by rw [behind, getD_at xs i hil]
    have hno2 := leafOk_no2 hil
    have hkx := hk xs[i] (List.getElem_mem hil)
    have hstep : mayI xs[i] = true → behind xs i = true → ∀ j (hj : j < xs.length), j < i + 1 → mayI xs[j] = true ∧ behind xs j = true := fun h1 h2 j hj hji => by
      by_cases e : j = i
      · subst e; exact ⟨h1, h2⟩
      · exact hI j hj (by omega)
    generalize xs[i] = x at hx hno1 hbe hstep hkx
    cases hm : mayI x
    · refine at_seq ?_
      refine at_seq ?_
      refine at_region ?_
      refine at_do (does_move rfl) rfl rfl ?_
      refine at_do (does_move rfl) rfl rfl ?_
      refine at_do (does_len (by kernel_rfl) rfl) rfl rfl ?_
      refine at_do (does_lss rfl rfl) rfl rfl ?_
      refine at_nil ?_
      refine at_then ?_
      refine at_cond_t rfl (decide_eq_true (by omega)) ?_
      refine at_skip ?_
      refine at_then ?_
      refine at_seq ?_
      refine at_block ?_
      refine at_seq ?_
      refine at_seq ?_
      refine at_region ?_
      refine at_do (does_move rfl) rfl rfl ?_
      refine at_do (does_move rfl) rfl rfl ?_
      refine at_do (does_indexAddrk (k := 5) (j := i) (by kernel_rfl) rfl rfl hil) rfl rfl ?_
      refine at_do (does_loadagg_mem (vs := itmV x) (by kernel_rfl) rfl (fun w' ho => (hx.keep ho.plain).agg)) rfl rfl ?_
      refine at_callv (f := 105) (enters_fn (by kernel_rfl) rfl) (fun w ho => ref_may x w (by omega)) rfl rfl ?_
      refine at_do (does_not rfl) rfl rfl ?_
      refine at_nil ?_
      refine at_then ?_
      refine at_cond_t rfl (by simp [*]) ?_
      refine at_seq ?_
      refine at_region ?_
      refine at_do (does_move rfl) rfl rfl ?_
      refine at_do (does_assign rfl) rfl rfl ?_
      refine at_do (does_assign rfl) rfl rfl ?_
      refine at_nil ?_
      refine at_then ?_
      refine at_ret ?_
      refine at_then_ret ?_
      refine at_inb_ret ?_
      refine at_then_ret ?_
      refine at_then_ret ?_
      refine at_inb_ret ?_
      refine at_then_ret ?_
      refine at_ret2 rfl rfl rfl rfl (fun w9 ho9 => ?_)
      rotate_left
      exact ⟨_, rfl, ho9.plain, 1, i, rfl, (hno1 hm).symm⟩
    by_cases h0 : i = 0
    · subst h0
      refine at_seq ?_
      refine at_seq ?_
      refine at_region ?_
      refine at_do (does_move rfl) rfl rfl ?_
      refine at_do (does_move rfl) rfl rfl ?_
      refine at_do (does_len (by kernel_rfl) rfl) rfl rfl ?_
      refine at_do (does_lss rfl rfl) rfl rfl ?_
      refine at_nil ?_
      refine at_then ?_
      refine at_cond_t rfl (decide_eq_true (by omega)) ?_
      refine at_skip ?_
      refine at_then ?_
      refine at_seq ?_
      refine at_block ?_
      refine at_seq ?_
      refine at_seq ?_
      refine at_region ?_
      refine at_do (does_move rfl) rfl rfl ?_
      refine at_do (does_move rfl) rfl rfl ?_
      refine at_do (does_indexAddrk (k := 5) (j := 0) (by kernel_rfl) rfl rfl hil) rfl rfl ?_
      refine at_do (does_loadagg_mem (vs := itmV x) (by kernel_rfl) rfl (fun w' ho => (hx.keep ho.plain).agg)) rfl rfl ?_
      refine at_callv (f := 105) (enters_fn (by kernel_rfl) rfl) (fun w ho => ref_may x w (by omega)) rfl rfl ?_
      refine at_do (does_not rfl) rfl rfl ?_
      refine at_nil ?_
      refine at_then ?_
      refine at_cond_f rfl (by simp [*]) ?_
      refine at_skip ?_
      refine at_then ?_
      refine at_seq ?_
      refine at_draw (by kernel_rfl) (by kernel_rfl) ?_
      refine atq_do (does_move rfl) rfl rfl ?_
      refine atq_do (does_gtr rfl rfl) rfl rfl ?_
      refine atq_do (does_move rfl) rfl rfl ?_
      refine atq_know (t := 23) (d := false) rfl (decide_eq_false (by omega)) ?_
      refine atq_no rfl rfl rfl rfl ?_
      refine atq_no rfl rfl rfl rfl ?_
      refine atq_no rfl rfl rfl rfl ?_
      refine atq_no rfl rfl rfl rfl ?_
      refine atq_no rfl rfl rfl rfl ?_
      refine atq_no rfl rfl rfl rfl ?_
      refine atq_no rfl rfl rfl rfl ?_
      refine atq_no rfl rfl rfl rfl ?_
      refine atq_no rfl rfl rfl rfl ?_
      refine atq_no rfl rfl rfl rfl ?_
      refine atq_no rfl rfl rfl rfl ?_
      refine atq_no rfl rfl rfl rfl ?_
      refine atq_no rfl rfl rfl rfl ?_
      refine atq_do (does_pick_false rfl rfl) rfl rfl ?_
      refine atq_nil ?_
      refine at_then ?_
      refine at_cond_false rfl ?_
      refine at_skip ?_
      refine at_inb ?_
      refine at_then ?_
      refine at_region ?_
      refine at_do (does_move rfl) rfl rfl ?_
      refine at_do (does_addi rfl rfl (by omega)) rfl rfl ?_
      refine at_do (does_assign rfl) rfl rfl ?_
      refine at_nil ?_
      refine at_then ?_
      rotate_left
      refine at_again0 1 ⟨by omega, hstep hm (by rw [hbe]; rfl)⟩ (by omega) ⟨rfl, rfl, trivial⟩
    · have hy := hce (i - 1) (by omega)
      have hky := hk xs[i - 1] (List.getElem_mem _)
      rw [← getD_at xs (i - 1) (by omega)] at hy hky
      generalize xs.getD (i - 1) default = y at hy hbe hky
      have hi1 : (i : Int) - 1 = ((i - 1 : Nat) : Int) := by omega
      have hbe2 : behind xs i = Op.bytesLess y.key x.key := by rw [hbe, decide_eq_false h0]; rfl
      cases hl : Op.bytesLess y.key x.key
      · refine at_seq ?_
        refine at_seq ?_
        refine at_region ?_
        refine at_do (does_move rfl) rfl rfl ?_
        refine at_do (does_move rfl) rfl rfl ?_
        refine at_do (does_len (by kernel_rfl) rfl) rfl rfl ?_
        refine at_do (does_lss rfl rfl) rfl rfl ?_
        refine at_nil ?_
        refine at_then ?_
        refine at_cond_t rfl (decide_eq_true (by omega)) ?_
        refine at_skip ?_
        refine at_then ?_
        refine at_seq ?_
        refine at_block ?_
        refine at_seq ?_
        refine at_seq ?_
        refine at_region ?_
        refine at_do (does_move rfl) rfl rfl ?_
        refine at_do (does_move rfl) rfl rfl ?_
        refine at_do (does_indexAddrk (k := 5) (j := i) (by kernel_rfl) rfl rfl hil) rfl rfl ?_
        refine at_do (does_loadagg_mem (vs := itmV x) (by kernel_rfl) rfl (fun w' ho => (hx.keep ho.plain).agg)) rfl rfl ?_
        refine at_callv (f := 105) (enters_fn (by kernel_rfl) rfl) (fun w ho => ref_may x w (by omega)) rfl rfl ?_
        refine at_do (does_not rfl) rfl rfl ?_
        refine at_nil ?_
        refine at_then ?_
        refine at_cond_f rfl (by simp [*]) ?_
        refine at_skip ?_
        refine at_then ?_
        refine at_seq ?_
        refine at_draw (by kernel_rfl) (by kernel_rfl) ?_
        refine atq_do (does_move rfl) rfl rfl ?_
        refine atq_do (does_gtr rfl rfl) rfl rfl ?_
        refine atq_do (does_move rfl) rfl rfl ?_
        refine atq_know (t := 23) (d := true) rfl (decide_eq_true (by omega)) ?_
        refine atq_on rfl rfl ?_
        refine atq_do (does_move rfl) rfl rfl ?_
        refine atq_on rfl rfl ?_
        refine atq_do (does_move rfl) rfl rfl ?_
        refine atq_on rfl rfl ?_
        refine atq_do (hi1 ▸ does_subi rfl rfl (by omega)) rfl rfl ?_
        refine atq_on rfl rfl ?_
        refine atq_do (does_indexAddrk (k := 5) (j := i - 1) (by kernel_rfl) rfl rfl (by omega)) rfl rfl ?_
        refine atq_on rfl rfl ?_
        refine atq_do (does_fieldAddr (o := 0) (by kernel_rfl) rfl) rfl rfl ?_
        refine atq_on rfl rfl ?_
        refine atq_do (does_load_mem (by kernel_rfl) rfl (fun w' ho => (hy.keep ho.plain).key)) rfl rfl ?_
        refine atq_on rfl rfl ?_
        refine atq_do (does_move rfl) rfl rfl ?_
        refine atq_on rfl rfl ?_
        refine atq_do (does_move rfl) rfl rfl ?_
        refine atq_on rfl rfl ?_
        refine atq_do (does_indexAddrk (k := 5) (j := i) (by kernel_rfl) rfl rfl (by omega)) rfl rfl ?_
        refine atq_on rfl rfl ?_
        refine atq_do (does_fieldAddr (o := 0) (by kernel_rfl) rfl) rfl rfl ?_
        refine atq_on rfl rfl ?_
        refine atq_do (does_load_mem (by kernel_rfl) rfl (fun w' ho => (hx.keep ho.plain).key)) rfl rfl ?_
        refine atq_on rfl rfl ?_
        refine atq_callv (f := 61) (enters_fn (by kernel_rfl) rfl) (fun w ho => ref_Ahead y.key x.key w (by omega) (by omega)) rfl rfl ?_
        refine atq_on rfl rfl ?_
        refine atq_do (does_not rfl) rfl rfl ?_
        refine atq_do (does_pick_true rfl rfl) rfl rfl ?_
        refine atq_nil ?_
        refine at_then ?_
        refine at_cond_t rfl (by (rw [hl]; rfl)) ?_
        refine at_seq ?_
        refine at_region ?_
        refine at_do (does_move rfl) rfl rfl ?_
        refine at_do (does_assign rfl) rfl rfl ?_
        refine at_do (does_assign rfl) rfl rfl ?_
        refine at_nil ?_
        refine at_then ?_
        refine at_ret ?_
        refine at_inb_ret ?_
        refine at_then_ret ?_
        refine at_then_ret ?_
        refine at_inb_ret ?_
        refine at_then_ret ?_
        refine at_ret2 rfl rfl rfl rfl (fun w9 ho9 => ?_)
        rotate_left
        exact ⟨_, rfl, ho9.plain, 3, i, rfl, (hno2 (hbe2.trans hl)).symm⟩
      · refine at_seq ?_
        refine at_seq ?_
        refine at_region ?_
        refine at_do (does_move rfl) rfl rfl ?_
        refine at_do (does_move rfl) rfl rfl ?_
        refine at_do (does_len (by kernel_rfl) rfl) rfl rfl ?_
        refine at_do (does_lss rfl rfl) rfl rfl ?_
        refine at_nil ?_
        refine at_then ?_
        refine at_cond_t rfl (decide_eq_true (by omega)) ?_
        refine at_skip ?_
        refine at_then ?_
        refine at_seq ?_
        refine at_block ?_
        refine at_seq ?_
        refine at_seq ?_
        refine at_region ?_
        refine at_do (does_move rfl) rfl rfl ?_
        refine at_do (does_move rfl) rfl rfl ?_
        refine at_do (does_indexAddrk (k := 5) (j := i) (by kernel_rfl) rfl rfl hil) rfl rfl ?_
        refine at_do (does_loadagg_mem (vs := itmV x) (by kernel_rfl) rfl (fun w' ho => (hx.keep ho.plain).agg)) rfl rfl ?_
        refine at_callv (f := 105) (enters_fn (by kernel_rfl) rfl) (fun w ho => ref_may x w (by omega)) rfl rfl ?_
        refine at_do (does_not rfl) rfl rfl ?_
        refine at_nil ?_
        refine at_then ?_
        refine at_cond_f rfl (by simp [*]) ?_
        refine at_skip ?_
        refine at_then ?_
        refine at_seq ?_
        refine at_draw (by kernel_rfl) (by kernel_rfl) ?_
        refine atq_do (does_move rfl) rfl rfl ?_
        refine atq_do (does_gtr rfl rfl) rfl rfl ?_
        refine atq_do (does_move rfl) rfl rfl ?_
        refine atq_know (t := 23) (d := true) rfl (decide_eq_true (by omega)) ?_
        refine atq_on rfl rfl ?_
        refine atq_do (does_move rfl) rfl rfl ?_
        refine atq_on rfl rfl ?_
        refine atq_do (does_move rfl) rfl rfl ?_
        refine atq_on rfl rfl ?_
        refine atq_do (hi1 ▸ does_subi rfl rfl (by omega)) rfl rfl ?_
        refine atq_on rfl rfl ?_
        refine atq_do (does_indexAddrk (k := 5) (j := i - 1) (by kernel_rfl) rfl rfl (by omega)) rfl rfl ?_
        refine atq_on rfl rfl ?_
        refine atq_do (does_fieldAddr (o := 0) (by kernel_rfl) rfl) rfl rfl ?_
        refine atq_on rfl rfl ?_
        refine atq_do (does_load_mem (by kernel_rfl) rfl (fun w' ho => (hy.keep ho.plain).key)) rfl rfl ?_
        refine atq_on rfl rfl ?_
        refine atq_do (does_move rfl) rfl rfl ?_
        refine atq_on rfl rfl ?_
        refine atq_do (does_move rfl) rfl rfl ?_
        refine atq_on rfl rfl ?_
        refine atq_do (does_indexAddrk (k := 5) (j := i) (by kernel_rfl) rfl rfl (by omega)) rfl rfl ?_
        refine atq_on rfl rfl ?_
        refine atq_do (does_fieldAddr (o := 0) (by kernel_rfl) rfl) rfl rfl ?_
        refine atq_on rfl rfl ?_
        refine atq_do (does_load_mem (by kernel_rfl) rfl (fun w' ho => (hx.keep ho.plain).key)) rfl rfl ?_
        refine atq_on rfl rfl ?_
        refine atq_callv (f := 61) (enters_fn (by kernel_rfl) rfl) (fun w ho => ref_Ahead y.key x.key w (by omega) (by omega)) rfl rfl ?_
        refine atq_on rfl rfl ?_
        refine atq_do (does_not rfl) rfl rfl ?_
        refine atq_do (does_pick_true rfl rfl) rfl rfl ?_
        refine atq_nil ?_
        refine at_then ?_
        refine at_cond_f rfl (by (rw [hl]; rfl)) ?_
        refine at_skip ?_
        refine at_inb ?_
        refine at_then ?_
        refine at_region ?_
        refine at_do (does_move rfl) rfl rfl ?_
        refine at_do (does_addi rfl rfl (by omega)) rfl rfl ?_
        refine at_do (does_assign rfl) rfl rfl ?_
        refine at_nil ?_
        refine at_then ?_
        rotate_left
        refine at_again0 (i + 1) ⟨by omega, hstep hm (hbe2.trans hl)⟩ (by omega) ⟨rfl, rfl, trivial⟩
  · obtain rfl : i = xs.length := by omega
    refine at_seq ?_
    refine at_seq ?_
    refine at_region ?_
    refine at_do (does_move rfl) rfl rfl ?_
    refine at_do (does_move rfl) rfl rfl ?_
    refine at_do (does_len (by kernel_rfl) rfl) rfl rfl ?_
    refine at_do (does_lss rfl rfl) rfl rfl ?_
    refine at_nil ?_
    refine at_then ?_
    refine at_cond_f rfl (decide_eq_false (by omega)) ?_
    refine at_exit ?_
    refine at_then_exit ?_
    refine at_then_exit ?_
    refine at_inb_here ?_
    refine at_then ?_
    refine at_seq ?_
    refine at_region ?_
    refine at_do (does_assign rfl) rfl rfl ?_
    refine at_do (does_assign rfl) rfl rfl ?_
    refine at_nil ?_
    refine at_then ?_
    refine at_ret ?_
    refine at_ret2 rfl rfl rfl rfl (fun w9 ho9 => ?_)
    rotate_left
    exact ⟨_, rfl, ho9.plain, 0, 0, rfl, (leafOk_yes (by omega) fun j hj => hI j hj hj).symm⟩
theorem refl_Is (arg : Value) (xs : List Itm) (w : World) (hV : ItemsAt w arg xs) (hn : xs.length ≤ 1000) (hk : ∀ x ∈ xs, x.key.length ≤ 1000) :
    Calls Tryd.prog 72 #[arg] w fun e w' => e = .returned (.bool (leafOk xs)) ∧ Below w.heap.size w w' := by
  refine calls_plain Tryd.func72 rfl Tryd.ntmps72 rfl ?_
  refine at_seq ?_
  refine at_region ?_
  refine at_do (does_assign rfl) rfl rfl ?_
  refine at_nil ?_
  refine at_then ?_
  refine at_seq ?_
  refine at_region ?_
  refine at_do (does_move rfl) rfl rfl ?_
  refine at_callk (f := 90) (Φ := ChkR xs) (enters_fn (by kernel_rfl) rfl) (fun w ho => refl_Check arg xs w (ho.oldItems hV) hn hk) rfl rfl (fun v w1 hw1 hv => ?_)
  refine at_do (does_move rfl) rfl rfl ?_
  rotate_left
  obtain ⟨e, i, rfl, he⟩ := hv
  refine at_do (does_extract rfl rfl) rfl rfl ?_
  refine at_do (does_extract rfl rfl) rfl rfl ?_
  refine at_do (does_assign rfl) rfl rfl ?_
  refine at_do (does_assign rfl) rfl rfl ?_
  refine at_nil ?_
  refine at_then ?_
  refine at_seq ?_
  refine at_region ?_
  refine at_do (does_move rfl) rfl rfl ?_
  refine at_do (does_eql rfl rfl) rfl rfl ?_
  refine at_do (does_assign rfl) rfl rfl ?_
  refine at_nil ?_
  refine at_then ?_
  refine at_ret ?_
  refine at_ret1 rfl rfl rfl (fun w9 ho9 => ?_)
  rotate_left
  exact ⟨ret_bool he, ho9.plain⟩
def inB16 (b : Nat) (ver : Int) (x : Itm) : Bool := decide (bucket x.key = (b : Int)) && decide (x.ver ≤ ver)
def mayL (b : Nat) (xs : List Itm) (ver : Int) : Bool := leafOk xs && decide (0 ≤ ver) && decide (ver ≤ 2147483647) && xs.all (inB16 b ver)
theorem mayL_no {b : Nat} {xs : List Itm} {ver : Int} {i : Nat} (h : i < xs.length) (hm : inB16 b ver xs[i] = false) : mayL b xs ver = false := by
  have : xs.all (inB16 b ver) = false := List.all_eq_false.2 ⟨xs[i], List.getElem_mem h, by simp [hm]⟩
  rw [mayL, this]; simp
theorem all_upto {xs : List Itm} {p : Itm → Bool} (h : ∀ j (hj : j < xs.length), p xs[j] = true) : xs.all p = true := List.all_eq_true.2 fun x hx => by
  obtain ⟨j, hj, rfl⟩ := List.getElem_of_mem hx
  exact h j hj
theorem ItmAt.ver {w : World} {gb o : Nat} {x : Itm} (h : ItmAt w gb o x) : w.cell? ⟨gb, o + 4, none⟩ = some (.int .i64 x.ver) := h 4 _ rfl
set_option maxHeartbeats 4000000 in
theorem trunk_mayLeaf (b : Nat) (arg : Value) (xs : List Itm) (ver : Int) (w : World) (hG : Glob w) (hV : ItemsAt w arg xs) (hn : xs.length ≤ 1000) :
    Calls Tryd.prog 76 #[.int .i64 (b : Int), arg, .int .i64 ver] w fun e w' => e = .returned (.bool (mayL b xs ver)) ∧ Below w.heap.size w w' := by
  obtain ⟨A0, c0, rfl⟩ := hV.len
  refine calls_plain Tryd.func76 rfl Tryd.ntmps76 rfl ?_
  refine at_seq ?_
  refine at_region ?_
  refine at_do (does_assign rfl) rfl rfl ?_
  refine at_nil ?_
  refine at_then ?_
  refine at_seq ?_
  refine at_seq ?_
  refine at_region ?_
  refine at_do (does_move rfl) rfl rfl ?_
  refine at_callk (f := 92) (Φ := ChkR xs) (enters_fn (by kernel_rfl) rfl) (fun w ho => leaf_Check _ xs w (ho.glob hG id) (ho.oldItems hV) hn) rfl rfl (fun v w1 hw1 hv => ?_)
  refine at_do (does_move rfl) rfl rfl ?_
  rotate_left
  obtain ⟨e, k, rfl, he⟩ := hv
  cases hlo : leafOk xs
  · rw [hlo] at he
    have he' : e ≠ 0 := of_decide_eq_false he
    refine at_do (does_extract rfl rfl) rfl rfl ?_
    refine at_do (does_extract rfl rfl) rfl rfl ?_
    refine at_do (does_assign rfl) rfl rfl ?_
    refine at_do (does_assign rfl) rfl rfl ?_
    refine at_nil ?_
    refine at_then ?_
    refine at_seq ?_
    refine at_region ?_
    refine at_do (does_move rfl) rfl rfl ?_
    refine at_do (does_neq rfl rfl) rfl rfl ?_
    refine at_do (does_move rfl) rfl rfl ?_
    refine at_know (t := 18) (d := true) rfl (decide_eq_true (by exact he')) ?_
    refine at_no rfl rfl rfl rfl ?_
    refine at_no rfl rfl rfl rfl ?_
    refine at_do (does_pick_true rfl rfl) rfl rfl ?_
    refine at_do (does_move rfl) rfl rfl ?_
    refine at_no rfl rfl rfl rfl ?_
    refine at_no rfl rfl rfl rfl ?_
    refine at_do (does_pick_true rfl rfl) rfl rfl ?_
    refine at_nil ?_
    refine at_then ?_
    refine at_cond_true rfl ?_
    refine at_seq ?_
    refine at_region ?_
    refine at_do (does_assign rfl) rfl rfl ?_
    refine at_nil ?_
    refine at_then ?_
    refine at_ret ?_
    refine at_then_ret ?_
    refine at_ret1 rfl rfl rfl (fun w9 ho9 => ?_)
    rotate_left
    exact ⟨ret_bool (by simp [mayL, hlo]), ho9.plain⟩
  rw [hlo] at he
  obtain rfl : e = 0 := of_decide_eq_true he
  by_cases h0 : ver < 0
  · refine at_do (does_extract rfl rfl) rfl rfl ?_
    refine at_do (does_extract rfl rfl) rfl rfl ?_
    refine at_do (does_assign rfl) rfl rfl ?_
    refine at_do (does_assign rfl) rfl rfl ?_
    refine at_nil ?_
    refine at_then ?_
    refine at_seq ?_
    refine at_region ?_
    refine at_do (does_move rfl) rfl rfl ?_
    refine at_do (does_neq rfl rfl) rfl rfl ?_
    refine at_do (does_move rfl) rfl rfl ?_
    refine at_know (t := 18) (d := false) rfl (decide_eq_false (by decide)) ?_
    refine at_on rfl rfl ?_
    refine at_do (does_move rfl) rfl rfl ?_
    refine at_on rfl rfl ?_
    refine at_do (does_lss rfl rfl) rfl rfl ?_
    refine at_do (does_pick_false rfl rfl) rfl rfl ?_
    refine at_do (does_move rfl) rfl rfl ?_
    refine at_know (t := 22) (d := true) rfl (decide_eq_true (by exact h0)) ?_
    refine at_no rfl rfl rfl rfl ?_
    refine at_no rfl rfl rfl rfl ?_
    refine at_do (does_pick_true rfl rfl) rfl rfl ?_
    refine at_nil ?_
    refine at_then ?_
    refine at_cond_true rfl ?_
    refine at_seq ?_
    refine at_region ?_
    refine at_do (does_assign rfl) rfl rfl ?_
    refine at_nil ?_
    refine at_then ?_
    refine at_ret ?_
    refine at_then_ret ?_
    refine at_ret1 rfl rfl rfl (fun w9 ho9 => ?_)
    rotate_left
    exact ⟨ret_bool (by rw [mayL, decide_eq_false (show ¬ 0 ≤ ver by omega)]; simp), ho9.plain⟩
  by_cases h1 : ver > 2147483647
  · refine at_do (does_extract rfl rfl) rfl rfl ?_
    refine at_do (does_extract rfl rfl) rfl rfl ?_
    refine at_do (does_assign rfl) rfl rfl ?_
    refine at_do (does_assign rfl) rfl rfl ?_
    refine at_nil ?_
    refine at_then ?_
    refine at_seq ?_
    refine at_region ?_
    refine at_do (does_move rfl) rfl rfl ?_
    refine at_do (does_neq rfl rfl) rfl rfl ?_
    refine at_do (does_move rfl) rfl rfl ?_
    refine at_know (t := 18) (d := false) rfl (decide_eq_false (by decide)) ?_
    refine at_on rfl rfl ?_
    refine at_do (does_move rfl) rfl rfl ?_
    refine at_on rfl rfl ?_
    refine at_do (does_lss rfl rfl) rfl rfl ?_
    refine at_do (does_pick_false rfl rfl) rfl rfl ?_
    refine at_do (does_move rfl) rfl rfl ?_
    refine at_know (t := 22) (d := false) rfl (decide_eq_false (by exact h0)) ?_
    refine at_on rfl rfl ?_
    refine at_do (does_move rfl) rfl rfl ?_
    refine at_on rfl rfl ?_
    refine at_do (does_gtr rfl rfl) rfl rfl ?_
    refine at_do (does_pick_false rfl rfl) rfl rfl ?_
    refine at_nil ?_
    refine at_then ?_
    refine at_cond_t rfl (decide_eq_true (by exact h1)) ?_
    refine at_seq ?_
    refine at_region ?_
    refine at_do (does_assign rfl) rfl rfl ?_
    refine at_nil ?_
    refine at_then ?_
    refine at_ret ?_
    refine at_then_ret ?_
    refine at_ret1 rfl rfl rfl (fun w9 ho9 => ?_)
    rotate_left
    exact ⟨ret_bool (by rw [mayL, decide_eq_false (show ¬ ver ≤ 2147483647 by omega)]; simp), ho9.plain⟩
  refine at_do (does_extract rfl rfl) rfl rfl ?_
  refine at_do (does_extract rfl rfl) rfl rfl ?_
  refine at_do (does_assign rfl) rfl rfl ?_
  refine at_do (does_assign rfl) rfl rfl ?_
  refine at_nil ?_
  refine at_then ?_
  refine at_seq ?_
  refine at_region ?_
  refine at_do (does_move rfl) rfl rfl ?_
  refine at_do (does_neq rfl rfl) rfl rfl ?_
  refine at_do (does_move rfl) rfl rfl ?_
  refine at_know (t := 18) (d := false) rfl (decide_eq_false (by decide)) ?_
  refine at_on rfl rfl ?_
  refine at_do (does_move rfl) rfl rfl ?_
  refine at_on rfl rfl ?_
  refine at_do (does_lss rfl rfl) rfl rfl ?_
  refine at_do (does_pick_false rfl rfl) rfl rfl ?_
  refine at_do (does_move rfl) rfl rfl ?_
  refine at_know (t := 22) (d := false) rfl (decide_eq_false (by exact h0)) ?_
  refine at_on rfl rfl ?_
  refine at_do (does_move rfl) rfl rfl ?_
  refine at_on rfl rfl ?_
  refine at_do (does_gtr rfl rfl) rfl rfl ?_
  refine at_do (does_pick_false rfl rfl) rfl rfl ?_
  refine at_nil ?_
  refine at_then ?_
  refine at_cond_f rfl (decide_eq_false (by exact h1)) ?_
  refine at_skip ?_
  refine at_then ?_
  refine at_seq ?_
  refine at_seq ?_
  refine at_region ?_
  refine at_do (does_move rfl) rfl rfl ?_
  refine at_do (does_len (by kernel_rfl) rfl) rfl rfl ?_
  refine at_do (does_move rfl) rfl rfl ?_
  refine at_nil ?_
  refine at_then ?_
  refine at_block ?_
  rotate_left
  refine at_loop0 (fun i : Nat => i ≤ xs.length ∧ ∀ j (hj : j < xs.length), j < i → inB16 b ver xs[j] = true) (fun i => [(0, .int .i64 (b : Int)), (2, .int .i64 ver), (26, .slice A0 xs.length c0), (27, .int .i64 xs.length), (28, .int .i64 i)]) (fun i => xs.length - i) 0 ⟨Nat.zero_le _, fun j _ h => absurd h (by omega)⟩ ⟨rfl, rfl, rfl, rfl, rfl, trivial⟩ ?_
  rintro i ⟨hi, hI⟩
  by_cases hil : i < xs.length
  · obtain ⟨gb, o, c1, hv, hc, hlt, hce⟩ := hV.form (by omega)
    simp only [Value.slice.injEq, true_and] at hv
    obtain ⟨rfl, rfl⟩ := hv
    have hx := hce i hil
    have hno := mayL_no (b := b) (ver := ver) hil
    have hstep : inB16 b ver xs[i] = true → ∀ j (hj : j < xs.length), j < i + 1 → inB16 b ver xs[j] = true := fun h1 j hj hji => by
      by_cases e : j = i
      · subst e; exact h1
      · exact hI j hj (by omega)
    generalize xs[i] = x at hx hno hstep
    by_cases hbk : bucket x.key = (b : Int)
    · by_cases hvr : x.ver ≤ ver
      · refine at_seq ?_
        refine at_region ?_
        refine at_do (does_lss rfl rfl) rfl rfl ?_
        refine at_nil ?_
        refine at_then ?_
        refine at_seq ?_
        refine at_cond_t rfl (decide_eq_true (by omega)) ?_
        refine at_skip ?_
        refine at_then ?_
        refine at_seq ?_
        refine at_block ?_
        refine at_seq ?_
        refine at_region ?_
        refine at_do (does_indexAddrk (k := 5) (j := i) (by kernel_rfl) rfl rfl hil) rfl rfl ?_
        refine at_do (does_loadagg_mem (vs := itmV x) (by kernel_rfl) rfl (fun w' ho => (hx.keep ho.plain).agg)) rfl rfl ?_
        refine at_allocagg Tryd.zeroValue43 rfl fun gz0 => ?_
        refine at_storeagg (i := 0) (by kernel_rfl) rfl rfl rfl rfl rfl ?_
        refine at_nil ?_
        refine at_then ?_
        refine at_seq ?_
        refine at_region ?_
        refine at_do (does_fieldAddr (o := 0) (by kernel_rfl) rfl) rfl rfl ?_
        refine at_do (does_load (i := 0) (by kernel_rfl) rfl rfl rfl) rfl rfl ?_
        refine at_callv (f := 93) (enters_fn (by kernel_rfl) rfl) (fun w ho => key_Bucket x.key w (ho.glob hG id)) rfl rfl ?_
        refine at_do (does_move rfl) rfl rfl ?_
        refine at_do (does_neq rfl rfl) rfl rfl ?_
        refine at_do (does_move rfl) rfl rfl ?_
        refine at_know (t := 37) (d := false) rfl (decide_eq_false (by omega)) ?_
        refine at_on rfl rfl ?_
        refine at_do (does_fieldAddr (o := 4) (by kernel_rfl) rfl) rfl rfl ?_
        refine at_on rfl rfl ?_
        refine at_do (does_load (i := 0) (by kernel_rfl) rfl rfl rfl) rfl rfl ?_
        refine at_on rfl rfl ?_
        refine at_do (does_move rfl) rfl rfl ?_
        refine at_on rfl rfl ?_
        refine at_do (does_gtr rfl rfl) rfl rfl ?_
        refine at_do (does_pick_false rfl rfl) rfl rfl ?_
        refine at_nil ?_
        refine at_then ?_
        refine at_cond_f rfl (decide_eq_false (by omega)) ?_
        refine at_skip ?_
        refine at_inb ?_
        refine at_then ?_
        refine at_region ?_
        refine at_do (does_addi rfl rfl (by omega)) rfl rfl ?_
        refine at_do (does_move rfl) rfl rfl ?_
        refine at_nil ?_
        refine at_then ?_
        rotate_left
        refine at_againw fun w ho => ⟨i + 1, ⟨by omega, hstep (by rw [inB16, decide_eq_true hbk, decide_eq_true hvr]; rfl)⟩, by omega, ⟨rfl, rfl, rfl, rfl, rfl, trivial⟩, rfl, ho.sublist (List.nil_sublist _)⟩
      · refine at_seq ?_
        refine at_region ?_
        refine at_do (does_lss rfl rfl) rfl rfl ?_
        refine at_nil ?_
        refine at_then ?_
        refine at_seq ?_
        refine at_cond_t rfl (decide_eq_true (by omega)) ?_
        refine at_skip ?_
        refine at_then ?_
        refine at_seq ?_
        refine at_block ?_
        refine at_seq ?_
        refine at_region ?_
        refine at_do (does_indexAddrk (k := 5) (j := i) (by kernel_rfl) rfl rfl hil) rfl rfl ?_
        refine at_do (does_loadagg_mem (vs := itmV x) (by kernel_rfl) rfl (fun w' ho => (hx.keep ho.plain).agg)) rfl rfl ?_
        refine at_allocagg Tryd.zeroValue43 rfl fun gz0 => ?_
        refine at_storeagg (i := 0) (by kernel_rfl) rfl rfl rfl rfl rfl ?_
        refine at_nil ?_
        refine at_then ?_
        refine at_seq ?_
        refine at_region ?_
        refine at_do (does_fieldAddr (o := 0) (by kernel_rfl) rfl) rfl rfl ?_
        refine at_do (does_load (i := 0) (by kernel_rfl) rfl rfl rfl) rfl rfl ?_
        refine at_callv (f := 93) (enters_fn (by kernel_rfl) rfl) (fun w ho => key_Bucket x.key w (ho.glob hG id)) rfl rfl ?_
        refine at_do (does_move rfl) rfl rfl ?_
        refine at_do (does_neq rfl rfl) rfl rfl ?_
        refine at_do (does_move rfl) rfl rfl ?_
        refine at_know (t := 37) (d := false) rfl (decide_eq_false (by omega)) ?_
        refine at_on rfl rfl ?_
        refine at_do (does_fieldAddr (o := 4) (by kernel_rfl) rfl) rfl rfl ?_
        refine at_on rfl rfl ?_
        refine at_do (does_load (i := 0) (by kernel_rfl) rfl rfl rfl) rfl rfl ?_
        refine at_on rfl rfl ?_
        refine at_do (does_move rfl) rfl rfl ?_
        refine at_on rfl rfl ?_
        refine at_do (does_gtr rfl rfl) rfl rfl ?_
        refine at_do (does_pick_false rfl rfl) rfl rfl ?_
        refine at_nil ?_
        refine at_then ?_
        refine at_cond_t rfl (decide_eq_true (by omega)) ?_
        refine at_seq ?_
        refine at_region ?_
        refine at_do (does_assign rfl) rfl rfl ?_
        refine at_nil ?_
        refine at_then ?_
        refine at_ret ?_
        refine at_inb_ret ?_
        refine at_then_ret ?_
        refine at_then_ret ?_
        refine at_inb_ret ?_
        refine at_then_ret ?_
        refine at_ret1 rfl rfl rfl (fun w9 ho9 => ?_)
        rotate_left
        exact ⟨ret_bool (hno (by rw [inB16, decide_eq_false hvr]; simp)).symm, ho9.plain⟩
    · refine at_seq ?_
      refine at_region ?_
      refine at_do (does_lss rfl rfl) rfl rfl ?_
      refine at_nil ?_
      refine at_then ?_
      refine at_seq ?_
      refine at_cond_t rfl (decide_eq_true (by omega)) ?_
      refine at_skip ?_
      refine at_then ?_
      refine at_seq ?_
      refine at_block ?_
      refine at_seq ?_
      refine at_region ?_
      refine at_do (does_indexAddrk (k := 5) (j := i) (by kernel_rfl) rfl rfl hil) rfl rfl ?_
      refine at_do (does_loadagg_mem (vs := itmV x) (by kernel_rfl) rfl (fun w' ho => (hx.keep ho.plain).agg)) rfl rfl ?_
      refine at_allocagg Tryd.zeroValue43 rfl fun gz0 => ?_
      refine at_storeagg (i := 0) (by kernel_rfl) rfl rfl rfl rfl rfl ?_
      refine at_nil ?_
      refine at_then ?_
      refine at_seq ?_
      refine at_region ?_
      refine at_do (does_fieldAddr (o := 0) (by kernel_rfl) rfl) rfl rfl ?_
      refine at_do (does_load (i := 0) (by kernel_rfl) rfl rfl rfl) rfl rfl ?_
      refine at_callv (f := 93) (enters_fn (by kernel_rfl) rfl) (fun w ho => key_Bucket x.key w (ho.glob hG id)) rfl rfl ?_
      refine at_do (does_move rfl) rfl rfl ?_
      refine at_do (does_neq rfl rfl) rfl rfl ?_
      refine at_do (does_move rfl) rfl rfl ?_
      refine at_know (t := 37) (d := true) rfl (decide_eq_true (by omega)) ?_
      refine at_no rfl rfl rfl rfl ?_
      refine at_no rfl rfl rfl rfl ?_
      refine at_no rfl rfl rfl rfl ?_
      refine at_no rfl rfl rfl rfl ?_
      refine at_do (does_pick_true rfl rfl) rfl rfl ?_
      refine at_nil ?_
      refine at_then ?_
      refine at_cond_true rfl ?_
      refine at_seq ?_
      refine at_region ?_
      refine at_do (does_assign rfl) rfl rfl ?_
      refine at_nil ?_
      refine at_then ?_
      refine at_ret ?_
      refine at_inb_ret ?_
      refine at_then_ret ?_
      refine at_then_ret ?_
      refine at_inb_ret ?_
      refine at_then_ret ?_
      refine at_ret1 rfl rfl rfl (fun w9 ho9 => ?_)
      rotate_left
      exact ⟨ret_bool (hno (by rw [inB16, decide_eq_false hbk]; rfl)).symm, ho9.plain⟩
  · obtain rfl : i = xs.length := by omega
    refine at_seq ?_
    refine at_region ?_
    refine at_do (does_lss rfl rfl) rfl rfl ?_
    refine at_nil ?_
    refine at_then ?_
    refine at_seq ?_
    refine at_cond_f rfl (decide_eq_false (by omega)) ?_
    refine at_exit ?_
    refine at_then_exit ?_
    refine at_then_exit ?_
    refine at_inb_here ?_
    refine at_then ?_
    refine at_seq ?_
    refine at_region ?_
    refine at_do (does_assign rfl) rfl rfl ?_
    refine at_nil ?_
    refine at_then ?_
    refine at_ret ?_
    refine at_ret1 rfl rfl rfl (fun w9 ho9 => ?_)
    rotate_left
    exact ⟨ret_bool (by rw [mayL, hlo, decide_eq_true (show 0 ≤ ver by omega), decide_eq_true (show ver ≤ 2147483647 by omega), all_upto fun j hj => hI j hj hj]; rfl), ho9.plain⟩
end Go.Proofs.YtjpfebgpcokenaaDoor
set_option linter.unusedSimpArgs false
set_option linter.unusedVariables false
namespace Go.Proofs.YtjpfebgpcokenaaDoor
open Go.RowKit
def arrCell (P : Program) (t : TypeId) : Option Nat := match P.underlying t with
  | some (.array l e) => if sizeT P e == some 1 && plainT P e then some l else none
  | _ => none
theorem does_aidx {P : Program} {n : Nat} {E : List (Nat × Value)} {C : Ctx} {H : List Res} {dst : Option Tmp} {ty : TypeId} {pos : String} {after : Array Edge} {g : Option (Nat × Bool)} {x y : Operand} {xT : TypeId} {cs : Array Value} {l q : Nat} {kk : IntKind} {v : Value}
    (hT : arrCell P xT = some l) (hx : ev E x = some (.agg cs)) (hy : ev E y = some (.int kk (q : Int))) (hq : q < l) (hv : cs[q]? = some v) : Does P n E C H ⟨dst, .index xT x y, ty, pos, after, g⟩ v := by
  intro a w hf ho
  unfold arrCell at hT
  split at hT
  · rename_i l' e he
    split at hT
    · rename_i hh
      cases hT
      simp only [Bool.and_eq_true, beq_iff_eq] at hh
      have hs := run_sizeT hh.1 w
      simp only [execOp, hf.eval hx, hf.eval hy]
      simp [go_sem, Instr.index, asIntOf, run_underlying he, hq, hs, part, run_isAgg_plain hh.2, asAgg, hv]
    · cases hT
  · cases hT
attribute [local irreducible] cwp lwp Exit.then Exit.inBlock Exit.noGoto wpQuiet Calls fin At AtQ Again endQ RQ
theorem bucket_of {k : List UInt8} {b : Nat} : bucket k = (b : Int) ↔ isK k = true ∧ byt k 0 % 16 = (b : Int) := by
  unfold bucket
  cases h : isK k
  · simp
  · simp
set_option maxHeartbeats 8000000 in
theorem refl_Fits (b : Nat) (arg : Value) (xs : List Itm) (ver : Int) (w : World) (hV : ItemsAt w arg xs) (hn : xs.length ≤ 1000) (hk : ∀ x ∈ xs, x.key.length ≤ 1000) :
    Calls Tryd.prog 51 #[.int .i64 (b : Int), arg, .int .i64 ver] w fun e w' => e = .returned (.bool (mayL b xs ver)) ∧ Below w.heap.size w w' := by
  have hV0 := hV
  obtain ⟨A0, c0, rfl⟩ := hV.len
  refine calls_plain Tryd.func51 rfl Tryd.ntmps51 rfl ?_
  refine at_seq ?_
  refine at_region ?_
  refine at_do (does_assign rfl) rfl rfl ?_
  refine at_nil ?_
  refine at_then ?_
  refine at_seq ?_
  refine at_seq ?_
  refine at_region ?_
  refine at_do (does_assign rfl) rfl rfl ?_
  refine at_nil ?_
  refine at_then ?_
  refine at_block ?_
  rotate_left
  refine at_loop0 (fun i : Nat => i ≤ xs.length ∧ ∀ j (hj : j < xs.length), j < i → inB16 b ver xs[j] = true) (fun i => [(0, .int .i64 (b : Int)), (1, .slice A0 xs.length c0), (2, .int .i64 ver), (7, .int .i64 i)]) (fun i => xs.length - i) 0 ⟨Nat.zero_le _, fun j _ h => absurd h (by omega)⟩ ⟨rfl, rfl, rfl, rfl, trivial⟩ ?_
  rintro i ⟨hi, hI⟩
  by_cases hil : i < xs.length
  · obtain ⟨gb, o, c1, hv, hc, hlt, hce⟩ := hV.form (by omega)
    simp only [Value.slice.injEq, true_and] at hv
    obtain ⟨rfl, rfl⟩ := hv
    have hx := hce i hil
    have hkx := hk xs[i] (List.getElem_mem hil)
    have hno := mayL_no (b := b) (ver := ver) hil
    have hstep : inB16 b ver xs[i] = true → ∀ j (hj : j < xs.length), j < i + 1 → inB16 b ver xs[j] = true := fun h1 j hj hji => by
      by_cases e : j = i
      · subst e; exact h1
      · exact hI j hj (by omega)
    generalize xs[i] = x at hx hno hstep hkx
    cases hkk : isK x.key
    · refine at_seq ?_
      refine at_seq ?_
      refine at_region ?_
      refine at_do (does_move rfl) rfl rfl ?_
      refine at_do (does_move rfl) rfl rfl ?_
      refine at_do (does_len (by kernel_rfl) rfl) rfl rfl ?_
      refine at_do (does_lss rfl rfl) rfl rfl ?_
      refine at_nil ?_
      refine at_then ?_
      refine at_cond_t rfl (decide_eq_true (by omega)) ?_
      refine at_skip ?_
      refine at_then ?_
      refine at_seq ?_
      refine at_block ?_
      refine at_seq ?_
      refine at_region ?_
      refine at_do (does_move rfl) rfl rfl ?_
      refine at_do (does_move rfl) rfl rfl ?_
      refine at_do (does_indexAddrk (k := 5) (j := i) (by kernel_rfl) rfl rfl hil) rfl rfl ?_
      refine at_do (does_fieldAddr (o := 0) (by kernel_rfl) rfl) rfl rfl ?_
      refine at_do (does_load_mem (by kernel_rfl) rfl (fun w' ho => (hx.keep ho.plain).key)) rfl rfl ?_
      refine at_callv (f := 60) (enters_fn (by kernel_rfl) rfl) (fun w ho => ref_Is x.key w (by omega)) rfl rfl ?_
      refine at_do (does_not rfl) rfl rfl ?_
      refine at_do (does_move rfl) rfl rfl ?_
      refine at_know (t := 21) (d := true) rfl (by simp [*]) ?_
      refine at_no rfl rfl rfl rfl ?_
      refine at_no rfl rfl rfl rfl ?_
      refine at_no rfl rfl rfl rfl ?_
      refine at_no rfl rfl rfl rfl ?_
      refine at_no rfl rfl rfl rfl ?_
      refine at_no rfl rfl rfl rfl ?_
      refine at_no rfl rfl rfl rfl ?_
      refine at_no rfl rfl rfl rfl ?_
      refine at_no rfl rfl rfl rfl ?_
      refine at_no rfl rfl rfl rfl ?_
      refine at_do (does_pick_true rfl rfl) rfl rfl ?_
      refine at_do (does_move rfl) rfl rfl ?_
      refine at_no rfl rfl rfl rfl ?_
      refine at_no rfl rfl rfl rfl ?_
      refine at_no rfl rfl rfl rfl ?_
      refine at_no rfl rfl rfl rfl ?_
      refine at_no rfl rfl rfl rfl ?_
      refine at_no rfl rfl rfl rfl ?_
      refine at_no rfl rfl rfl rfl ?_
      refine at_do (does_pick_true rfl rfl) rfl rfl ?_
      refine at_nil ?_
      refine at_then ?_
      refine at_cond_true rfl ?_
      refine at_seq ?_
      refine at_region ?_
      refine at_do (does_assign rfl) rfl rfl ?_
      refine at_nil ?_
      refine at_then ?_
      refine at_ret ?_
      refine at_inb_ret ?_
      refine at_then_ret ?_
      refine at_then_ret ?_
      refine at_inb_ret ?_
      refine at_then_ret ?_
      refine at_ret1 rfl rfl rfl (fun w9 ho9 => ?_)
      rotate_left
      refine ⟨ret_bool (hno ?_).symm, ho9.plain⟩
      have : ¬ bucket x.key = (b : Int) := fun h => by rw [bucket_of, hkk] at h; cases h.1
      rw [inB16, decide_eq_false this]; rfl
    have hpos := isK_pos hkk
    have hbt := byt_range x.key 0
    by_cases hbk : byt x.key 0 % 16 = (b : Int)
    · by_cases hvr : x.ver ≤ ver
      · refine at_seq ?_
        refine at_seq ?_
        refine at_region ?_
        refine at_do (does_move rfl) rfl rfl ?_
        refine at_do (does_move rfl) rfl rfl ?_
        refine at_do (does_len (by kernel_rfl) rfl) rfl rfl ?_
        refine at_do (does_lss rfl rfl) rfl rfl ?_
        refine at_nil ?_
        refine at_then ?_
        refine at_cond_t rfl (decide_eq_true (by omega)) ?_
        refine at_skip ?_
        refine at_then ?_
        refine at_seq ?_
        refine at_block ?_
        refine at_seq ?_
        refine at_region ?_
        refine at_do (does_move rfl) rfl rfl ?_
        refine at_do (does_move rfl) rfl rfl ?_
        refine at_do (does_indexAddrk (k := 5) (j := i) (by kernel_rfl) rfl rfl hil) rfl rfl ?_
        refine at_do (does_fieldAddr (o := 0) (by kernel_rfl) rfl) rfl rfl ?_
        refine at_do (does_load_mem (by kernel_rfl) rfl (fun w' ho => (hx.keep ho.plain).key)) rfl rfl ?_
        refine at_callv (f := 60) (enters_fn (by kernel_rfl) rfl) (fun w ho => ref_Is x.key w (by omega)) rfl rfl ?_
        refine at_do (does_not rfl) rfl rfl ?_
        refine at_do (does_move rfl) rfl rfl ?_
        refine at_know (t := 21) (d := false) rfl (by simp [*]) ?_
        refine at_on rfl rfl ?_
        refine at_do (does_move rfl) rfl rfl ?_
        refine at_on rfl rfl ?_
        refine at_do (does_move rfl) rfl rfl ?_
        refine at_on rfl rfl ?_
        refine at_do (does_indexAddrk (k := 5) (j := i) (by kernel_rfl) rfl rfl hil) rfl rfl ?_
        refine at_on rfl rfl ?_
        refine at_do (does_fieldAddr (o := 0) (by kernel_rfl) rfl) rfl rfl ?_
        refine at_on rfl rfl ?_
        refine at_do (does_load_mem (by kernel_rfl) rfl (fun w' ho => (hx.keep ho.plain).key)) rfl rfl ?_
        refine at_on rfl rfl ?_
        refine at_do (does_sidx (by kernel_rfl) rfl rfl (by first | omega | (simp; omega))) rfl rfl ?_
        refine at_on rfl rfl ?_
        refine at_do (does_conv8 (by kernel_rfl) (by kernel_rfl) rfl (by first | omega | (simp; omega))) rfl rfl ?_
        refine at_on rfl rfl ?_
        refine at_do (does_remi rfl rfl (by first | omega | (simp; omega))) rfl rfl ?_
        refine at_on rfl rfl ?_
        refine at_do (does_move rfl) rfl rfl ?_
        refine at_on rfl rfl ?_
        refine at_do (does_neq rfl rfl) rfl rfl ?_
        refine at_do (does_pick_false rfl rfl) rfl rfl ?_
        refine at_do (does_move rfl) rfl rfl ?_
        refine at_know (t := 33) (d := false) rfl (decide_eq_false (by exact fun h => h hbk)) ?_
        refine at_on rfl rfl ?_
        refine at_do (does_move rfl) rfl rfl ?_
        refine at_on rfl rfl ?_
        refine at_do (does_move rfl) rfl rfl ?_
        refine at_on rfl rfl ?_
        refine at_do (does_indexAddrk (k := 5) (j := i) (by kernel_rfl) rfl rfl hil) rfl rfl ?_
        refine at_on rfl rfl ?_
        refine at_do (does_fieldAddr (o := 4) (by kernel_rfl) rfl) rfl rfl ?_
        refine at_on rfl rfl ?_
        refine at_do (does_load_mem (by kernel_rfl) rfl (fun w' ho => (hx.keep ho.plain).ver)) rfl rfl ?_
        refine at_on rfl rfl ?_
        refine at_do (does_move rfl) rfl rfl ?_
        refine at_on rfl rfl ?_
        refine at_do (does_gtr rfl rfl) rfl rfl ?_
        refine at_do (does_pick_false rfl rfl) rfl rfl ?_
        refine at_nil ?_
        refine at_then ?_
        refine at_cond_f rfl (decide_eq_false (by omega)) ?_
        refine at_skip ?_
        refine at_inb ?_
        refine at_then ?_
        refine at_region ?_
        refine at_do (does_move rfl) rfl rfl ?_
        refine at_do (does_addi rfl rfl (by first | omega | (simp; omega))) rfl rfl ?_
        refine at_do (does_assign rfl) rfl rfl ?_
        refine at_nil ?_
        refine at_then ?_
        rotate_left
        refine at_again0 (i + 1) ⟨by omega, hstep (by rw [inB16, decide_eq_true (bucket_of.2 ⟨hkk, hbk⟩), decide_eq_true hvr]; rfl)⟩ (by omega) ⟨rfl, rfl, rfl, rfl, trivial⟩
      · refine at_seq ?_
        refine at_seq ?_
        refine at_region ?_
        refine at_do (does_move rfl) rfl rfl ?_
        refine at_do (does_move rfl) rfl rfl ?_
        refine at_do (does_len (by kernel_rfl) rfl) rfl rfl ?_
        refine at_do (does_lss rfl rfl) rfl rfl ?_
        refine at_nil ?_
        refine at_then ?_
        refine at_cond_t rfl (decide_eq_true (by omega)) ?_
        refine at_skip ?_
        refine at_then ?_
        refine at_seq ?_
        refine at_block ?_
        refine at_seq ?_
        refine at_region ?_
        refine at_do (does_move rfl) rfl rfl ?_
        refine at_do (does_move rfl) rfl rfl ?_
        refine at_do (does_indexAddrk (k := 5) (j := i) (by kernel_rfl) rfl rfl hil) rfl rfl ?_
        refine at_do (does_fieldAddr (o := 0) (by kernel_rfl) rfl) rfl rfl ?_
        refine at_do (does_load_mem (by kernel_rfl) rfl (fun w' ho => (hx.keep ho.plain).key)) rfl rfl ?_
        refine at_callv (f := 60) (enters_fn (by kernel_rfl) rfl) (fun w ho => ref_Is x.key w (by omega)) rfl rfl ?_
        refine at_do (does_not rfl) rfl rfl ?_
        refine at_do (does_move rfl) rfl rfl ?_
        refine at_know (t := 21) (d := false) rfl (by simp [*]) ?_
        refine at_on rfl rfl ?_
        refine at_do (does_move rfl) rfl rfl ?_
        refine at_on rfl rfl ?_
        refine at_do (does_move rfl) rfl rfl ?_
        refine at_on rfl rfl ?_
        refine at_do (does_indexAddrk (k := 5) (j := i) (by kernel_rfl) rfl rfl hil) rfl rfl ?_
        refine at_on rfl rfl ?_
        refine at_do (does_fieldAddr (o := 0) (by kernel_rfl) rfl) rfl rfl ?_
        refine at_on rfl rfl ?_
        refine at_do (does_load_mem (by kernel_rfl) rfl (fun w' ho => (hx.keep ho.plain).key)) rfl rfl ?_
        refine at_on rfl rfl ?_
        refine at_do (does_sidx (by kernel_rfl) rfl rfl (by first | omega | (simp; omega))) rfl rfl ?_
        refine at_on rfl rfl ?_
        refine at_do (does_conv8 (by kernel_rfl) (by kernel_rfl) rfl (by first | omega | (simp; omega))) rfl rfl ?_
        refine at_on rfl rfl ?_
        refine at_do (does_remi rfl rfl (by first | omega | (simp; omega))) rfl rfl ?_
        refine at_on rfl rfl ?_
        refine at_do (does_move rfl) rfl rfl ?_
        refine at_on rfl rfl ?_
        refine at_do (does_neq rfl rfl) rfl rfl ?_
        refine at_do (does_pick_false rfl rfl) rfl rfl ?_
        refine at_do (does_move rfl) rfl rfl ?_
        refine at_know (t := 33) (d := false) rfl (decide_eq_false (by exact fun h => h hbk)) ?_
        refine at_on rfl rfl ?_
        refine at_do (does_move rfl) rfl rfl ?_
        refine at_on rfl rfl ?_
        refine at_do (does_move rfl) rfl rfl ?_
        refine at_on rfl rfl ?_
        refine at_do (does_indexAddrk (k := 5) (j := i) (by kernel_rfl) rfl rfl hil) rfl rfl ?_
        refine at_on rfl rfl ?_
        refine at_do (does_fieldAddr (o := 4) (by kernel_rfl) rfl) rfl rfl ?_
        refine at_on rfl rfl ?_
        refine at_do (does_load_mem (by kernel_rfl) rfl (fun w' ho => (hx.keep ho.plain).ver)) rfl rfl ?_
        refine at_on rfl rfl ?_
        refine at_do (does_move rfl) rfl rfl ?_
        refine at_on rfl rfl ?_
        refine at_do (does_gtr rfl rfl) rfl rfl ?_
        refine at_do (does_pick_false rfl rfl) rfl rfl ?_
        refine at_nil ?_
        refine at_then ?_
        refine at_cond_t rfl (decide_eq_true (by omega)) ?_
        refine at_seq ?_
        refine at_region ?_
        refine at_do (does_assign rfl) rfl rfl ?_
        refine at_nil ?_
        refine at_then ?_
        refine at_ret ?_
        refine at_inb_ret ?_
        refine at_then_ret ?_
        refine at_then_ret ?_
        refine at_inb_ret ?_
        refine at_then_ret ?_
        refine at_ret1 rfl rfl rfl (fun w9 ho9 => ?_)
        rotate_left
        exact ⟨ret_bool (hno (by rw [inB16, decide_eq_false hvr]; simp)).symm, ho9.plain⟩
    · refine at_seq ?_
      refine at_seq ?_
      refine at_region ?_
      refine at_do (does_move rfl) rfl rfl ?_
      refine at_do (does_move rfl) rfl rfl ?_
      refine at_do (does_len (by kernel_rfl) rfl) rfl rfl ?_
      refine at_do (does_lss rfl rfl) rfl rfl ?_
      refine at_nil ?_
      refine at_then ?_
      refine at_cond_t rfl (decide_eq_true (by omega)) ?_
      refine at_skip ?_
      refine at_then ?_
      refine at_seq ?_
      refine at_block ?_
      refine at_seq ?_
      refine at_region ?_
      refine at_do (does_move rfl) rfl rfl ?_
      refine at_do (does_move rfl) rfl rfl ?_
      refine at_do (does_indexAddrk (k := 5) (j := i) (by kernel_rfl) rfl rfl hil) rfl rfl ?_
      refine at_do (does_fieldAddr (o := 0) (by kernel_rfl) rfl) rfl rfl ?_
      refine at_do (does_load_mem (by kernel_rfl) rfl (fun w' ho => (hx.keep ho.plain).key)) rfl rfl ?_
      refine at_callv (f := 60) (enters_fn (by kernel_rfl) rfl) (fun w ho => ref_Is x.key w (by omega)) rfl rfl ?_
      refine at_do (does_not rfl) rfl rfl ?_
      refine at_do (does_move rfl) rfl rfl ?_
      refine at_know (t := 21) (d := false) rfl (by simp [*]) ?_
      refine at_on rfl rfl ?_
      refine at_do (does_move rfl) rfl rfl ?_
      refine at_on rfl rfl ?_
      refine at_do (does_move rfl) rfl rfl ?_
      refine at_on rfl rfl ?_
      refine at_do (does_indexAddrk (k := 5) (j := i) (by kernel_rfl) rfl rfl hil) rfl rfl ?_
      refine at_on rfl rfl ?_
      refine at_do (does_fieldAddr (o := 0) (by kernel_rfl) rfl) rfl rfl ?_
      refine at_on rfl rfl ?_
      refine at_do (does_load_mem (by kernel_rfl) rfl (fun w' ho => (hx.keep ho.plain).key)) rfl rfl ?_
      refine at_on rfl rfl ?_
      refine at_do (does_sidx (by kernel_rfl) rfl rfl (by first | omega | (simp; omega))) rfl rfl ?_
      refine at_on rfl rfl ?_
      refine at_do (does_conv8 (by kernel_rfl) (by kernel_rfl) rfl (by first | omega | (simp; omega))) rfl rfl ?_
      refine at_on rfl rfl ?_
      refine at_do (does_remi rfl rfl (by first | omega | (simp; omega))) rfl rfl ?_
      refine at_on rfl rfl ?_
      refine at_do (does_move rfl) rfl rfl ?_
      refine at_on rfl rfl ?_
      refine at_do (does_neq rfl rfl) rfl rfl ?_
      refine at_do (does_pick_false rfl rfl) rfl rfl ?_
      refine at_do (does_move rfl) rfl rfl ?_
      refine at_know (t := 33) (d := true) rfl (decide_eq_true (by exact hbk)) ?_
      refine at_no rfl rfl rfl rfl ?_
      refine at_no rfl rfl rfl rfl ?_
      refine at_no rfl rfl rfl rfl ?_
      refine at_no rfl rfl rfl rfl ?_
      refine at_no rfl rfl rfl rfl ?_
      refine at_no rfl rfl rfl rfl ?_
      refine at_no rfl rfl rfl rfl ?_
      refine at_do (does_pick_true rfl rfl) rfl rfl ?_
      refine at_nil ?_
      refine at_then ?_
      refine at_cond_true rfl ?_
      refine at_seq ?_
      refine at_region ?_
      refine at_do (does_assign rfl) rfl rfl ?_
      refine at_nil ?_
      refine at_then ?_
      refine at_ret ?_
      refine at_inb_ret ?_
      refine at_then_ret ?_
      refine at_then_ret ?_
      refine at_inb_ret ?_
      refine at_then_ret ?_
      refine at_ret1 rfl rfl rfl (fun w9 ho9 => ?_)
      rotate_left
      exact ⟨ret_bool (hno (by rw [inB16, decide_eq_false (fun h => hbk (bucket_of.1 h).2)]; rfl)).symm, ho9.plain⟩
  · obtain rfl : i = xs.length := by omega
    have hall : xs.all (inB16 b ver) = true := all_upto fun j hj => hI j hj hj
    have cI : ∀ {w'}, ItemsAt w' (.slice A0 xs.length c0) xs → Calls Tryd.prog 72 #[.slice A0 xs.length c0] w' fun e w3 => e = .returned (.bool (leafOk xs)) ∧ Below w'.heap.size w' w3 := fun h => refl_Is _ xs _ h hn hk
    cases hlo : leafOk xs
    · rw [hlo] at cI
      refine at_seq ?_
      refine at_seq ?_
      refine at_region ?_
      refine at_do (does_move rfl) rfl rfl ?_
      refine at_do (does_move rfl) rfl rfl ?_
      refine at_do (does_len (by kernel_rfl) rfl) rfl rfl ?_
      refine at_do (does_lss rfl rfl) rfl rfl ?_
      refine at_nil ?_
      refine at_then ?_
      refine at_cond_f rfl (decide_eq_false (by omega)) ?_
      refine at_exit ?_
      refine at_then_exit ?_
      refine at_then_exit ?_
      refine at_inb_here ?_
      refine at_then ?_
      refine at_seq ?_
      refine at_region ?_
      refine at_do (does_move rfl) rfl rfl ?_
      refine at_callv (f := 72) (enters_fn (by kernel_rfl) rfl) (fun w ho => cI (ho.oldItems hV0)) rfl rfl ?_
      refine at_do (does_move rfl) rfl rfl ?_
      refine at_no rfl rfl rfl rfl ?_
      refine at_no rfl rfl rfl rfl ?_
      refine at_do (does_pick_false rfl rfl) rfl rfl ?_
      refine at_do (does_move rfl) rfl rfl ?_
      refine at_no rfl rfl rfl rfl ?_
      refine at_no rfl rfl rfl rfl ?_
      refine at_do (does_pick_false rfl rfl) rfl rfl ?_
      refine at_do (does_assign rfl) rfl rfl ?_
      refine at_nil ?_
      refine at_then ?_
      refine at_ret ?_
      refine at_ret1 rfl rfl rfl (fun w9 ho9 => ?_)
      rotate_left
      exact ⟨ret_bool (by simp [mayL, hlo]), ho9.plain⟩
    · rw [hlo] at cI
      refine at_seq ?_
      refine at_seq ?_
      refine at_region ?_
      refine at_do (does_move rfl) rfl rfl ?_
      refine at_do (does_move rfl) rfl rfl ?_
      refine at_do (does_len (by kernel_rfl) rfl) rfl rfl ?_
      refine at_do (does_lss rfl rfl) rfl rfl ?_
      refine at_nil ?_
      refine at_then ?_
      refine at_cond_f rfl (decide_eq_false (by omega)) ?_
      refine at_exit ?_
      refine at_then_exit ?_
      refine at_then_exit ?_
      refine at_inb_here ?_
      refine at_then ?_
      refine at_seq ?_
      refine at_region ?_
      refine at_do (does_move rfl) rfl rfl ?_
      refine at_callv (f := 72) (enters_fn (by kernel_rfl) rfl) (fun w ho => cI (ho.oldItems hV0)) rfl rfl ?_
      refine at_do (does_move rfl) rfl rfl ?_
      refine at_on rfl rfl ?_
      refine at_do (does_move rfl) rfl rfl ?_
      refine at_on rfl rfl ?_
      refine at_do (does_leq rfl rfl) rfl rfl ?_
      refine at_do (does_pick_true rfl rfl) rfl rfl ?_
      refine at_do (does_move rfl) rfl rfl ?_
      refine at_guardD rfl rfl (fun z0 => ?_) (fun z0 => ?_)
      refine at_on rfl rfl ?_
      refine at_do (does_move rfl) rfl rfl ?_
      refine at_on rfl rfl ?_
      refine at_do (does_leq rfl rfl) rfl rfl ?_
      refine at_do (does_pick_true rfl rfl) rfl rfl ?_
      refine at_do (does_assign rfl) rfl rfl ?_
      refine at_nil ?_
      refine at_then ?_
      refine at_ret ?_
      refine at_ret1 rfl rfl rfl (fun w9 ho9 => ?_)
      rotate_left
      refine at_no rfl rfl rfl rfl ?_
      refine at_no rfl rfl rfl rfl ?_
      refine at_do (does_pick_false rfl rfl) rfl rfl ?_
      refine at_do (does_assign rfl) rfl rfl ?_
      refine at_nil ?_
      refine at_then ?_
      refine at_ret ?_
      refine at_ret1 rfl rfl rfl (fun w9 ho9 => ?_)
      rotate_left
      all_goals
        refine ⟨ret_bool ?_, ho9.plain⟩
        rw [Bool.eq_iff_iff]
        first | (simp_all [mayL]; done) | (simp_all [mayL]; omega)
def mayT (fs : List (List Itm)) (vs : List Int) : Bool := (List.range 16).all fun b => mayL b (fs.getD b []) (vs.getD b 0)
theorem mayT_no {fs : List (List Itm)} {vs : List Int} {b : Nat} (h : b < 16) (hm : mayL b (fs.getD b []) (vs.getD b 0) = false) : mayT fs vs = false :=
  List.all_eq_false.2 ⟨b, List.mem_range.2 h, by rw [hm]; simp⟩
theorem mayT_yes {fs : List (List Itm)} {vs : List Int} (h : ∀ b, b < 16 → mayL b (fs.getD b []) (vs.getD b 0) = true) : mayT fs vs = true :=
  List.all_eq_true.2 fun b hb => h b (List.mem_range.1 hb)
/-- Lists of few items of short keys. -/
def SmallT (fs : List (List Itm)) : Prop := ∀ b, (fs.getD b []).length ≤ 66 ∧ ∀ x ∈ fs.getD b [], x.key.length ≤ 60
theorem Own.oldTrunk {w0 w b : World} {M F : Nat → Prop} {D : List Nat} {H : List Res} {ls : List Value} {fs : List (List Itm)} (h : Own ⟨w0, fun _ => False, M, b, F, D⟩ H w) (hB : TrunkV w0 Nof ls fs) : TrunkV w Nof ls fs := hB.keep h.plain
set_option maxHeartbeats 8000000 in
theorem trunk_May (ls : List Value) (vs : List Int) (fs : List (List Itm)) (w : World) (hG : Glob w) (hT : TrunkV w Nof ls fs) (hvs : vs.length = 16) (hS : SmallT fs) :
    Calls Tryd.prog 62 #[trunkA ls vs] w fun e w' => e = .returned (.bool (mayT fs vs)) ∧ Below w.heap.size w w' := by
  have hl1 := hT.l1
  have h32 := trunk_size hl1 hvs
  have hpart : ((trunkC ls vs).toList.drop (0 + 0)).take 16 = ls := by
    simp only [trunkC, List.toList_toArray, Nat.add_zero, List.drop_zero]
    rw [← hl1, List.take_left]
  refine calls_plain Tryd.func62 rfl Tryd.ntmps62 rfl ?_
  refine at_seq ?_
  refine at_region ?_
  refine at_boxagg rfl rfl fun gz0 => ?_
  refine at_do (does_assign rfl) rfl rfl ?_
  refine at_nil ?_
  refine at_then ?_
  refine at_seq ?_
  refine at_seq ?_
  refine at_region ?_
  refine at_do (does_fieldAddr (o := 0) (by kernel_rfl) rfl) rfl rfl ?_
  refine at_do (does_loadpart (i := 0) (j := 0 + 0) (vs := ls) (by rw [hl1]; kernel_rfl) rfl rfl (by rw [hl1]; exact hpart)) rfl rfl ?_
  refine at_do (does_move rfl) rfl rfl ?_
  refine at_nil ?_
  refine at_then ?_
  refine at_block ?_
  rotate_left
  refine at_loop0 (fun b : Nat => b ≤ 16 ∧ ∀ j, j < b → mayL j (fs.getD j []) (vs.getD j 0) = true) (fun b => [(1, .pointer (some ⟨gz0, 0, none⟩)), (6, .agg ls.toArray), (7, .int .i64 b)]) (fun b => 16 - b) 0 ⟨Nat.zero_le _, fun j h => absurd h (by omega)⟩ ⟨rfl, rfl, rfl, trivial⟩ ?_
  rintro b ⟨hb, hI⟩
  by_cases hb16 : b < 16
  · obtain ⟨v, hv, hvi⟩ := hT.at' b hb16
    have hsb := hS b
    have hver := trunk_ver (vs := vs) hl1 hvs hb16
    have cM : ∀ {w'}, Glob w' → ItemsAt w' v (fs.getD b []) → Calls Tryd.prog 76 #[.int .i64 (b : Int), v, .int .i64 (vs.getD b 0)] w' fun e w3 => e = .returned (.bool (mayL b (fs.getD b []) (vs.getD b 0))) ∧ Below w'.heap.size w' w3 := fun g h => trunk_mayLeaf b v _ _ _ g h (by omega)
    cases hm : mayL b (fs.getD b []) (vs.getD b 0)
    · rw [hm] at cM
      refine at_seq ?_
      refine at_region ?_
      refine at_do (does_lss rfl rfl) rfl rfl ?_
      refine at_nil ?_
      refine at_then ?_
      refine at_seq ?_
      refine at_cond_t rfl (decide_eq_true (by omega)) ?_
      refine at_skip ?_
      refine at_then ?_
      refine at_seq ?_
      refine at_block ?_
      refine at_seq ?_
      refine at_region ?_
      refine at_do (does_move rfl) rfl rfl ?_
      refine at_do (does_aidx (l := 16) (q := b) (by kernel_rfl) rfl rfl hb16 (by simpa using hv)) rfl rfl ?_
      refine at_do (does_assign rfl) rfl rfl ?_
      refine at_do (does_assign rfl) rfl rfl ?_
      refine at_nil ?_
      refine at_then ?_
      refine at_seq ?_
      refine at_region ?_
      refine at_do (does_move rfl) rfl rfl ?_
      refine at_do (does_move rfl) rfl rfl ?_
      refine at_do (does_move rfl) rfl rfl ?_
      refine at_do (does_fieldAddr (o := 16) (by kernel_rfl) rfl) rfl rfl ?_
      refine at_do (does_indexArr1 (len := 16) (j := b) (by kernel_rfl) rfl rfl hb16) rfl rfl ?_
      refine at_do (does_load (i := 0) (j := 0 + 16 + b) (by kernel_rfl) rfl rfl (by rw [Nat.zero_add]; exact hver)) rfl rfl ?_
      refine at_callv (f := 76) (enters_fn (by kernel_rfl) rfl) (fun w ho => cM (ho.glob hG id) (ho.oldItems hvi.1)) rfl rfl ?_
      refine at_do (does_not rfl) rfl rfl ?_
      refine at_nil ?_
      refine at_then ?_
      refine at_cond_t rfl (by decide) ?_
      refine at_seq ?_
      refine at_region ?_
      refine at_do (does_assign rfl) rfl rfl ?_
      refine at_nil ?_
      refine at_then ?_
      refine at_ret ?_
      refine at_inb_ret ?_
      refine at_then_ret ?_
      refine at_then_ret ?_
      refine at_inb_ret ?_
      refine at_then_ret ?_
      refine at_ret1 rfl rfl rfl (fun w9 ho9 => ?_)
      rotate_left
      exact ⟨ret_bool (mayT_no hb16 hm).symm, ho9.plain⟩
    · rw [hm] at cM
      refine at_seq ?_
      refine at_region ?_
      refine at_do (does_lss rfl rfl) rfl rfl ?_
      refine at_nil ?_
      refine at_then ?_
      refine at_seq ?_
      refine at_cond_t rfl (decide_eq_true (by omega)) ?_
      refine at_skip ?_
      refine at_then ?_
      refine at_seq ?_
      refine at_block ?_
      refine at_seq ?_
      refine at_region ?_
      refine at_do (does_move rfl) rfl rfl ?_
      refine at_do (does_aidx (l := 16) (q := b) (by kernel_rfl) rfl rfl hb16 (by simpa using hv)) rfl rfl ?_
      refine at_do (does_assign rfl) rfl rfl ?_
      refine at_do (does_assign rfl) rfl rfl ?_
      refine at_nil ?_
      refine at_then ?_
      refine at_seq ?_
      refine at_region ?_
      refine at_do (does_move rfl) rfl rfl ?_
      refine at_do (does_move rfl) rfl rfl ?_
      refine at_do (does_move rfl) rfl rfl ?_
      refine at_do (does_fieldAddr (o := 16) (by kernel_rfl) rfl) rfl rfl ?_
      refine at_do (does_indexArr1 (len := 16) (j := b) (by kernel_rfl) rfl rfl hb16) rfl rfl ?_
      refine at_do (does_load (i := 0) (j := 0 + 16 + b) (by kernel_rfl) rfl rfl (by rw [Nat.zero_add]; exact hver)) rfl rfl ?_
      refine at_callv (f := 76) (enters_fn (by kernel_rfl) rfl) (fun w ho => cM (ho.glob hG id) (ho.oldItems hvi.1)) rfl rfl ?_
      refine at_do (does_not rfl) rfl rfl ?_
      refine at_nil ?_
      refine at_then ?_
      refine at_cond_f rfl (by decide) ?_
      refine at_skip ?_
      refine at_inb ?_
      refine at_then ?_
      refine at_region ?_
      refine at_do (does_addi rfl rfl (by omega)) rfl rfl ?_
      refine at_do (does_move rfl) rfl rfl ?_
      refine at_nil ?_
      refine at_then ?_
      rotate_left
      refine at_again0 (b + 1) ⟨by omega, fun j hj => ?_⟩ (by omega) ⟨rfl, rfl, rfl, trivial⟩
      by_cases e : j = b
      · subst e; exact hm
      · exact hI j (by omega)
  · obtain rfl : b = 16 := by omega
    refine at_seq ?_
    refine at_region ?_
    refine at_do (does_lss rfl rfl) rfl rfl ?_
    refine at_nil ?_
    refine at_then ?_
    refine at_seq ?_
    refine at_cond_f rfl (decide_eq_false (by omega)) ?_
    refine at_exit ?_
    refine at_then_exit ?_
    refine at_then_exit ?_
    refine at_inb_here ?_
    refine at_then ?_
    refine at_seq ?_
    refine at_region ?_
    refine at_do (does_assign rfl) rfl rfl ?_
    refine at_nil ?_
    refine at_then ?_
    refine at_ret ?_
    refine at_ret1 rfl rfl rfl (fun w9 ho9 => ?_)
    rotate_left
    exact ⟨ret_bool (mayT_yes hI).symm, ho9.plain⟩
set_option maxHeartbeats 8000000 in
theorem refl_MayT (ls : List Value) (vs : List Int) (fs : List (List Itm)) (w : World) (hT : TrunkV w Nof ls fs) (hvs : vs.length = 16) (hS : SmallT fs) :
    Calls Tryd.prog 31 #[trunkA ls vs] w fun e w' => e = .returned (.bool (mayT fs vs)) ∧ Below w.heap.size w w' := by
  have hl1 := hT.l1
  have h32 := trunk_size hl1 hvs
  refine calls_plain Tryd.func31 rfl Tryd.ntmps31 rfl ?_
  refine at_seq ?_
  refine at_region ?_
  refine at_boxagg rfl rfl fun gz0 => ?_
  refine at_do (does_assign rfl) rfl rfl ?_
  refine at_nil ?_
  refine at_then ?_
  refine at_seq ?_
  refine at_seq ?_
  refine at_region ?_
  refine at_do (does_assign rfl) rfl rfl ?_
  refine at_nil ?_
  refine at_then ?_
  refine at_block ?_
  rotate_left
  refine at_loop0 (fun b : Nat => b ≤ 16 ∧ ∀ j, j < b → mayL j (fs.getD j []) (vs.getD j 0) = true) (fun b => [(1, .pointer (some ⟨gz0, 0, none⟩)), (3, .int .i64 b)]) (fun b => 16 - b) 0 ⟨Nat.zero_le _, fun j h => absurd h (by omega)⟩ ⟨rfl, rfl, trivial⟩ ?_
  rintro b ⟨hb, hI⟩
  by_cases hb16 : b < 16
  · obtain ⟨v, hv, hvi⟩ := hT.at' b hb16
    have hsb := hS b
    have hver := trunk_ver (vs := vs) hl1 hvs hb16
    have hleaf := trunk_leaf (vs := vs) hl1 hv
    have cM : ∀ {w'}, ItemsAt w' v (fs.getD b []) → Calls Tryd.prog 51 #[.int .i64 (b : Int), v, .int .i64 (vs.getD b 0)] w' fun e w3 => e = .returned (.bool (mayL b (fs.getD b []) (vs.getD b 0))) ∧ Below w'.heap.size w' w3 := fun h => refl_Fits b v _ _ _ h (by omega) (fun x hx => by have := hsb.2 x hx; omega)
    cases hm : mayL b (fs.getD b []) (vs.getD b 0)
    · rw [hm] at cM
      refine at_seq ?_
      refine at_seq ?_
      refine at_region ?_
      refine at_do (does_move rfl) rfl rfl ?_
      refine at_do (does_lss rfl rfl) rfl rfl ?_
      refine at_nil ?_
      refine at_then ?_
      refine at_cond_t rfl (decide_eq_true (by omega)) ?_
      refine at_skip ?_
      refine at_then ?_
      refine at_seq ?_
      refine at_block ?_
      refine at_seq ?_
      refine at_draw (by kernel_rfl) (by kernel_rfl) ?_
      refine atq_do (does_move rfl) rfl rfl ?_
      refine atq_do (does_move rfl) rfl rfl ?_
      refine atq_do (does_fieldAddr (o := 0) (by kernel_rfl) rfl) rfl rfl ?_
      refine atq_do (does_indexArr1 (len := 16) (j := b) (by kernel_rfl) rfl rfl hb16) rfl rfl ?_
      refine atq_do (does_load (i := 0) (j := 0 + 0 + b) (by kernel_rfl) rfl rfl (by rw [show 0 + 0 + b = b by omega]; exact hleaf)) rfl rfl ?_
      refine atq_do (does_move rfl) rfl rfl ?_
      refine atq_do (does_fieldAddr (o := 16) (by kernel_rfl) rfl) rfl rfl ?_
      refine atq_do (does_indexArr1 (len := 16) (j := b) (by kernel_rfl) rfl rfl hb16) rfl rfl ?_
      refine atq_do (does_load (i := 0) (j := 0 + 16 + b) (by kernel_rfl) rfl rfl (by rw [Nat.zero_add]; exact hver)) rfl rfl ?_
      refine atq_callv (f := 51) (enters_fn (by kernel_rfl) rfl) (fun w ho => cM (ho.oldItems hvi.1)) rfl rfl ?_
      refine atq_do (does_not rfl) rfl rfl ?_
      refine atq_nil ?_
      refine at_then ?_
      refine at_cond_t rfl (by decide) ?_
      refine at_seq ?_
      refine at_region ?_
      refine at_do (does_assign rfl) rfl rfl ?_
      refine at_nil ?_
      refine at_then ?_
      refine at_ret ?_
      refine at_inb_ret ?_
      refine at_then_ret ?_
      refine at_then_ret ?_
      refine at_inb_ret ?_
      refine at_then_ret ?_
      refine at_ret1 rfl rfl rfl (fun w9 ho9 => ?_)
      rotate_left
      exact ⟨ret_bool (mayT_no hb16 hm).symm, ho9.plain⟩
    · rw [hm] at cM
      refine at_seq ?_
      refine at_seq ?_
      refine at_region ?_
      refine at_do (does_move rfl) rfl rfl ?_
      refine at_do (does_lss rfl rfl) rfl rfl ?_
      refine at_nil ?_
      refine at_then ?_
      refine at_cond_t rfl (decide_eq_true (by omega)) ?_
      refine at_skip ?_
      refine at_then ?_
      refine at_seq ?_
      refine at_block ?_
      refine at_seq ?_
      refine at_draw (by kernel_rfl) (by kernel_rfl) ?_
      refine atq_do (does_move rfl) rfl rfl ?_
      refine atq_do (does_move rfl) rfl rfl ?_
      refine atq_do (does_fieldAddr (o := 0) (by kernel_rfl) rfl) rfl rfl ?_
      refine atq_do (does_indexArr1 (len := 16) (j := b) (by kernel_rfl) rfl rfl hb16) rfl rfl ?_
      refine atq_do (does_load (i := 0) (j := 0 + 0 + b) (by kernel_rfl) rfl rfl (by rw [show 0 + 0 + b = b by omega]; exact hleaf)) rfl rfl ?_
      refine atq_do (does_move rfl) rfl rfl ?_
      refine atq_do (does_fieldAddr (o := 16) (by kernel_rfl) rfl) rfl rfl ?_
      refine atq_do (does_indexArr1 (len := 16) (j := b) (by kernel_rfl) rfl rfl hb16) rfl rfl ?_
      refine atq_do (does_load (i := 0) (j := 0 + 16 + b) (by kernel_rfl) rfl rfl (by rw [Nat.zero_add]; exact hver)) rfl rfl ?_
      refine atq_callv (f := 51) (enters_fn (by kernel_rfl) rfl) (fun w ho => cM (ho.oldItems hvi.1)) rfl rfl ?_
      refine atq_do (does_not rfl) rfl rfl ?_
      refine atq_nil ?_
      refine at_then ?_
      refine at_cond_f rfl (by decide) ?_
      refine at_skip ?_
      refine at_inb ?_
      refine at_then ?_
      refine at_region ?_
      refine at_do (does_move rfl) rfl rfl ?_
      refine at_do (does_addi rfl rfl (by omega)) rfl rfl ?_
      refine at_do (does_assign rfl) rfl rfl ?_
      refine at_nil ?_
      refine at_then ?_
      rotate_left
      refine at_again0 (b + 1) ⟨by omega, fun j hj => ?_⟩ (by omega) ⟨rfl, rfl, trivial⟩
      by_cases e : j = b
      · subst e; exact hm
      · exact hI j (by omega)
  · obtain rfl : b = 16 := by omega
    refine at_seq ?_
    refine at_seq ?_
    refine at_region ?_
    refine at_do (does_move rfl) rfl rfl ?_
    refine at_do (does_lss rfl rfl) rfl rfl ?_
    refine at_nil ?_
    refine at_then ?_
    refine at_cond_f rfl (decide_eq_false (by omega)) ?_
    refine at_exit ?_
    refine at_then_exit ?_
    refine at_then_exit ?_
    refine at_inb_here ?_
    refine at_then ?_
    refine at_seq ?_
    refine at_region ?_
    refine at_do (does_assign rfl) rfl rfl ?_
    refine at_nil ?_
    refine at_then ?_
    refine at_ret ?_
    refine at_ret1 rfl rfl rfl (fun w9 ho9 => ?_)
    rotate_left
    exact ⟨ret_bool (mayT_yes hI).symm, ho9.plain⟩
end Go.Proofs.YtjpfebgpcokenaaDoor
set_option linter.unusedSimpArgs false
set_option linter.unusedVariables false
namespace Go.Proofs.YtjpfebgpcokenaaDoor
open Go.RowKit
attribute [local irreducible] cwp lwp Exit.then Exit.inBlock Exit.noGoto wpQuiet Calls fin At AtQ Again endQ RQ

theorem hd_zero : ∀ (l : List Itm) (h : 0 < l.length), hd l = l[0].key
  | x :: r, _ => rfl
def leastV (fs : List (List Itm)) (n : Nat) : Int := match leastI fs n with
  | none => -1
  | some c => (c : Int)
theorem leastI_nil {fs : List (List Itm)} {b : Nat} (h : fs.getD b [] = []) : leastI fs (b + 1) = leastI fs b := by
  conv => lhs; unfold leastI
  split
  · rename_i hn; rw [if_pos h, hn]
  · rename_i c hn; rw [if_neg (fun h' => h'.1 h), hn]
theorem leastI_first {fs : List (List Itm)} {b : Nat} (h : fs.getD b [] ≠ []) (hn : leastI fs b = none) : leastI fs (b + 1) = some b := by
  conv => lhs; unfold leastI
  rw [hn]; simp only [h, if_false]
theorem leastI_next {fs : List (List Itm)} {b c : Nat} (h : fs.getD b [] ≠ []) (hn : leastI fs b = some c) : leastI fs (b + 1) = if Op.bytesLess (hd (fs.getD b [])) (hd (fs.getD c [])) = true then some b else some c := by
  conv => lhs; unfold leastI
  rw [hn]
  simp only [h, ne_eq, not_false_eq_true, true_and]
set_option maxHeartbeats 8000000 in
theorem span_least (ls : List Value) (fs : List (List Itm)) (w : World) (hT : TrunkV w Nof ls fs) :
    Calls Tryd.prog 65 #[.agg ls.toArray] w fun e w' => e = .returned (.int .i64 (leastV fs 16)) ∧ Below w.heap.size w w' := by
  have hl1 := hT.l1
  have h16 : ls.toArray.size = 16 := by simp [hl1]
  refine calls_plain Tryd.func65 rfl Tryd.ntmps65 rfl ?_
  refine at_seq ?_
  refine at_region ?_
  refine at_boxagg rfl rfl fun gz0 => ?_
  refine at_do (does_assign rfl) rfl rfl ?_
  refine at_nil ?_
  refine at_then ?_
  refine at_seq ?_
  refine at_region ?_
  refine at_do (does_assign rfl) rfl rfl ?_
  refine at_nil ?_
  refine at_then ?_
  refine at_seq ?_
  refine at_seq ?_
  refine at_region ?_
  refine at_do (does_loadagg (i := 0) (k := 16) (by kernel_rfl) rfl rfl h16) rfl rfl ?_
  refine at_do (does_move rfl) rfl rfl ?_
  refine at_nil ?_
  refine at_then ?_
  refine at_block ?_
  rotate_left
  refine at_loop0 (fun b : Nat => b ≤ 16) (fun b => [(1, .pointer (some ⟨gz0, 0, none⟩)), (3, .int .i64 (leastV fs b)), (6, .agg ls.toArray), (7, .int .i64 b)]) (fun b => 16 - b) 0 (Nat.zero_le _) ⟨rfl, rfl, rfl, rfl, trivial⟩ ?_
  rintro b hb
  by_cases hb16 : b < 16
  · obtain ⟨v, hv, hvi⟩ := hT.at' b hb16
    have hva : ls.toArray[b]? = some v := by simpa using hv
    obtain ⟨A1, c1, rfl⟩ := hvi.1.len
    by_cases hf : fs.getD b [] = []
    · have e : leastV fs (b + 1) = leastV fs b := by rw [leastV, leastI_nil hf]; rfl
      have hlen : (fs.getD b []).length = 0 := by rw [hf]; rfl
      refine at_seq ?_
      refine at_region ?_
      refine at_do (does_lss rfl rfl) rfl rfl ?_
      refine at_nil ?_
      refine at_then ?_
      refine at_seq ?_
      refine at_cond_t rfl (decide_eq_true (by omega)) ?_
      refine at_skip ?_
      refine at_then ?_
      refine at_seq ?_
      refine at_block ?_
      refine at_seq ?_
      refine at_region ?_
      refine at_do (does_move rfl) rfl rfl ?_
      refine at_do (does_aidx (l := 16) (q := b) (by kernel_rfl) rfl rfl hb16 hva) rfl rfl ?_
      refine at_do (does_assign rfl) rfl rfl ?_
      refine at_do (does_assign rfl) rfl rfl ?_
      refine at_nil ?_
      refine at_then ?_
      refine at_seq ?_
      refine at_draw (by kernel_rfl) (by kernel_rfl) ?_
      refine atq_do (does_move rfl) rfl rfl ?_
      refine atq_do (does_len (by kernel_rfl) rfl) rfl rfl ?_
      refine atq_do (does_gtr rfl rfl) rfl rfl ?_
      refine atq_do (does_move rfl) rfl rfl ?_
      refine atq_know (t := 14) (d := false) rfl (decide_eq_false (by omega)) ?_
      refine atq_no rfl rfl rfl rfl ?_
      refine atq_no rfl rfl rfl rfl ?_
      refine atq_no rfl rfl rfl rfl ?_
      refine atq_no rfl rfl rfl rfl ?_
      refine atq_no rfl rfl rfl rfl ?_
      refine atq_no rfl rfl rfl rfl ?_
      refine atq_no rfl rfl rfl rfl ?_
      refine atq_no rfl rfl rfl rfl ?_
      refine atq_no rfl rfl rfl rfl ?_
      refine atq_no rfl rfl rfl rfl ?_
      refine atq_no rfl rfl rfl rfl ?_
      refine atq_no rfl rfl rfl rfl ?_
      refine atq_no rfl rfl rfl rfl ?_
      refine atq_no rfl rfl rfl rfl ?_
      refine atq_no rfl rfl rfl rfl ?_
      refine atq_do (does_pick_false rfl rfl) rfl rfl ?_
      refine atq_nil ?_
      refine at_then ?_
      refine at_cond_false rfl ?_
      refine at_skip ?_
      refine at_inb ?_
      refine at_then ?_
      refine at_region ?_
      refine at_do (does_addi rfl rfl (by omega)) rfl rfl ?_
      refine at_do (does_move rfl) rfl rfl ?_
      refine at_nil ?_
      refine at_then ?_
      rotate_left
      refine at_again0 (b + 1) (by omega) (by omega) ⟨rfl, ?_, rfl, rfl, trivial⟩
      rw [e]; rfl
    · have hpos : 0 < (fs.getD b []).length := List.length_pos_iff.2 hf
      obtain ⟨gb, o, c2, hve, hcc, hlt, hce⟩ := hvi.1.form hpos
      simp only [Value.slice.injEq, true_and] at hve
      obtain ⟨rfl, rfl⟩ := hve
      have hx := hce 0 hpos
      have hhd : hd (fs.getD b []) = (fs.getD b [])[0].key := hd_zero _ hpos
      cases hl : leastI fs b with
      | none =>
        have e0 : leastV fs b = -1 := by rw [leastV, hl]
        have e1 : leastV fs (b + 1) = b := by rw [leastV, leastI_first hf hl]
        rw [e0]
        refine at_seq ?_
        refine at_region ?_
        refine at_do (does_lss rfl rfl) rfl rfl ?_
        refine at_nil ?_
        refine at_then ?_
        refine at_seq ?_
        refine at_cond_t rfl (decide_eq_true (by omega)) ?_
        refine at_skip ?_
        refine at_then ?_
        refine at_seq ?_
        refine at_block ?_
        refine at_seq ?_
        refine at_region ?_
        refine at_do (does_move rfl) rfl rfl ?_
        refine at_do (does_aidx (l := 16) (q := b) (by kernel_rfl) rfl rfl hb16 hva) rfl rfl ?_
        refine at_do (does_assign rfl) rfl rfl ?_
        refine at_do (does_assign rfl) rfl rfl ?_
        refine at_nil ?_
        refine at_then ?_
        refine at_seq ?_
        refine at_draw (by kernel_rfl) (by kernel_rfl) ?_
        refine atq_do (does_move rfl) rfl rfl ?_
        refine atq_do (does_len (by kernel_rfl) rfl) rfl rfl ?_
        refine atq_do (does_gtr rfl rfl) rfl rfl ?_
        refine atq_do (does_move rfl) rfl rfl ?_
        refine atq_know (t := 14) (d := true) rfl (decide_eq_true (by omega)) ?_
        refine atq_on rfl rfl ?_
        refine atq_do (does_move rfl) rfl rfl ?_
        refine atq_on rfl rfl ?_
        refine atq_do (does_lss rfl rfl) rfl rfl ?_
        refine atq_on rfl rfl ?_
        refine atq_do (does_move rfl) rfl rfl ?_
        refine atq_know (t := 17) (d := true) rfl (decide_eq_true (by omega)) ?_
        refine atq_no rfl rfl rfl rfl ?_
        refine atq_no rfl rfl rfl rfl ?_
        refine atq_no rfl rfl rfl rfl ?_
        refine atq_no rfl rfl rfl rfl ?_
        refine atq_no rfl rfl rfl rfl ?_
        refine atq_no rfl rfl rfl rfl ?_
        refine atq_no rfl rfl rfl rfl ?_
        refine atq_no rfl rfl rfl rfl ?_
        refine atq_no rfl rfl rfl rfl ?_
        refine atq_no rfl rfl rfl rfl ?_
        refine atq_no rfl rfl rfl rfl ?_
        refine atq_on rfl rfl ?_
        refine atq_do (does_pick_true rfl rfl) rfl rfl ?_
        refine atq_do (does_pick_true rfl rfl) rfl rfl ?_
        refine atq_nil ?_
        refine at_then ?_
        refine at_cond_true rfl ?_
        refine at_region ?_
        refine at_do (does_move rfl) rfl rfl ?_
        refine at_do (does_assign rfl) rfl rfl ?_
        refine at_nil ?_
        refine at_inb ?_
        refine at_then ?_
        refine at_region ?_
        refine at_do (does_addi rfl rfl (by omega)) rfl rfl ?_
        refine at_do (does_move rfl) rfl rfl ?_
        refine at_nil ?_
        refine at_then ?_
        rotate_left
        refine at_again0 (b + 1) (by omega) (by omega) ⟨rfl, ?_, rfl, rfl, trivial⟩
        rw [e1]; rfl
      | some c =>
        obtain ⟨hcb, hcne, _⟩ := leastI_some fs b c hl
        obtain ⟨vc, hvc, hvci⟩ := hT.at' c (by omega)
        have hvca : ls.toArray[0 + c]? = some vc := by rw [Nat.zero_add]; simpa using hvc
        have hposc : 0 < (fs.getD c []).length := List.length_pos_iff.2 hcne
        obtain ⟨gc, oc, cc, rfl, hccc, hltc, hcec⟩ := hvci.1.form hposc
        have hy := hcec 0 hposc
        have hhdc : hd (fs.getD c []) = (fs.getD c [])[0].key := hd_zero _ hposc
        have e0 : leastV fs b = c := by rw [leastV, hl]
        have hnx := leastI_next hf hl
        rw [hhd, hhdc] at hnx
        rw [e0]
        generalize (fs.getD b [])[0] = x at hx hnx
        generalize (fs.getD c [])[0] = y at hy hnx
        cases hless : Op.bytesLess x.key y.key
        · rw [hless, if_neg (by simp)] at hnx
          have e1 : leastV fs (b + 1) = c := by rw [leastV, hnx]
          refine at_seq ?_
          refine at_region ?_
          refine at_do (does_lss rfl rfl) rfl rfl ?_
          refine at_nil ?_
          refine at_then ?_
          refine at_seq ?_
          refine at_cond_t rfl (decide_eq_true (by omega)) ?_
          refine at_skip ?_
          refine at_then ?_
          refine at_seq ?_
          refine at_block ?_
          refine at_seq ?_
          refine at_region ?_
          refine at_do (does_move rfl) rfl rfl ?_
          refine at_do (does_aidx (l := 16) (q := b) (by kernel_rfl) rfl rfl hb16 hva) rfl rfl ?_
          refine at_do (does_assign rfl) rfl rfl ?_
          refine at_do (does_assign rfl) rfl rfl ?_
          refine at_nil ?_
          refine at_then ?_
          refine at_seq ?_
          refine at_draw (by kernel_rfl) (by kernel_rfl) ?_
          refine atq_do (does_move rfl) rfl rfl ?_
          refine atq_do (does_len (by kernel_rfl) rfl) rfl rfl ?_
          refine atq_do (does_gtr rfl rfl) rfl rfl ?_
          refine atq_do (does_move rfl) rfl rfl ?_
          refine atq_know (t := 14) (d := true) rfl (decide_eq_true (by omega)) ?_
          refine atq_on rfl rfl ?_
          refine atq_do (does_move rfl) rfl rfl ?_
          refine atq_on rfl rfl ?_
          refine atq_do (does_lss rfl rfl) rfl rfl ?_
          refine atq_on rfl rfl ?_
          refine atq_do (does_move rfl) rfl rfl ?_
          refine atq_know (t := 17) (d := false) rfl (decide_eq_false (by omega)) ?_
          refine atq_on rfl rfl ?_
          refine atq_do (does_move rfl) rfl rfl ?_
          refine atq_on rfl rfl ?_
          refine atq_do (does_indexAddrk (k := 5) (j := 0) (by kernel_rfl) rfl rfl hpos) rfl rfl ?_
          refine atq_on rfl rfl ?_
          refine atq_do (does_fieldAddr (o := 0) (by kernel_rfl) rfl) rfl rfl ?_
          refine atq_on rfl rfl ?_
          refine atq_do (does_load_mem (by kernel_rfl) rfl (fun w' ho => (hx.keep ho.plain).key)) rfl rfl ?_
          refine atq_on rfl rfl ?_
          refine atq_do (does_move rfl) rfl rfl ?_
          refine atq_on rfl rfl ?_
          refine atq_do (does_indexArr1 (len := 16) (j := c) (by kernel_rfl) rfl rfl (by omega)) rfl rfl ?_
          refine atq_on rfl rfl ?_
          refine atq_do (does_load (i := 0) (by kernel_rfl) rfl rfl hvca) rfl rfl ?_
          refine atq_on rfl rfl ?_
          refine atq_do (does_indexAddrk (k := 5) (j := 0) (by kernel_rfl) rfl rfl hposc) rfl rfl ?_
          refine atq_on rfl rfl ?_
          refine atq_do (does_fieldAddr (o := 0) (by kernel_rfl) rfl) rfl rfl ?_
          refine atq_on rfl rfl ?_
          refine atq_do (does_load_mem (by kernel_rfl) rfl (fun w' ho => (hy.keep ho.plain).key)) rfl rfl ?_
          refine atq_on rfl rfl ?_
          refine atq_do (does_slss rfl rfl) rfl rfl ?_
          refine atq_on rfl rfl ?_
          refine atq_do (does_pick_false rfl rfl) rfl rfl ?_
          refine atq_do (does_pick_true rfl rfl) rfl rfl ?_
          refine atq_nil ?_
          refine at_then ?_
          refine at_cond_f rfl (by exact hless) ?_
          refine at_skip ?_
          refine at_inb ?_
          refine at_then ?_
          refine at_region ?_
          refine at_do (does_addi rfl rfl (by omega)) rfl rfl ?_
          refine at_do (does_move rfl) rfl rfl ?_
          refine at_nil ?_
          refine at_then ?_
          rotate_left
          refine at_again0 (b + 1) (by omega) (by omega) ⟨rfl, ?_, rfl, rfl, trivial⟩
          rw [e1]; rfl
        · rw [hless, if_pos rfl] at hnx
          have e1 : leastV fs (b + 1) = b := by rw [leastV, hnx]
          refine at_seq ?_
          refine at_region ?_
          refine at_do (does_lss rfl rfl) rfl rfl ?_
          refine at_nil ?_
          refine at_then ?_
          refine at_seq ?_
          refine at_cond_t rfl (decide_eq_true (by omega)) ?_
          refine at_skip ?_
          refine at_then ?_
          refine at_seq ?_
          refine at_block ?_
          refine at_seq ?_
          refine at_region ?_
          refine at_do (does_move rfl) rfl rfl ?_
          refine at_do (does_aidx (l := 16) (q := b) (by kernel_rfl) rfl rfl hb16 hva) rfl rfl ?_
          refine at_do (does_assign rfl) rfl rfl ?_
          refine at_do (does_assign rfl) rfl rfl ?_
          refine at_nil ?_
          refine at_then ?_
          refine at_seq ?_
          refine at_draw (by kernel_rfl) (by kernel_rfl) ?_
          refine atq_do (does_move rfl) rfl rfl ?_
          refine atq_do (does_len (by kernel_rfl) rfl) rfl rfl ?_
          refine atq_do (does_gtr rfl rfl) rfl rfl ?_
          refine atq_do (does_move rfl) rfl rfl ?_
          refine atq_know (t := 14) (d := true) rfl (decide_eq_true (by omega)) ?_
          refine atq_on rfl rfl ?_
          refine atq_do (does_move rfl) rfl rfl ?_
          refine atq_on rfl rfl ?_
          refine atq_do (does_lss rfl rfl) rfl rfl ?_
          refine atq_on rfl rfl ?_
          refine atq_do (does_move rfl) rfl rfl ?_
          refine atq_know (t := 17) (d := false) rfl (decide_eq_false (by omega)) ?_
          refine atq_on rfl rfl ?_
          refine atq_do (does_move rfl) rfl rfl ?_
          refine atq_on rfl rfl ?_
          refine atq_do (does_indexAddrk (k := 5) (j := 0) (by kernel_rfl) rfl rfl hpos) rfl rfl ?_
          refine atq_on rfl rfl ?_
          refine atq_do (does_fieldAddr (o := 0) (by kernel_rfl) rfl) rfl rfl ?_
          refine atq_on rfl rfl ?_
          refine atq_do (does_load_mem (by kernel_rfl) rfl (fun w' ho => (hx.keep ho.plain).key)) rfl rfl ?_
          refine atq_on rfl rfl ?_
          refine atq_do (does_move rfl) rfl rfl ?_
          refine atq_on rfl rfl ?_
          refine atq_do (does_indexArr1 (len := 16) (j := c) (by kernel_rfl) rfl rfl (by omega)) rfl rfl ?_
          refine atq_on rfl rfl ?_
          refine atq_do (does_load (i := 0) (by kernel_rfl) rfl rfl hvca) rfl rfl ?_
          refine atq_on rfl rfl ?_
          refine atq_do (does_indexAddrk (k := 5) (j := 0) (by kernel_rfl) rfl rfl hposc) rfl rfl ?_
          refine atq_on rfl rfl ?_
          refine atq_do (does_fieldAddr (o := 0) (by kernel_rfl) rfl) rfl rfl ?_
          refine atq_on rfl rfl ?_
          refine atq_do (does_load_mem (by kernel_rfl) rfl (fun w' ho => (hy.keep ho.plain).key)) rfl rfl ?_
          refine atq_on rfl rfl ?_
          refine atq_do (does_slss rfl rfl) rfl rfl ?_
          refine atq_on rfl rfl ?_
          refine atq_do (does_pick_false rfl rfl) rfl rfl ?_
          refine atq_do (does_pick_true rfl rfl) rfl rfl ?_
          refine atq_nil ?_
          refine at_then ?_
          refine at_cond_t rfl (by exact hless) ?_
          refine at_region ?_
          refine at_do (does_move rfl) rfl rfl ?_
          refine at_do (does_assign rfl) rfl rfl ?_
          refine at_nil ?_
          refine at_inb ?_
          refine at_then ?_
          refine at_region ?_
          refine at_do (does_addi rfl rfl (by omega)) rfl rfl ?_
          refine at_do (does_move rfl) rfl rfl ?_
          refine at_nil ?_
          refine at_then ?_
          rotate_left
          refine at_again0 (b + 1) (by omega) (by omega) ⟨rfl, ?_, rfl, rfl, trivial⟩
          rw [e1]; rfl
  · obtain rfl : b = 16 := by omega
    refine at_seq ?_
    refine at_region ?_
    refine at_do (does_lss rfl rfl) rfl rfl ?_
    refine at_nil ?_
    refine at_then ?_
    refine at_seq ?_
    refine at_cond_f rfl (decide_eq_false (by omega)) ?_
    refine at_exit ?_
    refine at_then_exit ?_
    refine at_then_exit ?_
    refine at_inb_here ?_
    refine at_then ?_
    refine at_seq ?_
    refine at_region ?_
    refine at_do (does_move rfl) rfl rfl ?_
    refine at_do (does_assign rfl) rfl rfl ?_
    refine at_nil ?_
    refine at_then ?_
    refine at_ret ?_
    refine at_ret1 rfl rfl rfl (fun w9 ho9 => ?_)
    rotate_left
    exact ⟨rfl, ho9.plain⟩
theorem span_all (ls : List Value) (vs : List Int) (w : World) : Calls Tryd.prog 39 #[trunkA ls vs] w fun e w' => ∃ h, e = .returned (.func (.func 64) #[] #[.pointer (some ⟨h, 0, none⟩)]) ∧ Below w.heap.size w w' ∧ w.heap.size ≤ h ∧ w'.heap[h]? = some (.cells (trunkC ls vs) 26) := by
  refine calls_plain Tryd.func39 rfl Tryd.ntmps39 rfl ?_
  refine at_seq ?_
  refine at_region ?_
  refine at_boxagg rfl rfl fun gz0 => ?_
  refine at_do (does_assign rfl) rfl rfl ?_
  refine at_nil ?_
  refine at_then ?_
  refine at_seq ?_
  refine at_region ?_
  refine at_do (does_makeFunc rfl) rfl rfl ?_
  refine at_do (does_assign rfl) rfl rfl ?_
  refine at_nil ?_
  refine at_then ?_
  refine at_ret ?_
  refine at_ret1 rfl rfl rfl (fun w9 ho9 => ?_)
  rotate_left
  exact ⟨_, rfl, ho9.plain, (ho9.blkOut (List.mem_cons_self ..)).1, (ho9.blkOut (List.mem_cons_self ..)).2⟩
end Go.Proofs.YtjpfebgpcokenaaDoor
set_option linter.unusedSimpArgs false
set_option linter.unusedVariables false
namespace Go.Proofs.YtjpfebgpcokenaaDoor
open Go.RowKit
attribute [local irreducible] cwp lwp Exit.then Exit.inBlock Exit.noGoto wpQuiet Calls fin At AtQ Again endQ RQ

def seqP (xs : List Itm) : List (Value × Value) := (List.range xs.length).map fun (i : Nat) => (.int .i64 (i : Int), itmA (xs.getD i default))
theorem seqP_len (xs : List Itm) : (seqP xs).length = xs.length := by simp [seqP]
theorem seqP_get {xs : List Itm} {i : Nat} (h : i < xs.length) : (seqP xs)[i]? = some (.int .i64 (i : Int), itmA xs[i]) := by simp [seqP, h, List.getD_eq_getElem?_getD]
theorem ItmAt.move {w w' : World} {G : Nat → Prop} {gb o : Nat} {x : Itm} (h : ItmAt w gb o x) (hG : ¬ G gb) (hf : Frm w G w') : ItmAt w' gb o x := fun j u hu => by
  have := h j u hu
  exact (World.cell?_of_block (hf.old gb (World.block_lt_of_cell? _ _ this) hG)).trans this
/-- The head of a leaf, and what is behind it. -/
theorem leaf_tail {w : World} {B : Nat → Prop} {gb o c : Nat} {x : Itm} {r : List Itm} (h : KeptI w B (.slice (some ⟨gb, o, none⟩) (x :: r).length c) (x :: r)) :
    KeptI w B (.slice (some (if c = 1 then ⟨gb, o, none⟩ else (⟨gb, o, none⟩ : Addr).add (1 * 5))) ((x :: r).length - 1) (c - 1)) r := by
  have hB := h.2 (by simp) gb (by simp [Value.ownBlock])
  have hlen : (x :: r).length - 1 = r.length := by simp
  rcases h.1 with ⟨e, _⟩ | ⟨A, c', e, hc, h2⟩
  · cases e
  · simp only [Value.slice.injEq, Option.some.injEq, true_and] at e
    obtain ⟨rfl, rfl⟩ := e
    have hc : r.length + 1 ≤ c := by simpa using hc
    rw [hlen]
    refine ⟨.inr ⟨if c = 1 then ⟨gb, o, none⟩ else (⟨gb, o, none⟩ : Addr).add (1 * 5), c - 1, rfl, by omega, fun j u hu => ?_⟩, fun hl g hg => ?_⟩
    · have hj : j < r.length * 5 := by have := (List.getElem?_eq_some_iff.1 hu).1; rwa [itms_len] at this
      rw [if_neg (by omega), add_add']
      refine h2 (1 * 5 + j) u ?_
      simp only [itms, List.flatMap_cons]
      rw [List.getElem?_append_right (by rw [itmV_len]; omega), itmV_len, show 1 * 5 + j - 5 = j by omega]
      exact hu
    · have hc1 : ¬ c = 1 := by omega
      rw [if_neg hc1, add_none] at hg
      have : g = gb := by simpa [Value.ownBlock] using hg.symm
      subst this; exact hB
theorem TrunkV.setAt {w : World} {B : Nat → Prop} {ls : List Value} {fs : List (List Itm)} (h : TrunkV w B ls fs) {c : Nat} (hc : c < 16) {v : Value} {r : List Itm} (hv : KeptI w B v r) : TrunkV w B (ls.set c v) (fs.set c r) :=
  ⟨by rw [List.length_set]; exact h.l1, by rw [List.length_set]; exact h.l2, fun i hi => by
    have h1 := h.l1
    have h2 := h.l2
    by_cases e : c = i
    · subst e
      exact ⟨v, List.getElem?_set_self (by omega), by rw [List.getD_eq_getElem?_getD, List.getElem?_set_self (by omega)]; exact hv⟩
    · obtain ⟨u, q1, q2⟩ := h.at' i hi
      exact ⟨u, by rw [List.getElem?_set_ne e]; exact q1, by rw [List.getD_eq_getElem?_getD, List.getElem?_set_ne e, ← List.getD_eq_getElem?_getD]; exact q2⟩⟩
theorem mergeI_none {n : Nat} {gs : List (List Itm)} (hl : gs.length = 16) (h : leastI gs 16 = none) : mergeI n gs = [] := by
  cases n with
  | zero => rfl
  | succ n => unfold mergeI; rw [hl, h]
theorem mergeI_some {n c : Nat} {gs : List (List Itm)} {x : Itm} {r : List Itm} (hl : gs.length = 16) (h : leastI gs 16 = some c) (hc : gs.getD c [] = x :: r) (hn : gs.flatten.length ≤ n) :
    0 < n ∧ mergeI n gs = x :: mergeI (n - 1) (gs.set c r) ∧ (gs.set c r).flatten.length ≤ n - 1 := by
  have hg : gs[c]? = some (x :: r) := by
    rw [List.getD_eq_getElem?_getD] at hc
    cases h1 : gs[c]? with
    | none => rw [h1] at hc; simp at hc
    | some l => rw [h1] at hc; simp at hc; rw [hc]
  have hp := (flatten_set gs c x r hg).length_eq
  simp only [List.length_cons] at hp
  cases n with
  | zero => omega
  | succ n =>
    refine ⟨by omega, ?_, by omega⟩
    conv => lhs; unfold mergeI
    rw [hl, h]
    simp only [hc, restI, List.tail_cons]
    rfl
theorem mergeI_len : ∀ (n : Nat) (gs : List (List Itm)), (mergeI n gs).length ≤ n
  | 0, gs => by simp [mergeI]
  | n + 1, gs => by
    unfold mergeI
    split
    · simp
    · split
      · simp only [List.length_cons]
        have := mergeI_len n (restI gs ‹Nat›)
        omega
      · simp
def nilsC : Array Value := (List.replicate 16 (Value.slice none 0 0)).toArray
set_option maxHeartbeats 8000000 in
theorem span_all1 (ls : List Value) (vs : List Int) (fs : List (List Itm)) (N : Nat) {h tb : Nat} (w : World) (G B0 : Nat → Prop) (hc : w.heap[h]? = some (.cells (trunkC ls vs) tb)) (hGh : ¬ G h) (hT : TrunkV w G ls fs) (hN : N ≤ 100000) (hfl : fs.flatten.length ≤ N) :
    SeqD Tryd.prog 64 [.pointer (some ⟨h, 0, none⟩)] (seqP (mergeI N fs)) G B0 w := by
  intro l J Jx hJf hxf hst hxst hY h0
  have hl1 := hT.l1
  have hhlt : h < w.heap.size := (Array.getElem?_eq_some_iff.1 hc).1
  have hcell : ∀ {w' : World}, Frm w G w' → ∀ j v, ls[j]? = some v → w'.cell? ((⟨h, 0 + 0, none⟩ : Addr).add j) = some v := fun {w'} hf j v hv => by
    rw [add_none, show 0 + 0 + j = j by omega]
    have h1 := (cell_of_row w h j _ tb (0, 0) hc).trans (trunk_leaf hl1 hv)
    exact (World.cell?_of_block (a := ⟨h, j, none⟩) (hf.old h hhlt hGh)).trans h1
  have hJf' : ∀ i B W, J i B W → Frm w G W := fun i B W hj => (hJf i B W hj).1
  have cL : ∀ {us : List Value} {gs : List (List Itm)} {w' : World}, TrunkV w G us gs → Frm w G w' → Calls Tryd.prog 65 #[.agg us.toArray] w' fun e w3 => e = .returned (.int .i64 (leastV gs 16)) ∧ Below w'.heap.size w' w3 := fun ht hf => span_least _ _ _ (ht.move hf (fun _ _ h => h.elim))
  have hone : ∀ {us : List Value} {gs : List (List Itm)}, TrunkV w G us gs → (us.toArray.toList.all (·.oneCell')) = true := fun {us gs} ht => by
    rw [List.all_eq_true]
    intro u hu
    obtain ⟨i, hi, rfl⟩ := List.getElem_of_mem (by simpa using hu : u ∈ us)
    obtain ⟨v, q1, q2⟩ := ht.at' i (by have := ht.l1; omega)
    rw [List.getElem?_eq_getElem hi] at q1
    cases q1
    exact q2.1.one
  have h16 : ls.toArray.size = 16 := by simp [hl1]
  refine calls_it G Tryd.func64 rfl Tryd.ntmps64 rfl ?_
  refine at_seq ?_
  refine at_region ?_
  refine at_do (does_fieldAddr (o := 0) (by kernel_rfl) rfl) rfl rfl ?_
  refine at_do (does_loadagg_mem (vs := ls) (by rw [hl1]; kernel_rfl) rfl (fun w' ho => hcell ho.orig)) rfl rfl ?_
  refine at_allocagg Tryd.zeroValue23 rfl fun gz0 => ?_
  refine at_storeagg (i := 0) (cs := nilsC) (vs := ls.toArray) (by rw [h16]; kernel_rfl) rfl rfl (hone hT) rfl (by rw [h16]; rfl) ?_
  refine at_nil ?_
  refine at_then ?_
  refine at_seq ?_
  refine at_region ?_
  refine at_do (does_assign rfl) rfl rfl ?_
  refine at_nil ?_
  refine at_then ?_
  refine at_seq ?_
  refine at_region ?_
  refine at_do (does_loadagg (i := 0) (k := 16) (by kernel_rfl) rfl rfl h16) rfl rfl ?_
  refine at_callv (f := 65) (enters_fn (by kernel_rfl) rfl) (fun w ho => cL hT ho.orig) rfl rfl ?_
  refine at_do (does_assign rfl) rfl rfl ?_
  refine at_nil ?_
  refine at_then ?_
  refine at_block ?_
  rotate_left
  refine at_re fun w1 ho1 => ?_
  have hJ1 : J 0 B0 w1 := hst 0 B0 w w1 h0 (ho1.base.mono fun k _ hk => by simp [itC, bls] at hk)
  refine at_itloop2 (G := G) (B := B0) (J := J) hst (fun s : List Value × List (List Itm) × Nat => s.2.2) (fun s => TrunkV w G s.1 s.2.1 ∧ mergeI (N - s.2.2) s.2.1 = (mergeI N fs).drop s.2.2 ∧ s.2.1.flatten.length ≤ N - s.2.2 ∧ s.2.2 ≤ (mergeI N fs).length)
    (fun s => [(0, yv l), (3, .pointer (some ⟨gz0, 0, none⟩)), (4, .int .i64 s.2.2), (5, .int .i64 (leastV s.2.1 16))]) (fun s => [.blk gz0 23 s.1.toArray]) (fun s => N - s.2.2) (ls, fs, 0)
    ⟨hT, rfl, by simpa using hfl, Nat.zero_le _⟩ hJ1 (fun k hk => ⟨((ho1.mine k hk).1.resolve_right id), fun hb => by
      have h1 := (hJf 0 B0 w h0).2 k hb
      have h2 := (ho1.mine k hk).1.resolve_right id
      have h2 : w.heap.size ≤ k := h2
      omega⟩) rfl ⟨rfl, rfl, rfl, rfl, trivial⟩ ?_
  rintro ⟨us, gs, i⟩ B W ⟨hTu, hm, hlen, hiL⟩ hJ hB
  simp only at hTu hm hlen hiL hJ hB
  have hgl := hTu.l2
  have hmlen := mergeI_len N fs
  have hul := hTu.l1
  cases hl : leastI gs 16 with
  | none =>
    have hx0 : leastV gs 16 = -1 := by rw [leastV, hl]
    rw [mergeI_none hgl hl] at hm
    have hxi : (mergeI N fs).length ≤ i := List.drop_eq_nil_iff.1 hm.symm
    simp only [hx0]
    refine at_seq ?_
    refine at_seq ?_
    refine at_region ?_
    refine at_do (does_move rfl) rfl rfl ?_
    refine at_do (does_geq rfl rfl) rfl rfl ?_
    refine at_nil ?_
    refine at_then ?_
    refine at_cond_f rfl (decide_eq_false (by decide)) ?_
    refine at_exit ?_
    refine at_then_exit ?_
    refine at_then_exit ?_
    refine at_inb_here ?_
    refine at_end0 rfl rfl (fun w9 ho9 => ?_)
    rotate_left
    refine ⟨⟨_, rfl⟩, B, .inl ?_⟩
    rw [seqP_len]
    have hij : i ≤ (mergeI N fs).length := hiL
    obtain rfl : i = (mergeI N fs).length := by omega
    exact hst _ _ _ _ hJ (itB_frm ho9 hB)
  | some c =>
    obtain ⟨hc16, hcne, _⟩ := leastI_some gs 16 c hl
    obtain ⟨x, r, e1, e2⟩ := getD_some hcne
    obtain ⟨hn0, hm1, hlen1⟩ := mergeI_some hgl hl e2 hlen
    rw [hm1] at hm
    have hilt : i < (mergeI N fs).length := by
      refine Classical.byContradiction fun hx => ?_
      rw [List.drop_eq_nil_of_le (by omega)] at hm
      cases hm
    rw [List.drop_eq_getElem_cons hilt] at hm
    injection hm with hxe hm
    have hxi : (seqP (mergeI N fs))[i]? = some (.int .i64 (i : Int), itmA x) := by rw [seqP_get hilt, hxe]
    have hx0 : leastV gs 16 = c := by rw [leastV, hl]
    obtain ⟨vc, hvc, hvci⟩ := hTu.at' c hc16
    rw [e2] at hvci
    obtain ⟨gc, oc, cc, rfl, hccc, hltc, hcec⟩ := hvci.1.form (by simp)
    have hnG : ¬ G gc := hvci.2 (by simp) gc (by simp [Value.ownBlock])
    have hx1 : ItmAt w gc (oc + 0 * 5) x := hcec 0 (by simp)
    have hvca : us.toArray[0 + 0 + c]? = some (.slice (some ⟨gc, oc, none⟩) (x :: r).length cc) := by rw [show 0 + 0 + c = c by omega]; simpa using hvc
    have hpos : 0 < (x :: r).length := by simp
    have htail := leaf_tail hvci
    have hT2 := hTu.setAt hc16 htail
    obtain ⟨vt, hvt⟩ : ∃ vt, vt = (Value.slice (some (if cc = 1 then ⟨gc, oc, none⟩ else (⟨gc, oc, none⟩ : Addr).add (1 * 5))) ((x :: r).length - 1) (cc - 1)) := ⟨_, rfl⟩
    rw [← hvt] at hT2 htail
    have hlt : Nat.blt (0 + 0 + c) us.toArray.size = true := by simp; omega
    have hset : us.toArray.setIfInBounds (0 + 0 + c) vt = (us.set c vt).toArray := by rw [show 0 + 0 + c = c by omega]; simp
    have hs16 : (us.toArray.setIfInBounds (0 + 0 + c) vt).size = 16 := by simp [hul]
    have cL2 : ∀ {w' : World}, Frm w G w' → Calls Tryd.prog 65 #[.agg (us.toArray.setIfInBounds (0 + 0 + c) vt)] w' fun e w3 => e = .returned (.int .i64 (leastV (gs.set c r) 16)) ∧ Below w'.heap.size w' w3 := fun hf => by rw [hset]; exact cL hT2 hf
    have hone2 := htail.1.one
    subst hvt
    simp only [hx0]
    refine at_seq ?_
    refine at_seq ?_
    refine at_region ?_
    refine at_do (does_move rfl) rfl rfl ?_
    refine at_do (does_geq rfl rfl) rfl rfl ?_
    refine at_nil ?_
    refine at_then ?_
    refine at_cond_t rfl (decide_eq_true (by omega)) ?_
    refine at_skip ?_
    refine at_then ?_
    refine at_seq ?_
    refine at_block ?_
    refine at_seq ?_
    refine at_seq ?_
    refine at_region ?_
    refine at_do (does_move rfl) rfl rfl ?_
    refine at_do (does_move rfl) rfl rfl ?_
    refine at_do (does_move rfl) rfl rfl ?_
    refine at_do (does_indexArr1 (len := 16) (j := c) (by kernel_rfl) rfl rfl hc16) rfl rfl ?_
    refine at_do (does_load (i := 0) (by kernel_rfl) rfl rfl hvca) rfl rfl ?_
    refine at_do (does_indexAddrk (k := 5) (j := 0) (by kernel_rfl) rfl rfl hpos) rfl rfl ?_
    refine at_do (does_loadagg_mem (vs := itmV x) (by kernel_rfl) rfl (fun w' ho => (hx1.move hnG ho.orig).agg)) rfl rfl ?_
    rotate_left
    refine at_yield2 (i := i) (x1 := .int .i64 (i : Int)) (x2 := itmA x) rfl rfl rfl rfl hJf' hxf hst hJ hB (fun W hj => hY i B _ W hxi hj) (fun B' W' hj hB' => ?_) (fun B' W' hj hB' => ?_)
    · refine at_do (does_not rfl) rfl rfl ?_
      refine at_nil ?_
      refine at_then ?_
      refine at_cond_f rfl (by rfl) ?_
      refine at_skip ?_
      refine at_then ?_
      refine at_seq ?_
      refine at_region ?_
      refine at_do (does_move rfl) rfl rfl ?_
      refine at_do (does_move rfl) rfl rfl ?_
      refine at_do (does_indexArr1 (len := 16) (j := c) (by kernel_rfl) rfl rfl hc16) rfl rfl ?_
      refine at_do (does_load (i := 0) (by kernel_rfl) rfl rfl hvca) rfl rfl ?_
      refine at_do (does_slice_lo (sz := 5) (q := 1) (by kernel_rfl) rfl rfl ⟨by omega, hccc⟩) rfl rfl ?_
      refine at_do (does_indexArr1 (len := 16) (j := c) (by kernel_rfl) rfl rfl hc16) rfl rfl ?_
      refine at_store (i := 0) (by kernel_rfl) rfl rfl hone2 rfl hlt ?_
      refine at_nil ?_
      refine at_then ?_
      refine at_region ?_
      refine at_do (does_move rfl) rfl rfl ?_
      refine at_do (does_addi rfl rfl (by (first | omega | (simp only; omega)))) rfl rfl ?_
      refine at_do (does_assign rfl) rfl rfl ?_
      refine at_nil ?_
      refine at_inb ?_
      refine at_then ?_
      refine at_region ?_
      refine at_do (does_loadagg (i := 0) (k := 16) (by kernel_rfl) rfl rfl hs16) rfl rfl ?_
      refine at_callv (f := 65) (enters_fn (by kernel_rfl) rfl) (fun w ho => cL2 ho.orig) rfl rfl ?_
      refine at_do (does_assign rfl) rfl rfl ?_
      refine at_nil ?_
      refine at_then ?_
      rotate_left
      have hdl : (mergeI N fs).drop (i + 1) = mergeI (N - (i + 1)) (gs.set c r) := by rw [← hm, Nat.sub_sub]
      refine at_againw fun w9 ho9 => ⟨((us.set c _, gs.set c r, i + 1), B', w9), ⟨⟨hT2, hdl.symm, by rw [← Nat.sub_sub]; exact hlen1, hilt⟩, hst _ _ _ _ hj (itB_frm ho9 hB'), hB'⟩, ?_, ⟨rfl, rfl, rfl, rfl, trivial⟩, rfl, ?_⟩
      · show N - (i + 1) < N - i
        omega
      · have := ho9.itRe
        simp only [List.set_cons_zero] at this
        rw [hset] at this
        exact this
    · refine at_do (does_not rfl) rfl rfl ?_
      refine at_nil ?_
      refine at_then ?_
      refine at_cond_t rfl (by assumption) ?_
      refine at_ret ?_
      refine at_then_ret ?_
      refine at_inb_ret ?_
      refine at_then_ret ?_
      refine at_then_ret ?_
      refine at_inb_ret ?_
      refine at_ret0 rfl rfl (fun w9 ho9 => ?_)
      rotate_left
      exact ⟨⟨_, rfl⟩, B', .inr (hxst _ _ _ hj (itB_frm ho9 hB'))⟩
end Go.Proofs.YtjpfebgpcokenaaDoor
