/-
  What the functions of keys give, the package's and the reference's. No condition of its own.
-/
import Derived.Test.YtchfecmabhfooaaDoorKey1
import Derived.Test.YtchfecmabhfooaaDoorAlloc
set_option linter.unusedSimpArgs false
set_option linter.unusedVariables false
namespace Go.Proofs.YtchfecmabhfooaaDoor
open Go.RowKit
attribute [local irreducible] cwp lwp Exit.then Exit.inBlock Exit.noGoto wpQuiet Calls fin At AtQ Again endQ

/-! ### The plain part -/
def beg (s p : List UInt8) : Bool := decide (p.length ≤ s.length) && decide (s.take p.length = p)
def under (k p : List UInt8) : Bool := isK k && keyOk p && beg k p
def bucket (k : List UInt8) : Int := if isK k then byt k 0 % 16 else -1
/-- In the range from a to b. -/
def inR (k a b : List UInt8) : Bool := isK k && keyOk a && keyOk b && !Op.bytesLess k a && (decide (b = []) || Op.bytesLess k b)
/-- The end of a pattern's range. -/
def endK (l : List UInt8) : List UInt8 := if l = [] then [] else l.take (l.length - 1) ++ [l.getD (l.length - 1) 0 + 1]
def stopK (l : List UInt8) : Bool := keyOk l || (decide (0 < byt l (l.length - 1)) && keyOk (l.take (l.length - 1) ++ [l.getD (l.length - 1) 0 - 1]))
theorem isK_pos {l : List UInt8} (h : isK l = true) : 0 < l.length := by
  unfold isK at h
  cases l with
  | nil => simp at h
  | cons a l => simp
theorem isK_of {l : List UInt8} : isK l = (decide (0 < l.length) && keyOk l) := by
  unfold isK
  congr 1
  rw [Bool.eq_iff_iff]
  simp [List.length_pos_iff]

/-! ### The walks -/
theorem ref_Pattern (l : List UInt8) (w : World) (hl : l.length ≤ 100000) : Calls Tryd.prog 42 #[.string (bs l)] w fun e w' => e = .returned (.bool (keyOk l)) ∧ Below w.heap.size w w' := by
  refine calls_plain Tryd.func42 rfl Tryd.ntmps42 rfl ?_
  refine at_seq ?_
  refine at_region ?_
  refine at_do (does_assign rfl) rfl rfl ?_
  refine at_nil ?_
  refine at_then ?_
  refine at_seq ?_
  refine at_seq ?_
  refine at_region ?_
  refine at_do (does_assign rfl) rfl rfl ?_
  refine at_nil ?_
  refine at_then ?_
  refine at_block ?_
  rotate_left
  · refine at_loop0 (fun k : Nat => k ≤ l.length ∧ (l.take k).all signB = true) (fun k => [(0, .string (bs l)), (3, .int .i64 k)]) (fun k => l.length - k) 0 ⟨by omega, by simp⟩ ⟨rfl, rfl, trivial⟩ ?_
    rintro k ⟨hk, hall⟩
    refine at_seq ?_
    refine at_seq ?_
    refine at_region ?_
    refine at_do (does_move rfl) rfl rfl ?_
    refine at_do (does_move rfl) rfl rfl ?_
    refine at_do (does_slen (by kernel_rfl) rfl) rfl rfl ?_
    refine at_do (does_lss rfl rfl) rfl rfl ?_
    refine at_nil ?_
    refine at_then ?_
    refine at_condD rfl (fun z0 => ?_) (fun z0 => ?_)
    refine at_skip ?_
    refine at_then ?_
    refine at_seq ?_
    refine at_block ?_
    refine at_seq ?_
    refine at_region ?_
    refine at_do (does_move rfl) rfl rfl ?_
    refine at_do (does_move rfl) rfl rfl ?_
    refine at_do (does_sidx (by kernel_rfl) rfl rfl (by omega)) rfl rfl ?_
    refine at_callv (f := 76) (enters_fn (by kernel_rfl) rfl) (fun w ho => ref_sign _ w) rfl rfl ?_
    refine at_do (does_not rfl) rfl rfl ?_
    refine at_nil ?_
    refine at_then ?_
    refine at_condN rfl (fun z1 => ?_) (fun z1 => ?_)
    refine at_seq ?_
    refine at_region ?_
    refine at_do (does_assign rfl) rfl rfl ?_
    refine at_nil ?_
    refine at_then ?_
    refine at_ret ?_
    refine at_inb_ret ?_
    refine at_then_ret ?_
    refine at_then_ret ?_
    refine at_inb_ret ?_
    refine at_then_ret ?_
    refine at_ret1 rfl rfl rfl (fun w9 ho9 => ?_)
    rotate_left
    refine at_skip ?_
    refine at_inb ?_
    refine at_then ?_
    refine at_region ?_
    refine at_do (does_move rfl) rfl rfl ?_
    refine at_do (does_addi rfl rfl (by omega)) rfl rfl ?_
    refine at_do (does_assign rfl) rfl rfl ?_
    refine at_nil ?_
    refine at_then ?_
    rotate_left
    refine at_exit ?_
    refine at_then_exit ?_
    refine at_then_exit ?_
    refine at_inb_here ?_
    refine at_then ?_
    refine at_seq ?_
    refine at_region ?_
    refine at_do (does_move rfl) rfl rfl ?_
    refine at_do (does_slen (by kernel_rfl) rfl) rfl rfl ?_
    refine at_do (does_leq rfl rfl) rfl rfl ?_
    refine at_do (does_assign rfl) rfl rfl ?_
    refine at_nil ?_
    refine at_then ?_
    refine at_ret ?_
    refine at_ret1 rfl rfl rfl (fun w9 ho9 => ?_)
    rotate_left
    · refine ⟨ret_bool ?_, ho9.plain⟩
      simp only [keyOk, all_no l k (by omega) z1, Bool.and_false]
    · refine at_again0 (k + 1) ⟨by omega, ?_⟩ (by omega) ⟨rfl, rfl, trivial⟩
      rw [all_take_succ l k (by omega), hall]; simpa using z1
    · refine ⟨ret_bool ?_, ho9.plain⟩
      have : k = l.length := by omega
      subst this
      rw [List.take_length] at hall
      rw [Bool.eq_iff_iff]; simp [keyOk, hall]; omega
theorem ref_Is (l : List UInt8) (w : World) (hl : l.length ≤ 100000) : Calls Tryd.prog 41 #[.string (bs l)] w fun e w' => e = .returned (.bool (isK l)) ∧ Below w.heap.size w w' := by
  refine calls_plain Tryd.func41 rfl Tryd.ntmps41 rfl ?_
  refine at_seq ?_
  refine at_region ?_
  refine at_do (does_assign rfl) rfl rfl ?_
  refine at_nil ?_
  refine at_then ?_
  refine at_seq ?_
  refine at_region ?_
  refine at_do (does_move rfl) rfl rfl ?_
  refine at_do (does_slen (by kernel_rfl) rfl) rfl rfl ?_
  refine at_do (does_gtr rfl rfl) rfl rfl ?_
  refine at_do (does_move rfl) rfl rfl ?_
  refine at_guardD rfl rfl (fun z0 => ?_) (fun z0 => ?_)
  refine at_on rfl rfl ?_
  refine at_do (does_move rfl) rfl rfl ?_
  refine at_on rfl rfl ?_
  refine at_callv (f := 42) (enters_fn (by kernel_rfl) rfl) (fun w ho => ref_Pattern _ w hl) rfl rfl ?_
  refine at_do (does_pick_true rfl rfl) rfl rfl ?_
  refine at_do (does_assign rfl) rfl rfl ?_
  refine at_nil ?_
  refine at_then ?_
  refine at_ret ?_
  refine at_ret1 rfl rfl rfl (fun w9 ho9 => ?_)
  rotate_left
  refine at_no rfl rfl rfl rfl ?_
  refine at_no rfl rfl rfl rfl ?_
  refine at_do (does_pick_false rfl rfl) rfl rfl ?_
  refine at_do (does_assign rfl) rfl rfl ?_
  refine at_nil ?_
  refine at_then ?_
  refine at_ret ?_
  refine at_ret1 rfl rfl rfl (fun w9 ho9 => ?_)
  rotate_left
  all_goals
    refine ⟨ret_bool ?_, ho9.plain⟩
    rw [isK_of]; simp; omega
theorem key_Is (l : List UInt8) (w : World) (hG : Glob w) : Calls Tryd.prog 44 #[.string (bs l)] w fun e w' => e = .returned (.bool (isK l)) ∧ Below w.heap.size w w' := by
  refine calls_plain Tryd.func44 rfl Tryd.ntmps44 rfl ?_
  refine at_seq ?_
  refine at_region ?_
  refine at_do (does_assign rfl) rfl rfl ?_
  refine at_nil ?_
  refine at_then ?_
  refine at_seq ?_
  refine at_region ?_
  refine at_do (does_move rfl) rfl rfl ?_
  refine at_do (does_sneq rfl rfl) rfl rfl ?_
  refine at_do (does_move rfl) rfl rfl ?_
  refine at_guardD rfl rfl (fun z0 => ?_) (fun z0 => ?_)
  refine at_on rfl rfl ?_
  refine at_do (does_move rfl) rfl rfl ?_
  refine at_on rfl rfl ?_
  refine at_callv (f := 77) (enters_fn (by kernel_rfl) rfl) (fun w ho => key_formed _ w (ho.glob hG id)) rfl rfl ?_
  refine at_do (does_pick_true rfl rfl) rfl rfl ?_
  refine at_do (does_assign rfl) rfl rfl ?_
  refine at_nil ?_
  refine at_then ?_
  refine at_ret ?_
  refine at_ret1 rfl rfl rfl (fun w9 ho9 => ?_)
  rotate_left
  refine at_no rfl rfl rfl rfl ?_
  refine at_no rfl rfl rfl rfl ?_
  refine at_do (does_pick_false rfl rfl) rfl rfl ?_
  refine at_do (does_assign rfl) rfl rfl ?_
  refine at_nil ?_
  refine at_then ?_
  refine at_ret ?_
  refine at_ret1 rfl rfl rfl (fun w9 ho9 => ?_)
  rotate_left
  all_goals
    refine ⟨ret_bool ?_, ho9.plain⟩
    simp_all [isK]
theorem key_Pattern (l : List UInt8) (w : World) (hG : Glob w) : Calls Tryd.prog 45 #[.string (bs l)] w fun e w' => e = .returned (.bool (keyOk l)) ∧ Below w.heap.size w w' := by
  refine calls_plain Tryd.func45 rfl Tryd.ntmps45 rfl ?_
  refine at_seq ?_
  refine at_region ?_
  refine at_do (does_assign rfl) rfl rfl ?_
  refine at_nil ?_
  refine at_then ?_
  refine at_seq ?_
  refine at_region ?_
  refine at_do (does_move rfl) rfl rfl ?_
  refine at_callv (f := 77) (enters_fn (by kernel_rfl) rfl) (fun w ho => key_formed _ w (ho.glob hG id)) rfl rfl ?_
  refine at_do (does_assign rfl) rfl rfl ?_
  refine at_nil ?_
  refine at_then ?_
  refine at_ret ?_
  refine at_ret1 rfl rfl rfl (fun w9 ho9 => ?_)
  rotate_left
  exact ⟨rfl, ho9.plain⟩
theorem ref_Begins (s p : List UInt8) (w : World) : Calls Tryd.prog 43 #[.string (bs s), .string (bs p)] w fun e w' => e = .returned (.bool (beg s p)) ∧ Below w.heap.size w w' := by
  refine calls_plain Tryd.func43 rfl Tryd.ntmps43 rfl ?_
  refine at_seq ?_
  refine at_region ?_
  refine at_do (does_assign rfl) rfl rfl ?_
  refine at_nil ?_
  refine at_then ?_
  refine at_seq ?_
  refine at_region ?_
  refine at_do (does_move rfl) rfl rfl ?_
  refine at_do (does_slen (by kernel_rfl) rfl) rfl rfl ?_
  refine at_do (does_move rfl) rfl rfl ?_
  refine at_do (does_slen (by kernel_rfl) rfl) rfl rfl ?_
  refine at_do (does_geq rfl rfl) rfl rfl ?_
  refine at_do (does_move rfl) rfl rfl ?_
  refine at_guardD rfl rfl (fun z0 => ?_) (fun z0 => ?_)
  refine at_on rfl rfl ?_
  refine at_do (does_move rfl) rfl rfl ?_
  refine at_on rfl rfl ?_
  refine at_do (does_move rfl) rfl rfl ?_
  refine at_on rfl rfl ?_
  refine at_do (does_slen (by kernel_rfl) rfl) rfl rfl ?_
  refine at_on rfl rfl ?_
  refine at_do (does_sslice_hi (by kernel_rfl) rfl rfl (by omega)) rfl rfl ?_
  refine at_on rfl rfl ?_
  refine at_do (does_move rfl) rfl rfl ?_
  refine at_on rfl rfl ?_
  refine at_do (does_seql rfl rfl) rfl rfl ?_
  refine at_do (does_pick_true rfl rfl) rfl rfl ?_
  refine at_do (does_assign rfl) rfl rfl ?_
  refine at_nil ?_
  refine at_then ?_
  refine at_ret ?_
  refine at_ret1 rfl rfl rfl (fun w9 ho9 => ?_)
  rotate_left
  refine at_no rfl rfl rfl rfl ?_
  refine at_no rfl rfl rfl rfl ?_
  refine at_no rfl rfl rfl rfl ?_
  refine at_no rfl rfl rfl rfl ?_
  refine at_no rfl rfl rfl rfl ?_
  refine at_no rfl rfl rfl rfl ?_
  refine at_do (does_pick_false rfl rfl) rfl rfl ?_
  refine at_do (does_assign rfl) rfl rfl ?_
  refine at_nil ?_
  refine at_then ?_
  refine at_ret ?_
  refine at_ret1 rfl rfl rfl (fun w9 ho9 => ?_)
  rotate_left
  all_goals
    refine ⟨ret_bool ?_, ho9.plain⟩
    simp [beg]; omega
theorem lite_HasPrefix (s p : List UInt8) (w : World) : Calls Tryd.prog 94 #[.string (bs s), .string (bs p)] w fun e w' => e = .returned (.bool (beg s p)) ∧ Below w.heap.size w w' := by
  refine calls_plain Tryd.func94 rfl Tryd.ntmps94 rfl ?_
  refine at_seq ?_
  refine at_region ?_
  refine at_do (does_assign rfl) rfl rfl ?_
  refine at_nil ?_
  refine at_then ?_
  refine at_seq ?_
  refine at_region ?_
  refine at_do (does_move rfl) rfl rfl ?_
  refine at_do (does_slen (by kernel_rfl) rfl) rfl rfl ?_
  refine at_do (does_move rfl) rfl rfl ?_
  refine at_do (does_slen (by kernel_rfl) rfl) rfl rfl ?_
  refine at_do (does_geq rfl rfl) rfl rfl ?_
  refine at_do (does_move rfl) rfl rfl ?_
  refine at_guardD rfl rfl (fun z0 => ?_) (fun z0 => ?_)
  refine at_on rfl rfl ?_
  refine at_do (does_move rfl) rfl rfl ?_
  refine at_on rfl rfl ?_
  refine at_do (does_move rfl) rfl rfl ?_
  refine at_on rfl rfl ?_
  refine at_do (does_slen (by kernel_rfl) rfl) rfl rfl ?_
  refine at_on rfl rfl ?_
  refine at_do (does_sslice_hi (by kernel_rfl) rfl rfl (by omega)) rfl rfl ?_
  refine at_on rfl rfl ?_
  refine at_do (does_move rfl) rfl rfl ?_
  refine at_on rfl rfl ?_
  refine at_do (does_seql rfl rfl) rfl rfl ?_
  refine at_do (does_pick_true rfl rfl) rfl rfl ?_
  refine at_do (does_assign rfl) rfl rfl ?_
  refine at_nil ?_
  refine at_then ?_
  refine at_ret ?_
  refine at_ret1 rfl rfl rfl (fun w9 ho9 => ?_)
  rotate_left
  refine at_no rfl rfl rfl rfl ?_
  refine at_no rfl rfl rfl rfl ?_
  refine at_no rfl rfl rfl rfl ?_
  refine at_no rfl rfl rfl rfl ?_
  refine at_no rfl rfl rfl rfl ?_
  refine at_no rfl rfl rfl rfl ?_
  refine at_do (does_pick_false rfl rfl) rfl rfl ?_
  refine at_do (does_assign rfl) rfl rfl ?_
  refine at_nil ?_
  refine at_then ?_
  refine at_ret ?_
  refine at_ret1 rfl rfl rfl (fun w9 ho9 => ?_)
  rotate_left
  all_goals
    refine ⟨ret_bool ?_, ho9.plain⟩
    simp [beg]; omega
theorem HasPrefix (s p : List UInt8) (w : World) : Calls Tryd.prog 78 #[.string (bs s), .string (bs p)] w fun e w' => e = .returned (.bool (beg s p)) ∧ Below w.heap.size w w' := by
  refine calls_plain Tryd.func78 rfl Tryd.ntmps78 rfl ?_
  refine at_seq ?_
  refine at_region ?_
  refine at_do (does_assign rfl) rfl rfl ?_
  refine at_nil ?_
  refine at_then ?_
  refine at_seq ?_
  refine at_region ?_
  refine at_do (does_move rfl) rfl rfl ?_
  refine at_do (does_move rfl) rfl rfl ?_
  refine at_callv (f := 94) (enters_fn (by kernel_rfl) rfl) (fun w ho => lite_HasPrefix _ _ w) rfl rfl ?_
  refine at_do (does_assign rfl) rfl rfl ?_
  refine at_nil ?_
  refine at_then ?_
  refine at_ret ?_
  refine at_ret1 rfl rfl rfl (fun w9 ho9 => ?_)
  rotate_left
  exact ⟨rfl, ho9.plain⟩
theorem law_few (l : List UInt8) (w : World) : Calls Tryd.prog 40 #[.string (bs l)] w fun e w' => e = .returned (.string (bs (l.take 60))) ∧ Below w.heap.size w w' := by
  refine calls_plain Tryd.func40 rfl Tryd.ntmps40 rfl ?_
  refine at_seq ?_
  refine at_region ?_
  refine at_do (does_assign rfl) rfl rfl ?_
  refine at_nil ?_
  refine at_then ?_
  refine at_seq ?_
  refine at_seq ?_
  refine at_region ?_
  refine at_do (does_move rfl) rfl rfl ?_
  refine at_do (does_slen (by kernel_rfl) rfl) rfl rfl ?_
  refine at_do (does_gtr rfl rfl) rfl rfl ?_
  refine at_nil ?_
  refine at_then ?_
  refine at_condD rfl (fun z0 => ?_) (fun z0 => ?_)
  refine at_seq ?_
  refine at_region ?_
  refine at_do (does_move rfl) rfl rfl ?_
  refine at_do (does_sslice_hi (by kernel_rfl) rfl rfl (by omega)) rfl rfl ?_
  refine at_do (does_assign rfl) rfl rfl ?_
  refine at_nil ?_
  refine at_then ?_
  refine at_ret ?_
  refine at_then_ret ?_
  refine at_ret1 rfl rfl rfl (fun w9 ho9 => ?_)
  rotate_left
  refine at_skip ?_
  refine at_then ?_
  refine at_seq ?_
  refine at_region ?_
  refine at_do (does_move rfl) rfl rfl ?_
  refine at_do (does_assign rfl) rfl rfl ?_
  refine at_nil ?_
  refine at_then ?_
  refine at_ret ?_
  refine at_ret1 rfl rfl rfl (fun w9 ho9 => ?_)
  rotate_left
  · exact ⟨rfl, ho9.plain⟩
  · exact ⟨by rw [List.take_of_length_le (by omega)], ho9.plain⟩
theorem key_Under (k p : List UInt8) (w : World) (hG : Glob w) : Calls Tryd.prog 46 #[.string (bs k), .string (bs p)] w fun e w' => e = .returned (.bool (under k p)) ∧ Below w.heap.size w w' := by
  refine calls_plain Tryd.func46 rfl Tryd.ntmps46 rfl ?_
  refine at_seq ?_
  refine at_region ?_
  refine at_do (does_assign rfl) rfl rfl ?_
  refine at_nil ?_
  refine at_then ?_
  refine at_seq ?_
  refine at_region ?_
  refine at_do (does_move rfl) rfl rfl ?_
  refine at_callv (f := 44) (enters_fn (by kernel_rfl) rfl) (fun w ho => key_Is _ w (ho.glob hG id)) rfl rfl ?_
  refine at_do (does_move rfl) rfl rfl ?_
  refine at_guard rfl rfl (fun z0 => ?_) (fun z0 => ?_)
  refine at_on rfl rfl ?_
  refine at_do (does_move rfl) rfl rfl ?_
  refine at_on rfl rfl ?_
  refine at_callv (f := 45) (enters_fn (by kernel_rfl) rfl) (fun w ho => key_Pattern _ w (ho.glob hG id)) rfl rfl ?_
  refine at_do (does_pick_true rfl rfl) rfl rfl ?_
  refine at_do (does_move rfl) rfl rfl ?_
  refine at_guard rfl rfl (fun z1 => ?_) (fun z1 => ?_)
  refine at_on rfl rfl ?_
  refine at_do (does_move rfl) rfl rfl ?_
  refine at_on rfl rfl ?_
  refine at_do (does_move rfl) rfl rfl ?_
  refine at_on rfl rfl ?_
  refine at_callv (f := 78) (enters_fn (by kernel_rfl) rfl) (fun w ho => HasPrefix _ _ w) rfl rfl ?_
  refine at_do (does_pick_true rfl rfl) rfl rfl ?_
  refine at_do (does_assign rfl) rfl rfl ?_
  refine at_nil ?_
  refine at_then ?_
  refine at_ret ?_
  refine at_ret1 rfl rfl rfl (fun w9 ho9 => ?_)
  rotate_left
  refine at_no rfl rfl rfl rfl ?_
  refine at_no rfl rfl rfl rfl ?_
  refine at_no rfl rfl rfl rfl ?_
  refine at_do (does_pick_false rfl rfl) rfl rfl ?_
  refine at_do (does_assign rfl) rfl rfl ?_
  refine at_nil ?_
  refine at_then ?_
  refine at_ret ?_
  refine at_ret1 rfl rfl rfl (fun w9 ho9 => ?_)
  rotate_left
  refine at_no rfl rfl rfl rfl ?_
  refine at_no rfl rfl rfl rfl ?_
  refine at_do (does_pick_false rfl rfl) rfl rfl ?_
  refine at_do (does_move rfl) rfl rfl ?_
  refine at_no rfl rfl rfl rfl ?_
  refine at_no rfl rfl rfl rfl ?_
  refine at_no rfl rfl rfl rfl ?_
  refine at_do (does_pick_false rfl rfl) rfl rfl ?_
  refine at_do (does_assign rfl) rfl rfl ?_
  refine at_nil ?_
  refine at_then ?_
  refine at_ret ?_
  refine at_ret1 rfl rfl rfl (fun w9 ho9 => ?_)
  rotate_left
  all_goals
    refine ⟨ret_bool ?_, ho9.plain⟩
    simp_all [under]
theorem key_Bucket (k : List UInt8) (w : World) (hG : Glob w) : Calls Tryd.prog 47 #[.string (bs k)] w fun e w' => e = .returned (.int .i64 (bucket k)) ∧ Below w.heap.size w w' := by
  refine calls_plain Tryd.func47 rfl Tryd.ntmps47 rfl ?_
  have hr := byt_range k 0
  have hp : isK k = true → 0 < k.length := isK_pos
  refine at_seq ?_
  refine at_region ?_
  refine at_do (does_assign rfl) rfl rfl ?_
  refine at_nil ?_
  refine at_then ?_
  refine at_seq ?_
  refine at_seq ?_
  refine at_region ?_
  refine at_do (does_move rfl) rfl rfl ?_
  refine at_callv (f := 44) (enters_fn (by kernel_rfl) rfl) (fun w ho => key_Is _ w (ho.glob hG id)) rfl rfl ?_
  refine at_do (does_not rfl) rfl rfl ?_
  refine at_nil ?_
  refine at_then ?_
  refine at_condN rfl (fun z0 => ?_) (fun z0 => ?_)
  refine at_seq ?_
  refine at_region ?_
  refine at_do (does_assign rfl) rfl rfl ?_
  refine at_nil ?_
  refine at_then ?_
  refine at_ret ?_
  refine at_then_ret ?_
  refine at_ret1 rfl rfl rfl (fun w9 ho9 => ?_)
  rotate_left
  refine at_skip ?_
  refine at_then ?_
  refine at_seq ?_
  refine at_region ?_
  refine at_do (does_move rfl) rfl rfl ?_
  refine at_do (does_sidx (by kernel_rfl) rfl rfl (by (have := hp (by assumption); simp; omega))) rfl rfl ?_
  refine at_do (does_conv8 (by kernel_rfl) (by kernel_rfl) rfl (by (have := hp (by assumption); simp; omega))) rfl rfl ?_
  refine at_do (does_remi rfl rfl (by (have := hp (by assumption); simp; omega))) rfl rfl ?_
  refine at_do (does_assign rfl) rfl rfl ?_
  refine at_nil ?_
  refine at_then ?_
  refine at_ret ?_
  refine at_ret1 rfl rfl rfl (fun w9 ho9 => ?_)
  rotate_left
  all_goals exact ⟨by simp_all [bucket], ho9.plain⟩
theorem key_Meet (a b : List UInt8) (w : World) (hG : Glob w) : Calls Tryd.prog 54 #[.string (bs a), .string (bs b)] w fun e w' => e = .returned (.bool (keyOk a && keyOk b && (beg a b || beg b a))) ∧ Below w.heap.size w w' := by
  refine calls_plain Tryd.func54 rfl Tryd.ntmps54 rfl ?_
  refine at_seq ?_
  refine at_region ?_
  refine at_do (does_assign rfl) rfl rfl ?_
  refine at_nil ?_
  refine at_then ?_
  refine at_seq ?_
  refine at_region ?_
  refine at_do (does_move rfl) rfl rfl ?_
  refine at_callv (f := 45) (enters_fn (by kernel_rfl) rfl) (fun w ho => key_Pattern _ w (ho.glob hG id)) rfl rfl ?_
  refine at_do (does_move rfl) rfl rfl ?_
  refine at_guard rfl rfl (fun z0 => ?_) (fun z0 => ?_)
  refine at_on rfl rfl ?_
  refine at_do (does_move rfl) rfl rfl ?_
  refine at_on rfl rfl ?_
  refine at_callv (f := 45) (enters_fn (by kernel_rfl) rfl) (fun w ho => key_Pattern _ w (ho.glob hG id)) rfl rfl ?_
  refine at_do (does_pick_true rfl rfl) rfl rfl ?_
  refine at_do (does_move rfl) rfl rfl ?_
  refine at_guard rfl rfl (fun z1 => ?_) (fun z1 => ?_)
  refine at_on rfl rfl ?_
  refine at_do (does_move rfl) rfl rfl ?_
  refine at_on rfl rfl ?_
  refine at_do (does_move rfl) rfl rfl ?_
  refine at_on rfl rfl ?_
  refine at_callv (f := 78) (enters_fn (by kernel_rfl) rfl) (fun w ho => HasPrefix _ _ w) rfl rfl ?_
  refine at_on rfl rfl ?_
  refine at_do (does_move rfl) rfl rfl ?_
  refine at_guard rfl rfl (fun z2 => ?_) (fun z2 => ?_)
  refine at_no rfl rfl rfl rfl ?_
  refine at_no rfl rfl rfl rfl ?_
  refine at_no rfl rfl rfl rfl ?_
  refine at_on rfl rfl ?_
  refine at_do (does_pick_true rfl rfl) rfl rfl ?_
  refine at_do (does_pick_true rfl rfl) rfl rfl ?_
  refine at_do (does_assign rfl) rfl rfl ?_
  refine at_nil ?_
  refine at_then ?_
  refine at_ret ?_
  refine at_ret1 rfl rfl rfl (fun w9 ho9 => ?_)
  rotate_left
  refine at_on rfl rfl ?_
  refine at_do (does_move rfl) rfl rfl ?_
  refine at_on rfl rfl ?_
  refine at_do (does_move rfl) rfl rfl ?_
  refine at_on rfl rfl ?_
  refine at_callv (f := 78) (enters_fn (by kernel_rfl) rfl) (fun w ho => HasPrefix _ _ w) rfl rfl ?_
  refine at_on rfl rfl ?_
  refine at_do (does_pick_false rfl rfl) rfl rfl ?_
  refine at_do (does_pick_true rfl rfl) rfl rfl ?_
  refine at_do (does_assign rfl) rfl rfl ?_
  refine at_nil ?_
  refine at_then ?_
  refine at_ret ?_
  refine at_ret1 rfl rfl rfl (fun w9 ho9 => ?_)
  rotate_left
  refine at_no rfl rfl rfl rfl ?_
  refine at_no rfl rfl rfl rfl ?_
  refine at_no rfl rfl rfl rfl ?_
  refine at_no rfl rfl rfl rfl ?_
  refine at_no rfl rfl rfl rfl ?_
  refine at_no rfl rfl rfl rfl ?_
  refine at_no rfl rfl rfl rfl ?_
  refine at_no rfl rfl rfl rfl ?_
  refine at_do (does_pick_false rfl rfl) rfl rfl ?_
  refine at_do (does_assign rfl) rfl rfl ?_
  refine at_nil ?_
  refine at_then ?_
  refine at_ret ?_
  refine at_ret1 rfl rfl rfl (fun w9 ho9 => ?_)
  rotate_left
  refine at_no rfl rfl rfl rfl ?_
  refine at_no rfl rfl rfl rfl ?_
  refine at_do (does_pick_false rfl rfl) rfl rfl ?_
  refine at_do (does_move rfl) rfl rfl ?_
  refine at_no rfl rfl rfl rfl ?_
  refine at_no rfl rfl rfl rfl ?_
  refine at_no rfl rfl rfl rfl ?_
  refine at_no rfl rfl rfl rfl ?_
  refine at_no rfl rfl rfl rfl ?_
  refine at_no rfl rfl rfl rfl ?_
  refine at_no rfl rfl rfl rfl ?_
  refine at_no rfl rfl rfl rfl ?_
  refine at_do (does_pick_false rfl rfl) rfl rfl ?_
  refine at_do (does_assign rfl) rfl rfl ?_
  refine at_nil ?_
  refine at_then ?_
  refine at_ret ?_
  refine at_ret1 rfl rfl rfl (fun w9 ho9 => ?_)
  rotate_left
  all_goals
    refine ⟨ret_bool ?_, ho9.plain⟩
    simp_all
theorem key_In (k a b : List UInt8) (w : World) (hG : Glob w) : Calls Tryd.prog 51 #[.string (bs k), .string (bs a), .string (bs b)] w fun e w' => e = .returned (.bool (inR k a b)) ∧ Below w.heap.size w w' := by
  refine calls_plain Tryd.func51 rfl Tryd.ntmps51 rfl ?_
  refine at_seq ?_
  refine at_region ?_
  refine at_do (does_assign rfl) rfl rfl ?_
  refine at_nil ?_
  refine at_then ?_
  refine at_seq ?_
  refine at_region ?_
  refine at_do (does_move rfl) rfl rfl ?_
  refine at_callv (f := 44) (enters_fn (by kernel_rfl) rfl) (fun w ho => key_Is _ w (ho.glob hG id)) rfl rfl ?_
  refine at_do (does_move rfl) rfl rfl ?_
  refine at_guard rfl rfl (fun z0 => ?_) (fun z0 => ?_)
  refine at_on rfl rfl ?_
  refine at_do (does_move rfl) rfl rfl ?_
  refine at_on rfl rfl ?_
  refine at_callv (f := 45) (enters_fn (by kernel_rfl) rfl) (fun w ho => key_Pattern _ w (ho.glob hG id)) rfl rfl ?_
  refine at_do (does_pick_true rfl rfl) rfl rfl ?_
  refine at_do (does_move rfl) rfl rfl ?_
  refine at_guard rfl rfl (fun z1 => ?_) (fun z1 => ?_)
  refine at_on rfl rfl ?_
  refine at_do (does_move rfl) rfl rfl ?_
  refine at_on rfl rfl ?_
  refine at_callv (f := 45) (enters_fn (by kernel_rfl) rfl) (fun w ho => key_Pattern _ w (ho.glob hG id)) rfl rfl ?_
  refine at_do (does_pick_true rfl rfl) rfl rfl ?_
  refine at_do (does_move rfl) rfl rfl ?_
  refine at_guard rfl rfl (fun z2 => ?_) (fun z2 => ?_)
  refine at_on rfl rfl ?_
  refine at_do (does_move rfl) rfl rfl ?_
  refine at_on rfl rfl ?_
  refine at_do (does_move rfl) rfl rfl ?_
  refine at_on rfl rfl ?_
  refine at_do (does_sgeq rfl rfl) rfl rfl ?_
  refine at_do (does_pick_true rfl rfl) rfl rfl ?_
  refine at_do (does_move rfl) rfl rfl ?_
  refine at_guardN rfl rfl (fun z3 => ?_) (fun z3 => ?_)
  refine at_on rfl rfl ?_
  refine at_do (does_move rfl) rfl rfl ?_
  refine at_on rfl rfl ?_
  refine at_do (does_seql rfl rfl) rfl rfl ?_
  refine at_on rfl rfl ?_
  refine at_do (does_move rfl) rfl rfl ?_
  refine at_guardD rfl rfl (fun z4 => ?_) (fun z4 => ?_)
  refine at_no rfl rfl rfl rfl ?_
  refine at_no rfl rfl rfl rfl ?_
  refine at_no rfl rfl rfl rfl ?_
  refine at_on rfl rfl ?_
  refine at_do (does_pick_true rfl rfl) rfl rfl ?_
  refine at_do (does_pick_true rfl rfl) rfl rfl ?_
  refine at_do (does_assign rfl) rfl rfl ?_
  refine at_nil ?_
  refine at_then ?_
  refine at_ret ?_
  refine at_ret1 rfl rfl rfl (fun w9 ho9 => ?_)
  rotate_left
  refine at_on rfl rfl ?_
  refine at_do (does_move rfl) rfl rfl ?_
  refine at_on rfl rfl ?_
  refine at_do (does_move rfl) rfl rfl ?_
  refine at_on rfl rfl ?_
  refine at_do (does_slss rfl rfl) rfl rfl ?_
  refine at_on rfl rfl ?_
  refine at_do (does_pick_false rfl rfl) rfl rfl ?_
  refine at_do (does_pick_true rfl rfl) rfl rfl ?_
  refine at_do (does_assign rfl) rfl rfl ?_
  refine at_nil ?_
  refine at_then ?_
  refine at_ret ?_
  refine at_ret1 rfl rfl rfl (fun w9 ho9 => ?_)
  rotate_left
  refine at_no rfl rfl rfl rfl ?_
  refine at_no rfl rfl rfl rfl ?_
  refine at_no rfl rfl rfl rfl ?_
  refine at_no rfl rfl rfl rfl ?_
  refine at_no rfl rfl rfl rfl ?_
  refine at_no rfl rfl rfl rfl ?_
  refine at_no rfl rfl rfl rfl ?_
  refine at_do (does_pick_false rfl rfl) rfl rfl ?_
  refine at_do (does_assign rfl) rfl rfl ?_
  refine at_nil ?_
  refine at_then ?_
  refine at_ret ?_
  refine at_ret1 rfl rfl rfl (fun w9 ho9 => ?_)
  rotate_left
  refine at_no rfl rfl rfl rfl ?_
  refine at_no rfl rfl rfl rfl ?_
  refine at_no rfl rfl rfl rfl ?_
  refine at_do (does_pick_false rfl rfl) rfl rfl ?_
  refine at_do (does_move rfl) rfl rfl ?_
  refine at_no rfl rfl rfl rfl ?_
  refine at_no rfl rfl rfl rfl ?_
  refine at_no rfl rfl rfl rfl ?_
  refine at_no rfl rfl rfl rfl ?_
  refine at_no rfl rfl rfl rfl ?_
  refine at_no rfl rfl rfl rfl ?_
  refine at_no rfl rfl rfl rfl ?_
  refine at_do (does_pick_false rfl rfl) rfl rfl ?_
  refine at_do (does_assign rfl) rfl rfl ?_
  refine at_nil ?_
  refine at_then ?_
  refine at_ret ?_
  refine at_ret1 rfl rfl rfl (fun w9 ho9 => ?_)
  rotate_left
  refine at_no rfl rfl rfl rfl ?_
  refine at_no rfl rfl rfl rfl ?_
  refine at_do (does_pick_false rfl rfl) rfl rfl ?_
  refine at_do (does_move rfl) rfl rfl ?_
  refine at_no rfl rfl rfl rfl ?_
  refine at_no rfl rfl rfl rfl ?_
  refine at_no rfl rfl rfl rfl ?_
  refine at_do (does_pick_false rfl rfl) rfl rfl ?_
  refine at_do (does_move rfl) rfl rfl ?_
  refine at_no rfl rfl rfl rfl ?_
  refine at_no rfl rfl rfl rfl ?_
  refine at_no rfl rfl rfl rfl ?_
  refine at_no rfl rfl rfl rfl ?_
  refine at_no rfl rfl rfl rfl ?_
  refine at_no rfl rfl rfl rfl ?_
  refine at_no rfl rfl rfl rfl ?_
  refine at_do (does_pick_false rfl rfl) rfl rfl ?_
  refine at_do (does_assign rfl) rfl rfl ?_
  refine at_nil ?_
  refine at_then ?_
  refine at_ret ?_
  refine at_ret1 rfl rfl rfl (fun w9 ho9 => ?_)
  rotate_left
  refine at_no rfl rfl rfl rfl ?_
  refine at_no rfl rfl rfl rfl ?_
  refine at_do (does_pick_false rfl rfl) rfl rfl ?_
  refine at_do (does_move rfl) rfl rfl ?_
  refine at_no rfl rfl rfl rfl ?_
  refine at_no rfl rfl rfl rfl ?_
  refine at_do (does_pick_false rfl rfl) rfl rfl ?_
  refine at_do (does_move rfl) rfl rfl ?_
  refine at_no rfl rfl rfl rfl ?_
  refine at_no rfl rfl rfl rfl ?_
  refine at_no rfl rfl rfl rfl ?_
  refine at_do (does_pick_false rfl rfl) rfl rfl ?_
  refine at_do (does_move rfl) rfl rfl ?_
  refine at_no rfl rfl rfl rfl ?_
  refine at_no rfl rfl rfl rfl ?_
  refine at_no rfl rfl rfl rfl ?_
  refine at_no rfl rfl rfl rfl ?_
  refine at_no rfl rfl rfl rfl ?_
  refine at_no rfl rfl rfl rfl ?_
  refine at_no rfl rfl rfl rfl ?_
  refine at_do (does_pick_false rfl rfl) rfl rfl ?_
  refine at_do (does_assign rfl) rfl rfl ?_
  refine at_nil ?_
  refine at_then ?_
  refine at_ret ?_
  refine at_ret1 rfl rfl rfl (fun w9 ho9 => ?_)
  rotate_left
  all_goals
    refine ⟨ret_bool ?_, ho9.plain⟩
    simp_all [inR]
theorem key_After (k : List UInt8) (w : World) (hG : Glob w) (hl : k.length ≤ 100000) : Calls Tryd.prog 53 #[.string (bs k)] w fun e w' => e = .returned (.string (bs (if isK k then k ++ [0] else []))) ∧ Below w.heap.size w w' := by
  refine calls_plain Tryd.func53 rfl Tryd.ntmps53 rfl ?_
  refine at_seq ?_
  refine at_region ?_
  refine at_do (does_assign rfl) rfl rfl ?_
  refine at_nil ?_
  refine at_then ?_
  refine at_seq ?_
  refine at_seq ?_
  refine at_region ?_
  refine at_do (does_move rfl) rfl rfl ?_
  refine at_callv (f := 44) (enters_fn (by kernel_rfl) rfl) (fun w ho => key_Is _ w (ho.glob hG id)) rfl rfl ?_
  refine at_do (does_not rfl) rfl rfl ?_
  refine at_nil ?_
  refine at_then ?_
  refine at_condN rfl (fun z0 => ?_) (fun z0 => ?_)
  refine at_seq ?_
  refine at_region ?_
  refine at_do (does_assign rfl) rfl rfl ?_
  refine at_nil ?_
  refine at_then ?_
  refine at_ret ?_
  refine at_then_ret ?_
  refine at_ret1 rfl rfl rfl (fun w9 ho9 => ?_)
  rotate_left
  refine at_skip ?_
  refine at_then ?_
  refine at_seq ?_
  refine at_region ?_
  refine at_do (does_move rfl) rfl rfl ?_
  refine at_do (does_sadd rfl rfl (by (simp; omega))) rfl rfl ?_
  refine at_do (does_assign rfl) rfl rfl ?_
  refine at_nil ?_
  refine at_then ?_
  refine at_ret ?_
  refine at_ret1 rfl rfl rfl (fun w9 ho9 => ?_)
  rotate_left
  all_goals exact ⟨by simp_all [bs], ho9.plain⟩
set_option maxRecDepth 100000 in
theorem key_end (l : List UInt8) (w : World) (hl : l.length ≤ 100000) : Calls Tryd.prog 79 #[.string (bs l)] w fun e w' => e = .returned (.string (bs (endK l))) ∧ Below w.heap.size w w' := by
  refine calls_plain Tryd.func79 rfl Tryd.ntmps79 rfl ?_
  by_cases h0 : l = []
  · refine at_seq ?_
    refine at_region ?_
    refine at_do (does_assign rfl) rfl rfl ?_
    refine at_nil ?_
    refine at_then ?_
    refine at_seq ?_
    refine at_seq ?_
    refine at_region ?_
    refine at_do (does_move rfl) rfl rfl ?_
    refine at_do (does_seql rfl rfl) rfl rfl ?_
    refine at_nil ?_
    refine at_then ?_
    refine at_cond_t rfl (decide_eq_true (by assumption)) ?_
    refine at_seq ?_
    refine at_region ?_
    refine at_do (does_assign rfl) rfl rfl ?_
    refine at_nil ?_
    refine at_then ?_
    refine at_ret ?_
    refine at_then_ret ?_
    refine at_ret1 rfl rfl rfl (fun w9 ho9 => ?_)
    rotate_left
    exact ⟨by rw [endK, if_pos h0]; rfl, ho9.plain⟩
  · have hp : 0 < l.length := List.length_pos_iff.2 h0
    refine at_seq ?_
    refine at_region ?_
    refine at_do (does_assign rfl) rfl rfl ?_
    refine at_nil ?_
    refine at_then ?_
    refine at_seq ?_
    refine at_seq ?_
    refine at_region ?_
    refine at_do (does_move rfl) rfl rfl ?_
    refine at_do (does_seql rfl rfl) rfl rfl ?_
    refine at_nil ?_
    refine at_then ?_
    refine at_cond_f rfl (decide_eq_false (by assumption)) ?_
    refine at_skip ?_
    refine at_then ?_
    refine at_seq ?_
    refine at_region ?_
    refine at_do (does_move rfl) rfl rfl ?_
    refine at_do (does_slen (by kernel_rfl) rfl) rfl rfl ?_
    refine at_do (does_subi rfl rfl (by omega)) rfl rfl ?_
    refine at_do (does_assign rfl) rfl rfl ?_
    refine at_nil ?_
    refine at_then ?_
    refine at_seq ?_
    rotate_left
    apply at_drawR0 10 [.val _, .val _, .val _, .val _, .val _, .val _, .val _, .rel (Lits 5 1 [.int .u8 ((l.getD ((l.length : Int) - 1).toNat 0 + 1).toNat : Int)]), .val _, .val _] (by kernel_rfl) (by kernel_rfl) rfl ⟨trivial, trivial, trivial, trivial, trivial, trivial, trivial, lits_stab _ _ _, trivial, trivial, trivial⟩
    · refine so_cons rfl (fun vs => ?_) ?_
      exact step1_does (does_move rfl)
      refine so_cons rfl (fun vs => ?_) ?_
      exact step1_does (does_move rfl)
      refine so_cons rfl (fun vs => ?_) ?_
      exact step1_does (does_sslice_hi (by kernel_rfl) rfl rfl (by (simp; omega)))
      refine so_cons rfl (fun vs => ?_) ?_
      exact step1_does (does_move rfl)
      refine so_cons rfl (fun vs => ?_) ?_
      exact step1_does (does_move rfl)
      refine so_cons rfl (fun vs => ?_) ?_
      exact step1_does (does_sidx (by kernel_rfl) rfl rfl (by (simp; omega)))
      refine so_cons rfl (fun vs => ?_) ?_
      exact step1_does (does_inc8 rfl)
      refine so_cons rfl (fun vs => ?_) ?_
      exact step1_buildSlice (sz := 1) (by kernel_rfl) rfl rfl rfl rfl rfl
      refine so_cons rfl (fun vs => ?_) ?_
      exact step1_bytesStr (l := [_]) (by kernel_rfl) rfl (fun w h => h.1)
      refine so_cons rfl (fun vs => ?_) ?_
      exact step1_does (does_sadd rfl rfl (by (simp; omega)))
      exact so_nil
    · intro vs
      refine at_do (does_assign rfl) rfl rfl ?_
      refine at_nil ?_
      refine at_then ?_
      refine at_ret ?_
      refine at_ret1 rfl rfl rfl (fun w9 ho9 => ?_)
      rotate_left
      exact ⟨by rw [endK, if_neg h0, show ((l.length : Int) - 1).toNat = l.length - 1 by omega]; rfl, ho9.plain⟩
set_option maxRecDepth 100000 in
theorem ref_End (l : List UInt8) (w : World) (hl : l.length ≤ 100000) : Calls Tryd.prog 50 #[.string (bs l)] w fun e w' => e = .returned (.string (bs (endK l))) ∧ Below w.heap.size w w' := by
  refine calls_plain Tryd.func50 rfl Tryd.ntmps50 rfl ?_
  by_cases h0 : l = []
  · refine at_seq ?_
    refine at_region ?_
    refine at_do (does_assign rfl) rfl rfl ?_
    refine at_nil ?_
    refine at_then ?_
    refine at_seq ?_
    refine at_seq ?_
    refine at_region ?_
    refine at_do (does_move rfl) rfl rfl ?_
    refine at_do (does_seql rfl rfl) rfl rfl ?_
    refine at_nil ?_
    refine at_then ?_
    refine at_cond_t rfl (decide_eq_true (by assumption)) ?_
    refine at_seq ?_
    refine at_region ?_
    refine at_do (does_assign rfl) rfl rfl ?_
    refine at_nil ?_
    refine at_then ?_
    refine at_ret ?_
    refine at_then_ret ?_
    refine at_ret1 rfl rfl rfl (fun w9 ho9 => ?_)
    rotate_left
    exact ⟨by rw [endK, if_pos h0]; rfl, ho9.plain⟩
  · have hp : 0 < l.length := List.length_pos_iff.2 h0
    refine at_seq ?_
    refine at_region ?_
    refine at_do (does_assign rfl) rfl rfl ?_
    refine at_nil ?_
    refine at_then ?_
    refine at_seq ?_
    refine at_seq ?_
    refine at_region ?_
    refine at_do (does_move rfl) rfl rfl ?_
    refine at_do (does_seql rfl rfl) rfl rfl ?_
    refine at_nil ?_
    refine at_then ?_
    refine at_cond_f rfl (decide_eq_false (by assumption)) ?_
    refine at_skip ?_
    refine at_then ?_
    refine at_seq ?_
    refine at_region ?_
    refine at_do (does_move rfl) rfl rfl ?_
    refine at_do (does_slen (by kernel_rfl) rfl) rfl rfl ?_
    refine at_do (does_subi rfl rfl (by omega)) rfl rfl ?_
    refine at_do (does_assign rfl) rfl rfl ?_
    refine at_nil ?_
    refine at_then ?_
    refine at_seq ?_
    rotate_left
    apply at_drawR0 10 [.val _, .val _, .val _, .val _, .val _, .val _, .val _, .rel (Lits 5 1 [.int .u8 ((l.getD ((l.length : Int) - 1).toNat 0 + 1).toNat : Int)]), .val _, .val _] (by kernel_rfl) (by kernel_rfl) rfl ⟨trivial, trivial, trivial, trivial, trivial, trivial, trivial, lits_stab _ _ _, trivial, trivial, trivial⟩
    · refine so_cons rfl (fun vs => ?_) ?_
      exact step1_does (does_move rfl)
      refine so_cons rfl (fun vs => ?_) ?_
      exact step1_does (does_move rfl)
      refine so_cons rfl (fun vs => ?_) ?_
      exact step1_does (does_sslice_hi (by kernel_rfl) rfl rfl (by (simp; omega)))
      refine so_cons rfl (fun vs => ?_) ?_
      exact step1_does (does_move rfl)
      refine so_cons rfl (fun vs => ?_) ?_
      exact step1_does (does_move rfl)
      refine so_cons rfl (fun vs => ?_) ?_
      exact step1_does (does_sidx (by kernel_rfl) rfl rfl (by (simp; omega)))
      refine so_cons rfl (fun vs => ?_) ?_
      exact step1_does (does_inc8 rfl)
      refine so_cons rfl (fun vs => ?_) ?_
      exact step1_buildSlice (sz := 1) (by kernel_rfl) rfl rfl rfl rfl rfl
      refine so_cons rfl (fun vs => ?_) ?_
      exact step1_bytesStr (l := [_]) (by kernel_rfl) rfl (fun w h => h.1)
      refine so_cons rfl (fun vs => ?_) ?_
      exact step1_does (does_sadd rfl rfl (by (simp; omega)))
      exact so_nil
    · intro vs
      refine at_do (does_assign rfl) rfl rfl ?_
      refine at_nil ?_
      refine at_then ?_
      refine at_ret ?_
      refine at_ret1 rfl rfl rfl (fun w9 ho9 => ?_)
      rotate_left
      exact ⟨by rw [endK, if_neg h0, show ((l.length : Int) - 1).toNat = l.length - 1 by omega]; rfl, ho9.plain⟩

/-! The order of texts. -/
theorem less_append : ∀ (x a b : List UInt8), Op.bytesLess (x ++ a) (x ++ b) = Op.bytesLess a b
  | [], _, _ => rfl
  | c :: x, a, b => by
    simp only [List.cons_append]
    rw [Op.bytesLess]
    simp [less_append x a b]
theorem less_at (a b : List UInt8) (k : Nat) (h : a.take k = b.take k) : Op.bytesLess a b = Op.bytesLess (a.drop k) (b.drop k) := by
  conv => lhs; rw [← List.take_append_drop k a, ← List.take_append_drop k b, h]
  exact less_append _ _ _
theorem less_step (a b : List UInt8) (k : Nat) (h : a.take k = b.take k) (ha : k < a.length) (hb : k < b.length) (hne : byt a k ≠ byt b k) : Op.bytesLess a b = decide (byt a k < byt b k) := by
  rw [less_at a b k h, List.drop_eq_getElem_cons ha, List.drop_eq_getElem_cons hb]
  rw [byt_eq a k ha, byt_eq b k hb] at *
  have hne' : a[k] ≠ b[k] := fun e => hne (by rw [e])
  unfold Op.bytesLess
  rw [Bool.eq_iff_iff]
  simp [hne', UInt8.lt_iff_toNat_lt]
theorem less_end (a b : List UInt8) (k : Nat) (h : a.take k = b.take k) (hk : ¬ (k < a.length ∧ k < b.length)) : Op.bytesLess a b = decide (a.length < b.length) := by
  rw [less_at a b k h]
  rcases Nat.lt_or_ge k a.length with ha | ha
  · have hb : b.length ≤ k := by omega
    rw [List.drop_of_length_le hb]
    have : b.length ≤ a.length := by omega
    cases hd : List.drop k a <;> (unfold Op.bytesLess; simp; omega)
  · rw [List.drop_of_length_le ha]
    rcases Nat.lt_or_ge k b.length with hb | hb
    · rw [List.drop_eq_getElem_cons hb]
      unfold Op.bytesLess; simp; omega
    · rw [List.drop_of_length_le hb]
      unfold Op.bytesLess
      have hl := congrArg List.length h
      simp at hl
      simp; omega
theorem less_tot : ∀ (a b : List UInt8), Op.bytesLess a b = !(Op.bytesLess b a || decide (b = a))
  | [], [] => by simp [Op.bytesLess]
  | [], _ :: _ => by simp [Op.bytesLess]
  | _ :: _, [] => by simp [Op.bytesLess]
  | x :: a, y :: b => by
    have ih := less_tot a b
    rw [Op.bytesLess, Op.bytesLess, ih]
    by_cases h : x = y
    · subst h
      have : ¬ x < x := by simp [UInt8.lt_iff_toNat_lt]
      simp [this]
    · have h' : y ≠ x := fun e => h e.symm
      have : decide (x < y) = !decide (y < x) := by
        rw [Bool.eq_iff_iff]
        have hn : x.toNat ≠ y.toNat := fun e => h (UInt8.toNat_inj.1 e)
        simp [UInt8.lt_iff_toNat_lt, UInt8.le_iff_toNat_le]; omega
      have hb : (x == y) = false := by simp [h]
      have hb' : (y == x) = false := by simp [h']
      rw [this, hb, hb']
      simp [h']
theorem take_step (a b : List UInt8) (k : Nat) (h : a.take k = b.take k) (ha : k < a.length) (hb : k < b.length) (he : byt a k = byt b k) : a.take (k + 1) = b.take (k + 1) := by
  rw [List.take_succ_eq_append_getElem ha, List.take_succ_eq_append_getElem hb, h]
  rw [byt_eq a k ha, byt_eq b k hb] at he
  have : a[k] = b[k] := UInt8.toNat_inj.1 (by omega)
  rw [this]
theorem ref_Ahead (a b : List UInt8) (w : World) (hl : a.length ≤ 100001) (hb : b.length ≤ 100001) : Calls Tryd.prog 80 #[.string (bs a), .string (bs b)] w fun e w' => e = .returned (.bool (Op.bytesLess a b)) ∧ Below w.heap.size w w' := by
  refine calls_plain Tryd.func80 rfl Tryd.ntmps80 rfl ?_
  refine at_seq ?_
  refine at_region ?_
  refine at_do (does_assign rfl) rfl rfl ?_
  refine at_nil ?_
  refine at_then ?_
  refine at_seq ?_
  refine at_seq ?_
  refine at_region ?_
  refine at_do (does_assign rfl) rfl rfl ?_
  refine at_nil ?_
  refine at_then ?_
  refine at_block ?_
  rotate_left
  refine at_loop0 (fun k : Nat => k ≤ a.length ∧ k ≤ b.length ∧ a.take k = b.take k) (fun k => [(0, .string (bs a)), (1, .string (bs b)), (5, .int .i64 k)]) (fun k => a.length - k) 0 ⟨by omega, by omega, by simp⟩ ⟨rfl, rfl, rfl, trivial⟩ ?_
  rintro k ⟨hk, hkb, hs⟩
  refine at_seq ?_
  refine at_seq ?_
  refine at_region ?_
  refine at_do (does_move rfl) rfl rfl ?_
  refine at_do (does_move rfl) rfl rfl ?_
  refine at_do (does_slen (by kernel_rfl) rfl) rfl rfl ?_
  refine at_do (does_lss rfl rfl) rfl rfl ?_
  refine at_do (does_move rfl) rfl rfl ?_
  refine at_guardD rfl rfl (fun z0 => ?_) (fun z0 => ?_)
  refine at_on rfl rfl ?_
  refine at_do (does_move rfl) rfl rfl ?_
  refine at_on rfl rfl ?_
  refine at_do (does_move rfl) rfl rfl ?_
  refine at_on rfl rfl ?_
  refine at_do (does_slen (by kernel_rfl) rfl) rfl rfl ?_
  refine at_on rfl rfl ?_
  refine at_do (does_lss rfl rfl) rfl rfl ?_
  refine at_do (does_pick_true rfl rfl) rfl rfl ?_
  refine at_nil ?_
  refine at_then ?_
  refine at_condD rfl (fun z1 => ?_) (fun z1 => ?_)
  refine at_skip ?_
  refine at_then ?_
  refine at_seq ?_
  refine at_block ?_
  refine at_seq ?_
  refine at_draw (by kernel_rfl) (by kernel_rfl) ?_
  refine atq_do (does_move rfl) rfl rfl ?_
  refine atq_do (does_move rfl) rfl rfl ?_
  refine atq_do (does_sidx (by kernel_rfl) rfl rfl (by omega)) rfl rfl ?_
  refine atq_do (does_move rfl) rfl rfl ?_
  refine atq_do (does_move rfl) rfl rfl ?_
  refine atq_do (does_sidx (by kernel_rfl) rfl rfl (by omega)) rfl rfl ?_
  refine atq_do (does_neq rfl rfl) rfl rfl ?_
  refine atq_nil ?_
  refine at_then ?_
  refine at_condD rfl (fun z2 => ?_) (fun z2 => ?_)
  refine at_seq ?_
  refine at_draw (by kernel_rfl) (by kernel_rfl) ?_
  refine atq_do (does_move rfl) rfl rfl ?_
  refine atq_do (does_move rfl) rfl rfl ?_
  refine atq_do (does_sidx (by kernel_rfl) rfl rfl (by omega)) rfl rfl ?_
  refine atq_do (does_move rfl) rfl rfl ?_
  refine atq_do (does_move rfl) rfl rfl ?_
  refine atq_do (does_sidx (by kernel_rfl) rfl rfl (by omega)) rfl rfl ?_
  refine atq_do (does_lss rfl rfl) rfl rfl ?_
  refine atq_do (does_assign rfl) rfl rfl ?_
  refine atq_nil ?_
  refine at_then ?_
  refine at_ret ?_
  refine at_inb_ret ?_
  refine at_then_ret ?_
  refine at_then_ret ?_
  refine at_inb_ret ?_
  refine at_then_ret ?_
  refine at_ret1 rfl rfl rfl (fun w9 ho9 => ?_)
  rotate_left
  refine at_skip ?_
  refine at_inb ?_
  refine at_then ?_
  refine at_region ?_
  refine at_do (does_move rfl) rfl rfl ?_
  refine at_do (does_addi rfl rfl (by omega)) rfl rfl ?_
  refine at_do (does_assign rfl) rfl rfl ?_
  refine at_nil ?_
  refine at_then ?_
  rotate_left
  refine at_exit ?_
  refine at_then_exit ?_
  refine at_then_exit ?_
  refine at_inb_here ?_
  refine at_then ?_
  refine at_seq ?_
  refine at_region ?_
  refine at_do (does_move rfl) rfl rfl ?_
  refine at_do (does_slen (by kernel_rfl) rfl) rfl rfl ?_
  refine at_do (does_move rfl) rfl rfl ?_
  refine at_do (does_slen (by kernel_rfl) rfl) rfl rfl ?_
  refine at_do (does_lss rfl rfl) rfl rfl ?_
  refine at_do (does_assign rfl) rfl rfl ?_
  refine at_nil ?_
  refine at_then ?_
  refine at_ret ?_
  refine at_ret1 rfl rfl rfl (fun w9 ho9 => ?_)
  rotate_left
  refine at_no rfl rfl rfl rfl ?_
  refine at_no rfl rfl rfl rfl ?_
  refine at_no rfl rfl rfl rfl ?_
  refine at_no rfl rfl rfl rfl ?_
  refine at_do (does_pick_false rfl rfl) rfl rfl ?_
  refine at_nil ?_
  refine at_then ?_
  refine at_cond_false rfl ?_
  refine at_exit ?_
  refine at_then_exit ?_
  refine at_then_exit ?_
  refine at_inb_here ?_
  refine at_then ?_
  refine at_seq ?_
  refine at_region ?_
  refine at_do (does_move rfl) rfl rfl ?_
  refine at_do (does_slen (by kernel_rfl) rfl) rfl rfl ?_
  refine at_do (does_move rfl) rfl rfl ?_
  refine at_do (does_slen (by kernel_rfl) rfl) rfl rfl ?_
  refine at_do (does_lss rfl rfl) rfl rfl ?_
  refine at_do (does_assign rfl) rfl rfl ?_
  refine at_nil ?_
  refine at_then ?_
  refine at_ret ?_
  refine at_ret1 rfl rfl rfl (fun w9 ho9 => ?_)
  rotate_left
  · exact ⟨ret_bool (less_step a b k hs (by omega) (by omega) z2).symm, ho9.plain⟩
  · exact at_again0 (k + 1) ⟨by omega, by omega, take_step a b k hs (by omega) (by omega) (by simpa using z2)⟩ (by omega) ⟨rfl, rfl, rfl, trivial⟩
  all_goals
    refine ⟨ret_bool ?_, ho9.plain⟩
    rw [less_end a b k hs (by omega)]
    simp
theorem keyOk_nil : keyOk [] = true := by decide
set_option maxRecDepth 100000 in
theorem key_stop (l : List UInt8) (w : World) (hG : Glob w) (hl : l.length ≤ 100000) : Calls Tryd.prog 81 #[.string (bs l)] w fun e w' => e = .returned (.bool (stopK l)) ∧ Below w.heap.size w w' := by
  refine calls_plain Tryd.func81 rfl Tryd.ntmps81 rfl ?_
  by_cases hk : keyOk l = true
  · refine at_seq ?_
    refine at_region ?_
    refine at_do (does_assign rfl) rfl rfl ?_
    refine at_nil ?_
    refine at_then ?_
    refine at_seq ?_
    refine at_seq ?_
    refine at_region ?_
    refine at_do (does_move rfl) rfl rfl ?_
    refine at_callv (f := 45) (enters_fn (by kernel_rfl) rfl) (fun w ho => key_Pattern _ w (ho.glob hG id)) rfl rfl ?_
    refine at_nil ?_
    refine at_then ?_
    refine at_cond_t rfl (by assumption) ?_
    refine at_seq ?_
    refine at_region ?_
    refine at_do (does_assign rfl) rfl rfl ?_
    refine at_nil ?_
    refine at_then ?_
    refine at_ret ?_
    refine at_then_ret ?_
    refine at_ret1 rfl rfl rfl (fun w9 ho9 => ?_)
    rotate_left
    exact ⟨ret_bool (by simp [stopK, hk]), ho9.plain⟩
  · have hk' : keyOk l = false := by simpa using hk
    have hp : 0 < l.length := List.length_pos_iff.2 fun e => by rw [e, keyOk_nil] at hk; exact hk rfl
    refine at_seq ?_
    refine at_region ?_
    refine at_do (does_assign rfl) rfl rfl ?_
    refine at_nil ?_
    refine at_then ?_
    refine at_seq ?_
    refine at_seq ?_
    refine at_region ?_
    refine at_do (does_move rfl) rfl rfl ?_
    refine at_callv (f := 45) (enters_fn (by kernel_rfl) rfl) (fun w ho => key_Pattern _ w (ho.glob hG id)) rfl rfl ?_
    refine at_nil ?_
    refine at_then ?_
    refine at_cond_f rfl (by assumption) ?_
    refine at_skip ?_
    refine at_then ?_
    refine at_seq ?_
    refine at_region ?_
    refine at_do (does_move rfl) rfl rfl ?_
    refine at_do (does_slen (by kernel_rfl) rfl) rfl rfl ?_
    refine at_do (does_subi rfl rfl (by omega)) rfl rfl ?_
    refine at_do (does_assign rfl) rfl rfl ?_
    refine at_nil ?_
    refine at_then ?_
    refine at_seq ?_
    rotate_left
    have e1 : ((l.length : Int) - 1).toNat = l.length - 1 := by omega
    by_cases h0 : 0 < byt l ((l.length : Int) - 1).toNat
    · apply at_drawR0 17 [.val _, .val _, .val _, .val _, .val _, .val _, .val _, .val _, .val _, .val _, .val _, .val _, .rel (Lits 5 1 [.int .u8 ((l.getD ((l.length : Int) - 1).toNat 0 - 1).toNat : Int)]), .val _, .val _, .val _, .val _] (by kernel_rfl) (by kernel_rfl) rfl ⟨trivial, trivial, trivial, trivial, trivial, trivial, trivial, trivial, trivial, trivial, trivial, trivial, lits_stab _ _ _, trivial, trivial, trivial, trivial, trivial⟩
      · refine so_cons rfl (fun vs => ?_) ?_
        exact step1_does (does_move rfl)
        refine so_cons rfl (fun vs => ?_) ?_
        exact step1_does (does_move rfl)
        refine so_cons rfl (fun vs => ?_) ?_
        exact step1_does (does_sidx (by kernel_rfl) rfl rfl (by (simp; omega)))
        refine so_cons rfl (fun vs => ?_) ?_
        exact step1_does (does_gtr rfl rfl)
        refine so_cons rfl (fun vs => ?_) ?_
        exact step1_does (does_move rfl)
        refine so_on rfl rfl (fun vs => rfl) (by simpa [wantB] using h0) (fun vs => ?_) ?_
        exact step1_does (does_move rfl)
        refine so_on rfl rfl (fun vs => rfl) (by simpa [wantB] using h0) (fun vs => ?_) ?_
        exact step1_does (does_move rfl)
        refine so_on rfl rfl (fun vs => rfl) (by simpa [wantB] using h0) (fun vs => ?_) ?_
        exact step1_does (does_sslice_hi (by kernel_rfl) rfl rfl (by (simp; omega)))
        refine so_on rfl rfl (fun vs => rfl) (by simpa [wantB] using h0) (fun vs => ?_) ?_
        exact step1_does (does_move rfl)
        refine so_on rfl rfl (fun vs => rfl) (by simpa [wantB] using h0) (fun vs => ?_) ?_
        exact step1_does (does_move rfl)
        refine so_on rfl rfl (fun vs => rfl) (by simpa [wantB] using h0) (fun vs => ?_) ?_
        exact step1_does (does_sidx (by kernel_rfl) rfl rfl (by (simp; omega)))
        refine so_on rfl rfl (fun vs => rfl) (by simpa [wantB] using h0) (fun vs => ?_) ?_
        exact step1_does (does_dec8 rfl)
        refine so_on rfl rfl (fun vs => rfl) (by simpa [wantB] using h0) (fun vs => ?_) ?_
        exact step1_buildSlice (sz := 1) (by kernel_rfl) rfl rfl rfl rfl rfl
        refine so_on rfl rfl (fun vs => rfl) (by simpa [wantB] using h0) (fun vs => ?_) ?_
        exact step1_bytesStr (l := [_]) (by kernel_rfl) rfl (fun w h => h.1)
        refine so_on rfl rfl (fun vs => rfl) (by simpa [wantB] using h0) (fun vs => ?_) ?_
        exact step1_does (does_sadd rfl rfl (by (simp; omega)))
        refine so_on rfl rfl (fun vs => rfl) (by simpa [wantB] using h0) (fun vs => ?_) ?_
        exact step1_call (f := 45) (enters_fn (by kernel_rfl) rfl) (fun w ho hx => key_Pattern _ w (ho.glob hG id))
        refine so_cons rfl (fun vs => ?_) ?_
        exact step1_does (does_pickb rfl rfl rfl)
        exact so_nil
      · intro vs
        refine at_do (does_assign rfl) rfl rfl ?_
        refine at_nil ?_
        refine at_then ?_
        refine at_ret ?_
        refine at_ret1 rfl rfl rfl (fun w9 ho9 => ?_)
        rotate_left
        refine ⟨?_, ho9.plain⟩
        show Ending.returned (Value.bool (if decide (0 < byt l ((l.length : Int) - 1).toNat) = true then keyOk (l.take ((l.length : Int) - 1).toNat ++ [l.getD ((l.length : Int) - 1).toNat 0 - 1]) else false)) = _
        rw [stopK, hk', ← e1, decide_eq_true h0]
        simp
    · apply at_drawR0 17 [.val _, .val _, .val _, .val _, .val _, .val _, .val _, .val _, .val _, .val _, .val _, .val _, .val _, .val _, .val _, .val _, .val _] (by kernel_rfl) (by kernel_rfl) rfl ⟨trivial, trivial, trivial, trivial, trivial, trivial, trivial, trivial, trivial, trivial, trivial, trivial, trivial, trivial, trivial, trivial, trivial, trivial⟩
      · refine so_cons rfl (fun vs => ?_) ?_
        exact step1_does (does_move rfl)
        refine so_cons rfl (fun vs => ?_) ?_
        exact step1_does (does_move rfl)
        refine so_cons rfl (fun vs => ?_) ?_
        exact step1_does (does_sidx (by kernel_rfl) rfl rfl (by (simp; omega)))
        refine so_cons rfl (fun vs => ?_) ?_
        exact step1_does (does_gtr rfl rfl)
        refine so_cons rfl (fun vs => ?_) ?_
        exact step1_does (does_move rfl)
        refine so_off rfl rfl (fun vs => rfl) (by simpa [wantB] using h0) rfl ?_
        refine so_off rfl rfl (fun vs => rfl) (by simpa [wantB] using h0) rfl ?_
        refine so_off rfl rfl (fun vs => rfl) (by simpa [wantB] using h0) rfl ?_
        refine so_off rfl rfl (fun vs => rfl) (by simpa [wantB] using h0) rfl ?_
        refine so_off rfl rfl (fun vs => rfl) (by simpa [wantB] using h0) rfl ?_
        refine so_off rfl rfl (fun vs => rfl) (by simpa [wantB] using h0) rfl ?_
        refine so_off rfl rfl (fun vs => rfl) (by simpa [wantB] using h0) rfl ?_
        refine so_off rfl rfl (fun vs => rfl) (by simpa [wantB] using h0) rfl ?_
        refine so_off rfl rfl (fun vs => rfl) (by simpa [wantB] using h0) rfl ?_
        refine so_off rfl rfl (fun vs => rfl) (by simpa [wantB] using h0) rfl ?_
        refine so_off rfl rfl (fun vs => rfl) (by simpa [wantB] using h0) rfl ?_
        refine so_cons rfl (fun vs => ?_) ?_
        exact step1_does (does_pick rfl rfl rfl)
        exact so_nil
      · intro vs
        refine at_do (does_assign rfl) rfl rfl ?_
        refine at_nil ?_
        refine at_then ?_
        refine at_ret ?_
        refine at_ret1 rfl rfl rfl (fun w9 ho9 => ?_)
        rotate_left
        refine ⟨?_, ho9.plain⟩
        rw [stopK, hk', ← e1, decide_eq_false h0]
        rfl
theorem dec_inc (l : List UInt8) (h : 0 < l.length) : endK (l.take (l.length - 1) ++ [l.getD (l.length - 1) 0 - 1]) = l := by
  have hl : (l.take (l.length - 1) ++ [l.getD (l.length - 1) 0 - 1]).length = l.length := by simp; omega
  have hne : l.take (l.length - 1) ++ [l.getD (l.length - 1) 0 - 1] ≠ [] := by simp
  rw [endK, if_neg hne, hl]
  have ht : (l.take (l.length - 1)).length = l.length - 1 := by simp
  rw [List.take_append_of_le_length (by omega), List.take_of_length_le (by omega)]
  have hg : (l.take (l.length - 1) ++ [l.getD (l.length - 1) 0 - 1]).getD (l.length - 1) 0 = l.getD (l.length - 1) 0 - 1 := by
    rw [List.getD_eq_getElem?_getD, List.getElem?_append_right (by omega), ht]
    simp
  rw [hg]
  have hc : l.getD (l.length - 1) 0 - 1 + 1 = l.getD (l.length - 1) 0 := by
    apply UInt8.toNat_inj.1
    rw [UInt8.toNat_add, UInt8.toNat_sub]
    have := (l.getD (l.length - 1) 0).toNat_lt
    have e1 : (1 : UInt8).toNat = 1 := rfl
    rw [e1]; omega
  rw [hc, List.getD_eq_getElem?_getD, List.getElem?_eq_getElem (by omega)]
  have := List.take_succ_eq_append_getElem (l := l) (i := l.length - 1) (by omega)
  rw [show l.length - 1 + 1 = l.length by omega, List.take_length] at this
  simpa using this.symm
set_option maxRecDepth 100000 in
theorem ref_Stop (l : List UInt8) (w : World) (hl : l.length ≤ 100000) : Calls Tryd.prog 82 #[.string (bs l)] w fun e w' => e = .returned (.bool (stopK l)) ∧ Below w.heap.size w w' := by
  refine calls_plain Tryd.func82 rfl Tryd.ntmps82 rfl ?_
  by_cases hk : keyOk l = true
  · refine at_seq ?_
    refine at_region ?_
    refine at_do (does_assign rfl) rfl rfl ?_
    refine at_nil ?_
    refine at_then ?_
    refine at_seq ?_
    refine at_seq ?_
    refine at_region ?_
    refine at_do (does_move rfl) rfl rfl ?_
    refine at_callv (f := 42) (enters_fn (by kernel_rfl) rfl) (fun w ho => ref_Pattern _ w (by first | omega | (simp; omega))) rfl rfl ?_
    refine at_nil ?_
    refine at_then ?_
    refine at_cond_t rfl (by assumption) ?_
    refine at_seq ?_
    refine at_region ?_
    refine at_do (does_assign rfl) rfl rfl ?_
    refine at_nil ?_
    refine at_then ?_
    refine at_ret ?_
    refine at_then_ret ?_
    refine at_ret1 rfl rfl rfl (fun w9 ho9 => ?_)
    rotate_left
    exact ⟨ret_bool (by simp [stopK, hk]), ho9.plain⟩
  · have hk' : keyOk l = false := by simpa using hk
    have hp : 0 < l.length := List.length_pos_iff.2 fun e => by rw [e, keyOk_nil] at hk; exact hk rfl
    have e1 : ((l.length : Int) - 1).toNat = l.length - 1 := by omega
    have hr := byt_range l (l.length - 1)
    refine at_seq ?_
    refine at_region ?_
    refine at_do (does_assign rfl) rfl rfl ?_
    refine at_nil ?_
    refine at_then ?_
    refine at_seq ?_
    refine at_seq ?_
    refine at_region ?_
    refine at_do (does_move rfl) rfl rfl ?_
    refine at_callv (f := 42) (enters_fn (by kernel_rfl) rfl) (fun w ho => ref_Pattern _ w (by first | omega | (simp; omega))) rfl rfl ?_
    refine at_nil ?_
    refine at_then ?_
    refine at_cond_f rfl (by assumption) ?_
    refine at_skip ?_
    refine at_then ?_
    refine at_seq ?_
    refine at_region ?_
    refine at_do (does_move rfl) rfl rfl ?_
    refine at_do (does_slen (by kernel_rfl) rfl) rfl rfl ?_
    refine at_do (does_subi rfl rfl (by omega)) rfl rfl ?_
    refine at_do (does_assign rfl) rfl rfl ?_
    refine at_nil ?_
    refine at_then ?_
    refine at_seq ?_
    refine at_seq ?_
    refine at_region ?_
    refine at_do (does_move rfl) rfl rfl ?_
    refine at_do (does_move rfl) rfl rfl ?_
    refine at_do (does_sidx (by kernel_rfl) rfl rfl (by omega)) rfl rfl ?_
    refine at_do (does_eql rfl rfl) rfl rfl ?_
    refine at_nil ?_
    refine at_then ?_
    refine at_condD rfl (fun z0 => ?_) (fun z0 => ?_)
    refine at_seq ?_
    refine at_region ?_
    refine at_do (does_assign rfl) rfl rfl ?_
    refine at_nil ?_
    refine at_then ?_
    refine at_ret ?_
    refine at_then_ret ?_
    refine at_ret1 rfl rfl rfl (fun w9 ho9 => ?_)
    rotate_left
    refine at_skip ?_
    refine at_then ?_
    refine at_seq ?_
    rotate_left
    · refine ⟨ret_bool ?_, ho9.plain⟩
      rw [e1] at z0
      rw [stopK, hk', z0]
      rfl
    · apply at_drawR0 10 [.val _, .val _, .val _, .val _, .val _, .val _, .val _, .rel (Lits 5 1 [.int .u8 ((l.getD ((l.length : Int) - 1).toNat 0 - 1).toNat : Int)]), .val _, .val _] (by kernel_rfl) (by kernel_rfl) rfl ⟨trivial, trivial, trivial, trivial, trivial, trivial, trivial, lits_stab _ _ _, trivial, trivial, trivial⟩
      · refine so_cons rfl (fun vs => ?_) ?_
        exact step1_does (does_move rfl)
        refine so_cons rfl (fun vs => ?_) ?_
        exact step1_does (does_move rfl)
        refine so_cons rfl (fun vs => ?_) ?_
        exact step1_does (does_sslice_hi (by kernel_rfl) rfl rfl (by (simp; omega)))
        refine so_cons rfl (fun vs => ?_) ?_
        exact step1_does (does_move rfl)
        refine so_cons rfl (fun vs => ?_) ?_
        exact step1_does (does_move rfl)
        refine so_cons rfl (fun vs => ?_) ?_
        exact step1_does (does_sidx (by kernel_rfl) rfl rfl (by (simp; omega)))
        refine so_cons rfl (fun vs => ?_) ?_
        exact step1_does (does_dec8 rfl)
        refine so_cons rfl (fun vs => ?_) ?_
        exact step1_buildSlice (sz := 1) (by kernel_rfl) rfl rfl rfl rfl rfl
        refine so_cons rfl (fun vs => ?_) ?_
        exact step1_bytesStr (l := [_]) (by kernel_rfl) rfl (fun w h => h.1)
        refine so_cons rfl (fun vs => ?_) ?_
        exact step1_does (does_sadd rfl rfl (by (simp; omega)))
        exact so_nil
      · intro vs
        refine at_do (does_assign rfl) rfl rfl ?_
        refine at_nil ?_
        refine at_then ?_
        refine at_seq ?_
        refine at_region ?_
        refine at_do (does_move rfl) rfl rfl ?_
        refine at_callv (f := 42) (enters_fn (by kernel_rfl) rfl) (fun w ho => ref_Pattern _ w (by first | omega | (simp; omega))) rfl rfl ?_
        refine at_do (does_move rfl) rfl rfl ?_
        refine at_guard rfl rfl (fun z0 => ?_) (fun z0 => ?_)
        refine at_on rfl rfl ?_
        refine at_do (does_move rfl) rfl rfl ?_
        refine at_on rfl rfl ?_
        refine at_callv (f := 50) (enters_fn (by kernel_rfl) rfl) (fun w ho => ref_End _ w (by simp; omega)) rfl rfl ?_
        refine at_on rfl rfl ?_
        refine at_do (does_move rfl) rfl rfl ?_
        refine at_on rfl rfl ?_
        refine at_do (does_seql rfl rfl) rfl rfl ?_
        refine at_do (does_pick_true rfl rfl) rfl rfl ?_
        refine at_do (does_assign rfl) rfl rfl ?_
        refine at_nil ?_
        refine at_then ?_
        refine at_ret ?_
        refine at_ret1 rfl rfl rfl (fun w9 ho9 => ?_)
        rotate_left
        refine at_no rfl rfl rfl rfl ?_
        refine at_no rfl rfl rfl rfl ?_
        refine at_no rfl rfl rfl rfl ?_
        refine at_no rfl rfl rfl rfl ?_
        refine at_do (does_pick_false rfl rfl) rfl rfl ?_
        refine at_do (does_assign rfl) rfl rfl ?_
        refine at_nil ?_
        refine at_then ?_
        refine at_ret ?_
        refine at_ret1 rfl rfl rfl (fun w9 ho9 => ?_)
        rotate_left
        · refine ⟨ret_bool ?_, ho9.plain⟩
          rw [e1] at z0
          have hz : decide (0 < byt l (l.length - 1)) = true := by
            refine decide_eq_true ?_
            rename_i z1
            rw [e1] at z1
            omega
          rw [e1, dec_inc l hp, stopK, hk', z0, hz]
          simp
        · refine ⟨ret_bool ?_, ho9.plain⟩
          rw [e1] at z0
          rw [stopK, hk', z0]
          simp
def overK (a t p : List UInt8) : Bool := keyOk a && stopK t && keyOk p && (decide (endK p = []) || Op.bytesLess a (endK p)) && (decide (t = []) || Op.bytesLess p t)
theorem endK_len (l : List UInt8) : (endK l).length = l.length := by
  unfold endK
  split
  · rename_i h; simp [h]
  · rename_i h
    have := List.length_pos_iff.2 h
    simp; omega
theorem ref_In (k a b : List UInt8) (w : World) (hlk : k.length ≤ 100000) (hla : a.length ≤ 100000) (hlb : b.length ≤ 100000) : Calls Tryd.prog 52 #[.string (bs k), .string (bs a), .string (bs b)] w fun e w' => e = .returned (.bool (inR k a b)) ∧ Below w.heap.size w w' := by
  refine calls_plain Tryd.func52 rfl Tryd.ntmps52 rfl ?_
  refine at_seq ?_
  refine at_region ?_
  refine at_do (does_assign rfl) rfl rfl ?_
  refine at_nil ?_
  refine at_then ?_
  refine at_seq ?_
  refine at_region ?_
  refine at_do (does_move rfl) rfl rfl ?_
  refine at_callv (f := 41) (enters_fn (by kernel_rfl) rfl) (fun w ho => ref_Is _ w (by omega)) rfl rfl ?_
  refine at_do (does_move rfl) rfl rfl ?_
  refine at_guard rfl rfl (fun z0 => ?_) (fun z0 => ?_)
  refine at_on rfl rfl ?_
  refine at_do (does_move rfl) rfl rfl ?_
  refine at_on rfl rfl ?_
  refine at_callv (f := 42) (enters_fn (by kernel_rfl) rfl) (fun w ho => ref_Pattern _ w (by omega)) rfl rfl ?_
  refine at_do (does_pick_true rfl rfl) rfl rfl ?_
  refine at_do (does_move rfl) rfl rfl ?_
  refine at_guard rfl rfl (fun z1 => ?_) (fun z1 => ?_)
  refine at_on rfl rfl ?_
  refine at_do (does_move rfl) rfl rfl ?_
  refine at_on rfl rfl ?_
  refine at_callv (f := 42) (enters_fn (by kernel_rfl) rfl) (fun w ho => ref_Pattern _ w (by omega)) rfl rfl ?_
  refine at_do (does_pick_true rfl rfl) rfl rfl ?_
  refine at_do (does_move rfl) rfl rfl ?_
  refine at_guard rfl rfl (fun z2 => ?_) (fun z2 => ?_)
  refine at_on rfl rfl ?_
  refine at_do (does_move rfl) rfl rfl ?_
  refine at_on rfl rfl ?_
  refine at_do (does_move rfl) rfl rfl ?_
  refine at_on rfl rfl ?_
  refine at_callv (f := 80) (enters_fn (by kernel_rfl) rfl) (fun w ho => ref_Ahead _ _ w (by omega) (by omega)) rfl rfl ?_
  refine at_on rfl rfl ?_
  refine at_do (does_not rfl) rfl rfl ?_
  refine at_do (does_pick_true rfl rfl) rfl rfl ?_
  refine at_do (does_move rfl) rfl rfl ?_
  refine at_guardN rfl rfl (fun z3 => ?_) (fun z3 => ?_)
  refine at_on rfl rfl ?_
  refine at_do (does_move rfl) rfl rfl ?_
  refine at_on rfl rfl ?_
  refine at_do (does_seql rfl rfl) rfl rfl ?_
  refine at_on rfl rfl ?_
  refine at_do (does_move rfl) rfl rfl ?_
  refine at_guardD rfl rfl (fun z4 => ?_) (fun z4 => ?_)
  refine at_no rfl rfl rfl rfl ?_
  refine at_no rfl rfl rfl rfl ?_
  refine at_no rfl rfl rfl rfl ?_
  refine at_on rfl rfl ?_
  refine at_do (does_pick_true rfl rfl) rfl rfl ?_
  refine at_do (does_pick_true rfl rfl) rfl rfl ?_
  refine at_do (does_assign rfl) rfl rfl ?_
  refine at_nil ?_
  refine at_then ?_
  refine at_ret ?_
  refine at_ret1 rfl rfl rfl (fun w9 ho9 => ?_)
  rotate_left
  refine at_on rfl rfl ?_
  refine at_do (does_move rfl) rfl rfl ?_
  refine at_on rfl rfl ?_
  refine at_do (does_move rfl) rfl rfl ?_
  refine at_on rfl rfl ?_
  refine at_callv (f := 80) (enters_fn (by kernel_rfl) rfl) (fun w ho => ref_Ahead _ _ w (by omega) (by omega)) rfl rfl ?_
  refine at_on rfl rfl ?_
  refine at_do (does_pick_false rfl rfl) rfl rfl ?_
  refine at_do (does_pick_true rfl rfl) rfl rfl ?_
  refine at_do (does_assign rfl) rfl rfl ?_
  refine at_nil ?_
  refine at_then ?_
  refine at_ret ?_
  refine at_ret1 rfl rfl rfl (fun w9 ho9 => ?_)
  rotate_left
  refine at_no rfl rfl rfl rfl ?_
  refine at_no rfl rfl rfl rfl ?_
  refine at_no rfl rfl rfl rfl ?_
  refine at_no rfl rfl rfl rfl ?_
  refine at_no rfl rfl rfl rfl ?_
  refine at_no rfl rfl rfl rfl ?_
  refine at_no rfl rfl rfl rfl ?_
  refine at_do (does_pick_false rfl rfl) rfl rfl ?_
  refine at_do (does_assign rfl) rfl rfl ?_
  refine at_nil ?_
  refine at_then ?_
  refine at_ret ?_
  refine at_ret1 rfl rfl rfl (fun w9 ho9 => ?_)
  rotate_left
  refine at_no rfl rfl rfl rfl ?_
  refine at_no rfl rfl rfl rfl ?_
  refine at_no rfl rfl rfl rfl ?_
  refine at_no rfl rfl rfl rfl ?_
  refine at_do (does_pick_false rfl rfl) rfl rfl ?_
  refine at_do (does_move rfl) rfl rfl ?_
  refine at_no rfl rfl rfl rfl ?_
  refine at_no rfl rfl rfl rfl ?_
  refine at_no rfl rfl rfl rfl ?_
  refine at_no rfl rfl rfl rfl ?_
  refine at_no rfl rfl rfl rfl ?_
  refine at_no rfl rfl rfl rfl ?_
  refine at_no rfl rfl rfl rfl ?_
  refine at_do (does_pick_false rfl rfl) rfl rfl ?_
  refine at_do (does_assign rfl) rfl rfl ?_
  refine at_nil ?_
  refine at_then ?_
  refine at_ret ?_
  refine at_ret1 rfl rfl rfl (fun w9 ho9 => ?_)
  rotate_left
  refine at_no rfl rfl rfl rfl ?_
  refine at_no rfl rfl rfl rfl ?_
  refine at_do (does_pick_false rfl rfl) rfl rfl ?_
  refine at_do (does_move rfl) rfl rfl ?_
  refine at_no rfl rfl rfl rfl ?_
  refine at_no rfl rfl rfl rfl ?_
  refine at_no rfl rfl rfl rfl ?_
  refine at_no rfl rfl rfl rfl ?_
  refine at_do (does_pick_false rfl rfl) rfl rfl ?_
  refine at_do (does_move rfl) rfl rfl ?_
  refine at_no rfl rfl rfl rfl ?_
  refine at_no rfl rfl rfl rfl ?_
  refine at_no rfl rfl rfl rfl ?_
  refine at_no rfl rfl rfl rfl ?_
  refine at_no rfl rfl rfl rfl ?_
  refine at_no rfl rfl rfl rfl ?_
  refine at_no rfl rfl rfl rfl ?_
  refine at_do (does_pick_false rfl rfl) rfl rfl ?_
  refine at_do (does_assign rfl) rfl rfl ?_
  refine at_nil ?_
  refine at_then ?_
  refine at_ret ?_
  refine at_ret1 rfl rfl rfl (fun w9 ho9 => ?_)
  rotate_left
  refine at_no rfl rfl rfl rfl ?_
  refine at_no rfl rfl rfl rfl ?_
  refine at_do (does_pick_false rfl rfl) rfl rfl ?_
  refine at_do (does_move rfl) rfl rfl ?_
  refine at_no rfl rfl rfl rfl ?_
  refine at_no rfl rfl rfl rfl ?_
  refine at_do (does_pick_false rfl rfl) rfl rfl ?_
  refine at_do (does_move rfl) rfl rfl ?_
  refine at_no rfl rfl rfl rfl ?_
  refine at_no rfl rfl rfl rfl ?_
  refine at_no rfl rfl rfl rfl ?_
  refine at_no rfl rfl rfl rfl ?_
  refine at_do (does_pick_false rfl rfl) rfl rfl ?_
  refine at_do (does_move rfl) rfl rfl ?_
  refine at_no rfl rfl rfl rfl ?_
  refine at_no rfl rfl rfl rfl ?_
  refine at_no rfl rfl rfl rfl ?_
  refine at_no rfl rfl rfl rfl ?_
  refine at_no rfl rfl rfl rfl ?_
  refine at_no rfl rfl rfl rfl ?_
  refine at_no rfl rfl rfl rfl ?_
  refine at_do (does_pick_false rfl rfl) rfl rfl ?_
  refine at_do (does_assign rfl) rfl rfl ?_
  refine at_nil ?_
  refine at_then ?_
  refine at_ret ?_
  refine at_ret1 rfl rfl rfl (fun w9 ho9 => ?_)
  rotate_left
  all_goals
    refine ⟨ret_bool ?_, ho9.plain⟩
    simp_all [inR]
theorem key_Range (p : List UInt8) (w : World) (hG : Glob w) (hl : p.length ≤ 100000) : Calls Tryd.prog 49 #[.string (bs p)] w fun e w' => e = .returned (if keyOk p then .tuple #[.string (bs p), .string (bs (endK p)), .int .i64 0] else .tuple #[.string (bs []), .string (bs []), .int .i64 3]) ∧ Below w.heap.size w w' := by
  refine calls_plain Tryd.func49 rfl Tryd.ntmps49 rfl ?_
  refine at_seq ?_
  refine at_region ?_
  refine at_do (does_assign rfl) rfl rfl ?_
  refine at_do (does_assign rfl) rfl rfl ?_
  refine at_do (does_assign rfl) rfl rfl ?_
  refine at_nil ?_
  refine at_then ?_
  refine at_seq ?_
  refine at_seq ?_
  refine at_region ?_
  refine at_do (does_move rfl) rfl rfl ?_
  refine at_callv (f := 45) (enters_fn (by kernel_rfl) rfl) (fun w ho => key_Pattern _ w (ho.glob hG id)) rfl rfl ?_
  refine at_do (does_not rfl) rfl rfl ?_
  refine at_nil ?_
  refine at_then ?_
  refine at_condN rfl (fun z0 => ?_) (fun z0 => ?_)
  refine at_seq ?_
  refine at_region ?_
  refine at_do (does_assign rfl) rfl rfl ?_
  refine at_do (does_assign rfl) rfl rfl ?_
  refine at_do (does_assign rfl) rfl rfl ?_
  refine at_nil ?_
  refine at_then ?_
  refine at_ret ?_
  refine at_then_ret ?_
  refine at_ret3 rfl rfl rfl rfl rfl (fun w9 ho9 => ?_)
  rotate_left
  refine at_skip ?_
  refine at_then ?_
  refine at_seq ?_
  refine at_region ?_
  refine at_do (does_move rfl) rfl rfl ?_
  refine at_do (does_move rfl) rfl rfl ?_
  refine at_callv (f := 79) (enters_fn (by kernel_rfl) rfl) (fun w ho => key_end _ w hl) rfl rfl ?_
  refine at_do (does_assign rfl) rfl rfl ?_
  refine at_do (does_assign rfl) rfl rfl ?_
  refine at_do (does_assign rfl) rfl rfl ?_
  refine at_nil ?_
  refine at_then ?_
  refine at_ret ?_
  refine at_ret3 rfl rfl rfl rfl rfl (fun w9 ho9 => ?_)
  rotate_left
  · exact ⟨by rw [if_neg (by simp [z0])]; rfl, ho9.plain⟩
  · exact ⟨by rw [if_pos (by simp [z0])], ho9.plain⟩
theorem key_Overlap (a t p : List UInt8) (w : World) (hG : Glob w) (hlt : t.length ≤ 100000) (hlp : p.length ≤ 100000) : Calls Tryd.prog 55 #[.string (bs a), .string (bs t), .string (bs p)] w fun e w' => e = .returned (.bool (overK a t p)) ∧ Below w.heap.size w w' := by
  refine calls_plain Tryd.func55 rfl Tryd.ntmps55 rfl ?_
  refine at_seq ?_
  refine at_region ?_
  refine at_do (does_assign rfl) rfl rfl ?_
  refine at_nil ?_
  refine at_then ?_
  refine at_seq ?_
  refine at_seq ?_
  refine at_region ?_
  refine at_do (does_move rfl) rfl rfl ?_
  refine at_callv (f := 45) (enters_fn (by kernel_rfl) rfl) (fun w ho => key_Pattern _ w (ho.glob hG id)) rfl rfl ?_
  refine at_do (does_not rfl) rfl rfl ?_
  refine at_do (does_move rfl) rfl rfl ?_
  refine at_guardN rfl rfl (fun z0 => ?_) (fun z0 => ?_)
  refine at_no rfl rfl rfl rfl ?_
  refine at_no rfl rfl rfl rfl ?_
  refine at_no rfl rfl rfl rfl ?_
  refine at_do (does_pick_true rfl rfl) rfl rfl ?_
  refine at_do (does_move rfl) rfl rfl ?_
  refine at_no rfl rfl rfl rfl ?_
  refine at_no rfl rfl rfl rfl ?_
  refine at_no rfl rfl rfl rfl ?_
  refine at_do (does_pick_true rfl rfl) rfl rfl ?_
  refine at_nil ?_
  refine at_then ?_
  refine at_cond_true rfl ?_
  refine at_seq ?_
  refine at_region ?_
  refine at_do (does_assign rfl) rfl rfl ?_
  refine at_nil ?_
  refine at_then ?_
  refine at_ret ?_
  refine at_then_ret ?_
  refine at_ret1 rfl rfl rfl (fun w9 ho9 => ?_)
  rotate_left
  refine at_on rfl rfl ?_
  refine at_do (does_move rfl) rfl rfl ?_
  refine at_on rfl rfl ?_
  refine at_callv (f := 81) (enters_fn (by kernel_rfl) rfl) (fun w ho => key_stop _ w (ho.glob hG id) hlt) rfl rfl ?_
  refine at_on rfl rfl ?_
  refine at_do (does_not rfl) rfl rfl ?_
  refine at_do (does_pick_false rfl rfl) rfl rfl ?_
  refine at_do (does_move rfl) rfl rfl ?_
  refine at_guardN rfl rfl (fun z1 => ?_) (fun z1 => ?_)
  refine at_no rfl rfl rfl rfl ?_
  refine at_no rfl rfl rfl rfl ?_
  refine at_no rfl rfl rfl rfl ?_
  refine at_do (does_pick_true rfl rfl) rfl rfl ?_
  refine at_nil ?_
  refine at_then ?_
  refine at_cond_true rfl ?_
  refine at_seq ?_
  refine at_region ?_
  refine at_do (does_assign rfl) rfl rfl ?_
  refine at_nil ?_
  refine at_then ?_
  refine at_ret ?_
  refine at_then_ret ?_
  refine at_ret1 rfl rfl rfl (fun w9 ho9 => ?_)
  rotate_left
  refine at_on rfl rfl ?_
  refine at_do (does_move rfl) rfl rfl ?_
  refine at_on rfl rfl ?_
  refine at_callv (f := 45) (enters_fn (by kernel_rfl) rfl) (fun w ho => key_Pattern _ w (ho.glob hG id)) rfl rfl ?_
  refine at_on rfl rfl ?_
  refine at_do (does_not rfl) rfl rfl ?_
  refine at_do (does_pick_false rfl rfl) rfl rfl ?_
  refine at_nil ?_
  refine at_then ?_
  refine at_condN rfl (fun z2 => ?_) (fun z2 => ?_)
  refine at_seq ?_
  refine at_region ?_
  refine at_do (does_assign rfl) rfl rfl ?_
  refine at_nil ?_
  refine at_then ?_
  refine at_ret ?_
  refine at_then_ret ?_
  refine at_ret1 rfl rfl rfl (fun w9 ho9 => ?_)
  rotate_left
  refine at_skip ?_
  refine at_then ?_
  refine at_seq ?_
  refine at_region ?_
  refine at_do (does_move rfl) rfl rfl ?_
  refine at_callv (f := 79) (enters_fn (by kernel_rfl) rfl) (fun w ho => key_end _ w hlp) rfl rfl ?_
  refine at_do (does_assign rfl) rfl rfl ?_
  refine at_nil ?_
  refine at_then ?_
  refine at_seq ?_
  refine at_region ?_
  refine at_do (does_move rfl) rfl rfl ?_
  refine at_do (does_seql rfl rfl) rfl rfl ?_
  refine at_do (does_move rfl) rfl rfl ?_
  refine at_guardD rfl rfl (fun z3 => ?_) (fun z3 => ?_)
  refine at_no rfl rfl rfl rfl ?_
  refine at_no rfl rfl rfl rfl ?_
  refine at_no rfl rfl rfl rfl ?_
  refine at_do (does_pick_true rfl rfl) rfl rfl ?_
  refine at_do (does_move rfl) rfl rfl ?_
  refine at_on rfl rfl ?_
  refine at_do (does_move rfl) rfl rfl ?_
  refine at_on rfl rfl ?_
  refine at_do (does_seql rfl rfl) rfl rfl ?_
  refine at_on rfl rfl ?_
  refine at_do (does_move rfl) rfl rfl ?_
  refine at_guardD rfl rfl (fun z4 => ?_) (fun z4 => ?_)
  refine at_no rfl rfl rfl rfl ?_
  refine at_no rfl rfl rfl rfl ?_
  refine at_no rfl rfl rfl rfl ?_
  refine at_on rfl rfl ?_
  refine at_do (does_pick_true rfl rfl) rfl rfl ?_
  refine at_do (does_pick_true rfl rfl) rfl rfl ?_
  refine at_do (does_assign rfl) rfl rfl ?_
  refine at_nil ?_
  refine at_then ?_
  refine at_ret ?_
  refine at_ret1 rfl rfl rfl (fun w9 ho9 => ?_)
  rotate_left
  refine at_on rfl rfl ?_
  refine at_do (does_move rfl) rfl rfl ?_
  refine at_on rfl rfl ?_
  refine at_do (does_move rfl) rfl rfl ?_
  refine at_on rfl rfl ?_
  refine at_do (does_slss rfl rfl) rfl rfl ?_
  refine at_on rfl rfl ?_
  refine at_do (does_pick_false rfl rfl) rfl rfl ?_
  refine at_do (does_pick_true rfl rfl) rfl rfl ?_
  refine at_do (does_assign rfl) rfl rfl ?_
  refine at_nil ?_
  refine at_then ?_
  refine at_ret ?_
  refine at_ret1 rfl rfl rfl (fun w9 ho9 => ?_)
  rotate_left
  refine at_on rfl rfl ?_
  refine at_do (does_move rfl) rfl rfl ?_
  refine at_on rfl rfl ?_
  refine at_do (does_move rfl) rfl rfl ?_
  refine at_on rfl rfl ?_
  refine at_do (does_sgtr rfl rfl) rfl rfl ?_
  refine at_do (does_pick_false rfl rfl) rfl rfl ?_
  refine at_do (does_move rfl) rfl rfl ?_
  refine at_guardN rfl rfl (fun z5 => ?_) (fun z5 => ?_)
  refine at_on rfl rfl ?_
  refine at_do (does_move rfl) rfl rfl ?_
  refine at_on rfl rfl ?_
  refine at_do (does_seql rfl rfl) rfl rfl ?_
  refine at_on rfl rfl ?_
  refine at_do (does_move rfl) rfl rfl ?_
  refine at_guardD rfl rfl (fun z6 => ?_) (fun z6 => ?_)
  refine at_no rfl rfl rfl rfl ?_
  refine at_no rfl rfl rfl rfl ?_
  refine at_no rfl rfl rfl rfl ?_
  refine at_on rfl rfl ?_
  refine at_do (does_pick_true rfl rfl) rfl rfl ?_
  refine at_do (does_pick_true rfl rfl) rfl rfl ?_
  refine at_do (does_assign rfl) rfl rfl ?_
  refine at_nil ?_
  refine at_then ?_
  refine at_ret ?_
  refine at_ret1 rfl rfl rfl (fun w9 ho9 => ?_)
  rotate_left
  refine at_on rfl rfl ?_
  refine at_do (does_move rfl) rfl rfl ?_
  refine at_on rfl rfl ?_
  refine at_do (does_move rfl) rfl rfl ?_
  refine at_on rfl rfl ?_
  refine at_do (does_slss rfl rfl) rfl rfl ?_
  refine at_on rfl rfl ?_
  refine at_do (does_pick_false rfl rfl) rfl rfl ?_
  refine at_do (does_pick_true rfl rfl) rfl rfl ?_
  refine at_do (does_assign rfl) rfl rfl ?_
  refine at_nil ?_
  refine at_then ?_
  refine at_ret ?_
  refine at_ret1 rfl rfl rfl (fun w9 ho9 => ?_)
  rotate_left
  refine at_no rfl rfl rfl rfl ?_
  refine at_no rfl rfl rfl rfl ?_
  refine at_no rfl rfl rfl rfl ?_
  refine at_no rfl rfl rfl rfl ?_
  refine at_no rfl rfl rfl rfl ?_
  refine at_no rfl rfl rfl rfl ?_
  refine at_no rfl rfl rfl rfl ?_
  refine at_do (does_pick_false rfl rfl) rfl rfl ?_
  refine at_do (does_assign rfl) rfl rfl ?_
  refine at_nil ?_
  refine at_then ?_
  refine at_ret ?_
  refine at_ret1 rfl rfl rfl (fun w9 ho9 => ?_)
  rotate_left
  all_goals
    refine ⟨ret_bool ?_, ho9.plain⟩
    have hz := less_tot a (endK p)
    generalize (Op.bytesLess (endK p) a || decide (endK p = a)) = q at *
    simp_all [overK]
theorem ref_Overlap (a t p : List UInt8) (w : World) (hla : a.length ≤ 100000) (hlt : t.length ≤ 100000) (hlp : p.length ≤ 100000) : Calls Tryd.prog 56 #[.string (bs a), .string (bs t), .string (bs p)] w fun e w' => e = .returned (.bool (overK a t p)) ∧ Below w.heap.size w w' := by
  have he := endK_len p
  refine calls_plain Tryd.func56 rfl Tryd.ntmps56 rfl ?_
  refine at_seq ?_
  refine at_region ?_
  refine at_do (does_assign rfl) rfl rfl ?_
  refine at_nil ?_
  refine at_then ?_
  refine at_seq ?_
  refine at_seq ?_
  refine at_region ?_
  refine at_do (does_move rfl) rfl rfl ?_
  refine at_callv (f := 42) (enters_fn (by kernel_rfl) rfl) (fun w ho => ref_Pattern _ w (by omega)) rfl rfl ?_
  refine at_do (does_not rfl) rfl rfl ?_
  refine at_do (does_move rfl) rfl rfl ?_
  refine at_guardN rfl rfl (fun z0 => ?_) (fun z0 => ?_)
  refine at_no rfl rfl rfl rfl ?_
  refine at_no rfl rfl rfl rfl ?_
  refine at_no rfl rfl rfl rfl ?_
  refine at_do (does_pick_true rfl rfl) rfl rfl ?_
  refine at_do (does_move rfl) rfl rfl ?_
  refine at_no rfl rfl rfl rfl ?_
  refine at_no rfl rfl rfl rfl ?_
  refine at_no rfl rfl rfl rfl ?_
  refine at_do (does_pick_true rfl rfl) rfl rfl ?_
  refine at_nil ?_
  refine at_then ?_
  refine at_cond_true rfl ?_
  refine at_seq ?_
  refine at_region ?_
  refine at_do (does_assign rfl) rfl rfl ?_
  refine at_nil ?_
  refine at_then ?_
  refine at_ret ?_
  refine at_then_ret ?_
  refine at_ret1 rfl rfl rfl (fun w9 ho9 => ?_)
  rotate_left
  refine at_on rfl rfl ?_
  refine at_do (does_move rfl) rfl rfl ?_
  refine at_on rfl rfl ?_
  refine at_callv (f := 82) (enters_fn (by kernel_rfl) rfl) (fun w ho => ref_Stop _ w hlt) rfl rfl ?_
  refine at_on rfl rfl ?_
  refine at_do (does_not rfl) rfl rfl ?_
  refine at_do (does_pick_false rfl rfl) rfl rfl ?_
  refine at_do (does_move rfl) rfl rfl ?_
  refine at_guardN rfl rfl (fun z1 => ?_) (fun z1 => ?_)
  refine at_no rfl rfl rfl rfl ?_
  refine at_no rfl rfl rfl rfl ?_
  refine at_no rfl rfl rfl rfl ?_
  refine at_do (does_pick_true rfl rfl) rfl rfl ?_
  refine at_nil ?_
  refine at_then ?_
  refine at_cond_true rfl ?_
  refine at_seq ?_
  refine at_region ?_
  refine at_do (does_assign rfl) rfl rfl ?_
  refine at_nil ?_
  refine at_then ?_
  refine at_ret ?_
  refine at_then_ret ?_
  refine at_ret1 rfl rfl rfl (fun w9 ho9 => ?_)
  rotate_left
  refine at_on rfl rfl ?_
  refine at_do (does_move rfl) rfl rfl ?_
  refine at_on rfl rfl ?_
  refine at_callv (f := 42) (enters_fn (by kernel_rfl) rfl) (fun w ho => ref_Pattern _ w (by omega)) rfl rfl ?_
  refine at_on rfl rfl ?_
  refine at_do (does_not rfl) rfl rfl ?_
  refine at_do (does_pick_false rfl rfl) rfl rfl ?_
  refine at_nil ?_
  refine at_then ?_
  refine at_condN rfl (fun z2 => ?_) (fun z2 => ?_)
  refine at_seq ?_
  refine at_region ?_
  refine at_do (does_assign rfl) rfl rfl ?_
  refine at_nil ?_
  refine at_then ?_
  refine at_ret ?_
  refine at_then_ret ?_
  refine at_ret1 rfl rfl rfl (fun w9 ho9 => ?_)
  rotate_left
  refine at_skip ?_
  refine at_then ?_
  refine at_seq ?_
  refine at_region ?_
  refine at_do (does_move rfl) rfl rfl ?_
  refine at_callv (f := 50) (enters_fn (by kernel_rfl) rfl) (fun w ho => ref_End _ w (by omega)) rfl rfl ?_
  refine at_do (does_assign rfl) rfl rfl ?_
  refine at_nil ?_
  refine at_then ?_
  refine at_seq ?_
  refine at_region ?_
  refine at_do (does_move rfl) rfl rfl ?_
  refine at_do (does_seql rfl rfl) rfl rfl ?_
  refine at_do (does_move rfl) rfl rfl ?_
  refine at_guardD rfl rfl (fun z3 => ?_) (fun z3 => ?_)
  refine at_no rfl rfl rfl rfl ?_
  refine at_no rfl rfl rfl rfl ?_
  refine at_no rfl rfl rfl rfl ?_
  refine at_do (does_pick_true rfl rfl) rfl rfl ?_
  refine at_do (does_move rfl) rfl rfl ?_
  refine at_on rfl rfl ?_
  refine at_do (does_move rfl) rfl rfl ?_
  refine at_on rfl rfl ?_
  refine at_do (does_seql rfl rfl) rfl rfl ?_
  refine at_on rfl rfl ?_
  refine at_do (does_move rfl) rfl rfl ?_
  refine at_guardD rfl rfl (fun z4 => ?_) (fun z4 => ?_)
  refine at_no rfl rfl rfl rfl ?_
  refine at_no rfl rfl rfl rfl ?_
  refine at_no rfl rfl rfl rfl ?_
  refine at_on rfl rfl ?_
  refine at_do (does_pick_true rfl rfl) rfl rfl ?_
  refine at_do (does_pick_true rfl rfl) rfl rfl ?_
  refine at_do (does_assign rfl) rfl rfl ?_
  refine at_nil ?_
  refine at_then ?_
  refine at_ret ?_
  refine at_ret1 rfl rfl rfl (fun w9 ho9 => ?_)
  rotate_left
  refine at_on rfl rfl ?_
  refine at_do (does_move rfl) rfl rfl ?_
  refine at_on rfl rfl ?_
  refine at_do (does_move rfl) rfl rfl ?_
  refine at_on rfl rfl ?_
  refine at_callv (f := 80) (enters_fn (by kernel_rfl) rfl) (fun w ho => ref_Ahead _ _ w (by omega) (by omega)) rfl rfl ?_
  refine at_on rfl rfl ?_
  refine at_do (does_pick_false rfl rfl) rfl rfl ?_
  refine at_do (does_pick_true rfl rfl) rfl rfl ?_
  refine at_do (does_assign rfl) rfl rfl ?_
  refine at_nil ?_
  refine at_then ?_
  refine at_ret ?_
  refine at_ret1 rfl rfl rfl (fun w9 ho9 => ?_)
  rotate_left
  refine at_on rfl rfl ?_
  refine at_do (does_move rfl) rfl rfl ?_
  refine at_on rfl rfl ?_
  refine at_do (does_move rfl) rfl rfl ?_
  refine at_on rfl rfl ?_
  refine at_callv (f := 80) (enters_fn (by kernel_rfl) rfl) (fun w ho => ref_Ahead _ _ w (by omega) (by omega)) rfl rfl ?_
  refine at_do (does_pick_false rfl rfl) rfl rfl ?_
  refine at_do (does_move rfl) rfl rfl ?_
  refine at_guard rfl rfl (fun z5 => ?_) (fun z5 => ?_)
  refine at_on rfl rfl ?_
  refine at_do (does_move rfl) rfl rfl ?_
  refine at_on rfl rfl ?_
  refine at_do (does_seql rfl rfl) rfl rfl ?_
  refine at_on rfl rfl ?_
  refine at_do (does_move rfl) rfl rfl ?_
  refine at_guardD rfl rfl (fun z6 => ?_) (fun z6 => ?_)
  refine at_no rfl rfl rfl rfl ?_
  refine at_no rfl rfl rfl rfl ?_
  refine at_no rfl rfl rfl rfl ?_
  refine at_on rfl rfl ?_
  refine at_do (does_pick_true rfl rfl) rfl rfl ?_
  refine at_do (does_pick_true rfl rfl) rfl rfl ?_
  refine at_do (does_assign rfl) rfl rfl ?_
  refine at_nil ?_
  refine at_then ?_
  refine at_ret ?_
  refine at_ret1 rfl rfl rfl (fun w9 ho9 => ?_)
  rotate_left
  refine at_on rfl rfl ?_
  refine at_do (does_move rfl) rfl rfl ?_
  refine at_on rfl rfl ?_
  refine at_do (does_move rfl) rfl rfl ?_
  refine at_on rfl rfl ?_
  refine at_callv (f := 80) (enters_fn (by kernel_rfl) rfl) (fun w ho => ref_Ahead _ _ w (by omega) (by omega)) rfl rfl ?_
  refine at_on rfl rfl ?_
  refine at_do (does_pick_false rfl rfl) rfl rfl ?_
  refine at_do (does_pick_true rfl rfl) rfl rfl ?_
  refine at_do (does_assign rfl) rfl rfl ?_
  refine at_nil ?_
  refine at_then ?_
  refine at_ret ?_
  refine at_ret1 rfl rfl rfl (fun w9 ho9 => ?_)
  rotate_left
  refine at_no rfl rfl rfl rfl ?_
  refine at_no rfl rfl rfl rfl ?_
  refine at_no rfl rfl rfl rfl ?_
  refine at_no rfl rfl rfl rfl ?_
  refine at_no rfl rfl rfl rfl ?_
  refine at_no rfl rfl rfl rfl ?_
  refine at_no rfl rfl rfl rfl ?_
  refine at_do (does_pick_false rfl rfl) rfl rfl ?_
  refine at_do (does_assign rfl) rfl rfl ?_
  refine at_nil ?_
  refine at_then ?_
  refine at_ret ?_
  refine at_ret1 rfl rfl rfl (fun w9 ho9 => ?_)
  rotate_left
  all_goals
    refine ⟨ret_bool ?_, ho9.plain⟩
    simp_all [overK]
end Go.Proofs.YtchfecmabhfooaaDoor
