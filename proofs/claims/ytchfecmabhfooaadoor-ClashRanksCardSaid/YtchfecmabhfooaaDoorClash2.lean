/-
  Whether a want may be. No condition of its own.
-/
import Derived.Test.YtchfecmabhfooaaDoorClash1
set_option linter.unusedSimpArgs false
set_option linter.unusedVariables false
namespace Go.Proofs.YtchfecmabhfooaaDoor
open Go.RowKit
attribute [local irreducible] cwp lwp Exit.then Exit.inBlock Exit.noGoto wpQuiet Calls fin At AtQ Again endQ RQ

abbrev badFn : Value := .func (.func 85) #[] #[]
theorem may_bad (s : List UInt8) (w : World) (hG : Glob w) : Calls Tryd.prog 85 #[.string (bs s)] w fun e w' => e = .returned (.bool (!keyOk s)) ∧ Below w.heap.size w w' := by
  refine calls_plain Tryd.func85 rfl Tryd.ntmps85 rfl ?_
  refine at_seq ?_
  refine at_region ?_
  refine at_do (does_assign rfl) rfl rfl ?_
  refine at_nil ?_
  refine at_then ?_
  refine at_seq ?_
  refine at_region ?_
  refine at_do (does_move rfl) rfl rfl ?_
  refine at_callv (f := 45) (enters_fn (by kernel_rfl) rfl) (fun w ho => key_Pattern s w (ho.glob hG id)) rfl rfl ?_
  refine at_do (does_not rfl) rfl rfl ?_
  refine at_do (does_assign rfl) rfl rfl ?_
  refine at_nil ?_
  refine at_then ?_
  refine at_ret ?_
  refine at_ret1 rfl rfl rfl (fun w9 ho9 => ?_)
  rotate_left
  exact ⟨rfl, ho9.plain⟩
theorem idx_ok (arg : Value) (L : List (List UInt8)) (w : World) (hG : Glob w) (hV : ValsAt w arg (strs L)) (hS : Short L) (h : okL L = true) :
    Calls Tryd.prog 100 #[arg, badFn] w fun e w' => e = .returned (.int .i64 (-1)) ∧ Below w.heap.size w w' := by
  have hl := strs_len L
  have hS1 := hS.1
  have hall : ∀ i (hi : i < L.length), keyOk L[i] = true := fun i hi => List.all_eq_true.1 h _ (List.getElem_mem hi)
  obtain ⟨A0, c0, rfl⟩ := hV.len
  refine calls_plain Tryd.func100 rfl Tryd.ntmps100 rfl ?_
  refine at_seq ?_
  refine at_region ?_
  refine at_do (does_assign rfl) rfl rfl ?_
  refine at_nil ?_
  refine at_then ?_
  refine at_seq ?_
  refine at_seq ?_
  refine at_region ?_
  refine at_do (does_move rfl) rfl rfl ?_
  refine at_do (does_len (by kernel_rfl) rfl) rfl rfl ?_
  refine at_do (does_move rfl) rfl rfl ?_
  refine at_nil ?_
  refine at_then ?_
  refine at_block ?_
  rotate_left
  refine at_loop0 (fun i : Nat => i ≤ L.length) (fun i => [(0, .slice A0 (strs L).length c0), (1, badFn), (7, .int .i64 (strs L).length), (8, .int .i64 i)]) (fun i => L.length - i) 0 (Nat.zero_le _) ⟨rfl, rfl, rfl, rfl, trivial⟩ ?_
  rintro i hi
  by_cases hil : i < L.length
  · obtain ⟨gb, o, c, hv, hc, hlt, hcell⟩ := hV.form (by omega)
    simp only [Value.slice.injEq, true_and] at hv
    obtain ⟨rfl, rfl⟩ := hv
    have hci := hcell i _ (strs_get hil)
    have hk := hall i hil
    generalize L[i] = x at hci hk
    refine at_seq ?_
    refine at_region ?_
    refine at_do (does_lss rfl rfl) rfl rfl ?_
    refine at_nil ?_
    refine at_then ?_
    refine at_seq ?_
    refine at_cond_t rfl (decide_eq_true (by omega)) ?_
    refine at_skip ?_
    refine at_then ?_
    refine at_seq ?_
    refine at_block ?_
    refine at_seq ?_
    refine at_region ?_
    refine at_do (does_move rfl) rfl rfl ?_
    refine at_do (does_assign rfl) rfl rfl ?_
    refine at_nil ?_
    refine at_then ?_
    refine at_seq ?_
    refine at_region ?_
    refine at_do (does_move rfl) rfl rfl ?_
    refine at_do (does_move rfl) rfl rfl ?_
    refine at_do (does_move rfl) rfl rfl ?_
    refine at_do (does_indexAddr1 (by kernel_rfl) rfl rfl (by omega)) rfl rfl ?_
    refine at_do (does_load_mem (by kernel_rfl) rfl (fun w' ho => Below.cellOld ho.plain hci)) rfl rfl ?_
    refine at_callv (f := 85) (enters_val rfl (by kernel_rfl) rfl) (fun w ho => may_bad x w (ho.glob hG id)) rfl rfl ?_
    refine at_nil ?_
    refine at_then ?_
    refine at_cond_f rfl (by (rw [hk]; rfl)) ?_
    refine at_skip ?_
    refine at_inb ?_
    refine at_then ?_
    refine at_region ?_
    refine at_do (does_addi rfl rfl (by omega)) rfl rfl ?_
    refine at_do (does_move rfl) rfl rfl ?_
    refine at_nil ?_
    refine at_then ?_
    rotate_left
    refine at_again0 (i + 1) (by omega) (by omega) ⟨rfl, rfl, rfl, rfl, trivial⟩
  · obtain rfl : i = L.length := by omega
    refine at_seq ?_
    refine at_region ?_
    refine at_do (does_lss rfl rfl) rfl rfl ?_
    refine at_nil ?_
    refine at_then ?_
    refine at_seq ?_
    refine at_cond_f rfl (decide_eq_false (by omega)) ?_
    refine at_exit ?_
    refine at_then_exit ?_
    refine at_then_exit ?_
    refine at_inb_here ?_
    refine at_then ?_
    refine at_seq ?_
    refine at_region ?_
    refine at_do (does_assign rfl) rfl rfl ?_
    refine at_nil ?_
    refine at_then ?_
    refine at_ret ?_
    refine at_ret1 rfl rfl rfl (fun w9 ho9 => ?_)
    rotate_left
    exact ⟨rfl, ho9.plain⟩
theorem idx_bad (arg : Value) (L : List (List UInt8)) (w : World) (hG : Glob w) (hV : ValsAt w arg (strs L)) (hS : Short L) (h : okL L = false) :
    Calls Tryd.prog 100 #[arg, badFn] w fun e w' => ∃ v, e = .returned v ∧ Below w.heap.size w w' ∧ ∃ n : Nat, v = .int .i64 (n : Int) := by
  have hl := strs_len L
  have hS1 := hS.1
  obtain ⟨A0, c0, rfl⟩ := hV.len
  refine calls_plain Tryd.func100 rfl Tryd.ntmps100 rfl ?_
  refine at_seq ?_
  refine at_region ?_
  refine at_do (does_assign rfl) rfl rfl ?_
  refine at_nil ?_
  refine at_then ?_
  refine at_seq ?_
  refine at_seq ?_
  refine at_region ?_
  refine at_do (does_move rfl) rfl rfl ?_
  refine at_do (does_len (by kernel_rfl) rfl) rfl rfl ?_
  refine at_do (does_move rfl) rfl rfl ?_
  refine at_nil ?_
  refine at_then ?_
  refine at_block ?_
  rotate_left
  refine at_loop0 (fun i : Nat => i ≤ L.length ∧ (L.take i).all keyOk = true) (fun i => [(0, .slice A0 (strs L).length c0), (1, badFn), (7, .int .i64 (strs L).length), (8, .int .i64 i)]) (fun i => L.length - i) 0 ⟨Nat.zero_le _, rfl⟩ ⟨rfl, rfl, rfl, rfl, trivial⟩ ?_
  rintro i ⟨hi, hI⟩
  by_cases hil : i < L.length
  · obtain ⟨gb, o, c, hv, hc, hlt, hcell⟩ := hV.form (by omega)
    simp only [Value.slice.injEq, true_and] at hv
    obtain ⟨rfl, rfl⟩ := hv
    have hci := hcell i _ (strs_get hil)
    have hI2 := all_take (p := keyOk) hil
    generalize L[i] = x at hci hI2
    cases hk : keyOk x
    · refine at_seq ?_
      refine at_region ?_
      refine at_do (does_lss rfl rfl) rfl rfl ?_
      refine at_nil ?_
      refine at_then ?_
      refine at_seq ?_
      refine at_cond_t rfl (decide_eq_true (by omega)) ?_
      refine at_skip ?_
      refine at_then ?_
      refine at_seq ?_
      refine at_block ?_
      refine at_seq ?_
      refine at_region ?_
      refine at_do (does_move rfl) rfl rfl ?_
      refine at_do (does_assign rfl) rfl rfl ?_
      refine at_nil ?_
      refine at_then ?_
      refine at_seq ?_
      refine at_region ?_
      refine at_do (does_move rfl) rfl rfl ?_
      refine at_do (does_move rfl) rfl rfl ?_
      refine at_do (does_move rfl) rfl rfl ?_
      refine at_do (does_indexAddr1 (by kernel_rfl) rfl rfl (by omega)) rfl rfl ?_
      refine at_do (does_load_mem (by kernel_rfl) rfl (fun w' ho => Below.cellOld ho.plain hci)) rfl rfl ?_
      refine at_callv (f := 85) (enters_val rfl (by kernel_rfl) rfl) (fun w ho => may_bad x w (ho.glob hG id)) rfl rfl ?_
      refine at_nil ?_
      refine at_then ?_
      refine at_cond_t rfl (by (rw [hk]; rfl)) ?_
      refine at_seq ?_
      refine at_region ?_
      refine at_do (does_move rfl) rfl rfl ?_
      refine at_do (does_assign rfl) rfl rfl ?_
      refine at_nil ?_
      refine at_then ?_
      refine at_ret ?_
      refine at_inb_ret ?_
      refine at_then_ret ?_
      refine at_then_ret ?_
      refine at_inb_ret ?_
      refine at_then_ret ?_
      refine at_ret1 rfl rfl rfl (fun w9 ho9 => ?_)
      rotate_left
      exact ⟨_, rfl, ho9.plain, i, rfl⟩
    · refine at_seq ?_
      refine at_region ?_
      refine at_do (does_lss rfl rfl) rfl rfl ?_
      refine at_nil ?_
      refine at_then ?_
      refine at_seq ?_
      refine at_cond_t rfl (decide_eq_true (by omega)) ?_
      refine at_skip ?_
      refine at_then ?_
      refine at_seq ?_
      refine at_block ?_
      refine at_seq ?_
      refine at_region ?_
      refine at_do (does_move rfl) rfl rfl ?_
      refine at_do (does_assign rfl) rfl rfl ?_
      refine at_nil ?_
      refine at_then ?_
      refine at_seq ?_
      refine at_region ?_
      refine at_do (does_move rfl) rfl rfl ?_
      refine at_do (does_move rfl) rfl rfl ?_
      refine at_do (does_move rfl) rfl rfl ?_
      refine at_do (does_indexAddr1 (by kernel_rfl) rfl rfl (by omega)) rfl rfl ?_
      refine at_do (does_load_mem (by kernel_rfl) rfl (fun w' ho => Below.cellOld ho.plain hci)) rfl rfl ?_
      refine at_callv (f := 85) (enters_val rfl (by kernel_rfl) rfl) (fun w ho => may_bad x w (ho.glob hG id)) rfl rfl ?_
      refine at_nil ?_
      refine at_then ?_
      refine at_cond_f rfl (by (rw [hk]; rfl)) ?_
      refine at_skip ?_
      refine at_inb ?_
      refine at_then ?_
      refine at_region ?_
      refine at_do (does_addi rfl rfl (by omega)) rfl rfl ?_
      refine at_do (does_move rfl) rfl rfl ?_
      refine at_nil ?_
      refine at_then ?_
      rotate_left
      refine at_again0 (i + 1) ⟨by omega, by rw [hI2, hI, hk]; rfl⟩ (by omega) ⟨rfl, rfl, rfl, rfl, trivial⟩
  · obtain rfl : i = L.length := by omega
    rw [List.take_length] at hI
    exact absurd (hI.symm.trans h) (by simp)
theorem contains_bad (arg : Value) (L : List (List UInt8)) (w : World) (hG : Glob w) (hV : ValsAt w arg (strs L)) (hS : Short L) :
    Calls Tryd.prog 86 #[arg, badFn] w fun e w' => e = .returned (.bool (!okL L)) ∧ Below w.heap.size w w' := by
  refine calls_plain Tryd.func86 rfl Tryd.ntmps86 rfl ?_
  cases h : okL L
  · refine at_seq ?_
    refine at_region ?_
    refine at_do (does_assign rfl) rfl rfl ?_
    refine at_nil ?_
    refine at_then ?_
    refine at_seq ?_
    refine at_region ?_
    refine at_do (does_move rfl) rfl rfl ?_
    refine at_do (does_move rfl) rfl rfl ?_
    refine at_callk (f := 100) (Φ := fun v _ => ∃ n : Nat, v = .int .i64 (n : Int)) (enters_fn (by kernel_rfl) rfl) (fun w ho => idx_bad arg L w (ho.glob hG id) (ho.oldVals hV) hS h) rfl rfl (fun v w1 hw1 hv => ?_)
    rotate_left
    obtain ⟨n, rfl⟩ := hv
    refine at_do (does_geq rfl rfl) rfl rfl ?_
    refine at_do (does_assign rfl) rfl rfl ?_
    refine at_nil ?_
    refine at_then ?_
    refine at_ret ?_
    refine at_ret1 rfl rfl rfl (fun w9 ho9 => ?_)
    rotate_left
    exact ⟨ret_bool (decide_eq_true (Int.natCast_nonneg n)), ho9.plain⟩
  · refine at_seq ?_
    refine at_region ?_
    refine at_do (does_assign rfl) rfl rfl ?_
    refine at_nil ?_
    refine at_then ?_
    refine at_seq ?_
    refine at_region ?_
    refine at_do (does_move rfl) rfl rfl ?_
    refine at_do (does_move rfl) rfl rfl ?_
    refine at_callv (f := 100) (enters_fn (by kernel_rfl) rfl) (fun w ho => idx_ok arg L w (ho.glob hG id) (ho.oldVals hV) hS h) rfl rfl ?_
    refine at_do (does_geq rfl rfl) rfl rfl ?_
    refine at_do (does_assign rfl) rfl rfl ?_
    refine at_nil ?_
    refine at_then ?_
    refine at_ret ?_
    refine at_ret1 rfl rfl rfl (fun w9 ho9 => ?_)
    rotate_left
    exact ⟨rfl, ho9.plain⟩
theorem clash_may (a b : Value) (R W : List (List UInt8)) (w : World) (hG : Glob w) (h1 : ValsAt w a (strs R)) (h2 : ValsAt w b (strs W)) (hR : Short R) (hW : Short W) (o1 : a.oneCell' = true) (o2 : b.oneCell' = true) :
    Calls Tryd.prog 61 #[.agg #[a, b]] w fun e w' => e = .returned (.bool (okL R && okL W)) ∧ Below w.heap.size w w' := by
  refine calls_plain Tryd.func61 rfl Tryd.ntmps61 rfl ?_
  cases h : okL R
  · refine at_seq ?_
    refine at_region ?_
    refine at_boxagg rfl rfl fun gz0 => ?_
    refine at_do (does_assign rfl) rfl rfl ?_
    refine at_nil ?_
    refine at_then ?_
    refine at_seq ?_
    refine at_region ?_
    refine at_do (does_assign rfl) rfl rfl ?_
    refine at_nil ?_
    refine at_then ?_
    refine at_seq ?_
    refine at_region ?_
    refine at_do (does_fieldAddr (o := 0) (by kernel_rfl) rfl) rfl rfl ?_
    refine at_do (does_load (i := 0) (by kernel_rfl) rfl rfl rfl) rfl rfl ?_
    refine at_do (does_move rfl) rfl rfl ?_
    refine at_callv (f := 86) (enters_fn (by kernel_rfl) rfl) (fun w ho => contains_bad a R w (ho.glob hG id) (ho.oldVals h1) hR) rfl rfl ?_
    refine at_do (does_not rfl) rfl rfl ?_
    refine at_do (does_move rfl) rfl rfl ?_
    refine at_know (t := 9) (d := false) rfl (by (rw [h]; rfl)) ?_
    refine at_no rfl rfl rfl rfl ?_
    refine at_no rfl rfl rfl rfl ?_
    refine at_no rfl rfl rfl rfl ?_
    refine at_no rfl rfl rfl rfl ?_
    refine at_no rfl rfl rfl rfl ?_
    refine at_do (does_pick_false rfl rfl) rfl rfl ?_
    refine at_do (does_assign rfl) rfl rfl ?_
    refine at_nil ?_
    refine at_then ?_
    refine at_ret ?_
    refine at_ret1 rfl rfl rfl (fun w9 ho9 => ?_)
    rotate_left
    exact ⟨ret_bool (by first | rfl | simp [h]), ho9.plain⟩
  · refine at_seq ?_
    refine at_region ?_
    refine at_boxagg rfl rfl fun gz0 => ?_
    refine at_do (does_assign rfl) rfl rfl ?_
    refine at_nil ?_
    refine at_then ?_
    refine at_seq ?_
    refine at_region ?_
    refine at_do (does_assign rfl) rfl rfl ?_
    refine at_nil ?_
    refine at_then ?_
    refine at_seq ?_
    refine at_region ?_
    refine at_do (does_fieldAddr (o := 0) (by kernel_rfl) rfl) rfl rfl ?_
    refine at_do (does_load (i := 0) (by kernel_rfl) rfl rfl rfl) rfl rfl ?_
    refine at_do (does_move rfl) rfl rfl ?_
    refine at_callv (f := 86) (enters_fn (by kernel_rfl) rfl) (fun w ho => contains_bad a R w (ho.glob hG id) (ho.oldVals h1) hR) rfl rfl ?_
    refine at_do (does_not rfl) rfl rfl ?_
    refine at_do (does_move rfl) rfl rfl ?_
    refine at_know (t := 9) (d := true) rfl (by (rw [h]; rfl)) ?_
    refine at_on rfl rfl ?_
    refine at_do (does_fieldAddr (o := 1) (by kernel_rfl) rfl) rfl rfl ?_
    refine at_on rfl rfl ?_
    refine at_do (does_load (i := 0) (by kernel_rfl) rfl rfl rfl) rfl rfl ?_
    refine at_on rfl rfl ?_
    refine at_do (does_move rfl) rfl rfl ?_
    refine at_on rfl rfl ?_
    refine at_callv (f := 86) (enters_fn (by kernel_rfl) rfl) (fun w ho => contains_bad b W w (ho.glob hG id) (ho.oldVals h2) hW) rfl rfl ?_
    refine at_on rfl rfl ?_
    refine at_do (does_not rfl) rfl rfl ?_
    refine at_do (does_pick_true rfl rfl) rfl rfl ?_
    refine at_do (does_assign rfl) rfl rfl ?_
    refine at_nil ?_
    refine at_then ?_
    refine at_ret ?_
    refine at_ret1 rfl rfl rfl (fun w9 ho9 => ?_)
    rotate_left
    exact ⟨ret_bool (by first | rfl | simp [h]), ho9.plain⟩
end Go.Proofs.YtchfecmabhfooaaDoor
