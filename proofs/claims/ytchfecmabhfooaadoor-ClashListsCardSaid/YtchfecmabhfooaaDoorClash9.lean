/-
  Whether a list may be, as the reference says. No condition of its own.
-/
import Derived.Test.YtchfecmabhfooaaDoorClash8
set_option linter.unusedSimpArgs false
set_option linter.unusedVariables false
namespace Go.Proofs.YtchfecmabhfooaaDoor
open Go.RowKit
attribute [local irreducible] cwp lwp Exit.then Exit.inBlock Exit.noGoto wpQuiet Calls fin At AtQ Again endQ RQ
theorem ref_Right (arg : Value) (L : List Want2) (w : World) (hV : WantsAt w arg L) (hS : ShortW L) :
    Calls Tryd.prog 20 #[arg] w fun e w' => e = .returned (.bool (rightL L)) ∧ Below w.heap.size w w' := by
  have hS1 := hS.1
  obtain ⟨A0, c0, rfl, hc, hcell⟩ := hV
  refine calls_plain Tryd.func20 rfl Tryd.ntmps20 rfl ?_
  refine at_seq ?_
  refine at_region ?_
  refine at_do (does_assign rfl) rfl rfl ?_
  refine at_nil ?_
  refine at_then ?_
  refine at_seq ?_
  refine at_seq ?_
  refine at_region ?_
  refine at_do (does_assign rfl) rfl rfl ?_
  refine at_nil ?_
  refine at_then ?_
  refine at_block ?_
  rotate_left
  refine at_loop0 (fun i : Nat => i ≤ L.length ∧ (L.take i).all okW = true) (fun i => [(0, .slice A0 L.length c0), (3, .int .i64 i)]) (fun i => L.length - i) 0 ⟨Nat.zero_le _, rfl⟩ ⟨rfl, rfl, trivial⟩ ?_
  rintro i ⟨hi, hI⟩
  by_cases hil : i < L.length
  · obtain ⟨gb, o, rfl, hlt, hce⟩ := hcell (by omega)
    obtain ⟨a, b, p1, p2, p3, p4, p5, p6⟩ := hce i hil
    have hI2 := all_take (p := okW) hil
    have hF := all_false (p := okW) hil
    have hx := hS.2 L[i] (List.getElem_mem hil)
    generalize L[i] = x at p3 p4 hI2 hF hx
    cases hk : okW x
    · refine at_seq ?_
      refine at_seq ?_
      refine at_region ?_
      refine at_do (does_move rfl) rfl rfl ?_
      refine at_do (does_move rfl) rfl rfl ?_
      refine at_do (does_len (by kernel_rfl) rfl) rfl rfl ?_
      refine at_do (does_lss rfl rfl) rfl rfl ?_
      refine at_nil ?_
      refine at_then ?_
      refine at_cond_t rfl (decide_eq_true (by omega)) ?_
      refine at_skip ?_
      refine at_then ?_
      refine at_seq ?_
      refine at_block ?_
      refine at_seq ?_
      refine at_region ?_
      refine at_do (does_move rfl) rfl rfl ?_
      refine at_do (does_move rfl) rfl rfl ?_
      refine at_do (does_indexAddrk (k := 2) (j := i) (by kernel_rfl) rfl rfl (by omega)) rfl rfl ?_
      refine at_do (does_loadagg_mem (vs := [a, b]) (by kernel_rfl) rfl (fun w' ho => two_cells (Below.cellOld ho.plain p1) (Below.cellOld ho.plain p2))) rfl rfl ?_
      refine at_callv (f := 63) (enters_fn (by kernel_rfl) rfl) (fun w ho => ref_May a b x.1 x.2 w (ho.oldVals p3) (ho.oldVals p4) hx.1 hx.2 p5 p6) rfl rfl ?_
      refine at_do (does_not rfl) rfl rfl ?_
      refine at_nil ?_
      refine at_then ?_
      refine at_cond_t rfl (by (rw [show (okL x.1 && okL x.2) = false from hk]; rfl)) ?_
      refine at_seq ?_
      refine at_region ?_
      refine at_do (does_assign rfl) rfl rfl ?_
      refine at_nil ?_
      refine at_then ?_
      refine at_ret ?_
      refine at_inb_ret ?_
      refine at_then_ret ?_
      refine at_then_ret ?_
      refine at_inb_ret ?_
      refine at_then_ret ?_
      refine at_ret1 rfl rfl rfl (fun w9 ho9 => ?_)
      rotate_left
      exact ⟨ret_bool (by simp [rightL, hF hk]), ho9.plain⟩
    · refine at_seq ?_
      refine at_seq ?_
      refine at_region ?_
      refine at_do (does_move rfl) rfl rfl ?_
      refine at_do (does_move rfl) rfl rfl ?_
      refine at_do (does_len (by kernel_rfl) rfl) rfl rfl ?_
      refine at_do (does_lss rfl rfl) rfl rfl ?_
      refine at_nil ?_
      refine at_then ?_
      refine at_cond_t rfl (decide_eq_true (by omega)) ?_
      refine at_skip ?_
      refine at_then ?_
      refine at_seq ?_
      refine at_block ?_
      refine at_seq ?_
      refine at_region ?_
      refine at_do (does_move rfl) rfl rfl ?_
      refine at_do (does_move rfl) rfl rfl ?_
      refine at_do (does_indexAddrk (k := 2) (j := i) (by kernel_rfl) rfl rfl (by omega)) rfl rfl ?_
      refine at_do (does_loadagg_mem (vs := [a, b]) (by kernel_rfl) rfl (fun w' ho => two_cells (Below.cellOld ho.plain p1) (Below.cellOld ho.plain p2))) rfl rfl ?_
      refine at_callv (f := 63) (enters_fn (by kernel_rfl) rfl) (fun w ho => ref_May a b x.1 x.2 w (ho.oldVals p3) (ho.oldVals p4) hx.1 hx.2 p5 p6) rfl rfl ?_
      refine at_do (does_not rfl) rfl rfl ?_
      refine at_nil ?_
      refine at_then ?_
      refine at_cond_f rfl (by (rw [show (okL x.1 && okL x.2) = true from hk]; rfl)) ?_
      refine at_skip ?_
      refine at_inb ?_
      refine at_then ?_
      refine at_region ?_
      refine at_do (does_move rfl) rfl rfl ?_
      refine at_do (does_addi rfl rfl (by omega)) rfl rfl ?_
      refine at_do (does_assign rfl) rfl rfl ?_
      refine at_nil ?_
      refine at_then ?_
      rotate_left
      refine at_again0 (i + 1) ⟨by omega, by rw [hI2, hI, hk]; rfl⟩ (by omega) ⟨rfl, rfl, trivial⟩
  · obtain rfl : i = L.length := by omega
    rw [List.take_length] at hI
    refine at_seq ?_
    refine at_seq ?_
    refine at_region ?_
    refine at_do (does_move rfl) rfl rfl ?_
    refine at_do (does_move rfl) rfl rfl ?_
    refine at_do (does_len (by kernel_rfl) rfl) rfl rfl ?_
    refine at_do (does_lss rfl rfl) rfl rfl ?_
    refine at_nil ?_
    refine at_then ?_
    refine at_cond_f rfl (decide_eq_false (by omega)) ?_
    refine at_exit ?_
    refine at_then_exit ?_
    refine at_then_exit ?_
    refine at_inb_here ?_
    refine at_then ?_
    refine at_seq ?_
    refine at_region ?_
    refine at_do (does_move rfl) rfl rfl ?_
    refine at_do (does_len (by kernel_rfl) rfl) rfl rfl ?_
    refine at_do (does_leq rfl rfl) rfl rfl ?_
    refine at_do (does_assign rfl) rfl rfl ?_
    refine at_nil ?_
    refine at_then ?_
    refine at_ret ?_
    refine at_ret1 rfl rfl rfl (fun w9 ho9 => ?_)
    rotate_left
    exact ⟨ret_bool (by rw [rightL, hI, Bool.and_true]; exact decide_eq_decide.2 (by omega)), ho9.plain⟩
end Go.Proofs.YtchfecmabhfooaaDoor
