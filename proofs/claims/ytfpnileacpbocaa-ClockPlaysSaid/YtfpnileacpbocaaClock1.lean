/-
  What each small function of the clock's package and of its reference gives. No condition of its own.
-/
import Derived.Test.YtfpnileacpbocaaMem
import Derived.BigGuardPart
namespace Go.Proofs.Ytfpnileacpbocaa
open Go.RowKit

abbrev ck (now wait base cap : Int) (on : Bool) (due : Int) : Value := .agg #[.int .i64 now, .int .i64 wait, .int .i64 base, .int .i64 cap, .bool on, .int .i64 due]
abbrev ckCells (now wait base cap : Int) (on : Bool) (due : Int) : Array Value := #[.int .i64 now, .int .i64 wait, .int .i64 base, .int .i64 cap, .bool on, .int .i64 due]

theorem ret_bool {a b : Bool} (h : a = b) : Ending.returned (.bool a) = Ending.returned (.bool b) := by rw [h]
theorem ret_int {k : IntKind} {a b : Int} (h : a = b) : Ending.returned (.int k a) = Ending.returned (.int k b) := by rw [h]

/-- May a clock be? -/
def mayB (now wait base cap : Int) (on : Bool) (due : Int) : Bool :=
  decide (1 ≤ base) && decide (base ≤ cap) && decide (cap ≤ 1048576) && decide (base ≤ wait) && decide (wait ≤ cap) && decide (0 ≤ now) && decide (now ≤ 1099511627776) &&
    (if on then decide (now < due) && decide (due ≤ now + wait) else decide (due = 0))

structure May (now wait base cap : Int) (on : Bool) (due : Int) : Prop where
  b1 : 1 ≤ base
  b2 : base ≤ cap
  b3 : cap ≤ 1048576
  b4 : base ≤ wait
  b5 : wait ≤ cap
  b6 : 0 ≤ now
  b7 : now ≤ 1099511627776
  d : (on = true ∧ now < due ∧ due ≤ now + wait) ∨ (on = false ∧ due = 0)

theorem may_iff (now wait base cap : Int) (on : Bool) (due : Int) : mayB now wait base cap on due = true ↔ May now wait base cap on due := by
  unfold mayB
  constructor
  · intro h
    cases on <;> simp at h <;> refine ⟨?_, ?_, ?_, ?_, ?_, ?_, ?_, ?_⟩ <;> (try simp) <;> omega
  · rintro ⟨_, _, _, _, _, _, _, h⟩
    cases on <;> simp at h ⊢ <;> omega

set_option maxHeartbeats 1000000 in
theorem may_any (now wait base cap : Int) (on : Bool) (due : Int) (w : World) :
    Calls Try.prog 11 #[ck now wait base cap on due] w fun e w' => e = .returned (.bool (mayB now wait base cap on due)) ∧ Below w.heap.size w w' := by
  cases on
  all_goals
    go_enter Try.func11, Try.ntmps11
    go_wp2
    all_goals
      go_ret
      refine ⟨ret_bool ?_, by go_grown⟩
      rw [Bool.eq_iff_iff]; simp [mayB]; omega

set_option maxHeartbeats 2000000 in
theorem rmay_any (now wait base cap : Int) (on : Bool) (due : Int) (w : World) (h1 : -9223372036854775808 ≤ due) (h2 : due ≤ 9223372036854775807) :
    Calls Try.prog 9 #[ck now wait base cap on due] w fun e w' => e = .returned (.bool (mayB now wait base cap on due)) ∧ Below w.heap.size w w' := by
  cases on
  all_goals
    go_enter Try.func9, Try.ntmps9
    go_wp2
    all_goals
      go_ret
      refine ⟨ret_bool ?_, by go_grown⟩
      rw [Bool.eq_iff_iff]; simp [mayB]; first | omega | (simp only [Bool.not_eq_eq_eq_not, Bool.not_true, Bool.not_false, decide_eq_false_iff_not, decide_eq_true_eq, wrap64] at *; omega)
end Go.Proofs.Ytfpnileacpbocaa
