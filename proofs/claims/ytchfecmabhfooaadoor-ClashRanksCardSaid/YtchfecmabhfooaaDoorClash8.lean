/-
  Lists of wants: whether one may be. No condition of its own.
-/
import Derived.Test.YtchfecmabhfooaaDoorClash7
set_option linter.unusedSimpArgs false
set_option linter.unusedVariables false
namespace Go.Proofs.YtchfecmabhfooaaDoor
open Go.RowKit

abbrev Want2 := List (List UInt8) × List (List UInt8)
/-- These wants lie there. -/
def WantsAt (w : World) (arg : Value) (L : List Want2) : Prop := ∃ A c, arg = .slice A L.length c ∧ L.length ≤ c ∧ (0 < L.length → ∃ gb o, A = some ⟨gb, o, none⟩ ∧ gb < w.heap.size ∧
  ∀ i (h : i < L.length), ∃ a b, w.cell? ⟨gb, o + i * 2, none⟩ = some a ∧ w.cell? ⟨gb, o + i * 2 + 1, none⟩ = some b ∧ ValsAt w a (strs L[i].1) ∧ ValsAt w b (strs L[i].2) ∧ a.oneCell' = true ∧ b.oneCell' = true)
theorem WantsAt.keep {w w' : World} {arg : Value} {L : List Want2} (h : WantsAt w arg L) (hb : Below w.heap.size w w') : WantsAt w' arg L := by
  obtain ⟨A, c, h1, h2, h3⟩ := h
  refine ⟨A, c, h1, h2, fun hl => ?_⟩
  obtain ⟨gb, o, q1, q2, q3⟩ := h3 hl
  refine ⟨gb, o, q1, Nat.lt_of_lt_of_le q2 hb.size, fun i hi => ?_⟩
  obtain ⟨a, b, p1, p2, p3, p4, p5, p6⟩ := q3 i hi
  exact ⟨a, b, Below.cellOld hb p1, Below.cellOld hb p2, p3.keep hb, p4.keep hb, p5, p6⟩
theorem Own.oldWants {w0 w b : World} {M F : Nat → Prop} {D : List Nat} {H : List Res} {arg : Value} {L : List Want2} (h : Own ⟨w0, fun _ => False, M, b, F, D⟩ H w) (hB : WantsAt w0 arg L) : WantsAt w arg L := hB.keep h.plain
/-- Two cells that lie one behind the other. -/
theorem two_cells {w : World} {gb p : Nat} {a b : Value} (h1 : w.cell? ⟨gb, p, none⟩ = some a) (h2 : w.cell? ⟨gb, p + 1, none⟩ = some b) : ∀ j v, [a, b][j]? = some v → w.cell? ((⟨gb, p, none⟩ : Addr).add j) = some v := by
  intro j v hv
  rw [add_none]
  match j, hv with
  | 0, hv => cases hv; exact h1
  | 1, hv => cases hv; exact h2
def okW (x : Want2) : Bool := okL x.1 && okL x.2
def ShortW (L : List Want2) : Prop := L.length ≤ 1000 ∧ ∀ x ∈ L, Short x.1 ∧ Short x.2
attribute [local irreducible] cwp lwp Exit.then Exit.inBlock Exit.noGoto wpQuiet Calls fin At AtQ Again endQ RQ
abbrev badW : Value := .func (.func 91) #[] #[]
theorem right_bad (a b : Value) (R W : List (List UInt8)) (w : World) (hG : Glob w) (h1 : ValsAt w a (strs R)) (h2 : ValsAt w b (strs W)) (hR : Short R) (hW : Short W) (o1 : a.oneCell' = true) (o2 : b.oneCell' = true) :
    Calls Tryd.prog 91 #[.agg #[a, b]] w fun e w' => e = .returned (.bool (!(okL R && okL W))) ∧ Below w.heap.size w w' := by
  refine calls_plain Tryd.func91 rfl Tryd.ntmps91 rfl ?_
  refine at_seq ?_
  refine at_region ?_
  refine at_boxagg rfl rfl fun gz0 => ?_
  refine at_do (does_assign rfl) rfl rfl ?_
  refine at_nil ?_
  refine at_then ?_
  refine at_seq ?_
  refine at_region ?_
  refine at_do (does_loadagg (i := 0) (k := 2) (by kernel_rfl) rfl rfl rfl) rfl rfl ?_
  refine at_callv (f := 61) (enters_fn (by kernel_rfl) rfl) (fun w ho => clash_may a b R W w (ho.glob hG id) (ho.oldVals h1) (ho.oldVals h2) hR hW o1 o2) rfl rfl ?_
  refine at_do (does_not rfl) rfl rfl ?_
  refine at_do (does_assign rfl) rfl rfl ?_
  refine at_nil ?_
  refine at_then ?_
  refine at_ret ?_
  refine at_ret1 rfl rfl rfl (fun w9 ho9 => ?_)
  rotate_left
  exact ⟨rfl, ho9.plain⟩
theorem idxW_ok (arg : Value) (L : List Want2) (w : World) (hG : Glob w) (hV : WantsAt w arg L) (hS : ShortW L) (h : L.all okW = true) :
    Calls Tryd.prog 102 #[arg, badW] w fun e w' => e = .returned (.int .i64 (-1)) ∧ Below w.heap.size w w' := by
  have hS1 := hS.1
  have hall : ∀ i (hi : i < L.length), okW L[i] = true := fun i hi => List.all_eq_true.1 h _ (List.getElem_mem hi)
  obtain ⟨A0, c0, rfl, hc, hcell⟩ := hV
  refine calls_plain Tryd.func102 rfl Tryd.ntmps102 rfl ?_
  refine at_seq ?_
  refine at_region ?_
  refine at_do (does_assign rfl) rfl rfl ?_
  refine at_nil ?_
  refine at_then ?_
  refine at_seq ?_
  refine at_seq ?_
  refine at_region ?_
  refine at_do (does_move rfl) rfl rfl ?_
  refine at_do (does_len (by kernel_rfl) rfl) rfl rfl ?_
  refine at_do (does_move rfl) rfl rfl ?_
  refine at_nil ?_
  refine at_then ?_
  refine at_block ?_
  rotate_left
  refine at_loop0 (fun i : Nat => i ≤ L.length) (fun i => [(0, .slice A0 L.length c0), (1, badW), (7, .int .i64 L.length), (8, .int .i64 i)]) (fun i => L.length - i) 0 (Nat.zero_le _) ⟨rfl, rfl, rfl, rfl, trivial⟩ ?_
  rintro i hi
  by_cases hil : i < L.length
  · obtain ⟨gb, o, rfl, hlt, hce⟩ := hcell (by omega)
    obtain ⟨a, b, p1, p2, p3, p4, p5, p6⟩ := hce i hil
    have hk := hall i hil
    have hx := hS.2 L[i] (List.getElem_mem hil)
    generalize L[i] = x at p3 p4 hk hx
    refine at_seq ?_
    refine at_region ?_
    refine at_do (does_lss rfl rfl) rfl rfl ?_
    refine at_nil ?_
    refine at_then ?_
    refine at_seq ?_
    refine at_cond_t rfl (decide_eq_true (by omega)) ?_
    refine at_skip ?_
    refine at_then ?_
    refine at_seq ?_
    refine at_block ?_
    refine at_seq ?_
    refine at_region ?_
    refine at_do (does_move rfl) rfl rfl ?_
    refine at_do (does_assign rfl) rfl rfl ?_
    refine at_nil ?_
    refine at_then ?_
    refine at_seq ?_
    refine at_region ?_
    refine at_do (does_move rfl) rfl rfl ?_
    refine at_do (does_move rfl) rfl rfl ?_
    refine at_do (does_move rfl) rfl rfl ?_
    refine at_do (does_indexAddrk (k := 2) (j := i) (by kernel_rfl) rfl rfl (by omega)) rfl rfl ?_
    refine at_do (does_loadagg_mem (vs := [a, b]) (by kernel_rfl) rfl (fun w' ho => two_cells (Below.cellOld ho.plain p1) (Below.cellOld ho.plain p2))) rfl rfl ?_
    refine at_callv (f := 91) (enters_val rfl (by kernel_rfl) rfl) (fun w ho => right_bad a b x.1 x.2 w (ho.glob hG id) (ho.oldVals p3) (ho.oldVals p4) hx.1 hx.2 p5 p6) rfl rfl ?_
    refine at_nil ?_
    refine at_then ?_
    refine at_cond_f rfl (by (rw [show (okL x.1 && okL x.2) = true from hk]; rfl)) ?_
    refine at_skip ?_
    refine at_inb ?_
    refine at_then ?_
    refine at_region ?_
    refine at_do (does_addi rfl rfl (by omega)) rfl rfl ?_
    refine at_do (does_move rfl) rfl rfl ?_
    refine at_nil ?_
    refine at_then ?_
    rotate_left
    refine at_again0 (i + 1) (by omega) (by omega) ⟨rfl, rfl, rfl, rfl, trivial⟩
  · obtain rfl : i = L.length := by omega
    refine at_seq ?_
    refine at_region ?_
    refine at_do (does_lss rfl rfl) rfl rfl ?_
    refine at_nil ?_
    refine at_then ?_
    refine at_seq ?_
    refine at_cond_f rfl (decide_eq_false (by omega)) ?_
    refine at_exit ?_
    refine at_then_exit ?_
    refine at_then_exit ?_
    refine at_inb_here ?_
    refine at_then ?_
    refine at_seq ?_
    refine at_region ?_
    refine at_do (does_assign rfl) rfl rfl ?_
    refine at_nil ?_
    refine at_then ?_
    refine at_ret ?_
    refine at_ret1 rfl rfl rfl (fun w9 ho9 => ?_)
    rotate_left
    exact ⟨rfl, ho9.plain⟩
theorem idxW_bad (arg : Value) (L : List Want2) (w : World) (hG : Glob w) (hV : WantsAt w arg L) (hS : ShortW L) (h : L.all okW = false) :
    Calls Tryd.prog 102 #[arg, badW] w fun e w' => ∃ v, e = .returned v ∧ Below w.heap.size w w' ∧ ∃ n : Nat, v = .int .i64 (n : Int) := by
  have hS1 := hS.1
  obtain ⟨A0, c0, rfl, hc, hcell⟩ := hV
  refine calls_plain Tryd.func102 rfl Tryd.ntmps102 rfl ?_
  refine at_seq ?_
  refine at_region ?_
  refine at_do (does_assign rfl) rfl rfl ?_
  refine at_nil ?_
  refine at_then ?_
  refine at_seq ?_
  refine at_seq ?_
  refine at_region ?_
  refine at_do (does_move rfl) rfl rfl ?_
  refine at_do (does_len (by kernel_rfl) rfl) rfl rfl ?_
  refine at_do (does_move rfl) rfl rfl ?_
  refine at_nil ?_
  refine at_then ?_
  refine at_block ?_
  rotate_left
  refine at_loop0 (fun i : Nat => i ≤ L.length ∧ (L.take i).all okW = true) (fun i => [(0, .slice A0 L.length c0), (1, badW), (7, .int .i64 L.length), (8, .int .i64 i)]) (fun i => L.length - i) 0 ⟨Nat.zero_le _, rfl⟩ ⟨rfl, rfl, rfl, rfl, trivial⟩ ?_
  rintro i ⟨hi, hI⟩
  by_cases hil : i < L.length
  · obtain ⟨gb, o, rfl, hlt, hce⟩ := hcell (by omega)
    obtain ⟨a, b, p1, p2, p3, p4, p5, p6⟩ := hce i hil
    have hI2 := all_take (p := okW) hil
    have hx := hS.2 L[i] (List.getElem_mem hil)
    generalize L[i] = x at p3 p4 hI2 hx
    cases hk : okW x
    · refine at_seq ?_
      refine at_region ?_
      refine at_do (does_lss rfl rfl) rfl rfl ?_
      refine at_nil ?_
      refine at_then ?_
      refine at_seq ?_
      refine at_cond_t rfl (decide_eq_true (by omega)) ?_
      refine at_skip ?_
      refine at_then ?_
      refine at_seq ?_
      refine at_block ?_
      refine at_seq ?_
      refine at_region ?_
      refine at_do (does_move rfl) rfl rfl ?_
      refine at_do (does_assign rfl) rfl rfl ?_
      refine at_nil ?_
      refine at_then ?_
      refine at_seq ?_
      refine at_region ?_
      refine at_do (does_move rfl) rfl rfl ?_
      refine at_do (does_move rfl) rfl rfl ?_
      refine at_do (does_move rfl) rfl rfl ?_
      refine at_do (does_indexAddrk (k := 2) (j := i) (by kernel_rfl) rfl rfl (by omega)) rfl rfl ?_
      refine at_do (does_loadagg_mem (vs := [a, b]) (by kernel_rfl) rfl (fun w' ho => two_cells (Below.cellOld ho.plain p1) (Below.cellOld ho.plain p2))) rfl rfl ?_
      refine at_callv (f := 91) (enters_val rfl (by kernel_rfl) rfl) (fun w ho => right_bad a b x.1 x.2 w (ho.glob hG id) (ho.oldVals p3) (ho.oldVals p4) hx.1 hx.2 p5 p6) rfl rfl ?_
      refine at_nil ?_
      refine at_then ?_
      refine at_cond_t rfl (by (rw [show (okL x.1 && okL x.2) = false from hk]; rfl)) ?_
      refine at_seq ?_
      refine at_region ?_
      refine at_do (does_move rfl) rfl rfl ?_
      refine at_do (does_assign rfl) rfl rfl ?_
      refine at_nil ?_
      refine at_then ?_
      refine at_ret ?_
      refine at_inb_ret ?_
      refine at_then_ret ?_
      refine at_then_ret ?_
      refine at_inb_ret ?_
      refine at_then_ret ?_
      refine at_ret1 rfl rfl rfl (fun w9 ho9 => ?_)
      rotate_left
      exact ⟨_, rfl, ho9.plain, i, rfl⟩
    · refine at_seq ?_
      refine at_region ?_
      refine at_do (does_lss rfl rfl) rfl rfl ?_
      refine at_nil ?_
      refine at_then ?_
      refine at_seq ?_
      refine at_cond_t rfl (decide_eq_true (by omega)) ?_
      refine at_skip ?_
      refine at_then ?_
      refine at_seq ?_
      refine at_block ?_
      refine at_seq ?_
      refine at_region ?_
      refine at_do (does_move rfl) rfl rfl ?_
      refine at_do (does_assign rfl) rfl rfl ?_
      refine at_nil ?_
      refine at_then ?_
      refine at_seq ?_
      refine at_region ?_
      refine at_do (does_move rfl) rfl rfl ?_
      refine at_do (does_move rfl) rfl rfl ?_
      refine at_do (does_move rfl) rfl rfl ?_
      refine at_do (does_indexAddrk (k := 2) (j := i) (by kernel_rfl) rfl rfl (by omega)) rfl rfl ?_
      refine at_do (does_loadagg_mem (vs := [a, b]) (by kernel_rfl) rfl (fun w' ho => two_cells (Below.cellOld ho.plain p1) (Below.cellOld ho.plain p2))) rfl rfl ?_
      refine at_callv (f := 91) (enters_val rfl (by kernel_rfl) rfl) (fun w ho => right_bad a b x.1 x.2 w (ho.glob hG id) (ho.oldVals p3) (ho.oldVals p4) hx.1 hx.2 p5 p6) rfl rfl ?_
      refine at_nil ?_
      refine at_then ?_
      refine at_cond_f rfl (by (rw [show (okL x.1 && okL x.2) = true from hk]; rfl)) ?_
      refine at_skip ?_
      refine at_inb ?_
      refine at_then ?_
      refine at_region ?_
      refine at_do (does_addi rfl rfl (by omega)) rfl rfl ?_
      refine at_do (does_move rfl) rfl rfl ?_
      refine at_nil ?_
      refine at_then ?_
      rotate_left
      refine at_again0 (i + 1) ⟨by omega, by rw [hI2, hI, hk]; rfl⟩ (by omega) ⟨rfl, rfl, rfl, rfl, trivial⟩
  · obtain rfl : i = L.length := by omega
    rw [List.take_length] at hI
    exact absurd (hI.symm.trans h) (by simp)
theorem containsW_bad (arg : Value) (L : List Want2) (w : World) (hG : Glob w) (hV : WantsAt w arg L) (hS : ShortW L) :
    Calls Tryd.prog 90 #[arg, badW] w fun e w' => e = .returned (.bool (!L.all okW)) ∧ Below w.heap.size w w' := by
  refine calls_plain Tryd.func90 rfl Tryd.ntmps90 rfl ?_
  cases h : L.all okW
  · refine at_seq ?_
    refine at_region ?_
    refine at_do (does_assign rfl) rfl rfl ?_
    refine at_nil ?_
    refine at_then ?_
    refine at_seq ?_
    refine at_region ?_
    refine at_do (does_move rfl) rfl rfl ?_
    refine at_do (does_move rfl) rfl rfl ?_
    refine at_callk (f := 102) (Φ := fun v _ => ∃ n : Nat, v = .int .i64 (n : Int)) (enters_fn (by kernel_rfl) rfl) (fun w ho => idxW_bad arg L w (ho.glob hG id) (ho.oldWants hV) hS h) rfl rfl (fun v w1 hw1 hv => ?_)
    rotate_left
    obtain ⟨n, rfl⟩ := hv
    refine at_do (does_geq rfl rfl) rfl rfl ?_
    refine at_do (does_assign rfl) rfl rfl ?_
    refine at_nil ?_
    refine at_then ?_
    refine at_ret ?_
    refine at_ret1 rfl rfl rfl (fun w9 ho9 => ?_)
    rotate_left
    exact ⟨ret_bool (decide_eq_true (Int.natCast_nonneg n)), ho9.plain⟩
  · refine at_seq ?_
    refine at_region ?_
    refine at_do (does_assign rfl) rfl rfl ?_
    refine at_nil ?_
    refine at_then ?_
    refine at_seq ?_
    refine at_region ?_
    refine at_do (does_move rfl) rfl rfl ?_
    refine at_do (does_move rfl) rfl rfl ?_
    refine at_callv (f := 102) (enters_fn (by kernel_rfl) rfl) (fun w ho => idxW_ok arg L w (ho.glob hG id) (ho.oldWants hV) hS h) rfl rfl ?_
    refine at_do (does_geq rfl rfl) rfl rfl ?_
    refine at_do (does_assign rfl) rfl rfl ?_
    refine at_nil ?_
    refine at_then ?_
    refine at_ret ?_
    refine at_ret1 rfl rfl rfl (fun w9 ho9 => ?_)
    rotate_left
    exact ⟨rfl, ho9.plain⟩
/-- May a list be? -/
def rightL (L : List Want2) : Bool := decide (L.length ≤ 64) && L.all okW
theorem clash_right (arg : Value) (L : List Want2) (w : World) (hG : Glob w) (hV : WantsAt w arg L) (hS : ShortW L) :
    Calls Tryd.prog 66 #[arg] w fun e w' => e = .returned (.bool (rightL L)) ∧ Below w.heap.size w w' := by
  obtain ⟨A0, c0, rfl, _, _⟩ := id hV
  refine calls_plain Tryd.func66 rfl Tryd.ntmps66 rfl ?_
  by_cases h : L.length ≤ 64
  · refine at_seq ?_
    refine at_region ?_
    refine at_do (does_assign rfl) rfl rfl ?_
    refine at_nil ?_
    refine at_then ?_
    refine at_seq ?_
    refine at_region ?_
    refine at_do (does_move rfl) rfl rfl ?_
    refine at_do (does_len (by kernel_rfl) rfl) rfl rfl ?_
    refine at_do (does_leq rfl rfl) rfl rfl ?_
    refine at_do (does_move rfl) rfl rfl ?_
    refine at_know (t := 6) (d := true) rfl (decide_eq_true (by omega)) ?_
    refine at_on rfl rfl ?_
    refine at_do (does_move rfl) rfl rfl ?_
    refine at_on rfl rfl ?_
    refine at_callv (f := 90) (enters_fn (by kernel_rfl) rfl) (fun w ho => containsW_bad _ L w (ho.glob hG id) (ho.oldWants hV) hS) rfl rfl ?_
    refine at_on rfl rfl ?_
    refine at_do (does_not rfl) rfl rfl ?_
    refine at_do (does_pick_true rfl rfl) rfl rfl ?_
    refine at_do (does_assign rfl) rfl rfl ?_
    refine at_nil ?_
    refine at_then ?_
    refine at_ret ?_
    refine at_ret1 rfl rfl rfl (fun w9 ho9 => ?_)
    rotate_left
    exact ⟨ret_bool (by simp [rightL, h]), ho9.plain⟩
  · refine at_seq ?_
    refine at_region ?_
    refine at_do (does_assign rfl) rfl rfl ?_
    refine at_nil ?_
    refine at_then ?_
    refine at_seq ?_
    refine at_region ?_
    refine at_do (does_move rfl) rfl rfl ?_
    refine at_do (does_len (by kernel_rfl) rfl) rfl rfl ?_
    refine at_do (does_leq rfl rfl) rfl rfl ?_
    refine at_do (does_move rfl) rfl rfl ?_
    refine at_know (t := 6) (d := false) rfl (decide_eq_false (by omega)) ?_
    refine at_no rfl rfl rfl rfl ?_
    refine at_no rfl rfl rfl rfl ?_
    refine at_no rfl rfl rfl rfl ?_
    refine at_do (does_pick_false rfl rfl) rfl rfl ?_
    refine at_do (does_assign rfl) rfl rfl ?_
    refine at_nil ?_
    refine at_then ?_
    refine at_ret ?_
    refine at_ret1 rfl rfl rfl (fun w9 ho9 => ?_)
    rotate_left
    exact ⟨ret_bool (by simp [rightL, h]), ho9.plain⟩
end Go.Proofs.YtchfecmabhfooaaDoor
