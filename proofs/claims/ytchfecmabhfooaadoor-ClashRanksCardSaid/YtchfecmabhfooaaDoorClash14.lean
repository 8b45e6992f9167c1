/-
  Whether an order keeps what clashes in its places: the look at one. No condition of its own.
-/
import Derived.Test.YtchfecmabhfooaaDoorClash13
set_option linter.unusedSimpArgs false
set_option linter.unusedVariables false
namespace Go.Proofs.YtchfecmabhfooaaDoor
open Go.RowKit
attribute [local irreducible] cwp lwp Exit.then Exit.inBlock Exit.noGoto wpQuiet Calls fin At AtQ Again endQ RQ

def intsZ (zs : List Int) : List Value := zs.map fun z => .int .i64 z
theorem intsZ_get {zs : List Int} {j : Nat} (h : j < zs.length) : (intsZ zs)[j]? = some (.int .i64 (zs.getD j 0)) := by
  simp [intsZ, h]
theorem intsZ_set (zs : List Int) (j : Nat) (v : Int) : (intsZ zs).set j (.int .i64 v) = intsZ (zs.set j v) := by simp [intsZ, List.map_set]
theorem intsZ_len (zs : List Int) : (intsZ zs).length = zs.length := by simp [intsZ]
/-- What the look is given: the places, and one. -/
structure Look (w : World) (h1 h2 : Nat) (gp n c : Nat) (zs : List Int) (i : Nat) : Prop where
  p : w.cell? ⟨h1, 0, none⟩ = some (.slice (some ⟨gp, 0, none⟩) n c)
  i : w.cell? ⟨h2, 0, none⟩ = some (.int .i64 (i : Int))
  z : ∀ j, j < n → w.cell? ⟨gp, 0 + j, none⟩ = some (.int .i64 (zs.getD j 0))
theorem Look.keep {w w' : World} {h1 h2 gp n c i : Nat} {zs : List Int} (h : Look w h1 h2 gp n c zs i) (hb : Below w.heap.size w w') : Look w' h1 h2 gp n c zs i :=
  ⟨Below.cellOld hb h.p, Below.cellOld hb h.i, fun j hj => Below.cellOld hb (h.z j hj)⟩
abbrev lookFn (h1 h2 : Nat) : Value := .func (.func 68) #[] #[.pointer (some ⟨h1, 0, none⟩), .pointer (some ⟨h2, 0, none⟩)]
theorem swap_look (h1 h2 gp n c i k : Nat) (zs : List Int) (w : World) (hL : Look w h1 h2 gp n c zs i) (hi : i < n) (hk : k < n) :
    Calls Tryd.prog 68 #[.int .i64 (k : Int), .pointer (some ⟨h1, 0, none⟩), .pointer (some ⟨h2, 0, none⟩)] w fun e w' => e = .returned (.bool (decide (zs.getD i 0 < zs.getD k 0))) ∧ Below w.heap.size w w' := by
  refine calls_plain Tryd.func68 rfl Tryd.ntmps68 rfl ?_
  refine at_seq ?_
  refine at_region ?_
  refine at_do (does_assign rfl) rfl rfl ?_
  refine at_nil ?_
  refine at_then ?_
  refine at_seq ?_
  refine at_draw (by kernel_rfl) (by kernel_rfl) ?_
  refine atq_do (does_load_mem (by kernel_rfl) rfl (fun w' ho => Below.cellOld ho.plain hL.p)) rfl rfl ?_
  refine atq_do (does_move rfl) rfl rfl ?_
  refine atq_do (does_indexAddr1 (j := k) (by kernel_rfl) rfl rfl hk) rfl rfl ?_
  refine atq_do (does_load_mem (by kernel_rfl) rfl (fun w' ho => Below.cellOld ho.plain (hL.z k hk))) rfl rfl ?_
  refine atq_do (does_load_mem (by kernel_rfl) rfl (fun w' ho => Below.cellOld ho.plain hL.p)) rfl rfl ?_
  refine atq_do (does_load_mem (by kernel_rfl) rfl (fun w' ho => Below.cellOld ho.plain hL.i)) rfl rfl ?_
  refine atq_do (does_indexAddr1 (j := i) (by kernel_rfl) rfl rfl hi) rfl rfl ?_
  refine atq_do (does_load_mem (by kernel_rfl) rfl (fun w' ho => Below.cellOld ho.plain (hL.z i hi))) rfl rfl ?_
  refine atq_do (does_gtr rfl rfl) rfl rfl ?_
  refine atq_do (does_assign rfl) rfl rfl ?_
  refine atq_nil ?_
  refine at_then ?_
  refine at_ret ?_
  refine at_ret1 rfl rfl rfl (fun w9 ho9 => ?_)
  rotate_left
  exact ⟨rfl, ho9.plain⟩
def later (zs : List Int) (i k : Nat) : Bool := decide (zs.getD i 0 < zs.getD k 0)
theorem idx_none (h1 h2 gp n c i : Nat) (zs : List Int) (arg : Value) (ks : List Nat) (w : World) (hL : Look w h1 h2 gp n c zs i) (hi : i < n) (hV : ValsAt w arg (ints ks)) (hks : ∀ k ∈ ks, k < n) (hl : ks.length ≤ 100000) (h : ks.any (later zs i) = false) :
    Calls Tryd.prog 92 #[arg, lookFn h1 h2] w fun e w' => e = .returned (.int .i64 (-1)) ∧ Below w.heap.size w w' := by
  have hil : (ints ks).length = ks.length := by simp [ints]
  have hall : ∀ j (hj : j < ks.length), later zs i ks[j] = false := fun j hj => by
    have := List.any_eq_false.1 h ks[j] (List.getElem_mem hj)
    simpa using this
  obtain ⟨A0, c0, rfl⟩ := hV.len
  refine calls_plain Tryd.func92 rfl Tryd.ntmps92 rfl ?_
  refine at_seq ?_
  refine at_region ?_
  refine at_do (does_assign rfl) rfl rfl ?_
  refine at_nil ?_
  refine at_then ?_
  refine at_seq ?_
  refine at_seq ?_
  refine at_region ?_
  refine at_do (does_move rfl) rfl rfl ?_
  refine at_do (does_len (by kernel_rfl) rfl) rfl rfl ?_
  refine at_do (does_move rfl) rfl rfl ?_
  refine at_nil ?_
  refine at_then ?_
  refine at_block ?_
  rotate_left
  refine at_loop0 (fun j : Nat => j ≤ ks.length) (fun j => [(0, .slice A0 (ints ks).length c0), (1, lookFn h1 h2), (7, .int .i64 (ints ks).length), (8, .int .i64 j)]) (fun j => ks.length - j) 0 (Nat.zero_le _) ⟨rfl, rfl, rfl, rfl, trivial⟩ ?_
  rintro j hj
  by_cases hjl : j < ks.length
  · obtain ⟨gb, o, c1, hv, hc, hlt, hcell⟩ := hV.form (by omega)
    simp only [Value.slice.injEq, true_and] at hv
    obtain ⟨rfl, rfl⟩ := hv
    have hcj : w.cell? ⟨gb, o + j, none⟩ = some (.int .i64 ((ks[j] : Nat) : Int)) := hcell j _ (by simp [ints, hjl])
    have hk := hks ks[j] (List.getElem_mem hjl)
    have hf := hall j hjl
    generalize ks[j] = k at hcj hk hf
    have hf' : ¬ zs.getD i 0 < zs.getD k 0 := of_decide_eq_false hf
    refine at_seq ?_
    refine at_region ?_
    refine at_do (does_lss rfl rfl) rfl rfl ?_
    refine at_nil ?_
    refine at_then ?_
    refine at_seq ?_
    refine at_cond_t rfl (decide_eq_true (by omega)) ?_
    refine at_skip ?_
    refine at_then ?_
    refine at_seq ?_
    refine at_block ?_
    refine at_seq ?_
    refine at_region ?_
    refine at_do (does_move rfl) rfl rfl ?_
    refine at_do (does_assign rfl) rfl rfl ?_
    refine at_nil ?_
    refine at_then ?_
    refine at_seq ?_
    refine at_region ?_
    refine at_do (does_move rfl) rfl rfl ?_
    refine at_do (does_move rfl) rfl rfl ?_
    refine at_do (does_move rfl) rfl rfl ?_
    refine at_do (does_indexAddr1 (by kernel_rfl) rfl rfl (by omega)) rfl rfl ?_
    refine at_do (does_load_mem (by kernel_rfl) rfl (fun w' ho => Below.cellOld ho.plain hcj)) rfl rfl ?_
    refine at_callv (f := 68) (enters_val rfl (by kernel_rfl) rfl) (fun w ho => swap_look h1 h2 gp n c i k zs w (hL.keep ho.plain) hi hk) rfl rfl ?_
    refine at_nil ?_
    refine at_then ?_
    refine at_cond_f rfl (decide_eq_false (by exact hf')) ?_
    refine at_skip ?_
    refine at_inb ?_
    refine at_then ?_
    refine at_region ?_
    refine at_do (does_addi rfl rfl (by omega)) rfl rfl ?_
    refine at_do (does_move rfl) rfl rfl ?_
    refine at_nil ?_
    refine at_then ?_
    rotate_left
    refine at_again0 (j + 1) (by omega) (by omega) ⟨rfl, rfl, rfl, rfl, trivial⟩
  · obtain rfl : j = ks.length := by omega
    refine at_seq ?_
    refine at_region ?_
    refine at_do (does_lss rfl rfl) rfl rfl ?_
    refine at_nil ?_
    refine at_then ?_
    refine at_seq ?_
    refine at_cond_f rfl (decide_eq_false (by omega)) ?_
    refine at_exit ?_
    refine at_then_exit ?_
    refine at_then_exit ?_
    refine at_inb_here ?_
    refine at_then ?_
    refine at_seq ?_
    refine at_region ?_
    refine at_do (does_assign rfl) rfl rfl ?_
    refine at_nil ?_
    refine at_then ?_
    refine at_ret ?_
    refine at_ret1 rfl rfl rfl (fun w9 ho9 => ?_)
    rotate_left
    exact ⟨rfl, ho9.plain⟩
theorem idx_some (h1 h2 gp n c i : Nat) (zs : List Int) (arg : Value) (ks : List Nat) (w : World) (hL : Look w h1 h2 gp n c zs i) (hi : i < n) (hV : ValsAt w arg (ints ks)) (hks : ∀ k ∈ ks, k < n) (hl : ks.length ≤ 100000) (h : ks.any (later zs i) = true) :
    Calls Tryd.prog 92 #[arg, lookFn h1 h2] w fun e w' => ∃ v, e = .returned v ∧ Below w.heap.size w w' ∧ ∃ m : Nat, v = .int .i64 (m : Int) := by
  have hil : (ints ks).length = ks.length := by simp [ints]
  obtain ⟨A0, c0, rfl⟩ := hV.len
  refine calls_plain Tryd.func92 rfl Tryd.ntmps92 rfl ?_
  refine at_seq ?_
  refine at_region ?_
  refine at_do (does_assign rfl) rfl rfl ?_
  refine at_nil ?_
  refine at_then ?_
  refine at_seq ?_
  refine at_seq ?_
  refine at_region ?_
  refine at_do (does_move rfl) rfl rfl ?_
  refine at_do (does_len (by kernel_rfl) rfl) rfl rfl ?_
  refine at_do (does_move rfl) rfl rfl ?_
  refine at_nil ?_
  refine at_then ?_
  refine at_block ?_
  rotate_left
  refine at_loop0 (fun j : Nat => j ≤ ks.length ∧ (ks.take j).any (later zs i) = false) (fun j => [(0, .slice A0 (ints ks).length c0), (1, lookFn h1 h2), (7, .int .i64 (ints ks).length), (8, .int .i64 j)]) (fun j => ks.length - j) 0 ⟨Nat.zero_le _, rfl⟩ ⟨rfl, rfl, rfl, rfl, trivial⟩ ?_
  rintro j ⟨hj, hI⟩
  by_cases hjl : j < ks.length
  · obtain ⟨gb, o, c1, hv, hc, hlt, hcell⟩ := hV.form (by omega)
    simp only [Value.slice.injEq, true_and] at hv
    obtain ⟨rfl, rfl⟩ := hv
    have hcj : w.cell? ⟨gb, o + j, none⟩ = some (.int .i64 ((ks[j] : Nat) : Int)) := hcell j _ (by simp [ints, hjl])
    have hk := hks ks[j] (List.getElem_mem hjl)
    have hI2 := any_take (p := later zs i) hjl
    generalize ks[j] = k at hcj hk hI2
    cases hf : later zs i k
    · have hf' : ¬ zs.getD i 0 < zs.getD k 0 := of_decide_eq_false hf
      refine at_seq ?_
      refine at_region ?_
      refine at_do (does_lss rfl rfl) rfl rfl ?_
      refine at_nil ?_
      refine at_then ?_
      refine at_seq ?_
      refine at_cond_t rfl (decide_eq_true (by omega)) ?_
      refine at_skip ?_
      refine at_then ?_
      refine at_seq ?_
      refine at_block ?_
      refine at_seq ?_
      refine at_region ?_
      refine at_do (does_move rfl) rfl rfl ?_
      refine at_do (does_assign rfl) rfl rfl ?_
      refine at_nil ?_
      refine at_then ?_
      refine at_seq ?_
      refine at_region ?_
      refine at_do (does_move rfl) rfl rfl ?_
      refine at_do (does_move rfl) rfl rfl ?_
      refine at_do (does_move rfl) rfl rfl ?_
      refine at_do (does_indexAddr1 (by kernel_rfl) rfl rfl (by omega)) rfl rfl ?_
      refine at_do (does_load_mem (by kernel_rfl) rfl (fun w' ho => Below.cellOld ho.plain hcj)) rfl rfl ?_
      refine at_callv (f := 68) (enters_val rfl (by kernel_rfl) rfl) (fun w ho => swap_look h1 h2 gp n c i k zs w (hL.keep ho.plain) hi hk) rfl rfl ?_
      refine at_nil ?_
      refine at_then ?_
      refine at_cond_f rfl (decide_eq_false (by exact hf')) ?_
      refine at_skip ?_
      refine at_inb ?_
      refine at_then ?_
      refine at_region ?_
      refine at_do (does_addi rfl rfl (by omega)) rfl rfl ?_
      refine at_do (does_move rfl) rfl rfl ?_
      refine at_nil ?_
      refine at_then ?_
      rotate_left
      refine at_again0 (j + 1) ⟨by omega, by rw [hI2, hI, hf]; rfl⟩ (by omega) ⟨rfl, rfl, rfl, rfl, trivial⟩
    · have hf' : zs.getD i 0 < zs.getD k 0 := of_decide_eq_true hf
      refine at_seq ?_
      refine at_region ?_
      refine at_do (does_lss rfl rfl) rfl rfl ?_
      refine at_nil ?_
      refine at_then ?_
      refine at_seq ?_
      refine at_cond_t rfl (decide_eq_true (by omega)) ?_
      refine at_skip ?_
      refine at_then ?_
      refine at_seq ?_
      refine at_block ?_
      refine at_seq ?_
      refine at_region ?_
      refine at_do (does_move rfl) rfl rfl ?_
      refine at_do (does_assign rfl) rfl rfl ?_
      refine at_nil ?_
      refine at_then ?_
      refine at_seq ?_
      refine at_region ?_
      refine at_do (does_move rfl) rfl rfl ?_
      refine at_do (does_move rfl) rfl rfl ?_
      refine at_do (does_move rfl) rfl rfl ?_
      refine at_do (does_indexAddr1 (by kernel_rfl) rfl rfl (by omega)) rfl rfl ?_
      refine at_do (does_load_mem (by kernel_rfl) rfl (fun w' ho => Below.cellOld ho.plain hcj)) rfl rfl ?_
      refine at_callv (f := 68) (enters_val rfl (by kernel_rfl) rfl) (fun w ho => swap_look h1 h2 gp n c i k zs w (hL.keep ho.plain) hi hk) rfl rfl ?_
      refine at_nil ?_
      refine at_then ?_
      refine at_cond_t rfl (decide_eq_true (by exact hf')) ?_
      refine at_seq ?_
      refine at_region ?_
      refine at_do (does_move rfl) rfl rfl ?_
      refine at_do (does_assign rfl) rfl rfl ?_
      refine at_nil ?_
      refine at_then ?_
      refine at_ret ?_
      refine at_inb_ret ?_
      refine at_then_ret ?_
      refine at_then_ret ?_
      refine at_inb_ret ?_
      refine at_then_ret ?_
      refine at_ret1 rfl rfl rfl (fun w9 ho9 => ?_)
      rotate_left
      exact ⟨_, rfl, ho9.plain, j, rfl⟩
  · obtain rfl : j = ks.length := by omega
    rw [List.take_length] at hI
    exact absurd (hI.symm.trans h) (by simp)
theorem contains_later (h1 h2 gp n c i : Nat) (zs : List Int) (arg : Value) (ks : List Nat) (w : World) (hL : Look w h1 h2 gp n c zs i) (hi : i < n) (hV : ValsAt w arg (ints ks)) (hks : ∀ k ∈ ks, k < n) (hl : ks.length ≤ 100000) :
    Calls Tryd.prog 67 #[arg, lookFn h1 h2] w fun e w' => e = .returned (.bool (ks.any (later zs i))) ∧ Below w.heap.size w w' := by
  refine calls_plain Tryd.func67 rfl Tryd.ntmps67 rfl ?_
  cases h : ks.any (later zs i)
  · refine at_seq ?_
    refine at_region ?_
    refine at_do (does_assign rfl) rfl rfl ?_
    refine at_nil ?_
    refine at_then ?_
    refine at_seq ?_
    refine at_region ?_
    refine at_do (does_move rfl) rfl rfl ?_
    refine at_do (does_move rfl) rfl rfl ?_
    refine at_callv (f := 92) (enters_fn (by kernel_rfl) rfl) (fun w ho => idx_none h1 h2 gp n c i zs arg ks w (hL.keep ho.plain) hi (ho.oldVals hV) hks hl h) rfl rfl ?_
    refine at_do (does_geq rfl rfl) rfl rfl ?_
    refine at_do (does_assign rfl) rfl rfl ?_
    refine at_nil ?_
    refine at_then ?_
    refine at_ret ?_
    refine at_ret1 rfl rfl rfl (fun w9 ho9 => ?_)
    rotate_left
    exact ⟨rfl, ho9.plain⟩
  · refine at_seq ?_
    refine at_region ?_
    refine at_do (does_assign rfl) rfl rfl ?_
    refine at_nil ?_
    refine at_then ?_
    refine at_seq ?_
    refine at_region ?_
    refine at_do (does_move rfl) rfl rfl ?_
    refine at_do (does_move rfl) rfl rfl ?_
    refine at_callk (f := 92) (Φ := fun v _ => ∃ m : Nat, v = .int .i64 (m : Int)) (enters_fn (by kernel_rfl) rfl) (fun w ho => idx_some h1 h2 gp n c i zs arg ks w (hL.keep ho.plain) hi (ho.oldVals hV) hks hl h) rfl rfl (fun v w1 hw1 hv => ?_)
    rotate_left
    obtain ⟨m, rfl⟩ := hv
    refine at_do (does_geq rfl rfl) rfl rfl ?_
    refine at_do (does_assign rfl) rfl rfl ?_
    refine at_nil ?_
    refine at_then ?_
    refine at_ret ?_
    refine at_ret1 rfl rfl rfl (fun w9 ho9 => ?_)
    rotate_left
    exact ⟨ret_bool (decide_eq_true (Int.natCast_nonneg m)), ho9.plain⟩
end Go.Proofs.YtchfecmabhfooaaDoor
