/-
  A table of locks, and what is read of it: whether there is a place, those that one waits for, whether one may begin. No condition of its own.
  What is read of a table of locks: those that may begin, run, are left; those that one waits for. No condition of its own.
  A table of locks made, and turned: one begins, or is ended. No condition of its own.
  Of a table of locks one begins, or is ended; those that one waits for. No condition of its own.
-/
import Derived.Test.YtchfecmabhfooaaDoorClash19
set_option linter.unusedSimpArgs false
set_option linter.unusedVariables false
namespace Go.Proofs.YtchfecmabhfooaaDoor
open Go.RowKit

/-- How far each is. -/
def ph (ps : List Nat) (i : Nat) : Nat := ps.getD i 0
def holdL (L : List Want2) (ps : List Nat) (i : Nat) : List Nat := (aheadL L i).filter fun k => decide (ph ps k ≠ 2)
def mayL (L : List Want2) (ps : List Nat) (i : Nat) : Bool := decide (ph ps i = 0) && decide ((holdL L ps i).length = 0)
/-- A table that lies there: at gt, those ahead at gh, how far each is at gp. -/
structure Tab (w : World) (gt gh ca gp cp : Nat) (L : List Want2) (ps : List Nat) : Prop where
  f0 : w.cell? ⟨gt, 0, none⟩ = some (.slice (some ⟨gh, 0, none⟩) L.length ca)
  f1 : w.cell? ⟨gt, 1, none⟩ = some (.slice (some ⟨gp, 0, none⟩) L.length cp)
  rows : ∀ i, i < L.length → ∃ u, w.cell? ⟨gh, 0 + i, none⟩ = some u ∧ ValsAt w u (ints (aheadL L i))
  phs : ∀ i, i < L.length → w.cell? ⟨gp, 0 + i, none⟩ = some (.int .i64 ((ph ps i : Nat) : Int))
  few : L.length ≤ 1000
  two : ∀ i, ph ps i ≤ 2
theorem Tab.keep {w w' : World} {gt gh ca gp cp : Nat} {L : List Want2} {ps : List Nat} (h : Tab w gt gh ca gp cp L ps) (hb : Below w.heap.size w w') : Tab w' gt gh ca gp cp L ps :=
  ⟨Below.cellOld hb h.f0, Below.cellOld hb h.f1, keep_ahead h.rows hb, fun i hi => Below.cellOld hb (h.phs i hi), h.few, h.two⟩
attribute [local irreducible] cwp lwp Exit.then Exit.inBlock Exit.noGoto wpQuiet Calls fin At AtQ Again endQ RQ
theorem tab_is {w : World} {gt gh ca gp cp : Nat} {L : List Want2} {ps : List Nat} (h : Tab w gt gh ca gp cp L ps) (i : Int) :
    Calls Tryd.prog 69 #[.pointer (some ⟨gt, 0, none⟩), .int .i64 i] w fun e w' => e = .returned (.bool (decide (0 ≤ i ∧ i < L.length))) ∧ Below w.heap.size w w' := by
  refine calls_plain Tryd.func69 rfl Tryd.ntmps69 rfl ?_
  by_cases h0 : 0 ≤ i
  · refine at_seq ?_
    refine at_region ?_
    refine at_do (does_assign rfl) rfl rfl ?_
    refine at_nil ?_
    refine at_then ?_
    refine at_seq ?_
    refine at_region ?_
    refine at_do (does_move rfl) rfl rfl ?_
    refine at_do (does_geq rfl rfl) rfl rfl ?_
    refine at_do (does_move rfl) rfl rfl ?_
    refine at_know (t := 7) (d := true) rfl (decide_eq_true (by omega)) ?_
    refine at_on rfl rfl ?_
    refine at_do (does_move rfl) rfl rfl ?_
    refine at_on rfl rfl ?_
    refine at_do (does_move rfl) rfl rfl ?_
    refine at_on rfl rfl ?_
    refine at_do (does_nilCheck rfl) rfl rfl ?_
    refine at_on rfl rfl ?_
    refine at_do (does_fieldAddr (o := 1) (by kernel_rfl) rfl) rfl rfl ?_
    refine at_on rfl rfl ?_
    refine at_do (does_load_mem (by kernel_rfl) rfl (fun w' ho => Below.cellOld ho.plain h.f1)) rfl rfl ?_
    refine at_on rfl rfl ?_
    refine at_do (does_len (by kernel_rfl) rfl) rfl rfl ?_
    refine at_on rfl rfl ?_
    refine at_do (does_lss rfl rfl) rfl rfl ?_
    refine at_do (does_pick_true rfl rfl) rfl rfl ?_
    refine at_do (does_assign rfl) rfl rfl ?_
    refine at_nil ?_
    refine at_then ?_
    refine at_ret ?_
    refine at_ret1 rfl rfl rfl (fun w9 ho9 => ?_)
    rotate_left
    exact ⟨ret_bool (by exact decide_eq_decide.2 ⟨fun hlt => ⟨h0, hlt⟩, fun hlt => hlt.2⟩), ho9.plain⟩
  · refine at_seq ?_
    refine at_region ?_
    refine at_do (does_assign rfl) rfl rfl ?_
    refine at_nil ?_
    refine at_then ?_
    refine at_seq ?_
    refine at_region ?_
    refine at_do (does_move rfl) rfl rfl ?_
    refine at_do (does_geq rfl rfl) rfl rfl ?_
    refine at_do (does_move rfl) rfl rfl ?_
    refine at_know (t := 7) (d := false) rfl (decide_eq_false (by omega)) ?_
    refine at_no rfl rfl rfl rfl ?_
    refine at_no rfl rfl rfl rfl ?_
    refine at_no rfl rfl rfl rfl ?_
    refine at_no rfl rfl rfl rfl ?_
    refine at_no rfl rfl rfl rfl ?_
    refine at_no rfl rfl rfl rfl ?_
    refine at_no rfl rfl rfl rfl ?_
    refine at_do (does_pick_false rfl rfl) rfl rfl ?_
    refine at_do (does_assign rfl) rfl rfl ?_
    refine at_nil ?_
    refine at_then ?_
    refine at_ret ?_
    refine at_ret1 rfl rfl rfl (fun w9 ho9 => ?_)
    rotate_left
    exact ⟨ret_bool (by symm; exact decide_eq_false (fun hh => h0 hh.1)), ho9.plain⟩
set_option maxHeartbeats 4000000 in
theorem tab_holding {w : World} {gt gh ca gp cp : Nat} {L : List Want2} {ps : List Nat} (h : Tab w gt gh ca gp cp L ps) (i : Nat) (hi : i < L.length) :
    Calls Tryd.prog 72 #[.pointer (some ⟨gt, 0, none⟩), .int .i64 (i : Int)] w fun e w' => ∃ v, e = .returned v ∧ Below w.heap.size w w' ∧ w'.ownsRow w.heap.size 3 1 v (holdL L ps i).length (ints (holdL L ps i)) := by
  have hfew := h.few
  obtain ⟨u, hu, huv⟩ := h.rows i hi
  have hkl : (aheadL L i).length ≤ i := flt_len L i i
  have hks : ∀ k ∈ aheadL L i, k < i := fun k hk => flt_mem hk
  have hH : holdL L ps i = (aheadL L i).filter fun k => decide (ph ps k ≠ 2) := rfl
  rw [hH]
  clear hH
  generalize aheadL L i = ks at huv hkl hks ⊢
  have hil : (ints ks).length = ks.length := by simp [ints]
  obtain ⟨A0, c0, rfl⟩ := huv.len
  refine calls_plain Tryd.func72 rfl Tryd.ntmps72 rfl ?_
  refine at_seq ?_
  refine at_region ?_
  refine at_do (does_assign rfl) rfl rfl ?_
  refine at_nil ?_
  refine at_then ?_
  refine at_seq ?_
  refine at_region ?_
  refine at_do (does_assign rfl) rfl rfl ?_
  refine at_nil ?_
  refine at_then ?_
  refine at_seq ?_
  refine at_seq ?_
  refine at_region ?_
  refine at_do (does_move rfl) rfl rfl ?_
  refine at_do (does_nilCheck rfl) rfl rfl ?_
  refine at_do (does_fieldAddr (o := 0) (by kernel_rfl) rfl) rfl rfl ?_
  refine at_do (does_load_mem (by kernel_rfl) rfl (fun w' ho => Below.cellOld ho.plain h.f0)) rfl rfl ?_
  refine at_do (does_move rfl) rfl rfl ?_
  refine at_do (does_indexAddr1 (j := i) (by kernel_rfl) rfl rfl hi) rfl rfl ?_
  refine at_do (does_load_mem (by kernel_rfl) rfl (fun w' ho => Below.cellOld ho.plain hu)) rfl rfl ?_
  refine at_do (does_len (by kernel_rfl) rfl) rfl rfl ?_
  refine at_do (does_move rfl) rfl rfl ?_
  refine at_nil ?_
  refine at_then ?_
  refine at_block ?_
  rotate_left
  refine at_nilrow 3 1 ?_
  refine at_loopH (σ := Value × Nat) (fun s => s.2 ≤ ks.length) (fun s => [(0, .pointer (some ⟨gt, 0, none⟩)), (5, s.1), (14, .slice A0 (ints ks).length c0), (15, .int .i64 (ints ks).length), (16, .int .i64 s.2)])
    (fun s => [.row s.1 3 1 ((ks.take s.2).filter fun k => decide (ph ps k ≠ 2)).length (ints ((ks.take s.2).filter fun k => decide (ph ps k ≠ 2)))]) (fun s => ks.length - s.2)
    (fun w ho => ⟨(.slice none 0 0, 0), Nat.zero_le _, ⟨rfl, rfl, rfl, rfl, rfl, trivial⟩, ho⟩) ?_
  rintro ⟨v5, j⟩ hj
  simp only at hj
  have hfl : ((ks.take j).filter fun k => decide (ph ps k ≠ 2)).length ≤ j := by
    refine Nat.le_trans (List.length_filter_le _ _) ?_
    simp; omega
  by_cases hjl : j < ks.length
  · obtain ⟨gb, o, c1, hv, hc, hlt, hcell⟩ := huv.form (by omega)
    simp only [Value.slice.injEq, true_and] at hv
    obtain ⟨rfl, rfl⟩ := hv
    have hcj : w.cell? ⟨gb, o + j, none⟩ = some (.int .i64 ((ks[j] : Nat) : Int)) := hcell j _ (by simp [ints, hjl])
    have hk := hks ks[j] (List.getElem_mem hjl)
    have hst : (ks.take (j + 1)).filter (fun k => decide (ph ps k ≠ 2)) = (ks.take j).filter (fun k => decide (ph ps k ≠ 2)) ++ if ph ps ks[j] = 2 then [] else [ks[j]] := by
      rw [List.take_succ_eq_append_getElem hjl, List.filter_append]
      congr 1
      by_cases h2 : ph ps ks[j] = 2 <;> simp [h2]
    generalize (ks.take j).filter (fun k => decide (ph ps k ≠ 2)) = os at hst hfl ⊢
    generalize ks[j] = k at hcj hk hst
    have hpk := h.phs k (by omega)
    by_cases h2 : ph ps k = 2
    · rw [if_pos h2, List.append_nil] at hst
      rw [h2] at hpk
      refine at_seq ?_
      refine at_region ?_
      refine at_do (does_lss rfl rfl) rfl rfl ?_
      refine at_nil ?_
      refine at_then ?_
      refine at_seq ?_
      refine at_cond_t rfl (decide_eq_true (by omega)) ?_
      refine at_skip ?_
      refine at_then ?_
      refine at_seq ?_
      refine at_block ?_
      refine at_seq ?_
      refine at_region ?_
      refine at_do (does_indexAddr1 (by kernel_rfl) rfl rfl (by (first | omega | (simp only; omega)))) rfl rfl ?_
      refine at_do (does_load_mem (by kernel_rfl) rfl (fun w' ho => Below.cellOld ho.plain hcj)) rfl rfl ?_
      refine at_do (does_assign rfl) rfl rfl ?_
      refine at_nil ?_
      refine at_then ?_
      refine at_seq ?_
      refine at_region ?_
      refine at_do (does_move rfl) rfl rfl ?_
      refine at_do (does_nilCheck rfl) rfl rfl ?_
      refine at_do (does_fieldAddr (o := 1) (by kernel_rfl) rfl) rfl rfl ?_
      refine at_do (does_load_mem (by kernel_rfl) rfl (fun w' ho => Below.cellOld ho.plain h.f1)) rfl rfl ?_
      refine at_do (does_move rfl) rfl rfl ?_
      refine at_do (does_indexAddr1 (j := k) (by kernel_rfl) rfl rfl (by omega)) rfl rfl ?_
      refine at_do (does_load_mem (by kernel_rfl) rfl (fun w' ho => Below.cellOld ho.plain hpk)) rfl rfl ?_
      refine at_do (does_neq rfl rfl) rfl rfl ?_
      refine at_nil ?_
      refine at_then ?_
      refine at_cond_f rfl (decide_eq_false (by omega)) ?_
      refine at_skip ?_
      refine at_inb ?_
      refine at_then ?_
      refine at_region ?_
      refine at_do (does_addi rfl rfl (by (first | omega | (simp only; omega)))) rfl rfl ?_
      refine at_do (does_move rfl) rfl rfl ?_
      refine at_nil ?_
      refine at_then ?_
      rotate_left
      refine at_againw fun w ho => ⟨(v5, j + 1), by show j + 1 ≤ ks.length; omega, by show ks.length - (j + 1) < ks.length - j; omega, ⟨rfl, rfl, rfl, rfl, rfl, trivial⟩, rfl, ?_⟩
      simp only
      rw [hst]; exact ho
    · rw [if_neg h2] at hst
      have h2' : ((ph ps k : Nat) : Int) ≠ 2 := by omega
      generalize ph ps k = q at hpk h2'
      refine at_seq ?_
      refine at_region ?_
      refine at_do (does_lss rfl rfl) rfl rfl ?_
      refine at_nil ?_
      refine at_then ?_
      refine at_seq ?_
      refine at_cond_t rfl (decide_eq_true (by omega)) ?_
      refine at_skip ?_
      refine at_then ?_
      refine at_seq ?_
      refine at_block ?_
      refine at_seq ?_
      refine at_region ?_
      refine at_do (does_indexAddr1 (by kernel_rfl) rfl rfl (by (first | omega | (simp only; omega)))) rfl rfl ?_
      refine at_do (does_load_mem (by kernel_rfl) rfl (fun w' ho => Below.cellOld ho.plain hcj)) rfl rfl ?_
      refine at_do (does_assign rfl) rfl rfl ?_
      refine at_nil ?_
      refine at_then ?_
      refine at_seq ?_
      refine at_region ?_
      refine at_do (does_move rfl) rfl rfl ?_
      refine at_do (does_nilCheck rfl) rfl rfl ?_
      refine at_do (does_fieldAddr (o := 1) (by kernel_rfl) rfl) rfl rfl ?_
      refine at_do (does_load_mem (by kernel_rfl) rfl (fun w' ho => Below.cellOld ho.plain h.f1)) rfl rfl ?_
      refine at_do (does_move rfl) rfl rfl ?_
      refine at_do (does_indexAddr1 (j := k) (by kernel_rfl) rfl rfl (by omega)) rfl rfl ?_
      refine at_do (does_load_mem (by kernel_rfl) rfl (fun w' ho => Below.cellOld ho.plain hpk)) rfl rfl ?_
      refine at_do (does_neq rfl rfl) rfl rfl ?_
      refine at_nil ?_
      refine at_then ?_
      refine at_cond_t rfl (decide_eq_true (by omega)) ?_
      refine at_region ?_
      refine at_do (does_move rfl) rfl rfl ?_
      refine at_do (does_move rfl) rfl rfl ?_
      refine at_buildSlice (e := 3) (sz := 1) (vs := [.int .i64 k]) (cs := [.int .i64 k]) (by kernel_rfl) rfl rfl rfl rfl rfl rfl (fun g3 => ?_)
      refine at_append (i := 1) (sz := 1) (by' := 8) (k := 1) (A := ⟨g3, 0, none⟩) (news := [.int .i64 k]) (by kernel_rfl) rfl rfl rfl rfl (fun w ho => lit_cells ho (i := 0) rfl) (oneCell_of rfl) (by simp only [maxLen]; omega) rfl (fun v' hv' => ?_)
      refine at_do (does_assign rfl) rfl rfl ?_
      refine at_nil ?_
      refine at_inb ?_
      refine at_then ?_
      refine at_region ?_
      refine at_do (does_addi rfl rfl (by (first | omega | (simp only; omega)))) rfl rfl ?_
      refine at_do (does_move rfl) rfl rfl ?_
      refine at_nil ?_
      refine at_then ?_
      rotate_left
      refine at_againw fun w ho => ⟨(v', j + 1), by show j + 1 ≤ ks.length; omega, by show ks.length - (j + 1) < ks.length - j; omega, ⟨rfl, rfl, rfl, rfl, rfl, trivial⟩, rfl, ?_⟩
      simp only
      have e1 : (os ++ [k]).length = os.length + 1 := by simp
      have e2 : ints (os ++ [k]) = ints os ++ [.int .i64 k] := by simp [ints]
      rw [hst, e1, e2]
      exact ho.sublist (List.sublist_cons_self ..)
  · obtain rfl : j = ks.length := by omega
    rw [List.take_length] at hfl ⊢
    refine at_seq ?_
    refine at_region ?_
    refine at_do (does_lss rfl rfl) rfl rfl ?_
    refine at_nil ?_
    refine at_then ?_
    refine at_seq ?_
    refine at_cond_f rfl (decide_eq_false (by omega)) ?_
    refine at_exit ?_
    refine at_then_exit ?_
    refine at_then_exit ?_
    refine at_inb_here ?_
    refine at_then ?_
    refine at_seq ?_
    refine at_region ?_
    refine at_do (does_move rfl) rfl rfl ?_
    refine at_do (does_assign rfl) rfl rfl ?_
    refine at_nil ?_
    refine at_then ?_
    refine at_ret ?_
    refine at_ret1 rfl rfl rfl (fun w9 ho9 => ?_)
    rotate_left
    exact ⟨_, rfl, ho9.plain, ho9.rowOut (List.mem_cons_self ..)⟩
theorem tab_may {w : World} {gt gh ca gp cp : Nat} {L : List Want2} {ps : List Nat} (h : Tab w gt gh ca gp cp L ps) (i : Nat) (hi : i < L.length) :
    Calls Tryd.prog 70 #[.pointer (some ⟨gt, 0, none⟩), .int .i64 (i : Int)] w fun e w' => e = .returned (.bool (mayL L ps i)) ∧ Below w.heap.size w w' := by
  have hpi := h.phs i hi
  refine calls_plain Tryd.func70 rfl Tryd.ntmps70 rfl ?_
  by_cases h0 : ph ps i = 0
  · rw [h0] at hpi
    refine at_seq ?_
    refine at_region ?_
    refine at_do (does_assign rfl) rfl rfl ?_
    refine at_nil ?_
    refine at_then ?_
    refine at_seq ?_
    refine at_region ?_
    refine at_do (does_move rfl) rfl rfl ?_
    refine at_do (does_nilCheck rfl) rfl rfl ?_
    refine at_do (does_fieldAddr (o := 1) (by kernel_rfl) rfl) rfl rfl ?_
    refine at_do (does_load_mem (by kernel_rfl) rfl (fun w' ho => Below.cellOld ho.plain h.f1)) rfl rfl ?_
    refine at_do (does_move rfl) rfl rfl ?_
    refine at_do (does_indexAddr1 (j := i) (by kernel_rfl) rfl rfl hi) rfl rfl ?_
    refine at_do (does_load_mem (by kernel_rfl) rfl (fun w' ho => Below.cellOld ho.plain hpi)) rfl rfl ?_
    refine at_do (does_eql rfl rfl) rfl rfl ?_
    refine at_do (does_move rfl) rfl rfl ?_
    refine at_know (t := 13) (d := true) rfl (decide_eq_true (by decide)) ?_
    refine at_on rfl rfl ?_
    refine at_do (does_move rfl) rfl rfl ?_
    refine at_on rfl rfl ?_
    refine at_do (does_move rfl) rfl rfl ?_
    refine at_on rfl rfl ?_
    refine at_callrow (f := 72) (enters_fn (by kernel_rfl) rfl) (fun w ho => tab_holding (h.keep ho.plain) i hi) rfl rfl (fun v16 => ?_)
    refine at_on rfl rfl ?_
    refine at_do (does_rowlen (i := 0) (by kernel_rfl) rfl rfl) rfl rfl ?_
    refine at_on rfl rfl ?_
    refine at_do (does_eql rfl rfl) rfl rfl ?_
    refine at_do (does_pick_true rfl rfl) rfl rfl ?_
    refine at_do (does_assign rfl) rfl rfl ?_
    refine at_nil ?_
    refine at_then ?_
    refine at_ret ?_
    refine at_ret1 rfl rfl rfl (fun w9 ho9 => ?_)
    rotate_left
    exact ⟨ret_bool (by rw [mayL, h0, Bool.eq_iff_iff]; simp), ho9.plain⟩
  · have h0' : ¬ ((ph ps i : Nat) : Int) = 0 := by omega
    have hm : mayL L ps i = false := by rw [mayL, decide_eq_false h0]; rfl
    generalize ph ps i = q at hpi h0'
    refine at_seq ?_
    refine at_region ?_
    refine at_do (does_assign rfl) rfl rfl ?_
    refine at_nil ?_
    refine at_then ?_
    refine at_seq ?_
    refine at_region ?_
    refine at_do (does_move rfl) rfl rfl ?_
    refine at_do (does_nilCheck rfl) rfl rfl ?_
    refine at_do (does_fieldAddr (o := 1) (by kernel_rfl) rfl) rfl rfl ?_
    refine at_do (does_load_mem (by kernel_rfl) rfl (fun w' ho => Below.cellOld ho.plain h.f1)) rfl rfl ?_
    refine at_do (does_move rfl) rfl rfl ?_
    refine at_do (does_indexAddr1 (j := i) (by kernel_rfl) rfl rfl hi) rfl rfl ?_
    refine at_do (does_load_mem (by kernel_rfl) rfl (fun w' ho => Below.cellOld ho.plain hpi)) rfl rfl ?_
    refine at_do (does_eql rfl rfl) rfl rfl ?_
    refine at_do (does_move rfl) rfl rfl ?_
    refine at_know (t := 13) (d := false) rfl (decide_eq_false (by omega)) ?_
    refine at_no rfl rfl rfl rfl ?_
    refine at_no rfl rfl rfl rfl ?_
    refine at_no rfl rfl rfl rfl ?_
    refine at_no rfl rfl rfl rfl ?_
    refine at_no rfl rfl rfl rfl ?_
    refine at_do (does_pick_false rfl rfl) rfl rfl ?_
    refine at_do (does_assign rfl) rfl rfl ?_
    refine at_nil ?_
    refine at_then ?_
    refine at_ret ?_
    refine at_ret1 rfl rfl rfl (fun w9 ho9 => ?_)
    rotate_left
    exact ⟨ret_bool hm.symm, ho9.plain⟩
end Go.Proofs.YtchfecmabhfooaaDoor
set_option linter.unusedSimpArgs false
set_option linter.unusedVariables false
namespace Go.Proofs.YtchfecmabhfooaaDoor
open Go.RowKit
attribute [local irreducible] cwp lwp Exit.then Exit.inBlock Exit.noGoto wpQuiet Calls fin At AtQ Again endQ RQ

def allOf (n : Nat) (p : Nat → Bool) : List Nat := (List.range n).filter p
theorem allOf_succ (n : Nat) (p : Nat → Bool) : allOf (n + 1) p = allOf n p ++ if p n then [n] else [] := by
  unfold allOf
  rw [List.range_succ, List.filter_append]
  congr 1
  cases h : p n <;> simp [h]
theorem allOf_len (n : Nat) (p : Nat → Bool) : (allOf n p).length ≤ n := by
  refine Nat.le_trans (List.length_filter_le _ _) ?_
  simp
theorem mem_allOf {n i : Nat} {p : Nat → Bool} : i ∈ allOf n p ↔ i < n ∧ p i = true := by simp [allOf]
set_option maxHeartbeats 4000000 in
theorem tab_each {w : World} {gt gh ca gp cp : Nat} {L : List Want2} {ps : List Nat} (h : Tab w gt gh ca gp cp L ps) (f : FuncId) (first cap : List Value) (p : Nat → Bool) (hf : entr Tryd.prog f = true)
    (hc : ∀ w' i, Below w.heap.size w w' → i < L.length → Calls Tryd.prog f (first ++ [Value.int .i64 (i : Int)] ++ cap).toArray w' fun e w3 => e = .returned (.bool (p i)) ∧ Below w'.heap.size w' w3) :
    Calls Tryd.prog 73 #[.pointer (some ⟨gt, 0, none⟩), .func (.func f) first.toArray cap.toArray] w fun e w' => ∃ v, e = .returned v ∧ Below w.heap.size w w' ∧ w'.ownsRow w.heap.size 3 1 v (allOf L.length p).length (ints (allOf L.length p)) := by
  have hfew := h.few
  refine calls_plain Tryd.func73 rfl Tryd.ntmps73 rfl ?_
  refine at_seq ?_
  refine at_region ?_
  refine at_do (does_assign rfl) rfl rfl ?_
  refine at_nil ?_
  refine at_then ?_
  refine at_seq ?_
  refine at_region ?_
  refine at_do (does_assign rfl) rfl rfl ?_
  refine at_nil ?_
  refine at_then ?_
  refine at_seq ?_
  refine at_seq ?_
  refine at_region ?_
  refine at_do (does_move rfl) rfl rfl ?_
  refine at_do (does_nilCheck rfl) rfl rfl ?_
  refine at_do (does_fieldAddr (o := 1) (by kernel_rfl) rfl) rfl rfl ?_
  refine at_do (does_load_mem (by kernel_rfl) rfl (fun w' ho => Below.cellOld ho.plain h.f1)) rfl rfl ?_
  refine at_do (does_len (by kernel_rfl) rfl) rfl rfl ?_
  refine at_do (does_move rfl) rfl rfl ?_
  refine at_nil ?_
  refine at_then ?_
  refine at_block ?_
  rotate_left
  refine at_nilrow 3 1 ?_
  refine at_loopH (σ := Value × Nat) (fun s => s.2 ≤ L.length) (fun s => [(0, .pointer (some ⟨gt, 0, none⟩)), (1, .func (.func f) first.toArray cap.toArray), (5, s.1), (11, .int .i64 L.length), (12, .int .i64 s.2)])
    (fun s => [.row s.1 3 1 (allOf s.2 p).length (ints (allOf s.2 p))]) (fun s => L.length - s.2)
    (fun w ho => ⟨(.slice none 0 0, 0), Nat.zero_le _, ⟨rfl, rfl, rfl, rfl, rfl, trivial⟩, ho⟩) ?_
  rintro ⟨v5, i⟩ hi
  simp only at hi
  by_cases hil : i < L.length
  · have hst := allOf_succ i p
    have hol := allOf_len i p
    have cF : ∀ w', Below w.heap.size w w' → Calls Tryd.prog f (first ++ [Value.int .i64 (i : Int)] ++ cap).toArray w' fun e w3 => e = .returned (.bool (p i)) ∧ Below w'.heap.size w' w3 := fun w' hb => hc w' i hb hil
    generalize allOf i p = os at hst hol ⊢
    generalize p i = pi at hst cF
    cases pi
    · rw [if_neg (by simp), List.append_nil] at hst
      refine at_seq ?_
      refine at_region ?_
      refine at_do (does_lss rfl rfl) rfl rfl ?_
      refine at_nil ?_
      refine at_then ?_
      refine at_seq ?_
      refine at_cond_t rfl (decide_eq_true (by omega)) ?_
      refine at_skip ?_
      refine at_then ?_
      refine at_seq ?_
      refine at_block ?_
      refine at_seq ?_
      refine at_region ?_
      refine at_do (does_move rfl) rfl rfl ?_
      refine at_do (does_assign rfl) rfl rfl ?_
      refine at_nil ?_
      refine at_then ?_
      refine at_seq ?_
      refine at_region ?_
      refine at_do (does_move rfl) rfl rfl ?_
      refine at_do (does_move rfl) rfl rfl ?_
      refine at_callv (f := f) (enters_val rfl hf rfl) (fun w ho => cF w ho.plain) rfl rfl ?_
      refine at_nil ?_
      refine at_then ?_
      refine at_cond_false rfl ?_
      refine at_skip ?_
      refine at_inb ?_
      refine at_then ?_
      refine at_region ?_
      refine at_do (does_addi rfl rfl (by omega)) rfl rfl ?_
      refine at_do (does_move rfl) rfl rfl ?_
      refine at_nil ?_
      refine at_then ?_
      rotate_left
      refine at_againw fun w ho => ⟨(v5, i + 1), by show i + 1 ≤ L.length; omega, by show L.length - (i + 1) < L.length - i; omega, ⟨rfl, rfl, rfl, rfl, rfl, trivial⟩, rfl, ?_⟩
      simp only
      rw [hst]; exact ho
    · rw [if_pos rfl] at hst
      refine at_seq ?_
      refine at_region ?_
      refine at_do (does_lss rfl rfl) rfl rfl ?_
      refine at_nil ?_
      refine at_then ?_
      refine at_seq ?_
      refine at_cond_t rfl (decide_eq_true (by omega)) ?_
      refine at_skip ?_
      refine at_then ?_
      refine at_seq ?_
      refine at_block ?_
      refine at_seq ?_
      refine at_region ?_
      refine at_do (does_move rfl) rfl rfl ?_
      refine at_do (does_assign rfl) rfl rfl ?_
      refine at_nil ?_
      refine at_then ?_
      refine at_seq ?_
      refine at_region ?_
      refine at_do (does_move rfl) rfl rfl ?_
      refine at_do (does_move rfl) rfl rfl ?_
      refine at_callv (f := f) (enters_val rfl hf rfl) (fun w ho => cF w ho.plain) rfl rfl ?_
      refine at_nil ?_
      refine at_then ?_
      refine at_cond_true rfl ?_
      refine at_region ?_
      refine at_do (does_move rfl) rfl rfl ?_
      refine at_do (does_move rfl) rfl rfl ?_
      refine at_buildSlice (e := 3) (sz := 1) (vs := [.int .i64 i]) (cs := [.int .i64 i]) (by kernel_rfl) rfl rfl rfl rfl rfl rfl (fun g3 => ?_)
      refine at_append (i := 1) (sz := 1) (by' := 8) (k := 1) (A := ⟨g3, 0, none⟩) (news := [.int .i64 i]) (by kernel_rfl) rfl rfl rfl rfl (fun w ho => lit_cells ho (i := 0) rfl) (oneCell_of rfl) (by simp only [maxLen]; omega) rfl (fun v' hv' => ?_)
      refine at_do (does_assign rfl) rfl rfl ?_
      refine at_nil ?_
      refine at_inb ?_
      refine at_then ?_
      refine at_region ?_
      refine at_do (does_addi rfl rfl (by omega)) rfl rfl ?_
      refine at_do (does_move rfl) rfl rfl ?_
      refine at_nil ?_
      refine at_then ?_
      rotate_left
      refine at_againw fun w ho => ⟨(v', i + 1), by show i + 1 ≤ L.length; omega, by show L.length - (i + 1) < L.length - i; omega, ⟨rfl, rfl, rfl, rfl, rfl, trivial⟩, rfl, ?_⟩
      simp only
      have e1 : (os ++ [i]).length = os.length + 1 := by simp
      have e2 : ints (os ++ [i]) = ints os ++ [.int .i64 i] := by simp [ints]
      rw [hst, e1, e2]
      exact ho.sublist (List.sublist_cons_self ..)
  · obtain rfl : i = L.length := by omega
    refine at_seq ?_
    refine at_region ?_
    refine at_do (does_lss rfl rfl) rfl rfl ?_
    refine at_nil ?_
    refine at_then ?_
    refine at_seq ?_
    refine at_cond_f rfl (decide_eq_false (by omega)) ?_
    refine at_exit ?_
    refine at_then_exit ?_
    refine at_then_exit ?_
    refine at_inb_here ?_
    refine at_then ?_
    refine at_seq ?_
    refine at_region ?_
    refine at_do (does_move rfl) rfl rfl ?_
    refine at_do (does_assign rfl) rfl rfl ?_
    refine at_nil ?_
    refine at_then ?_
    refine at_ret ?_
    refine at_ret1 rfl rfl rfl (fun w9 ho9 => ?_)
    rotate_left
    exact ⟨_, rfl, ho9.plain, ho9.rowOut (List.mem_cons_self ..)⟩
def runB (ps : List Nat) (i : Nat) : Bool := decide (((ph ps i : Nat) : Int) = 1)
def leftB (ps : List Nat) (i : Nat) : Bool := decide (((ph ps i : Nat) : Int) ≠ 2)
theorem tab_run1 {w : World} {gt gh ca gp cp : Nat} {L : List Want2} {ps : List Nat} (h : Tab w gt gh ca gp cp L ps) (g1 i : Nat) (hi : i < L.length) (hg : w.cell? ⟨g1, 0, none⟩ = some (.pointer (some ⟨gt, 0, none⟩))) :
    Calls Tryd.prog 74 #[.int .i64 (i : Int), .pointer (some ⟨g1, 0, none⟩)] w fun e w3 => e = .returned (.bool (runB ps i)) ∧ Below w.heap.size w w3 := by
  have hpi := h.phs i hi
  refine calls_plain Tryd.func74 rfl Tryd.ntmps74 rfl ?_
  refine at_seq ?_
  refine at_region ?_
  refine at_do (does_assign rfl) rfl rfl ?_
  refine at_nil ?_
  refine at_then ?_
  refine at_seq ?_
  refine at_region ?_
  refine at_do (does_load_mem (by kernel_rfl) rfl (fun w' ho => Below.cellOld ho.plain hg)) rfl rfl ?_
  refine at_do (does_nilCheck rfl) rfl rfl ?_
  refine at_do (does_fieldAddr (o := 1) (by kernel_rfl) rfl) rfl rfl ?_
  refine at_do (does_load_mem (by kernel_rfl) rfl (fun w' ho => Below.cellOld ho.plain h.f1)) rfl rfl ?_
  refine at_do (does_move rfl) rfl rfl ?_
  refine at_do (does_indexAddr1 (j := i) (by kernel_rfl) rfl rfl hi) rfl rfl ?_
  refine at_do (does_load_mem (by kernel_rfl) rfl (fun w' ho => Below.cellOld ho.plain hpi)) rfl rfl ?_
  refine at_do (does_eql rfl rfl) rfl rfl ?_
  refine at_do (does_assign rfl) rfl rfl ?_
  refine at_nil ?_
  refine at_then ?_
  refine at_ret ?_
  refine at_ret1 rfl rfl rfl (fun w9 ho9 => ?_)
  rotate_left
  exact ⟨rfl, ho9.plain⟩
theorem tab_left1 {w : World} {gt gh ca gp cp : Nat} {L : List Want2} {ps : List Nat} (h : Tab w gt gh ca gp cp L ps) (g1 i : Nat) (hi : i < L.length) (hg : w.cell? ⟨g1, 0, none⟩ = some (.pointer (some ⟨gt, 0, none⟩))) :
    Calls Tryd.prog 75 #[.int .i64 (i : Int), .pointer (some ⟨g1, 0, none⟩)] w fun e w3 => e = .returned (.bool (leftB ps i)) ∧ Below w.heap.size w w3 := by
  have hpi := h.phs i hi
  refine calls_plain Tryd.func75 rfl Tryd.ntmps75 rfl ?_
  refine at_seq ?_
  refine at_region ?_
  refine at_do (does_assign rfl) rfl rfl ?_
  refine at_nil ?_
  refine at_then ?_
  refine at_seq ?_
  refine at_region ?_
  refine at_do (does_load_mem (by kernel_rfl) rfl (fun w' ho => Below.cellOld ho.plain hg)) rfl rfl ?_
  refine at_do (does_nilCheck rfl) rfl rfl ?_
  refine at_do (does_fieldAddr (o := 1) (by kernel_rfl) rfl) rfl rfl ?_
  refine at_do (does_load_mem (by kernel_rfl) rfl (fun w' ho => Below.cellOld ho.plain h.f1)) rfl rfl ?_
  refine at_do (does_move rfl) rfl rfl ?_
  refine at_do (does_indexAddr1 (j := i) (by kernel_rfl) rfl rfl hi) rfl rfl ?_
  refine at_do (does_load_mem (by kernel_rfl) rfl (fun w' ho => Below.cellOld ho.plain hpi)) rfl rfl ?_
  refine at_do (does_neq rfl rfl) rfl rfl ?_
  refine at_do (does_assign rfl) rfl rfl ?_
  refine at_nil ?_
  refine at_then ?_
  refine at_ret ?_
  refine at_ret1 rfl rfl rfl (fun w9 ho9 => ?_)
  rotate_left
  exact ⟨rfl, ho9.plain⟩
section
variable {P : Program} {n : Nat} {E : List (Nat × Value)} {C : Ctx} {H : List Res} {dst : Option Tmp} {ty : TypeId} {pos : String} {after : Array Edge} {g : Option (Nat × Bool)}
/-- A method that is bound to what it is called on. -/
theorem does_bindFunc {f : FuncId} {fs : List Operand} {vs : List Value} (hc : evl E fs = some vs) : Does P n E C H ⟨dst, .makeFunc (.func f) fs.toArray #[], ty, pos, after, g⟩ (.func (.func f) vs.toArray #[]) := by
  intro a w hf ho
  have hm : fs.toArray.map a.eval = vs.toArray := by simp [evl_map hf hc]
  simp only [execOp, hm]; simp [go_sem, Instr.makeFunc]
end
theorem tab_Ready {w : World} {gt gh ca gp cp : Nat} {L : List Want2} {ps : List Nat} (h : Tab w gt gh ca gp cp L ps) :
    Calls Tryd.prog 33 #[.pointer (some ⟨gt, 0, none⟩)] w fun e w' => ∃ v, e = .returned v ∧ Below w.heap.size w w' ∧ w'.ownsRow w.heap.size 3 1 v (allOf L.length (mayL L ps)).length (ints (allOf L.length (mayL L ps))) := by
  refine calls_plain Tryd.func33 rfl Tryd.ntmps33 rfl ?_
  refine at_seq ?_
  refine at_region ?_
  refine at_do (does_assign rfl) rfl rfl ?_
  refine at_nil ?_
  refine at_then ?_
  refine at_seq ?_
  refine at_region ?_
  refine at_do (does_move rfl) rfl rfl ?_
  refine at_do (does_move rfl) rfl rfl ?_
  refine at_do (does_bindFunc (vs := [.pointer (some ⟨gt, 0, none⟩)]) rfl) rfl rfl ?_
  refine at_callrow (f := 73) (enters_fn (by kernel_rfl) rfl) (fun w1 ho => tab_each (h.keep ho.plain) 70 [.pointer (some ⟨gt, 0, none⟩)] [] (mayL L ps) (by kernel_rfl) (fun w2 i hb hi => tab_may ((h.keep ho.plain).keep hb) i hi)) rfl rfl (fun v6 => ?_)
  refine at_do (does_assign rfl) rfl rfl ?_
  refine at_nil ?_
  refine at_then ?_
  refine at_ret ?_
  refine at_ret1 rfl rfl rfl (fun w9 ho9 => ?_)
  rotate_left
  exact ⟨_, rfl, ho9.plain, ho9.rowOut (List.mem_cons_self ..)⟩
theorem tab_Running {w : World} {gt gh ca gp cp : Nat} {L : List Want2} {ps : List Nat} (h : Tab w gt gh ca gp cp L ps) :
    Calls Tryd.prog 35 #[.pointer (some ⟨gt, 0, none⟩)] w fun e w' => ∃ v, e = .returned v ∧ Below w.heap.size w w' ∧ w'.ownsRow w.heap.size 3 1 v (allOf L.length (runB ps)).length (ints (allOf L.length (runB ps))) := by
  refine calls_plain Tryd.func35 rfl Tryd.ntmps35 rfl ?_
  refine at_seq ?_
  refine at_region ?_
  refine at_box rfl rfl rfl fun gz0 => ?_
  refine at_do (does_assign rfl) rfl rfl ?_
  refine at_nil ?_
  refine at_then ?_
  refine at_seq ?_
  refine at_region ?_
  refine at_do (does_load (i := 0) (by kernel_rfl) rfl rfl rfl) rfl rfl ?_
  refine at_do (does_makeFunc rfl) rfl rfl ?_
  refine at_callrow (f := 73) (enters_fn (by kernel_rfl) rfl) (fun w1 ho => tab_each (h.keep ho.plain) 74 [] [.pointer (some ⟨gz0, 0, none⟩)] (runB ps) (by kernel_rfl) (fun w2 i hb hi => tab_run1 ((h.keep ho.plain).keep hb) gz0 i hi (Below.cellOld hb (ho.cell (i := 0) rfl 0)))) rfl rfl (fun v6 => ?_)
  refine at_do (does_assign rfl) rfl rfl ?_
  refine at_nil ?_
  refine at_then ?_
  refine at_ret ?_
  refine at_ret1 rfl rfl rfl (fun w9 ho9 => ?_)
  rotate_left
  exact ⟨_, rfl, ho9.plain, ho9.rowOut (List.mem_cons_self ..)⟩
def leftN (n : Nat) (ps : List Nat) : Nat := (allOf n (leftB ps)).length
theorem tab_Left {w : World} {gt gh ca gp cp : Nat} {L : List Want2} {ps : List Nat} (h : Tab w gt gh ca gp cp L ps) :
    Calls Tryd.prog 36 #[.pointer (some ⟨gt, 0, none⟩)] w fun e w' => e = .returned (.int .i64 ((leftN L.length ps : Nat) : Int)) ∧ Below w.heap.size w w' := by
  refine calls_plain Tryd.func36 rfl Tryd.ntmps36 rfl ?_
  refine at_seq ?_
  refine at_region ?_
  refine at_box rfl rfl rfl fun gz0 => ?_
  refine at_do (does_assign rfl) rfl rfl ?_
  refine at_nil ?_
  refine at_then ?_
  refine at_seq ?_
  refine at_region ?_
  refine at_do (does_load (i := 0) (by kernel_rfl) rfl rfl rfl) rfl rfl ?_
  refine at_do (does_makeFunc rfl) rfl rfl ?_
  refine at_callrow (f := 73) (enters_fn (by kernel_rfl) rfl) (fun w1 ho => tab_each (h.keep ho.plain) 75 [] [.pointer (some ⟨gz0, 0, none⟩)] (leftB ps) (by kernel_rfl) (fun w2 i hb hi => tab_left1 ((h.keep ho.plain).keep hb) gz0 i hi (Below.cellOld hb (ho.cell (i := 0) rfl 0)))) rfl rfl (fun v6 => ?_)
  refine at_do (does_rowlen (i := 0) (by kernel_rfl) rfl rfl) rfl rfl ?_
  refine at_do (does_assign rfl) rfl rfl ?_
  refine at_nil ?_
  refine at_then ?_
  refine at_ret ?_
  refine at_ret1 rfl rfl rfl (fun w9 ho9 => ?_)
  rotate_left
  exact ⟨rfl, ho9.plain⟩
theorem tab_Done {w : World} {gt gh ca gp cp : Nat} {L : List Want2} {ps : List Nat} (h : Tab w gt gh ca gp cp L ps) :
    Calls Tryd.prog 37 #[.pointer (some ⟨gt, 0, none⟩)] w fun e w' => e = .returned (.bool (decide (((leftN L.length ps : Nat) : Int) = 0))) ∧ Below w.heap.size w w' := by
  refine calls_plain Tryd.func37 rfl Tryd.ntmps37 rfl ?_
  refine at_seq ?_
  refine at_region ?_
  refine at_do (does_assign rfl) rfl rfl ?_
  refine at_nil ?_
  refine at_then ?_
  refine at_seq ?_
  refine at_region ?_
  refine at_do (does_move rfl) rfl rfl ?_
  refine at_callv (f := 36) (enters_fn (by kernel_rfl) rfl) (fun w ho => tab_Left (h.keep ho.plain)) rfl rfl ?_
  refine at_do (does_eql rfl rfl) rfl rfl ?_
  refine at_do (does_assign rfl) rfl rfl ?_
  refine at_nil ?_
  refine at_then ?_
  refine at_ret ?_
  refine at_ret1 rfl rfl rfl (fun w9 ho9 => ?_)
  rotate_left
  exact ⟨rfl, ho9.plain⟩
end Go.Proofs.YtchfecmabhfooaaDoor
set_option linter.unusedSimpArgs false
set_option linter.unusedVariables false
namespace Go.Proofs.YtchfecmabhfooaaDoor
open Go.RowKit
attribute [local irreducible] cwp lwp Exit.then Exit.inBlock Exit.noGoto wpQuiet Calls fin At AtQ Again endQ RQ

/-- A table but for how far each is; it lies out of these blocks. -/
structure TabF (w : World) (B : Nat → Prop) (gt gh ca gp : Nat) (L : List Want2) : Prop where
  f0 : w.cell? ⟨gt, 0, none⟩ = some (.slice (some ⟨gh, 0, none⟩) L.length ca)
  f1 : w.cell? ⟨gt, 1, none⟩ = some (.slice (some ⟨gp, 0, none⟩) L.length L.length)
  nt : ¬ B gt
  rows : ∀ i, i < L.length → ∃ u, w.cell? ⟨gh, 0 + i, none⟩ = some u ∧ ¬ B gh ∧ KeptV w B u (ints (aheadL L i))
theorem cell_move {w w' : World} {B : Nat → Prop} {g j : Nat} {v : Value} (h : w.cell? ⟨g, j, none⟩ = some v) (hB : ¬ B g) (hf : Frm w B w') : w'.cell? ⟨g, j, none⟩ = some v :=
  (World.cell?_of_block (hf.old g (World.block_lt_of_cell? _ _ h) hB)).trans h
theorem TabF.move {w w' : World} {B B' : Nat → Prop} {gt gh ca gp : Nat} {L : List Want2} (h : TabF w B gt gh ca gp L) (hf : Frm w B w') (hB : ∀ k, k < w.heap.size → B' k → B k) : TabF w' B' gt gh ca gp L :=
  ⟨cell_move h.f0 h.nt hf, cell_move h.f1 h.nt hf, fun hb => h.nt (hB gt (World.block_lt_of_cell? _ _ h.f0) hb), fun i hi => by
    obtain ⟨u, q1, q2, q3⟩ := h.rows i hi
    exact ⟨u, cell_move q1 q2 hf, fun hb => q2 (hB gh (World.block_lt_of_cell? _ _ q1) hb), q3.move hf hB⟩⟩
def Sound (ps : List Nat) (n : Nat) : Prop := ps.length = n ∧ n ≤ 1000 ∧ ∀ i, ph ps i ≤ 2
abbrev phR (gp n : Nat) (ps : List Nat) : Res := .row (.slice (some ⟨gp, 0, none⟩) n n) 85 1 n (ints ps)
theorem TabF.tab {w : World} {B : Nat → Prop} {gt gh ca gp : Nat} {L : List Want2} {ps : List Nat} (h : TabF w B gt gh ca gp L) (hr : w.ownsRow 0 85 1 (.slice (some ⟨gp, 0, none⟩) L.length L.length) L.length (ints ps)) (hs : Sound ps L.length) : Tab w gt gh ca gp L.length L ps :=
  ⟨h.f0, h.f1, fun i hi => by
    obtain ⟨u, q1, _, q3⟩ := h.rows i hi
    exact ⟨u, q1, q3.1⟩, fun i hi => by
    have := hr.cellAt i (by omega)
    rw [Nat.zero_add]
    exact this.trans (ints_get (by rw [hs.1]; exact hi)), hs.2.1, hs.2.2⟩
theorem ph_set {ps : List Nat} {i v j : Nat} : ph (ps.set i v) j = if i = j ∧ j < ps.length then v else ph ps j := getD_set ps i v j
theorem Sound.set {ps : List Nat} {n i v : Nat} (h : Sound ps n) (hv : v ≤ 2) : Sound (ps.set i v) n :=
  ⟨by rw [List.length_set]; exact h.1, h.2.1, fun j => by rw [ph_set]; split; exact hv; exact h.2.2 j⟩

theorem new_no (arg : Value) (L : List Want2) (w : World) (hG : Glob w) (hV : WantsAt w arg L) (hS : ShortW L) (h : rightL L = false) :
    Calls Tryd.prog 23 #[arg] w fun e w' => e = .returned (.tuple #[.pointer none, .int .i64 1]) ∧ Below w.heap.size w w' := by
  refine calls_plain Tryd.func23 rfl Tryd.ntmps23 rfl ?_
  refine at_seq ?_
  refine at_region ?_
  refine at_do (does_assign rfl) rfl rfl ?_
  refine at_do (does_assign rfl) rfl rfl ?_
  refine at_nil ?_
  refine at_then ?_
  refine at_seq ?_
  refine at_region ?_
  refine at_do (does_move rfl) rfl rfl ?_
  refine at_callv (f := 18) (enters_fn (by kernel_rfl) rfl) (fun w ho => ahead_no arg L w (ho.glob hG id) (ho.oldWants hV) hS h) rfl rfl ?_
  refine at_do (does_move rfl) rfl rfl ?_
  refine at_do (does_extract rfl rfl) rfl rfl ?_
  refine at_do (does_extract rfl rfl) rfl rfl ?_
  refine at_do (does_assign rfl) rfl rfl ?_
  refine at_do (does_assign rfl) rfl rfl ?_
  refine at_nil ?_
  refine at_then ?_
  refine at_seq ?_
  refine at_seq ?_
  refine at_region ?_
  refine at_do (does_move rfl) rfl rfl ?_
  refine at_do (does_neq rfl rfl) rfl rfl ?_
  refine at_nil ?_
  refine at_then ?_
  refine at_cond_t rfl (decide_eq_true (by decide)) ?_
  refine at_seq ?_
  refine at_region ?_
  refine at_do (does_move rfl) rfl rfl ?_
  refine at_do (does_assign rfl) rfl rfl ?_
  refine at_do (does_assign rfl) rfl rfl ?_
  refine at_nil ?_
  refine at_then ?_
  refine at_ret ?_
  refine at_then_ret ?_
  refine at_ret2 rfl rfl rfl rfl (fun w9 ho9 => ?_)
  rotate_left
  exact ⟨rfl, ho9.plain⟩
theorem shapeTable : shapeOf Tryd.prog 84 = some ([.slice none 0 0, .slice none 0 0], [(0, 1), (1, 1)]) := by kernel_rfl
def NewR (b : Nat) (L : List Want2) (v : Value) (w : World) : Prop := ∃ gt gh ca gp, v = .tuple #[.pointer (some ⟨gt, 0, none⟩), .int .i64 0] ∧ TabF w (fun k => k = gp) gt gh ca gp L ∧ w.ownsRow b 85 1 (.slice (some ⟨gp, 0, none⟩) L.length L.length) L.length (ints (List.replicate L.length 0))
set_option maxHeartbeats 4000000 in
theorem new_yes (arg : Value) (L : List Want2) (w : World) (hG : Glob w) (hV : WantsAt w arg L) (hS : ShortW L) (h : rightL L = true) :
    Calls Tryd.prog 23 #[arg] w fun e w' => ∃ v, e = .returned v ∧ Below w.heap.size w w' ∧ NewR w.heap.size L v w' := by
  have hS1 := hS.1
  have cA : ∀ w1, Below w.heap.size w w1 → Glob w1 → Calls Tryd.prog 18 #[arg] w1 fun e w' => ∃ v, e = .returned v ∧ Below w1.heap.size w1 w' ∧ AheadV L v w' := fun w1 hb hg => ahead_v arg L w1 hg (hV.keep hb) hS h
  obtain ⟨A0, c0, rfl, hc, hcell⟩ := hV
  refine calls_plain Tryd.func23 rfl Tryd.ntmps23 rfl ?_
  refine at_seq ?_
  refine at_region ?_
  refine at_do (does_assign rfl) rfl rfl ?_
  refine at_do (does_assign rfl) rfl rfl ?_
  refine at_nil ?_
  refine at_then ?_
  refine at_seq ?_
  refine at_region ?_
  refine at_do (does_move rfl) rfl rfl ?_
  refine at_callk (f := 18) (Φ := AheadV L) (enters_fn (by kernel_rfl) rfl) (fun w ho => cA w ho.plain (ho.glob hG id)) rfl rfl (fun v w1 hw1 hv => ?_)
  refine at_do (does_move rfl) rfl rfl ?_
  rotate_left
  obtain ⟨gh, ca, rfl, hrows⟩ := hv
  have s1 : ∀ {C : Ctx} {H : List Res} {w' : World}, Own (Ctx.re C w1 []) H w' → Below w1.heap.size w1 w' := fun ho => ho.since (by simp [Ctx.re, bls])
  refine at_do (does_extract rfl rfl) rfl rfl ?_
  refine at_do (does_extract rfl rfl) rfl rfl ?_
  refine at_do (does_assign rfl) rfl rfl ?_
  refine at_do (does_assign rfl) rfl rfl ?_
  refine at_nil ?_
  refine at_then ?_
  refine at_seq ?_
  refine at_seq ?_
  refine at_region ?_
  refine at_do (does_move rfl) rfl rfl ?_
  refine at_do (does_neq rfl rfl) rfl rfl ?_
  refine at_nil ?_
  refine at_then ?_
  refine at_cond_f rfl (decide_eq_false (by decide)) ?_
  refine at_skip ?_
  refine at_then ?_
  refine at_seq ?_
  refine at_region ?_
  refine at_do (does_move rfl) rfl rfl ?_
  refine at_do (does_move rfl) rfl rfl ?_
  refine at_do (does_len (by kernel_rfl) rfl) rfl rfl ?_
  refine at_make (e := 85) (sz := 1) (by' := 8) (m := L.length) (ints (List.replicate L.length 0)) (by kernel_rfl) ?_ rfl rfl (by simp only [maxLen]; omega) rfl (fun gp => ?_)
  rotate_left
  refine at_do (does_build (ps := [(0, .tmp 14), (1, .tmp 17)]) (cs := [.slice (some ⟨gh, 0, none⟩) L.length ca, .slice (some ⟨gp, 0, none⟩) L.length L.length]) (vs := [(0, .slice (some ⟨gh, 0, none⟩) L.length ca), (1, .slice (some ⟨gp, 0, none⟩) L.length L.length)]) shapeTable rfl rfl) rfl rfl ?_
  refine at_boxagg rfl rfl fun gz0 => ?_
  refine at_do (does_assign rfl) rfl rfl ?_
  refine at_do (does_assign rfl) rfl rfl ?_
  refine at_nil ?_
  refine at_then ?_
  refine at_ret ?_
  refine at_ret2 rfl rfl rfl rfl (fun w9 ho9 => ?_)
  rotate_left
  · intro t z q1 q2
    have hz : (Tryd.prog.info? 85).bind (·.zero) = some (.int .i64 0) := by kernel_rfl
    rw [q1] at hz
    simp only [Option.bind_some] at hz
    rw [q2] at hz
    cases hz
    exact made_ints L.length
  · have hb := s1 ho9
    have hblk := ho9.blkOut (List.mem_cons_self ..)
    have hsp := Own.split (A := []) ho9
    have hgp : w1.heap.size ≤ gp := by
      have := (ho9.mine gp (by simp [bls, Res.blocks, Value.ownBlock])).2
      exact this.resolve_right (by simp [Ctx.re, bls])
    refine ⟨_, rfl, ho9.plain, _, gh, ca, gp, rfl, ⟨ho9.cell (i := 0) rfl 0, ho9.cell (i := 0) rfl 1, fun e => ?_, fun i hi => ?_⟩, ho9.rowOut (List.mem_cons_of_mem _ (List.mem_cons_self ..))⟩
    · subst e
      exact (hsp gz0 (by simp [Res.blocks])).2 (by simp [bls, Res.blocks, Value.ownBlock])
    · obtain ⟨u, q1, q2⟩ := hrows i hi
      refine ⟨u, Below.cellOld hb q1, fun e => ?_, q2.keep hb, fun hl g hg e => ?_⟩
      · have := World.block_lt_of_cell? _ _ q1
        simp only at this
        omega
      · obtain ⟨gb, o, c, hv, _, hlt, _⟩ := q2.form hl
        subst hv
        have : gb = g := by simpa [Value.ownBlock] using hg
        omega
end Go.Proofs.YtchfecmabhfooaaDoor
set_option linter.unusedSimpArgs false
set_option linter.unusedVariables false
namespace Go.Proofs.YtchfecmabhfooaaDoor
open Go.RowKit
attribute [local irreducible] cwp lwp Exit.then Exit.inBlock Exit.noGoto wpQuiet Calls fin At AtQ Again endQ RQ

def waitsL (L : List Want2) (ps : List Nat) (i : Nat) : List Nat := if ph ps i = 0 then holdL L ps i else []
def beginC (L : List Want2) (ps : List Nat) (i : Nat) : Nat := if ph ps i = 0 then (if mayL L ps i then 0 else 20) else 16
def beginP (L : List Want2) (ps : List Nat) (i : Nat) : List Nat := if mayL L ps i then ps.set i 1 else ps
def endC (ps : List Nat) (i : Nat) : Nat := if ph ps i = 0 then 6 else if ph ps i = 2 then 16 else 0
def endP (ps : List Nat) (i : Nat) : List Nat := if ph ps i = 1 then ps.set i 2 else ps
theorem mayL_zero {L : List Want2} {ps : List Nat} {i : Nat} (h : mayL L ps i = true) : ph ps i = 0 := by
  simp only [mayL, Bool.and_eq_true, decide_eq_true_eq] at h
  exact h.1
theorem ints_set0 (ps : List Nat) (i v : Nat) : (ints ps).set (0 + i) (.int .i64 (v : Int)) = ints (ps.set i v) := by rw [Nat.zero_add, ints_set]
theorem tab_Waits_out {w : World} {gt gh ca gp cp : Nat} {L : List Want2} {ps : List Nat} (h : Tab w gt gh ca gp cp L ps) (i : Int) (hi : ¬ (0 ≤ i ∧ i < L.length)) :
    Calls Tryd.prog 29 #[.pointer (some ⟨gt, 0, none⟩), .int .i64 i] w fun e w' => e = .returned (.tuple #[.slice none 0 0, .int .i64 4]) ∧ Below w.heap.size w w' := by
  refine calls_plain Tryd.func29 rfl Tryd.ntmps29 rfl ?_
  refine at_seq ?_
  refine at_region ?_
  refine at_do (does_assign rfl) rfl rfl ?_
  refine at_do (does_assign rfl) rfl rfl ?_
  refine at_nil ?_
  refine at_then ?_
  refine at_seq ?_
  refine at_block ?_
  refine at_seq ?_
  refine at_region ?_
  refine at_do (does_move rfl) rfl rfl ?_
  refine at_do (does_move rfl) rfl rfl ?_
  refine at_callv (f := 69) (enters_fn (by kernel_rfl) rfl) (fun w ho => tab_is (h.keep ho.plain) i) rfl rfl ?_
  refine at_do (does_not rfl) rfl rfl ?_
  refine at_do (does_assign rfl) rfl rfl ?_
  refine at_nil ?_
  refine at_then ?_
  refine at_cond_t rfl (by (rw [decide_eq_false hi]; rfl)) ?_
  refine at_seq ?_
  refine at_region ?_
  refine at_do (does_assign rfl) rfl rfl ?_
  refine at_do (does_assign rfl) rfl rfl ?_
  refine at_nil ?_
  refine at_then ?_
  refine at_ret ?_
  refine at_inb_ret ?_
  refine at_then_ret ?_
  refine at_ret2 rfl rfl rfl rfl (fun w9 ho9 => ?_)
  rotate_left
  exact ⟨rfl, ho9.plain⟩
theorem tab_Waits_in {w : World} {gt gh ca gp cp : Nat} {L : List Want2} {ps : List Nat} (h : Tab w gt gh ca gp cp L ps) (i : Nat) (hi : i < L.length) :
    Calls Tryd.prog 29 #[.pointer (some ⟨gt, 0, none⟩), .int .i64 (i : Int)] w fun e w' => ∃ v, e = .returned (.tuple #[v, .int .i64 0]) ∧ Below w.heap.size w w' ∧ w'.ownsRow w.heap.size 3 1 v (waitsL L ps i).length (ints (waitsL L ps i)) := by
  have hpi := h.phs i hi
  have hin : (0 : Int) ≤ (i : Int) ∧ (i : Int) < L.length := by omega
  refine calls_plain Tryd.func29 rfl Tryd.ntmps29 rfl ?_
  by_cases h0 : ph ps i = 0
  · have hW : waitsL L ps i = holdL L ps i := by rw [waitsL, if_pos h0]
    rw [hW]
    rw [h0] at hpi
    refine at_seq ?_
    refine at_region ?_
    refine at_do (does_assign rfl) rfl rfl ?_
    refine at_do (does_assign rfl) rfl rfl ?_
    refine at_nil ?_
    refine at_then ?_
    refine at_seq ?_
    refine at_block ?_
    refine at_seq ?_
    refine at_region ?_
    refine at_do (does_move rfl) rfl rfl ?_
    refine at_do (does_move rfl) rfl rfl ?_
    refine at_callv (f := 69) (enters_fn (by kernel_rfl) rfl) (fun w ho => tab_is (h.keep ho.plain) i) rfl rfl ?_
    refine at_do (does_not rfl) rfl rfl ?_
    refine at_do (does_assign rfl) rfl rfl ?_
    refine at_nil ?_
    refine at_then ?_
    refine at_cond_f rfl (by (rw [decide_eq_true hin]; rfl)) ?_
    refine at_seq ?_
    refine at_region ?_
    refine at_do (does_move rfl) rfl rfl ?_
    refine at_do (does_nilCheck rfl) rfl rfl ?_
    refine at_do (does_fieldAddr (o := 1) (by kernel_rfl) rfl) rfl rfl ?_
    refine at_do (does_load_mem (by kernel_rfl) rfl (fun w' ho => Below.cellOld ho.plain h.f1)) rfl rfl ?_
    refine at_do (does_move rfl) rfl rfl ?_
    refine at_do (does_indexAddr1 (j := i) (by kernel_rfl) rfl rfl hi) rfl rfl ?_
    refine at_do (does_load_mem (by kernel_rfl) rfl (fun w' ho => Below.cellOld ho.plain hpi)) rfl rfl ?_
    refine at_do (does_neq rfl rfl) rfl rfl ?_
    refine at_do (does_assign rfl) rfl rfl ?_
    refine at_nil ?_
    refine at_then ?_
    refine at_cond_f rfl (decide_eq_false (by decide)) ?_
    refine at_skip ?_
    refine at_inb ?_
    refine at_then ?_
    refine at_seq ?_
    refine at_region ?_
    refine at_do (does_move rfl) rfl rfl ?_
    refine at_do (does_move rfl) rfl rfl ?_
    refine at_callrow (f := 72) (enters_fn (by kernel_rfl) rfl) (fun w ho => tab_holding (h.keep ho.plain) i hi) rfl rfl (fun v22 => ?_)
    refine at_do (does_assign rfl) rfl rfl ?_
    refine at_do (does_assign rfl) rfl rfl ?_
    refine at_nil ?_
    refine at_then ?_
    refine at_ret ?_
    refine at_ret2 rfl rfl rfl rfl (fun w9 ho9 => ?_)
    rotate_left
    exact ⟨_, rfl, ho9.plain, ho9.rowOut (List.mem_cons_self ..)⟩
  · have hW : waitsL L ps i = [] := by rw [waitsL, if_neg h0]
    rw [hW]
    have h0' : ((ph ps i : Nat) : Int) ≠ 0 := by omega
    generalize ph ps i = q at hpi h0'
    refine at_seq ?_
    refine at_region ?_
    refine at_do (does_assign rfl) rfl rfl ?_
    refine at_do (does_assign rfl) rfl rfl ?_
    refine at_nil ?_
    refine at_then ?_
    refine at_seq ?_
    refine at_block ?_
    refine at_seq ?_
    refine at_region ?_
    refine at_do (does_move rfl) rfl rfl ?_
    refine at_do (does_move rfl) rfl rfl ?_
    refine at_callv (f := 69) (enters_fn (by kernel_rfl) rfl) (fun w ho => tab_is (h.keep ho.plain) i) rfl rfl ?_
    refine at_do (does_not rfl) rfl rfl ?_
    refine at_do (does_assign rfl) rfl rfl ?_
    refine at_nil ?_
    refine at_then ?_
    refine at_cond_f rfl (by (rw [decide_eq_true hin]; rfl)) ?_
    refine at_seq ?_
    refine at_region ?_
    refine at_do (does_move rfl) rfl rfl ?_
    refine at_do (does_nilCheck rfl) rfl rfl ?_
    refine at_do (does_fieldAddr (o := 1) (by kernel_rfl) rfl) rfl rfl ?_
    refine at_do (does_load_mem (by kernel_rfl) rfl (fun w' ho => Below.cellOld ho.plain h.f1)) rfl rfl ?_
    refine at_do (does_move rfl) rfl rfl ?_
    refine at_do (does_indexAddr1 (j := i) (by kernel_rfl) rfl rfl hi) rfl rfl ?_
    refine at_do (does_load_mem (by kernel_rfl) rfl (fun w' ho => Below.cellOld ho.plain hpi)) rfl rfl ?_
    refine at_do (does_neq rfl rfl) rfl rfl ?_
    refine at_do (does_assign rfl) rfl rfl ?_
    refine at_nil ?_
    refine at_then ?_
    refine at_cond_t rfl (decide_eq_true (by exact h0')) ?_
    refine at_seq ?_
    refine at_region ?_
    refine at_do (does_assign rfl) rfl rfl ?_
    refine at_do (does_assign rfl) rfl rfl ?_
    refine at_nil ?_
    refine at_then ?_
    refine at_ret ?_
    refine at_inb_ret ?_
    refine at_then_ret ?_
    refine at_ret2 rfl rfl rfl rfl (fun w9 ho9 => ?_)
    rotate_left
    exact ⟨_, rfl, ho9.plain, World.ownsRow_nil w9 w.heap.size 3 1⟩
/-- What is known of the table while it may be turned. -/
theorem TabF.now {w w' : World} {gt gh ca gp : Nat} {L : List Want2} {ps : List Nat} {H0 : List Res} (hT : TabF w (fun k => k ∈ bls H0) gt gh ca gp L) (hs : Sound ps L.length) (ho : Own (inC w H0) [phR gp L.length ps] w') : Tab w' gt gh ca gp L.length L ps :=
  (hT.move ho.base (fun _ _ h => h)).tab (ho.rowAt (i := 0) rfl) hs
theorem inR_of {w w' : World} {H0 H : List Res} (ho : Own (inC w H0) H w') : InR w (fun k => k ∈ bls H0) H w' := ⟨_, _, ho⟩
theorem tab_Begin_out {w : World} {gt gh ca gp : Nat} {L : List Want2} {ps : List Nat} (hT : TabF w (fun k => k ∈ bls [phR gp L.length ps]) gt gh ca gp L) (hs : Sound ps L.length) (ho : Own (inC w [phR gp L.length ps]) [phR gp L.length ps] w) (i : Int) (hi : ¬ (0 ≤ i ∧ i < L.length)) :
    Calls Tryd.prog 27 #[.pointer (some ⟨gt, 0, none⟩), .int .i64 i] w fun e w' => ∃ _ : Unit, e = .returned (.int .i64 4) ∧ InR w (fun k => k ∈ bls [phR gp L.length ps]) [phR gp L.length ps] w' := by
  refine calls_in ho Tryd.func27 rfl Tryd.ntmps27 rfl ?_
  refine at_seq ?_
  refine at_region ?_
  refine at_do (does_assign rfl) rfl rfl ?_
  refine at_nil ?_
  refine at_then ?_
  refine at_seq ?_
  refine at_block ?_
  refine at_seq ?_
  refine at_region ?_
  refine at_do (does_move rfl) rfl rfl ?_
  refine at_do (does_move rfl) rfl rfl ?_
  refine at_callv (f := 69) (enters_fn (by kernel_rfl) rfl) (fun w ho => tab_is (hT.now hs ho) i) rfl rfl ?_
  refine at_do (does_not rfl) rfl rfl ?_
  refine at_do (does_assign rfl) rfl rfl ?_
  refine at_nil ?_
  refine at_then ?_
  refine at_cond_t rfl (by (rw [decide_eq_false hi]; rfl)) ?_
  refine at_seq ?_
  refine at_region ?_
  refine at_do (does_assign rfl) rfl rfl ?_
  refine at_nil ?_
  refine at_then ?_
  refine at_ret ?_
  refine at_inb_ret ?_
  refine at_then_ret ?_
  refine at_ret1 rfl rfl rfl (fun w9 ho9 => ?_)
  rotate_left
  exact ⟨(), rfl, inR_of ho9⟩
set_option maxHeartbeats 4000000 in
theorem tab_Begin_in {w : World} {gt gh ca gp : Nat} {L : List Want2} {ps : List Nat} (hT : TabF w (fun k => k ∈ bls [phR gp L.length ps]) gt gh ca gp L) (hs : Sound ps L.length) (ho : Own (inC w [phR gp L.length ps]) [phR gp L.length ps] w) (i : Nat) (hi : i < L.length) :
    Calls Tryd.prog 27 #[.pointer (some ⟨gt, 0, none⟩), .int .i64 (i : Int)] w fun e w' => ∃ _ : Unit, e = .returned (.int .i64 ((beginC L ps i : Nat) : Int)) ∧ InR w (fun k => k ∈ bls [phR gp L.length ps]) [phR gp L.length (beginP L ps i)] w' := by
  have hin : (0 : Int) ≤ (i : Int) ∧ (i : Int) < L.length := by omega
  have hcl : ∀ {w'}, Own (inC w [phR gp L.length ps]) [phR gp L.length ps] w' → w'.cell? ⟨gp, 0 + i, none⟩ = some (.int .i64 ((ph ps i : Nat) : Int)) := fun ho => (hT.now hs ho).phs i hi
  refine calls_in ho Tryd.func27 rfl Tryd.ntmps27 rfl ?_
  by_cases h0 : ph ps i = 0
  · rw [h0] at hcl
    have hmc : ∀ {w'}, Own (inC w [phR gp L.length ps]) [phR gp L.length ps] w' → Calls Tryd.prog 70 #[.pointer (some ⟨gt, 0, none⟩), .int .i64 (i : Int)] w' fun e w3 => e = .returned (.bool (mayL L ps i)) ∧ Below w'.heap.size w' w3 := fun ho => tab_may (hT.now hs ho) i hi
    cases hm : mayL L ps i
    · have e1 : beginC L ps i = 20 := by rw [beginC, if_pos h0, hm]; rfl
      have e2 : beginP L ps i = ps := by rw [beginP, hm]; rfl
      rw [e1, e2]
      rw [hm] at hmc
      refine at_seq ?_
      refine at_region ?_
      refine at_do (does_assign rfl) rfl rfl ?_
      refine at_nil ?_
      refine at_then ?_
      refine at_seq ?_
      refine at_block ?_
      refine at_seq ?_
      refine at_region ?_
      refine at_do (does_move rfl) rfl rfl ?_
      refine at_do (does_move rfl) rfl rfl ?_
      refine at_callv (f := 69) (enters_fn (by kernel_rfl) rfl) (fun w ho => tab_is (hT.now hs ho) i) rfl rfl ?_
      refine at_do (does_not rfl) rfl rfl ?_
      refine at_do (does_assign rfl) rfl rfl ?_
      refine at_nil ?_
      refine at_then ?_
      refine at_cond_f rfl (by (rw [decide_eq_true hin]; rfl)) ?_
      refine at_seq ?_
      refine at_region ?_
      refine at_do (does_move rfl) rfl rfl ?_
      refine at_do (does_nilCheck rfl) rfl rfl ?_
      refine at_do (does_fieldAddr (o := 1) (by kernel_rfl) rfl) rfl rfl ?_
      refine at_do (does_load_mem (by kernel_rfl) rfl (fun w' ho => (hT.now hs ho).f1)) rfl rfl ?_
      refine at_do (does_move rfl) rfl rfl ?_
      refine at_do (does_indexAddr1 (j := i) (by kernel_rfl) rfl rfl hi) rfl rfl ?_
      refine at_do (does_load_mem (by kernel_rfl) rfl (fun w' ho => hcl ho)) rfl rfl ?_
      refine at_do (does_neq rfl rfl) rfl rfl ?_
      refine at_do (does_assign rfl) rfl rfl ?_
      refine at_nil ?_
      refine at_then ?_
      refine at_cond_f rfl (decide_eq_false (by decide)) ?_
      refine at_seq ?_
      refine at_region ?_
      refine at_do (does_move rfl) rfl rfl ?_
      refine at_do (does_move rfl) rfl rfl ?_
      refine at_callv (f := 70) (enters_fn (by kernel_rfl) rfl) (fun w ho => hmc ho) rfl rfl ?_
      refine at_do (does_not rfl) rfl rfl ?_
      refine at_do (does_assign rfl) rfl rfl ?_
      refine at_nil ?_
      refine at_then ?_
      refine at_cond_t rfl (by decide) ?_
      refine at_seq ?_
      refine at_region ?_
      refine at_do (does_assign rfl) rfl rfl ?_
      refine at_nil ?_
      refine at_then ?_
      refine at_ret ?_
      refine at_inb_ret ?_
      refine at_then_ret ?_
      refine at_ret1 rfl rfl rfl (fun w9 ho9 => ?_)
      rotate_left
      exact ⟨(), rfl, inR_of ho9⟩
    · have e1 : beginC L ps i = 0 := by rw [beginC, if_pos h0, hm]; rfl
      have e2 : beginP L ps i = ps.set i 1 := by rw [beginP, hm]; rfl
      rw [e1, e2]
      rw [hm] at hmc
      refine at_seq ?_
      refine at_region ?_
      refine at_do (does_assign rfl) rfl rfl ?_
      refine at_nil ?_
      refine at_then ?_
      refine at_seq ?_
      refine at_block ?_
      refine at_seq ?_
      refine at_region ?_
      refine at_do (does_move rfl) rfl rfl ?_
      refine at_do (does_move rfl) rfl rfl ?_
      refine at_callv (f := 69) (enters_fn (by kernel_rfl) rfl) (fun w ho => tab_is (hT.now hs ho) i) rfl rfl ?_
      refine at_do (does_not rfl) rfl rfl ?_
      refine at_do (does_assign rfl) rfl rfl ?_
      refine at_nil ?_
      refine at_then ?_
      refine at_cond_f rfl (by (rw [decide_eq_true hin]; rfl)) ?_
      refine at_seq ?_
      refine at_region ?_
      refine at_do (does_move rfl) rfl rfl ?_
      refine at_do (does_nilCheck rfl) rfl rfl ?_
      refine at_do (does_fieldAddr (o := 1) (by kernel_rfl) rfl) rfl rfl ?_
      refine at_do (does_load_mem (by kernel_rfl) rfl (fun w' ho => (hT.now hs ho).f1)) rfl rfl ?_
      refine at_do (does_move rfl) rfl rfl ?_
      refine at_do (does_indexAddr1 (j := i) (by kernel_rfl) rfl rfl hi) rfl rfl ?_
      refine at_do (does_load_mem (by kernel_rfl) rfl (fun w' ho => hcl ho)) rfl rfl ?_
      refine at_do (does_neq rfl rfl) rfl rfl ?_
      refine at_do (does_assign rfl) rfl rfl ?_
      refine at_nil ?_
      refine at_then ?_
      refine at_cond_f rfl (decide_eq_false (by decide)) ?_
      refine at_seq ?_
      refine at_region ?_
      refine at_do (does_move rfl) rfl rfl ?_
      refine at_do (does_move rfl) rfl rfl ?_
      refine at_callv (f := 70) (enters_fn (by kernel_rfl) rfl) (fun w ho => hmc ho) rfl rfl ?_
      refine at_do (does_not rfl) rfl rfl ?_
      refine at_do (does_assign rfl) rfl rfl ?_
      refine at_nil ?_
      refine at_then ?_
      refine at_cond_f rfl (by decide) ?_
      refine at_skip ?_
      refine at_inb ?_
      refine at_then ?_
      refine at_seq ?_
      refine at_region ?_
      refine at_do (does_move rfl) rfl rfl ?_
      refine at_do (does_nilCheck rfl) rfl rfl ?_
      refine at_do (does_fieldAddr (o := 1) (by kernel_rfl) rfl) rfl rfl ?_
      refine at_do (does_load_mem (by kernel_rfl) rfl (fun w' ho => (hT.now hs ho).f1)) rfl rfl ?_
      refine at_do (does_move rfl) rfl rfl ?_
      refine at_do (does_indexAddr1 (j := i) (by kernel_rfl) rfl rfl hi) rfl rfl ?_
      refine at_rowstore (i := 0) (j := 0 + i) (by kernel_rfl) rfl rfl rfl rfl (by omega) ?_
      refine at_nil ?_
      refine at_then ?_
      refine at_seq ?_
      refine at_region ?_
      refine at_do (does_assign rfl) rfl rfl ?_
      refine at_nil ?_
      refine at_then ?_
      refine at_ret ?_
      refine at_ret1 rfl rfl rfl (fun w9 ho9 => ?_)
      rotate_left
      refine ⟨(), rfl, inR_of ?_⟩
      have e := ints_set0 ps i 1
      show Own _ [Res.row _ _ _ _ (ints (ps.set i 1))] w9
      rw [← e]
      exact ho9
  · have e1 : beginC L ps i = 16 := by rw [beginC, if_neg h0]
    have e2 : beginP L ps i = ps := by
      cases hm : mayL L ps i
      · rw [beginP, hm]; rfl
      · exact absurd (mayL_zero hm) h0
    rw [e1, e2]
    have h0' : ((ph ps i : Nat) : Int) ≠ 0 := by omega
    generalize ph ps i = q at hcl h0'
    refine at_seq ?_
    refine at_region ?_
    refine at_do (does_assign rfl) rfl rfl ?_
    refine at_nil ?_
    refine at_then ?_
    refine at_seq ?_
    refine at_block ?_
    refine at_seq ?_
    refine at_region ?_
    refine at_do (does_move rfl) rfl rfl ?_
    refine at_do (does_move rfl) rfl rfl ?_
    refine at_callv (f := 69) (enters_fn (by kernel_rfl) rfl) (fun w ho => tab_is (hT.now hs ho) i) rfl rfl ?_
    refine at_do (does_not rfl) rfl rfl ?_
    refine at_do (does_assign rfl) rfl rfl ?_
    refine at_nil ?_
    refine at_then ?_
    refine at_cond_f rfl (by (rw [decide_eq_true hin]; rfl)) ?_
    refine at_seq ?_
    refine at_region ?_
    refine at_do (does_move rfl) rfl rfl ?_
    refine at_do (does_nilCheck rfl) rfl rfl ?_
    refine at_do (does_fieldAddr (o := 1) (by kernel_rfl) rfl) rfl rfl ?_
    refine at_do (does_load_mem (by kernel_rfl) rfl (fun w' ho => (hT.now hs ho).f1)) rfl rfl ?_
    refine at_do (does_move rfl) rfl rfl ?_
    refine at_do (does_indexAddr1 (j := i) (by kernel_rfl) rfl rfl hi) rfl rfl ?_
    refine at_do (does_load_mem (by kernel_rfl) rfl (fun w' ho => hcl ho)) rfl rfl ?_
    refine at_do (does_neq rfl rfl) rfl rfl ?_
    refine at_do (does_assign rfl) rfl rfl ?_
    refine at_nil ?_
    refine at_then ?_
    refine at_cond_t rfl (decide_eq_true (by exact h0')) ?_
    refine at_seq ?_
    refine at_region ?_
    refine at_do (does_assign rfl) rfl rfl ?_
    refine at_nil ?_
    refine at_then ?_
    refine at_ret ?_
    refine at_inb_ret ?_
    refine at_then_ret ?_
    refine at_ret1 rfl rfl rfl (fun w9 ho9 => ?_)
    rotate_left
    exact ⟨(), rfl, inR_of ho9⟩
theorem tab_End_out {w : World} {gt gh ca gp : Nat} {L : List Want2} {ps : List Nat} (hT : TabF w (fun k => k ∈ bls [phR gp L.length ps]) gt gh ca gp L) (hs : Sound ps L.length) (ho : Own (inC w [phR gp L.length ps]) [phR gp L.length ps] w) (i : Int) (hi : ¬ (0 ≤ i ∧ i < L.length)) :
    Calls Tryd.prog 25 #[.pointer (some ⟨gt, 0, none⟩), .int .i64 i] w fun e w' => ∃ _ : Unit, e = .returned (.int .i64 4) ∧ InR w (fun k => k ∈ bls [phR gp L.length ps]) [phR gp L.length ps] w' := by
  refine calls_in ho Tryd.func25 rfl Tryd.ntmps25 rfl ?_
  refine at_seq ?_
  refine at_region ?_
  refine at_do (does_assign rfl) rfl rfl ?_
  refine at_nil ?_
  refine at_then ?_
  refine at_seq ?_
  refine at_block ?_
  refine at_seq ?_
  refine at_region ?_
  refine at_do (does_move rfl) rfl rfl ?_
  refine at_do (does_move rfl) rfl rfl ?_
  refine at_callv (f := 69) (enters_fn (by kernel_rfl) rfl) (fun w ho => tab_is (hT.now hs ho) i) rfl rfl ?_
  refine at_do (does_not rfl) rfl rfl ?_
  refine at_do (does_assign rfl) rfl rfl ?_
  refine at_nil ?_
  refine at_then ?_
  refine at_cond_t rfl (by (rw [decide_eq_false hi]; rfl)) ?_
  refine at_seq ?_
  refine at_region ?_
  refine at_do (does_assign rfl) rfl rfl ?_
  refine at_nil ?_
  refine at_then ?_
  refine at_ret ?_
  refine at_inb_ret ?_
  refine at_then_ret ?_
  refine at_ret1 rfl rfl rfl (fun w9 ho9 => ?_)
  rotate_left
  exact ⟨(), rfl, inR_of ho9⟩
set_option maxHeartbeats 4000000 in
theorem tab_End_in {w : World} {gt gh ca gp : Nat} {L : List Want2} {ps : List Nat} (hT : TabF w (fun k => k ∈ bls [phR gp L.length ps]) gt gh ca gp L) (hs : Sound ps L.length) (ho : Own (inC w [phR gp L.length ps]) [phR gp L.length ps] w) (i : Nat) (hi : i < L.length) :
    Calls Tryd.prog 25 #[.pointer (some ⟨gt, 0, none⟩), .int .i64 (i : Int)] w fun e w' => ∃ _ : Unit, e = .returned (.int .i64 ((endC ps i : Nat) : Int)) ∧ InR w (fun k => k ∈ bls [phR gp L.length ps]) [phR gp L.length (endP ps i)] w' := by
  have hin : (0 : Int) ≤ (i : Int) ∧ (i : Int) < L.length := by omega
  have hcl : ∀ {w'}, Own (inC w [phR gp L.length ps]) [phR gp L.length ps] w' → w'.cell? ⟨gp, 0 + i, none⟩ = some (.int .i64 ((ph ps i : Nat) : Int)) := fun ho => (hT.now hs ho).phs i hi
  have htwo := hs.2.2 i
  refine calls_in ho Tryd.func25 rfl Tryd.ntmps25 rfl ?_
  by_cases h0 : ph ps i = 0
  · have e1 : endC ps i = 6 := by rw [endC, if_pos h0]
    have e2 : endP ps i = ps := by rw [endP, if_neg (by omega)]
    rw [e1, e2]
    rw [h0] at hcl
    refine at_seq ?_
    refine at_region ?_
    refine at_do (does_assign rfl) rfl rfl ?_
    refine at_nil ?_
    refine at_then ?_
    refine at_seq ?_
    refine at_block ?_
    refine at_seq ?_
    refine at_region ?_
    refine at_do (does_move rfl) rfl rfl ?_
    refine at_do (does_move rfl) rfl rfl ?_
    refine at_callv (f := 69) (enters_fn (by kernel_rfl) rfl) (fun w ho => tab_is (hT.now hs ho) i) rfl rfl ?_
    refine at_do (does_not rfl) rfl rfl ?_
    refine at_do (does_assign rfl) rfl rfl ?_
    refine at_nil ?_
    refine at_then ?_
    refine at_cond_f rfl (by (rw [decide_eq_true hin]; rfl)) ?_
    refine at_seq ?_
    refine at_region ?_
    refine at_do (does_move rfl) rfl rfl ?_
    refine at_do (does_nilCheck rfl) rfl rfl ?_
    refine at_do (does_fieldAddr (o := 1) (by kernel_rfl) rfl) rfl rfl ?_
    refine at_do (does_load_mem (by kernel_rfl) rfl (fun w' ho => (hT.now hs ho).f1)) rfl rfl ?_
    refine at_do (does_move rfl) rfl rfl ?_
    refine at_do (does_indexAddr1 (j := i) (by kernel_rfl) rfl rfl hi) rfl rfl ?_
    refine at_do (does_load_mem (by kernel_rfl) rfl (fun w' ho => hcl ho)) rfl rfl ?_
    refine at_do (does_eql rfl rfl) rfl rfl ?_
    refine at_do (does_assign rfl) rfl rfl ?_
    refine at_nil ?_
    refine at_then ?_
    refine at_cond_t rfl (decide_eq_true (by decide)) ?_
    refine at_seq ?_
    refine at_region ?_
    refine at_do (does_assign rfl) rfl rfl ?_
    refine at_nil ?_
    refine at_then ?_
    refine at_ret ?_
    refine at_inb_ret ?_
    refine at_then_ret ?_
    refine at_ret1 rfl rfl rfl (fun w9 ho9 => ?_)
    rotate_left
    exact ⟨(), rfl, inR_of ho9⟩
  · by_cases h2 : ph ps i = 2
    · have e1 : endC ps i = 16 := by rw [endC, if_neg h0, if_pos h2]
      have e2 : endP ps i = ps := by rw [endP, if_neg (by omega)]
      rw [e1, e2]
      rw [h2] at hcl
      refine at_seq ?_
      refine at_region ?_
      refine at_do (does_assign rfl) rfl rfl ?_
      refine at_nil ?_
      refine at_then ?_
      refine at_seq ?_
      refine at_block ?_
      refine at_seq ?_
      refine at_region ?_
      refine at_do (does_move rfl) rfl rfl ?_
      refine at_do (does_move rfl) rfl rfl ?_
      refine at_callv (f := 69) (enters_fn (by kernel_rfl) rfl) (fun w ho => tab_is (hT.now hs ho) i) rfl rfl ?_
      refine at_do (does_not rfl) rfl rfl ?_
      refine at_do (does_assign rfl) rfl rfl ?_
      refine at_nil ?_
      refine at_then ?_
      refine at_cond_f rfl (by (rw [decide_eq_true hin]; rfl)) ?_
      refine at_seq ?_
      refine at_region ?_
      refine at_do (does_move rfl) rfl rfl ?_
      refine at_do (does_nilCheck rfl) rfl rfl ?_
      refine at_do (does_fieldAddr (o := 1) (by kernel_rfl) rfl) rfl rfl ?_
      refine at_do (does_load_mem (by kernel_rfl) rfl (fun w' ho => (hT.now hs ho).f1)) rfl rfl ?_
      refine at_do (does_move rfl) rfl rfl ?_
      refine at_do (does_indexAddr1 (j := i) (by kernel_rfl) rfl rfl hi) rfl rfl ?_
      refine at_do (does_load_mem (by kernel_rfl) rfl (fun w' ho => hcl ho)) rfl rfl ?_
      refine at_do (does_eql rfl rfl) rfl rfl ?_
      refine at_do (does_assign rfl) rfl rfl ?_
      refine at_nil ?_
      refine at_then ?_
      refine at_cond_f rfl (decide_eq_false (by decide)) ?_
      refine at_seq ?_
      refine at_region ?_
      refine at_do (does_move rfl) rfl rfl ?_
      refine at_do (does_nilCheck rfl) rfl rfl ?_
      refine at_do (does_fieldAddr (o := 1) (by kernel_rfl) rfl) rfl rfl ?_
      refine at_do (does_load_mem (by kernel_rfl) rfl (fun w' ho => (hT.now hs ho).f1)) rfl rfl ?_
      refine at_do (does_move rfl) rfl rfl ?_
      refine at_do (does_indexAddr1 (j := i) (by kernel_rfl) rfl rfl hi) rfl rfl ?_
      refine at_do (does_load_mem (by kernel_rfl) rfl (fun w' ho => hcl ho)) rfl rfl ?_
      refine at_do (does_eql rfl rfl) rfl rfl ?_
      refine at_do (does_assign rfl) rfl rfl ?_
      refine at_nil ?_
      refine at_then ?_
      refine at_cond_t rfl (decide_eq_true (by decide)) ?_
      refine at_seq ?_
      refine at_region ?_
      refine at_do (does_assign rfl) rfl rfl ?_
      refine at_nil ?_
      refine at_then ?_
      refine at_ret ?_
      refine at_inb_ret ?_
      refine at_then_ret ?_
      refine at_ret1 rfl rfl rfl (fun w9 ho9 => ?_)
      rotate_left
      exact ⟨(), rfl, inR_of ho9⟩
    · have h1 : ph ps i = 1 := by omega
      have e1 : endC ps i = 0 := by rw [endC, if_neg h0, if_neg h2]
      have e2 : endP ps i = ps.set i 2 := by rw [endP, if_pos h1]
      rw [e1, e2]
      rw [h1] at hcl
      refine at_seq ?_
      refine at_region ?_
      refine at_do (does_assign rfl) rfl rfl ?_
      refine at_nil ?_
      refine at_then ?_
      refine at_seq ?_
      refine at_block ?_
      refine at_seq ?_
      refine at_region ?_
      refine at_do (does_move rfl) rfl rfl ?_
      refine at_do (does_move rfl) rfl rfl ?_
      refine at_callv (f := 69) (enters_fn (by kernel_rfl) rfl) (fun w ho => tab_is (hT.now hs ho) i) rfl rfl ?_
      refine at_do (does_not rfl) rfl rfl ?_
      refine at_do (does_assign rfl) rfl rfl ?_
      refine at_nil ?_
      refine at_then ?_
      refine at_cond_f rfl (by (rw [decide_eq_true hin]; rfl)) ?_
      refine at_seq ?_
      refine at_region ?_
      refine at_do (does_move rfl) rfl rfl ?_
      refine at_do (does_nilCheck rfl) rfl rfl ?_
      refine at_do (does_fieldAddr (o := 1) (by kernel_rfl) rfl) rfl rfl ?_
      refine at_do (does_load_mem (by kernel_rfl) rfl (fun w' ho => (hT.now hs ho).f1)) rfl rfl ?_
      refine at_do (does_move rfl) rfl rfl ?_
      refine at_do (does_indexAddr1 (j := i) (by kernel_rfl) rfl rfl hi) rfl rfl ?_
      refine at_do (does_load_mem (by kernel_rfl) rfl (fun w' ho => hcl ho)) rfl rfl ?_
      refine at_do (does_eql rfl rfl) rfl rfl ?_
      refine at_do (does_assign rfl) rfl rfl ?_
      refine at_nil ?_
      refine at_then ?_
      refine at_cond_f rfl (decide_eq_false (by decide)) ?_
      refine at_seq ?_
      refine at_region ?_
      refine at_do (does_move rfl) rfl rfl ?_
      refine at_do (does_nilCheck rfl) rfl rfl ?_
      refine at_do (does_fieldAddr (o := 1) (by kernel_rfl) rfl) rfl rfl ?_
      refine at_do (does_load_mem (by kernel_rfl) rfl (fun w' ho => (hT.now hs ho).f1)) rfl rfl ?_
      refine at_do (does_move rfl) rfl rfl ?_
      refine at_do (does_indexAddr1 (j := i) (by kernel_rfl) rfl rfl hi) rfl rfl ?_
      refine at_do (does_load_mem (by kernel_rfl) rfl (fun w' ho => hcl ho)) rfl rfl ?_
      refine at_do (does_eql rfl rfl) rfl rfl ?_
      refine at_do (does_assign rfl) rfl rfl ?_
      refine at_nil ?_
      refine at_then ?_
      refine at_cond_f rfl (decide_eq_false (by decide)) ?_
      refine at_skip ?_
      refine at_inb ?_
      refine at_then ?_
      refine at_seq ?_
      refine at_region ?_
      refine at_do (does_move rfl) rfl rfl ?_
      refine at_do (does_nilCheck rfl) rfl rfl ?_
      refine at_do (does_fieldAddr (o := 1) (by kernel_rfl) rfl) rfl rfl ?_
      refine at_do (does_load_mem (by kernel_rfl) rfl (fun w' ho => (hT.now hs ho).f1)) rfl rfl ?_
      refine at_do (does_move rfl) rfl rfl ?_
      refine at_do (does_indexAddr1 (j := i) (by kernel_rfl) rfl rfl hi) rfl rfl ?_
      refine at_rowstore (i := 0) (j := 0 + i) (by kernel_rfl) rfl rfl rfl rfl (by omega) ?_
      refine at_nil ?_
      refine at_then ?_
      refine at_seq ?_
      refine at_region ?_
      refine at_do (does_assign rfl) rfl rfl ?_
      refine at_nil ?_
      refine at_then ?_
      refine at_ret ?_
      refine at_ret1 rfl rfl rfl (fun w9 ho9 => ?_)
      rotate_left
      refine ⟨(), rfl, inR_of ?_⟩
      have e := ints_set0 ps i 2
      show Own _ [Res.row _ _ _ _ (ints (ps.set i 2))] w9
      rw [← e]
      exact ho9
end Go.Proofs.YtchfecmabhfooaaDoor
