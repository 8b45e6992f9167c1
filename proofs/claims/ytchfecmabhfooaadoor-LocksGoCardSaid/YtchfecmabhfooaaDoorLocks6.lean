/-
  The reference's answers about locks, and what it turns. No condition of its own.
-/
import Derived.Test.YtchfecmabhfooaaDoorLocks5
set_option linter.unusedSimpArgs false
set_option linter.unusedVariables false
namespace Go.Proofs.YtchfecmabhfooaaDoor
open Go.RowKit
attribute [local irreducible] cwp lwp Exit.then Exit.inBlock Exit.noGoto wpQuiet Calls fin At AtQ Again endQ RQ

theorem refl_May (arg at' : Value) (L : List Want2) (ps : List Nat) (i : Nat) (w : World) (hV : WantsAt w arg L) (hA : ValsAt w at' (ints ps)) (hS : ShortW L) (hs : Sound ps L.length) (hi : i < L.length) :
    Calls Tryd.prog 71 #[arg, at', .int .i64 (i : Int)] w fun e w' => e = .returned (.bool (mayL L ps i)) ∧ Below w.heap.size w w' := by
  have hpl := hs.1
  have hil : (ints ps).length = ps.length := by simp [ints]
  have hA0 := hA
  obtain ⟨gA, oA, cA, rfl, _, _, hAc⟩ := hA.form (by omega)
  have hpi : w.cell? ⟨gA, oA + i, none⟩ = some (.int .i64 ((ph ps i : Nat) : Int)) := hAc i _ (ints_get (by omega))
  refine calls_plain Tryd.func71 rfl Tryd.ntmps71 rfl ?_
  by_cases h0 : ph ps i = 0
  · have hW : waitsL L ps i = holdL L ps i := by rw [waitsL, if_pos h0]
    rw [h0] at hpi
    refine at_seq ?_
    refine at_region ?_
    refine at_do (does_assign rfl) rfl rfl ?_
    refine at_nil ?_
    refine at_then ?_
    refine at_seq ?_
    refine at_region ?_
    refine at_do (does_move rfl) rfl rfl ?_
    refine at_do (does_move rfl) rfl rfl ?_
    refine at_do (does_indexAddr1 (by kernel_rfl) rfl rfl (by omega)) rfl rfl ?_
    refine at_do (does_load_mem (by kernel_rfl) rfl (fun w' ho => Below.cellOld ho.plain hpi)) rfl rfl ?_
    refine at_do (does_eql rfl rfl) rfl rfl ?_
    refine at_do (does_move rfl) rfl rfl ?_
    refine at_know (t := 12) (d := true) rfl (decide_eq_true (by decide)) ?_
    refine at_on rfl rfl ?_
    refine at_do (does_move rfl) rfl rfl ?_
    refine at_on rfl rfl ?_
    refine at_do (does_move rfl) rfl rfl ?_
    refine at_on rfl rfl ?_
    refine at_do (does_move rfl) rfl rfl ?_
    refine at_on rfl rfl ?_
    refine at_callrow (f := 31) (enters_fn (by kernel_rfl) rfl) (fun w ho => ref_Waits _ _ L ps i w (ho.oldWants hV) (ho.oldVals hA0) hS hs hi) rfl rfl (fun v16 => ?_)
    refine at_on rfl rfl ?_
    refine at_do (does_rowlen (i := 0) (by kernel_rfl) rfl rfl) rfl rfl ?_
    refine at_on rfl rfl ?_
    refine at_do (does_eql rfl rfl) rfl rfl ?_
    refine at_do (does_pick_true rfl rfl) rfl rfl ?_
    refine at_do (does_assign rfl) rfl rfl ?_
    refine at_nil ?_
    refine at_then ?_
    refine at_ret ?_
    refine at_ret1 rfl rfl rfl (fun w9 ho9 => ?_)
    rotate_left
    exact ⟨ret_bool (by rw [mayL, h0, hW, Bool.eq_iff_iff]; simp), ho9.plain⟩
  · have h0' : ¬ ((ph ps i : Nat) : Int) = 0 := by omega
    have hm : mayL L ps i = false := by rw [mayL, decide_eq_false h0]; rfl
    generalize ph ps i = q at hpi h0'
    refine at_seq ?_
    refine at_region ?_
    refine at_do (does_assign rfl) rfl rfl ?_
    refine at_nil ?_
    refine at_then ?_
    refine at_seq ?_
    refine at_region ?_
    refine at_do (does_move rfl) rfl rfl ?_
    refine at_do (does_move rfl) rfl rfl ?_
    refine at_do (does_indexAddr1 (by kernel_rfl) rfl rfl (by omega)) rfl rfl ?_
    refine at_do (does_load_mem (by kernel_rfl) rfl (fun w' ho => Below.cellOld ho.plain hpi)) rfl rfl ?_
    refine at_do (does_eql rfl rfl) rfl rfl ?_
    refine at_do (does_move rfl) rfl rfl ?_
    refine at_know (t := 12) (d := false) rfl (decide_eq_false (by omega)) ?_
    refine at_no rfl rfl rfl rfl ?_
    refine at_no rfl rfl rfl rfl ?_
    refine at_no rfl rfl rfl rfl ?_
    refine at_no rfl rfl rfl rfl ?_
    refine at_no rfl rfl rfl rfl ?_
    refine at_no rfl rfl rfl rfl ?_
    refine at_do (does_pick_false rfl rfl) rfl rfl ?_
    refine at_do (does_assign rfl) rfl rfl ?_
    refine at_nil ?_
    refine at_then ?_
    refine at_ret ?_
    refine at_ret1 rfl rfl rfl (fun w9 ho9 => ?_)
    rotate_left
    exact ⟨ret_bool hm.symm, ho9.plain⟩
set_option maxHeartbeats 4000000 in
theorem refl_Ready (arg at' : Value) (L : List Want2) (ps : List Nat) (w : World) (hV : WantsAt w arg L) (hA : ValsAt w at' (ints ps)) (hS : ShortW L) (hs : Sound ps L.length) :
    Calls Tryd.prog 34 #[arg, at'] w fun e w' => ∃ v, e = .returned v ∧ Below w.heap.size w w' ∧ w'.ownsRow w.heap.size 3 1 v (allOf L.length (mayL L ps)).length (ints (allOf L.length (mayL L ps))) := by
  have hS1 := hS.1
  have hV0 := hV
  obtain ⟨A0, c0, rfl, hc, hcell⟩ := hV
  refine calls_plain Tryd.func34 rfl Tryd.ntmps34 rfl ?_
  refine at_seq ?_
  refine at_region ?_
  refine at_do (does_assign rfl) rfl rfl ?_
  refine at_nil ?_
  refine at_then ?_
  refine at_seq ?_
  refine at_region ?_
  refine at_do (does_assign rfl) rfl rfl ?_
  refine at_nil ?_
  refine at_then ?_
  refine at_seq ?_
  refine at_seq ?_
  refine at_region ?_
  refine at_do (does_assign rfl) rfl rfl ?_
  refine at_nil ?_
  refine at_then ?_
  refine at_block ?_
  rotate_left
  refine at_nilrow 3 1 ?_
  refine at_loopH (σ := Value × Nat) (fun s => s.2 ≤ L.length) (fun s => [(0, .slice A0 L.length c0), (1, at'), (5, s.1), (6, .int .i64 s.2)])
    (fun s => [.row s.1 3 1 (allOf s.2 (mayL L ps)).length (ints (allOf s.2 (mayL L ps)))]) (fun s => L.length - s.2)
    (fun w ho => ⟨(.slice none 0 0, 0), Nat.zero_le _, ⟨rfl, rfl, rfl, rfl, trivial⟩, ho⟩) ?_
  rintro ⟨v5, i⟩ hi
  simp only at hi
  by_cases hil : i < L.length
  · have hst := allOf_succ i (mayL L ps)
    have hol := allOf_len i (mayL L ps)
    have cF : ∀ w', Below w.heap.size w w' → Calls Tryd.prog 71 #[.slice A0 L.length c0, at', .int .i64 (i : Int)] w' fun e w3 => e = .returned (.bool (mayL L ps i)) ∧ Below w'.heap.size w' w3 := fun w' hb => refl_May _ _ L ps i w' (hV0.keep hb) (hA.keep hb) hS hs hil
    generalize allOf i (mayL L ps) = os at hst hol ⊢
    generalize mayL L ps i = pi at hst cF
    cases pi
    · rw [if_neg (by simp), List.append_nil] at hst
      refine at_seq ?_
      refine at_seq ?_
      refine at_region ?_
      refine at_do (does_move rfl) rfl rfl ?_
      refine at_do (does_move rfl) rfl rfl ?_
      refine at_do (does_len (by kernel_rfl) rfl) rfl rfl ?_
      refine at_do (does_lss rfl rfl) rfl rfl ?_
      refine at_nil ?_
      refine at_then ?_
      refine at_cond_t rfl (decide_eq_true (by omega)) ?_
      refine at_skip ?_
      refine at_then ?_
      refine at_seq ?_
      refine at_block ?_
      refine at_seq ?_
      refine at_region ?_
      refine at_do (does_move rfl) rfl rfl ?_
      refine at_do (does_move rfl) rfl rfl ?_
      refine at_do (does_move rfl) rfl rfl ?_
      refine at_callv (f := 71) (enters_fn (by kernel_rfl) rfl) (fun w ho => cF w ho.plain) rfl rfl ?_
      refine at_nil ?_
      refine at_then ?_
      refine at_cond_false rfl ?_
      refine at_skip ?_
      refine at_inb ?_
      refine at_then ?_
      refine at_region ?_
      refine at_do (does_move rfl) rfl rfl ?_
      refine at_do (does_addi rfl rfl (by omega)) rfl rfl ?_
      refine at_do (does_assign rfl) rfl rfl ?_
      refine at_nil ?_
      refine at_then ?_
      rotate_left
      refine at_againw fun w ho => ⟨(v5, i + 1), by show i + 1 ≤ L.length; omega, by show L.length - (i + 1) < L.length - i; omega, ⟨rfl, rfl, rfl, rfl, trivial⟩, rfl, ?_⟩
      simp only
      rw [hst]; exact ho
    · rw [if_pos rfl] at hst
      refine at_seq ?_
      refine at_seq ?_
      refine at_region ?_
      refine at_do (does_move rfl) rfl rfl ?_
      refine at_do (does_move rfl) rfl rfl ?_
      refine at_do (does_len (by kernel_rfl) rfl) rfl rfl ?_
      refine at_do (does_lss rfl rfl) rfl rfl ?_
      refine at_nil ?_
      refine at_then ?_
      refine at_cond_t rfl (decide_eq_true (by omega)) ?_
      refine at_skip ?_
      refine at_then ?_
      refine at_seq ?_
      refine at_block ?_
      refine at_seq ?_
      refine at_region ?_
      refine at_do (does_move rfl) rfl rfl ?_
      refine at_do (does_move rfl) rfl rfl ?_
      refine at_do (does_move rfl) rfl rfl ?_
      refine at_callv (f := 71) (enters_fn (by kernel_rfl) rfl) (fun w ho => cF w ho.plain) rfl rfl ?_
      refine at_nil ?_
      refine at_then ?_
      refine at_cond_true rfl ?_
      refine at_region ?_
      refine at_do (does_move rfl) rfl rfl ?_
      refine at_do (does_move rfl) rfl rfl ?_
      refine at_buildSlice (e := 3) (sz := 1) (vs := [.int .i64 i]) (cs := [.int .i64 i]) (by kernel_rfl) rfl rfl rfl rfl rfl rfl (fun g3 => ?_)
      refine at_append (i := 1) (sz := 1) (by' := 8) (k := 1) (A := ⟨g3, 0, none⟩) (news := [.int .i64 i]) (by kernel_rfl) rfl rfl rfl rfl (fun w ho => lit_cells ho (i := 0) rfl) (oneCell_of rfl) (by simp only [maxLen]; omega) rfl (fun v' hv' => ?_)
      refine at_do (does_assign rfl) rfl rfl ?_
      refine at_nil ?_
      refine at_inb ?_
      refine at_then ?_
      refine at_region ?_
      refine at_do (does_move rfl) rfl rfl ?_
      refine at_do (does_addi rfl rfl (by omega)) rfl rfl ?_
      refine at_do (does_assign rfl) rfl rfl ?_
      refine at_nil ?_
      refine at_then ?_
      rotate_left
      refine at_againw fun w ho => ⟨(v', i + 1), by show i + 1 ≤ L.length; omega, by show L.length - (i + 1) < L.length - i; omega, ⟨rfl, rfl, rfl, rfl, trivial⟩, rfl, ?_⟩
      simp only
      have e1 : (os ++ [i]).length = os.length + 1 := by simp
      have e2 : ints (os ++ [i]) = ints os ++ [.int .i64 i] := by simp [ints]
      rw [hst, e1, e2]
      exact ho.sublist (List.sublist_cons_self ..)
  · obtain rfl : i = L.length := by omega
    refine at_seq ?_
    refine at_seq ?_
    refine at_region ?_
    refine at_do (does_move rfl) rfl rfl ?_
    refine at_do (does_move rfl) rfl rfl ?_
    refine at_do (does_len (by kernel_rfl) rfl) rfl rfl ?_
    refine at_do (does_lss rfl rfl) rfl rfl ?_
    refine at_nil ?_
    refine at_then ?_
    refine at_cond_f rfl (decide_eq_false (by omega)) ?_
    refine at_exit ?_
    refine at_then_exit ?_
    refine at_then_exit ?_
    refine at_inb_here ?_
    refine at_then ?_
    refine at_seq ?_
    refine at_region ?_
    refine at_do (does_move rfl) rfl rfl ?_
    refine at_do (does_assign rfl) rfl rfl ?_
    refine at_nil ?_
    refine at_then ?_
    refine at_ret ?_
    refine at_ret1 rfl rfl rfl (fun w9 ho9 => ?_)
    rotate_left
    exact ⟨_, rfl, ho9.plain, ho9.rowOut (List.mem_cons_self ..)⟩
def farB (ps : List Nat) (far : Int) (i : Nat) : Bool := decide (((ph ps i : Nat) : Int) = far)
set_option maxHeartbeats 4000000 in
theorem refl_Are (at' : Value) (ps : List Nat) (n : Nat) (far : Int) (w : World) (hA : ValsAt w at' (ints ps)) (hs : Sound ps n) :
    Calls Tryd.prog 32 #[at', .int .i64 far] w fun e w' => ∃ v, e = .returned v ∧ Below w.heap.size w w' ∧ w'.ownsRow w.heap.size 3 1 v (allOf n (farB ps far)).length (ints (allOf n (farB ps far))) := by
  have hpl := hs.1
  have hfew := hs.2.1
  have hil0 : (ints ps).length = ps.length := by simp [ints]
  obtain ⟨AA, cA, rfl⟩ := hA.len
  refine calls_plain Tryd.func32 rfl Tryd.ntmps32 rfl ?_
  refine at_seq ?_
  refine at_region ?_
  refine at_do (does_assign rfl) rfl rfl ?_
  refine at_nil ?_
  refine at_then ?_
  refine at_seq ?_
  refine at_region ?_
  refine at_do (does_assign rfl) rfl rfl ?_
  refine at_nil ?_
  refine at_then ?_
  refine at_seq ?_
  refine at_seq ?_
  refine at_region ?_
  refine at_do (does_assign rfl) rfl rfl ?_
  refine at_nil ?_
  refine at_then ?_
  refine at_block ?_
  rotate_left
  refine at_nilrow 3 1 ?_
  refine at_loopH (σ := Value × Nat) (fun s => s.2 ≤ n) (fun s => [(0, .slice AA (ints ps).length cA), (1, .int .i64 far), (5, s.1), (6, .int .i64 s.2)])
    (fun s => [.row s.1 3 1 (allOf s.2 (farB ps far)).length (ints (allOf s.2 (farB ps far)))]) (fun s => n - s.2)
    (fun w ho => ⟨(.slice none 0 0, 0), Nat.zero_le _, ⟨rfl, rfl, rfl, rfl, trivial⟩, ho⟩) ?_
  rintro ⟨v5, i⟩ hi
  simp only at hi
  by_cases hil : i < n
  · obtain ⟨gA, oA, cA2, hv, _, _, hAc⟩ := hA.form (by omega)
    simp only [Value.slice.injEq, true_and] at hv
    obtain ⟨rfl, rfl⟩ := hv
    have hpi : w.cell? ⟨gA, oA + i, none⟩ = some (.int .i64 ((ph ps i : Nat) : Int)) := hAc i _ (ints_get (by omega))
    have hst := allOf_succ i (farB ps far)
    have hol := allOf_len i (farB ps far)
    have hfb : farB ps far i = decide (((ph ps i : Nat) : Int) = far) := rfl
    generalize allOf i (farB ps far) = os at hst hol ⊢
    generalize ((ph ps i : Nat) : Int) = q at hpi hfb
    by_cases hq : q = far
    · rw [if_pos (by rw [hfb]; exact decide_eq_true hq)] at hst
      refine at_seq ?_
      refine at_seq ?_
      refine at_region ?_
      refine at_do (does_move rfl) rfl rfl ?_
      refine at_do (does_move rfl) rfl rfl ?_
      refine at_do (does_len (by kernel_rfl) rfl) rfl rfl ?_
      refine at_do (does_lss rfl rfl) rfl rfl ?_
      refine at_nil ?_
      refine at_then ?_
      refine at_cond_t rfl (decide_eq_true (by omega)) ?_
      refine at_skip ?_
      refine at_then ?_
      refine at_seq ?_
      refine at_block ?_
      refine at_seq ?_
      refine at_region ?_
      refine at_do (does_move rfl) rfl rfl ?_
      refine at_do (does_move rfl) rfl rfl ?_
      refine at_do (does_indexAddr1 (by kernel_rfl) rfl rfl (by (first | omega | (simp only; omega)))) rfl rfl ?_
      refine at_do (does_load_mem (by kernel_rfl) rfl (fun w' ho => Below.cellOld ho.plain hpi)) rfl rfl ?_
      refine at_do (does_move rfl) rfl rfl ?_
      refine at_do (does_eql rfl rfl) rfl rfl ?_
      refine at_nil ?_
      refine at_then ?_
      refine at_cond_t rfl (decide_eq_true (by omega)) ?_
      refine at_region ?_
      refine at_do (does_move rfl) rfl rfl ?_
      refine at_do (does_move rfl) rfl rfl ?_
      refine at_buildSlice (e := 3) (sz := 1) (vs := [.int .i64 i]) (cs := [.int .i64 i]) (by kernel_rfl) rfl rfl rfl rfl rfl rfl (fun g3 => ?_)
      refine at_append (i := 1) (sz := 1) (by' := 8) (k := 1) (A := ⟨g3, 0, none⟩) (news := [.int .i64 i]) (by kernel_rfl) rfl rfl rfl rfl (fun w ho => lit_cells ho (i := 0) rfl) (oneCell_of rfl) (by simp only [maxLen]; omega) rfl (fun v' hv' => ?_)
      refine at_do (does_assign rfl) rfl rfl ?_
      refine at_nil ?_
      refine at_inb ?_
      refine at_then ?_
      refine at_region ?_
      refine at_do (does_move rfl) rfl rfl ?_
      refine at_do (does_addi rfl rfl (by (first | omega | (simp only; omega)))) rfl rfl ?_
      refine at_do (does_assign rfl) rfl rfl ?_
      refine at_nil ?_
      refine at_then ?_
      rotate_left
      refine at_againw fun w ho => ⟨(v', i + 1), by show i + 1 ≤ n; omega, by show n - (i + 1) < n - i; omega, ⟨rfl, rfl, rfl, rfl, trivial⟩, rfl, ?_⟩
      simp only
      have e1 : (os ++ [i]).length = os.length + 1 := by simp
      have e2 : ints (os ++ [i]) = ints os ++ [.int .i64 i] := by simp [ints]
      rw [hst, e1, e2]
      exact ho.sublist (List.sublist_cons_self ..)
    · rw [if_neg (by rw [hfb]; exact fun h => hq (of_decide_eq_true h)), List.append_nil] at hst
      refine at_seq ?_
      refine at_seq ?_
      refine at_region ?_
      refine at_do (does_move rfl) rfl rfl ?_
      refine at_do (does_move rfl) rfl rfl ?_
      refine at_do (does_len (by kernel_rfl) rfl) rfl rfl ?_
      refine at_do (does_lss rfl rfl) rfl rfl ?_
      refine at_nil ?_
      refine at_then ?_
      refine at_cond_t rfl (decide_eq_true (by omega)) ?_
      refine at_skip ?_
      refine at_then ?_
      refine at_seq ?_
      refine at_block ?_
      refine at_seq ?_
      refine at_region ?_
      refine at_do (does_move rfl) rfl rfl ?_
      refine at_do (does_move rfl) rfl rfl ?_
      refine at_do (does_indexAddr1 (by kernel_rfl) rfl rfl (by (first | omega | (simp only; omega)))) rfl rfl ?_
      refine at_do (does_load_mem (by kernel_rfl) rfl (fun w' ho => Below.cellOld ho.plain hpi)) rfl rfl ?_
      refine at_do (does_move rfl) rfl rfl ?_
      refine at_do (does_eql rfl rfl) rfl rfl ?_
      refine at_nil ?_
      refine at_then ?_
      refine at_cond_f rfl (decide_eq_false (by omega)) ?_
      refine at_skip ?_
      refine at_inb ?_
      refine at_then ?_
      refine at_region ?_
      refine at_do (does_move rfl) rfl rfl ?_
      refine at_do (does_addi rfl rfl (by (first | omega | (simp only; omega)))) rfl rfl ?_
      refine at_do (does_assign rfl) rfl rfl ?_
      refine at_nil ?_
      refine at_then ?_
      rotate_left
      refine at_againw fun w ho => ⟨(v5, i + 1), by show i + 1 ≤ n; omega, by show n - (i + 1) < n - i; omega, ⟨rfl, rfl, rfl, rfl, trivial⟩, rfl, ?_⟩
      simp only
      rw [hst]; exact ho
  · obtain rfl : i = n := by omega
    refine at_seq ?_
    refine at_seq ?_
    refine at_region ?_
    refine at_do (does_move rfl) rfl rfl ?_
    refine at_do (does_move rfl) rfl rfl ?_
    refine at_do (does_len (by kernel_rfl) rfl) rfl rfl ?_
    refine at_do (does_lss rfl rfl) rfl rfl ?_
    refine at_nil ?_
    refine at_then ?_
    refine at_cond_f rfl (decide_eq_false (by omega)) ?_
    refine at_exit ?_
    refine at_then_exit ?_
    refine at_then_exit ?_
    refine at_inb_here ?_
    refine at_then ?_
    refine at_seq ?_
    refine at_region ?_
    refine at_do (does_move rfl) rfl rfl ?_
    refine at_do (does_assign rfl) rfl rfl ?_
    refine at_nil ?_
    refine at_then ?_
    refine at_ret ?_
    refine at_ret1 rfl rfl rfl (fun w9 ho9 => ?_)
    rotate_left
    exact ⟨_, rfl, ho9.plain, ho9.rowOut (List.mem_cons_self ..)⟩
abbrev atR (ga n : Nat) (ps : List Nat) : Res := .row (.slice (some ⟨ga, 0, none⟩) n n) 3 1 n (ints ps)
theorem atR_vals {w : World} {ga n : Nat} {ps : List Nat} (h : w.ownsRow 0 3 1 (.slice (some ⟨ga, 0, none⟩) n n) n (ints ps)) : ValsAt w (.slice (some ⟨ga, 0, none⟩) n n) (ints ps) := vals_of_row h
theorem at_get {w : World} {ga n i : Nat} {ps : List Nat} (h : w.ownsRow 0 3 1 (.slice (some ⟨ga, 0, none⟩) n n) n (ints ps)) (hs : Sound ps n) (hi : i < n) : (ints ps)[0 + i]? = some (.int .i64 ((ph ps i : Nat) : Int)) := by
  rw [Nat.zero_add]; exact ints_get (by rw [hs.1]; exact hi)
theorem refl_Begin_out (arg : Value) {w : World} {ga : Nat} {L : List Want2} {ps : List Nat} (hW : ∃ A c, arg = .slice A L.length c) (ho : Own (inC w [atR ga L.length ps]) [atR ga L.length ps] w) (i : Int) (hi : ¬ (0 ≤ i ∧ i < L.length)) :
    Calls Tryd.prog 28 #[arg, .slice (some ⟨ga, 0, none⟩) L.length L.length, .int .i64 i] w fun e w' => ∃ _ : Unit, e = .returned (.int .i64 4) ∧ InR w (fun k => k ∈ bls [atR ga L.length ps]) [atR ga L.length ps] w' := by
  obtain ⟨A0, c0, rfl⟩ := hW
  refine calls_in ho Tryd.func28 rfl Tryd.ntmps28 rfl ?_
  by_cases h0 : i < 0
  · refine at_seq ?_
    refine at_region ?_
    refine at_do (does_assign rfl) rfl rfl ?_
    refine at_nil ?_
    refine at_then ?_
    refine at_seq ?_
    refine at_seq ?_
    refine at_region ?_
    refine at_do (does_move rfl) rfl rfl ?_
    refine at_do (does_lss rfl rfl) rfl rfl ?_
    refine at_do (does_move rfl) rfl rfl ?_
    refine at_know (t := 9) (d := true) rfl (decide_eq_true (by omega)) ?_
    refine at_no rfl rfl rfl rfl ?_
    refine at_no rfl rfl rfl rfl ?_
    refine at_no rfl rfl rfl rfl ?_
    refine at_no rfl rfl rfl rfl ?_
    refine at_do (does_pick_true rfl rfl) rfl rfl ?_
    refine at_nil ?_
    refine at_then ?_
    refine at_cond_true rfl ?_
    refine at_seq ?_
    refine at_region ?_
    refine at_do (does_assign rfl) rfl rfl ?_
    refine at_nil ?_
    refine at_then ?_
    refine at_ret ?_
    refine at_then_ret ?_
    refine at_ret1 rfl rfl rfl (fun w9 ho9 => ?_)
    rotate_left
    exact ⟨(), rfl, inR_of ho9⟩
  · refine at_seq ?_
    refine at_region ?_
    refine at_do (does_assign rfl) rfl rfl ?_
    refine at_nil ?_
    refine at_then ?_
    refine at_seq ?_
    refine at_seq ?_
    refine at_region ?_
    refine at_do (does_move rfl) rfl rfl ?_
    refine at_do (does_lss rfl rfl) rfl rfl ?_
    refine at_do (does_move rfl) rfl rfl ?_
    refine at_know (t := 9) (d := false) rfl (decide_eq_false (by omega)) ?_
    refine at_on rfl rfl ?_
    refine at_do (does_move rfl) rfl rfl ?_
    refine at_on rfl rfl ?_
    refine at_do (does_move rfl) rfl rfl ?_
    refine at_on rfl rfl ?_
    refine at_do (does_len (by kernel_rfl) rfl) rfl rfl ?_
    refine at_on rfl rfl ?_
    refine at_do (does_geq rfl rfl) rfl rfl ?_
    refine at_do (does_pick_false rfl rfl) rfl rfl ?_
    refine at_nil ?_
    refine at_then ?_
    refine at_cond_t rfl (decide_eq_true (by omega)) ?_
    refine at_seq ?_
    refine at_region ?_
    refine at_do (does_assign rfl) rfl rfl ?_
    refine at_nil ?_
    refine at_then ?_
    refine at_ret ?_
    refine at_then_ret ?_
    refine at_ret1 rfl rfl rfl (fun w9 ho9 => ?_)
    rotate_left
    exact ⟨(), rfl, inR_of ho9⟩
set_option maxHeartbeats 4000000 in
theorem refl_Begin_in (arg : Value) {w : World} {ga : Nat} {L : List Want2} {ps : List Nat} (hW : ∀ w', Own (inC w [atR ga L.length ps]) [atR ga L.length ps] w' → WantsAt w' arg L) (hS : ShortW L) (hs : Sound ps L.length) (ho : Own (inC w [atR ga L.length ps]) [atR ga L.length ps] w) (i : Nat) (hi : i < L.length) :
    Calls Tryd.prog 28 #[arg, .slice (some ⟨ga, 0, none⟩) L.length L.length, .int .i64 (i : Int)] w fun e w' => ∃ _ : Unit, e = .returned (.int .i64 ((beginC L ps i : Nat) : Int)) ∧ InR w (fun k => k ∈ bls [atR ga L.length ps]) [atR ga L.length (beginP L ps i)] w' := by
  obtain ⟨A0, c0, rfl, _⟩ := hW w ho
  have hg : (ints ps)[0 + i]? = some (.int .i64 ((ph ps i : Nat) : Int)) := at_get (ho.rowAt (i := 0) rfl) hs hi
  have hmc : ∀ {w'}, Own (inC w [atR ga L.length ps]) [atR ga L.length ps] w' → Calls Tryd.prog 71 #[.slice A0 L.length c0, .slice (some ⟨ga, 0, none⟩) L.length L.length, .int .i64 (i : Int)] w' fun e w3 => e = .returned (.bool (mayL L ps i)) ∧ Below w'.heap.size w' w3 := fun {w'} ho => refl_May _ _ L ps i w' (hW w' ho) (atR_vals (ho.rowAt (i := 0) rfl)) hS hs hi
  refine calls_in ho Tryd.func28 rfl Tryd.ntmps28 rfl ?_
  by_cases h0 : ph ps i = 0
  · rw [h0] at hg
    cases hm : mayL L ps i
    · have e1 : beginC L ps i = 20 := by rw [beginC, if_pos h0, hm]; rfl
      have e2 : beginP L ps i = ps := by rw [beginP, hm]; rfl
      rw [e1, e2]
      rw [hm] at hmc
      refine at_seq ?_
      refine at_region ?_
      refine at_do (does_assign rfl) rfl rfl ?_
      refine at_nil ?_
      refine at_then ?_
      refine at_seq ?_
      refine at_seq ?_
      refine at_region ?_
      refine at_do (does_move rfl) rfl rfl ?_
      refine at_do (does_lss rfl rfl) rfl rfl ?_
      refine at_do (does_move rfl) rfl rfl ?_
      refine at_know (t := 9) (d := false) rfl (decide_eq_false (by omega)) ?_
      refine at_on rfl rfl ?_
      refine at_do (does_move rfl) rfl rfl ?_
      refine at_on rfl rfl ?_
      refine at_do (does_move rfl) rfl rfl ?_
      refine at_on rfl rfl ?_
      refine at_do (does_len (by kernel_rfl) rfl) rfl rfl ?_
      refine at_on rfl rfl ?_
      refine at_do (does_geq rfl rfl) rfl rfl ?_
      refine at_do (does_pick_false rfl rfl) rfl rfl ?_
      refine at_nil ?_
      refine at_then ?_
      refine at_cond_f rfl (decide_eq_false (by omega)) ?_
      refine at_skip ?_
      refine at_then ?_
      refine at_seq ?_
      refine at_seq ?_
      refine at_region ?_
      refine at_do (does_move rfl) rfl rfl ?_
      refine at_do (does_move rfl) rfl rfl ?_
      refine at_do (does_indexAddr1 (j := i) (by kernel_rfl) rfl rfl hi) rfl rfl ?_
      refine at_do (does_rowload (i := 0) (j := 0 + i) (by kernel_rfl) rfl rfl (by omega) hg) rfl rfl ?_
      refine at_do (does_gtr rfl rfl) rfl rfl ?_
      refine at_nil ?_
      refine at_then ?_
      refine at_cond_f rfl (decide_eq_false (by omega)) ?_
      refine at_skip ?_
      refine at_then ?_
      refine at_seq ?_
      refine at_seq ?_
      refine at_region ?_
      refine at_do (does_move rfl) rfl rfl ?_
      refine at_do (does_move rfl) rfl rfl ?_
      refine at_do (does_move rfl) rfl rfl ?_
      refine at_callv (f := 71) (enters_fn (by kernel_rfl) rfl) (fun w ho => hmc ho) rfl rfl ?_
      refine at_do (does_not rfl) rfl rfl ?_
      refine at_nil ?_
      refine at_then ?_
      refine at_cond_t rfl (by decide) ?_
      refine at_seq ?_
      refine at_region ?_
      refine at_do (does_assign rfl) rfl rfl ?_
      refine at_nil ?_
      refine at_then ?_
      refine at_ret ?_
      refine at_then_ret ?_
      refine at_ret1 rfl rfl rfl (fun w9 ho9 => ?_)
      rotate_left
      exact ⟨(), rfl, inR_of ho9⟩
    · have e1 : beginC L ps i = 0 := by rw [beginC, if_pos h0, hm]; rfl
      have e2 : beginP L ps i = ps.set i 1 := by rw [beginP, hm]; rfl
      rw [e1, e2]
      rw [hm] at hmc
      refine at_seq ?_
      refine at_region ?_
      refine at_do (does_assign rfl) rfl rfl ?_
      refine at_nil ?_
      refine at_then ?_
      refine at_seq ?_
      refine at_seq ?_
      refine at_region ?_
      refine at_do (does_move rfl) rfl rfl ?_
      refine at_do (does_lss rfl rfl) rfl rfl ?_
      refine at_do (does_move rfl) rfl rfl ?_
      refine at_know (t := 9) (d := false) rfl (decide_eq_false (by omega)) ?_
      refine at_on rfl rfl ?_
      refine at_do (does_move rfl) rfl rfl ?_
      refine at_on rfl rfl ?_
      refine at_do (does_move rfl) rfl rfl ?_
      refine at_on rfl rfl ?_
      refine at_do (does_len (by kernel_rfl) rfl) rfl rfl ?_
      refine at_on rfl rfl ?_
      refine at_do (does_geq rfl rfl) rfl rfl ?_
      refine at_do (does_pick_false rfl rfl) rfl rfl ?_
      refine at_nil ?_
      refine at_then ?_
      refine at_cond_f rfl (decide_eq_false (by omega)) ?_
      refine at_skip ?_
      refine at_then ?_
      refine at_seq ?_
      refine at_seq ?_
      refine at_region ?_
      refine at_do (does_move rfl) rfl rfl ?_
      refine at_do (does_move rfl) rfl rfl ?_
      refine at_do (does_indexAddr1 (j := i) (by kernel_rfl) rfl rfl hi) rfl rfl ?_
      refine at_do (does_rowload (i := 0) (j := 0 + i) (by kernel_rfl) rfl rfl (by omega) hg) rfl rfl ?_
      refine at_do (does_gtr rfl rfl) rfl rfl ?_
      refine at_nil ?_
      refine at_then ?_
      refine at_cond_f rfl (decide_eq_false (by omega)) ?_
      refine at_skip ?_
      refine at_then ?_
      refine at_seq ?_
      refine at_seq ?_
      refine at_region ?_
      refine at_do (does_move rfl) rfl rfl ?_
      refine at_do (does_move rfl) rfl rfl ?_
      refine at_do (does_move rfl) rfl rfl ?_
      refine at_callv (f := 71) (enters_fn (by kernel_rfl) rfl) (fun w ho => hmc ho) rfl rfl ?_
      refine at_do (does_not rfl) rfl rfl ?_
      refine at_nil ?_
      refine at_then ?_
      refine at_cond_f rfl (by decide) ?_
      refine at_skip ?_
      refine at_then ?_
      refine at_seq ?_
      refine at_region ?_
      refine at_do (does_move rfl) rfl rfl ?_
      refine at_do (does_move rfl) rfl rfl ?_
      refine at_do (does_indexAddr1 (j := i) (by kernel_rfl) rfl rfl hi) rfl rfl ?_
      refine at_rowstore (i := 0) (j := 0 + i) (by kernel_rfl) rfl rfl rfl rfl (by omega) ?_
      refine at_nil ?_
      refine at_then ?_
      refine at_seq ?_
      refine at_region ?_
      refine at_do (does_assign rfl) rfl rfl ?_
      refine at_nil ?_
      refine at_then ?_
      refine at_ret ?_
      refine at_ret1 rfl rfl rfl (fun w9 ho9 => ?_)
      rotate_left
      refine ⟨(), rfl, inR_of ?_⟩
      have e := ints_set0 ps i 1
      show Own _ [Res.row _ _ _ _ (ints (ps.set i 1))] w9
      rw [← e]
      exact ho9
  · have e1 : beginC L ps i = 16 := by rw [beginC, if_neg h0]
    have e2 : beginP L ps i = ps := by
      cases hm : mayL L ps i
      · rw [beginP, hm]; rfl
      · exact absurd (mayL_zero hm) h0
    rw [e1, e2]
    have h0' : ((ph ps i : Nat) : Int) > 0 := by omega
    generalize ph ps i = q at hg h0'
    refine at_seq ?_
    refine at_region ?_
    refine at_do (does_assign rfl) rfl rfl ?_
    refine at_nil ?_
    refine at_then ?_
    refine at_seq ?_
    refine at_seq ?_
    refine at_region ?_
    refine at_do (does_move rfl) rfl rfl ?_
    refine at_do (does_lss rfl rfl) rfl rfl ?_
    refine at_do (does_move rfl) rfl rfl ?_
    refine at_know (t := 9) (d := false) rfl (decide_eq_false (by omega)) ?_
    refine at_on rfl rfl ?_
    refine at_do (does_move rfl) rfl rfl ?_
    refine at_on rfl rfl ?_
    refine at_do (does_move rfl) rfl rfl ?_
    refine at_on rfl rfl ?_
    refine at_do (does_len (by kernel_rfl) rfl) rfl rfl ?_
    refine at_on rfl rfl ?_
    refine at_do (does_geq rfl rfl) rfl rfl ?_
    refine at_do (does_pick_false rfl rfl) rfl rfl ?_
    refine at_nil ?_
    refine at_then ?_
    refine at_cond_f rfl (decide_eq_false (by omega)) ?_
    refine at_skip ?_
    refine at_then ?_
    refine at_seq ?_
    refine at_seq ?_
    refine at_region ?_
    refine at_do (does_move rfl) rfl rfl ?_
    refine at_do (does_move rfl) rfl rfl ?_
    refine at_do (does_indexAddr1 (j := i) (by kernel_rfl) rfl rfl hi) rfl rfl ?_
    refine at_do (does_rowload (i := 0) (j := 0 + i) (by kernel_rfl) rfl rfl (by omega) hg) rfl rfl ?_
    refine at_do (does_gtr rfl rfl) rfl rfl ?_
    refine at_nil ?_
    refine at_then ?_
    refine at_cond_t rfl (decide_eq_true (by omega)) ?_
    refine at_seq ?_
    refine at_region ?_
    refine at_do (does_assign rfl) rfl rfl ?_
    refine at_nil ?_
    refine at_then ?_
    refine at_ret ?_
    refine at_then_ret ?_
    refine at_ret1 rfl rfl rfl (fun w9 ho9 => ?_)
    rotate_left
    exact ⟨(), rfl, inR_of ho9⟩
theorem refl_End_out {w : World} {ga n : Nat} {ps : List Nat} (ho : Own (inC w [atR ga n ps]) [atR ga n ps] w) (i : Int) (hi : ¬ (0 ≤ i ∧ i < n)) :
    Calls Tryd.prog 26 #[.slice (some ⟨ga, 0, none⟩) n n, .int .i64 i] w fun e w' => ∃ _ : Unit, e = .returned (.int .i64 4) ∧ InR w (fun k => k ∈ bls [atR ga n ps]) [atR ga n ps] w' := by
  refine calls_in ho Tryd.func26 rfl Tryd.ntmps26 rfl ?_
  by_cases h0 : i < 0
  · refine at_seq ?_
    refine at_region ?_
    refine at_do (does_assign rfl) rfl rfl ?_
    refine at_nil ?_
    refine at_then ?_
    refine at_seq ?_
    refine at_seq ?_
    refine at_region ?_
    refine at_do (does_move rfl) rfl rfl ?_
    refine at_do (does_lss rfl rfl) rfl rfl ?_
    refine at_do (does_move rfl) rfl rfl ?_
    refine at_know (t := 7) (d := true) rfl (decide_eq_true (by omega)) ?_
    refine at_no rfl rfl rfl rfl ?_
    refine at_no rfl rfl rfl rfl ?_
    refine at_no rfl rfl rfl rfl ?_
    refine at_no rfl rfl rfl rfl ?_
    refine at_do (does_pick_true rfl rfl) rfl rfl ?_
    refine at_nil ?_
    refine at_then ?_
    refine at_cond_true rfl ?_
    refine at_seq ?_
    refine at_region ?_
    refine at_do (does_assign rfl) rfl rfl ?_
    refine at_nil ?_
    refine at_then ?_
    refine at_ret ?_
    refine at_then_ret ?_
    refine at_ret1 rfl rfl rfl (fun w9 ho9 => ?_)
    rotate_left
    exact ⟨(), rfl, inR_of ho9⟩
  · refine at_seq ?_
    refine at_region ?_
    refine at_do (does_assign rfl) rfl rfl ?_
    refine at_nil ?_
    refine at_then ?_
    refine at_seq ?_
    refine at_seq ?_
    refine at_region ?_
    refine at_do (does_move rfl) rfl rfl ?_
    refine at_do (does_lss rfl rfl) rfl rfl ?_
    refine at_do (does_move rfl) rfl rfl ?_
    refine at_know (t := 7) (d := false) rfl (decide_eq_false (by omega)) ?_
    refine at_on rfl rfl ?_
    refine at_do (does_move rfl) rfl rfl ?_
    refine at_on rfl rfl ?_
    refine at_do (does_move rfl) rfl rfl ?_
    refine at_on rfl rfl ?_
    refine at_do (does_len (by kernel_rfl) rfl) rfl rfl ?_
    refine at_on rfl rfl ?_
    refine at_do (does_geq rfl rfl) rfl rfl ?_
    refine at_do (does_pick_false rfl rfl) rfl rfl ?_
    refine at_nil ?_
    refine at_then ?_
    refine at_cond_t rfl (decide_eq_true (by omega)) ?_
    refine at_seq ?_
    refine at_region ?_
    refine at_do (does_assign rfl) rfl rfl ?_
    refine at_nil ?_
    refine at_then ?_
    refine at_ret ?_
    refine at_then_ret ?_
    refine at_ret1 rfl rfl rfl (fun w9 ho9 => ?_)
    rotate_left
    exact ⟨(), rfl, inR_of ho9⟩
set_option maxHeartbeats 4000000 in
theorem refl_End_in {w : World} {ga n : Nat} {ps : List Nat} (hs : Sound ps n) (ho : Own (inC w [atR ga n ps]) [atR ga n ps] w) (i : Nat) (hi : i < n) :
    Calls Tryd.prog 26 #[.slice (some ⟨ga, 0, none⟩) n n, .int .i64 (i : Int)] w fun e w' => ∃ _ : Unit, e = .returned (.int .i64 ((endC ps i : Nat) : Int)) ∧ InR w (fun k => k ∈ bls [atR ga n ps]) [atR ga n (endP ps i)] w' := by
  have hg : (ints ps)[0 + i]? = some (.int .i64 ((ph ps i : Nat) : Int)) := at_get (ho.rowAt (i := 0) rfl) hs hi
  have htwo := hs.2.2 i
  refine calls_in ho Tryd.func26 rfl Tryd.ntmps26 rfl ?_
  by_cases h0 : ph ps i = 0
  · have e1 : endC ps i = 6 := by rw [endC, if_pos h0]
    have e2 : endP ps i = ps := by rw [endP, if_neg (by omega)]
    rw [e1, e2]
    rw [h0] at hg
    refine at_seq ?_
    refine at_region ?_
    refine at_do (does_assign rfl) rfl rfl ?_
    refine at_nil ?_
    refine at_then ?_
    refine at_seq ?_
    refine at_seq ?_
    refine at_region ?_
    refine at_do (does_move rfl) rfl rfl ?_
    refine at_do (does_lss rfl rfl) rfl rfl ?_
    refine at_do (does_move rfl) rfl rfl ?_
    refine at_know (t := 7) (d := false) rfl (decide_eq_false (by omega)) ?_
    refine at_on rfl rfl ?_
    refine at_do (does_move rfl) rfl rfl ?_
    refine at_on rfl rfl ?_
    refine at_do (does_move rfl) rfl rfl ?_
    refine at_on rfl rfl ?_
    refine at_do (does_len (by kernel_rfl) rfl) rfl rfl ?_
    refine at_on rfl rfl ?_
    refine at_do (does_geq rfl rfl) rfl rfl ?_
    refine at_do (does_pick_false rfl rfl) rfl rfl ?_
    refine at_nil ?_
    refine at_then ?_
    refine at_cond_f rfl (decide_eq_false (by omega)) ?_
    refine at_skip ?_
    refine at_then ?_
    refine at_seq ?_
    refine at_seq ?_
    refine at_region ?_
    refine at_do (does_move rfl) rfl rfl ?_
    refine at_do (does_move rfl) rfl rfl ?_
    refine at_do (does_indexAddr1 (j := i) (by kernel_rfl) rfl rfl hi) rfl rfl ?_
    refine at_do (does_rowload (i := 0) (j := 0 + i) (by kernel_rfl) rfl rfl (by omega) hg) rfl rfl ?_
    refine at_do (does_eql rfl rfl) rfl rfl ?_
    refine at_nil ?_
    refine at_then ?_
    refine at_cond_t rfl (decide_eq_true (by omega)) ?_
    refine at_seq ?_
    refine at_region ?_
    refine at_do (does_assign rfl) rfl rfl ?_
    refine at_nil ?_
    refine at_then ?_
    refine at_ret ?_
    refine at_then_ret ?_
    refine at_ret1 rfl rfl rfl (fun w9 ho9 => ?_)
    rotate_left
    exact ⟨(), rfl, inR_of ho9⟩
  · by_cases h2 : ph ps i = 2
    · have e1 : endC ps i = 16 := by rw [endC, if_neg h0, if_pos h2]
      have e2 : endP ps i = ps := by rw [endP, if_neg (by omega)]
      rw [e1, e2]
      rw [h2] at hg
      refine at_seq ?_
      refine at_region ?_
      refine at_do (does_assign rfl) rfl rfl ?_
      refine at_nil ?_
      refine at_then ?_
      refine at_seq ?_
      refine at_seq ?_
      refine at_region ?_
      refine at_do (does_move rfl) rfl rfl ?_
      refine at_do (does_lss rfl rfl) rfl rfl ?_
      refine at_do (does_move rfl) rfl rfl ?_
      refine at_know (t := 7) (d := false) rfl (decide_eq_false (by omega)) ?_
      refine at_on rfl rfl ?_
      refine at_do (does_move rfl) rfl rfl ?_
      refine at_on rfl rfl ?_
      refine at_do (does_move rfl) rfl rfl ?_
      refine at_on rfl rfl ?_
      refine at_do (does_len (by kernel_rfl) rfl) rfl rfl ?_
      refine at_on rfl rfl ?_
      refine at_do (does_geq rfl rfl) rfl rfl ?_
      refine at_do (does_pick_false rfl rfl) rfl rfl ?_
      refine at_nil ?_
      refine at_then ?_
      refine at_cond_f rfl (decide_eq_false (by omega)) ?_
      refine at_skip ?_
      refine at_then ?_
      refine at_seq ?_
      refine at_seq ?_
      refine at_region ?_
      refine at_do (does_move rfl) rfl rfl ?_
      refine at_do (does_move rfl) rfl rfl ?_
      refine at_do (does_indexAddr1 (j := i) (by kernel_rfl) rfl rfl hi) rfl rfl ?_
      refine at_do (does_rowload (i := 0) (j := 0 + i) (by kernel_rfl) rfl rfl (by omega) hg) rfl rfl ?_
      refine at_do (does_eql rfl rfl) rfl rfl ?_
      refine at_nil ?_
      refine at_then ?_
      refine at_cond_f rfl (decide_eq_false (by omega)) ?_
      refine at_skip ?_
      refine at_then ?_
      refine at_seq ?_
      refine at_seq ?_
      refine at_region ?_
      refine at_do (does_move rfl) rfl rfl ?_
      refine at_do (does_move rfl) rfl rfl ?_
      refine at_do (does_indexAddr1 (j := i) (by kernel_rfl) rfl rfl hi) rfl rfl ?_
      refine at_do (does_rowload (i := 0) (j := 0 + i) (by kernel_rfl) rfl rfl (by omega) hg) rfl rfl ?_
      refine at_do (does_eql rfl rfl) rfl rfl ?_
      refine at_nil ?_
      refine at_then ?_
      refine at_cond_t rfl (decide_eq_true (by omega)) ?_
      refine at_seq ?_
      refine at_region ?_
      refine at_do (does_assign rfl) rfl rfl ?_
      refine at_nil ?_
      refine at_then ?_
      refine at_ret ?_
      refine at_then_ret ?_
      refine at_ret1 rfl rfl rfl (fun w9 ho9 => ?_)
      rotate_left
      exact ⟨(), rfl, inR_of ho9⟩
    · have h1 : ph ps i = 1 := by omega
      have e1 : endC ps i = 0 := by rw [endC, if_neg h0, if_neg h2]
      have e2 : endP ps i = ps.set i 2 := by rw [endP, if_pos h1]
      rw [e1, e2]
      rw [h1] at hg
      refine at_seq ?_
      refine at_region ?_
      refine at_do (does_assign rfl) rfl rfl ?_
      refine at_nil ?_
      refine at_then ?_
      refine at_seq ?_
      refine at_seq ?_
      refine at_region ?_
      refine at_do (does_move rfl) rfl rfl ?_
      refine at_do (does_lss rfl rfl) rfl rfl ?_
      refine at_do (does_move rfl) rfl rfl ?_
      refine at_know (t := 7) (d := false) rfl (decide_eq_false (by omega)) ?_
      refine at_on rfl rfl ?_
      refine at_do (does_move rfl) rfl rfl ?_
      refine at_on rfl rfl ?_
      refine at_do (does_move rfl) rfl rfl ?_
      refine at_on rfl rfl ?_
      refine at_do (does_len (by kernel_rfl) rfl) rfl rfl ?_
      refine at_on rfl rfl ?_
      refine at_do (does_geq rfl rfl) rfl rfl ?_
      refine at_do (does_pick_false rfl rfl) rfl rfl ?_
      refine at_nil ?_
      refine at_then ?_
      refine at_cond_f rfl (decide_eq_false (by omega)) ?_
      refine at_skip ?_
      refine at_then ?_
      refine at_seq ?_
      refine at_seq ?_
      refine at_region ?_
      refine at_do (does_move rfl) rfl rfl ?_
      refine at_do (does_move rfl) rfl rfl ?_
      refine at_do (does_indexAddr1 (j := i) (by kernel_rfl) rfl rfl hi) rfl rfl ?_
      refine at_do (does_rowload (i := 0) (j := 0 + i) (by kernel_rfl) rfl rfl (by omega) hg) rfl rfl ?_
      refine at_do (does_eql rfl rfl) rfl rfl ?_
      refine at_nil ?_
      refine at_then ?_
      refine at_cond_f rfl (decide_eq_false (by omega)) ?_
      refine at_skip ?_
      refine at_then ?_
      refine at_seq ?_
      refine at_seq ?_
      refine at_region ?_
      refine at_do (does_move rfl) rfl rfl ?_
      refine at_do (does_move rfl) rfl rfl ?_
      refine at_do (does_indexAddr1 (j := i) (by kernel_rfl) rfl rfl hi) rfl rfl ?_
      refine at_do (does_rowload (i := 0) (j := 0 + i) (by kernel_rfl) rfl rfl (by omega) hg) rfl rfl ?_
      refine at_do (does_eql rfl rfl) rfl rfl ?_
      refine at_nil ?_
      refine at_then ?_
      refine at_cond_f rfl (decide_eq_false (by omega)) ?_
      refine at_skip ?_
      refine at_then ?_
      refine at_seq ?_
      refine at_region ?_
      refine at_do (does_move rfl) rfl rfl ?_
      refine at_do (does_move rfl) rfl rfl ?_
      refine at_do (does_indexAddr1 (j := i) (by kernel_rfl) rfl rfl hi) rfl rfl ?_
      refine at_rowstore (i := 0) (j := 0 + i) (by kernel_rfl) rfl rfl rfl rfl (by omega) ?_
      refine at_nil ?_
      refine at_then ?_
      refine at_seq ?_
      refine at_region ?_
      refine at_do (does_assign rfl) rfl rfl ?_
      refine at_nil ?_
      refine at_then ?_
      refine at_ret ?_
      refine at_ret1 rfl rfl rfl (fun w9 ho9 => ?_)
      rotate_left
      refine ⟨(), rfl, inR_of ?_⟩
      have e := ints_set0 ps i 2
      show Own _ [Res.row _ _ _ _ (ints (ps.set i 2))] w9
      rw [← e]
      exact ho9
end Go.Proofs.YtchfecmabhfooaaDoor
