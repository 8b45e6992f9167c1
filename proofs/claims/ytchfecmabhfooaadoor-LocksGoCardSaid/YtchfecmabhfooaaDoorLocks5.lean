/-
  The reference's answers about locks. No condition of its own.
-/
import Derived.Test.YtchfecmabhfooaaDoorME
set_option linter.unusedSimpArgs false
set_option linter.unusedVariables false
namespace Go.Proofs.YtchfecmabhfooaaDoor
open Go.RowKit
attribute [local irreducible] cwp lwp Exit.then Exit.inBlock Exit.noGoto wpQuiet Calls fin At AtQ Again endQ RQ

theorem same_yes (v1 v2 : Value) (xs : List Nat) (w : World) (h1 : ValsAt w v1 (ints xs)) (h2 : ValsAt w v2 (ints xs)) (hx : xs.length ≤ 1000) :
    Calls Tryd.prog 30 #[v1, v2] w fun e w' => e = .returned (.bool true) ∧ Below w.heap.size w w' := by
  have hil : (ints xs).length = xs.length := by simp [ints]
  obtain ⟨A1, c1, rfl⟩ := h1.len
  obtain ⟨A2, c2, rfl⟩ := h2.len
  refine calls_plain Tryd.func30 rfl Tryd.ntmps30 rfl ?_
  refine at_seq ?_
  refine at_region ?_
  refine at_do (does_assign rfl) rfl rfl ?_
  refine at_nil ?_
  refine at_then ?_
  refine at_seq ?_
  refine at_seq ?_
  refine at_region ?_
  refine at_do (does_move rfl) rfl rfl ?_
  refine at_do (does_len (by kernel_rfl) rfl) rfl rfl ?_
  refine at_do (does_move rfl) rfl rfl ?_
  refine at_do (does_len (by kernel_rfl) rfl) rfl rfl ?_
  refine at_do (does_neq rfl rfl) rfl rfl ?_
  refine at_nil ?_
  refine at_then ?_
  refine at_cond_f rfl (decide_eq_false (by simp)) ?_
  refine at_skip ?_
  refine at_then ?_
  refine at_seq ?_
  refine at_seq ?_
  refine at_region ?_
  refine at_do (does_assign rfl) rfl rfl ?_
  refine at_nil ?_
  refine at_then ?_
  refine at_block ?_
  rotate_left
  refine at_loop0 (fun i : Nat => i ≤ xs.length) (fun i => [(0, .slice A1 (ints xs).length c1), (1, .slice A2 (ints xs).length c2), (5, .int .i64 i)]) (fun i => xs.length - i) 0 (Nat.zero_le _) ⟨rfl, rfl, rfl, trivial⟩ ?_
  rintro i hi
  by_cases hil2 : i < xs.length
  · obtain ⟨g1, o1, d1, hv1, _, hl1, hc1⟩ := h1.form (by omega)
    obtain ⟨g2, o2, d2, hv2, _, hl2, hc2⟩ := h2.form (by omega)
    simp only [Value.slice.injEq, true_and] at hv1 hv2
    obtain ⟨rfl, rfl⟩ := hv1
    obtain ⟨rfl, rfl⟩ := hv2
    have hx1 := hc1 i _ (ints_get hil2)
    have hx2 := hc2 i _ (ints_get hil2)
    generalize ((xs.getD i 0 : Nat) : Int) = z at hx1 hx2
    refine at_seq ?_
    refine at_seq ?_
    refine at_region ?_
    refine at_do (does_move rfl) rfl rfl ?_
    refine at_do (does_move rfl) rfl rfl ?_
    refine at_do (does_len (by kernel_rfl) rfl) rfl rfl ?_
    refine at_do (does_lss rfl rfl) rfl rfl ?_
    refine at_nil ?_
    refine at_then ?_
    refine at_cond_t rfl (decide_eq_true (by omega)) ?_
    refine at_skip ?_
    refine at_then ?_
    refine at_seq ?_
    refine at_block ?_
    refine at_seq ?_
    refine at_draw (by kernel_rfl) (by kernel_rfl) ?_
    refine atq_do (does_move rfl) rfl rfl ?_
    refine atq_do (does_move rfl) rfl rfl ?_
    refine atq_do (does_indexAddr1 (by kernel_rfl) rfl rfl (by omega)) rfl rfl ?_
    refine atq_do (does_load_mem (by kernel_rfl) rfl (fun w' ho => Below.cellOld ho.plain hx1)) rfl rfl ?_
    refine atq_do (does_move rfl) rfl rfl ?_
    refine atq_do (does_move rfl) rfl rfl ?_
    refine atq_do (does_indexAddr1 (by kernel_rfl) rfl rfl (by omega)) rfl rfl ?_
    refine atq_do (does_load_mem (by kernel_rfl) rfl (fun w' ho => Below.cellOld ho.plain hx2)) rfl rfl ?_
    refine atq_do (does_neq rfl rfl) rfl rfl ?_
    refine atq_nil ?_
    refine at_then ?_
    refine at_cond_f rfl (decide_eq_false (by omega)) ?_
    refine at_skip ?_
    refine at_inb ?_
    refine at_then ?_
    refine at_region ?_
    refine at_do (does_move rfl) rfl rfl ?_
    refine at_do (does_addi rfl rfl (by omega)) rfl rfl ?_
    refine at_do (does_assign rfl) rfl rfl ?_
    refine at_nil ?_
    refine at_then ?_
    rotate_left
    refine at_again0 (i + 1) (by omega) (by omega) ⟨rfl, rfl, rfl, trivial⟩
  · obtain rfl : i = xs.length := by omega
    refine at_seq ?_
    refine at_seq ?_
    refine at_region ?_
    refine at_do (does_move rfl) rfl rfl ?_
    refine at_do (does_move rfl) rfl rfl ?_
    refine at_do (does_len (by kernel_rfl) rfl) rfl rfl ?_
    refine at_do (does_lss rfl rfl) rfl rfl ?_
    refine at_nil ?_
    refine at_then ?_
    refine at_cond_f rfl (decide_eq_false (by omega)) ?_
    refine at_exit ?_
    refine at_then_exit ?_
    refine at_then_exit ?_
    refine at_inb_here ?_
    refine at_then ?_
    refine at_seq ?_
    refine at_region ?_
    refine at_do (does_assign rfl) rfl rfl ?_
    refine at_nil ?_
    refine at_then ?_
    refine at_ret ?_
    refine at_ret1 rfl rfl rfl (fun w9 ho9 => ?_)
    rotate_left
    exact ⟨rfl, ho9.plain⟩
def hk (L : List Want2) (ps : List Nat) (i k : Nat) : List Nat := (flt L i k).filter fun j => decide (ph ps j ≠ 2)
theorem hk_succ (L : List Want2) (ps : List Nat) (i k : Nat) : hk L ps i (k + 1) = hk L ps i k ++ (if pairW L k i then (if ph ps k = 2 then [] else [k]) else []) := by
  unfold hk
  rw [flt_succ]
  by_cases h : pairW L k i
  · rw [if_pos h, if_pos h, List.filter_append]
    congr 1
    by_cases h2 : ph ps k = 2 <;> simp [h2]
  · rw [if_neg h, if_neg h, List.append_nil]
theorem hk_len (L : List Want2) (ps : List Nat) (i k : Nat) : (hk L ps i k).length ≤ k := Nat.le_trans (List.length_filter_le _ _) (flt_len L i k)
set_option maxHeartbeats 4000000 in
theorem ref_Waits (arg at' : Value) (L : List Want2) (ps : List Nat) (i : Nat) (w : World) (hV : WantsAt w arg L) (hA : ValsAt w at' (ints ps)) (hS : ShortW L) (hs : Sound ps L.length) (hi : i < L.length) :
    Calls Tryd.prog 31 #[arg, at', .int .i64 (i : Int)] w fun e w' => ∃ v, e = .returned v ∧ Below w.heap.size w w' ∧ w'.ownsRow w.heap.size 3 1 v (waitsL L ps i).length (ints (waitsL L ps i)) := by
  have hS1 := hS.1
  have hpl := hs.1
  have hil : (ints ps).length = ps.length := by simp [ints]
  obtain ⟨gA, oA, cA, rfl, _, _, hAc⟩ := hA.form (by omega)
  have hpi : w.cell? ⟨gA, oA + i, none⟩ = some (.int .i64 ((ph ps i : Nat) : Int)) := hAc i _ (ints_get (by omega))
  obtain ⟨A0, c0, rfl, hc, hcell⟩ := hV
  obtain ⟨gb, o, rfl, hlt, hce⟩ := hcell (by omega)
  obtain ⟨an, bn, n1, n2, n3, n4, n5, n6⟩ := hce i hi
  have hxn := hS.2 L[i] (List.getElem_mem _)
  refine calls_plain Tryd.func31 rfl Tryd.ntmps31 rfl ?_
  refine at_seq ?_
  refine at_region ?_
  refine at_do (does_assign rfl) rfl rfl ?_
  refine at_nil ?_
  refine at_then ?_
  refine at_seq ?_
  refine at_region ?_
  refine at_do (does_assign rfl) rfl rfl ?_
  refine at_nil ?_
  refine at_then ?_
  refine at_seq ?_
  refine at_seq ?_
  refine at_region ?_
  refine at_do (does_assign rfl) rfl rfl ?_
  refine at_nil ?_
  refine at_then ?_
  refine at_block ?_
  rotate_left
  refine at_nilrow 3 1 ?_
  by_cases h0 : ph ps i = 0
  · have hW : waitsL L ps i = hk L ps i i := by rw [waitsL, if_pos h0]; rfl
    rw [hW]
    rw [h0] at hpi
    refine at_loopH (σ := Value × Nat) (fun s => s.2 ≤ i) (fun s => [(0, .slice (some ⟨gb, o, none⟩) L.length c0), (1, .slice (some ⟨gA, oA, none⟩) (ints ps).length cA), (2, .int .i64 i), (7, s.1), (8, .int .i64 s.2)])
      (fun s => [.row s.1 3 1 (hk L ps i s.2).length (ints (hk L ps i s.2))]) (fun s => i - s.2)
      (fun w ho => ⟨(.slice none 0 0, 0), Nat.zero_le _, ⟨rfl, rfl, rfl, rfl, rfl, trivial⟩, ho⟩) ?_
    rintro ⟨v7, k⟩ hki
    simp only at hki
    by_cases hkl : k < i
    · obtain ⟨ak, bk, k1, k2, k3, k4, k5, k6⟩ := hce k (by omega)
      have hxk := hS.2 L[k] (List.getElem_mem _)
      have hp : pairW L k i = pairF L[k].1 L[k].2 L[i].1 L[i].2 := oldPair (by omega) (by omega)
      have hst := hk_succ L ps i k
      have hol := hk_len L ps i k
      have hpk : w.cell? ⟨gA, oA + k, none⟩ = some (.int .i64 ((ph ps k : Nat) : Int)) := hAc k _ (ints_get (by omega))
      have htwo := hs.2.2 k
      have cP : ∀ {w'}, ValsAt w' ak (strs L[k].1) → ValsAt w' bk (strs L[k].2) → ValsAt w' an (strs L[i].1) → ValsAt w' bn (strs L[i].2) → Calls Tryd.prog 15 #[.agg #[ak, bk], .agg #[an, bn]] w' fun e w3 => e = .returned (.bool (pairW L k i)) ∧ Below w'.heap.size w' w3 := fun x1 x2 x3 x4 => by
        rw [hp]; exact ref_Pair ak bk an bn _ _ _ _ _ x1 x2 x3 x4 hxk.1 hxk.2 hxn.1 hxn.2 k5 k6 n5 n6
      clear hp
      generalize pairW L k i = pk at hst cP
      generalize ph ps k = q at hst hpk htwo
      generalize hk L ps i k = os at hst hol ⊢
      by_cases h2 : q = 2
      · subst h2
        have hst' : hk L ps i (k + 1) = os := by rw [hst, if_pos rfl]; simp
        refine at_seq ?_
        refine at_seq ?_
        refine at_region ?_
        refine at_do (does_move rfl) rfl rfl ?_
        refine at_do (does_move rfl) rfl rfl ?_
        refine at_do (does_lss rfl rfl) rfl rfl ?_
        refine at_do (does_move rfl) rfl rfl ?_
        refine at_know (t := 12) (d := true) rfl (decide_eq_true (by omega)) ?_
        refine at_on rfl rfl ?_
        refine at_do (does_move rfl) rfl rfl ?_
        refine at_on rfl rfl ?_
        refine at_do (does_move rfl) rfl rfl ?_
        refine at_on rfl rfl ?_
        refine at_do (does_indexAddr1 (by kernel_rfl) rfl rfl (by (first | omega | (simp only; omega)))) rfl rfl ?_
        refine at_on rfl rfl ?_
        refine at_do (does_load_mem (by kernel_rfl) rfl (fun w' ho => Below.cellOld ho.plain hpi)) rfl rfl ?_
        refine at_on rfl rfl ?_
        refine at_do (does_eql rfl rfl) rfl rfl ?_
        refine at_do (does_pick_true rfl rfl) rfl rfl ?_
        refine at_nil ?_
        refine at_then ?_
        refine at_cond_t rfl (decide_eq_true (by omega)) ?_
        refine at_skip ?_
        refine at_then ?_
        refine at_seq ?_
        refine at_block ?_
        refine at_seq ?_
        refine at_draw (by kernel_rfl) (by kernel_rfl) ?_
        refine atq_do (does_move rfl) rfl rfl ?_
        refine atq_do (does_move rfl) rfl rfl ?_
        refine atq_do (does_indexAddr1 (by kernel_rfl) rfl rfl (by (first | omega | (simp only; omega)))) rfl rfl ?_
        refine atq_do (does_load_mem (by kernel_rfl) rfl (fun w' ho => Below.cellOld ho.plain hpk)) rfl rfl ?_
        refine atq_do (does_lss rfl rfl) rfl rfl ?_
        refine atq_do (does_move rfl) rfl rfl ?_
        refine atq_know (t := 26) (d := false) rfl (decide_eq_false (by omega)) ?_
        refine atq_no rfl rfl rfl rfl ?_
        refine atq_no rfl rfl rfl rfl ?_
        refine atq_no rfl rfl rfl rfl ?_
        refine atq_no rfl rfl rfl rfl ?_
        refine atq_no rfl rfl rfl rfl ?_
        refine atq_no rfl rfl rfl rfl ?_
        refine atq_no rfl rfl rfl rfl ?_
        refine atq_no rfl rfl rfl rfl ?_
        refine atq_no rfl rfl rfl rfl ?_
        refine atq_do (does_pick_false rfl rfl) rfl rfl ?_
        refine atq_nil ?_
        refine at_then ?_
        refine at_cond_false rfl ?_
        refine at_skip ?_
        refine at_inb ?_
        refine at_then ?_
        refine at_region ?_
        refine at_do (does_move rfl) rfl rfl ?_
        refine at_do (does_addi rfl rfl (by (first | omega | (simp only; omega)))) rfl rfl ?_
        refine at_do (does_assign rfl) rfl rfl ?_
        refine at_nil ?_
        refine at_then ?_
        rotate_left
        refine at_againw fun w ho => ⟨(v7, k + 1), by show k + 1 ≤ i; omega, by show i - (k + 1) < i - k; omega, ⟨rfl, rfl, rfl, rfl, rfl, trivial⟩, rfl, ?_⟩
        simp only
        rw [hst']; exact ho
      · rw [if_neg h2] at hst
        have h2' : ((q : Nat) : Int) < 2 := by omega
        cases pk
        · have hst' : hk L ps i (k + 1) = os := by rw [hst, if_neg (by simp)]; simp
          refine at_seq ?_
          refine at_seq ?_
          refine at_region ?_
          refine at_do (does_move rfl) rfl rfl ?_
          refine at_do (does_move rfl) rfl rfl ?_
          refine at_do (does_lss rfl rfl) rfl rfl ?_
          refine at_do (does_move rfl) rfl rfl ?_
          refine at_know (t := 12) (d := true) rfl (decide_eq_true (by omega)) ?_
          refine at_on rfl rfl ?_
          refine at_do (does_move rfl) rfl rfl ?_
          refine at_on rfl rfl ?_
          refine at_do (does_move rfl) rfl rfl ?_
          refine at_on rfl rfl ?_
          refine at_do (does_indexAddr1 (by kernel_rfl) rfl rfl (by (first | omega | (simp only; omega)))) rfl rfl ?_
          refine at_on rfl rfl ?_
          refine at_do (does_load_mem (by kernel_rfl) rfl (fun w' ho => Below.cellOld ho.plain hpi)) rfl rfl ?_
          refine at_on rfl rfl ?_
          refine at_do (does_eql rfl rfl) rfl rfl ?_
          refine at_do (does_pick_true rfl rfl) rfl rfl ?_
          refine at_nil ?_
          refine at_then ?_
          refine at_cond_t rfl (decide_eq_true (by omega)) ?_
          refine at_skip ?_
          refine at_then ?_
          refine at_seq ?_
          refine at_block ?_
          refine at_seq ?_
          refine at_draw (by kernel_rfl) (by kernel_rfl) ?_
          refine atq_do (does_move rfl) rfl rfl ?_
          refine atq_do (does_move rfl) rfl rfl ?_
          refine atq_do (does_indexAddr1 (by kernel_rfl) rfl rfl (by (first | omega | (simp only; omega)))) rfl rfl ?_
          refine atq_do (does_load_mem (by kernel_rfl) rfl (fun w' ho => Below.cellOld ho.plain hpk)) rfl rfl ?_
          refine atq_do (does_lss rfl rfl) rfl rfl ?_
          refine atq_do (does_move rfl) rfl rfl ?_
          refine atq_know (t := 26) (d := true) rfl (decide_eq_true (by omega)) ?_
          refine atq_on rfl rfl ?_
          refine atq_do (does_move rfl) rfl rfl ?_
          refine atq_on rfl rfl ?_
          refine atq_do (does_move rfl) rfl rfl ?_
          refine atq_on rfl rfl ?_
          refine atq_do (does_indexAddrk (k := 2) (j := k) (by kernel_rfl) rfl rfl (by first | omega | (simp only; omega))) rfl rfl ?_
          refine atq_on rfl rfl ?_
          refine atq_do (does_loadagg_mem (vs := [ak, bk]) (by kernel_rfl) rfl (fun w' ho => two_cells (Below.cellOld ho.plain k1) (Below.cellOld ho.plain k2))) rfl rfl ?_
          refine atq_on rfl rfl ?_
          refine atq_do (does_move rfl) rfl rfl ?_
          refine atq_on rfl rfl ?_
          refine atq_do (does_move rfl) rfl rfl ?_
          refine atq_on rfl rfl ?_
          refine atq_do (does_indexAddrk (k := 2) (j := i) (by kernel_rfl) rfl rfl (by omega)) rfl rfl ?_
          refine atq_on rfl rfl ?_
          refine atq_do (does_loadagg_mem (vs := [an, bn]) (by kernel_rfl) rfl (fun w' ho => two_cells (Below.cellOld ho.plain n1) (Below.cellOld ho.plain n2))) rfl rfl ?_
          refine atq_on rfl rfl ?_
          refine atq_callv (f := 15) (enters_fn (by kernel_rfl) rfl) (fun w ho => cP (ho.oldVals k3) (ho.oldVals k4) (ho.oldVals n3) (ho.oldVals n4)) rfl rfl ?_
          refine atq_do (does_pick_true rfl rfl) rfl rfl ?_
          refine atq_nil ?_
          refine at_then ?_
          refine at_cond_false rfl ?_
          refine at_skip ?_
          refine at_inb ?_
          refine at_then ?_
          refine at_region ?_
          refine at_do (does_move rfl) rfl rfl ?_
          refine at_do (does_addi rfl rfl (by (first | omega | (simp only; omega)))) rfl rfl ?_
          refine at_do (does_assign rfl) rfl rfl ?_
          refine at_nil ?_
          refine at_then ?_
          rotate_left
          refine at_againw fun w ho => ⟨(v7, k + 1), by show k + 1 ≤ i; omega, by show i - (k + 1) < i - k; omega, ⟨rfl, rfl, rfl, rfl, rfl, trivial⟩, rfl, ?_⟩
          simp only
          rw [hst']; exact ho
        · rw [if_pos rfl] at hst
          refine at_seq ?_
          refine at_seq ?_
          refine at_region ?_
          refine at_do (does_move rfl) rfl rfl ?_
          refine at_do (does_move rfl) rfl rfl ?_
          refine at_do (does_lss rfl rfl) rfl rfl ?_
          refine at_do (does_move rfl) rfl rfl ?_
          refine at_know (t := 12) (d := true) rfl (decide_eq_true (by omega)) ?_
          refine at_on rfl rfl ?_
          refine at_do (does_move rfl) rfl rfl ?_
          refine at_on rfl rfl ?_
          refine at_do (does_move rfl) rfl rfl ?_
          refine at_on rfl rfl ?_
          refine at_do (does_indexAddr1 (by kernel_rfl) rfl rfl (by (first | omega | (simp only; omega)))) rfl rfl ?_
          refine at_on rfl rfl ?_
          refine at_do (does_load_mem (by kernel_rfl) rfl (fun w' ho => Below.cellOld ho.plain hpi)) rfl rfl ?_
          refine at_on rfl rfl ?_
          refine at_do (does_eql rfl rfl) rfl rfl ?_
          refine at_do (does_pick_true rfl rfl) rfl rfl ?_
          refine at_nil ?_
          refine at_then ?_
          refine at_cond_t rfl (decide_eq_true (by omega)) ?_
          refine at_skip ?_
          refine at_then ?_
          refine at_seq ?_
          refine at_block ?_
          refine at_seq ?_
          refine at_draw (by kernel_rfl) (by kernel_rfl) ?_
          refine atq_do (does_move rfl) rfl rfl ?_
          refine atq_do (does_move rfl) rfl rfl ?_
          refine atq_do (does_indexAddr1 (by kernel_rfl) rfl rfl (by (first | omega | (simp only; omega)))) rfl rfl ?_
          refine atq_do (does_load_mem (by kernel_rfl) rfl (fun w' ho => Below.cellOld ho.plain hpk)) rfl rfl ?_
          refine atq_do (does_lss rfl rfl) rfl rfl ?_
          refine atq_do (does_move rfl) rfl rfl ?_
          refine atq_know (t := 26) (d := true) rfl (decide_eq_true (by omega)) ?_
          refine atq_on rfl rfl ?_
          refine atq_do (does_move rfl) rfl rfl ?_
          refine atq_on rfl rfl ?_
          refine atq_do (does_move rfl) rfl rfl ?_
          refine atq_on rfl rfl ?_
          refine atq_do (does_indexAddrk (k := 2) (j := k) (by kernel_rfl) rfl rfl (by first | omega | (simp only; omega))) rfl rfl ?_
          refine atq_on rfl rfl ?_
          refine atq_do (does_loadagg_mem (vs := [ak, bk]) (by kernel_rfl) rfl (fun w' ho => two_cells (Below.cellOld ho.plain k1) (Below.cellOld ho.plain k2))) rfl rfl ?_
          refine atq_on rfl rfl ?_
          refine atq_do (does_move rfl) rfl rfl ?_
          refine atq_on rfl rfl ?_
          refine atq_do (does_move rfl) rfl rfl ?_
          refine atq_on rfl rfl ?_
          refine atq_do (does_indexAddrk (k := 2) (j := i) (by kernel_rfl) rfl rfl (by omega)) rfl rfl ?_
          refine atq_on rfl rfl ?_
          refine atq_do (does_loadagg_mem (vs := [an, bn]) (by kernel_rfl) rfl (fun w' ho => two_cells (Below.cellOld ho.plain n1) (Below.cellOld ho.plain n2))) rfl rfl ?_
          refine atq_on rfl rfl ?_
          refine atq_callv (f := 15) (enters_fn (by kernel_rfl) rfl) (fun w ho => cP (ho.oldVals k3) (ho.oldVals k4) (ho.oldVals n3) (ho.oldVals n4)) rfl rfl ?_
          refine atq_do (does_pick_true rfl rfl) rfl rfl ?_
          refine atq_nil ?_
          refine at_then ?_
          refine at_cond_true rfl ?_
          refine at_region ?_
          refine at_do (does_move rfl) rfl rfl ?_
          refine at_do (does_move rfl) rfl rfl ?_
          refine at_buildSlice (e := 3) (sz := 1) (vs := [.int .i64 k]) (cs := [.int .i64 k]) (by kernel_rfl) rfl rfl rfl rfl rfl rfl (fun g3 => ?_)
          refine at_append (i := 1) (sz := 1) (by' := 8) (k := 1) (A := ⟨g3, 0, none⟩) (news := [.int .i64 k]) (by kernel_rfl) rfl rfl rfl rfl (fun w ho => lit_cells ho (i := 0) rfl) (oneCell_of rfl) (by simp only [maxLen]; omega) rfl (fun v' hv' => ?_)
          refine at_do (does_assign rfl) rfl rfl ?_
          refine at_nil ?_
          refine at_inb ?_
          refine at_then ?_
          refine at_region ?_
          refine at_do (does_move rfl) rfl rfl ?_
          refine at_do (does_addi rfl rfl (by (first | omega | (simp only; omega)))) rfl rfl ?_
          refine at_do (does_assign rfl) rfl rfl ?_
          refine at_nil ?_
          refine at_then ?_
          rotate_left
          refine at_againw fun w ho => ⟨(v', k + 1), by show k + 1 ≤ i; omega, by show i - (k + 1) < i - k; omega, ⟨rfl, rfl, rfl, rfl, rfl, trivial⟩, rfl, ?_⟩
          simp only
          have e1 : (os ++ [k]).length = os.length + 1 := by simp
          have e2 : ints (os ++ [k]) = ints os ++ [.int .i64 k] := by simp [ints]
          rw [hst, e1, e2]
          exact ho.sublist (List.sublist_cons_self ..)
    · obtain rfl : k = i := by omega
      refine at_seq ?_
      refine at_seq ?_
      refine at_region ?_
      refine at_do (does_move rfl) rfl rfl ?_
      refine at_do (does_move rfl) rfl rfl ?_
      refine at_do (does_lss rfl rfl) rfl rfl ?_
      refine at_do (does_move rfl) rfl rfl ?_
      refine at_know (t := 12) (d := false) rfl (decide_eq_false (by omega)) ?_
      refine at_no rfl rfl rfl rfl ?_
      refine at_no rfl rfl rfl rfl ?_
      refine at_no rfl rfl rfl rfl ?_
      refine at_no rfl rfl rfl rfl ?_
      refine at_no rfl rfl rfl rfl ?_
      refine at_do (does_pick_false rfl rfl) rfl rfl ?_
      refine at_nil ?_
      refine at_then ?_
      refine at_cond_false rfl ?_
      refine at_exit ?_
      refine at_then_exit ?_
      refine at_then_exit ?_
      refine at_inb_here ?_
      refine at_then ?_
      refine at_seq ?_
      refine at_region ?_
      refine at_do (does_move rfl) rfl rfl ?_
      refine at_do (does_assign rfl) rfl rfl ?_
      refine at_nil ?_
      refine at_then ?_
      refine at_ret ?_
      refine at_ret1 rfl rfl rfl (fun w9 ho9 => ?_)
      rotate_left
      exact ⟨_, rfl, ho9.plain, ho9.rowOut (List.mem_cons_self ..)⟩
  · have hW : waitsL L ps i = [] := by rw [waitsL, if_neg h0]
    rw [hW]
    have h0' : ¬ ((ph ps i : Nat) : Int) = 0 := by omega
    generalize ph ps i = q at hpi h0'
    refine at_loop0 (fun _ : Unit => True) (fun _ => [(0, .slice (some ⟨gb, o, none⟩) L.length c0), (1, .slice (some ⟨gA, oA, none⟩) (ints ps).length cA), (2, .int .i64 i), (7, .slice none 0 0), (8, .int .i64 0)]) (fun _ => 0) () trivial ⟨rfl, rfl, rfl, rfl, rfl, trivial⟩ ?_
    rintro ⟨⟩ _
    by_cases hi0 : i = 0
    · refine at_seq ?_
      refine at_seq ?_
      refine at_region ?_
      refine at_do (does_move rfl) rfl rfl ?_
      refine at_do (does_move rfl) rfl rfl ?_
      refine at_do (does_lss rfl rfl) rfl rfl ?_
      refine at_do (does_move rfl) rfl rfl ?_
      refine at_know (t := 12) (d := false) rfl (decide_eq_false (by omega)) ?_
      refine at_no rfl rfl rfl rfl ?_
      refine at_no rfl rfl rfl rfl ?_
      refine at_no rfl rfl rfl rfl ?_
      refine at_no rfl rfl rfl rfl ?_
      refine at_no rfl rfl rfl rfl ?_
      refine at_do (does_pick_false rfl rfl) rfl rfl ?_
      refine at_nil ?_
      refine at_then ?_
      refine at_cond_false rfl ?_
      refine at_exit ?_
      refine at_then_exit ?_
      refine at_then_exit ?_
      refine at_inb_here ?_
      refine at_then ?_
      refine at_seq ?_
      refine at_region ?_
      refine at_do (does_move rfl) rfl rfl ?_
      refine at_do (does_assign rfl) rfl rfl ?_
      refine at_nil ?_
      refine at_then ?_
      refine at_ret ?_
      refine at_ret1 rfl rfl rfl (fun w9 ho9 => ?_)
      rotate_left
      exact ⟨_, rfl, ho9.plain, World.ownsRow_nil w9 w.heap.size 3 1⟩
    · refine at_seq ?_
      refine at_seq ?_
      refine at_region ?_
      refine at_do (does_move rfl) rfl rfl ?_
      refine at_do (does_move rfl) rfl rfl ?_
      refine at_do (does_lss rfl rfl) rfl rfl ?_
      refine at_do (does_move rfl) rfl rfl ?_
      refine at_know (t := 12) (d := true) rfl (decide_eq_true (by omega)) ?_
      refine at_on rfl rfl ?_
      refine at_do (does_move rfl) rfl rfl ?_
      refine at_on rfl rfl ?_
      refine at_do (does_move rfl) rfl rfl ?_
      refine at_on rfl rfl ?_
      refine at_do (does_indexAddr1 (by kernel_rfl) rfl rfl (by omega)) rfl rfl ?_
      refine at_on rfl rfl ?_
      refine at_do (does_load_mem (by kernel_rfl) rfl (fun w' ho => Below.cellOld ho.plain hpi)) rfl rfl ?_
      refine at_on rfl rfl ?_
      refine at_do (does_eql rfl rfl) rfl rfl ?_
      refine at_do (does_pick_true rfl rfl) rfl rfl ?_
      refine at_nil ?_
      refine at_then ?_
      refine at_cond_f rfl (decide_eq_false (by omega)) ?_
      refine at_exit ?_
      refine at_then_exit ?_
      refine at_then_exit ?_
      refine at_inb_here ?_
      refine at_then ?_
      refine at_seq ?_
      refine at_region ?_
      refine at_do (does_move rfl) rfl rfl ?_
      refine at_do (does_assign rfl) rfl rfl ?_
      refine at_nil ?_
      refine at_then ?_
      refine at_ret ?_
      refine at_ret1 rfl rfl rfl (fun w9 ho9 => ?_)
      rotate_left
      exact ⟨_, rfl, ho9.plain, World.ownsRow_nil w9 w.heap.size 3 1⟩
end Go.Proofs.YtchfecmabhfooaaDoor
