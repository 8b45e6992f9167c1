/-
  ClashRanks, walked. No condition of its own.
-/
import Derived.Test.YtchfecmabhfooaaDoorClash19
set_option linter.unusedSimpArgs false
set_option linter.unusedVariables false
namespace Go.Proofs.YtchfecmabhfooaaDoor
open Go.RowKit

/-- Those of a rank from the last one down to m. -/
def ofR (L : List Want2) (r m : Nat) : List Nat := (List.range' m (L.length - m)).reverse.filter fun i => Nat.beq (rkL L i) r
theorem ofR_none (L : List Want2) (r : Nat) : ofR L r L.length = [] := by simp [ofR]
theorem ofR_all (L : List Want2) (r : Nat) : ofR L r 0 = ofRank L r := by simp [ofR, ofRank, List.range_eq_range']
theorem ofR_step (L : List Want2) (r i : Nat) (h : i < L.length) : ofR L r i = ofR L r (i + 1) ++ (if rkL L i = r then [i] else []) := by
  unfold ofR
  rw [show L.length - i = (L.length - (i + 1)) + 1 by omega, List.range'_succ, List.reverse_cons, List.filter_append]
  congr 1
  by_cases hr : rkL L i = r
  · rw [if_pos hr, List.filter_cons, if_pos (by simp [hr]), List.filter_nil]
  · rw [if_neg hr, List.filter_cons, if_neg (by simp [hr]), List.filter_nil]
theorem byRank_succ (L : List Want2) (r : Nat) : byRank L (r + 1) = byRank L r ++ ofRank L r := by
  unfold byRank
  rw [List.range_succ, List.flatMap_append]; simp
theorem ofR_len (L : List Want2) (r m : Nat) : (ofR L r m).length ≤ L.length := by
  unfold ofR
  refine Nat.le_trans (List.length_filter_le _ _) ?_
  simp
theorem byRank_len (L : List Want2) : ∀ r, (byRank L r).length ≤ r * L.length
  | 0 => by simp [byRank]
  | r + 1 => by
    have h1 := byRank_len L r
    have h2 := ofR_len L r 0
    rw [ofR_all] at h2
    rw [byRank_succ, List.length_append, Nat.add_mul, Nat.one_mul]
    omega
attribute [local irreducible] cwp lwp Exit.then Exit.inBlock Exit.noGoto wpQuiet Calls fin At AtQ Again endQ RQ byRank ofR rkL
set_option maxHeartbeats 8000000 in
theorem law_ClashRanks (arg : Value) (L0 : List Want2) (w : World) (hG : Glob w) (hV : WantsAt w arg L0) (hn9 : L0.length ≤ 9223372036854775807) :
    Calls Tryd.prog 5 #[arg] w fun e w' => e = .returned (.bool true) ∧ Below w.heap.size w w' := by
  have hS := few_short L0
  have hF : ∀ w1, Below w.heap.size w w1 → Calls Tryd.prog 17 #[arg] w1 fun e w' => ∃ v, e = .returned v ∧ Below w1.heap.size w1 w' ∧ WantsAt w' v ((L0.take 66).map cutW) := fun w1 hb => law_Few arg L0 w1 (hV.keep hb) hn9
  generalize (L0.take 66).map cutW = L at hS hF
  have hS1 := hS.1
  refine calls_plain Tryd.func5 rfl Tryd.ntmps5 rfl ?_
  refine at_seq ?_
  refine at_region ?_
  refine at_do (does_assign rfl) rfl rfl ?_
  refine at_nil ?_
  refine at_then ?_
  refine at_seq ?_
  refine at_region ?_
  refine at_do (does_move rfl) rfl rfl ?_
  refine at_callk (f := 17) (Φ := fun v w' => WantsAt w' v L) (enters_fn (by kernel_rfl) rfl) (fun w ho => hF w ho.plain) rfl rfl (fun v1 w1 hw1 hv1 => ?_)
  refine at_do (does_assign rfl) rfl rfl ?_
  refine at_nil ?_
  refine at_then ?_
  refine at_seq ?_
  refine at_region ?_
  refine at_do (does_move rfl) rfl rfl ?_
  rotate_left
  have s1 : ∀ {C : Ctx} {H : List Res} {w' : World}, Own (Ctx.re C w1 []) H w' → Below w1.heap.size w1 w' := fun ho => ho.since (by simp [Ctx.re, bls])
  cases h : rightL L
  · refine at_callv (f := 19) (enters_fn (by kernel_rfl) rfl) (fun w ho => ranks_no v1 L w (ho.glob hG id) (hv1.keep (s1 ho)) hS h) rfl rfl ?_
    refine at_do (does_move rfl) rfl rfl ?_
    refine at_do (does_extract rfl rfl) rfl rfl ?_
    refine at_do (does_extract rfl rfl) rfl rfl ?_
    refine at_do (does_assign rfl) rfl rfl ?_
    refine at_do (does_assign rfl) rfl rfl ?_
    refine at_nil ?_
    refine at_then ?_
    refine at_seq ?_
    refine at_seq ?_
    refine at_region ?_
    refine at_do (does_move rfl) rfl rfl ?_
    refine at_do (does_neq rfl rfl) rfl rfl ?_
    refine at_nil ?_
    refine at_then ?_
    refine at_cond_t rfl (decide_eq_true (by decide)) ?_
    refine at_seq ?_
    refine at_region ?_
    refine at_do (does_move rfl) rfl rfl ?_
    refine at_do (does_len (by kernel_rfl) rfl) rfl rfl ?_
    refine at_do (does_eql rfl rfl) rfl rfl ?_
    refine at_do (does_move rfl) rfl rfl ?_
    refine at_know (t := 23) (d := true) rfl (decide_eq_true (by decide)) ?_
    refine at_on rfl rfl ?_
    refine at_callv (f := 16) (enters_fn (by kernel_rfl) rfl) (fun w ho => clash_awake w (ho.glob hG id)) rfl rfl ?_
    refine at_do (does_pick_true rfl rfl) rfl rfl ?_
    refine at_do (does_assign rfl) rfl rfl ?_
    refine at_nil ?_
    refine at_then ?_
    refine at_ret ?_
    refine at_then_ret ?_
    refine at_ret1 rfl rfl rfl (fun w9 ho9 => ?_)
    rotate_left
    exact ⟨rfl, ho9.plain⟩
  refine at_callk (f := 19) (Φ := RanksV L) (enters_fn (by kernel_rfl) rfl) (fun w ho => ranks_v v1 L w (ho.glob hG id) (hv1.keep (s1 ho)) hS h) rfl rfl (fun v2 w2 hw2 hv2 => ?_)
  refine at_do (does_move rfl) rfl rfl ?_
  rotate_left
  obtain ⟨Ar, cr, rfl, hrk⟩ := hv2
  have t2 : Below w1.heap.size w1 w2 := s1 hw2
  have hv2 := hv1.keep t2
  have s2 : ∀ {C : Ctx} {H : List Res} {w' : World}, Own (Ctx.re C w2 []) H w' → Below w2.heap.size w2 w' := fun ho => ho.since (by simp [Ctx.re, bls])
  have hv2' := hv2
  obtain ⟨A0, c0, rfl, hc, hcell⟩ := hv2
  have hrl : (ints (kOut (aheadL L) L.length L.length)).length = L.length := by rw [ints, List.length_map, kOut_len]
  have hrc : ∀ i, i < L.length → ∃ gr or, Ar = some ⟨gr, or, none⟩ ∧ ∀ i, i < L.length → w2.cell? ⟨gr, or + i, none⟩ = some (.int .i64 ((rkL L i : Nat) : Int)) := fun i hi => by
    obtain ⟨gr, or, cr2, hre, _, _, hrcell⟩ := hrk.form (by omega)
    simp only [Value.slice.injEq, true_and] at hre
    obtain ⟨rfl, _, rfl⟩ := hre
    refine ⟨gr, or, rfl, fun k hk => hrcell k _ ?_⟩
    have := kOut_len (aheadL L) L.length L.length
    rw [ints_get (by omega)]
    unfold rkL; rfl
  refine at_do (does_extract rfl rfl) rfl rfl ?_
  refine at_do (does_extract rfl rfl) rfl rfl ?_
  refine at_do (does_assign rfl) rfl rfl ?_
  refine at_do (does_assign rfl) rfl rfl ?_
  refine at_nil ?_
  refine at_then ?_
  refine at_seq ?_
  refine at_seq ?_
  refine at_region ?_
  refine at_do (does_move rfl) rfl rfl ?_
  refine at_do (does_neq rfl rfl) rfl rfl ?_
  refine at_nil ?_
  refine at_then ?_
  refine at_cond_f rfl (decide_eq_false (by decide)) ?_
  refine at_skip ?_
  refine at_then ?_
  refine at_seq ?_
  refine at_seq ?_
  refine at_region ?_
  refine at_do (does_move rfl) rfl rfl ?_
  refine at_do (does_len (by kernel_rfl) rfl) rfl rfl ?_
  refine at_do (does_move rfl) rfl rfl ?_
  refine at_do (does_len (by kernel_rfl) rfl) rfl rfl ?_
  refine at_do (does_neq rfl rfl) rfl rfl ?_
  refine at_nil ?_
  refine at_then ?_
  refine at_cond_f rfl (decide_eq_false (by simp)) ?_
  refine at_skip ?_
  refine at_then ?_
  refine at_seq ?_
  refine at_region ?_
  refine at_do (does_assign rfl) rfl rfl ?_
  refine at_nil ?_
  refine at_then ?_
  refine at_seq ?_
  refine at_seq ?_
  refine at_region ?_
  refine at_do (does_assign rfl) rfl rfl ?_
  refine at_nil ?_
  refine at_then ?_
  refine at_block ?_
  rotate_left
  refine at_nilrow 3 1 ?_
  refine at_loopH (σ := Value × Nat) (fun s => s.2 ≤ L.length) (fun s => [(0, .slice A0 L.length c0), (3, .slice Ar L.length cr), (5, s.1), (6, .int .i64 s.2)])
    (fun s => [.row s.1 3 1 (byRank L s.2).length (ints (byRank L s.2))]) (fun s => L.length - s.2)
    (fun w ho => ⟨(.slice none 0 0, 0), Nat.zero_le _, ⟨rfl, rfl, rfl, rfl, trivial⟩, by
      have e : byRank L 0 = [] := by unfold byRank; rfl
      show Own _ [.row (.slice none 0 0) 3 1 (byRank L 0).length (ints (byRank L 0))] w
      rw [e]; exact ho⟩) ?_
  rintro ⟨v5, r⟩ hr
  simp only at hr
  by_cases hrl2 : r < L.length
  · have hbl := byRank_len L r
    have hbl2 : r * L.length ≤ 1000 * 1000 := Nat.mul_le_mul (by omega) hS1
    refine at_seq ?_
    refine at_seq ?_
    refine at_region ?_
    refine at_do (does_move rfl) rfl rfl ?_
    refine at_do (does_move rfl) rfl rfl ?_
    refine at_do (does_len (by kernel_rfl) rfl) rfl rfl ?_
    refine at_do (does_lss rfl rfl) rfl rfl ?_
    refine at_nil ?_
    refine at_then ?_
    refine at_cond_t rfl (decide_eq_true (by omega)) ?_
    refine at_skip ?_
    refine at_then ?_
    refine at_seq ?_
    refine at_block ?_
    refine at_seq ?_
    refine at_region ?_
    refine at_do (does_move rfl) rfl rfl ?_
    refine at_do (does_len (by kernel_rfl) rfl) rfl rfl ?_
    refine at_do (does_subi rfl rfl (by omega)) rfl rfl ?_
    refine at_do (does_assign rfl) rfl rfl ?_
    refine at_nil ?_
    refine at_then ?_
    refine at_block ?_
    rotate_left
    refine at_loopH (σ := Value × Nat) (fun s => s.2 ≤ L.length) (fun s => [(0, .slice A0 L.length c0), (3, .slice Ar L.length cr), (5, s.1), (6, .int .i64 r), (7, .int .i64 ((s.2 : Int) - 1))])
      (fun s => [.row s.1 3 1 (byRank L r ++ ofR L r s.2).length (ints (byRank L r ++ ofR L r s.2))]) (fun s => s.2)
      (fun w ho => ⟨(v5, L.length), Nat.le_refl _, ⟨rfl, rfl, rfl, rfl, rfl, trivial⟩, by
        show Own _ [.row v5 3 1 (byRank L r ++ ofR L r L.length).length (ints (byRank L r ++ ofR L r L.length))] w
        rw [ofR_none, List.append_nil]; exact ho⟩) ?_
    rintro ⟨v6, m⟩ hm
    simp only at hm
    have hol := ofR_len L r m
    match m, hm, hol with
    | 0, _, _ =>
      refine at_seq ?_
      refine at_seq ?_
      refine at_region ?_
      refine at_do (does_move rfl) rfl rfl ?_
      refine at_do (does_geq rfl rfl) rfl rfl ?_
      refine at_nil ?_
      refine at_then ?_
      refine at_cond_f rfl (decide_eq_false (by omega)) ?_
      refine at_exit ?_
      refine at_then_exit ?_
      refine at_then_exit ?_
      refine at_inb_here ?_
      refine at_inb ?_
      refine at_then ?_
      refine at_region ?_
      refine at_do (does_move rfl) rfl rfl ?_
      refine at_do (does_addi rfl rfl (by omega)) rfl rfl ?_
      refine at_do (does_assign rfl) rfl rfl ?_
      refine at_nil ?_
      refine at_then ?_
      rotate_left
      refine at_againw fun w ho => ⟨(v6, r + 1), by show r + 1 ≤ L.length; omega, by show L.length - (r + 1) < L.length - r; omega, ⟨rfl, rfl, rfl, rfl, trivial⟩, rfl, ?_⟩
      show Own _ [.row v6 3 1 (byRank L (r + 1)).length (ints (byRank L (r + 1)))] w
      rw [byRank_succ, ← ofR_all]; exact ho
    | i + 1, hm, hol =>
      have hil : i < L.length := by omega
      have hstep := ofR_step L r i hil
      obtain ⟨gr, or, rfl, hrcell⟩ := hrc i hil
      have hci := hrcell i hil
      refine at_weak (E' := [(0, .slice A0 L.length c0), (3, .slice (some ⟨gr, or, none⟩) L.length cr), (5, v6), (6, .int .i64 r), (7, .int .i64 (i : Int))]) ⟨rfl, rfl, rfl, rfl, by show some (Value.int IntKind.i64 _) = _; congr 2; simp, trivial⟩ ?_
      have hap := rk_apart L i
      have hci' := hci
      generalize hri : rkL L i = ri at hci hstep hap
      by_cases hrr : ri = r
      · subst hrr
        rw [if_pos rfl] at hstep
        refine at_seq ?_
        refine at_seq ?_
        refine at_region ?_
        refine at_do (does_move rfl) rfl rfl ?_
        refine at_do (does_geq rfl rfl) rfl rfl ?_
        refine at_nil ?_
        refine at_then ?_
        refine at_cond_t rfl (decide_eq_true (by omega)) ?_
        refine at_skip ?_
        refine at_then ?_
        refine at_seq ?_
        refine at_block ?_
        refine at_seq ?_
        refine at_seq ?_
        refine at_region ?_
        refine at_do (does_move rfl) rfl rfl ?_
        refine at_do (does_move rfl) rfl rfl ?_
        refine at_do (does_indexAddr1 (by kernel_rfl) rfl rfl (by (first | omega | (simp only; omega)))) rfl rfl ?_
        refine at_do (does_load_mem (by kernel_rfl) rfl (fun w' ho => Below.cellOld (s2 ho) hci)) rfl rfl ?_
        refine at_do (does_move rfl) rfl rfl ?_
        refine at_do (does_neq rfl rfl) rfl rfl ?_
        refine at_nil ?_
        refine at_then ?_
        refine at_cond_f rfl (decide_eq_false (by omega)) ?_
        refine at_skip ?_
        refine at_then ?_
        refine at_seq ?_
        refine at_region ?_
        refine at_do (does_move rfl) rfl rfl ?_
        refine at_do (does_move rfl) rfl rfl ?_
        refine at_buildSlice (e := 3) (sz := 1) (vs := [.int .i64 i]) (cs := [.int .i64 i]) (by kernel_rfl) rfl rfl rfl rfl rfl rfl (fun g3 => ?_)
        refine at_append (i := 1) (sz := 1) (by' := 8) (k := 1) (A := ⟨g3, 0, none⟩) (news := [.int .i64 i]) (by kernel_rfl) rfl rfl rfl rfl (fun w ho => lit_cells ho (i := 0) rfl) (oneCell_of rfl) (by simp only [maxLen, List.length_append]; omega) rfl (fun v' hv' => ?_)
        refine at_do (does_assign rfl) rfl rfl ?_
        refine at_nil ?_
        refine at_then ?_
        refine at_seq ?_
        refine at_region ?_
        refine at_do (does_assign rfl) rfl rfl ?_
        refine at_nil ?_
        refine at_then ?_
        refine at_block ?_
        rotate_left
        refine at_drop (List.sublist_cons_self ..) ?_
        refine at_loop0 (fun k : Nat => k ≤ i) (fun k => [(0, .slice A0 L.length c0), (3, .slice (some ⟨gr, or, none⟩) L.length cr), (5, v'), (6, .int .i64 ri), (7, .int .i64 i), (8, .int .i64 k)]) (fun k => i - k) 0 (Nat.zero_le _) ⟨rfl, rfl, rfl, rfl, rfl, rfl, trivial⟩ ?_
        rintro k hk
        by_cases hki : k < i
        · have hck := hrcell k (by omega)
          by_cases hrk2 : rkL L k = ri
          · obtain ⟨gb, o, rfl, hlt, hce⟩ := hcell (by omega)
            obtain ⟨an, bn, n1, n2, n3, n4, n5, n6⟩ := hce i hil
            have hxn := hS.2 L[i] (List.getElem_mem _)
            obtain ⟨ak, bk, k1, k2, k3, k4, k5, k6⟩ := hce k (by omega)
            have hxk := hS.2 L[k] (List.getElem_mem _)
            have hp : pairF L[k].1 L[k].2 L[i].1 L[i].2 = false := (oldPair (by omega) (by omega)).symm.trans (hap k hil hki hrk2)
            have cP : ∀ {w'}, Glob w' → ValsAt w' ak (strs L[k].1) → ValsAt w' bk (strs L[k].2) → ValsAt w' an (strs L[i].1) → ValsAt w' bn (strs L[i].2) → Calls Tryd.prog 14 #[.agg #[ak, bk], .agg #[an, bn]] w' fun e w3 => e = .returned (.bool false) ∧ Below w'.heap.size w' w3 := fun g x1 x2 x3 x4 => by
              rw [← hp]; exact clash_Pair ak bk an bn _ _ _ _ _ g x1 x2 x3 x4 hxk.1 hxk.2 hxn.1 hxn.2 k5 k6 n5 n6
            rw [hrk2] at hck
            refine at_seq ?_
            refine at_seq ?_
            refine at_region ?_
            refine at_do (does_move rfl) rfl rfl ?_
            refine at_do (does_move rfl) rfl rfl ?_
            refine at_do (does_lss rfl rfl) rfl rfl ?_
            refine at_nil ?_
            refine at_then ?_
            refine at_cond_t rfl (decide_eq_true (by omega)) ?_
            refine at_skip ?_
            refine at_then ?_
            refine at_seq ?_
            refine at_block ?_
            refine at_seq ?_
            refine at_draw (by kernel_rfl) (by kernel_rfl) ?_
            refine atq_do (does_move rfl) rfl rfl ?_
            refine atq_do (does_move rfl) rfl rfl ?_
            refine atq_do (does_indexAddr1 (by kernel_rfl) rfl rfl (by omega)) rfl rfl ?_
            refine atq_do (does_load_mem (by kernel_rfl) rfl (fun w' ho => Below.cellOld (s2 ho) hck)) rfl rfl ?_
            refine atq_do (does_move rfl) rfl rfl ?_
            refine atq_do (does_eql rfl rfl) rfl rfl ?_
            refine atq_do (does_move rfl) rfl rfl ?_
            refine atq_know (t := 65) (d := true) rfl (decide_eq_true (by omega)) ?_
            refine atq_on rfl rfl ?_
            refine atq_do (does_move rfl) rfl rfl ?_
            refine atq_on rfl rfl ?_
            refine atq_do (does_move rfl) rfl rfl ?_
            refine atq_on rfl rfl ?_
            refine atq_do (does_indexAddrk (k := 2) (j := k) (by kernel_rfl) rfl rfl (by omega)) rfl rfl ?_
            refine atq_on rfl rfl ?_
            refine atq_do (does_loadagg_mem (vs := [ak, bk]) (by kernel_rfl) rfl (fun w' ho => two_cells (Below.cellOld (s2 ho) k1) (Below.cellOld (s2 ho) k2))) rfl rfl ?_
            refine atq_on rfl rfl ?_
            refine atq_do (does_move rfl) rfl rfl ?_
            refine atq_on rfl rfl ?_
            refine atq_do (does_move rfl) rfl rfl ?_
            refine atq_on rfl rfl ?_
            refine atq_do (does_indexAddrk (k := 2) (j := i) (by kernel_rfl) rfl rfl (by omega)) rfl rfl ?_
            refine atq_on rfl rfl ?_
            refine atq_do (does_loadagg_mem (vs := [an, bn]) (by kernel_rfl) rfl (fun w' ho => two_cells (Below.cellOld (s2 ho) n1) (Below.cellOld (s2 ho) n2))) rfl rfl ?_
            refine atq_on rfl rfl ?_
            refine atq_callv (f := 14) (enters_fn (by kernel_rfl) rfl) (fun w ho => cP (ho.glob hG id) (k3.keep (s2 ho)) (k4.keep (s2 ho)) (n3.keep (s2 ho)) (n4.keep (s2 ho))) rfl rfl ?_
            refine atq_do (does_pick_true rfl rfl) rfl rfl ?_
            refine atq_nil ?_
            refine at_then ?_
            refine at_cond_false rfl ?_
            refine at_skip ?_
            refine at_inb ?_
            refine at_then ?_
            refine at_region ?_
            refine at_do (does_move rfl) rfl rfl ?_
            refine at_do (does_addi rfl rfl (by omega)) rfl rfl ?_
            refine at_do (does_assign rfl) rfl rfl ?_
            refine at_nil ?_
            refine at_then ?_
            rotate_left
            refine at_again0 (k + 1) (by omega) (by omega) ⟨rfl, rfl, rfl, rfl, rfl, rfl, trivial⟩
          · have hrk3 : ((rkL L k : Nat) : Int) ≠ (ri : Int) := by omega
            generalize rkL L k = rk at hck hrk3
            refine at_seq ?_
            refine at_seq ?_
            refine at_region ?_
            refine at_do (does_move rfl) rfl rfl ?_
            refine at_do (does_move rfl) rfl rfl ?_
            refine at_do (does_lss rfl rfl) rfl rfl ?_
            refine at_nil ?_
            refine at_then ?_
            refine at_cond_t rfl (decide_eq_true (by omega)) ?_
            refine at_skip ?_
            refine at_then ?_
            refine at_seq ?_
            refine at_block ?_
            refine at_seq ?_
            refine at_draw (by kernel_rfl) (by kernel_rfl) ?_
            refine atq_do (does_move rfl) rfl rfl ?_
            refine atq_do (does_move rfl) rfl rfl ?_
            refine atq_do (does_indexAddr1 (by kernel_rfl) rfl rfl (by omega)) rfl rfl ?_
            refine atq_do (does_load_mem (by kernel_rfl) rfl (fun w' ho => Below.cellOld (s2 ho) hck)) rfl rfl ?_
            refine atq_do (does_move rfl) rfl rfl ?_
            refine atq_do (does_eql rfl rfl) rfl rfl ?_
            refine atq_do (does_move rfl) rfl rfl ?_
            refine atq_know (t := 65) (d := false) rfl (decide_eq_false (by omega)) ?_
            refine atq_no rfl rfl rfl rfl ?_
            refine atq_no rfl rfl rfl rfl ?_
            refine atq_no rfl rfl rfl rfl ?_
            refine atq_no rfl rfl rfl rfl ?_
            refine atq_no rfl rfl rfl rfl ?_
            refine atq_no rfl rfl rfl rfl ?_
            refine atq_no rfl rfl rfl rfl ?_
            refine atq_no rfl rfl rfl rfl ?_
            refine atq_no rfl rfl rfl rfl ?_
            refine atq_do (does_pick_false rfl rfl) rfl rfl ?_
            refine atq_nil ?_
            refine at_then ?_
            refine at_cond_false rfl ?_
            refine at_skip ?_
            refine at_inb ?_
            refine at_then ?_
            refine at_region ?_
            refine at_do (does_move rfl) rfl rfl ?_
            refine at_do (does_addi rfl rfl (by omega)) rfl rfl ?_
            refine at_do (does_assign rfl) rfl rfl ?_
            refine at_nil ?_
            refine at_then ?_
            rotate_left
            refine at_again0 (k + 1) (by omega) (by omega) ⟨rfl, rfl, rfl, rfl, rfl, rfl, trivial⟩
        · obtain rfl : k = i := by omega
          refine at_seq ?_
          refine at_seq ?_
          refine at_region ?_
          refine at_do (does_move rfl) rfl rfl ?_
          refine at_do (does_move rfl) rfl rfl ?_
          refine at_do (does_lss rfl rfl) rfl rfl ?_
          refine at_nil ?_
          refine at_then ?_
          refine at_cond_f rfl (decide_eq_false (by omega)) ?_
          refine at_exit ?_
          refine at_then_exit ?_
          refine at_then_exit ?_
          refine at_inb_here ?_
          refine at_inb ?_
          refine at_then ?_
          refine at_region ?_
          refine at_do (does_move rfl) rfl rfl ?_
          refine at_do (does_subi rfl rfl (by omega)) rfl rfl ?_
          refine at_do (does_assign rfl) rfl rfl ?_
          refine at_nil ?_
          refine at_then ?_
          rotate_left
          refine at_againw fun w ho => ⟨(v', k), by show k ≤ L.length; omega, by show k < k + 1; omega, ⟨rfl, rfl, rfl, rfl, rfl, trivial⟩, rfl, ?_⟩
          show Own _ [.row v' 3 1 (byRank L ri ++ ofR L ri k).length (ints (byRank L ri ++ ofR L ri k))] w
          have e1 : (byRank L ri ++ ofR L ri k).length = (byRank L ri ++ ofR L ri (k + 1)).length + 1 := by rw [hstep]; simp; omega
          have e2 : ints (byRank L ri ++ ofR L ri k) = ints (byRank L ri ++ ofR L ri (k + 1)) ++ [.int .i64 k] := by rw [hstep]; simp [ints]
          rw [e1, e2]; exact ho
      · rw [if_neg hrr, List.append_nil] at hstep
        refine at_seq ?_
        refine at_seq ?_
        refine at_region ?_
        refine at_do (does_move rfl) rfl rfl ?_
        refine at_do (does_geq rfl rfl) rfl rfl ?_
        refine at_nil ?_
        refine at_then ?_
        refine at_cond_t rfl (decide_eq_true (by omega)) ?_
        refine at_skip ?_
        refine at_then ?_
        refine at_seq ?_
        refine at_block ?_
        refine at_seq ?_
        refine at_seq ?_
        refine at_region ?_
        refine at_do (does_move rfl) rfl rfl ?_
        refine at_do (does_move rfl) rfl rfl ?_
        refine at_do (does_indexAddr1 (by kernel_rfl) rfl rfl (by (first | omega | (simp only; omega)))) rfl rfl ?_
        refine at_do (does_load_mem (by kernel_rfl) rfl (fun w' ho => Below.cellOld (s2 ho) hci)) rfl rfl ?_
        refine at_do (does_move rfl) rfl rfl ?_
        refine at_do (does_neq rfl rfl) rfl rfl ?_
        refine at_nil ?_
        refine at_then ?_
        refine at_cond_t rfl (decide_eq_true (by omega)) ?_
        refine at_exit ?_
        refine at_then_exit ?_
        refine at_inb_here ?_
        refine at_then ?_
        refine at_region ?_
        refine at_do (does_move rfl) rfl rfl ?_
        refine at_do (does_subi rfl rfl (by (first | omega | (simp only; omega)))) rfl rfl ?_
        refine at_do (does_assign rfl) rfl rfl ?_
        refine at_nil ?_
        refine at_then ?_
        rotate_left
        refine at_againw fun w ho => ⟨(v6, i), by show i ≤ L.length; omega, by show i < i + 1; omega, ⟨rfl, rfl, rfl, rfl, rfl, trivial⟩, rfl, ?_⟩
        show Own _ [.row v6 3 1 (byRank L r ++ ofR L r i).length (ints (byRank L r ++ ofR L r i))] w
        rw [hstep]; exact ho
  · obtain rfl : r = L.length := by omega
    have cS : ∀ {C : Ctx} {w'}, Glob w' → WantsAt w' (.slice A0 L.length c0) L → Own C [.row v5 3 1 (byRank L L.length).length (ints (byRank L L.length))] w' → Calls Tryd.prog 22 #[.slice A0 L.length c0, v5] w' fun e w3 => e = .returned (.tuple #[.bool true, .int .i64 0]) ∧ Below w'.heap.size w' w3 := fun g x ho => by
      rw [← byRank_keeps L]
      exact swap_yes _ v5 L (byRank L L.length) _ g x hS h (vals_of_row (ho.rowAt (i := 0) rfl)) (byRank_whole L)
    refine at_seq ?_
    refine at_seq ?_
    refine at_region ?_
    refine at_do (does_move rfl) rfl rfl ?_
    refine at_do (does_move rfl) rfl rfl ?_
    refine at_do (does_len (by kernel_rfl) rfl) rfl rfl ?_
    refine at_do (does_lss rfl rfl) rfl rfl ?_
    refine at_nil ?_
    refine at_then ?_
    refine at_cond_f rfl (decide_eq_false (by omega)) ?_
    refine at_exit ?_
    refine at_then_exit ?_
    refine at_then_exit ?_
    refine at_inb_here ?_
    refine at_then ?_
    refine at_seq ?_
    refine at_region ?_
    refine at_do (does_move rfl) rfl rfl ?_
    refine at_do (does_move rfl) rfl rfl ?_
    refine at_callv (f := 22) (enters_fn (by kernel_rfl) rfl) (fun w ho => cS (ho.glob hG id) (hv2'.keep (s2 ho)) ho) rfl rfl ?_
    refine at_do (does_move rfl) rfl rfl ?_
    refine at_do (does_extract rfl rfl) rfl rfl ?_
    refine at_do (does_extract rfl rfl) rfl rfl ?_
    refine at_do (does_assign rfl) rfl rfl ?_
    refine at_do (does_assign rfl) rfl rfl ?_
    refine at_nil ?_
    refine at_then ?_
    refine at_seq ?_
    refine at_region ?_
    refine at_do (does_move rfl) rfl rfl ?_
    refine at_do (does_move rfl) rfl rfl ?_
    refine at_on rfl rfl ?_
    refine at_do (does_move rfl) rfl rfl ?_
    refine at_on rfl rfl ?_
    refine at_do (does_eql rfl rfl) rfl rfl ?_
    refine at_do (does_pick_true rfl rfl) rfl rfl ?_
    refine at_do (does_move rfl) rfl rfl ?_
    refine at_know (t := 87) (d := true) rfl (decide_eq_true (by omega)) ?_
    refine at_on rfl rfl ?_
    refine at_callv (f := 16) (enters_fn (by kernel_rfl) rfl) (fun w ho => clash_awake w (ho.glob hG id)) rfl rfl ?_
    refine at_do (does_pick_true rfl rfl) rfl rfl ?_
    refine at_do (does_assign rfl) rfl rfl ?_
    refine at_nil ?_
    refine at_then ?_
    refine at_ret ?_
    refine at_ret1 rfl rfl rfl (fun w9 ho9 => ?_)
    rotate_left
    exact ⟨rfl, ho9.plain⟩
end Go.Proofs.YtchfecmabhfooaaDoor
