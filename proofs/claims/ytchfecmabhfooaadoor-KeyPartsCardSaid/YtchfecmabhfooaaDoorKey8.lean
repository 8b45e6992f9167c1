/-
  The law of KeyParts. No condition of its own.
-/
import Derived.Test.YtchfecmabhfooaaDoorKey7
set_option linter.unusedSimpArgs false
set_option linter.unusedVariables false
namespace Go.Proofs.YtchfecmabhfooaaDoor
open Go.RowKit
attribute [local irreducible] cwp lwp Exit.then Exit.inBlock Exit.noGoto wpQuiet Calls fin At AtQ Again endQ RQ

set_option maxRecDepth 100000 in
set_option maxHeartbeats 8000000 in
theorem parts_short (k0 : List UInt8) (v0 : Value) (L0 Lt : List (List UInt8)) (w : World) (hG : Glob w) (hM : Maxl w) (hV0 : ValsAt w v0 (strs L0)) (hLt : Lt = L0.take 30) (hn : Lt.length ≤ 30) (hs : L0.length ≤ 30) :
    Calls Tryd.prog 12 #[.string (bs k0), v0] w fun e w' => e = .returned (.bool true) ∧ Below w.heap.size w w' := by
  obtain ⟨kk, hkk⟩ : ∃ kk, kk = k0.take 60 := ⟨_, rfl⟩
  have hk60 : kk.length ≤ 60 := by rw [hkk]; exact take60 k0
  have cfk : ∀ w, Calls Tryd.prog 40 #[.string (bs k0)] w fun e w' => e = .returned (.string (bs kk)) ∧ Below w.heap.size w w' := fun w => hkk ▸ law_few k0 w
  have hl0 : (strs L0).length = L0.length := by simp [strs]
  refine calls_plain Tryd.func12 rfl Tryd.ntmps12 rfl ?_
  refine at_seq ?_
  refine at_region ?_
  refine at_do (does_assign rfl) rfl rfl ?_
  refine at_nil ?_
  refine at_then ?_
  refine at_seq ?_
  refine at_region ?_
  refine at_do (does_move rfl) rfl rfl ?_
  refine at_callv (f := 40) (enters_fn (by kernel_rfl) rfl) (fun w ho => cfk w) rfl rfl ?_
  refine at_do (does_assign rfl) rfl rfl ?_
  refine at_nil ?_
  refine at_then ?_
  refine at_seq ?_
  refine at_seq ?_
  refine at_region ?_
  refine at_do (does_move rfl) rfl rfl ?_
  refine at_do (does_vlen (vs := strs L0) (by kernel_rfl) rfl (fun w ho => ho.oldVals hV0)) rfl rfl ?_
  refine at_do (does_gtr rfl rfl) rfl rfl ?_
  refine at_nil ?_
  refine at_then ?_
  refine at_cond_f rfl (decide_eq_false (by omega)) ?_
  refine at_skip ?_
  refine at_then ?_
  refine at_seq ?_
  refine at_region ?_
  refine at_do (does_assign rfl) rfl rfl ?_
  refine at_nil ?_
  refine at_then ?_
  refine at_seq ?_
  refine at_seq ?_
  refine at_region ?_
  refine at_do (does_assign rfl) rfl rfl ?_
  refine at_nil ?_
  refine at_then ?_
  refine at_block ?_
  rotate_left
  have hV1 : ValsAt w v0 (strs Lt) := by rw [hLt, List.take_of_length_le (by omega)]; exact hV0
  refine at_loop (σ := World × Value × Nat) (fun s => s.2.2 ≤ Lt.length ∧ ValsAt s.1 s.2.1 (strs (mix Lt s.2.2))) (fun s => [(0, .string (bs kk)), (1, s.2.1), (5, .string (bs (joinB ((Lt.map (·.take 60)).take s.2.2)))), (6, .int .i64 s.2.2)]) (fun s => ⟨w, fun _ => False, fun _ => False, s.1, fun k => k ∈ bls [], []⟩) (fun _ => []) (fun s => Lt.length - s.2.2)
    (fun w1 ho => ⟨(w1, v0, 0), ⟨Nat.zero_le _, by show ValsAt w1 _ (strs (mix Lt 0)); exact hV1.keep ho.plain⟩, ⟨rfl, rfl, rfl, rfl, trivial⟩, rfl, ho.re⟩) ?_
  rintro ⟨W1, v, i⟩ ⟨hi, hV⟩
  simp only at hi hV
  have hml : (strs (mix Lt i)).length = Lt.length := by simp [strs, mix_len Lt i hi]
  by_cases hin : i < Lt.length
  · obtain ⟨gb, o, c, hv, hc, hlt, hcell⟩ := hV.form (by omega)
    subst hv
    obtain ⟨x, hx⟩ : ∃ x, x = Lt[i] := ⟨_, rfl⟩
    have hci : W1.cell? ⟨gb, o + i, none⟩ = some (.string (bs x)) := hcell i _ (by rw [hx]; simp [strs, mix_get Lt i hin])
    have hmixs : strs (mix Lt (i + 1)) = (strs (mix Lt i)).take i ++ [.string (bs (x.take 60))] ++ (strs (mix Lt i)).drop (i + 1) := by
      rw [mix_succ Lt i hin, hx]; simp [strs]
    have htone : ∀ u ∈ (strs (mix Lt i)).take i, u.oneCell' = true := fun u hu => strs_one _ u (List.mem_of_mem_take hu)
    have hdone : ∀ u ∈ (strs (mix Lt i)).drop (i + 1), u.oneCell' = true := fun u hu => strs_one _ u (List.mem_of_mem_drop hu)
    have hJl : (joinB ((Lt.map (·.take 60)).take i)).length ≤ 61 * i := by
      have := joinB_len ((Lt.map (·.take 60)).take i) (fun y hy => by
        obtain ⟨z, _, rfl⟩ := List.mem_map.1 (List.mem_of_mem_take hy)
        exact take60 z)
      simp at this; omega
    have hJs : joinB ((Lt.map (·.take 60)).take (i + 1)) = if i = 0 then joinB ((Lt.map (·.take 60)).take i) ++ x.take 60 else joinB ((Lt.map (·.take 60)).take i) ++ [47] ++ x.take 60 := by
      have h1 : (Lt.map (·.take 60)).take (i + 1) = (Lt.map (·.take 60)).take i ++ [x.take 60] := by rw [hx, List.take_succ_eq_append_getElem (by simpa using hin)]; simp
      rw [h1]
      split
      · rename_i h0; rw [h0]; simp [joinB_one, joinB_nil]
      · rename_i h0; exact joinB_snoc _ _ (fun hh => by have := congrArg List.length hh; simp only [List.length_take, List.length_map, List.length_nil] at this; omega)
    have hxl := take60 x
    generalize joinB ((Lt.map (·.take 60)).take i) = J at hJl hJs ⊢
    generalize strs (mix Lt i) = lv at hml hV hc hcell hmixs htone hdone ⊢
    have htl : (lv.take i).length = i := by simp; omega
    obtain ⟨k2, hk2⟩ : ∃ k2, k2 = (lv.drop (i + 1)).length := ⟨_, rfl⟩
    have hk3 : k2 ≤ 1000 := by rw [hk2]; simp; omega
    by_cases h0 : i = 0
    · rw [if_pos h0] at hJs
      obtain ⟨J2, hJ2⟩ : ∃ J2, J2 = J ++ x.take 60 := ⟨_, rfl⟩
      rw [← hJ2] at hJs
      have hadd : J.length + (x.take 60).length ≤ 9223372036854775807 := by omega
      refine at_seq ?_
      refine at_seq ?_
      refine at_region ?_
      refine at_do (does_move rfl) rfl rfl ?_
      refine at_do (does_move rfl) rfl rfl ?_
      refine at_do (does_len (by kernel_rfl) rfl) rfl rfl ?_
      refine at_do (does_lss rfl rfl) rfl rfl ?_
      refine at_nil ?_
      refine at_then ?_
      refine at_cond_t rfl (decide_eq_true (by (simp only; omega))) ?_
      refine at_skip ?_
      refine at_then ?_
      refine at_seq ?_
      refine at_block ?_
      refine at_seq ?_
      refine at_seq ?_
      refine at_region ?_
      refine at_do (does_move rfl) rfl rfl ?_
      refine at_do (does_gtr rfl rfl) rfl rfl ?_
      refine at_nil ?_
      refine at_then ?_
      refine at_cond_f rfl (decide_eq_false (by (simp only; omega))) ?_
      refine at_skip ?_
      refine at_then ?_
      refine at_seq ?_
      refine at_region ?_
      refine at_do (does_move rfl) rfl rfl ?_
      refine at_do (does_move rfl) rfl rfl ?_
      refine at_do (does_move rfl) rfl rfl ?_
      refine at_do (does_indexAddr1 (by kernel_rfl) rfl rfl (by (first | omega | (simp only; omega)))) rfl rfl ?_
      refine at_do (does_load_mem (by kernel_rfl) rfl (fun w' ho => Below.cellOld (ho.since (by simp [bls])) hci)) rfl rfl ?_
      refine at_callv (f := 40) (enters_fn (by kernel_rfl) rfl) (fun w ho => law_few x w) rfl rfl ?_
      refine at_do (does_sadd rfl rfl hadd) rfl rfl ?_
      refine at_do (does_assign rfl) rfl rfl ?_
      refine at_nil ?_
      refine at_then ?_
      rotate_left
      refine at_reW fun W2 hW2 hold => ?_
      have hb2 : Below W1.heap.size W1 W2 := hW2.since (by simp [bls])
      have hV2 : ValsAt W2 (.slice (some ⟨gb, o, none⟩) lv.length c) lv := hV.keep hb2
      have hWw : w.heap.size ≤ W2.heap.size := hW2.orig.size
      have hsince : ∀ {H : List Res} {w' : World}, Own (Ctx.re ⟨w, fun _ => False, fun _ => False, W1, fun k => k ∈ bls [], []⟩ W2 []) H w' → Below W2.heap.size W2 w' := fun ho => ho.since (by simp [Ctx.re, bls])
      have hVs : ∀ {H : List Res} {w' : World}, Own (Ctx.re ⟨w, fun _ => False, fun _ => False, W1, fun k => k ∈ bls [], []⟩ W2 []) H w' → ValsAt w' (.slice (some ⟨gb, o, none⟩) lv.length c) lv := fun ho => hV2.keep (hsince ho)
      have hst : stabs [.rel (LitsN W2.heap.size 9 0 []), .val (.slice (some ⟨gb, o, none⟩) lv.length c), .val (.int .i64 i), .val (hiV i (.slice (some ⟨gb, o, none⟩) lv.length c)), .rel (RowF W2.heap.size 9 i (lv.take i)), .val (.slice (some ⟨gb, o, none⟩) lv.length c), .val (.int .i64 i), .val (.pointer (some ⟨gb, o + i, none⟩)), .val (.string (bs x)), .val (.string (bs (x.take 60))), .rel (LitsN W2.heap.size 9 1 [.string (bs (x.take 60))]), .rel (RowB W2.heap.size 9 (i + 1) (lv.take i ++ [.string (bs (x.take 60))])), .val (.slice (some ⟨gb, o, none⟩) lv.length c), .val (.int .i64 i), .val (.int .i64 ((i : Int) + 1)), .val (loV (i + 1) (.slice (some ⟨gb, o, none⟩) lv.length c)), .rel (RowB W2.heap.size 9 (i + 1 + k2) (lv.take i ++ [.string (bs (x.take 60))] ++ lv.drop (i + 1)))] := ⟨litsN_stab _ _ _ _, trivial, trivial, trivial, rowF_stab _ _ _ _, trivial, trivial, trivial, trivial, trivial, litsN_stab _ _ _ _, rowB_stab _ _ _ _, trivial, trivial, trivial, trivial, rowB_stab _ _ _ _, trivial⟩
      apply at_drawR 17 [.rel (LitsN W2.heap.size 9 0 []), .val (.slice (some ⟨gb, o, none⟩) lv.length c), .val (.int .i64 i), .val (hiV i (.slice (some ⟨gb, o, none⟩) lv.length c)), .rel (RowF W2.heap.size 9 i (lv.take i)), .val (.slice (some ⟨gb, o, none⟩) lv.length c), .val (.int .i64 i), .val (.pointer (some ⟨gb, o + i, none⟩)), .val (.string (bs x)), .val (.string (bs (x.take 60))), .rel (LitsN W2.heap.size 9 1 [.string (bs (x.take 60))]), .rel (RowB W2.heap.size 9 (i + 1) (lv.take i ++ [.string (bs (x.take 60))])), .val (.slice (some ⟨gb, o, none⟩) lv.length c), .val (.int .i64 i), .val (.int .i64 ((i : Int) + 1)), .val (loV (i + 1) (.slice (some ⟨gb, o, none⟩) lv.length c)), .rel (RowB W2.heap.size 9 (i + 1 + k2) (lv.take i ++ [.string (bs (x.take 60))] ++ lv.drop (i + 1)))] (by kernel_rfl) (by kernel_rfl) rfl hst
      · refine so_cons rfl (fun vs => ?_) ?_
        exact step1_buildSliceN (e := 9) (sz := 1) (vs := []) (cs := []) (by kernel_rfl) rfl rfl rfl rfl rfl
        refine so_cons rfl (fun vs => ?_) ?_
        exact step1_does (does_move rfl)
        refine so_cons rfl (fun vs => ?_) ?_
        exact step1_does (does_move rfl)
        refine so_cons rfl (fun vs => ?_) ?_
        exact step1_does (does_vhi (q := i) (by kernel_rfl) rfl rfl (fun w ho => hVs ho) (by omega))
        refine so_cons rfl (fun vs => ?_) ?_
        exact chain_first (by' := 16) (u := vs 0) (arg := hiV i (.slice (some ⟨gb, o, none⟩) lv.length c)) (by kernel_rfl) rfl rfl rfl (fun w hX => hX.1) (fun w ho => hi_vals (hVs ho) (by omega)) htl htone (by omega)
        refine so_cons rfl (fun vs => ?_) ?_
        exact step1_does (does_move rfl)
        refine so_cons rfl (fun vs => ?_) ?_
        exact step1_does (does_move rfl)
        refine so_cons rfl (fun vs => ?_) ?_
        exact step1_does (does_indexAddr1 (j := i) (by kernel_rfl) rfl rfl (by omega))
        refine so_cons rfl (fun vs => ?_) ?_
        exact step1_does (does_load_mem (by kernel_rfl) rfl (fun w' ho => Below.cellOld (hsince ho) (Below.cellOld hb2 hci)))
        refine so_cons rfl (fun vs => ?_) ?_
        exact step1_call (f := 40) (enters_fn (by kernel_rfl) rfl) (fun w ho hx => law_few x w)
        refine so_cons rfl (fun vs => ?_) ?_
        exact step1_buildSliceN (e := 9) (sz := 1) (vs := [.string (bs (x.take 60))]) (cs := [.string (bs (x.take 60))]) (by kernel_rfl) rfl rfl rfl rfl rfl
        refine so_turn rfl (fun vs => ?_) ?_
        rotate_left
        refine so_cons rfl (fun vs => ?_) ?_
        exact step1_does (does_move rfl)
        refine so_cons rfl (fun vs => ?_) ?_
        exact step1_does (does_move rfl)
        refine so_cons rfl (fun vs => ?_) ?_
        exact step1_does (does_addi rfl rfl (by (first | omega | (simp only; omega))))
        refine so_cons rfl (fun vs => ?_) ?_
        exact step1_does (does_vlo (q := i + 1) (by kernel_rfl) rfl rfl (fun w ho => hVs ho) (by omega))
        refine so_turn rfl (fun vs => ?_) ?_
        rotate_left
        exact so_nil
        · apply chain_next (by' := 16) (e := 9) (b := W2.heap.size) (m := i) (k := 1) (u := vs 4) (arg := vs 10) (xs := lv.take i) (news := [.string (bs (x.take 60))])
          · rfl
          · kernel_rfl
          · rfl
          · rfl
          · rfl
          · rfl
          · rfl
          · exact hWw
          · exact hst
          · exact fun w hX => hX.1.1
          · intro w g cap hX he h0
            obtain ⟨g', hg'⟩ := hX.1.2 h0
            rw [hg'] at he
            simp only [Value.slice.injEq] at he
            omega
          · exact fun w ho hX => litsN_vals hX.2.1
          · rfl
          · exact oneCell_of rfl
          · omega
          · intro w w' g cap hc ht j hj hr u hu
            match j, hj, hr, hu with
            | 0, _, _, hu => exact ht.lits (by simp; omega) hu
            | 1, _, _, hu => exact hu
            | 2, _, _, hu => exact hu
            | 3, _, _, hu => exact hu
            | 4, _, _, hu => exact ⟨ht.row (Nat.le_refl _) hu.1, hu.2⟩
            | 5, _, _, hu => exact hu
            | 6, _, _, hu => exact hu
            | 7, _, _, hu => exact hu
            | 8, _, _, hu => exact hu
            | 9, _, _, hu => exact hu
            | 10, _, _, hu => exact ht.lits (by simp; omega) hu
            | 11, hj, _, _ => exact absurd rfl hj
            | 12, _, _, hu => exact hu
            | 13, _, _, hu => exact hu
            | 14, _, _, hu => exact hu
            | 15, _, _, hu => exact hu
            | 16, _, hr, _ => exact (Bool.eq_false_iff.1 hr (by kernel_rfl)).elim
            | j + 17, _, _, hu => exact hu
        · apply chain_next (by' := 16) (e := 9) (b := W2.heap.size) (m := i + 1) (k := k2) (u := vs 11) (arg := loV (i + 1) (.slice (some ⟨gb, o, none⟩) lv.length c)) (xs := lv.take i ++ [.string (bs (x.take 60))]) (news := lv.drop (i + 1))
          · rfl
          · kernel_rfl
          · rfl
          · rfl
          · rfl
          · rfl
          · rfl
          · exact hWw
          · exact hst
          · exact fun w hX => hX.1
          · intro w g cap hX he h0
            omega
          · exact fun w ho hX => lo_vals (hVs ho) (by omega)
          · exact hk2.symm
          · exact hdone
          · omega
          · intro w w' g cap hc ht j hj hr u hu
            match j, hj, hr, hu with
            | 0, _, _, hu => exact ht.lits (by simp; omega) hu
            | 1, _, _, hu => exact hu
            | 2, _, _, hu => exact hu
            | 3, _, _, hu => exact hu
            | 4, _, _, hu => exact ⟨ht.row (by omega) hu.1, hu.2⟩
            | 5, _, _, hu => exact hu
            | 6, _, _, hu => exact hu
            | 7, _, _, hu => exact hu
            | 8, _, _, hu => exact hu
            | 9, _, _, hu => exact hu
            | 10, _, _, hu => exact ht.lits (by simp; omega) hu
            | 11, _, _, hu => exact ht.row (Nat.le_refl _) hu
            | 12, _, _, hu => exact hu
            | 13, _, _, hu => exact hu
            | 14, _, _, hu => exact hu
            | 15, _, _, hu => exact hu
            | 16, hj, _, _ => exact absurd rfl hj
            | j + 17, _, _, hu => exact hu
      · intro vs' w3 hw3 hp
        obtain ⟨_, _, _, _, h16, _⟩ := hp
        refine at_weak (E' := [(0, .string (bs kk)), (5, .string (bs J2)), (6, .int .i64 i), (54, vs' 16)]) ⟨rfl, by rw [hJ2]; rfl, rfl, rfl, trivial⟩ ?_
        show At _ _ _ _ (lwp _ _ _ _ (_ :: _))
        refine at_do (does_assign rfl) rfl rfl ?_
        refine at_nil ?_
        refine at_inb ?_
        refine at_then ?_
        refine at_region ?_
        refine at_do (does_move rfl) rfl rfl ?_
        refine at_do (does_addi rfl rfl (by (first | omega | (simp only; omega)))) rfl rfl ?_
        refine at_do (does_assign rfl) rfl rfl ?_
        refine at_nil ?_
        refine at_then ?_
        rotate_left
        refine at_againw fun w' ho => ⟨(w', vs' 16, i + 1), ⟨by show i + 1 ≤ Lt.length; omega, ?_⟩, by show Lt.length - (i + 1) < Lt.length - i; omega, ⟨rfl, rfl, ?_, rfl, trivial⟩, rfl, ho.re⟩
        · have h17 := (vals_of_row h16).keep (ho.since (by simp [Ctx.re, bls]))
          show ValsAt w' (vs' 16) (strs (mix Lt (i + 1)))
          rw [hmixs]; exact h17
        · show some (Value.string (bs J2)) = some (Value.string (bs (joinB ((Lt.map (·.take 60)).take (i + 1)))))
          rw [hJs]
    · rw [if_neg h0] at hJs
      obtain ⟨J2, hJ2⟩ : ∃ J2, J2 = J ++ [47] ++ x.take 60 := ⟨_, rfl⟩
      rw [← hJ2] at hJs
      have hadd1 : J.length + ([47] : List UInt8).length ≤ 9223372036854775807 := by simp; omega
      have hadd : (J ++ [47]).length + (x.take 60).length ≤ 9223372036854775807 := by simp; omega
      refine at_seq ?_
      refine at_seq ?_
      refine at_region ?_
      refine at_do (does_move rfl) rfl rfl ?_
      refine at_do (does_move rfl) rfl rfl ?_
      refine at_do (does_len (by kernel_rfl) rfl) rfl rfl ?_
      refine at_do (does_lss rfl rfl) rfl rfl ?_
      refine at_nil ?_
      refine at_then ?_
      refine at_cond_t rfl (decide_eq_true (by (simp only; omega))) ?_
      refine at_skip ?_
      refine at_then ?_
      refine at_seq ?_
      refine at_block ?_
      refine at_seq ?_
      refine at_seq ?_
      refine at_region ?_
      refine at_do (does_move rfl) rfl rfl ?_
      refine at_do (does_gtr rfl rfl) rfl rfl ?_
      refine at_nil ?_
      refine at_then ?_
      refine at_cond_t rfl (decide_eq_true (by (simp only; omega))) ?_
      refine at_region ?_
      refine at_do (does_move rfl) rfl rfl ?_
      refine at_do (does_sadd (m := [47]) rfl rfl hadd1) rfl rfl ?_
      refine at_do (does_assign rfl) rfl rfl ?_
      refine at_nil ?_
      refine at_then ?_
      refine at_seq ?_
      refine at_region ?_
      refine at_do (does_move rfl) rfl rfl ?_
      refine at_do (does_move rfl) rfl rfl ?_
      refine at_do (does_move rfl) rfl rfl ?_
      refine at_do (does_indexAddr1 (by kernel_rfl) rfl rfl (by (first | omega | (simp only; omega)))) rfl rfl ?_
      refine at_do (does_load_mem (by kernel_rfl) rfl (fun w' ho => Below.cellOld (ho.since (by simp [bls])) hci)) rfl rfl ?_
      refine at_callv (f := 40) (enters_fn (by kernel_rfl) rfl) (fun w ho => law_few x w) rfl rfl ?_
      refine at_do (does_sadd rfl rfl hadd) rfl rfl ?_
      refine at_do (does_assign rfl) rfl rfl ?_
      refine at_nil ?_
      refine at_then ?_
      rotate_left
      refine at_reW fun W2 hW2 hold => ?_
      have hb2 : Below W1.heap.size W1 W2 := hW2.since (by simp [bls])
      have hV2 : ValsAt W2 (.slice (some ⟨gb, o, none⟩) lv.length c) lv := hV.keep hb2
      have hWw : w.heap.size ≤ W2.heap.size := hW2.orig.size
      have hsince : ∀ {H : List Res} {w' : World}, Own (Ctx.re ⟨w, fun _ => False, fun _ => False, W1, fun k => k ∈ bls [], []⟩ W2 []) H w' → Below W2.heap.size W2 w' := fun ho => ho.since (by simp [Ctx.re, bls])
      have hVs : ∀ {H : List Res} {w' : World}, Own (Ctx.re ⟨w, fun _ => False, fun _ => False, W1, fun k => k ∈ bls [], []⟩ W2 []) H w' → ValsAt w' (.slice (some ⟨gb, o, none⟩) lv.length c) lv := fun ho => hV2.keep (hsince ho)
      have hst : stabs [.rel (LitsN W2.heap.size 9 0 []), .val (.slice (some ⟨gb, o, none⟩) lv.length c), .val (.int .i64 i), .val (hiV i (.slice (some ⟨gb, o, none⟩) lv.length c)), .rel (RowF W2.heap.size 9 i (lv.take i)), .val (.slice (some ⟨gb, o, none⟩) lv.length c), .val (.int .i64 i), .val (.pointer (some ⟨gb, o + i, none⟩)), .val (.string (bs x)), .val (.string (bs (x.take 60))), .rel (LitsN W2.heap.size 9 1 [.string (bs (x.take 60))]), .rel (RowB W2.heap.size 9 (i + 1) (lv.take i ++ [.string (bs (x.take 60))])), .val (.slice (some ⟨gb, o, none⟩) lv.length c), .val (.int .i64 i), .val (.int .i64 ((i : Int) + 1)), .val (loV (i + 1) (.slice (some ⟨gb, o, none⟩) lv.length c)), .rel (RowB W2.heap.size 9 (i + 1 + k2) (lv.take i ++ [.string (bs (x.take 60))] ++ lv.drop (i + 1)))] := ⟨litsN_stab _ _ _ _, trivial, trivial, trivial, rowF_stab _ _ _ _, trivial, trivial, trivial, trivial, trivial, litsN_stab _ _ _ _, rowB_stab _ _ _ _, trivial, trivial, trivial, trivial, rowB_stab _ _ _ _, trivial⟩
      apply at_drawR 17 [.rel (LitsN W2.heap.size 9 0 []), .val (.slice (some ⟨gb, o, none⟩) lv.length c), .val (.int .i64 i), .val (hiV i (.slice (some ⟨gb, o, none⟩) lv.length c)), .rel (RowF W2.heap.size 9 i (lv.take i)), .val (.slice (some ⟨gb, o, none⟩) lv.length c), .val (.int .i64 i), .val (.pointer (some ⟨gb, o + i, none⟩)), .val (.string (bs x)), .val (.string (bs (x.take 60))), .rel (LitsN W2.heap.size 9 1 [.string (bs (x.take 60))]), .rel (RowB W2.heap.size 9 (i + 1) (lv.take i ++ [.string (bs (x.take 60))])), .val (.slice (some ⟨gb, o, none⟩) lv.length c), .val (.int .i64 i), .val (.int .i64 ((i : Int) + 1)), .val (loV (i + 1) (.slice (some ⟨gb, o, none⟩) lv.length c)), .rel (RowB W2.heap.size 9 (i + 1 + k2) (lv.take i ++ [.string (bs (x.take 60))] ++ lv.drop (i + 1)))] (by kernel_rfl) (by kernel_rfl) rfl hst
      · refine so_cons rfl (fun vs => ?_) ?_
        exact step1_buildSliceN (e := 9) (sz := 1) (vs := []) (cs := []) (by kernel_rfl) rfl rfl rfl rfl rfl
        refine so_cons rfl (fun vs => ?_) ?_
        exact step1_does (does_move rfl)
        refine so_cons rfl (fun vs => ?_) ?_
        exact step1_does (does_move rfl)
        refine so_cons rfl (fun vs => ?_) ?_
        exact step1_does (does_vhi (q := i) (by kernel_rfl) rfl rfl (fun w ho => hVs ho) (by omega))
        refine so_cons rfl (fun vs => ?_) ?_
        exact chain_first (by' := 16) (u := vs 0) (arg := hiV i (.slice (some ⟨gb, o, none⟩) lv.length c)) (by kernel_rfl) rfl rfl rfl (fun w hX => hX.1) (fun w ho => hi_vals (hVs ho) (by omega)) htl htone (by omega)
        refine so_cons rfl (fun vs => ?_) ?_
        exact step1_does (does_move rfl)
        refine so_cons rfl (fun vs => ?_) ?_
        exact step1_does (does_move rfl)
        refine so_cons rfl (fun vs => ?_) ?_
        exact step1_does (does_indexAddr1 (j := i) (by kernel_rfl) rfl rfl (by omega))
        refine so_cons rfl (fun vs => ?_) ?_
        exact step1_does (does_load_mem (by kernel_rfl) rfl (fun w' ho => Below.cellOld (hsince ho) (Below.cellOld hb2 hci)))
        refine so_cons rfl (fun vs => ?_) ?_
        exact step1_call (f := 40) (enters_fn (by kernel_rfl) rfl) (fun w ho hx => law_few x w)
        refine so_cons rfl (fun vs => ?_) ?_
        exact step1_buildSliceN (e := 9) (sz := 1) (vs := [.string (bs (x.take 60))]) (cs := [.string (bs (x.take 60))]) (by kernel_rfl) rfl rfl rfl rfl rfl
        refine so_turn rfl (fun vs => ?_) ?_
        rotate_left
        refine so_cons rfl (fun vs => ?_) ?_
        exact step1_does (does_move rfl)
        refine so_cons rfl (fun vs => ?_) ?_
        exact step1_does (does_move rfl)
        refine so_cons rfl (fun vs => ?_) ?_
        exact step1_does (does_addi rfl rfl (by (first | omega | (simp only; omega))))
        refine so_cons rfl (fun vs => ?_) ?_
        exact step1_does (does_vlo (q := i + 1) (by kernel_rfl) rfl rfl (fun w ho => hVs ho) (by omega))
        refine so_turn rfl (fun vs => ?_) ?_
        rotate_left
        exact so_nil
        · apply chain_next (by' := 16) (e := 9) (b := W2.heap.size) (m := i) (k := 1) (u := vs 4) (arg := vs 10) (xs := lv.take i) (news := [.string (bs (x.take 60))])
          · rfl
          · kernel_rfl
          · rfl
          · rfl
          · rfl
          · rfl
          · rfl
          · exact hWw
          · exact hst
          · exact fun w hX => hX.1.1
          · intro w g cap hX he h0
            obtain ⟨g', hg'⟩ := hX.1.2 h0
            rw [hg'] at he
            simp only [Value.slice.injEq] at he
            omega
          · exact fun w ho hX => litsN_vals hX.2.1
          · rfl
          · exact oneCell_of rfl
          · omega
          · intro w w' g cap hc ht j hj hr u hu
            match j, hj, hr, hu with
            | 0, _, _, hu => exact ht.lits (by simp; omega) hu
            | 1, _, _, hu => exact hu
            | 2, _, _, hu => exact hu
            | 3, _, _, hu => exact hu
            | 4, _, _, hu => exact ⟨ht.row (Nat.le_refl _) hu.1, hu.2⟩
            | 5, _, _, hu => exact hu
            | 6, _, _, hu => exact hu
            | 7, _, _, hu => exact hu
            | 8, _, _, hu => exact hu
            | 9, _, _, hu => exact hu
            | 10, _, _, hu => exact ht.lits (by simp; omega) hu
            | 11, hj, _, _ => exact absurd rfl hj
            | 12, _, _, hu => exact hu
            | 13, _, _, hu => exact hu
            | 14, _, _, hu => exact hu
            | 15, _, _, hu => exact hu
            | 16, _, hr, _ => exact (Bool.eq_false_iff.1 hr (by kernel_rfl)).elim
            | j + 17, _, _, hu => exact hu
        · apply chain_next (by' := 16) (e := 9) (b := W2.heap.size) (m := i + 1) (k := k2) (u := vs 11) (arg := loV (i + 1) (.slice (some ⟨gb, o, none⟩) lv.length c)) (xs := lv.take i ++ [.string (bs (x.take 60))]) (news := lv.drop (i + 1))
          · rfl
          · kernel_rfl
          · rfl
          · rfl
          · rfl
          · rfl
          · rfl
          · exact hWw
          · exact hst
          · exact fun w hX => hX.1
          · intro w g cap hX he h0
            omega
          · exact fun w ho hX => lo_vals (hVs ho) (by omega)
          · exact hk2.symm
          · exact hdone
          · omega
          · intro w w' g cap hc ht j hj hr u hu
            match j, hj, hr, hu with
            | 0, _, _, hu => exact ht.lits (by simp; omega) hu
            | 1, _, _, hu => exact hu
            | 2, _, _, hu => exact hu
            | 3, _, _, hu => exact hu
            | 4, _, _, hu => exact ⟨ht.row (by omega) hu.1, hu.2⟩
            | 5, _, _, hu => exact hu
            | 6, _, _, hu => exact hu
            | 7, _, _, hu => exact hu
            | 8, _, _, hu => exact hu
            | 9, _, _, hu => exact hu
            | 10, _, _, hu => exact ht.lits (by simp; omega) hu
            | 11, _, _, hu => exact ht.row (Nat.le_refl _) hu
            | 12, _, _, hu => exact hu
            | 13, _, _, hu => exact hu
            | 14, _, _, hu => exact hu
            | 15, _, _, hu => exact hu
            | 16, hj, _, _ => exact absurd rfl hj
            | j + 17, _, _, hu => exact hu
      · intro vs' w3 hw3 hp
        obtain ⟨_, _, _, _, h16, _⟩ := hp
        refine at_weak (E' := [(0, .string (bs kk)), (5, .string (bs J2)), (6, .int .i64 i), (54, vs' 16)]) ⟨rfl, by rw [hJ2]; rfl, rfl, rfl, trivial⟩ ?_
        show At _ _ _ _ (lwp _ _ _ _ (_ :: _))
        refine at_do (does_assign rfl) rfl rfl ?_
        refine at_nil ?_
        refine at_inb ?_
        refine at_then ?_
        refine at_region ?_
        refine at_do (does_move rfl) rfl rfl ?_
        refine at_do (does_addi rfl rfl (by (first | omega | (simp only; omega)))) rfl rfl ?_
        refine at_do (does_assign rfl) rfl rfl ?_
        refine at_nil ?_
        refine at_then ?_
        rotate_left
        refine at_againw fun w' ho => ⟨(w', vs' 16, i + 1), ⟨by show i + 1 ≤ Lt.length; omega, ?_⟩, by show Lt.length - (i + 1) < Lt.length - i; omega, ⟨rfl, rfl, ?_, rfl, trivial⟩, rfl, ho.re⟩
        · have h17 := (vals_of_row h16).keep (ho.since (by simp [Ctx.re, bls]))
          show ValsAt w' (vs' 16) (strs (mix Lt (i + 1)))
          rw [hmixs]; exact h17
        · show some (Value.string (bs J2)) = some (Value.string (bs (joinB ((Lt.map (·.take 60)).take (i + 1)))))
          rw [hJs]
  · have hie : i = Lt.length := by omega
    obtain ⟨Lf, hLf⟩ : ∃ Lf, Lf = Lt.map (·.take 60) := ⟨_, rfl⟩
    have hV3 : ValsAt W1 v (strs Lf) := by rw [hLf, ← mix_all, ← hie]; exact hV
    have hLfl : Lf.length = Lt.length := by rw [hLf]; simp
    have hVs : ∀ {H : List Res} {w' : World}, Own ⟨w, fun _ => False, fun _ => False, W1, fun k => k ∈ bls [], []⟩ H w' → ValsAt w' v (strs Lf) := fun ho => hV3.keep (ho.since (by simp [bls]))
    have hLf1 : Lf.length ≤ 100000 := by omega
    have hJ := joinB_len Lf (fun y hy => by
      rw [hLf] at hy
      obtain ⟨z, _, rfl⟩ := List.mem_map.1 hy
      exact take60 z)
    have hLf2 : (joinB Lf).length ≤ 10000000 := by omega
    have hsl2 : (strs Lf).length = i := by simp [strs]; omega
    refine at_weak (E' := [(0, .string (bs kk)), (1, v), (5, .string (bs (joinB Lf))), (6, .int .i64 i)]) ⟨rfl, rfl, by rw [hLf]; show some (Value.string (bs (joinB ((Lt.map (·.take 60)).take i)))) = _; rw [List.take_of_length_le (by simp; omega)], rfl, trivial⟩ ?_
    by_cases hK : isK (joinB Lf) = true
    · refine at_seq ?_
      refine at_seq ?_
      refine at_region ?_
      refine at_do (does_move rfl) rfl rfl ?_
      refine at_do (does_move rfl) rfl rfl ?_
      refine at_do (does_vlen (vs := strs Lf) (by kernel_rfl) rfl (fun w ho => hVs ho)) rfl rfl ?_
      refine at_do (does_lss rfl rfl) rfl rfl ?_
      refine at_nil ?_
      refine at_then ?_
      refine at_cond_f rfl (decide_eq_false (by omega)) ?_
      refine at_exit ?_
      refine at_then_exit ?_
      refine at_then_exit ?_
      refine at_inb_here ?_
      refine at_then ?_
      refine at_seq ?_
      refine at_region ?_
      refine at_do (does_move rfl) rfl rfl ?_
      refine at_callv (f := 57) (enters_fn (by kernel_rfl) rfl) (fun w ho => key_Join_t v Lf w (ho.glob hG id) (hVs ho) hLf1 hLf2 hK) rfl rfl ?_
      refine at_do (does_move rfl) rfl rfl ?_
      refine at_do (does_extract rfl rfl) rfl rfl ?_
      refine at_do (does_extract rfl rfl) rfl rfl ?_
      refine at_do (does_assign rfl) rfl rfl ?_
      refine at_do (does_assign rfl) rfl rfl ?_
      refine at_nil ?_
      refine at_then ?_
      refine at_seq ?_
      refine at_seq ?_
      refine at_region ?_
      refine at_do (does_move rfl) rfl rfl ?_
      refine at_callv (f := 41) (enters_fn (by kernel_rfl) rfl) (fun w ho => ref_Is (joinB Lf) w (by omega)) rfl rfl ?_
      refine at_nil ?_
      refine at_then ?_
      refine at_cond_t rfl (by exact hK) ?_
      refine at_seq ?_
      refine at_region ?_
      refine at_do (does_move rfl) rfl rfl ?_
      refine at_do (does_move rfl) rfl rfl ?_
      refine at_do (does_sneq rfl rfl) rfl rfl ?_
      refine at_do (does_move rfl) rfl rfl ?_
      refine at_know (t := 65) (d := false) rfl (decide_eq_false (by exact fun h => h rfl)) ?_
      refine at_on rfl rfl ?_
      refine at_do (does_move rfl) rfl rfl ?_
      refine at_on rfl rfl ?_
      refine at_do (does_neq rfl rfl) rfl rfl ?_
      refine at_do (does_pick_false rfl rfl) rfl rfl ?_
      refine at_nil ?_
      refine at_then ?_
      refine at_cond_f rfl (decide_eq_false (by exact fun h => h rfl)) ?_
      refine at_skip ?_
      refine at_then ?_
      refine at_seq ?_
      refine at_region ?_
      refine at_do (does_move rfl) rfl rfl ?_
      rotate_left
      by_cases hk : isK kk = true
      · have hpk : partsK kk = splitB kk := by simp [partsK, hk]
        have cP : ∀ w, Glob w → Maxl w → Calls Tryd.prog 58 #[.string (bs kk)] w fun e w' => ∃ v, e = .returned v ∧ Below w.heap.size w w' ∧ w'.ownsRow w.heap.size 9 1 v (splitB kk).length (strs (splitB kk)) := fun w h1 h2 => by
          have := key_Parts kk (by omega) w h1 h2
          rwa [hpk] at this
        have hsl := splitB_len kk
        have hsn : 0 < (splitB kk).length := List.length_pos_iff.2 (splitB_ne kk)
        have cJ2 : ∀ w v, Glob w → ValsAt w v (strs (splitB kk)) → Calls Tryd.prog 57 #[v] w fun e w' => e = .returned (.tuple #[.string (bs kk), .int .i64 0]) ∧ Below w.heap.size w w' := fun w v h1 h2 => by
          have hj := join_split kk
          have := key_Join_t v (splitB kk) w h1 h2 (by omega) (by rw [hj]; omega) (by rw [hj]; exact hk)
          rwa [hj] at this
        refine at_callrow (f := 58) (enters_fn (by kernel_rfl) rfl) (fun w ho => cP w (ho.glob hG id) (ho.maxl hM id)) rfl rfl (fun v9 => ?_)
        refine at_do (does_assign rfl) rfl rfl ?_
        refine at_nil ?_
        refine at_then ?_
        refine at_seq ?_
        refine at_seq ?_
        refine at_region ?_
        refine at_do (does_move rfl) rfl rfl ?_
        refine at_callv (f := 41) (enters_fn (by kernel_rfl) rfl) (fun w ho => ref_Is kk w (by omega)) rfl rfl ?_
        refine at_do (does_not rfl) rfl rfl ?_
        refine at_nil ?_
        refine at_then ?_
        refine at_cond_f rfl (by (rw [hk]; rfl)) ?_
        refine at_skip ?_
        refine at_then ?_
        refine at_seq ?_
        refine at_region ?_
        refine at_do (does_move rfl) rfl rfl ?_
        refine at_callrow (f := 59) (enters_fn (by kernel_rfl) rfl) (fun w ho => ref_Parts kk (by omega) w) rfl rfl (fun v10 => ?_)
        refine at_do (does_assign rfl) rfl rfl ?_
        refine at_nil ?_
        refine at_then ?_
        refine at_seq ?_
        refine at_seq ?_
        refine at_region ?_
        refine at_do (does_move rfl) rfl rfl ?_
        refine at_do (does_rowlen (i := 1) (by kernel_rfl) rfl rfl) rfl rfl ?_
        refine at_do (does_move rfl) rfl rfl ?_
        refine at_do (does_rowlen (i := 0) (by kernel_rfl) rfl rfl) rfl rfl ?_
        refine at_do (does_neq rfl rfl) rfl rfl ?_
        refine at_nil ?_
        refine at_then ?_
        refine at_cond_f rfl (decide_eq_false (by exact fun h => h rfl)) ?_
        refine at_skip ?_
        refine at_then ?_
        refine at_seq ?_
        refine at_seq ?_
        refine at_region ?_
        refine at_do (does_assign rfl) rfl rfl ?_
        refine at_nil ?_
        refine at_then ?_
        refine at_block ?_
        rotate_left
        refine at_openrow (i := 0) rfl ?_
        rintro ⟨_, ⟨_, h00⟩ | ⟨gx, cx, hvx⟩⟩
        · omega
        subst hvx
        refine at_openrow (i := 1) rfl ?_
        rintro ⟨_, ⟨_, h00⟩ | ⟨gy, cy, hvy⟩⟩
        · omega
        subst hvy
        refine at_loop0 (fun j : Nat => j ≤ (splitB kk).length) (fun j => [(0, .string (bs kk)), (9, .slice (some ⟨gy, 0, none⟩) (splitB kk).length cy), (10, .slice (some ⟨gx, 0, none⟩) (splitB kk).length cx), (11, .int .i64 j)]) (fun j => (splitB kk).length - j) 0 (Nat.zero_le _) ⟨rfl, rfl, rfl, rfl, trivial⟩ ?_
        rintro j hj
        by_cases hj2 : j < (splitB kk).length
        · have hget : (strs (splitB kk))[0 + j]? = some (.string (bs (splitB kk)[j])) := by rw [Nat.zero_add]; simp [strs, hj2]
          generalize (splitB kk)[j] = y at hget
          refine at_seq ?_
          refine at_seq ?_
          refine at_region ?_
          refine at_do (does_move rfl) rfl rfl ?_
          refine at_do (does_move rfl) rfl rfl ?_
          refine at_do (does_rowlen (i := 1) (by kernel_rfl) rfl rfl) rfl rfl ?_
          refine at_do (does_lss rfl rfl) rfl rfl ?_
          refine at_nil ?_
          refine at_then ?_
          refine at_cond_t rfl (decide_eq_true (by omega)) ?_
          refine at_skip ?_
          refine at_then ?_
          refine at_seq ?_
          refine at_block ?_
          refine at_seq ?_
          refine at_draw (by kernel_rfl) (by kernel_rfl) ?_
          refine atq_do (does_move rfl) rfl rfl ?_
          refine atq_do (does_move rfl) rfl rfl ?_
          refine atq_do (does_indexAddr1 (by kernel_rfl) rfl rfl (by omega)) rfl rfl ?_
          refine atq_do (does_rowload (i := 1) (j := 0 + j) (by kernel_rfl) rfl rfl (by omega) hget) rfl rfl ?_
          refine atq_do (does_move rfl) rfl rfl ?_
          refine atq_do (does_move rfl) rfl rfl ?_
          refine atq_do (does_indexAddr1 (by kernel_rfl) rfl rfl (by omega)) rfl rfl ?_
          refine atq_do (does_rowload (i := 0) (j := 0 + j) (by kernel_rfl) rfl rfl (by omega) hget) rfl rfl ?_
          refine atq_do (does_sneq rfl rfl) rfl rfl ?_
          refine atq_nil ?_
          refine at_then ?_
          refine at_cond_f rfl (decide_eq_false (by exact fun h => h rfl)) ?_
          refine at_skip ?_
          refine at_inb ?_
          refine at_then ?_
          refine at_region ?_
          refine at_do (does_move rfl) rfl rfl ?_
          refine at_do (does_addi rfl rfl (by omega)) rfl rfl ?_
          refine at_do (does_assign rfl) rfl rfl ?_
          refine at_nil ?_
          refine at_then ?_
          rotate_left
          refine at_again0 (j + 1) (by omega) (by omega) ⟨rfl, rfl, rfl, rfl, trivial⟩
        · refine at_seq ?_
          refine at_seq ?_
          refine at_region ?_
          refine at_do (does_move rfl) rfl rfl ?_
          refine at_do (does_move rfl) rfl rfl ?_
          refine at_do (does_rowlen (i := 1) (by kernel_rfl) rfl rfl) rfl rfl ?_
          refine at_do (does_lss rfl rfl) rfl rfl ?_
          refine at_nil ?_
          refine at_then ?_
          refine at_cond_f rfl (decide_eq_false (by omega)) ?_
          refine at_exit ?_
          refine at_then_exit ?_
          refine at_then_exit ?_
          refine at_inb_here ?_
          refine at_then ?_
          refine at_seq ?_
          refine at_region ?_
          refine at_do (does_move rfl) rfl rfl ?_
          refine at_callv (f := 57) (enters_fn (by kernel_rfl) rfl) (fun w ho => cJ2 w _ (ho.glob hG id) (vals_of_row (ho.rowAt (i := 1) rfl))) rfl rfl ?_
          refine at_do (does_move rfl) rfl rfl ?_
          refine at_do (does_extract rfl rfl) rfl rfl ?_
          refine at_do (does_extract rfl rfl) rfl rfl ?_
          refine at_do (does_assign rfl) rfl rfl ?_
          refine at_do (does_assign rfl) rfl rfl ?_
          refine at_nil ?_
          refine at_then ?_
          refine at_seq ?_
          refine at_region ?_
          refine at_do (does_move rfl) rfl rfl ?_
          refine at_do (does_move rfl) rfl rfl ?_
          refine at_do (does_seql rfl rfl) rfl rfl ?_
          refine at_do (does_move rfl) rfl rfl ?_
          refine at_know (t := 116) (d := true) rfl (decide_eq_true (by rfl)) ?_
          refine at_on rfl rfl ?_
          refine at_do (does_move rfl) rfl rfl ?_
          refine at_on rfl rfl ?_
          refine at_do (does_eql rfl rfl) rfl rfl ?_
          refine at_do (does_pick_true rfl rfl) rfl rfl ?_
          refine at_do (does_move rfl) rfl rfl ?_
          refine at_know (t := 120) (d := true) rfl (decide_eq_true (by omega)) ?_
          refine at_on rfl rfl ?_
          refine at_callv (f := 48) (enters_fn (by kernel_rfl) rfl) (fun w ho => law_awake w (ho.glob hG id) (ho.maxl hM id)) rfl rfl ?_
          refine at_do (does_pick_true rfl rfl) rfl rfl ?_
          refine at_do (does_assign rfl) rfl rfl ?_
          refine at_nil ?_
          refine at_then ?_
          refine at_ret ?_
          refine at_ret1 rfl rfl rfl (fun w9 ho9 => ?_)
          rotate_left
          exact ⟨rfl, ho9.plain⟩
      · have hk' : isK kk = false := by simpa using hk
        have hpk : partsK kk = [] := by simp [partsK, hk']
        have cP : ∀ w, Glob w → Maxl w → Calls Tryd.prog 58 #[.string (bs kk)] w fun e w' => ∃ v, e = .returned v ∧ Below w.heap.size w w' ∧ w'.ownsRow w.heap.size 9 1 v 0 [] := fun w h1 h2 => by
          have := key_Parts kk (by omega) w h1 h2
          rwa [hpk] at this
        refine at_callrow (f := 58) (enters_fn (by kernel_rfl) rfl) (fun w ho => cP w (ho.glob hG id) (ho.maxl hM id)) rfl rfl (fun v9 => ?_)
        refine at_do (does_assign rfl) rfl rfl ?_
        refine at_nil ?_
        refine at_then ?_
        refine at_seq ?_
        refine at_seq ?_
        refine at_region ?_
        refine at_do (does_move rfl) rfl rfl ?_
        refine at_callv (f := 41) (enters_fn (by kernel_rfl) rfl) (fun w ho => ref_Is kk w (by omega)) rfl rfl ?_
        refine at_do (does_not rfl) rfl rfl ?_
        refine at_nil ?_
        refine at_then ?_
        refine at_cond_t rfl (by (rw [hk']; rfl)) ?_
        refine at_seq ?_
        refine at_region ?_
        refine at_do (does_move rfl) rfl rfl ?_
        refine at_do (does_rowlen (i := 0) (by kernel_rfl) rfl rfl) rfl rfl ?_
        refine at_do (does_eql rfl rfl) rfl rfl ?_
        refine at_do (does_move rfl) rfl rfl ?_
        refine at_know (t := 83) (d := true) rfl (decide_eq_true (by rfl)) ?_
        refine at_on rfl rfl ?_
        refine at_callv (f := 48) (enters_fn (by kernel_rfl) rfl) (fun w ho => law_awake w (ho.glob hG id) (ho.maxl hM id)) rfl rfl ?_
        refine at_do (does_pick_true rfl rfl) rfl rfl ?_
        refine at_do (does_assign rfl) rfl rfl ?_
        refine at_nil ?_
        refine at_then ?_
        refine at_ret ?_
        refine at_then_ret ?_
        refine at_ret1 rfl rfl rfl (fun w9 ho9 => ?_)
        rotate_left
        exact ⟨rfl, ho9.plain⟩
    · have hK : isK (joinB Lf) = false := by simpa using hK
      refine at_seq ?_
      refine at_seq ?_
      refine at_region ?_
      refine at_do (does_move rfl) rfl rfl ?_
      refine at_do (does_move rfl) rfl rfl ?_
      refine at_do (does_vlen (vs := strs Lf) (by kernel_rfl) rfl (fun w ho => hVs ho)) rfl rfl ?_
      refine at_do (does_lss rfl rfl) rfl rfl ?_
      refine at_nil ?_
      refine at_then ?_
      refine at_cond_f rfl (decide_eq_false (by omega)) ?_
      refine at_exit ?_
      refine at_then_exit ?_
      refine at_then_exit ?_
      refine at_inb_here ?_
      refine at_then ?_
      refine at_seq ?_
      refine at_region ?_
      refine at_do (does_move rfl) rfl rfl ?_
      refine at_callv (f := 57) (enters_fn (by kernel_rfl) rfl) (fun w ho => key_Join_f v Lf w (ho.glob hG id) (hVs ho) hLf1 hLf2 hK) rfl rfl ?_
      refine at_do (does_move rfl) rfl rfl ?_
      refine at_do (does_extract rfl rfl) rfl rfl ?_
      refine at_do (does_extract rfl rfl) rfl rfl ?_
      refine at_do (does_assign rfl) rfl rfl ?_
      refine at_do (does_assign rfl) rfl rfl ?_
      refine at_nil ?_
      refine at_then ?_
      refine at_seq ?_
      refine at_seq ?_
      refine at_region ?_
      refine at_do (does_move rfl) rfl rfl ?_
      refine at_callv (f := 41) (enters_fn (by kernel_rfl) rfl) (fun w ho => ref_Is (joinB Lf) w (by omega)) rfl rfl ?_
      refine at_nil ?_
      refine at_then ?_
      refine at_cond_f rfl (by exact hK) ?_
      refine at_seq ?_
      refine at_region ?_
      refine at_do (does_move rfl) rfl rfl ?_
      refine at_do (does_sneq rfl rfl) rfl rfl ?_
      refine at_do (does_move rfl) rfl rfl ?_
      refine at_know (t := 71) (d := false) rfl (decide_eq_false (by exact fun h => h rfl)) ?_
      refine at_on rfl rfl ?_
      refine at_do (does_move rfl) rfl rfl ?_
      refine at_on rfl rfl ?_
      refine at_do (does_neq rfl rfl) rfl rfl ?_
      refine at_do (does_pick_false rfl rfl) rfl rfl ?_
      refine at_nil ?_
      refine at_then ?_
      refine at_cond_f rfl (decide_eq_false (by exact fun h => h rfl)) ?_
      refine at_skip ?_
      refine at_then ?_
      refine at_seq ?_
      refine at_region ?_
      refine at_do (does_move rfl) rfl rfl ?_
      rotate_left
      by_cases hk : isK kk = true
      · have hpk : partsK kk = splitB kk := by simp [partsK, hk]
        have cP : ∀ w, Glob w → Maxl w → Calls Tryd.prog 58 #[.string (bs kk)] w fun e w' => ∃ v, e = .returned v ∧ Below w.heap.size w w' ∧ w'.ownsRow w.heap.size 9 1 v (splitB kk).length (strs (splitB kk)) := fun w h1 h2 => by
          have := key_Parts kk (by omega) w h1 h2
          rwa [hpk] at this
        have hsl := splitB_len kk
        have hsn : 0 < (splitB kk).length := List.length_pos_iff.2 (splitB_ne kk)
        have cJ2 : ∀ w v, Glob w → ValsAt w v (strs (splitB kk)) → Calls Tryd.prog 57 #[v] w fun e w' => e = .returned (.tuple #[.string (bs kk), .int .i64 0]) ∧ Below w.heap.size w w' := fun w v h1 h2 => by
          have hj := join_split kk
          have := key_Join_t v (splitB kk) w h1 h2 (by omega) (by rw [hj]; omega) (by rw [hj]; exact hk)
          rwa [hj] at this
        refine at_callrow (f := 58) (enters_fn (by kernel_rfl) rfl) (fun w ho => cP w (ho.glob hG id) (ho.maxl hM id)) rfl rfl (fun v9 => ?_)
        refine at_do (does_assign rfl) rfl rfl ?_
        refine at_nil ?_
        refine at_then ?_
        refine at_seq ?_
        refine at_seq ?_
        refine at_region ?_
        refine at_do (does_move rfl) rfl rfl ?_
        refine at_callv (f := 41) (enters_fn (by kernel_rfl) rfl) (fun w ho => ref_Is kk w (by omega)) rfl rfl ?_
        refine at_do (does_not rfl) rfl rfl ?_
        refine at_nil ?_
        refine at_then ?_
        refine at_cond_f rfl (by (rw [hk]; rfl)) ?_
        refine at_skip ?_
        refine at_then ?_
        refine at_seq ?_
        refine at_region ?_
        refine at_do (does_move rfl) rfl rfl ?_
        refine at_callrow (f := 59) (enters_fn (by kernel_rfl) rfl) (fun w ho => ref_Parts kk (by omega) w) rfl rfl (fun v10 => ?_)
        refine at_do (does_assign rfl) rfl rfl ?_
        refine at_nil ?_
        refine at_then ?_
        refine at_seq ?_
        refine at_seq ?_
        refine at_region ?_
        refine at_do (does_move rfl) rfl rfl ?_
        refine at_do (does_rowlen (i := 1) (by kernel_rfl) rfl rfl) rfl rfl ?_
        refine at_do (does_move rfl) rfl rfl ?_
        refine at_do (does_rowlen (i := 0) (by kernel_rfl) rfl rfl) rfl rfl ?_
        refine at_do (does_neq rfl rfl) rfl rfl ?_
        refine at_nil ?_
        refine at_then ?_
        refine at_cond_f rfl (decide_eq_false (by exact fun h => h rfl)) ?_
        refine at_skip ?_
        refine at_then ?_
        refine at_seq ?_
        refine at_seq ?_
        refine at_region ?_
        refine at_do (does_assign rfl) rfl rfl ?_
        refine at_nil ?_
        refine at_then ?_
        refine at_block ?_
        rotate_left
        refine at_openrow (i := 0) rfl ?_
        rintro ⟨_, ⟨_, h00⟩ | ⟨gx, cx, hvx⟩⟩
        · omega
        subst hvx
        refine at_openrow (i := 1) rfl ?_
        rintro ⟨_, ⟨_, h00⟩ | ⟨gy, cy, hvy⟩⟩
        · omega
        subst hvy
        refine at_loop0 (fun j : Nat => j ≤ (splitB kk).length) (fun j => [(0, .string (bs kk)), (9, .slice (some ⟨gy, 0, none⟩) (splitB kk).length cy), (10, .slice (some ⟨gx, 0, none⟩) (splitB kk).length cx), (11, .int .i64 j)]) (fun j => (splitB kk).length - j) 0 (Nat.zero_le _) ⟨rfl, rfl, rfl, rfl, trivial⟩ ?_
        rintro j hj
        by_cases hj2 : j < (splitB kk).length
        · have hget : (strs (splitB kk))[0 + j]? = some (.string (bs (splitB kk)[j])) := by rw [Nat.zero_add]; simp [strs, hj2]
          generalize (splitB kk)[j] = y at hget
          refine at_seq ?_
          refine at_seq ?_
          refine at_region ?_
          refine at_do (does_move rfl) rfl rfl ?_
          refine at_do (does_move rfl) rfl rfl ?_
          refine at_do (does_rowlen (i := 1) (by kernel_rfl) rfl rfl) rfl rfl ?_
          refine at_do (does_lss rfl rfl) rfl rfl ?_
          refine at_nil ?_
          refine at_then ?_
          refine at_cond_t rfl (decide_eq_true (by omega)) ?_
          refine at_skip ?_
          refine at_then ?_
          refine at_seq ?_
          refine at_block ?_
          refine at_seq ?_
          refine at_draw (by kernel_rfl) (by kernel_rfl) ?_
          refine atq_do (does_move rfl) rfl rfl ?_
          refine atq_do (does_move rfl) rfl rfl ?_
          refine atq_do (does_indexAddr1 (by kernel_rfl) rfl rfl (by omega)) rfl rfl ?_
          refine atq_do (does_rowload (i := 1) (j := 0 + j) (by kernel_rfl) rfl rfl (by omega) hget) rfl rfl ?_
          refine atq_do (does_move rfl) rfl rfl ?_
          refine atq_do (does_move rfl) rfl rfl ?_
          refine atq_do (does_indexAddr1 (by kernel_rfl) rfl rfl (by omega)) rfl rfl ?_
          refine atq_do (does_rowload (i := 0) (j := 0 + j) (by kernel_rfl) rfl rfl (by omega) hget) rfl rfl ?_
          refine atq_do (does_sneq rfl rfl) rfl rfl ?_
          refine atq_nil ?_
          refine at_then ?_
          refine at_cond_f rfl (decide_eq_false (by exact fun h => h rfl)) ?_
          refine at_skip ?_
          refine at_inb ?_
          refine at_then ?_
          refine at_region ?_
          refine at_do (does_move rfl) rfl rfl ?_
          refine at_do (does_addi rfl rfl (by omega)) rfl rfl ?_
          refine at_do (does_assign rfl) rfl rfl ?_
          refine at_nil ?_
          refine at_then ?_
          rotate_left
          refine at_again0 (j + 1) (by omega) (by omega) ⟨rfl, rfl, rfl, rfl, trivial⟩
        · refine at_seq ?_
          refine at_seq ?_
          refine at_region ?_
          refine at_do (does_move rfl) rfl rfl ?_
          refine at_do (does_move rfl) rfl rfl ?_
          refine at_do (does_rowlen (i := 1) (by kernel_rfl) rfl rfl) rfl rfl ?_
          refine at_do (does_lss rfl rfl) rfl rfl ?_
          refine at_nil ?_
          refine at_then ?_
          refine at_cond_f rfl (decide_eq_false (by omega)) ?_
          refine at_exit ?_
          refine at_then_exit ?_
          refine at_then_exit ?_
          refine at_inb_here ?_
          refine at_then ?_
          refine at_seq ?_
          refine at_region ?_
          refine at_do (does_move rfl) rfl rfl ?_
          refine at_callv (f := 57) (enters_fn (by kernel_rfl) rfl) (fun w ho => cJ2 w _ (ho.glob hG id) (vals_of_row (ho.rowAt (i := 1) rfl))) rfl rfl ?_
          refine at_do (does_move rfl) rfl rfl ?_
          refine at_do (does_extract rfl rfl) rfl rfl ?_
          refine at_do (does_extract rfl rfl) rfl rfl ?_
          refine at_do (does_assign rfl) rfl rfl ?_
          refine at_do (does_assign rfl) rfl rfl ?_
          refine at_nil ?_
          refine at_then ?_
          refine at_seq ?_
          refine at_region ?_
          refine at_do (does_move rfl) rfl rfl ?_
          refine at_do (does_move rfl) rfl rfl ?_
          refine at_do (does_seql rfl rfl) rfl rfl ?_
          refine at_do (does_move rfl) rfl rfl ?_
          refine at_know (t := 116) (d := true) rfl (decide_eq_true (by rfl)) ?_
          refine at_on rfl rfl ?_
          refine at_do (does_move rfl) rfl rfl ?_
          refine at_on rfl rfl ?_
          refine at_do (does_eql rfl rfl) rfl rfl ?_
          refine at_do (does_pick_true rfl rfl) rfl rfl ?_
          refine at_do (does_move rfl) rfl rfl ?_
          refine at_know (t := 120) (d := true) rfl (decide_eq_true (by omega)) ?_
          refine at_on rfl rfl ?_
          refine at_callv (f := 48) (enters_fn (by kernel_rfl) rfl) (fun w ho => law_awake w (ho.glob hG id) (ho.maxl hM id)) rfl rfl ?_
          refine at_do (does_pick_true rfl rfl) rfl rfl ?_
          refine at_do (does_assign rfl) rfl rfl ?_
          refine at_nil ?_
          refine at_then ?_
          refine at_ret ?_
          refine at_ret1 rfl rfl rfl (fun w9 ho9 => ?_)
          rotate_left
          exact ⟨rfl, ho9.plain⟩
      · have hk' : isK kk = false := by simpa using hk
        have hpk : partsK kk = [] := by simp [partsK, hk']
        have cP : ∀ w, Glob w → Maxl w → Calls Tryd.prog 58 #[.string (bs kk)] w fun e w' => ∃ v, e = .returned v ∧ Below w.heap.size w w' ∧ w'.ownsRow w.heap.size 9 1 v 0 [] := fun w h1 h2 => by
          have := key_Parts kk (by omega) w h1 h2
          rwa [hpk] at this
        refine at_callrow (f := 58) (enters_fn (by kernel_rfl) rfl) (fun w ho => cP w (ho.glob hG id) (ho.maxl hM id)) rfl rfl (fun v9 => ?_)
        refine at_do (does_assign rfl) rfl rfl ?_
        refine at_nil ?_
        refine at_then ?_
        refine at_seq ?_
        refine at_seq ?_
        refine at_region ?_
        refine at_do (does_move rfl) rfl rfl ?_
        refine at_callv (f := 41) (enters_fn (by kernel_rfl) rfl) (fun w ho => ref_Is kk w (by omega)) rfl rfl ?_
        refine at_do (does_not rfl) rfl rfl ?_
        refine at_nil ?_
        refine at_then ?_
        refine at_cond_t rfl (by (rw [hk']; rfl)) ?_
        refine at_seq ?_
        refine at_region ?_
        refine at_do (does_move rfl) rfl rfl ?_
        refine at_do (does_rowlen (i := 0) (by kernel_rfl) rfl rfl) rfl rfl ?_
        refine at_do (does_eql rfl rfl) rfl rfl ?_
        refine at_do (does_move rfl) rfl rfl ?_
        refine at_know (t := 83) (d := true) rfl (decide_eq_true (by rfl)) ?_
        refine at_on rfl rfl ?_
        refine at_callv (f := 48) (enters_fn (by kernel_rfl) rfl) (fun w ho => law_awake w (ho.glob hG id) (ho.maxl hM id)) rfl rfl ?_
        refine at_do (does_pick_true rfl rfl) rfl rfl ?_
        refine at_do (does_assign rfl) rfl rfl ?_
        refine at_nil ?_
        refine at_then ?_
        refine at_ret ?_
        refine at_then_ret ?_
        refine at_ret1 rfl rfl rfl (fun w9 ho9 => ?_)
        rotate_left
        exact ⟨rfl, ho9.plain⟩

set_option maxRecDepth 100000 in
set_option maxHeartbeats 8000000 in
theorem parts_long (k0 : List UInt8) (v0 : Value) (L0 Lt : List (List UInt8)) (w : World) (hG : Glob w) (hM : Maxl w) (hV0 : ValsAt w v0 (strs L0)) (hLt : Lt = L0.take 30) (hn : Lt.length ≤ 30) (hs : 30 < L0.length) :
    Calls Tryd.prog 12 #[.string (bs k0), v0] w fun e w' => e = .returned (.bool true) ∧ Below w.heap.size w w' := by
  obtain ⟨kk, hkk⟩ : ∃ kk, kk = k0.take 60 := ⟨_, rfl⟩
  have hk60 : kk.length ≤ 60 := by rw [hkk]; exact take60 k0
  have cfk : ∀ w, Calls Tryd.prog 40 #[.string (bs k0)] w fun e w' => e = .returned (.string (bs kk)) ∧ Below w.heap.size w w' := fun w => hkk ▸ law_few k0 w
  have hl0 : (strs L0).length = L0.length := by simp [strs]
  refine calls_plain Tryd.func12 rfl Tryd.ntmps12 rfl ?_
  refine at_seq ?_
  refine at_region ?_
  refine at_do (does_assign rfl) rfl rfl ?_
  refine at_nil ?_
  refine at_then ?_
  refine at_seq ?_
  refine at_region ?_
  refine at_do (does_move rfl) rfl rfl ?_
  refine at_callv (f := 40) (enters_fn (by kernel_rfl) rfl) (fun w ho => cfk w) rfl rfl ?_
  refine at_do (does_assign rfl) rfl rfl ?_
  refine at_nil ?_
  refine at_then ?_
  refine at_seq ?_
  refine at_seq ?_
  refine at_region ?_
  refine at_do (does_move rfl) rfl rfl ?_
  refine at_do (does_vlen (vs := strs L0) (by kernel_rfl) rfl (fun w ho => ho.oldVals hV0)) rfl rfl ?_
  refine at_do (does_gtr rfl rfl) rfl rfl ?_
  refine at_nil ?_
  refine at_then ?_
  refine at_cond_t rfl (decide_eq_true (by omega)) ?_
  refine at_region ?_
  refine at_do (does_move rfl) rfl rfl ?_
  refine at_do (does_vhi (vs := strs L0) (q := 30) (by kernel_rfl) rfl rfl (fun w ho => ho.oldVals hV0) (by omega)) rfl rfl ?_
  refine at_do (does_assign rfl) rfl rfl ?_
  refine at_nil ?_
  refine at_then ?_
  refine at_seq ?_
  refine at_region ?_
  refine at_do (does_assign rfl) rfl rfl ?_
  refine at_nil ?_
  refine at_then ?_
  refine at_seq ?_
  refine at_seq ?_
  refine at_region ?_
  refine at_do (does_assign rfl) rfl rfl ?_
  refine at_nil ?_
  refine at_then ?_
  refine at_block ?_
  rotate_left
  have hV1 : ValsAt w (hiV 30 v0) (strs Lt) := by rw [hLt]; have h := hi_vals (q := 30) hV0 (by omega); simpa [strs, List.map_take] using h
  refine at_loop (σ := World × Value × Nat) (fun s => s.2.2 ≤ Lt.length ∧ ValsAt s.1 s.2.1 (strs (mix Lt s.2.2))) (fun s => [(0, .string (bs kk)), (1, s.2.1), (5, .string (bs (joinB ((Lt.map (·.take 60)).take s.2.2)))), (6, .int .i64 s.2.2)]) (fun s => ⟨w, fun _ => False, fun _ => False, s.1, fun k => k ∈ bls [], []⟩) (fun _ => []) (fun s => Lt.length - s.2.2)
    (fun w1 ho => ⟨(w1, (hiV 30 v0), 0), ⟨Nat.zero_le _, by show ValsAt w1 _ (strs (mix Lt 0)); exact hV1.keep ho.plain⟩, ⟨rfl, rfl, rfl, rfl, trivial⟩, rfl, ho.re⟩) ?_
  rintro ⟨W1, v, i⟩ ⟨hi, hV⟩
  simp only at hi hV
  have hml : (strs (mix Lt i)).length = Lt.length := by simp [strs, mix_len Lt i hi]
  by_cases hin : i < Lt.length
  · obtain ⟨gb, o, c, hv, hc, hlt, hcell⟩ := hV.form (by omega)
    subst hv
    obtain ⟨x, hx⟩ : ∃ x, x = Lt[i] := ⟨_, rfl⟩
    have hci : W1.cell? ⟨gb, o + i, none⟩ = some (.string (bs x)) := hcell i _ (by rw [hx]; simp [strs, mix_get Lt i hin])
    have hmixs : strs (mix Lt (i + 1)) = (strs (mix Lt i)).take i ++ [.string (bs (x.take 60))] ++ (strs (mix Lt i)).drop (i + 1) := by
      rw [mix_succ Lt i hin, hx]; simp [strs]
    have htone : ∀ u ∈ (strs (mix Lt i)).take i, u.oneCell' = true := fun u hu => strs_one _ u (List.mem_of_mem_take hu)
    have hdone : ∀ u ∈ (strs (mix Lt i)).drop (i + 1), u.oneCell' = true := fun u hu => strs_one _ u (List.mem_of_mem_drop hu)
    have hJl : (joinB ((Lt.map (·.take 60)).take i)).length ≤ 61 * i := by
      have := joinB_len ((Lt.map (·.take 60)).take i) (fun y hy => by
        obtain ⟨z, _, rfl⟩ := List.mem_map.1 (List.mem_of_mem_take hy)
        exact take60 z)
      simp at this; omega
    have hJs : joinB ((Lt.map (·.take 60)).take (i + 1)) = if i = 0 then joinB ((Lt.map (·.take 60)).take i) ++ x.take 60 else joinB ((Lt.map (·.take 60)).take i) ++ [47] ++ x.take 60 := by
      have h1 : (Lt.map (·.take 60)).take (i + 1) = (Lt.map (·.take 60)).take i ++ [x.take 60] := by rw [hx, List.take_succ_eq_append_getElem (by simpa using hin)]; simp
      rw [h1]
      split
      · rename_i h0; rw [h0]; simp [joinB_one, joinB_nil]
      · rename_i h0; exact joinB_snoc _ _ (fun hh => by have := congrArg List.length hh; simp only [List.length_take, List.length_map, List.length_nil] at this; omega)
    have hxl := take60 x
    generalize joinB ((Lt.map (·.take 60)).take i) = J at hJl hJs ⊢
    generalize strs (mix Lt i) = lv at hml hV hc hcell hmixs htone hdone ⊢
    have htl : (lv.take i).length = i := by simp; omega
    obtain ⟨k2, hk2⟩ : ∃ k2, k2 = (lv.drop (i + 1)).length := ⟨_, rfl⟩
    have hk3 : k2 ≤ 1000 := by rw [hk2]; simp; omega
    by_cases h0 : i = 0
    · rw [if_pos h0] at hJs
      obtain ⟨J2, hJ2⟩ : ∃ J2, J2 = J ++ x.take 60 := ⟨_, rfl⟩
      rw [← hJ2] at hJs
      have hadd : J.length + (x.take 60).length ≤ 9223372036854775807 := by omega
      refine at_seq ?_
      refine at_seq ?_
      refine at_region ?_
      refine at_do (does_move rfl) rfl rfl ?_
      refine at_do (does_move rfl) rfl rfl ?_
      refine at_do (does_len (by kernel_rfl) rfl) rfl rfl ?_
      refine at_do (does_lss rfl rfl) rfl rfl ?_
      refine at_nil ?_
      refine at_then ?_
      refine at_cond_t rfl (decide_eq_true (by (simp only; omega))) ?_
      refine at_skip ?_
      refine at_then ?_
      refine at_seq ?_
      refine at_block ?_
      refine at_seq ?_
      refine at_seq ?_
      refine at_region ?_
      refine at_do (does_move rfl) rfl rfl ?_
      refine at_do (does_gtr rfl rfl) rfl rfl ?_
      refine at_nil ?_
      refine at_then ?_
      refine at_cond_f rfl (decide_eq_false (by (simp only; omega))) ?_
      refine at_skip ?_
      refine at_then ?_
      refine at_seq ?_
      refine at_region ?_
      refine at_do (does_move rfl) rfl rfl ?_
      refine at_do (does_move rfl) rfl rfl ?_
      refine at_do (does_move rfl) rfl rfl ?_
      refine at_do (does_indexAddr1 (by kernel_rfl) rfl rfl (by (first | omega | (simp only; omega)))) rfl rfl ?_
      refine at_do (does_load_mem (by kernel_rfl) rfl (fun w' ho => Below.cellOld (ho.since (by simp [bls])) hci)) rfl rfl ?_
      refine at_callv (f := 40) (enters_fn (by kernel_rfl) rfl) (fun w ho => law_few x w) rfl rfl ?_
      refine at_do (does_sadd rfl rfl hadd) rfl rfl ?_
      refine at_do (does_assign rfl) rfl rfl ?_
      refine at_nil ?_
      refine at_then ?_
      rotate_left
      refine at_reW fun W2 hW2 hold => ?_
      have hb2 : Below W1.heap.size W1 W2 := hW2.since (by simp [bls])
      have hV2 : ValsAt W2 (.slice (some ⟨gb, o, none⟩) lv.length c) lv := hV.keep hb2
      have hWw : w.heap.size ≤ W2.heap.size := hW2.orig.size
      have hsince : ∀ {H : List Res} {w' : World}, Own (Ctx.re ⟨w, fun _ => False, fun _ => False, W1, fun k => k ∈ bls [], []⟩ W2 []) H w' → Below W2.heap.size W2 w' := fun ho => ho.since (by simp [Ctx.re, bls])
      have hVs : ∀ {H : List Res} {w' : World}, Own (Ctx.re ⟨w, fun _ => False, fun _ => False, W1, fun k => k ∈ bls [], []⟩ W2 []) H w' → ValsAt w' (.slice (some ⟨gb, o, none⟩) lv.length c) lv := fun ho => hV2.keep (hsince ho)
      have hst : stabs [.rel (LitsN W2.heap.size 9 0 []), .val (.slice (some ⟨gb, o, none⟩) lv.length c), .val (.int .i64 i), .val (hiV i (.slice (some ⟨gb, o, none⟩) lv.length c)), .rel (RowF W2.heap.size 9 i (lv.take i)), .val (.slice (some ⟨gb, o, none⟩) lv.length c), .val (.int .i64 i), .val (.pointer (some ⟨gb, o + i, none⟩)), .val (.string (bs x)), .val (.string (bs (x.take 60))), .rel (LitsN W2.heap.size 9 1 [.string (bs (x.take 60))]), .rel (RowB W2.heap.size 9 (i + 1) (lv.take i ++ [.string (bs (x.take 60))])), .val (.slice (some ⟨gb, o, none⟩) lv.length c), .val (.int .i64 i), .val (.int .i64 ((i : Int) + 1)), .val (loV (i + 1) (.slice (some ⟨gb, o, none⟩) lv.length c)), .rel (RowB W2.heap.size 9 (i + 1 + k2) (lv.take i ++ [.string (bs (x.take 60))] ++ lv.drop (i + 1)))] := ⟨litsN_stab _ _ _ _, trivial, trivial, trivial, rowF_stab _ _ _ _, trivial, trivial, trivial, trivial, trivial, litsN_stab _ _ _ _, rowB_stab _ _ _ _, trivial, trivial, trivial, trivial, rowB_stab _ _ _ _, trivial⟩
      apply at_drawR 17 [.rel (LitsN W2.heap.size 9 0 []), .val (.slice (some ⟨gb, o, none⟩) lv.length c), .val (.int .i64 i), .val (hiV i (.slice (some ⟨gb, o, none⟩) lv.length c)), .rel (RowF W2.heap.size 9 i (lv.take i)), .val (.slice (some ⟨gb, o, none⟩) lv.length c), .val (.int .i64 i), .val (.pointer (some ⟨gb, o + i, none⟩)), .val (.string (bs x)), .val (.string (bs (x.take 60))), .rel (LitsN W2.heap.size 9 1 [.string (bs (x.take 60))]), .rel (RowB W2.heap.size 9 (i + 1) (lv.take i ++ [.string (bs (x.take 60))])), .val (.slice (some ⟨gb, o, none⟩) lv.length c), .val (.int .i64 i), .val (.int .i64 ((i : Int) + 1)), .val (loV (i + 1) (.slice (some ⟨gb, o, none⟩) lv.length c)), .rel (RowB W2.heap.size 9 (i + 1 + k2) (lv.take i ++ [.string (bs (x.take 60))] ++ lv.drop (i + 1)))] (by kernel_rfl) (by kernel_rfl) rfl hst
      · refine so_cons rfl (fun vs => ?_) ?_
        exact step1_buildSliceN (e := 9) (sz := 1) (vs := []) (cs := []) (by kernel_rfl) rfl rfl rfl rfl rfl
        refine so_cons rfl (fun vs => ?_) ?_
        exact step1_does (does_move rfl)
        refine so_cons rfl (fun vs => ?_) ?_
        exact step1_does (does_move rfl)
        refine so_cons rfl (fun vs => ?_) ?_
        exact step1_does (does_vhi (q := i) (by kernel_rfl) rfl rfl (fun w ho => hVs ho) (by omega))
        refine so_cons rfl (fun vs => ?_) ?_
        exact chain_first (by' := 16) (u := vs 0) (arg := hiV i (.slice (some ⟨gb, o, none⟩) lv.length c)) (by kernel_rfl) rfl rfl rfl (fun w hX => hX.1) (fun w ho => hi_vals (hVs ho) (by omega)) htl htone (by omega)
        refine so_cons rfl (fun vs => ?_) ?_
        exact step1_does (does_move rfl)
        refine so_cons rfl (fun vs => ?_) ?_
        exact step1_does (does_move rfl)
        refine so_cons rfl (fun vs => ?_) ?_
        exact step1_does (does_indexAddr1 (j := i) (by kernel_rfl) rfl rfl (by omega))
        refine so_cons rfl (fun vs => ?_) ?_
        exact step1_does (does_load_mem (by kernel_rfl) rfl (fun w' ho => Below.cellOld (hsince ho) (Below.cellOld hb2 hci)))
        refine so_cons rfl (fun vs => ?_) ?_
        exact step1_call (f := 40) (enters_fn (by kernel_rfl) rfl) (fun w ho hx => law_few x w)
        refine so_cons rfl (fun vs => ?_) ?_
        exact step1_buildSliceN (e := 9) (sz := 1) (vs := [.string (bs (x.take 60))]) (cs := [.string (bs (x.take 60))]) (by kernel_rfl) rfl rfl rfl rfl rfl
        refine so_turn rfl (fun vs => ?_) ?_
        rotate_left
        refine so_cons rfl (fun vs => ?_) ?_
        exact step1_does (does_move rfl)
        refine so_cons rfl (fun vs => ?_) ?_
        exact step1_does (does_move rfl)
        refine so_cons rfl (fun vs => ?_) ?_
        exact step1_does (does_addi rfl rfl (by (first | omega | (simp only; omega))))
        refine so_cons rfl (fun vs => ?_) ?_
        exact step1_does (does_vlo (q := i + 1) (by kernel_rfl) rfl rfl (fun w ho => hVs ho) (by omega))
        refine so_turn rfl (fun vs => ?_) ?_
        rotate_left
        exact so_nil
        · apply chain_next (by' := 16) (e := 9) (b := W2.heap.size) (m := i) (k := 1) (u := vs 4) (arg := vs 10) (xs := lv.take i) (news := [.string (bs (x.take 60))])
          · rfl
          · kernel_rfl
          · rfl
          · rfl
          · rfl
          · rfl
          · rfl
          · exact hWw
          · exact hst
          · exact fun w hX => hX.1.1
          · intro w g cap hX he h0
            obtain ⟨g', hg'⟩ := hX.1.2 h0
            rw [hg'] at he
            simp only [Value.slice.injEq] at he
            omega
          · exact fun w ho hX => litsN_vals hX.2.1
          · rfl
          · exact oneCell_of rfl
          · omega
          · intro w w' g cap hc ht j hj hr u hu
            match j, hj, hr, hu with
            | 0, _, _, hu => exact ht.lits (by simp; omega) hu
            | 1, _, _, hu => exact hu
            | 2, _, _, hu => exact hu
            | 3, _, _, hu => exact hu
            | 4, _, _, hu => exact ⟨ht.row (Nat.le_refl _) hu.1, hu.2⟩
            | 5, _, _, hu => exact hu
            | 6, _, _, hu => exact hu
            | 7, _, _, hu => exact hu
            | 8, _, _, hu => exact hu
            | 9, _, _, hu => exact hu
            | 10, _, _, hu => exact ht.lits (by simp; omega) hu
            | 11, hj, _, _ => exact absurd rfl hj
            | 12, _, _, hu => exact hu
            | 13, _, _, hu => exact hu
            | 14, _, _, hu => exact hu
            | 15, _, _, hu => exact hu
            | 16, _, hr, _ => exact (Bool.eq_false_iff.1 hr (by kernel_rfl)).elim
            | j + 17, _, _, hu => exact hu
        · apply chain_next (by' := 16) (e := 9) (b := W2.heap.size) (m := i + 1) (k := k2) (u := vs 11) (arg := loV (i + 1) (.slice (some ⟨gb, o, none⟩) lv.length c)) (xs := lv.take i ++ [.string (bs (x.take 60))]) (news := lv.drop (i + 1))
          · rfl
          · kernel_rfl
          · rfl
          · rfl
          · rfl
          · rfl
          · rfl
          · exact hWw
          · exact hst
          · exact fun w hX => hX.1
          · intro w g cap hX he h0
            omega
          · exact fun w ho hX => lo_vals (hVs ho) (by omega)
          · exact hk2.symm
          · exact hdone
          · omega
          · intro w w' g cap hc ht j hj hr u hu
            match j, hj, hr, hu with
            | 0, _, _, hu => exact ht.lits (by simp; omega) hu
            | 1, _, _, hu => exact hu
            | 2, _, _, hu => exact hu
            | 3, _, _, hu => exact hu
            | 4, _, _, hu => exact ⟨ht.row (by omega) hu.1, hu.2⟩
            | 5, _, _, hu => exact hu
            | 6, _, _, hu => exact hu
            | 7, _, _, hu => exact hu
            | 8, _, _, hu => exact hu
            | 9, _, _, hu => exact hu
            | 10, _, _, hu => exact ht.lits (by simp; omega) hu
            | 11, _, _, hu => exact ht.row (Nat.le_refl _) hu
            | 12, _, _, hu => exact hu
            | 13, _, _, hu => exact hu
            | 14, _, _, hu => exact hu
            | 15, _, _, hu => exact hu
            | 16, hj, _, _ => exact absurd rfl hj
            | j + 17, _, _, hu => exact hu
      · intro vs' w3 hw3 hp
        obtain ⟨_, _, _, _, h16, _⟩ := hp
        refine at_weak (E' := [(0, .string (bs kk)), (5, .string (bs J2)), (6, .int .i64 i), (54, vs' 16)]) ⟨rfl, by rw [hJ2]; rfl, rfl, rfl, trivial⟩ ?_
        show At _ _ _ _ (lwp _ _ _ _ (_ :: _))
        refine at_do (does_assign rfl) rfl rfl ?_
        refine at_nil ?_
        refine at_inb ?_
        refine at_then ?_
        refine at_region ?_
        refine at_do (does_move rfl) rfl rfl ?_
        refine at_do (does_addi rfl rfl (by (first | omega | (simp only; omega)))) rfl rfl ?_
        refine at_do (does_assign rfl) rfl rfl ?_
        refine at_nil ?_
        refine at_then ?_
        rotate_left
        refine at_againw fun w' ho => ⟨(w', vs' 16, i + 1), ⟨by show i + 1 ≤ Lt.length; omega, ?_⟩, by show Lt.length - (i + 1) < Lt.length - i; omega, ⟨rfl, rfl, ?_, rfl, trivial⟩, rfl, ho.re⟩
        · have h17 := (vals_of_row h16).keep (ho.since (by simp [Ctx.re, bls]))
          show ValsAt w' (vs' 16) (strs (mix Lt (i + 1)))
          rw [hmixs]; exact h17
        · show some (Value.string (bs J2)) = some (Value.string (bs (joinB ((Lt.map (·.take 60)).take (i + 1)))))
          rw [hJs]
    · rw [if_neg h0] at hJs
      obtain ⟨J2, hJ2⟩ : ∃ J2, J2 = J ++ [47] ++ x.take 60 := ⟨_, rfl⟩
      rw [← hJ2] at hJs
      have hadd1 : J.length + ([47] : List UInt8).length ≤ 9223372036854775807 := by simp; omega
      have hadd : (J ++ [47]).length + (x.take 60).length ≤ 9223372036854775807 := by simp; omega
      refine at_seq ?_
      refine at_seq ?_
      refine at_region ?_
      refine at_do (does_move rfl) rfl rfl ?_
      refine at_do (does_move rfl) rfl rfl ?_
      refine at_do (does_len (by kernel_rfl) rfl) rfl rfl ?_
      refine at_do (does_lss rfl rfl) rfl rfl ?_
      refine at_nil ?_
      refine at_then ?_
      refine at_cond_t rfl (decide_eq_true (by (simp only; omega))) ?_
      refine at_skip ?_
      refine at_then ?_
      refine at_seq ?_
      refine at_block ?_
      refine at_seq ?_
      refine at_seq ?_
      refine at_region ?_
      refine at_do (does_move rfl) rfl rfl ?_
      refine at_do (does_gtr rfl rfl) rfl rfl ?_
      refine at_nil ?_
      refine at_then ?_
      refine at_cond_t rfl (decide_eq_true (by (simp only; omega))) ?_
      refine at_region ?_
      refine at_do (does_move rfl) rfl rfl ?_
      refine at_do (does_sadd (m := [47]) rfl rfl hadd1) rfl rfl ?_
      refine at_do (does_assign rfl) rfl rfl ?_
      refine at_nil ?_
      refine at_then ?_
      refine at_seq ?_
      refine at_region ?_
      refine at_do (does_move rfl) rfl rfl ?_
      refine at_do (does_move rfl) rfl rfl ?_
      refine at_do (does_move rfl) rfl rfl ?_
      refine at_do (does_indexAddr1 (by kernel_rfl) rfl rfl (by (first | omega | (simp only; omega)))) rfl rfl ?_
      refine at_do (does_load_mem (by kernel_rfl) rfl (fun w' ho => Below.cellOld (ho.since (by simp [bls])) hci)) rfl rfl ?_
      refine at_callv (f := 40) (enters_fn (by kernel_rfl) rfl) (fun w ho => law_few x w) rfl rfl ?_
      refine at_do (does_sadd rfl rfl hadd) rfl rfl ?_
      refine at_do (does_assign rfl) rfl rfl ?_
      refine at_nil ?_
      refine at_then ?_
      rotate_left
      refine at_reW fun W2 hW2 hold => ?_
      have hb2 : Below W1.heap.size W1 W2 := hW2.since (by simp [bls])
      have hV2 : ValsAt W2 (.slice (some ⟨gb, o, none⟩) lv.length c) lv := hV.keep hb2
      have hWw : w.heap.size ≤ W2.heap.size := hW2.orig.size
      have hsince : ∀ {H : List Res} {w' : World}, Own (Ctx.re ⟨w, fun _ => False, fun _ => False, W1, fun k => k ∈ bls [], []⟩ W2 []) H w' → Below W2.heap.size W2 w' := fun ho => ho.since (by simp [Ctx.re, bls])
      have hVs : ∀ {H : List Res} {w' : World}, Own (Ctx.re ⟨w, fun _ => False, fun _ => False, W1, fun k => k ∈ bls [], []⟩ W2 []) H w' → ValsAt w' (.slice (some ⟨gb, o, none⟩) lv.length c) lv := fun ho => hV2.keep (hsince ho)
      have hst : stabs [.rel (LitsN W2.heap.size 9 0 []), .val (.slice (some ⟨gb, o, none⟩) lv.length c), .val (.int .i64 i), .val (hiV i (.slice (some ⟨gb, o, none⟩) lv.length c)), .rel (RowF W2.heap.size 9 i (lv.take i)), .val (.slice (some ⟨gb, o, none⟩) lv.length c), .val (.int .i64 i), .val (.pointer (some ⟨gb, o + i, none⟩)), .val (.string (bs x)), .val (.string (bs (x.take 60))), .rel (LitsN W2.heap.size 9 1 [.string (bs (x.take 60))]), .rel (RowB W2.heap.size 9 (i + 1) (lv.take i ++ [.string (bs (x.take 60))])), .val (.slice (some ⟨gb, o, none⟩) lv.length c), .val (.int .i64 i), .val (.int .i64 ((i : Int) + 1)), .val (loV (i + 1) (.slice (some ⟨gb, o, none⟩) lv.length c)), .rel (RowB W2.heap.size 9 (i + 1 + k2) (lv.take i ++ [.string (bs (x.take 60))] ++ lv.drop (i + 1)))] := ⟨litsN_stab _ _ _ _, trivial, trivial, trivial, rowF_stab _ _ _ _, trivial, trivial, trivial, trivial, trivial, litsN_stab _ _ _ _, rowB_stab _ _ _ _, trivial, trivial, trivial, trivial, rowB_stab _ _ _ _, trivial⟩
      apply at_drawR 17 [.rel (LitsN W2.heap.size 9 0 []), .val (.slice (some ⟨gb, o, none⟩) lv.length c), .val (.int .i64 i), .val (hiV i (.slice (some ⟨gb, o, none⟩) lv.length c)), .rel (RowF W2.heap.size 9 i (lv.take i)), .val (.slice (some ⟨gb, o, none⟩) lv.length c), .val (.int .i64 i), .val (.pointer (some ⟨gb, o + i, none⟩)), .val (.string (bs x)), .val (.string (bs (x.take 60))), .rel (LitsN W2.heap.size 9 1 [.string (bs (x.take 60))]), .rel (RowB W2.heap.size 9 (i + 1) (lv.take i ++ [.string (bs (x.take 60))])), .val (.slice (some ⟨gb, o, none⟩) lv.length c), .val (.int .i64 i), .val (.int .i64 ((i : Int) + 1)), .val (loV (i + 1) (.slice (some ⟨gb, o, none⟩) lv.length c)), .rel (RowB W2.heap.size 9 (i + 1 + k2) (lv.take i ++ [.string (bs (x.take 60))] ++ lv.drop (i + 1)))] (by kernel_rfl) (by kernel_rfl) rfl hst
      · refine so_cons rfl (fun vs => ?_) ?_
        exact step1_buildSliceN (e := 9) (sz := 1) (vs := []) (cs := []) (by kernel_rfl) rfl rfl rfl rfl rfl
        refine so_cons rfl (fun vs => ?_) ?_
        exact step1_does (does_move rfl)
        refine so_cons rfl (fun vs => ?_) ?_
        exact step1_does (does_move rfl)
        refine so_cons rfl (fun vs => ?_) ?_
        exact step1_does (does_vhi (q := i) (by kernel_rfl) rfl rfl (fun w ho => hVs ho) (by omega))
        refine so_cons rfl (fun vs => ?_) ?_
        exact chain_first (by' := 16) (u := vs 0) (arg := hiV i (.slice (some ⟨gb, o, none⟩) lv.length c)) (by kernel_rfl) rfl rfl rfl (fun w hX => hX.1) (fun w ho => hi_vals (hVs ho) (by omega)) htl htone (by omega)
        refine so_cons rfl (fun vs => ?_) ?_
        exact step1_does (does_move rfl)
        refine so_cons rfl (fun vs => ?_) ?_
        exact step1_does (does_move rfl)
        refine so_cons rfl (fun vs => ?_) ?_
        exact step1_does (does_indexAddr1 (j := i) (by kernel_rfl) rfl rfl (by omega))
        refine so_cons rfl (fun vs => ?_) ?_
        exact step1_does (does_load_mem (by kernel_rfl) rfl (fun w' ho => Below.cellOld (hsince ho) (Below.cellOld hb2 hci)))
        refine so_cons rfl (fun vs => ?_) ?_
        exact step1_call (f := 40) (enters_fn (by kernel_rfl) rfl) (fun w ho hx => law_few x w)
        refine so_cons rfl (fun vs => ?_) ?_
        exact step1_buildSliceN (e := 9) (sz := 1) (vs := [.string (bs (x.take 60))]) (cs := [.string (bs (x.take 60))]) (by kernel_rfl) rfl rfl rfl rfl rfl
        refine so_turn rfl (fun vs => ?_) ?_
        rotate_left
        refine so_cons rfl (fun vs => ?_) ?_
        exact step1_does (does_move rfl)
        refine so_cons rfl (fun vs => ?_) ?_
        exact step1_does (does_move rfl)
        refine so_cons rfl (fun vs => ?_) ?_
        exact step1_does (does_addi rfl rfl (by (first | omega | (simp only; omega))))
        refine so_cons rfl (fun vs => ?_) ?_
        exact step1_does (does_vlo (q := i + 1) (by kernel_rfl) rfl rfl (fun w ho => hVs ho) (by omega))
        refine so_turn rfl (fun vs => ?_) ?_
        rotate_left
        exact so_nil
        · apply chain_next (by' := 16) (e := 9) (b := W2.heap.size) (m := i) (k := 1) (u := vs 4) (arg := vs 10) (xs := lv.take i) (news := [.string (bs (x.take 60))])
          · rfl
          · kernel_rfl
          · rfl
          · rfl
          · rfl
          · rfl
          · rfl
          · exact hWw
          · exact hst
          · exact fun w hX => hX.1.1
          · intro w g cap hX he h0
            obtain ⟨g', hg'⟩ := hX.1.2 h0
            rw [hg'] at he
            simp only [Value.slice.injEq] at he
            omega
          · exact fun w ho hX => litsN_vals hX.2.1
          · rfl
          · exact oneCell_of rfl
          · omega
          · intro w w' g cap hc ht j hj hr u hu
            match j, hj, hr, hu with
            | 0, _, _, hu => exact ht.lits (by simp; omega) hu
            | 1, _, _, hu => exact hu
            | 2, _, _, hu => exact hu
            | 3, _, _, hu => exact hu
            | 4, _, _, hu => exact ⟨ht.row (Nat.le_refl _) hu.1, hu.2⟩
            | 5, _, _, hu => exact hu
            | 6, _, _, hu => exact hu
            | 7, _, _, hu => exact hu
            | 8, _, _, hu => exact hu
            | 9, _, _, hu => exact hu
            | 10, _, _, hu => exact ht.lits (by simp; omega) hu
            | 11, hj, _, _ => exact absurd rfl hj
            | 12, _, _, hu => exact hu
            | 13, _, _, hu => exact hu
            | 14, _, _, hu => exact hu
            | 15, _, _, hu => exact hu
            | 16, _, hr, _ => exact (Bool.eq_false_iff.1 hr (by kernel_rfl)).elim
            | j + 17, _, _, hu => exact hu
        · apply chain_next (by' := 16) (e := 9) (b := W2.heap.size) (m := i + 1) (k := k2) (u := vs 11) (arg := loV (i + 1) (.slice (some ⟨gb, o, none⟩) lv.length c)) (xs := lv.take i ++ [.string (bs (x.take 60))]) (news := lv.drop (i + 1))
          · rfl
          · kernel_rfl
          · rfl
          · rfl
          · rfl
          · rfl
          · rfl
          · exact hWw
          · exact hst
          · exact fun w hX => hX.1
          · intro w g cap hX he h0
            omega
          · exact fun w ho hX => lo_vals (hVs ho) (by omega)
          · exact hk2.symm
          · exact hdone
          · omega
          · intro w w' g cap hc ht j hj hr u hu
            match j, hj, hr, hu with
            | 0, _, _, hu => exact ht.lits (by simp; omega) hu
            | 1, _, _, hu => exact hu
            | 2, _, _, hu => exact hu
            | 3, _, _, hu => exact hu
            | 4, _, _, hu => exact ⟨ht.row (by omega) hu.1, hu.2⟩
            | 5, _, _, hu => exact hu
            | 6, _, _, hu => exact hu
            | 7, _, _, hu => exact hu
            | 8, _, _, hu => exact hu
            | 9, _, _, hu => exact hu
            | 10, _, _, hu => exact ht.lits (by simp; omega) hu
            | 11, _, _, hu => exact ht.row (Nat.le_refl _) hu
            | 12, _, _, hu => exact hu
            | 13, _, _, hu => exact hu
            | 14, _, _, hu => exact hu
            | 15, _, _, hu => exact hu
            | 16, hj, _, _ => exact absurd rfl hj
            | j + 17, _, _, hu => exact hu
      · intro vs' w3 hw3 hp
        obtain ⟨_, _, _, _, h16, _⟩ := hp
        refine at_weak (E' := [(0, .string (bs kk)), (5, .string (bs J2)), (6, .int .i64 i), (54, vs' 16)]) ⟨rfl, by rw [hJ2]; rfl, rfl, rfl, trivial⟩ ?_
        show At _ _ _ _ (lwp _ _ _ _ (_ :: _))
        refine at_do (does_assign rfl) rfl rfl ?_
        refine at_nil ?_
        refine at_inb ?_
        refine at_then ?_
        refine at_region ?_
        refine at_do (does_move rfl) rfl rfl ?_
        refine at_do (does_addi rfl rfl (by (first | omega | (simp only; omega)))) rfl rfl ?_
        refine at_do (does_assign rfl) rfl rfl ?_
        refine at_nil ?_
        refine at_then ?_
        rotate_left
        refine at_againw fun w' ho => ⟨(w', vs' 16, i + 1), ⟨by show i + 1 ≤ Lt.length; omega, ?_⟩, by show Lt.length - (i + 1) < Lt.length - i; omega, ⟨rfl, rfl, ?_, rfl, trivial⟩, rfl, ho.re⟩
        · have h17 := (vals_of_row h16).keep (ho.since (by simp [Ctx.re, bls]))
          show ValsAt w' (vs' 16) (strs (mix Lt (i + 1)))
          rw [hmixs]; exact h17
        · show some (Value.string (bs J2)) = some (Value.string (bs (joinB ((Lt.map (·.take 60)).take (i + 1)))))
          rw [hJs]
  · have hie : i = Lt.length := by omega
    obtain ⟨Lf, hLf⟩ : ∃ Lf, Lf = Lt.map (·.take 60) := ⟨_, rfl⟩
    have hV3 : ValsAt W1 v (strs Lf) := by rw [hLf, ← mix_all, ← hie]; exact hV
    have hLfl : Lf.length = Lt.length := by rw [hLf]; simp
    have hVs : ∀ {H : List Res} {w' : World}, Own ⟨w, fun _ => False, fun _ => False, W1, fun k => k ∈ bls [], []⟩ H w' → ValsAt w' v (strs Lf) := fun ho => hV3.keep (ho.since (by simp [bls]))
    have hLf1 : Lf.length ≤ 100000 := by omega
    have hJ := joinB_len Lf (fun y hy => by
      rw [hLf] at hy
      obtain ⟨z, _, rfl⟩ := List.mem_map.1 hy
      exact take60 z)
    have hLf2 : (joinB Lf).length ≤ 10000000 := by omega
    have hsl2 : (strs Lf).length = i := by simp [strs]; omega
    refine at_weak (E' := [(0, .string (bs kk)), (1, v), (5, .string (bs (joinB Lf))), (6, .int .i64 i)]) ⟨rfl, rfl, by rw [hLf]; show some (Value.string (bs (joinB ((Lt.map (·.take 60)).take i)))) = _; rw [List.take_of_length_le (by simp; omega)], rfl, trivial⟩ ?_
    by_cases hK : isK (joinB Lf) = true
    · refine at_seq ?_
      refine at_seq ?_
      refine at_region ?_
      refine at_do (does_move rfl) rfl rfl ?_
      refine at_do (does_move rfl) rfl rfl ?_
      refine at_do (does_vlen (vs := strs Lf) (by kernel_rfl) rfl (fun w ho => hVs ho)) rfl rfl ?_
      refine at_do (does_lss rfl rfl) rfl rfl ?_
      refine at_nil ?_
      refine at_then ?_
      refine at_cond_f rfl (decide_eq_false (by omega)) ?_
      refine at_exit ?_
      refine at_then_exit ?_
      refine at_then_exit ?_
      refine at_inb_here ?_
      refine at_then ?_
      refine at_seq ?_
      refine at_region ?_
      refine at_do (does_move rfl) rfl rfl ?_
      refine at_callv (f := 57) (enters_fn (by kernel_rfl) rfl) (fun w ho => key_Join_t v Lf w (ho.glob hG id) (hVs ho) hLf1 hLf2 hK) rfl rfl ?_
      refine at_do (does_move rfl) rfl rfl ?_
      refine at_do (does_extract rfl rfl) rfl rfl ?_
      refine at_do (does_extract rfl rfl) rfl rfl ?_
      refine at_do (does_assign rfl) rfl rfl ?_
      refine at_do (does_assign rfl) rfl rfl ?_
      refine at_nil ?_
      refine at_then ?_
      refine at_seq ?_
      refine at_seq ?_
      refine at_region ?_
      refine at_do (does_move rfl) rfl rfl ?_
      refine at_callv (f := 41) (enters_fn (by kernel_rfl) rfl) (fun w ho => ref_Is (joinB Lf) w (by omega)) rfl rfl ?_
      refine at_nil ?_
      refine at_then ?_
      refine at_cond_t rfl (by exact hK) ?_
      refine at_seq ?_
      refine at_region ?_
      refine at_do (does_move rfl) rfl rfl ?_
      refine at_do (does_move rfl) rfl rfl ?_
      refine at_do (does_sneq rfl rfl) rfl rfl ?_
      refine at_do (does_move rfl) rfl rfl ?_
      refine at_know (t := 65) (d := false) rfl (decide_eq_false (by exact fun h => h rfl)) ?_
      refine at_on rfl rfl ?_
      refine at_do (does_move rfl) rfl rfl ?_
      refine at_on rfl rfl ?_
      refine at_do (does_neq rfl rfl) rfl rfl ?_
      refine at_do (does_pick_false rfl rfl) rfl rfl ?_
      refine at_nil ?_
      refine at_then ?_
      refine at_cond_f rfl (decide_eq_false (by exact fun h => h rfl)) ?_
      refine at_skip ?_
      refine at_then ?_
      refine at_seq ?_
      refine at_region ?_
      refine at_do (does_move rfl) rfl rfl ?_
      rotate_left
      by_cases hk : isK kk = true
      · have hpk : partsK kk = splitB kk := by simp [partsK, hk]
        have cP : ∀ w, Glob w → Maxl w → Calls Tryd.prog 58 #[.string (bs kk)] w fun e w' => ∃ v, e = .returned v ∧ Below w.heap.size w w' ∧ w'.ownsRow w.heap.size 9 1 v (splitB kk).length (strs (splitB kk)) := fun w h1 h2 => by
          have := key_Parts kk (by omega) w h1 h2
          rwa [hpk] at this
        have hsl := splitB_len kk
        have hsn : 0 < (splitB kk).length := List.length_pos_iff.2 (splitB_ne kk)
        have cJ2 : ∀ w v, Glob w → ValsAt w v (strs (splitB kk)) → Calls Tryd.prog 57 #[v] w fun e w' => e = .returned (.tuple #[.string (bs kk), .int .i64 0]) ∧ Below w.heap.size w w' := fun w v h1 h2 => by
          have hj := join_split kk
          have := key_Join_t v (splitB kk) w h1 h2 (by omega) (by rw [hj]; omega) (by rw [hj]; exact hk)
          rwa [hj] at this
        refine at_callrow (f := 58) (enters_fn (by kernel_rfl) rfl) (fun w ho => cP w (ho.glob hG id) (ho.maxl hM id)) rfl rfl (fun v9 => ?_)
        refine at_do (does_assign rfl) rfl rfl ?_
        refine at_nil ?_
        refine at_then ?_
        refine at_seq ?_
        refine at_seq ?_
        refine at_region ?_
        refine at_do (does_move rfl) rfl rfl ?_
        refine at_callv (f := 41) (enters_fn (by kernel_rfl) rfl) (fun w ho => ref_Is kk w (by omega)) rfl rfl ?_
        refine at_do (does_not rfl) rfl rfl ?_
        refine at_nil ?_
        refine at_then ?_
        refine at_cond_f rfl (by (rw [hk]; rfl)) ?_
        refine at_skip ?_
        refine at_then ?_
        refine at_seq ?_
        refine at_region ?_
        refine at_do (does_move rfl) rfl rfl ?_
        refine at_callrow (f := 59) (enters_fn (by kernel_rfl) rfl) (fun w ho => ref_Parts kk (by omega) w) rfl rfl (fun v10 => ?_)
        refine at_do (does_assign rfl) rfl rfl ?_
        refine at_nil ?_
        refine at_then ?_
        refine at_seq ?_
        refine at_seq ?_
        refine at_region ?_
        refine at_do (does_move rfl) rfl rfl ?_
        refine at_do (does_rowlen (i := 1) (by kernel_rfl) rfl rfl) rfl rfl ?_
        refine at_do (does_move rfl) rfl rfl ?_
        refine at_do (does_rowlen (i := 0) (by kernel_rfl) rfl rfl) rfl rfl ?_
        refine at_do (does_neq rfl rfl) rfl rfl ?_
        refine at_nil ?_
        refine at_then ?_
        refine at_cond_f rfl (decide_eq_false (by exact fun h => h rfl)) ?_
        refine at_skip ?_
        refine at_then ?_
        refine at_seq ?_
        refine at_seq ?_
        refine at_region ?_
        refine at_do (does_assign rfl) rfl rfl ?_
        refine at_nil ?_
        refine at_then ?_
        refine at_block ?_
        rotate_left
        refine at_openrow (i := 0) rfl ?_
        rintro ⟨_, ⟨_, h00⟩ | ⟨gx, cx, hvx⟩⟩
        · omega
        subst hvx
        refine at_openrow (i := 1) rfl ?_
        rintro ⟨_, ⟨_, h00⟩ | ⟨gy, cy, hvy⟩⟩
        · omega
        subst hvy
        refine at_loop0 (fun j : Nat => j ≤ (splitB kk).length) (fun j => [(0, .string (bs kk)), (9, .slice (some ⟨gy, 0, none⟩) (splitB kk).length cy), (10, .slice (some ⟨gx, 0, none⟩) (splitB kk).length cx), (11, .int .i64 j)]) (fun j => (splitB kk).length - j) 0 (Nat.zero_le _) ⟨rfl, rfl, rfl, rfl, trivial⟩ ?_
        rintro j hj
        by_cases hj2 : j < (splitB kk).length
        · have hget : (strs (splitB kk))[0 + j]? = some (.string (bs (splitB kk)[j])) := by rw [Nat.zero_add]; simp [strs, hj2]
          generalize (splitB kk)[j] = y at hget
          refine at_seq ?_
          refine at_seq ?_
          refine at_region ?_
          refine at_do (does_move rfl) rfl rfl ?_
          refine at_do (does_move rfl) rfl rfl ?_
          refine at_do (does_rowlen (i := 1) (by kernel_rfl) rfl rfl) rfl rfl ?_
          refine at_do (does_lss rfl rfl) rfl rfl ?_
          refine at_nil ?_
          refine at_then ?_
          refine at_cond_t rfl (decide_eq_true (by omega)) ?_
          refine at_skip ?_
          refine at_then ?_
          refine at_seq ?_
          refine at_block ?_
          refine at_seq ?_
          refine at_draw (by kernel_rfl) (by kernel_rfl) ?_
          refine atq_do (does_move rfl) rfl rfl ?_
          refine atq_do (does_move rfl) rfl rfl ?_
          refine atq_do (does_indexAddr1 (by kernel_rfl) rfl rfl (by omega)) rfl rfl ?_
          refine atq_do (does_rowload (i := 1) (j := 0 + j) (by kernel_rfl) rfl rfl (by omega) hget) rfl rfl ?_
          refine atq_do (does_move rfl) rfl rfl ?_
          refine atq_do (does_move rfl) rfl rfl ?_
          refine atq_do (does_indexAddr1 (by kernel_rfl) rfl rfl (by omega)) rfl rfl ?_
          refine atq_do (does_rowload (i := 0) (j := 0 + j) (by kernel_rfl) rfl rfl (by omega) hget) rfl rfl ?_
          refine atq_do (does_sneq rfl rfl) rfl rfl ?_
          refine atq_nil ?_
          refine at_then ?_
          refine at_cond_f rfl (decide_eq_false (by exact fun h => h rfl)) ?_
          refine at_skip ?_
          refine at_inb ?_
          refine at_then ?_
          refine at_region ?_
          refine at_do (does_move rfl) rfl rfl ?_
          refine at_do (does_addi rfl rfl (by omega)) rfl rfl ?_
          refine at_do (does_assign rfl) rfl rfl ?_
          refine at_nil ?_
          refine at_then ?_
          rotate_left
          refine at_again0 (j + 1) (by omega) (by omega) ⟨rfl, rfl, rfl, rfl, trivial⟩
        · refine at_seq ?_
          refine at_seq ?_
          refine at_region ?_
          refine at_do (does_move rfl) rfl rfl ?_
          refine at_do (does_move rfl) rfl rfl ?_
          refine at_do (does_rowlen (i := 1) (by kernel_rfl) rfl rfl) rfl rfl ?_
          refine at_do (does_lss rfl rfl) rfl rfl ?_
          refine at_nil ?_
          refine at_then ?_
          refine at_cond_f rfl (decide_eq_false (by omega)) ?_
          refine at_exit ?_
          refine at_then_exit ?_
          refine at_then_exit ?_
          refine at_inb_here ?_
          refine at_then ?_
          refine at_seq ?_
          refine at_region ?_
          refine at_do (does_move rfl) rfl rfl ?_
          refine at_callv (f := 57) (enters_fn (by kernel_rfl) rfl) (fun w ho => cJ2 w _ (ho.glob hG id) (vals_of_row (ho.rowAt (i := 1) rfl))) rfl rfl ?_
          refine at_do (does_move rfl) rfl rfl ?_
          refine at_do (does_extract rfl rfl) rfl rfl ?_
          refine at_do (does_extract rfl rfl) rfl rfl ?_
          refine at_do (does_assign rfl) rfl rfl ?_
          refine at_do (does_assign rfl) rfl rfl ?_
          refine at_nil ?_
          refine at_then ?_
          refine at_seq ?_
          refine at_region ?_
          refine at_do (does_move rfl) rfl rfl ?_
          refine at_do (does_move rfl) rfl rfl ?_
          refine at_do (does_seql rfl rfl) rfl rfl ?_
          refine at_do (does_move rfl) rfl rfl ?_
          refine at_know (t := 116) (d := true) rfl (decide_eq_true (by rfl)) ?_
          refine at_on rfl rfl ?_
          refine at_do (does_move rfl) rfl rfl ?_
          refine at_on rfl rfl ?_
          refine at_do (does_eql rfl rfl) rfl rfl ?_
          refine at_do (does_pick_true rfl rfl) rfl rfl ?_
          refine at_do (does_move rfl) rfl rfl ?_
          refine at_know (t := 120) (d := true) rfl (decide_eq_true (by omega)) ?_
          refine at_on rfl rfl ?_
          refine at_callv (f := 48) (enters_fn (by kernel_rfl) rfl) (fun w ho => law_awake w (ho.glob hG id) (ho.maxl hM id)) rfl rfl ?_
          refine at_do (does_pick_true rfl rfl) rfl rfl ?_
          refine at_do (does_assign rfl) rfl rfl ?_
          refine at_nil ?_
          refine at_then ?_
          refine at_ret ?_
          refine at_ret1 rfl rfl rfl (fun w9 ho9 => ?_)
          rotate_left
          exact ⟨rfl, ho9.plain⟩
      · have hk' : isK kk = false := by simpa using hk
        have hpk : partsK kk = [] := by simp [partsK, hk']
        have cP : ∀ w, Glob w → Maxl w → Calls Tryd.prog 58 #[.string (bs kk)] w fun e w' => ∃ v, e = .returned v ∧ Below w.heap.size w w' ∧ w'.ownsRow w.heap.size 9 1 v 0 [] := fun w h1 h2 => by
          have := key_Parts kk (by omega) w h1 h2
          rwa [hpk] at this
        refine at_callrow (f := 58) (enters_fn (by kernel_rfl) rfl) (fun w ho => cP w (ho.glob hG id) (ho.maxl hM id)) rfl rfl (fun v9 => ?_)
        refine at_do (does_assign rfl) rfl rfl ?_
        refine at_nil ?_
        refine at_then ?_
        refine at_seq ?_
        refine at_seq ?_
        refine at_region ?_
        refine at_do (does_move rfl) rfl rfl ?_
        refine at_callv (f := 41) (enters_fn (by kernel_rfl) rfl) (fun w ho => ref_Is kk w (by omega)) rfl rfl ?_
        refine at_do (does_not rfl) rfl rfl ?_
        refine at_nil ?_
        refine at_then ?_
        refine at_cond_t rfl (by (rw [hk']; rfl)) ?_
        refine at_seq ?_
        refine at_region ?_
        refine at_do (does_move rfl) rfl rfl ?_
        refine at_do (does_rowlen (i := 0) (by kernel_rfl) rfl rfl) rfl rfl ?_
        refine at_do (does_eql rfl rfl) rfl rfl ?_
        refine at_do (does_move rfl) rfl rfl ?_
        refine at_know (t := 83) (d := true) rfl (decide_eq_true (by rfl)) ?_
        refine at_on rfl rfl ?_
        refine at_callv (f := 48) (enters_fn (by kernel_rfl) rfl) (fun w ho => law_awake w (ho.glob hG id) (ho.maxl hM id)) rfl rfl ?_
        refine at_do (does_pick_true rfl rfl) rfl rfl ?_
        refine at_do (does_assign rfl) rfl rfl ?_
        refine at_nil ?_
        refine at_then ?_
        refine at_ret ?_
        refine at_then_ret ?_
        refine at_ret1 rfl rfl rfl (fun w9 ho9 => ?_)
        rotate_left
        exact ⟨rfl, ho9.plain⟩
    · have hK : isK (joinB Lf) = false := by simpa using hK
      refine at_seq ?_
      refine at_seq ?_
      refine at_region ?_
      refine at_do (does_move rfl) rfl rfl ?_
      refine at_do (does_move rfl) rfl rfl ?_
      refine at_do (does_vlen (vs := strs Lf) (by kernel_rfl) rfl (fun w ho => hVs ho)) rfl rfl ?_
      refine at_do (does_lss rfl rfl) rfl rfl ?_
      refine at_nil ?_
      refine at_then ?_
      refine at_cond_f rfl (decide_eq_false (by omega)) ?_
      refine at_exit ?_
      refine at_then_exit ?_
      refine at_then_exit ?_
      refine at_inb_here ?_
      refine at_then ?_
      refine at_seq ?_
      refine at_region ?_
      refine at_do (does_move rfl) rfl rfl ?_
      refine at_callv (f := 57) (enters_fn (by kernel_rfl) rfl) (fun w ho => key_Join_f v Lf w (ho.glob hG id) (hVs ho) hLf1 hLf2 hK) rfl rfl ?_
      refine at_do (does_move rfl) rfl rfl ?_
      refine at_do (does_extract rfl rfl) rfl rfl ?_
      refine at_do (does_extract rfl rfl) rfl rfl ?_
      refine at_do (does_assign rfl) rfl rfl ?_
      refine at_do (does_assign rfl) rfl rfl ?_
      refine at_nil ?_
      refine at_then ?_
      refine at_seq ?_
      refine at_seq ?_
      refine at_region ?_
      refine at_do (does_move rfl) rfl rfl ?_
      refine at_callv (f := 41) (enters_fn (by kernel_rfl) rfl) (fun w ho => ref_Is (joinB Lf) w (by omega)) rfl rfl ?_
      refine at_nil ?_
      refine at_then ?_
      refine at_cond_f rfl (by exact hK) ?_
      refine at_seq ?_
      refine at_region ?_
      refine at_do (does_move rfl) rfl rfl ?_
      refine at_do (does_sneq rfl rfl) rfl rfl ?_
      refine at_do (does_move rfl) rfl rfl ?_
      refine at_know (t := 71) (d := false) rfl (decide_eq_false (by exact fun h => h rfl)) ?_
      refine at_on rfl rfl ?_
      refine at_do (does_move rfl) rfl rfl ?_
      refine at_on rfl rfl ?_
      refine at_do (does_neq rfl rfl) rfl rfl ?_
      refine at_do (does_pick_false rfl rfl) rfl rfl ?_
      refine at_nil ?_
      refine at_then ?_
      refine at_cond_f rfl (decide_eq_false (by exact fun h => h rfl)) ?_
      refine at_skip ?_
      refine at_then ?_
      refine at_seq ?_
      refine at_region ?_
      refine at_do (does_move rfl) rfl rfl ?_
      rotate_left
      by_cases hk : isK kk = true
      · have hpk : partsK kk = splitB kk := by simp [partsK, hk]
        have cP : ∀ w, Glob w → Maxl w → Calls Tryd.prog 58 #[.string (bs kk)] w fun e w' => ∃ v, e = .returned v ∧ Below w.heap.size w w' ∧ w'.ownsRow w.heap.size 9 1 v (splitB kk).length (strs (splitB kk)) := fun w h1 h2 => by
          have := key_Parts kk (by omega) w h1 h2
          rwa [hpk] at this
        have hsl := splitB_len kk
        have hsn : 0 < (splitB kk).length := List.length_pos_iff.2 (splitB_ne kk)
        have cJ2 : ∀ w v, Glob w → ValsAt w v (strs (splitB kk)) → Calls Tryd.prog 57 #[v] w fun e w' => e = .returned (.tuple #[.string (bs kk), .int .i64 0]) ∧ Below w.heap.size w w' := fun w v h1 h2 => by
          have hj := join_split kk
          have := key_Join_t v (splitB kk) w h1 h2 (by omega) (by rw [hj]; omega) (by rw [hj]; exact hk)
          rwa [hj] at this
        refine at_callrow (f := 58) (enters_fn (by kernel_rfl) rfl) (fun w ho => cP w (ho.glob hG id) (ho.maxl hM id)) rfl rfl (fun v9 => ?_)
        refine at_do (does_assign rfl) rfl rfl ?_
        refine at_nil ?_
        refine at_then ?_
        refine at_seq ?_
        refine at_seq ?_
        refine at_region ?_
        refine at_do (does_move rfl) rfl rfl ?_
        refine at_callv (f := 41) (enters_fn (by kernel_rfl) rfl) (fun w ho => ref_Is kk w (by omega)) rfl rfl ?_
        refine at_do (does_not rfl) rfl rfl ?_
        refine at_nil ?_
        refine at_then ?_
        refine at_cond_f rfl (by (rw [hk]; rfl)) ?_
        refine at_skip ?_
        refine at_then ?_
        refine at_seq ?_
        refine at_region ?_
        refine at_do (does_move rfl) rfl rfl ?_
        refine at_callrow (f := 59) (enters_fn (by kernel_rfl) rfl) (fun w ho => ref_Parts kk (by omega) w) rfl rfl (fun v10 => ?_)
        refine at_do (does_assign rfl) rfl rfl ?_
        refine at_nil ?_
        refine at_then ?_
        refine at_seq ?_
        refine at_seq ?_
        refine at_region ?_
        refine at_do (does_move rfl) rfl rfl ?_
        refine at_do (does_rowlen (i := 1) (by kernel_rfl) rfl rfl) rfl rfl ?_
        refine at_do (does_move rfl) rfl rfl ?_
        refine at_do (does_rowlen (i := 0) (by kernel_rfl) rfl rfl) rfl rfl ?_
        refine at_do (does_neq rfl rfl) rfl rfl ?_
        refine at_nil ?_
        refine at_then ?_
        refine at_cond_f rfl (decide_eq_false (by exact fun h => h rfl)) ?_
        refine at_skip ?_
        refine at_then ?_
        refine at_seq ?_
        refine at_seq ?_
        refine at_region ?_
        refine at_do (does_assign rfl) rfl rfl ?_
        refine at_nil ?_
        refine at_then ?_
        refine at_block ?_
        rotate_left
        refine at_openrow (i := 0) rfl ?_
        rintro ⟨_, ⟨_, h00⟩ | ⟨gx, cx, hvx⟩⟩
        · omega
        subst hvx
        refine at_openrow (i := 1) rfl ?_
        rintro ⟨_, ⟨_, h00⟩ | ⟨gy, cy, hvy⟩⟩
        · omega
        subst hvy
        refine at_loop0 (fun j : Nat => j ≤ (splitB kk).length) (fun j => [(0, .string (bs kk)), (9, .slice (some ⟨gy, 0, none⟩) (splitB kk).length cy), (10, .slice (some ⟨gx, 0, none⟩) (splitB kk).length cx), (11, .int .i64 j)]) (fun j => (splitB kk).length - j) 0 (Nat.zero_le _) ⟨rfl, rfl, rfl, rfl, trivial⟩ ?_
        rintro j hj
        by_cases hj2 : j < (splitB kk).length
        · have hget : (strs (splitB kk))[0 + j]? = some (.string (bs (splitB kk)[j])) := by rw [Nat.zero_add]; simp [strs, hj2]
          generalize (splitB kk)[j] = y at hget
          refine at_seq ?_
          refine at_seq ?_
          refine at_region ?_
          refine at_do (does_move rfl) rfl rfl ?_
          refine at_do (does_move rfl) rfl rfl ?_
          refine at_do (does_rowlen (i := 1) (by kernel_rfl) rfl rfl) rfl rfl ?_
          refine at_do (does_lss rfl rfl) rfl rfl ?_
          refine at_nil ?_
          refine at_then ?_
          refine at_cond_t rfl (decide_eq_true (by omega)) ?_
          refine at_skip ?_
          refine at_then ?_
          refine at_seq ?_
          refine at_block ?_
          refine at_seq ?_
          refine at_draw (by kernel_rfl) (by kernel_rfl) ?_
          refine atq_do (does_move rfl) rfl rfl ?_
          refine atq_do (does_move rfl) rfl rfl ?_
          refine atq_do (does_indexAddr1 (by kernel_rfl) rfl rfl (by omega)) rfl rfl ?_
          refine atq_do (does_rowload (i := 1) (j := 0 + j) (by kernel_rfl) rfl rfl (by omega) hget) rfl rfl ?_
          refine atq_do (does_move rfl) rfl rfl ?_
          refine atq_do (does_move rfl) rfl rfl ?_
          refine atq_do (does_indexAddr1 (by kernel_rfl) rfl rfl (by omega)) rfl rfl ?_
          refine atq_do (does_rowload (i := 0) (j := 0 + j) (by kernel_rfl) rfl rfl (by omega) hget) rfl rfl ?_
          refine atq_do (does_sneq rfl rfl) rfl rfl ?_
          refine atq_nil ?_
          refine at_then ?_
          refine at_cond_f rfl (decide_eq_false (by exact fun h => h rfl)) ?_
          refine at_skip ?_
          refine at_inb ?_
          refine at_then ?_
          refine at_region ?_
          refine at_do (does_move rfl) rfl rfl ?_
          refine at_do (does_addi rfl rfl (by omega)) rfl rfl ?_
          refine at_do (does_assign rfl) rfl rfl ?_
          refine at_nil ?_
          refine at_then ?_
          rotate_left
          refine at_again0 (j + 1) (by omega) (by omega) ⟨rfl, rfl, rfl, rfl, trivial⟩
        · refine at_seq ?_
          refine at_seq ?_
          refine at_region ?_
          refine at_do (does_move rfl) rfl rfl ?_
          refine at_do (does_move rfl) rfl rfl ?_
          refine at_do (does_rowlen (i := 1) (by kernel_rfl) rfl rfl) rfl rfl ?_
          refine at_do (does_lss rfl rfl) rfl rfl ?_
          refine at_nil ?_
          refine at_then ?_
          refine at_cond_f rfl (decide_eq_false (by omega)) ?_
          refine at_exit ?_
          refine at_then_exit ?_
          refine at_then_exit ?_
          refine at_inb_here ?_
          refine at_then ?_
          refine at_seq ?_
          refine at_region ?_
          refine at_do (does_move rfl) rfl rfl ?_
          refine at_callv (f := 57) (enters_fn (by kernel_rfl) rfl) (fun w ho => cJ2 w _ (ho.glob hG id) (vals_of_row (ho.rowAt (i := 1) rfl))) rfl rfl ?_
          refine at_do (does_move rfl) rfl rfl ?_
          refine at_do (does_extract rfl rfl) rfl rfl ?_
          refine at_do (does_extract rfl rfl) rfl rfl ?_
          refine at_do (does_assign rfl) rfl rfl ?_
          refine at_do (does_assign rfl) rfl rfl ?_
          refine at_nil ?_
          refine at_then ?_
          refine at_seq ?_
          refine at_region ?_
          refine at_do (does_move rfl) rfl rfl ?_
          refine at_do (does_move rfl) rfl rfl ?_
          refine at_do (does_seql rfl rfl) rfl rfl ?_
          refine at_do (does_move rfl) rfl rfl ?_
          refine at_know (t := 116) (d := true) rfl (decide_eq_true (by rfl)) ?_
          refine at_on rfl rfl ?_
          refine at_do (does_move rfl) rfl rfl ?_
          refine at_on rfl rfl ?_
          refine at_do (does_eql rfl rfl) rfl rfl ?_
          refine at_do (does_pick_true rfl rfl) rfl rfl ?_
          refine at_do (does_move rfl) rfl rfl ?_
          refine at_know (t := 120) (d := true) rfl (decide_eq_true (by omega)) ?_
          refine at_on rfl rfl ?_
          refine at_callv (f := 48) (enters_fn (by kernel_rfl) rfl) (fun w ho => law_awake w (ho.glob hG id) (ho.maxl hM id)) rfl rfl ?_
          refine at_do (does_pick_true rfl rfl) rfl rfl ?_
          refine at_do (does_assign rfl) rfl rfl ?_
          refine at_nil ?_
          refine at_then ?_
          refine at_ret ?_
          refine at_ret1 rfl rfl rfl (fun w9 ho9 => ?_)
          rotate_left
          exact ⟨rfl, ho9.plain⟩
      · have hk' : isK kk = false := by simpa using hk
        have hpk : partsK kk = [] := by simp [partsK, hk']
        have cP : ∀ w, Glob w → Maxl w → Calls Tryd.prog 58 #[.string (bs kk)] w fun e w' => ∃ v, e = .returned v ∧ Below w.heap.size w w' ∧ w'.ownsRow w.heap.size 9 1 v 0 [] := fun w h1 h2 => by
          have := key_Parts kk (by omega) w h1 h2
          rwa [hpk] at this
        refine at_callrow (f := 58) (enters_fn (by kernel_rfl) rfl) (fun w ho => cP w (ho.glob hG id) (ho.maxl hM id)) rfl rfl (fun v9 => ?_)
        refine at_do (does_assign rfl) rfl rfl ?_
        refine at_nil ?_
        refine at_then ?_
        refine at_seq ?_
        refine at_seq ?_
        refine at_region ?_
        refine at_do (does_move rfl) rfl rfl ?_
        refine at_callv (f := 41) (enters_fn (by kernel_rfl) rfl) (fun w ho => ref_Is kk w (by omega)) rfl rfl ?_
        refine at_do (does_not rfl) rfl rfl ?_
        refine at_nil ?_
        refine at_then ?_
        refine at_cond_t rfl (by (rw [hk']; rfl)) ?_
        refine at_seq ?_
        refine at_region ?_
        refine at_do (does_move rfl) rfl rfl ?_
        refine at_do (does_rowlen (i := 0) (by kernel_rfl) rfl rfl) rfl rfl ?_
        refine at_do (does_eql rfl rfl) rfl rfl ?_
        refine at_do (does_move rfl) rfl rfl ?_
        refine at_know (t := 83) (d := true) rfl (decide_eq_true (by rfl)) ?_
        refine at_on rfl rfl ?_
        refine at_callv (f := 48) (enters_fn (by kernel_rfl) rfl) (fun w ho => law_awake w (ho.glob hG id) (ho.maxl hM id)) rfl rfl ?_
        refine at_do (does_pick_true rfl rfl) rfl rfl ?_
        refine at_do (does_assign rfl) rfl rfl ?_
        refine at_nil ?_
        refine at_then ?_
        refine at_ret ?_
        refine at_then_ret ?_
        refine at_ret1 rfl rfl rfl (fun w9 ho9 => ?_)
        rotate_left
        exact ⟨rfl, ho9.plain⟩
theorem law_KeyParts (k0 : List UInt8) (v0 : Value) (L0 : List (List UInt8)) (w : World) (hG : Glob w) (hM : Maxl w) (hV0 : ValsAt w v0 (strs L0)) :
    Calls Tryd.prog 12 #[.string (bs k0), v0] w fun e w' => e = .returned (.bool true) ∧ Below w.heap.size w w' := by
  by_cases h : 30 < L0.length
  · exact parts_long k0 v0 L0 (L0.take 30) w hG hM hV0 rfl (by simp; omega) h
  · exact parts_short k0 v0 L0 (L0.take 30) w hG hM hV0 rfl (by simp; omega) (by omega)
end Go.Proofs.YtchfecmabhfooaaDoor
