/-
  The law of SipPairs. No condition of its own.
-/
import Derived.Test.YthclmpbgehkgeaaSip13
set_option linter.unusedSimpArgs false
set_option linter.unusedVariables false
namespace Go.Proofs.Ythclmpbgehkgeaa.K
open Go.RowKit
attribute [local irreducible] cwp lwp Exit.then Exit.inBlock Exit.noGoto wpQuiet Calls fin At AtQ Again endQ RQ rnds rnd rotl chewA wordF tagF
theorem ref_Eight2 (n : Int) (w : World) : Calls Try.prog 16 #[.int .i64 n] w fun e w' => ∃ v, e = .returned v ∧ Below w.heap.size w w' ∧ w'.ownsRow w.heap.size 5 1 v (le (u64n n) 8).length (byV (le (u64n n) 8)) := by
  rw [le_len]; exact ref_Eight n w
theorem flat_two (a b : Int) : eqFl [.int .u64 a, .int .u64 b] [.int .u64 a, .int .u64 b] [(0, 0), (1, 0)] = some true := by simp [eqFl, eqVal]
theorem flat24 : flatT Try.prog 24 = some [(0, 0), (1, 0)] := by kernel_rfl
set_option maxHeartbeats 2000000 in
theorem law_SipPairs (p q fr tt : Int) (w : World) (hp : Wd p) (hq : Wd q) : Calls Try.prog 6 #[sec p q, .int .i64 fr, .int .i64 tt] w fun e w' => e = .returned (.bool true) ∧ Below w.heap.size w w' := by
  have cP := fun w => sip_Pair p q fr tt w hp hq
  have hL : pairB fr tt 2 = le (u64n fr) 8 ++ le (u64n tt) 8 := rfl
  rw [hL] at cP
  have ha : (le (u64n fr) 8).length = 8 := le_len _ _
  have hb : (le (u64n tt) 8).length = 8 := le_len _ _
  have c1 : ∀ w, Calls Try.prog 16 #[.int .i64 fr] w fun e w' => ∃ v, e = .returned v ∧ Below w.heap.size w w' ∧ w'.ownsRow w.heap.size 5 1 v (le (u64n fr) 8).length (byV (le (u64n fr) 8)) := ref_Eight2 fr
  have c2 : ∀ w, Calls Try.prog 16 #[.int .i64 tt] w fun e w' => ∃ v, e = .returned v ∧ Below w.heap.size w w' ∧ w'.ownsRow w.heap.size 5 1 v (le (u64n tt) 8).length (byV (le (u64n tt) 8)) := ref_Eight2 tt
  clear hL
  generalize le (u64n fr) 8 = la at cP ha c1
  generalize le (u64n tt) 8 = lb at cP hb c2
  obtain ⟨l, hl⟩ : ∃ l, l = la ++ lb := ⟨_, rfl⟩
  have hl3 : l.length ≤ 100000 := by rw [hl]; simp; omega
  have hl4 : (l ++ [0]).length ≤ 100000 := by rw [hl]; simp; omega
  have hlb : lb.length ≤ 1000000 := by omega
  have hlab : la.length + lb.length ≤ 1000000 := by omega
  have e1 : la.length + lb.length = l.length := by rw [hl]; simp
  have e2 : byV la ++ byV lb = byV l := by rw [hl]; simp [byV]
  rw [← hl] at cP
  clear hl
  have cT1 : ∀ w v, BytesAt w v l → Calls Try.prog 8 #[sec p q, v] w fun e w' => e = .returned (.int .u64 (tagF p q l)) ∧ Below w.heap.size w w' := fun w v hB => ref_Tag p q v l w hp hq hB hl3
  have cT2 : ∀ w v, BytesAt w v (l ++ [0]) → Calls Try.prog 8 #[sec p q, v] w fun e w' => e = .returned (.int .u64 (tagF p q (l ++ [0]))) ∧ Below w.heap.size w w' := fun w v hB => ref_Tag p q v (l ++ [0]) w hp hq hB hl4
  generalize tagF p q l = ta at cT1 cP
  generalize tagF p q (l ++ [0]) = tb at cT2 cP
  refine calls_plain Try.func6 rfl Try.ntmps6 rfl ?_
  refine at_seq ?_
  refine at_region ?_
  refine at_boxagg rfl rfl fun gz0 => ?_
  refine at_do (does_assign rfl) rfl rfl ?_
  refine at_nil ?_
  refine at_then ?_
  refine at_seq ?_
  refine at_region ?_
  refine at_do (does_move rfl) rfl rfl ?_
  refine at_callrow (f := 16) (enters_fn (by kernel_rfl) rfl) (fun w ho => c1 w) rfl rfl (fun v9 => ?_)
  refine at_do (does_move rfl) rfl rfl ?_
  refine at_callrow (f := 16) (enters_fn (by kernel_rfl) rfl) (fun w ho => c2 w) rfl rfl (fun v11 => ?_)
  refine at_appendB (i := 1) (ys := lb) (by kernel_rfl) rfl rfl rfl (fun w ho => bytes_of_row (ho.rowAt (i := 0) rfl)) hlab rfl (fun v12 hv12 => ?_)
  refine at_do (does_assign rfl) rfl rfl ?_
  refine at_nil ?_
  refine at_then ?_
  refine at_seq ?_
  rotate_left
  refine at_own (C' := ⟨w, fun _ => False, fun _ => False, w, fun _ => False, []⟩) (H' := [.row v12 5 1 l.length (byV l), .blk gz0 24 #[.int .u64 p, .int .u64 q]]) rfl (fun w ho => ?_) ?_
  · rw [← e1, ← e2]
    exact ho.sublist (List.sublist_cons_self ..)
  refine at_reW fun W1 hW1 hold => ?_
  apply at_drawR0 17 [.val _, .val _, .val _, .val _, .val _, .val _, .val _, .val _, .val _, .rel (LitsN W1.heap.size 5 1 [.int .u8 0]), .rel (RowV 5 1 (l.length + 1) (byV l ++ [.int .u8 0])), .val (.int .u64 tb), .val (.agg #[.int .u64 ta, .int .u64 tb]), .val (.bool true), .val (.bool true), .val (.bool true), .val (.bool true)] (by kernel_rfl) (by kernel_rfl) rfl ⟨trivial, trivial, trivial, trivial, trivial, trivial, trivial, trivial, trivial, litsN_stab _ _ _ _, rowV_stab _ _ _ _, trivial, trivial, trivial, trivial, trivial, trivial, trivial⟩
  · refine so_cons rfl (fun vs => ?_) ?_
    exact step1_does (does_loadagg (i := 1) (k := 2) (by kernel_rfl) rfl rfl rfl)
    refine so_cons rfl (fun vs => ?_) ?_
    exact step1_does (does_move rfl)
    refine so_cons rfl (fun vs => ?_) ?_
    exact step1_does (does_move rfl)
    refine so_cons rfl (fun vs => ?_) ?_
    exact step1_call (f := 17) (enters_fn (by kernel_rfl) rfl) (fun w ho hx => cP w)
    refine so_cons rfl (fun vs => ?_) ?_
    exact step1_does (does_loadagg (i := 1) (k := 2) (by kernel_rfl) rfl rfl rfl)
    refine so_cons rfl (fun vs => ?_) ?_
    exact step1_does (does_move rfl)
    refine so_cons rfl (fun vs => ?_) ?_
    exact step1_call (f := 8) (enters_fn (by kernel_rfl) rfl) (fun w ho hx => cT1 w v12 (bytes_of_row (ho.rowAt (i := 0) rfl)))
    refine so_cons rfl (fun vs => ?_) ?_
    exact step1_does (does_loadagg (i := 1) (k := 2) (by kernel_rfl) rfl rfl rfl)
    refine so_cons rfl (fun vs => ?_) ?_
    exact step1_does (does_move rfl)
    refine so_cons rfl (fun vs => ?_) ?_
    exact step1_buildSliceN (e := 5) (sz := 1) (vs := [.int .u8 0]) (cs := [.int .u8 0]) (by kernel_rfl) rfl rfl rfl rfl rfl
    refine so_turn rfl (fun vs => ?_) ?_
    rotate_left
    refine so_cons rfl (fun vs => ?_) ?_
    rotate_left
    refine so_cons rfl (fun vs => ?_) ?_
    exact step1_does (does_build (cs := [.int .u64 ta, .int .u64 tb]) shapeSec rfl rfl)
    refine so_cons rfl (fun vs => ?_) ?_
    exact step1_does (does_flateql (xs := [.int .u64 ta, .int .u64 tb]) (ys := [.int .u64 ta, .int .u64 tb]) flat24 rfl rfl (flat_two ta tb))
    refine so_cons rfl (fun vs => ?_) ?_
    exact step1_does (does_move rfl)
    refine so_on rfl rfl (fun vs => rfl) rfl (fun vs => ?_) ?_
    exact step1_call (f := 11) (enters_fn (by kernel_rfl) rfl) (fun w ho hx => law_awake w)
    refine so_cons rfl (fun vs => ?_) ?_
    exact step1_does (does_pick_true rfl rfl)
    exact so_nil
    · refine stepT_append (i := 0) (e := 5) (sz := 1) (by' := 1) (k := 1) (m := l.length) (v := v12) (xs := byV l) (news := [.int .u8 0]) rfl (by kernel_rfl) rfl rfl (fun w ho hx => ?_) rfl (one_of rfl) (by simp only [maxLen]; omega) hold ⟨.inr trivial, .inr trivial, .inr trivial, .inr trivial, .inr trivial, .inr trivial, .inr trivial, .inr trivial, .inr trivial, .inr (litsN_old _ _ _ _), .inl rfl, .inr trivial, .inr trivial, .inr trivial, .inr trivial, .inr trivial, .inr trivial, trivial⟩
      exact litsN_cells (v := vs 9) hx.1
    · refine step1_call (f := 8) (args := #[sec p q, vs 10]) (v := .int .u64 tb) (enters_fn (vs := [sec p q, vs 10]) (by kernel_rfl) rfl) (fun w ho hx => ?_)
      have h6 : RowV 5 1 (l.length + 1) (byV l ++ [.int .u8 0]) (vs 10) w := hx.1
      exact cT2 w (vs 10) (bytes_of_row0 h6)
  · intro vs
    refine at_weak (E' := [(29, .bool true)]) ⟨rfl, trivial⟩ ?_
    show At _ _ _ _ (lwp _ _ _ _ (_ :: _))
    refine at_do (does_assign rfl) rfl rfl ?_
    refine at_nil ?_
    refine at_then ?_
    refine at_ret ?_
    refine at_ret1 rfl rfl rfl (fun w9 ho9 => ?_)
    rotate_left
    exact ⟨rfl, ho9.plain⟩
end Go.Proofs.Ythclmpbgehkgeaa.K
