/-
  The chapter's examples; SipTags' law. No condition of its own.
-/
import Derived.Test.YthclmpbgehkgeaaSip9
import Derived.Test.YthclmpbgehkgeaaRange
set_option linter.unusedSimpArgs false
set_option linter.unusedVariables false
namespace Go.Proofs.Ythclmpbgehkgeaa.K
open Go.RowKit

theorem tag_none : tagF 506097522914230528 1084818905618843912 [] = 8246050544436514353 := by kernel_rfl
theorem tag_some : tagF 506097522914230528 1084818905618843912 [0, 1, 2, 3, 4, 5, 6, 7, 8, 9, 10, 11, 12, 13, 14] = 11613035633349379557 := by kernel_rfl
attribute [local irreducible] cwp lwp Exit.then Exit.inBlock Exit.noGoto wpQuiet Calls fin At AtQ Again endQ RQ rnds rnd rotl chewA wordF tagF
theorem known_wd : Wd 506097522914230528 ∧ Wd 1084818905618843912 := by unfold Wd; omega
theorem blk_bytes {w : World} {h e : Nat} {l : List UInt8} (hb : w.heap[h]? = some (.cells (byV l).toArray e (0, 0))) : BytesAt w (.slice (some ⟨h, 0, none⟩) l.length l.length) l :=
  .inr ⟨⟨h, 0, none⟩, l.length, rfl, Nat.le_refl _, fun j u hu => by rw [add_none, Nat.zero_add, cell_of_row w h j _ e (0, 0) hb]; simpa using hu⟩
theorem law_awake (w : World) : Calls Try.prog 11 #[] w fun e w' => e = .returned (.bool true) ∧ Below w.heap.size w w' := by
  refine calls_plain (args := []) Try.func11 rfl Try.ntmps11 rfl ?_
  refine at_seq ?_
  refine at_region ?_
  refine at_do (does_assign rfl) rfl rfl ?_
  refine at_nil ?_
  refine at_then ?_
  refine at_seq ?_
  refine at_region ?_
  refine at_buildSlice (e := 5) (sz := 1) (vs := byV [0, 1, 2, 3, 4, 5, 6, 7, 8, 9, 10, 11, 12, 13, 14]) (cs := byV [0, 1, 2, 3, 4, 5, 6, 7, 8, 9, 10, 11, 12, 13, 14]) (by kernel_rfl) rfl rfl rfl rfl rfl rfl (fun g => ?_)
  refine at_do (does_assign rfl) rfl rfl ?_
  refine at_nil ?_
  refine at_then ?_
  refine at_seq ?_
  refine at_region ?_
  refine at_callv (f := 20) (enters_fn (by kernel_rfl) rfl) (fun w ho => law_known w) rfl rfl ?_
  refine at_callv (f := 9) (enters_fn (by kernel_rfl) rfl) (fun w ho => sip_Tag _ _ (.slice none 0 0) [] w known_wd.1 known_wd.2 (.inl ⟨rfl, rfl⟩) (by decide)) rfl rfl ?_
  refine at_do (does_eql rfl rfl) rfl rfl ?_
  refine at_do (does_move rfl) rfl rfl ?_
  refine at_know (t := 6) (d := true) rfl (decide_eq_true (by exact tag_none)) ?_
  refine at_on rfl rfl ?_
  refine at_callv (f := 20) (enters_fn (by kernel_rfl) rfl) (fun w ho => law_known w) rfl rfl ?_
  refine at_on rfl rfl ?_
  refine at_do (does_move rfl) rfl rfl ?_
  refine at_on rfl rfl ?_
  refine at_callv (f := 9) (enters_fn (by kernel_rfl) rfl) (fun w ho => sip_Tag _ _ _ [0, 1, 2, 3, 4, 5, 6, 7, 8, 9, 10, 11, 12, 13, 14] w known_wd.1 known_wd.2 (blk_bytes (ho.get (i := 0) rfl)) (by decide)) rfl rfl ?_
  refine at_on rfl rfl ?_
  refine at_do (does_eql rfl rfl) rfl rfl ?_
  refine at_do (does_pick_true rfl rfl) rfl rfl ?_
  refine at_do (does_move rfl) rfl rfl ?_
  refine at_know (t := 12) (d := true) rfl (decide_eq_true (by exact tag_some)) ?_
  refine at_on rfl rfl ?_
  refine at_callv (f := 20) (enters_fn (by kernel_rfl) rfl) (fun w ho => law_known w) rfl rfl ?_
  refine at_on rfl rfl ?_
  refine at_do (does_move rfl) rfl rfl ?_
  refine at_on rfl rfl ?_
  refine at_callv (f := 10) (enters_fn (by kernel_rfl) rfl) (fun w ho => sip_Check _ _ _ _ [0, 1, 2, 3, 4, 5, 6, 7, 8, 9, 10, 11, 12, 13, 14] w known_wd.1 known_wd.2 (blk_bytes (ho.get (i := 0) rfl)) (by decide)) rfl rfl ?_
  refine at_do (does_pick_true rfl rfl) rfl rfl ?_
  refine at_do (does_assign rfl) rfl rfl ?_
  refine at_nil ?_
  refine at_then ?_
  refine at_ret ?_
  refine at_ret1 rfl rfl rfl (fun w9 ho9 => ?_)
  rotate_left
  exact ⟨ret_bool (by simp [tag_none, tag_some]), ho9.plain⟩
theorem eq_dec (a b : Int) : (decide (a = b) == decide (b = a)) = true := by
  have : decide (a = b) = decide (b = a) := decide_eq_decide.2 eq_comm
  rw [this]; simp
theorem law_SipTags (p q tag : Int) (arg : Value) (ys : List UInt8) (w : World) (hp : Wd p) (hq : Wd q) (hB : BytesAt w arg ys) (hy : ys.length ≤ 9223372036854775807) :
    Calls Try.prog 3 #[sec p q, arg, .int .u64 tag] w fun e w' => e = .returned (.bool true) ∧ Below w.heap.size w w' := by
  have hF := few_bytes hB
  have hL : (ys.take 600).length ≤ 100000 := by simp; omega
  have cfew : ∀ w1, Calls Try.prog 7 #[arg] w1 fun e w' => e = .returned (fewV arg) ∧ Below w1.heap.size w1 w' := fun w1 => law_few arg ys w w1 hB hy
  generalize ys.take 600 = zs at hF hL
  generalize fewV arg = v at hF cfew
  refine calls_plain Try.func3 rfl Try.ntmps3 rfl ?_
  refine at_seq ?_
  refine at_region ?_
  refine at_boxagg rfl rfl fun gz0 => ?_
  refine at_do (does_assign rfl) rfl rfl ?_
  refine at_nil ?_
  refine at_then ?_
  refine at_seq ?_
  refine at_region ?_
  refine at_do (does_move rfl) rfl rfl ?_
  refine at_callv (f := 7) (enters_fn (by kernel_rfl) rfl) (fun w ho => cfew w) rfl rfl ?_
  refine at_do (does_assign rfl) rfl rfl ?_
  refine at_nil ?_
  refine at_then ?_
  refine at_seq ?_
  refine at_region ?_
  refine at_do (does_move rfl) rfl rfl ?_
  refine at_do (does_bytesStr (l := zs) (by kernel_rfl) rfl (fun w ho => ho.oldBytes hF)) rfl rfl ?_
  refine at_do (does_assign rfl) rfl rfl ?_
  refine at_nil ?_
  refine at_then ?_
  refine at_seq ?_
  refine at_region ?_
  refine at_do (does_loadagg (i := 0) (k := 2) (by kernel_rfl) rfl rfl rfl) rfl rfl ?_
  refine at_do (does_move rfl) rfl rfl ?_
  refine at_callv (f := 8) (enters_fn (by kernel_rfl) rfl) (fun w ho => ref_Tag p q v zs w hp hq (ho.oldBytes hF) hL) rfl rfl ?_
  refine at_do (does_assign rfl) rfl rfl ?_
  refine at_nil ?_
  refine at_then ?_
  refine at_seq ?_
  refine at_region ?_
  refine at_do (does_loadagg (i := 0) (k := 2) (by kernel_rfl) rfl rfl rfl) rfl rfl ?_
  refine at_do (does_move rfl) rfl rfl ?_
  refine at_callv (f := 9) (enters_fn (by kernel_rfl) rfl) (fun w ho => sip_Tag p q v zs w hp hq (ho.oldBytes hF) hL) rfl rfl ?_
  refine at_do (does_move rfl) rfl rfl ?_
  refine at_do (does_eql rfl rfl) rfl rfl ?_
  refine at_do (does_move rfl) rfl rfl ?_
  refine at_know (t := 21) (d := true) rfl (decide_eq_true (by rfl)) ?_
  refine at_on rfl rfl ?_
  refine at_do (does_loadagg (i := 0) (k := 2) (by kernel_rfl) rfl rfl rfl) rfl rfl ?_
  refine at_on rfl rfl ?_
  refine at_do (does_move rfl) rfl rfl ?_
  refine at_on rfl rfl ?_
  refine at_do (does_move rfl) rfl rfl ?_
  refine at_on rfl rfl ?_
  refine at_callv (f := 10) (enters_fn (by kernel_rfl) rfl) (fun w ho => sip_Check p q _ v zs w hp hq (ho.oldBytes hF) hL) rfl rfl ?_
  refine at_do (does_pick_true rfl rfl) rfl rfl ?_
  refine at_do (does_move rfl) rfl rfl ?_
  refine at_know (t := 27) (d := true) rfl (decide_eq_true (by rfl)) ?_
  refine at_on rfl rfl ?_
  refine at_do (does_loadagg (i := 0) (k := 2) (by kernel_rfl) rfl rfl rfl) rfl rfl ?_
  refine at_on rfl rfl ?_
  refine at_do (does_move rfl) rfl rfl ?_
  refine at_on rfl rfl ?_
  refine at_do (does_move rfl) rfl rfl ?_
  refine at_on rfl rfl ?_
  refine at_callv (f := 10) (enters_fn (by kernel_rfl) rfl) (fun w ho => sip_Check p q _ v zs w hp hq (ho.oldBytes hF) hL) rfl rfl ?_
  refine at_on rfl rfl ?_
  refine at_do (does_move rfl) rfl rfl ?_
  refine at_on rfl rfl ?_
  refine at_do (does_move rfl) rfl rfl ?_
  refine at_on rfl rfl ?_
  refine at_do (does_eql rfl rfl) rfl rfl ?_
  refine at_on rfl rfl ?_
  refine at_do (does_beql (by kernel_rfl) rfl rfl) rfl rfl ?_
  refine at_do (does_pick_true rfl rfl) rfl rfl ?_
  refine at_do (does_move rfl) rfl rfl ?_
  refine at_know (t := 37) (d := true) rfl (by exact eq_dec _ _) ?_
  refine at_on rfl rfl ?_
  refine at_do (does_move rfl) rfl rfl ?_
  refine at_on rfl rfl ?_
  refine at_do (does_bytesStr (l := zs) (by kernel_rfl) rfl (fun w ho => ho.oldBytes hF)) rfl rfl ?_
  refine at_on rfl rfl ?_
  refine at_do (does_move rfl) rfl rfl ?_
  refine at_on rfl rfl ?_
  refine at_do (does_seql rfl rfl) rfl rfl ?_
  refine at_do (does_pick_true rfl rfl) rfl rfl ?_
  refine at_do (does_move rfl) rfl rfl ?_
  refine at_know (t := 43) (d := true) rfl (decide_eq_true (by rfl)) ?_
  refine at_on rfl rfl ?_
  refine at_callv (f := 11) (enters_fn (by kernel_rfl) rfl) (fun w ho => law_awake w) rfl rfl ?_
  refine at_do (does_pick_true rfl rfl) rfl rfl ?_
  refine at_do (does_assign rfl) rfl rfl ?_
  refine at_nil ?_
  refine at_then ?_
  refine at_ret ?_
  refine at_ret1 rfl rfl rfl (fun w9 ho9 => ?_)
  rotate_left
  exact ⟨rfl, ho9.plain⟩
end Go.Proofs.Ythclmpbgehkgeaa.K
