/-
  The chapter's examples, walked. No condition of its own.
-/
import Derived.Test.YtjpfebgpcokenaaDoorSpan33
set_option linter.unusedSimpArgs false
set_option linter.unusedVariables false
namespace Go.Proofs.YtjpfebgpcokenaaDoor
open Go.RowKit
attribute [local irreducible] cwp lwp Exit.then Exit.inBlock Exit.noGoto wpQuiet Calls fin At AtQ Again endQ RQ
theorem items_lit {C : Ctx} {H : List Res} {w : World} {i h : Nat} {xs : List Itm} (ho : Own C H w) (hi : H[i]? = some (.blk h IT (itms xs).toArray)) : ItemsAt w (.slice (some ⟨h, 0, none⟩) xs.length xs.length) xs :=
  .inr ⟨_, _, rfl, Nat.le_refl _, fun j u hu => lit_cells ho (i := i) hi j u hu⟩
set_option maxHeartbeats 8000000 in
theorem law_awake (w : World) (hG : Glob w) (hM : Maxl w) :
    Calls Tryd.prog 11 #[] w fun e w' => e = .returned (.bool true) ∧ Below w.heap.size w w' := by
  refine calls_plain Tryd.func11 rfl Tryd.ntmps11 rfl ?_
  refine at_seq ?_
  refine at_region ?_
  refine at_do (does_assign rfl) rfl rfl ?_
  refine at_nil ?_
  refine at_then ?_
  refine at_seq ?_
  refine at_region ?_
  refine at_callv (f := 34) (enters_fn (by kernel_rfl) rfl) (fun w ho => ref_Int 2 w) rfl rfl ?_
  refine at_do (does_build (cs := itmV xB) shapeItem rfl rfl) rfl rfl ?_
  refine at_callv (f := 34) (enters_fn (by kernel_rfl) rfl) (fun w ho => ref_Int 1 w) rfl rfl ?_
  refine at_do (does_build (cs := itmV xA) shapeItem rfl rfl) rfl rfl ?_
  refine at_callv (f := 34) (enters_fn (by kernel_rfl) rfl) (fun w ho => ref_Int 3 w) rfl rfl ?_
  refine at_do (does_build (cs := itmV xQ) shapeItem rfl rfl) rfl rfl ?_
  refine at_buildSlice (e := IT) (sz := 5) (vs := [itmA xB, itmA xA, itmA xQ]) (cs := itms [xB, xA, xQ]) (by kernel_rfl) rfl rfl rfl rfl rfl rfl (fun hl => ?_)
  refine at_callk (f := 33) (Φ := PutV (fun k => k ∈ bls [Res.blk hl IT (itms [xB, xA, xQ]).toArray]) vsA fsA) (enters_fn (by kernel_rfl) rfl) (fun w ho => (law_laid _ [xB, xA, xQ] w (items_lit ho (i := 0) rfl) (by decide) okA _ (fun k hk => ho.lt k hk)).mono fun e w3 hq => by obtain ⟨ls, q1, q2, q3⟩ := hq; exact ⟨_, q1, q2, ls, rfl, q3⟩) rfl rfl (fun v w1 hw1 hv => ?_)
  rotate_left
  obtain ⟨ls, rfl, hT⟩ := hv
  have h32 : (trunkC ls vsA).size = 32 := trunk_size hT.l1 lenA
  have hall := trunk_one (vs := vsA) hT
  have cS : ∀ {w'}, Tr w' ls vsA fsA → Calls Tryd.prog 22 #[trunkA ls vsA, .string (bs []), .string (bs []), .int .i64 9] w' fun e w3 => ∃ u, e = .returned (.tuple #[u, .int .i64 0]) ∧ Below w'.heap.size w' w3 ∧ w3.ownsRow w'.heap.size IT 5 u [xA, xB, xQ].length (itms [xA, xB, xQ]) := fun h => by
    have := span_scan ls vsA fsA [] [] 9 _ h
    rwa [scanA, errA] at this
  have cB : ∀ {w'}, Tr w' ls vsA fsA → Calls Tryd.prog 23 #[trunkA ls vsA, .string (bs []), .string (bs []), .int .i64 2] w' fun e w3 => ∃ u, e = .returned (.tuple #[u, .int .i64 0]) ∧ Below w'.heap.size w' w3 ∧ w3.ownsRow w'.heap.size IT 5 u [xQ, xB].length (itms [xQ, xB]) := fun h => by
    have := span_Back ls vsA fsA [] [] 2 _ h
    rwa [backA, errA] at this
  have cU : ∀ {w'}, Tr w' ls vsA fsA → Calls Tryd.prog 9 #[trunkA ls vsA, .string (bs []), .string (bs [])] w' fun e w3 => e = .returned (.tuple #[.int .i64 6, .int .i64 0]) ∧ Below w'.heap.size w' w3 := fun h => by
    have := span_Sum ls vsA fsA [] [] _ h allA
    rwa [sumA] at this
  have cF : ∀ {w'}, Tr w' ls vsA fsA → Calls Tryd.prog 14 #[trunkA ls vsA, .string (bs [98, 47])] w' fun e w3 => e = .returned (.tuple #[itmA xQ, .int .i64 0]) ∧ Below w'.heap.size w' w3 := fun h => by
    have := span_First ls vsA fsA [98, 47] _ h
    rwa [firstA, errA1] at this
  have cL : ∀ {w'}, Tr w' ls vsA fsA → Calls Tryd.prog 15 #[trunkA ls vsA, .string (bs [])] w' fun e w3 => e = .returned (.tuple #[itmA xQ, .int .i64 0]) ∧ Below w'.heap.size w' w3 := fun h => by
    have := span_Last ls vsA fsA [] _ h
    rwa [lastA, errA] at this
  refine at_allocagg Tryd.zeroValue26 rfl fun gz0 => ?_
  refine at_storeagg (i := 0) (vs := trunkC ls vsA) (by rw [h32]; kernel_rfl) rfl rfl hall rfl (by rw [h32]; rfl) ?_
  refine at_nil ?_
  refine at_then ?_
  refine at_seq ?_
  refine at_region ?_
  refine at_do (does_loadagg (i := 0) (k := 32) (by kernel_rfl) rfl rfl h32) rfl rfl ?_
  refine at_callrow2 (f := 22) (enters_fn (by kernel_rfl) rfl) (fun w ho => cS (trA (ho.glob hG id) (hT.move ho.base (fun _ _ h => h.elim)))) rfl rfl (fun l => ?_)
  refine at_do (does_move rfl) rfl rfl ?_
  refine at_do (does_extract rfl rfl) rfl rfl ?_
  refine at_do (does_extract rfl rfl) rfl rfl ?_
  refine at_do (does_assign rfl) rfl rfl ?_
  refine at_do (does_assign rfl) rfl rfl ?_
  refine at_nil ?_
  refine at_then ?_
  refine at_seq ?_
  refine at_region ?_
  refine at_do (does_loadagg (i := 1) (k := 32) (by kernel_rfl) rfl rfl h32) rfl rfl ?_
  refine at_callrow2 (f := 23) (enters_fn (by kernel_rfl) rfl) (fun w ho => cB (trA (ho.glob hG id) (hT.move ho.base (fun _ _ h => h.elim)))) rfl rfl (fun b => ?_)
  refine at_do (does_move rfl) rfl rfl ?_
  refine at_do (does_extract rfl rfl) rfl rfl ?_
  refine at_do (does_extract rfl rfl) rfl rfl ?_
  refine at_do (does_assign rfl) rfl rfl ?_
  refine at_do (does_assign rfl) rfl rfl ?_
  refine at_nil ?_
  refine at_then ?_
  refine at_seq ?_
  refine at_region ?_
  refine at_do (does_loadagg (i := 2) (k := 32) (by kernel_rfl) rfl rfl h32) rfl rfl ?_
  refine at_callv (f := 9) (enters_fn (by kernel_rfl) rfl) (fun w ho => cU (trA (ho.glob hG id) (hT.move ho.base (fun _ _ h => h.elim)))) rfl rfl ?_
  refine at_do (does_move rfl) rfl rfl ?_
  refine at_do (does_extract rfl rfl) rfl rfl ?_
  refine at_do (does_extract rfl rfl) rfl rfl ?_
  refine at_do (does_assign rfl) rfl rfl ?_
  refine at_do (does_assign rfl) rfl rfl ?_
  refine at_nil ?_
  refine at_then ?_
  refine at_seq ?_
  refine at_region ?_
  refine at_do (does_loadagg (i := 2) (k := 32) (by kernel_rfl) rfl rfl h32) rfl rfl ?_
  refine at_callv (f := 14) (enters_fn (by kernel_rfl) rfl) (fun w ho => cF (trA (ho.glob hG id) (hT.move ho.base (fun _ _ h => h.elim)))) rfl rfl ?_
  refine at_do (does_move rfl) rfl rfl ?_
  refine at_do (does_extract rfl rfl) rfl rfl ?_
  refine at_do (does_extract rfl rfl) rfl rfl ?_
  refine at_allocagg Tryd.zeroValue43 rfl fun gz1 => ?_
  refine at_storeagg (i := 0) (by kernel_rfl) rfl rfl rfl rfl rfl ?_
  refine at_do (does_assign rfl) rfl rfl ?_
  refine at_nil ?_
  refine at_then ?_
  refine at_seq ?_
  refine at_region ?_
  refine at_do (does_loadagg (i := 3) (k := 32) (by kernel_rfl) rfl rfl h32) rfl rfl ?_
  refine at_callv (f := 15) (enters_fn (by kernel_rfl) rfl) (fun w ho => cL (trA (ho.glob hG id) (hT.move ho.base (fun _ _ h => h.elim)))) rfl rfl ?_
  refine at_do (does_move rfl) rfl rfl ?_
  refine at_do (does_extract rfl rfl) rfl rfl ?_
  refine at_do (does_extract rfl rfl) rfl rfl ?_
  refine at_allocagg Tryd.zeroValue43 rfl fun gz2 => ?_
  refine at_storeagg (i := 0) (by kernel_rfl) rfl rfl rfl rfl rfl ?_
  refine at_do (does_assign rfl) rfl rfl ?_
  refine at_nil ?_
  refine at_then ?_
  refine at_seq ?_
  refine at_region ?_
  refine at_callv (f := 34) (enters_fn (by kernel_rfl) rfl) (fun w ho => ref_Int 2 w) rfl rfl ?_
  refine at_do (does_build (cs := itmV y1) shapeItem rfl rfl) rfl rfl ?_
  refine at_callv (f := 34) (enters_fn (by kernel_rfl) rfl) (fun w ho => ref_Int 1 w) rfl rfl ?_
  refine at_do (does_build (cs := itmV y2) shapeItem rfl rfl) rfl rfl ?_
  refine at_callv (f := 34) (enters_fn (by kernel_rfl) rfl) (fun w ho => ref_Int 3 w) rfl rfl ?_
  refine at_do (does_build (cs := itmV y3) shapeItem rfl rfl) rfl rfl ?_
  refine at_buildSlice (e := IT) (sz := 5) (vs := [itmA y1, itmA y2, itmA y3]) (cs := itms [y1, y2, y3]) (by kernel_rfl) rfl rfl rfl rfl rfl rfl (fun hl2 => ?_)
  rotate_left
  refine at_callk (f := 33) (Φ := PutV _ vsB fsB) (enters_fn (by kernel_rfl) rfl) (fun w ho => (law_laid _ [y1, y2, y3] w (items_lit ho (i := 0) rfl) (by decide) okB (fun k => k ∈ bls _) (fun k hk => ho.lt k hk)).mono fun e w3 hq => by obtain ⟨ls, q1, q2, q3⟩ := hq; exact ⟨_, q1, q2, ls, rfl, q3⟩) rfl rfl (fun v w2 hw2 hv2 => ?_)
  obtain ⟨ls2, rfl, hT2⟩ := hv2
  have cN : ∀ {w'}, Tr w' ls2 vsB fsB → Maxl w' → Calls Tryd.prog 17 #[trunkA ls2 vsB, .string (bs [120, 47])] w' fun e w3 => ∃ u, e = .returned (.tuple #[u, .int .i64 0]) ∧ Below w'.heap.size w' w3 ∧ w3.ownsRow w'.heap.size ST 1 u [[49], [50]].length (strs [[49], [50]]) := fun h h' => by
    have := span_Names ls2 vsB fsB [120, 47] _ h h'
    rwa [namesB, errB1] at this
  refine at_callrow2 (f := 17) (enters_fn (by kernel_rfl) rfl) (fun w ho => cN (trB (ho.glob hG id) (hT2.move ho.base (fun _ _ h => h.elim))) (ho.maxl hM id)) rfl rfl (fun n => ?_)
  refine at_do (does_move rfl) rfl rfl ?_
  refine at_do (does_extract rfl rfl) rfl rfl ?_
  refine at_do (does_extract rfl rfl) rfl rfl ?_
  refine at_do (does_assign rfl) rfl rfl ?_
  refine at_do (does_assign rfl) rfl rfl ?_
  refine at_nil ?_
  refine at_then ?_
  refine at_seq ?_
  refine at_region ?_
  rotate_left
  refine at_drop (H' := [.row n ST 1 [[49], [50]].length (strs [[49], [50]]), .blk gz2 IT (itmV xQ).toArray, .blk gz1 IT (itmV xQ).toArray, .row b IT 5 [xQ, xB].length (itms [xQ, xB]), .row l IT 5 [xA, xB, xQ].length (itms [xA, xB, xQ])]) (.cons_cons _ (.cons _ (.cons_cons _ (.cons_cons _ (.cons_cons _ (.cons_cons _ (List.nil_sublist _))))))) ?_
  refine at_openrow (i := 4) rfl ?_
  rintro ⟨_, ⟨rfl, h0⟩ | ⟨gl, cl, rfl⟩⟩
  · simp at h0
  refine at_openrow (i := 3) rfl ?_
  rintro ⟨_, ⟨rfl, h0⟩ | ⟨gb, cb, rfl⟩⟩
  · simp at h0
  refine at_openrow (i := 0) rfl ?_
  rintro ⟨_, ⟨rfl, h0⟩ | ⟨gn, cn, rfl⟩⟩
  · simp at h0
  have i1 : 1 < [xA, xB, xQ].length := by decide
  have i2 : 0 < [xQ, xB].length := by decide
  have i3 : 0 < ([[49], [50]] : List (List UInt8)).length := by decide
  have i4 : 1 < ([[49], [50]] : List (List UInt8)).length := by decide
  refine at_do (does_move rfl) rfl rfl ?_
  refine at_do (does_rowlen (i := 4) (by kernel_rfl) rfl rfl) rfl rfl ?_
  refine at_do (does_eql rfl rfl) rfl rfl ?_
  refine at_do (does_move rfl) rfl rfl ?_
  refine at_know (t := 62) (d := true) rfl (decide_eq_true (by decide)) ?_
  refine at_on rfl rfl ?_
  refine at_do (does_move rfl) rfl rfl ?_
  refine at_on rfl rfl ?_
  refine at_do (does_indexAddrk (k := 5) (j := 1) (by kernel_rfl) rfl rfl i1) rfl rfl ?_
  refine at_on rfl rfl ?_
  refine at_do (does_fieldAddr (o := 0) (by kernel_rfl) rfl) rfl rfl ?_
  refine at_on rfl rfl ?_
  refine at_do (does_load_mem (by kernel_rfl) rfl (fun w' ho => (row_itm (ho.rowAt (i := 4) rfl) i1).key)) rfl rfl ?_
  refine at_on rfl rfl ?_
  refine at_do (does_seql rfl rfl) rfl rfl ?_
  refine at_do (does_pick_true rfl rfl) rfl rfl ?_
  refine at_do (does_move rfl) rfl rfl ?_
  refine at_know (t := 69) (d := true) rfl (decide_eq_true (by rfl)) ?_
  refine at_on rfl rfl ?_
  refine at_do (does_move rfl) rfl rfl ?_
  refine at_on rfl rfl ?_
  refine at_do (does_eql rfl rfl) rfl rfl ?_
  refine at_do (does_pick_true rfl rfl) rfl rfl ?_
  refine at_do (does_move rfl) rfl rfl ?_
  refine at_know (t := 73) (d := true) rfl (decide_eq_true (by decide)) ?_
  refine at_on rfl rfl ?_
  refine at_do (does_move rfl) rfl rfl ?_
  refine at_on rfl rfl ?_
  refine at_do (does_rowlen (i := 3) (by kernel_rfl) rfl rfl) rfl rfl ?_
  refine at_on rfl rfl ?_
  refine at_do (does_eql rfl rfl) rfl rfl ?_
  refine at_do (does_pick_true rfl rfl) rfl rfl ?_
  refine at_do (does_move rfl) rfl rfl ?_
  refine at_know (t := 78) (d := true) rfl (decide_eq_true (by decide)) ?_
  refine at_on rfl rfl ?_
  refine at_do (does_move rfl) rfl rfl ?_
  refine at_on rfl rfl ?_
  refine at_do (does_indexAddrk (k := 5) (j := 0) (by kernel_rfl) rfl rfl i2) rfl rfl ?_
  refine at_on rfl rfl ?_
  refine at_do (does_fieldAddr (o := 0) (by kernel_rfl) rfl) rfl rfl ?_
  refine at_on rfl rfl ?_
  refine at_do (does_load_mem (by kernel_rfl) rfl (fun w' ho => (row_itm (ho.rowAt (i := 3) rfl) i2).key)) rfl rfl ?_
  refine at_on rfl rfl ?_
  refine at_do (does_seql rfl rfl) rfl rfl ?_
  refine at_do (does_pick_true rfl rfl) rfl rfl ?_
  refine at_do (does_move rfl) rfl rfl ?_
  refine at_know (t := 85) (d := true) rfl (decide_eq_true (by rfl)) ?_
  refine at_on rfl rfl ?_
  refine at_do (does_move rfl) rfl rfl ?_
  refine at_on rfl rfl ?_
  refine at_do (does_eql rfl rfl) rfl rfl ?_
  refine at_do (does_pick_true rfl rfl) rfl rfl ?_
  refine at_do (does_move rfl) rfl rfl ?_
  refine at_know (t := 89) (d := true) rfl (decide_eq_true (by decide)) ?_
  refine at_on rfl rfl ?_
  refine at_do (does_move rfl) rfl rfl ?_
  refine at_on rfl rfl ?_
  refine at_do (does_eql rfl rfl) rfl rfl ?_
  refine at_do (does_pick_true rfl rfl) rfl rfl ?_
  refine at_do (does_move rfl) rfl rfl ?_
  refine at_know (t := 93) (d := true) rfl (decide_eq_true (by decide)) ?_
  refine at_on rfl rfl ?_
  refine at_do (does_move rfl) rfl rfl ?_
  refine at_on rfl rfl ?_
  refine at_do (does_eql rfl rfl) rfl rfl ?_
  refine at_do (does_pick_true rfl rfl) rfl rfl ?_
  refine at_do (does_move rfl) rfl rfl ?_
  refine at_know (t := 97) (d := true) rfl (decide_eq_true (by decide)) ?_
  refine at_on rfl rfl ?_
  refine at_do (does_fieldAddr (o := 0) (by kernel_rfl) rfl) rfl rfl ?_
  refine at_on rfl rfl ?_
  refine at_do (does_load (i := 2) (by kernel_rfl) rfl rfl rfl) rfl rfl ?_
  refine at_on rfl rfl ?_
  refine at_do (does_seql rfl rfl) rfl rfl ?_
  refine at_do (does_pick_true rfl rfl) rfl rfl ?_
  refine at_do (does_move rfl) rfl rfl ?_
  refine at_know (t := 102) (d := true) rfl (decide_eq_true (by decide)) ?_
  refine at_on rfl rfl ?_
  refine at_do (does_move rfl) rfl rfl ?_
  refine at_on rfl rfl ?_
  refine at_do (does_eql rfl rfl) rfl rfl ?_
  refine at_do (does_pick_true rfl rfl) rfl rfl ?_
  refine at_do (does_move rfl) rfl rfl ?_
  refine at_know (t := 106) (d := true) rfl (decide_eq_true (by decide)) ?_
  refine at_on rfl rfl ?_
  refine at_do (does_fieldAddr (o := 0) (by kernel_rfl) rfl) rfl rfl ?_
  refine at_on rfl rfl ?_
  refine at_do (does_load (i := 1) (by kernel_rfl) rfl rfl rfl) rfl rfl ?_
  refine at_on rfl rfl ?_
  refine at_do (does_seql rfl rfl) rfl rfl ?_
  refine at_do (does_pick_true rfl rfl) rfl rfl ?_
  refine at_do (does_move rfl) rfl rfl ?_
  refine at_know (t := 111) (d := true) rfl (decide_eq_true (by decide)) ?_
  refine at_on rfl rfl ?_
  refine at_do (does_move rfl) rfl rfl ?_
  refine at_on rfl rfl ?_
  refine at_do (does_eql rfl rfl) rfl rfl ?_
  refine at_do (does_pick_true rfl rfl) rfl rfl ?_
  refine at_do (does_move rfl) rfl rfl ?_
  refine at_know (t := 115) (d := true) rfl (decide_eq_true (by decide)) ?_
  refine at_on rfl rfl ?_
  refine at_do (does_move rfl) rfl rfl ?_
  refine at_on rfl rfl ?_
  refine at_do (does_rowlen (i := 0) (by kernel_rfl) rfl rfl) rfl rfl ?_
  refine at_on rfl rfl ?_
  refine at_do (does_eql rfl rfl) rfl rfl ?_
  refine at_do (does_pick_true rfl rfl) rfl rfl ?_
  refine at_do (does_move rfl) rfl rfl ?_
  refine at_know (t := 120) (d := true) rfl (decide_eq_true (by decide)) ?_
  refine at_on rfl rfl ?_
  refine at_do (does_move rfl) rfl rfl ?_
  refine at_on rfl rfl ?_
  refine at_do (does_indexAddr1 (j := 0) (by kernel_rfl) rfl rfl i3) rfl rfl ?_
  refine at_on rfl rfl ?_
  refine at_do (does_rowload (i := 0) (j := 0 + 0) (by kernel_rfl) rfl rfl (by decide) rfl) rfl rfl ?_
  refine at_on rfl rfl ?_
  refine at_do (does_seql rfl rfl) rfl rfl ?_
  refine at_do (does_pick_true rfl rfl) rfl rfl ?_
  refine at_do (does_move rfl) rfl rfl ?_
  refine at_know (t := 126) (d := true) rfl (decide_eq_true (by decide)) ?_
  refine at_on rfl rfl ?_
  refine at_do (does_move rfl) rfl rfl ?_
  refine at_on rfl rfl ?_
  refine at_do (does_indexAddr1 (j := 1) (by kernel_rfl) rfl rfl i4) rfl rfl ?_
  refine at_on rfl rfl ?_
  refine at_do (does_rowload (i := 0) (j := 0 + 1) (by kernel_rfl) rfl rfl (by decide) rfl) rfl rfl ?_
  refine at_on rfl rfl ?_
  refine at_do (does_seql rfl rfl) rfl rfl ?_
  refine at_do (does_pick_true rfl rfl) rfl rfl ?_
  refine at_do (does_move rfl) rfl rfl ?_
  refine at_know (t := 132) (d := true) rfl (decide_eq_true (by decide)) ?_
  refine at_on rfl rfl ?_
  refine at_do (does_move rfl) rfl rfl ?_
  refine at_on rfl rfl ?_
  refine at_do (does_eql rfl rfl) rfl rfl ?_
  refine at_do (does_pick_true rfl rfl) rfl rfl ?_
  refine at_do (does_assign rfl) rfl rfl ?_
  refine at_nil ?_
  refine at_then ?_
  refine at_ret ?_
  refine at_ret1 rfl rfl rfl (fun w9 ho9 => ?_)
  rotate_left
  exact ⟨ret_bool rfl, ho9.plain⟩
end Go.Proofs.YtjpfebgpcokenaaDoor
