/-
  The items under any pattern, and the names behind it, are the document's. No condition of its own.
-/
import Derived.Test.YtjpfebgpcokenaaDoorSpan36
set_option linter.unusedSimpArgs false
set_option linter.unusedVariables false
namespace Go.Proofs.YtjpfebgpcokenaaDoor
open Go.RowKit
attribute [local irreducible] cwp lwp Exit.then Exit.inBlock Exit.noGoto wpQuiet Calls fin At AtQ Again endQ RQ
set_option maxHeartbeats 8000000 in
theorem law_SpanUnder (ls : List Value) (vr : List Int) (fs : List (List Itm)) (k : List UInt8) (w : World) (hG : Glob w) (hM : Maxl w) (hI : TrunkIn w ls vr fs) :
    Calls Tryd.prog 5 #[trunkA ls vr, .string (bs k)] w fun e w' => e = .returned (.bool true) ∧ Below w.heap.size w w' := by
  have hT := hI.t
  have hvs := hI.l
  have h32 := trunk_size hT.l1 hvs
  refine calls_plain Tryd.func5 rfl Tryd.ntmps5 rfl ?_
  refine at_seq ?_
  refine at_region ?_
  refine at_boxagg rfl rfl fun gz0 => ?_
  refine at_do (does_assign rfl) rfl rfl ?_
  refine at_nil ?_
  refine at_then ?_
  refine at_seq ?_
  refine at_region ?_
  refine at_do (does_loadagg (i := 0) (k := 32) (by kernel_rfl) rfl rfl h32) rfl rfl ?_
  refine at_callk (f := 7) (Φ := PutV Nof vr (cutT fs)) (enters_fn (by kernel_rfl) rfl) (fun w ho => law_few ls vr fs w (hT.keep ho.plain) hvs hI.n) rfl rfl (fun v w1 hw1 hv => ?_)
  rotate_left
  obtain ⟨gT, rfl⟩ : ∃ g, g = gz0 := ⟨_, rfl⟩
  obtain ⟨ls', rfl, hT0⟩ := hv
  have hT1 := hT0.apart2 (show w1.heap[gT]? = some (.cells (trunkC ls vr) TT) from hw1.ok _ (List.mem_cons_self ..)) (trunk_noStr (vs := vr) hT)
  have h32' : (trunkC ls' vr).size = 32 := trunk_size hT0.l1 hvs
  have hall := trunk_one (vs := vr) hT0
  have hl16 : (cutT fs).length = 16 := by rw [cut_len]; exact hT.l2
  have hS := cut_small (fs := fs)
  have hk60 := take60 k
  have cT : ∀ {w'}, Frm w1 (fun k => k = gT) w' → Glob w' → Tr w' ls' vr (cutT fs) := fun hf hg => ⟨hg, hT1.move (hf.mono fun k _ hk => .inr hk) (fun _ _ h => h.elim), hvs, hS⟩
  have cK : ∀ w', Calls Tryd.prog 8 #[.string (bs k)] w' fun e w3 => e = .returned (.string (bs (k.take 60))) ∧ Below w'.heap.size w' w3 := fun w' => short11 k w'
  generalize cutT fs = fc at *
  generalize k.take 60 = k' at *
  have cU : ∀ {w'}, Tr w' ls' vr fc → Calls Tryd.prog 16 #[trunkA ls' vr, .string (bs k')] w' fun e w3 => ∃ u, e = .returned (.tuple #[u, .int .i64 (errW fc vr k' k')]) ∧ Below w'.heap.size w' w3 ∧ w3.ownsRow w'.heap.size IT 5 u (underR fc vr k').length (itms (underR fc vr k')) := fun h => span_Under ls' vr fc k' _ h
  have cN : ∀ {w'}, Tr w' ls' vr fc → Maxl w' → Calls Tryd.prog 17 #[trunkA ls' vr, .string (bs k')] w' fun e w3 => ∃ u, e = .returned (.tuple #[u, .int .i64 (errW fc vr k' k')]) ∧ Below w'.heap.size w' w3 ∧ w3.ownsRow w'.heap.size ST 1 u (namesR k' (underR fc vr k')).length (strs (namesR k' (underR fc vr k'))) := fun h h' => span_Names ls' vr fc k' _ h h'
  have cW : ∀ {w'}, Tr w' ls' vr fc → Calls Tryd.prog 10 #[trunkA ls' vr, .string (bs k'), .string (bs k')] w' fun e w3 => e = .returned (.int .i64 (errW fc vr k' k')) ∧ Below w'.heap.size w' w3 := fun h => law_wrong ls' vr fc k' k' _ h.t hvs hS (by omega) (by omega)
  have cA : ∀ {w'}, Tr w' ls' vr fc → Calls Tryd.prog 18 #[trunkA ls' vr] w' fun e w3 => ∃ u, e = .returned u ∧ Below w'.heap.size w' w3 ∧ w3.ownsRow w'.heap.size IT 5 u (allI fc.flatten).length (itms (allI fc.flatten)) := fun h => ref_All ls' vr fc _ h.t hvs hS
  have cO : ∀ {w'}, Tr w' ls' vr fc → Calls Tryd.prog 20 #[trunkA ls' vr, .string (bs k')] w' fun e w3 => ∃ u, e = .returned u ∧ Below w'.heap.size w' w3 ∧ w3.ownsRow w'.heap.size ST 1 u (namesR k' ((allI fc.flatten).filter fun x => beg x.key k')).length (strs (namesR k' ((allI fc.flatten).filter fun x => beg x.key k'))) := fun h => ref_Names ls' vr fc k' _ h.t hvs hS
  by_cases he : errW fc vr k' k' = 0
  · have hal := (may_all (err_zero he).1 hl16).2.1
    rw [under_whole he hl16, he] at cU cN
    rw [he] at cW
    generalize allI fc.flatten = al at *
    obtain ⟨U, hU⟩ : ∃ U, U = al.filter fun x => beg x.key k' := ⟨_, rfl⟩
    have hUl : U.length ≤ 1024 := by rw [hU]; exact Nat.le_trans (List.length_filter_le _ _) hal
    rw [← hU] at cU cN cO
    refine at_do (does_move rfl) rfl rfl ?_
    refine at_callv (f := 8) (enters_fn (by kernel_rfl) rfl) (fun w ho => cK w) rfl rfl ?_
    refine at_storeagg (i := 0) (h := gT) (cs := trunkC ls vr) (vs := trunkC ls' vr) (by rw [h32']; kernel_rfl) rfl rfl hall rfl (by rw [h32, h32']) ?_
    refine at_do (does_assign rfl) rfl rfl ?_
    refine at_nil ?_
    refine at_then ?_
    refine at_seq ?_
    refine at_region ?_
    refine at_do (does_loadagg (i := 0) (k := 32) (by kernel_rfl) rfl rfl h32') rfl rfl ?_
    refine at_do (does_move rfl) rfl rfl ?_
    refine at_callrow2 (f := 16) (enters_fn (by kernel_rfl) rfl) (fun w ho => cU (cT (ho.base.mono fun k _ hk => by simpa [bls, Res.blocks, Ctx.re] using hk) (ho.glob hG id))) rfl rfl (fun l => ?_)
    refine at_do (does_move rfl) rfl rfl ?_
    refine at_do (does_extract rfl rfl) rfl rfl ?_
    refine at_do (does_extract rfl rfl) rfl rfl ?_
    refine at_do (does_assign rfl) rfl rfl ?_
    refine at_do (does_assign rfl) rfl rfl ?_
    refine at_nil ?_
    refine at_then ?_
    refine at_seq ?_
    refine at_region ?_
    refine at_do (does_loadagg (i := 1) (k := 32) (by kernel_rfl) rfl rfl h32') rfl rfl ?_
    refine at_do (does_move rfl) rfl rfl ?_
    refine at_callrow2 (f := 17) (enters_fn (by kernel_rfl) rfl) (fun w ho => cN (cT (ho.base.mono fun k _ hk => by simpa [bls, Res.blocks, Ctx.re] using hk) (ho.glob hG id)) (ho.maxl hM id)) rfl rfl (fun n => ?_)
    refine at_do (does_move rfl) rfl rfl ?_
    refine at_do (does_extract rfl rfl) rfl rfl ?_
    refine at_do (does_extract rfl rfl) rfl rfl ?_
    refine at_do (does_assign rfl) rfl rfl ?_
    refine at_do (does_assign rfl) rfl rfl ?_
    refine at_nil ?_
    refine at_then ?_
    refine at_seq ?_
    refine at_seq ?_
    refine at_region ?_
    refine at_do (does_loadagg (i := 2) (k := 32) (by kernel_rfl) rfl rfl h32') rfl rfl ?_
    refine at_do (does_move rfl) rfl rfl ?_
    refine at_do (does_move rfl) rfl rfl ?_
    refine at_callv (f := 10) (enters_fn (by kernel_rfl) rfl) (fun w ho => cW (cT (ho.base.mono fun k _ hk => by simpa [bls, Res.blocks, Ctx.re] using hk) (ho.glob hG id))) rfl rfl ?_
    refine at_do (does_assign rfl) rfl rfl ?_
    refine at_nil ?_
    refine at_then ?_
    refine at_seq ?_
    refine at_region ?_
    refine at_do (does_move rfl) rfl rfl ?_
    refine at_do (does_neq rfl rfl) rfl rfl ?_
    refine at_nil ?_
    refine at_then ?_
    refine at_cond_f rfl (decide_eq_false (by decide)) ?_
    refine at_skip ?_
    refine at_then ?_
    refine at_seq ?_
    refine at_region ?_
    refine at_do (does_assign rfl) rfl rfl ?_
    refine at_nil ?_
    refine at_then ?_
    refine at_seq ?_
    refine at_region ?_
    refine at_do (does_loadagg (i := 2) (k := 32) (by kernel_rfl) rfl rfl h32') rfl rfl ?_
    refine at_callrow (f := 18) (enters_fn (by kernel_rfl) rfl) (fun w ho => cA (cT (ho.base.mono fun k _ hk => by simpa [bls, Res.blocks, Ctx.re] using hk) (ho.glob hG id))) rfl rfl (fun v => ?_)
    refine at_do (does_assign rfl) rfl rfl ?_
    refine at_nil ?_
    refine at_then ?_
    refine at_seq ?_
    refine at_seq ?_
    refine at_region ?_
    refine at_do (does_assign rfl) rfl rfl ?_
    refine at_nil ?_
    refine at_then ?_
    refine at_block ?_
    rotate_left
    refine at_loopH (σ := Value × Nat) (fun s => s.2 ≤ al.length) (fun s => [(1, .string (bs k')), (2, .pointer (some ⟨gT, 0, none⟩)), (5, l), (6, .int .i64 0), (7, n), (8, .int .i64 0), (10, s.1), (11, v), (12, .int .i64 s.2)]) (fun s => [.row s.1 IT 5 ((al.take s.2).filter fun x => beg x.key k').length (itms ((al.take s.2).filter fun x => beg x.key k')), .row v IT 5 al.length (itms al), .row n ST 1 (namesR k' U).length (strs (namesR k' U)), .row l IT 5 U.length (itms U), .blk gT TT (trunkC ls' vr)]) (fun s => al.length - s.2)
      (fun w ho => ⟨(.slice none 0 0, 0), Nat.zero_le _, ⟨rfl, rfl, rfl, rfl, rfl, rfl, rfl, rfl, rfl, trivial⟩, by
        have h1 : Own _ [.row v IT 5 al.length (itms al), .row n ST 1 (namesR k' U).length (strs (namesR k' U)), .row l IT 5 U.length (itms U), .blk gT TT (trunkC ls' vr)] w := ho
        exact h1.nilrow IT 5⟩) ?_
    rintro ⟨u, i⟩ hi
    simp only at hi
    by_cases hil : i < al.length
    · refine at_openrow (i := 1) rfl ?_
      rintro ⟨_, ⟨rfl, h0⟩ | ⟨gb, c, rfl⟩⟩
      · omega
      · have hft := filt_take (p := fun x => beg x.key k') hil
        have hfl := filt_len (p := fun x => beg x.key k') (xs := al) i
        cases hf : beg al[i].key k'
        · have hft : (al.take (i + 1)).filter (fun x => beg x.key k') = (al.take i).filter (fun x => beg x.key k') := by rw [hft, hf]; simp
          refine at_seq ?_
          refine at_seq ?_
          refine at_region ?_
          refine at_do (does_move rfl) rfl rfl ?_
          refine at_do (does_move rfl) rfl rfl ?_
          refine at_do (does_rowlen (i := 1) (by kernel_rfl) rfl rfl) rfl rfl ?_
          refine at_do (does_lss rfl rfl) rfl rfl ?_
          refine at_nil ?_
          refine at_then ?_
          refine at_cond_t rfl (decide_eq_true (by omega)) ?_
          refine at_skip ?_
          refine at_then ?_
          refine at_seq ?_
          refine at_block ?_
          refine at_seq ?_
          refine at_region ?_
          refine at_do (does_move rfl) rfl rfl ?_
          refine at_do (does_move rfl) rfl rfl ?_
          refine at_do (does_indexAddrk (k := 5) (j := i) (by kernel_rfl) rfl rfl hil) rfl rfl ?_
          refine at_do (does_fieldAddr (o := 0) (by kernel_rfl) rfl) rfl rfl ?_
          refine at_do (does_load_mem (by kernel_rfl) rfl (fun w' ho => (row_itm (ho.rowAt (i := 1) rfl) hil).key)) rfl rfl ?_
          refine at_do (does_move rfl) rfl rfl ?_
          refine at_callv (f := 19) (enters_fn (by kernel_rfl) rfl) (fun w ho => ref_Begins _ _ w) rfl rfl ?_
          refine at_nil ?_
          refine at_then ?_
          refine at_cond_f rfl (by exact hf) ?_
          refine at_skip ?_
          refine at_inb ?_
          refine at_then ?_
          refine at_region ?_
          refine at_do (does_move rfl) rfl rfl ?_
          refine at_do (does_addi rfl rfl (by (first | omega | (simp only; omega)))) rfl rfl ?_
          refine at_do (does_assign rfl) rfl rfl ?_
          refine at_nil ?_
          refine at_then ?_
          rotate_left
          refine at_againw fun w ho => ⟨(u, i + 1), by show i + 1 ≤ al.length; omega, by show al.length - (i + 1) < al.length - i; omega, ⟨rfl, rfl, rfl, rfl, rfl, rfl, rfl, rfl, rfl, trivial⟩, rfl, ?_⟩
          show Own _ [.row u IT 5 ((al.take (i + 1)).filter fun x => beg x.key k').length (itms ((al.take (i + 1)).filter fun x => beg x.key k')), .row _ IT 5 al.length (itms al), .row n ST 1 (namesR k' U).length (strs (namesR k' U)), .row l IT 5 U.length (itms U), .blk gT TT (trunkC ls' vr)] w
          rw [hft]
          exact ho
        · have hft : (al.take (i + 1)).filter (fun x => beg x.key k') = (al.take i).filter (fun x => beg x.key k') ++ [al[i]] := by rw [hft, hf]; simp
          refine at_seq ?_
          refine at_seq ?_
          refine at_region ?_
          refine at_do (does_move rfl) rfl rfl ?_
          refine at_do (does_move rfl) rfl rfl ?_
          refine at_do (does_rowlen (i := 1) (by kernel_rfl) rfl rfl) rfl rfl ?_
          refine at_do (does_lss rfl rfl) rfl rfl ?_
          refine at_nil ?_
          refine at_then ?_
          refine at_cond_t rfl (decide_eq_true (by omega)) ?_
          refine at_skip ?_
          refine at_then ?_
          refine at_seq ?_
          refine at_block ?_
          refine at_seq ?_
          refine at_region ?_
          refine at_do (does_move rfl) rfl rfl ?_
          refine at_do (does_move rfl) rfl rfl ?_
          refine at_do (does_indexAddrk (k := 5) (j := i) (by kernel_rfl) rfl rfl hil) rfl rfl ?_
          refine at_do (does_fieldAddr (o := 0) (by kernel_rfl) rfl) rfl rfl ?_
          refine at_do (does_load_mem (by kernel_rfl) rfl (fun w' ho => (row_itm (ho.rowAt (i := 1) rfl) hil).key)) rfl rfl ?_
          refine at_do (does_move rfl) rfl rfl ?_
          refine at_callv (f := 19) (enters_fn (by kernel_rfl) rfl) (fun w ho => ref_Begins _ _ w) rfl rfl ?_
          refine at_nil ?_
          refine at_then ?_
          refine at_cond_t rfl (by exact hf) ?_
          refine at_region ?_
          refine at_do (does_move rfl) rfl rfl ?_
          refine at_do (does_move rfl) rfl rfl ?_
          refine at_do (does_move rfl) rfl rfl ?_
          refine at_do (does_indexAddrk (k := 5) (j := i) (by kernel_rfl) rfl rfl hil) rfl rfl ?_
          refine at_do (does_loadagg_mem (vs := itmV al[i]) (by kernel_rfl) rfl (fun w' ho => (row_itm (ho.rowAt (i := 1) rfl) hil).agg)) rfl rfl ?_
          refine at_buildSlice (e := IT) (sz := 5) (vs := [itmA al[i]]) (cs := itmV al[i]) (by kernel_rfl) rfl rfl rfl rfl rfl rfl (fun hl => ?_)
          refine at_append (i := 1) (e := IT) (sz := 5) (by' := 56) (m := ((al.take i).filter fun x => beg x.key k').length) (k := 1) (news := itmV al[i]) (by kernel_rfl) rfl rfl rfl rfl (fun w ho => lit_cells ho (i := 0) rfl) (itmV_one al[i]) (by simp only [maxLen]; omega) rfl (fun v4 hv4 => ?_)
          refine at_do (does_assign rfl) rfl rfl ?_
          refine at_nil ?_
          refine at_inb ?_
          refine at_then ?_
          refine at_region ?_
          refine at_do (does_move rfl) rfl rfl ?_
          refine at_do (does_addi rfl rfl (by (first | omega | (simp only; omega)))) rfl rfl ?_
          refine at_do (does_assign rfl) rfl rfl ?_
          refine at_nil ?_
          refine at_then ?_
          rotate_left
          refine at_againw fun w ho => ⟨(v4, i + 1), by show i + 1 ≤ al.length; omega, by show al.length - (i + 1) < al.length - i; omega, ⟨rfl, rfl, rfl, rfl, rfl, rfl, rfl, rfl, rfl, trivial⟩, rfl, ?_⟩
          show Own _ [.row v4 IT 5 ((al.take (i + 1)).filter fun x => beg x.key k').length (itms ((al.take (i + 1)).filter fun x => beg x.key k')), .row _ IT 5 al.length (itms al), .row n ST 1 (namesR k' U).length (strs (namesR k' U)), .row l IT 5 U.length (itms U), .blk gT TT (trunkC ls' vr)] w
          rw [hft, itms_snoc, List.length_append]
          exact ho.sublist (List.sublist_cons_self ..)
    · obtain rfl : i = al.length := by omega
      have e0 : (al.take al.length).filter (fun x => beg x.key k') = U := by rw [List.take_length, hU]
      simp only [e0]
      have cS : ∀ {w'}, ItemsAt w' l U → ItemsAt w' u U → Calls Tryd.prog 21 #[l, u] w' fun e w3 => e = .returned (.bool true) ∧ Below w'.heap.size w' w3 := fun h1 h2 => by
        have := ref_Same l u U U _ h1 h2 (by omega)
        rwa [decide_eq_true rfl] at this
      refine at_seq ?_
      refine at_seq ?_
      refine at_region ?_
      refine at_do (does_move rfl) rfl rfl ?_
      refine at_do (does_move rfl) rfl rfl ?_
      refine at_do (does_rowlen (i := 1) (by kernel_rfl) rfl rfl) rfl rfl ?_
      refine at_do (does_lss rfl rfl) rfl rfl ?_
      refine at_nil ?_
      refine at_then ?_
      refine at_cond_f rfl (decide_eq_false (by omega)) ?_
      refine at_exit ?_
      refine at_then_exit ?_
      refine at_then_exit ?_
      refine at_inb_here ?_
      refine at_then ?_
      refine at_seq ?_
      refine at_region ?_
      refine at_do (does_loadagg (i := 4) (k := 32) (by kernel_rfl) rfl rfl h32') rfl rfl ?_
      refine at_do (does_move rfl) rfl rfl ?_
      refine at_callrow (f := 20) (enters_fn (by kernel_rfl) rfl) (fun w ho => cO (cT (ho.base.mono fun k _ hk => by simpa [bls, Res.blocks, Ctx.re] using hk) (ho.glob hG id))) rfl rfl (fun own => ?_)
      refine at_do (does_assign rfl) rfl rfl ?_
      refine at_nil ?_
      refine at_then ?_
      refine at_seq ?_
      refine at_seq ?_
      refine at_region ?_
      refine at_do (does_move rfl) rfl rfl ?_
      refine at_do (does_move rfl) rfl rfl ?_
      refine at_callv (f := 21) (enters_fn (by kernel_rfl) rfl) (fun w ho => cS (items_of_row (ho.rowAt (i := 4) rfl)) (items_of_row (ho.rowAt (i := 1) rfl))) rfl rfl ?_
      refine at_do (does_not rfl) rfl rfl ?_
      refine at_do (does_move rfl) rfl rfl ?_
      refine at_know (t := 87) (d := false) rfl (by rfl) ?_
      refine at_on rfl rfl ?_
      refine at_do (does_move rfl) rfl rfl ?_
      refine at_on rfl rfl ?_
      refine at_do (does_neq rfl rfl) rfl rfl ?_
      refine at_do (does_pick_false rfl rfl) rfl rfl ?_
      refine at_do (does_move rfl) rfl rfl ?_
      refine at_know (t := 91) (d := false) rfl (decide_eq_false (by decide)) ?_
      refine at_on rfl rfl ?_
      refine at_do (does_move rfl) rfl rfl ?_
      refine at_on rfl rfl ?_
      refine at_do (does_rowlen (i := 3) (by kernel_rfl) rfl rfl) rfl rfl ?_
      refine at_on rfl rfl ?_
      refine at_do (does_move rfl) rfl rfl ?_
      refine at_on rfl rfl ?_
      refine at_do (does_rowlen (i := 0) (by kernel_rfl) rfl rfl) rfl rfl ?_
      refine at_on rfl rfl ?_
      refine at_do (does_neq rfl rfl) rfl rfl ?_
      refine at_do (does_pick_false rfl rfl) rfl rfl ?_
      refine at_do (does_move rfl) rfl rfl ?_
      refine at_know (t := 98) (d := false) rfl (decide_eq_false (by omega)) ?_
      refine at_on rfl rfl ?_
      refine at_do (does_move rfl) rfl rfl ?_
      refine at_on rfl rfl ?_
      refine at_do (does_neq rfl rfl) rfl rfl ?_
      refine at_do (does_pick_false rfl rfl) rfl rfl ?_
      refine at_nil ?_
      refine at_then ?_
      refine at_cond_f rfl (decide_eq_false (by decide)) ?_
      refine at_skip ?_
      refine at_then ?_
      refine at_seq ?_
      refine at_seq ?_
      refine at_region ?_
      refine at_do (does_assign rfl) rfl rfl ?_
      refine at_nil ?_
      refine at_then ?_
      refine at_block ?_
      rotate_left
      obtain ⟨N, hN⟩ : ∃ N, N = namesR k' U := ⟨_, rfl⟩
      rw [← hN]
      have hNl : N.length ≤ 100000 := by
        have := names_len (U.map (nmI k')) []
        simp only [List.length_nil, List.length_map] at this
        rw [hN, namesR]; omega
      refine at_loopH (σ := Nat) (fun j => j ≤ N.length) (fun j => [(7, n), (13, own), (14, .int .i64 j)]) (fun _ => [.row own ST 1 N.length (strs N), .row n ST 1 N.length (strs N)]) (fun j => N.length - j)
        (fun w ho => ⟨0, Nat.zero_le _, ⟨rfl, rfl, rfl, trivial⟩, ho.sublist (.cons_cons _ (.cons _ (.cons _ (.cons_cons _ (List.nil_sublist _)))))⟩) ?_
      intro j hj
      by_cases hjl : j < N.length
      · refine at_openrow (i := 0) rfl ?_
        rintro ⟨_, ⟨rfl, h0⟩ | ⟨g1, c1, rfl⟩⟩
        · omega
        refine at_openrow (i := 1) rfl ?_
        rintro ⟨_, ⟨rfl, h0⟩ | ⟨g2, c2, rfl⟩⟩
        · omega
        have hs := strs_get hjl
        refine at_seq ?_
        refine at_seq ?_
        refine at_region ?_
        refine at_do (does_move rfl) rfl rfl ?_
        refine at_do (does_move rfl) rfl rfl ?_
        refine at_do (does_rowlen (i := 0) (by kernel_rfl) rfl rfl) rfl rfl ?_
        refine at_do (does_lss rfl rfl) rfl rfl ?_
        refine at_nil ?_
        refine at_then ?_
        refine at_cond_t rfl (decide_eq_true (by omega)) ?_
        refine at_skip ?_
        refine at_then ?_
        refine at_seq ?_
        refine at_block ?_
        refine at_seq ?_
        refine at_draw (by kernel_rfl) (by kernel_rfl) ?_
        refine atq_do (does_move rfl) rfl rfl ?_
        refine atq_do (does_move rfl) rfl rfl ?_
        refine atq_do (does_indexAddr1 (j := j) (by kernel_rfl) rfl rfl hjl) rfl rfl ?_
        refine atq_do (does_rowload (i := 1) (j := 0 + j) (by kernel_rfl) rfl rfl (by omega) (by rw [Nat.zero_add]; exact hs)) rfl rfl ?_
        refine atq_do (does_move rfl) rfl rfl ?_
        refine atq_do (does_move rfl) rfl rfl ?_
        refine atq_do (does_indexAddr1 (j := j) (by kernel_rfl) rfl rfl hjl) rfl rfl ?_
        refine atq_do (does_rowload (i := 0) (j := 0 + j) (by kernel_rfl) rfl rfl (by omega) (by rw [Nat.zero_add]; exact hs)) rfl rfl ?_
        refine atq_do (does_sneq rfl rfl) rfl rfl ?_
        refine atq_nil ?_
        refine at_then ?_
        refine at_cond_f rfl (decide_eq_false (by simp)) ?_
        refine at_skip ?_
        refine at_inb ?_
        refine at_then ?_
        refine at_region ?_
        refine at_do (does_move rfl) rfl rfl ?_
        refine at_do (does_addi rfl rfl (by omega)) rfl rfl ?_
        refine at_do (does_assign rfl) rfl rfl ?_
        refine at_nil ?_
        refine at_then ?_
        rotate_left
        refine at_againw fun w ho => ⟨j + 1, by show j + 1 ≤ N.length; omega, by show N.length - (j + 1) < N.length - j; omega, ⟨rfl, rfl, rfl, trivial⟩, rfl, ho⟩
      · obtain rfl : j = N.length := by omega
        refine at_seq ?_
        refine at_seq ?_
        refine at_region ?_
        refine at_do (does_move rfl) rfl rfl ?_
        refine at_do (does_move rfl) rfl rfl ?_
        refine at_do (does_rowlen (i := 0) (by kernel_rfl) rfl rfl) rfl rfl ?_
        refine at_do (does_lss rfl rfl) rfl rfl ?_
        refine at_nil ?_
        refine at_then ?_
        refine at_cond_f rfl (decide_eq_false (by omega)) ?_
        refine at_exit ?_
        refine at_then_exit ?_
        refine at_then_exit ?_
        refine at_inb_here ?_
        refine at_then ?_
        refine at_seq ?_
        refine at_region ?_
        refine at_callv (f := 11) (enters_fn (by kernel_rfl) rfl) (fun w ho => law_awake w (ho.glob hG id) (ho.maxl hM id)) rfl rfl ?_
        refine at_do (does_assign rfl) rfl rfl ?_
        refine at_nil ?_
        refine at_then ?_
        refine at_ret ?_
        refine at_ret1 rfl rfl rfl (fun w9 ho9 => ?_)
        rotate_left
        exact ⟨ret_bool rfl, ho9.plain⟩
  · rw [under_none he] at cU cN
    have hnn : namesR k' ([] : List Itm) = [] := rfl
    rw [hnn] at cN
    refine at_do (does_move rfl) rfl rfl ?_
    refine at_callv (f := 8) (enters_fn (by kernel_rfl) rfl) (fun w ho => cK w) rfl rfl ?_
    refine at_storeagg (i := 0) (h := gT) (cs := trunkC ls vr) (vs := trunkC ls' vr) (by rw [h32']; kernel_rfl) rfl rfl hall rfl (by rw [h32, h32']) ?_
    refine at_do (does_assign rfl) rfl rfl ?_
    refine at_nil ?_
    refine at_then ?_
    refine at_seq ?_
    refine at_region ?_
    refine at_do (does_loadagg (i := 0) (k := 32) (by kernel_rfl) rfl rfl h32') rfl rfl ?_
    refine at_do (does_move rfl) rfl rfl ?_
    refine at_callrow2 (f := 16) (enters_fn (by kernel_rfl) rfl) (fun w ho => cU (cT (ho.base.mono fun k _ hk => by simpa [bls, Res.blocks, Ctx.re] using hk) (ho.glob hG id))) rfl rfl (fun l => ?_)
    refine at_do (does_move rfl) rfl rfl ?_
    refine at_do (does_extract rfl rfl) rfl rfl ?_
    refine at_do (does_extract rfl rfl) rfl rfl ?_
    refine at_do (does_assign rfl) rfl rfl ?_
    refine at_do (does_assign rfl) rfl rfl ?_
    refine at_nil ?_
    refine at_then ?_
    refine at_seq ?_
    refine at_region ?_
    refine at_do (does_loadagg (i := 1) (k := 32) (by kernel_rfl) rfl rfl h32') rfl rfl ?_
    refine at_do (does_move rfl) rfl rfl ?_
    refine at_callrow2 (f := 17) (enters_fn (by kernel_rfl) rfl) (fun w ho => cN (cT (ho.base.mono fun k _ hk => by simpa [bls, Res.blocks, Ctx.re] using hk) (ho.glob hG id)) (ho.maxl hM id)) rfl rfl (fun n => ?_)
    refine at_do (does_move rfl) rfl rfl ?_
    refine at_do (does_extract rfl rfl) rfl rfl ?_
    refine at_do (does_extract rfl rfl) rfl rfl ?_
    refine at_do (does_assign rfl) rfl rfl ?_
    refine at_do (does_assign rfl) rfl rfl ?_
    refine at_nil ?_
    refine at_then ?_
    refine at_seq ?_
    refine at_seq ?_
    refine at_region ?_
    refine at_do (does_loadagg (i := 2) (k := 32) (by kernel_rfl) rfl rfl h32') rfl rfl ?_
    refine at_do (does_move rfl) rfl rfl ?_
    refine at_do (does_move rfl) rfl rfl ?_
    refine at_callv (f := 10) (enters_fn (by kernel_rfl) rfl) (fun w ho => cW (cT (ho.base.mono fun k _ hk => by simpa [bls, Res.blocks, Ctx.re] using hk) (ho.glob hG id))) rfl rfl ?_
    refine at_do (does_assign rfl) rfl rfl ?_
    refine at_nil ?_
    refine at_then ?_
    refine at_seq ?_
    refine at_region ?_
    refine at_do (does_move rfl) rfl rfl ?_
    refine at_do (does_neq rfl rfl) rfl rfl ?_
    refine at_nil ?_
    refine at_then ?_
    refine at_cond_t rfl (decide_eq_true (by simpa using he)) ?_
    refine at_seq ?_
    refine at_region ?_
    refine at_do (does_move rfl) rfl rfl ?_
    refine at_do (does_rowlen (i := 1) (by kernel_rfl) rfl rfl) rfl rfl ?_
    refine at_do (does_eql rfl rfl) rfl rfl ?_
    refine at_do (does_move rfl) rfl rfl ?_
    refine at_know (t := 40) (d := true) rfl (decide_eq_true (by rfl)) ?_
    refine at_on rfl rfl ?_
    refine at_do (does_move rfl) rfl rfl ?_
    refine at_on rfl rfl ?_
    refine at_do (does_rowlen (i := 0) (by kernel_rfl) rfl rfl) rfl rfl ?_
    refine at_on rfl rfl ?_
    refine at_do (does_eql rfl rfl) rfl rfl ?_
    refine at_do (does_pick_true rfl rfl) rfl rfl ?_
    refine at_do (does_move rfl) rfl rfl ?_
    refine at_know (t := 45) (d := true) rfl (decide_eq_true (by rfl)) ?_
    refine at_on rfl rfl ?_
    refine at_do (does_move rfl) rfl rfl ?_
    refine at_on rfl rfl ?_
    refine at_do (does_move rfl) rfl rfl ?_
    refine at_on rfl rfl ?_
    refine at_do (does_eql rfl rfl) rfl rfl ?_
    refine at_do (does_pick_true rfl rfl) rfl rfl ?_
    refine at_do (does_move rfl) rfl rfl ?_
    refine at_know (t := 50) (d := true) rfl (decide_eq_true (by rfl)) ?_
    refine at_on rfl rfl ?_
    refine at_do (does_move rfl) rfl rfl ?_
    refine at_on rfl rfl ?_
    refine at_do (does_move rfl) rfl rfl ?_
    refine at_on rfl rfl ?_
    refine at_do (does_eql rfl rfl) rfl rfl ?_
    refine at_do (does_pick_true rfl rfl) rfl rfl ?_
    refine at_do (does_move rfl) rfl rfl ?_
    refine at_know (t := 55) (d := true) rfl (decide_eq_true (by rfl)) ?_
    refine at_on rfl rfl ?_
    refine at_callv (f := 11) (enters_fn (by kernel_rfl) rfl) (fun w ho => law_awake w (ho.glob hG id) (ho.maxl hM id)) rfl rfl ?_
    refine at_do (does_pick_true rfl rfl) rfl rfl ?_
    refine at_do (does_assign rfl) rfl rfl ?_
    refine at_nil ?_
    refine at_then ?_
    refine at_ret ?_
    refine at_then_ret ?_
    refine at_ret1 rfl rfl rfl (fun w9 ho9 => ?_)
    rotate_left
    exact ⟨ret_bool rfl, ho9.plain⟩
end Go.Proofs.YtjpfebgpcokenaaDoor
