/-
  The items of any range, either way, and how many there are, are the document's. No condition of its own.
-/
import Derived.Test.YtjpfebgpcokenaaDoorSpan37
set_option linter.unusedSimpArgs false
set_option linter.unusedVariables false
namespace Go.Proofs.YtjpfebgpcokenaaDoor
open Go.RowKit
attribute [local irreducible] cwp lwp Exit.then Exit.inBlock Exit.noGoto wpQuiet Calls fin At AtQ Again endQ RQ
/-- A list that reads so. -/
def ListI (xs : List Itm) (v : Value) (w : World) : Prop := ItemsAt w v xs
theorem listI_stab (xs : List Itm) : (Spec.rel (ListI xs)).stab := fun v w w' h hb => ItemsAt.keep h hb
set_option maxHeartbeats 8000000 in
theorem law_SpanScans (ls : List Value) (vr : List Int) (fs : List (List Itm)) (f t : List UInt8) (m : Int) (w : World) (hG : Glob w) (hM : Maxl w) (hI : TrunkIn w ls vr fs) :
    Calls Tryd.prog 6 #[askedA ls vr f t m] w fun e w' => e = .returned (.bool true) ∧ Below w.heap.size w w' := by
  have hT := hI.t
  have hvs := hI.l
  have hl32 : (ls ++ versV vr).length = 32 := by simp [versV, hT.l1, hvs]
  have h35 := asked_size (f := f) (t := t) (m := m) hT.l1 hvs
  have hone := asked_one (vs := vr) (f := f) (t := t) (m := m) hT
  have g0 : (askedC ls vr f t m)[0 + 32]? = some (.string (bs f)) := asked_tail hT.l1 hvs 0
  have g1 : (askedC ls vr f t m)[0 + 33]? = some (.string (bs t)) := asked_tail hT.l1 hvs 1
  have g2 : (askedC ls vr f t m)[0 + 34]? = some (.int .i64 m) := asked_tail hT.l1 hvs 2
  have gt : ∀ j v, (ls ++ versV vr)[j]? = some v → (askedC ls vr f t m)[0 + 0 + j]? = some v := fun j v hj => by
    rw [Nat.add_zero, Nat.zero_add, askedC, List.getElem?_toArray, List.getElem?_append_left (List.getElem?_eq_some_iff.1 hj).1]
    exact hj
  refine calls_plain Tryd.func6 rfl Tryd.ntmps6 rfl ?_
  refine at_seq ?_
  refine at_region ?_
  refine at_boxagg rfl rfl fun gz0 => ?_
  refine at_do (does_assign rfl) rfl rfl ?_
  refine at_nil ?_
  refine at_then ?_
  refine at_seq ?_
  rotate_left
  refine at_dropblk fun w1 hq1 hq2 _ hq4 => ?_
  have h1 : w1.heap[gz0]? = some (.cells (askedC ls vr f t m) 28) := hq2
  apply at_drawR 10 [.val (.pointer (some ⟨gz0, 0 + 0, none⟩)), .val (trunkA ls vr), .rel (PutV Nof vr (cutT fs)), .val (.pointer (some ⟨gz0, 0 + 32, none⟩)), .val (.string (bs f)), .val (.string (bs (f.take 60))), .val (.pointer (some ⟨gz0, 0 + 33, none⟩)), .val (.string (bs t)), .val (.string (bs (t.take 60))), .rel (PtrN w1.heap.size TT zeroT)] (by kernel_rfl) (by kernel_rfl) rfl ⟨trivial, trivial, putV_stab _ _ _, trivial, trivial, trivial, trivial, trivial, trivial, ptrN_stab _ _ _, trivial⟩
  · refine so_cons rfl (fun vs => ?_) ?_
    exact step1_does (does_fieldAddr (o := 0) (by kernel_rfl) rfl)
    refine so_cons rfl (fun vs => ?_) ?_
    exact step1_does (does_loadagg_mem (vs := ls ++ versV vr) (by rw [hl32]; kernel_rfl) rfl (fun w' ho j v hj => by rw [add_none]; exact cellF ho h1 (not_bls_nil _) (gt j v hj)))
    refine so_cons rfl (fun vs => ?_) ?_
    exact step1_rel (f := 7) (enters_fn (by kernel_rfl) rfl) (fun w ho hx => law_few ls vr fs w (hT.keep ho.plain) hvs hI.n)
    refine so_cons rfl (fun vs => ?_) ?_
    exact step1_does (does_fieldAddr (o := 32) (by kernel_rfl) rfl)
    refine so_cons rfl (fun vs => ?_) ?_
    exact step1_does (does_load_mem (by kernel_rfl) rfl (fun w' ho => cellF ho h1 (not_bls_nil _) g0))
    refine so_cons rfl (fun vs => ?_) ?_
    exact step1_call (f := 8) (enters_fn (by kernel_rfl) rfl) (fun w ho hx => short11 f w)
    refine so_cons rfl (fun vs => ?_) ?_
    exact step1_does (does_fieldAddr (o := 33) (by kernel_rfl) rfl)
    refine so_cons rfl (fun vs => ?_) ?_
    exact step1_does (does_load_mem (by kernel_rfl) rfl (fun w' ho => cellF ho h1 (not_bls_nil _) g1))
    refine so_cons rfl (fun vs => ?_) ?_
    exact step1_call (f := 8) (enters_fn (by kernel_rfl) rfl) (fun w ho hx => short11 t w)
    refine so_cons rfl (fun vs => ?_) ?_
    exact step1_allocN Tryd.zeroValue26 rfl
    exact so_nil
  · intro vs2 w3 hw3 hp
    obtain ⟨⟨ls', e2, hT'⟩, ⟨hb, hb0, hb1, hb2⟩, _⟩ := hp
    refine at_weak (E' := [(1, .pointer (some ⟨gz0, 0, none⟩)), (16, trunkA ls' vr), (3, .pointer (some ⟨hb, 0, none⟩)), (19, .string (bs (f.take 60))), (22, .string (bs (t.take 60)))]) ⟨rfl, by rw [← e2]; rfl, by rw [← hb1]; rfl, rfl, rfl, trivial⟩ ?_
    have h3 : w3.heap[gz0]? = some (.cells (askedC ls vr f t m) 28) := (hw3.base.old gz0 hq1 (not_bls_nil _)).trans h1
    have hq0 : w1.heap.size ≤ hb := hb0
    have nF : ¬ gz0 ∈ bls [Res.blk hb TT zeroT] := fun hm => by
      have : gz0 = hb := by simpa [bls, Res.blocks] using hm
      omega
    refine at_adopt2 hw3 (fun k hk => absurd hk (not_bls_nil k)) hq4 hb0 hb2 ?_
    have h32 : (trunkC ls' vr).size = 32 := trunk_size hT'.l1 hvs
    have hall := trunk_one (vs := vr) hT'
    have hl16 : (cutT fs).length = 16 := by rw [cut_len]; exact hT.l2
    have hS := cut_small (fs := fs)
    have hN := cut_i64 hI.i
    have hf60 := take60 f
    have ht60 := take60 t
    have cT : ∀ {w'}, Frm w3 (fun k => k = hb) w' → Glob w' → Tr w' ls' vr (cutT fs) := fun hf hg => ⟨hg, (hT'.apart hb2).move (hf.mono fun k _ hk => .inr hk) (fun _ _ h => h.elim), hvs, hS⟩
    generalize cutT fs = fc at *
    generalize f.take 60 = f' at *
    generalize t.take 60 = t' at *
    have cC : ∀ {w'}, Tr w' ls' vr fc → Calls Tryd.prog 22 #[trunkA ls' vr, .string (bs f'), .string (bs t'), .int .i64 m] w' fun e w3 => ∃ u, e = .returned (.tuple #[u, .int .i64 (errW fc vr f' t')]) ∧ Below w'.heap.size w' w3 ∧ w3.ownsRow w'.heap.size IT 5 u (scanR m fc vr f' t').length (itms (scanR m fc vr f' t')) := fun h => span_scan ls' vr fc f' t' m _ h
    have cB : ∀ {w'}, Tr w' ls' vr fc → Calls Tryd.prog 23 #[trunkA ls' vr, .string (bs f'), .string (bs t'), .int .i64 m] w' fun e w3 => ∃ u, e = .returned (.tuple #[u, .int .i64 (errW fc vr f' t')]) ∧ Below w'.heap.size w' w3 ∧ w3.ownsRow w'.heap.size IT 5 u (backR m fc vr f' t').length (itms (backR m fc vr f' t')) := fun h => span_Back ls' vr fc f' t' m _ h
    have cN : ∀ {w'}, Tr w' ls' vr fc → Calls Tryd.prog 24 #[trunkA ls' vr, .string (bs f'), .string (bs t')] w' fun e w3 => e = .returned (.tuple #[.int .i64 (scanR 1024 fc vr f' t').length, .int .i64 (errW fc vr f' t')]) ∧ Below w'.heap.size w' w3 := fun h => span_Count ls' vr fc f' t' _ h
    have cW : ∀ {w'}, Tr w' ls' vr fc → Calls Tryd.prog 10 #[trunkA ls' vr, .string (bs f'), .string (bs t')] w' fun e w3 => e = .returned (.int .i64 (errW fc vr f' t')) ∧ Below w'.heap.size w' w3 := fun h => law_wrong ls' vr fc f' t' _ h.t hvs hS (by omega) (by omega)
    have cO : ∀ {w'}, Tr w' ls' vr fc → Calls Tryd.prog 13 #[trunkA ls' vr, .string (bs f'), .string (bs t')] w' fun e w3 => ∃ u, e = .returned u ∧ Below w'.heap.size w' w3 ∧ w3.ownsRow w'.heap.size IT 5 u (wholeI fc f' t').length (itms (wholeI fc f' t')) := fun h => ref_Whole ls' vr fc f' t' _ h.t hvs hS (by omega) (by omega)
    by_cases he : errW fc vr f' t' = 0
    · rw [scan_whole he hl16, he] at cC
      rw [back_whole he hl16, he] at cB
      rw [show scanR 1024 fc vr f' t' = wholeI fc f' t' from all_whole he hl16, he] at cN
      rw [he] at cW
      have hlw := whole_len he hl16
      generalize wholeI fc f' t' = W at *
      have hlr : W.reverse.length ≤ 1024 := by rw [List.length_reverse]; exact hlw
      have hl1 : (W.take m.toNat).length ≤ 1024 := by rw [List.length_take]; omega
      have hl2 : (W.reverse.take m.toNat).length ≤ 1024 := by rw [List.length_take]; omega
      refine at_storeagg (i := 0) (h := hb) (cs := zeroT) (vs := trunkC ls' vr) (by rw [h32]; kernel_rfl) rfl rfl hall rfl (by rw [h32]; rfl) ?_
      refine at_do (does_assign rfl) rfl rfl ?_
      refine at_do (does_assign rfl) rfl rfl ?_
      refine at_nil ?_
      refine at_then ?_
      refine at_seq ?_
      refine at_region ?_
      refine at_do (does_loadagg (i := 0) (k := 32) (by kernel_rfl) rfl rfl h32) rfl rfl ?_
      refine at_do (does_move rfl) rfl rfl ?_
      refine at_do (does_move rfl) rfl rfl ?_
      refine at_do (does_fieldAddr (o := 34) (by kernel_rfl) rfl) rfl rfl ?_
      refine at_do (does_load_mem (by kernel_rfl) rfl (fun w' ho => cellF ho h3 nF g2)) rfl rfl ?_
      refine at_callrow2 (f := 22) (enters_fn (by kernel_rfl) rfl) (fun w ho => cC (cT (ho.base.mono fun k _ hk => by simpa [bls, Res.blocks, Ctx.re] using hk) (ho.glob hG id))) rfl rfl (fun l => ?_)
      refine at_do (does_move rfl) rfl rfl ?_
      refine at_do (does_extract rfl rfl) rfl rfl ?_
      refine at_do (does_extract rfl rfl) rfl rfl ?_
      refine at_do (does_assign rfl) rfl rfl ?_
      refine at_do (does_assign rfl) rfl rfl ?_
      refine at_nil ?_
      refine at_then ?_
      refine at_seq ?_
      refine at_region ?_
      refine at_do (does_loadagg (i := 1) (k := 32) (by kernel_rfl) rfl rfl h32) rfl rfl ?_
      refine at_do (does_move rfl) rfl rfl ?_
      refine at_do (does_move rfl) rfl rfl ?_
      refine at_do (does_fieldAddr (o := 34) (by kernel_rfl) rfl) rfl rfl ?_
      refine at_do (does_load_mem (by kernel_rfl) rfl (fun w' ho => cellF ho h3 nF g2)) rfl rfl ?_
      refine at_callrow2 (f := 23) (enters_fn (by kernel_rfl) rfl) (fun w ho => cB (cT (ho.base.mono fun k _ hk => by simpa [bls, Res.blocks, Ctx.re] using hk) (ho.glob hG id))) rfl rfl (fun b => ?_)
      refine at_do (does_move rfl) rfl rfl ?_
      refine at_do (does_extract rfl rfl) rfl rfl ?_
      refine at_do (does_extract rfl rfl) rfl rfl ?_
      refine at_do (does_assign rfl) rfl rfl ?_
      refine at_do (does_assign rfl) rfl rfl ?_
      refine at_nil ?_
      refine at_then ?_
      refine at_seq ?_
      refine at_region ?_
      refine at_do (does_loadagg (i := 2) (k := 32) (by kernel_rfl) rfl rfl h32) rfl rfl ?_
      refine at_do (does_move rfl) rfl rfl ?_
      refine at_do (does_move rfl) rfl rfl ?_
      refine at_callv (f := 24) (enters_fn (by kernel_rfl) rfl) (fun w ho => cN (cT (ho.base.mono fun k _ hk => by simpa [bls, Res.blocks, Ctx.re] using hk) (ho.glob hG id))) rfl rfl ?_
      refine at_do (does_move rfl) rfl rfl ?_
      refine at_do (does_extract rfl rfl) rfl rfl ?_
      refine at_do (does_extract rfl rfl) rfl rfl ?_
      refine at_do (does_assign rfl) rfl rfl ?_
      refine at_do (does_assign rfl) rfl rfl ?_
      refine at_nil ?_
      refine at_then ?_
      refine at_seq ?_
      refine at_seq ?_
      refine at_region ?_
      refine at_do (does_loadagg (i := 2) (k := 32) (by kernel_rfl) rfl rfl h32) rfl rfl ?_
      refine at_do (does_move rfl) rfl rfl ?_
      refine at_do (does_move rfl) rfl rfl ?_
      refine at_callv (f := 10) (enters_fn (by kernel_rfl) rfl) (fun w ho => cW (cT (ho.base.mono fun k _ hk => by simpa [bls, Res.blocks, Ctx.re] using hk) (ho.glob hG id))) rfl rfl ?_
      refine at_do (does_assign rfl) rfl rfl ?_
      refine at_nil ?_
      refine at_then ?_
      refine at_seq ?_
      refine at_region ?_
      refine at_do (does_move rfl) rfl rfl ?_
      refine at_do (does_neq rfl rfl) rfl rfl ?_
      refine at_nil ?_
      refine at_then ?_
      refine at_cond_f rfl (decide_eq_false (by decide)) ?_
      refine at_skip ?_
      refine at_then ?_
      refine at_seq ?_
      refine at_region ?_
      refine at_do (does_loadagg (i := 2) (k := 32) (by kernel_rfl) rfl rfl h32) rfl rfl ?_
      refine at_do (does_move rfl) rfl rfl ?_
      refine at_do (does_move rfl) rfl rfl ?_
      refine at_callrow (f := 13) (enters_fn (by kernel_rfl) rfl) (fun w ho => cO (cT (ho.base.mono fun k _ hk => by simpa [bls, Res.blocks, Ctx.re] using hk) (ho.glob hG id))) rfl rfl (fun v => ?_)
      refine at_do (does_assign rfl) rfl rfl ?_
      refine at_nil ?_
      refine at_then ?_
      refine at_seq ?_
      rotate_left
      have cS : ∀ {w' u u'} {L : List Itm}, L.length ≤ 1024 → ItemsAt w' u L → ItemsAt w' u' L → Calls Tryd.prog 21 #[u, u'] w' fun e w3 => e = .returned (.bool true) ∧ Below w'.heap.size w' w3 := fun hL q1 q2 => by
        have := ref_Same _ _ _ _ _ q1 q2 (Nat.le_trans hL (by decide))
        rwa [decide_eq_true rfl] at this
      apply at_drawR0 37 (.val _ :: .val _ :: .val _ :: .val _ :: .rel (ListI (W.take m.toNat)) :: .val _ :: .val _ :: .val _ :: .val _ :: .rel (ListI W.reverse) :: .val _ :: .val _ :: .rel (ListI (W.reverse.take m.toNat)) :: .val _ :: .val _ :: .val _ :: .val _ :: .val _ :: .val _ :: .val _ :: .val _ :: .val _ :: .val _ :: .val _ :: .val _ :: .val _ :: .val _ :: .val _ :: .val _ :: .val _ :: .val _ :: .val _ :: .val _ :: .val _ :: .val _ :: .val _ :: .val _ :: []) (by kernel_rfl) (by kernel_rfl) rfl ⟨trivial, trivial, trivial, trivial, listI_stab _, trivial, trivial, trivial, trivial, listI_stab _, trivial, trivial, listI_stab _, trivial, trivial, trivial, trivial, trivial, trivial, trivial, trivial, trivial, trivial, trivial, trivial, trivial, trivial, trivial, trivial, trivial, trivial, trivial, trivial, trivial, trivial, trivial, trivial, trivial⟩
      · refine so_cons rfl (fun vs => ?_) ?_
        exact step1_does (does_move rfl)
        refine so_cons rfl (fun vs => ?_) ?_
        exact step1_does (does_move rfl)
        refine so_cons rfl (fun vs => ?_) ?_
        exact step1_does (does_fieldAddr (o := 34) (by kernel_rfl) rfl)
        refine so_cons rfl (fun vs => ?_) ?_
        exact step1_does (does_load_mem (by kernel_rfl) rfl (fun w' ho => cellF ho h3 nF g2))
        refine so_cons rfl (fun vs => ?_) ?_
        exact step1_rel (f := 25) (enters_fn (by kernel_rfl) rfl) (fun w ho hx => ref_Head v W m w (items_of_row (ho.rowAt (i := 0) rfl)) (by omega))
        refine so_cons rfl (fun vs => ?_) ?_
        exact step1_call (f := 21) (enters_fn (by kernel_rfl) rfl) (fun w ho hx => cS (u := l) hl1 (items_of_row (ho.rowAt (i := 2) rfl)) hx.1)
        refine so_cons rfl (fun vs => ?_) ?_
        exact step1_does (does_move rfl)
        refine so_on rfl rfl (fun vs => rfl) rfl (fun vs => ?_) ?_
        exact step1_does (does_move rfl)
        refine so_on rfl rfl (fun vs => rfl) rfl (fun vs => ?_) ?_
        exact step1_does (does_move rfl)
        refine so_on rfl rfl (fun vs => rfl) rfl (fun vs => ?_) ?_
        exact step1_rel (f := 26) (enters_fn (by kernel_rfl) rfl) (fun w ho hx => (ref_Turned v W w (items_of_row (ho.rowAt (i := 0) rfl)) (by omega)).mono fun e w3 hq => by obtain ⟨u, q1, q2, q3⟩ := hq; exact ⟨u, q1, q2, items_of_row q3⟩)
        refine so_on rfl rfl (fun vs => rfl) rfl (fun vs => ?_) ?_
        exact step1_does (does_fieldAddr (o := 34) (by kernel_rfl) rfl)
        refine so_on rfl rfl (fun vs => rfl) rfl (fun vs => ?_) ?_
        exact step1_does (does_load_mem (by kernel_rfl) rfl (fun w' ho => cellF ho h3 nF g2))
        refine so_on rfl rfl (fun vs => rfl) rfl (fun vs => ?_) ?_
        exact step1_rel (f := 25) (enters_fn (by kernel_rfl) rfl) (fun w ho hx => ref_Head _ W.reverse m w hx.1 (by omega))
        refine so_on rfl rfl (fun vs => rfl) rfl (fun vs => ?_) ?_
        exact step1_call (f := 21) (enters_fn (by kernel_rfl) rfl) (fun w ho hx => cS (u := b) hl2 (items_of_row (ho.rowAt (i := 1) rfl)) hx.1)
        refine so_cons rfl (fun vs => ?_) ?_
        exact step1_does (does_pick_true rfl rfl)
        refine so_cons rfl (fun vs => ?_) ?_
        exact step1_does (does_move rfl)
        refine so_on rfl rfl (fun vs => rfl) rfl (fun vs => ?_) ?_
        exact step1_does (does_move rfl)
        refine so_on rfl rfl (fun vs => rfl) rfl (fun vs => ?_) ?_
        exact step1_does (does_move rfl)
        refine so_on rfl rfl (fun vs => rfl) rfl (fun vs => ?_) ?_
        exact step1_does (does_rowlen (i := 0) (by kernel_rfl) rfl rfl)
        refine so_on rfl rfl (fun vs => rfl) rfl (fun vs => ?_) ?_
        exact step1_does (does_eql rfl rfl)
        refine so_cons rfl (fun vs => ?_) ?_
        exact step1_does (does_pick_true rfl rfl)
        refine so_cons rfl (fun vs => ?_) ?_
        exact step1_does (does_move rfl)
        refine so_on rfl rfl (fun vs => rfl) (by (simp [wantB])) (fun vs => ?_) ?_
        exact step1_does (does_move rfl)
        refine so_on rfl rfl (fun vs => rfl) (by (simp [wantB])) (fun vs => ?_) ?_
        exact step1_does (does_eql rfl rfl)
        refine so_cons rfl (fun vs => ?_) ?_
        exact step1_does (does_pickb rfl rfl rfl)
        refine so_cons rfl (fun vs => ?_) ?_
        exact step1_does (does_move rfl)
        refine so_on rfl rfl (fun vs => rfl) (by (simp [wantB])) (fun vs => ?_) ?_
        exact step1_does (does_move rfl)
        refine so_on rfl rfl (fun vs => rfl) (by (simp [wantB])) (fun vs => ?_) ?_
        exact step1_does (does_eql rfl rfl)
        refine so_cons rfl (fun vs => ?_) ?_
        exact step1_does (does_pickb rfl rfl rfl)
        refine so_cons rfl (fun vs => ?_) ?_
        exact step1_does (does_move rfl)
        refine so_on rfl rfl (fun vs => rfl) (by (simp [wantB])) (fun vs => ?_) ?_
        exact step1_does (does_move rfl)
        refine so_on rfl rfl (fun vs => rfl) (by (simp [wantB])) (fun vs => ?_) ?_
        exact step1_does (does_eql rfl rfl)
        refine so_cons rfl (fun vs => ?_) ?_
        exact step1_does (does_pickb rfl rfl rfl)
        refine so_cons rfl (fun vs => ?_) ?_
        exact step1_does (does_move rfl)
        refine so_on rfl rfl (fun vs => rfl) (by (simp [wantB])) (fun vs => ?_) ?_
        exact step1_call (f := 11) (enters_fn (by kernel_rfl) rfl) (fun w ho hx => law_awake w (ho.glob hG id) (ho.maxl hM id))
        refine so_cons rfl (fun vs => ?_) ?_
        exact step1_does (does_pickb rfl rfl rfl)
        refine so_cons rfl (fun vs => ?_) ?_
        exact step1_does (does_assign rfl)
        exact so_nil
      · intro vs9
        refine at_nil ?_
        refine at_then ?_
        refine at_ret ?_
        refine at_ret1 rfl rfl rfl (fun w9 ho9 => ?_)
        rotate_left
        exact ⟨ret_bool (by simp), ho9.plain⟩
    · rw [scan_none he] at cC cN
      rw [back_none he] at cB
      refine at_storeagg (i := 0) (h := hb) (cs := zeroT) (vs := trunkC ls' vr) (by rw [h32]; kernel_rfl) rfl rfl hall rfl (by rw [h32]; rfl) ?_
      refine at_do (does_assign rfl) rfl rfl ?_
      refine at_do (does_assign rfl) rfl rfl ?_
      refine at_nil ?_
      refine at_then ?_
      refine at_seq ?_
      refine at_region ?_
      refine at_do (does_loadagg (i := 0) (k := 32) (by kernel_rfl) rfl rfl h32) rfl rfl ?_
      refine at_do (does_move rfl) rfl rfl ?_
      refine at_do (does_move rfl) rfl rfl ?_
      refine at_do (does_fieldAddr (o := 34) (by kernel_rfl) rfl) rfl rfl ?_
      refine at_do (does_load_mem (by kernel_rfl) rfl (fun w' ho => cellF ho h3 nF g2)) rfl rfl ?_
      refine at_callrow2 (f := 22) (enters_fn (by kernel_rfl) rfl) (fun w ho => cC (cT (ho.base.mono fun k _ hk => by simpa [bls, Res.blocks, Ctx.re] using hk) (ho.glob hG id))) rfl rfl (fun l => ?_)
      refine at_do (does_move rfl) rfl rfl ?_
      refine at_do (does_extract rfl rfl) rfl rfl ?_
      refine at_do (does_extract rfl rfl) rfl rfl ?_
      refine at_do (does_assign rfl) rfl rfl ?_
      refine at_do (does_assign rfl) rfl rfl ?_
      refine at_nil ?_
      refine at_then ?_
      refine at_seq ?_
      refine at_region ?_
      refine at_do (does_loadagg (i := 1) (k := 32) (by kernel_rfl) rfl rfl h32) rfl rfl ?_
      refine at_do (does_move rfl) rfl rfl ?_
      refine at_do (does_move rfl) rfl rfl ?_
      refine at_do (does_fieldAddr (o := 34) (by kernel_rfl) rfl) rfl rfl ?_
      refine at_do (does_load_mem (by kernel_rfl) rfl (fun w' ho => cellF ho h3 nF g2)) rfl rfl ?_
      refine at_callrow2 (f := 23) (enters_fn (by kernel_rfl) rfl) (fun w ho => cB (cT (ho.base.mono fun k _ hk => by simpa [bls, Res.blocks, Ctx.re] using hk) (ho.glob hG id))) rfl rfl (fun b => ?_)
      refine at_do (does_move rfl) rfl rfl ?_
      refine at_do (does_extract rfl rfl) rfl rfl ?_
      refine at_do (does_extract rfl rfl) rfl rfl ?_
      refine at_do (does_assign rfl) rfl rfl ?_
      refine at_do (does_assign rfl) rfl rfl ?_
      refine at_nil ?_
      refine at_then ?_
      refine at_seq ?_
      refine at_region ?_
      refine at_do (does_loadagg (i := 2) (k := 32) (by kernel_rfl) rfl rfl h32) rfl rfl ?_
      refine at_do (does_move rfl) rfl rfl ?_
      refine at_do (does_move rfl) rfl rfl ?_
      refine at_callv (f := 24) (enters_fn (by kernel_rfl) rfl) (fun w ho => cN (cT (ho.base.mono fun k _ hk => by simpa [bls, Res.blocks, Ctx.re] using hk) (ho.glob hG id))) rfl rfl ?_
      refine at_do (does_move rfl) rfl rfl ?_
      refine at_do (does_extract rfl rfl) rfl rfl ?_
      refine at_do (does_extract rfl rfl) rfl rfl ?_
      refine at_do (does_assign rfl) rfl rfl ?_
      refine at_do (does_assign rfl) rfl rfl ?_
      refine at_nil ?_
      refine at_then ?_
      refine at_seq ?_
      refine at_seq ?_
      refine at_region ?_
      refine at_do (does_loadagg (i := 2) (k := 32) (by kernel_rfl) rfl rfl h32) rfl rfl ?_
      refine at_do (does_move rfl) rfl rfl ?_
      refine at_do (does_move rfl) rfl rfl ?_
      refine at_callv (f := 10) (enters_fn (by kernel_rfl) rfl) (fun w ho => cW (cT (ho.base.mono fun k _ hk => by simpa [bls, Res.blocks, Ctx.re] using hk) (ho.glob hG id))) rfl rfl ?_
      refine at_do (does_assign rfl) rfl rfl ?_
      refine at_nil ?_
      refine at_then ?_
      refine at_seq ?_
      refine at_region ?_
      refine at_do (does_move rfl) rfl rfl ?_
      refine at_do (does_neq rfl rfl) rfl rfl ?_
      refine at_nil ?_
      refine at_then ?_
      refine at_cond_t rfl (decide_eq_true (by simpa using he)) ?_
      refine at_seq ?_
      refine at_region ?_
      refine at_do (does_move rfl) rfl rfl ?_
      refine at_do (does_rowlen (i := 1) (by kernel_rfl) rfl rfl) rfl rfl ?_
      refine at_do (does_eql rfl rfl) rfl rfl ?_
      refine at_do (does_move rfl) rfl rfl ?_
      refine at_know (t := 57) (d := true) rfl (decide_eq_true (by rfl)) ?_
      refine at_on rfl rfl ?_
      refine at_do (does_move rfl) rfl rfl ?_
      refine at_on rfl rfl ?_
      refine at_do (does_rowlen (i := 0) (by kernel_rfl) rfl rfl) rfl rfl ?_
      refine at_on rfl rfl ?_
      refine at_do (does_eql rfl rfl) rfl rfl ?_
      refine at_do (does_pick_true rfl rfl) rfl rfl ?_
      refine at_do (does_move rfl) rfl rfl ?_
      refine at_know (t := 62) (d := true) rfl (decide_eq_true (by rfl)) ?_
      refine at_on rfl rfl ?_
      refine at_do (does_move rfl) rfl rfl ?_
      refine at_on rfl rfl ?_
      refine at_do (does_eql rfl rfl) rfl rfl ?_
      refine at_do (does_pick_true rfl rfl) rfl rfl ?_
      refine at_do (does_move rfl) rfl rfl ?_
      refine at_know (t := 66) (d := true) rfl (decide_eq_true (by rfl)) ?_
      refine at_on rfl rfl ?_
      refine at_do (does_move rfl) rfl rfl ?_
      refine at_on rfl rfl ?_
      refine at_do (does_move rfl) rfl rfl ?_
      refine at_on rfl rfl ?_
      refine at_do (does_eql rfl rfl) rfl rfl ?_
      refine at_do (does_pick_true rfl rfl) rfl rfl ?_
      refine at_do (does_move rfl) rfl rfl ?_
      refine at_know (t := 71) (d := true) rfl (decide_eq_true (by rfl)) ?_
      refine at_on rfl rfl ?_
      refine at_do (does_move rfl) rfl rfl ?_
      refine at_on rfl rfl ?_
      refine at_do (does_move rfl) rfl rfl ?_
      refine at_on rfl rfl ?_
      refine at_do (does_eql rfl rfl) rfl rfl ?_
      refine at_do (does_pick_true rfl rfl) rfl rfl ?_
      refine at_do (does_move rfl) rfl rfl ?_
      refine at_know (t := 76) (d := true) rfl (decide_eq_true (by rfl)) ?_
      refine at_on rfl rfl ?_
      refine at_do (does_move rfl) rfl rfl ?_
      refine at_on rfl rfl ?_
      refine at_do (does_move rfl) rfl rfl ?_
      refine at_on rfl rfl ?_
      refine at_do (does_eql rfl rfl) rfl rfl ?_
      refine at_do (does_pick_true rfl rfl) rfl rfl ?_
      refine at_do (does_move rfl) rfl rfl ?_
      refine at_know (t := 81) (d := true) rfl (decide_eq_true (by rfl)) ?_
      refine at_on rfl rfl ?_
      refine at_callv (f := 11) (enters_fn (by kernel_rfl) rfl) (fun w ho => law_awake w (ho.glob hG id) (ho.maxl hM id)) rfl rfl ?_
      refine at_do (does_pick_true rfl rfl) rfl rfl ?_
      refine at_do (does_assign rfl) rfl rfl ?_
      refine at_nil ?_
      refine at_then ?_
      refine at_ret ?_
      refine at_then_ret ?_
      refine at_ret1 rfl rfl rfl (fun w9 ho9 => ?_)
      rotate_left
      exact ⟨ret_bool rfl, ho9.plain⟩
end Go.Proofs.YtjpfebgpcokenaaDoor
