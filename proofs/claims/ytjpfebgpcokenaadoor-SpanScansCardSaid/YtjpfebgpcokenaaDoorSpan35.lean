/-
  The sum of any range's numbers is the document's. No condition of its own.
-/
import Derived.Test.YtjpfebgpcokenaaDoorSpan34
import Derived.Test.YtjpfebgpcokenaaDoorSpanOpen
set_option linter.unusedSimpArgs false
set_option linter.unusedVariables false
namespace Go.Proofs.YtjpfebgpcokenaaDoor
open Go.RowKit
attribute [local irreducible] cwp lwp Exit.then Exit.inBlock Exit.noGoto wpQuiet Calls fin At AtQ Again endQ RQ
def askedC (ls : List Value) (vs : List Int) (f t : List UInt8) (m : Int) : Array Value := (ls ++ versV vs ++ [Value.string (bs f), Value.string (bs t), Value.int .i64 m]).toArray
theorem asked_size {ls : List Value} {vs : List Int} {f t : List UInt8} {m : Int} (h1 : ls.length = 16) (h2 : vs.length = 16) : (askedC ls vs f t m).size = 35 := by simp [askedC, versV, h1, h2]
theorem asked_trunk {ls : List Value} {vs : List Int} {f t : List UInt8} {m : Int} (h1 : ls.length = 16) (h2 : vs.length = 16) : ((askedC ls vs f t m).toList.drop 0).take 32 = ls ++ versV vs := by
  have h3 : (ls ++ versV vs).length = 32 := by simp [versV, h1, h2]
  simp only [askedC, List.toList_toArray, List.drop_zero]
  rw [← h3, List.take_left]
theorem asked_tail {ls : List Value} {vs : List Int} {f t : List UInt8} {m : Int} (h1 : ls.length = 16) (h2 : vs.length = 16) (j : Nat) : (askedC ls vs f t m)[32 + j]? = [Value.string (bs f), Value.string (bs t), Value.int .i64 m][j]? := by
  have h3 : (ls ++ versV vs).length = 32 := by simp [versV, h1, h2]
  simp only [askedC, List.getElem?_toArray]
  rw [List.getElem?_append_right (by omega), h3, show 32 + j - 32 = j by omega]
theorem asked_one {w : World} {B : Nat → Prop} {ls : List Value} {fs : List (List Itm)} {vs : List Int} {f t : List UInt8} {m : Int} (h : TrunkV w B ls fs) : ((askedC ls vs f t m).toList.all (·.oneCell')) = true := by
  have h1 := trunk_one (vs := vs) h
  simp only [trunkC, List.toList_toArray] at h1
  simp only [askedC, List.toList_toArray, List.all_append, h1, Bool.true_and]
  rfl
theorem cut_small {fs : List (List Itm)} : SmallT (cutT fs) := fun b => by
  have key : ∀ xs : List Itm, (cutI xs).length ≤ 66 ∧ ∀ x ∈ cutI xs, x.key.length ≤ 60 := fun xs => ⟨by simp [cutI]; omega, fun x hx => by
    obtain ⟨y, _, rfl⟩ := List.mem_map.1 hx
    simp [oneI]; omega⟩
  by_cases hb : b < fs.length
  · rw [cutT_get fs b hb]; exact key _
  · rw [List.getD_eq_getElem?_getD, List.getElem?_eq_none (by simp [cutT]; omega)]
    exact ⟨Nat.zero_le _, fun x hx => absurd hx (by simp)⟩
theorem cut_i64 {fs : List (List Itm)} (h : ∀ i, ∀ x ∈ fs.getD i [], I64 x.num) : ∀ x ∈ (cutT fs).flatten, I64 x.num := fun x hx => by
  obtain ⟨f, hf, hxf⟩ := List.mem_flatten.1 hx
  obtain ⟨b, hb, rfl⟩ := getD_mem hf
  have hb' : b < fs.length := by simpa [cutT] using hb
  rw [cutT_get fs b hb'] at hxf
  obtain ⟨y, hy, rfl⟩ := List.mem_map.1 hxf
  exact h b y (List.mem_of_mem_take hy)
theorem whole_i64 {fs : List (List Itm)} {f t : List UInt8} (h : ∀ x ∈ fs.flatten, I64 x.num) : ∀ x ∈ wholeI fs f t, I64 x.num := fun x hx => by
  have h1 := (List.mem_filter.1 hx).1
  rcases fold_mem _ _ _ h1 with h2 | h2
  · simp at h2
  · exact h x h2
theorem all_i64 {fs : List (List Itm)} {vs : List Int} {f t : List UInt8} (hl : fs.length = 16) (h : ∀ x ∈ fs.flatten, I64 x.num) : ∀ x ∈ allR fs vs f t, I64 x.num := fun x hx => by
  by_cases he : errW fs vs f t = 0
  · rw [all_whole he hl] at hx; exact whole_i64 h x hx
  · rw [show allR fs vs f t = [] from scan_none he 1024] at hx; simp at hx
theorem cut_len (fs : List (List Itm)) : (cutT fs).length = fs.length := by simp [cutT]
theorem take60 (l : List UInt8) : (l.take 60).length ≤ 60 := by simp; omega
theorem not_bls_nil (k : Nat) : ¬ k ∈ bls [] := by simp [bls]
theorem cellF {C : Ctx} {H : List Res} {w' : World} {g j e : Nat} {cs : Array Value} {v : Value} (ho : Own C H w') (h1 : C.w.heap[g]? = some (.cells cs e)) (hF : ¬ C.F g) (hj : cs[j]? = some v) : w'.cell? ⟨g, j, none⟩ = some v :=
  (cell_of_row w' g j cs e (0, 0) ((ho.base.old g (Array.getElem?_eq_some_iff.1 h1).1 hF).trans h1)).trans hj
theorem law_few (ls : List Value) (vs : List Int) (fs : List (List Itm)) (w : World) (hT : TrunkV w Nof ls fs) (hvs : vs.length = 16) (hn : ∀ i, (fs.getD i []).length ≤ 9223372036854775807) :
    Calls Tryd.prog 7 #[trunkA ls vs] w fun e w' => ∃ u, e = .returned u ∧ Below w.heap.size w w' ∧ PutV Nof vs (cutT fs) u w' :=
  (law_Few ls vs fs w hT hvs hn).mono fun e w' hq => by
    obtain ⟨v, q1, q2, ls', q3, q4⟩ := hq
    exact ⟨v, q1, q2, ls', q3, q4⟩
set_option maxHeartbeats 8000000 in
theorem law_SpanSums (ls : List Value) (vr : List Int) (fs : List (List Itm)) (f t : List UInt8) (m : Int) (w : World) (hG : Glob w) (hM : Maxl w) (hI : TrunkIn w ls vr fs) :
    Calls Tryd.prog 3 #[askedA ls vr f t m] w fun e w' => e = .returned (.bool true) ∧ Below w.heap.size w w' := by
  have hT := hI.t
  have hvs := hI.l
  have hl32 : (ls ++ versV vr).length = 32 := by simp [versV, hT.l1, hvs]
  have h35 := asked_size (f := f) (t := t) (m := m) hT.l1 hvs
  have hone := asked_one (vs := vr) (f := f) (t := t) (m := m) hT
  have g0 : (askedC ls vr f t m)[0 + 32]? = some (.string (bs f)) := asked_tail hT.l1 hvs 0
  have g1 : (askedC ls vr f t m)[0 + 33]? = some (.string (bs t)) := asked_tail hT.l1 hvs 1
  have gt : ∀ j v, (ls ++ versV vr)[j]? = some v → (askedC ls vr f t m)[0 + 0 + j]? = some v := fun j v hj => by
    rw [Nat.add_zero, Nat.zero_add, askedC, List.getElem?_toArray, List.getElem?_append_left (List.getElem?_eq_some_iff.1 hj).1]
    exact hj
  refine calls_plain Tryd.func3 rfl Tryd.ntmps3 rfl ?_
  refine at_seq ?_
  refine at_region ?_
  refine at_boxagg rfl rfl fun gz0 => ?_
  refine at_do (does_assign rfl) rfl rfl ?_
  refine at_nil ?_
  refine at_then ?_
  refine at_seq ?_
  rotate_left
  refine at_dropblk fun w1 hq1 hq2 _ hq4 => ?_
  have h1 : w1.heap[gz0]? = some (.cells (askedC ls vr f t m) 28) := hq2
  apply at_drawR 10 [.val (.pointer (some ⟨gz0, 0 + 0, none⟩)), .val (trunkA ls vr), .rel (PutV Nof vr (cutT fs)), .val (.pointer (some ⟨gz0, 0 + 32, none⟩)), .val (.string (bs f)), .val (.string (bs (f.take 60))), .val (.pointer (some ⟨gz0, 0 + 33, none⟩)), .val (.string (bs t)), .val (.string (bs (t.take 60))), .rel (PtrN w1.heap.size TT zeroT)] (by kernel_rfl) (by kernel_rfl) rfl ⟨trivial, trivial, putV_stab _ _ _, trivial, trivial, trivial, trivial, trivial, trivial, ptrN_stab _ _ _, trivial⟩
  · refine so_cons rfl (fun vs => ?_) ?_
    exact step1_does (does_fieldAddr (o := 0) (by kernel_rfl) rfl)
    refine so_cons rfl (fun vs => ?_) ?_
    exact step1_does (does_loadagg_mem (vs := ls ++ versV vr) (by rw [hl32]; kernel_rfl) rfl (fun w' ho j v hj => by rw [add_none]; exact cellF ho h1 (not_bls_nil _) (gt j v hj)))
    refine so_cons rfl (fun vs => ?_) ?_
    exact step1_rel (f := 7) (enters_fn (by kernel_rfl) rfl) (fun w ho hx => law_few ls vr fs w (hT.keep ho.plain) hvs hI.n)
    refine so_cons rfl (fun vs => ?_) ?_
    exact step1_does (does_fieldAddr (o := 32) (by kernel_rfl) rfl)
    refine so_cons rfl (fun vs => ?_) ?_
    exact step1_does (does_load_mem (by kernel_rfl) rfl (fun w' ho => cellF ho h1 (not_bls_nil _) g0))
    refine so_cons rfl (fun vs => ?_) ?_
    exact step1_call (f := 8) (enters_fn (by kernel_rfl) rfl) (fun w ho hx => short11 f w)
    refine so_cons rfl (fun vs => ?_) ?_
    exact step1_does (does_fieldAddr (o := 33) (by kernel_rfl) rfl)
    refine so_cons rfl (fun vs => ?_) ?_
    exact step1_does (does_load_mem (by kernel_rfl) rfl (fun w' ho => cellF ho h1 (not_bls_nil _) g1))
    refine so_cons rfl (fun vs => ?_) ?_
    exact step1_call (f := 8) (enters_fn (by kernel_rfl) rfl) (fun w ho hx => short11 t w)
    refine so_cons rfl (fun vs => ?_) ?_
    exact step1_allocN Tryd.zeroValue26 rfl
    exact so_nil
  · intro vs2 w3 hw3 hp
    obtain ⟨⟨ls', e2, hT'⟩, ⟨hb, hb0, hb1, hb2⟩, _⟩ := hp
    refine at_weak (E' := [(13, trunkA ls' vr), (3, .pointer (some ⟨hb, 0, none⟩)), (16, .string (bs (f.take 60))), (19, .string (bs (t.take 60)))]) ⟨by rw [← e2]; rfl, by rw [← hb1]; rfl, rfl, rfl, trivial⟩ ?_
    refine at_adopt2 hw3 (fun k hk => absurd hk (not_bls_nil k)) hq4 hb0 hb2 ?_
    have h32 : (trunkC ls' vr).size = 32 := trunk_size hT'.l1 hvs
    have hall := trunk_one (vs := vr) hT'
    have hl16 : (cutT fs).length = 16 := by rw [cut_len]; exact hT.l2
    have hS := cut_small (fs := fs)
    have hN := cut_i64 hI.i
    have hf60 := take60 f
    have ht60 := take60 t
    have cT : ∀ {w'}, Frm w3 (fun k => k = hb) w' → Glob w' → Tr w' ls' vr (cutT fs) := fun hf hg => ⟨hg, (hT'.apart hb2).move (hf.mono fun k _ hk => .inr hk) (fun _ _ h => h.elim), hvs, hS⟩
    generalize cutT fs = fc at *
    generalize f.take 60 = f' at *
    generalize t.take 60 = t' at *
    have cS : ∀ {w'}, Tr w' ls' vr fc → Calls Tryd.prog 9 #[trunkA ls' vr, .string (bs f'), .string (bs t')] w' fun e w3 => e = .returned (.tuple #[.int .i64 (sumW fc vr f' t').1, .int .i64 (sumW fc vr f' t').2]) ∧ Below w'.heap.size w' w3 := fun h => span_Sum ls' vr fc f' t' _ h (all_i64 hl16 hN)
    have cW : ∀ {w'}, Tr w' ls' vr fc → Calls Tryd.prog 10 #[trunkA ls' vr, .string (bs f'), .string (bs t')] w' fun e w3 => e = .returned (.int .i64 (errW fc vr f' t')) ∧ Below w'.heap.size w' w3 := fun h => law_wrong ls' vr fc f' t' _ h.t hvs hS (by omega) (by omega)
    have cO : ∀ {w'}, Tr w' ls' vr fc → Calls Tryd.prog 13 #[trunkA ls' vr, .string (bs f'), .string (bs t')] w' fun e w3 => ∃ u, e = .returned u ∧ Below w'.heap.size w' w3 ∧ w3.ownsRow w'.heap.size IT 5 u (wholeI fc f' t').length (itms (wholeI fc f' t')) := fun h => ref_Whole ls' vr fc f' t' _ h.t hvs hS (by omega) (by omega)
    by_cases he : errW fc vr f' t' = 0
    · rw [sum_whole he hl16] at cS
      rw [he] at cW
      have hlw := whole_len he hl16
      have hwi := whole_i64 (f := f') (t := t') hN
      generalize wholeI fc f' t' = W at *
      refine at_storeagg (i := 0) (h := hb) (cs := zeroT) (vs := trunkC ls' vr) (by rw [h32]; kernel_rfl) rfl rfl hall rfl (by rw [h32]; rfl) ?_
      refine at_do (does_assign rfl) rfl rfl ?_
      refine at_do (does_assign rfl) rfl rfl ?_
      refine at_nil ?_
      refine at_then ?_
      refine at_seq ?_
      refine at_region ?_
      refine at_do (does_loadagg (i := 0) (k := 32) (by kernel_rfl) rfl rfl h32) rfl rfl ?_
      refine at_do (does_move rfl) rfl rfl ?_
      refine at_do (does_move rfl) rfl rfl ?_
      refine at_callv (f := 9) (enters_fn (by kernel_rfl) rfl) (fun w ho => cS (cT (ho.base.mono fun k _ hk => by simpa [bls, Res.blocks, Ctx.re] using hk) (ho.glob hG id))) rfl rfl ?_
      refine at_do (does_move rfl) rfl rfl ?_
      refine at_do (does_extract rfl rfl) rfl rfl ?_
      refine at_do (does_extract rfl rfl) rfl rfl ?_
      refine at_do (does_assign rfl) rfl rfl ?_
      refine at_do (does_assign rfl) rfl rfl ?_
      refine at_nil ?_
      refine at_then ?_
      refine at_seq ?_
      refine at_seq ?_
      refine at_region ?_
      refine at_do (does_loadagg (i := 0) (k := 32) (by kernel_rfl) rfl rfl h32) rfl rfl ?_
      refine at_do (does_move rfl) rfl rfl ?_
      refine at_do (does_move rfl) rfl rfl ?_
      refine at_callv (f := 10) (enters_fn (by kernel_rfl) rfl) (fun w ho => cW (cT (ho.base.mono fun k _ hk => by simpa [bls, Res.blocks, Ctx.re] using hk) (ho.glob hG id))) rfl rfl ?_
      refine at_do (does_assign rfl) rfl rfl ?_
      refine at_nil ?_
      refine at_then ?_
      refine at_seq ?_
      refine at_region ?_
      refine at_do (does_move rfl) rfl rfl ?_
      refine at_do (does_neq rfl rfl) rfl rfl ?_
      refine at_nil ?_
      refine at_then ?_
      refine at_cond_f rfl (decide_eq_false (by decide)) ?_
      refine at_skip ?_
      refine at_then ?_
      refine at_seq ?_
      refine at_region ?_
      refine at_do (does_loadagg (i := 0) (k := 32) (by kernel_rfl) rfl rfl h32) rfl rfl ?_
      refine at_do (does_move rfl) rfl rfl ?_
      refine at_do (does_move rfl) rfl rfl ?_
      refine at_callrow (f := 13) (enters_fn (by kernel_rfl) rfl) (fun w ho => cO (cT (ho.base.mono fun k _ hk => by simpa [bls, Res.blocks, Ctx.re] using hk) (ho.glob hG id))) rfl rfl (fun v => ?_)
      refine at_callv (f := 12) (enters_fn (by kernel_rfl) rfl) (fun w ho => ref_Sum v W w (items_of_row (ho.rowAt (i := 0) rfl)) (by omega) hwi) rfl rfl ?_
      refine at_do (does_move rfl) rfl rfl ?_
      refine at_do (does_extract rfl rfl) rfl rfl ?_
      refine at_do (does_extract rfl rfl) rfl rfl ?_
      refine at_do (does_assign rfl) rfl rfl ?_
      refine at_do (does_assign rfl) rfl rfl ?_
      refine at_nil ?_
      refine at_then ?_
      refine at_seq ?_
      refine at_region ?_
      refine at_do (does_move rfl) rfl rfl ?_
      refine at_do (does_move rfl) rfl rfl ?_
      refine at_do (does_eql rfl rfl) rfl rfl ?_
      refine at_do (does_move rfl) rfl rfl ?_
      refine at_know (t := 54) (d := true) rfl (decide_eq_true (by rfl)) ?_
      refine at_on rfl rfl ?_
      refine at_do (does_move rfl) rfl rfl ?_
      refine at_on rfl rfl ?_
      refine at_do (does_move rfl) rfl rfl ?_
      refine at_on rfl rfl ?_
      refine at_do (does_eql rfl rfl) rfl rfl ?_
      refine at_do (does_pick_true rfl rfl) rfl rfl ?_
      refine at_do (does_move rfl) rfl rfl ?_
      refine at_know (t := 59) (d := true) rfl (decide_eq_true (by rfl)) ?_
      refine at_on rfl rfl ?_
      refine at_callv (f := 11) (enters_fn (by kernel_rfl) rfl) (fun w ho => law_awake w (ho.glob hG id) (ho.maxl hM id)) rfl rfl ?_
      refine at_do (does_pick_true rfl rfl) rfl rfl ?_
      refine at_do (does_assign rfl) rfl rfl ?_
      refine at_nil ?_
      refine at_then ?_
      refine at_ret ?_
      refine at_ret1 rfl rfl rfl (fun w9 ho9 => ?_)
      rotate_left
      exact ⟨ret_bool rfl, ho9.plain⟩
    · have hW : sumW fc vr f' t' = (0, errW fc vr f' t') := by rw [sumW, if_neg he]
      rw [hW] at cS
      refine at_storeagg (i := 0) (h := hb) (cs := zeroT) (vs := trunkC ls' vr) (by rw [h32]; kernel_rfl) rfl rfl hall rfl (by rw [h32]; rfl) ?_
      refine at_do (does_assign rfl) rfl rfl ?_
      refine at_do (does_assign rfl) rfl rfl ?_
      refine at_nil ?_
      refine at_then ?_
      refine at_seq ?_
      refine at_region ?_
      refine at_do (does_loadagg (i := 0) (k := 32) (by kernel_rfl) rfl rfl h32) rfl rfl ?_
      refine at_do (does_move rfl) rfl rfl ?_
      refine at_do (does_move rfl) rfl rfl ?_
      refine at_callv (f := 9) (enters_fn (by kernel_rfl) rfl) (fun w ho => cS (cT (ho.base.mono fun k _ hk => by simpa [bls, Res.blocks, Ctx.re] using hk) (ho.glob hG id))) rfl rfl ?_
      refine at_do (does_move rfl) rfl rfl ?_
      refine at_do (does_extract rfl rfl) rfl rfl ?_
      refine at_do (does_extract rfl rfl) rfl rfl ?_
      refine at_do (does_assign rfl) rfl rfl ?_
      refine at_do (does_assign rfl) rfl rfl ?_
      refine at_nil ?_
      refine at_then ?_
      refine at_seq ?_
      refine at_seq ?_
      refine at_region ?_
      refine at_do (does_loadagg (i := 0) (k := 32) (by kernel_rfl) rfl rfl h32) rfl rfl ?_
      refine at_do (does_move rfl) rfl rfl ?_
      refine at_do (does_move rfl) rfl rfl ?_
      refine at_callv (f := 10) (enters_fn (by kernel_rfl) rfl) (fun w ho => cW (cT (ho.base.mono fun k _ hk => by simpa [bls, Res.blocks, Ctx.re] using hk) (ho.glob hG id))) rfl rfl ?_
      refine at_do (does_assign rfl) rfl rfl ?_
      refine at_nil ?_
      refine at_then ?_
      refine at_seq ?_
      refine at_region ?_
      refine at_do (does_move rfl) rfl rfl ?_
      refine at_do (does_neq rfl rfl) rfl rfl ?_
      refine at_nil ?_
      refine at_then ?_
      refine at_cond_t rfl (decide_eq_true (by simpa using he)) ?_
      refine at_seq ?_
      refine at_region ?_
      refine at_do (does_move rfl) rfl rfl ?_
      refine at_do (does_eql rfl rfl) rfl rfl ?_
      refine at_do (does_move rfl) rfl rfl ?_
      refine at_know (t := 35) (d := true) rfl (decide_eq_true (by rfl)) ?_
      refine at_on rfl rfl ?_
      refine at_do (does_move rfl) rfl rfl ?_
      refine at_on rfl rfl ?_
      refine at_do (does_move rfl) rfl rfl ?_
      refine at_on rfl rfl ?_
      refine at_do (does_eql rfl rfl) rfl rfl ?_
      refine at_do (does_pick_true rfl rfl) rfl rfl ?_
      refine at_do (does_move rfl) rfl rfl ?_
      refine at_know (t := 40) (d := true) rfl (decide_eq_true (by rfl)) ?_
      refine at_on rfl rfl ?_
      refine at_callv (f := 11) (enters_fn (by kernel_rfl) rfl) (fun w ho => law_awake w (ho.glob hG id) (ho.maxl hM id)) rfl rfl ?_
      refine at_do (does_pick_true rfl rfl) rfl rfl ?_
      refine at_do (does_assign rfl) rfl rfl ?_
      refine at_nil ?_
      refine at_then ?_
      refine at_ret ?_
      refine at_then_ret ?_
      refine at_ret1 rfl rfl rfl (fun w9 ho9 => ?_)
      rotate_left
      exact ⟨ret_bool rfl, ho9.plain⟩
end Go.Proofs.YtjpfebgpcokenaaDoor
