/-
  The first item from a key on and the last one ahead of it are the document's. No condition of its own.
-/
import Derived.Test.YtjpfebgpcokenaaDoorSpan35
set_option linter.unusedSimpArgs false
set_option linter.unusedVariables false
namespace Go.Proofs.YtjpfebgpcokenaaDoor
open Go.RowKit
attribute [local irreducible] cwp lwp Exit.then Exit.inBlock Exit.noGoto wpQuiet Calls fin At AtQ Again endQ RQ
theorem snoc_cases {α : Type} (l : List α) : l = [] ∨ ∃ a b, l = a ++ [b] := by
  rcases List.eq_nil_or_concat l with h | ⟨a, b, h⟩
  · exact .inl h
  · exact .inr ⟨a, b, by rw [h, List.concat_eq_append]⟩
theorem Own.base2 {C : Ctx} {H : List Res} {W2 w' : World} (h2 : Own C H W2) (ho : Own (C.re W2 H) H w') : Frm C.w C.F w' :=
  h2.base.trans ho.base fun k hk hF => ((h2.mine k hF).2).elim (fun h => absurd h (by omega)) (fun h => h)
theorem rowI_at {b e sz m : Nat} {xs : List Value} {v : Value} {w w0 : World} (hb : b ≤ w0.heap.size) (h : w.ownsRow w0.heap.size e sz v m xs) : RowI b e sz m xs v w :=
  ⟨h.1, h.2.imp id fun ⟨g, cap, cur, r1, r2, r3⟩ => ⟨g, cap, cur, r1, by omega, r3⟩⟩
theorem TrunkV.apart2 {w : World} {B : Nat → Prop} {ls : List Value} {fs : List (List Itm)} {h e : Nat} {cs : Array Value} (hT : TrunkV w B ls fs) (hc : w.heap[h]? = some (.cells cs e)) (hn : ∀ (j : Nat) (b : ByteArray), cs[j]? ≠ some (Value.string b)) : TrunkV w (fun k => B k ∨ k = h) ls fs :=
  ⟨hT.l1, hT.l2, fun i hi => by
    obtain ⟨v, h1, h2⟩ := hT.at' i hi
    refine ⟨v, h1, h2.1, fun hl g hg hb => ?_⟩
    rcases hb with hb | rfl
    · exact h2.2 hl g hg hb
    · obtain ⟨gb, o, c, rfl, _, _, hce⟩ := h2.1.form hl
      have hgb : g = gb := by simpa [Value.ownBlock] using hg.symm
      subst hgb
      have hk := (hce 0 hl).key
      rw [cell_of_row w g _ cs e (0, 0) hc] at hk
      exact hn _ _ hk⟩
theorem trunk_noStr {w : World} {B : Nat → Prop} {ls : List Value} {fs : List (List Itm)} {vs : List Int} (hT : TrunkV w B ls fs) : ∀ (j : Nat) (b : ByteArray), (trunkC ls vs)[j]? ≠ some (Value.string b) := fun j b h => by
  simp only [trunkC, List.getElem?_toArray] at h
  rcases List.mem_append.1 (List.mem_of_getElem? h) with hm | hm
  · obtain ⟨i, hi, e⟩ := List.getElem_of_mem hm
    obtain ⟨v, h1, h2⟩ := hT.at' i (by have := hT.l1; omega)
    rw [List.getElem?_eq_getElem hi, e] at h1
    obtain ⟨A, c, rfl⟩ := h2.1.len
    cases h1
  · obtain ⟨z, _, e⟩ := List.mem_map.1 hm
    cases e
theorem ends_first {fc : List (List Itm)} {vr : List Int} {k : List UInt8} (he : errW fc vr k k = 0) (hl : fc.length = 16) : headI (errW fc vr k []) (scanR 1 fc vr k []) = (wholeI fc k []).headD default ∧ headE (errW fc vr k []) (scanR 1 fc vr k []) = if wholeI fc k [] = [] then 6 else 0 := by
  rw [keyOk_empty.1, he, first_whole he hl]
  cases wholeI fc k [] <;> simp [headI, headE]
theorem ends_last {fc : List (List Itm)} {vr : List Int} {k : List UInt8} (he : errW fc vr k k = 0) (hl : fc.length = 16) : headI (errW fc vr [] k) (backR 1 fc vr [] k) = (wholeI fc [] k).reverse.headD default ∧ headE (errW fc vr [] k) (backR 1 fc vr [] k) = if wholeI fc [] k = [] then 6 else 0 := by
  rw [keyOk_empty.2, he, last_whole he hl]
  by_cases hA : wholeI fc [] k = []
  · rw [hA]; simp [headI, headE]
  · rw [if_neg hA]
    have hr : (wholeI fc [] k).reverse ≠ [] := by simpa using hA
    cases hB : (wholeI fc [] k).reverse with
    | nil => exact absurd hB hr
    | cons a l => simp [headI, headE]
theorem headE_no {e : Int} {xs : List Itm} (h : e ≠ 0) : headI e xs = default ∧ headE e xs = e := by simp [headI, headE, h]
set_option maxHeartbeats 8000000 in
theorem law_SpanEnds (ls : List Value) (vr : List Int) (fs : List (List Itm)) (k : List UInt8) (w : World) (hG : Glob w) (hM : Maxl w) (hI : TrunkIn w ls vr fs) :
    Calls Tryd.prog 4 #[trunkA ls vr, .string (bs k)] w fun e w' => e = .returned (.bool true) ∧ Below w.heap.size w w' := by
  have hT := hI.t
  have hvs := hI.l
  have h32 := trunk_size hT.l1 hvs
  refine calls_plain Tryd.func4 rfl Tryd.ntmps4 rfl ?_
  refine at_seq ?_
  refine at_region ?_
  refine at_boxagg rfl rfl fun gz0 => ?_
  refine at_do (does_assign rfl) rfl rfl ?_
  refine at_nil ?_
  refine at_then ?_
  refine at_seq ?_
  refine at_region ?_
  refine at_do (does_loadagg (i := 0) (k := 32) (by kernel_rfl) rfl rfl h32) rfl rfl ?_
  refine at_callk (f := 7) (Φ := PutV Nof vr (cutT fs)) (enters_fn (by kernel_rfl) rfl) (fun w ho => law_few ls vr fs w (hT.keep ho.plain) hvs hI.n) rfl rfl (fun v w1 hw1 hv => ?_)
  rotate_left
  obtain ⟨gT, rfl⟩ : ∃ g, g = gz0 := ⟨_, rfl⟩
  obtain ⟨ls', rfl, hT0⟩ := hv
  have hT1 := hT0.apart2 (show w1.heap[gT]? = some (.cells (trunkC ls vr) TT) from hw1.ok _ (List.mem_cons_self ..)) (trunk_noStr (vs := vr) hT)
  have h32' : (trunkC ls' vr).size = 32 := trunk_size hT0.l1 hvs
  have hall := trunk_one (vs := vr) hT0
  have hl16 : (cutT fs).length = 16 := by rw [cut_len]; exact hT.l2
  have hS := cut_small (fs := fs)
  have hk60 := take60 k
  have cT : ∀ {w'}, Frm w1 (fun k => k = gT) w' → Glob w' → Tr w' ls' vr (cutT fs) := fun hf hg => ⟨hg, hT1.move (hf.mono fun k _ hk => .inr hk) (fun _ _ h => h.elim), hvs, hS⟩
  have cK : ∀ w', Calls Tryd.prog 8 #[.string (bs k)] w' fun e w3 => e = .returned (.string (bs (k.take 60))) ∧ Below w'.heap.size w' w3 := fun w' => short11 k w'
  generalize cutT fs = fc at *
  generalize k.take 60 = k' at *
  have cF : ∀ {w'}, Tr w' ls' vr fc → Calls Tryd.prog 14 #[trunkA ls' vr, .string (bs k')] w' fun e w3 => e = .returned (.tuple #[itmA (headI (errW fc vr k' []) (scanR 1 fc vr k' [])), .int .i64 (headE (errW fc vr k' []) (scanR 1 fc vr k' []))]) ∧ Below w'.heap.size w' w3 := fun h => span_First ls' vr fc k' _ h
  have cL : ∀ {w'}, Tr w' ls' vr fc → Calls Tryd.prog 15 #[trunkA ls' vr, .string (bs k')] w' fun e w3 => e = .returned (.tuple #[itmA (headI (errW fc vr [] k') (backR 1 fc vr [] k')), .int .i64 (headE (errW fc vr [] k') (backR 1 fc vr [] k'))]) ∧ Below w'.heap.size w' w3 := fun h => span_Last ls' vr fc k' _ h
  have cW : ∀ {w'}, Tr w' ls' vr fc → Calls Tryd.prog 10 #[trunkA ls' vr, .string (bs k'), .string (bs k')] w' fun e w3 => e = .returned (.int .i64 (errW fc vr k' k')) ∧ Below w'.heap.size w' w3 := fun h => law_wrong ls' vr fc k' k' _ h.t hvs hS (by omega) (by omega)
  have cO1 : ∀ {w'}, Tr w' ls' vr fc → Calls Tryd.prog 13 #[trunkA ls' vr, .string (bs k'), .string (bs [])] w' fun e w3 => ∃ u, e = .returned u ∧ Below w'.heap.size w' w3 ∧ w3.ownsRow w'.heap.size IT 5 u (wholeI fc k' []).length (itms (wholeI fc k' [])) := fun h => ref_Whole ls' vr fc k' [] _ h.t hvs hS (by omega) (by simp)
  have cO2 : ∀ {w'}, Tr w' ls' vr fc → Calls Tryd.prog 13 #[trunkA ls' vr, .string (bs []), .string (bs k')] w' fun e w3 => ∃ u, e = .returned u ∧ Below w'.heap.size w' w3 ∧ w3.ownsRow w'.heap.size IT 5 u (wholeI fc [] k').length (itms (wholeI fc [] k')) := fun h => ref_Whole ls' vr fc [] k' _ h.t hvs hS (by simp) (by omega)
  by_cases he : errW fc vr k' k' = 0
  · rw [(ends_first he hl16).1, (ends_first he hl16).2] at cF
    rw [(ends_last he hl16).1, (ends_last he hl16).2] at cL
    rw [he] at cW
    have hl1 := whole_len (keyOk_empty.1.trans he) hl16
    have hl2 := whole_len (keyOk_empty.2.trans he) hl16
    generalize wholeI fc k' [] = on at *
    generalize wholeI fc [] k' = ah at *
    obtain ⟨x, hx⟩ : ∃ x, x = on.headD default := ⟨_, rfl⟩
    obtain ⟨y, hy⟩ : ∃ y, y = ah.reverse.headD default := ⟨_, rfl⟩
    obtain ⟨ex, hex⟩ : ∃ e : Int, e = if on = [] then 6 else 0 := ⟨_, rfl⟩
    obtain ⟨ey, hey⟩ : ∃ e : Int, e = if ah = [] then 6 else 0 := ⟨_, rfl⟩
    rw [← hx, ← hex] at cF
    rw [← hy, ← hey] at cL
    refine at_do (does_move rfl) rfl rfl ?_
    refine at_callv (f := 8) (enters_fn (by kernel_rfl) rfl) (fun w ho => cK w) rfl rfl ?_
    refine at_storeagg (i := 0) (h := gT) (cs := trunkC ls vr) (vs := trunkC ls' vr) (by rw [h32']; kernel_rfl) rfl rfl hall rfl (by rw [h32, h32']) ?_
    refine at_do (does_assign rfl) rfl rfl ?_
    refine at_nil ?_
    refine at_then ?_
    refine at_seq ?_
    refine at_region ?_
    refine at_do (does_loadagg (i := 0) (k := 32) (by kernel_rfl) rfl rfl h32') rfl rfl ?_
    refine at_do (does_move rfl) rfl rfl ?_
    refine at_callv (f := 14) (enters_fn (by kernel_rfl) rfl) (fun w ho => cF (cT (ho.base.mono fun k _ hk => by simpa [bls, Res.blocks, Ctx.re] using hk) (ho.glob hG id))) rfl rfl ?_
    refine at_do (does_move rfl) rfl rfl ?_
    refine at_do (does_extract rfl rfl) rfl rfl ?_
    refine at_do (does_extract rfl rfl) rfl rfl ?_
    refine at_allocagg Tryd.zeroValue43 rfl fun gz0 => ?_
    refine at_storeagg (i := 0) (by kernel_rfl) rfl rfl rfl rfl rfl ?_
    refine at_do (does_assign rfl) rfl rfl ?_
    refine at_nil ?_
    refine at_then ?_
    refine at_seq ?_
    refine at_region ?_
    refine at_do (does_loadagg (i := 1) (k := 32) (by kernel_rfl) rfl rfl h32') rfl rfl ?_
    refine at_do (does_move rfl) rfl rfl ?_
    refine at_callv (f := 15) (enters_fn (by kernel_rfl) rfl) (fun w ho => cL (cT (ho.base.mono fun k _ hk => by simpa [bls, Res.blocks, Ctx.re] using hk) (ho.glob hG id))) rfl rfl ?_
    refine at_do (does_move rfl) rfl rfl ?_
    refine at_do (does_extract rfl rfl) rfl rfl ?_
    refine at_do (does_extract rfl rfl) rfl rfl ?_
    refine at_allocagg Tryd.zeroValue43 rfl fun gz1 => ?_
    refine at_storeagg (i := 0) (by kernel_rfl) rfl rfl rfl rfl rfl ?_
    refine at_do (does_assign rfl) rfl rfl ?_
    refine at_nil ?_
    refine at_then ?_
    refine at_seq ?_
    refine at_seq ?_
    refine at_region ?_
    refine at_do (does_loadagg (i := 2) (k := 32) (by kernel_rfl) rfl rfl h32') rfl rfl ?_
    refine at_do (does_move rfl) rfl rfl ?_
    refine at_do (does_move rfl) rfl rfl ?_
    refine at_callv (f := 10) (enters_fn (by kernel_rfl) rfl) (fun w ho => cW (cT (ho.base.mono fun k _ hk => by simpa [bls, Res.blocks, Ctx.re] using hk) (ho.glob hG id))) rfl rfl ?_
    refine at_do (does_assign rfl) rfl rfl ?_
    refine at_nil ?_
    refine at_then ?_
    refine at_seq ?_
    refine at_region ?_
    refine at_do (does_move rfl) rfl rfl ?_
    refine at_do (does_neq rfl rfl) rfl rfl ?_
    refine at_nil ?_
    refine at_then ?_
    refine at_cond_f rfl (decide_eq_false (by decide)) ?_
    refine at_skip ?_
    refine at_then ?_
    refine at_seq ?_
    rotate_left
    refine at_drop (H' := [.blk gz1 IT (itmV y).toArray, .blk gz0 IT (itmV x).toArray, .blk gT TT (trunkC ls' vr)]) (List.Sublist.refl _) ?_
    refine at_reW fun W2 hW2 hold => ?_
    apply at_drawR 8 [.val (trunkA ls' vr), .val (.string (bs k')), .rel (RowI W2.heap.size IT 5 on.length (itms on)), .val (trunkA ls' vr), .val (.string (bs k')), .rel (RowI W2.heap.size IT 5 ah.length (itms ah)), .rel (RowI W2.heap.size IT 5 on.length (itms on)), .rel (RowI W2.heap.size IT 5 ah.length (itms ah))] (by kernel_rfl) (by kernel_rfl) rfl ⟨trivial, trivial, rowI_stab _ _ _ _ _, trivial, trivial, rowI_stab _ _ _ _ _, rowI_stab _ _ _ _ _, rowI_stab _ _ _ _ _, trivial⟩
    · refine so_cons rfl (fun vs => ?_) ?_
      exact step1_does (does_loadagg (i := 2) (k := 32) (by kernel_rfl) rfl rfl h32')
      refine so_cons rfl (fun vs => ?_) ?_
      exact step1_does (does_move rfl)
      refine so_cons rfl (fun vs => ?_) ?_
      exact step1_rel (f := 13) (enters_fn (by kernel_rfl) rfl) (fun w ho hx => (cO1 (cT ((hW2.base2 ho).mono fun k _ hk => by simpa [bls, Res.blocks, Ctx.re] using hk) (ho.glob hG id))).mono fun e w3 hq => by obtain ⟨u, q1, q2, q3⟩ := hq; exact ⟨u, q1, q2, rowI_at ho.base.size q3⟩)
      refine so_cons rfl (fun vs => ?_) ?_
      exact step1_does (does_loadagg (i := 2) (k := 32) (by kernel_rfl) rfl rfl h32')
      refine so_cons rfl (fun vs => ?_) ?_
      exact step1_does (does_move rfl)
      refine so_cons rfl (fun vs => ?_) ?_
      exact step1_rel (f := 13) (enters_fn (by kernel_rfl) rfl) (fun w ho hx => (cO2 (cT ((hW2.base2 ho).mono fun k _ hk => by simpa [bls, Res.blocks, Ctx.re] using hk) (ho.glob hG id))).mono fun e w3 hq => by obtain ⟨u, q1, q2, q3⟩ := hq; exact ⟨u, q1, q2, rowI_at ho.base.size q3⟩)
      refine so_cons rfl (fun vs => ?_) ?_
      exact step1_dep (fun w ho hx => ⟨_, does_assign rfl, hx.1⟩)
      refine so_cons rfl (fun vs => ?_) ?_
      exact step1_dep (fun w ho hx => ⟨_, does_assign rfl, hx.1⟩)
      exact so_nil
    · intro vs2 w3 hw3 hp
      obtain ⟨_, _, hrow1, hrow2, _⟩ := hp
      have hfr : ∀ g, w.heap.size ≤ g → True := fun _ _ => trivial
      have hI1 : KeptI w3 (fun k => k ∈ bls [.blk gz1 IT (itmV y).toArray, .blk gz0 IT (itmV x).toArray, .blk gT TT (trunkC ls' vr)]) (vs2 6) on := ⟨items_of_row hrow1, fun _ g hg hb => by
        have h1 := hold g hb
        have h2 := (World.ownsRow.lt hrow1 g hg).1
        omega⟩
      have hI2 : KeptI w3 (fun k => k ∈ bls [.blk gz1 IT (itmV y).toArray, .blk gz0 IT (itmV x).toArray, .blk gT TT (trunkC ls' vr)]) (vs2 7) ah := ⟨items_of_row hrow2, fun _ g hg hb => by
        have h1 := hold g hb
        have h2 := (World.ownsRow.lt hrow2 g hg).1
        omega⟩
      obtain ⟨v1, hV1⟩ : ∃ v, v = vs2 6 := ⟨_, rfl⟩
      obtain ⟨v2, hV2⟩ : ∃ v, v = vs2 7 := ⟨_, rfl⟩
      refine at_weak (E' := [(5, .pointer (some ⟨gz0, 0, none⟩)), (6, .int .i64 ex), (7, .pointer (some ⟨gz1, 0, none⟩)), (8, .int .i64 ey), (10, v1), (11, v2)]) ⟨rfl, rfl, rfl, rfl, by rw [hV1]; rfl, by rw [hV2]; rfl, trivial⟩ ?_
      rw [← hV1] at hI1
      rw [← hV2] at hI2
      clear hrow1 hrow2 hV1 hV2 hfr
      obtain ⟨A1, c1, hv1⟩ := hI1.1.len
      obtain ⟨A2, c2, hv2⟩ := hI2.1.len
      cases on with
      | nil =>
        obtain rfl : x = default := hx
        obtain rfl : ex = 6 := by rw [hex, if_pos rfl]
        rcases snoc_cases ah with rfl | ⟨l2, y2, rfl⟩
        · obtain rfl : y = default := hy
          obtain rfl : ey = 6 := by rw [hey, if_pos rfl]
          refine at_nil ?_
          refine at_then ?_
          refine at_seq ?_
          refine at_seq ?_
          refine at_region ?_
          refine at_do (does_move rfl) rfl rfl ?_
          refine at_do (does_len (A := A1) (q := ([] : List Itm).length) (c := c1) (by kernel_rfl) (by rw [← hv1]; rfl)) rfl rfl ?_
          refine at_do (does_eql rfl rfl) rfl rfl ?_
          refine at_nil ?_
          refine at_then ?_
          refine at_cond_t rfl (decide_eq_true (by rfl)) ?_
          refine at_seq ?_
          refine at_region ?_
          refine at_do (does_loadagg (i := 1) (k := 5) (by kernel_rfl) rfl rfl rfl) rfl rfl ?_
          refine at_do (does_build (ps := []) (vs := []) (cs := itmV default) shapeItem rfl rfl) rfl rfl ?_
          refine at_do (does_itmneq (x := default) (y := default) rfl rfl) rfl rfl ?_
          refine at_do (does_move rfl) rfl rfl ?_
          refine at_know (t := 67) (d := false) rfl (by rfl) ?_
          refine at_on rfl rfl ?_
          refine at_do (does_move rfl) rfl rfl ?_
          refine at_on rfl rfl ?_
          refine at_do (does_neq rfl rfl) rfl rfl ?_
          refine at_do (does_pick_false rfl rfl) rfl rfl ?_
          refine at_nil ?_
          refine at_then ?_
          refine at_cond_f rfl (decide_eq_false (by omega)) ?_
          refine at_skip ?_
          refine at_then ?_
          refine at_seq ?_
          refine at_seq ?_
          refine at_region ?_
          refine at_do (does_move rfl) rfl rfl ?_
          refine at_do (does_len (A := A2) (q := ([] : List Itm).length) (c := c2) (by kernel_rfl) (by rw [← hv2]; rfl)) rfl rfl ?_
          refine at_do (does_eql rfl rfl) rfl rfl ?_
          refine at_nil ?_
          refine at_then ?_
          refine at_cond_t rfl (decide_eq_true (by rfl)) ?_
          refine at_seq ?_
          refine at_region ?_
          refine at_do (does_loadagg (i := 0) (k := 5) (by kernel_rfl) rfl rfl rfl) rfl rfl ?_
          refine at_do (does_build (ps := []) (vs := []) (cs := itmV default) shapeItem rfl rfl) rfl rfl ?_
          refine at_do (does_itmeql (x := default) (y := default) rfl rfl) rfl rfl ?_
          refine at_do (does_move rfl) rfl rfl ?_
          refine at_know (t := 86) (d := true) rfl (decide_eq_true (by rfl)) ?_
          refine at_on rfl rfl ?_
          refine at_do (does_move rfl) rfl rfl ?_
          refine at_on rfl rfl ?_
          refine at_do (does_eql rfl rfl) rfl rfl ?_
          refine at_do (does_pick_true rfl rfl) rfl rfl ?_
          refine at_do (does_move rfl) rfl rfl ?_
          refine at_know (t := 90) (d := true) rfl (decide_eq_true (by omega)) ?_
          refine at_on rfl rfl ?_
          refine at_callv (f := 11) (enters_fn (by kernel_rfl) rfl) (fun w ho => law_awake w (ho.glob hG id) (ho.maxl hM id)) rfl rfl ?_
          refine at_do (does_pick_true rfl rfl) rfl rfl ?_
          refine at_do (does_assign rfl) rfl rfl ?_
          refine at_nil ?_
          refine at_then ?_
          refine at_ret ?_
          refine at_then_ret ?_
          refine at_ret1 rfl rfl rfl (fun w9 ho9 => ?_)
          rotate_left
          exact ⟨ret_bool rfl, ho9.plain⟩
        · obtain rfl : y = y2 := by rw [hy]; simp
          obtain rfl : ey = 0 := by rw [hey, if_neg (by simp)]
          obtain ⟨g2, o2, c2, rfl, _, _, hce2⟩ := hI2.1.form (by simp)
          have hlt2 : l2.length < (l2 ++ [y]).length := by simp
          have hm1 : (((l2 ++ [y]).length : Nat) : Int) - 1 = ((l2.length : Nat) : Int) := by simp
          have hIy : ∀ {w'}, Frm w3 (fun k => k ∈ bls [.blk gz1 IT (itmV y).toArray, .blk gz0 IT (itmV default).toArray, .blk gT TT (trunkC ls' vr)]) w' → ItmAt w' g2 (o2 + l2.length * 5) y := fun hf => by
            have := hce2 l2.length hlt2
            rw [show (l2 ++ [y])[l2.length] = y by simp] at this
            exact this.move (hI2.2 (by simp) g2 (by simp [Value.ownBlock])) hf
          have hne : ¬ (((l2 ++ [y]).length : Nat) : Int) = 0 := by simp; omega
          refine at_nil ?_
          refine at_then ?_
          refine at_seq ?_
          refine at_seq ?_
          refine at_region ?_
          refine at_do (does_move rfl) rfl rfl ?_
          refine at_do (does_len (A := A1) (q := ([] : List Itm).length) (c := c1) (by kernel_rfl) (by rw [← hv1]; rfl)) rfl rfl ?_
          refine at_do (does_eql rfl rfl) rfl rfl ?_
          refine at_nil ?_
          refine at_then ?_
          refine at_cond_t rfl (decide_eq_true (by rfl)) ?_
          refine at_seq ?_
          refine at_region ?_
          refine at_do (does_loadagg (i := 1) (k := 5) (by kernel_rfl) rfl rfl rfl) rfl rfl ?_
          refine at_do (does_build (ps := []) (vs := []) (cs := itmV default) shapeItem rfl rfl) rfl rfl ?_
          refine at_do (does_itmneq (x := default) (y := default) rfl rfl) rfl rfl ?_
          refine at_do (does_move rfl) rfl rfl ?_
          refine at_know (t := 67) (d := false) rfl (by rfl) ?_
          refine at_on rfl rfl ?_
          refine at_do (does_move rfl) rfl rfl ?_
          refine at_on rfl rfl ?_
          refine at_do (does_neq rfl rfl) rfl rfl ?_
          refine at_do (does_pick_false rfl rfl) rfl rfl ?_
          refine at_nil ?_
          refine at_then ?_
          refine at_cond_f rfl (decide_eq_false (by omega)) ?_
          refine at_skip ?_
          refine at_then ?_
          refine at_seq ?_
          refine at_seq ?_
          refine at_region ?_
          refine at_do (does_move rfl) rfl rfl ?_
          refine at_do (does_len (A := some ⟨g2, o2, none⟩) (q := (l2 ++ [y]).length) (c := c2) (by kernel_rfl) rfl) rfl rfl ?_
          refine at_do (does_eql rfl rfl) rfl rfl ?_
          refine at_nil ?_
          refine at_then ?_
          refine at_cond_f rfl (decide_eq_false (by omega)) ?_
          refine at_skip ?_
          refine at_then ?_
          refine at_seq ?_
          rotate_left
          apply at_drawR0 16 [.val _, .val _, .val _, .val _, .val _, .val _, .val _, .val _, .val _, .val _, .val _, .val _, .val _, .val _, .val _, .val _] (by kernel_rfl) (by kernel_rfl) rfl ⟨trivial, trivial, trivial, trivial, trivial, trivial, trivial, trivial, trivial, trivial, trivial, trivial, trivial, trivial, trivial, trivial, trivial⟩
          · refine so_cons rfl (fun vs => ?_) ?_
            exact step1_does (does_loadagg (i := 0) (k := 5) (by kernel_rfl) rfl rfl rfl)
            refine so_cons rfl (fun vs => ?_) ?_
            exact step1_does (does_move rfl)
            refine so_cons rfl (fun vs => ?_) ?_
            exact step1_does (does_move rfl)
            refine so_cons rfl (fun vs => ?_) ?_
            exact step1_does (does_len (A := some ⟨g2, o2, none⟩) (q := (l2 ++ [y]).length) (c := c2) (by kernel_rfl) rfl)
            refine so_cons rfl (fun vs => ?_) ?_
            exact step1_does (hm1 ▸ does_subi rfl rfl (by omega))
            refine so_cons rfl (fun vs => ?_) ?_
            exact step1_does (does_indexAddrk (k := 5) (j := l2.length) (by kernel_rfl) rfl rfl hlt2)
            refine so_cons rfl (fun vs => ?_) ?_
            exact step1_does (does_loadagg_mem (vs := itmV y) (by kernel_rfl) rfl (fun w' ho => (hIy ho.base).agg))
            refine so_cons rfl (fun vs => ?_) ?_
            exact step1_does (does_itmeql (x := y) (y := y) rfl rfl)
            refine so_cons rfl (fun vs => ?_) ?_
            exact step1_does (does_move rfl)
            refine so_on rfl rfl (fun vs => rfl) (by (simp [wantB])) (fun vs => ?_) ?_
            exact step1_does (does_move rfl)
            refine so_on rfl rfl (fun vs => rfl) (by (simp [wantB])) (fun vs => ?_) ?_
            exact step1_does (does_eql rfl rfl)
            refine so_cons rfl (fun vs => ?_) ?_
            exact step1_does (does_pickb rfl rfl rfl)
            refine so_cons rfl (fun vs => ?_) ?_
            exact step1_does (does_move rfl)
            refine so_on rfl rfl (fun vs => rfl) (by (simp [wantB])) (fun vs => ?_) ?_
            exact step1_call (f := 11) (enters_fn (by kernel_rfl) rfl) (fun w ho hx => law_awake w (ho.glob hG id) (ho.maxl hM id))
            refine so_cons rfl (fun vs => ?_) ?_
            exact step1_does (does_pickb rfl rfl rfl)
            refine so_cons rfl (fun vs => ?_) ?_
            exact step1_does (does_assign rfl)
            exact so_nil
          · intro vs9
            refine at_nil ?_
            refine at_then ?_
            refine at_ret ?_
            refine at_ret1 rfl rfl rfl (fun w9 ho9 => ?_)
            rotate_left
            exact ⟨ret_bool (by simp), ho9.plain⟩
      | cons a l =>
        obtain rfl : x = a := hx
        obtain rfl : ex = 0 := by rw [hex, if_neg (by simp)]
        obtain ⟨g1, o1, c1, rfl, _, _, hce1⟩ := hI1.1.form (by simp)
        have hIa : ∀ {w'}, Frm w3 (fun k => k ∈ bls [.blk gz1 IT (itmV y).toArray, .blk gz0 IT (itmV x).toArray, .blk gT TT (trunkC ls' vr)]) w' → ItmAt w' g1 (o1 + 0 * 5) x := fun hf => (hce1 0 (Nat.zero_lt_succ _)).move (hI1.2 (Nat.zero_lt_succ _) g1 (by simp [Value.ownBlock])) hf
        have hne1 : ¬ (((x :: l).length : Nat) : Int) = 0 := by simp; omega
        rcases snoc_cases ah with rfl | ⟨l2, y2, rfl⟩
        · obtain rfl : y = default := hy
          obtain rfl : ey = 6 := by rw [hey, if_pos rfl]
          refine at_nil ?_
          refine at_then ?_
          refine at_seq ?_
          refine at_seq ?_
          refine at_region ?_
          refine at_do (does_move rfl) rfl rfl ?_
          refine at_do (does_len (A := some ⟨g1, o1, none⟩) (q := (x :: l).length) (c := c1) (by kernel_rfl) rfl) rfl rfl ?_
          refine at_do (does_eql rfl rfl) rfl rfl ?_
          refine at_nil ?_
          refine at_then ?_
          refine at_cond_f rfl (decide_eq_false (by exact hne1)) ?_
          refine at_seq ?_
          refine at_draw (by kernel_rfl) (by kernel_rfl) ?_
          refine atq_do (does_loadagg (i := 1) (k := 5) (by kernel_rfl) rfl rfl rfl) rfl rfl ?_
          refine atq_do (does_move rfl) rfl rfl ?_
          refine atq_do (does_indexAddrk (k := 5) (j := 0) (by kernel_rfl) rfl rfl (Nat.zero_lt_succ _)) rfl rfl ?_
          refine atq_do (does_loadagg_mem (vs := itmV x) (by kernel_rfl) rfl (fun w' ho => (hIa ho.base).agg)) rfl rfl ?_
          refine atq_do (does_itmneq (x := x) (y := x) rfl rfl) rfl rfl ?_
          refine atq_do (does_move rfl) rfl rfl ?_
          refine atq_know (t := 76) (d := false) rfl (by (simp [wantB])) ?_
          refine atq_on rfl rfl ?_
          refine atq_do (does_move rfl) rfl rfl ?_
          refine atq_on rfl rfl ?_
          refine atq_do (does_neq rfl rfl) rfl rfl ?_
          refine atq_do (does_pick_false rfl rfl) rfl rfl ?_
          refine atq_nil ?_
          refine at_then ?_
          refine at_cond_f rfl (decide_eq_false (by omega)) ?_
          refine at_skip ?_
          refine at_then ?_
          refine at_seq ?_
          refine at_seq ?_
          refine at_region ?_
          refine at_do (does_move rfl) rfl rfl ?_
          refine at_do (does_len (A := A2) (q := ([] : List Itm).length) (c := c2) (by kernel_rfl) (by rw [← hv2]; rfl)) rfl rfl ?_
          refine at_do (does_eql rfl rfl) rfl rfl ?_
          refine at_nil ?_
          refine at_then ?_
          refine at_cond_t rfl (decide_eq_true (by rfl)) ?_
          refine at_seq ?_
          refine at_region ?_
          refine at_do (does_loadagg (i := 0) (k := 5) (by kernel_rfl) rfl rfl rfl) rfl rfl ?_
          refine at_do (does_build (ps := []) (vs := []) (cs := itmV default) shapeItem rfl rfl) rfl rfl ?_
          refine at_do (does_itmeql (x := default) (y := default) rfl rfl) rfl rfl ?_
          refine at_do (does_move rfl) rfl rfl ?_
          refine at_know (t := 86) (d := true) rfl (decide_eq_true (by rfl)) ?_
          refine at_on rfl rfl ?_
          refine at_do (does_move rfl) rfl rfl ?_
          refine at_on rfl rfl ?_
          refine at_do (does_eql rfl rfl) rfl rfl ?_
          refine at_do (does_pick_true rfl rfl) rfl rfl ?_
          refine at_do (does_move rfl) rfl rfl ?_
          refine at_know (t := 90) (d := true) rfl (decide_eq_true (by omega)) ?_
          refine at_on rfl rfl ?_
          refine at_callv (f := 11) (enters_fn (by kernel_rfl) rfl) (fun w ho => law_awake w (ho.glob hG id) (ho.maxl hM id)) rfl rfl ?_
          refine at_do (does_pick_true rfl rfl) rfl rfl ?_
          refine at_do (does_assign rfl) rfl rfl ?_
          refine at_nil ?_
          refine at_then ?_
          refine at_ret ?_
          refine at_then_ret ?_
          refine at_ret1 rfl rfl rfl (fun w9 ho9 => ?_)
          rotate_left
          exact ⟨ret_bool rfl, ho9.plain⟩
        · obtain rfl : y = y2 := by rw [hy]; simp
          obtain rfl : ey = 0 := by rw [hey, if_neg (by simp)]
          obtain ⟨g2, o2, c2, rfl, _, _, hce2⟩ := hI2.1.form (by simp)
          have hlt2 : l2.length < (l2 ++ [y]).length := by simp
          have hm1 : (((l2 ++ [y]).length : Nat) : Int) - 1 = ((l2.length : Nat) : Int) := by simp
          have hIy : ∀ {w'}, Frm w3 (fun k => k ∈ bls [.blk gz1 IT (itmV y).toArray, .blk gz0 IT (itmV x).toArray, .blk gT TT (trunkC ls' vr)]) w' → ItmAt w' g2 (o2 + l2.length * 5) y := fun hf => by
            have := hce2 l2.length hlt2
            rw [show (l2 ++ [y])[l2.length] = y by simp] at this
            exact this.move (hI2.2 (by simp) g2 (by simp [Value.ownBlock])) hf
          have hne : ¬ (((l2 ++ [y]).length : Nat) : Int) = 0 := by simp; omega
          refine at_nil ?_
          refine at_then ?_
          refine at_seq ?_
          refine at_seq ?_
          refine at_region ?_
          refine at_do (does_move rfl) rfl rfl ?_
          refine at_do (does_len (A := some ⟨g1, o1, none⟩) (q := (x :: l).length) (c := c1) (by kernel_rfl) rfl) rfl rfl ?_
          refine at_do (does_eql rfl rfl) rfl rfl ?_
          refine at_nil ?_
          refine at_then ?_
          refine at_cond_f rfl (decide_eq_false (by exact hne1)) ?_
          refine at_seq ?_
          refine at_draw (by kernel_rfl) (by kernel_rfl) ?_
          refine atq_do (does_loadagg (i := 1) (k := 5) (by kernel_rfl) rfl rfl rfl) rfl rfl ?_
          refine atq_do (does_move rfl) rfl rfl ?_
          refine atq_do (does_indexAddrk (k := 5) (j := 0) (by kernel_rfl) rfl rfl (Nat.zero_lt_succ _)) rfl rfl ?_
          refine atq_do (does_loadagg_mem (vs := itmV x) (by kernel_rfl) rfl (fun w' ho => (hIa ho.base).agg)) rfl rfl ?_
          refine atq_do (does_itmneq (x := x) (y := x) rfl rfl) rfl rfl ?_
          refine atq_do (does_move rfl) rfl rfl ?_
          refine atq_know (t := 76) (d := false) rfl (by (simp [wantB])) ?_
          refine atq_on rfl rfl ?_
          refine atq_do (does_move rfl) rfl rfl ?_
          refine atq_on rfl rfl ?_
          refine atq_do (does_neq rfl rfl) rfl rfl ?_
          refine atq_do (does_pick_false rfl rfl) rfl rfl ?_
          refine atq_nil ?_
          refine at_then ?_
          refine at_cond_f rfl (decide_eq_false (by omega)) ?_
          refine at_skip ?_
          refine at_then ?_
          refine at_seq ?_
          refine at_seq ?_
          refine at_region ?_
          refine at_do (does_move rfl) rfl rfl ?_
          refine at_do (does_len (A := some ⟨g2, o2, none⟩) (q := (l2 ++ [y]).length) (c := c2) (by kernel_rfl) rfl) rfl rfl ?_
          refine at_do (does_eql rfl rfl) rfl rfl ?_
          refine at_nil ?_
          refine at_then ?_
          refine at_cond_f rfl (decide_eq_false (by omega)) ?_
          refine at_skip ?_
          refine at_then ?_
          refine at_seq ?_
          rotate_left
          apply at_drawR0 16 [.val _, .val _, .val _, .val _, .val _, .val _, .val _, .val _, .val _, .val _, .val _, .val _, .val _, .val _, .val _, .val _] (by kernel_rfl) (by kernel_rfl) rfl ⟨trivial, trivial, trivial, trivial, trivial, trivial, trivial, trivial, trivial, trivial, trivial, trivial, trivial, trivial, trivial, trivial, trivial⟩
          · refine so_cons rfl (fun vs => ?_) ?_
            exact step1_does (does_loadagg (i := 0) (k := 5) (by kernel_rfl) rfl rfl rfl)
            refine so_cons rfl (fun vs => ?_) ?_
            exact step1_does (does_move rfl)
            refine so_cons rfl (fun vs => ?_) ?_
            exact step1_does (does_move rfl)
            refine so_cons rfl (fun vs => ?_) ?_
            exact step1_does (does_len (A := some ⟨g2, o2, none⟩) (q := (l2 ++ [y]).length) (c := c2) (by kernel_rfl) rfl)
            refine so_cons rfl (fun vs => ?_) ?_
            exact step1_does (hm1 ▸ does_subi rfl rfl (by omega))
            refine so_cons rfl (fun vs => ?_) ?_
            exact step1_does (does_indexAddrk (k := 5) (j := l2.length) (by kernel_rfl) rfl rfl hlt2)
            refine so_cons rfl (fun vs => ?_) ?_
            exact step1_does (does_loadagg_mem (vs := itmV y) (by kernel_rfl) rfl (fun w' ho => (hIy ho.base).agg))
            refine so_cons rfl (fun vs => ?_) ?_
            exact step1_does (does_itmeql (x := y) (y := y) rfl rfl)
            refine so_cons rfl (fun vs => ?_) ?_
            exact step1_does (does_move rfl)
            refine so_on rfl rfl (fun vs => rfl) (by (simp [wantB])) (fun vs => ?_) ?_
            exact step1_does (does_move rfl)
            refine so_on rfl rfl (fun vs => rfl) (by (simp [wantB])) (fun vs => ?_) ?_
            exact step1_does (does_eql rfl rfl)
            refine so_cons rfl (fun vs => ?_) ?_
            exact step1_does (does_pickb rfl rfl rfl)
            refine so_cons rfl (fun vs => ?_) ?_
            exact step1_does (does_move rfl)
            refine so_on rfl rfl (fun vs => rfl) (by (simp [wantB])) (fun vs => ?_) ?_
            exact step1_call (f := 11) (enters_fn (by kernel_rfl) rfl) (fun w ho hx => law_awake w (ho.glob hG id) (ho.maxl hM id))
            refine so_cons rfl (fun vs => ?_) ?_
            exact step1_does (does_pickb rfl rfl rfl)
            refine so_cons rfl (fun vs => ?_) ?_
            exact step1_does (does_assign rfl)
            exact so_nil
          · intro vs9
            refine at_nil ?_
            refine at_then ?_
            refine at_ret ?_
            refine at_ret1 rfl rfl rfl (fun w9 ho9 => ?_)
            rotate_left
            exact ⟨ret_bool (by simp), ho9.plain⟩
  · rw [(headE_no (e := errW fc vr k' []) (by rw [keyOk_empty.1]; exact he)).1, (headE_no (e := errW fc vr k' []) (by rw [keyOk_empty.1]; exact he)).2, keyOk_empty.1] at cF
    rw [(headE_no (e := errW fc vr [] k') (by rw [keyOk_empty.2]; exact he)).1, (headE_no (e := errW fc vr [] k') (by rw [keyOk_empty.2]; exact he)).2, keyOk_empty.2] at cL
    refine at_do (does_move rfl) rfl rfl ?_
    refine at_callv (f := 8) (enters_fn (by kernel_rfl) rfl) (fun w ho => cK w) rfl rfl ?_
    refine at_storeagg (i := 0) (h := gT) (cs := trunkC ls vr) (vs := trunkC ls' vr) (by rw [h32']; kernel_rfl) rfl rfl hall rfl (by rw [h32, h32']) ?_
    refine at_do (does_assign rfl) rfl rfl ?_
    refine at_nil ?_
    refine at_then ?_
    refine at_seq ?_
    refine at_region ?_
    refine at_do (does_loadagg (i := 0) (k := 32) (by kernel_rfl) rfl rfl h32') rfl rfl ?_
    refine at_do (does_move rfl) rfl rfl ?_
    refine at_callv (f := 14) (enters_fn (by kernel_rfl) rfl) (fun w ho => cF (cT (ho.base.mono fun k _ hk => by simpa [bls, Res.blocks, Ctx.re] using hk) (ho.glob hG id))) rfl rfl ?_
    refine at_do (does_move rfl) rfl rfl ?_
    refine at_do (does_extract rfl rfl) rfl rfl ?_
    refine at_do (does_extract rfl rfl) rfl rfl ?_
    refine at_allocagg Tryd.zeroValue43 rfl fun gz0 => ?_
    refine at_storeagg (i := 0) (by kernel_rfl) rfl rfl rfl rfl rfl ?_
    refine at_do (does_assign rfl) rfl rfl ?_
    refine at_nil ?_
    refine at_then ?_
    refine at_seq ?_
    refine at_region ?_
    refine at_do (does_loadagg (i := 1) (k := 32) (by kernel_rfl) rfl rfl h32') rfl rfl ?_
    refine at_do (does_move rfl) rfl rfl ?_
    refine at_callv (f := 15) (enters_fn (by kernel_rfl) rfl) (fun w ho => cL (cT (ho.base.mono fun k _ hk => by simpa [bls, Res.blocks, Ctx.re] using hk) (ho.glob hG id))) rfl rfl ?_
    refine at_do (does_move rfl) rfl rfl ?_
    refine at_do (does_extract rfl rfl) rfl rfl ?_
    refine at_do (does_extract rfl rfl) rfl rfl ?_
    refine at_allocagg Tryd.zeroValue43 rfl fun gz1 => ?_
    refine at_storeagg (i := 0) (by kernel_rfl) rfl rfl rfl rfl rfl ?_
    refine at_do (does_assign rfl) rfl rfl ?_
    refine at_nil ?_
    refine at_then ?_
    refine at_seq ?_
    refine at_seq ?_
    refine at_region ?_
    refine at_do (does_loadagg (i := 2) (k := 32) (by kernel_rfl) rfl rfl h32') rfl rfl ?_
    refine at_do (does_move rfl) rfl rfl ?_
    refine at_do (does_move rfl) rfl rfl ?_
    refine at_callv (f := 10) (enters_fn (by kernel_rfl) rfl) (fun w ho => cW (cT (ho.base.mono fun k _ hk => by simpa [bls, Res.blocks, Ctx.re] using hk) (ho.glob hG id))) rfl rfl ?_
    refine at_do (does_assign rfl) rfl rfl ?_
    refine at_nil ?_
    refine at_then ?_
    refine at_seq ?_
    refine at_region ?_
    refine at_do (does_move rfl) rfl rfl ?_
    refine at_do (does_neq rfl rfl) rfl rfl ?_
    refine at_nil ?_
    refine at_then ?_
    refine at_cond_t rfl (decide_eq_true (by simpa using he)) ?_
    refine at_seq ?_
    refine at_region ?_
    refine at_do (does_loadagg (i := 1) (k := 5) (by kernel_rfl) rfl rfl rfl) rfl rfl ?_
    refine at_do (does_build (ps := []) (vs := []) (cs := itmV default) shapeItem rfl rfl) rfl rfl ?_
    refine at_do (does_itmeql (x := default) (y := default) rfl rfl) rfl rfl ?_
    refine at_do (does_move rfl) rfl rfl ?_
    refine at_know (t := 37) (d := true) rfl (decide_eq_true (by rfl)) ?_
    refine at_on rfl rfl ?_
    refine at_do (does_loadagg (i := 0) (k := 5) (by kernel_rfl) rfl rfl rfl) rfl rfl ?_
    refine at_on rfl rfl ?_
    refine at_do (does_build (ps := []) (vs := []) (cs := itmV default) shapeItem rfl rfl) rfl rfl ?_
    refine at_on rfl rfl ?_
    refine at_do (does_itmeql (x := default) (y := default) rfl rfl) rfl rfl ?_
    refine at_do (does_pick_true rfl rfl) rfl rfl ?_
    refine at_do (does_move rfl) rfl rfl ?_
    refine at_know (t := 42) (d := true) rfl (decide_eq_true (by rfl)) ?_
    refine at_on rfl rfl ?_
    refine at_do (does_move rfl) rfl rfl ?_
    refine at_on rfl rfl ?_
    refine at_do (does_move rfl) rfl rfl ?_
    refine at_on rfl rfl ?_
    refine at_do (does_eql rfl rfl) rfl rfl ?_
    refine at_do (does_pick_true rfl rfl) rfl rfl ?_
    refine at_do (does_move rfl) rfl rfl ?_
    refine at_know (t := 47) (d := true) rfl (decide_eq_true (by rfl)) ?_
    refine at_on rfl rfl ?_
    refine at_do (does_move rfl) rfl rfl ?_
    refine at_on rfl rfl ?_
    refine at_do (does_move rfl) rfl rfl ?_
    refine at_on rfl rfl ?_
    refine at_do (does_eql rfl rfl) rfl rfl ?_
    refine at_do (does_pick_true rfl rfl) rfl rfl ?_
    refine at_do (does_move rfl) rfl rfl ?_
    refine at_know (t := 52) (d := true) rfl (decide_eq_true (by rfl)) ?_
    refine at_on rfl rfl ?_
    refine at_callv (f := 11) (enters_fn (by kernel_rfl) rfl) (fun w ho => law_awake w (ho.glob hG id) (ho.maxl hM id)) rfl rfl ?_
    refine at_do (does_pick_true rfl rfl) rfl rfl ?_
    refine at_do (does_assign rfl) rfl rfl ?_
    refine at_nil ?_
    refine at_then ?_
    refine at_ret ?_
    refine at_then_ret ?_
    refine at_ret1 rfl rfl rfl (fun w9 ho9 => ?_)
    rotate_left
    exact ⟨ret_bool rfl, ho9.plain⟩
end Go.Proofs.YtjpfebgpcokenaaDoor
