/-
  What each function of the clock's package and of its reference gives at any clock. No condition of its own.
-/
import Derived.Test.YtfpnileacpbocaaClock2
set_option linter.unusedSimpArgs false
set_option linter.unusedVariables false
namespace Go.Proofs.Ytfpnileacpbocaa
open Go.RowKit

theorem sel_below {w w' : World} (h : Sel (fun _ => False) w w') : Below w.heap.size w w' := h.below (fun _ _ h => h) (Nat.le_refl _)
theorem none_small {w : World} : ∀ j, (fun _ : Nat => False) j → j < w.heap.size := fun _ h => h.elim


theorem start_yes (now wait base cap : Int) (on : Bool) (due : Int) (w : World) (hm : mayB now wait base cap on due = true) :
    Calls Try.prog 14 #[ck now wait base cap on due] w fun e w' => e = .returned (.tuple #[ck now wait base cap true (now + wait), .int .i64 0]) ∧ Below w.heap.size w w' := by
  have hM := (may_iff _ _ _ _ _ _).1 hm
  have hm' := Lib.hid hm
  clear hm
  go_enter Try.func14, Try.ntmps14
  go_wp2_with fail
  refine (with_yes 24 #[] (fun _ => False) (fun _ _ _ => False) enter24 now wait base cap on due _ _ _ _ _ _ _ hm'.out none_small (fun _ _ _ h => h.elim) (fun W hb hB => Calls.mono (start1 now wait base cap on due _ hM _ W hb (Nat.le_refl _) hB) fun e w' h => ⟨h.1, h.2.1, h.2.2, fun _ _ _ h => h.elim⟩)).mono ?_
  rintro e w1 ⟨rfl, hs, _⟩
  have hb := sel_below hs
  clear hs hM
  have hB : Blk w1 (w.heap.size + 1) 23 (ckCells 0 0 0 0 false 0) := by simpa using (Blk.new (w.alloc _) 23 (ckCells 0 0 0 0 false 0)).belowAll hb

  have hbw : Below w.heap.size w w1 := below_after (by go_grown) (by simp; omega) hb
  have hz1 := hb.size
  simp at hz1
  have hz : w.heap.size < w1.heap.size := by omega
  clear hb
  have d0 := Blk.cell hB 0
  have d1 := Blk.cell hB 1
  have d2 := Blk.cell hB 2
  have d3 := Blk.cell hB 3
  have d4 := Blk.cell hB 4
  have d5 := Blk.cell hB 5
  have df0 := Blk.free hB 0
  have df1 := Blk.free hB 1
  have df2 := Blk.free hB 2
  have df3 := Blk.free hB 3
  have df4 := Blk.free hB 4
  have df5 := Blk.free hB 5
  simp only [ckCells, List.getElem?_toArray, List.getElem?_cons_zero, List.getElem?_cons_succ] at d0 d1 d2 d3 d4 d5
  have HB := Lib.hid hB
  clear hB


  go_wp2_with fail
  refine bodyPost_ret (v := .tuple #[ck now wait base cap true (now + wait), .int .i64 0]) (by simp [results, Try.results14, go_sem, d0, d1, d2, d3, d4, d5]) rfl ⟨rfl, ?_⟩
  go_grown

theorem stop_yes (now wait base cap : Int) (on : Bool) (due : Int) (w : World) (hm : mayB now wait base cap on due = true) :
    Calls Try.prog 18 #[ck now wait base cap on due] w fun e w' => e = .returned (.tuple #[ck now wait base cap false 0, .int .i64 0]) ∧ Below w.heap.size w w' := by
  have hM := (may_iff _ _ _ _ _ _).1 hm
  have hm' := Lib.hid hm
  clear hm
  go_enter Try.func18, Try.ntmps18
  go_wp2_with fail
  refine (with_yes 28 #[] (fun _ => False) (fun _ _ _ => False) enter28 now wait base cap on due _ _ _ _ _ _ _ hm'.out none_small (fun _ _ _ h => h.elim) (fun W hb hB => Calls.mono (stop1 now wait base cap on due _ _ W hb (Nat.le_refl _) hB) fun e w' h => ⟨h.1, h.2.1, h.2.2, fun _ _ _ h => h.elim⟩)).mono ?_
  rintro e w1 ⟨rfl, hs, _⟩
  have hb := sel_below hs
  clear hs hM
  have hB : Blk w1 (w.heap.size + 1) 23 (ckCells 0 0 0 0 false 0) := by simpa using (Blk.new (w.alloc _) 23 (ckCells 0 0 0 0 false 0)).belowAll hb

  have hbw : Below w.heap.size w w1 := below_after (by go_grown) (by simp; omega) hb
  have hz1 := hb.size
  simp at hz1
  have hz : w.heap.size < w1.heap.size := by omega
  clear hb
  have d0 := Blk.cell hB 0
  have d1 := Blk.cell hB 1
  have d2 := Blk.cell hB 2
  have d3 := Blk.cell hB 3
  have d4 := Blk.cell hB 4
  have d5 := Blk.cell hB 5
  have df0 := Blk.free hB 0
  have df1 := Blk.free hB 1
  have df2 := Blk.free hB 2
  have df3 := Blk.free hB 3
  have df4 := Blk.free hB 4
  have df5 := Blk.free hB 5
  simp only [ckCells, List.getElem?_toArray, List.getElem?_cons_zero, List.getElem?_cons_succ] at d0 d1 d2 d3 d4 d5
  have HB := Lib.hid hB
  clear hB


  go_wp2_with fail
  refine bodyPost_ret (v := .tuple #[ck now wait base cap false 0, .int .i64 0]) (by simp [results, Try.results18, go_sem, d0, d1, d2, d3, d4, d5]) rfl ⟨rfl, ?_⟩
  go_grown

theorem double_yes (now wait base cap : Int) (on : Bool) (due : Int) (w : World) (hm : mayB now wait base cap on due = true) :
    Calls Try.prog 16 #[ck now wait base cap on due] w fun e w' => e = .returned (.tuple #[ck now (less (2 * wait) cap) base cap on due, .int .i64 0]) ∧ Below w.heap.size w w' := by
  have hM := (may_iff _ _ _ _ _ _).1 hm
  have hm' := Lib.hid hm
  clear hm
  go_enter Try.func16, Try.ntmps16
  go_wp2_with fail
  refine (with_yes 26 #[] (fun _ => False) (fun _ _ _ => False) enter26 now wait base cap on due _ _ _ _ _ _ _ hm'.out none_small (fun _ _ _ h => h.elim) (fun W hb hB => Calls.mono (double1 now wait base cap on due _ hM _ W hb (Nat.le_refl _) hB) fun e w' h => ⟨h.1, h.2.1, h.2.2, fun _ _ _ h => h.elim⟩)).mono ?_
  rintro e w1 ⟨rfl, hs, _⟩
  have hb := sel_below hs
  clear hs hM
  have hB : Blk w1 (w.heap.size + 1) 23 (ckCells 0 0 0 0 false 0) := by simpa using (Blk.new (w.alloc _) 23 (ckCells 0 0 0 0 false 0)).belowAll hb

  have hbw : Below w.heap.size w w1 := below_after (by go_grown) (by simp; omega) hb
  have hz1 := hb.size
  simp at hz1
  have hz : w.heap.size < w1.heap.size := by omega
  clear hb
  have d0 := Blk.cell hB 0
  have d1 := Blk.cell hB 1
  have d2 := Blk.cell hB 2
  have d3 := Blk.cell hB 3
  have d4 := Blk.cell hB 4
  have d5 := Blk.cell hB 5
  have df0 := Blk.free hB 0
  have df1 := Blk.free hB 1
  have df2 := Blk.free hB 2
  have df3 := Blk.free hB 3
  have df4 := Blk.free hB 4
  have df5 := Blk.free hB 5
  simp only [ckCells, List.getElem?_toArray, List.getElem?_cons_zero, List.getElem?_cons_succ] at d0 d1 d2 d3 d4 d5
  have HB := Lib.hid hB
  clear hB


  go_wp2_with fail
  refine bodyPost_ret (v := .tuple #[ck now (less (2 * wait) cap) base cap on due, .int .i64 0]) (by simp [results, Try.results16, go_sem, d0, d1, d2, d3, d4, d5]) rfl ⟨rfl, ?_⟩
  go_grown

theorem reset_yes_on (now wait base cap : Int) (due : Int) (w : World) (hm : mayB now wait base cap true due = true) :
    Calls Try.prog 17 #[ck now wait base cap true due] w fun e w' => e = .returned (.tuple #[ck now base base cap true (less due (now + base)), .int .i64 0]) ∧ Below w.heap.size w w' := by
  have hM := (may_iff _ _ _ _ _ _).1 hm
  have hm' := Lib.hid hm
  clear hm
  go_enter Try.func17, Try.ntmps17
  go_wp2_with fail
  refine (with_yes 27 #[] (fun _ => False) (fun _ _ _ => False) enter27 now wait base cap true due _ _ _ _ _ _ _ hm'.out none_small (fun _ _ _ h => h.elim) (fun W hb hB => Calls.mono (reset1_on now wait base cap due _ hM _ W hb (Nat.le_refl _) hB) fun e w' h => ⟨h.1, h.2.1, h.2.2, fun _ _ _ h => h.elim⟩)).mono ?_
  rintro e w1 ⟨rfl, hs, _⟩
  have hb := sel_below hs
  clear hs hM
  have hB : Blk w1 (w.heap.size + 1) 23 (ckCells 0 0 0 0 false 0) := by simpa using (Blk.new (w.alloc _) 23 (ckCells 0 0 0 0 false 0)).belowAll hb

  have hbw : Below w.heap.size w w1 := below_after (by go_grown) (by simp; omega) hb
  have hz1 := hb.size
  simp at hz1
  have hz : w.heap.size < w1.heap.size := by omega
  clear hb
  have d0 := Blk.cell hB 0
  have d1 := Blk.cell hB 1
  have d2 := Blk.cell hB 2
  have d3 := Blk.cell hB 3
  have d4 := Blk.cell hB 4
  have d5 := Blk.cell hB 5
  have df0 := Blk.free hB 0
  have df1 := Blk.free hB 1
  have df2 := Blk.free hB 2
  have df3 := Blk.free hB 3
  have df4 := Blk.free hB 4
  have df5 := Blk.free hB 5
  simp only [ckCells, List.getElem?_toArray, List.getElem?_cons_zero, List.getElem?_cons_succ] at d0 d1 d2 d3 d4 d5
  have HB := Lib.hid hB
  clear hB


  go_wp2_with fail
  refine bodyPost_ret (v := .tuple #[ck now base base cap true (less due (now + base)), .int .i64 0]) (by simp [results, Try.results17, go_sem, d0, d1, d2, d3, d4, d5]) rfl ⟨rfl, ?_⟩
  go_grown

theorem reset_yes_off (now wait base cap : Int) (due : Int) (w : World) (hm : mayB now wait base cap false due = true) :
    Calls Try.prog 17 #[ck now wait base cap false due] w fun e w' => e = .returned (.tuple #[ck now base base cap false due, .int .i64 0]) ∧ Below w.heap.size w w' := by
  have hM := (may_iff _ _ _ _ _ _).1 hm
  have hm' := Lib.hid hm
  clear hm
  go_enter Try.func17, Try.ntmps17
  go_wp2_with fail
  refine (with_yes 27 #[] (fun _ => False) (fun _ _ _ => False) enter27 now wait base cap false due _ _ _ _ _ _ _ hm'.out none_small (fun _ _ _ h => h.elim) (fun W hb hB => Calls.mono (reset1_off now wait base cap due _ _ W hb (Nat.le_refl _) hB) fun e w' h => ⟨h.1, h.2.1, h.2.2, fun _ _ _ h => h.elim⟩)).mono ?_
  rintro e w1 ⟨rfl, hs, _⟩
  have hb := sel_below hs
  clear hs hM
  have hB : Blk w1 (w.heap.size + 1) 23 (ckCells 0 0 0 0 false 0) := by simpa using (Blk.new (w.alloc _) 23 (ckCells 0 0 0 0 false 0)).belowAll hb

  have hbw : Below w.heap.size w w1 := below_after (by go_grown) (by simp; omega) hb
  have hz1 := hb.size
  simp at hz1
  have hz : w.heap.size < w1.heap.size := by omega
  clear hb
  have d0 := Blk.cell hB 0
  have d1 := Blk.cell hB 1
  have d2 := Blk.cell hB 2
  have d3 := Blk.cell hB 3
  have d4 := Blk.cell hB 4
  have d5 := Blk.cell hB 5
  have df0 := Blk.free hB 0
  have df1 := Blk.free hB 1
  have df2 := Blk.free hB 2
  have df3 := Blk.free hB 3
  have df4 := Blk.free hB 4
  have df5 := Blk.free hB 5
  simp only [ckCells, List.getElem?_toArray, List.getElem?_cons_zero, List.getElem?_cons_succ] at d0 d1 d2 d3 d4 d5
  have HB := Lib.hid hB
  clear hB


  go_wp2_with fail
  refine bodyPost_ret (v := .tuple #[ck now base base cap false due, .int .i64 0]) (by simp [results, Try.results17, go_sem, d0, d1, d2, d3, d4, d5]) rfl ⟨rfl, ?_⟩
  go_grown

theorem start_no (now wait base cap : Int) (on : Bool) (due : Int) (w : World) (hm : mayB now wait base cap on due = false) :
    Calls Try.prog 14 #[ck now wait base cap on due] w fun e w' => e = .returned (.tuple #[ck 0 0 0 0 false 0, .int .i64 1]) ∧ Below w.heap.size w w' := by
  have hm' := Lib.hid hm
  clear hm
  go_enter Try.func14, Try.ntmps14
  go_wp2_with fail
  refine (with_no now wait base cap on due _ _ hm'.out).mono ?_
  rintro e w1 ⟨rfl, hb⟩
  have hB : Blk w1 (w.heap.size + 1) 23 (ckCells 0 0 0 0 false 0) := by simpa using (Blk.new (w.alloc _) 23 (ckCells 0 0 0 0 false 0)).belowAll hb

  have hbw : Below w.heap.size w w1 := below_after (by go_grown) (by simp; omega) hb
  have hz1 := hb.size
  simp at hz1
  have hz : w.heap.size < w1.heap.size := by omega
  clear hb
  have d0 := Blk.cell hB 0
  have d1 := Blk.cell hB 1
  have d2 := Blk.cell hB 2
  have d3 := Blk.cell hB 3
  have d4 := Blk.cell hB 4
  have d5 := Blk.cell hB 5
  have df0 := Blk.free hB 0
  have df1 := Blk.free hB 1
  have df2 := Blk.free hB 2
  have df3 := Blk.free hB 3
  have df4 := Blk.free hB 4
  have df5 := Blk.free hB 5
  simp only [ckCells, List.getElem?_toArray, List.getElem?_cons_zero, List.getElem?_cons_succ] at d0 d1 d2 d3 d4 d5
  have HB := Lib.hid hB
  clear hB


  go_wp2_with fail
  refine bodyPost_ret (v := .tuple #[ck 0 0 0 0 false 0, .int .i64 1]) (by simp [results, Try.results14, go_sem, d0, d1, d2, d3, d4, d5]) rfl ⟨rfl, ?_⟩
  go_grown

theorem stop_no (now wait base cap : Int) (on : Bool) (due : Int) (w : World) (hm : mayB now wait base cap on due = false) :
    Calls Try.prog 18 #[ck now wait base cap on due] w fun e w' => e = .returned (.tuple #[ck 0 0 0 0 false 0, .int .i64 1]) ∧ Below w.heap.size w w' := by
  have hm' := Lib.hid hm
  clear hm
  go_enter Try.func18, Try.ntmps18
  go_wp2_with fail
  refine (with_no now wait base cap on due _ _ hm'.out).mono ?_
  rintro e w1 ⟨rfl, hb⟩
  have hB : Blk w1 (w.heap.size + 1) 23 (ckCells 0 0 0 0 false 0) := by simpa using (Blk.new (w.alloc _) 23 (ckCells 0 0 0 0 false 0)).belowAll hb

  have hbw : Below w.heap.size w w1 := below_after (by go_grown) (by simp; omega) hb
  have hz1 := hb.size
  simp at hz1
  have hz : w.heap.size < w1.heap.size := by omega
  clear hb
  have d0 := Blk.cell hB 0
  have d1 := Blk.cell hB 1
  have d2 := Blk.cell hB 2
  have d3 := Blk.cell hB 3
  have d4 := Blk.cell hB 4
  have d5 := Blk.cell hB 5
  have df0 := Blk.free hB 0
  have df1 := Blk.free hB 1
  have df2 := Blk.free hB 2
  have df3 := Blk.free hB 3
  have df4 := Blk.free hB 4
  have df5 := Blk.free hB 5
  simp only [ckCells, List.getElem?_toArray, List.getElem?_cons_zero, List.getElem?_cons_succ] at d0 d1 d2 d3 d4 d5
  have HB := Lib.hid hB
  clear hB


  go_wp2_with fail
  refine bodyPost_ret (v := .tuple #[ck 0 0 0 0 false 0, .int .i64 1]) (by simp [results, Try.results18, go_sem, d0, d1, d2, d3, d4, d5]) rfl ⟨rfl, ?_⟩
  go_grown

theorem double_no (now wait base cap : Int) (on : Bool) (due : Int) (w : World) (hm : mayB now wait base cap on due = false) :
    Calls Try.prog 16 #[ck now wait base cap on due] w fun e w' => e = .returned (.tuple #[ck 0 0 0 0 false 0, .int .i64 1]) ∧ Below w.heap.size w w' := by
  have hm' := Lib.hid hm
  clear hm
  go_enter Try.func16, Try.ntmps16
  go_wp2_with fail
  refine (with_no now wait base cap on due _ _ hm'.out).mono ?_
  rintro e w1 ⟨rfl, hb⟩
  have hB : Blk w1 (w.heap.size + 1) 23 (ckCells 0 0 0 0 false 0) := by simpa using (Blk.new (w.alloc _) 23 (ckCells 0 0 0 0 false 0)).belowAll hb

  have hbw : Below w.heap.size w w1 := below_after (by go_grown) (by simp; omega) hb
  have hz1 := hb.size
  simp at hz1
  have hz : w.heap.size < w1.heap.size := by omega
  clear hb
  have d0 := Blk.cell hB 0
  have d1 := Blk.cell hB 1
  have d2 := Blk.cell hB 2
  have d3 := Blk.cell hB 3
  have d4 := Blk.cell hB 4
  have d5 := Blk.cell hB 5
  have df0 := Blk.free hB 0
  have df1 := Blk.free hB 1
  have df2 := Blk.free hB 2
  have df3 := Blk.free hB 3
  have df4 := Blk.free hB 4
  have df5 := Blk.free hB 5
  simp only [ckCells, List.getElem?_toArray, List.getElem?_cons_zero, List.getElem?_cons_succ] at d0 d1 d2 d3 d4 d5
  have HB := Lib.hid hB
  clear hB


  go_wp2_with fail
  refine bodyPost_ret (v := .tuple #[ck 0 0 0 0 false 0, .int .i64 1]) (by simp [results, Try.results16, go_sem, d0, d1, d2, d3, d4, d5]) rfl ⟨rfl, ?_⟩
  go_grown

theorem reset_no (now wait base cap : Int) (on : Bool) (due : Int) (w : World) (hm : mayB now wait base cap on due = false) :
    Calls Try.prog 17 #[ck now wait base cap on due] w fun e w' => e = .returned (.tuple #[ck 0 0 0 0 false 0, .int .i64 1]) ∧ Below w.heap.size w w' := by
  have hm' := Lib.hid hm
  clear hm
  go_enter Try.func17, Try.ntmps17
  go_wp2_with fail
  refine (with_no now wait base cap on due _ _ hm'.out).mono ?_
  rintro e w1 ⟨rfl, hb⟩
  have hB : Blk w1 (w.heap.size + 1) 23 (ckCells 0 0 0 0 false 0) := by simpa using (Blk.new (w.alloc _) 23 (ckCells 0 0 0 0 false 0)).belowAll hb

  have hbw : Below w.heap.size w w1 := below_after (by go_grown) (by simp; omega) hb
  have hz1 := hb.size
  simp at hz1
  have hz : w.heap.size < w1.heap.size := by omega
  clear hb
  have d0 := Blk.cell hB 0
  have d1 := Blk.cell hB 1
  have d2 := Blk.cell hB 2
  have d3 := Blk.cell hB 3
  have d4 := Blk.cell hB 4
  have d5 := Blk.cell hB 5
  have df0 := Blk.free hB 0
  have df1 := Blk.free hB 1
  have df2 := Blk.free hB 2
  have df3 := Blk.free hB 3
  have df4 := Blk.free hB 4
  have df5 := Blk.free hB 5
  simp only [ckCells, List.getElem?_toArray, List.getElem?_cons_zero, List.getElem?_cons_succ] at d0 d1 d2 d3 d4 d5
  have HB := Lib.hid hB
  clear hB


  go_wp2_with fail
  refine bodyPost_ret (v := .tuple #[ck 0 0 0 0 false 0, .int .i64 1]) (by simp [results, Try.results17, go_sem, d0, d1, d2, d3, d4, d5]) rfl ⟨rfl, ?_⟩
  go_grown

/-- New. -/
theorem new_yes (base most : Int) (w : World) (hm : mayB 0 base base most false 0 = true) :
    Calls Try.prog 8 #[.int .i64 base, .int .i64 most] w fun e w' => e = .returned (.tuple #[ck 0 base base most false 0, .int .i64 0]) ∧ Below w.heap.size w w' := by
  have hm' := Lib.hid hm
  clear hm
  go_enter Try.func8, Try.ntmps8
  go_wp2_with fail
  refine (may_any 0 base base most false 0 _).mono ?_
  rw [hm'.out]
  rintro e w1 ⟨rfl, hb⟩
  have hB : Blk w1 w.heap.size 23 (ckCells 0 0 0 0 false 0) := ((Blk.new w 23 (ckCells 0 0 0 0 false 0)).alloc _).belowAll hb
  have hC : Blk w1 (w.heap.size + 1) 23 (ckCells 0 base base most false 0) := by simpa using (Blk.new (w.alloc (.cells (ckCells 0 0 0 0 false 0) 23)) 23 (ckCells 0 base base most false 0)).belowAll hb
  have hbw : Below w.heap.size w w1 := below_after (by go_grown) (by simp; omega) hb
  have hz1 := hb.size
  simp at hz1
  have hz : w.heap.size < w1.heap.size := by omega
  clear hb
  have d0 := Blk.cell hB 0
  have d1 := Blk.cell hB 1
  have d2 := Blk.cell hB 2
  have d3 := Blk.cell hB 3
  have d4 := Blk.cell hB 4
  have d5 := Blk.cell hB 5
  have df0 := Blk.free hB 0
  have df1 := Blk.free hB 1
  have df2 := Blk.free hB 2
  have df3 := Blk.free hB 3
  have df4 := Blk.free hB 4
  have df5 := Blk.free hB 5
  simp only [ckCells, List.getElem?_toArray, List.getElem?_cons_zero, List.getElem?_cons_succ] at d0 d1 d2 d3 d4 d5
  have g0 := Blk.cell hC 0
  have g1 := Blk.cell hC 1
  have g2 := Blk.cell hC 2
  have g3 := Blk.cell hC 3
  have g4 := Blk.cell hC 4
  have g5 := Blk.cell hC 5
  simp only [ckCells, List.getElem?_toArray, List.getElem?_cons_zero, List.getElem?_cons_succ] at g0 g1 g2 g3 g4 g5
  have HB := Lib.hid hB
  clear hB
  have HC := Lib.hid hC
  clear hC
  go_wp2_with fail
  refine bodyPost_ret (v := .tuple #[ck 0 base base most false 0, .int .i64 0]) (by simp [results, Try.results8, go_sem, d0, d1, d2, d3, d4, d5]) rfl ⟨rfl, ?_⟩
  go_grown

theorem new_no (base most : Int) (w : World) (hm : mayB 0 base base most false 0 = false) :
    Calls Try.prog 8 #[.int .i64 base, .int .i64 most] w fun e w' => e = .returned (.tuple #[ck 0 0 0 0 false 0, .int .i64 1]) ∧ Below w.heap.size w w' := by
  have hm' := Lib.hid hm
  clear hm
  go_enter Try.func8, Try.ntmps8
  go_wp2_with fail
  refine (may_any 0 base base most false 0 _).mono ?_
  rw [hm'.out]
  rintro e w1 ⟨rfl, hb⟩
  have hB : Blk w1 w.heap.size 23 (ckCells 0 0 0 0 false 0) := ((Blk.new w 23 (ckCells 0 0 0 0 false 0)).alloc _).belowAll hb
  have hC : Blk w1 (w.heap.size + 1) 23 (ckCells 0 base base most false 0) := by simpa using (Blk.new (w.alloc (.cells (ckCells 0 0 0 0 false 0) 23)) 23 (ckCells 0 base base most false 0)).belowAll hb
  have hbw : Below w.heap.size w w1 := below_after (by go_grown) (by simp; omega) hb
  have hz1 := hb.size
  simp at hz1
  have hz : w.heap.size < w1.heap.size := by omega
  clear hb
  have d0 := Blk.cell hB 0
  have d1 := Blk.cell hB 1
  have d2 := Blk.cell hB 2
  have d3 := Blk.cell hB 3
  have d4 := Blk.cell hB 4
  have d5 := Blk.cell hB 5
  have df0 := Blk.free hB 0
  have df1 := Blk.free hB 1
  have df2 := Blk.free hB 2
  have df3 := Blk.free hB 3
  have df4 := Blk.free hB 4
  have df5 := Blk.free hB 5
  simp only [ckCells, List.getElem?_toArray, List.getElem?_cons_zero, List.getElem?_cons_succ] at d0 d1 d2 d3 d4 d5
  have g0 := Blk.cell hC 0
  have g1 := Blk.cell hC 1
  have g2 := Blk.cell hC 2
  have g3 := Blk.cell hC 3
  have g4 := Blk.cell hC 4
  have g5 := Blk.cell hC 5
  simp only [ckCells, List.getElem?_toArray, List.getElem?_cons_zero, List.getElem?_cons_succ] at g0 g1 g2 g3 g4 g5
  have HB := Lib.hid hB
  clear hB
  have HC := Lib.hid hC
  clear hC
  go_wp2_with fail
  refine bodyPost_ret (v := .tuple #[ck 0 0 0 0 false 0, .int .i64 1]) (by simp [results, Try.results8, go_sem, d0, d1, d2, d3, d4, d5]) rfl ⟨rfl, ?_⟩
  go_grown

/-- How many ticks remain. -/
def leftI (now wait base cap : Int) (on : Bool) (due : Int) : Int := if mayB now wait base cap on due = true ∧ on = true then due - now else 0

theorem left_any (now wait base cap : Int) (on : Bool) (due : Int) (w : World) :
    Calls Try.prog 12 #[ck now wait base cap on due] w fun e w' => e = .returned (.int .i64 (leftI now wait base cap on due)) ∧ Below w.heap.size w w' := by
  by_cases hm : mayB now wait base cap on due = true
  · obtain ⟨a1, a2, a3, a4, a5, a6, a7, a8⟩ := (may_iff _ _ _ _ _ _).1 hm
    have hm' := Lib.hid hm
    clear hm
    cases on
    · clear a8
      go_enter Try.func12, Try.ntmps12
      go_wp2_with fail
      refine (may_any now wait base cap _ due _).mono ?_
      rw [hm'.out]
      rintro e w1 ⟨rfl, hb⟩
      have hbw : Below w.heap.size w w1 := below_after (by go_grown) (by simp) hb
      obtain ⟨hc, hf⟩ := bcell hb
      clear hb
      go_wp2_with fail
      go_ret
      refine ⟨ret_int ?_, hbw⟩
      simp [leftI, hm'.out]
    · have a9 : now < due ∧ due ≤ now + wait := by simpa using a8
      obtain ⟨a9, a10⟩ := a9
      clear a8
      go_enter Try.func12, Try.ntmps12
      go_wp2_with fail
      refine (may_any now wait base cap _ due _).mono ?_
      rw [hm'.out]
      rintro e w1 ⟨rfl, hb⟩
      have hbw : Below w.heap.size w w1 := below_after (by go_grown) (by simp) hb
      obtain ⟨hc, hf⟩ := bcell hb
      clear hb
      go_wp2_with fail
      go_ret
      refine ⟨ret_int ?_, hbw⟩
      simp [leftI, hm'.out]

  · have hm0 : mayB now wait base cap on due = false := by simpa using hm
    have hm' := Lib.hid hm0
    clear hm hm0
    go_enter Try.func12, Try.ntmps12
    go_wp2_with fail
    refine (may_any now wait base cap _ due _).mono ?_
    rw [hm'.out]
    rintro e w1 ⟨rfl, hb⟩
    have hbw : Below w.heap.size w w1 := below_after (by go_grown) (by simp) hb
    obtain ⟨hc, hf⟩ := bcell hb
    clear hb
    go_wp2_with fail
    go_ret
    refine ⟨ret_int ?_, hbw⟩
    simp [leftI, hm'.out]


set_option maxHeartbeats 1000000 in
theorem tick_no (now wait base cap : Int) (on : Bool) (due : Int) (w : World) (hm : mayB now wait base cap on due = false) :
    Calls Try.prog 15 #[ck now wait base cap on due] w fun e w' => e = .returned (.tuple #[ck 0 0 0 0 false 0, .bool false, .int .i64 1]) ∧ Below w.heap.size w w' := by
  have hm' := Lib.hid hm
  clear hm
  go_enter Try.func15, Try.ntmps15
  go_wp2_with fail
  refine (may_any now wait base cap on due _).mono ?_
  rw [hm'.out]
  rintro e w1 ⟨rfl, hb⟩
  have hB : Blk w1 w.heap.size 23 (ckCells now wait base cap on due) := ((Blk.new w 23 _).alloc _).belowAll hb
  have hR : Blk w1 (w.heap.size + 1) 23 (ckCells 0 0 0 0 false 0) := by simpa using (Blk.new (w.alloc _) 23 (ckCells 0 0 0 0 false 0)).belowAll hb
  have hbw : Below w.heap.size w w1 := below_after (by go_grown) (by simp; omega) hb
  have hz1 := hb.size
  simp at hz1
  have hz : w.heap.size < w1.heap.size := by omega
  clear hb
  have c0 := Blk.cell hB 0
  have c1 := Blk.cell hB 1
  have c2 := Blk.cell hB 2
  have c3 := Blk.cell hB 3
  have c4 := Blk.cell hB 4
  have c5 := Blk.cell hB 5
  simp only [ckCells, List.getElem?_toArray, List.getElem?_cons_zero, List.getElem?_cons_succ] at c0 c1 c2 c3 c4 c5
  have HR := Lib.hid hR
  have HB := Lib.hid hB
  clear hB hR
  go_wp2_with fail
  refine (with_no now wait base cap on due _ _ hm'.out).mono ?_
  rintro e w2 ⟨rfl, hb2⟩
  have hR3 : Blk w2 (w.heap.size + 1) 23 (ckCells 0 0 0 0 false 0) := (HR.out.alloc _).belowAll hb2
  have hT : Blk w2 w1.heap.size 4 #[.bool false] := (Blk.new w1 4 _).belowAll hb2
  have hbw2 : Below w.heap.size w w2 := below_after (by go_grown) (by simp; omega) hb2
  clear hb2
  have hz2 := hR3.lt
  have hz3 := hT.lt
  clear hbw
  have d0 := Blk.cell hR3 0
  have d1 := Blk.cell hR3 1
  have d2 := Blk.cell hR3 2
  have d3 := Blk.cell hR3 3
  have d4 := Blk.cell hR3 4
  have d5 := Blk.cell hR3 5
  have df0 := Blk.free hR3 0
  have df1 := Blk.free hR3 1
  have df2 := Blk.free hR3 2
  have df3 := Blk.free hR3 3
  have df4 := Blk.free hR3 4
  have df5 := Blk.free hR3 5
  simp only [ckCells, List.getElem?_toArray, List.getElem?_cons_zero, List.getElem?_cons_succ] at d0 d1 d2 d3 d4 d5
  have r0 := Blk.cell hT 0
  simp only [ckCells, List.getElem?_toArray, List.getElem?_cons_zero, List.getElem?_cons_succ] at r0
  have HT := Lib.hid hT
  have HR3 := Lib.hid hR3
  clear hT hR3 HR HB c0 c1 c2 c3 c4 c5
  go_wp2_with fail
  go_region
  simp only [Exit.then]
  rename_i K hK
  refine hK _ _ ?_
  refine wp_ret ?_
  refine bodyPost_ret (v := .tuple #[ck 0 0 0 0 false 0, .bool false, .int .i64 1]) (by simp [results, Try.results15, go_sem, d0, d1, d2, d3, d4, d5, hz2]) rfl ⟨rfl, ?_⟩
  go_grown

set_option maxHeartbeats 1000000 in
theorem tick_off (now wait base cap : Int) (due : Int) (w : World) (hm : mayB now wait base cap false due = true) (hl : now < 1099511627776) :
    Calls Try.prog 15 #[ck now wait base cap false due] w fun e w' => e = .returned (.tuple #[ck (now + 1) wait base cap false due, .bool false, .int .i64 0]) ∧ Below w.heap.size w w' := by
  have hm' := Lib.hid hm
  clear hm
  have HM := Lib.hid ((may_iff _ _ _ _ _ _).1 hm'.out)
  have k1 : 0 ≤ now := HM.out.b6
  go_enter Try.func15, Try.ntmps15
  go_wp2_with fail
  refine (may_any now wait base cap false due _).mono ?_
  rw [hm'.out]
  rintro e w1 ⟨rfl, hb⟩
  have hB : Blk w1 w.heap.size 23 (ckCells now wait base cap false due) := ((Blk.new w 23 _).alloc _).belowAll hb
  have hR : Blk w1 (w.heap.size + 1) 23 (ckCells 0 0 0 0 false 0) := by simpa using (Blk.new (w.alloc _) 23 (ckCells 0 0 0 0 false 0)).belowAll hb
  have hbw : Below w.heap.size w w1 := below_after (by go_grown) (by simp; omega) hb
  have hz1 := hb.size
  simp at hz1
  have hz : w.heap.size < w1.heap.size := by omega
  clear hb
  have c0 := Blk.cell hB 0
  have c1 := Blk.cell hB 1
  have c2 := Blk.cell hB 2
  have c3 := Blk.cell hB 3
  have c4 := Blk.cell hB 4
  have c5 := Blk.cell hB 5
  simp only [ckCells, List.getElem?_toArray, List.getElem?_cons_zero, List.getElem?_cons_succ] at c0 c1 c2 c3 c4 c5
  have HR := Lib.hid hR
  have HB := Lib.hid hB
  clear hB hR
  go_wp2_with fail
  refine (with_yes 25 #[.pointer (some ⟨w1.heap.size, 0, none⟩)] (fun j => j = w1.heap.size) (fun j t cs => j = w1.heap.size ∧ t = 4 ∧ cs = #[.bool false]) enter25 now wait base cap false due (now + 1) wait base cap false due (w1.alloc (.cells #[.bool false] 4)) hm'.out (by intro j hj; simp; omega) (by intro j t cs hj; simp; omega) (fun W hb hB => Calls.mono (tick1_off w1.heap.size now wait base cap due HM.out hl _ W (by simp) ((Blk.new w1 4 _).belowAll hb) hB) fun e w' h => ⟨h.1, h.2.1, h.2.2.2, fun j t cs ⟨h1, h2, h3⟩ => h1 ▸ h2 ▸ h3 ▸ h.2.2.1⟩)).mono ?_
  rintro e w2 ⟨rfl, hb2, hx⟩
  have hR3 : Blk w2 (w.heap.size + 1) 23 (ckCells 0 0 0 0 false 0) := Blk.sel (HR.out.alloc _) hb2 (by omega)
  have hT : Blk w2 w1.heap.size 4 #[.bool false] := hx _ _ _ ⟨rfl, rfl, rfl⟩
  have hbw2 : Below w.heap.size w w2 := Below.trans (b := w1.alloc (.cells #[.bool false] 4)) (by go_grown) (hb2.below (fun k hk h => by omega) (by simp; omega))
  clear hb2 hx
  have hz2 := hR3.lt
  have hz3 := hT.lt
  clear hbw
  have d0 := Blk.cell hR3 0
  have d1 := Blk.cell hR3 1
  have d2 := Blk.cell hR3 2
  have d3 := Blk.cell hR3 3
  have d4 := Blk.cell hR3 4
  have d5 := Blk.cell hR3 5
  have df0 := Blk.free hR3 0
  have df1 := Blk.free hR3 1
  have df2 := Blk.free hR3 2
  have df3 := Blk.free hR3 3
  have df4 := Blk.free hR3 4
  have df5 := Blk.free hR3 5
  simp only [ckCells, List.getElem?_toArray, List.getElem?_cons_zero, List.getElem?_cons_succ] at d0 d1 d2 d3 d4 d5
  have r0 := Blk.cell hT 0
  simp only [ckCells, List.getElem?_toArray, List.getElem?_cons_zero, List.getElem?_cons_succ] at r0
  have HT := Lib.hid hT
  have HR3 := Lib.hid hR3
  clear hT hR3 HR HB c0 c1 c2 c3 c4 c5
  go_wp2_with fail
  go_region
  simp only [Exit.then]
  rename_i K hK
  refine hK _ _ ?_
  refine wp_ret ?_
  refine bodyPost_ret (v := .tuple #[ck (now + 1) wait base cap false due, .bool false, .int .i64 0]) (by simp [results, Try.results15, go_sem, d0, d1, d2, d3, d4, d5, hz2]) rfl ⟨rfl, ?_⟩
  go_grown

set_option maxHeartbeats 1000000 in
theorem tick_on (now wait base cap : Int) (due : Int) (w : World) (hm : mayB now wait base cap true due = true) (hl : now < 1099511627776) (hd : ((now + 1) == due) = false) :
    Calls Try.prog 15 #[ck now wait base cap true due] w fun e w' => e = .returned (.tuple #[ck (now + 1) wait base cap true due, .bool false, .int .i64 0]) ∧ Below w.heap.size w w' := by
  have hm' := Lib.hid hm
  clear hm
  have HM := Lib.hid ((may_iff _ _ _ _ _ _).1 hm'.out)
  have k1 : 0 ≤ now := HM.out.b6
  have Hd := Lib.hid hd
  clear hd
  go_enter Try.func15, Try.ntmps15
  go_wp2_with fail
  refine (may_any now wait base cap true due _).mono ?_
  rw [hm'.out]
  rintro e w1 ⟨rfl, hb⟩
  have hB : Blk w1 w.heap.size 23 (ckCells now wait base cap true due) := ((Blk.new w 23 _).alloc _).belowAll hb
  have hR : Blk w1 (w.heap.size + 1) 23 (ckCells 0 0 0 0 false 0) := by simpa using (Blk.new (w.alloc _) 23 (ckCells 0 0 0 0 false 0)).belowAll hb
  have hbw : Below w.heap.size w w1 := below_after (by go_grown) (by simp; omega) hb
  have hz1 := hb.size
  simp at hz1
  have hz : w.heap.size < w1.heap.size := by omega
  clear hb
  have c0 := Blk.cell hB 0
  have c1 := Blk.cell hB 1
  have c2 := Blk.cell hB 2
  have c3 := Blk.cell hB 3
  have c4 := Blk.cell hB 4
  have c5 := Blk.cell hB 5
  simp only [ckCells, List.getElem?_toArray, List.getElem?_cons_zero, List.getElem?_cons_succ] at c0 c1 c2 c3 c4 c5
  have HR := Lib.hid hR
  have HB := Lib.hid hB
  clear hB hR
  go_wp2_with fail
  refine (with_yes 25 #[.pointer (some ⟨w1.heap.size, 0, none⟩)] (fun j => j = w1.heap.size) (fun j t cs => j = w1.heap.size ∧ t = 4 ∧ cs = #[.bool false]) enter25 now wait base cap true due (now + 1) wait base cap true due (w1.alloc (.cells #[.bool false] 4)) hm'.out (by intro j hj; simp; omega) (by intro j t cs hj; simp; omega) (fun W hb hB => Calls.mono (tick1_on w1.heap.size now wait base cap due HM.out hl Hd.out _ W (by simp) ((Blk.new w1 4 _).belowAll hb) hB) fun e w' h => ⟨h.1, h.2.1, h.2.2.2, fun j t cs ⟨h1, h2, h3⟩ => h1 ▸ h2 ▸ h3 ▸ h.2.2.1⟩)).mono ?_
  rintro e w2 ⟨rfl, hb2, hx⟩
  have hR3 : Blk w2 (w.heap.size + 1) 23 (ckCells 0 0 0 0 false 0) := Blk.sel (HR.out.alloc _) hb2 (by omega)
  have hT : Blk w2 w1.heap.size 4 #[.bool false] := hx _ _ _ ⟨rfl, rfl, rfl⟩
  have hbw2 : Below w.heap.size w w2 := Below.trans (b := w1.alloc (.cells #[.bool false] 4)) (by go_grown) (hb2.below (fun k hk h => by omega) (by simp; omega))
  clear hb2 hx
  have hz2 := hR3.lt
  have hz3 := hT.lt
  clear hbw
  have d0 := Blk.cell hR3 0
  have d1 := Blk.cell hR3 1
  have d2 := Blk.cell hR3 2
  have d3 := Blk.cell hR3 3
  have d4 := Blk.cell hR3 4
  have d5 := Blk.cell hR3 5
  have df0 := Blk.free hR3 0
  have df1 := Blk.free hR3 1
  have df2 := Blk.free hR3 2
  have df3 := Blk.free hR3 3
  have df4 := Blk.free hR3 4
  have df5 := Blk.free hR3 5
  simp only [ckCells, List.getElem?_toArray, List.getElem?_cons_zero, List.getElem?_cons_succ] at d0 d1 d2 d3 d4 d5
  have r0 := Blk.cell hT 0
  simp only [ckCells, List.getElem?_toArray, List.getElem?_cons_zero, List.getElem?_cons_succ] at r0
  have HT := Lib.hid hT
  have HR3 := Lib.hid hR3
  clear hT hR3 HR HB c0 c1 c2 c3 c4 c5
  go_wp2_with fail
  go_region
  simp only [Exit.then]
  rename_i K hK
  refine hK _ _ ?_
  refine wp_ret ?_
  refine bodyPost_ret (v := .tuple #[ck (now + 1) wait base cap true due, .bool false, .int .i64 0]) (by simp [results, Try.results15, go_sem, d0, d1, d2, d3, d4, d5, hz2]) rfl ⟨rfl, ?_⟩
  go_grown

set_option maxHeartbeats 1000000 in
theorem tick_rings (now wait base cap : Int) (due : Int) (w : World) (hm : mayB now wait base cap true due = true) (hl : now < 1099511627776) (hd : ((now + 1) == due) = true) :
    Calls Try.prog 15 #[ck now wait base cap true due] w fun e w' => e = .returned (.tuple #[ck (now + 1) wait base cap false 0, .bool true, .int .i64 0]) ∧ Below w.heap.size w w' := by
  have hm' := Lib.hid hm
  clear hm
  have HM := Lib.hid ((may_iff _ _ _ _ _ _).1 hm'.out)
  have k1 : 0 ≤ now := HM.out.b6
  have Hd := Lib.hid hd
  clear hd
  go_enter Try.func15, Try.ntmps15
  go_wp2_with fail
  refine (may_any now wait base cap true due _).mono ?_
  rw [hm'.out]
  rintro e w1 ⟨rfl, hb⟩
  have hB : Blk w1 w.heap.size 23 (ckCells now wait base cap true due) := ((Blk.new w 23 _).alloc _).belowAll hb
  have hR : Blk w1 (w.heap.size + 1) 23 (ckCells 0 0 0 0 false 0) := by simpa using (Blk.new (w.alloc _) 23 (ckCells 0 0 0 0 false 0)).belowAll hb
  have hbw : Below w.heap.size w w1 := below_after (by go_grown) (by simp; omega) hb
  have hz1 := hb.size
  simp at hz1
  have hz : w.heap.size < w1.heap.size := by omega
  clear hb
  have c0 := Blk.cell hB 0
  have c1 := Blk.cell hB 1
  have c2 := Blk.cell hB 2
  have c3 := Blk.cell hB 3
  have c4 := Blk.cell hB 4
  have c5 := Blk.cell hB 5
  simp only [ckCells, List.getElem?_toArray, List.getElem?_cons_zero, List.getElem?_cons_succ] at c0 c1 c2 c3 c4 c5
  have HR := Lib.hid hR
  have HB := Lib.hid hB
  clear hB hR
  go_wp2_with fail
  refine (with_yes 25 #[.pointer (some ⟨w1.heap.size, 0, none⟩)] (fun j => j = w1.heap.size) (fun j t cs => j = w1.heap.size ∧ t = 4 ∧ cs = #[.bool true]) enter25 now wait base cap true due (now + 1) wait base cap false 0 (w1.alloc (.cells #[.bool false] 4)) hm'.out (by intro j hj; simp; omega) (by intro j t cs hj; simp; omega) (fun W hb hB => Calls.mono (tick1_rings w1.heap.size now wait base cap due HM.out hl Hd.out _ W (by simp) ((Blk.new w1 4 _).belowAll hb) hB) fun e w' h => ⟨h.1, h.2.1, h.2.2.2, fun j t cs ⟨h1, h2, h3⟩ => h1 ▸ h2 ▸ h3 ▸ h.2.2.1⟩)).mono ?_
  rintro e w2 ⟨rfl, hb2, hx⟩
  have hR3 : Blk w2 (w.heap.size + 1) 23 (ckCells 0 0 0 0 false 0) := Blk.sel (HR.out.alloc _) hb2 (by omega)
  have hT : Blk w2 w1.heap.size 4 #[.bool true] := hx _ _ _ ⟨rfl, rfl, rfl⟩
  have hbw2 : Below w.heap.size w w2 := Below.trans (b := w1.alloc (.cells #[.bool false] 4)) (by go_grown) (hb2.below (fun k hk h => by omega) (by simp; omega))
  clear hb2 hx
  have hz2 := hR3.lt
  have hz3 := hT.lt
  clear hbw
  have d0 := Blk.cell hR3 0
  have d1 := Blk.cell hR3 1
  have d2 := Blk.cell hR3 2
  have d3 := Blk.cell hR3 3
  have d4 := Blk.cell hR3 4
  have d5 := Blk.cell hR3 5
  have df0 := Blk.free hR3 0
  have df1 := Blk.free hR3 1
  have df2 := Blk.free hR3 2
  have df3 := Blk.free hR3 3
  have df4 := Blk.free hR3 4
  have df5 := Blk.free hR3 5
  simp only [ckCells, List.getElem?_toArray, List.getElem?_cons_zero, List.getElem?_cons_succ] at d0 d1 d2 d3 d4 d5
  have r0 := Blk.cell hT 0
  simp only [ckCells, List.getElem?_toArray, List.getElem?_cons_zero, List.getElem?_cons_succ] at r0
  have HT := Lib.hid hT
  have HR3 := Lib.hid hR3
  clear hT hR3 HR HB c0 c1 c2 c3 c4 c5
  go_wp2_with fail
  go_region
  simp only [Exit.then]
  rename_i K hK
  refine hK _ _ ?_
  refine wp_ret ?_
  refine bodyPost_ret (v := .tuple #[ck (now + 1) wait base cap false 0, .bool true, .int .i64 0]) (by simp [results, Try.results15, go_sem, d0, d1, d2, d3, d4, d5, hz2]) rfl ⟨rfl, ?_⟩
  go_grown

/-- At the last tick. -/
theorem tick_last (wait base cap : Int) (on : Bool) (due : Int) (w : World) (hm : mayB 1099511627776 wait base cap on due = true) :
    Calls Try.prog 15 #[ck 1099511627776 wait base cap on due] w fun e w' => e = .returned (.tuple #[ck 0 0 0 0 false 0, .bool false, .int .i64 8]) ∧ Below w.heap.size w w' := by
  have hm' := Lib.hid hm
  clear hm
  go_enter Try.func15, Try.ntmps15
  go_wp2_with fail
  refine (may_any 1099511627776 wait base cap on due _).mono ?_
  rw [hm'.out]
  rintro e w1 ⟨rfl, hb⟩
  have hB : Blk w1 w.heap.size 23 (ckCells 1099511627776 wait base cap on due) := ((Blk.new w 23 _).alloc _).belowAll hb
  have hR : Blk w1 (w.heap.size + 1) 23 (ckCells 0 0 0 0 false 0) := by simpa using (Blk.new (w.alloc _) 23 (ckCells 0 0 0 0 false 0)).belowAll hb
  have hbw : Below w.heap.size w w1 := below_after (by go_grown) (by simp; omega) hb
  have hz1 := hb.size
  simp at hz1
  have hz : w.heap.size < w1.heap.size := by omega
  clear hb
  have c0 := Blk.cell hB 0
  have c1 := Blk.cell hB 1
  have c2 := Blk.cell hB 2
  have c3 := Blk.cell hB 3
  have c4 := Blk.cell hB 4
  have c5 := Blk.cell hB 5
  simp only [ckCells, List.getElem?_toArray, List.getElem?_cons_zero, List.getElem?_cons_succ] at c0 c1 c2 c3 c4 c5
  have HR := Lib.hid hR
  have HB := Lib.hid hB
  clear hB hR
  have d0 := Blk.cell HR.out 0
  have d1 := Blk.cell HR.out 1
  have d2 := Blk.cell HR.out 2
  have d3 := Blk.cell HR.out 3
  have d4 := Blk.cell HR.out 4
  have d5 := Blk.cell HR.out 5
  have df0 := Blk.free HR.out 0
  have df1 := Blk.free HR.out 1
  have df2 := Blk.free HR.out 2
  have df3 := Blk.free HR.out 3
  have df4 := Blk.free HR.out 4
  have df5 := Blk.free HR.out 5
  simp only [ckCells, List.getElem?_toArray, List.getElem?_cons_zero, List.getElem?_cons_succ] at d0 d1 d2 d3 d4 d5
  go_wp2_with fail
  refine bodyPost_ret (v := .tuple #[ck 0 0 0 0 false 0, .bool false, .int .i64 8]) (by simp [results, Try.results15, go_sem, d0, d1, d2, d3, d4, d5]) rfl ⟨rfl, ?_⟩
  go_grown
end Go.Proofs.Ytfpnileacpbocaa