/-
  What each function of the clock's reference gives. No condition of its own.
-/
import Derived.Test.YtfpnileacpbocaaClock3
set_option linter.unusedSimpArgs false
set_option linter.unusedVariables false
namespace Go.Proofs.Ytfpnileacpbocaa
open Go.RowKit

theorem less_double (wait cap : Int) : (if cap - wait < wait then cap else wait + wait) = less (2 * wait) cap := by
  unfold less; split <;> split <;> omega

/-- Left, of one that may be. -/
theorem rleft_on (now wait base cap due : Int) (w : World) (hm : May now wait base cap true due) :
    Calls Try.prog 10 #[ck now wait base cap true due] w fun e w' => e = .returned (.int .i64 (due - now)) ∧ Below w.heap.size w w' := by
  obtain ⟨a1, a2, a3, a4, a5, a6, a7, a8⟩ := hm
  have a9 : now < due ∧ due ≤ now + wait := by simpa using a8
  obtain ⟨a9, a10⟩ := a9
  clear a8
  go_enter Try.func10, Try.ntmps10
  go_wp2_with fail
  go_ret
  exact ⟨rfl, by go_grown⟩
theorem rleft_off (now wait base cap due : Int) (w : World) :
    Calls Try.prog 10 #[ck now wait base cap false due] w fun e w' => e = .returned (.int .i64 0) ∧ Below w.heap.size w w' := by
  go_enter Try.func10, Try.ntmps10
  go_wp2_with fail
  go_ret
  exact ⟨rfl, by go_grown⟩

/-- At. -/
theorem at_pos (now wait base cap : Int) (on : Bool) (due left : Int) (w : World) (h1 : 0 ≤ now) (h2 : now ≤ 1099511627776) (h3 : 0 < left) (h4 : left ≤ 1048576) :
    Calls Try.prog 19 #[ck now wait base cap on due, .int .i64 left] w fun e w' => e = .returned (ck now wait base cap true (now + left)) ∧ Below w.heap.size w w' := by
  go_enter Try.func19, Try.ntmps19
  go_wp2_with fail
  refine bodyPost_ret (v := ck now wait base cap true (now + left)) (by simp [results, Try.results19, go_sem]) rfl ⟨rfl, ?_⟩
  go_grown
theorem at_zero (now wait base cap : Int) (on : Bool) (due left : Int) (w : World) (h3 : left ≤ 0) :
    Calls Try.prog 19 #[ck now wait base cap on due, .int .i64 left] w fun e w' => e = .returned (ck now wait base cap false 0) ∧ Below w.heap.size w w' := by
  go_enter Try.func19, Try.ntmps19
  go_wp2_with fail
  refine bodyPost_ret (v := ck now wait base cap false 0) (by simp [results, Try.results19, go_sem, h3]) rfl ⟨rfl, ?_⟩
  go_grown

/-- Double. -/
theorem rdouble (now wait base cap : Int) (on : Bool) (due : Int) (w : World) (hm : May now wait base cap on due) :
    Calls Try.prog 20 #[ck now wait base cap on due] w fun e w' => e = .returned (ck now (less (2 * wait) cap) base cap on due) ∧ Below w.heap.size w w' := by
  rw [← less_double]
  obtain ⟨a1, a2, a3, a4, a5, a6, a7, a8⟩ := hm
  clear a8
  by_cases hc : cap - wait < wait
  · rw [if_pos hc]
    go_enter Try.func20, Try.ntmps20
    go_wp2_with fail
    refine bodyPost_ret (v := ck now cap base cap on due) (by simp [results, Try.results20, go_sem]) rfl ⟨rfl, ?_⟩
    go_grown
  · rw [if_neg hc]
    go_enter Try.func20, Try.ntmps20
    go_wp2_with fail
    refine bodyPost_ret (v := ck now (wait + wait) base cap on due) (by simp [results, Try.results20, go_sem]) rfl ⟨rfl, ?_⟩
    go_grown


/-- Reset. -/
theorem rreset_on (now wait base cap due : Int) (w : World) (hm : May now wait base cap true due) :
    Calls Try.prog 21 #[ck now wait base cap true due] w fun e w' => e = .returned (ck now base base cap true (less due (now + base))) ∧ Below w.heap.size w w' := by
  have HM := Lib.hid hm
  obtain ⟨a1, a2, a3, a4, a5, a6, a7, a8⟩ := hm
  have a9 : now < due ∧ due ≤ now + wait := by simpa using a8
  obtain ⟨a9, a10⟩ := a9
  clear a8
  have e1 : less due (now + base) = now + (if base < due - now then base else due - now) := by unfold less; split <;> split <;> omega
  rw [e1]
  clear e1
  by_cases hl : base < due - now

  · rw [if_pos hl]
    go_enter Try.func21, Try.ntmps21
    go_wp2_with fail
    refine (rleft_on now wait base cap due _ HM.out).mono ?_
    rintro e w1 ⟨rfl, hb⟩
    have hB : Blk w1 w.heap.size 23 (ckCells now wait base cap true due) := ((Blk.new w 23 _).alloc _).belowAll hb
    have hR : Blk w1 (w.heap.size + 1) 23 (ckCells 0 0 0 0 false 0) := by simpa using (Blk.new (w.alloc _) 23 (ckCells 0 0 0 0 false 0)).belowAll hb
    have hbw : Below w.heap.size w w1 := below_after (by go_grown) (by simp; omega) hb
    have hz1 := hb.size
    simp at hz1
    have hz : w.heap.size < w1.heap.size := by omega
    clear hb
    have c0 := Blk.cell hB 0
    have c1 := Blk.cell hB 1
    have c2 := Blk.cell hB 2
    have c3 := Blk.cell hB 3
    have c4 := Blk.cell hB 4
    have c5 := Blk.cell hB 5
    have cf0 := Blk.free hB 0
    have cf1 := Blk.free hB 1
    have cf2 := Blk.free hB 2
    have cf3 := Blk.free hB 3
    have cf4 := Blk.free hB 4
    have cf5 := Blk.free hB 5
    simp only [ckCells, List.getElem?_toArray, List.getElem?_cons_zero, List.getElem?_cons_succ] at c0 c1 c2 c3 c4 c5
    have HR := Lib.hid hR
    have HB := Lib.hid hB
    clear hB hR
    go_wp2_with fail
    refine (at_pos now base base cap true due _ _ a6 a7 (by omega) (by omega)).mono ?_
    rintro e w2 ⟨rfl, hb2⟩
    have hR2 : Blk w2 (w.heap.size + 1) 23 (ckCells 0 0 0 0 false 0) := Blk.belowAll (Blk.far HR.out (p := ⟨w.heap.size, 1, none⟩) (by simp) _) hb2
    have hbw2 : Below w.heap.size w w2 := below_after (by go_grown) (by simp [World.setCell]; omega) hb2
    clear hb2 hbw
    have e0 := Blk.cell hR2 0
    have e1 := Blk.cell hR2 1
    have e2 := Blk.cell hR2 2
    have e3 := Blk.cell hR2 3
    have e4 := Blk.cell hR2 4
    have e5 := Blk.cell hR2 5
    have ef0 := Blk.free hR2 0
    have ef1 := Blk.free hR2 1
    have ef2 := Blk.free hR2 2
    have ef3 := Blk.free hR2 3
    have ef4 := Blk.free hR2 4
    have ef5 := Blk.free hR2 5
    simp only [ckCells, List.getElem?_toArray, List.getElem?_cons_zero, List.getElem?_cons_succ] at e0 e1 e2 e3 e4 e5
    have HR2 := Lib.hid hR2
    clear hR2
    clear HR HB
    go_wp2_with fail
    refine bodyPost_ret (v := ck now base base cap true (now + (base))) (by simp [results, Try.results21, go_sem, e0, e1, e2, e3, e4, e5]) rfl ⟨rfl, ?_⟩
    go_grown

  · rw [if_neg hl]
    go_enter Try.func21, Try.ntmps21
    go_wp2_with fail
    refine (rleft_on now wait base cap due _ HM.out).mono ?_
    rintro e w1 ⟨rfl, hb⟩
    have hB : Blk w1 w.heap.size 23 (ckCells now wait base cap true due) := ((Blk.new w 23 _).alloc _).belowAll hb
    have hR : Blk w1 (w.heap.size + 1) 23 (ckCells 0 0 0 0 false 0) := by simpa using (Blk.new (w.alloc _) 23 (ckCells 0 0 0 0 false 0)).belowAll hb
    have hbw : Below w.heap.size w w1 := below_after (by go_grown) (by simp; omega) hb
    have hz1 := hb.size
    simp at hz1
    have hz : w.heap.size < w1.heap.size := by omega
    clear hb
    have c0 := Blk.cell hB 0
    have c1 := Blk.cell hB 1
    have c2 := Blk.cell hB 2
    have c3 := Blk.cell hB 3
    have c4 := Blk.cell hB 4
    have c5 := Blk.cell hB 5
    have cf0 := Blk.free hB 0
    have cf1 := Blk.free hB 1
    have cf2 := Blk.free hB 2
    have cf3 := Blk.free hB 3
    have cf4 := Blk.free hB 4
    have cf5 := Blk.free hB 5
    simp only [ckCells, List.getElem?_toArray, List.getElem?_cons_zero, List.getElem?_cons_succ] at c0 c1 c2 c3 c4 c5
    have HR := Lib.hid hR
    have HB := Lib.hid hB
    clear hB hR
    go_wp2_with fail
    refine (at_pos now base base cap true due _ _ a6 a7 (by omega) (by omega)).mono ?_
    rintro e w2 ⟨rfl, hb2⟩
    have hR2 : Blk w2 (w.heap.size + 1) 23 (ckCells 0 0 0 0 false 0) := Blk.belowAll (Blk.far HR.out (p := ⟨w.heap.size, 1, none⟩) (by simp) _) hb2
    have hbw2 : Below w.heap.size w w2 := below_after (by go_grown) (by simp [World.setCell]; omega) hb2
    clear hb2 hbw
    have e0 := Blk.cell hR2 0
    have e1 := Blk.cell hR2 1
    have e2 := Blk.cell hR2 2
    have e3 := Blk.cell hR2 3
    have e4 := Blk.cell hR2 4
    have e5 := Blk.cell hR2 5
    have ef0 := Blk.free hR2 0
    have ef1 := Blk.free hR2 1
    have ef2 := Blk.free hR2 2
    have ef3 := Blk.free hR2 3
    have ef4 := Blk.free hR2 4
    have ef5 := Blk.free hR2 5
    simp only [ckCells, List.getElem?_toArray, List.getElem?_cons_zero, List.getElem?_cons_succ] at e0 e1 e2 e3 e4 e5
    have HR2 := Lib.hid hR2
    clear hR2
    clear HR HB
    go_wp2_with fail
    refine bodyPost_ret (v := ck now base base cap true (now + (due - now))) (by simp [results, Try.results21, go_sem, e0, e1, e2, e3, e4, e5]) rfl ⟨rfl, ?_⟩
    go_grown


theorem rreset_off (now wait base cap due : Int) (w : World) (hm : May now wait base cap false due) :
    Calls Try.prog 21 #[ck now wait base cap false due] w fun e w' => e = .returned (ck now base base cap false 0) ∧ Below w.heap.size w w' := by
  obtain ⟨a1, a2, a3, a4, a5, a6, a7, a8⟩ := hm
  clear a8
  go_enter Try.func21, Try.ntmps21
  go_wp2_with fail
  refine (rleft_off now wait base cap due _).mono ?_
  rintro e w1 ⟨rfl, hb⟩
  have hB : Blk w1 w.heap.size 23 (ckCells now wait base cap false due) := ((Blk.new w 23 _).alloc _).belowAll hb
  have hR : Blk w1 (w.heap.size + 1) 23 (ckCells 0 0 0 0 false 0) := by simpa using (Blk.new (w.alloc _) 23 (ckCells 0 0 0 0 false 0)).belowAll hb
  have hbw : Below w.heap.size w w1 := below_after (by go_grown) (by simp; omega) hb
  have hz1 := hb.size
  simp at hz1
  have hz : w.heap.size < w1.heap.size := by omega
  clear hb
  have c0 := Blk.cell hB 0
  have c1 := Blk.cell hB 1
  have c2 := Blk.cell hB 2
  have c3 := Blk.cell hB 3
  have c4 := Blk.cell hB 4
  have c5 := Blk.cell hB 5
  have cf0 := Blk.free hB 0
  have cf1 := Blk.free hB 1
  have cf2 := Blk.free hB 2
  have cf3 := Blk.free hB 3
  have cf4 := Blk.free hB 4
  have cf5 := Blk.free hB 5
  simp only [ckCells, List.getElem?_toArray, List.getElem?_cons_zero, List.getElem?_cons_succ] at c0 c1 c2 c3 c4 c5
  have HR := Lib.hid hR
  have HB := Lib.hid hB
  clear hB hR
  go_wp2_with fail
  refine (at_zero now base base cap false due _ _ (by omega)).mono ?_
  rintro e w2 ⟨rfl, hb2⟩
  have hR2 : Blk w2 (w.heap.size + 1) 23 (ckCells 0 0 0 0 false 0) := Blk.belowAll (Blk.far HR.out (p := ⟨w.heap.size, 1, none⟩) (by simp) _) hb2
  have hbw2 : Below w.heap.size w w2 := below_after (by go_grown) (by simp [World.setCell]; omega) hb2
  clear hb2 hbw
  have e0 := Blk.cell hR2 0
  have e1 := Blk.cell hR2 1
  have e2 := Blk.cell hR2 2
  have e3 := Blk.cell hR2 3
  have e4 := Blk.cell hR2 4
  have e5 := Blk.cell hR2 5
  have ef0 := Blk.free hR2 0
  have ef1 := Blk.free hR2 1
  have ef2 := Blk.free hR2 2
  have ef3 := Blk.free hR2 3
  have ef4 := Blk.free hR2 4
  have ef5 := Blk.free hR2 5
  simp only [ckCells, List.getElem?_toArray, List.getElem?_cons_zero, List.getElem?_cons_succ] at e0 e1 e2 e3 e4 e5
  have HR2 := Lib.hid hR2
  clear hR2
  clear HR HB
  go_wp2_with fail
  refine bodyPost_ret (v := ck now base base cap false 0) (by simp [results, Try.results21, go_sem, e0, e1, e2, e3, e4, e5]) rfl ⟨rfl, ?_⟩
  go_grown


/-- Tick. -/
theorem rtick_off (now wait base cap due : Int) (w : World) (hm : May now wait base cap false due) :
    Calls Try.prog 22 #[ck now wait base cap false due] w fun e w' => e = .returned (.tuple #[ck (now + 1) wait base cap false due, .bool false]) ∧ Below w.heap.size w w' := by
  obtain ⟨a1, a2, a3, a4, a5, a6, a7, a8⟩ := hm
  clear a8
  go_enter Try.func22, Try.ntmps22
  go_wp2_with fail
  refine (rleft_off now wait base cap due _).mono ?_
  rintro e w1 ⟨rfl, hb⟩
  have hB : Blk w1 w.heap.size 23 (ckCells now wait base cap false due) := ((Blk.new w 23 _).alloc _).belowAll hb
  have hR : Blk w1 (w.heap.size + 1) 23 (ckCells 0 0 0 0 false 0) := by simpa using (Blk.new (w.alloc _) 23 (ckCells 0 0 0 0 false 0)).belowAll hb
  have hbw : Below w.heap.size w w1 := below_after (by go_grown) (by simp; omega) hb
  have hz1 := hb.size
  simp at hz1
  have hz : w.heap.size < w1.heap.size := by omega
  clear hb
  have c0 := Blk.cell hB 0
  have c1 := Blk.cell hB 1
  have c2 := Blk.cell hB 2
  have c3 := Blk.cell hB 3
  have c4 := Blk.cell hB 4
  have c5 := Blk.cell hB 5
  have cf0 := Blk.free hB 0
  have cf1 := Blk.free hB 1
  have cf2 := Blk.free hB 2
  have cf3 := Blk.free hB 3
  have cf4 := Blk.free hB 4
  have cf5 := Blk.free hB 5
  simp only [ckCells, List.getElem?_toArray, List.getElem?_cons_zero, List.getElem?_cons_succ] at c0 c1 c2 c3 c4 c5
  have d0 := Blk.cell hR 0
  have d1 := Blk.cell hR 1
  have d2 := Blk.cell hR 2
  have d3 := Blk.cell hR 3
  have d4 := Blk.cell hR 4
  have d5 := Blk.cell hR 5
  have df0 := Blk.free hR 0
  have df1 := Blk.free hR 1
  have df2 := Blk.free hR 2
  have df3 := Blk.free hR 3
  have df4 := Blk.free hR 4
  have df5 := Blk.free hR 5
  simp only [ckCells, List.getElem?_toArray, List.getElem?_cons_zero, List.getElem?_cons_succ] at d0 d1 d2 d3 d4 d5
  have HR := Lib.hid hR
  have HB := Lib.hid hB
  clear hB hR
  go_wp2_with fail
  refine bodyPost_ret (v := .tuple #[ck (now + 1) wait base cap false due, .bool false]) (by simp [results, Try.results22, go_sem, d0, d1, d2, d3, d4, d5]) rfl ⟨rfl, ?_⟩
  go_grown


theorem rtick_on (now wait base cap due : Int) (w : World) (hm : May now wait base cap true due) (hn : now < 1099511627776) (hd : now + 1 < due) :
    Calls Try.prog 22 #[ck now wait base cap true due] w fun e w' => e = .returned (.tuple #[ck (now + 1) wait base cap true (now + 1 + (due - now - 1)), .bool false]) ∧ Below w.heap.size w w' := by
  have HM := Lib.hid hm
  obtain ⟨a1, a2, a3, a4, a5, a6, a7, a8⟩ := hm
  have a9 : now < due ∧ due ≤ now + wait := by simpa using a8
  obtain ⟨a9, a10⟩ := a9
  have t1 : (due - now == 1) = false := by simp; omega
  have t0 : (due - now == 0) = false := by simp; omega
  have k1 : now + 1 ≤ due := by omega
  clear a8
  have a11 : now + 1 < due := hd
  clear hd
  go_enter Try.func22, Try.ntmps22
  go_wp2_with fail
  refine (rleft_on now wait base cap due _ HM.out).mono ?_
  rintro e w1 ⟨rfl, hb⟩
  have hB : Blk w1 w.heap.size 23 (ckCells now wait base cap true due) := ((Blk.new w 23 _).alloc _).belowAll hb
  have hR : Blk w1 (w.heap.size + 1) 23 (ckCells 0 0 0 0 false 0) := by simpa using (Blk.new (w.alloc _) 23 (ckCells 0 0 0 0 false 0)).belowAll hb
  have hbw : Below w.heap.size w w1 := below_after (by go_grown) (by simp; omega) hb
  have hz1 := hb.size
  simp at hz1
  have hz : w.heap.size < w1.heap.size := by omega
  clear hb
  have c0 := Blk.cell hB 0
  have c1 := Blk.cell hB 1
  have c2 := Blk.cell hB 2
  have c3 := Blk.cell hB 3
  have c4 := Blk.cell hB 4
  have c5 := Blk.cell hB 5
  have cf0 := Blk.free hB 0
  have cf1 := Blk.free hB 1
  have cf2 := Blk.free hB 2
  have cf3 := Blk.free hB 3
  have cf4 := Blk.free hB 4
  have cf5 := Blk.free hB 5
  simp only [ckCells, List.getElem?_toArray, List.getElem?_cons_zero, List.getElem?_cons_succ] at c0 c1 c2 c3 c4 c5
  have HR := Lib.hid hR
  have HB := Lib.hid hB
  clear hB hR
  go_wp2_with fail
  refine (at_pos (now + 1) wait base cap true due _ _ (by omega) (by omega) (by omega) (by omega)).mono ?_
  rintro e w2 ⟨rfl, hb2⟩
  have hR2 : Blk w2 (w.heap.size + 1) 23 (ckCells 0 0 0 0 false 0) := Blk.belowAll (Blk.far HR.out (p := ⟨w.heap.size, 0, none⟩) (by simp) _) hb2
  have hbw2 : Below w.heap.size w w2 := below_after (by go_grown) (by simp [World.setCell]; omega) hb2
  clear hb2 hbw
  have e0 := Blk.cell hR2 0
  have e1 := Blk.cell hR2 1
  have e2 := Blk.cell hR2 2
  have e3 := Blk.cell hR2 3
  have e4 := Blk.cell hR2 4
  have e5 := Blk.cell hR2 5
  have ef0 := Blk.free hR2 0
  have ef1 := Blk.free hR2 1
  have ef2 := Blk.free hR2 2
  have ef3 := Blk.free hR2 3
  have ef4 := Blk.free hR2 4
  have ef5 := Blk.free hR2 5
  simp only [ckCells, List.getElem?_toArray, List.getElem?_cons_zero, List.getElem?_cons_succ] at e0 e1 e2 e3 e4 e5
  have HR2 := Lib.hid hR2
  clear hR2
  clear HR HB
  go_wp2_with fail
  refine bodyPost_ret (v := .tuple #[ck (now + 1) wait base cap true (now + 1 + (due - now - 1)), .bool false]) (by simp [results, Try.results22, go_sem, e0, e1, e2, e3, e4, e5]) rfl ⟨rfl, ?_⟩
  go_grown


theorem rtick_rings (now wait base cap due : Int) (w : World) (hm : May now wait base cap true due) (hn : now < 1099511627776) (hd : now + 1 = due) :
    Calls Try.prog 22 #[ck now wait base cap true due] w fun e w' => e = .returned (.tuple #[ck (now + 1) wait base cap false 0, .bool true]) ∧ Below w.heap.size w w' := by
  have HM := Lib.hid hm
  obtain ⟨a1, a2, a3, a4, a5, a6, a7, a8⟩ := hm
  have a9 : now < due ∧ due ≤ now + wait := by simpa using a8
  obtain ⟨a9, a10⟩ := a9
  have t1 : (due - now == 1) = true := by simp; omega
  have t0 : (due - now == 0) = false := by simp; omega
  have k1 : now + 1 ≤ due := by omega
  clear a8
  have a11 : due ≤ now + 1 := by omega
  clear hd
  go_enter Try.func22, Try.ntmps22
  go_wp2_with fail
  refine (rleft_on now wait base cap due _ HM.out).mono ?_
  rintro e w1 ⟨rfl, hb⟩
  have hB : Blk w1 w.heap.size 23 (ckCells now wait base cap true due) := ((Blk.new w 23 _).alloc _).belowAll hb
  have hR : Blk w1 (w.heap.size + 1) 23 (ckCells 0 0 0 0 false 0) := by simpa using (Blk.new (w.alloc _) 23 (ckCells 0 0 0 0 false 0)).belowAll hb
  have hbw : Below w.heap.size w w1 := below_after (by go_grown) (by simp; omega) hb
  have hz1 := hb.size
  simp at hz1
  have hz : w.heap.size < w1.heap.size := by omega
  clear hb
  have c0 := Blk.cell hB 0
  have c1 := Blk.cell hB 1
  have c2 := Blk.cell hB 2
  have c3 := Blk.cell hB 3
  have c4 := Blk.cell hB 4
  have c5 := Blk.cell hB 5
  have cf0 := Blk.free hB 0
  have cf1 := Blk.free hB 1
  have cf2 := Blk.free hB 2
  have cf3 := Blk.free hB 3
  have cf4 := Blk.free hB 4
  have cf5 := Blk.free hB 5
  simp only [ckCells, List.getElem?_toArray, List.getElem?_cons_zero, List.getElem?_cons_succ] at c0 c1 c2 c3 c4 c5
  have HR := Lib.hid hR
  have HB := Lib.hid hB
  clear hB hR
  go_wp2_with fail
  refine (at_zero (now + 1) wait base cap true due _ _ (by omega)).mono ?_
  rintro e w2 ⟨rfl, hb2⟩
  have hR2 : Blk w2 (w.heap.size + 1) 23 (ckCells 0 0 0 0 false 0) := Blk.belowAll (Blk.far HR.out (p := ⟨w.heap.size, 0, none⟩) (by simp) _) hb2
  have hbw2 : Below w.heap.size w w2 := below_after (by go_grown) (by simp [World.setCell]; omega) hb2
  clear hb2 hbw
  have e0 := Blk.cell hR2 0
  have e1 := Blk.cell hR2 1
  have e2 := Blk.cell hR2 2
  have e3 := Blk.cell hR2 3
  have e4 := Blk.cell hR2 4
  have e5 := Blk.cell hR2 5
  have ef0 := Blk.free hR2 0
  have ef1 := Blk.free hR2 1
  have ef2 := Blk.free hR2 2
  have ef3 := Blk.free hR2 3
  have ef4 := Blk.free hR2 4
  have ef5 := Blk.free hR2 5
  simp only [ckCells, List.getElem?_toArray, List.getElem?_cons_zero, List.getElem?_cons_succ] at e0 e1 e2 e3 e4 e5
  have HR2 := Lib.hid hR2
  clear hR2
  clear HR HB
  go_wp2_with fail
  refine bodyPost_ret (v := .tuple #[ck (now + 1) wait base cap false 0, .bool true]) (by simp [results, Try.results22, go_sem, e0, e1, e2, e3, e4, e5]) rfl ⟨rfl, ?_⟩
  go_grown

end Go.Proofs.Ytfpnileacpbocaa