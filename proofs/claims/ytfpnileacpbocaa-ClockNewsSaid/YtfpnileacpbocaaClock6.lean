/-
  The walks of three laws of the clock: each returns true. No condition of its own.
-/
import Derived.Test.YtfpnileacpbocaaClock5
set_option linter.unusedSimpArgs false
set_option linter.unusedVariables false
namespace Go.Proofs.Ytfpnileacpbocaa
open Go.RowKit


set_option maxHeartbeats 4000000 in
theorem news_true_true (base most now wait base' cap : Int) (on : Bool) (due : Int) (w : World) (h1 : -9223372036854775808 ≤ due) (h2 : due ≤ 9223372036854775807)
    (m1 : mayB 0 base base most false 0 = true) (m2 : mayB now wait base' cap on due = true) :
    Calls Try.prog 3 #[.int .i64 base, .int .i64 most, ck now wait base' cap on due] w fun e w' => e = .returned (.bool true) ∧ Below w.heap.size w w' := by
  have M1 := Lib.hid m1
  have M2 := Lib.hid m2
  have l2 : Hid (leftI now wait base' cap on due = if on then due - now else 0) := by
    have : leftI now wait base' cap on due = if on then due - now else 0 := by simp [leftI, m2]
    exact this
  clear m1 m2
  go_enter Try.func3, Try.ntmps3
  go_wp2_with fail
  refine (new_yes base most _ M1.out).mono ?_
  rintro e w1 ⟨rfl, hb1⟩
  have hB : Blk w1 (w.heap.size) 23 (ckCells now wait base' cap on due) := (Blk.newAt (by simp)).belowAll hb1
  have bw1 : Below w.heap.size w w1 := below_after (by go_grown) (by first | (with_reducible exact Nat.le_refl _) | assumption | omega | (simp; done) | (simp [World.setCell]; omega)) hb1
  have z1 := bw1.size
  have s1 := hb1.size
  try simp [World.setCell] at s1
  clear hb1
  have cB := Blk.cell hB
  have fB := Blk.free hB
  have ltB := Blk.lt hB
  have HB := Lib.hid hB
  clear hB
  go_wp2_with fail
  refine (rmay_any 0 base base most false 0 _ (by omega) (by omega)).mono ?_
  rw [M1.out]
  rintro e w2 ⟨rfl, hb2⟩
  have hB : Blk w2 (w.heap.size) 23 (ckCells now wait base' cap on due) := (Blk.alloc (Blk.alloc (HB.out) _) _).belowAll hb2
  have hX : Blk w2 (w1.heap.size) 23 (ckCells 0 base base most false 0) := (Blk.alloc (Blk.newAt (by simp)) _).belowAll hb2
  have hV : Blk w2 (w1.heap.size + 1) 23 (ckCells 0 base base most false 0) := (Blk.newAt (by simp)).belowAll hb2
  have bw2 : Below w.heap.size w w2 := below_after (by go_grown) (by first | (with_reducible exact Nat.le_refl _) | assumption | omega | (simp; done) | (simp [World.setCell]; omega)) hb2
  have z2 := bw2.size
  have s2 := hb2.size
  try simp [World.setCell] at s2
  clear hb2 bw1
  clear HB cB fB ltB
  have cB := Blk.cell hB
  have fB := Blk.free hB
  have ltB := Blk.lt hB
  have HB := Lib.hid hB
  clear hB
  have cX := Blk.cell hX
  have fX := Blk.free hX
  have ltX := Blk.lt hX
  have HX := Lib.hid hX
  clear hX
  have cV := Blk.cell hV
  have fV := Blk.free hV
  have ltV := Blk.lt hV
  have HV := Lib.hid hV
  clear hV
  go_wp2_with fail
  clear HX cX fX ltX
  clear HV cV fV ltV
  refine (rmay_any now wait base' cap on due _ h1 h2).mono ?_
  rw [M2.out]
  rintro e w3 ⟨rfl, hb3⟩
  have hB : Blk w3 (w.heap.size) 23 (ckCells now wait base' cap on due) := (HB.out).belowAll hb3
  have bw3 : Below w.heap.size w w3 := below_after (by go_grown) (by first | (with_reducible exact Nat.le_refl _) | assumption | omega | (simp; done) | (simp [World.setCell]; omega)) hb3
  have z3 := bw3.size
  have s3 := hb3.size
  try simp [World.setCell] at s3
  clear hb3 bw2
  clear HB cB fB ltB
  have cB := Blk.cell hB
  have fB := Blk.free hB
  have ltB := Blk.lt hB
  have HB := Lib.hid hB
  clear hB
  go_wp2_with fail
  refine Calls.mono (R := fun e w' => e = .returned (.int .i64 (leftI now wait base' cap on due)) ∧ Below w3.heap.size w3 w') ?_ ?_
  · have hM := (may_iff _ _ _ _ _ _).1 M2.out
    rw [l2.out]
    cases on
    · exact rleft_off now wait base' cap due w3
    · exact rleft_on now wait base' cap due w3 hM
  rintro e w4 ⟨rfl, hb4⟩
  have hB : Blk w4 (w.heap.size) 23 (ckCells now wait base' cap on due) := (HB.out).belowAll hb4
  have bw4 : Below w.heap.size w w4 := below_after (by go_grown) (by first | (with_reducible exact Nat.le_refl _) | assumption | omega | (simp; done) | (simp [World.setCell]; omega)) hb4
  have z4 := bw4.size
  have s4 := hb4.size
  try simp [World.setCell] at s4
  clear hb4 bw3
  clear HB cB fB ltB
  have cB := Blk.cell hB
  have fB := Blk.free hB
  have ltB := Blk.lt hB
  have HB := Lib.hid hB
  clear hB
  go_wp2_with fail
  have hh := held_first bw4 HB.out
  clear cB fB
  go_region_held3 (fun w' => Below w.heap.size w w' ∧ ∀ i, w'.cell? ⟨w.heap.size, i, none⟩ = (ckCells now wait base' cap on due)[i]?)
    (first | exact hh | exact held_next hb14 ‹_› (Nat.le_refl _) rfl | exact held_next hb13 ‹_› (Nat.le_refl _) rfl | exact held_next hb12 ‹_› (Nat.le_refl _) rfl | exact held_next hb11 ‹_› (Nat.le_refl _) rfl)
    (first
      | (go_at_call 11; refine (may_any now wait base' cap on due _).mono ?_; rw [M2.out]; rintro e w11 ⟨rfl, hb11⟩)
      | (go_at_call 9; refine (rmay_any now wait base' cap on due _ h1 h2).mono ?_; rw [M2.out]; rintro e w12 ⟨rfl, hb12⟩)
      | (go_at_call 12; refine (left_any now wait base' cap on due _).mono ?_; rintro e w13 ⟨rfl, hb13⟩)
      | (go_at_call 13; refine (awake_true _).mono ?_; rintro e w14 ⟨rfl, hb14⟩))
  rename_i hfin
  have hfin1 := hfin.1
  clear hfin
  go_wp2_with fail
  go_ret
  exact ⟨rfl, hfin1⟩

set_option maxHeartbeats 4000000 in
theorem news_true_false (base most now wait base' cap : Int) (on : Bool) (due : Int) (w : World) (h1 : -9223372036854775808 ≤ due) (h2 : due ≤ 9223372036854775807)
    (m1 : mayB 0 base base most false 0 = true) (m2 : mayB now wait base' cap on due = false) :
    Calls Try.prog 3 #[.int .i64 base, .int .i64 most, ck now wait base' cap on due] w fun e w' => e = .returned (.bool true) ∧ Below w.heap.size w w' := by
  have M1 := Lib.hid m1
  have M2 := Lib.hid m2
  have l2 : Hid (leftI now wait base' cap on due = 0) := by
    have : leftI now wait base' cap on due = 0 := by simp [leftI, m2]
    exact this
  clear m1 m2
  go_enter Try.func3, Try.ntmps3
  go_wp2_with fail
  refine (new_yes base most _ M1.out).mono ?_
  rintro e w1 ⟨rfl, hb1⟩
  have hB : Blk w1 (w.heap.size) 23 (ckCells now wait base' cap on due) := (Blk.newAt (by simp)).belowAll hb1
  have bw1 : Below w.heap.size w w1 := below_after (by go_grown) (by first | (with_reducible exact Nat.le_refl _) | assumption | omega | (simp; done) | (simp [World.setCell]; omega)) hb1
  have z1 := bw1.size
  have s1 := hb1.size
  try simp [World.setCell] at s1
  clear hb1
  have cB := Blk.cell hB
  have fB := Blk.free hB
  have ltB := Blk.lt hB
  have HB := Lib.hid hB
  clear hB
  go_wp2_with fail
  refine (rmay_any 0 base base most false 0 _ (by omega) (by omega)).mono ?_
  rw [M1.out]
  rintro e w2 ⟨rfl, hb2⟩
  have hB : Blk w2 (w.heap.size) 23 (ckCells now wait base' cap on due) := (Blk.alloc (Blk.alloc (HB.out) _) _).belowAll hb2
  have hX : Blk w2 (w1.heap.size) 23 (ckCells 0 base base most false 0) := (Blk.alloc (Blk.newAt (by simp)) _).belowAll hb2
  have hV : Blk w2 (w1.heap.size + 1) 23 (ckCells 0 base base most false 0) := (Blk.newAt (by simp)).belowAll hb2
  have bw2 : Below w.heap.size w w2 := below_after (by go_grown) (by first | (with_reducible exact Nat.le_refl _) | assumption | omega | (simp; done) | (simp [World.setCell]; omega)) hb2
  have z2 := bw2.size
  have s2 := hb2.size
  try simp [World.setCell] at s2
  clear hb2 bw1
  clear HB cB fB ltB
  have cB := Blk.cell hB
  have fB := Blk.free hB
  have ltB := Blk.lt hB
  have HB := Lib.hid hB
  clear hB
  have cX := Blk.cell hX
  have fX := Blk.free hX
  have ltX := Blk.lt hX
  have HX := Lib.hid hX
  clear hX
  have cV := Blk.cell hV
  have fV := Blk.free hV
  have ltV := Blk.lt hV
  have HV := Lib.hid hV
  clear hV
  go_wp2_with fail
  clear HX cX fX ltX
  clear HV cV fV ltV
  refine (rmay_any now wait base' cap on due _ h1 h2).mono ?_
  rw [M2.out]
  rintro e w3 ⟨rfl, hb3⟩
  have hB : Blk w3 (w.heap.size) 23 (ckCells now wait base' cap on due) := (HB.out).belowAll hb3
  have bw3 : Below w.heap.size w w3 := below_after (by go_grown) (by first | (with_reducible exact Nat.le_refl _) | assumption | omega | (simp; done) | (simp [World.setCell]; omega)) hb3
  have z3 := bw3.size
  have s3 := hb3.size
  try simp [World.setCell] at s3
  clear hb3 bw2
  clear HB cB fB ltB
  have cB := Blk.cell hB
  have fB := Blk.free hB
  have ltB := Blk.lt hB
  have HB := Lib.hid hB
  clear hB
  go_wp2_with fail
  have hh := held_first bw3 HB.out
  clear cB fB
  go_region_held3 (fun w' => Below w.heap.size w w' ∧ ∀ i, w'.cell? ⟨w.heap.size, i, none⟩ = (ckCells now wait base' cap on due)[i]?)
    (first | exact hh | exact held_next hb14 ‹_› (Nat.le_refl _) rfl | exact held_next hb13 ‹_› (Nat.le_refl _) rfl | exact held_next hb12 ‹_› (Nat.le_refl _) rfl | exact held_next hb11 ‹_› (Nat.le_refl _) rfl)
    (first
      | (go_at_call 11; refine (may_any now wait base' cap on due _).mono ?_; rw [M2.out]; rintro e w11 ⟨rfl, hb11⟩)
      | (go_at_call 9; refine (rmay_any now wait base' cap on due _ h1 h2).mono ?_; rw [M2.out]; rintro e w12 ⟨rfl, hb12⟩)
      | (go_at_call 12; refine (left_any now wait base' cap on due _).mono ?_; rw [l2.out]; rintro e w13 ⟨rfl, hb13⟩)
      | (go_at_call 13; refine (awake_true _).mono ?_; rintro e w14 ⟨rfl, hb14⟩))
  rename_i hfin
  have hfin1 := hfin.1
  clear hfin
  go_wp2_with fail
  go_ret
  exact ⟨rfl, hfin1⟩

set_option maxHeartbeats 4000000 in
theorem news_false_true (base most now wait base' cap : Int) (on : Bool) (due : Int) (w : World) (h1 : -9223372036854775808 ≤ due) (h2 : due ≤ 9223372036854775807)
    (m1 : mayB 0 base base most false 0 = false) (m2 : mayB now wait base' cap on due = true) :
    Calls Try.prog 3 #[.int .i64 base, .int .i64 most, ck now wait base' cap on due] w fun e w' => e = .returned (.bool true) ∧ Below w.heap.size w w' := by
  have M1 := Lib.hid m1
  have M2 := Lib.hid m2
  have l2 : Hid (leftI now wait base' cap on due = if on then due - now else 0) := by
    have : leftI now wait base' cap on due = if on then due - now else 0 := by simp [leftI, m2]
    exact this
  clear m1 m2
  go_enter Try.func3, Try.ntmps3
  go_wp2_with fail
  refine (new_no base most _ M1.out).mono ?_
  rintro e w1 ⟨rfl, hb1⟩
  have hB : Blk w1 (w.heap.size) 23 (ckCells now wait base' cap on due) := (Blk.newAt (by simp)).belowAll hb1
  have bw1 : Below w.heap.size w w1 := below_after (by go_grown) (by first | (with_reducible exact Nat.le_refl _) | assumption | omega | (simp; done) | (simp [World.setCell]; omega)) hb1
  have z1 := bw1.size
  have s1 := hb1.size
  try simp [World.setCell] at s1
  clear hb1
  have cB := Blk.cell hB
  have fB := Blk.free hB
  have ltB := Blk.lt hB
  have HB := Lib.hid hB
  clear hB
  go_wp2_with fail
  refine (rmay_any 0 base base most false 0 _ (by omega) (by omega)).mono ?_
  rw [M1.out]
  rintro e w2 ⟨rfl, hb2⟩
  have hB : Blk w2 (w.heap.size) 23 (ckCells now wait base' cap on due) := (Blk.alloc (Blk.alloc (HB.out) _) _).belowAll hb2
  have hX : Blk w2 (w1.heap.size) 23 (ckCells 0 0 0 0 false 0) := (Blk.alloc (Blk.newAt (by simp)) _).belowAll hb2
  have hV : Blk w2 (w1.heap.size + 1) 23 (ckCells 0 base base most false 0) := (Blk.newAt (by simp)).belowAll hb2
  have bw2 : Below w.heap.size w w2 := below_after (by go_grown) (by first | (with_reducible exact Nat.le_refl _) | assumption | omega | (simp; done) | (simp [World.setCell]; omega)) hb2
  have z2 := bw2.size
  have s2 := hb2.size
  try simp [World.setCell] at s2
  clear hb2 bw1
  clear HB cB fB ltB
  have cB := Blk.cell hB
  have fB := Blk.free hB
  have ltB := Blk.lt hB
  have HB := Lib.hid hB
  clear hB
  have cX := Blk.cell hX
  have fX := Blk.free hX
  have ltX := Blk.lt hX
  have HX := Lib.hid hX
  clear hX
  have cV := Blk.cell hV
  have fV := Blk.free hV
  have ltV := Blk.lt hV
  have HV := Lib.hid hV
  clear hV
  go_wp2_with fail
  clear HX cX fX ltX
  clear HV cV fV ltV
  refine (rmay_any now wait base' cap on due _ h1 h2).mono ?_
  rw [M2.out]
  rintro e w3 ⟨rfl, hb3⟩
  have hB : Blk w3 (w.heap.size) 23 (ckCells now wait base' cap on due) := (HB.out).belowAll hb3
  have bw3 : Below w.heap.size w w3 := below_after (by go_grown) (by first | (with_reducible exact Nat.le_refl _) | assumption | omega | (simp; done) | (simp [World.setCell]; omega)) hb3
  have z3 := bw3.size
  have s3 := hb3.size
  try simp [World.setCell] at s3
  clear hb3 bw2
  clear HB cB fB ltB
  have cB := Blk.cell hB
  have fB := Blk.free hB
  have ltB := Blk.lt hB
  have HB := Lib.hid hB
  clear hB
  go_wp2_with fail
  refine Calls.mono (R := fun e w' => e = .returned (.int .i64 (leftI now wait base' cap on due)) ∧ Below w3.heap.size w3 w') ?_ ?_
  · have hM := (may_iff _ _ _ _ _ _).1 M2.out
    rw [l2.out]
    cases on
    · exact rleft_off now wait base' cap due w3
    · exact rleft_on now wait base' cap due w3 hM
  rintro e w4 ⟨rfl, hb4⟩
  have hB : Blk w4 (w.heap.size) 23 (ckCells now wait base' cap on due) := (HB.out).belowAll hb4
  have bw4 : Below w.heap.size w w4 := below_after (by go_grown) (by first | (with_reducible exact Nat.le_refl _) | assumption | omega | (simp; done) | (simp [World.setCell]; omega)) hb4
  have z4 := bw4.size
  have s4 := hb4.size
  try simp [World.setCell] at s4
  clear hb4 bw3
  clear HB cB fB ltB
  have cB := Blk.cell hB
  have fB := Blk.free hB
  have ltB := Blk.lt hB
  have HB := Lib.hid hB
  clear hB
  go_wp2_with fail
  have hh := held_first bw4 HB.out
  clear cB fB
  go_region_held3 (fun w' => Below w.heap.size w w' ∧ ∀ i, w'.cell? ⟨w.heap.size, i, none⟩ = (ckCells now wait base' cap on due)[i]?)
    (first | exact hh | exact held_next hb14 ‹_› (Nat.le_refl _) rfl | exact held_next hb13 ‹_› (Nat.le_refl _) rfl | exact held_next hb12 ‹_› (Nat.le_refl _) rfl | exact held_next hb11 ‹_› (Nat.le_refl _) rfl)
    (first
      | (go_at_call 11; refine (may_any now wait base' cap on due _).mono ?_; rw [M2.out]; rintro e w11 ⟨rfl, hb11⟩)
      | (go_at_call 9; refine (rmay_any now wait base' cap on due _ h1 h2).mono ?_; rw [M2.out]; rintro e w12 ⟨rfl, hb12⟩)
      | (go_at_call 12; refine (left_any now wait base' cap on due _).mono ?_; rintro e w13 ⟨rfl, hb13⟩)
      | (go_at_call 13; refine (awake_true _).mono ?_; rintro e w14 ⟨rfl, hb14⟩))
  rename_i hfin
  have hfin1 := hfin.1
  clear hfin
  go_wp2_with fail
  go_ret
  exact ⟨rfl, hfin1⟩

set_option maxHeartbeats 4000000 in
theorem news_false_false (base most now wait base' cap : Int) (on : Bool) (due : Int) (w : World) (h1 : -9223372036854775808 ≤ due) (h2 : due ≤ 9223372036854775807)
    (m1 : mayB 0 base base most false 0 = false) (m2 : mayB now wait base' cap on due = false) :
    Calls Try.prog 3 #[.int .i64 base, .int .i64 most, ck now wait base' cap on due] w fun e w' => e = .returned (.bool true) ∧ Below w.heap.size w w' := by
  have M1 := Lib.hid m1
  have M2 := Lib.hid m2
  have l2 : Hid (leftI now wait base' cap on due = 0) := by
    have : leftI now wait base' cap on due = 0 := by simp [leftI, m2]
    exact this
  clear m1 m2
  go_enter Try.func3, Try.ntmps3
  go_wp2_with fail
  refine (new_no base most _ M1.out).mono ?_
  rintro e w1 ⟨rfl, hb1⟩
  have hB : Blk w1 (w.heap.size) 23 (ckCells now wait base' cap on due) := (Blk.newAt (by simp)).belowAll hb1
  have bw1 : Below w.heap.size w w1 := below_after (by go_grown) (by first | (with_reducible exact Nat.le_refl _) | assumption | omega | (simp; done) | (simp [World.setCell]; omega)) hb1
  have z1 := bw1.size
  have s1 := hb1.size
  try simp [World.setCell] at s1
  clear hb1
  have cB := Blk.cell hB
  have fB := Blk.free hB
  have ltB := Blk.lt hB
  have HB := Lib.hid hB
  clear hB
  go_wp2_with fail
  refine (rmay_any 0 base base most false 0 _ (by omega) (by omega)).mono ?_
  rw [M1.out]
  rintro e w2 ⟨rfl, hb2⟩
  have hB : Blk w2 (w.heap.size) 23 (ckCells now wait base' cap on due) := (Blk.alloc (Blk.alloc (HB.out) _) _).belowAll hb2
  have hX : Blk w2 (w1.heap.size) 23 (ckCells 0 0 0 0 false 0) := (Blk.alloc (Blk.newAt (by simp)) _).belowAll hb2
  have hV : Blk w2 (w1.heap.size + 1) 23 (ckCells 0 base base most false 0) := (Blk.newAt (by simp)).belowAll hb2
  have bw2 : Below w.heap.size w w2 := below_after (by go_grown) (by first | (with_reducible exact Nat.le_refl _) | assumption | omega | (simp; done) | (simp [World.setCell]; omega)) hb2
  have z2 := bw2.size
  have s2 := hb2.size
  try simp [World.setCell] at s2
  clear hb2 bw1
  clear HB cB fB ltB
  have cB := Blk.cell hB
  have fB := Blk.free hB
  have ltB := Blk.lt hB
  have HB := Lib.hid hB
  clear hB
  have cX := Blk.cell hX
  have fX := Blk.free hX
  have ltX := Blk.lt hX
  have HX := Lib.hid hX
  clear hX
  have cV := Blk.cell hV
  have fV := Blk.free hV
  have ltV := Blk.lt hV
  have HV := Lib.hid hV
  clear hV
  go_wp2_with fail
  clear HX cX fX ltX
  clear HV cV fV ltV
  refine (rmay_any now wait base' cap on due _ h1 h2).mono ?_
  rw [M2.out]
  rintro e w3 ⟨rfl, hb3⟩
  have hB : Blk w3 (w.heap.size) 23 (ckCells now wait base' cap on due) := (HB.out).belowAll hb3
  have bw3 : Below w.heap.size w w3 := below_after (by go_grown) (by first | (with_reducible exact Nat.le_refl _) | assumption | omega | (simp; done) | (simp [World.setCell]; omega)) hb3
  have z3 := bw3.size
  have s3 := hb3.size
  try simp [World.setCell] at s3
  clear hb3 bw2
  clear HB cB fB ltB
  have cB := Blk.cell hB
  have fB := Blk.free hB
  have ltB := Blk.lt hB
  have HB := Lib.hid hB
  clear hB
  go_wp2_with fail
  have hh := held_first bw3 HB.out
  clear cB fB
  go_region_held3 (fun w' => Below w.heap.size w w' ∧ ∀ i, w'.cell? ⟨w.heap.size, i, none⟩ = (ckCells now wait base' cap on due)[i]?)
    (first | exact hh | exact held_next hb14 ‹_› (Nat.le_refl _) rfl | exact held_next hb13 ‹_› (Nat.le_refl _) rfl | exact held_next hb12 ‹_› (Nat.le_refl _) rfl | exact held_next hb11 ‹_› (Nat.le_refl _) rfl)
    (first
      | (go_at_call 11; refine (may_any now wait base' cap on due _).mono ?_; rw [M2.out]; rintro e w11 ⟨rfl, hb11⟩)
      | (go_at_call 9; refine (rmay_any now wait base' cap on due _ h1 h2).mono ?_; rw [M2.out]; rintro e w12 ⟨rfl, hb12⟩)
      | (go_at_call 12; refine (left_any now wait base' cap on due _).mono ?_; rw [l2.out]; rintro e w13 ⟨rfl, hb13⟩)
      | (go_at_call 13; refine (awake_true _).mono ?_; rintro e w14 ⟨rfl, hb14⟩))
  rename_i hfin
  have hfin1 := hfin.1
  clear hfin
  go_wp2_with fail
  go_ret
  exact ⟨rfl, hfin1⟩

theorem news_walk (base most now wait base' cap : Int) (on : Bool) (due : Int) (w : World) (h1 : -9223372036854775808 ≤ due) (h2 : due ≤ 9223372036854775807) :
    Calls Try.prog 3 #[.int .i64 base, .int .i64 most, ck now wait base' cap on due] w fun e w' => e = .returned (.bool true) ∧ Below w.heap.size w w' := by
  cases m1 : mayB 0 base base most false 0 <;> cases m2 : mayB now wait base' cap on due
  · exact news_false_false base most now wait base' cap on due w h1 h2 m1 m2
  · exact news_false_true base most now wait base' cap on due w h1 h2 m1 m2
  · exact news_true_false base most now wait base' cap on due w h1 h2 m1 m2
  · exact news_true_true base most now wait base' cap on due w h1 h2 m1 m2
end Go.Proofs.Ytfpnileacpbocaa