/-
  The chapter's examples, as the law asks them: true. No condition of its own.
-/
import Derived.Test.YtfpnileacpbocaaClock4
set_option linter.unusedSimpArgs false
set_option linter.unusedVariables false
namespace Go.Proofs.Ytfpnileacpbocaa
open Go.RowKit

set_option maxHeartbeats 4000000 in
theorem awake_true (w : World) : Calls Try.prog 13 #[] w fun e w' => e = .returned (.bool true) ∧ Below w.heap.size w w' := by
  have n1 : ∀ W, Calls Try.prog 8 #[.int .i64 2, .int .i64 5] W fun e w' => e = .returned (.tuple #[ck 0 2 2 5 false 0, .int .i64 0]) ∧ Below W.heap.size W w' := fun W => new_yes 2 5 W (by decide)
  have n2 : ∀ W, Calls Try.prog 14 #[ck 0 2 2 5 false 0] W fun e w' => e = .returned (.tuple #[ck 0 2 2 5 true 2, .int .i64 0]) ∧ Below W.heap.size W w' := fun W => start_yes 0 2 2 5 false 0 W (by decide)
  have n3 : ∀ W, Calls Try.prog 15 #[ck 0 2 2 5 true 2] W fun e w' => e = .returned (.tuple #[ck 1 2 2 5 true 2, .bool false, .int .i64 0]) ∧ Below W.heap.size W w' := fun W => tick_on 0 2 2 5 2 W (by decide) (by decide) (by decide)
  have n4 : ∀ W, Calls Try.prog 15 #[ck 1 2 2 5 true 2] W fun e w' => e = .returned (.tuple #[ck 2 2 2 5 false 0, .bool true, .int .i64 0]) ∧ Below W.heap.size W w' := fun W => tick_rings 1 2 2 5 2 W (by decide) (by decide) (by decide)
  have n5 : ∀ W, Calls Try.prog 16 #[ck 0 2 2 5 false 0] W fun e w' => e = .returned (.tuple #[ck 0 4 2 5 false 0, .int .i64 0]) ∧ Below W.heap.size W w' := fun W => double_yes 0 2 2 5 false 0 W (by decide)
  have n6 : ∀ W, Calls Try.prog 16 #[ck 0 4 2 5 false 0] W fun e w' => e = .returned (.tuple #[ck 0 5 2 5 false 0, .int .i64 0]) ∧ Below W.heap.size W w' := fun W => double_yes 0 4 2 5 false 0 W (by decide)
  have n7 : ∀ W, Calls Try.prog 14 #[ck 0 5 2 5 false 0] W fun e w' => e = .returned (.tuple #[ck 0 5 2 5 true 5, .int .i64 0]) ∧ Below W.heap.size W w' := fun W => start_yes 0 5 2 5 false 0 W (by decide)
  have n8 : ∀ W, Calls Try.prog 15 #[ck 0 5 2 5 true 5] W fun e w' => e = .returned (.tuple #[ck 1 5 2 5 true 5, .bool false, .int .i64 0]) ∧ Below W.heap.size W w' := fun W => tick_on 0 5 2 5 5 W (by decide) (by decide) (by decide)
  have n9 : ∀ W, Calls Try.prog 17 #[ck 1 5 2 5 true 5] W fun e w' => e = .returned (.tuple #[ck 1 2 2 5 true 3, .int .i64 0]) ∧ Below W.heap.size W w' := fun W => reset_yes_on 1 5 2 5 5 W (by decide)
  have n10 : ∀ W, Calls Try.prog 12 #[ck 1 2 2 5 true 3] W fun e w' => e = .returned (.int .i64 2) ∧ Below W.heap.size W w' := fun W => left_any 1 2 2 5 true 3 W
  have N1 := Lib.hid n1
  clear n1
  have N2 := Lib.hid n2
  clear n2
  have N3 := Lib.hid n3
  clear n3
  have N4 := Lib.hid n4
  clear n4
  have N5 := Lib.hid n5
  clear n5
  have N6 := Lib.hid n6
  clear n6
  have N7 := Lib.hid n7
  clear n7
  have N8 := Lib.hid n8
  clear n8
  have N9 := Lib.hid n9
  clear n9
  have N10 := Lib.hid n10
  clear n10
  go_enter Try.func13, Try.ntmps13
  go_wp2_with fail
  refine (N1.out _).mono ?_
  rintro e w1 ⟨rfl, hb1⟩
  have hbw1 : Below w.heap.size w w1 := hb1
  have hz1 := hb1.size
  clear hb1
  try clear cC0 cC1 cC2 cC3 cC4 cC5 cCf0 cCf1 cCf2 cCf3 cCf4 cCf5
  try clear cA0 cA1 cA2 cA3 cA4 cA5 cAf0 cAf1 cAf2 cAf3 cAf4 cAf5
  try clear cD0 cD1 cD2 cD3 cD4 cD5 cDf0 cDf1 cDf2 cDf3 cDf4 cDf5
  try clear cW0 cW1 cW2 cW3 cW4 cW5 cWf0 cWf1 cWf2 cWf3 cWf4 cWf5
  try clear cX0 cX1 cX2 cX3 cX4 cX5 cXf0 cXf1 cXf2 cXf3 cXf4 cXf5
  have HC : True := trivial
  go_wp2_with fail
  refine (N2.out _).mono ?_
  rintro e w2 ⟨rfl, hb2⟩
  have hC : Blk w2 w1.heap.size 23 (ckCells 0 2 2 5 false 0) := (Blk.new w1 23 (ckCells 0 2 2 5 false 0)).belowAll hb2
  have hbw2 : Below w.heap.size w w2 := below_after (by go_grown) (by simp [World.setCell]; omega) hb2
  have hz2 := hb2.size
  simp [World.setCell] at hz2
  clear hbw1
  clear hb2
  clear HC
  try clear cC0 cC1 cC2 cC3 cC4 cC5 cCf0 cCf1 cCf2 cCf3 cCf4 cCf5
  try clear cA0 cA1 cA2 cA3 cA4 cA5 cAf0 cAf1 cAf2 cAf3 cAf4 cAf5
  try clear cD0 cD1 cD2 cD3 cD4 cD5 cDf0 cDf1 cDf2 cDf3 cDf4 cDf5
  try clear cW0 cW1 cW2 cW3 cW4 cW5 cWf0 cWf1 cWf2 cWf3 cWf4 cWf5
  try clear cX0 cX1 cX2 cX3 cX4 cX5 cXf0 cXf1 cXf2 cXf3 cXf4 cXf5
  have hzC2 := hC.lt
  have cC0 := Blk.cell hC 0
  have cC1 := Blk.cell hC 1
  have cC2 := Blk.cell hC 2
  have cC3 := Blk.cell hC 3
  have cC4 := Blk.cell hC 4
  have cC5 := Blk.cell hC 5
  have cCf0 := Blk.free hC 0
  have cCf1 := Blk.free hC 1
  have cCf2 := Blk.free hC 2
  have cCf3 := Blk.free hC 3
  have cCf4 := Blk.free hC 4
  have cCf5 := Blk.free hC 5
  simp only [ckCells, List.getElem?_toArray, List.getElem?_cons_zero, List.getElem?_cons_succ] at cC0 cC1 cC2 cC3 cC4 cC5
  have HC := Lib.hid hC
  clear hC
  have HA : True := trivial
  go_wp2_with fail
  refine (N3.out _).mono ?_
  rintro e w3 ⟨rfl, hb3⟩
  have hC : Blk w3 w1.heap.size 23 (ckCells 0 2 2 5 false 0) := (HC.out.alloc _).belowAll hb3
  have hA : Blk w3 w2.heap.size 23 (ckCells 0 2 2 5 true 2) := (Blk.new w2 23 (ckCells 0 2 2 5 true 2)).belowAll hb3
  have hbw3 : Below w.heap.size w w3 := below_after (by go_grown) (by simp [World.setCell]; omega) hb3
  have hz3 := hb3.size
  simp [World.setCell] at hz3
  clear hbw2
  clear hb3
  clear HC
  clear HA
  try clear cC0 cC1 cC2 cC3 cC4 cC5 cCf0 cCf1 cCf2 cCf3 cCf4 cCf5
  try clear cA0 cA1 cA2 cA3 cA4 cA5 cAf0 cAf1 cAf2 cAf3 cAf4 cAf5
  try clear cD0 cD1 cD2 cD3 cD4 cD5 cDf0 cDf1 cDf2 cDf3 cDf4 cDf5
  try clear cW0 cW1 cW2 cW3 cW4 cW5 cWf0 cWf1 cWf2 cWf3 cWf4 cWf5
  try clear cX0 cX1 cX2 cX3 cX4 cX5 cXf0 cXf1 cXf2 cXf3 cXf4 cXf5
  have hzC3 := hC.lt
  have cC0 := Blk.cell hC 0
  have cC1 := Blk.cell hC 1
  have cC2 := Blk.cell hC 2
  have cC3 := Blk.cell hC 3
  have cC4 := Blk.cell hC 4
  have cC5 := Blk.cell hC 5
  have cCf0 := Blk.free hC 0
  have cCf1 := Blk.free hC 1
  have cCf2 := Blk.free hC 2
  have cCf3 := Blk.free hC 3
  have cCf4 := Blk.free hC 4
  have cCf5 := Blk.free hC 5
  simp only [ckCells, List.getElem?_toArray, List.getElem?_cons_zero, List.getElem?_cons_succ] at cC0 cC1 cC2 cC3 cC4 cC5
  have HC := Lib.hid hC
  clear hC
  have hzA3 := hA.lt
  have cA0 := Blk.cell hA 0
  have cA1 := Blk.cell hA 1
  have cA2 := Blk.cell hA 2
  have cA3 := Blk.cell hA 3
  have cA4 := Blk.cell hA 4
  have cA5 := Blk.cell hA 5
  have cAf0 := Blk.free hA 0
  have cAf1 := Blk.free hA 1
  have cAf2 := Blk.free hA 2
  have cAf3 := Blk.free hA 3
  have cAf4 := Blk.free hA 4
  have cAf5 := Blk.free hA 5
  simp only [ckCells, List.getElem?_toArray, List.getElem?_cons_zero, List.getElem?_cons_succ] at cA0 cA1 cA2 cA3 cA4 cA5
  have HA := Lib.hid hA
  clear hA
  go_wp2_with fail
  refine (N4.out _).mono ?_
  rintro e w4 ⟨rfl, hb4⟩
  have hC : Blk w4 w1.heap.size 23 (ckCells 0 2 2 5 false 0) := (Blk.far (p := ⟨w2.heap.size, 5, none⟩) (Blk.far (p := ⟨w2.heap.size, 4, none⟩) (Blk.far (p := ⟨w2.heap.size, 3, none⟩) (Blk.far (p := ⟨w2.heap.size, 2, none⟩) (Blk.far (p := ⟨w2.heap.size, 1, none⟩) (Blk.far (p := ⟨w2.heap.size, 0, none⟩) (HC.out) (by simp; omega) _) (by simp; omega) _) (by simp; omega) _) (by simp; omega) _) (by simp; omega) _) (by simp; omega) _).belowAll hb4
  have hA : Blk w4 w2.heap.size 23 (ckCells 1 2 2 5 true 2) := (Blk.put (Blk.put (Blk.put (Blk.put (Blk.put (Blk.put (HA.out) 0 _) 1 _) 2 _) 3 _) 4 _) 5 _).belowAll hb4
  have hbw4 : Below w.heap.size w w4 := below_after (by go_grown) (by simp [World.setCell]; omega) hb4
  have hz4 := hb4.size
  simp [World.setCell] at hz4
  clear hbw3
  clear hb4
  clear HC
  clear hA HA
  try clear cC0 cC1 cC2 cC3 cC4 cC5 cCf0 cCf1 cCf2 cCf3 cCf4 cCf5
  try clear cA0 cA1 cA2 cA3 cA4 cA5 cAf0 cAf1 cAf2 cAf3 cAf4 cAf5
  try clear cD0 cD1 cD2 cD3 cD4 cD5 cDf0 cDf1 cDf2 cDf3 cDf4 cDf5
  try clear cW0 cW1 cW2 cW3 cW4 cW5 cWf0 cWf1 cWf2 cWf3 cWf4 cWf5
  try clear cX0 cX1 cX2 cX3 cX4 cX5 cXf0 cXf1 cXf2 cXf3 cXf4 cXf5
  have hzC4 := hC.lt
  have cC0 := Blk.cell hC 0
  have cC1 := Blk.cell hC 1
  have cC2 := Blk.cell hC 2
  have cC3 := Blk.cell hC 3
  have cC4 := Blk.cell hC 4
  have cC5 := Blk.cell hC 5
  have cCf0 := Blk.free hC 0
  have cCf1 := Blk.free hC 1
  have cCf2 := Blk.free hC 2
  have cCf3 := Blk.free hC 3
  have cCf4 := Blk.free hC 4
  have cCf5 := Blk.free hC 5
  simp only [ckCells, List.getElem?_toArray, List.getElem?_cons_zero, List.getElem?_cons_succ] at cC0 cC1 cC2 cC3 cC4 cC5
  have HC := Lib.hid hC
  clear hC
  go_wp2_with fail
  refine (N5.out _).mono ?_
  rintro e w5 ⟨rfl, hb5⟩
  have hC : Blk w5 w1.heap.size 23 (ckCells 0 2 2 5 false 0) := (HC.out.alloc _).belowAll hb5
  have hbw5 : Below w.heap.size w w5 := below_after (by go_grown) (by simp [World.setCell]; omega) hb5
  have hz5 := hb5.size
  simp [World.setCell] at hz5
  clear hbw4
  clear hb5
  clear hC HC
  try clear cC0 cC1 cC2 cC3 cC4 cC5 cCf0 cCf1 cCf2 cCf3 cCf4 cCf5
  try clear cA0 cA1 cA2 cA3 cA4 cA5 cAf0 cAf1 cAf2 cAf3 cAf4 cAf5
  try clear cD0 cD1 cD2 cD3 cD4 cD5 cDf0 cDf1 cDf2 cDf3 cDf4 cDf5
  try clear cW0 cW1 cW2 cW3 cW4 cW5 cWf0 cWf1 cWf2 cWf3 cWf4 cWf5
  try clear cX0 cX1 cX2 cX3 cX4 cX5 cXf0 cXf1 cXf2 cXf3 cXf4 cXf5
  have HD : True := trivial
  go_wp2_with fail
  refine (N6.out _).mono ?_
  rintro e w6 ⟨rfl, hb6⟩
  have hD : Blk w6 w5.heap.size 23 (ckCells 0 4 2 5 false 0) := (Blk.new w5 23 (ckCells 0 4 2 5 false 0)).belowAll hb6
  have hbw6 : Below w.heap.size w w6 := below_after (by go_grown) (by simp [World.setCell]; omega) hb6
  have hz6 := hb6.size
  simp [World.setCell] at hz6
  clear hbw5
  clear hb6
  clear HD
  try clear cC0 cC1 cC2 cC3 cC4 cC5 cCf0 cCf1 cCf2 cCf3 cCf4 cCf5
  try clear cA0 cA1 cA2 cA3 cA4 cA5 cAf0 cAf1 cAf2 cAf3 cAf4 cAf5
  try clear cD0 cD1 cD2 cD3 cD4 cD5 cDf0 cDf1 cDf2 cDf3 cDf4 cDf5
  try clear cW0 cW1 cW2 cW3 cW4 cW5 cWf0 cWf1 cWf2 cWf3 cWf4 cWf5
  try clear cX0 cX1 cX2 cX3 cX4 cX5 cXf0 cXf1 cXf2 cXf3 cXf4 cXf5
  have hzD6 := hD.lt
  have cD0 := Blk.cell hD 0
  have cD1 := Blk.cell hD 1
  have cD2 := Blk.cell hD 2
  have cD3 := Blk.cell hD 3
  have cD4 := Blk.cell hD 4
  have cD5 := Blk.cell hD 5
  have cDf0 := Blk.free hD 0
  have cDf1 := Blk.free hD 1
  have cDf2 := Blk.free hD 2
  have cDf3 := Blk.free hD 3
  have cDf4 := Blk.free hD 4
  have cDf5 := Blk.free hD 5
  simp only [ckCells, List.getElem?_toArray, List.getElem?_cons_zero, List.getElem?_cons_succ] at cD0 cD1 cD2 cD3 cD4 cD5
  have HD := Lib.hid hD
  clear hD
  go_wp2_with fail
  refine (N7.out _).mono ?_
  rintro e w7 ⟨rfl, hb7⟩
  have hD : Blk w7 w5.heap.size 23 (ckCells 0 5 2 5 false 0) := (Blk.put (Blk.put (Blk.put (Blk.put (Blk.put (Blk.put (HD.out) 0 _) 1 _) 2 _) 3 _) 4 _) 5 _).belowAll hb7
  have hbw7 : Below w.heap.size w w7 := below_after (by go_grown) (by simp [World.setCell]; omega) hb7
  have hz7 := hb7.size
  simp [World.setCell] at hz7
  clear hbw6
  clear hb7
  clear HD
  try clear cC0 cC1 cC2 cC3 cC4 cC5 cCf0 cCf1 cCf2 cCf3 cCf4 cCf5
  try clear cA0 cA1 cA2 cA3 cA4 cA5 cAf0 cAf1 cAf2 cAf3 cAf4 cAf5
  try clear cD0 cD1 cD2 cD3 cD4 cD5 cDf0 cDf1 cDf2 cDf3 cDf4 cDf5
  try clear cW0 cW1 cW2 cW3 cW4 cW5 cWf0 cWf1 cWf2 cWf3 cWf4 cWf5
  try clear cX0 cX1 cX2 cX3 cX4 cX5 cXf0 cXf1 cXf2 cXf3 cXf4 cXf5
  have hzD7 := hD.lt
  have cD0 := Blk.cell hD 0
  have cD1 := Blk.cell hD 1
  have cD2 := Blk.cell hD 2
  have cD3 := Blk.cell hD 3
  have cD4 := Blk.cell hD 4
  have cD5 := Blk.cell hD 5
  have cDf0 := Blk.free hD 0
  have cDf1 := Blk.free hD 1
  have cDf2 := Blk.free hD 2
  have cDf3 := Blk.free hD 3
  have cDf4 := Blk.free hD 4
  have cDf5 := Blk.free hD 5
  simp only [ckCells, List.getElem?_toArray, List.getElem?_cons_zero, List.getElem?_cons_succ] at cD0 cD1 cD2 cD3 cD4 cD5
  have HD := Lib.hid hD
  clear hD
  have HW : True := trivial
  go_wp2_with fail
  refine (N8.out _).mono ?_
  rintro e w8 ⟨rfl, hb8⟩
  have hD : Blk w8 w5.heap.size 23 (ckCells 0 5 2 5 false 0) := (HD.out.alloc _).belowAll hb8
  have hW : Blk w8 w7.heap.size 23 (ckCells 0 5 2 5 true 5) := (Blk.new w7 23 (ckCells 0 5 2 5 true 5)).belowAll hb8
  have hbw8 : Below w.heap.size w w8 := below_after (by go_grown) (by simp [World.setCell]; omega) hb8
  have hz8 := hb8.size
  simp [World.setCell] at hz8
  clear hbw7
  clear hb8
  clear HD
  clear HW
  try clear cC0 cC1 cC2 cC3 cC4 cC5 cCf0 cCf1 cCf2 cCf3 cCf4 cCf5
  try clear cA0 cA1 cA2 cA3 cA4 cA5 cAf0 cAf1 cAf2 cAf3 cAf4 cAf5
  try clear cD0 cD1 cD2 cD3 cD4 cD5 cDf0 cDf1 cDf2 cDf3 cDf4 cDf5
  try clear cW0 cW1 cW2 cW3 cW4 cW5 cWf0 cWf1 cWf2 cWf3 cWf4 cWf5
  try clear cX0 cX1 cX2 cX3 cX4 cX5 cXf0 cXf1 cXf2 cXf3 cXf4 cXf5
  have hzD8 := hD.lt
  have cD0 := Blk.cell hD 0
  have cD1 := Blk.cell hD 1
  have cD2 := Blk.cell hD 2
  have cD3 := Blk.cell hD 3
  have cD4 := Blk.cell hD 4
  have cD5 := Blk.cell hD 5
  have cDf0 := Blk.free hD 0
  have cDf1 := Blk.free hD 1
  have cDf2 := Blk.free hD 2
  have cDf3 := Blk.free hD 3
  have cDf4 := Blk.free hD 4
  have cDf5 := Blk.free hD 5
  simp only [ckCells, List.getElem?_toArray, List.getElem?_cons_zero, List.getElem?_cons_succ] at cD0 cD1 cD2 cD3 cD4 cD5
  have HD := Lib.hid hD
  clear hD
  have hzW8 := hW.lt
  have cW0 := Blk.cell hW 0
  have cW1 := Blk.cell hW 1
  have cW2 := Blk.cell hW 2
  have cW3 := Blk.cell hW 3
  have cW4 := Blk.cell hW 4
  have cW5 := Blk.cell hW 5
  have cWf0 := Blk.free hW 0
  have cWf1 := Blk.free hW 1
  have cWf2 := Blk.free hW 2
  have cWf3 := Blk.free hW 3
  have cWf4 := Blk.free hW 4
  have cWf5 := Blk.free hW 5
  simp only [ckCells, List.getElem?_toArray, List.getElem?_cons_zero, List.getElem?_cons_succ] at cW0 cW1 cW2 cW3 cW4 cW5
  have HW := Lib.hid hW
  clear hW
  go_wp2_with fail
  refine (N9.out _).mono ?_
  rintro e w9 ⟨rfl, hb9⟩
  have hD : Blk w9 w5.heap.size 23 (ckCells 0 5 2 5 false 0) := (Blk.far (p := ⟨w7.heap.size, 5, none⟩) (Blk.far (p := ⟨w7.heap.size, 4, none⟩) (Blk.far (p := ⟨w7.heap.size, 3, none⟩) (Blk.far (p := ⟨w7.heap.size, 2, none⟩) (Blk.far (p := ⟨w7.heap.size, 1, none⟩) (Blk.far (p := ⟨w7.heap.size, 0, none⟩) (HD.out) (by simp; omega) _) (by simp; omega) _) (by simp; omega) _) (by simp; omega) _) (by simp; omega) _) (by simp; omega) _).belowAll hb9
  have hW : Blk w9 w7.heap.size 23 (ckCells 1 5 2 5 true 5) := (Blk.put (Blk.put (Blk.put (Blk.put (Blk.put (Blk.put (HW.out) 0 _) 1 _) 2 _) 3 _) 4 _) 5 _).belowAll hb9
  have hbw9 : Below w.heap.size w w9 := below_after (by go_grown) (by simp [World.setCell]; omega) hb9
  have hz9 := hb9.size
  simp [World.setCell] at hz9
  clear hbw8
  clear hb9
  clear HD
  clear HW
  try clear cC0 cC1 cC2 cC3 cC4 cC5 cCf0 cCf1 cCf2 cCf3 cCf4 cCf5
  try clear cA0 cA1 cA2 cA3 cA4 cA5 cAf0 cAf1 cAf2 cAf3 cAf4 cAf5
  try clear cD0 cD1 cD2 cD3 cD4 cD5 cDf0 cDf1 cDf2 cDf3 cDf4 cDf5
  try clear cW0 cW1 cW2 cW3 cW4 cW5 cWf0 cWf1 cWf2 cWf3 cWf4 cWf5
  try clear cX0 cX1 cX2 cX3 cX4 cX5 cXf0 cXf1 cXf2 cXf3 cXf4 cXf5
  have hzD9 := hD.lt
  have cD0 := Blk.cell hD 0
  have cD1 := Blk.cell hD 1
  have cD2 := Blk.cell hD 2
  have cD3 := Blk.cell hD 3
  have cD4 := Blk.cell hD 4
  have cD5 := Blk.cell hD 5
  have cDf0 := Blk.free hD 0
  have cDf1 := Blk.free hD 1
  have cDf2 := Blk.free hD 2
  have cDf3 := Blk.free hD 3
  have cDf4 := Blk.free hD 4
  have cDf5 := Blk.free hD 5
  simp only [ckCells, List.getElem?_toArray, List.getElem?_cons_zero, List.getElem?_cons_succ] at cD0 cD1 cD2 cD3 cD4 cD5
  have HD := Lib.hid hD
  clear hD
  have hzW9 := hW.lt
  have cW0 := Blk.cell hW 0
  have cW1 := Blk.cell hW 1
  have cW2 := Blk.cell hW 2
  have cW3 := Blk.cell hW 3
  have cW4 := Blk.cell hW 4
  have cW5 := Blk.cell hW 5
  have cWf0 := Blk.free hW 0
  have cWf1 := Blk.free hW 1
  have cWf2 := Blk.free hW 2
  have cWf3 := Blk.free hW 3
  have cWf4 := Blk.free hW 4
  have cWf5 := Blk.free hW 5
  simp only [ckCells, List.getElem?_toArray, List.getElem?_cons_zero, List.getElem?_cons_succ] at cW0 cW1 cW2 cW3 cW4 cW5
  have HW := Lib.hid hW
  clear hW
  go_wp2_with fail
  refine (N10.out _).mono ?_
  rintro e w10 ⟨rfl, hb10⟩
  have hD : Blk w10 w5.heap.size 23 (ckCells 0 5 2 5 false 0) := (Blk.far (p := ⟨w7.heap.size, 5, none⟩) (Blk.far (p := ⟨w7.heap.size, 4, none⟩) (Blk.far (p := ⟨w7.heap.size, 3, none⟩) (Blk.far (p := ⟨w7.heap.size, 2, none⟩) (Blk.far (p := ⟨w7.heap.size, 1, none⟩) (Blk.far (p := ⟨w7.heap.size, 0, none⟩) (HD.out) (by simp; omega) _) (by simp; omega) _) (by simp; omega) _) (by simp; omega) _) (by simp; omega) _) (by simp; omega) _).belowAll hb10
  have hW : Blk w10 w7.heap.size 23 (ckCells 1 2 2 5 true 3) := (Blk.put (Blk.put (Blk.put (Blk.put (Blk.put (Blk.put (HW.out) 0 _) 1 _) 2 _) 3 _) 4 _) 5 _).belowAll hb10
  have hbw10 : Below w.heap.size w w10 := below_after (by go_grown) (by simp [World.setCell]; omega) hb10
  have hz10 := hb10.size
  simp [World.setCell] at hz10
  clear hbw9
  clear hb10
  clear HD
  clear HW
  try clear cC0 cC1 cC2 cC3 cC4 cC5 cCf0 cCf1 cCf2 cCf3 cCf4 cCf5
  try clear cA0 cA1 cA2 cA3 cA4 cA5 cAf0 cAf1 cAf2 cAf3 cAf4 cAf5
  try clear cD0 cD1 cD2 cD3 cD4 cD5 cDf0 cDf1 cDf2 cDf3 cDf4 cDf5
  try clear cW0 cW1 cW2 cW3 cW4 cW5 cWf0 cWf1 cWf2 cWf3 cWf4 cWf5
  try clear cX0 cX1 cX2 cX3 cX4 cX5 cXf0 cXf1 cXf2 cXf3 cXf4 cXf5
  have hzD10 := hD.lt
  have cD0 := Blk.cell hD 0
  have cD1 := Blk.cell hD 1
  have cD2 := Blk.cell hD 2
  have cD3 := Blk.cell hD 3
  have cD4 := Blk.cell hD 4
  have cD5 := Blk.cell hD 5
  have cDf0 := Blk.free hD 0
  have cDf1 := Blk.free hD 1
  have cDf2 := Blk.free hD 2
  have cDf3 := Blk.free hD 3
  have cDf4 := Blk.free hD 4
  have cDf5 := Blk.free hD 5
  simp only [ckCells, List.getElem?_toArray, List.getElem?_cons_zero, List.getElem?_cons_succ] at cD0 cD1 cD2 cD3 cD4 cD5
  have HD := Lib.hid hD
  clear hD
  have hzW10 := hW.lt
  have cW0 := Blk.cell hW 0
  have cW1 := Blk.cell hW 1
  have cW2 := Blk.cell hW 2
  have cW3 := Blk.cell hW 3
  have cW4 := Blk.cell hW 4
  have cW5 := Blk.cell hW 5
  have cWf0 := Blk.free hW 0
  have cWf1 := Blk.free hW 1
  have cWf2 := Blk.free hW 2
  have cWf3 := Blk.free hW 3
  have cWf4 := Blk.free hW 4
  have cWf5 := Blk.free hW 5
  simp only [ckCells, List.getElem?_toArray, List.getElem?_cons_zero, List.getElem?_cons_succ] at cW0 cW1 cW2 cW3 cW4 cW5
  have HW := Lib.hid hW
  clear hW
  go_wp2_with fail
  go_ret
  exact ⟨rfl, by go_grown⟩
end Go.Proofs.Ytfpnileacpbocaa